/- The walk of the reference's boxes. -/
import Derived.Test.YtjcdblnodbadcaaRefMix
import Derived.Test.YtjcdblnodbadcaaNewPlain
namespace Go.Proofs.Ytjcdblnodbadcaa
open Go.RowKit

theorem zero57 : Try.zeroCells57 = (bytes (List.replicate 256 0)).toArray := by kernel_rfl
theorem size57 : (Try.prog.info? 57).map (·.size) = some 256 := by kernel_rfl
theorem load57_at {w : World} {g : Nat} {t : TypeId} {C : Array Value} (h : Blk w g t C) (hs : C.size = 256) : (loadVar 57 ⟨g, 0, none⟩).run Try.prog w = .ok (.agg C) w :=
  run_loadVar_row w g t 57 C (0, 0) _ h Try.underlying57 rfl (by rw [hs]; exact size57)
theorem wp_store57 {op : Oper} {a : Act} {w : World} {K : Act → World → Prop} {Q : Exit → Act → World → Prop} (x y : Operand) (ho : op.op = .store 57 x y)
    (g : Nat) (old C : Array Value) (hx : a.eval x = .pointer (some ⟨g, 0, none⟩)) (hy : a.eval y = .agg C)
    {t : TypeId} (hg : Blk w g t old) (hs : C.size = 256) (hold : old.size = 256) (h1 : C.all (·.oneCell') = true) (h : K (a.put op.dst undef) (w.setRow g C)) : op.wp Try.prog a w K Q := by
  unfold Oper.wp execOp
  simp only [ho, hx, hy, Instr.storeAt, Instr.sureAddr, Sem.run_bind, Sem.run_pure, Result.andThen_ok,
    run_storeVar_row w g t 57 old C hg (by rw [hs]; exact size57) (by rw [hold, hs]) h1]
  exact h
/-- the boxes up to k, in arrays of their own -/
def Two (c1 c2 : Array Value) (k : Nat) : Prop :=
  c1.size = 256 ∧ c2.size = 256 ∧ ∀ x : UInt8, x.toNat < k → c1[x.toNat]? = some (.int .u8 (I (Fld.sb x))) ∧ c2[(Fld.sb x).toNat]? = some (.int .u8 (I x))
theorem Two.step {c1 c2 : Array Value} {k : Nat} (h : Two c1 c2 k) (hk : k < 256) :
    Two (c1.setIfInBounds k (.int .u8 (I (Fld.sb (UInt8.ofNat k))))) (c2.setIfInBounds (I (Fld.sb (UInt8.ofNat k))).toNat (.int .u8 (k : Int))) (k + 1) := by
  obtain ⟨h1, h2, h3⟩ := h
  have e1 : (I (Fld.sb (UInt8.ofNat k))).toNat = (Fld.sb (UInt8.ofNat k)).toNat := rfl
  have e2 : (k : Int) = I (UInt8.ofNat k) := I_ofNat hk
  have e3 : (UInt8.ofNat k).toNat = k := by simp; omega
  rw [e1, e2]
  refine ⟨by simpa using h1, by simpa using h2, fun x hx => ?_⟩
  have hb := x.toNat_lt
  have hb2 := (Fld.sb x).toNat_lt
  have hb3 := (Fld.sb (UInt8.ofNat k)).toNat_lt
  by_cases e : x = UInt8.ofNat k
  · subst e
    rw [e3]
    exact ⟨by rw [Array.getElem?_setIfInBounds_self_of_lt (by omega)], by rw [Array.getElem?_setIfInBounds_self_of_lt (by omega)]⟩
  · have hne : x.toNat ≠ k := fun he => e (by rw [← he]; simp)
    obtain ⟨g1, g2⟩ := h3 x (by omega)
    have hne2 : (Fld.sb x).toNat ≠ (Fld.sb (UInt8.ofNat k)).toNat := fun he => e (by
      have := UInt8.toNat_inj.1 he
      rw [← Fld.ub_sb x, this, Fld.ub_sb])
    refine ⟨?_, ?_⟩
    · rw [Array.getElem?_setIfInBounds_ne (by omega)]
      exact g1
    · rw [Array.getElem?_setIfInBounds_ne (by omega)]
      exact g2
theorem Two.stop {c1 c2 : Array Value} (h : Two c1 c2 256) : c1 = (bytes Fld.tab).toArray ∧ c2 = (bytes Fld.untab).toArray := by
  obtain ⟨h1, h2, h3⟩ := h
  refine ⟨?_, ?_⟩
  · apply Array.ext_getElem?
    intro i
    by_cases hi : i < 256
    · have := (h3 (UInt8.ofNat i) (UInt8.toNat_lt _)).1
      rw [show (UInt8.ofNat i).toNat = i by simp; omega] at this
      rw [this, List.getElem?_toArray, bytes_get (by rw [tab_len]; omega)]
      show some (Value.int .u8 (I (Fld.tab.getD (UInt8.ofNat i).toNat 0))) = _
      rw [show (UInt8.ofNat i).toNat = i by simp; omega]
    · rw [Array.getElem?_eq_none (by omega), Array.getElem?_eq_none (by rw [List.size_toArray, bytes_length, tab_len]; omega)]
  · apply Array.ext_getElem?
    intro i
    by_cases hi : i < 256
    · have := (h3 (Fld.ub (UInt8.ofNat i)) (UInt8.toNat_lt _)).2
      rw [Fld.sb_ub, show (UInt8.ofNat i).toNat = i by simp; omega] at this
      rw [this, List.getElem?_toArray, bytes_get (by rw [untab_len]; omega)]
      show some (Value.int .u8 (I (Fld.untab.getD (UInt8.ofNat i).toNat 0))) = _
      rw [show (UInt8.ofNat i).toNat = i by simp; omega]
    · rw [Array.getElem?_eq_none (by omega), Array.getElem?_eq_none (by rw [List.size_toArray, bytes_length, untab_len]; omega)]
theorem ref_nat {k : Nat} (h : k < 256) (w : World) : Calls Try.prog 17 #[.int .u8 (k : Int)] w fun e w' => e = .returned (.int .u8 (I (Fld.sb (UInt8.ofNat k)))) ∧ w = w' := by
  rw [I_ofNat h, ← Fld.box_eq, ← Fld.refBox_eq]
  exact refBox_any _ _
theorem results_two57 {P : Program} {fn : Func} {p q : Tmp} {ty : TypeId} (h : fn.results = #[.cell p ty, .cell q ty]) (tmps : Array Value) (w : World) (g g' : Nat) (t t' : TypeId) (cs cs' : Array Value) (fr fr' : Nat × Nat) (d : TypeDesc)
    (hp : tmps.getD p undef = .pointer (some ⟨g, 0, none⟩)) (hg : w.heap[g]? = some (.cells cs t fr))
    (hq : tmps.getD q undef = .pointer (some ⟨g', 0, none⟩)) (hg' : w.heap[g']? = some (.cells cs' t' fr'))
    (hu : P.underlying ty = some d) (hd : (match d with | .struct _ | .array _ _ => true | _ => false) = true) (hi : (P.info? ty).map (·.size) = some cs.size) (hi' : (P.info? ty).map (·.size) = some cs'.size) :
    (results fn tmps).run P w = .ok (.tuple #[.agg cs, .agg cs']) w := by
  have hp' : tmps[p]?.getD undef = .pointer (some ⟨g, 0, none⟩) := by simpa using hp
  have hq' : tmps[q]?.getD undef = .pointer (some ⟨g', 0, none⟩) := by simpa using hq
  simp [results, h, hp', hq', asAddr, run_loadVar_row w g t ty cs fr d hg hu hd hi, run_loadVar_row w g' t' ty cs' fr' d hg' hu hd hi']
set_option maxRecDepth 100000 in
set_option maxHeartbeats 1600000 in
theorem boxes_any (w : World) : Calls Try.prog 52 #[] w fun e w' => e = .returned (.tuple #[.agg (bytes Fld.tab).toArray, .agg (bytes Fld.untab).toArray]) ∧ Below w.heap.size w w' := by
  obtain ⟨C, hC⟩ : ∃ C : Array Value, C = (bytes (List.replicate 256 0)).toArray := ⟨_, rfl⟩
  have hz := zero57
  rw [← hC] at hz
  have hCs : C.size = 256 := by rw [hC]; kernel_rfl
  have h0 : Hid (Two C C 0) := hide ⟨hCs, hCs, fun x hx => by omega⟩
  clear hC
  have h1 : Hid (Blk ((w.alloc (.cells C 57)).alloc (.cells C 57)) w.heap.size 57 C) := hide (Blk.alloc (Blk.new _ _ _) _)
  have h2 : Hid (Blk ((w.alloc (.cells C 57)).alloc (.cells C 57)) (w.heap.size + 1) 57 C) := by
    have := Blk.new (w.alloc (.cells C 57)) 57 C
    rw [World.size_alloc] at this
    exact hide this
  have hbe : Below w.heap.size w ((w.alloc (.cells C 57)).alloc (.cells C 57)) := ((Below.refl _ w).alloc (Nat.le_refl _) _).alloc (by simp) _
  have q01 : w.heap.size ≠ w.heap.size + 1 := by omega
  have q10 : w.heap.size + 1 ≠ w.heap.size := by omega
  clear hCs
  go_enter Try.func52, Try.ntmps52
  go_upto_region 1 with fail
  generalize ((w.alloc (.cells C 57)).alloc (.cells C 57)) = w1 at *
  clear hz
  go_wp2_with fail
  go_loopw [2] (fun i wr => ∃ (k : Nat) (c1 c2 : Array Value), k ≤ 256 ∧ i = .int .i64 k ∧ Hid (Two c1 c2 k) ∧ Hid (Blk wr w.heap.size 57 c1) ∧ Hid (Blk wr (w.heap.size + 1) 57 c2) ∧ Below w.heap.size w wr) (fun i _ => 256 - (intOf i).toNat)
  case atStart => exact ⟨0, C, C, by omega, rfl, h0, h1, h2, hbe⟩
  case round =>
    clear h0 h1 h2 hbe
    obtain ⟨k, c1, c2, hk, rfl, htab, h1, h2, hbe⟩ := hrel
    by_cases hlt : k < 256
    · have htab' := hide (htab.out.step hlt)
      have hs1 := htab.out.1
      have hs2 := htab.out.2.1
      go_upto_region 5 with (go_at_call 17; refine (ref_nat hlt wr).mono ?_; rintro e w' ⟨rfl, rfl⟩)
      generalize Fld.sb (UInt8.ofNat k) = y at htab' ⊢
      have hb1 : (0 : Int) ≤ I y := (I_bd y).1
      have hb2 : I y < (256 : Int) := by have := (I_bd y).2; omega
      obtain ⟨o1, f1⟩ := cell_of_size h1.out (show k < c1.size by omega)
      obtain ⟨o2, f2⟩ := cell_of_size h2.out (show (I y).toNat < c2.size by omega)
      have z1 : wr.frozen? ⟨w.heap.size, k, none⟩ = false := Blk.frozen h1.out _
      have z2 : wr.frozen? ⟨w.heap.size + 1, (I y).toNat, none⟩ = false := Blk.frozen h2.out _
      clear htab
      go_wp2_with fail
      go_roundw
      case rel => exact ⟨k + 1, _, _, by omega, by go_num, htab', hide (Blk.far (Blk.set_ h1.out k _) q01 _), hide (Blk.set_ (Blk.far h2.out q10 _) _ _), (hbe.setCell (Nat.le_refl _) _).setCell (by simp) _⟩
      case measure => simp only [intOf]; omega
    · obtain rfl : k = 256 := by omega
      have e := htab.out.stop
      have hL1 := hide htab.out.1
      have hL2 := hide htab.out.2.1
      clear htab
      obtain ⟨e1, e2⟩ := e
      have hT1 : Hid (c1.all (·.oneCell') = true) := hide (by rw [e1, List.all_toArray]; exact List.all_eq_true.2 (bytes_one _))
      have hT2 : Hid (c2.all (·.oneCell') = true) := hide (by rw [e2, List.all_toArray]; exact List.all_eq_true.2 (bytes_one _))
      have E1 := hide e1
      have E2 := hide e2
      clear e1 e2
      go_upto_region 7 with fail
      refine wp_region_noPanic ?_
      refine wp_region_held_drew (S := fun u => Blk u w.heap.size 57 c1 ∧ Blk u (w.heap.size + 1) 57 c2 ∧ Below w.heap.size w u) (by kernel_rfl) (⟨Blk.drew h1.out, Blk.drew h2.out, hbe.drew⟩) (fun hHeld => ?_)
      refine wpAnyH_take (i := 0) (v := .agg c1) rfl (by kernel_rfl) (by kernel_rfl) (by kernel_rfl) (fun _ _ _ h => h) (yieldsIf_load_at (by rfl) 57 (.tmp 0) rfl (⟨w.heap.size, 0, none⟩) rfl _ (fun u hSu => load57_at hSu.1 hL1.out)) hHeld ?_
      simp only [Act.put, List.getElem_toArray, List.getElem_cons_zero, List.setIfInBounds_toArray, List.set_cons_zero, List.set_cons_succ]
      refine wpAnyH_take (i := 1) (v := .agg c2) rfl (by kernel_rfl) (by kernel_rfl) (by kernel_rfl) (fun _ _ _ h => h) (yieldsIf_load_at (by rfl) 57 (.tmp 1) rfl (⟨w.heap.size + 1, 0, none⟩) rfl _ (fun u hSu => load57_at hSu.2.1 hL2.out)) hHeld ?_
      simp only [Act.put, List.getElem_toArray, List.getElem_cons_succ, List.getElem_cons_zero, List.setIfInBounds_toArray, List.set_cons_zero, List.set_cons_succ]
      refine wpAnyH_ready (rs := [2]) (by kernel_rfl) (by simp) ?_
      refine AllReadyH.cons rfl (fun K hK => ?_) AllReadyH.nil
      rw [if_pos (by rfl)]
      refine wp_store57 (.tmp 0) (.tmp 18) rfl (w.heap.size) c1 c1 rfl rfl (hHeld.1) hL1.out hL1.out hT1.out ?_
      refine hK.out _ _ (⟨Blk.setRow hHeld.1 _, Blk.setRow_far hHeld.2.1 (by omega) _, below_setRow hHeld.2.2 (by omega) _⟩) (fun hHeld => ?_)
      simp only [Act.put, List.getElem_toArray, List.getElem_cons_succ, List.getElem_cons_zero]
      clear hK K
      refine wpAnyH_ready (rs := [3]) (by kernel_rfl) (by simp) ?_
      refine AllReadyH.cons rfl (fun K hK => ?_) AllReadyH.nil
      rw [if_pos (by rfl)]
      refine wp_store57 (.tmp 1) (.tmp 19) rfl (w.heap.size + 1) c2 c2 rfl rfl (hHeld.2.1) hL2.out hL2.out hT2.out ?_
      refine hK.out _ _ (⟨Blk.setRow_far hHeld.1 (by omega) _, Blk.setRow hHeld.2.1 _, below_setRow hHeld.2.2 (by omega) _⟩) (fun hHeld => ?_)
      simp only [Act.put, List.getElem_toArray, List.getElem_cons_succ, List.getElem_cons_zero]
      clear hK K
      refine wpAnyH_done (by kernel_rfl) ?_ _
      refine NoPanic.normal ?_
      go_wp2_with fail
      refine bodyPost_ret (results_two57 rfl _ _ w.heap.size (w.heap.size + 1) 57 57 c1 c2 (0, 0) (0, 0) _ rfl hHeld.1 rfl hHeld.2.1 Try.underlying57 rfl (by rw [hL1.out]; exact size57) (by rw [hL2.out]; exact size57)) rfl ?_
      refine ⟨?_, hHeld.2.2⟩
      rw [E1.out, E2.out]
end Go.Proofs.Ytjcdblnodbadcaa
