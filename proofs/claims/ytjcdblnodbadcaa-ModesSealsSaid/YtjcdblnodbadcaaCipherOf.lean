/- The walk of modes.cipher. -/
import Derived.Test.YtjcdblnodbadcaaNew
import Derived.Test.YtjcdblnodbadcaaNewBad
import Derived.Test.YtjcdblnodbadcaaXor
import Derived.Test.YtjcdblnodbadcaaHeld
namespace Go.Proofs.Ytjcdblnodbadcaa
open Go.RowKit

theorem results_three {P : Program} {fn : Func} {t p u : Tmp} {ty : TypeId} (h : fn.results = #[.tmp t, .cell p ty, .tmp u]) (tmps : Array Value) (w : World) (g : Nat) (t' : TypeId) (cs : Array Value) (fr : Nat × Nat) (d : TypeDesc)
    (hp : tmps.getD p undef = .pointer (some ⟨g, 0, none⟩)) (hg : w.heap[g]? = some (.cells cs t' fr))
    (hu : P.underlying ty = some d) (hd : (match d with | .struct _ | .array _ _ => true | _ => false) = true) (hi : (P.info? ty).map (·.size) = some cs.size) :
    (results fn tmps).run P w = .ok (.tuple #[tmps.getD t undef, .agg cs, tmps.getD u undef]) w := by
  have hp' : tmps[p]?.getD undef = .pointer (some ⟨g, 0, none⟩) := by simpa using hp
  simp [results, h, hp', asAddr, run_loadVar_row w g t' ty cs fr d hg hu hd hi]
theorem zeros_bytes : (bytes (List.replicate 16 0)).toArray = zeros34 := rfl
set_option maxRecDepth 100000 in
set_option maxHeartbeats 3200000 in
theorem cipherOk_any (A B : Option Addr) (n c d : Nat) (l v : List UInt8) (w : World) (h : Sl w A n c l) (h' : Sl w B 16 d v) (hl : n = 16 ∨ n = 24 ∨ n = 32) :
    Calls Try.prog 56 #[.slice A n c, .slice B 16 d] w fun e w' => (∃ p kb kc, e = .returned (.tuple #[.pointer (some ⟨p, 0, none⟩), .agg (bytes v).toArray, .int .i64 0]) ∧ Ci w' p kb (n / 4 + 7) kc (Cip.keys l)) ∧ Below w.heap.size w w' := by
  have h1 := hide (h.alloc (.cells zeros34 34))
  have h2 := hide (h'.alloc (.cells zeros34 34))
  have hb0 := hide (Blk.new w 34 zeros34)
  have hbe : Below w.heap.size w (w.alloc (.cells zeros34 34)) := (Below.refl _ w).alloc (Nat.le_refl _) _
  have hlt : w.heap.size < (w.alloc (.cells zeros34 34)).heap.size := by simp
  have hlv := hide h'.1.symm
  have hrd0 := h'.reads
  clear h h'
  go_enter Try.func56, Try.ntmps56
  go_upto_region 1 with fail
  generalize (w.alloc (.cells zeros34 34)) = w1 at *
  go_wp2_with fail
  refine (new_any A n c l w1 h1.out hl).mono ?_
  rintro e w2 ⟨⟨p, kb, kc, rfl, ci⟩, b2⟩
  have CI := hide ci
  have hbe2 := hbe.trans (b2.mono hbe.size)
  have h3 := hide (h2.out.below b2)
  have hb2 := hide (Blk.below hb0.out b2 hlt)
  have hrd : Reads w2 w.heap.size 1 B 16 (bytes v) := (hrd0.below hbe2)
  obtain ⟨hpn, hkn⟩ := ci.ne_blk (by omega) hb2.out rfl
  have h3b := hide (Blk.drew hb2.out)
  clear h1 h2 hb0 hbe b2 ci hrd0
  obtain ⟨ad, rfl, _⟩ := h3.out.at_ (show 0 < 16 by omega)
  have hR := hide hrd
  clear hrd h3
  have hat : ∀ u : World, (Instr.arrayAt 34 (.slice (some ad) 16 d)).run Try.prog u = .ok (.pointer (some ad)) u := fun u => run_arrayAt u 34 5 16 _ 16 d Try.underlying34 (Nat.le_refl _)
  go_wp2_with fail
  refine wp_region_noPanic ?_
  refine wp_region_held_drew (S := fun u => Reads u w.heap.size 1 (some ad) 16 (bytes v)) (by kernel_rfl) (hR.out.drew) (fun hHeld => ?_)
  refine wpAnyH_take (i := 0) (v := ?v0) rfl (by kernel_rfl) (by kernel_rfl) (by kernel_rfl) (fun _ _ _ h => h) (Or.inl ⟨by rfl, fun u hSu => ?y0⟩) hHeld ?r0
  case y0 =>
      first
        | (go_simp; done)
        | (go_simp; with_reducible rfl)
  simp only [Act.put, List.getElem_toArray, List.getElem_cons_zero, List.setIfInBounds_toArray, List.set_cons_zero, List.set_cons_succ]
  refine wpAnyH_take (i := 1) (v := ?v1) rfl (by kernel_rfl) (by kernel_rfl) (by kernel_rfl) (fun _ _ _ h => h) (Or.inl ⟨by rfl, fun u hSu => ?y1⟩) hHeld ?r1
  case y1 =>
      first
        | (go_simp; done)
        | (go_simp; with_reducible rfl)
  simp only [Act.put, List.getElem_toArray, List.getElem_cons_succ, List.getElem_cons_zero, List.setIfInBounds_toArray, List.set_cons_zero, List.set_cons_succ]
  refine wpAnyH_take (i := 2) (v := ?v2) rfl (by kernel_rfl) (by kernel_rfl) (by kernel_rfl) (fun _ _ _ h => h) (Or.inl ⟨by rfl, fun u hSu => ?y2⟩) hHeld ?r2
  case y2 =>
      first
        | (go_simp; done)
        | (go_simp; with_reducible rfl)
  simp only [Act.put, List.getElem_toArray, List.getElem_cons_succ, List.getElem_cons_zero, List.setIfInBounds_toArray, List.set_cons_zero, List.set_cons_succ]
  refine wpAnyH_take (i := 3) (v := .agg (bytes v).toArray) rfl (by kernel_rfl) (by kernel_rfl) (by kernel_rfl) (fun _ _ _ h => h) (yieldsIf_load_at (by rfl) 34 (.tmp 24) rfl (ad) rfl _ (fun u hSu => load34_at hSu hlv.out)) hHeld ?_
  simp only [Act.put, List.getElem_toArray, List.getElem_cons_succ, List.getElem_cons_zero, List.setIfInBounds_toArray, List.set_cons_zero, List.set_cons_succ]
  refine wpAnyH_take (i := 4) (v := ?v4) rfl (by kernel_rfl) (by kernel_rfl) (by kernel_rfl) (fun _ _ _ h => h) (Or.inl ⟨by rfl, fun u hSu => ?y4⟩) hHeld ?r4
  case y4 =>
      first
        | (go_simp; done)
        | (go_simp; with_reducible rfl)
  simp only [Act.put, List.getElem_toArray, List.getElem_cons_succ, List.getElem_cons_zero, List.setIfInBounds_toArray, List.set_cons_zero, List.set_cons_succ]
  refine wpAnyH_ready (rs := [5]) (by kernel_rfl) (by simp) ?_
  refine AllReadyH.cons rfl (fun K hK => ?_) AllReadyH.nil
  rw [if_pos (by rfl)]
  refine wp_store34 (.tmp 5) (.tmp 25) rfl (w.heap.size) zeros34 v rfl rfl (h3b.out) hlv.out rfl ?_
  refine hK.out _ _ (Reads.setRow hHeld (Nat.le_refl _) _) (fun hHeld => ?_)
  simp only [Act.put, List.getElem_toArray, List.getElem_cons_succ, List.getElem_cons_zero]
  clear hK K
  refine wpAnyH_take (i := 6) (v := ?v6) rfl (by kernel_rfl) (by kernel_rfl) (by kernel_rfl) (fun _ _ _ h => h) (Or.inl ⟨by rfl, fun u hSu => ?y6⟩) hHeld ?r6
  case y6 =>
      first
        | (go_simp; done)
        | (go_simp; with_reducible rfl)
  simp only [Act.put, List.getElem_toArray, List.getElem_cons_succ, List.getElem_cons_zero, List.setIfInBounds_toArray, List.set_cons_zero, List.set_cons_succ]
  refine wpAnyH_done (by kernel_rfl) ?_ _
  refine NoPanic.normal ?_
  go_wp2_with fail
  refine bodyPost_ret (results_three rfl _ _ w.heap.size 34 (bytes v).toArray (0, 0) _ rfl (Blk.setRow h3b.out _) Try.underlying34 rfl (by rw [List.size_toArray]; exact size34' hlv.out)) rfl ?_
  exact ⟨⟨p, kb, kc, rfl, Ci.kept (w := w2.drew) ⟨CI.out.blk, CI.out.keys, CI.out.one, CI.out.few, CI.out.room⟩ (only_setRow _ _ _) (fun h => hpn (by injection h)) (fun h => hkn (by injection h))⟩, below_setRow hbe2.drew (Nat.le_refl _) _⟩
end Go.Proofs.Ytjcdblnodbadcaa
