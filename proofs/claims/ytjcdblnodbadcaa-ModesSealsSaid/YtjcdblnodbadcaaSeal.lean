/- The walks of the program's Seal and Open. -/
import Derived.Test.YtjcdblnodbadcaaMix
import Derived.Laws.CopyOwn
namespace Go.Proofs.Ytjcdblnodbadcaa
open Go.RowKit

theorem sixteen {b : List UInt8} (hb : b.length = 16) : ∃ b0 b1 b2 b3 b4 b5 b6 b7 b8 b9 b10 b11 b12 b13 b14 b15 : UInt8, b = [b0, b1, b2, b3, b4, b5, b6, b7, b8, b9, b10, b11, b12, b13, b14, b15] := by
  match b, hb with
  | [b0, b1, b2, b3, b4, b5, b6, b7, b8, b9, b10, b11, b12, b13, b14, b15], _ => exact ⟨_, _, _, _, _, _, _, _, _, _, _, _, _, _, _, _, rfl⟩
section
variable {w w' : World} {g p kb nr kc r : Nat} {s all : List UInt8}
theorem St.drewN (h : St w g p s r) (n : Nat) : St (w.drewN n) g p s r := h
theorem St.set_round (h : St w g p s r) (hs : s.length = 16) (q : Nat) {n : Int} (hn : n = (q : Int)) : St (w.setCell ⟨g, 17, none⟩ (.int .i64 n)) g p s q := by
  subst hn
  have := Blk.set_ h 17 (.int .i64 (q : Int))
  unfold St
  have e : (stCells p s r).setIfInBounds 17 (.int .i64 (q : Int)) = stCells p s q := by
    simp only [stCells, List.setIfInBounds_toArray, List.set_cons_succ]
    congr 2
    rw [List.set_append_right _ _ (by rw [bytes_length]; omega), bytes_length, hs]
    rfl
  rw [← e]
  exact this
theorem Ci.below (h : Ci w p kb nr kc all) (hb : Below w.heap.size w w') : Ci w' p kb nr kc all :=
  ⟨Blk.below h.blk hb h.lt, by obtain ⟨cur, hk, hc⟩ := h.keys; exact ⟨cur, Blk.below hk hb (Blk.lt hk), hc⟩, h.one, h.few, h.room⟩
end
/-- a whole array is stored into a block -/
theorem stored34' {s : List UInt8} (hs : s.length = 16) {w : World} {g : Nat} {old : Array Value} (hg : Blk w g 34 old) (ho : old.size = 16) :
    (storeCells ⟨g, 0, none⟩ (bytes s) 0).run Try.prog w = .ok () (w.setRow g (bytes s).toArray) := by
  have hi : (Try.prog.info? 34).map (·.size) = some (bytes s).toArray.size := by rw [List.size_toArray]; exact size34' hs
  have := run_storeVar_row (P := Try.prog) w g 34 34 old (bytes s).toArray hg hi (show old.size = (bytes s).toArray.size by rw [ho, List.size_toArray, bytes_length, hs]) (by rw [List.all_toArray]; exact List.all_eq_true.2 (bytes_one s))
  cases hq : Try.prog.info? 34 with
  | none => simp [hq] at hi
  | some i =>
    have hs : (bytes s).length = i.size := by simp [hq] at hi; omega
    simpa [storeVar, sizeOf, typeInfo, hq, Value.cells, hs] using this
/-- the state when j of a round's four steps are done -/
def stage (all : List UInt8) (nr r j : Nat) (s : List UInt8) : List UInt8 :=
  match j with
  | 0 => s
  | 1 => Cip.sub s
  | 2 => Cip.shift (Cip.sub s)
  | 3 => colsOr (r = nr - 1) Cip.mixM (Cip.shift (Cip.sub s))
  | _ => Cip.add all r (colsOr (r = nr - 1) Cip.mixM (Cip.shift (Cip.sub s)))
theorem colsOr_length (q : Prop) [Decidable q] (m s : List UInt8) (h : s.length = 16) : (colsOr q m s).length = 16 := by
  unfold colsOr
  split
  · exact h
  · exact Cip.columns_length _ _
theorem stage_length (all : List UInt8) (nr r j : Nat) {s : List UInt8} (h : s.length = 16) : (stage all nr r j s).length = 16 := by
  unfold stage
  split
  · exact h
  · exact Cip.sub_length _
  · exact Cip.shift_length _
  · exact colsOr_length _ _ _ (Cip.shift_length _)
  · exact Cip.add_length _ _ _
def roundOf (g : Nat) (w : World) : Nat := match w.cell? ⟨g, 17, none⟩ with | some (.int _ n) => n.toNat | _ => 0
theorem roundOf_st {w : World} {g p r : Nat} {s : List UInt8} (h : St w g p s r) (hs : s.length = 16) : roundOf g w = r := by
  unfold roundOf
  rw [h.round hs]
  simp
theorem sealGo_step (all : List UInt8) (nr r : Nat) (s : List UInt8) (h : r < nr) :
    Cip.sealGo all nr (nr - r) r s = Cip.sealGo all nr (nr - (r + 1)) (r + 1) (Cip.add all r (colsOr (r = nr - 1) Cip.mixM (Cip.shift (Cip.sub s)))) := by
  rw [show nr - r = (nr - (r + 1)) + 1 by omega]
  rfl
set_option maxRecDepth 100000 in
set_option maxHeartbeats 3200000 in
theorem seal_any (p kb nr kc : Nat) (b all : List UInt8) (w : World) (hb : b.length = 16) (hci : Ci w p kb nr kc all) :
    Calls Try.prog 26 #[.pointer (some ⟨p, 0, none⟩), .agg (bytes b).toArray] w fun e w' => e = .returned (.agg (bytes (Cip.sealB all nr b)).toArray) ∧ Below w.heap.size w w' := by
  have hn1 := hci.one
  have hnr := hci.few
  have hT : Hid (Cip.sealB all nr b = Cip.sealGo all nr (nr - 1) 1 (Cip.add all 0 b)) := hide rfl
  generalize Cip.sealB all nr b = T at hT
  obtain ⟨b0, b1, b2, b3, b4, b5, b6, b7, b8, b9, b10, b11, b12, b13, b14, b15, rfl⟩ := sixteen hb
  have HCI := hide hci
  have hcb : #[.int .u8 (I b0), .int .u8 (I b1), .int .u8 (I b2), .int .u8 (I b3), .int .u8 (I b4), .int .u8 (I b5), .int .u8 (I b6), .int .u8 (I b7), .int .u8 (I b8), .int .u8 (I b9), .int .u8 (I b10), .int .u8 (I b11), .int .u8 (I b12), .int .u8 (I b13), .int .u8 (I b14), .int .u8 (I b15)] = (bytes [b0, b1, b2, b3, b4, b5, b6, b7, b8, b9, b10, b11, b12, b13, b14, b15]).toArray := rfl
  rw [← hcb]
  have Hcb := hide hcb
  clear hci hcb
  go_enter Try.func26, Try.ntmps26
  go_wp2_with fail
  have hst : St (((w.alloc (.cells #[.int .u8 (I b0), .int .u8 (I b1), .int .u8 (I b2), .int .u8 (I b3), .int .u8 (I b4), .int .u8 (I b5), .int .u8 (I b6), .int .u8 (I b7), .int .u8 (I b8), .int .u8 (I b9), .int .u8 (I b10), .int .u8 (I b11), .int .u8 (I b12), .int .u8 (I b13), .int .u8 (I b14), .int .u8 (I b15)] 34)).alloc (.cells zeros34 34)).alloc (.cells #[.pointer (some ⟨p, 0, none⟩), .int .u8 (I b0), .int .u8 (I b1), .int .u8 (I b2), .int .u8 (I b3), .int .u8 (I b4), .int .u8 (I b5), .int .u8 (I b6), .int .u8 (I b7), .int .u8 (I b8), .int .u8 (I b9), .int .u8 (I b10), .int .u8 (I b11), .int .u8 (I b12), .int .u8 (I b13), .int .u8 (I b14), .int .u8 (I b15), .int .i64 0] 62)) (w.heap.size + 1 + 1) p [b0, b1, b2, b3, b4, b5, b6, b7, b8, b9, b10, b11, b12, b13, b14, b15] 0 := by
    have := Blk.new ((w.alloc (.cells #[.int .u8 (I b0), .int .u8 (I b1), .int .u8 (I b2), .int .u8 (I b3), .int .u8 (I b4), .int .u8 (I b5), .int .u8 (I b6), .int .u8 (I b7), .int .u8 (I b8), .int .u8 (I b9), .int .u8 (I b10), .int .u8 (I b11), .int .u8 (I b12), .int .u8 (I b13), .int .u8 (I b14), .int .u8 (I b15)] 34)).alloc (.cells zeros34 34)) 62 #[.pointer (some ⟨p, 0, none⟩), .int .u8 (I b0), .int .u8 (I b1), .int .u8 (I b2), .int .u8 (I b3), .int .u8 (I b4), .int .u8 (I b5), .int .u8 (I b6), .int .u8 (I b7), .int .u8 (I b8), .int .u8 (I b9), .int .u8 (I b10), .int .u8 (I b11), .int .u8 (I b12), .int .u8 (I b13), .int .u8 (I b14), .int .u8 (I b15), .int .i64 0]
    rw [show ((w.alloc (.cells #[.int .u8 (I b0), .int .u8 (I b1), .int .u8 (I b2), .int .u8 (I b3), .int .u8 (I b4), .int .u8 (I b5), .int .u8 (I b6), .int .u8 (I b7), .int .u8 (I b8), .int .u8 (I b9), .int .u8 (I b10), .int .u8 (I b11), .int .u8 (I b12), .int .u8 (I b13), .int .u8 (I b14), .int .u8 (I b15)] 34)).alloc (.cells zeros34 34)).heap.size = w.heap.size + 1 + 1 by simp] at this
    exact this
  have hbk : Blk (((w.alloc (.cells #[.int .u8 (I b0), .int .u8 (I b1), .int .u8 (I b2), .int .u8 (I b3), .int .u8 (I b4), .int .u8 (I b5), .int .u8 (I b6), .int .u8 (I b7), .int .u8 (I b8), .int .u8 (I b9), .int .u8 (I b10), .int .u8 (I b11), .int .u8 (I b12), .int .u8 (I b13), .int .u8 (I b14), .int .u8 (I b15)] 34)).alloc (.cells zeros34 34)).alloc (.cells #[.pointer (some ⟨p, 0, none⟩), .int .u8 (I b0), .int .u8 (I b1), .int .u8 (I b2), .int .u8 (I b3), .int .u8 (I b4), .int .u8 (I b5), .int .u8 (I b6), .int .u8 (I b7), .int .u8 (I b8), .int .u8 (I b9), .int .u8 (I b10), .int .u8 (I b11), .int .u8 (I b12), .int .u8 (I b13), .int .u8 (I b14), .int .u8 (I b15), .int .i64 0] 62)) (w.heap.size + 1) 34 zeros34 := by
    refine Blk.alloc ?_ _
    have := Blk.new (w.alloc (.cells #[.int .u8 (I b0), .int .u8 (I b1), .int .u8 (I b2), .int .u8 (I b3), .int .u8 (I b4), .int .u8 (I b5), .int .u8 (I b6), .int .u8 (I b7), .int .u8 (I b8), .int .u8 (I b9), .int .u8 (I b10), .int .u8 (I b11), .int .u8 (I b12), .int .u8 (I b13), .int .u8 (I b14), .int .u8 (I b15)] 34)) 34 zeros34
    rw [show (w.alloc (.cells #[.int .u8 (I b0), .int .u8 (I b1), .int .u8 (I b2), .int .u8 (I b3), .int .u8 (I b4), .int .u8 (I b5), .int .u8 (I b6), .int .u8 (I b7), .int .u8 (I b8), .int .u8 (I b9), .int .u8 (I b10), .int .u8 (I b11), .int .u8 (I b12), .int .u8 (I b13), .int .u8 (I b14), .int .u8 (I b15)] 34)).heap.size = w.heap.size + 1 by simp] at this
    exact this
  have hbe : Below w.heap.size w (((w.alloc (.cells #[.int .u8 (I b0), .int .u8 (I b1), .int .u8 (I b2), .int .u8 (I b3), .int .u8 (I b4), .int .u8 (I b5), .int .u8 (I b6), .int .u8 (I b7), .int .u8 (I b8), .int .u8 (I b9), .int .u8 (I b10), .int .u8 (I b11), .int .u8 (I b12), .int .u8 (I b13), .int .u8 (I b14), .int .u8 (I b15)] 34)).alloc (.cells zeros34 34)).alloc (.cells #[.pointer (some ⟨p, 0, none⟩), .int .u8 (I b0), .int .u8 (I b1), .int .u8 (I b2), .int .u8 (I b3), .int .u8 (I b4), .int .u8 (I b5), .int .u8 (I b6), .int .u8 (I b7), .int .u8 (I b8), .int .u8 (I b9), .int .u8 (I b10), .int .u8 (I b11), .int .u8 (I b12), .int .u8 (I b13), .int .u8 (I b14), .int .u8 (I b15), .int .i64 0] 62)) :=
    (((Below.refl w.heap.size w).alloc (Nat.le_refl _) _).alloc (by simp) _).alloc (by simp; omega) _
  have hlt1 := HCI.out.lt
  have hlt2 := HCI.out.ltk
  generalize (((w.alloc (.cells #[.int .u8 (I b0), .int .u8 (I b1), .int .u8 (I b2), .int .u8 (I b3), .int .u8 (I b4), .int .u8 (I b5), .int .u8 (I b6), .int .u8 (I b7), .int .u8 (I b8), .int .u8 (I b9), .int .u8 (I b10), .int .u8 (I b11), .int .u8 (I b12), .int .u8 (I b13), .int .u8 (I b14), .int .u8 (I b15)] 34)).alloc (.cells zeros34 34)).alloc (.cells #[.pointer (some ⟨p, 0, none⟩), .int .u8 (I b0), .int .u8 (I b1), .int .u8 (I b2), .int .u8 (I b3), .int .u8 (I b4), .int .u8 (I b5), .int .u8 (I b6), .int .u8 (I b7), .int .u8 (I b8), .int .u8 (I b9), .int .u8 (I b10), .int .u8 (I b11), .int .u8 (I b12), .int .u8 (I b13), .int .u8 (I b14), .int .u8 (I b15), .int .i64 0] 62)) = w3 at *
  have HST := hide hst
  have HBK := hide hbk
  clear hst hbk
  generalize (Value.agg #[.int .u8 (I b0), .int .u8 (I b1), .int .u8 (I b2), .int .u8 (I b3), .int .u8 (I b4), .int .u8 (I b5), .int .u8 (I b6), .int .u8 (I b7), .int .u8 (I b8), .int .u8 (I b9), .int .u8 (I b10), .int .u8 (I b11), .int .u8 (I b12), .int .u8 (I b13), .int .u8 (I b14), .int .u8 (I b15)]) = u9
  generalize (Value.agg #[.pointer (some ⟨p, 0, none⟩), .int .u8 (I b0), .int .u8 (I b1), .int .u8 (I b2), .int .u8 (I b3), .int .u8 (I b4), .int .u8 (I b5), .int .u8 (I b6), .int .u8 (I b7), .int .u8 (I b8), .int .u8 (I b9), .int .u8 (I b10), .int .u8 (I b11), .int .u8 (I b12), .int .u8 (I b13), .int .u8 (I b14), .int .u8 (I b15), .int .i64 0]) = u10
  generalize [b0, b1, b2, b3, b4, b5, b6, b7, b8, b9, b10, b11, b12, b13, b14, b15] = b at *
  clear Hcb b0 b1 b2 b3 b4 b5 b6 b7 b8 b9 b10 b11 b12 b13 b14 b15
  have hg : w.heap.size ≤ w.heap.size + 1 + 1 := by omega
  have hg1 : w.heap.size + 1 ≠ w.heap.size + 1 + 1 := by omega
  refine (add_any (w.heap.size + 1 + 1) p kb nr kc 0 b all w3 HST.out hb (HCI.out.below hbe) hn1 (by omega) (by omega)).mono ?_
  rintro e w1 ⟨rfl, h1, h2⟩
  have hbe1 := hbe.grown h2 (Blk.lt HST.out |> fun h => by omega) (fun k hk => by injection hk with hk; omega)
  have hbk1 := hide (Blk.grown HBK.out h2 (by simp))
  clear h2 hbe HBK HST
  generalize hs0 : Cip.add all 0 b = s0 at h1 hT
  have hl0 : s0.length = 16 := by rw [← hs0]; exact Cip.add_length _ _ _
  have H1 := hide h1
  clear hs0 h1
  have z1 : w1.frozen? ⟨w.heap.size + 1 + 1, 17, none⟩ = false := Blk.frozen H1.out _
  have z2 := H1.out.round hl0
  go_wp2_with fail
  go_loopw [7] (fun _ wr => ∃ (r : Nat) (s : List UInt8), 1 ≤ r ∧ r ≤ nr ∧ s.length = 16 ∧ Hid (T = Cip.sealGo all nr (nr - r) r s) ∧ Hid (St wr (w.heap.size + 1 + 1) p s r) ∧ Hid (Blk wr (w.heap.size + 1) 34 zeros34) ∧ Below w.heap.size w wr) (fun _ wr => nr - roundOf (w.heap.size + 1 + 1) wr)
  case atStart => exact ⟨1, s0, by omega, by omega, hl0, hT, hide (H1.out.set_round hl0 1 rfl), hide (Blk.far hbk1.out hg1 _), hbe1.setCell hg _⟩
  case round =>
    clear hbe1 hbk1 hT H1 hl0 z1 z2
    obtain ⟨r, s, hr1, hr2, hs, hT, hst, hbk, hbe⟩ := hrel
    have f0 := hst.out.round hs
    have f1 := (HCI.out.below hbe).slice
    by_cases hlt : r < nr
    · have hro := roundOf_st hst.out hs
      have hgw := Blk.lt hst.out
      go_wp2_with fail
      go_quiet (fail)
      go_wp2_with fail
      have hfb := hide (Blk.new (wr.drewN nq) 63 #[.func (.func 46) #[] #[], .func (.func 47) #[] #[], .func (.func 48) #[] #[], .func (.func 45) #[] #[]])
      rw [show (wr.drewN nq).heap.size = wr.heap.size from rfl] at hfb
      have hst' : Hid (St ((wr.drewN nq).alloc (.cells #[.func (.func 46) #[] #[], .func (.func 47) #[] #[], .func (.func 48) #[] #[], .func (.func 45) #[] #[]] 63)) (w.heap.size + 1 + 1) p (stage all nr r 0 s) r) := hide (St.alloc (Blk.drewN hst.out nq) _)
      have hbk' := hide (Blk.alloc (Blk.drewN hbk.out nq) (.cells #[.func (.func 46) #[] #[], .func (.func 47) #[] #[], .func (.func 48) #[] #[], .func (.func 45) #[] #[]] 63))
      have hbe' := (Below.drewN hbe nq).alloc (by have := hbe.size; exact this) (.cells #[.func (.func 46) #[] #[], .func (.func 47) #[] #[], .func (.func 48) #[] #[], .func (.func 45) #[] #[]] 63)
      clear hst hbk hbe f0 f1
      generalize hfs : wr.heap.size = fb at *
      have hfg : fb ≠ w.heap.size + 1 + 1 := by omega
      clear hfs hgw
      go_loopw [36] (fun i wi => ∃ j : Nat, j ≤ 4 ∧ i = .int .i64 j ∧ Hid (St wi (w.heap.size + 1 + 1) p (stage all nr r j s) r) ∧ Hid (Blk wi (w.heap.size + 1) 34 zeros34) ∧ Hid (Blk wi fb 63 #[.func (.func 46) #[] #[], .func (.func 47) #[] #[], .func (.func 48) #[] #[], .func (.func 45) #[] #[]]) ∧ Below w.heap.size w wi) (fun i _ => 4 - (intOf i).toNat)
      case atStart => exact ⟨0, by omega, rfl, hst', hbk', hfb, hbe'⟩
      case round =>
        clear hst' hbk' hfb hbe'
        obtain ⟨j, hj, rfl, hst, hbk, hfb, hbe⟩ := hrel
        have hls := stage_length all nr r j hs
        by_cases hlj : j < 4
        · have hf0 : wr.cell? ⟨fb, 0, none⟩ = some (.func (.func 46) #[] #[]) := (Blk.cell hfb.out 0).trans rfl
          have hf1 : wr.cell? ⟨fb, 1, none⟩ = some (.func (.func 47) #[] #[]) := (Blk.cell hfb.out 1).trans rfl
          have hf2 : wr.cell? ⟨fb, 2, none⟩ = some (.func (.func 48) #[] #[]) := (Blk.cell hfb.out 2).trans rfl
          have hf3 : wr.cell? ⟨fb, 3, none⟩ = some (.func (.func 45) #[] #[]) := (Blk.cell hfb.out 3).trans rfl
          have HCI' := hide (HCI.out.below hbe)
          have hj4 : j = 0 ∨ j = 1 ∨ j = 2 ∨ j = 3 := by omega
          rcases hj4 with rfl | rfl | rfl | rfl
          · go_wp2_with fail
            refine (sub_any (w.heap.size + 1 + 1) p kb nr kc r _ all wr hst.out hls HCI'.out (by omega) (by omega)).mono ?_
            rintro e w' ⟨rfl, h1, h2⟩
            go_wp2
            go_roundw
            case rel => exact ⟨1, by omega, by go_num, hide h1, hide (Blk.grown hbk.out h2 (by simp)), hide (Blk.grown hfb.out h2 (by simpa using hfg)), hbe.grown h2 (by have := Blk.lt hst.out; omega) (fun k hk => by injection hk with hk; omega)⟩
            case measure => simp only [intOf]; omega
          · go_wp2_with fail
            refine (shift_any (w.heap.size + 1 + 1) p r _ wr hst.out hls).mono ?_
            rintro e w' ⟨rfl, h1, h2⟩
            go_wp2
            go_roundw
            case rel => exact ⟨2, by omega, by go_num, hide h1, hide (Blk.grown hbk.out h2 (by simp)), hide (Blk.grown hfb.out h2 (by simpa using hfg)), hbe.grown h2 (by have := Blk.lt hst.out; omega) (fun k hk => by injection hk with hk; omega)⟩
            case measure => simp only [intOf]; omega
          · go_wp2_with fail
            refine (mix_any (w.heap.size + 1 + 1) p kb nr kc r _ all wr hst.out hls HCI'.out).mono ?_
            rintro e w' ⟨rfl, h1, h2⟩
            go_wp2
            go_roundw
            case rel => exact ⟨3, by omega, by go_num, hide h1, hide (Blk.grown hbk.out h2 (by simp)), hide (Blk.grown hfb.out h2 (by simpa using hfg)), hbe.grown h2 (by have := Blk.lt hst.out; omega) (fun k hk => by injection hk with hk; omega)⟩
            case measure => simp only [intOf]; omega
          · go_wp2_with fail
            refine (add_any (w.heap.size + 1 + 1) p kb nr kc r _ all wr hst.out hls HCI'.out hlt (by omega) (by omega)).mono ?_
            rintro e w' ⟨rfl, h1, h2⟩
            go_wp2
            go_roundw
            case rel => exact ⟨4, by omega, by go_num, hide h1, hide (Blk.grown hbk.out h2 (by simp)), hide (Blk.grown hfb.out h2 (by simpa using hfg)), hbe.grown h2 (by have := Blk.lt hst.out; omega) (fun k hk => by injection hk with hk; omega)⟩
            case measure => simp only [intOf]; omega
        · obtain rfl : j = 4 := by omega
          have z3 : wr.frozen? ⟨w.heap.size + 1 + 1, 17, none⟩ = false := Blk.frozen hst.out _
          have z4 := hst.out.round hls
          have hst2 := hst.out.set_round hls (r + 1) (n := (r : Int) + 1) (by omega)
          go_wp2_with fail
          go_roundw
          case rel => exact ⟨r + 1, stage all nr r 4 s, by omega, by omega, hls, hide (hT.out.trans (sealGo_step all nr r s hlt)), hide hst2, hide (Blk.far hbk.out hg1 _), hbe.setCell hg _⟩
          case measure =>
            show nr - roundOf _ _ < nr - roundOf _ _
            rw [hro, roundOf_st hst2 hls]
            omega
    · obtain rfl : r = nr := by omega
      have hlen : (bytes s).length = 16 := by rw [bytes_length, hs]
      go_wp2_with fail
      go_quiet (fail)
      have hstored := stored34' hs (Blk.drewN hbk.out nq) rfl
      have hrange := hide (St.range (St.drewN hst.out nq) hs)
      have h34 := hide (size34' hs)
      go_wp2_with (with_reducible refine wpList_load_mid rfl 34 (.tmp 46) rfl (w.heap.size + 1 + 1) 1 rfl (bytes s) _ hrange.out Try.underlying34 rfl h34.out ?_)
      have hTs : T = s := by
        rw [hT.out, Nat.sub_self]
        rfl
      refine bodyPost_ret (results_cell_row rfl _ _ (w.heap.size + 1) 34 (bytes s).toArray (0, 0) _ rfl (setRow_heap _ _ _ _ _ _ (Blk.drewN hbk.out nq)) Try.underlying34 rfl (by rw [List.size_toArray]; exact h34.out)) rfl ?_
      rw [hTs]
      exact ⟨rfl, below_setRow (Below.drewN hbe nq) (by omega) _⟩
end Go.Proofs.Ytjcdblnodbadcaa
