/- The walk of the program's Open. -/
import Derived.Test.YtjcdblnodbadcaaSeal
import Derived.Deep.Cut
namespace Go.Proofs.Ytjcdblnodbadcaa
open Go.RowKit

/-- the state when j of a round's four steps are done -/
def back (all : List UInt8) (nr r j : Nat) (s : List UInt8) : List UInt8 :=
  match j with
  | 0 => s
  | 1 => Cip.add all r s
  | 2 => colsOr (r = nr - 1) Cip.unM (Cip.add all r s)
  | 3 => Cip.unshift (colsOr (r = nr - 1) Cip.unM (Cip.add all r s))
  | _ => Cip.unsub (Cip.unshift (colsOr (r = nr - 1) Cip.unM (Cip.add all r s)))
theorem back_length (all : List UInt8) (nr r j : Nat) {s : List UInt8} (h : s.length = 16) : (back all nr r j s).length = 16 := by
  unfold back
  split
  · exact h
  · exact Cip.add_length _ _ _
  · exact colsOr_length _ _ _ (Cip.add_length _ _ _)
  · exact Cip.unshift_length _
  · exact Cip.unsub_length _
theorem openGo_step (all : List UInt8) (nr r : Nat) (s : List UInt8) : Cip.openGo all nr (r + 1) s = Cip.openGo all nr r (back all nr (r + 1) 4 s) := rfl
set_option maxRecDepth 100000 in
set_option maxHeartbeats 3200000 in
theorem open_any (p kb nr kc : Nat) (b all : List UInt8) (w : World) (hb : b.length = 16) (hci : Ci w p kb nr kc all) :
    Calls Try.prog 27 #[.pointer (some ⟨p, 0, none⟩), .agg (bytes b).toArray] w fun e w' => e = .returned (.agg (bytes (Cip.openB all nr b)).toArray) ∧ Below w.heap.size w w' := by
  have hn1 := hci.one
  have hnr := hci.few
  have hT : Hid (Cip.openB all nr b = Cip.openGo all nr (nr - 1) b) := hide rfl
  generalize Cip.openB all nr b = T at hT
  obtain ⟨b0, b1, b2, b3, b4, b5, b6, b7, b8, b9, b10, b11, b12, b13, b14, b15, rfl⟩ := sixteen hb
  have HCI := hide hci
  have hcb : #[.int .u8 (I b0), .int .u8 (I b1), .int .u8 (I b2), .int .u8 (I b3), .int .u8 (I b4), .int .u8 (I b5), .int .u8 (I b6), .int .u8 (I b7), .int .u8 (I b8), .int .u8 (I b9), .int .u8 (I b10), .int .u8 (I b11), .int .u8 (I b12), .int .u8 (I b13), .int .u8 (I b14), .int .u8 (I b15)] = (bytes [b0, b1, b2, b3, b4, b5, b6, b7, b8, b9, b10, b11, b12, b13, b14, b15]).toArray := rfl
  rw [← hcb]
  have Hcb := hide hcb
  clear hci hcb
  go_enter Try.func27, Try.ntmps27
  go_upto_region 2 with fail
  have hst : St (((w.alloc (.cells #[.int .u8 (I b0), .int .u8 (I b1), .int .u8 (I b2), .int .u8 (I b3), .int .u8 (I b4), .int .u8 (I b5), .int .u8 (I b6), .int .u8 (I b7), .int .u8 (I b8), .int .u8 (I b9), .int .u8 (I b10), .int .u8 (I b11), .int .u8 (I b12), .int .u8 (I b13), .int .u8 (I b14), .int .u8 (I b15)] 34)).alloc (.cells zeros34 34)).alloc (.cells #[.pointer (some ⟨p, 0, none⟩), .int .u8 (I b0), .int .u8 (I b1), .int .u8 (I b2), .int .u8 (I b3), .int .u8 (I b4), .int .u8 (I b5), .int .u8 (I b6), .int .u8 (I b7), .int .u8 (I b8), .int .u8 (I b9), .int .u8 (I b10), .int .u8 (I b11), .int .u8 (I b12), .int .u8 (I b13), .int .u8 (I b14), .int .u8 (I b15), .int .i64 0] 62)) (w.heap.size + 1 + 1) p [b0, b1, b2, b3, b4, b5, b6, b7, b8, b9, b10, b11, b12, b13, b14, b15] 0 := by
    have := Blk.new ((w.alloc (.cells #[.int .u8 (I b0), .int .u8 (I b1), .int .u8 (I b2), .int .u8 (I b3), .int .u8 (I b4), .int .u8 (I b5), .int .u8 (I b6), .int .u8 (I b7), .int .u8 (I b8), .int .u8 (I b9), .int .u8 (I b10), .int .u8 (I b11), .int .u8 (I b12), .int .u8 (I b13), .int .u8 (I b14), .int .u8 (I b15)] 34)).alloc (.cells zeros34 34)) 62 #[.pointer (some ⟨p, 0, none⟩), .int .u8 (I b0), .int .u8 (I b1), .int .u8 (I b2), .int .u8 (I b3), .int .u8 (I b4), .int .u8 (I b5), .int .u8 (I b6), .int .u8 (I b7), .int .u8 (I b8), .int .u8 (I b9), .int .u8 (I b10), .int .u8 (I b11), .int .u8 (I b12), .int .u8 (I b13), .int .u8 (I b14), .int .u8 (I b15), .int .i64 0]
    rw [show ((w.alloc (.cells #[.int .u8 (I b0), .int .u8 (I b1), .int .u8 (I b2), .int .u8 (I b3), .int .u8 (I b4), .int .u8 (I b5), .int .u8 (I b6), .int .u8 (I b7), .int .u8 (I b8), .int .u8 (I b9), .int .u8 (I b10), .int .u8 (I b11), .int .u8 (I b12), .int .u8 (I b13), .int .u8 (I b14), .int .u8 (I b15)] 34)).alloc (.cells zeros34 34)).heap.size = w.heap.size + 1 + 1 by simp] at this
    exact this
  have hbk : Blk (((w.alloc (.cells #[.int .u8 (I b0), .int .u8 (I b1), .int .u8 (I b2), .int .u8 (I b3), .int .u8 (I b4), .int .u8 (I b5), .int .u8 (I b6), .int .u8 (I b7), .int .u8 (I b8), .int .u8 (I b9), .int .u8 (I b10), .int .u8 (I b11), .int .u8 (I b12), .int .u8 (I b13), .int .u8 (I b14), .int .u8 (I b15)] 34)).alloc (.cells zeros34 34)).alloc (.cells #[.pointer (some ⟨p, 0, none⟩), .int .u8 (I b0), .int .u8 (I b1), .int .u8 (I b2), .int .u8 (I b3), .int .u8 (I b4), .int .u8 (I b5), .int .u8 (I b6), .int .u8 (I b7), .int .u8 (I b8), .int .u8 (I b9), .int .u8 (I b10), .int .u8 (I b11), .int .u8 (I b12), .int .u8 (I b13), .int .u8 (I b14), .int .u8 (I b15), .int .i64 0] 62)) (w.heap.size + 1) 34 zeros34 := by
    refine Blk.alloc ?_ _
    have := Blk.new (w.alloc (.cells #[.int .u8 (I b0), .int .u8 (I b1), .int .u8 (I b2), .int .u8 (I b3), .int .u8 (I b4), .int .u8 (I b5), .int .u8 (I b6), .int .u8 (I b7), .int .u8 (I b8), .int .u8 (I b9), .int .u8 (I b10), .int .u8 (I b11), .int .u8 (I b12), .int .u8 (I b13), .int .u8 (I b14), .int .u8 (I b15)] 34)) 34 zeros34
    rw [show (w.alloc (.cells #[.int .u8 (I b0), .int .u8 (I b1), .int .u8 (I b2), .int .u8 (I b3), .int .u8 (I b4), .int .u8 (I b5), .int .u8 (I b6), .int .u8 (I b7), .int .u8 (I b8), .int .u8 (I b9), .int .u8 (I b10), .int .u8 (I b11), .int .u8 (I b12), .int .u8 (I b13), .int .u8 (I b14), .int .u8 (I b15)] 34)).heap.size = w.heap.size + 1 by simp] at this
    exact this
  have hbe : Below w.heap.size w (((w.alloc (.cells #[.int .u8 (I b0), .int .u8 (I b1), .int .u8 (I b2), .int .u8 (I b3), .int .u8 (I b4), .int .u8 (I b5), .int .u8 (I b6), .int .u8 (I b7), .int .u8 (I b8), .int .u8 (I b9), .int .u8 (I b10), .int .u8 (I b11), .int .u8 (I b12), .int .u8 (I b13), .int .u8 (I b14), .int .u8 (I b15)] 34)).alloc (.cells zeros34 34)).alloc (.cells #[.pointer (some ⟨p, 0, none⟩), .int .u8 (I b0), .int .u8 (I b1), .int .u8 (I b2), .int .u8 (I b3), .int .u8 (I b4), .int .u8 (I b5), .int .u8 (I b6), .int .u8 (I b7), .int .u8 (I b8), .int .u8 (I b9), .int .u8 (I b10), .int .u8 (I b11), .int .u8 (I b12), .int .u8 (I b13), .int .u8 (I b14), .int .u8 (I b15), .int .i64 0] 62)) :=
    (((Below.refl w.heap.size w).alloc (Nat.le_refl _) _).alloc (by simp) _).alloc (by simp; omega) _
  have hlt1 := HCI.out.lt
  have hlt2 := HCI.out.ltk
  generalize (((w.alloc (.cells #[.int .u8 (I b0), .int .u8 (I b1), .int .u8 (I b2), .int .u8 (I b3), .int .u8 (I b4), .int .u8 (I b5), .int .u8 (I b6), .int .u8 (I b7), .int .u8 (I b8), .int .u8 (I b9), .int .u8 (I b10), .int .u8 (I b11), .int .u8 (I b12), .int .u8 (I b13), .int .u8 (I b14), .int .u8 (I b15)] 34)).alloc (.cells zeros34 34)).alloc (.cells #[.pointer (some ⟨p, 0, none⟩), .int .u8 (I b0), .int .u8 (I b1), .int .u8 (I b2), .int .u8 (I b3), .int .u8 (I b4), .int .u8 (I b5), .int .u8 (I b6), .int .u8 (I b7), .int .u8 (I b8), .int .u8 (I b9), .int .u8 (I b10), .int .u8 (I b11), .int .u8 (I b12), .int .u8 (I b13), .int .u8 (I b14), .int .u8 (I b15), .int .i64 0] 62)) = w3 at *
  have HST := hide hst
  have HBK := hide hbk
  clear hst hbk
  generalize (Value.agg #[.int .u8 (I b0), .int .u8 (I b1), .int .u8 (I b2), .int .u8 (I b3), .int .u8 (I b4), .int .u8 (I b5), .int .u8 (I b6), .int .u8 (I b7), .int .u8 (I b8), .int .u8 (I b9), .int .u8 (I b10), .int .u8 (I b11), .int .u8 (I b12), .int .u8 (I b13), .int .u8 (I b14), .int .u8 (I b15)]) = u9
  generalize (Value.agg #[.pointer (some ⟨p, 0, none⟩), .int .u8 (I b0), .int .u8 (I b1), .int .u8 (I b2), .int .u8 (I b3), .int .u8 (I b4), .int .u8 (I b5), .int .u8 (I b6), .int .u8 (I b7), .int .u8 (I b8), .int .u8 (I b9), .int .u8 (I b10), .int .u8 (I b11), .int .u8 (I b12), .int .u8 (I b13), .int .u8 (I b14), .int .u8 (I b15), .int .i64 0]) = u10
  generalize [b0, b1, b2, b3, b4, b5, b6, b7, b8, b9, b10, b11, b12, b13, b14, b15] = b at *
  clear Hcb b0 b1 b2 b3 b4 b5 b6 b7 b8 b9 b10 b11 b12 b13 b14 b15
  have hg : w.heap.size ≤ w.heap.size + 1 + 1 := by omega
  have hg1 : w.heap.size + 1 ≠ w.heap.size + 1 + 1 := by omega
  have f0 := (HCI.out.below hbe).slice
  have z1 : w3.frozen? ⟨w.heap.size + 1 + 1, 17, none⟩ = false := Blk.frozen HST.out _
  have z2 := HST.out.round hb
  have hst2 := HST.out.set_round hb (nr - 1) (n := (nr : Int) - 1) (by omega)
  go_wp2_with fail
  go_loopw [7] (fun _ wr => ∃ (r : Nat) (s : List UInt8), r ≤ nr - 1 ∧ s.length = 16 ∧ Hid (T = Cip.openGo all nr r s) ∧ Hid (St wr (w.heap.size + 1 + 1) p s r) ∧ Hid (Blk wr (w.heap.size + 1) 34 zeros34) ∧ Below w.heap.size w wr) (fun _ wr => roundOf (w.heap.size + 1 + 1) wr)
  case atStart => exact ⟨nr - 1, b, by omega, hb, hT, hide hst2, hide (Blk.far HBK.out hg1 _), hbe.setCell hg _⟩
  case round =>
    clear hbe HST HBK hst2 hT hb z1 z2
    obtain ⟨r, s, hr2, hs, hT, hst, hbk, hbe⟩ := hrel
    have f0 := hst.out.round hs
    by_cases hlt : 0 < r
    · have hro := roundOf_st hst.out hs
      have hgw := Blk.lt hst.out
      go_wp2_with fail
      try rw [show decide ((0 : Int) < (r : Int)) = true from decide_eq_true (by omega)]
      try rw [show decide ((r : Int) > (0 : Int)) = true from decide_eq_true (by omega)]
      have hfb := hide (Blk.new wr 63 #[.func (.func 45) #[] #[], .func (.func 49) #[] #[], .func (.func 50) #[] #[], .func (.func 51) #[] #[]])
      have hst' : Hid (St (wr.alloc (.cells #[.func (.func 45) #[] #[], .func (.func 49) #[] #[], .func (.func 50) #[] #[], .func (.func 51) #[] #[]] 63)) (w.heap.size + 1 + 1) p (back all nr r 0 s) r) := hide (St.alloc hst.out _)
      have hbk' := hide (Blk.alloc hbk.out (.cells #[.func (.func 45) #[] #[], .func (.func 49) #[] #[], .func (.func 50) #[] #[], .func (.func 51) #[] #[]] 63))
      have hbe' := hbe.alloc (by have := hbe.size; exact this) (.cells #[.func (.func 45) #[] #[], .func (.func 49) #[] #[], .func (.func 50) #[] #[], .func (.func 51) #[] #[]] 63)
      clear hst hbk hbe f0
      generalize hfs : wr.heap.size = fb at *
      have hfg : fb ≠ w.heap.size + 1 + 1 := by omega
      clear hfs hgw
      go_loopw [35] (fun i wi => ∃ j : Nat, j ≤ 4 ∧ i = .int .i64 j ∧ Hid (St wi (w.heap.size + 1 + 1) p (back all nr r j s) r) ∧ Hid (Blk wi (w.heap.size + 1) 34 zeros34) ∧ Hid (Blk wi fb 63 #[.func (.func 45) #[] #[], .func (.func 49) #[] #[], .func (.func 50) #[] #[], .func (.func 51) #[] #[]]) ∧ Below w.heap.size w wi) (fun i _ => 4 - (intOf i).toNat)
      case atStart => exact ⟨0, by omega, rfl, hst', hbk', hfb, hbe'⟩
      case round =>
        clear hst' hbk' hfb hbe'
        obtain ⟨j, hj, rfl, hst, hbk, hfb, hbe⟩ := hrel
        have hls := back_length all nr r j hs
        by_cases hlj : j < 4
        · have hf0 : wr.cell? ⟨fb, 0, none⟩ = some (.func (.func 45) #[] #[]) := (Blk.cell hfb.out 0).trans rfl
          have hf1 : wr.cell? ⟨fb, 1, none⟩ = some (.func (.func 49) #[] #[]) := (Blk.cell hfb.out 1).trans rfl
          have hf2 : wr.cell? ⟨fb, 2, none⟩ = some (.func (.func 50) #[] #[]) := (Blk.cell hfb.out 2).trans rfl
          have hf3 : wr.cell? ⟨fb, 3, none⟩ = some (.func (.func 51) #[] #[]) := (Blk.cell hfb.out 3).trans rfl
          have HCI' := hide (HCI.out.below hbe)
          have hj4 : j = 0 ∨ j = 1 ∨ j = 2 ∨ j = 3 := by omega
          rcases hj4 with rfl | rfl | rfl | rfl
          · go_wp2_with fail
            refine (add_any (w.heap.size + 1 + 1) p kb nr kc r _ all wr hst.out hls HCI'.out (by omega) (by omega) (by omega)).mono ?_
            rintro e w' ⟨rfl, h1, h2⟩
            go_wp2
            go_roundw
            case rel => exact ⟨1, by omega, by go_num, hide h1, hide (Blk.grown hbk.out h2 (by simp)), hide (Blk.grown hfb.out h2 (by simpa using hfg)), hbe.grown h2 (by have := Blk.lt hst.out; omega) (fun k hk => by injection hk with hk; omega)⟩
            case measure => simp only [intOf]; omega
          · go_wp2_with fail
            refine (unmix_any (w.heap.size + 1 + 1) p kb nr kc r _ all wr hst.out hls HCI'.out).mono ?_
            rintro e w' ⟨rfl, h1, h2⟩
            go_wp2
            go_roundw
            case rel => exact ⟨2, by omega, by go_num, hide h1, hide (Blk.grown hbk.out h2 (by simp)), hide (Blk.grown hfb.out h2 (by simpa using hfg)), hbe.grown h2 (by have := Blk.lt hst.out; omega) (fun k hk => by injection hk with hk; omega)⟩
            case measure => simp only [intOf]; omega
          · go_wp2_with fail
            refine (unshift_any (w.heap.size + 1 + 1) p r _ wr hst.out hls).mono ?_
            rintro e w' ⟨rfl, h1, h2⟩
            go_wp2
            go_roundw
            case rel => exact ⟨3, by omega, by go_num, hide h1, hide (Blk.grown hbk.out h2 (by simp)), hide (Blk.grown hfb.out h2 (by simpa using hfg)), hbe.grown h2 (by have := Blk.lt hst.out; omega) (fun k hk => by injection hk with hk; omega)⟩
            case measure => simp only [intOf]; omega
          · go_wp2_with fail
            refine (unsub_any (w.heap.size + 1 + 1) p kb nr kc r _ all wr hst.out hls HCI'.out (by omega) (by omega)).mono ?_
            rintro e w' ⟨rfl, h1, h2⟩
            go_wp2
            go_roundw
            case rel => exact ⟨4, by omega, by go_num, hide h1, hide (Blk.grown hbk.out h2 (by simp)), hide (Blk.grown hfb.out h2 (by simpa using hfg)), hbe.grown h2 (by have := Blk.lt hst.out; omega) (fun k hk => by injection hk with hk; omega)⟩
            case measure => simp only [intOf]; omega
        · obtain rfl : j = 4 := by omega
          have z3 : wr.frozen? ⟨w.heap.size + 1 + 1, 17, none⟩ = false := Blk.frozen hst.out _
          have z4 := hst.out.round hls
          obtain ⟨q, rfl⟩ : ∃ q, r = q + 1 := ⟨r - 1, by omega⟩
          have hst2 := hst.out.set_round hls q (n := (q : Int)) rfl
          go_wp2_with fail
          go_roundw
          case rel => exact ⟨q, back all nr (q + 1) 4 s, by omega, hls, hide (hT.out.trans (openGo_step all nr q s)), hide hst2, hide (Blk.far hbk.out hg1 _), hbe.setCell hg _⟩
          case measure =>
            show roundOf _ _ < roundOf _ _
            rw [hro, roundOf_st hst2 hls]
            omega
    · obtain rfl : r = 0 := by omega
      have hlen : (bytes s).length = 16 := by rw [bytes_length, hs]
      go_wp2_with fail
      refine (add_any (w.heap.size + 1 + 1) p kb nr kc 0 s all wr hst.out hs (HCI.out.below hbe) hn1 (by omega) (by omega)).mono ?_
      rintro e w2 ⟨rfl, h1, h2⟩
      have hbe2 := hbe.grown h2 (by have := Blk.lt hst.out; omega) (fun k hk => by injection hk with hk; omega)
      have hbk2 := hide (Blk.grown hbk.out h2 (by simp))
      have hTs : T = Cip.add all 0 s := hT.out
      have hl2 : (Cip.add all 0 s).length = 16 := Cip.add_length _ _ _
      clear hT hlen
      generalize Cip.add all 0 s = s2 at h1 hl2 hTs
      have HTs := hide hTs
      clear hTs
      have hlen : (bytes s2).length = 16 := by rw [bytes_length, hl2]
      have hstored := stored34' hl2 hbk2.out rfl
      have hrange := hide (St.range h1 hl2)
      have h34 := hide (size34' hl2)
      clear h1 h2
      go_wp2_with (with_reducible refine wpList_load_mid rfl 34 (.tmp 47) rfl (w.heap.size + 1 + 1) 1 rfl (bytes s2) _ hrange.out Try.underlying34 rfl h34.out ?_)
      refine bodyPost_ret (results_cell_row rfl _ _ (w.heap.size + 1) 34 (bytes s2).toArray (0, 0) _ rfl (setRow_heap _ _ _ _ _ _ hbk2.out) Try.underlying34 rfl (by rw [List.size_toArray]; exact h34.out)) rfl ?_
      rw [HTs.out]
      exact ⟨rfl, below_setRow hbe2 (by omega) _⟩
end Go.Proofs.Ytjcdblnodbadcaa
