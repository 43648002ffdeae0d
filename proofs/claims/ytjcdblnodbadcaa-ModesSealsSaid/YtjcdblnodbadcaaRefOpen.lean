/- The walk of the reference's Open. -/
import Derived.Test.YtjcdblnodbadcaaRefSeal
namespace Go.Proofs.Ytjcdblnodbadcaa
open Go.RowKit

/-- k of the 16 bytes are back at their places -/
def Scat (t s L : List UInt8) (k : Nat) : Prop := L.length = 16 ∧ ∀ i, i < 16 → L.getD ((i + 4 * (i % 4)) % 16) 0 = if i < k then Fld.ub (t.getD i 0) else s.getD ((i + 4 * (i % 4)) % 16) 0
theorem Scat.start {t s : List UInt8} (h : s.length = 16) : Scat t s s 0 := ⟨h, fun i _ => by rw [if_neg (by omega)]⟩
theorem rsh_inj {i k : Nat} (hi : i < 16) (hk : k < 16) (h : (k + 4 * (k % 4)) % 16 = (i + 4 * (i % 4)) % 16) : k = i := by omega
theorem Scat.step {t s L : List UInt8} {k : Nat} (h : Scat t s L k) (hk : k < 16) {v : UInt8} (hv : v = Fld.ub (t.getD k 0)) : Scat t s (L.set ((k + 4 * (k % 4)) % 16) v) (k + 1) := by
  refine ⟨by rw [List.length_set]; exact h.1, fun i hi => ?_⟩
  have hl := h.1
  rw [set_getD (by omega)]
  by_cases e : k = i
  · subst e
    rw [if_pos rfl, if_pos (by omega), hv]
  · rw [if_neg (fun hh => e (rsh_inj hi hk (by first | exact hh | exact hh.symm))), h.2 i hi]
    by_cases hik : i < k
    · rw [if_pos hik, if_pos (by omega)]
    · rw [if_neg hik, if_neg (by omega)]
theorem Scat.stop {t s L : List UInt8} (h : Scat t s L 16) : L = Cip.unsub (Cip.unshift t) := by
  rw [← Cip.t16_self h.1]
  refine Cip.t16_congr fun i hi => ?_
  have := h.2 ((i + 64 - 4 * (i % 4)) % 16) (Nat.mod_lt _ (by decide))
  rw [if_pos (Nat.mod_lt _ (by decide)), show ((i + 64 - 4 * (i % 4)) % 16 + 4 * ((i + 64 - 4 * (i % 4)) % 16 % 4)) % 16 = i by omega] at this
  rw [this, Cip.unshift, Cip.t16_get _ hi]
theorem openGo_step' (all : List UInt8) (nr r : Nat) (s : List UInt8) (h : 1 ≤ r) : Cip.openGo all nr r s = Cip.openGo all nr (r - 1) (Cip.unsub (Cip.unshift (colsOr (r = nr - 1) Cip.unM (Cip.add all r s)))) := by
  obtain ⟨q, rfl⟩ : ∃ q, r = q + 1 := ⟨r - 1, by omega⟩
  rfl
set_option maxRecDepth 100000 in
set_option maxHeartbeats 3200000 in
theorem ropen_any (p wb nr wc : Nat) (b all : List UInt8) (w : World) (hb : b.length = 16) (hci : RCi w p wb nr wc all) :
    Calls Try.prog 31 #[.pointer (some ⟨p, 0, none⟩), .agg (bytes b).toArray] w fun e w' => e = .returned (.agg (bytes (Cip.openB all nr b)).toArray) ∧ Below w.heap.size w w' := by
  have hn1 := hci.one
  have hnr := hci.few
  have hT : Hid (Cip.openB all nr b = Cip.openGo all nr (nr - 1) b) := hide rfl
  generalize Cip.openB all nr b = T at hT
  generalize hA : (bytes b).toArray = A
  have h0 : Blk ((w.alloc (.cells A 34)).alloc (.cells zeros34 34)) w.heap.size 34 A := Blk.alloc (Blk.new _ _ _) _
  have h2 : Blk ((w.alloc (.cells A 34)).alloc (.cells zeros34 34)) (w.heap.size + 1) 34 zeros34 := by
    have := Blk.new (w.alloc (.cells A 34)) 34 zeros34
    rwa [World.size_alloc] at this
  have hbe : Below w.heap.size w ((w.alloc (.cells A 34)).alloc (.cells zeros34 34)) := ((Below.refl _ w).alloc (Nat.le_refl _) _).alloc (by simp) _
  have hsz : w.heap.size + 2 ≤ ((w.alloc (.cells A 34)).alloc (.cells zeros34 34)).heap.size := by simp
  have HCI := hide hci
  have hlt1 := hci.lt
  have hlt2 := hci.ltk
  have HB := hide hb
  clear hci hb
  go_enter Try.func31, Try.ntmps31
  go_upto_region 1 with fail
  generalize ((w.alloc (.cells A 34)).alloc (.cells zeros34 34)) = w1 at *
  rw [← hA] at h0
  have H0 := hide h0
  have H2 := hide h2
  clear h0 h2 hA
  have f0 := (HCI.out.below hbe).slice
  have hm4 : 4 * nr ≤ 60 := by omega
  generalize hm : 4 * nr = m4 at f0 hm4
  have HM := hide hm
  clear hm
  generalize hll : nr - 1 = ll at hT
  have HLL := hide hll
  clear hll
  have hnew := hide (Blk.new w1 34 zeros34)
  go_upto_region 3 with (first
    | with_reducible refine wpList_load_mid rfl 34 (.tmp 3) rfl w.heap.size 0 rfl (bytes b) _ (blk_whole H0.out) Try.underlying34 rfl (size34' HB.out) ?_
    | with_reducible refine wpList_store34 rfl (.tmp 6) (.tmp 17) rfl w1.heap.size zeros34 b rfl rfl hnew.out HB.out rfl ?_)
  have hs3 := hide (Blk.setRow hnew.out (bytes b).toArray)
  have hq1 : w.heap.size + 1 ≠ w1.heap.size := by omega
  have h23 := hide (Blk.setRow_far (Blk.alloc H2.out (.cells zeros34 34)) hq1 (bytes b).toArray)
  have hbe3 := below_setRow (hbe.alloc hbe.size (.cells zeros34 34)) hbe.size (bytes b).toArray
  generalize ((w1.alloc (.cells zeros34 34)).setRow w1.heap.size (bytes b).toArray) = w3 at *
  clear hnew hbe H0 H2 f0
  generalize w1.heap.size = sa at *
  have hL : (m4 : Int) / 4 - 1 = (ll : Int) := by have := HM.out; have := HLL.out; omega
  rw [hL]
  have HM4 := hide hm4
  clear hL hm4
  go_wp2_with fail
  go_loopw [7] (fun i wr => ∃ (r : Nat) (s : List UInt8), r ≤ ll ∧ i = .int .i64 r ∧ Hid (s.length = 16) ∧ Hid (T = Cip.openGo all nr r s) ∧ Hid (Blk wr sa 34 (bytes s).toArray) ∧ Hid (Blk wr (w.heap.size + 1) 34 zeros34) ∧ Below w.heap.size w wr) (fun i _ => (intOf i).toNat)
  case atStart => exact ⟨ll, b, by omega, rfl, HB, hT, hs3, h23, hbe3⟩
  case round =>
    clear hs3 h23 hbe3 hT
    obtain ⟨r, s, hr2, rfl, hs, hT, hst, hbk, hbe⟩ := hrel
    by_cases hlt : 1 ≤ r
    · have hle : (1 : Int) ≤ (r : Int) := by omega
      have hrn : r < nr := by have := HLL.out; omega
      go_upto_region 7 with (first
        | with_reducible refine wpList_load_mid rfl 34 (.tmp 6) rfl sa 0 rfl (bytes s) _ (blk_whole hst.out) Try.underlying34 rfl (size34' hs.out) ?_
        | (go_at_call 53
           refine (rkey_any p wb nr wc r s all wr hs.out (HCI.out.below hbe) hrn).mono ?_
           rintro e w2 ⟨rfl, hb2⟩
           have hnew := hide (Blk.new w2 34 zeros34))
        | with_reducible refine wpList_store34 rfl (.tmp 8) (.tmp 26) rfl w2.heap.size zeros34 (Cip.add all r s) rfl rfl hnew.out (Cip.add_length _ _ _) rfl ?_)
      have hsat' : sa < w2.heap.size := Nat.lt_of_lt_of_le (Blk.lt hst.out) hb2.size
      have hq2 : w.heap.size + 1 ≠ w2.heap.size := by omega
      have ht5 := hide (Blk.setRow hnew.out (bytes (Cip.add all r s)).toArray)
      have hs5 := hide (Blk.setRow_far (Blk.alloc (Blk.below hst.out hb2 (Blk.lt hst.out)) (.cells zeros34 34)) (Nat.ne_of_lt hsat') (bytes (Cip.add all r s)).toArray)
      have hk5 := hide (Blk.setRow_far (Blk.alloc (Blk.below hbk.out hb2 (Blk.lt hbk.out)) (.cells zeros34 34)) hq2 (bytes (Cip.add all r s)).toArray)
      have hbe5 := below_setRow ((hbe.trans (hb2.mono hbe.size)).alloc (Nat.le_trans hbe.size hb2.size) (.cells zeros34 34)) (show w.heap.size ≤ w2.heap.size by omega) (bytes (Cip.add all r s)).toArray
      clear hnew hb2 hst hbk hbe
      generalize ((w2.alloc (.cells zeros34 34)).setRow w2.heap.size (bytes (Cip.add all r s)).toArray) = w5 at *
      have hsat : Hid (sa < w2.heap.size) := hide hsat'
      generalize w2.heap.size = ta at *
      have hsat := hsat.out
      have hla := hide (Cip.add_length all r s)
      generalize hAd0 : Cip.add all r s = K0 at *
      have hAd := hide hAd0
      clear hAd0
      by_cases hrl : r < ll
      · have hri : (r : Int) < (ll : Int) := by omega
        have hne : ¬ r = nr - 1 := by have := HLL.out; omega
        have hft : Hid (colsOr (r = nr - 1) Cip.unM (Cip.add all r s) = Cip.columns Cip.unM K0) := hide (by rw [colsOr, if_neg hne, hAd.out])
        have hcl := hide (Cip.columns_length Cip.unM K0)
        clear hne hAd
        go_upto_region 9 with (first
          | with_reducible refine wpList_load_mid rfl 34 (.tmp 8) rfl ta 0 rfl (bytes K0) _ (blk_whole ht5.out) Try.underlying34 rfl (size34' hla.out) ?_
          | (go_at_call 54
             refine (rmix_any K0 14 11 13 9 w5 hla.out).mono ?_
             rintro e w4 ⟨rfl, hb4⟩
             have ht4 := hide (Blk.below ht5.out hb4 (Blk.lt ht5.out)))
          | with_reducible refine wpList_store34 rfl (.tmp 8) (.tmp 32) rfl ta (bytes K0).toArray (Cip.columns Cip.unM K0) rfl rfl ht4.out (Cip.columns_length _ _) (by rw [List.size_toArray, bytes_length, hla.out]) ?_)
        have ht6 := hide (Blk.setRow ht4.out (bytes (Cip.columns Cip.unM K0)).toArray)
        have hs6 := hide (Blk.setRow_far (Blk.below hs5.out hb4 (Blk.lt hs5.out)) (Nat.ne_of_lt hsat) (bytes (Cip.columns Cip.unM K0)).toArray)
        have hk6 := hide (Blk.setRow_far (Blk.below hk5.out hb4 (Blk.lt hk5.out)) (show w.heap.size + 1 ≠ ta by omega) (bytes (Cip.columns Cip.unM K0)).toArray)
        have hbe6 := below_setRow (hbe5.trans (hb4.mono hbe5.size)) (show w.heap.size ≤ ta by omega) (bytes (Cip.columns Cip.unM K0)).toArray
        clear ht4 hb4 ht5 hs5 hk5 hbe5
        generalize w4.setRow ta (bytes (Cip.columns Cip.unM K0)).toArray = w6 at *
        generalize Cip.columns Cip.unM K0 = M at *
        go_upto_region 10 with fail
        go_loopw [9] (fun i wi => ∃ (k : Nat) (L : List UInt8), k ≤ 16 ∧ i = .int .i64 k ∧ Hid (Scat M s L k) ∧ Hid (Blk wi sa 34 (bytes L).toArray) ∧ Hid (Blk wi ta 34 (bytes M).toArray) ∧ Hid (Blk wi (w.heap.size + 1) 34 zeros34) ∧ Below w.heap.size w wi) (fun i _ => 16 - (intOf i).toNat)
        case atStart => exact ⟨0, s, by omega, rfl, hide (Scat.start hs.out), hs6, ht6, hk6, hbe6⟩
        case round =>
          clear hs6 ht6 hk6 hbe6
          obtain ⟨k, L, hk, rfl, hv, hst, hta, hbk, hbe⟩ := hrel
          have hm := hv.out.1
          by_cases hlk : k < 16
          · have f0 := blk_byte hta.out (show k < M.length by rw [hcl.out]; omega)
            generalize hx : M.getD k 0 = x at f0
            have Hx := hide hx
            clear hx
            have f3 : wr.cell? ⟨p, 257 + (I x).toNat, none⟩ = some (.int .u8 (I (Fld.ub x))) := (HCI.out.below hbe).unbox x
            have hb1 : (0 : Int) ≤ I x := (I_bd x).1
            have hb2 : I x < (256 : Int) := by have := (I_bd x).2; omega
            have hx1 := rsh_index k hlk
            have z1 : (0 : Int) ≤ (((k + 4 * (k % 4)) % 16 : Nat) : Int) := by omega
            have z2 : (((k + 4 * (k % 4)) % 16 : Nat) : Int) < (16 : Int) := by omega
            have f6 := blk_byte hst.out (show (k + 4 * (k % 4)) % 16 < L.length by omega)
            have hput := hide (hv.out.step hlk (show Fld.ub x = Fld.ub (M.getD k 0) by rw [Hx.out]))
            have hbp := hide (fun y => blk_put hst.out ((k + 4 * (k % 4)) % 16) y)
            generalize (k + 4 * (k % 4)) % 16 = ix at f6 hx1 z1 z2 hput hbp
            have f5 : wr.frozen? ⟨sa, ix, none⟩ = false := Blk.frozen hst.out _
            go_wp2_with fail
            go_still_tail 15, (by kernel_rfl)
            go_wp2
            go_roundw
            case rel => exact ⟨k + 1, _, by omega, by go_num, hput, hide (Blk.drew (hbp.out (Fld.ub x))), hide (Blk.drew (Blk.far hta.out (Nat.ne_of_gt hsat) _)), hide (Blk.drew (Blk.far hbk.out hq1 _)), (hbe.setCell (by simp; omega) _).drew⟩
            case measure => simp only [intOf]; omega
          · obtain rfl : k = 16 := by omega
            have ht := hide hv.out.stop
            clear hv
            go_wp2_with fail
            go_roundw
            case rel =>
              exact ⟨r - 1, L, by omega, by rw [show ((r : Int) - 1) = ((r - 1 : Nat) : Int) by omega], hide hm, hide (by rw [hT.out, openGo_step' all nr r s (by omega), ht.out, hft.out]), hst, hbk, hbe⟩
            case measure => simp only [intOf]; omega
      · have hri : ¬ (r : Int) < (ll : Int) := by omega
        have hne : r = nr - 1 := by have := HLL.out; omega
        have hft : Hid (colsOr (r = nr - 1) Cip.unM (Cip.add all r s) = K0) := hide (by rw [colsOr, if_pos hne, hAd.out])
        clear hne hAd
        go_upto_region 10 with fail
        go_loopw [9] (fun i wi => ∃ (k : Nat) (L : List UInt8), k ≤ 16 ∧ i = .int .i64 k ∧ Hid (Scat K0 s L k) ∧ Hid (Blk wi sa 34 (bytes L).toArray) ∧ Hid (Blk wi ta 34 (bytes K0).toArray) ∧ Hid (Blk wi (w.heap.size + 1) 34 zeros34) ∧ Below w.heap.size w wi) (fun i _ => 16 - (intOf i).toNat)
        case atStart => exact ⟨0, s, by omega, rfl, hide (Scat.start hs.out), hs5, ht5, hk5, hbe5⟩
        case round =>
          clear hs5 ht5 hk5 hbe5
          obtain ⟨k, L, hk, rfl, hv, hst, hta, hbk, hbe⟩ := hrel
          have hm := hv.out.1
          by_cases hlk : k < 16
          · have f0 := blk_byte hta.out (show k < K0.length by rw [hla.out]; omega)
            generalize hx : K0.getD k 0 = x at f0
            have Hx := hide hx
            clear hx
            have f3 : wr.cell? ⟨p, 257 + (I x).toNat, none⟩ = some (.int .u8 (I (Fld.ub x))) := (HCI.out.below hbe).unbox x
            have hb1 : (0 : Int) ≤ I x := (I_bd x).1
            have hb2 : I x < (256 : Int) := by have := (I_bd x).2; omega
            have hx1 := rsh_index k hlk
            have z1 : (0 : Int) ≤ (((k + 4 * (k % 4)) % 16 : Nat) : Int) := by omega
            have z2 : (((k + 4 * (k % 4)) % 16 : Nat) : Int) < (16 : Int) := by omega
            have f6 := blk_byte hst.out (show (k + 4 * (k % 4)) % 16 < L.length by omega)
            have hput := hide (hv.out.step hlk (show Fld.ub x = Fld.ub (K0.getD k 0) by rw [Hx.out]))
            have hbp := hide (fun y => blk_put hst.out ((k + 4 * (k % 4)) % 16) y)
            generalize (k + 4 * (k % 4)) % 16 = ix at f6 hx1 z1 z2 hput hbp
            have f5 : wr.frozen? ⟨sa, ix, none⟩ = false := Blk.frozen hst.out _
            go_wp2_with fail
            go_still_tail 15, (by kernel_rfl)
            go_wp2
            go_roundw
            case rel => exact ⟨k + 1, _, by omega, by go_num, hput, hide (Blk.drew (hbp.out (Fld.ub x))), hide (Blk.drew (Blk.far hta.out (Nat.ne_of_gt hsat) _)), hide (Blk.drew (Blk.far hbk.out hq1 _)), (hbe.setCell (by simp; omega) _).drew⟩
            case measure => simp only [intOf]; omega
          · obtain rfl : k = 16 := by omega
            have ht := hide hv.out.stop
            clear hv
            go_wp2_with fail
            go_roundw
            case rel =>
              exact ⟨r - 1, L, by omega, by rw [show ((r : Int) - 1) = ((r - 1 : Nat) : Int) by omega], hide hm, hide (by rw [hT.out, openGo_step' all nr r s (by omega), ht.out, hft.out]), hst, hbk, hbe⟩
            case measure => simp only [intOf]; omega
    · obtain rfl : r = 0 := by omega
      go_wp2_with (first
        | with_reducible refine wpList_load_mid rfl 34 (.tmp 6) rfl sa 0 rfl (bytes s) _ (blk_whole hst.out) Try.underlying34 rfl (size34' hs.out) ?_
        | (go_at_call 53
           refine (rkey_any p wb nr wc 0 s all wr hs.out (HCI.out.below hbe) (by omega)).mono ?_
           rintro e w2 ⟨rfl, hb2⟩
           have hk2 := hide (Blk.below hbk.out hb2 (Blk.lt hbk.out)))
        | with_reducible refine wpList_store34 rfl (.tmp 4) (.tmp 54) rfl (w.heap.size + 1) zeros34 (Cip.add all 0 s) rfl rfl hk2.out (Cip.add_length _ _ _) rfl ?_)
      refine bodyPost_ret (results_cell_row rfl _ _ (w.heap.size + 1) 34 (bytes (Cip.add all 0 s)).toArray (0, 0) _ rfl (Blk.setRow hk2.out _) Try.underlying34 rfl (by rw [List.size_toArray]; exact size34' (Cip.add_length _ _ _))) rfl ?_
      refine ⟨?_, below_setRow (hbe.trans (hb2.mono hbe.size)) (by omega) _⟩
      rw [hT.out]
      rfl
end Go.Proofs.Ytjcdblnodbadcaa
