/- The walk of the reference's Seal. -/
import Derived.Test.YtjcdblnodbadcaaRefMix
import Derived.Test.YtjcdblnodbadcaaBad
namespace Go.Proofs.Ytjcdblnodbadcaa
open Go.RowKit

theorem rsh_index (k : Nat) (hk : k < 16) : (IntKind.i64.wrap ((k : Int) + IntKind.i64.wrap (4 * (k : Int).tmod 4))).tmod 16 = (((k + 4 * (k % 4)) % 16 : Nat) : Int) := by
  rw [Int.tmod_eq_emod_of_nonneg (show (0 : Int) ≤ (k : Int) by omega), IntWalk.i64_in (4 * ((k : Int) % 4)) (by omega), IntWalk.i64_in _ (by omega), Int.tmod_eq_emod_of_nonneg (by omega)]
  omega
theorem rlast (nr : Nat) (h1 : 1 ≤ nr) (h2 : nr ≤ 15) : IntKind.i64.wrap (IntKind.i64.wrap (((4 * nr : Nat) : Int) / 4) - 1) = ((nr - 1 : Nat) : Int) := by
  rw [IntWalk.i64_in (((4 * nr : Nat) : Int) / 4) (by omega), IntWalk.i64_in _ (by omega)]
  omega
theorem shsub_length {s L : List UInt8} (h : Mid (fun i => Fld.sb (s.getD ((i + 4 * (i % 4)) % 16) 0)) s L 16) : L.length = 16 := h.1
theorem shsub (s : List UInt8) : Cip.shift (Cip.sub s) = Cip.t16 fun i => Fld.sb (s.getD ((i + 4 * (i % 4)) % 16) 0) := by
  refine Cip.t16_congr fun i hi => ?_
  rw [Cip.sub, Cip.t16_get _ (Nat.mod_lt _ (by decide))]
set_option maxRecDepth 100000 in
set_option maxHeartbeats 3200000 in
theorem rseal_any (p wb nr wc : Nat) (b all : List UInt8) (w : World) (hb : b.length = 16) (hci : RCi w p wb nr wc all) :
    Calls Try.prog 30 #[.pointer (some ⟨p, 0, none⟩), .agg (bytes b).toArray] w fun e w' => e = .returned (.agg (bytes (Cip.sealB all nr b)).toArray) ∧ Below w.heap.size w w' := by
  have hn1 := hci.one
  have hnr := hci.few
  have hT : Hid (Cip.sealB all nr b = Cip.sealGo all nr (nr - 1) 1 (Cip.add all 0 b)) := hide rfl
  generalize Cip.sealB all nr b = T at hT
  generalize hA : (bytes b).toArray = A
  have h0 : Blk ((w.alloc (.cells A 34)).alloc (.cells zeros34 34)) w.heap.size 34 A := Blk.alloc (Blk.new _ _ _) _
  have h2 : Blk ((w.alloc (.cells A 34)).alloc (.cells zeros34 34)) (w.heap.size + 1) 34 zeros34 := by
    have := Blk.new (w.alloc (.cells A 34)) 34 zeros34
    rwa [World.size_alloc] at this
  have hbe : Below w.heap.size w ((w.alloc (.cells A 34)).alloc (.cells zeros34 34)) := ((Below.refl _ w).alloc (Nat.le_refl _) _).alloc (by simp) _
  have hsz : w.heap.size + 2 ≤ ((w.alloc (.cells A 34)).alloc (.cells zeros34 34)).heap.size := by simp
  have HCI := hide hci
  have hlt1 := hci.lt
  have hlt2 := hci.ltk
  have HB := hide hb
  have HLA := hide (rlast nr hn1 hnr)
  obtain ⟨Z, hZ⟩ : ∃ Z : List UInt8, Z = List.replicate 16 0 := ⟨_, rfl⟩
  have HZ34 : Hid (zeros34 = (bytes Z).toArray) := hide (by rw [hZ]; rfl)
  have HZL : Hid (Z.length = 16) := hide (by rw [hZ]; exact List.length_replicate)
  clear hZ
  clear hci hb
  go_enter Try.func30, Try.ntmps30
  go_upto_region 1 with fail
  generalize ((w.alloc (.cells A 34)).alloc (.cells zeros34 34)) = w1 at *
  rw [← hA] at h0
  have H0 := hide h0
  have H2 := hide h2
  clear h0 h2 hA
  have f0 := (HCI.out.below hbe).slice
  have hm4 : 4 * nr ≤ 60 := by omega
  have hla := HLA.out
  generalize hm : 4 * nr = m4 at f0 hm4 hla
  have HM := hide hm
  clear hm
  generalize hll : nr - 1 = ll at hla
  have HLL := hide hll
  clear hll
  go_upto_region 3 with (first
    | with_reducible refine wpList_load_mid rfl 34 (.tmp 3) rfl w.heap.size 0 rfl (bytes b) _ (blk_whole H0.out) Try.underlying34 rfl (size34' HB.out) ?_
    | (go_at_call 53
       refine (rkey_any p wb nr wc 0 b all w1 HB.out (HCI.out.below hbe) (by omega)).mono ?_
       rintro e w2 ⟨rfl, hb2⟩
       have hnew := hide (Blk.new w2 34 zeros34))
    | with_reducible refine wpList_store34 rfl (.tmp 6) (.tmp 19) rfl w2.heap.size zeros34 (Cip.add all 0 b) rfl rfl hnew.out (Cip.add_length _ _ _) rfl ?_)
  have hs3 := hide (Blk.setRow hnew.out (bytes (Cip.add all 0 b)).toArray)
  have hsa : w.heap.size + 2 ≤ w2.heap.size := Nat.le_trans hsz hb2.size
  have hq1 : w.heap.size + 1 ≠ w2.heap.size := by omega
  have h23 := hide (Blk.setRow_far (Blk.alloc (Blk.below H2.out hb2 (Blk.lt H2.out)) (.cells zeros34 34)) hq1 (bytes (Cip.add all 0 b)).toArray)
  have hbe3 := below_setRow ((hbe.trans (hb2.mono hbe.size)).alloc (Nat.le_trans hbe.size hb2.size) (.cells zeros34 34)) (show w.heap.size ≤ w2.heap.size by omega) (bytes (Cip.add all 0 b)).toArray
  generalize ((w2.alloc (.cells zeros34 34)).setRow w2.heap.size (bytes (Cip.add all 0 b)).toArray) = w3 at *
  have hl0 := Cip.add_length all 0 b
  generalize Cip.add all 0 b = s0 at *
  clear hnew hbe hsz H0 H2 hb2 f0 hla
  generalize w2.heap.size = sa at *
  have hL : (m4 : Int) / 4 - 1 = (ll : Int) := by have := HM.out; have := HLL.out; omega
  rw [hL]
  have HM4 := hide hm4
  clear hL hm4
  go_wp2_with fail
  go_loopw [7] (fun i wr => ∃ (r : Nat) (s : List UInt8), i = .int .i64 r ∧ 1 ≤ r ∧ r ≤ nr ∧ Hid (s.length = 16) ∧ Hid (T = Cip.sealGo all nr (nr - r) r s) ∧ Hid (Blk wr sa 34 (bytes s).toArray) ∧ Hid (Blk wr (w.heap.size + 1) 34 zeros34) ∧ Below w.heap.size w wr) (fun i _ => nr - (intOf i).toNat)
  case atStart => exact ⟨1, s0, rfl, by omega, by omega, hide hl0, hT, hs3, h23, hbe3⟩
  case round =>
    clear hs3 h23 hbe3 hT hl0
    obtain ⟨r, s, rfl, hr1, hr2, hs, hT, hst, hbk, hbe⟩ := hrel
    by_cases hlt : r < nr
    · have hle : (r : Int) ≤ (ll : Int) := by have := HLL.out; omega
      go_wp2_with fail
      have hta := hide (Blk.new wr 34 zeros34)
      have hst' := hide (Blk.alloc hst.out (.cells zeros34 34))
      have hbk' := hide (Blk.alloc hbk.out (.cells zeros34 34))
      have hbe' := hbe.alloc hbe.size (.cells zeros34 34)
      have hsat : sa < wr.heap.size := Blk.lt hst.out
      generalize (wr.alloc (.cells zeros34 34)) = wt at *
      rw [HZ34.out] at hta
      clear hst hbk hbe
      have hq2 : w.heap.size + 1 ≠ wr.heap.size := by omega
      generalize wr.heap.size = ta at *
      go_loopw [9] (fun i wi => ∃ (k : Nat) (L : List UInt8), k ≤ 16 ∧ i = .int .i64 k ∧ Hid (Mid (fun i => Fld.sb (s.getD ((i + 4 * (i % 4)) % 16) 0)) Z L k) ∧ Hid (Blk wi sa 34 (bytes s).toArray) ∧ Hid (Blk wi ta 34 (bytes L).toArray) ∧ Hid (Blk wi (w.heap.size + 1) 34 zeros34) ∧ Below w.heap.size w wi) (fun i _ => 16 - (intOf i).toNat)
      case atStart => exact ⟨0, Z, by omega, rfl, hide (Mid.start _ HZL.out), hst', hta, hbk', hbe'⟩
      case round =>
        clear hst' hta hbk' hbe'
        obtain ⟨k, L, hk, rfl, hv, hst, hta, hbk, hbe⟩ := hrel
        have hm := hv.out.1
        by_cases hlk : k < 16
        · have f0 := blk_byte hst.out (show (k + 4 * (k % 4)) % 16 < s.length by rw [hs.out]; omega)
          generalize hx : s.getD ((k + 4 * (k % 4)) % 16) 0 = x at f0
          have Hx := hide hx
          clear hx
          have f3 : wr.cell? ⟨p, 1 + (I x).toNat, none⟩ = some (.int .u8 (I (Fld.sb x))) := (HCI.out.below hbe).box x
          have hb1 : (0 : Int) ≤ I x := (I_bd x).1
          have hb2 : I x < (256 : Int) := by have := (I_bd x).2; omega
          have f5 : wr.frozen? ⟨ta, k, none⟩ = false := Blk.frozen hta.out _
          have hx1 := rsh_index k hlk
          have z1 : (0 : Int) ≤ (((k + 4 * (k % 4)) % 16 : Nat) : Int) := by omega
          have z2 : (((k + 4 * (k % 4)) % 16 : Nat) : Int) < (16 : Int) := by omega
          generalize (k + 4 * (k % 4)) % 16 = ix at f0 hx1 z1 z2
          have f6 := blk_byte hta.out (show k < L.length by omega)
          go_wp2_with fail
          go_still_tail 15, (by kernel_rfl)
          go_wp2
          go_roundw
          case rel => exact ⟨k + 1, _, by omega, by go_num, hide (hv.out.step hlk (by rw [Hx.out])), hide (Blk.drew (Blk.far hst.out (Nat.ne_of_lt hsat) _)), hide (Blk.drew (blk_put hta.out k (Fld.sb x))), hide (Blk.drew (Blk.far hbk.out hq2 _)), (hbe.setCell (by simp; omega) _).drew⟩
          case measure => simp only [intOf]; omega
        · obtain rfl : k = 16 := by omega
          have ht := hide hv.out.stop
          have hlL := hide hm
          clear hv hm
          by_cases hrl : r < ll
          · have hri : (r : Int) < (ll : Int) := by omega
            have hne : ¬ r = nr - 1 := by have := HLL.out; omega
            have hft : Hid (Cip.columns Cip.mixM L = colsOr (r = nr - 1) Cip.mixM (Cip.t16 fun i => Fld.sb (s.getD ((i + 4 * (i % 4)) % 16) 0))) := hide (by rw [colsOr, if_neg hne, ht.out])
            have hcl := hide (Cip.columns_length Cip.mixM L)
            clear hne
            go_upto_region 13 with (first
              | with_reducible refine wpList_load_mid rfl 34 (.tmp 8) rfl ta 0 rfl (bytes L) _ (blk_whole hta.out) Try.underlying34 rfl (size34' hlL.out) ?_
              | (go_at_call 54
                 refine (rmix_any L 2 3 1 1 wr hlL.out).mono ?_
                 rintro e w4 ⟨rfl, hb4⟩
                 have ht4 := hide (Blk.below hta.out hb4 (Blk.lt hta.out)))
              | with_reducible refine wpList_store34 rfl (.tmp 8) (.tmp 49) rfl ta (bytes L).toArray (Cip.columns Cip.mixM L) rfl rfl ht4.out (Cip.columns_length _ _) (by rw [List.size_toArray, bytes_length, hlL.out]) ?_)
            have ht6 := hide (Blk.setRow ht4.out (bytes (Cip.columns Cip.mixM L)).toArray)
            have hs6 := hide (Blk.setRow_far (Blk.below hst.out hb4 (Blk.lt hst.out)) (Nat.ne_of_lt hsat) (bytes (Cip.columns Cip.mixM L)).toArray)
            have hk6 := hide (Blk.setRow_far (Blk.below hbk.out hb4 (Blk.lt hbk.out)) (show w.heap.size + 1 ≠ ta by omega) (bytes (Cip.columns Cip.mixM L)).toArray)
            have hbe6 := below_setRow (hbe.trans (hb4.mono hbe.size)) (show w.heap.size ≤ ta by omega) (bytes (Cip.columns Cip.mixM L)).toArray
            clear ht4 hb4 hst hta hbk hbe
            generalize w4.setRow ta (bytes (Cip.columns Cip.mixM L)).toArray = w6 at *
            generalize Cip.columns Cip.mixM L = M at *
            go_wp2_with (first
              | with_reducible refine wpList_load_mid rfl 34 (.tmp 8) rfl ta 0 rfl (bytes M) _ (blk_whole ht6.out) Try.underlying34 rfl (size34' hcl.out) ?_
              | (go_at_call 53
                 refine (rkey_any p wb nr wc r M all w6 hcl.out (HCI.out.below hbe6) hlt).mono ?_
                 rintro e w5 ⟨rfl, hb5⟩
                 have hs5 := hide (Blk.below hs6.out hb5 (Blk.lt hs6.out)))
              | with_reducible refine wpList_store34 rfl (.tmp 6) (.tmp 53) rfl sa (bytes s).toArray (Cip.add all r M) rfl rfl hs5.out (Cip.add_length _ _ _) (by rw [List.size_toArray, bytes_length, hs.out]) ?_)
            go_roundw
            case rel =>
              exact ⟨r + 1, Cip.add all r M, by go_num, by omega, by omega, hide (Cip.add_length _ _ _), hide (by rw [hT.out, sealGo_step all nr r s hlt, shsub s, hft.out]), hide (Blk.setRow hs5.out _), hide (Blk.setRow_far (Blk.below hk6.out hb5 (Blk.lt hk6.out)) hq1 _), below_setRow (hbe6.trans (hb5.mono hbe6.size)) (by omega) _⟩
            case measure => simp only [intOf]; omega
          · have hri : ¬ (r : Int) < (ll : Int) := by omega
            have hne : r = nr - 1 := by have := HLL.out; omega
            have hft : Hid (L = colsOr (r = nr - 1) Cip.mixM (Cip.t16 fun i => Fld.sb (s.getD ((i + 4 * (i % 4)) % 16) 0))) := hide (by rw [colsOr, if_pos hne, ht.out])
            clear hne
            go_wp2_with (first
              | with_reducible refine wpList_load_mid rfl 34 (.tmp 8) rfl ta 0 rfl (bytes L) _ (blk_whole hta.out) Try.underlying34 rfl (size34' hlL.out) ?_
              | (go_at_call 53
                 refine (rkey_any p wb nr wc r L all wr hlL.out (HCI.out.below hbe) hlt).mono ?_
                 rintro e w5 ⟨rfl, hb5⟩
                 have hs5 := hide (Blk.below hst.out hb5 (Blk.lt hst.out)))
              | with_reducible refine wpList_store34 rfl (.tmp 6) (.tmp 53) rfl sa (bytes s).toArray (Cip.add all r L) rfl rfl hs5.out (Cip.add_length _ _ _) (by rw [List.size_toArray, bytes_length, hs.out]) ?_)
            go_roundw
            case rel =>
              exact ⟨r + 1, Cip.add all r L, by go_num, by omega, by omega, hide (Cip.add_length _ _ _), hide (by rw [hT.out, sealGo_step all nr r s hlt, shsub s, hft.out]), hide (Blk.setRow hs5.out _), hide (Blk.setRow_far (Blk.below hbk.out hb5 (Blk.lt hbk.out)) hq1 _), below_setRow (hbe.trans (hb5.mono hbe.size)) (by omega) _⟩
            case measure => simp only [intOf]; omega
    · obtain rfl : r = nr := by omega
      have hle : ¬ (r : Int) ≤ (ll : Int) := by have := HLL.out; omega
      have hTs : T = s := by
        rw [hT.out, Nat.sub_self]
        rfl
      have hlen : (bytes s).length = 16 := by rw [bytes_length, hs.out]
      have hstored := stored34' hs.out hbk.out rfl
      have hrange := hide (blk_whole hst.out)
      have h34 := hide (size34' hs.out)
      go_wp2_with (with_reducible refine wpList_load_mid rfl 34 (.tmp 6) rfl sa 0 rfl (bytes s) _ hrange.out Try.underlying34 rfl h34.out ?_)
      refine bodyPost_ret (results_cell_row rfl _ _ (w.heap.size + 1) 34 (bytes s).toArray (0, 0) _ rfl (setRow_heap _ _ _ _ _ _ hbk.out) Try.underlying34 rfl (by rw [List.size_toArray]; exact h34.out)) rfl ?_
      exact ⟨rfl, below_setRow hbe (by omega) _⟩
end Go.Proofs.Ytjcdblnodbadcaa
