/- The walk of the reference's Mac. -/
import Derived.Test.YtjcdblnodbadcaaRefMSeal
import Derived.Test.YtjcdblnodbadcaaRefDouble
import Derived.Test.YtjcdblnodbadcaaMac
namespace Go.Proofs.Ytjcdblnodbadcaa
open Go.RowKit

theorem blk16_fill {r : List UInt8} (h : r.length < 16) : (blk16 r).set r.length 0x80 = Mod.fill r := by
  have hl : ((blk16 r).set r.length 0x80).length = 16 := by rw [List.length_set]; exact blk16_length r
  rw [← Cip.t16_self hl]
  refine Cip.t16_congr fun i hi => ?_
  rw [set_getD (by rw [blk16_length]; exact h)]
  by_cases e : i = r.length
  · rw [if_pos e, if_pos e]
  · rw [if_neg e, if_neg e]
    exact Cip.t16_get _ hi
theorem rseal_zero (p wb nr wc : Nat) (Z all : List UInt8) (w : World) (hZ : Hid (zeros34 = (bytes Z).toArray)) (hz : Z.length = 16) (hci : RCi w p wb nr wc all) :
    Calls Try.prog 30 #[.pointer (some ⟨p, 0, none⟩), .agg zeros34] w fun e w' => e = .returned (.agg (bytes (Cip.sealB all nr Z)).toArray) ∧ Below w.heap.size w w' := by
  rw [hZ.out]
  exact rseal_any p wb nr wc Z all w hz hci
set_option maxRecDepth 100000 in
set_option maxHeartbeats 3200000 in
theorem rmac_any (A D : Option Addr) (n c m f : Nat) (l t : List UInt8) (w : World) (h : Sl w A n c l) (h'' : Sl w D m f t) (hl : n = 16 ∨ n = 24 ∨ n = 32) :
    Calls Try.prog 35 #[.slice A n c, .slice D m f] w fun e w' => ∃ g, e = .returned (.tuple #[.slice (some ⟨g, 0, none⟩) 16 16, .int .i64 0]) ∧ Sl w' (some ⟨g, 0, none⟩) 16 16 (Mod.mac (Cip.keys l) (n / 4 + 7) t) ∧ Below w.heap.size w w' := by
  obtain ⟨Z, hZ⟩ : ∃ Z : List UInt8, Z = List.replicate 16 0 := ⟨_, rfl⟩
  have HZ34 : Hid (zeros34 = (bytes Z).toArray) := hide (by rw [hZ]; rfl)
  have HZL : Hid (Z.length = 16) := hide (by rw [hZ]; exact List.length_replicate)
  have HZ := hide hZ
  have hmt := hide h''.1
  have hmf := hide h''.2.1
  have H3 := hide h''.reads
  have H1 := hide h
  have HL := hide hl
  clear h h'' hl hZ
  go_enter Try.func35, Try.ntmps35
  go_wp2_with fail
  refine (rnew_any A n c l w H1.out HL.out).mono ?_
  rintro e w2 ⟨⟨p, wb, wcc, rfl, ci⟩, b2⟩
  have H3' := hide (H3.out.below b2)
  have CI := hide ci
  clear H3 H1 ci
  generalize hall : Cip.keys l = all at *
  generalize hnr : n / 4 + 7 = nr at *
  have HALL := hide hall
  have HNR := hide hnr
  clear hall hnr
  go_wp2_with fail
  refine (rseal_zero p wb nr wcc Z all w2 HZ34 HZL.out CI.out).mono ?_
  rintro e w3 ⟨rfl, b3⟩
  go_wp2_with fail
  refine (rdouble_any (Cip.sealB all nr Z) w3 (Cip.sealB_length _ _ _)).mono ?_
  rintro e w4 ⟨rfl, b4⟩
  have hk1 : (Mod.twice (Cip.sealB all nr Z)).length = 16 := Cip.t16_length _
  have hk2 : (Mod.twice (Mod.twice (Cip.sealB all nr Z))).length = 16 := Cip.t16_length _
  have hmac : Hid (Mod.mac all nr t = Cip.sealB all nr (Mod.xor (if (t.drop (16 * Mod.ahead t.length)).length < 16 then Mod.xor (Mod.fill (t.drop (16 * Mod.ahead t.length))) (Mod.twice (Mod.twice (Cip.sealB all nr Z))) else Mod.xor (t.drop (16 * Mod.ahead t.length)) (Mod.twice (Cip.sealB all nr Z))) (Mod.cbcLast all nr (Mod.ahead t.length) Z t))) := by
    unfold Hid Mod.mac
    rw [t16_zero, ← HZ.out]
  generalize hkk1 : Mod.twice (Cip.sealB all nr Z) = k1 at *
  generalize hkk2 : Mod.twice k1 = k2 at *
  have HK1 := hide hk1
  have HK2 := hide hk2
  have HKK2 := hide hkk2
  have hlen : (bytes k1).length = 16 := by rw [bytes_length, hk1]
  have hstored := stored34 hk1 w4
  clear hk1 hk2 hkk1 hkk2
  go_upto_region 5 with fail
  have hb8 := hide (Blk.new w4 34 (bytes k1).toArray)
  have b24 := b3.trans (b4.mono b3.size)
  have b25 : Below w2.heap.size w2 (w4.alloc (.cells (bytes k1).toArray 34)) := b24.alloc b24.size _
  have hw24 := b24.size
  clear hlen hstored b3 b4 b24
  generalize (w4.alloc (.cells (bytes k1).toArray 34)) = w5 at *
  generalize w4.heap.size = g8 at *
  have hr8 := hide (blk_whole hb8.out)
  have s8 := hide (size34' HK1.out)
  go_wp2_with (with_reducible refine wpList_load_mid rfl 34 (.tmp 8) rfl g8 0 rfl (bytes k1) _ hr8.out Try.underlying34 rfl s8.out ?_)
  refine (rdouble_any k1 w5 HK1.out).mono ?_
  rintro e w6 ⟨rfl, b6⟩
  rw [HKK2.out]
  have hlen : (bytes k2).length = 16 := by rw [bytes_length, HK2.out]
  have hstored := stored34 HK2.out w6
  go_upto_region 6 with fail
  have hb9 := hide (Blk.new w6 34 (bytes k2).toArray)
  have b57 : Below w5.heap.size w5 (w6.alloc (.cells (bytes k2).toArray 34)) := b6.alloc b6.size _
  have hb87 := hide (Blk.below hb8.out b57 (Blk.lt hb8.out))
  have h89 := Nat.lt_of_lt_of_le (Blk.lt hb8.out) b6.size
  have b27 := b25.trans (b57.mono b25.size)
  clear hlen hstored b6 b57 hb8 b25 hr8 s8
  generalize (w6.alloc (.cells (bytes k2).toArray 34)) = w7 at *
  generalize w6.heap.size = g9 at *
  go_upto_region 7 with fail
  have hb10 : Hid (Blk (w7.alloc (.cells zeros34 34)) w7.heap.size 34 (bytes Z).toArray) := by
    have := Blk.new w7 34 zeros34
    rw [HZ34.out] at this ⊢
    exact hide this
  have hal := (Below.refl w7.heap.size w7).alloc (Nat.le_refl _) (.cells zeros34 34)
  have hb88 := hide (Blk.below hb87.out hal (Blk.lt hb87.out))
  have hb98 := hide (Blk.below hb9.out hal (Blk.lt hb9.out))
  have h910 := Blk.lt hb9.out
  have b28 := b27.trans (hal.mono b27.size)
  have CI8 := hide (CI.out.below b28)
  have hpl := Nat.lt_of_lt_of_le CI.out.lt b27.size
  have hkl := Nat.lt_of_lt_of_le CI.out.ltk b27.size
  have hwg := Nat.le_trans b2.size b27.size
  have H38 := hide (H3'.out.below (b28.mono b2.size))
  have hbe8 := hide (b2.trans (b28.mono b2.size))
  clear hal hb87 hb9 b27 b28 b2 CI H3' hw24
  generalize (w7.alloc (.cells zeros34 34)) = w8 at *
  generalize w7.heap.size = g10 at *
  go_loopw [1] (fun v1 wr => ∃ (n' c' : Nat) (A' : Option Addr) (last rem : List UInt8), v1 = .slice A' n' c' ∧ n' ≤ c' ∧ Hid (rem.length = n') ∧ Hid (last.length = 16) ∧ Hid (Mod.cbcLast all nr (Mod.ahead t.length) Z t = Mod.cbcLast all nr (Mod.ahead n') last rem) ∧ Hid (t.drop (16 * Mod.ahead t.length) = rem.drop (16 * Mod.ahead n')) ∧ Hid (Reads wr w.heap.size 1 A' n' (bytes rem)) ∧ Hid (Blk wr g10 34 (bytes last).toArray) ∧ Hid (Below g10 w8 wr)) (fun v _ => sliceLen v)
  case atStart => exact ⟨m, f, D, Z, t, rfl, hmf.out, hide hmt.out.symm, HZL, hide (by rw [← hmt.out]), hide (by rw [← hmt.out]), H38, hb10, hide (Below.refl _ _)⟩
  case round =>
    clear H38 hb10 hmf
    obtain ⟨n', c', A', last, rem, rfl, hnc, hrl, hll, hC, hD, HR, hb10, hbe⟩ := hrel
    have h10l := Blk.lt hb10.out
    by_cases hlr : 16 < n'
    · obtain ⟨ad, rfl, hab, _⟩ := HR.out.2 (by omega)
      have hn16 : 16 ≤ n' := by omega
      have hR : Reads wr w.heap.size 1 (some ad) 16 (bytes (rem.take 16)) := ⟨by rw [bytes_length, List.length_take, hrl.out]; omega, fun _ => by
        obtain ⟨ad', e, hb, hc⟩ := HR.out.2 (by omega)
        refine ⟨ad', e, hb, fun j u hj => hc j u ?_⟩
        rw [bytes_take, List.getElem?_take] at hj
        split at hj
        · exact hj
        · cases hj⟩
      have hx : (rem.take 16).length = 16 := by rw [List.length_take, hrl.out]; omega
      have hC2 : Mod.cbcLast all nr (Mod.ahead t.length) Z t = Mod.cbcLast all nr (Mod.ahead (n' - 16)) (Cip.sealB all nr (Mod.xor last (rem.take 16))) (rem.drop 16) := by
        rw [hC.out, ahead_pos hlr, Mod.xor_comm last]
        rfl
      have hD2 : t.drop (16 * Mod.ahead t.length) = (rem.drop 16).drop (16 * Mod.ahead (n' - 16)) := by
        rw [hD.out, ahead_pos hlr, List.drop_drop]
        congr 1
        omega
      have hcut0 := hide (HR.out.cut (k := 16) hn16 hnc)
      have HRR := hide hR
      have HC := hide hC2
      have HD := hide hD2
      have HX := hide hx
      generalize rem.take 16 = x at *
      have hnp : (16 : Int) < (n' : Int) := by omega
      have hcp : (16 : Int) ≤ (c' : Int) := by omega
      have hwl : w.heap.size ≤ wr.heap.size := by omega
      clear hR hC2 hD2 hC hD hx HR hab
      go_upto_region 8 with fail
      go_cut [1] (fun v wc => v = .slice (some ad) n' c' ∧ Hid (wr.grownBy wc (some g10)) ∧ Hid (Blk wc g10 34 (bytes (Cip.sealB all nr (Mod.xor last x))).toArray))
      case first =>
        have hg10w : g10 ≤ wr.drew.heap.size := Nat.le_of_lt h10l
        refine wp_region_noPanic ?_
        refine wp_region_held_drew (S := fun u => wr.grownBy u (some g10)) (by kernel_rfl) (grown_drew wr _) (fun hHeld => ?_)
        refine wpAnyH_take (i := 0) (v := ?v0) rfl (by kernel_rfl) (by kernel_rfl) (by kernel_rfl) (fun _ _ _ h => h) (Or.inl ⟨by rfl, fun u hSu => ?y0⟩) hHeld ?r0
        case y0 =>
            first
              | (go_simp; done)
              | (go_simp; with_reducible rfl)
        simp only [Act.put, List.getElem_toArray, List.getElem_cons_zero, List.setIfInBounds_toArray, List.set_cons_zero, List.set_cons_succ]
        refine wpAnyH_take (i := 2) (v := ?v2) rfl (by kernel_rfl) (by kernel_rfl) (by kernel_rfl) (fun _ _ _ h => h) (Or.inl ⟨by rfl, fun u hSu => ?y2⟩) hHeld ?r2
        case y2 =>
            first
              | (go_simp; done)
              | (go_simp; with_reducible rfl)
        simp only [Act.put, List.getElem_toArray, List.getElem_cons_succ, List.getElem_cons_zero, List.setIfInBounds_toArray, List.set_cons_zero, List.set_cons_succ]
        refine wpAnyH_take (i := 3) (v := ?v3) rfl (by kernel_rfl) (by kernel_rfl) (by kernel_rfl) (fun _ _ _ h => h) (Or.inl ⟨by rfl, fun u hSu => ?y3⟩) hHeld ?r3
        case y3 =>
            first
              | (go_simp; done)
              | (go_simp; with_reducible rfl)
        simp only [Act.put, List.getElem_toArray, List.getElem_cons_succ, List.getElem_cons_zero, List.setIfInBounds_toArray, List.set_cons_zero, List.set_cons_succ]
        refine wpAnyH_ready (rs := [1, 4]) (by kernel_rfl) (by simp) ?_
        refine AllReadyH.cons rfl (fun K hK => ?_) (AllReadyH.cons rfl (fun K hK => ?_) AllReadyH.nil)
        · rw [if_pos (by rfl)]
          refine wp_load_mid 34 (.tmp 10) rfl g10 0 rfl (bytes last) _ (blk_whole (Blk.drew hb10.out)) Try.underlying34 rfl (size34' hll.out) ?_
          refine hK.out _ _ hHeld (fun hHeld => ?_)
          simp only [Act.put, List.getElem_toArray, List.getElem_cons_succ, List.getElem_cons_zero]
          clear hK K
          refine wpAnyH_ready (rs := [4]) (by kernel_rfl) (by simp) ?_
          refine AllReadyH.cons rfl (fun K hK => ?_) AllReadyH.nil
          go_simp
          refine (rblock_any (some ad) 16 c' w.heap.size x _ HRR.out.drew hwl).mono ?_
          rintro e wa ⟨rfl, hb6⟩
          rw [blk16_self HX.out]
          go_wp2_with fail
          refine hK.out _ _ (hHeld.trans (grown_below hb6 _)) (fun hHeld => ?_)
          clear hK K
          have be6 := hbe.out.drew.trans (hb6.mono hg10w)
          have b96 := Blk.below (Blk.drew hb10.out) hb6 (Blk.lt hb10.out)
          refine wpAnyH_ready (rs := [5]) (by kernel_rfl) (by simp) ?_
          refine AllReadyH.cons rfl (fun K hK => ?_) AllReadyH.nil
          go_simp
          refine (rxor_any last x _ hll.out HX.out).mono ?_
          rintro e w71 ⟨rfl, hb7⟩
          go_wp2_with fail
          refine hK.out _ _ (hHeld.trans (grown_below hb7 _)) (fun hHeld => ?_)
          clear hK K
          have be7 := be6.trans (hb7.mono (Nat.le_trans hg10w hb6.size))
          have b97 := Blk.below b96 hb7 (Blk.lt b96)
          refine wpAnyH_ready (rs := [6]) (by kernel_rfl) (by simp) ?_
          refine AllReadyH.cons rfl (fun K hK => ?_) AllReadyH.nil
          go_simp
          refine (rseal_any p wb nr wcc (Mod.xor last x) all _ (Mod.xor_length _ _) (CI8.out.low hpl hkl be7)).mono ?_
          rintro e w81 ⟨rfl, hb8⟩
          go_wp2_with fail
          refine hK.out _ _ (hHeld.trans (grown_below hb8 _)) (fun hHeld => ?_)
          clear hK K
          have b98 := Blk.below b97 hb8 (Blk.lt b97)
          refine wpAnyH_ready (rs := [7]) (by kernel_rfl) (by simp) ?_
          refine AllReadyH.cons rfl (fun K hK => ?_) AllReadyH.nil
          rw [if_pos (by rfl)]
          refine wp_store34 (.tmp 10) (.tmp 34) rfl (g10) (bytes last).toArray (Cip.sealB all nr (Mod.xor last x)) rfl rfl (b98) (Cip.sealB_length _ _ _) (by rw [List.size_toArray, bytes_length, hll.out]) ?_
          refine hK.out _ _ (hHeld.trans (only_setRow _ _ _)) (fun hHeld => ?_)
          simp only [Act.put, List.getElem_toArray, List.getElem_cons_succ, List.getElem_cons_zero]
          clear hK K
          refine wpAnyH_done (by kernel_rfl) ?_ _
          refine NoPanic.normal ?_
          go_wp2
          go_meet
          case rel => exact ⟨rfl, hide hHeld, hide (Blk.setRow b98 _)⟩
        · go_simp
          refine (rblock_any (some ad) 16 c' w.heap.size x _ HRR.out.drew hwl).mono ?_
          rintro e wa ⟨rfl, hb6⟩
          rw [blk16_self HX.out]
          go_wp2_with fail
          refine hK.out _ _ (hHeld.trans (grown_below hb6 _)) (fun hHeld => ?_)
          clear hK K
          have be6 := hbe.out.drew.trans (hb6.mono hg10w)
          have b96 := Blk.below (Blk.drew hb10.out) hb6 (Blk.lt hb10.out)
          refine wpAnyH_ready (rs := [1]) (by kernel_rfl) (by simp) ?_
          refine AllReadyH.cons rfl (fun K hK => ?_) AllReadyH.nil
          rw [if_pos (by rfl)]
          refine wp_load_mid 34 (.tmp 10) rfl g10 0 rfl (bytes last) _ (blk_whole (b96)) Try.underlying34 rfl (size34' hll.out) ?_
          refine hK.out _ _ (hHeld) (fun hHeld => ?_)
          simp only [Act.put, List.getElem_toArray, List.getElem_cons_succ, List.getElem_cons_zero]
          clear hK K
          refine wpAnyH_ready (rs := [5]) (by kernel_rfl) (by simp) ?_
          refine AllReadyH.cons rfl (fun K hK => ?_) AllReadyH.nil
          go_simp
          refine (rxor_any last x _ hll.out HX.out).mono ?_
          rintro e w71 ⟨rfl, hb7⟩
          go_wp2_with fail
          refine hK.out _ _ (hHeld.trans (grown_below hb7 _)) (fun hHeld => ?_)
          clear hK K
          have be7 := be6.trans (hb7.mono (Nat.le_trans hg10w hb6.size))
          have b97 := Blk.below b96 hb7 (Blk.lt b96)
          refine wpAnyH_ready (rs := [6]) (by kernel_rfl) (by simp) ?_
          refine AllReadyH.cons rfl (fun K hK => ?_) AllReadyH.nil
          go_simp
          refine (rseal_any p wb nr wcc (Mod.xor last x) all _ (Mod.xor_length _ _) (CI8.out.low hpl hkl be7)).mono ?_
          rintro e w81 ⟨rfl, hb8⟩
          go_wp2_with fail
          refine hK.out _ _ (hHeld.trans (grown_below hb8 _)) (fun hHeld => ?_)
          clear hK K
          have b98 := Blk.below b97 hb8 (Blk.lt b97)
          refine wpAnyH_ready (rs := [7]) (by kernel_rfl) (by simp) ?_
          refine AllReadyH.cons rfl (fun K hK => ?_) AllReadyH.nil
          rw [if_pos (by rfl)]
          refine wp_store34 (.tmp 10) (.tmp 34) rfl (g10) (bytes last).toArray (Cip.sealB all nr (Mod.xor last x)) rfl rfl (b98) (Cip.sealB_length _ _ _) (by rw [List.size_toArray, bytes_length, hll.out]) ?_
          refine hK.out _ _ (hHeld.trans (only_setRow _ _ _)) (fun hHeld => ?_)
          simp only [Act.put, List.getElem_toArray, List.getElem_cons_succ, List.getElem_cons_zero]
          clear hK K
          refine wpAnyH_done (by kernel_rfl) ?_ _
          refine NoPanic.normal ?_
          go_wp2
          go_meet
          case rel => exact ⟨rfl, hide hHeld, hide (Blk.setRow b98 _)⟩
      case rest =>
        obtain ⟨rfl, hgr, hb10c⟩ := hcut
        have hcutc := hide (hcut0.out.grown hgr.out hwl (fun j hj => by injection hj with hj; omega))
        have hbec := hide (hbe.out.grown hgr.out (by omega) (fun j hj => by injection hj with hj; omega))
        have hnl : Hid ((Cip.sealB all nr (Mod.xor last x)).length = 16) := hide (Cip.sealB_length _ _ _)
        generalize Cip.sealB all nr (Mod.xor last x) = new at *
        clear hcut0 HRR hgr hbe hb10 hnp
        by_cases hc16 : c' = 16
        all_goals
          go_wp2_with fail
          go_roundw
          case rel =>
            refine ⟨_, _, _, new, rem.drop 16, rfl, by omega, hide (by rw [List.length_drop, hrl.out]), hnl, HC, HD, hide ?_, hb10c, hbec⟩
            have hq := hcutc.out
            rw [bytes_drop]
            rw [Nat.mul_one] at hq
            first
              | (rw [if_pos hc16] at hq; exact hq)
              | (rw [if_pos hc16] at hq; subst hc16; exact hq)
              | (rw [if_neg hc16] at hq; exact hq)
          case measure => simp only [sliceLen]; omega
    · have hlr' : n' ≤ 16 := by omega
      have hD1 := hD.out
      have hC1 := hC.out
      rw [ahead_zero hlr', Nat.mul_zero, List.drop_zero] at hD1
      rw [ahead_zero hlr'] at hC1
      have hC1' : Mod.cbcLast all nr (Mod.ahead t.length) Z t = last := hC1
      have hm1 := hmac.out
      rw [hC1', hD1] at hm1
      have HM := hide hm1
      clear hm1 hmac hD hC hD1 hC1 hC1'
      go_wp2_with fail
      refine (rblock_any A' n' c' w.heap.size rem wr HR.out (by omega)).mono ?_
      rintro e w9 ⟨rfl, b9⟩
      have hbl : (blk16 rem).length = 16 := blk16_length rem
      have HBL := hide hbl
      have hlen : (bytes (blk16 rem)).length = 16 := by rw [bytes_length, hbl]
      have hstored := stored34 hbl w9
      clear hbl
      go_upto_region 11 with fail
      have hb11 := hide (Blk.new w9 34 (bytes (blk16 rem)).toArray)
      have bra : Below wr.heap.size wr (w9.alloc (.cells (bytes (blk16 rem)).toArray 34)) := b9.alloc b9.size _
      have hb10a := hide (Blk.below hb10.out bra h10l)
      have hbea := hide (hbe.out.trans (bra.mono (by omega)))
      have hb8a := hide (Blk.below hb88.out hbea.out (by omega))
      have hb9a := hide (Blk.below hb98.out hbea.out h910)
      have CIa := hide (CI8.out.low hpl hkl hbea.out)
      have h1011 := Nat.lt_of_lt_of_le h10l b9.size
      clear hlen hstored b9 bra hb10 hbe HR CI8 hb88 hb98
      generalize (w9.alloc (.cells (bytes (blk16 rem)).toArray 34)) = wa at *
      generalize w9.heap.size = g11 at *
      have hsa := hide (size34' HBL.out)
      go_upto_if 41 with fail
      go_cut [11] (fun v wd => v = .pointer (some ⟨g11, 0, none⟩) ∧ Hid (Blk wd g11 34 (bytes (if rem.length < 16 then Mod.xor (Mod.fill rem) k2 else Mod.xor rem k1)).toArray) ∧ Hid (Below g11 wa wd))
      case first =>
        by_cases hlt : n' < 16
        · have hfl := blk16_fill (show rem.length < 16 by rw [hrl.out]; exact hlt)
          rw [hrl.out] at hfl
          have f0 := blk_byte hb11.out (show n' < (blk16 rem).length by rw [HBL.out]; exact hlt)
          have z0 : wa.frozen? ⟨g11, n', none⟩ = false := Blk.frozen hb11.out _
          have hput := blk_put hb11.out n' 0x80
          rw [hfl, show (I 0x80) = (128 : Int) from rfl] at hput
          have HPUT := hide hput
          have hne16 : ¬ (n' : Int) = 16 := by omega
          generalize (blk16 rem).getD n' 0 = x0 at f0
          have hb9b := hide (Blk.far hb9a.out (show g9 ≠ g11 by omega) (p := ⟨g11, n', none⟩) (.int .u8 128))
          have hbab := hide ((Below.refl g11 wa).setCell (Nat.le_refl _) (p := ⟨g11, n', none⟩) (.int .u8 128))
          clear hput hfl
          go_upto_region 14 with fail
          have hfil : Hid ((Mod.fill rem).length = 16) := hide (Cip.t16_length _)
          generalize wa.setCell ⟨g11, n', none⟩ (.int .u8 128) = wb1 at *
          clear f0 z0 hne16
          have hrf := hide (blk_whole HPUT.out)
          have hr9 := hide (blk_whole hb9b.out)
          have s1 := hide (size34' hfil.out)
          have s2 := hide (size34' HK2.out)
          have ss : Hid ((bytes (Mod.fill rem)).toArray.size = 16) := hide (by rw [List.size_toArray, bytes_length, hfil.out])
          go_wp2_with (first
            | with_reducible refine wpList_load_mid rfl 34 (.tmp 11) rfl g11 0 rfl (bytes (Mod.fill rem)) _ hrf.out Try.underlying34 rfl s1.out ?_
            | with_reducible refine wpList_load_mid rfl 34 (.tmp 9) rfl g9 0 rfl (bytes k2) _ hr9.out Try.underlying34 rfl s2.out ?_
            | (go_at_call 60
               refine (rxor_any (Mod.fill rem) k2 wb1 hfil.out HK2.out).mono ?_
               rintro e wc1 ⟨rfl, bc⟩
               have hb11c := hide (Blk.below HPUT.out bc (Blk.lt HPUT.out)))
            | with_reducible refine wpList_store34 rfl (.tmp 11) (.tmp 50) rfl g11 (bytes (Mod.fill rem)).toArray (Mod.xor (Mod.fill rem) k2) rfl rfl hb11c.out (Mod.xor_length _ _) ss.out ?_)
          go_meet
          case rel =>
            rw [if_pos (show rem.length < 16 by rw [hrl.out]; exact hlt)]
            exact ⟨rfl, hide (Blk.setRow hb11c.out _), hide (below_setRow (hbab.out.trans (bc.mono (Nat.le_of_lt (Blk.lt HPUT.out)))) (Nat.le_refl _) _)⟩
        · have hn16 : n' = 16 := by omega
          have hbs : blk16 rem = rem := blk16_self (by rw [hrl.out, hn16])
          rw [hbs] at hb11 HBL hsa
          have hrf := hide (blk_whole hb11.out)
          have hr8 := hide (blk_whole hb8a.out)
          have s2 := hide (size34' HK1.out)
          have ss : Hid ((bytes rem).toArray.size = 16) := hide (by rw [List.size_toArray, bytes_length, HBL.out])
          have hnlt : ¬ rem.length < 16 := by rw [hrl.out]; omega
          have HNL := hide hnlt
          clear hbs hnlt
          subst hn16
          go_wp2_with (first
            | with_reducible refine wpList_load_mid rfl 34 (.tmp 11) rfl g11 0 rfl (bytes rem) _ hrf.out Try.underlying34 rfl hsa.out ?_
            | with_reducible refine wpList_load_mid rfl 34 (.tmp 8) rfl g8 0 rfl (bytes k1) _ hr8.out Try.underlying34 rfl s2.out ?_
            | (go_at_call 60
               refine (rxor_any rem k1 wa HBL.out HK1.out).mono ?_
               rintro e wc1 ⟨rfl, bc⟩
               have hb11c := hide (Blk.below hb11.out bc (Blk.lt hb11.out)))
            | with_reducible refine wpList_store34 rfl (.tmp 11) (.tmp 44) rfl g11 (bytes rem).toArray (Mod.xor rem k1) rfl rfl hb11c.out (Mod.xor_length _ _) ss.out ?_)
          go_meet
          case rel =>
            rw [if_neg HNL.out]
            exact ⟨rfl, hide (Blk.setRow hb11c.out _), hide (below_setRow (bc.mono (Nat.le_of_lt (Blk.lt hb11.out))) (Nat.le_refl _) _)⟩
      case rest =>
        obtain ⟨rfl, hb11c, hbc⟩ := hcut
        have hm2 : Mod.mac all nr t = Cip.sealB all nr (Mod.xor last (if rem.length < 16 then Mod.xor (Mod.fill rem) k2 else Mod.xor rem k1)) := by
          rw [HM.out, Mod.xor_comm last]
        have hEl : (if rem.length < 16 then Mod.xor (Mod.fill rem) k2 else Mod.xor rem k1).length = 16 := by
          split <;> exact Mod.xor_length _ _
        have HM2 := hide hm2
        have HEL := hide hEl
        clear hm2 HM hEl hb11
        generalize (if rem.length < 16 then Mod.xor (Mod.fill rem) k2 else Mod.xor rem k1) = E at *
        have hb10c := hide (Blk.below hb10a.out hbc.out h1011)
        have CIc := hide (CIa.out.low (by omega) (by omega) hbc.out)
        have hbec := hide (hbea.out.trans (hbc.out.mono (by omega)))
        have hrE := hide (blk_whole hb11c.out)
        have hrL := hide (blk_whole hb10c.out)
        have sE := hide (size34' HEL.out)
        have sL := hide (size34' hll.out)
        have ss : Hid ((bytes last).toArray.size = 16) := hide (by rw [List.size_toArray, bytes_length, hll.out])
        have hg10c := Blk.lt hb10c.out
        clear hb10a hbea hbc hb8a hb9a CIa hsa
        go_upto_region 16 with (first
          | with_reducible refine wpList_load_mid rfl 34 (.tmp 10) rfl g10 0 rfl (bytes last) _ hrL.out Try.underlying34 rfl sL.out ?_
          | with_reducible refine wpList_load_mid rfl 34 (.tmp 11) rfl g11 0 rfl (bytes E) _ hrE.out Try.underlying34 rfl sE.out ?_
          | (go_at_call 60
             refine (rxor_any last E wc hll.out HEL.out).mono ?_
             rintro e we ⟨rfl, be⟩
             have CIe := hide (CIc.out.below be)
             have hb10e := hide (Blk.below hb10c.out be (Blk.lt hb10c.out)))
          | (go_at_call 30
             refine (rseal_any p wb nr wcc (Mod.xor last E) all we (Mod.xor_length _ _) CIe.out).mono ?_
             rintro e wf ⟨rfl, bf⟩
             have hb10f := hide (Blk.below hb10e.out bf (Blk.lt hb10e.out)))
          | with_reducible refine wpList_store34 rfl (.tmp 10) (.tmp 55) rfl g10 (bytes last).toArray (Cip.sealB all nr (Mod.xor last E)) rfl rfl hb10f.out (Cip.sealB_length _ _ _) ss.out ?_)
        have hbz := hide (Blk.setRow hb10f.out (bytes (Cip.sealB all nr (Mod.xor last E))).toArray)
        have hbef := (hbec.out.trans (be.mono (by omega))).trans (bf.mono (Nat.le_trans (Nat.le_of_lt hg10c) be.size))
        have hbeg := hide (below_setRow hbef (Nat.le_refl g10) (bytes (Cip.sealB all nr (Mod.xor last E))).toArray)
        clear hb10e hb10f hbec be bf hbef CIe CIc hb10c hb11c hrE hrL
        generalize wf.setRow g10 (bytes (Cip.sealB all nr (Mod.xor last E))).toArray = wz at *
        go_wp2_with fail
        go_ret2
        rw [HALL.out, HNR.out, HM2.out]
        refine ⟨g10, rfl, ⟨(Cip.sealB_length _ _ _).symm, Nat.le_refl _, (fun h => by cases h), ?_⟩, hbe8.out.trans (hbeg.out.mono hwg)⟩
        have := blk_reads (k := 16) hbz.out rfl (Nat.le_of_eq (Cip.sealB_length _ _ _).symm)
        rw [List.take_of_length_le (Nat.le_of_eq (Cip.sealB_length _ _ _))] at this
        exact this
end Go.Proofs.Ytjcdblnodbadcaa
