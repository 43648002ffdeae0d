/- The walk of the reference's Open of a box. -/
import Derived.Test.YtjcdblnodbadcaaRefMSeal
import Derived.Test.YtjcdblnodbadcaaRefOpen
import Derived.Test.YtjcdblnodbadcaaUnpad
namespace Go.Proofs.Ytjcdblnodbadcaa
open Go.RowKit

set_option maxRecDepth 100000 in
set_option maxHeartbeats 3200000 in
theorem rmopen_any (A B D : Option Addr) (n c d m f : Nat) (l iv t : List UInt8) (w : World) (h : Sl w A n c l) (h' : Sl w B 16 d iv) (h'' : Sl w D m f t) (hl : n = 16 ∨ n = 24 ∨ n = 32) (hm : m ≤ 140737488351248) (h16 : m % 16 = 0) (h0 : 0 < m) :
    Calls Try.prog 39 #[.slice A n c, .slice B 16 d, .slice D m f] w fun e w' => Strip w w' (Mod.openT (Cip.keys l) (n / 4 + 7) iv t) e := by
  have hiv := hide h'.1.symm
  have hmt := hide h''.1
  have hmf := h''.2.1
  obtain ⟨ad, rfl⟩ : ∃ ad, D = some ad := by
    obtain ⟨ad, e, _⟩ := h''.reads.2 h0
    exact ⟨ad, e⟩
  have H3 := hide h''.reads
  have HL := hide hl
  have H1 := hide h
  have H2 := hide h'
  have hmod : (m : Int) % (16 : Int) = 0 := by omega
  have hm0 : ¬ (m : Int) = 0 := by omega
  have HM := hide h16
  clear h h' h'' hl h16
  go_enter Try.func39, Try.ntmps39
  go_wp2_with fail
  refine (rnew_any A n c l w H1.out HL.out).mono ?_
  rintro e w2 ⟨⟨p, wb, wc, rfl, ci⟩, b2⟩
  have H3' := hide (H3.out.below b2)
  have H2' := hide (H2.out.below b2)
  have CI := hide ci
  clear H3 H2 H1 ci
  go_wp2_with fail
  refine (rblock_any B 16 d w2.heap.size iv w2 H2'.out.reads (Nat.le_refl _)).mono ?_
  rintro e w4 ⟨rfl, b4⟩
  rw [blk16_self hiv.out]
  have hT : Hid (Mod.openT (Cip.keys l) (n / 4 + 7) iv t = Mod.unpad (Mod.uncbc (Cip.keys l) (n / 4 + 7) (t.length / 16) iv t)) := hide rfl
  generalize hTe : Mod.uncbc (Cip.keys l) (n / 4 + 7) (t.length / 16) iv t = T at hT
  obtain ⟨N, hN⟩ : ∃ N, N = t.length / 16 := ⟨_, rfl⟩
  have hNm : m = 16 * N := by have := hmt.out; have := HM.out; omega
  rw [← hN] at hTe
  have HTE := hide hTe.symm
  have HX := hide hNm
  clear hTe hNm hN
  generalize hall : Cip.keys l = all at *
  generalize hnr : n / 4 + 7 = nr at *
  have HALL := hide hall
  have HNR := hide hnr
  clear hall hnr hmod hm0
  have hlen : (bytes iv).length = 16 := by rw [bytes_length, hiv.out]
  have hstored := stored34 hiv.out w4
  go_upto_region 7 with fail
  have hb9 := hide (Blk.new w4 34 (bytes iv).toArray)
  have hal := (Below.refl w4.heap.size w4).alloc (Nat.le_refl _) (.cells (bytes iv).toArray 34)
  have b45 : Below w2.heap.size w2 (w4.alloc (.cells (bytes iv).toArray 34)) := b4.trans (hal.mono b4.size)
  have CI5 := hide (CI.out.below b45)
  have hwg := Nat.le_trans b2.size b4.size
  have HR5 := hide ((H3'.out.below (b45.mono b2.size)).more hwg)
  have hbe5 := hide (b2.trans (b45.mono b2.size))
  have hpl := Nat.lt_of_lt_of_le CI.out.lt b4.size
  have hkl := Nat.lt_of_lt_of_le CI.out.ltk b4.size
  have hsz5 : (w4.alloc (.cells (bytes iv).toArray 34)).heap.size = w4.heap.size + 1 := World.size_alloc _ _
  clear hlen hstored CI b4 hal b45 b2 H3' H2'
  generalize (w4.alloc (.cells (bytes iv).toArray 34)) = w5 at *
  generalize w4.heap.size = g9 at *
  obtain ⟨i0, hi, hz0, hz1, hz2⟩ := info_parts info5
  go_wp2_with fail
  go_loopw [11, 12] (fun v11 i wr => ∃ (r k : Nat) (o last : List UInt8), r ≤ N ∧ i = .int .i64 k ∧ Hid (k = 16 * r) ∧ Hid (o.length = 16 * r) ∧ Hid (last.length = 16) ∧ Hid (T = o ++ Mod.uncbc all nr (N - r) last (t.drop (16 * r))) ∧ Hid (wr.ownsRow (g9 + 1) 5 1 v11 o.length (bytes o)) ∧ Hid (Blk wr g9 34 (bytes last).toArray) ∧ Hid (g9 + 1 ≤ wr.heap.size) ∧ Hid (Below g9 w5 wr)) (fun _ i _ => m - (intOf i).toNat)
  case atStart => exact ⟨0, 0, [], iv, Nat.zero_le _, rfl, hide rfl, hide rfl, hiv, HTE, hide (World.ownsRow_nil _ _ _ _), hb9, hide (by rw [hsz5]; exact Nat.le_refl _), hide (Below.refl _ _)⟩
  case round =>
    clear HTE hb9 hiv hsz5
    obtain ⟨r, k, o, last, hrN, rfl, hkr, hol, hll, hT', ho, hb9, hhs, hbe⟩ := hrel
    by_cases hlr : k < m
    · have hkX : k + 16 ≤ m := by have := HX.out; have := hkr.out; omega
      have hrN' : r < N := by have := HX.out; have := hkr.out; omega
      have hrd := reads_part (HR5.out.below hbe.out) hkX
      have HRd := hide hrd
      have hxl : ((t.drop k).take 16).length = 16 := by rw [List.length_take, List.length_drop, ← hmt.out]; omega
      have hT2 : T = o ++ (Mod.xor last (Cip.openB all nr ((t.drop k).take 16)) ++ Mod.uncbc all nr (N - (r + 1)) ((t.drop k).take 16) (t.drop (16 * (r + 1)))) := by
        rw [hT'.out, show N - r = (N - (r + 1)) + 1 by omega, Mod.xor_comm last, hkr.out, show 16 * (r + 1) = 16 * r + 16 by omega, ← List.drop_drop]
        rfl
      have HT2 := hide hT2
      have HXL := hide hxl
      have HOX := hide (Cip.openB_length all nr hxl)
      clear hT2 hT' hxl hrd
      generalize (t.drop k).take 16 = x at *
      obtain ⟨e, hek⟩ : ∃ e, e = k + 16 := ⟨_, rfl⟩
      have hw2 : IntKind.i64.wrap ((k : Int) + (16 : Int)) = (e : Int) := by rw [IntWalk.i64_in _ (by omega)]; omega
      have hw1 : (k : Int) + (16 : Int) = (e : Int) := by omega
      have hw3 : max (e : Int) 0 = (e : Int) := by omega
      have z1 : (0 : Int) ≤ (e : Int) := by omega
      have z2 : (e : Int) ≤ (f : Int) := by omega
      have z3 : (0 : Int) ≤ (k : Int) := by omega
      have z4 : (k : Int) ≤ (e : Int) := by omega
      have hsub : e - k = 16 := by omega
      have hnc : ¬ f = k := by omega
      have HE := hide hek
      clear hek
      have hg9w : g9 ≤ wr.heap.size := Nat.le_of_succ_le hhs.out
      go_wp2_with fail
      refine (rblock_any (some (ad.add k)) 16 (f - k) g9 x wr HRd.out hg9w).mono ?_
      rintro e6 w6 ⟨rfl, b6⟩
      rw [blk16_self HXL.out]
      have hlen : (bytes x).length = 16 := by rw [bytes_length, HXL.out]
      have hstored := stored34 HXL.out w6
      go_upto_region 12 with fail
      have hb13 := hide (Blk.new w6 34 (bytes x).toArray)
      have b67 : Below wr.heap.size wr (w6.alloc (.cells (bytes x).toArray 34)) := b6.alloc b6.size _
      have hb97 := hide (Blk.below hb9.out b67 (Blk.lt hb9.out))
      have hbe7 := hide (hbe.out.trans (b67.mono hg9w))
      have CI7 := hide (CI5.out.low hpl hkl hbe7.out)
      have ho7 := hide (ho.out.kept (grown_below b67 none) (by cases u11.ownBlock <;> simp))
      have hsz7 := Nat.le_trans hhs.out b67.size
      have h13 : Hid (some w6.heap.size ≠ u11.ownBlock) := hide (fun e => by have := (ho.out.lt _ e.symm).2; have := b6.size; omega)
      have h139 : w6.heap.size ≠ g9 := by have := hhs.out; have := b6.size; omega
      clear hlen hstored b6 b67 hb9 hbe ho hhs HRd hg9w
      generalize (w6.alloc (.cells (bytes x).toArray 34)) = w7 at *
      generalize w6.heap.size = g13 at *
      go_cut [14] (fun v wc => ∃ g14, v = .pointer (some ⟨g14, 0, none⟩) ∧ w7.heap.size ≤ g14 ∧ Hid (Blk wc g14 34 (bytes (Mod.xor last (Cip.openB all nr x))).toArray) ∧ Hid (Below w7.heap.size w7 wc))
      case first =>
        refine wp_region_noPanic ?_
        refine wp_region_held_drew (S := fun u => Below w7.heap.size w7 u) (by kernel_rfl) ((Below.refl _ _).drew) (fun hHeld => ?_)
        refine wpAnyH_take (i := 0) (v := .agg (bytes last).toArray) rfl (by kernel_rfl) (by kernel_rfl) (by kernel_rfl) (fun _ _ _ h => h) (yieldsIf_load_mid (by rfl) 34 (.tmp 10) rfl g9 0 rfl (bytes last) _ (fun u hSu => blk_whole (Blk.below hb97.out hSu (Blk.lt hb97.out))) Try.underlying34 rfl (size34' hll.out)) hHeld ?_
        simp only [Act.put, List.getElem_toArray, List.getElem_cons_zero, List.setIfInBounds_toArray, List.set_cons_zero, List.set_cons_succ]
        refine wpAnyH_take (i := 1) (v := ?v1) rfl (by kernel_rfl) (by kernel_rfl) (by kernel_rfl) (fun _ _ _ h => h) (Or.inl ⟨by rfl, fun u hSu => ?y1⟩) hHeld ?r1
        case y1 =>
            first
              | (go_simp; done)
              | (go_simp; with_reducible rfl)
        simp only [Act.put, List.getElem_toArray, List.getElem_cons_succ, List.getElem_cons_zero, List.setIfInBounds_toArray, List.set_cons_zero, List.set_cons_succ]
        refine wpAnyH_take (i := 2) (v := .agg (bytes x).toArray) rfl (by kernel_rfl) (by kernel_rfl) (by kernel_rfl) (fun _ _ _ h => h) (yieldsIf_load_mid (by rfl) 34 (.tmp 13) rfl g13 0 rfl (bytes x) _ (fun u hSu => blk_whole (Blk.below hb13.out hSu (Blk.lt hb13.out))) Try.underlying34 rfl (size34' HXL.out)) hHeld ?_
        simp only [Act.put, List.getElem_toArray, List.getElem_cons_succ, List.getElem_cons_zero, List.setIfInBounds_toArray, List.set_cons_zero, List.set_cons_succ]
        refine wpAnyH_ready (rs := [3, 5]) (by kernel_rfl) (by simp) ?_
        refine AllReadyH.cons rfl (fun K hK => ?_) (AllReadyH.cons rfl (fun K hK => ?_) AllReadyH.nil)
        · go_simp
          refine (ropen_any p wb nr wc x all _ HXL.out (CI7.out.below hHeld)).mono ?_
          rintro e w71 ⟨rfl, hb5⟩
          go_wp2_with fail
          refine hK.out _ _ (hHeld.trans (hb5.mono hHeld.size)) (fun hHeld => ?_)
          clear hK K
          refine wpAnyH_ready (rs := [4, 5]) (by kernel_rfl) (by simp) ?_
          refine AllReadyH.cons rfl (fun K hK => ?_) (AllReadyH.cons rfl (fun K hK => ?_) AllReadyH.nil)
          · go_simp
            refine (rxor_any last (Cip.openB all nr x) _ hll.out HOX.out).mono ?_
            rintro e w72 ⟨rfl, hb6⟩
            go_wp2_with fail
            refine hK.out _ _ (hHeld.trans (hb6.mono hHeld.size)) (fun hHeld => ?_)
            clear hK K
            have hgle := hHeld.size
            have hbz := hide (Blk.new w72 34 zeros34)
            refine wpAnyH_ready (rs := [5]) (by kernel_rfl) (by simp) ?_
            refine AllReadyH.cons rfl (fun K hK => ?_) AllReadyH.nil
            go_simp
            refine hK.out _ _ (hHeld.alloc hHeld.size _) (fun hHeld => ?_)
            clear hK K
            refine wpAnyH_ready (rs := [6]) (by kernel_rfl) (by simp) ?_
            refine AllReadyH.cons rfl (fun K hK => ?_) AllReadyH.nil
            rw [if_pos (by rfl)]
            refine wp_store34 (.tmp 14) (.tmp 54) rfl (w72.heap.size) zeros34 (Mod.xor last (Cip.openB all nr x)) rfl rfl (hbz.out) (Mod.xor_length _ _) rfl ?_
            refine hK.out _ _ (below_setRow hHeld hgle _) (fun hHeld => ?_)
            simp only [Act.put, List.getElem_toArray, List.getElem_cons_succ, List.getElem_cons_zero]
            clear hK K
            refine wpAnyH_done (by kernel_rfl) ?_ _
            refine NoPanic.normal ?_
            go_wp2
            go_meet
            case rel => exact ⟨_, rfl, hgle, hide (Blk.setRow (hbz.out) _), hide hHeld⟩
          · go_simp
            have hgle := hHeld.size
            have hbz := hide (Blk.new w71 34 zeros34)
            have hlz : w71.heap.size < (w71.alloc (.cells zeros34 34)).heap.size := by simp
            refine hK.out _ _ (hHeld.alloc hHeld.size _) (fun hHeld => ?_)
            clear hK K
            refine wpAnyH_ready (rs := [4]) (by kernel_rfl) (by simp) ?_
            refine AllReadyH.cons rfl (fun K hK => ?_) AllReadyH.nil
            go_simp
            refine (rxor_any last (Cip.openB all nr x) _ hll.out HOX.out).mono ?_
            rintro e w72 ⟨rfl, hb6⟩
            go_wp2_with fail
            refine hK.out _ _ (hHeld.trans (hb6.mono hHeld.size)) (fun hHeld => ?_)
            clear hK K
            have hbz2 := hide (Blk.below hbz.out hb6 hlz)
            refine wpAnyH_ready (rs := [6]) (by kernel_rfl) (by simp) ?_
            refine AllReadyH.cons rfl (fun K hK => ?_) AllReadyH.nil
            rw [if_pos (by rfl)]
            refine wp_store34 (.tmp 14) (.tmp 54) rfl (w71.heap.size) zeros34 (Mod.xor last (Cip.openB all nr x)) rfl rfl (hbz2.out) (Mod.xor_length _ _) rfl ?_
            refine hK.out _ _ (below_setRow hHeld hgle _) (fun hHeld => ?_)
            simp only [Act.put, List.getElem_toArray, List.getElem_cons_succ, List.getElem_cons_zero]
            clear hK K
            refine wpAnyH_done (by kernel_rfl) ?_ _
            refine NoPanic.normal ?_
            go_wp2
            go_meet
            case rel => exact ⟨_, rfl, hgle, hide (Blk.setRow (hbz2.out) _), hide hHeld⟩
        · go_simp
          have hgle : w7.heap.size ≤ w7.drew.heap.size := Nat.le_refl _
          have hbz := hide (Blk.new w7.drew 34 zeros34)
          have hlz : w7.drew.heap.size < (w7.drew.alloc (.cells zeros34 34)).heap.size := by simp
          refine hK.out _ _ (hHeld.alloc hHeld.size _) (fun hHeld => ?_)
          clear hK K
          refine wpAnyH_ready (rs := [3]) (by kernel_rfl) (by simp) ?_
          refine AllReadyH.cons rfl (fun K hK => ?_) AllReadyH.nil
          go_simp
          refine (ropen_any p wb nr wc x all _ HXL.out (CI7.out.below hHeld)).mono ?_
          rintro e w71 ⟨rfl, hb5⟩
          go_wp2_with fail
          refine hK.out _ _ (hHeld.trans (hb5.mono hHeld.size)) (fun hHeld => ?_)
          clear hK K
          have hbz1 := hide (Blk.below hbz.out hb5 hlz)
          refine wpAnyH_ready (rs := [4]) (by kernel_rfl) (by simp) ?_
          refine AllReadyH.cons rfl (fun K hK => ?_) AllReadyH.nil
          go_simp
          refine (rxor_any last (Cip.openB all nr x) _ hll.out HOX.out).mono ?_
          rintro e w72 ⟨rfl, hb6⟩
          go_wp2_with fail
          refine hK.out _ _ (hHeld.trans (hb6.mono hHeld.size)) (fun hHeld => ?_)
          clear hK K
          have hbz2 := hide (Blk.below hbz1.out hb6 (Blk.lt hbz1.out))
          refine wpAnyH_ready (rs := [6]) (by kernel_rfl) (by simp) ?_
          refine AllReadyH.cons rfl (fun K hK => ?_) AllReadyH.nil
          rw [if_pos (by rfl)]
          refine wp_store34 (.tmp 14) (.tmp 54) rfl (w7.drew.heap.size) zeros34 (Mod.xor last (Cip.openB all nr x)) rfl rfl (hbz2.out) (Mod.xor_length _ _) rfl ?_
          refine hK.out _ _ (below_setRow hHeld hgle _) (fun hHeld => ?_)
          simp only [Act.put, List.getElem_toArray, List.getElem_cons_succ, List.getElem_cons_zero]
          clear hK K
          refine wpAnyH_done (by kernel_rfl) ?_ _
          refine NoPanic.normal ?_
          go_wp2
          go_meet
          case rel => exact ⟨_, rfl, hgle, hide (Blk.setRow (hbz2.out) _), hide hHeld⟩
      case rest =>
        obtain ⟨g14, rfl, hg14, hb14, hbc⟩ := hcut
        have hyl : Hid ((Mod.xor last (Cip.openB all nr x)).length = 16) := hide (Mod.xor_length _ _)
        generalize Mod.xor last (Cip.openB all nr x) = y at *
        have hoc := hide (ho7.out.kept (grown_below hbc.out none) (by cases u11.ownBlock <;> simp))
        have hb9c := hide (Blk.below hb97.out hbc.out (Blk.lt hb97.out))
        have hb13c := hide (Blk.below hb13.out hbc.out (Blk.lt hb13.out))
        have hbec := hide (hbe7.out.trans (hbc.out.mono (Nat.le_of_succ_le hsz7)))
        have hsz := Nat.le_trans hsz7 hbc.out.size
        have h137 := Blk.lt hb13.out
        have hrn0 := blk_reads (k := 16) hb14.out rfl (by rw [hyl.out]; omega)
        rw [List.take_of_length_le (by rw [hyl.out]; omega)] at hrn0
        have hrn := hide hrn0
        have hbb : (o.length + 16) * 1 ≤ 140737488355328 := by have := hol.out; have := HX.out; omega
        have hml : o.length + 16 ≤ maxLen := by have := hol.out; have := HX.out; unfold maxLen; omega
        have hou : ∀ j, u11.ownBlock = some j → g9 + 1 ≤ j ∧ j < w7.heap.size := ho7.out.lt
        have h13o : Hid (some g13 ≠ u11.ownBlock) := h13
        have HOU := hide hou
        have hxs : Hid ((bytes last).toArray.size = 16) := hide (by rw [List.size_toArray, bytes_length, hll.out])
        have hx34 := hide (size34' HXL.out)
        clear hrn0 ho7 hb97 hb13 hbe7 hbc CI7 z1 z2 z3 z4 hw1 hw2 hw3 hnc hsub HE e hou HOX
        go_upto_region 14 with (at_builtin; refine wpList_append_any _ rfl (.tmp 55) (.tmp 56) _ rfl (g9 + 1) 5 i0 _ 1 1 Try.underlying26 hi hz0 hz1 hz2 rfl (by omega) u11 o.length (bytes o) rfl hoc.out wc.heap.size (some ⟨g14, 0, none⟩) 16 16 (bytes y) rfl hrn.out (bytes_one _) hml hbb hsz ?_; intro v8 w8 hown8 hg8 hat8)
        have hb98 := hide (Blk.grown hb9c.out hg8 (fun e => by have := (hoc.out.lt g9 e.symm).1; omega))
        have hb138 := hide (Blk.grown hb13c.out hg8 h13o.out)
        have hr13 := hide (blk_whole hb138.out)
        have hown9 := hide hown8
        have hbe8 := hide (hbec.out.grown hg8 (Nat.le_of_succ_le hsz) (fun j hj => by have := (hoc.out.lt j hj).1; omega))
        have hsz8 := Nat.le_trans hsz hg8.size
        clear hg8 hat8 hown8 hb9c hb13c hbec hoc hrn hb138
        go_wp2_with (first
          | with_reducible refine wpList_load_mid rfl 34 (.tmp 13) rfl g13 0 rfl (bytes x) _ hr13.out Try.underlying34 rfl hx34.out ?_
          | with_reducible refine wpList_store34 rfl (.tmp 10) (.tmp 58) rfl g9 (bytes last).toArray x rfl rfl hb98.out HXL.out hxs.out ?_)
        go_roundw
        case rel =>
          have hol2 : (o ++ y).length = o.length + 16 := by rw [List.length_append, hyl.out]
          refine ⟨r + 1, k + 16, o ++ y, x, hrN', by go_num, hide (by have := hkr.out; omega), hide (by rw [hol2, hol.out]; omega), HXL, hide (by rw [List.append_assoc]; exact HT2.out), hide ?_, hide (Blk.setRow hb98.out _), hide (by simpa [World.setRow] using hsz8), hide (below_setRow hbe8.out (Nat.le_refl _) _)⟩
          rw [bytes_append, hol2]
          exact hown9.out.kept (only_setRow _ _ _) (.inr (fun e => by have := (hown9.out.lt g9 e).1; omega))
        case measure => simp only [intOf]; omega
    · have hrE : r = N := by have := HX.out; have := hkr.out; omega
      have hTo : T = o := by
        rw [hT'.out, hrE, Nat.sub_self]
        exact List.append_nil o
      have HTO := hide hTo
      obtain ⟨A2, c2, rfl, s2⟩ := Sl.of_own ho.out
      have hol3 : Hid (o.length ≤ 140737488355000) := hide (by have := hol.out; have := HX.out; omega)
      have S2 := hide s2
      clear hTo hT' hrE s2
      go_wp2_with fail
      refine (unpadR_any A2 _ c2 o wr S2.out hol3.out).mono ?_
      rintro e w9 ⟨⟨A3, n3, c3, rfl, s3, b3⟩, hw9⟩
      rw [← Mod.unpad_eq] at s3 ⊢
      go_wp2_with fail
      go_ret2
      rw [HALL.out, HNR.out, hT.out, HTO.out]
      exact ⟨A3, n3, c3, rfl, s3, (hbe5.out.trans (hbe.out.mono hwg)).trans (b3.mono (Nat.le_trans hwg (Nat.le_of_succ_le hhs.out)))⟩
end Go.Proofs.Ytjcdblnodbadcaa
