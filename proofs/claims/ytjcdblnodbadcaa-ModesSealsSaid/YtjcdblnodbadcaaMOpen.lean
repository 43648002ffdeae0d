/- The walk of modes.Open. -/
import Derived.Test.YtjcdblnodbadcaaMSeal
import Derived.Test.YtjcdblnodbadcaaUnpad
namespace Go.Proofs.Ytjcdblnodbadcaa
open Go.RowKit

theorem range_rel {u w : World} (hS : Below w.heap.size w u) {g : Nat} {l : List UInt8} (h : Blk w g 34 (bytes l).toArray) : Blk u g 34 (bytes l).toArray := Blk.below h hS (Blk.lt h)
set_option maxRecDepth 100000 in
set_option maxHeartbeats 3200000 in
theorem mopen_any (A B D : Option Addr) (n c d m f : Nat) (l iv t : List UInt8) (w : World) (h : Sl w A n c l) (h' : Sl w B 16 d iv) (h'' : Sl w D m f t) (hl : n = 16 ∨ n = 24 ∨ n = 32) (hm : m ≤ 140737488351248) (h16 : m % 16 = 0) :
    Calls Try.prog 38 #[.slice A n c, .slice B 16 d, .slice D m f] w fun e w' => Strip w w' (Mod.openT (Cip.keys l) (n / 4 + 7) iv t) e := by
  have hiv := hide h'.1.symm
  have hmt := hide h''.1
  have hmf := hide h''.2.1
  have H3 := hide h''.reads
  have HL := hide hl
  have H1 := hide h
  have H2 := hide h'
  have hmod : (m : Int) % (16 : Int) = 0 := by omega
  have HM := hide h16
  clear h h' h'' hl h16
  go_enter Try.func38, Try.ntmps38
  go_wp2_with fail
  refine (cipherOk_any A B n c d l iv w H1.out H2.out HL.out).mono ?_
  rintro e w2 ⟨⟨p, kb, kc, rfl, ci⟩, b2⟩
  have hlen : (bytes iv).length = 16 := by rw [bytes_length, hiv.out]
  have hstored := stored34 hiv.out w2
  have H3' := hide (H3.out.below b2)
  have CI := hide ci
  have HW2 := hide b2.size
  clear H3 H1 H2 ci
  go_upto_region 2 with fail
  have hb9 := hide (Blk.new w2 34 (bytes iv).toArray)
  have hwa : w2.heap.size < (w2.alloc (.cells (bytes iv).toArray 34)).heap.size := by simp
  have CI3 := hide (CI.out.below ((Below.refl _ w2).alloc (Nat.le_refl _) (.cells (bytes iv).toArray 34)))
  have H3b := hide (H3'.out.below (b2.alloc b2.size (.cells (bytes iv).toArray 34) |> fun h => (((Below.refl _ w2).alloc (Nat.le_refl _) (.cells (bytes iv).toArray 34)).mono b2.size)))
  have hbe3 := b2.alloc b2.size (.cells (bytes iv).toArray 34)
  clear hlen hstored H3' CI b2
  generalize (w2.alloc (.cells (bytes iv).toArray 34)) = w3 at *
  have hT : Hid (Mod.openT (Cip.keys l) (n / 4 + 7) iv t = Mod.unpad (Mod.uncbc (Cip.keys l) (n / 4 + 7) (t.length / 16) iv t)) := hide rfl
  generalize hTe : Mod.uncbc (Cip.keys l) (n / 4 + 7) (t.length / 16) iv t = T at hT
  obtain ⟨N, hN⟩ : ∃ N, N = t.length / 16 := ⟨_, rfl⟩
  have hNm : m = 16 * N := by have := hmt.out; have := HM.out; omega
  rw [← hN] at hTe
  have HTE := hide hTe.symm
  have HNM := hide hNm
  have HNB : Hid (16 * N ≤ 140737488351248) := hide (by omega)
  clear hTe hNm hN
  generalize hall : Cip.keys l = all at *
  generalize hnr : n / 4 + 7 = nr at *
  have HALL := hide hall
  have HNR := hide hnr
  have hnr2 : 2 ≤ nr := by omega
  clear hall hnr
  have hwg9 : w.heap.size ≤ w2.heap.size := HW2.out
  have hg9l : w2.heap.size < w3.heap.size := hwa
  have hwl : w.heap.size ≤ w3.heap.size := hbe3.size
  have HP : Hid (p < w3.heap.size ∧ kb < w3.heap.size) := hide ⟨CI3.out.lt, CI3.out.ltk⟩
  generalize hg9n : w2.heap.size = g9 at *
  generalize hhN : w3.heap.size = hN at hg9l hwl HP
  obtain ⟨i0, hi, hz0, hz1, hz2⟩ := info_parts info5
  clear HM hm
  go_wp2_with fail
  rw [hmod]
  clear hmod
  go_loopw [11, 12] (fun v11 v12 wr => ∃ (r n' c' : Nat) (A' : Option Addr) (o last rem : List UInt8), v12 = .slice A' n' c' ∧ r ≤ N ∧ n' = 16 * r ∧ n' ≤ c' ∧ o.length = 16 * (N - r) ∧ last.length = 16 ∧ Hid (T = o ++ Mod.uncbc all nr r last rem) ∧ Hid (Reads wr w.heap.size 1 A' n' (bytes rem)) ∧ Hid (wr.ownsRow hN 5 1 v11 o.length (bytes o)) ∧ Hid (Blk wr g9 34 (bytes last).toArray) ∧ Hid (Ci wr p kb nr kc all) ∧ hN ≤ wr.heap.size ∧ Hid (Below w.heap.size w wr)) (fun _ v _ => sliceLen v)
  case atStart => exact ⟨N, m, f, D, [], iv, t, rfl, Nat.le_refl _, HNM.out, hmf.out, by simp, hiv.out, HTE, H3b, hide (World.ownsRow_nil _ _ _ _), hb9, CI3, by omega, hide hbe3⟩
  case round =>
    clear HTE H3b hb9 CI3 hbe3 hiv
    obtain ⟨r, n', c', A', o, last, rem, rfl, hrN, hn', hnc, hol, hll, hT', HR, ho, hb9, CI, hhs, hbe⟩ := hrel
    by_cases hlr : 0 < r
    · obtain ⟨ad, rfl, hab, _⟩ := HR.out.2 (by omega)
      have hn16 : 16 ≤ n' := by omega
      have hreml : rem.length = n' := by have := HR.out.1; rw [bytes_length] at this; omega
      have hat : ∀ u : World, (Instr.arrayAt 34 (.slice (some ad) n' c')).run Try.prog u = .ok (.pointer (some ad)) u := fun u => run_arrayAt u 34 5 16 _ n' c' Try.underlying34 hn16
      have hR : Reads wr w.heap.size 1 (some ad) 16 (bytes (rem.take 16)) := ⟨by rw [bytes_length, List.length_take]; omega, fun _ => by
        obtain ⟨ad', e, hb, hc⟩ := HR.out.2 (by omega)
        refine ⟨ad', e, hb, fun j u hj => hc j u ?_⟩
        rw [bytes_take, List.getElem?_take] at hj
        split at hj
        · exact hj
        · cases hj⟩
      have hx : (rem.take 16).length = 16 := by rw [List.length_take]; omega
      obtain ⟨q, rfl⟩ : ∃ q, r = q + 1 := ⟨r - 1, by omega⟩
      have hT2 : T = o ++ (Mod.xor (Cip.openB all nr (rem.take 16)) last ++ Mod.uncbc all nr q (rem.take 16) (rem.drop 16)) := hT'.out
      have hcut0 := hide (HR.out.cut (k := 16) hn16 hnc)
      have HN := hide hn'
      have HRR := hide hR
      have HT := hide hT2
      have HX := hide hx
      have HLL := hide hll
      generalize rem.take 16 = x at *
      have hnp : (0 : Int) < (n' : Int) := by omega
      have hoxl : (Cip.openB all nr x).length = 16 := Cip.openB_length _ _ hx
      clear hn' hR hT2 hT' hx hll hreml HR hab
      go_upto_region 10 with fail
      go_cut [13] (fun v wc => ∃ g13, v = .pointer (some ⟨g13, 0, none⟩) ∧ wr.heap.size ≤ g13 ∧ Hid (Blk wc g13 34 (bytes (Mod.xor (Cip.openB all nr x) last)).toArray) ∧ Hid (Below wr.heap.size wr wc))
      case first =>
        refine wp_region_noPanic ?_
        refine wp_region_held_drew (S := Below wr.heap.size wr) (by kernel_rfl) ((Below.refl _ wr).drew) (fun hHeld => ?_)
        refine wpAnyH_take (i := 0) (v := ?v0) rfl (by kernel_rfl) (by kernel_rfl) (by kernel_rfl) (fun _ _ _ h => h) (Or.inl ⟨by rfl, fun u hSu => ?y0⟩) hHeld ?r0
        case y0 =>
            first
              | (go_simp; done)
              | (go_simp; with_reducible rfl)
        simp only [Act.put, List.getElem_toArray, List.getElem_cons_zero, List.setIfInBounds_toArray, List.set_cons_zero, List.set_cons_succ]
        refine wpAnyH_take (i := 1) (v := ?v1) rfl (by kernel_rfl) (by kernel_rfl) (by kernel_rfl) (fun _ _ _ h => h) (Or.inl ⟨by rfl, fun u hSu => ?y1⟩) hHeld ?r1
        case y1 =>
            first
              | (go_simp; done)
              | (go_simp; with_reducible rfl)
        simp only [Act.put, List.getElem_toArray, List.getElem_cons_succ, List.getElem_cons_zero, List.setIfInBounds_toArray, List.set_cons_zero, List.set_cons_succ]
        refine wpAnyH_take (i := 2) (v := ?v2) rfl (by kernel_rfl) (by kernel_rfl) (by kernel_rfl) (fun _ _ _ h => h) (Or.inl ⟨by rfl, fun u hSu => ?y2⟩) hHeld ?r2
        case y2 =>
            first
              | (go_simp; done)
              | (go_simp; with_reducible rfl)
        simp only [Act.put, List.getElem_toArray, List.getElem_cons_succ, List.getElem_cons_zero, List.setIfInBounds_toArray, List.set_cons_zero, List.set_cons_succ]
        refine wpAnyH_take (i := 3) (v := .agg (bytes x).toArray) rfl (by kernel_rfl) (by kernel_rfl) (by kernel_rfl) (fun _ _ _ h => h) (yieldsIf_load_at (by rfl) 34 (.tmp 38) rfl (ad) rfl _ (fun u hSu => load34_at (HRR.out.below (hSu.mono (Nat.le_trans hwl hhs))) HX.out)) hHeld ?_
        simp only [Act.put, List.getElem_toArray, List.getElem_cons_succ, List.getElem_cons_zero, List.setIfInBounds_toArray, List.set_cons_zero, List.set_cons_succ]
        refine wpAnyH_take (i := 5) (v := .agg (bytes last).toArray) rfl (by kernel_rfl) (by kernel_rfl) (by kernel_rfl) (fun _ _ _ h => h) (yieldsIf_load_mid (by rfl) 34 (.tmp 9) rfl g9 0 rfl (bytes last) _ (fun u hSu => blk_whole (range_rel hSu hb9.out)) Try.underlying34 rfl (size34' HLL.out)) hHeld ?_
        simp only [Act.put, List.getElem_toArray, List.getElem_cons_succ, List.getElem_cons_zero, List.setIfInBounds_toArray, List.set_cons_zero, List.set_cons_succ]
        have hb0 := hide hHeld
        refine wpAnyH_ready (rs := [4, 7]) (by kernel_rfl) (by simp) ?_
        refine AllReadyH.cons rfl (fun K hK => ?_) (AllReadyH.cons rfl (fun K hK => ?_) AllReadyH.nil)
        · go_simp
          refine (open_any p kb nr kc x all _ HX.out (CI.out.below hHeld)).mono ?_
          rintro e w5 ⟨rfl, hb5⟩
          go_wp2_with fail
          refine hK.out _ _ (hHeld.trans (hb5.mono hHeld.size)) (fun hHeld => ?_)
          clear hK K
          refine wpAnyH_ready (rs := [6, 7]) (by kernel_rfl) (by simp) ?_
          refine AllReadyH.cons rfl (fun K hK => ?_) (AllReadyH.cons rfl (fun K hK => ?_) AllReadyH.nil)
          · go_simp
            refine (xor_any (Cip.openB all nr x) last _ hoxl HLL.out).mono ?_
            rintro e w6 ⟨rfl, hb6⟩
            go_wp2_with fail
            refine hK.out _ _ (hHeld.trans (hb6.mono hHeld.size)) (fun hHeld => ?_)
            clear hK K
            have hgle := hHeld.size
            have hbz := hide (Blk.new w6 34 zeros34)
            refine wpAnyH_ready (rs := [7]) (by kernel_rfl) (by simp) ?_
            refine AllReadyH.cons rfl (fun K hK => ?_) AllReadyH.nil
            go_simp
            refine hK.out _ _ (hHeld.alloc hHeld.size _) (fun hHeld => ?_)
            clear hK K
            refine wpAnyH_ready (rs := [8]) (by kernel_rfl) (by simp) ?_
            refine AllReadyH.cons rfl (fun K hK => ?_) AllReadyH.nil
            rw [if_pos (by rfl)]
            refine wp_store34 (.tmp 13) (.tmp 42) rfl (w6.heap.size) zeros34 (Mod.xor (Cip.openB all nr x) last) rfl rfl (hbz.out) (Mod.xor_length _ _) rfl ?_
            refine hK.out _ _ (below_setRow hHeld hgle _) (fun hHeld => ?_)
            simp only [Act.put, List.getElem_toArray, List.getElem_cons_succ, List.getElem_cons_zero]
            clear hK K
            refine wpAnyH_done (by kernel_rfl) ?_ _
            refine NoPanic.normal ?_
            go_wp2
            go_meet
            case rel => exact ⟨_, rfl, hgle, hide (Blk.setRow (hbz.out) _), hide hHeld⟩
          · go_simp
            have hgle := hHeld.size
            have hbz := hide (Blk.new w5 34 zeros34)
            have hlz : w5.heap.size < (w5.alloc (.cells zeros34 34)).heap.size := by simp
            refine hK.out _ _ (hHeld.alloc hHeld.size _) (fun hHeld => ?_)
            clear hK K
            refine wpAnyH_ready (rs := [6]) (by kernel_rfl) (by simp) ?_
            refine AllReadyH.cons rfl (fun K hK => ?_) AllReadyH.nil
            go_simp
            refine (xor_any (Cip.openB all nr x) last _ hoxl HLL.out).mono ?_
            rintro e w6 ⟨rfl, hb6⟩
            go_wp2_with fail
            refine hK.out _ _ (hHeld.trans (hb6.mono hHeld.size)) (fun hHeld => ?_)
            clear hK K
            have hbz2 := hide (Blk.below hbz.out hb6 hlz)
            refine wpAnyH_ready (rs := [8]) (by kernel_rfl) (by simp) ?_
            refine AllReadyH.cons rfl (fun K hK => ?_) AllReadyH.nil
            rw [if_pos (by rfl)]
            refine wp_store34 (.tmp 13) (.tmp 42) rfl (w5.heap.size) zeros34 (Mod.xor (Cip.openB all nr x) last) rfl rfl (hbz2.out) (Mod.xor_length _ _) rfl ?_
            refine hK.out _ _ (below_setRow hHeld hgle _) (fun hHeld => ?_)
            simp only [Act.put, List.getElem_toArray, List.getElem_cons_succ, List.getElem_cons_zero]
            clear hK K
            refine wpAnyH_done (by kernel_rfl) ?_ _
            refine NoPanic.normal ?_
            go_wp2
            go_meet
            case rel => exact ⟨_, rfl, hgle, hide (Blk.setRow (hbz2.out) _), hide hHeld⟩
        · go_simp
          have hgle : wr.heap.size ≤ wr.drew.heap.size := Nat.le_refl _
          have hbz := hide (Blk.new wr.drew 34 zeros34)
          have hlz : wr.drew.heap.size < (wr.drew.alloc (.cells zeros34 34)).heap.size := by simp
          refine hK.out _ _ (hHeld.alloc hHeld.size _) (fun hHeld => ?_)
          clear hK K
          refine wpAnyH_ready (rs := [4]) (by kernel_rfl) (by simp) ?_
          refine AllReadyH.cons rfl (fun K hK => ?_) AllReadyH.nil
          go_simp
          refine (open_any p kb nr kc x all _ HX.out (CI.out.below hHeld)).mono ?_
          rintro e w5 ⟨rfl, hb5⟩
          go_wp2_with fail
          refine hK.out _ _ (hHeld.trans (hb5.mono hHeld.size)) (fun hHeld => ?_)
          clear hK K
          have hbz1 := hide (Blk.below hbz.out hb5 hlz)
          refine wpAnyH_ready (rs := [6]) (by kernel_rfl) (by simp) ?_
          refine AllReadyH.cons rfl (fun K hK => ?_) AllReadyH.nil
          go_simp
          refine (xor_any (Cip.openB all nr x) last _ hoxl HLL.out).mono ?_
          rintro e w6 ⟨rfl, hb6⟩
          go_wp2_with fail
          refine hK.out _ _ (hHeld.trans (hb6.mono hHeld.size)) (fun hHeld => ?_)
          clear hK K
          have hbz2 := hide (Blk.below hbz1.out hb6 (Blk.lt hbz1.out))
          refine wpAnyH_ready (rs := [8]) (by kernel_rfl) (by simp) ?_
          refine AllReadyH.cons rfl (fun K hK => ?_) AllReadyH.nil
          rw [if_pos (by rfl)]
          refine wp_store34 (.tmp 13) (.tmp 42) rfl (wr.drew.heap.size) zeros34 (Mod.xor (Cip.openB all nr x) last) rfl rfl (hbz2.out) (Mod.xor_length _ _) rfl ?_
          refine hK.out _ _ (below_setRow hHeld hgle _) (fun hHeld => ?_)
          simp only [Act.put, List.getElem_toArray, List.getElem_cons_succ, List.getElem_cons_zero]
          clear hK K
          refine wpAnyH_done (by kernel_rfl) ?_ _
          refine NoPanic.normal ?_
          go_wp2
          go_meet
          case rel => exact ⟨_, rfl, hgle, hide (Blk.setRow (hbz2.out) _), hide hHeld⟩
      case rest =>
        obtain ⟨g13, rfl, hg13, hb13, hbc⟩ := hcut
        have hbe2 := hide (hbe.out.trans (hbc.out.mono hbe.out.size))
        have HRR2 := HRR.out.below (hbc.out.mono hbe.out.size)
        have hb92 := hide (Blk.below hb9.out hbc.out (Blk.lt hb9.out))
        have CI2 := hide (CI.out.below hbc.out)
        have ho2 := hide (ho.out.kept (row := none) ⟨hbc.out.os, hbc.out.tape, hbc.out.output, hbc.out.size, fun k hk _ => hbc.out.block k hk⟩ (by cases u11.ownBlock <;> simp))
        have hcut2 := hide (hcut0.out.below (hbc.out.mono hbe.out.size))
        have hg9wr : g9 < wr.heap.size := Blk.lt hb9.out
        have hszc : hN ≤ wc.heap.size := Nat.le_trans hhs hbc.out.size
        clear hbe HRR hb9 CI ho hcut0 hbc
        have hl34 := load34_at HRR2 HX.out
        have HL34 := hide hl34
        have hlen : (bytes x).length = 16 := by rw [bytes_length, HX.out]
        have hstored := stored34' HX.out hb92.out (by rw [List.size_toArray, bytes_length, HLL.out])
        clear hl34
        go_upto_region 12 with (with_reducible refine wpList_load_at rfl 34 (.tmp 44) rfl ad rfl _ HL34.out ?_)
        have hou : u11.ownBlock ≠ some g9 := fun e => by
          have := (ho2.out.lt g9 e).1
          omega
        have hne := CI2.out.ne_blk hnr2 hb92.out (by rw [List.size_toArray, bytes_length, HLL.out])
        have CI3 := hide (CI2.out.kept (only_setRow wc g9 (bytes x).toArray) (fun h => hne.1 (by injection h)) (fun h => hne.2 (by injection h)))
        have hb93 := hide (Blk.setRow hb92.out (bytes x).toArray)
        have hb133 := hide (Blk.setRow_far hb13.out (show g13 ≠ g9 by omega) (bytes x).toArray)
        have ho3 := hide (ho2.out.kept (only_setRow wc g9 (bytes x).toArray) (.inr hou))
        have hbe3 := hide (below_setRow hbe2.out hwg9 (bytes x).toArray)
        have hcut3 := hide (hcut2.out.setRow hwg9 (bytes x).toArray)
        have hsz3 : hN ≤ (wc.setRow g9 (bytes x).toArray).heap.size := by simpa [World.setRow] using hszc
        clear hstored HL34 HRR2 hb92 CI2 ho2 hcut2 hbe2 hb13 hne hat hlen
        generalize wc.setRow g9 (bytes x).toArray = w7 at *
        generalize hy : Mod.xor (Cip.openB all nr x) last = y at *
        have hyl : y.length = 16 := by rw [← hy]; exact Mod.xor_length _ _
        clear hy
        have hrn := hide (blk_reads (k := 16) hb133.out rfl (by omega))
        rw [List.take_of_length_le (by omega)] at hrn
        have hNb := HNB.out
        have hbb : (o.length + 16) * 1 ≤ 140737488355328 := by omega
        have hml : o.length + 16 ≤ maxLen := by unfold maxLen; omega
        clear hNb
        by_cases hc16 : c' = 16
        all_goals
          go_wp2_with (at_builtin; refine wpList_append_any _ rfl (.tmp 46) (.tmp 47) _ rfl hN 5 i0 _ 1 1 Try.underlying26 hi hz0 hz1 hz2 rfl (by omega) u11 o.length (bytes o) rfl ho3.out w7.heap.size (some ⟨g13, 0, none⟩) 16 16 (bytes y) rfl hrn.out (bytes_one _) hml hbb hsz3 ?_; intro v8 w8 hown8 hg8 hat8)
          go_roundw
          case rel =>
            have hg9o : some g9 ≠ u11.ownBlock := fun e => hou e.symm
            have hol2 : (o ++ y).length = o.length + 16 := by rw [List.length_append, hyl]
            refine ⟨q, _, _, _, o ++ y, x, rem.drop 16, rfl, by omega, by have := HN.out; omega, by omega, by omega, HX.out, hide (by rw [List.append_assoc]; exact HT.out), hide ?_, hide ?_, hide (Blk.grown hb93.out hg8 hg9o), hide (CI3.out.kept hg8 (fun e => ?_) (fun e => ?_)), Nat.le_trans hsz3 hg8.size, hide (below_app hbe3.out (Nat.le_trans hwl hsz3) (own_less ho3.out hwl) hg8)⟩
            · have hq := hcut3.out.grown hg8 (Nat.le_trans hwl hsz3) (fun k e => Nat.le_trans hwl (ho3.out.lt k e).1)
              rw [bytes_drop]
              rw [Nat.mul_one] at hq
              first
                | (rw [if_pos hc16] at hq; exact hq)
                | (rw [if_pos hc16] at hq; subst hc16; exact hq)
                | (rw [if_neg hc16] at hq; exact hq)
            · rw [bytes_append, hol2]
              exact hown8
            · have := (ho3.out.lt p e.symm).1
              have := HP.out.1
              omega
            · have := (ho3.out.lt kb e.symm).1
              have := HP.out.2
              omega
          case measure => simp only [sliceLen]; omega
    · obtain rfl : r = 0 := by omega
      have hTo : T = o := by
        rw [hT'.out]
        exact List.append_nil o
      obtain ⟨A2, c2, rfl, s2⟩ := Sl.of_own ho.out
      have hol3 : Hid (o.length ≤ 140737488355000) := hide (by have := HNB.out; omega)
      have S2 := hide s2
      clear hol hT' s2
      go_wp2_with fail
      refine (unpad_any A2 _ c2 o wr S2.out hol3.out).mono ?_
      rintro e w9 ⟨A3, n3, c3, rfl, s3, b3⟩
      go_wp2_with fail
      go_ret2
      rw [HALL.out, HNR.out, hT.out, hTo]
      exact ⟨A3, n3, c3, rfl, s3, hbe.out.trans (b3.mono hbe.out.size)⟩
end Go.Proofs.Ytjcdblnodbadcaa
