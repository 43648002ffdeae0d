/- The walk of the reference's Seal of a text. -/
import Derived.Test.YtjcdblnodbadcaaRefNew
import Derived.Test.YtjcdblnodbadcaaRefSeal
import Derived.Test.YtjcdblnodbadcaaRefXor
import Derived.Test.YtjcdblnodbadcaaPads
import Derived.Test.YtjcdblnodbadcaaMSeal
namespace Go.Proofs.Ytjcdblnodbadcaa
open Go.RowKit

theorem RCi.low {w w' : World} {p wb nr wc B : Nat} {all : List UInt8} (h : RCi w p wb nr wc all) (hp : p < B) (hk : wb < B) (hb : Below B w w') : RCi w' p wb nr wc all :=
  ⟨Blk.below h.blk hb hp, by obtain ⟨cur, hk', hc⟩ := h.keys; exact ⟨cur, Blk.below hk' hb hk, hc⟩, h.one, h.few, h.room⟩
theorem grown_below {w w' : World} (h : Below w.heap.size w w') (row : Option Nat) : w.grownBy w' row := ⟨h.os, h.tape, h.output, h.size, fun i hi _ => h.block i hi⟩
theorem grown_drew (w : World) (row : Option Nat) : w.grownBy w.drew row := ⟨rfl, rfl, rfl, Nat.le_refl _, fun _ _ _ => rfl⟩
theorem reads_part {w : World} {B n : Nat} {ad : Addr} {pt : List UInt8} (h : Reads w B 1 (some ad) n (bytes pt)) {k : Nat} (hk : k + 16 ≤ n) : Reads w B 1 (some (ad.add k)) 16 (bytes ((pt.drop k).take 16)) := by
  have hl : pt.length = n := by have := h.1; rw [bytes_length] at this; omega
  refine ⟨by rw [bytes_length, List.length_take, List.length_drop]; omega, fun _ => ?_⟩
  obtain ⟨ad', e, hb, hc⟩ := h.2 (by omega)
  injection e with e
  subst e
  refine ⟨_, rfl, by rw [block_of_add]; exact hb, fun j u hu => ?_⟩
  rw [bytes_take, List.getElem?_take] at hu
  split at hu
  · rw [bytes_drop, List.getElem?_drop] at hu
    rw [add_of_add]
    exact hc _ u hu
  · cases hu
set_option maxRecDepth 100000 in
set_option maxHeartbeats 3200000 in
theorem rmseal_any (A B D : Option Addr) (n c d m f : Nat) (l iv t : List UInt8) (w : World) (h : Sl w A n c l) (h' : Sl w B 16 d iv) (h'' : Sl w D m f t) (hl : n = 16 ∨ n = 24 ∨ n = 32) (hm : m ≤ 140737488351232) :
    Calls Try.prog 37 #[.slice A n c, .slice B 16 d, .slice D m f] w fun e w' => ∃ v, e = .returned (.tuple #[v, .int .i64 0]) ∧ w'.ownsRow w.heap.size 5 1 v (Mod.sealT (Cip.keys l) (n / 4 + 7) iv t).length (bytes (Mod.sealT (Cip.keys l) (n / 4 + 7) iv t)) ∧ Below w.heap.size w w' := by
  have hiv := hide h'.1.symm
  have hmt := hide h''.1
  have H3 := hide h''
  have HL := hide hl
  have H1 := hide h
  have H2 := hide h'
  clear h h' h'' hl
  go_enter Try.func37, Try.ntmps37
  go_wp2_with fail
  refine (rnew_any A n c l w H1.out HL.out).mono ?_
  rintro e w2 ⟨⟨p, wb, wc, rfl, ci⟩, b2⟩
  have H3' := hide (H3.out.below b2)
  have H2' := hide (H2.out.below b2)
  have CI := hide ci
  clear H3 H2 H1 ci
  go_wp2_with fail
  refine (refPad_any D m f t w2 H3'.out (by omega)).mono ?_
  rintro e w3 ⟨v1, rfl, o1, b3⟩
  have hT : Hid (Mod.sealT (Cip.keys l) (n / 4 + 7) iv t = Mod.cbc (Cip.keys l) (n / 4 + 7) (t.length / 16 + 1) iv (Mod.pad t)) := hide rfl
  generalize hTe : Mod.sealT (Cip.keys l) (n / 4 + 7) iv t = T at hT
  have HTE := hide hTe
  clear hTe
  obtain ⟨N, hN⟩ : ∃ N, N = t.length / 16 + 1 := ⟨_, rfl⟩
  have hplen : (Mod.pad t).length = 16 * N := by rw [Mod.pad_length, hN]; omega
  have hNb : 16 * N ≤ 140737488351248 := by have := hmt.out; omega
  have hN1 : 1 ≤ N := by omega
  rw [← hN] at hT
  generalize Mod.pad t = pt at *
  generalize hall : Cip.keys l = all at *
  have HALL := hide hall
  clear hall
  generalize hnr : n / 4 + 7 = nr at *
  have HNR := hide hnr
  rw [hplen] at o1
  obtain ⟨g, cap, rfl, hgb, hgl⟩ := o1.form (by omega)
  have HPL := hide hplen
  have hcap : 16 * N ≤ cap := (Rest.of_own o1).2.1
  have HR := hide (Reads.of_own o1)
  have CI3 := hide (CI.out.below b3)
  have H2'' := hide (H2'.out.below b3)
  have hbe3 := b2.trans (b3.mono b2.size)
  clear hN hnr H3' H2' o1 CI hmt hm hgb hplen b3 b2
  obtain ⟨X, hX⟩ : ∃ X, X = 16 * N := ⟨_, rfl⟩
  rw [← hX] at HR hNb hcap
  rw [← hX]
  have HX := hide hX
  clear hX
  go_wp2_with fail
  refine (rblock_any B 16 d w3.heap.size iv w3 H2''.out.reads (Nat.le_refl _)).mono ?_
  rintro e w4 ⟨rfl, b4⟩
  rw [blk16_self hiv.out]
  have hlen : (bytes iv).length = 16 := by rw [bytes_length, hiv.out]
  have hstored := stored34 hiv.out w4
  go_upto_region 6 with fail
  have hb9 := hide (Blk.new w4 34 (bytes iv).toArray)
  have hal := (Below.refl w4.heap.size w4).alloc (Nat.le_refl _) (.cells (bytes iv).toArray 34)
  have b45 : Below w3.heap.size w3 (w4.alloc (.cells (bytes iv).toArray 34)) := b4.trans (hal.mono b4.size)
  have CI5 := hide (CI3.out.below b45)
  have HR5 := hide ((HR.out.below b45).more b4.size)
  have hbe5 := hide (hbe3.trans (b45.mono hbe3.size))
  have hpl := Nat.lt_of_lt_of_le CI3.out.lt b4.size
  have hkl := Nat.lt_of_lt_of_le CI3.out.ltk b4.size
  have hwg := Nat.le_trans hbe3.size b4.size
  have hgl9 := Nat.lt_of_lt_of_le hgl b4.size
  have hsz5 : (w4.alloc (.cells (bytes iv).toArray 34)).heap.size = w4.heap.size + 1 := World.size_alloc _ _
  clear hlen hstored CI3 HR b4 hal b45 hbe3 H2'' hgl
  generalize (w4.alloc (.cells (bytes iv).toArray 34)) = w5 at *
  generalize w4.heap.size = g9 at *
  obtain ⟨i0, hi, hz0, hz1, hz2⟩ := info_parts info5
  go_wp2_with fail
  go_loopw [12, 13] (fun v12 i wr => ∃ (r k : Nat) (o last : List UInt8), r ≤ N ∧ i = .int .i64 k ∧ Hid (k = 16 * r) ∧ Hid (o.length = 16 * r) ∧ Hid (last.length = 16) ∧ Hid (T = o ++ Mod.cbc all nr (N - r) last (pt.drop (16 * r))) ∧ Hid (wr.ownsRow (g9 + 1) 5 1 v12 o.length (bytes o)) ∧ Hid (Blk wr g9 34 (bytes last).toArray) ∧ Hid (g9 + 1 ≤ wr.heap.size) ∧ Hid (Below g9 w5 wr)) (fun _ i _ => X - (intOf i).toNat)
  case atStart => exact ⟨0, 0, [], iv, Nat.zero_le _, rfl, hide rfl, hide rfl, hiv, hT, hide (World.ownsRow_nil _ _ _ _), hb9, hide (by rw [hsz5]; exact Nat.le_refl _), hide (Below.refl _ _)⟩
  case round =>
    clear hT hb9 hiv hsz5
    obtain ⟨r, k, o, last, hrN, rfl, hkr, hol, hll, hT, ho, hb9, hhs, hbe⟩ := hrel
    by_cases hlr : k < X
    · have hkX : k + 16 ≤ X := by have := HX.out; have := hkr.out; omega
      have hrN' : r < N := by have := HX.out; have := hkr.out; omega
      have hrd := reads_part (HR5.out.below hbe.out) hkX
      rw [Addr.add_lit, Nat.zero_add] at hrd
      have HRd := hide hrd
      clear hrd
      have hxl : ((pt.drop k).take 16).length = 16 := by rw [List.length_take, List.length_drop, HPL.out]; have := HX.out; omega
      have hT' : T = o ++ (Cip.sealB all nr (Mod.xor last ((pt.drop k).take 16)) ++ Mod.cbc all nr (N - (r + 1)) (Cip.sealB all nr (Mod.xor last ((pt.drop k).take 16))) (pt.drop (16 * (r + 1)))) := by
        rw [hT.out, show N - r = (N - (r + 1)) + 1 by omega, Mod.xor_comm last, hkr.out, show 16 * (r + 1) = 16 * r + 16 by omega, ← List.drop_drop]
        rfl
      have HT := hide hT'
      have HXL := hide hxl
      clear hT' hT hxl
      generalize (pt.drop k).take 16 = x at *
      obtain ⟨e, hek⟩ : ∃ e, e = k + 16 := ⟨_, rfl⟩
      have hw2 : IntKind.i64.wrap ((k : Int) + (16 : Int)) = (e : Int) := by rw [IntWalk.i64_in _ (by omega)]; omega
      have hw3 : max (e : Int) 0 = (e : Int) := by omega
      have z1 : (0 : Int) ≤ (e : Int) := by omega
      have z2 : (e : Int) ≤ (cap : Int) := by omega
      have z3 : (0 : Int) ≤ (k : Int) := by omega
      have z4 : (k : Int) ≤ (e : Int) := by omega
      have hsub : e - k = 16 := by omega
      have hnc : ¬ cap = k := by omega
      have HE := hide hek
      clear hek
      go_upto_region 10 with fail
      go_cut [12] (fun v wc => v = u12 ∧ Hid (wr.grownBy wc (some g9)) ∧ Hid (Blk wc g9 34 (bytes (Cip.sealB all nr (Mod.xor last x))).toArray))
      case first =>
        have hg9w : g9 ≤ wr.drew.heap.size := Nat.le_of_succ_le hhs.out
        refine wp_region_noPanic ?_
        refine wp_region_held_drew (S := fun u => wr.grownBy u (some g9)) (by kernel_rfl) (grown_drew wr _) (fun hHeld => ?_)
        refine wpAnyH_take (i := 0) (v := ?v0) rfl (by kernel_rfl) (by kernel_rfl) (by kernel_rfl) (fun _ _ _ h => h) (Or.inl ⟨by rfl, fun u hSu => ?y0⟩) hHeld ?r0
        case y0 =>
            first
              | (go_simp; done)
              | (go_simp; with_reducible rfl)
        simp only [Act.put, List.getElem_toArray, List.getElem_cons_zero, List.setIfInBounds_toArray, List.set_cons_zero, List.set_cons_succ]
        refine wpAnyH_take (i := 2) (v := ?v2) rfl (by kernel_rfl) (by kernel_rfl) (by kernel_rfl) (fun _ _ _ h => h) (Or.inl ⟨by rfl, fun u hSu => ?y2⟩) hHeld ?r2
        case y2 =>
            first
              | (go_simp; done)
              | (go_simp; with_reducible rfl)
        simp only [Act.put, List.getElem_toArray, List.getElem_cons_succ, List.getElem_cons_zero, List.setIfInBounds_toArray, List.set_cons_zero, List.set_cons_succ]
        refine wpAnyH_take (i := 3) (v := ?v3) rfl (by kernel_rfl) (by kernel_rfl) (by kernel_rfl) (fun _ _ _ h => h) (Or.inl ⟨by rfl, fun u hSu => ?y3⟩) hHeld ?r3
        case y3 =>
            first
              | (go_simp; done)
              | (go_simp; with_reducible rfl)
        simp only [Act.put, List.getElem_toArray, List.getElem_cons_succ, List.getElem_cons_zero, List.setIfInBounds_toArray, List.set_cons_zero, List.set_cons_succ]
        refine wpAnyH_take (i := 4) (v := ?v4) rfl (by kernel_rfl) (by kernel_rfl) (by kernel_rfl) (fun _ _ _ h => h) (Or.inl ⟨by rfl, fun u hSu => ?y4⟩) hHeld ?r4
        case y4 =>
            first
              | (go_simp; done)
              | (go_simp; with_reducible rfl)
        simp only [Act.put, List.getElem_toArray, List.getElem_cons_succ, List.getElem_cons_zero, List.setIfInBounds_toArray, List.set_cons_zero, List.set_cons_succ]
        refine wpAnyH_take (i := 5) (v := ?v5) rfl (by kernel_rfl) (by kernel_rfl) (by kernel_rfl) (fun _ _ _ h => h) (Or.inl ⟨by rfl, fun u hSu => ?y5⟩) hHeld ?r5
        case y5 =>
            first
              | (go_simp; done)
              | (go_simp; with_reducible rfl)
        simp only [Act.put, List.getElem_toArray, List.getElem_cons_succ, List.getElem_cons_zero, List.setIfInBounds_toArray, List.set_cons_zero, List.set_cons_succ]
        refine wpAnyH_take (i := 6) (v := ?v6) rfl (by kernel_rfl) (by kernel_rfl) (by kernel_rfl) (fun _ _ _ h => h) (Or.inl ⟨by rfl, fun u hSu => ?y6⟩) hHeld ?r6
        case y6 =>
            first
              | (go_simp; done)
              | (go_simp; with_reducible rfl)
        simp only [Act.put, List.getElem_toArray, List.getElem_cons_succ, List.getElem_cons_zero, List.setIfInBounds_toArray, List.set_cons_zero, List.set_cons_succ]
        refine wpAnyH_ready (rs := [1, 7]) (by kernel_rfl) (by simp) ?_
        refine AllReadyH.cons rfl (fun K hK => ?_) (AllReadyH.cons rfl (fun K hK => ?_) AllReadyH.nil)
        · rw [if_pos (by rfl)]
          refine wp_load_mid 34 (.tmp 11) rfl g9 0 rfl (bytes last) _ (blk_whole (Blk.drew hb9.out)) Try.underlying34 rfl (size34' hll.out) ?_
          refine hK.out _ _ hHeld (fun hHeld => ?_)
          simp only [Act.put, List.getElem_toArray, List.getElem_cons_succ, List.getElem_cons_zero]
          clear hK K
          refine wpAnyH_ready (rs := [7]) (by kernel_rfl) (by simp) ?_
          refine AllReadyH.cons rfl (fun K hK => ?_) AllReadyH.nil
          go_simp
          refine (rblock_any (some ⟨g, k, none⟩) 16 (cap - k) g9 x _ HRd.out.drew hg9w).mono ?_
          rintro e wa ⟨rfl, hb6⟩
          rw [blk16_self HXL.out]
          go_wp2_with fail
          refine hK.out _ _ (hHeld.trans (grown_below hb6 _)) (fun hHeld => ?_)
          clear hK K
          have be6 := hbe.out.drew.trans (hb6.mono hg9w)
          have b96 := Blk.below (Blk.drew hb9.out) hb6 (Blk.lt hb9.out)
          refine wpAnyH_ready (rs := [8]) (by kernel_rfl) (by simp) ?_
          refine AllReadyH.cons rfl (fun K hK => ?_) AllReadyH.nil
          go_simp
          refine (rxor_any last x _ hll.out HXL.out).mono ?_
          rintro e w71 ⟨rfl, hb7⟩
          go_wp2_with fail
          refine hK.out _ _ (hHeld.trans (grown_below hb7 _)) (fun hHeld => ?_)
          clear hK K
          have be7 := be6.trans (hb7.mono (Nat.le_trans hg9w hb6.size))
          have b97 := Blk.below b96 hb7 (Blk.lt b96)
          refine wpAnyH_ready (rs := [9]) (by kernel_rfl) (by simp) ?_
          refine AllReadyH.cons rfl (fun K hK => ?_) AllReadyH.nil
          go_simp
          refine (rseal_any p wb nr wc (Mod.xor last x) all _ (Mod.xor_length _ _) (CI5.out.low hpl hkl be7)).mono ?_
          rintro e w81 ⟨rfl, hb8⟩
          go_wp2_with fail
          refine hK.out _ _ (hHeld.trans (grown_below hb8 _)) (fun hHeld => ?_)
          clear hK K
          have b98 := Blk.below b97 hb8 (Blk.lt b97)
          refine wpAnyH_ready (rs := [10]) (by kernel_rfl) (by simp) ?_
          refine AllReadyH.cons rfl (fun K hK => ?_) AllReadyH.nil
          rw [if_pos (by rfl)]
          refine wp_store34 (.tmp 11) (.tmp 45) rfl (g9) (bytes last).toArray (Cip.sealB all nr (Mod.xor last x)) rfl rfl (b98) (Cip.sealB_length _ _ _) (by rw [List.size_toArray, bytes_length, hll.out]) ?_
          refine hK.out _ _ (hHeld.trans (only_setRow _ _ _)) (fun hHeld => ?_)
          simp only [Act.put, List.getElem_toArray, List.getElem_cons_succ, List.getElem_cons_zero]
          clear hK K
          refine wpAnyH_done (by kernel_rfl) ?_ _
          refine NoPanic.normal ?_
          go_wp2
          go_meet
          case rel => exact ⟨rfl, hide hHeld, hide (Blk.setRow b98 _)⟩
        · go_simp
          refine (rblock_any (some ⟨g, k, none⟩) 16 (cap - k) g9 x _ HRd.out.drew hg9w).mono ?_
          rintro e wa ⟨rfl, hb6⟩
          rw [blk16_self HXL.out]
          go_wp2_with fail
          refine hK.out _ _ (hHeld.trans (grown_below hb6 _)) (fun hHeld => ?_)
          clear hK K
          have be6 := hbe.out.drew.trans (hb6.mono hg9w)
          have b96 := Blk.below (Blk.drew hb9.out) hb6 (Blk.lt hb9.out)
          refine wpAnyH_ready (rs := [1]) (by kernel_rfl) (by simp) ?_
          refine AllReadyH.cons rfl (fun K hK => ?_) AllReadyH.nil
          rw [if_pos (by rfl)]
          refine wp_load_mid 34 (.tmp 11) rfl g9 0 rfl (bytes last) _ (blk_whole (b96)) Try.underlying34 rfl (size34' hll.out) ?_
          refine hK.out _ _ (hHeld) (fun hHeld => ?_)
          simp only [Act.put, List.getElem_toArray, List.getElem_cons_succ, List.getElem_cons_zero]
          clear hK K
          refine wpAnyH_ready (rs := [8]) (by kernel_rfl) (by simp) ?_
          refine AllReadyH.cons rfl (fun K hK => ?_) AllReadyH.nil
          go_simp
          refine (rxor_any last x _ hll.out HXL.out).mono ?_
          rintro e w71 ⟨rfl, hb7⟩
          go_wp2_with fail
          refine hK.out _ _ (hHeld.trans (grown_below hb7 _)) (fun hHeld => ?_)
          clear hK K
          have be7 := be6.trans (hb7.mono (Nat.le_trans hg9w hb6.size))
          have b97 := Blk.below b96 hb7 (Blk.lt b96)
          refine wpAnyH_ready (rs := [9]) (by kernel_rfl) (by simp) ?_
          refine AllReadyH.cons rfl (fun K hK => ?_) AllReadyH.nil
          go_simp
          refine (rseal_any p wb nr wc (Mod.xor last x) all _ (Mod.xor_length _ _) (CI5.out.low hpl hkl be7)).mono ?_
          rintro e w81 ⟨rfl, hb8⟩
          go_wp2_with fail
          refine hK.out _ _ (hHeld.trans (grown_below hb8 _)) (fun hHeld => ?_)
          clear hK K
          have b98 := Blk.below b97 hb8 (Blk.lt b97)
          refine wpAnyH_ready (rs := [10]) (by kernel_rfl) (by simp) ?_
          refine AllReadyH.cons rfl (fun K hK => ?_) AllReadyH.nil
          rw [if_pos (by rfl)]
          refine wp_store34 (.tmp 11) (.tmp 45) rfl (g9) (bytes last).toArray (Cip.sealB all nr (Mod.xor last x)) rfl rfl (b98) (Cip.sealB_length _ _ _) (by rw [List.size_toArray, bytes_length, hll.out]) ?_
          refine hK.out _ _ (hHeld.trans (only_setRow _ _ _)) (fun hHeld => ?_)
          simp only [Act.put, List.getElem_toArray, List.getElem_cons_succ, List.getElem_cons_zero]
          clear hK K
          refine wpAnyH_done (by kernel_rfl) ?_ _
          refine NoPanic.normal ?_
          go_wp2
          go_meet
          case rel => exact ⟨rfl, hide hHeld, hide (Blk.setRow b98 _)⟩
      case rest =>
        obtain ⟨rfl, hgr, hb9c⟩ := hcut
        clear hb9 HRd
        have hnl : Hid ((Cip.sealB all nr (Mod.xor last x)).length = 16) := hide (Cip.sealB_length _ _ _)
        generalize Cip.sealB all nr (Mod.xor last x) = new at *
        have hou : u12.ownBlock ≠ some g9 := fun e => by
          have := (ho.out.lt g9 e).1
          omega
        have hoc := hide (ho.out.kept hgr.out (.inr hou))
        have hbec := hide (hbe.out.grown hgr.out (Nat.le_of_succ_le hhs.out) (fun j hj => by injection hj with hj; omega))
        have hsz := Nat.le_trans hhs.out hgr.out.size
        have hrn0 := blk_reads (k := 16) hb9c.out rfl (by rw [hnl.out]; omega)
        rw [List.take_of_length_le (by rw [hnl.out]; omega)] at hrn0
        have hrn := hide hrn0
        have hbb : (o.length + 16) * 1 ≤ 140737488355328 := by have := hol.out; have := HX.out; omega
        have hml : o.length + 16 ≤ maxLen := by have := hol.out; have := HX.out; unfold maxLen; omega
        have HOU := hide hou
        clear hrn0 ho hbe hgr hou z1 z2 z3 z4 hw2 hw3 hnc hsub HE e
        go_wp2_with (at_builtin; refine wpList_append_any _ rfl (.tmp 46) (.tmp 47) _ rfl (g9 + 1) 5 i0 _ 1 1 Try.underlying26 hi hz0 hz1 hz2 rfl (by omega) u12 o.length (bytes o) rfl hoc.out wc.heap.size (some ⟨g9, 0, none⟩) 16 16 (bytes new) rfl hrn.out (bytes_one _) hml hbb hsz ?_; intro v8 w8 hown8 hg8 hat8)
        go_roundw
        case rel =>
          have hol2 : (o ++ new).length = o.length + 16 := by rw [List.length_append, hnl.out]
          refine ⟨r + 1, k + 16, o ++ new, new, hrN', by go_num, hide (by have := hkr.out; omega), hide (by rw [hol2, hol.out]; omega), hnl, hide (by rw [List.append_assoc]; exact HT.out), hide ?_, hide (Blk.grown hb9c.out hg8 (fun e => HOU.out e.symm)), hide (Nat.le_trans hsz hg8.size), hide (hbec.out.grown hg8 (Nat.le_of_succ_le hsz) (fun j hj => by have := (hoc.out.lt j hj).1; omega))⟩
          rw [bytes_append, hol2]
          exact hown8
        case measure => simp only [intOf]; omega
    · have hrE : r = N := by have := HX.out; have := hkr.out; omega
      have hTo : T = o := by
        rw [hT.out, hrE, Nat.sub_self]
        exact List.append_nil o
      have HTO := hide hTo
      clear hTo hT hrE
      go_wp2_with fail
      go_ret2
      refine ⟨_, rfl, ?_, hbe5.out.trans (hbe.out.mono hwg)⟩
      rw [HALL.out, HNR.out, HTE.out, HTO.out]
      exact own_less ho.out (by omega)
end Go.Proofs.Ytjcdblnodbadcaa
