/- The walk of the law ModesChains. -/
import Derived.Test.YtjcdblnodbadcaaMSeal
import Derived.Test.YtjcdblnodbadcaaSomeOf
import Derived.Test.YtjcdblnodbadcaaLawPads
import Derived.Test.YtjcdblnodbadcaaChain
namespace Go.Proofs.Ytjcdblnodbadcaa
open Go.RowKit

theorem sl_mid {w : World} {ad : Addr} {n c q : Nat} {l : List UInt8} (h : Sl w (some ad) n c l) (hq : q + 16 ≤ n) : Sl w (some (ad.add q)) 16 (c - q) ((l.drop q).take 16) := by
  have hl := h.1
  have hc := h.2.1
  refine ⟨by rw [List.length_take, List.length_drop]; omega, by omega, (fun h => by cases h), by rw [bytes_length, List.length_take, List.length_drop]; omega, fun _ => ⟨_, rfl, ?_, fun j u hj => ?_⟩⟩
  · obtain ⟨ad', e, hb, _⟩ := h.reads.2 (by omega)
    injection e with e
    subst e
    rw [block_of_add]
    exact hb
  · obtain ⟨ad', e, _, hx⟩ := h.reads.2 (by omega)
    injection e with e
    subst e
    rw [add_of_add]
    refine hx _ _ ?_
    rw [bytes_take, bytes_drop, List.getElem?_take] at hj
    split at hj
    · rwa [List.getElem?_drop] at hj
    · cases hj
set_option maxRecDepth 100000 in
set_option maxHeartbeats 6400000 in
theorem lawChains_any (B : Option Addr) (m d : Nat) (k iv : List UInt8) (n long cut : Int) (w : World) (hk : k.length = 32) (h' : Sl w B m d iv) (hm : m ≤ 140737488351232) :
    Calls Try.prog 8 #[.agg (bytes k).toArray, .int .i64 n, .slice B m d, .int .i64 long, .int .i64 cut] w fun e w' => e = .returned (.bool true) ∧ Below w.heap.size w w' := by
  have h33 := size33 hk
  generalize hA : (bytes k).toArray = A
  have hr := hide (blk_range (Blk.new w 33 A) hA)
  have H2 := hide (h'.alloc (.cells A 33))
  have hbe : Below w.heap.size w (w.alloc (.cells A 33)) := (Below.refl _ w).alloc (Nat.le_refl _) _
  have hlt : w.heap.size < (w.alloc (.cells A 33)).heap.size := by simp
  clear h' hA
  go_enter Try.func8, Try.ntmps8
  go_upto_region 1 with fail
  generalize (w.alloc (.cells A 33)) = w1 at *
  have u33 := Try.underlying33
  refine wp_region_noPanic ?_
  refine wp_region_held_drew (S := Below w1.heap.size w1) (by kernel_rfl) ((Below.refl _ w1).drew) (fun hHeld => ?_)
  refine wpAnyH_take (i := 0) (v := .agg (bytes k).toArray) rfl (by kernel_rfl) (by kernel_rfl) (by kernel_rfl) (fun _ _ _ h => h) (yieldsIf_load_mid (by rfl) 33 (.tmp 5) rfl w.heap.size 0 rfl (bytes k) _ (fun u hSu => range_below hr.out hSu hlt) u33 rfl h33) hHeld ?_
  simp only [Act.put, List.getElem_toArray, List.getElem_cons_zero, List.setIfInBounds_toArray, List.set_cons_zero, List.set_cons_succ]
  refine wpAnyH_take (i := 1) (v := ?v1) rfl (by kernel_rfl) (by kernel_rfl) (by kernel_rfl) (fun _ _ _ h => h) (Or.inl ⟨by rfl, fun u hSu => ?y1⟩) hHeld ?r1
  case y1 =>
      first
        | (go_simp; done)
        | (go_simp; with_reducible rfl)
  simp only [Act.put, List.getElem_toArray, List.getElem_cons_succ, List.getElem_cons_zero, List.setIfInBounds_toArray, List.set_cons_zero, List.set_cons_succ]
  refine wpAnyH_take (i := 2) (v := ?v2) rfl (by kernel_rfl) (by kernel_rfl) (by kernel_rfl) (fun _ _ _ h => h) (Or.inl ⟨by rfl, fun u hSu => ?y2⟩) hHeld ?r2
  case y2 =>
      first
        | (go_simp; done)
        | (go_simp; with_reducible rfl)
  simp only [Act.put, List.getElem_toArray, List.getElem_cons_succ, List.getElem_cons_zero, List.setIfInBounds_toArray, List.set_cons_zero, List.set_cons_succ]
  refine wpAnyH_take (i := 3) (v := ?v3) rfl (by kernel_rfl) (by kernel_rfl) (by kernel_rfl) (fun _ _ _ h => h) (Or.inl ⟨by rfl, fun u hSu => ?y3⟩) hHeld ?r3
  case y3 =>
      first
        | (go_simp; done)
        | (go_simp; with_reducible rfl)
  simp only [Act.put, List.getElem_toArray, List.getElem_cons_succ, List.getElem_cons_zero, List.setIfInBounds_toArray, List.set_cons_zero, List.set_cons_succ]
  refine wpAnyH_ready (rs := [4]) (by kernel_rfl) (by simp) ?_
  refine AllReadyH.cons rfl (fun K hK => ?_) AllReadyH.nil
  go_simp
  refine (pickm_any long 1000 _ (by omega)).mono ?_
  rintro e w' ⟨⟨ρ, rfl, hρ1, hρ2⟩, rfl⟩
  go_wp2_with fail
  refine hK.out _ _ (hHeld) (fun hHeld => ?_)
  clear hK K
  have hw3 : IntKind.i64.wrap (3 * ρ) = 3 * ρ := IntWalk.i64_in _ (by omega)
  refine wpAnyH_take (i := 5) (v := ?v5) rfl (by kernel_rfl) (by kernel_rfl) (by kernel_rfl) (fun _ _ _ h => h) (Or.inl ⟨by rfl, fun u hSu => ?y5⟩) hHeld ?r5
  case y5 =>
      first
        | (go_simp; done)
        | (go_simp; with_reducible rfl)
  simp only [Act.put, List.getElem_toArray, List.getElem_cons_succ, List.getElem_cons_zero, List.setIfInBounds_toArray, List.set_cons_zero, List.set_cons_succ]
  refine wpAnyH_ready (rs := [6]) (by kernel_rfl) (by simp) ?_
  refine AllReadyH.cons rfl (fun K hK => ?_) AllReadyH.nil
  go_simp
  refine (some_any B none m d 0 0 k iv [] n _ _ hk (H2.out.below hHeld) (sl_nil _) hm (by omega)).mono ?_
  rintro e w2 ⟨A1, n1, c1, A2, c2, A3, n3, c3, ky, v, tt, rfl, hn1, hn3, s1, s2, s3, b2⟩
  go_wp2_with fail
  refine hK.out _ _ (hHeld.trans (b2.mono hHeld.size)) (fun hHeld => ?_)
  clear hK K
  refine wpAnyH_take (i := 7) (v := ?v7) rfl (by kernel_rfl) (by kernel_rfl) (by kernel_rfl) (fun _ _ _ h => h) (Or.inl ⟨by rfl, fun u hSu => ?y7⟩) hHeld ?r7
  case y7 =>
      first
        | (go_simp; done)
        | (go_simp; with_reducible rfl)
  simp only [Act.put, List.getElem_toArray, List.getElem_cons_succ, List.getElem_cons_zero, List.setIfInBounds_toArray, List.set_cons_zero, List.set_cons_succ]
  refine wpAnyH_take (i := 8) (v := ?v8) rfl (by kernel_rfl) (by kernel_rfl) (by kernel_rfl) (fun _ _ _ h => h) (Or.inl ⟨by rfl, fun u hSu => ?y8⟩) hHeld ?r8
  case y8 =>
      first
        | (go_simp; done)
        | (go_simp; with_reducible rfl)
  simp only [Act.put, List.getElem_toArray, List.getElem_cons_succ, List.getElem_cons_zero, List.setIfInBounds_toArray, List.set_cons_zero, List.set_cons_succ]
  refine wpAnyH_take (i := 9) (v := ?v9) rfl (by kernel_rfl) (by kernel_rfl) (by kernel_rfl) (fun _ _ _ h => h) (Or.inl ⟨by rfl, fun u hSu => ?y9⟩) hHeld ?r9
  case y9 =>
      first
        | (go_simp; done)
        | (go_simp; with_reducible rfl)
  simp only [Act.put, List.getElem_toArray, List.getElem_cons_succ, List.getElem_cons_zero, List.setIfInBounds_toArray, List.set_cons_zero, List.set_cons_succ]
  refine wpAnyH_take (i := 10) (v := ?v10) rfl (by kernel_rfl) (by kernel_rfl) (by kernel_rfl) (fun _ _ _ h => h) (Or.inl ⟨by rfl, fun u hSu => ?y10⟩) hHeld ?r10
  case y10 =>
      first
        | (go_simp; done)
        | (go_simp; with_reducible rfl)
  simp only [Act.put, List.getElem_toArray, List.getElem_cons_succ, List.getElem_cons_zero, List.setIfInBounds_toArray, List.set_cons_zero, List.set_cons_succ]
  refine wpAnyH_take (i := 11) (v := ?v11) rfl (by kernel_rfl) (by kernel_rfl) (by kernel_rfl) (fun _ _ _ h => h) (Or.inl ⟨by rfl, fun u hSu => ?y11⟩) hHeld ?r11
  case y11 =>
      first
        | (go_simp; done)
        | (go_simp; with_reducible rfl)
  simp only [Act.put, List.getElem_toArray, List.getElem_cons_succ, List.getElem_cons_zero, List.setIfInBounds_toArray, List.set_cons_zero, List.set_cons_succ]
  refine wpAnyH_take (i := 12) (v := ?v12) rfl (by kernel_rfl) (by kernel_rfl) (by kernel_rfl) (fun _ _ _ h => h) (Or.inl ⟨by rfl, fun u hSu => ?y12⟩) hHeld ?r12
  case y12 =>
      first
        | (go_simp; done)
        | (go_simp; with_reducible rfl)
  simp only [Act.put, List.getElem_toArray, List.getElem_cons_succ, List.getElem_cons_zero, List.setIfInBounds_toArray, List.set_cons_zero, List.set_cons_succ]
  refine wpAnyH_take (i := 13) (v := ?v13) rfl (by kernel_rfl) (by kernel_rfl) (by kernel_rfl) (fun _ _ _ h => h) (Or.inl ⟨by rfl, fun u hSu => ?y13⟩) hHeld ?r13
  case y13 =>
      first
        | (go_simp; done)
        | (go_simp; with_reducible rfl)
  simp only [Act.put, List.getElem_toArray, List.getElem_cons_succ, List.getElem_cons_zero, List.setIfInBounds_toArray, List.set_cons_zero, List.set_cons_succ]
  refine wpAnyH_done (by kernel_rfl) ?_ _
  refine NoPanic.normal ?_
  have hbe2 := hide (hbe.trans (hHeld.mono hbe.size))
  have S1 := hide s1
  have S2 := hide s2
  have S3 := hide s3
  have N1 := hide hn1
  clear hr H2 hbe b2 s1 s2 s3 hn1 hHeld hρ1 hρ2 u33 h33 hw3
  generalize 3 * ρ = R3
  go_wp2_with fail
  refine (new_any A1 n1 c1 ky w2 S1.out N1.out).mono ?_
  rintro e w3 ⟨⟨p, kb, kc, rfl, ci⟩, b3⟩
  have CI3 := hide ci
  have hbe3 := hide (hbe2.out.trans (b3.mono hbe2.out.size))
  have T1 := hide (S1.out.below b3)
  have T2 := hide (S2.out.below b3)
  have T3 := hide (S3.out.below b3)
  clear S1 S2 S3 hbe2 b3 ci
  go_wp2_with fail
  refine (mseal_any A1 A2 A3 n1 c1 c2 n3 c3 ky v tt w3 T1.out T2.out T3.out N1.out hn3).mono ?_
  rintro e w4 ⟨v4, rfl, o4, b4⟩
  have hTl := Mod.sealT_length (Cip.keys ky) (n1 / 4 + 7) v tt
  have hTd : Mod.sealT (Cip.keys ky) (n1 / 4 + 7) v tt = Mod.cbc (Cip.keys ky) (n1 / 4 + 7) (tt.length / 16 + 1) v (Mod.pad tt) := rfl
  have hpre := fun j h => Mod.seal_prefix (Cip.keys ky) (n1 / 4 + 7) v tt j h
  have HPRE := hide hpre
  clear hpre
  have htl : tt.length = n3 := T3.out.1.symm
  generalize hT : Mod.sealT (Cip.keys ky) (n1 / 4 + 7) v tt = T at *
  obtain ⟨NN, hNN⟩ : ∃ NN, NN = tt.length / 16 + 1 := ⟨_, rfl⟩
  rw [← hNN] at hTd hTl
  have hNn : NN = n3 / 16 + 1 := by rw [hNN, htl]
  obtain ⟨A4, c4, rfl, s4⟩ := Sl.of_own o4
  generalize hTn : T.length = nT at *
  have hnT : nT = 16 * NN := by omega
  have S4 := hide s4
  have HTD := hide hTd
  have HTN := hide hTn
  have CI4 := hide (CI3.out.below b4)
  have hbe4 := hide (hbe3.out.trans (b4.mono hbe3.out.size))
  have T1' := hide (T1.out.below b4)
  have T2' := hide (T2.out.below b4)
  have T3' := hide (T3.out.below b4)
  have hmodT : (nT : Int) % (16 : Int) = 0 := by omega
  have HNT := hide hnT
  have HNN := hide hNn
  have HTL := hide htl
  have HT := hide hT
  clear T1 T2 T3 hbe3 b4 CI3 s4 o4 hTd hTn hTl hnT hNn hNN htl hT
  go_wp2_with fail
  refine (known9_any w4).mono ?_
  rintro e w5 ⟨rfl, b5⟩
  have CI5 := hide (CI4.out.below b5)
  have hbe5 := hide (hbe4.out.trans (b5.mono hbe4.out.size))
  have U1 := hide (T1'.out.below b5)
  have U2 := hide (T2'.out.below b5)
  have U3 := hide (T3'.out.below b5)
  have U4 := hide (S4.out.below b5)
  clear T1' T2' T3' S4 hbe4 b5 CI4
  go_wp2_with fail
  refine (pad_any A3 n3 c3 tt w5 U3.out (by omega)).mono ?_
  rintro e w6 ⟨v6, rfl, o6, b6⟩
  have hpl : (Mod.pad tt).length = nT := by
    rw [Mod.pad_length, HTL.out, HNT.out, HNN.out]
    omega
  rw [hpl] at o6
  generalize Mod.pad tt = pt at *
  obtain ⟨A6, c6, rfl, s6⟩ : ∃ A c, v6 = .slice A nT c ∧ Sl w6 A nT c pt := by
    rw [← hpl] at o6 ⊢
    exact Sl.of_own o6
  have S6 := hide s6
  have HPL := hide hpl
  have CI6 := hide (CI5.out.below b6)
  have hbe6 := hide (hbe5.out.trans (b6.mono hbe5.out.size))
  have V1 := hide (U1.out.below b6)
  have V2 := hide (U2.out.below b6)
  have V3 := hide (U3.out.below b6)
  have V4 := hide (U4.out.below b6)
  clear U1 U2 U3 U4 hbe5 b6 CI5 s6 o6 hpl hmodT
  go_wp2_with fail
  obtain ⟨ad4, rfl, _⟩ := V4.out.at_ (show 0 < nT by have := HNT.out; have := HNN.out; omega)
  obtain ⟨ad6, rfl, _⟩ := S6.out.at_ (show 0 < nT by have := HNT.out; have := HNN.out; omega)
  go_loopw [19, 20] (fun last i wr => ∃ (j q c' : Nat) (A' : Option Addr) (lst : List UInt8), j ≤ NN ∧ Hid (q = 16 * j) ∧ i = .int .i64 q ∧ last = .slice A' 16 c' ∧ Hid (Sl wr A' 16 c' lst) ∧ Hid (T.drop (16 * j) = Mod.cbc (Cip.keys ky) (n1 / 4 + 7) (NN - j) lst (pt.drop (16 * j))) ∧ Hid (Below w6.heap.size w6 wr)) (fun _ i _ => nT - (intOf i).toNat)
  case atStart => exact ⟨0, 0, c2, A2, v, by omega, hide rfl, rfl, rfl, V2, HTD, hide (Below.refl _ _)⟩
  case round =>
    obtain ⟨j, q, c', A', lst, hj, hq, rfl, rfl, hL, hch, hb⟩ := hrel
    by_cases hlj : j < NN
    · have g1 : (q : Int) + 16 ≤ (nT : Int) := by have := hq.out; have := HNT.out; omega
      have hqn : q + 16 ≤ nT := by omega
      have hnb : nT ≤ 140737488351248 := by have := HNN.out; have := HNT.out; omega
      obtain ⟨hst1, hst2⟩ := Mod.chain_step (Cip.keys ky) (n1 / 4 + 7) hch.out hlj
      have HST1 := hide hst1
      have HST2 := hide hst2
      clear hst1 hst2 hch
      obtain ⟨ad', rfl, _⟩ := hL.out.at_ (show 0 < 16 by omega)
      go_upto_region 12 with fail
      have hb21 := hide (show Blk (wr.alloc (.cells zeros34 34)) wr.heap.size 34 (bytes (List.replicate 16 0)).toArray from Blk.new _ _ _)
      have hal := hide ((Below.refl wr.heap.size wr).alloc (Nat.le_refl _) (.cells zeros34 34))
      have hr16 : (List.replicate 16 (0 : UInt8)).length = 16 := List.length_replicate
      have hg21 : wr.heap.size < (wr.alloc (.cells zeros34 34)).heap.size := by simp
      generalize List.replicate 16 (0 : UInt8) = Z at *
      generalize wr.alloc (.cells zeros34 34) = w7 at *
      have hw6 := hb.out.size
      have hb7 := hide (hb.out.trans (hal.out.mono hw6))
      have hL7r := hide (hL.out.reads.below hal.out)
      have hll := hide hL.out.1.symm
      have hqj := hq
      generalize wr.heap.size = g21 at *
      clear hal hb hL
      go_wp2_with fail
      go_loopw [22] (fun i wi => ∃ (x : Nat) (L : List UInt8), x ≤ 16 ∧ i = .int .i64 x ∧ L.length = 16 ∧ Hid (∀ y, y < x → L.getD y 0 = pt.getD (q + y) 0 ^^^ lst.getD y 0) ∧ Hid (Blk wi g21 34 (bytes L).toArray) ∧ Hid (Below g21 w7 wi)) (fun i _ => 16 - (intOf i).toNat)
      case atStart => exact ⟨0, Z, by omega, rfl, hr16, hide (fun y hy => by omega), hb21, hide (Below.refl _ _)⟩
      case round =>
        clear hb21 hr16
        obtain ⟨x, L, hx, rfl, hLl, hV, hb21, hbi⟩ := hrel
        have hb8 := hide (hb7.out.trans (hbi.out.mono hw6))
        have hL8 : Hid (Reads wr g21 1 (some ad') 16 (bytes lst)) := hide (hL7r.out.below hbi.out)
        by_cases hlx : x < 16
        · obtain ⟨ad2, e2, f1⟩ := (S6.out.below hb8.out).at_ (show q + x < nT by omega)
          injection e2 with e2
          subst e2
          obtain ⟨ad3, u3, e3, _, hu3, f2⟩ := hL8.out.at_ hlx
          injection e3 with e3
          subst e3
          rw [bytes_get (by rw [hll.out]; exact hlx)] at hu3
          injection hu3 with hu3
          subst hu3
          have f0 := blk_byte hb21.out (show x < L.length by omega)
          have z0 : wr.frozen? ⟨g21, x, none⟩ = false := Blk.frozen hb21.out _
          have hidx : IntKind.i64.wrap ((q : Int) + (x : Int)) = ((q + x : Nat) : Int) := by
            rw [IntWalk.i64_in _ (by omega)]
            omega
          have z1 : (0 : Int) ≤ ((q + x : Nat) : Int) := by omega
          have z2 : ((q + x : Nat) : Int) < (nT : Int) := by omega
          have hput := hide (blk_put hb21.out x (pt.getD (q + x) 0 ^^^ lst.getD x 0))
          have hV2 : Hid (∀ y, y < x + 1 → (L.set x (pt.getD (q + x) 0 ^^^ lst.getD x 0)).getD y 0 = pt.getD (q + y) 0 ^^^ lst.getD y 0) := hide (fun y hy => by
            rw [set_getD (by omega)]
            by_cases e : y = x
            · subst e
              rw [if_pos rfl]
            · rw [if_neg e]
              exact hV.out y (by omega))
          generalize pt.getD (q + x) 0 = y1 at f1 hput hV2
          generalize lst.getD x 0 = y2 at f2 hput hV2
          generalize L.getD x 0 = y3 at f0
          generalize q + x = qx at f1 hidx z1 z2
          go_wp2_with fail
          go_still_tail 13, (by kernel_rfl)
          go_wp2
          go_roundw
          case rel => exact ⟨x + 1, _, by omega, by go_num, by rw [List.length_set]; exact hLl, hV2, hide (Blk.drew hput.out), hide ((hbi.out.setCell (Nat.le_refl _) _).drew)⟩
          case measure => simp only [intOf]; omega
        · obtain rfl : x = 16 := by omega
          have hLx : L = Mod.xor ((pt.drop q).take 16) lst := by
            rw [← Mod.xor_at, ← Cip.t16_self hLl]
            exact Cip.t16_congr hV.out
          subst hLx
          rw [hqj.out] at hb21
          have CI8 := hide (CI6.out.below hb8.out)
          have hr21 := hide (blk_whole hb21.out)
          have s16 := hide (size34' (Mod.xor_length ((pt.drop (16 * j)).take 16) lst))
          have hyl := Cip.sealB_length (Cip.keys ky) (n1 / 4 + 7) (Mod.xor ((pt.drop (16 * j)).take 16) lst)
          go_wp2_with (with_reducible refine wpList_load_mid rfl 34 (.tmp 21) rfl g21 0 rfl (bytes (Mod.xor ((pt.drop (16 * j)).take 16) lst)) _ hr21.out Try.underlying34 rfl s16.out ?_)
          refine (seal_any p kb (n1 / 4 + 7) kc (Mod.xor ((pt.drop (16 * j)).take 16) lst) (Cip.keys ky) wr (Mod.xor_length _ _) CI8.out).mono ?_
          rintro e w8 ⟨rfl, b8⟩
          generalize Cip.sealB (Cip.keys ky) (n1 / 4 + 7) (Mod.xor ((pt.drop (16 * j)).take 16) lst) = y at *
          have hstored := stored34 hyl w8
          have hlen : (bytes y).length = 16 := by rw [bytes_length, hyl]
          go_upto_region 17 with fail
          have hb23 := Blk.new w8 34 (bytes y).toArray
          have hbx := b8.alloc b8.size (.cells (bytes y).toArray 34)
          have HB9 := hide (hb8.out.trans (hbx.mono hb8.out.size))
          have hs23 : Sl (w8.alloc (.cells (bytes y).toArray 34)) (some ⟨w8.heap.size, 0, none⟩) 16 16 y := ⟨hyl.symm, Nat.le_refl _, (fun h => by cases h), by
            have := blk_reads (k := 16) hb23 rfl (by omega)
            rwa [List.take_of_length_le (by omega)] at this⟩
          have S23 := hide hs23
          clear hstored hlen hb23 hbx hs23 CI8 hr21 s16 hb21 b8 hbi hb8 hL8
          generalize w8.alloc (.cells (bytes y).toArray 34) = w9 at *
          generalize w8.heap.size = g23 at *
          have hmid : Sl w9 (some (ad4.add q)) 16 (c4 - q) y := by
            have := sl_mid (V4.out.below HB9.out) hqn
            rw [hqj.out, HST1.out, ← hqj.out] at this
            exact this
          have SM := hide hmid
          obtain ⟨q2, hq2⟩ : ∃ q2, q2 = q + 16 := ⟨_, rfl⟩
          have hw2 : IntKind.i64.wrap ((q : Int) + 16) = (q2 : Int) := by
            rw [IntWalk.i64_in _ (by omega)]
            omega
          have hne : ¬ c4 = q := by have := V4.out.2.1; omega
          have hz2 : (q2 : Int) ≤ (c4 : Int) := by have := V4.out.2.1; omega
          have hle2 : q ≤ q2 := by omega
          have hsub : q2 - q = 16 := by omega
          have HQ2 := hide hq2
          clear hmid hq2
          refine wp_region_noPanic ?_
          refine wp_region_held_drew (S := Below w9.heap.size w9) (by kernel_rfl) ((Below.refl _ w9).drew) (fun hHeld => ?_)
          refine wpAnyH_take (i := 0) (v := ?v0c) rfl (by kernel_rfl) (by kernel_rfl) (by kernel_rfl) (fun _ _ _ h => h) (Or.inl ⟨by rfl, fun u hSu => ?y0c⟩) hHeld ?r0c
          case y0c =>
              first
                | (go_simp; done)
                | (go_simp; with_reducible rfl)
          simp only [Act.put, List.getElem_toArray, List.getElem_cons_zero, List.setIfInBounds_toArray, List.set_cons_zero, List.set_cons_succ]
          refine wpAnyH_take (i := 1) (v := ?v1c) rfl (by kernel_rfl) (by kernel_rfl) (by kernel_rfl) (fun _ _ _ h => h) (Or.inl ⟨by rfl, fun u hSu => ?y1c⟩) hHeld ?r1c
          case y1c =>
              have cv := conv_string (S23.out.below hSu)
              clear hSu
              first
                | (go_simp; done)
                | (go_simp; with_reducible rfl)
          simp only [Act.put, List.getElem_toArray, List.getElem_cons_succ, List.getElem_cons_zero, List.setIfInBounds_toArray, List.set_cons_zero, List.set_cons_succ]
          refine wpAnyH_take (i := 2) (v := ?v2c) rfl (by kernel_rfl) (by kernel_rfl) (by kernel_rfl) (fun _ _ _ h => h) (Or.inl ⟨by rfl, fun u hSu => ?y2c⟩) hHeld ?r2c
          case y2c =>
              first
                | (go_simp; done)
                | (go_simp; with_reducible rfl)
          simp only [Act.put, List.getElem_toArray, List.getElem_cons_succ, List.getElem_cons_zero, List.setIfInBounds_toArray, List.set_cons_zero, List.set_cons_succ]
          refine wpAnyH_take (i := 3) (v := ?v3c) rfl (by kernel_rfl) (by kernel_rfl) (by kernel_rfl) (fun _ _ _ h => h) (Or.inl ⟨by rfl, fun u hSu => ?y3c⟩) hHeld ?r3c
          case y3c =>
              first
                | (go_simp; done)
                | (go_simp; with_reducible rfl)
          simp only [Act.put, List.getElem_toArray, List.getElem_cons_succ, List.getElem_cons_zero, List.setIfInBounds_toArray, List.set_cons_zero, List.set_cons_succ]
          refine wpAnyH_take (i := 4) (v := ?v4c) rfl (by kernel_rfl) (by kernel_rfl) (by kernel_rfl) (fun _ _ _ h => h) (Or.inl ⟨by rfl, fun u hSu => ?y4c⟩) hHeld ?r4c
          case y4c =>
              first
                | (go_simp; done)
                | (go_simp; with_reducible rfl)
          simp only [Act.put, List.getElem_toArray, List.getElem_cons_succ, List.getElem_cons_zero, List.setIfInBounds_toArray, List.set_cons_zero, List.set_cons_succ]
          refine wpAnyH_take (i := 5) (v := ?v5c) rfl (by kernel_rfl) (by kernel_rfl) (by kernel_rfl) (fun _ _ _ h => h) (Or.inl ⟨by rfl, fun u hSu => ?y5c⟩) hHeld ?r5c
          case y5c =>
              first
                | (go_simp; done)
                | (go_simp; with_reducible rfl)
          simp only [Act.put, List.getElem_toArray, List.getElem_cons_succ, List.getElem_cons_zero, List.setIfInBounds_toArray, List.set_cons_zero, List.set_cons_succ]
          refine wpAnyH_take (i := 6) (v := ?v6c) rfl (by kernel_rfl) (by kernel_rfl) (by kernel_rfl) (fun _ _ _ h => h) (Or.inl ⟨by rfl, fun u hSu => ?y6c⟩) hHeld ?r6c
          case y6c =>
              first
                | (go_simp; done)
                | (go_simp; with_reducible rfl)
          simp only [Act.put, List.getElem_toArray, List.getElem_cons_succ, List.getElem_cons_zero, List.setIfInBounds_toArray, List.set_cons_zero, List.set_cons_succ]
          refine wpAnyH_take (i := 7) (v := ?v7c) rfl (by kernel_rfl) (by kernel_rfl) (by kernel_rfl) (fun _ _ _ h => h) (Or.inl ⟨by rfl, fun u hSu => ?y7c⟩) hHeld ?r7c
          case y7c =>
              have cv := conv_string (SM.out.below hSu)
              clear hSu
              first
                | (go_simp; done)
                | (go_simp; with_reducible rfl)
          simp only [Act.put, List.getElem_toArray, List.getElem_cons_succ, List.getElem_cons_zero, List.setIfInBounds_toArray, List.set_cons_zero, List.set_cons_succ]
          refine wpAnyH_take (i := 8) (v := ?v8c) rfl (by kernel_rfl) (by kernel_rfl) (by kernel_rfl) (fun _ _ _ h => h) (Or.inl ⟨by rfl, fun u hSu => ?y8c⟩) hHeld ?r8c
          case y8c =>
              first
                | (go_simp; done)
                | (go_simp; with_reducible rfl)
          simp only [Act.put, List.getElem_toArray, List.getElem_cons_succ, List.getElem_cons_zero, List.setIfInBounds_toArray, List.set_cons_zero, List.set_cons_succ]
          refine wpAnyH_done (by kernel_rfl) ?_ _
          refine NoPanic.normal ?_
          clear hHeld S23
          go_wp2_with fail
          go_roundw
          case rel => exact ⟨j + 1, q2, _, _, y, by omega, hide (by rw [HQ2.out, hqj.out]; omega), rfl, rfl, hide (SM.out.drewN 1), HST2, hide (Below.drewN HB9.out 1)⟩
          case measure =>
            have e1 := HQ2.out
            have e2 := hqj.out
            have e3 := HNT.out
            simp only [intOf]
            omega
    · obtain rfl : j = NN := by omega
      have g2 : (nT : Int) < (q : Int) + 16 := by have := hq.out; have := HNT.out; omega
      have hqb : q ≤ 140737488351248 := by have := hq.out; have := HNN.out; omega
      go_wp2_with fail
      refine (pickm_any cut ((n3 : Int) + 1) wr (by omega)).mono ?_
      rintro e w' ⟨⟨z, rfl, hz1', hz2'⟩, rfl⟩
      obtain ⟨r, rfl⟩ := Int.eq_ofNat_of_zero_le hz1'
      obtain ⟨x, hx⟩ : ∃ x, x = r / 16 := ⟨_, rfl⟩
      have hdiv : (r : Int) / (16 : Int) = (x : Int) := by omega
      have hx16 : 16 * x ≤ n3 := by omega
      obtain ⟨mm, hmm⟩ : ∃ mm, mm = 16 * x := ⟨_, rfl⟩
      have hmul : 16 * (x : Int) = (mm : Int) := by omega
      have HX := hide hx
      have HMM := hide hmm
      have HX16 := hide hx16
      clear hx hmm hx16
      have hmn : mm ≤ n3 := by have := HX16.out; have := HMM.out; omega
      have hmc : (mm : Int) ≤ (c3 : Int) := by have := V3.out.2.1; omega
      go_wp2_with fail
      refine (mseal_any A1 A2 A3 n1 c1 c2 mm c3 ky v (tt.take mm) wr (V1.out.below hb.out) (V2.out.below hb.out) ((V3.out.below hb.out).take hmn) N1.out (by omega)).mono ?_
      rintro e w8 ⟨v8, rfl, o8, b8⟩
      have hb8 := hide (hb.out.trans (b8.mono hb.out.size))
      have hE1 := HPRE.out x (by rw [HTL.out]; exact HX16.out)
      rw [← HMM.out] at hE1
      have hDl := Mod.sealT_length (Cip.keys ky) (n1 / 4 + 7) v (tt.take mm)
      generalize Mod.sealT (Cip.keys ky) (n1 / 4 + 7) v (tt.take mm) = D at *
      have htm : (tt.take mm).length = mm := by rw [List.length_take, HTL.out]; omega
      rw [htm] at hDl
      obtain ⟨A8, c8, rfl, s8⟩ := Sl.of_own o8
      generalize hDn : D.length = nD at *
      have hg1 : (mm : Int) ≤ (nD : Int) := by omega
      have hg2 : (mm : Int) ≤ (nT : Int) := by have := HNT.out; have := HNN.out; omega
      have hg3 : (mm : Int) ≤ (c8 : Int) := by have := s8.2.1; omega
      have hg4 : (mm : Int) ≤ (c4 : Int) := by have := V4.out.2.1; omega
      have sD := hide (s8.take (k := mm) (by omega))
      have sT := hide ((V4.out.below hb8.out).take (k := mm) (by omega))
      rw [hE1] at sD
      generalize T.take mm = E at sD sT
      clear o8 s8 hDl htm hDn hE1 b8
      go_wp2_with fail
      refine wp_region_noPanic ?_
      refine wp_region_held_drew (S := Below w8.heap.size w8) (by kernel_rfl) ((Below.refl _ w8).drew) (fun hHeld => ?_)
      refine wpAnyH_take (i := 0) (v := ?v0d) rfl (by kernel_rfl) (by kernel_rfl) (by kernel_rfl) (fun _ _ _ h => h) (Or.inl ⟨by rfl, fun u hSu => ?y0d⟩) hHeld ?r0d
      case y0d =>
          first
            | (go_simp; done)
            | (go_simp; with_reducible rfl)
      simp only [Act.put, List.getElem_toArray, List.getElem_cons_zero, List.setIfInBounds_toArray, List.set_cons_zero, List.set_cons_succ]
      refine wpAnyH_take (i := 1) (v := ?v1d) rfl (by kernel_rfl) (by kernel_rfl) (by kernel_rfl) (fun _ _ _ h => h) (Or.inl ⟨by rfl, fun u hSu => ?y1d⟩) hHeld ?r1d
      case y1d =>
          first
            | (go_simp; done)
            | (go_simp; with_reducible rfl)
      simp only [Act.put, List.getElem_toArray, List.getElem_cons_succ, List.getElem_cons_zero, List.setIfInBounds_toArray, List.set_cons_zero, List.set_cons_succ]
      refine wpAnyH_take (i := 2) (v := ?v2d) rfl (by kernel_rfl) (by kernel_rfl) (by kernel_rfl) (fun _ _ _ h => h) (Or.inl ⟨by rfl, fun u hSu => ?y2d⟩) hHeld ?r2d
      case y2d =>
          first
            | (go_simp; done)
            | (go_simp; with_reducible rfl)
      simp only [Act.put, List.getElem_toArray, List.getElem_cons_succ, List.getElem_cons_zero, List.setIfInBounds_toArray, List.set_cons_zero, List.set_cons_succ]
      refine wpAnyH_take (i := 3) (v := ?v3d) rfl (by kernel_rfl) (by kernel_rfl) (by kernel_rfl) (fun _ _ _ h => h) (Or.inl ⟨by rfl, fun u hSu => ?y3d⟩) hHeld ?r3d
      case y3d =>
          first
            | (go_simp; done)
            | (go_simp; with_reducible rfl)
      simp only [Act.put, List.getElem_toArray, List.getElem_cons_succ, List.getElem_cons_zero, List.setIfInBounds_toArray, List.set_cons_zero, List.set_cons_succ]
      refine wpAnyH_take (i := 4) (v := ?v4d) rfl (by kernel_rfl) (by kernel_rfl) (by kernel_rfl) (fun _ _ _ h => h) (Or.inl ⟨by rfl, fun u hSu => ?y4d⟩) hHeld ?r4d
      case y4d =>
          first
            | (go_simp; done)
            | (go_simp; with_reducible rfl)
      simp only [Act.put, List.getElem_toArray, List.getElem_cons_succ, List.getElem_cons_zero, List.setIfInBounds_toArray, List.set_cons_zero, List.set_cons_succ]
      refine wpAnyH_take (i := 5) (v := ?v5d) rfl (by kernel_rfl) (by kernel_rfl) (by kernel_rfl) (fun _ _ _ h => h) (Or.inl ⟨by rfl, fun u hSu => ?y5d⟩) hHeld ?r5d
      case y5d =>
          first
            | (go_simp; done)
            | (go_simp; with_reducible rfl)
      simp only [Act.put, List.getElem_toArray, List.getElem_cons_succ, List.getElem_cons_zero, List.setIfInBounds_toArray, List.set_cons_zero, List.set_cons_succ]
      refine wpAnyH_take (i := 6) (v := ?v6d) rfl (by kernel_rfl) (by kernel_rfl) (by kernel_rfl) (fun _ _ _ h => h) (Or.inl ⟨by rfl, fun u hSu => ?y6d⟩) hHeld ?r6d
      case y6d =>
          first
            | (go_simp; done)
            | (go_simp; with_reducible rfl)
      simp only [Act.put, List.getElem_toArray, List.getElem_cons_succ, List.getElem_cons_zero, List.setIfInBounds_toArray, List.set_cons_zero, List.set_cons_succ]
      refine wpAnyH_take (i := 7) (v := ?v7d) rfl (by kernel_rfl) (by kernel_rfl) (by kernel_rfl) (fun _ _ _ h => h) (Or.inl ⟨by rfl, fun u hSu => ?y7d⟩) hHeld ?r7d
      case y7d =>
          first
            | (go_simp; done)
            | (go_simp; with_reducible rfl)
      simp only [Act.put, List.getElem_toArray, List.getElem_cons_succ, List.getElem_cons_zero, List.setIfInBounds_toArray, List.set_cons_zero, List.set_cons_succ]
      refine wpAnyH_take (i := 8) (v := ?v8d) rfl (by kernel_rfl) (by kernel_rfl) (by kernel_rfl) (fun _ _ _ h => h) (Or.inl ⟨by rfl, fun u hSu => ?y8d⟩) hHeld ?r8d
      case y8d =>
          first
            | (go_simp; done)
            | (go_simp; with_reducible rfl)
      simp only [Act.put, List.getElem_toArray, List.getElem_cons_succ, List.getElem_cons_zero, List.setIfInBounds_toArray, List.set_cons_zero, List.set_cons_succ]
      refine wpAnyH_take (i := 9) (v := ?v9d) rfl (by kernel_rfl) (by kernel_rfl) (by kernel_rfl) (fun _ _ _ h => h) (Or.inl ⟨by rfl, fun u hSu => ?y9d⟩) hHeld ?r9d
      case y9d =>
          first
            | (go_simp; done)
            | (go_simp; with_reducible rfl)
      simp only [Act.put, List.getElem_toArray, List.getElem_cons_succ, List.getElem_cons_zero, List.setIfInBounds_toArray, List.set_cons_zero, List.set_cons_succ]
      refine wpAnyH_take (i := 10) (v := ?v10d) rfl (by kernel_rfl) (by kernel_rfl) (by kernel_rfl) (fun _ _ _ h => h) (Or.inl ⟨by rfl, fun u hSu => ?y10d⟩) hHeld ?r10d
      case y10d =>
          first
            | (go_simp; done)
            | (go_simp; with_reducible rfl)
      simp only [Act.put, List.getElem_toArray, List.getElem_cons_succ, List.getElem_cons_zero, List.setIfInBounds_toArray, List.set_cons_zero, List.set_cons_succ]
      refine wpAnyH_take (i := 11) (v := ?v11d) rfl (by kernel_rfl) (by kernel_rfl) (by kernel_rfl) (fun _ _ _ h => h) (Or.inl ⟨by rfl, fun u hSu => ?y11d⟩) hHeld ?r11d
      case y11d =>
          first
            | (go_simp; done)
            | (go_simp; with_reducible rfl)
      simp only [Act.put, List.getElem_toArray, List.getElem_cons_succ, List.getElem_cons_zero, List.setIfInBounds_toArray, List.set_cons_zero, List.set_cons_succ]
      refine wpAnyH_take (i := 12) (v := ?v12d) rfl (by kernel_rfl) (by kernel_rfl) (by kernel_rfl) (fun _ _ _ h => h) (Or.inl ⟨by rfl, fun u hSu => ?y12d⟩) hHeld ?r12d
      case y12d =>
          first
            | (go_simp; done)
            | (go_simp; with_reducible rfl)
      simp only [Act.put, List.getElem_toArray, List.getElem_cons_succ, List.getElem_cons_zero, List.setIfInBounds_toArray, List.set_cons_zero, List.set_cons_succ]
      refine wpAnyH_take (i := 13) (v := ?v13d) rfl (by kernel_rfl) (by kernel_rfl) (by kernel_rfl) (fun _ _ _ h => h) (Or.inl ⟨by rfl, fun u hSu => ?y13d⟩) hHeld ?r13d
      case y13d =>
          first
            | (go_simp; done)
            | (go_simp; with_reducible rfl)
      simp only [Act.put, List.getElem_toArray, List.getElem_cons_succ, List.getElem_cons_zero, List.setIfInBounds_toArray, List.set_cons_zero, List.set_cons_succ]
      refine wpAnyH_take (i := 14) (v := ?v14d) rfl (by kernel_rfl) (by kernel_rfl) (by kernel_rfl) (fun _ _ _ h => h) (Or.inl ⟨by rfl, fun u hSu => ?y14d⟩) hHeld ?r14d
      case y14d =>
          first
            | (go_simp; done)
            | (go_simp; with_reducible rfl)
      simp only [Act.put, List.getElem_toArray, List.getElem_cons_succ, List.getElem_cons_zero, List.setIfInBounds_toArray, List.set_cons_zero, List.set_cons_succ]
      refine wpAnyH_take (i := 15) (v := ?v15d) rfl (by kernel_rfl) (by kernel_rfl) (by kernel_rfl) (fun _ _ _ h => h) (Or.inl ⟨by rfl, fun u hSu => ?y15d⟩) hHeld ?r15d
      case y15d =>
          first
            | (go_simp; done)
            | (go_simp; with_reducible rfl)
      simp only [Act.put, List.getElem_toArray, List.getElem_cons_succ, List.getElem_cons_zero, List.setIfInBounds_toArray, List.set_cons_zero, List.set_cons_succ]
      refine wpAnyH_take (i := 16) (v := ?v16d) rfl (by kernel_rfl) (by kernel_rfl) (by kernel_rfl) (fun _ _ _ h => h) (Or.inl ⟨by rfl, fun u hSu => ?y16d⟩) hHeld ?r16d
      case y16d =>
          first
            | (go_simp; done)
            | (go_simp; with_reducible rfl)
      simp only [Act.put, List.getElem_toArray, List.getElem_cons_succ, List.getElem_cons_zero, List.setIfInBounds_toArray, List.set_cons_zero, List.set_cons_succ]
      refine wpAnyH_take (i := 17) (v := ?v17d) rfl (by kernel_rfl) (by kernel_rfl) (by kernel_rfl) (fun _ _ _ h => h) (Or.inl ⟨by rfl, fun u hSu => ?y17d⟩) hHeld ?r17d
      case y17d =>
          first
            | (go_simp; done)
            | (go_simp; with_reducible rfl)
      simp only [Act.put, List.getElem_toArray, List.getElem_cons_succ, List.getElem_cons_zero, List.setIfInBounds_toArray, List.set_cons_zero, List.set_cons_succ]
      refine wpAnyH_take (i := 18) (v := ?v18d) rfl (by kernel_rfl) (by kernel_rfl) (by kernel_rfl) (fun _ _ _ h => h) (Or.inl ⟨by rfl, fun u hSu => ?y18d⟩) hHeld ?r18d
      case y18d =>
          have cv := conv_string (sD.out.below hSu)
          clear hSu
          first
            | (go_simp; done)
            | (go_simp; with_reducible rfl)
      simp only [Act.put, List.getElem_toArray, List.getElem_cons_succ, List.getElem_cons_zero, List.setIfInBounds_toArray, List.set_cons_zero, List.set_cons_succ]
      refine wpAnyH_take (i := 19) (v := ?v19d) rfl (by kernel_rfl) (by kernel_rfl) (by kernel_rfl) (fun _ _ _ h => h) (Or.inl ⟨by rfl, fun u hSu => ?y19d⟩) hHeld ?r19d
      case y19d =>
          first
            | (go_simp; done)
            | (go_simp; with_reducible rfl)
      simp only [Act.put, List.getElem_toArray, List.getElem_cons_succ, List.getElem_cons_zero, List.setIfInBounds_toArray, List.set_cons_zero, List.set_cons_succ]
      refine wpAnyH_take (i := 20) (v := ?v20d) rfl (by kernel_rfl) (by kernel_rfl) (by kernel_rfl) (fun _ _ _ h => h) (Or.inl ⟨by rfl, fun u hSu => ?y20d⟩) hHeld ?r20d
      case y20d =>
          first
            | (go_simp; done)
            | (go_simp; with_reducible rfl)
      simp only [Act.put, List.getElem_toArray, List.getElem_cons_succ, List.getElem_cons_zero, List.setIfInBounds_toArray, List.set_cons_zero, List.set_cons_succ]
      refine wpAnyH_take (i := 21) (v := ?v21d) rfl (by kernel_rfl) (by kernel_rfl) (by kernel_rfl) (fun _ _ _ h => h) (Or.inl ⟨by rfl, fun u hSu => ?y21d⟩) hHeld ?r21d
      case y21d =>
          first
            | (go_simp; done)
            | (go_simp; with_reducible rfl)
      simp only [Act.put, List.getElem_toArray, List.getElem_cons_succ, List.getElem_cons_zero, List.setIfInBounds_toArray, List.set_cons_zero, List.set_cons_succ]
      refine wpAnyH_take (i := 22) (v := ?v22d) rfl (by kernel_rfl) (by kernel_rfl) (by kernel_rfl) (fun _ _ _ h => h) (Or.inl ⟨by rfl, fun u hSu => ?y22d⟩) hHeld ?r22d
      case y22d =>
          have cv := conv_string (sT.out.below hSu)
          clear hSu
          first
            | (go_simp; done)
            | (go_simp; with_reducible rfl)
      simp only [Act.put, List.getElem_toArray, List.getElem_cons_succ, List.getElem_cons_zero, List.setIfInBounds_toArray, List.set_cons_zero, List.set_cons_succ]
      refine wpAnyH_take (i := 23) (v := ?v23d) rfl (by kernel_rfl) (by kernel_rfl) (by kernel_rfl) (fun _ _ _ h => h) (Or.inl ⟨by rfl, fun u hSu => ?y23d⟩) hHeld ?r23d
      case y23d =>
          first
            | (go_simp; done)
            | (go_simp; with_reducible rfl)
      simp only [Act.put, List.getElem_toArray, List.getElem_cons_succ, List.getElem_cons_zero, List.setIfInBounds_toArray, List.set_cons_zero, List.set_cons_succ]
      refine wpAnyH_take (i := 24) (v := ?v24d) rfl (by kernel_rfl) (by kernel_rfl) (by kernel_rfl) (fun _ _ _ h => h) (Or.inl ⟨by rfl, fun u hSu => ?y24d⟩) hHeld ?r24d
      case y24d =>
          first
            | (go_simp; done)
            | (go_simp; with_reducible rfl)
      simp only [Act.put, List.getElem_toArray, List.getElem_cons_succ, List.getElem_cons_zero, List.setIfInBounds_toArray, List.set_cons_zero, List.set_cons_succ]
      refine wpAnyH_take (i := 25) (v := ?v25d) rfl (by kernel_rfl) (by kernel_rfl) (by kernel_rfl) (fun _ _ _ h => h) (Or.inl ⟨by rfl, fun u hSu => ?y25d⟩) hHeld ?r25d
      case y25d =>
          first
            | (go_simp; done)
            | (go_simp; with_reducible rfl)
      simp only [Act.put, List.getElem_toArray, List.getElem_cons_succ, List.getElem_cons_zero, List.setIfInBounds_toArray, List.set_cons_zero, List.set_cons_succ]
      refine wpAnyH_done (by kernel_rfl) ?_ _
      refine NoPanic.normal ?_
      go_wp2_with fail
      go_ret
      exact ⟨rfl, hbe6.out.trans ((hb8.out.trans (hHeld.mono hb8.out.size)).mono hbe6.out.size)⟩
end Go.Proofs.Ytjcdblnodbadcaa
