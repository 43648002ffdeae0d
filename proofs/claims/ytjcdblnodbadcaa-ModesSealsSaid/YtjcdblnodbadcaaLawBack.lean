/- The walk of the law AesBack. -/
import Derived.Test.YtjcdblnodbadcaaNew
import Derived.Test.YtjcdblnodbadcaaHand
import Derived.Test.YtjcdblnodbadcaaLawField
import Derived.Deep.RegionHeld3
namespace Go.Proofs.Ytjcdblnodbadcaa
open Go.RowKit

theorem Ci.drew {w : World} {p kb nr kc : Nat} {all : List UInt8} (h : Ci w p kb nr kc all) : Ci w.drew p kb nr kc all := ⟨h.blk, h.keys, h.one, h.few, h.room⟩
theorem Ci.drewN {w : World} {p kb nr kc : Nat} {all : List UInt8} (h : Ci w p kb nr kc all) (n : Nat) : Ci (w.drewN n) p kb nr kc all := ⟨h.blk, h.keys, h.one, h.few, h.room⟩
theorem blk_range {w : World} {g : Nat} {t : TypeId} {l : List UInt8} {cs : Array Value} (h : Blk w g t cs) (e : (bytes l).toArray = cs) : w.rangeAt g 0 (bytes l) := fun j v hj => by
  subst e
  rw [Nat.zero_add, Blk.cell h]
  simpa using hj
theorem range_below {w w' : World} {B g o : Nat} {cs : List Value} (h : w.rangeAt g o cs) (hb : Below B w w') (hg : g < B) : w'.rangeAt g o cs := fun j v hj => (hb.cell hg).trans (h j v hj)
theorem back_keep {w w' W : World} {p kb nr kc g1 g2 : Nat} {all a b : List UInt8} (hb : Below w.heap.size w w') (h1 : Ci w p kb nr kc all) (h2 : w.rangeAt g1 0 (bytes a)) (h3 : w.rangeAt g2 0 (bytes b)) (h4 : Below W.heap.size W w) (l1 : g1 < W.heap.size) (l2 : g2 < W.heap.size) :
    Ci w' p kb nr kc all ∧ w'.rangeAt g1 0 (bytes a) ∧ w'.rangeAt g2 0 (bytes b) ∧ Below W.heap.size W w' :=
  ⟨h1.below hb, range_below h2 hb (Nat.lt_of_lt_of_le l1 h4.size), range_below h3 hb (Nat.lt_of_lt_of_le l2 h4.size), h4.trans (hb.mono h4.size)⟩
theorem back_drew {w W : World} {p kb nr kc g1 g2 : Nat} {all a b : List UInt8} (h1 : Ci w p kb nr kc all) (h2 : w.rangeAt g1 0 (bytes a)) (h3 : w.rangeAt g2 0 (bytes b)) (h4 : Below W.heap.size W w) :
    Ci w.drew p kb nr kc all ∧ w.drew.rangeAt g1 0 (bytes a) ∧ w.drew.rangeAt g2 0 (bytes b) ∧ Below W.heap.size W w.drew := ⟨h1.drew, h2, h3, h4.drew⟩
set_option maxRecDepth 100000 in
set_option maxHeartbeats 3200000 in
theorem lawBack_any (k a b : List UInt8) (n : Int) (w : World) (hk : k.length = 32) (ha : a.length = 16) (hb : b.length = 16) :
    Calls Try.prog 7 #[.agg (bytes k).toArray, .int .i64 n, .agg (bytes a).toArray, .agg (bytes b).toArray] w fun e w' => e = .returned (.bool true) ∧ Below w.heap.size w w' := by
  have h33 := hide (size33 hk)
  generalize hA : (bytes k).toArray = A
  generalize hB : (bytes a).toArray = B
  generalize hC : (bytes b).toArray = C
  have hr := hide (blk_range (Blk.alloc (Blk.alloc (Blk.new w 33 A) (.cells B 34)) (.cells C 34)) hA)
  have hr1 : Blk ((w.alloc (.cells A 33)).alloc (.cells B 34)) (w.heap.size + 1) 34 B := by
    have := Blk.new (w.alloc (.cells A 33)) 34 B
    rwa [World.size_alloc] at this
  have hr2 : Blk (((w.alloc (.cells A 33)).alloc (.cells B 34)).alloc (.cells C 34)) (w.heap.size + 1 + 1) 34 C := by
    have := Blk.new ((w.alloc (.cells A 33)).alloc (.cells B 34)) 34 C
    rwa [World.size_alloc, World.size_alloc] at this
  have hr3 := hide (blk_range (Blk.alloc hr1 (.cells C 34)) hB)
  have hr4 := hide (blk_range hr2 hC)
  have hbe : Below w.heap.size w (((w.alloc (.cells A 33)).alloc (.cells B 34)).alloc (.cells C 34)) :=
    (((Below.refl _ w).alloc (Nat.le_refl _) _).alloc (by simp) _).alloc (by simp; omega) _
  have hsz : (((w.alloc (.cells A 33)).alloc (.cells B 34)).alloc (.cells C 34)).heap.size = w.heap.size + 3 := by simp
  clear hr1 hr2 hA hB hC
  go_enter Try.func7, Try.ntmps7
  go_upto_region 1 with fail
  generalize (((w.alloc (.cells A 33)).alloc (.cells B 34)).alloc (.cells C 34)) = w1 at *
  go_wp2_with (with_reducible refine wpList_load_mid rfl 33 (.tmp 4) rfl w.heap.size 0 rfl (bytes k) _ hr.out Try.underlying33 rfl h33.out ?_)
  refine (key_any k n _ hk).mono ?_
  rintro e w2 ⟨v, m, rfl, hm, o2, b2⟩
  have hkl : (k.take m).length = m := by rw [List.length_take]; omega
  generalize k.take m = ky at o2 hkl
  obtain rfl := hkl
  obtain ⟨Ak, ck, rfl, s2⟩ := Sl.of_own o2
  have S2 := hide s2
  clear o2 s2
  have hb2 : Below w.heap.size w w2 := hbe.trans (b2.mono hbe.size)
  have q3 := hide (range_below hr3.out b2 (by omega))
  have q4 := hide (range_below hr4.out b2 (by omega))
  have hz2 := b2.size
  clear hr hr3 hr4 hbe b2
  go_wp2_with fail
  refine (new_any Ak _ ck ky w2 S2.out hm).mono ?_
  rintro e w3 ⟨⟨p, kb, kc, rfl, ci⟩, b3⟩
  have CI := hide ci
  have hb3 : Below w.heap.size w w3 := hb2.trans (b3.mono hb2.size)
  have q3' := hide (range_below q3.out b3 (by omega))
  have q4' := hide (range_below q4.out b3 (by omega))
  have hz3 := b3.size
  clear q3 q4 hb2 b3 ci S2 hm
  generalize ky.length / 4 + 7 = nr at CI
  generalize Cip.keys ky = T at CI
  go_wp2_with fail
  refine (known8_any _).mono ?_
  rintro e w4 ⟨rfl, nd, rfl⟩
  have CI4 := CI.out.drewN nd
  have hb4 := Below.drewN hb3 nd
  have r3 : (w3.drewN nd).rangeAt (w.heap.size + 1) 0 (bytes a) := q3'.out
  have r4 : (w3.drewN nd).rangeAt (w.heap.size + 1 + 1) 0 (bytes b) := q4'.out
  have l1 : w.heap.size + 1 < (w3.drewN nd).heap.size := by show _ < w3.heap.size; omega
  have l2 : w.heap.size + 1 + 1 < (w3.drewN nd).heap.size := by show _ < w3.heap.size; omega
  clear CI hb3 q3' q4' hz2 hz3 hsz
  go_wp2_with fail
  generalize w3.drewN nd = w4 at *
  have i34 : (Try.prog.info? 34).map (·.size) = some (bytes a).length := size34' ha
  have i34' : (Try.prog.info? 34).map (·.size) = some (bytes b).length := size34' hb
  have u34 := Try.underlying34
  have he1 : ∀ u : World, (Op.equalIn 10000 34 (.agg (bytes (Cip.openB T nr (Cip.sealB T nr a))).toArray) (.agg (bytes a).toArray)).run Try.prog u = .ok true u := fun u => by
    rw [Cip.open_seal T nr ha, eql34 a a ha ha]
    simp
  have he2 : ∀ u : World, (Op.equalIn 10000 34 (.agg (bytes (Cip.sealB T nr (Cip.openB T nr a))).toArray) (.agg (bytes a).toArray)).run Try.prog u = .ok true u := fun u => by
    rw [Cip.seal_open T nr ha, eql34 a a ha ha]
    simp
  have he3 : ∀ u : World, (Op.equalIn 10000 34 (.agg (bytes (Cip.sealB T nr a)).toArray) (.agg (bytes (Cip.sealB T nr b)).toArray)).run Try.prog u = .ok (a == b) u := fun u => by
    rw [eql34 _ _ (Cip.sealB_length ..) (Cip.sealB_length ..)]
    congr 1
    rw [Bool.eq_iff_iff, beq_iff_eq, beq_iff_eq]
    exact Cip.seal_inj T nr ha hb
  have he4 := fun u => eql34 a b ha hb u
  have hS := Below.refl w4.heap.size w4
  refine wp_region_noPanic ?_
  refine wp_region_held_drew (S := fun w' => Ci w' p kb nr kc T ∧ w'.rangeAt (w.heap.size + 1) 0 (bytes a) ∧ w'.rangeAt (w.heap.size + 1 + 1) 0 (bytes b) ∧ Below w4.heap.size w4 w') (by kernel_rfl) (back_drew CI4 r3 r4 hS) (fun hHeld => ?_)
  refine wpAnyH_take (i := 0) (v := ?v0) rfl (by kernel_rfl) (by kernel_rfl) (by kernel_rfl) (fun _ _ _ h => h) (Or.inl ⟨by rfl, fun u hSu => ?y0⟩) (by assumption) ?r0
  case y0 =>
    first
      | (go_simp; done)
      | (go_simp; with_reducible rfl)
  simp only [Act.put, List.getElem_toArray, List.getElem_cons_zero, List.setIfInBounds_toArray, List.set_cons_zero, List.set_cons_succ]
  refine wpAnyH_take (i := 1) (v := ?v1) rfl (by kernel_rfl) (by kernel_rfl) (by kernel_rfl) (fun _ _ _ h => h) (Or.inl ⟨by rfl, fun u hSu => ?y1⟩) (by assumption) ?r1
  case y1 =>
    first
      | (go_simp; done)
      | (go_simp; with_reducible rfl)
  simp only [Act.put, List.getElem_toArray, List.getElem_cons_succ, List.getElem_cons_zero, List.setIfInBounds_toArray, List.set_cons_zero, List.set_cons_succ]
  refine wpAnyH_take (i := 2) (v := .agg (bytes a).toArray) rfl (by kernel_rfl) (by kernel_rfl) (by kernel_rfl) (fun _ _ _ h => h) (yieldsIf_load_mid (by rfl) 34 (.tmp 6) rfl (w.heap.size + 1) 0 rfl (bytes a) _ (fun u hSu => hSu.2.1) u34 rfl i34) (by assumption) ?_
  simp only [Act.put, List.getElem_toArray, List.getElem_cons_succ, List.getElem_cons_zero, List.setIfInBounds_toArray, List.set_cons_zero, List.set_cons_succ]
  refine wpAnyH_take (i := 5) (v := .agg (bytes a).toArray) rfl (by kernel_rfl) (by kernel_rfl) (by kernel_rfl) (fun _ _ _ h => h) (yieldsIf_load_mid (by rfl) 34 (.tmp 6) rfl (w.heap.size + 1) 0 rfl (bytes a) _ (fun u hSu => hSu.2.1) u34 rfl i34) (by assumption) ?_
  simp only [Act.put, List.getElem_toArray, List.getElem_cons_succ, List.getElem_cons_zero, List.setIfInBounds_toArray, List.set_cons_zero, List.set_cons_succ]
  refine wpAnyH_ready (rs := [3]) (by kernel_rfl) (by simp) ?_
  refine AllReadyH.cons rfl (fun K hK => ?_) AllReadyH.nil
  go_simp
  refine (seal_any p kb nr kc a T _ ha hHeld.1).mono ?_
  rintro e w' ⟨rfl, hbs⟩
  go_wp2_with fail
  refine hK.out _ _ (back_keep hbs hHeld.1 hHeld.2.1 hHeld.2.2.1 hHeld.2.2.2 l1 l2) (fun hHeld => ?_)
  clear hK K hbs
  refine wpAnyH_ready (rs := [4]) (by kernel_rfl) (by simp) ?_
  refine AllReadyH.cons rfl (fun K hK => ?_) AllReadyH.nil
  go_simp
  refine (open_any p kb nr kc _ T _ (Cip.sealB_length _ _ _) hHeld.1).mono ?_
  rintro e w' ⟨rfl, hbs⟩
  go_wp2_with fail
  refine hK.out _ _ (back_keep hbs hHeld.1 hHeld.2.1 hHeld.2.2.1 hHeld.2.2.2 l1 l2) (fun hHeld => ?_)
  clear hK K hbs
  refine wpAnyH_take (i := 6) (v := ?v6) rfl (by kernel_rfl) (by kernel_rfl) (by kernel_rfl) (fun _ _ _ h => h) (Or.inl ⟨by rfl, fun u hSu => ?y6⟩) (by assumption) ?r6
  case y6 =>
    first
      | (go_simp; done)
      | (go_simp; with_reducible rfl)
  simp only [Act.put, List.getElem_toArray, List.getElem_cons_succ, List.getElem_cons_zero, List.setIfInBounds_toArray, List.set_cons_zero, List.set_cons_succ]
  refine wpAnyH_take (i := 7) (v := ?v7) rfl (by kernel_rfl) (by kernel_rfl) (by kernel_rfl) (fun _ _ _ h => h) (Or.inl ⟨by rfl, fun u hSu => ?y7⟩) (by assumption) ?r7
  case y7 =>
    first
      | (go_simp; done)
      | (go_simp; with_reducible rfl)
  simp only [Act.put, List.getElem_toArray, List.getElem_cons_succ, List.getElem_cons_zero, List.setIfInBounds_toArray, List.set_cons_zero, List.set_cons_succ]
  refine wpAnyH_take (i := 8) (v := ?v8) rfl (by kernel_rfl) (by kernel_rfl) (by kernel_rfl) (fun _ _ _ h => h) (Or.inl ⟨by rfl, fun u hSu => ?y8⟩) (by assumption) ?r8
  case y8 =>
    first
      | (go_simp; done)
      | (go_simp; with_reducible rfl)
  simp only [Act.put, List.getElem_toArray, List.getElem_cons_succ, List.getElem_cons_zero, List.setIfInBounds_toArray, List.set_cons_zero, List.set_cons_succ]
  refine wpAnyH_take (i := 9) (v := ?v9) rfl (by kernel_rfl) (by kernel_rfl) (by kernel_rfl) (fun _ _ _ h => h) (Or.inl ⟨by rfl, fun u hSu => ?y9⟩) (by assumption) ?r9
  case y9 =>
    first
      | (go_simp; done)
      | (go_simp; with_reducible rfl)
  simp only [Act.put, List.getElem_toArray, List.getElem_cons_succ, List.getElem_cons_zero, List.setIfInBounds_toArray, List.set_cons_zero, List.set_cons_succ]
  refine wpAnyH_take (i := 10) (v := .agg (bytes a).toArray) rfl (by kernel_rfl) (by kernel_rfl) (by kernel_rfl) (fun _ _ _ h => h) (yieldsIf_load_mid (by rfl) 34 (.tmp 6) rfl (w.heap.size + 1) 0 rfl (bytes a) _ (fun u hSu => hSu.2.1) u34 rfl i34) (by assumption) ?_
  simp only [Act.put, List.getElem_toArray, List.getElem_cons_succ, List.getElem_cons_zero, List.setIfInBounds_toArray, List.set_cons_zero, List.set_cons_succ]
  refine wpAnyH_take (i := 13) (v := .agg (bytes a).toArray) rfl (by kernel_rfl) (by kernel_rfl) (by kernel_rfl) (fun _ _ _ h => h) (yieldsIf_load_mid (by rfl) 34 (.tmp 6) rfl (w.heap.size + 1) 0 rfl (bytes a) _ (fun u hSu => hSu.2.1) u34 rfl i34) (by assumption) ?_
  simp only [Act.put, List.getElem_toArray, List.getElem_cons_succ, List.getElem_cons_zero, List.setIfInBounds_toArray, List.set_cons_zero, List.set_cons_succ]
  refine wpAnyH_ready (rs := [11]) (by kernel_rfl) (by simp) ?_
  refine AllReadyH.cons rfl (fun K hK => ?_) AllReadyH.nil
  go_simp
  refine (open_any p kb nr kc a T _ ha hHeld.1).mono ?_
  rintro e w' ⟨rfl, hbs⟩
  go_wp2_with fail
  refine hK.out _ _ (back_keep hbs hHeld.1 hHeld.2.1 hHeld.2.2.1 hHeld.2.2.2 l1 l2) (fun hHeld => ?_)
  clear hK K hbs
  refine wpAnyH_ready (rs := [12]) (by kernel_rfl) (by simp) ?_
  refine AllReadyH.cons rfl (fun K hK => ?_) AllReadyH.nil
  go_simp
  refine (seal_any p kb nr kc _ T _ (Cip.openB_length _ _ ha) hHeld.1).mono ?_
  rintro e w' ⟨rfl, hbs⟩
  go_wp2_with fail
  refine hK.out _ _ (back_keep hbs hHeld.1 hHeld.2.1 hHeld.2.2.1 hHeld.2.2.2 l1 l2) (fun hHeld => ?_)
  clear hK K hbs
  refine wpAnyH_take (i := 14) (v := ?v14) rfl (by kernel_rfl) (by kernel_rfl) (by kernel_rfl) (fun _ _ _ h => h) (Or.inl ⟨by rfl, fun u hSu => ?y14⟩) (by assumption) ?r14
  case y14 =>
    first
      | (go_simp; done)
      | (go_simp; with_reducible rfl)
  simp only [Act.put, List.getElem_toArray, List.getElem_cons_succ, List.getElem_cons_zero, List.setIfInBounds_toArray, List.set_cons_zero, List.set_cons_succ]
  refine wpAnyH_take (i := 15) (v := ?v15) rfl (by kernel_rfl) (by kernel_rfl) (by kernel_rfl) (fun _ _ _ h => h) (Or.inl ⟨by rfl, fun u hSu => ?y15⟩) (by assumption) ?r15
  case y15 =>
    first
      | (go_simp; done)
      | (go_simp; with_reducible rfl)
  simp only [Act.put, List.getElem_toArray, List.getElem_cons_succ, List.getElem_cons_zero, List.setIfInBounds_toArray, List.set_cons_zero, List.set_cons_succ]
  refine wpAnyH_take (i := 16) (v := ?v16) rfl (by kernel_rfl) (by kernel_rfl) (by kernel_rfl) (fun _ _ _ h => h) (Or.inl ⟨by rfl, fun u hSu => ?y16⟩) (by assumption) ?r16
  case y16 =>
    first
      | (go_simp; done)
      | (go_simp; with_reducible rfl)
  simp only [Act.put, List.getElem_toArray, List.getElem_cons_succ, List.getElem_cons_zero, List.setIfInBounds_toArray, List.set_cons_zero, List.set_cons_succ]
  refine wpAnyH_take (i := 17) (v := ?v17) rfl (by kernel_rfl) (by kernel_rfl) (by kernel_rfl) (fun _ _ _ h => h) (Or.inl ⟨by rfl, fun u hSu => ?y17⟩) (by assumption) ?r17
  case y17 =>
    first
      | (go_simp; done)
      | (go_simp; with_reducible rfl)
  simp only [Act.put, List.getElem_toArray, List.getElem_cons_succ, List.getElem_cons_zero, List.setIfInBounds_toArray, List.set_cons_zero, List.set_cons_succ]
  refine wpAnyH_take (i := 20) (v := ?v20) rfl (by kernel_rfl) (by kernel_rfl) (by kernel_rfl) (fun _ _ _ h => h) (Or.inl ⟨by rfl, fun u hSu => ?y20⟩) (by assumption) ?r20
  case y20 =>
    first
      | (go_simp; done)
      | (go_simp; with_reducible rfl)
  simp only [Act.put, List.getElem_toArray, List.getElem_cons_succ, List.getElem_cons_zero, List.setIfInBounds_toArray, List.set_cons_zero, List.set_cons_succ]
  refine wpAnyH_take (i := 18) (v := .agg (bytes a).toArray) rfl (by kernel_rfl) (by kernel_rfl) (by kernel_rfl) (fun _ _ _ h => h) (yieldsIf_load_mid (by rfl) 34 (.tmp 6) rfl (w.heap.size + 1) 0 rfl (bytes a) _ (fun u hSu => hSu.2.1) u34 rfl i34) (by assumption) ?_
  simp only [Act.put, List.getElem_toArray, List.getElem_cons_succ, List.getElem_cons_zero, List.setIfInBounds_toArray, List.set_cons_zero, List.set_cons_succ]
  refine wpAnyH_take (i := 21) (v := .agg (bytes b).toArray) rfl (by kernel_rfl) (by kernel_rfl) (by kernel_rfl) (fun _ _ _ h => h) (yieldsIf_load_mid (by rfl) 34 (.tmp 7) rfl (w.heap.size + 1 + 1) 0 rfl (bytes b) _ (fun u hSu => hSu.2.2.1) u34 rfl i34') (by assumption) ?_
  simp only [Act.put, List.getElem_toArray, List.getElem_cons_succ, List.getElem_cons_zero, List.setIfInBounds_toArray, List.set_cons_zero, List.set_cons_succ]
  refine wpAnyH_take (i := 24) (v := .agg (bytes a).toArray) rfl (by kernel_rfl) (by kernel_rfl) (by kernel_rfl) (fun _ _ _ h => h) (yieldsIf_load_mid (by rfl) 34 (.tmp 6) rfl (w.heap.size + 1) 0 rfl (bytes a) _ (fun u hSu => hSu.2.1) u34 rfl i34) (by assumption) ?_
  simp only [Act.put, List.getElem_toArray, List.getElem_cons_succ, List.getElem_cons_zero, List.setIfInBounds_toArray, List.set_cons_zero, List.set_cons_succ]
  refine wpAnyH_take (i := 25) (v := .agg (bytes b).toArray) rfl (by kernel_rfl) (by kernel_rfl) (by kernel_rfl) (fun _ _ _ h => h) (yieldsIf_load_mid (by rfl) 34 (.tmp 7) rfl (w.heap.size + 1 + 1) 0 rfl (bytes b) _ (fun u hSu => hSu.2.2.1) u34 rfl i34') (by assumption) ?_
  simp only [Act.put, List.getElem_toArray, List.getElem_cons_succ, List.getElem_cons_zero, List.setIfInBounds_toArray, List.set_cons_zero, List.set_cons_succ]
  refine wpAnyH_take (i := 26) (v := ?v26) rfl (by kernel_rfl) (by kernel_rfl) (by kernel_rfl) (fun _ _ _ h => h) (Or.inl ⟨by rfl, fun u hSu => ?y26⟩) (by assumption) ?r26
  case y26 =>
    first
      | (go_simp; done)
      | (go_simp; with_reducible rfl)
  simp only [Act.put, List.getElem_toArray, List.getElem_cons_succ, List.getElem_cons_zero, List.setIfInBounds_toArray, List.set_cons_zero, List.set_cons_succ]
  refine wpAnyH_ready (rs := [19]) (by kernel_rfl) (by simp) ?_
  refine AllReadyH.cons rfl (fun K hK => ?_) AllReadyH.nil
  go_simp
  refine (seal_any p kb nr kc a T _ ha hHeld.1).mono ?_
  rintro e w' ⟨rfl, hbs⟩
  go_wp2_with fail
  refine hK.out _ _ (back_keep hbs hHeld.1 hHeld.2.1 hHeld.2.2.1 hHeld.2.2.2 l1 l2) (fun hHeld => ?_)
  clear hK K hbs
  refine wpAnyH_ready (rs := [22]) (by kernel_rfl) (by simp) ?_
  refine AllReadyH.cons rfl (fun K hK => ?_) AllReadyH.nil
  go_simp
  refine (seal_any p kb nr kc b T _ hb hHeld.1).mono ?_
  rintro e w' ⟨rfl, hbs⟩
  go_wp2_with fail
  refine hK.out _ _ (back_keep hbs hHeld.1 hHeld.2.1 hHeld.2.2.1 hHeld.2.2.2 l1 l2) (fun hHeld => ?_)
  clear hK K hbs
  refine wpAnyH_take (i := 23) (v := ?v23) rfl (by kernel_rfl) (by kernel_rfl) (by kernel_rfl) (fun _ _ _ h => h) (Or.inl ⟨by rfl, fun u hSu => ?y23⟩) (by assumption) ?r23
  case y23 =>
    first
      | (go_simp; done)
      | (go_simp; with_reducible rfl)
  simp only [Act.put, List.getElem_toArray, List.getElem_cons_succ, List.getElem_cons_zero, List.setIfInBounds_toArray, List.set_cons_zero, List.set_cons_succ]
  refine wpAnyH_take (i := 27) (v := ?v27) rfl (by kernel_rfl) (by kernel_rfl) (by kernel_rfl) (fun _ _ _ h => h) (Or.inl ⟨by rfl, fun u hSu => ?y27⟩) (by assumption) ?r27
  case y27 =>
    first
      | (go_simp; done)
      | (go_simp; with_reducible rfl)
  simp only [Act.put, List.getElem_toArray, List.getElem_cons_succ, List.getElem_cons_zero, List.setIfInBounds_toArray, List.set_cons_zero, List.set_cons_succ]
  refine wpAnyH_take (i := 28) (v := ?v28) rfl (by kernel_rfl) (by kernel_rfl) (by kernel_rfl) (fun _ _ _ h => h) (Or.inl ⟨by rfl, fun u hSu => ?y28⟩) (by assumption) ?r28
  case y28 =>
    first
      | (go_simp; done)
      | (go_simp; with_reducible rfl)
  simp only [Act.put, List.getElem_toArray, List.getElem_cons_succ, List.getElem_cons_zero, List.setIfInBounds_toArray, List.set_cons_zero, List.set_cons_succ]
  refine wpAnyH_take (i := 29) (v := ?v29) rfl (by kernel_rfl) (by kernel_rfl) (by kernel_rfl) (fun _ _ _ h => h) (Or.inl ⟨by rfl, fun u hSu => ?y29⟩) (by assumption) ?r29
  case y29 =>
    first
      | (go_simp; done)
      | (go_simp; with_reducible rfl)
  simp only [Act.put, List.getElem_toArray, List.getElem_cons_succ, List.getElem_cons_zero, List.setIfInBounds_toArray, List.set_cons_zero, List.set_cons_succ]
  refine wpAnyH_done (by kernel_rfl) ?_ _
  refine NoPanic.normal ?_
  go_wp2_with fail
  go_ret
  exact ⟨rfl, hb4.trans (hHeld.2.2.2.mono hb4.size)⟩
end Go.Proofs.Ytjcdblnodbadcaa
