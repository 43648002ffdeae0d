/- The walk of the law AesBlocks. -/
import Derived.Test.YtjcdblnodbadcaaLawBack
import Derived.Test.YtjcdblnodbadcaaNewBad
import Derived.Test.YtjcdblnodbadcaaRefNew
import Derived.Test.YtjcdblnodbadcaaRefSeal
import Derived.Test.YtjcdblnodbadcaaRefOpen
import Derived.Test.YtjcdblnodbadcaaKeyOf
namespace Go.Proofs.Ytjcdblnodbadcaa
open Go.RowKit

/-- New's second answer -/
def okCode (b : Bool) : Int := match b with | true => 0 | false => 1
theorem newAny_any (A : Option Addr) (n c : Nat) (l : List UInt8) (w : World) (h : Sl w A n c l) :
    Calls Try.prog 25 #[.slice A n c] w fun e w' => ∃ v b, e = .returned (.tuple #[v, .int .i64 (okCode b)]) ∧ Hid (b = decide (n = 16 ∨ n = 24 ∨ n = 32)) ∧ Below w.heap.size w w' := by
  by_cases hn : n = 16 ∨ n = 24 ∨ n = 32
  · exact (new_any A n c l w h hn).mono fun e w' ⟨⟨p, kb, kc, he, _⟩, hb⟩ => ⟨_, true, he, hide (by simp [hn]), hb⟩
  · exact (newBad_any A n c w (by omega) (by omega) (by omega)).mono fun e w' ⟨he, hw⟩ => ⟨_, false, he, hide (by simp [hn]), by rw [hw]; exact Below.refl _ _⟩
theorem key_ky (k ky : List UInt8) (n : Int) (w : World) (hk : k.length = 32) (h1 : Hid (ky = k.take (keyLen n))) (h2 : Hid (keyLen n = ky.length)) :
    Calls Try.prog 28 #[.agg (bytes k).toArray, .int .i64 n] w fun e w' => ∃ Ak ck, e = .returned (.slice Ak ky.length ck) ∧ Hid (Sl w' Ak ky.length ck ky) ∧ Hid (Below w.heap.size w w') :=
  (key_is k n w hk).mono fun e w' ⟨v, he, ho, hb⟩ => by
    rw [← h1.out, h2.out] at ho
    obtain ⟨Ak, ck, rfl, s2⟩ := Sl.of_own ho
    exact ⟨Ak, ck, he, hide s2, hide hb⟩
def Blocks (p kb nr kc p' wb wc g : Nat) (T b : List UInt8) (W u : World) : Prop :=
  Ci u p kb nr kc T ∧ RCi u p' wb nr wc T ∧ u.rangeAt g 0 (bytes b) ∧ Below W.heap.size W u
section
variable {p kb nr kc p' wb wc g : Nat} {T b : List UInt8} {W u u' : World}
theorem Blocks.keep (h : Blocks p kb nr kc p' wb wc g T b W u) (hg : g < W.heap.size) (hb : Below u.heap.size u u') : Blocks p kb nr kc p' wb wc g T b W u' :=
  ⟨h.1.below hb, h.2.1.below hb, range_below h.2.2.1 hb (Nat.lt_of_lt_of_le hg h.2.2.2.size), h.2.2.2.trans (hb.mono h.2.2.2.size)⟩
theorem Blocks.drewN (h : Blocks p kb nr kc p' wb wc g T b W u) (n : Nat) : Blocks p kb nr kc p' wb wc g T b W (u.drewN n) :=
  ⟨h.1.drewN n, h.2.1.drewN n, h.2.2.1, Below.drewN h.2.2.2 n⟩
theorem Blocks.drew (h : Blocks p kb nr kc p' wb wc g T b W u) : Blocks p kb nr kc p' wb wc g T b W u.drew :=
  ⟨h.1.drew, h.2.1.drew, h.2.2.1, h.2.2.2.drew⟩
end
set_option maxRecDepth 100000 in
set_option maxHeartbeats 3200000 in
theorem lawBlocks_any (k b odd : List UInt8) (n : Int) (A : Option Addr) (n1 c1 : Nat) (w : World) (hk : k.length = 32) (hb : b.length = 16) (ho : Sl w A n1 c1 odd) :
    Calls Try.prog 6 #[.agg (bytes k).toArray, .int .i64 n, .agg (bytes b).toArray, .slice A n1 c1] w fun e w' => e = .returned (.bool true) ∧ Below w.heap.size w w' := by
  have h33 := hide (size33 hk)
  generalize hA : (bytes k).toArray = A0
  generalize hB : (bytes b).toArray = B
  have hr := hide (blk_range (Blk.alloc (Blk.new w 33 A0) (.cells B 34)) hA)
  have hr1 : Blk ((w.alloc (.cells A0 33)).alloc (.cells B 34)) (w.heap.size + 1) 34 B := by
    have := Blk.new (w.alloc (.cells A0 33)) 34 B
    rwa [World.size_alloc] at this
  have hr2 := hide (blk_range hr1 hB)
  have hbe : Below w.heap.size w ((w.alloc (.cells A0 33)).alloc (.cells B 34)) :=
    ((Below.refl _ w).alloc (Nat.le_refl _) _).alloc (by simp) _
  have hsz : ((w.alloc (.cells A0 33)).alloc (.cells B 34)).heap.size = w.heap.size + 2 := by simp
  have HO := hide ho
  obtain ⟨ky, hky⟩ : ∃ ky, Hid (ky = k.take (keyLen n)) := ⟨_, hide rfl⟩
  have hkn : Hid (keyLen n = ky.length) := hide (by rw [hky.out, List.length_take]; have := keyLen_of n; omega)
  have hkl : Hid (ky.length = 16 ∨ ky.length = 24 ∨ ky.length = 32) := hide (by rw [← hkn.out]; exact keyLen_of n)
  clear hr1 hA hB ho
  go_enter Try.func6, Try.ntmps6
  go_upto_region 1 with fail
  generalize ((w.alloc (.cells A0 33)).alloc (.cells B 34)) = w1 at *
  go_wp2_with (with_reducible refine wpList_load_mid rfl 33 (.tmp 4) rfl w.heap.size 0 rfl (bytes k) _ hr.out Try.underlying33 rfl h33.out ?_)
  refine (key_ky k ky n _ hk hky hkn).mono ?_
  rintro e w2 ⟨Ak, ck, rfl, S2, B2⟩
  go_wp2_with fail
  refine (new_any Ak _ ck ky w2 S2.out hkl.out).mono ?_
  rintro e w3 ⟨⟨p, kb, kc, rfl, ci⟩, b3⟩
  have hbe2 : Below w.heap.size w w2 := hbe.trans (B2.out.mono hbe.size)
  have hz2 := B2.out.size
  have hz3 := b3.size
  have hbe3 : Below w.heap.size w w3 := hbe2.trans (b3.mono hbe2.size)
  have r1 := hide (range_below (range_below hr.out B2.out (by omega)) b3 (by omega))
  have r2 := hide (range_below (range_below hr2.out B2.out (by omega)) b3 (by omega))
  have CI := hide ci
  clear hr hr2 hbe B2 b3 S2 hbe2 ci
  go_wp2_with (with_reducible refine wpList_load_mid rfl 33 (.tmp 4) rfl w.heap.size 0 rfl (bytes k) _ r1.out Try.underlying33 rfl h33.out ?_)
  refine (key_ky k ky n _ hk hky hkn).mono ?_
  rintro e w4 ⟨Ak2, ck2, rfl, S4, B4⟩
  go_wp2_with fail
  refine (rnew_any Ak2 _ ck2 ky w4 S4.out hkl.out).mono ?_
  rintro e w5 ⟨⟨p', wb, wc, rfl, rci⟩, b5⟩
  have hbe4 : Below w.heap.size w w4 := hbe3.trans (B4.out.mono hbe3.size)
  have hz4 := B4.out.size
  have hz5 := b5.size
  have hbe5 : Below w.heap.size w w5 := hbe4.trans (b5.mono hbe4.size)
  have r2' := hide (range_below (range_below r2.out B4.out (by omega)) b5 (by omega))
  have CI5 := hide ((CI.out.below B4.out).below b5)
  have RCI := hide rci
  clear B4 b5 S4 hbe4 rci CI r1 r2 hkl hky
  generalize ky.length / 4 + 7 = nr at *
  generalize Cip.keys ky = T at *
  have HO5 := hide (HO.out.below hbe5)
  go_wp2_with fail
  refine (newAny_any A n1 c1 odd w5 HO5.out).mono ?_
  rintro e w6 ⟨v, bo, rfl, hbo, b6⟩
  have hbe6 : Below w.heap.size w w6 := hbe5.trans (b6.mono hbe5.size)
  have r2 := hide (range_below r2'.out b6 (by omega))
  have CI6 := hide (CI5.out.below b6)
  have RCI6 := hide (RCI.out.below b6)
  have hz6 := b6.size
  have hg1 : w.heap.size + 1 < w6.heap.size := by omega
  clear HO HO5 b6 r2' CI5 RCI hbe5 hbe3 hz2 hz3 hz4 hz5 hz6 hsz
  have hs := hide (show Blocks p kb nr kc p' wb wc (w.heap.size + 1) T b w6 w6 from ⟨CI6.out, RCI6.out, r2.out, Below.refl _ _⟩)
  clear CI6 RCI6 r2
  go_upto_region 4 with fail
  go_cut [15] (fun v wc => v = .bool bo ∧ w6 = wc)
  case first =>
    by_cases h1 : n1 = 16
    · subst h1
      go_wp2_with fail
      go_meet
      case rel => exact ⟨by rw [hbo.out]; rfl, rfl⟩
    · by_cases h2 : n1 = 24
      · subst h2
        go_wp2_with fail
        go_meet
        case rel => exact ⟨by rw [hbo.out]; rfl, rfl⟩
      · by_cases h3 : n1 = 32
        · subst h3
          go_wp2_with fail
          go_meet
          case rel => exact ⟨by rw [hbo.out]; rfl, rfl⟩
        · have H1 := hide h1
          have H2 := hide h2
          have H3 := hide h3
          clear h1 h2 h3
          go_wp2_with fail
          all_goals
            first
              | (exfalso; have := H1.out; have := H2.out; have := H3.out; omega)
              | (go_meet
                 case rel =>
                   refine ⟨?_, rfl⟩
                   have h1 := H1.out
                   have h2 := H2.out
                   have h3 := H3.out
                   rw [hbo.out]
                   simp [h1, h2, h3]
                   try omega)
  case rest =>
    obtain ⟨rfl, rfl⟩ := hcut
    clear hbo
    have i34 : (Try.prog.info? 34).map (·.size) = some (bytes b).length := size34' hb
    have he1 : ∀ u : World, (Op.equalIn 10000 34 (.agg (bytes (Cip.sealB T nr b)).toArray) (.agg (bytes (Cip.sealB T nr b)).toArray)).run Try.prog u = .ok true u := fun u => by
      rw [eql34 _ _ (Cip.sealB_length ..) (Cip.sealB_length ..)]
      simp
    have he2 : ∀ u : World, (Op.equalIn 10000 34 (.agg (bytes (Cip.openB T nr b)).toArray) (.agg (bytes (Cip.openB T nr b)).toArray)).run Try.prog u = .ok true u := fun u => by
      rw [eql34 _ _ (Cip.openB_length _ _ hb) (Cip.openB_length _ _ hb)]
      simp
    go_upto_region 5 with fail
    refine wp_region_noPanic ?_
    refine wp_region_held_drew (S := fun u => Blocks p kb nr kc p' wb wc (w.heap.size + 1) T b w6 u) (by kernel_rfl) (hs.out.drew) (fun hHeld => ?_)
    refine wpAnyH_ready (rs := [0]) (by kernel_rfl) (by simp) ?_
    refine AllReadyH.cons rfl (fun K hK => ?_) AllReadyH.nil
    go_simp
    refine (known8_any _).mono ?_
    rintro e wx ⟨rfl, nd, rfl⟩
    go_wp2_with fail
    refine hK.out _ _ (hs.out.drewN (1 + nd)) (fun hHeld => ?_)
    clear hK K
    refine wpAnyH_take (i := 1) (v := ?v1) rfl (by kernel_rfl) (by kernel_rfl) (by kernel_rfl) (fun _ _ _ h => h) (Or.inl ⟨by rfl, fun u hSu => ?y1⟩) hHeld ?r1
    case y1 =>
        first
          | (go_simp; done)
          | (go_simp; with_reducible rfl)
    simp only [Act.put, List.getElem_toArray, List.getElem_cons_succ, List.getElem_cons_zero, List.setIfInBounds_toArray, List.set_cons_zero, List.set_cons_succ]
    refine wpAnyH_take (i := 2) (v := ?v2) rfl (by kernel_rfl) (by kernel_rfl) (by kernel_rfl) (fun _ _ _ h => h) (Or.inl ⟨by rfl, fun u hSu => ?y2⟩) hHeld ?r2
    case y2 =>
        first
          | (go_simp; done)
          | (go_simp; with_reducible rfl)
    simp only [Act.put, List.getElem_toArray, List.getElem_cons_succ, List.getElem_cons_zero, List.setIfInBounds_toArray, List.set_cons_zero, List.set_cons_succ]
    refine wpAnyH_take (i := 3) (v := ?v3) rfl (by kernel_rfl) (by kernel_rfl) (by kernel_rfl) (fun _ _ _ h => h) (Or.inl ⟨by rfl, fun u hSu => ?y3⟩) hHeld ?r3
    case y3 =>
        first
          | (go_simp; done)
          | (go_simp; with_reducible rfl)
    simp only [Act.put, List.getElem_toArray, List.getElem_cons_succ, List.getElem_cons_zero, List.setIfInBounds_toArray, List.set_cons_zero, List.set_cons_succ]
    refine wpAnyH_take (i := 4) (v := ?v4) rfl (by kernel_rfl) (by kernel_rfl) (by kernel_rfl) (fun _ _ _ h => h) (Or.inl ⟨by rfl, fun u hSu => ?y4⟩) hHeld ?r4
    case y4 =>
        first
          | (go_simp; done)
          | (go_simp; with_reducible rfl)
    simp only [Act.put, List.getElem_toArray, List.getElem_cons_succ, List.getElem_cons_zero, List.setIfInBounds_toArray, List.set_cons_zero, List.set_cons_succ]
    refine wpAnyH_take (i := 5) (v := ?v5) rfl (by kernel_rfl) (by kernel_rfl) (by kernel_rfl) (fun _ _ _ h => h) (Or.inl ⟨by rfl, fun u hSu => ?y5⟩) hHeld ?r5
    case y5 =>
        first
          | (go_simp; done)
          | (go_simp; with_reducible rfl)
    simp only [Act.put, List.getElem_toArray, List.getElem_cons_succ, List.getElem_cons_zero, List.setIfInBounds_toArray, List.set_cons_zero, List.set_cons_succ]
    refine wpAnyH_take (i := 6) (v := ?v6) rfl (by kernel_rfl) (by kernel_rfl) (by kernel_rfl) (fun _ _ _ h => h) (Or.inl ⟨by rfl, fun u hSu => ?y6⟩) hHeld ?r6
    case y6 =>
        first
          | (go_simp; done)
          | (go_simp; with_reducible rfl)
    simp only [Act.put, List.getElem_toArray, List.getElem_cons_succ, List.getElem_cons_zero, List.setIfInBounds_toArray, List.set_cons_zero, List.set_cons_succ]
    refine wpAnyH_take (i := 7) (v := ?v7) rfl (by kernel_rfl) (by kernel_rfl) (by kernel_rfl) (fun _ _ _ h => h) (Or.inl ⟨by rfl, fun u hSu => ?y7⟩) hHeld ?r7
    case y7 =>
        first
          | (go_simp; done)
          | (go_simp; with_reducible rfl)
    simp only [Act.put, List.getElem_toArray, List.getElem_cons_succ, List.getElem_cons_zero, List.setIfInBounds_toArray, List.set_cons_zero, List.set_cons_succ]
    refine wpAnyH_take (i := 8) (v := ?v8) rfl (by kernel_rfl) (by kernel_rfl) (by kernel_rfl) (fun _ _ _ h => h) (Or.inl ⟨by rfl, fun u hSu => ?y8⟩) hHeld ?r8
    case y8 =>
        first
          | (go_simp; done)
          | (go_simp; with_reducible rfl)
    simp only [Act.put, List.getElem_toArray, List.getElem_cons_succ, List.getElem_cons_zero, List.setIfInBounds_toArray, List.set_cons_zero, List.set_cons_succ]
    refine wpAnyH_take (i := 9) (v := ?v9) rfl (by kernel_rfl) (by kernel_rfl) (by kernel_rfl) (fun _ _ _ h => h) (Or.inl ⟨by rfl, fun u hSu => ?y9⟩) hHeld ?r9
    case y9 =>
        first
          | (go_simp; done)
          | (go_simp; with_reducible rfl)
    simp only [Act.put, List.getElem_toArray, List.getElem_cons_succ, List.getElem_cons_zero, List.setIfInBounds_toArray, List.set_cons_zero, List.set_cons_succ]
    refine wpAnyH_take (i := 10) (v := ?v10) rfl (by kernel_rfl) (by kernel_rfl) (by kernel_rfl) (fun _ _ _ h => h) (Or.inl ⟨by rfl, fun u hSu => ?y10⟩) hHeld ?r10
    case y10 =>
        first
          | (go_simp; done)
          | (go_simp; with_reducible rfl)
    simp only [Act.put, List.getElem_toArray, List.getElem_cons_succ, List.getElem_cons_zero, List.setIfInBounds_toArray, List.set_cons_zero, List.set_cons_succ]
    refine wpAnyH_take (i := 11) (v := .agg (bytes b).toArray) rfl (by kernel_rfl) (by kernel_rfl) (by kernel_rfl) (fun _ _ _ h => h) (yieldsIf_load_mid (by rfl) 34 (.tmp 6) rfl (w.heap.size + 1) 0 rfl (bytes b) _ (fun u hSu => hSu.2.2.1) Try.underlying34 rfl i34) hHeld ?_
    simp only [Act.put, List.getElem_toArray, List.getElem_cons_succ, List.getElem_cons_zero, List.setIfInBounds_toArray, List.set_cons_zero, List.set_cons_succ]
    refine wpAnyH_take (i := 13) (v := ?v13) rfl (by kernel_rfl) (by kernel_rfl) (by kernel_rfl) (fun _ _ _ h => h) (Or.inl ⟨by rfl, fun u hSu => ?y13⟩) hHeld ?r13
    case y13 =>
        first
          | (go_simp; done)
          | (go_simp; with_reducible rfl)
    simp only [Act.put, List.getElem_toArray, List.getElem_cons_succ, List.getElem_cons_zero, List.setIfInBounds_toArray, List.set_cons_zero, List.set_cons_succ]
    refine wpAnyH_take (i := 14) (v := .agg (bytes b).toArray) rfl (by kernel_rfl) (by kernel_rfl) (by kernel_rfl) (fun _ _ _ h => h) (yieldsIf_load_mid (by rfl) 34 (.tmp 6) rfl (w.heap.size + 1) 0 rfl (bytes b) _ (fun u hSu => hSu.2.2.1) Try.underlying34 rfl i34) hHeld ?_
    simp only [Act.put, List.getElem_toArray, List.getElem_cons_succ, List.getElem_cons_zero, List.setIfInBounds_toArray, List.set_cons_zero, List.set_cons_succ]
    refine wpAnyH_ready (rs := [12]) (by kernel_rfl) (by simp) ?_
    refine AllReadyH.cons rfl (fun K hK => ?_) AllReadyH.nil
    go_simp
    refine (seal_any p kb nr kc b T _ hb hHeld.1).mono ?_
    rintro e wx ⟨rfl, hbs⟩
    go_wp2_with fail
    refine hK.out _ _ (hHeld.keep hg1 hbs) (fun hHeld => ?_)
    clear hK K
    refine wpAnyH_ready (rs := [15]) (by kernel_rfl) (by simp) ?_
    refine AllReadyH.cons rfl (fun K hK => ?_) AllReadyH.nil
    go_simp
    refine (rseal_any p' wb nr wc b T _ hb hHeld.2.1).mono ?_
    rintro e wx ⟨rfl, hbs⟩
    go_wp2_with fail
    refine hK.out _ _ (hHeld.keep hg1 hbs) (fun hHeld => ?_)
    clear hK K
    refine wpAnyH_take (i := 16) (v := ?v16) rfl (by kernel_rfl) (by kernel_rfl) (by kernel_rfl) (fun _ _ _ h => h) (Or.inl ⟨by rfl, fun u hSu => ?y16⟩) hHeld ?r16
    case y16 =>
        first
          | (go_simp; done)
          | (go_simp; with_reducible rfl)
    simp only [Act.put, List.getElem_toArray, List.getElem_cons_succ, List.getElem_cons_zero, List.setIfInBounds_toArray, List.set_cons_zero, List.set_cons_succ]
    refine wpAnyH_take (i := 17) (v := ?v17) rfl (by kernel_rfl) (by kernel_rfl) (by kernel_rfl) (fun _ _ _ h => h) (Or.inl ⟨by rfl, fun u hSu => ?y17⟩) hHeld ?r17
    case y17 =>
        first
          | (go_simp; done)
          | (go_simp; with_reducible rfl)
    simp only [Act.put, List.getElem_toArray, List.getElem_cons_succ, List.getElem_cons_zero, List.setIfInBounds_toArray, List.set_cons_zero, List.set_cons_succ]
    refine wpAnyH_take (i := 18) (v := ?v18) rfl (by kernel_rfl) (by kernel_rfl) (by kernel_rfl) (fun _ _ _ h => h) (Or.inl ⟨by rfl, fun u hSu => ?y18⟩) hHeld ?r18
    case y18 =>
        first
          | (go_simp; done)
          | (go_simp; with_reducible rfl)
    simp only [Act.put, List.getElem_toArray, List.getElem_cons_succ, List.getElem_cons_zero, List.setIfInBounds_toArray, List.set_cons_zero, List.set_cons_succ]
    refine wpAnyH_take (i := 19) (v := ?v19) rfl (by kernel_rfl) (by kernel_rfl) (by kernel_rfl) (fun _ _ _ h => h) (Or.inl ⟨by rfl, fun u hSu => ?y19⟩) hHeld ?r19
    case y19 =>
        first
          | (go_simp; done)
          | (go_simp; with_reducible rfl)
    simp only [Act.put, List.getElem_toArray, List.getElem_cons_succ, List.getElem_cons_zero, List.setIfInBounds_toArray, List.set_cons_zero, List.set_cons_succ]
    refine wpAnyH_take (i := 20) (v := .agg (bytes b).toArray) rfl (by kernel_rfl) (by kernel_rfl) (by kernel_rfl) (fun _ _ _ h => h) (yieldsIf_load_mid (by rfl) 34 (.tmp 6) rfl (w.heap.size + 1) 0 rfl (bytes b) _ (fun u hSu => hSu.2.2.1) Try.underlying34 rfl i34) hHeld ?_
    simp only [Act.put, List.getElem_toArray, List.getElem_cons_succ, List.getElem_cons_zero, List.setIfInBounds_toArray, List.set_cons_zero, List.set_cons_succ]
    refine wpAnyH_take (i := 22) (v := ?v22) rfl (by kernel_rfl) (by kernel_rfl) (by kernel_rfl) (fun _ _ _ h => h) (Or.inl ⟨by rfl, fun u hSu => ?y22⟩) hHeld ?r22
    case y22 =>
        first
          | (go_simp; done)
          | (go_simp; with_reducible rfl)
    simp only [Act.put, List.getElem_toArray, List.getElem_cons_succ, List.getElem_cons_zero, List.setIfInBounds_toArray, List.set_cons_zero, List.set_cons_succ]
    refine wpAnyH_take (i := 23) (v := .agg (bytes b).toArray) rfl (by kernel_rfl) (by kernel_rfl) (by kernel_rfl) (fun _ _ _ h => h) (yieldsIf_load_mid (by rfl) 34 (.tmp 6) rfl (w.heap.size + 1) 0 rfl (bytes b) _ (fun u hSu => hSu.2.2.1) Try.underlying34 rfl i34) hHeld ?_
    simp only [Act.put, List.getElem_toArray, List.getElem_cons_succ, List.getElem_cons_zero, List.setIfInBounds_toArray, List.set_cons_zero, List.set_cons_succ]
    refine wpAnyH_ready (rs := [21]) (by kernel_rfl) (by simp) ?_
    refine AllReadyH.cons rfl (fun K hK => ?_) AllReadyH.nil
    go_simp
    refine (open_any p kb nr kc b T _ hb hHeld.1).mono ?_
    rintro e wx ⟨rfl, hbs⟩
    go_wp2_with fail
    refine hK.out _ _ (hHeld.keep hg1 hbs) (fun hHeld => ?_)
    clear hK K
    refine wpAnyH_ready (rs := [24]) (by kernel_rfl) (by simp) ?_
    refine AllReadyH.cons rfl (fun K hK => ?_) AllReadyH.nil
    go_simp
    refine (ropen_any p' wb nr wc b T _ hb hHeld.2.1).mono ?_
    rintro e wx ⟨rfl, hbs⟩
    go_wp2_with fail
    refine hK.out _ _ (hHeld.keep hg1 hbs) (fun hHeld => ?_)
    clear hK K
    refine wpAnyH_take (i := 25) (v := ?v25) rfl (by kernel_rfl) (by kernel_rfl) (by kernel_rfl) (fun _ _ _ h => h) (Or.inl ⟨by rfl, fun u hSu => ?y25⟩) hHeld ?r25
    case y25 =>
        first
          | (go_simp; done)
          | (go_simp; with_reducible rfl)
    simp only [Act.put, List.getElem_toArray, List.getElem_cons_succ, List.getElem_cons_zero, List.setIfInBounds_toArray, List.set_cons_zero, List.set_cons_succ]
    refine wpAnyH_take (i := 26) (v := ?v26) rfl (by kernel_rfl) (by kernel_rfl) (by kernel_rfl) (fun _ _ _ h => h) (Or.inl ⟨by rfl, fun u hSu => ?y26⟩) hHeld ?r26
    case y26 =>
        first
          | (go_simp; done)
          | (go_simp; with_reducible rfl)
    simp only [Act.put, List.getElem_toArray, List.getElem_cons_succ, List.getElem_cons_zero, List.setIfInBounds_toArray, List.set_cons_zero, List.set_cons_succ]
    refine wpAnyH_take (i := 27) (v := ?v27) rfl (by kernel_rfl) (by kernel_rfl) (by kernel_rfl) (fun _ _ _ h => h) (Or.inl ⟨by rfl, fun u hSu => ?y27⟩) hHeld ?r27
    case y27 =>
        first
          | (go_simp; done)
          | (go_simp; with_reducible rfl)
    simp only [Act.put, List.getElem_toArray, List.getElem_cons_succ, List.getElem_cons_zero, List.setIfInBounds_toArray, List.set_cons_zero, List.set_cons_succ]
    have hok1 : okCode true = (0 : Int) := rfl
    have hok2 : okCode false = (1 : Int) := rfl
    cases bo with
    | false =>
      refine wpAnyH_take (i := 28) (v := ?v28false) rfl (by kernel_rfl) (by kernel_rfl) (by kernel_rfl) (fun _ _ _ h => h) (Or.inl ⟨by rfl, fun u hSu => ?y28false⟩) hHeld ?r28false
      case y28false =>
          first
            | (go_simp; done)
            | (go_simp; with_reducible rfl)
      simp only [Act.put, List.getElem_toArray, List.getElem_cons_succ, List.getElem_cons_zero, List.setIfInBounds_toArray, List.set_cons_zero, List.set_cons_succ]
      refine wpAnyH_take (i := 29) (v := ?v29false) rfl (by kernel_rfl) (by kernel_rfl) (by kernel_rfl) (fun _ _ _ h => h) (Or.inl ⟨by rfl, fun u hSu => ?y29false⟩) hHeld ?r29false
      case y29false =>
          first
            | (go_simp; done)
            | (go_simp; with_reducible rfl)
      simp only [Act.put, List.getElem_toArray, List.getElem_cons_succ, List.getElem_cons_zero, List.setIfInBounds_toArray, List.set_cons_zero, List.set_cons_succ]
      refine wpAnyH_take (i := 30) (v := ?v30false) rfl (by kernel_rfl) (by kernel_rfl) (by kernel_rfl) (fun _ _ _ h => h) (Or.inl ⟨by rfl, fun u hSu => ?y30false⟩) hHeld ?r30false
      case y30false =>
          first
            | (go_simp; done)
            | (go_simp; with_reducible rfl)
      simp only [Act.put, List.getElem_toArray, List.getElem_cons_succ, List.getElem_cons_zero, List.setIfInBounds_toArray, List.set_cons_zero, List.set_cons_succ]
      refine wpAnyH_take (i := 31) (v := ?v31false) rfl (by kernel_rfl) (by kernel_rfl) (by kernel_rfl) (fun _ _ _ h => h) (Or.inl ⟨by rfl, fun u hSu => ?y31false⟩) hHeld ?r31false
      case y31false =>
          first
            | (go_simp; done)
            | (go_simp; with_reducible rfl)
      simp only [Act.put, List.getElem_toArray, List.getElem_cons_succ, List.getElem_cons_zero, List.setIfInBounds_toArray, List.set_cons_zero, List.set_cons_succ]
      refine wpAnyH_take (i := 32) (v := ?v32false) rfl (by kernel_rfl) (by kernel_rfl) (by kernel_rfl) (fun _ _ _ h => h) (Or.inl ⟨by rfl, fun u hSu => ?y32false⟩) hHeld ?r32false
      case y32false =>
          first
            | (go_simp; done)
            | (go_simp; with_reducible rfl)
      simp only [Act.put, List.getElem_toArray, List.getElem_cons_succ, List.getElem_cons_zero, List.setIfInBounds_toArray, List.set_cons_zero, List.set_cons_succ]
      refine wpAnyH_take (i := 33) (v := ?v33false) rfl (by kernel_rfl) (by kernel_rfl) (by kernel_rfl) (fun _ _ _ h => h) (Or.inl ⟨by rfl, fun u hSu => ?y33false⟩) hHeld ?r33false
      case y33false =>
          first
            | (go_simp; done)
            | (go_simp; with_reducible rfl)
      simp only [Act.put, List.getElem_toArray, List.getElem_cons_succ, List.getElem_cons_zero, List.setIfInBounds_toArray, List.set_cons_zero, List.set_cons_succ]
      refine wpAnyH_done (by kernel_rfl) ?_ _
      refine NoPanic.normal ?_
      go_wp2_with fail
      go_ret
      exact ⟨rfl, hbe6.trans (hHeld.2.2.2.mono hbe6.size)⟩
    | true =>
      refine wpAnyH_take (i := 28) (v := ?v28true) rfl (by kernel_rfl) (by kernel_rfl) (by kernel_rfl) (fun _ _ _ h => h) (Or.inl ⟨by rfl, fun u hSu => ?y28true⟩) hHeld ?r28true
      case y28true =>
          first
            | (go_simp; done)
            | (go_simp; with_reducible rfl)
      simp only [Act.put, List.getElem_toArray, List.getElem_cons_succ, List.getElem_cons_zero, List.setIfInBounds_toArray, List.set_cons_zero, List.set_cons_succ]
      refine wpAnyH_take (i := 29) (v := ?v29true) rfl (by kernel_rfl) (by kernel_rfl) (by kernel_rfl) (fun _ _ _ h => h) (Or.inl ⟨by rfl, fun u hSu => ?y29true⟩) hHeld ?r29true
      case y29true =>
          first
            | (go_simp; done)
            | (go_simp; with_reducible rfl)
      simp only [Act.put, List.getElem_toArray, List.getElem_cons_succ, List.getElem_cons_zero, List.setIfInBounds_toArray, List.set_cons_zero, List.set_cons_succ]
      refine wpAnyH_take (i := 30) (v := ?v30true) rfl (by kernel_rfl) (by kernel_rfl) (by kernel_rfl) (fun _ _ _ h => h) (Or.inl ⟨by rfl, fun u hSu => ?y30true⟩) hHeld ?r30true
      case y30true =>
          first
            | (go_simp; done)
            | (go_simp; with_reducible rfl)
      simp only [Act.put, List.getElem_toArray, List.getElem_cons_succ, List.getElem_cons_zero, List.setIfInBounds_toArray, List.set_cons_zero, List.set_cons_succ]
      refine wpAnyH_take (i := 31) (v := ?v31true) rfl (by kernel_rfl) (by kernel_rfl) (by kernel_rfl) (fun _ _ _ h => h) (Or.inl ⟨by rfl, fun u hSu => ?y31true⟩) hHeld ?r31true
      case y31true =>
          first
            | (go_simp; done)
            | (go_simp; with_reducible rfl)
      simp only [Act.put, List.getElem_toArray, List.getElem_cons_succ, List.getElem_cons_zero, List.setIfInBounds_toArray, List.set_cons_zero, List.set_cons_succ]
      refine wpAnyH_take (i := 32) (v := ?v32true) rfl (by kernel_rfl) (by kernel_rfl) (by kernel_rfl) (fun _ _ _ h => h) (Or.inl ⟨by rfl, fun u hSu => ?y32true⟩) hHeld ?r32true
      case y32true =>
          first
            | (go_simp; done)
            | (go_simp; with_reducible rfl)
      simp only [Act.put, List.getElem_toArray, List.getElem_cons_succ, List.getElem_cons_zero, List.setIfInBounds_toArray, List.set_cons_zero, List.set_cons_succ]
      refine wpAnyH_take (i := 33) (v := ?v33true) rfl (by kernel_rfl) (by kernel_rfl) (by kernel_rfl) (fun _ _ _ h => h) (Or.inl ⟨by rfl, fun u hSu => ?y33true⟩) hHeld ?r33true
      case y33true =>
          first
            | (go_simp; done)
            | (go_simp; with_reducible rfl)
      simp only [Act.put, List.getElem_toArray, List.getElem_cons_succ, List.getElem_cons_zero, List.setIfInBounds_toArray, List.set_cons_zero, List.set_cons_succ]
      refine wpAnyH_done (by kernel_rfl) ?_ _
      refine NoPanic.normal ?_
      go_wp2_with fail
      go_ret
      exact ⟨rfl, hbe6.trans (hHeld.2.2.2.mono hbe6.size)⟩
end Go.Proofs.Ytjcdblnodbadcaa
