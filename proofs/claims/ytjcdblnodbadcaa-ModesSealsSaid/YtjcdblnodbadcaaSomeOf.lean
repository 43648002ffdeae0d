/- The walk of the laws' helper some. -/
import Derived.Test.YtjcdblnodbadcaaSome
import Derived.Test.YtjcdblnodbadcaaZeros
import Derived.Deep.DeepCutAuto
namespace Go.Proofs.Ytjcdblnodbadcaa
open Go.RowKit

theorem own_keep {w w' : World} {base B n : Nat} {v : Value} {xs : List Value} (h : w.ownsRow base 5 1 v n xs) (hb : Below B w w') (hB : w.heap.size ≤ B) : w'.ownsRow base 5 1 v n xs :=
  h.kept (row := none) ⟨hb.os, hb.tape, hb.output, hb.size, fun k hk _ => hb.block k (by omega)⟩ (by cases v.ownBlock <;> simp)
set_option maxRecDepth 100000 in
set_option maxHeartbeats 3200000 in
theorem some_any (B D : Option Addr) (m d f g : Nat) (k iv t : List UInt8) (n long : Int) (w : World) (hk : k.length = 32) (h' : Sl w B m d iv) (h'' : Sl w D f g t) (hm : m ≤ 140737488351232) (hf : f ≤ 140737488351232) :
    Calls Try.prog 32 #[.agg (bytes k).toArray, .int .i64 n, .slice B m d, .slice D f g, .int .i64 long] w fun e w' =>
      ∃ A1 n1 c1 A2 c2 A3 n3 c3 ky v tt, e = .returned (.tuple #[.slice A1 n1 c1, .slice A2 16 c2, .slice A3 n3 c3]) ∧ (n1 = 16 ∨ n1 = 24 ∨ n1 = 32) ∧ n3 ≤ 140737488351232 ∧
        Sl w' A1 n1 c1 ky ∧ Sl w' A2 16 c2 v ∧ Sl w' A3 n3 c3 tt ∧ Below w.heap.size w w' := by
  obtain ⟨i0, hi, hz0, hz1, hz2⟩ := info_parts info5
  have H2 := hide h'
  have H3 := hide h''
  clear h' h''
  generalize hA : (bytes k).toArray = A
  have HA := hide hA
  clear hA
  go_enter Try.func32, Try.ntmps32
  go_upto_region 1 with fail
  go_cut [10] (fun v wc => ∃ k1, (k1 = 16 ∨ k1 = 24 ∨ k1 = 32) ∧ Hid (wc.ownsRow w.heap.size 5 1 v k1 (bytes (k.take k1))) ∧ Below w.heap.size w wc)
  case first =>
    go_wp2_with fail
    refine (pickm_any n 3 _ (by omega)).mono ?_
    rintro e w' ⟨⟨r, rfl, hr1, hr2⟩, rfl⟩
    have hb0 : Blk ((w.alloc (.cells A 33)).alloc (.cells #[] 5)) w.heap.size 33 A := Blk.alloc (Blk.new _ _ _) _
    have hr := fun (j : Nat) (hj : j ≤ k.length) => blk_reads hb0 HA.out hj
    have HR := hide hr
    clear hr hb0
    obtain ⟨ρ, rfl⟩ := Int.eq_ofNat_of_zero_le hr1
    have hρ : ρ = 0 ∨ ρ = 1 ∨ ρ = 2 := by omega
    have hm0 := made0 (w.alloc (.cells A 33))
    rw [show (w.alloc (.cells A 33)).heap.size = w.heap.size + 1 by simp] at hm0
    have hbe : Below w.heap.size w ((w.alloc (.cells A 33)).alloc (.cells #[] 5)) := ((Below.refl _ w).alloc (Nat.le_refl _) _).alloc (by simp) _
    rcases hρ with rfl | rfl | rfl
    · go_wp2_with (at_builtin; refine wpList_append_any _ rfl (.tmp 13) (.tmp 18) _ rfl (w.heap.size + 1) 5 i0 _ 1 1 Try.underlying26 hi hz0 hz1 hz2 rfl (by omega) _ 0 [] rfl hm0 _ (some ⟨w.heap.size, 0, none⟩) 16 32 _ rfl (HR.out 16 (by omega)) (bytes_one _) (by unfold maxLen; omega) (by omega) (by simp) ?_; intro v1 w1 hown1 hg1 hat1)
      go_meet
      case rel =>
        rw [Nat.zero_add, List.nil_append] at hown1
        exact ⟨16, by omega, hide (own_less hown1 (by omega)), below_app hbe (by simp; omega) (own_less hm0 (by omega)) hg1⟩
    · go_wp2_with (at_builtin; refine wpList_append_any _ rfl (.tmp 13) (.tmp 18) _ rfl (w.heap.size + 1) 5 i0 _ 1 1 Try.underlying26 hi hz0 hz1 hz2 rfl (by omega) _ 0 [] rfl hm0 _ (some ⟨w.heap.size, 0, none⟩) 24 32 _ rfl (HR.out 24 (by omega)) (bytes_one _) (by unfold maxLen; omega) (by omega) (by simp) ?_; intro v1 w1 hown1 hg1 hat1)
      go_meet
      case rel =>
        rw [Nat.zero_add, List.nil_append] at hown1
        exact ⟨24, by omega, hide (own_less hown1 (by omega)), below_app hbe (by simp; omega) (own_less hm0 (by omega)) hg1⟩
    · go_wp2_with (at_builtin; refine wpList_append_any _ rfl (.tmp 13) (.tmp 18) _ rfl (w.heap.size + 1) 5 i0 _ 1 1 Try.underlying26 hi hz0 hz1 hz2 rfl (by omega) _ 0 [] rfl hm0 _ (some ⟨w.heap.size, 0, none⟩) 32 32 _ rfl (HR.out 32 (by omega)) (bytes_one _) (by unfold maxLen; omega) (by omega) (by simp) ?_; intro v1 w1 hown1 hg1 hat1)
      go_meet
      case rel =>
        rw [Nat.zero_add, List.nil_append] at hown1
        exact ⟨32, by omega, hide (own_less hown1 (by omega)), below_app hbe (by simp; omega) (own_less hm0 (by omega)) hg1⟩
  case rest =>
    obtain ⟨k1, hk1, o1, b1⟩ := hcut
    clear HA
    have hkl : (k.take k1).length = k1 := by rw [List.length_take]; omega
    generalize k.take k1 = ky at o1 hkl
    obtain rfl := hkl
    obtain ⟨A1, c1, rfl, s1⟩ := Sl.of_own o1.out
    have S1 := hide s1
    have K2 := hide (H2.out.below b1)
    have K3 := hide (H3.out.below b1)
    clear o1 s1 H2 H3
    go_wp2_with fail
    refine (few_any B m d 16 iv wc K2.out (by omega) (by omega)).mono ?_
    rintro e w2 ⟨v2, r, rfl, hr, o2, b2⟩
    have hrl : r ≤ 16 := by omega
    have hrm : (iv.take r).length = r := by
      have := K2.out.1
      rw [List.length_take]
      omega
    have hz := b2.size
    obtain ⟨v3, w3, hrun, o3, g3⟩ := run_zeros o2 (by omega) hz
    obtain ⟨gv, cv, rfl, hgv, hgl⟩ := o3.form (by omega)
    have hcv : r + 16 ≤ cv := by
      obtain ⟨A', c', e, hs⟩ := Sl.of_own (l := iv.take r ++ List.replicate 16 0) (v := .slice (some ⟨gv, 0, none⟩) (r + 16) cv) (base := wc.heap.size) (by
        rw [List.length_append, List.length_replicate, hrm]
        exact o3)
      injection e with _ _ e
      have := hs.2.1
      rw [List.length_append, List.length_replicate, hrm] at this
      omega
    have hsv : Sl w3 (some ⟨gv, 0, none⟩) 16 cv ((iv.take r ++ List.replicate 16 0).take 16) := by
      obtain ⟨A', c', e, hs⟩ := Sl.of_own (l := iv.take r ++ List.replicate 16 0) (v := .slice (some ⟨gv, 0, none⟩) (r + 16) cv) (base := wc.heap.size) (by
        rw [List.length_append, List.length_replicate, hrm]
        exact o3)
      injection e with e1 e2 e3
      subst e1 e3
      exact hs.take (by rw [List.length_append, List.length_replicate, hrm]; omega)
    have b3 : Below wc.heap.size wc w3 := below_app b2 hz o2 g3
    have S1' := hide (S1.out.below b3)
    have K3' := hide (K3.out.below b3)
    have SV := hide hsv
    have HB3 := hide (b1.trans (b3.mono b1.size))
    clear o2 b2 o3 g3 hsv S1 K3 K2 b3 b1 hr hrm hz hgv hgl
    go_upto_if 27 with (at_builtin; refine Lib.wpList_append_run _ rfl (.tmp 21) _ 26 3 rfl _ _ rfl rfl _ w3 hrun ?_)
    clear hrun
    go_cut [12] (fun v wd => ∃ A3 n3 c3 tt, v = .slice A3 n3 c3 ∧ n3 ≤ 140737488351232 ∧ Hid (Sl wd A3 n3 c3 tt) ∧ Hid (Sl wd A1 ky.length c1 ky) ∧ Hid (Sl wd (some ⟨gv, 0, none⟩) 16 cv ((iv.take r ++ List.replicate 16 0).take 16)) ∧ Hid (Below w.heap.size w wd))
    case first =>
      go_wp2_with fail
      · refine (pickm_any long 100 _ (by omega)).mono ?_
        rintro e w' ⟨⟨q, rfl, hq1, hq2⟩, rfl⟩
        obtain ⟨ρ, rfl⟩ := Int.eq_ofNat_of_zero_le hq1
        go_wp2_with fail
        refine (hbytes_any ρ long w3 (by omega)).mono ?_
        rintro e w4 ⟨v4, l4, rfl, hl4, o4, b4⟩
        subst hl4
        obtain ⟨A4, c4, rfl, s4⟩ := Sl.of_own o4
        go_wp2
        go_meet
        case rel => exact ⟨A4, _, c4, l4, rfl, by omega, hide s4, hide (S1'.out.below b4), hide (SV.out.below b4), hide (HB3.out.trans (b4.mono HB3.out.size))⟩
      · go_meet
        case rel => exact ⟨D, f, g, t, rfl, hf, K3', S1', SV, HB3⟩
    case rest =>
      obtain ⟨A3, n3, c3, tt, rfl, hn3, T3, T1, T2, HB⟩ := hcut
      go_wp2_with fail
      go_ret3
      exact ⟨A1, ky.length, c1, some ⟨gv, 0, none⟩, cv, A3, n3, c3, _, _, tt, rfl, hk1, hn3, T1.out, T2.out, T3.out, HB.out⟩
end Go.Proofs.Ytjcdblnodbadcaa
