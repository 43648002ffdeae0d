/- The walk of the law ModesMacs. -/
import Derived.Test.YtjcdblnodbadcaaAns
import Derived.Test.YtjcdblnodbadcaaSomeOf
import Derived.Test.YtjcdblnodbadcaaLawPads
namespace Go.Proofs.Ytjcdblnodbadcaa
open Go.RowKit

set_option maxRecDepth 100000 in
set_option maxHeartbeats 3200000 in
theorem lawMacs_any (D O : Option Addr) (f g m d : Nat) (k t odd : List UInt8) (n long : Int) (w : World) (hk : k.length = 32) (h'' : Sl w D f g t) (h3 : Sl w O m d odd) (hf : f ≤ 140737488351232) :
    Calls Try.prog 9 #[.agg (bytes k).toArray, .int .i64 n, .slice D f g, .slice O m d, .int .i64 long] w fun e w' => e = .returned (.bool true) ∧ Below w.heap.size w w' := by
  have h33 := hide (size33 hk)
  generalize hA : (bytes k).toArray = A
  have hr := hide (blk_range (Blk.new w 33 A) hA)
  have H3 := hide (h''.alloc (.cells A 33))
  have HO := hide (h3.alloc (.cells A 33))
  have hbe : Below w.heap.size w (w.alloc (.cells A 33)) := (Below.refl _ w).alloc (Nat.le_refl _) _
  have HN : ∀ u : World, Sl u none 0 0 [] := fun u => ⟨rfl, Nat.le_refl _, fun _ => rfl, Reads.none_⟩
  have HNil := hide HN
  clear h3 h'' hA HN
  go_enter Try.func9, Try.ntmps9
  go_upto_region 1 with fail
  generalize (w.alloc (.cells A 33)) = w1 at *
  go_wp2_with (with_reducible refine wpList_load_mid rfl 33 (.tmp 5) rfl w.heap.size 0 rfl (bytes k) _ hr.out Try.underlying33 rfl h33.out ?_)
  refine (some_any none D 0 0 f g k [] t n long w1 hk (HNil.out w1) H3.out (by omega) hf).mono ?_
  rintro e w2 ⟨A1, n1, c1, A2, c2, A3, n3, c3, ky, v, tt, rfl, hn1, hn3, s1, s2, s3, b2⟩
  have hbe2 := hide (hbe.trans (b2.mono hbe.size))
  have S1 := hide s1
  have S3 := hide s3
  have HO2 := hide (HO.out.below b2)
  clear hr H3 HO hbe b2 s1 s2 s3 hn1 hn3
  go_wp2_with fail
  refine (mac_ans A1 A3 n1 c1 n3 c3 ky tt w2 S1.out S3.out).mono ?_
  rintro e w3 ⟨A4, n4, c4, rfl, x1, b3⟩
  have hbe3 := hide (hbe2.out.trans (b3.mono hbe2.out.size))
  have S13 := hide (S1.out.below b3)
  have S33 := hide (S3.out.below b3)
  have HO3 := hide (HO2.out.below b3)
  have X1 := hide x1
  clear hbe2 b3 S1 S3 HO2 x1
  go_wp2_with fail
  refine (rmac_ans A1 A3 n1 c1 n3 c3 ky tt w3 S13.out S33.out).mono ?_
  rintro e w4 ⟨A5, n5, c5, rfl, y1, b4⟩
  have hbe4 := hide (hbe3.out.trans (b4.mono hbe3.out.size))
  have S34 := hide (S33.out.below b4)
  have HO4 := hide (HO3.out.below b4)
  have X14 := hide (X1.out.below b4)
  have Y1 := hide y1
  clear hbe3 b4 S13 S33 HO3 X1 y1
  go_wp2_with fail
  refine (mac_ans O A3 m d n3 c3 odd tt w4 HO4.out S34.out).mono ?_
  rintro e w5 ⟨A6, n6, c6, rfl, u1, b5⟩
  have hbe5 := hide (hbe4.out.trans (b5.mono hbe4.out.size))
  have S35 := hide (S34.out.below b5)
  have HO5 := hide (HO4.out.below b5)
  have X15 := hide (X14.out.below b5)
  have Y15 := hide (Y1.out.below b5)
  have U1 := hide u1
  clear hbe4 b5 S34 HO4 X14 Y1 u1
  go_wp2_with fail
  refine (rmac_ans O A3 m d n3 c3 odd tt w5 HO5.out S35.out).mono ?_
  rintro e w6 ⟨A7, n7, c7, rfl, v1, b6⟩
  have hbe6 := hide (hbe5.out.trans (b6.mono hbe5.out.size))
  have X16 := hide (X15.out.below b6)
  have Y16 := hide (Y15.out.below b6)
  have U16 := hide (U1.out.below b6)
  have V1 := hide v1
  clear hbe5 b6 S35 HO5 X15 Y15 U1 v1
  generalize macC ky tt = r1 at *
  generalize macC odd tt = r2 at *
  go_wp2_with fail
  refine (known9_any w6).mono ?_
  rintro e w7 ⟨rfl, b7⟩
  have cv1 := conv_string (X16.out.below b7)
  have cv2 := conv_string (Y16.out.below b7)
  have cv3 := conv_string (U16.out.below b7)
  have cv4 := conv_string (V1.out.below b7)
  have hbe7 := hide (hbe6.out.trans (b7.mono hbe6.out.size))
  clear X16 Y16 U16 V1 hbe6 b7
  go_wp2_with fail
  go_ret
  exact ⟨rfl, hbe7.out⟩
end Go.Proofs.Ytjcdblnodbadcaa
