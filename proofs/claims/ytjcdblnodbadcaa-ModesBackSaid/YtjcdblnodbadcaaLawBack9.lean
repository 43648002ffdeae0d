/- The walk of the law ModesBack. -/
import Derived.Test.YtjcdblnodbadcaaMOpen
import Derived.Test.YtjcdblnodbadcaaSomeOf
import Derived.Test.YtjcdblnodbadcaaLawPads
namespace Go.Proofs.Ytjcdblnodbadcaa
open Go.RowKit

set_option maxRecDepth 100000 in
set_option maxHeartbeats 3200000 in
theorem lawBack9_any (B D : Option Addr) (m d f g : Nat) (k iv t : List UInt8) (n long : Int) (w : World) (hk : k.length = 32) (h' : Sl w B m d iv) (h'' : Sl w D f g t) (hm : m ≤ 140737488351232) (hf : f ≤ 140737488351232) :
    Calls Try.prog 11 #[.agg (bytes k).toArray, .int .i64 n, .slice B m d, .slice D f g, .int .i64 long] w fun e w' => e = .returned (.bool true) ∧ Below w.heap.size w w' := by
  have h33 := hide (size33 hk)
  generalize hA : (bytes k).toArray = A
  have hr := hide (blk_range (Blk.new w 33 A) hA)
  have H2 := hide (h'.alloc (.cells A 33))
  have H3 := hide (h''.alloc (.cells A 33))
  have hbe : Below w.heap.size w (w.alloc (.cells A 33)) := (Below.refl _ w).alloc (Nat.le_refl _) _
  clear h' h'' hA
  go_enter Try.func11, Try.ntmps11
  go_upto_region 1 with fail
  generalize (w.alloc (.cells A 33)) = w1 at *
  go_wp2_with (with_reducible refine wpList_load_mid rfl 33 (.tmp 5) rfl w.heap.size 0 rfl (bytes k) _ hr.out Try.underlying33 rfl h33.out ?_)
  refine (some_any B D m d f g k iv t n long w1 hk H2.out H3.out hm hf).mono ?_
  rintro e w2 ⟨A1, n1, c1, A2, c2, A3, n3, c3, ky, v, tt, rfl, hn1, hn3, s1, s2, s3, b2⟩
  have hbe2 := hide (hbe.trans (b2.mono hbe.size))
  have S1 := hide s1
  have S2 := hide s2
  have S3 := hide s3
  have N1 := hide hn1
  clear hr H2 H3 hbe b2 s1 s2 s3 hn1
  go_wp2_with fail
  refine (mseal_any A1 A2 A3 n1 c1 c2 n3 c3 ky v tt w2 S1.out S2.out S3.out N1.out hn3).mono ?_
  rintro e w3 ⟨v4, rfl, o3, b3⟩
  have hbe3 := hide (hbe2.out.trans (b3.mono hbe2.out.size))
  have S1' := hide (S1.out.below b3)
  have S2' := hide (S2.out.below b3)
  have S3' := hide (S3.out.below b3)
  have hTl := Mod.sealT_length (Cip.keys ky) (n1 / 4 + 7) v tt
  have hop := Mod.openT_sealT (Cip.keys ky) (n1 / 4 + 7) v tt
  generalize Mod.sealT (Cip.keys ky) (n1 / 4 + 7) v tt = T at *
  have htl : tt.length = n3 := S3.out.1.symm
  rw [htl] at hTl
  obtain ⟨A4, c4, rfl, s4⟩ := Sl.of_own o3
  generalize hTn : T.length = nT at *
  have S4 := hide s4
  have HOP := hide hop
  have hb16 : nT % 16 = 0 := by omega
  have hnT : nT ≤ 140737488351248 := by omega
  have hfin : (nT : Int) = ((n3 : Int) / (16 : Int) + 1) * 16 := by omega
  have HF := hide hfin
  have HB16 := hide hb16
  clear S1 S2 S3 hbe2 b3 o3 s4 hop hTl htl hfin hb16 hTn
  go_wp2_with fail
  refine (mopen_any A1 A2 A4 n1 c1 c2 nT c4 ky v T w3 S1'.out S2'.out S4.out N1.out hnT HB16.out).mono ?_
  rw [HOP.out]
  rintro e w4 ⟨A5, n5, c5, rfl, s5, b4⟩
  have hcode : code (some tt) = 0 := rfl
  rw [hcode]
  have hbe4 := hide (hbe3.out.trans (b4.mono hbe3.out.size))
  have S3'' := hide (S3'.out.below b4)
  have S5 := hide (show Sl w4 A5 n5 c5 tt from s5)
  clear S1' S2' S3' S4 hbe3 b4 s5 hcode HOP
  go_wp2_with fail
  refine (known9_any w4).mono ?_
  rintro e w5 ⟨rfl, b5⟩
  have cv1 := conv_string (S5.out.below b5)
  have cv2 := conv_string (S3''.out.below b5)
  have hbe5 := hide (hbe4.out.trans (b5.mono hbe4.out.size))
  clear S5 S3'' hbe4 b5
  have hq := HF.out
  go_wp2_with fail
  go_ret
  exact ⟨rfl, hbe5.out⟩
end Go.Proofs.Ytjcdblnodbadcaa
