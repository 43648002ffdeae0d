/- The walk of the law ModesSeals. -/
import Derived.Test.YtjcdblnodbadcaaAns
import Derived.Test.YtjcdblnodbadcaaSomeOf
import Derived.Test.YtjcdblnodbadcaaFew
import Derived.Test.YtjcdblnodbadcaaLawPads
namespace Go.Proofs.Ytjcdblnodbadcaa
open Go.RowKit

theorem sealC_short (l iv t : List UInt8) (h : t.length ≤ 140737488351232) : (sealC l iv t).1.length ≤ 140737488351248 := by
  unfold sealC
  split
  · rw [Mod.sealT_length]
    omega
  · exact Nat.zero_le _
set_option maxRecDepth 100000 in
set_option maxHeartbeats 3200000 in
theorem lawSeals_any (B D X : Option Addr) (m d f g q s : Nat) (k iv t box : List UInt8) (n long : Int) (od : Bool) (w : World) (hk : k.length = 32) (h2 : Sl w B m d iv) (h3 : Sl w D f g t) (h4 : Sl w X q s box) (hm : m ≤ 140737488351232) (hf : f ≤ 140737488351232) (hq : q ≤ 140737488351232) :
    Calls Try.prog 10 #[.agg (bytes k).toArray, .int .i64 n, .slice B m d, .slice D f g, .slice X q s, .int .i64 long, .bool od] w fun e w' => e = .returned (.bool true) ∧ Below w.heap.size w w' := by
  have h33 := hide (size33 hk)
  generalize hA : (bytes k).toArray = A
  have hr := hide (blk_range (Blk.new w 33 A) hA)
  have H2 := hide (h2.alloc (.cells A 33))
  have H3 := hide (h3.alloc (.cells A 33))
  have H4 := hide (h4.alloc (.cells A 33))
  have hbe : Below w.heap.size w (w.alloc (.cells A 33)) := (Below.refl _ w).alloc (Nat.le_refl _) _
  clear h2 h3 h4 hA
  go_enter Try.func10, Try.ntmps10
  go_upto_region 1 with fail
  generalize (w.alloc (.cells A 33)) = w1 at *
  go_wp2_with (with_reducible refine wpList_load_mid rfl 33 (.tmp 7) rfl w.heap.size 0 rfl (bytes k) _ hr.out Try.underlying33 rfl h33.out ?_)
  refine (some_any B D m d f g k iv t n long w1 hk H2.out H3.out hm hf).mono ?_
  rintro e w2 ⟨A1, n1, c1, A2, c2, A3, n3, c3, ky, v, tt, rfl, hn1, hn3, s1, s2, s3, b2⟩
  have hbe2 := hide (hbe.trans (b2.mono hbe.size))
  have S1 := hide s1
  have S2 := hide s2
  have S3 := hide s3
  have I2 := hide (H2.out.below b2)
  have X2 := hide (H4.out.below b2)
  clear hr H2 H3 H4 hbe b2 s1 s2 s3 hn1
  go_upto_if 38 with fail
  go_cut [15, 16] (fun v15 v16 wc => ∃ (A5 : Option Addr) (n5 c5 : Nat) (l5 : List UInt8) (A6 : Option Addr) (n6 c6 : Nat) (l6 : List UInt8), v15 = .slice A5 n5 c5 ∧ v16 = .slice A6 n6 c6 ∧ Hid (Sl w2 A5 n5 c5 l5) ∧ Hid (Sl w2 A6 n6 c6 l6) ∧ w2 = wc)
  case first =>
    cases od
    · go_wp2_with fail
      go_meet
      case rel => exact ⟨A1, n1, c1, ky, A2, 16, c2, v, rfl, rfl, S1, S2, rfl⟩
    · go_wp2_with fail
      go_meet
      case rel => exact ⟨X, q, s, box, B, m, d, iv, rfl, rfl, X2, I2, rfl⟩
  case rest =>
    obtain ⟨A5, n5, c5, l5, A6, n6, c6, l6, rfl, rfl, T5, T6, rfl⟩ := hcut
    clear S1 S2 I2
    go_wp2_with fail
    refine (few_any A3 n3 c3 n3 tt w2 S3.out (by omega) (by omega)).mono ?_
    rintro e w3 ⟨v7, r, rfl, hr, o7, b3⟩
    have hrn : r = tt.length := by have := S3.out.1; omega
    subst hrn
    rw [List.take_length] at o7
    obtain ⟨A7, c7, rfl, s7⟩ := Sl.of_own o7
    have hbe3 := hide (hbe2.out.trans (b3.mono hbe2.out.size))
    have S73 := hide s7
    have S33 := hide (S3.out.below b3)
    have T53 := hide (T5.out.below b3)
    have T63 := hide (T6.out.below b3)
    have X3 := hide (X2.out.below b3)
    have htn : Hid (tt.length ≤ 140737488351232) := hide (by omega)
    have hn3' := hide hn3
    clear hbe2 b3 S3 T5 T6 X2 s7 o7 hr hn3
    go_wp2_with fail
    refine (mseal_ans A5 A6 A7 n5 c5 n6 c6 tt.length c7 l5 l6 tt w3 T53.out T63.out S73.out htn.out).mono ?_
    rintro e w4 ⟨A8, n8, c8, rfl, x1, b4⟩
    have hbe4 := hide (hbe3.out.trans (b4.mono hbe3.out.size))
    have S74 := hide (S73.out.below b4)
    have S34 := hide (S33.out.below b4)
    have T54 := hide (T53.out.below b4)
    have T64 := hide (T63.out.below b4)
    have X4 := hide (X3.out.below b4)
    have R1 := hide x1
    clear hbe3 b4 S73 S33 T53 T63 X3 x1
    go_wp2_with fail
    refine (rmseal_ans A5 A6 A3 n5 c5 n6 c6 n3 c3 l5 l6 tt w4 T54.out T64.out S34.out hn3'.out).mono ?_
    rintro e w5 ⟨A9, n9, c9, rfl, y1, b5⟩
    have hbe5 := hide (hbe4.out.trans (b5.mono hbe4.out.size))
    have S75 := hide (S74.out.below b5)
    have S35 := hide (S34.out.below b5)
    have T55 := hide (T54.out.below b5)
    have T65 := hide (T64.out.below b5)
    have X5 := hide (X4.out.below b5)
    have R15 := hide (R1.out.below b5)
    have Y1 := hide y1
    have hsh := sealC_short l5 l6 tt htn.out
    rw [← Y1.out.1] at hsh
    have HSH := hide hsh
    clear hbe4 b5 S74 S34 T54 T64 X4 R1 y1 hsh htn hn3'
    generalize sealC l5 l6 tt = r1 at *
    go_upto_if 62 with fail
    go_cut [23] (fun v23 wc => ∃ (Ab : Option Addr) (nb cb : Nat) (lb : List UInt8), v23 = .slice Ab nb cb ∧ Hid (nb ≤ 140737488351248) ∧ Hid (Sl w5 Ab nb cb lb) ∧ w5 = wc)
    case first =>
      go_wp2_with fail
      · go_meet
        case rel => exact ⟨A9, n9, c9, _, rfl, HSH, Y1, rfl⟩
      · go_meet
        case rel => exact ⟨X, q, s, box, rfl, hide (by omega), X5, rfl⟩
    case rest =>
      obtain ⟨Ab, nb, cb, lb, rfl, hnb, Bx, rfl⟩ := hcut
      clear X5 HSH
      go_wp2_with fail
      refine (mopen_ans A5 A6 Ab n5 c5 n6 c6 nb cb l5 l6 lb w5 T55.out T65.out Bx.out hnb.out).mono ?_
      rintro e w6 ⟨A10, n10, c10, rfl, p1, b6⟩
      have hbe6 := hide (hbe5.out.trans (b6.mono hbe5.out.size))
      have S76 := hide (S75.out.below b6)
      have S36 := hide (S35.out.below b6)
      have T56 := hide (T55.out.below b6)
      have T66 := hide (T65.out.below b6)
      have B6 := hide (Bx.out.below b6)
      have R16 := hide (R15.out.below b6)
      have Y16 := hide (Y1.out.below b6)
      have P1 := hide p1
      clear hbe5 b6 S75 S35 T55 T65 Bx R15 Y1 p1
      go_wp2_with fail
      refine (rmopen_ans A5 A6 Ab n5 c5 n6 c6 nb cb l5 l6 lb w6 T56.out T66.out B6.out hnb.out).mono ?_
      rintro e w7 ⟨A11, n11, c11, rfl, q1, b7⟩
      have hbe7 := hide (hbe6.out.trans (b7.mono hbe6.out.size))
      have S77 := hide (S76.out.below b7)
      have S37 := hide (S36.out.below b7)
      have R17 := hide (R16.out.below b7)
      have Y17 := hide (Y16.out.below b7)
      have P17 := hide (P1.out.below b7)
      have Q1 := hide q1
      clear hbe6 b7 S76 S36 T56 T66 B6 R16 Y16 P1 q1 hnb
      generalize openC l5 l6 lb = r2 at *
      go_wp2_with fail
      refine (known9_any w7).mono ?_
      rintro e w8 ⟨rfl, b8⟩
      have cv1 := conv_string (R17.out.below b8)
      have cv2 := conv_string (Y17.out.below b8)
      have cv3 := conv_string (S77.out.below b8)
      have cv4 := conv_string (S37.out.below b8)
      have cv5 := conv_string (P17.out.below b8)
      have cv6 := conv_string (Q1.out.below b8)
      have hbe8 := hide (hbe7.out.trans (b8.mono hbe7.out.size))
      clear R17 Y17 S77 S37 P17 Q1 hbe7 b8
      go_wp2_with fail
      go_ret
      exact ⟨rfl, hbe8.out⟩
end Go.Proofs.Ytjcdblnodbadcaa
