/- The walk of the law AesField: for any three bytes it returns true. -/
import Derived.Test.YtjcdblnodbadcaaFieldWalks
namespace Go.Proofs.Ytjcdblnodbadcaa
open Go.RowKit

set_option maxRecDepth 100000 in
set_option maxHeartbeats 400000 in
theorem known8_any (w : World) : Calls Try.prog 13 #[] w fun e w' => e = .returned (.bool true) ∧ ∃ n, w.drewN n = w' := by
  have b0 : I (Fld.box 0) = (99 : Int) := by decide +kernel
  have b1 : I (Fld.box 83) = (237 : Int) := by decide +kernel
  have b2 : I (Fld.unbox 99) = (0 : Int) := by rw [Fld.unbox_eq]; decide +kernel
  have b3 : I (Fld.times 87 19) = (254 : Int) := by decide +kernel
  go_enter Try.func13, Try.ntmps13
  go_wp2_with fail
  refine (box_any 0 _).mono ?_
  rintro e w1 ⟨rfl, n1, rfl⟩
  go_wp2_with fail
  refine (box_any 83 _).mono ?_
  rintro e w1 ⟨rfl, n2, rfl⟩
  go_wp2_with fail
  refine (unbox_any 99 _).mono ?_
  rintro e w1 ⟨rfl, n3, rfl⟩
  go_wp2_with fail
  refine (times_any 87 19 _).mono ?_
  rintro e w1 ⟨rfl, rfl⟩
  go_wp2_with fail
  go_ret
  exact ⟨rfl, _, rfl⟩

theorem times_lit1 (a : UInt8) (w : World) : Calls Try.prog 14 #[.int .u8 (I a), .int .u8 1] w fun e w' => e = .returned (.int .u8 (I (Fld.times a 1))) ∧ w = w' := times_any a 1 w

set_option maxRecDepth 100000 in
set_option maxHeartbeats 1600000 in
theorem lawField_any (a b c : UInt8) (w : World) : Calls Try.prog 3 #[.int .u8 (I a), .int .u8 (I b), .int .u8 (I c)] w fun e w' => e = .returned (.bool true) ∧ Below w.heap.size w w' := by
  have f1 : (Fld.times a b == Fld.times b a) = true := by rw [Fld.times_comm]; simp
  have f2 : (Fld.times a (Fld.times b c) == Fld.times (Fld.times a b) c) = true := by rw [Fld.times_assoc]; simp
  have f3 : (Fld.times a (b ^^^ c) == Fld.times a b ^^^ Fld.times a c) = true := by rw [Fld.times_add]; simp
  have f4 : (Fld.times a 1 == a) = true := by rw [Fld.times_one]; simp
  have f5 : (Fld.box a == Fld.refBox a) = true := by rw [Fld.refBox_eq]; simp
  have f6 : (Fld.unbox (Fld.box a) == a) = true := by rw [Fld.unbox_box]; simp
  have f7 : (Fld.box (Fld.unbox b) == b) = true := by rw [Fld.box_unbox]; simp
  go_enter Try.func3, Try.ntmps3
  go_wp2_with (first
      | (go_at_call 13; (with_reducible refine (known8_any _).mono ?_); rintro e w' ⟨rfl, n0, rfl⟩)
      | (go_at_call 14; (with_reducible refine (times_any _ _ _).mono ?_); rintro e w' ⟨rfl, rfl⟩)
      | (go_at_call 14; (with_reducible refine (times_lit1 _ _).mono ?_); rintro e w' ⟨rfl, rfl⟩)
      | (go_at_call 15; (with_reducible refine (refTimes_any _ _ _).mono ?_); rintro e w' ⟨rfl, rfl⟩)
      | (go_at_call 16; (with_reducible refine (box_any _ _).mono ?_); rintro e w' ⟨rfl, n, rfl⟩)
      | (go_at_call 17; (with_reducible refine (refBox_any _ _).mono ?_); rintro e w' ⟨rfl, rfl⟩)
      | (go_at_call 18; (with_reducible refine (unbox_any _ _).mono ?_); rintro e w' ⟨rfl, n, rfl⟩))
  go_ret
  exact ⟨rfl, Below.drewN (Below.refl _ _) _⟩
/-- a byte that came in -/
theorem byte_of {a : Int} (h : (Lit.int .u8 a).wf = true) : ∃ x : UInt8, a = I x := by
  have hx : 0 ≤ a ∧ a ≤ 255 := by simpa [Lit.wf, IntKind.min, IntKind.max, IntKind.signed, IntKind.bits] using h
  refine ⟨UInt8.ofNat a.toNat, ?_⟩
  rw [← I_ofNat (by omega)]
  omega
end Go.Proofs.Ytjcdblnodbadcaa
