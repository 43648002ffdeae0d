/- Bytes as the walk spells them: the model's integers of kind u8 out of Lean's UInt8. -/
import Derived.Test.YtjcdblnodbadcaaRows
import Derived.Test.YtjcdblnodbadcaaModes
import Derived.WalkKit
import Derived.WalkSpells
import Derived.WalkLawsBesides
import Derived.Laws.BitsAllLaws
import Derived.Deep.QuietTactic
import Derived.BigQuiet
namespace Go.Proofs.Ytjcdblnodbadcaa
open Go.RowKit

theorem hide {p : Prop} (h : p) : Hid p := h
theorem ret_eq {a b : Value} (h : a = b) : Ending.returned a = .returned b := by rw [h]
theorem Below.drewN {B : Nat} {a w : World} (h : Below B a w) (n : Nat) : Below B a (w.drewN n) := ⟨h.os, h.tape, h.output, h.size, h.block⟩

/-- a byte's number; simp does not look behind the name -/
def I (x : UInt8) : Int := x.toNat
theorem I_bd (x : UInt8) : 0 ≤ I x ∧ I x ≤ 255 := by unfold I; have := x.toNat_lt; omega
theorem I_inj {x y : UInt8} (h : I x = I y) : x = y := by
  unfold I at h; exact UInt8.toNat_inj.1 (by omega)
theorem I_nat (x : UInt8) : I x = (x.toNat : Int) := rfl
@[go_sem] theorem I_xor (x y : UInt8) : bits .xor .u8 (I x) (I y) = I (x ^^^ y) := by
  unfold I; rw [u8_xor_nat _ _ x.toNat_lt y.toNat_lt, UInt8.toNat_xor]
@[go_sem] theorem I_or (x y : UInt8) : bits .or .u8 (I x) (I y) = I (x ||| y) := by
  unfold I; rw [u8_or_nat _ _ x.toNat_lt y.toNat_lt, UInt8.toNat_or]
@[go_sem] theorem I_and (x y : UInt8) : bits .and .u8 (I x) (I y) = I (x &&& y) := by
  unfold I; rw [u8_and_nat _ _ x.toNat_lt y.toNat_lt, UInt8.toNat_and]
@[go_sem] theorem I_and1 (x : UInt8) : bits .and .u8 (I x) (1 : Int) = I (x &&& 1) := I_and x 1
@[go_sem] theorem I_and128 (x : UInt8) : bits .and .u8 (I x) (128 : Int) = I (x &&& 128) := I_and x 128
@[go_sem] theorem I_xor27 (x : UInt8) : bits .xor .u8 (I x) (27 : Int) = I (x ^^^ 27) := I_xor x 27
@[go_sem] theorem I_xor99 (x : UInt8) : bits .xor .u8 (I x) (99 : Int) = I (x ^^^ 99) := I_xor x 99
@[go_sem] theorem I_mod2 (x : UInt8) : I x % (2 : Int) = I (x &&& 1) := by
  revert x; exact Fld.all256 (by unfold I; decide +kernel)
@[go_sem] theorem I_shl1 (x : UInt8) : I x * (2 : Int) % (256 : Int) = I (x <<< 1) := by
  revert x; exact Fld.all256 (by unfold I; decide +kernel)
@[go_sem] theorem I_shr1 (x : UInt8) : I x / (2 : Int) = I (x >>> 1) := by
  revert x; exact Fld.all256 (by unfold I; decide +kernel)
@[go_sem] theorem I_shr7 (x : UInt8) : I x / (128 : Int) = I (x >>> 7) := by
  revert x; exact Fld.all256 (by unfold I; decide +kernel)
@[go_sem] theorem I_eq (x y : UInt8) : (I x == I y) = (x == y) := by
  rw [Bool.eq_iff_iff, beq_iff_eq, beq_iff_eq]; exact ⟨I_inj, fun h => by rw [h]⟩
@[go_sem] theorem I_eq1 (x : UInt8) : (I x == (1 : Int)) = (x == 1) := I_eq x 1
@[go_sem] theorem I_eq0 (x : UInt8) : (I x == (0 : Int)) = (x == 0) := I_eq x 0
@[go_sem] theorem I_ne0 (x : UInt8) : (I x != (0 : Int)) = (x != 0) := by unfold bne; rw [I_eq0]

theorem go_last (n : Nat) : ∀ a b o, b.toNat < 2 ^ n → Fld.go (n + 1) a b o = Fld.go n a b o := by
  induction n with
  | zero =>
    intro a b o hb
    have h0 : b = 0 := UInt8.toNat_inj.1 (by simpa using hb)
    subst h0
    rfl
  | succ n ih =>
    intro a b o hb
    show Fld.go (n + 1) _ _ _ = Fld.go n _ _ _
    refine ih _ _ _ ?_
    have : (b >>> 1).toNat = b.toNat / 2 := by simp [UInt8.toNat_shiftRight, Nat.shiftRight_eq_div_pow]
    rw [this, Nat.pow_succ] at *
    omega
theorem go_eight (a b o : UInt8) : Fld.go 8 a b o = Fld.go 8 (Fld.xt a) (b >>> 1) (if b &&& 1 = 1 then o ^^^ a else o) := by
  have h : (b >>> 1).toNat < 2 ^ 7 := by
    have : (b >>> 1).toNat = b.toNat / 2 := by simp [UInt8.toNat_shiftRight, Nat.shiftRight_eq_div_pow]
    rw [this]; have := b.toNat_lt; omega
  rw [show (8 : Nat) = 7 + 1 from rfl, go_last 7 _ _ _ h]
  rfl
theorem go_zero (n : Nat) : ∀ a o, Fld.go n a 0 o = o := by
  induction n with
  | zero => intros; rfl
  | succ n ih => intro a o; exact ih _ _

set_option maxHeartbeats 400000 in
theorem times_any (a b : UInt8) (w : World) : Calls Try.prog 14 #[.int .u8 (I a), .int .u8 (I b)] w fun e w' => e = .returned (.int .u8 (I (Fld.times a b))) ∧ w = w' := by
  go_enter Try.func14, Try.ntmps14
  go_wp2
  go_loop [0, 1, 5] (fun x y o => ∃ c d f : UInt8, x = .int .u8 (I c) ∧ y = .int .u8 (I d) ∧ o = .int .u8 (I f) ∧ Fld.go 8 c d f = Fld.times a b) (fun _ y _ => (intOf y).toNat)
  case atStart => exact ⟨a, b, 0, rfl, rfl, rfl, rfl⟩
  case round =>
    obtain ⟨c, d, f, rfl, rfl, rfl, hg⟩ := hrel
    have Hg := hide hg
    clear hg
    have hbc := I_bd c
    have hbd := I_bd d
    go_wp2
    iterate 4
      · have t1 : _ = (_ : Bool) := (by assumption : (d &&& 1 == 1) = _)
        have t2 : _ = (_ : Bool) := (by assumption : (c &&& 128 != 0) = _)
        go_round
        case rel =>
          try simp only [I_shl1]
          exact ⟨_, _, _, rfl, rfl, rfl, by rw [← Hg.out, go_eight c d f]; unfold Fld.xt; simp at t1 t2; simp [t1, t2]⟩
        case measure => have := I_shr1 d; simp only [intOf]; omega
    · have hd : d = 0 := I_inj (by have : I d ≤ 0 := by assumption
                                   show I d = 0; omega)
      go_ret
      refine ⟨ret_eq ?_, rfl⟩
      rw [← Hg.out, hd, go_zero]
      rfl
end Go.Proofs.Ytjcdblnodbadcaa
