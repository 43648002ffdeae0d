/- The walks of chapter 8's products and boxes. -/
import Derived.Test.YtjcdblnodbadcaaBytes
namespace Go.Proofs.Ytjcdblnodbadcaa
open Go.RowKit

theorem I_shl {k : Nat} (hk : k < 8) (x : UInt8) : I x * (2 : Int) ^ k % (256 : Int) = I (x <<< UInt8.ofNat k) := by
  have h : ∀ k : Fin 8, ∀ i : Fin 256, I (UInt8.ofNat i.val) * (2 : Int) ^ k.val % (256 : Int) = I (UInt8.ofNat i.val <<< UInt8.ofNat k.val) := by unfold I; decide +kernel
  revert x; exact Fld.all256 (h ⟨k, hk⟩)
theorem I_shr {k : Nat} (hk : k < 8) (x : UInt8) : I x / (2 : Int) ^ k = I (x >>> UInt8.ofNat k) := by
  have h : ∀ k : Fin 8, ∀ i : Fin 256, I (UInt8.ofNat i.val) / (2 : Int) ^ k.val = I (UInt8.ofNat i.val >>> UInt8.ofNat k.val) := by unfold I; decide +kernel
  revert x; exact Fld.all256 (h ⟨k, hk⟩)
theorem high_bit (c : UInt8) : (c >>> 7 == 1) = (c &&& 128 != 0) := by
  revert c; exact Fld.all256 (by decide +kernel)
theorem shr_succ {k : Nat} (x : UInt8) (h : k < 7) : x >>> UInt8.ofNat k >>> 1 = x >>> UInt8.ofNat (k + 1) := by
  have hh : ∀ k : Fin 7, ∀ i : Fin 256, UInt8.ofNat i.val >>> UInt8.ofNat k.val >>> 1 = UInt8.ofNat i.val >>> UInt8.ofNat (k.val + 1) := by decide +kernel
  revert x; exact Fld.all256 (hh ⟨k, h⟩)
theorem go_at {k : Nat} (hk : k < 8) (a b o : UInt8) : Fld.go (8 - k) a (b >>> UInt8.ofNat k) o =
    Fld.go (8 - (k + 1)) (Fld.xt a) (b >>> UInt8.ofNat (k + 1)) (if (b >>> UInt8.ofNat k) &&& 1 = 1 then o ^^^ a else o) := by
  obtain ⟨n, hn⟩ : ∃ n, 8 - k = n + 1 := ⟨7 - k, by omega⟩
  have hn' : 8 - (k + 1) = n := by omega
  rw [hn, hn']
  by_cases h7 : k < 7
  · simp only [Fld.go]; rw [shr_succ b h7]
  · obtain rfl : n = 0 := by omega
    rfl

set_option maxRecDepth 100000 in
set_option maxHeartbeats 400000 in
theorem refTimes_any (a b : UInt8) (w : World) : Calls Try.prog 15 #[.int .u8 (I a), .int .u8 (I b)] w fun e w' => e = .returned (.int .u8 (I (Fld.times a b))) ∧ w = w' := by
  go_enter Try.func15, Try.ntmps15
  go_wp2
  go_loop [0, 5, 6] (fun x o i => ∃ (k : Nat) (c f : UInt8), k ≤ 8 ∧ i = .int .i64 k ∧ x = .int .u8 (I c) ∧ o = .int .u8 (I f) ∧ Fld.go (8 - k) c (b >>> UInt8.ofNat k) f = Fld.times a b) (fun _ _ i => 8 - (intOf i).toNat)
  case atStart => exact ⟨0, a, 0, by omega, rfl, rfl, rfl, by simp; rfl⟩
  case round =>
    obtain ⟨k, c, f, hk, rfl, rfl, rfl, hg⟩ := hrel
    have Hg := hide hg
    clear hg
    have hbc := I_bd c
    have hbd := I_bd b
    by_cases hlt : k < 8
    · have hs := I_shr hlt b
      have ht := high_bit c
      go_wp2
      iterate 4
        · have t1 : _ = (_ : Bool) := (by assumption : (b >>> UInt8.ofNat k &&& 1 == 1) = _)
          have t2 : _ = (_ : Bool) := (by assumption : (c &&& 128 != 0) = _)
          go_round
          case rel =>
            try simp only [I_shl1]
            exact ⟨k + 1, _, _, by omega, by go_num, rfl, rfl, by rw [← Hg.out, go_at hlt c b f]; unfold Fld.xt; simp at t1 t2; simp [t1, t2]⟩
          case measure => simp only [intOf]; omega
    · obtain rfl : k = 8 := by omega
      go_wp2
      go_ret
      refine ⟨ret_eq ?_, rfl⟩
      rw [← Hg.out]
      rfl

set_option maxRecDepth 100000 in
set_option maxHeartbeats 400000 in
theorem turn_any (b : UInt8) (k : Nat) (hk : k ≤ 4) (h1 : 1 ≤ k) (w : World) : Calls Try.prog 40 #[.int .u8 (I b), .int .i64 k] w fun e w' => e = .returned (.int .u8 (I (Fld.turn b k))) ∧ ∃ n, w.drewN n = w' := by
  have hb := I_bd b
  have hl := I_shl (show k < 8 by omega) b
  have hr := I_shr (show 8 - k < 8 by omega) b
  go_enter Try.func40, Try.ntmps40
  go_wp2
  go_quiet (fail)
  go_wp2
  go_ret
  exact ⟨rfl, nq, rfl⟩

theorem turn1 (b : UInt8) (w : World) : Calls Try.prog 40 #[.int .u8 (I b), .int .i64 1] w fun e w' => e = .returned (.int .u8 (I (Fld.turn b 1))) ∧ ∃ n, w.drewN n = w' := turn_any b 1 (by omega) (by omega) w
theorem turn2 (b : UInt8) (w : World) : Calls Try.prog 40 #[.int .u8 (I b), .int .i64 2] w fun e w' => e = .returned (.int .u8 (I (Fld.turn b 2))) ∧ ∃ n, w.drewN n = w' := turn_any b 2 (by omega) (by omega) w
theorem turn3 (b : UInt8) (w : World) : Calls Try.prog 40 #[.int .u8 (I b), .int .i64 3] w fun e w' => e = .returned (.int .u8 (I (Fld.turn b 3))) ∧ ∃ n, w.drewN n = w' := turn_any b 3 (by omega) (by omega) w
theorem turn4 (b : UInt8) (w : World) : Calls Try.prog 40 #[.int .u8 (I b), .int .i64 4] w fun e w' => e = .returned (.int .u8 (I (Fld.turn b 4))) ∧ ∃ n, w.drewN n = w' := turn_any b 4 (by omega) (by omega) w

set_option maxRecDepth 100000 in
set_option maxHeartbeats 400000 in
theorem box_any (b : UInt8) (w : World) : Calls Try.prog 16 #[.int .u8 (I b)] w fun e w' => e = .returned (.int .u8 (I (Fld.box b))) ∧ ∃ n, w.drewN n = w' := by
  go_enter Try.func16, Try.ntmps16
  go_wp2
  go_loop [0, 3, 4] (fun x o i => ∃ (k : Nat) (c f : UInt8), k ≤ 7 ∧ i = .int .i64 k ∧ x = .int .u8 (I c) ∧ o = .int .u8 (I f) ∧ Fld.chain (7 - k) c f = Fld.inv b) (fun _ _ i => 7 - (intOf i).toNat)
  case atStart => exact ⟨0, b, 1, by omega, rfl, rfl, rfl, rfl⟩
  case round =>
    obtain ⟨k, c, f, hk, rfl, rfl, rfl, hg⟩ := hrel
    have Hg := hide hg
    clear hg
    by_cases hlt : k < 7
    · go_wp2_with (go_at_call 14; refine (times_any _ _ _).mono ?_; rintro e w' ⟨rfl, rfl⟩)
      go_round
      case rel =>
        refine ⟨k + 1, _, _, by omega, by go_num, rfl, rfl, ?_⟩
        rw [← Hg.out, show 7 - k = (7 - (k + 1)) + 1 by omega]
        rfl
      case measure => simp only [intOf]; omega
    · obtain rfl : k = 7 := by omega
      go_wp2_with fail
      refine (turn1 _ _).mono ?_
      rintro e w1 ⟨rfl, n1, rfl⟩
      go_wp2_with fail
      refine (turn2 _ _).mono ?_
      rintro e w2 ⟨rfl, n2, rfl⟩
      go_wp2_with fail
      refine (turn3 _ _).mono ?_
      rintro e w3 ⟨rfl, n3, rfl⟩
      go_wp2_with fail
      refine (turn4 _ _).mono ?_
      rintro e w4 ⟨rfl, n4, rfl⟩
      go_wp2_with fail
      go_ret
      refine ⟨ret_eq ?_, _, rfl⟩
      rw [Fld.box, ← Hg.out]
      rfl

/-! ### the reference -/
set_option maxRecDepth 100000 in
set_option maxHeartbeats 400000 in
theorem inverse_any (b : UInt8) (w : World) : Calls Try.prog 41 #[.int .u8 (I b)] w fun e w' => e = .returned (.int .u8 (I (Fld.pw b 254))) ∧ w = w' := by
  go_enter Try.func41, Try.ntmps41
  go_wp2
  go_loop [3, 4] (fun o i => ∃ (k : Nat), k ≤ 254 ∧ i = .int .i64 k ∧ o = .int .u8 (I (Fld.pw b k))) (fun _ i => 254 - (intOf i).toNat)
  case atStart => exact ⟨0, by omega, rfl, rfl⟩
  case round =>
    obtain ⟨k, hk, rfl, rfl⟩ := hrel
    by_cases hlt : k < 254
    · go_wp2_with (go_at_call 15; refine (refTimes_any _ _ _).mono ?_; rintro e w' ⟨rfl, rfl⟩)
      go_round
      case rel => exact ⟨k + 1, by omega, by go_num, rfl⟩
      case measure => simp only [intOf]; omega
    · have hk4 : k = 254 := by omega
      obtain ⟨p, hp⟩ : ∃ p, p = Fld.pw b k := ⟨_, rfl⟩
      rw [← hp]
      rw [hk4] at hp
      have Hp := hide hp
      clear hp hk4
      go_wp2
      go_ret
      exact ⟨ret_eq (by rw [← Hp.out]; rfl), rfl⟩

theorem sumFrom_at (x : UInt8) (n i : Nat) (o : UInt8) : Fld.sumFrom x (n + 1) i o = Fld.sumFrom x n (i + 1) (o ||| ((Fld.bitAt x i &&& 1) <<< UInt8.ofNat i)) := rfl

set_option maxRecDepth 100000 in
set_option maxHeartbeats 800000 in
theorem refBox_any (b : UInt8) (w : World) : Calls Try.prog 17 #[.int .u8 (I b)] w fun e w' => e = .returned (.int .u8 (I (Fld.refBox b))) ∧ w = w' := by
  go_enter Try.func17, Try.ntmps17
  go_wp2_with (go_at_call 41; refine (inverse_any _ _).mono ?_; rintro e w' ⟨rfl, rfl⟩)
  obtain ⟨x, hx⟩ : ∃ x, x = Fld.pw b 254 := ⟨_, rfl⟩
  rw [← hx]
  have Hx := hide hx
  clear hx
  go_loop [4, 5, 6] (fun o i _ => ∃ (k : Nat) (f : UInt8), k ≤ 8 ∧ i = .int .i64 k ∧ o = .int .u8 (I f) ∧ Fld.sumFrom x (8 - k) k f = Fld.sumFrom x 8 0 0) (fun _ i _ => 8 - (intOf i).toNat)
  case atStart => exact ⟨0, 0, by omega, rfl, rfl, rfl⟩
  case round =>
    obtain ⟨k, f, hk, rfl, rfl, hg⟩ := hrel
    have Hg := hide hg
    clear hg
    by_cases hlt : k < 8
    · have s0 := I_shr hlt x
      have s4 := I_shr (show (k + 4) % 8 < 8 by omega) x
      have s5 := I_shr (show (k + 5) % 8 < 8 by omega) x
      have s6 := I_shr (show (k + 6) % 8 < 8 by omega) x
      have s7 := I_shr (show (k + 7) % 8 < 8 by omega) x
      have s63 : (99 : Int) / (2 : Int) ^ k = I (0x63 >>> UInt8.ofNat k) := I_shr hlt 0x63
      have hb := I_bd x
      have hf := I_bd f
      have sl := fun y => I_shl hlt y
      go_wp2
      go_round
      case rel => exact ⟨k + 1, _, by omega, by go_num, rfl, by rw [← Hg.out, show 8 - k = (8 - (k + 1)) + 1 by omega]; rfl⟩
      case measure => simp only [intOf]; omega
    · obtain rfl : k = 8 := by omega
      go_wp2
      go_ret
      refine ⟨ret_eq ?_, rfl⟩
      unfold Fld.refBox
      rw [← Hx.out, ← Hg.out]
      rfl

/-! ### Unbox looks for it -/
theorem I_ofNat {k : Nat} (h : k < 256) : (k : Int) = I (UInt8.ofNat k) := by
  unfold I; simp; omega
theorem box_nat {k : Nat} (h : k < 256) (w : World) : Calls Try.prog 16 #[.int .u8 (k : Int)] w fun e w' => e = .returned (.int .u8 (I (Fld.box (UInt8.ofNat k)))) ∧ ∃ n, w.drewN n = w' := by
  rw [I_ofNat h]; exact box_any _ _

set_option maxRecDepth 100000 in
set_option maxHeartbeats 400000 in
theorem unbox_any (b : UInt8) (w : World) : Calls Try.prog 18 #[.int .u8 (I b)] w fun e w' => e = .returned (.int .u8 (I (Fld.unbox b))) ∧ ∃ n, w.drewN n = w' := by
  go_enter Try.func18, Try.ntmps18
  go_wp2
  go_loopw [3, 4] (fun _ i wr => ∃ (k n : Nat), k ≤ 256 ∧ i = .int .i64 k ∧ wr = w.drewN n ∧ Fld.unboxFrom b (256 - k) k = Fld.unbox b) (fun _ i _ => 256 - (intOf i).toNat)
  case atStart => exact ⟨0, 0, by omega, rfl, rfl, rfl⟩
  case round =>
    obtain ⟨k, n, hk, rfl, rfl, hg⟩ := hrel
    have Hg := hide hg
    clear hg
    by_cases hlt : k < 256
    · go_wp2_with (go_at_call 16; refine (box_nat hlt _).mono ?_; rintro e w1 ⟨rfl, m, rfl⟩)
      · go_ret
        have ht : (Fld.box (UInt8.ofNat k) == b) = true := by assumption
        refine ⟨ret_eq ?_, _, rfl⟩
        rw [← Hg.out, show 256 - k = (256 - (k + 1)) + 1 by omega, Fld.unboxFrom, if_pos (by simpa using ht), ← I_ofNat hlt]
        rfl
      · go_roundw
        case rel =>
          have ht : (Fld.box (UInt8.ofNat k) == b) = false := by assumption
          exact ⟨k + 1, _, by omega, by go_num, rfl, by rw [← Hg.out, show 256 - k = (256 - (k + 1)) + 1 by omega, Fld.unboxFrom, if_neg (by simpa using ht)]⟩
        case measure => simp only [intOf]; omega
    · obtain rfl : k = 256 := by omega
      go_wp2
      go_ret
      exact ⟨ret_eq (by rw [← Hg.out]; rfl), n, rfl⟩
end Go.Proofs.Ytjcdblnodbadcaa
