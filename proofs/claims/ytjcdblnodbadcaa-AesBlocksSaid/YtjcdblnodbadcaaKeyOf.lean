/- The law's key, said exactly. -/
import Derived.Test.YtjcdblnodbadcaaHand
namespace Go.Proofs.Ytjcdblnodbadcaa
open Go.RowKit

def pk (n m : Int) : Int := if n.tmod m < 0 then n.tmod m + m else n.tmod m
set_option maxHeartbeats 400000 in
theorem pickm_is (n m : Int) (w : World) (hm : 0 < m ∧ m ≤ 9223372036854775807) : Calls Try.prog 20 #[.int .i64 n, .int .i64 m] w fun e w' => e = .returned (.int .i64 (pk n m)) ∧ w = w' := by
  obtain ⟨h3, h4⟩ := hm
  have hlo : -m < n.tmod m := by
    have := Int.tmod_lt_of_pos (-n) h3
    rw [Int.neg_tmod] at this
    omega
  have hhi : n.tmod m < m := Int.tmod_lt_of_pos n h3
  go_enter Try.func20, Try.ntmps20
  go_wp2
  all_goals go_ret
  all_goals
    refine ⟨?_, rfl⟩
    unfold pk
    first
      | (rw [if_pos (by omega)]; rfl)
      | (rw [if_neg (by omega)]; rfl)
theorem pk_bd (n m : Int) (h3 : 0 < m) : 0 ≤ pk n m ∧ pk n m < m := by
  have hlo : -m < n.tmod m := by
    have := Int.tmod_lt_of_pos (-n) h3
    rw [Int.neg_tmod] at this
    omega
  have hhi : n.tmod m < m := Int.tmod_lt_of_pos n h3
  unfold pk
  split <;> omega
/-- how long the law's key is -/
def keyLen (n : Int) : Nat := 16 + 8 * (pk n 3).toNat
theorem keyLen_of (n : Int) : keyLen n = 16 ∨ keyLen n = 24 ∨ keyLen n = 32 := by
  have := pk_bd n 3 (by omega)
  unfold keyLen
  omega
set_option maxRecDepth 100000 in
set_option maxHeartbeats 1600000 in
theorem key_is (l : List UInt8) (n : Int) (w : World) (hl : l.length = 32) :
    Calls Try.prog 28 #[.agg (bytes l).toArray, .int .i64 n] w fun e w' => ∃ v, e = .returned v ∧ w'.ownsRow w.heap.size 5 1 v (keyLen n) (bytes (l.take (keyLen n))) ∧ Below w.heap.size w w' := by
  obtain ⟨i0, hi, hz0, hz1, hz2⟩ := info_parts info5
  have h33 := hide (size33 hl)
  generalize hA : (bytes l).toArray = A
  have HA := hide hA
  clear hA
  go_enter Try.func28, Try.ntmps28
  go_wp2_with fail
  refine (pickm_is n 3 _ (by omega)).mono ?_
  rintro e w' ⟨rfl, rfl⟩
  obtain ⟨hr1, hr2⟩ := pk_bd n 3 (by omega)
  have hkl : keyLen n = 16 + 8 * (pk n 3).toNat := rfl
  generalize pk n 3 = r at *
  have hb0 : Blk ((w.alloc (.cells A 33)).alloc (.cells #[] 5)) w.heap.size 33 A := Blk.alloc (Blk.new _ _ _) _
  have hr := fun (k : Nat) (hk : k ≤ l.length) => blk_reads hb0 HA.out hk
  have HR := hide hr
  clear hr hb0
  obtain ⟨ρ, rfl⟩ := Int.eq_ofNat_of_zero_le hr1
  have hρ : ρ = 0 ∨ ρ = 1 ∨ ρ = 2 := by omega
  have hm0 := made0 (w.alloc (.cells A 33))
  rw [show (w.alloc (.cells A 33)).heap.size = w.heap.size + 1 by simp] at hm0
  have hbe : Below w.heap.size w ((w.alloc (.cells A 33)).alloc (.cells #[] 5)) := ((Below.refl _ w).alloc (Nat.le_refl _) _).alloc (by simp) _
  have fin : ∀ (k : Nat) (v1 : Value) (w1 : World), keyLen n = k → w1.ownsRow (w.heap.size + 1) 5 1 v1 (0 + k) ([] ++ bytes (l.take k)) → ((w.alloc (.cells A 33)).alloc (.cells #[] 5)).grownBy w1 (Value.slice (some ⟨w.heap.size + 1, 0, none⟩) 0 0).ownBlock →
      ∃ v, Ending.returned v1 = .returned v ∧ w1.ownsRow w.heap.size 5 1 v (keyLen n) (bytes (l.take (keyLen n))) ∧ Below w.heap.size w w1 := by
    rintro k v1 w1 rfl h1 h2
    rw [Nat.zero_add, List.nil_append] at h1
    exact ⟨v1, rfl, own_less h1 (by omega), below_app hbe (by simp; omega) (own_less hm0 (by omega)) h2⟩
  have FIN := hide fin
  have HKL := hide hkl
  clear fin hkl
  rcases hρ with rfl | rfl | rfl
  · go_wp2_with (at_builtin; refine wpList_append_any _ rfl (.tmp 5) (.tmp 10) _ rfl (w.heap.size + 1) 5 i0 _ 1 1 Try.underlying26 hi hz0 hz1 hz2 rfl (by omega) _ 0 [] rfl hm0 _ (some ⟨w.heap.size, 0, none⟩) 16 32 _ rfl (HR.out 16 (by omega)) (bytes_one _) (by unfold maxLen; omega) (by omega) (by simp) ?_; intro v1 w1 hown1 hg1 hat1)
    go_ret
    exact FIN.out 16 v1 w1 (by have := HKL.out; omega) hown1 hg1
  · go_wp2_with (at_builtin; refine wpList_append_any _ rfl (.tmp 5) (.tmp 10) _ rfl (w.heap.size + 1) 5 i0 _ 1 1 Try.underlying26 hi hz0 hz1 hz2 rfl (by omega) _ 0 [] rfl hm0 _ (some ⟨w.heap.size, 0, none⟩) 24 32 _ rfl (HR.out 24 (by omega)) (bytes_one _) (by unfold maxLen; omega) (by omega) (by simp) ?_; intro v1 w1 hown1 hg1 hat1)
    go_ret
    exact FIN.out 24 v1 w1 (by have := HKL.out; omega) hown1 hg1
  · go_wp2_with (at_builtin; refine wpList_append_any _ rfl (.tmp 5) (.tmp 10) _ rfl (w.heap.size + 1) 5 i0 _ 1 1 Try.underlying26 hi hz0 hz1 hz2 rfl (by omega) _ 0 [] rfl hm0 _ (some ⟨w.heap.size, 0, none⟩) 32 32 _ rfl (HR.out 32 (by omega)) (bytes_one _) (by unfold maxLen; omega) (by omega) (by simp) ?_; intro v1 w1 hown1 hg1 hat1)
    go_ret
    exact FIN.out 32 v1 w1 (by have := HKL.out; omega) hown1 hg1
end Go.Proofs.Ytjcdblnodbadcaa
