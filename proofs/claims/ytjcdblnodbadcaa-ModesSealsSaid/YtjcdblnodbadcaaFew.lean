/- The walks of the laws' helpers Few and Bytes. -/
import Derived.Test.YtjcdblnodbadcaaHand
namespace Go.Proofs.Ytjcdblnodbadcaa
open Go.RowKit

theorem sl_reads {w : World} {A : Option Addr} {n c : Nat} {l : List UInt8} (h : Sl w A n c l) {k : Nat} (hk : k ≤ n) : Reads w w.heap.size 1 A k (bytes (l.take k)) := (h.take hk).reads
set_option maxRecDepth 100000 in
set_option maxHeartbeats 1600000 in
theorem few_any (A : Option Addr) (n c k : Nat) (l : List UInt8) (w : World) (h : Sl w A n c l) (hl : n ≤ 140737488355000) (hk : k ≤ 140737488355000) :
    Calls Try.prog 36 #[.slice A n c, .int .i64 (k : Int)] w fun e w' => ∃ v r, e = .returned v ∧ r = min n k ∧ w'.ownsRow w.heap.size 5 1 v r (bytes (l.take r)) ∧ Below w.heap.size w w' := by
  obtain ⟨i0, hi, hz0, hz1, hz2⟩ := info_parts info5
  have hnc := h.2.1
  have H := hide h
  clear h
  by_cases hle : n ≤ k
  · have hmin : min n k = n := Nat.min_eq_left hle
    have hr := sl_reads H.out (show n ≤ n by omega)
    have hkl : n ≤ maxLen := by unfold maxLen; omega
    go_enter Try.func36, Try.ntmps36
    go_wp2_with (at_builtin; refine wpList_append_any _ rfl (.tmp 5) (.tmp 11) _ rfl w.heap.size 5 i0 _ 1 1 Try.underlying26 hi hz0 hz1 hz2 rfl (by omega) _ 0 [] rfl (made0 w) (w.heap.size + 1) A n c (bytes (l.take n)) rfl ((hr.alloc (Nat.le_refl _) _).more (by omega)) (bytes_one _) (by omega) (by omega) (by simp) ?_; intro v1 w1 hown1 hg1 hat1)
    go_ret
    rw [Nat.zero_add, List.nil_append] at hown1
    exact ⟨v1, n, rfl, hmin.symm, hown1, below_app ((Below.refl _ w).alloc (Nat.le_refl _) _) (by simp) (made0 w) hg1⟩
  · have hmin : min n k = k := Nat.min_eq_right (by omega)
    have hlt : k < n := by omega
    have hr := sl_reads H.out (show k ≤ n by omega)
    have hkl : k ≤ maxLen := by unfold maxLen; omega
    go_enter Try.func36, Try.ntmps36
    go_wp2_with (at_builtin; refine wpList_append_any _ rfl (.tmp 5) (.tmp 11) _ rfl w.heap.size 5 i0 _ 1 1 Try.underlying26 hi hz0 hz1 hz2 rfl (by omega) _ 0 [] rfl (made0 w) (w.heap.size + 1) A k c (bytes (l.take k)) rfl ((hr.alloc (Nat.le_refl _) _).more (by omega)) (bytes_one _) (by omega) (by omega) (by simp) ?_; intro v1 w1 hown1 hg1 hat1)
    go_ret
    rw [Nat.zero_add, List.nil_append] at hown1
    exact ⟨v1, k, rfl, hmin.symm, hown1, below_app ((Below.refl _ w).alloc (Nat.le_refl _) _) (by simp) (made0 w) hg1⟩
end Go.Proofs.Ytjcdblnodbadcaa
