/- The walks of the laws' own helpers: key; equality of blocks. -/
import Derived.Test.YtjcdblnodbadcaaPadWalks
import Derived.Stop.BytesEq
namespace Go.Proofs.Ytjcdblnodbadcaa
open Go.RowKit

set_option maxHeartbeats 400000 in
theorem pickm_any (n m : Int) (w : World) (hm : 0 < m ∧ m ≤ 9223372036854775807) : Calls Try.prog 20 #[.int .i64 n, .int .i64 m] w fun e w' => (∃ r : Int, e = .returned (.int .i64 r) ∧ 0 ≤ r ∧ r < m) ∧ w = w' := by
  obtain ⟨h3, h4⟩ := hm
  have hlo : -m < n.tmod m := by
    have := Int.tmod_lt_of_pos (-n) h3
    rw [Int.neg_tmod] at this
    omega
  have hhi : n.tmod m < m := Int.tmod_lt_of_pos n h3
  go_enter Try.func20, Try.ntmps20
  go_wp2
  all_goals go_ret
  all_goals exact ⟨⟨_, rfl, by omega, by omega⟩, rfl⟩

theorem sizeOf5 (w : World) : (sizeOf 5).run Try.prog w = .ok 1 w := by
  obtain ⟨i0, hi, hz0, hz1, hz2⟩ := info_parts info5
  simp [sizeOf, typeInfo, hi, hz1]
/-- two blocks are compared -/
theorem eql34 (x y : List UInt8) (hx : x.length = 16) (hy : y.length = 16) (u : World) : (Op.equalIn 10000 34 (.agg (bytes x).toArray) (.agg (bytes y).toArray)).run Try.prog u = .ok (x == y) u :=
  run_equalIn_bytes u 9998 34 5 16 Try.underlying34 Try.underlying5 sizeOf5 x y hx hy
theorem size33 {s : List UInt8} (hs : s.length = 32) : (Try.prog.info? 33).map (·.size) = some (bytes s).length := by
  rw [bytes_length, hs]
  kernel_rfl
theorem blk_reads {w : World} {g k : Nat} {t : TypeId} {l : List UInt8} {cs : Array Value} (h : Blk w g t cs) (e : (bytes l).toArray = cs) (hk : k ≤ l.length) : Reads w w.heap.size 1 (some ⟨g, 0, none⟩) k (bytes (l.take k)) :=
  ⟨by rw [bytes_length, List.length_take]; omega, fun _ => ⟨_, rfl, Blk.lt h, fun j u hj => by
    subst e
    rw [Addr.add_lit, Nat.zero_add, Blk.cell h]
    rw [bytes_take, List.getElem?_take] at hj
    split at hj
    · simpa using hj
    · cases hj⟩⟩
set_option maxRecDepth 100000 in
set_option maxHeartbeats 1600000 in
theorem key_any (l : List UInt8) (n : Int) (w : World) (hl : l.length = 32) :
    Calls Try.prog 28 #[.agg (bytes l).toArray, .int .i64 n] w fun e w' => ∃ v k, e = .returned v ∧ (k = 16 ∨ k = 24 ∨ k = 32) ∧ w'.ownsRow w.heap.size 5 1 v k (bytes (l.take k)) ∧ Below w.heap.size w w' := by
  obtain ⟨i0, hi, hz0, hz1, hz2⟩ := info_parts info5
  have h33 := hide (size33 hl)
  generalize hA : (bytes l).toArray = A
  have HA := hide hA
  clear hA
  go_enter Try.func28, Try.ntmps28
  go_wp2_with fail
  refine (pickm_any n 3 _ (by omega)).mono ?_
  rintro e w' ⟨⟨r, rfl, hr1, hr2⟩, rfl⟩
  have hb0 : Blk ((w.alloc (.cells A 33)).alloc (.cells #[] 5)) w.heap.size 33 A := Blk.alloc (Blk.new _ _ _) _
  have hr := fun (k : Nat) (hk : k ≤ l.length) => blk_reads hb0 HA.out hk
  have HR := hide hr
  clear hr hb0
  obtain ⟨ρ, rfl⟩ := Int.eq_ofNat_of_zero_le hr1
  have hρ : ρ = 0 ∨ ρ = 1 ∨ ρ = 2 := by omega
  have hm0 := made0 (w.alloc (.cells A 33))
  rw [show (w.alloc (.cells A 33)).heap.size = w.heap.size + 1 by simp] at hm0
  have hbe : Below w.heap.size w ((w.alloc (.cells A 33)).alloc (.cells #[] 5)) := ((Below.refl _ w).alloc (Nat.le_refl _) _).alloc (by simp) _
  have fin : ∀ (k : Nat) (v1 : Value) (w1 : World), (k = 16 ∨ k = 24 ∨ k = 32) → w1.ownsRow (w.heap.size + 1) 5 1 v1 (0 + k) ([] ++ bytes (l.take k)) → ((w.alloc (.cells A 33)).alloc (.cells #[] 5)).grownBy w1 (Value.slice (some ⟨w.heap.size + 1, 0, none⟩) 0 0).ownBlock →
      ∃ v k, Ending.returned v1 = .returned v ∧ (k = 16 ∨ k = 24 ∨ k = 32) ∧ w1.ownsRow w.heap.size 5 1 v k (bytes (l.take k)) ∧ Below w.heap.size w w1 := by
    intro k v1 w1 hk h1 h2
    rw [Nat.zero_add, List.nil_append] at h1
    exact ⟨v1, k, rfl, hk, own_less h1 (by omega), below_app hbe (by simp; omega) (own_less hm0 (by omega)) h2⟩
  have FIN := hide fin
  clear fin
  rcases hρ with rfl | rfl | rfl
  · go_wp2_with (at_builtin; refine wpList_append_any _ rfl (.tmp 5) (.tmp 10) _ rfl (w.heap.size + 1) 5 i0 _ 1 1 Try.underlying26 hi hz0 hz1 hz2 rfl (by omega) _ 0 [] rfl hm0 _ (some ⟨w.heap.size, 0, none⟩) 16 32 _ rfl (HR.out 16 (by omega)) (bytes_one _) (by unfold maxLen; omega) (by omega) (by simp) ?_; intro v1 w1 hown1 hg1 hat1)
    go_ret
    exact FIN.out 16 v1 w1 (by omega) hown1 hg1
  · go_wp2_with (at_builtin; refine wpList_append_any _ rfl (.tmp 5) (.tmp 10) _ rfl (w.heap.size + 1) 5 i0 _ 1 1 Try.underlying26 hi hz0 hz1 hz2 rfl (by omega) _ 0 [] rfl hm0 _ (some ⟨w.heap.size, 0, none⟩) 24 32 _ rfl (HR.out 24 (by omega)) (bytes_one _) (by unfold maxLen; omega) (by omega) (by simp) ?_; intro v1 w1 hown1 hg1 hat1)
    go_ret
    exact FIN.out 24 v1 w1 (by omega) hown1 hg1
  · go_wp2_with (at_builtin; refine wpList_append_any _ rfl (.tmp 5) (.tmp 10) _ rfl (w.heap.size + 1) 5 i0 _ 1 1 Try.underlying26 hi hz0 hz1 hz2 rfl (by omega) _ 0 [] rfl hm0 _ (some ⟨w.heap.size, 0, none⟩) 32 32 _ rfl (HR.out 32 (by omega)) (bytes_one _) (by unfold maxLen; omega) (by omega) (by simp) ?_; intro v1 w1 hown1 hg1 hat1)
    go_ret
    exact FIN.out 32 v1 w1 (by omega) hown1 hg1
end Go.Proofs.Ytjcdblnodbadcaa
