/- Plain laws of the chain: its beginning hangs on the text's beginning alone; a step of it. -/
import Derived.Test.YtjcdblnodbadcaaModes
namespace Go.Proofs.Ytjcdblnodbadcaa
namespace Mod
open Cip
theorem cbc_take (all nr) : ∀ k j last p, j ≤ k → (cbc all nr k last p).take (16 * j) = cbc all nr j last p := by
  intro k
  induction k with
  | zero =>
    intro j last p h
    obtain rfl : j = 0 := by omega
    rfl
  | succ k ih =>
    intro j last p h
    match j with
    | 0 => rfl
    | j + 1 =>
      have hs := sealB_length all nr (xor (p.take 16) last)
      simp only [cbc]
      generalize sealB all nr (xor (p.take 16) last) = x at hs
      rw [show 16 * (j + 1) = x.length + 16 * j by omega, List.take_length_add_append, ih j _ _ (by omega)]
theorem cbc_congr (all nr) : ∀ j last p p', p.take (16 * j) = p'.take (16 * j) → cbc all nr j last p = cbc all nr j last p' := by
  intro j
  induction j with
  | zero => intros; rfl
  | succ j ih =>
    intro last p p' h
    have h1 : p.take 16 = p'.take 16 := by
      have := congrArg (List.take 16) h
      rwa [List.take_take, List.take_take, Nat.min_eq_left (by omega)] at this
    have h2 : (p.drop 16).take (16 * j) = (p'.drop 16).take (16 * j) := by
      have := congrArg (List.drop 16) h
      rw [List.drop_take, List.drop_take] at this
      rwa [show 16 * (j + 1) - 16 = 16 * j by omega] at this
    simp only [cbc]
    rw [h1, ih _ _ _ h2]
theorem seal_prefix (all nr iv) (t : List UInt8) (j : Nat) (h : 16 * j ≤ t.length) : (sealT all nr iv (t.take (16 * j))).take (16 * j) = (sealT all nr iv t).take (16 * j) := by
  unfold sealT
  have hl : (t.take (16 * j)).length = 16 * j := by rw [List.length_take]; omega
  rw [cbc_take _ _ _ _ _ _ (by rw [hl]; omega), cbc_take _ _ _ _ _ _ (by omega)]
  refine cbc_congr _ _ _ _ _ _ ?_
  unfold pad
  rw [List.take_append_of_le_length (by omega), List.take_append_of_le_length (by omega), List.take_take, Nat.min_self]
theorem chain_step (all nr) {T p lst : List UInt8} {N j : Nat} (h : T.drop (16 * j) = cbc all nr (N - j) lst (p.drop (16 * j))) (hj : j < N) :
    (T.drop (16 * j)).take 16 = sealB all nr (xor ((p.drop (16 * j)).take 16) lst) ∧
    T.drop (16 * (j + 1)) = cbc all nr (N - (j + 1)) (sealB all nr (xor ((p.drop (16 * j)).take 16) lst)) (p.drop (16 * (j + 1))) := by
  have hs := sealB_length all nr (xor ((p.drop (16 * j)).take 16) lst)
  rw [show N - j = (N - (j + 1)) + 1 by omega] at h
  simp only [cbc] at h
  refine ⟨?_, ?_⟩
  · rw [h, List.take_append_of_le_length (by omega), List.take_of_length_le (by omega)]
  · rw [show 16 * (j + 1) = 16 * j + 16 by omega, ← List.drop_drop, h, List.drop_append_of_le_length (by omega), List.drop_of_length_le (by omega), List.nil_append, List.drop_drop]
theorem xor_at (p lst : List UInt8) (q : Nat) : (t16 fun x => p.getD (q + x) 0 ^^^ lst.getD x 0) = xor ((p.drop q).take 16) lst := by
  refine t16_congr fun i hi => ?_
  congr 1
  simp only [List.getD, List.getElem?_take, List.getElem?_drop]
  rw [if_pos hi]
end Mod
end Go.Proofs.Ytjcdblnodbadcaa
