/- The walk of the law TagsKnown. -/
import Derived.Test.YtfkpjhgfcogdbaaOpsLists
import Derived.Test.YtfkpjhgfcogdbaaLawNames
import Derived.Deep.QuietTactic
import Derived.BigQuiet
namespace Go.Proofs.Ytfkpjhgfcogdbaa
open Go.RowKit

theorem back_name (n : Int) (h : (Nm.name n).isEmpty = false) : Nm.back Nm.words (Nm.name n) = some n := by
  by_cases hm : n ∈ Nm.words.map (·.1)
  · exact (by decide +kernel : ∀ m ∈ Nm.words.map (·.1), Nm.back Nm.words (Nm.name m) = some m) n hm
  · rw [← Nm.name_words, Nm.look_not hm] at h; simp at h
theorem opKeys_is : ∀ i, i < 24 → isOp (opKeys.getD i 0) = true := by decide +kernel

theorem own_form {w : World} {base : Nat} {e : TypeId} {v : Value} {n : Nat} {xs : List Value} (h : w.ownsRow base e 1 v n xs) (hn : 0 < n) :
    ∃ g cap, v = .slice (some ⟨g, 0, none⟩) n cap ∧ base ≤ g ∧ g < w.heap.size ∧ ∀ j, j < n → w.cell? ⟨g, j, none⟩ = xs[j]? := by
  have h0 := h
  obtain ⟨_, h2⟩ := h
  rcases h2 with ⟨_, rfl⟩ | ⟨g, cap, cur, rfl, hb, hg, _⟩
  · omega
  · exact ⟨g, cap, rfl, hb, (Array.getElem?_eq_some_iff.1 hg).1, fun j hj => h0.cellAt j (by omega)⟩
theorem Below.drewN {B : Nat} {a w : World} (h : Below B a w) (n : Nat) : Below B a (w.drewN n) := ⟨h.os, h.tape, h.output, h.size, h.block⟩
theorem offered_same (n : Int) (w : World) : Calls Try.prog 10 #[.int .i64 n] w fun e w' => e = .returned (.bool (isOp n)) ∧ w' = w :=
  (offered_any n w).mono fun _ _ ⟨he, hw⟩ => ⟨he, hw.symm⟩
theorem keyAt {k : Nat} (h : k < 24) : (ints opKeys)[k]? = some (.int .i64 (opKeys.getD k 0)) := by
  have hl : opKeys.length = 24 := rfl
  simp [ints, List.getD, List.getElem?_eq_getElem (show k < opKeys.length by omega)]

set_option maxHeartbeats 1600000 in
set_option maxRecDepth 100000 in
theorem lawKnown_any (w : World) : Calls Try.prog 5 #[] w fun e w' => e = .returned (.bool true) ∧ Below w.heap.size w w' := by
  have hn : ∀ n, nameS n = .string ⟨(Nm.name n).toArray⟩ := fun _ => rfl
  go_enter Try.func5, Try.ntmps5
  go_wp2
  go_loopw [1, 2, 3, 4] (fun t _ _ _ wr => ∃ n : Int, t = .int .i64 n ∧ 4325376 ≤ n ∧ n ≤ 4325632 ∧ Below w.heap.size w wr) (fun t _ _ _ _ => (4325632 - intOf t).toNat)
  case atStart => exact ⟨_, rfl, by omega, by omega, Below.refl _ _⟩
  case round =>
    obtain ⟨n, rfl, hn1, hn2, hb⟩ := hrel
    by_cases hlt : n < 4325632
    · have hs := hb.size
      cases he : (Nm.name n).isEmpty
      · have hbk := back_name n he
        go_wp2_with (first
          | (go_at_call 11; refine (refName_any _ _).mono ?_; rintro e w' ⟨rfl, rfl⟩)
          | (go_at_call 12; refine (tag_pair _ _).mono ?_; rintro e w' ⟨rfl, rfl⟩)
          | (go_at_call 14; refine (name_any _ _).mono ?_; rintro e w' ⟨rfl, rfl⟩))
        go_roundw
        case rel => exact ⟨n + 1, by go_num, by omega, by omega, (hb.alloc hs _).alloc (by simp; omega) _⟩
        case measure => simp [intOf]; omega
      · go_wp2_with (first
          | (go_at_call 11; refine (refName_any _ _).mono ?_; rintro e w' ⟨rfl, rfl⟩)
          | (go_at_call 12; refine (tag_pair _ _).mono ?_; rintro e w' ⟨rfl, rfl⟩)
          | (go_at_call 14; refine (name_any _ _).mono ?_; rintro e w' ⟨rfl, rfl⟩))
        go_roundw
        case rel => exact ⟨n + 1, by go_num, by omega, by omega, hb.alloc hs _⟩
        case measure => simp [intOf]; omega
    · obtain rfl : n = 4325632 := by omega
      clear hn1 hn2 hlt
      go_wp2_with fail
      refine (opsList_any _).mono ?_
      rintro e w1 ⟨v1, rfl, o1, b1⟩
      go_wp2_with fail
      refine (refOpsList_any _).mono ?_
      rintro e w2 ⟨v2, rfl, o2, b2⟩
      have hkl : opKeys.length = 24 := rfl
      rw [hkl] at o1 o2
      obtain ⟨g1, c1, rfl, hg1, hl1, hc1⟩ := own_form o1 (by omega)
      obtain ⟨g2, c2, rfl, hg2, hl2, hc2⟩ := own_form o2 (by omega)
      have hB : Below w.heap.size w w2 := (hb.trans (b1.mono hb.size)).trans (b2.mono (by have := b1.size; have := hb.size; omega))
      have hs2 := b2.size
      have k1 : ∀ k, k < 24 → w2.cell? ⟨g1, k, none⟩ = some (.int .i64 (opKeys.getD k 0)) := fun k hk => (b2.cell (p := ⟨g1, k, none⟩) hl1).trans ((hc1 k hk).trans (keyAt hk))
      have k2 : ∀ k, k < 24 → w2.cell? ⟨g2, k, none⟩ = some (.int .i64 (opKeys.getD k 0)) := fun k hk => (hc2 k hk).trans (keyAt hk)
      have K1 := hide k1
      have K2 := hide k2
      clear k1 k2 hc1 hc2 o1 o2 b1 b2 hb hkl
      go_wp2_with fail
      go_loopw [7] (fun i wr => ∃ k : Nat, k ≤ 24 ∧ i = .int .i64 k ∧ Below w2.heap.size w2 wr) (fun i _ => 24 - (intOf i).toNat)
      case atStart => exact ⟨0, by omega, rfl, Below.refl _ _⟩
      case round =>
        obtain ⟨k, hk, rfl, hb⟩ := hrel
        by_cases hlt : k < 24
        · have f1 : wr.cell? ⟨g1, k, none⟩ = some (.int .i64 (opKeys.getD k 0)) := (hb.cell (p := ⟨g1, k, none⟩) (show g1 < w2.heap.size by omega)).trans (K1.out k hlt)
          have f2 : wr.cell? ⟨g2, k, none⟩ = some (.int .i64 (opKeys.getD k 0)) := (hb.cell (p := ⟨g2, k, none⟩) hl2).trans (K2.out k hlt)
          have ho := opKeys_is k hlt
          generalize opKeys.getD k 0 = x at f1 f2 ho
          go_wp2_with fail
          go_quiet ((go_at_call 10; exact Calls.quiet_of_same (offered_same _ _)))
          go_wp2
          go_roundw
          case rel => exact ⟨k + 1, by omega, by go_num, Below.drewN hb nq⟩
          case measure => simp [intOf]; omega
        · go_wp2_with (go_at_call 7; refine (known_any _).mono ?_; rintro e w' ⟨rfl, rfl⟩)
          go_ret
          exact ⟨rfl, hB.trans (hb.mono (by have := hB.size; omega))⟩
end Go.Proofs.Ytfkpjhgfcogdbaa
