/- The walk of slices.Equal at bytes. -/
import Derived.Test.YtjcdblnodbadcaaPads
namespace Go.Proofs.Ytjcdblnodbadcaa
open Go.RowKit

theorem take_step {l r : List UInt8} {k : Nat} (hl : k < l.length) (hr : k < r.length) (h : l.take k = r.take k) (e : l.getD k 0 = r.getD k 0) : l.take (k + 1) = r.take (k + 1) := by
  rw [List.take_succ_eq_append_getElem hl, List.take_succ_eq_append_getElem hr, h]
  simp only [List.getD, List.getElem?_eq_getElem hl, List.getElem?_eq_getElem hr, Option.getD_some] at e
  rw [e]

set_option maxRecDepth 100000 in
set_option maxHeartbeats 800000 in
theorem equal_any (A B : Option Addr) (n m c d : Nat) (l r : List UInt8) (w : World) (h : Sl w A n c l) (h' : Sl w B m d r) (hl : n ≤ 140737488355328) (hm : m ≤ 140737488355328) :
    Calls Try.prog 42 #[.slice A n c, .slice B m d] w fun e w' => e = .returned (.bool (l == r)) ∧ ∃ k, w.drewN k = w' := by
  by_cases hnm : n = m
  · subst hnm
    have hlen : l.length = r.length := by rw [← h.1, h'.1]
    obtain ⟨A', hA⟩ : ∃ A' : Addr, 0 < n → A = some A' := by
      by_cases h0 : 0 < n
      · obtain ⟨a, e, _⟩ := h.at_ h0; exact ⟨a, fun _ => e⟩
      · exact ⟨⟨0, 0, none⟩, fun k => absurd k h0⟩
    obtain ⟨B', hB⟩ : ∃ B' : Addr, 0 < n → B = some B' := by
      by_cases h0 : 0 < n
      · obtain ⟨a, e, _⟩ := h'.at_ h0; exact ⟨a, fun _ => e⟩
      · exact ⟨⟨0, 0, none⟩, fun k => absurd k h0⟩
    by_cases h0 : 0 < n
    · obtain rfl := hA h0
      obtain rfl := hB h0
      have c1 : ∀ k, k < n → w.cell? (A'.add k) = some (.int .u8 (I (l.getD k 0))) := fun k hk => by
        obtain ⟨a, e, hc⟩ := h.at_ hk; injection e with e; subst e; exact hc
      have c2 : ∀ k, k < n → w.cell? (B'.add k) = some (.int .u8 (I (r.getD k 0))) := fun k hk => by
        obtain ⟨a, e, hc⟩ := h'.at_ hk; injection e with e; subst e; exact hc
      have hln := h.1
      have Hln := hide hln
      have Hlen := hide hlen
      have C1 := hide c1
      have C2 := hide c2
      clear c1 c2 hln hlen h h' hA hB
      go_enter Try.func42, Try.ntmps42
      go_wp2
      go_loopw [5, 13] (fun _ i wr => ∃ (k j : Nat), k ≤ n ∧ i = .int .i64 k ∧ Hid (l.take k = r.take k) ∧ wr = w.drewN j) (fun _ i _ => n - (intOf i).toNat)
      case atStart => exact ⟨0, 0, by omega, rfl, hide rfl, rfl⟩
      case round =>
        obtain ⟨k, j, hk, rfl, ht, rfl⟩ := hrel
        by_cases hlt : k < n
        · have g1 := C1.out k hlt
          have g2 := C2.out k hlt
          obtain ⟨x, hx⟩ : ∃ x, x = l.getD k 0 := ⟨_, rfl⟩
          obtain ⟨y, hy⟩ : ∃ y, y = r.getD k 0 := ⟨_, rfl⟩
          rw [← hx] at g1
          rw [← hy] at g2
          have Hx := hide hx
          have Hy := hide hy
          clear hx hy
          go_wp2_with fail
          go_quiet (fail)
          go_wp2
          · have t : (I x != I y) = true := by assumption
            have hne : x ≠ y := fun e => by rw [e] at t; simp at t
            go_ret
            refine ⟨ret_eq ?_, j + nq, (World.drewN_drewN _ _ _).symm⟩
            have e : (l == r) = false := by
              rw [beq_eq_false_iff_ne]
              intro e
              exact hne (by rw [Hx.out, Hy.out, e])
            rw [e]
            rfl
          · have t : (I x != I y) = false := by assumption
            have he : x = y := I_inj (by simpa using t)
            go_roundw
            case rel => exact ⟨k + 1, _, by omega, by go_num, hide (take_step (by rw [← Hln.out]; exact hlt) (by rw [← Hlen.out, ← Hln.out]; exact hlt) ht.out (by rw [← Hx.out, ← Hy.out, he])), rfl⟩
            case measure => simp only [intOf]; omega
        · obtain rfl : k = n := by omega
          go_wp2
          go_ret
          refine ⟨ret_eq ?_, _, rfl⟩
          have e : l = r := by
            have := ht.out
            rwa [List.take_of_length_le (by rw [← Hln.out]; omega), List.take_of_length_le (by rw [← Hlen.out, ← Hln.out]; omega)] at this
          rw [e]
          simp
    · obtain rfl : n = 0 := by omega
      have e1 : l = [] := List.eq_nil_of_length_eq_zero h.1.symm
      have e2 : r = [] := List.eq_nil_of_length_eq_zero h'.1.symm
      subst e1
      subst e2
      clear h h' hA hB
      go_enter Try.func42, Try.ntmps42
      go_wp2
      go_loop [5, 13] (fun _ i => i = .int .i64 0) (fun _ _ => 0)
      case atStart => rfl
      case round =>
        obtain rfl := hrel
        go_wp2
        go_ret
        exact ⟨rfl, 0, rfl⟩
  · have e : (l == r) = false := by
      rw [beq_eq_false_iff_ne]
      intro e
      exact hnm (by rw [h.1, h'.1, e])
    have hne : ((n : Int) != (m : Int)) = true := by rw [bne_iff_ne]; omega
    have E := hide e
    clear e h h'
    go_enter Try.func42, Try.ntmps42
    go_wp2
    go_ret
    exact ⟨ret_eq (by rw [E.out]; rfl), 0, rfl⟩
end Go.Proofs.Ytjcdblnodbadcaa
