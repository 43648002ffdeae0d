/- The walk of tags.Tag. -/
import Derived.Test.YtfkpjhgfcogdbaaTagWalks
namespace Go.Proofs.Ytfkpjhgfcogdbaa
open Go.RowKit

theorem seek_step {l : List Int} {k : Nat} {s : List UInt8} (h : k < l.length) : Nm.seek (l.drop k) s = if Nm.name l[k] = s then some l[k] else Nm.seek (l.drop (k + 1)) s := by
  rw [List.drop_eq_getElem_cons h]; rfl
theorem cell_ints {w : World} {l : List Int} {t : TypeId} {k : Nat} (h : k < l.length) :
    (w.alloc (.cells (l.map (Value.int .i64)).toArray t)).cell? ⟨w.heap.size, k, none⟩ = some (.int .i64 l[k]) := by
  have e : (w.alloc (.cells (l.map (Value.int .i64)).toArray t)).heap[w.heap.size]? = some (.cells (l.map (Value.int .i64)).toArray t (0, 0)) := heap_alloc_new w _
  refine (cell_of_row _ _ _ _ _ _ e).trans ?_
  simp [h]

set_option maxHeartbeats 1600000 in
set_option maxRecDepth 100000 in
theorem tag_any (s : List UInt8) (w : World) : Calls Try.prog 12 #[.string ⟨s.toArray⟩] w fun e w' => e = .returned (found (Nm.seek Nm.alls s)) ∧ w.alloc (.cells (Nm.alls.map (Value.int .i64)).toArray 3) = w' := by
  have hlen : Nm.alls.length = 59 := rfl
  have Hlen := hide hlen
  clear hlen
  have hn : ∀ n, nameS n = .string ⟨(Nm.name n).toArray⟩ := fun _ => rfl
  go_enter Try.func12, Try.ntmps12
  go_wp2_with (go_at_call 19; refine (all_any _).mono ?_; rintro e w' ⟨rfl, rfl⟩)
  go_loop [8] (fun i => ∃ k : Nat, k ≤ 59 ∧ i = .int .i64 k ∧ Nm.seek (Nm.alls.drop k) s = Nm.seek Nm.alls s) (fun i => 59 - (intOf i).toNat)
  case atStart => exact ⟨0, by omega, rfl, rfl⟩
  case round =>
    obtain ⟨k, hk, rfl, hl⟩ := hrel
    have Hl := hide hl
    clear hl
    by_cases hlt : k < 59
    · have hkl : k < Nm.alls.length := by rw [Hlen.out]; exact hlt
      have c0 := cell_ints (w := w) (t := 3) hkl
      have Hs := hide (seek_step (s := s) hkl)
      generalize hr0 : Nm.alls[k] = r0 at c0 Hs
      clear hr0
      go_wp2_with (go_at_call 14; refine (name_any _ _).mono ?_; rintro e w' ⟨rfl, rfl⟩)
      · go_ret2
        refine ⟨ret_eq ?_, rfl⟩
        have ht : (Nm.name r0 == s) = true := by assumption
        rw [← Hl.out, Hs.out, if_pos (by simpa using ht)]
        rfl
      · go_round
        case rel =>
          have ht : (Nm.name r0 == s) = false := by assumption
          refine ⟨k + 1, by omega, by go_num, ?_⟩
          rw [← Hl.out, Hs.out, if_neg (by simpa using ht)]
        case measure => simp [intOf]; omega
    · go_wp2
      go_ret2
      refine ⟨ret_eq ?_, rfl⟩
      rw [← Hl.out, List.drop_of_length_le (by rw [Hlen.out]; omega)]
      rfl
end Go.Proofs.Ytfkpjhgfcogdbaa
