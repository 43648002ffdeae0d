/- Walks of the reference's OpName. -/
import Derived.Test.YtfkpjhgfcogdbaaOps
namespace Go.Proofs.Ytfkpjhgfcogdbaa
open Go.RowKit

theorem rowCells_at (l : List Nm.Row) : ∀ k (h : k < l.length), (rowCells l)[k * 2]? = some (.int .i64 l[k].1) ∧ (rowCells l)[k * 2 + 1]? = some (.string ⟨l[k].2.toArray⟩) := by
  induction l with
  | nil => intro k h; simp at h
  | cons r l ih =>
    intro k h
    match k with
    | 0 => simp [rowCells]
    | k + 1 =>
      have := ih k (by simpa using h)
      simp only [rowCells, List.flatMap_cons, List.cons_append, List.nil_append, List.getElem?_toArray] at this ⊢
      rw [show (k + 1) * 2 = k * 2 + 1 + 1 by omega]
      simpa using this
theorem look_step {l : List Nm.Row} {k : Nat} {n : Int} (h : k < l.length) : Nm.look (l.drop k) n = if n = l[k].1 then l[k].2 else Nm.look (l.drop (k + 1)) n := by
  rw [List.drop_eq_getElem_cons h]; rfl
theorem cell_rows {w : World} {l : List Nm.Row} {t : TypeId} {k : Nat} (h : k < l.length) :
    (w.alloc (.cells (rowCells l) t)).cell? ⟨w.heap.size, k * 2, none⟩ = some (.int .i64 l[k].1) ∧
    (w.alloc (.cells (rowCells l) t)).cell? ⟨w.heap.size, k * 2 + 1, none⟩ = some (.string ⟨l[k].2.toArray⟩) := by
  obtain ⟨h0, h1⟩ := rowCells_at l k h
  have e : (w.alloc (.cells (rowCells l) t)).heap[w.heap.size]? = some (.cells (rowCells l) t (0, 0)) := heap_alloc_new w _
  exact ⟨(cell_of_row _ _ _ _ _ _ e).trans h0, (cell_of_row _ _ _ _ _ _ e).trans h1⟩

set_option maxHeartbeats 1600000 in
set_option maxRecDepth 100000 in
theorem refOpName_any (n : Int) (w : World) : Calls Try.prog 9 #[.int .i64 n] w fun e w' => e = .returned (.string ⟨(Nm.look Nm.rops n).toArray⟩) ∧ w.alloc (.cells (rowCells Nm.rops) 35) = w' := by
  have hlen : Nm.rops.length = 24 := rfl
  have Hlen := hide hlen
  clear hlen
  go_enter Try.func9, Try.ntmps9
  go_wp2_with (go_at_call 17; refine (ops_any _).mono ?_; rintro e w' ⟨rfl, rfl⟩)
  go_loop [4] (fun i => ∃ k : Nat, k ≤ 24 ∧ i = .int .i64 k ∧ Nm.look (Nm.rops.drop k) n = Nm.look Nm.rops n) (fun i => 24 - (intOf i).toNat)
  case atStart => exact ⟨0, by omega, rfl, rfl⟩
  case round =>
    obtain ⟨k, hk, rfl, hl⟩ := hrel
    have Hl := hide hl
    clear hl
    by_cases hlt : k < 24
    · have hkl : k < Nm.rops.length := by rw [Hlen.out]; exact hlt
      obtain ⟨c0, c1⟩ := cell_rows (w := w) (t := 35) hkl
      have Hs := hide (look_step (n := n) hkl)
      generalize hr0 : Nm.rops[k].1 = r0 at c0 Hs
      generalize hr1 : Nm.rops[k].2 = r1 at c1 Hs
      clear hr0 hr1
      go_wp2
      · go_ret
        refine ⟨ret_eq ?_, rfl⟩
        have ht : (r0 == n) = true := by assumption
        rw [← Hl.out, Hs.out, if_pos (by simpa using (beq_iff_eq.1 ht).symm)]
        rfl
      · go_round
        case rel =>
          have ht : (r0 == n) = false := by assumption
          refine ⟨k + 1, by omega, by go_num, ?_⟩
          rw [← Hl.out, Hs.out, if_neg (fun e => by rw [e] at ht; simp at ht)]
        case measure => simp [intOf]; omega
    · go_wp2
      go_ret
      refine ⟨ret_eq ?_, rfl⟩
      rw [← Hl.out, List.drop_of_length_le (by rw [Hlen.out]; omega)]
      rfl
end Go.Proofs.Ytfkpjhgfcogdbaa
