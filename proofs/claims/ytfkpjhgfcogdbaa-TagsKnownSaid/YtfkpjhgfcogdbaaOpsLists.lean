/- The walks of tags.Ops and of the reference's Ops. -/
import Derived.Test.YtfkpjhgfcogdbaaTagSeek
namespace Go.Proofs.Ytfkpjhgfcogdbaa
open Go.RowKit

theorem info3 : (Try.prog.info? 3).map (fun i => (i.zero, i.size, i.bytes)) = some (some (.int .i64 0), 1, 8) := by kernel_rfl
def opKeys : List Int := Nm.ops.map (·.1)
/-- those offered below k -/
def offered (k : Nat) : List Int := ((List.range k).map Int.ofNat).filter isOp
theorem offered_all : offered 37 = opKeys := by decide +kernel
theorem offered_yes (k : Nat) (h : isOp (k : Int) = true) : offered (k + 1) = offered k ++ [(k : Int)] := by
  unfold offered
  rw [List.range_succ, List.map_append, List.filter_append]
  simp [h]
theorem offered_no (k : Nat) (h : isOp (k : Int) = false) : offered (k + 1) = offered k := by
  unfold offered
  rw [List.range_succ, List.map_append, List.filter_append]
  simp [h]
theorem offered_len (k : Nat) : (offered k).length ≤ k := by
  unfold offered
  have := List.length_filter_le isOp ((List.range k).map Int.ofNat)
  simpa using this
abbrev ints (l : List Int) : List Value := l.map (Value.int .i64)

set_option maxHeartbeats 800000 in
set_option maxRecDepth 100000 in
theorem opsList_any (w : World) : Calls Try.prog 15 #[] w fun e w' => ∃ v, e = .returned v ∧ w'.ownsRow w.heap.size 3 1 v opKeys.length (ints opKeys) ∧ Below w.heap.size w w' := by
  obtain ⟨i0, hi, hz0, hz1, hz2⟩ := info_parts info3
  go_enter Try.func15, Try.ntmps15
  go_wp2
  go_loopw [1, 3] (fun v i wr => ∃ k : Nat, k ≤ 37 ∧ i = .int .i64 k ∧ wr.ownsRow w.heap.size 3 1 v (offered k).length (ints (offered k)) ∧ Below w.heap.size w wr) (fun _ i _ => 37 - (intOf i).toNat)
  case atStart => exact ⟨0, by omega, rfl, World.ownsRow_nil _ _ _ _, Below.refl _ _⟩
  case round =>
    obtain ⟨k, hk, rfl, hown, hb⟩ := hrel
    have hl := offered_len k
    by_cases hlt : k < 37
    · by_cases ho : isOp (k : Int) = true
      · go_wp2_with (first
          | (go_at_call 10; refine (offered_any _ _).mono ?_; rintro e w' ⟨rfl, rfl⟩)
          | (at_builtin; refine wpList_append_own _ rfl _ _ 30 rfl w.heap.size 3 i0 (.int .i64 0) 1 8 Try.underlying30 hi hz0 hz1 hz2 rfl (by decide) _ _ _ rfl (hown.alloc _) ⟨wr.heap.size, 0, none⟩ 1 1 [.int .i64 k] rfl rfl (cell_one_new _ _ _) (ints_oneCell .i64 [(k : Int)]) (by unfold maxLen; omega) (by omega) (by have := hb.size; simp; omega) ?_; intro v' w1 hown1 hg1 _))
        have hb1 : Below w.heap.size w w1 := (hb.alloc hb.size _).grown hg1 (by have := hb.size; simp; omega) (fun g hg => (hown.lt g hg).1)
        go_roundw
        case rel =>
          refine ⟨k + 1, by omega, by go_num, ?_, hb1⟩
          rw [offered_yes k ho]
          simpa [ints] using hown1
        case measure => simp [intOf]; omega
      · have ho' : isOp (k : Int) = false := by simpa using ho
        clear ho
        go_wp2_with (go_at_call 10; refine (offered_any _ _).mono ?_; rintro e w' ⟨rfl, rfl⟩)
        go_roundw
        case rel =>
          exact ⟨k + 1, by omega, by go_num, by rw [offered_no k ho']; exact hown, hb⟩
        case measure => simp [intOf]; omega
    · obtain rfl : k = 37 := by omega
      rw [offered_all] at hown
      go_wp2
      go_ret
      exact ⟨_, rfl, hown, hb⟩

theorem rops_take {k : Nat} (h : k < Nm.rops.length) : (Nm.rops.take (k + 1)).map (·.1) = (Nm.rops.take k).map (·.1) ++ [Nm.rops[k].1] := by
  rw [List.take_succ_eq_append_getElem h, List.map_append]; rfl

set_option maxHeartbeats 800000 in
set_option maxRecDepth 100000 in
theorem refOpsList_any (w : World) : Calls Try.prog 16 #[] w fun e w' => ∃ v, e = .returned v ∧ w'.ownsRow w.heap.size 3 1 v opKeys.length (ints opKeys) ∧ Below w.heap.size w w' := by
  have hlen : Nm.rops.length = 24 := rfl
  have Hlen := hide hlen
  clear hlen
  obtain ⟨i0, hi, hz0, hz1, hz2⟩ := info_parts info3
  go_enter Try.func16, Try.ntmps16
  go_wp2_with (go_at_call 17; refine (ops_any _).mono ?_; rintro e w' ⟨rfl, rfl⟩)
  go_loopw [1, 3] (fun v i wr => ∃ k : Nat, k ≤ 24 ∧ i = .int .i64 k ∧ wr.ownsRow (w.heap.size + 1) 3 1 v k (ints ((Nm.rops.take k).map (·.1))) ∧ Below (w.heap.size + 1) (w.alloc (.cells (rowCells Nm.rops) 35)) wr) (fun _ i _ => 24 - (intOf i).toNat)
  case atStart => exact ⟨0, by omega, rfl, World.ownsRow_nil _ _ _ _, Below.refl _ _⟩
  case round =>
    obtain ⟨k, hk, rfl, hown, hb⟩ := hrel
    by_cases hlt : k < 24
    · have hkl : k < Nm.rops.length := by rw [Hlen.out]; exact hlt
      have hs : w.heap.size + 1 ≤ wr.heap.size := by have := hb.size; simpa using this
      obtain ⟨c0', _⟩ := cell_rows (w := w) (t := 35) hkl
      have c0 : wr.cell? ⟨w.heap.size, k * 2, none⟩ = some (.int .i64 Nm.rops[k].1) := (hb.cell (p := ⟨w.heap.size, k * 2, none⟩) (by simp)).trans c0'
      clear c0'
      have Ht := hide (rops_take hkl)
      generalize hr0 : Nm.rops[k].1 = r0 at c0 Ht
      clear hr0
      go_wp2_with (at_builtin; refine wpList_append_own _ rfl _ _ 30 rfl (w.heap.size + 1) 3 i0 (.int .i64 0) 1 8 Try.underlying30 hi hz0 hz1 hz2 rfl (by decide) _ _ _ rfl (hown.alloc _) ⟨wr.heap.size, 0, none⟩ 1 1 [.int .i64 r0] rfl rfl (cell_one_new _ _ _) (ints_oneCell .i64 [r0]) (by unfold maxLen; omega) (by omega) (by simp; omega) ?_; intro v' w1 hown1 hg1 _)
      have hb1 : Below (w.heap.size + 1) (w.alloc (.cells (rowCells Nm.rops) 35)) w1 := (hb.alloc hs _).grown hg1 (by simp; omega) (fun g hg => (hown.lt g hg).1)
      go_roundw
      case rel =>
        refine ⟨k + 1, by omega, by go_num, ?_, hb1⟩
        rw [Ht.out]
        simpa [ints] using hown1
      case measure => simp [intOf]; omega
    · obtain rfl : k = 24 := by omega
      have e : (Nm.rops.take 24).map (·.1) = opKeys := by decide +kernel
      rw [e] at hown
      go_wp2
      go_ret
      have hb0 : Below w.heap.size w wr := ((Below.refl _ _).alloc (Nat.le_refl _) _).trans (hb.mono (by omega))
      exact ⟨_, rfl, ⟨hown.1, by rcases hown.2 with h | ⟨g, cap, cur, hv, hg, r⟩; exact .inl h; exact .inr ⟨g, cap, cur, hv, by omega, r⟩⟩, hb0⟩
end Go.Proofs.Ytfkpjhgfcogdbaa
