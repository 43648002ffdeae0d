/- Walks of the rest of chapter 7's functions. -/
import Derived.Test.YtfkpjhgfcogdbaaTagNames
namespace Go.Proofs.Ytfkpjhgfcogdbaa
open Go.RowKit

theorem opS_ref (n : Int) : Value.string ⟨(Nm.look Nm.rops n).toArray⟩ = opS n := by unfold opS; rw [Nm.ops_rops]
theorem refOp (n : Int) (w : World) : Calls Try.prog 9 #[.int .i64 n] w fun e w' => e = .returned (opS n) ∧ w.alloc (.cells (rowCells Nm.rops) 35) = w' := by
  have := refOpName_any n w
  rwa [opS_ref] at this

def isOp (n : Int) : Bool := !(Nm.look Nm.ops n).isEmpty
set_option maxHeartbeats 400000 in
theorem offered_any (n : Int) (w : World) : Calls Try.prog 10 #[.int .i64 n] w fun e w' => e = .returned (.bool (isOp n)) ∧ w = w' := by
  unfold isOp
  have ho : opS n = .string ⟨(Nm.look Nm.ops n).toArray⟩ := rfl
  go_enter Try.func10, Try.ntmps10
  go_wp2_with (go_at_call 8; refine (opName_any _ _).mono ?_; rintro e w' ⟨rfl, rfl⟩)
  go_ret
  exact ⟨rfl, rfl⟩

set_option maxHeartbeats 400000 in
theorem pick_any (n m : Int) (w : World) (hm : 0 < m ∧ m ≤ 9223372036854775807) : Calls Try.prog 6 #[.int .i64 n, .int .i64 m] w fun e w' => (∃ r, e = .returned (.int .i64 r) ∧ 0 ≤ r ∧ r < m) ∧ w = w' := by
  obtain ⟨h3, h4⟩ := hm
  have hlo : -m < n.tmod m := by
    have := Int.tmod_lt_of_pos (-n) h3
    rw [Int.neg_tmod] at this
    omega
  have hhi : n.tmod m < m := Int.tmod_lt_of_pos n h3
  go_enter Try.func6, Try.ntmps6
  go_wp2
  all_goals go_ret
  all_goals exact ⟨⟨_, rfl, by omega, by omega⟩, rfl⟩

set_option maxHeartbeats 400000 in
theorem known_any (w : World) : Calls Try.prog 7 #[] w fun e w' => e = .returned (.bool true) ∧ w = w' := by
  have h1 : nameS 4325389 = .string ⟨#[66, 97, 116, 99, 104, 67, 111, 117, 110, 116]⟩ := by unfold nameS; rw [show Nm.name 4325389 = [66, 97, 116, 99, 104, 67, 111, 117, 110, 116] by decide +kernel]
  have h2 : opS 8 = .string ⟨#[76, 111, 99, 97, 116, 101]⟩ := by unfold opS; rw [show Nm.look Nm.ops 8 = [76, 111, 99, 97, 116, 101] by decide +kernel]
  go_enter Try.func7, Try.ntmps7
  go_wp2_with (first | (go_at_call 14; refine (name_any _ _).mono ?_; rintro e w' ⟨rfl, rfl⟩) | (go_at_call 8; refine (opName_any _ _).mono ?_; rintro e w' ⟨rfl, rfl⟩))
  go_ret
  exact ⟨rfl, rfl⟩

/-! ### the reference's words -/
set_option maxHeartbeats 1600000 in
set_option maxRecDepth 100000 in
theorem words_any (w : World) : Calls Try.prog 18 #[] w fun e w' => e = .returned (.slice (some ⟨w.heap.size, 0, none⟩) 59 59) ∧ w.alloc (.cells (rowCells Nm.words) 35) = w' := by
  go_enter Try.func18, Try.ntmps18
  go_wp2
  go_ret
  exact ⟨rfl, rfl⟩

set_option maxHeartbeats 1600000 in
set_option maxRecDepth 100000 in
theorem refName_any0 (n : Int) (w : World) : Calls Try.prog 11 #[.int .i64 n] w fun e w' => e = .returned (.string ⟨(Nm.look Nm.words n).toArray⟩) ∧ w.alloc (.cells (rowCells Nm.words) 35) = w' := by
  have hlen : Nm.words.length = 59 := rfl
  have Hlen := hide hlen
  clear hlen
  go_enter Try.func11, Try.ntmps11
  go_wp2_with (go_at_call 18; refine (words_any _).mono ?_; rintro e w' ⟨rfl, rfl⟩)
  go_loop [4] (fun i => ∃ k : Nat, k ≤ 59 ∧ i = .int .i64 k ∧ Nm.look (Nm.words.drop k) n = Nm.look Nm.words n) (fun i => 59 - (intOf i).toNat)
  case atStart => exact ⟨0, by omega, rfl, rfl⟩
  case round =>
    obtain ⟨k, hk, rfl, hl⟩ := hrel
    have Hl := hide hl
    clear hl
    by_cases hlt : k < 59
    · have hkl : k < Nm.words.length := by rw [Hlen.out]; exact hlt
      obtain ⟨c0, c1⟩ := cell_rows (w := w) (t := 35) hkl
      have Hs := hide (look_step (n := n) hkl)
      generalize hr0 : Nm.words[k].1 = r0 at c0 Hs
      generalize hr1 : Nm.words[k].2 = r1 at c1 Hs
      clear hr0 hr1
      go_wp2
      · go_ret
        refine ⟨ret_eq ?_, rfl⟩
        have ht : (r0 == n) = true := by assumption
        rw [← Hl.out, Hs.out, if_pos (by simpa using (beq_iff_eq.1 ht).symm)]
        rfl
      · go_round
        case rel =>
          have ht : (r0 == n) = false := by assumption
          refine ⟨k + 1, by omega, by go_num, ?_⟩
          rw [← Hl.out, Hs.out, if_neg (fun e => by rw [e] at ht; simp at ht)]
        case measure => simp [intOf]; omega
    · go_wp2
      go_ret
      refine ⟨ret_eq ?_, rfl⟩
      rw [← Hl.out, List.drop_of_length_le (by rw [Hlen.out]; omega)]
      rfl
theorem refName_any (n : Int) (w : World) : Calls Try.prog 11 #[.int .i64 n] w fun e w' => e = .returned (nameS n) ∧ w.alloc (.cells (rowCells Nm.words) 35) = w' := by
  have := refName_any0 n w
  rwa [Nm.name_words] at this

theorem back_step {l : List Nm.Row} {k : Nat} {s : List UInt8} (h : k < l.length) : Nm.back (l.drop k) s = if l[k].2 = s then some l[k].1 else Nm.back (l.drop (k + 1)) s := by
  rw [List.drop_eq_getElem_cons h]; rfl
/-- what a seek answers, as Go's two results -/
def found : Option Int → Value
  | some n => .tuple #[.int .i64 n, .bool true]
  | none => .tuple #[.int .i64 0, .bool false]

set_option maxHeartbeats 1600000 in
set_option maxRecDepth 100000 in
theorem refTag_any (s : List UInt8) (w : World) : Calls Try.prog 13 #[.string ⟨s.toArray⟩] w fun e w' => e = .returned (found (Nm.back Nm.words s)) ∧ w.alloc (.cells (rowCells Nm.words) 35) = w' := by
  have hlen : Nm.words.length = 59 := rfl
  have Hlen := hide hlen
  clear hlen
  go_enter Try.func13, Try.ntmps13
  go_wp2_with (go_at_call 18; refine (words_any _).mono ?_; rintro e w' ⟨rfl, rfl⟩)
  go_loop [5] (fun i => ∃ k : Nat, k ≤ 59 ∧ i = .int .i64 k ∧ Nm.back (Nm.words.drop k) s = Nm.back Nm.words s) (fun i => 59 - (intOf i).toNat)
  case atStart => exact ⟨0, by omega, rfl, rfl⟩
  case round =>
    obtain ⟨k, hk, rfl, hl⟩ := hrel
    have Hl := hide hl
    clear hl
    by_cases hlt : k < 59
    · have hkl : k < Nm.words.length := by rw [Hlen.out]; exact hlt
      obtain ⟨c0, c1⟩ := cell_rows (w := w) (t := 35) hkl
      have Hs := hide (back_step (s := s) hkl)
      generalize hr0 : Nm.words[k].1 = r0 at c0 Hs
      generalize hr1 : Nm.words[k].2 = r1 at c1 Hs
      clear hr0 hr1
      go_wp2
      · go_ret2
        refine ⟨ret_eq ?_, rfl⟩
        have ht : (r1 == s) = true := by assumption
        rw [← Hl.out, Hs.out, if_pos (by simpa using ht)]
        rfl
      · go_round
        case rel =>
          have ht : (r1 == s) = false := by assumption
          refine ⟨k + 1, by omega, by go_num, ?_⟩
          rw [← Hl.out, Hs.out, if_neg (by simpa using ht)]
        case measure => simp [intOf]; omega
    · go_wp2
      go_ret2
      refine ⟨ret_eq ?_, rfl⟩
      rw [← Hl.out, List.drop_of_length_le (by rw [Hlen.out]; omega)]
      rfl

set_option maxHeartbeats 1600000 in
set_option maxRecDepth 100000 in
theorem all_any (w : World) : Calls Try.prog 19 #[] w fun e w' => e = .returned (.slice (some ⟨w.heap.size, 0, none⟩) 59 59) ∧ w.alloc (.cells (Nm.alls.map (Value.int .i64)).toArray 3) = w' := by
  go_enter Try.func19, Try.ntmps19
  go_wp2
  go_ret
  exact ⟨rfl, rfl⟩
end Go.Proofs.Ytfkpjhgfcogdbaa
