/- The walk of the law TagsNames: for any number and text it returns true. -/
import Derived.Test.YtfkpjhgfcogdbaaTagSeek
namespace Go.Proofs.Ytfkpjhgfcogdbaa
open Go.RowKit

theorem tag_pair (s : List UInt8) (w : World) : Calls Try.prog 12 #[.string ⟨s.toArray⟩] w fun e w' => e = .returned (.tuple #[.int .i64 ((Nm.back Nm.words s).getD 0), .bool (Nm.back Nm.words s).isSome]) ∧ w.alloc (.cells (Nm.alls.map (Value.int .i64)).toArray 3) = w' := by
  refine (tag_any s w).mono fun e w' ⟨he, hw⟩ => ⟨?_, hw⟩
  rw [he, Nm.seek_words]
  cases Nm.back Nm.words s <;> rfl
theorem refTag_pair (s : List UInt8) (w : World) : Calls Try.prog 13 #[.string ⟨s.toArray⟩] w fun e w' => e = .returned (.tuple #[.int .i64 ((Nm.back Nm.words s).getD 0), .bool (Nm.back Nm.words s).isSome]) ∧ w.alloc (.cells (rowCells Nm.words) 35) = w' := by
  refine (refTag_any s w).mono fun e w' ⟨he, hw⟩ => ⟨?_, hw⟩
  rw [he]
  cases Nm.back Nm.words s <;> rfl

set_option maxHeartbeats 800000 in
set_option maxRecDepth 100000 in
theorem lawNames_any (a0 : Int) (a1 : List UInt8) (a2 : Bool) (w : World) :
    Calls Try.prog 4 #[.int .i64 a0, .string ⟨a1.toArray⟩, .bool a2] w fun e w' => e = .returned (.bool true) ∧ Grown w w' := by
  have hn : ∀ n, nameS n = .string ⟨(Nm.name n).toArray⟩ := fun _ => rfl
  have hE : ∀ s : List UInt8, s.isEmpty = true → Nm.back Nm.words s = none := fun s hs => by rw [List.isEmpty_iff.1 hs]; exact Nm.back_nil
  cases a2
  all_goals
    go_enter Try.func4, Try.ntmps4
    go_wp2_with (first
      | (go_at_call 6; refine (pick_any _ _ _ (by omega)).mono ?_; rintro e w' ⟨⟨r, rfl, hr1, hr2⟩, rfl⟩)
      | (go_at_call 7; refine (known_any _).mono ?_; rintro e w' ⟨rfl, rfl⟩)
      | (go_at_call 11; refine (refName_any _ _).mono ?_; rintro e w' ⟨rfl, rfl⟩)
      | (go_at_call 12; refine (tag_pair _ _).mono ?_; rintro e w' ⟨rfl, rfl⟩)
      | (go_at_call 13; refine (refTag_pair _ _).mono ?_; rintro e w' ⟨rfl, rfl⟩)
      | (go_at_call 14; refine (name_any _ _).mono ?_; rintro e w' ⟨rfl, rfl⟩))
    all_goals go_ret
    all_goals exact ⟨rfl, by repeat (first | exact Grown.refl _ | apply Grown.drew | apply Grown.alloc)⟩
end Go.Proofs.Ytfkpjhgfcogdbaa
