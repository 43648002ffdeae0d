/- The walk of the law TagsOps: for any number it returns true. -/
import Derived.Test.YtfkpjhgfcogdbaaTagWalks
namespace Go.Proofs.Ytfkpjhgfcogdbaa
open Go.RowKit

set_option maxHeartbeats 800000 in
set_option maxRecDepth 100000 in
theorem lawOps_any (a0 : Int) (a1 : Bool) (w : World) :
    Calls Try.prog 3 #[.int .i64 a0, .bool a1] w fun e w' => e = .returned (.bool true) ∧ Grown w w' := by
  have ho : ∀ n, opS n = .string ⟨(Nm.look Nm.ops n).toArray⟩ := fun _ => rfl
  have hi : ∀ n, isOp n = !(Nm.look Nm.ops n).isEmpty := fun _ => rfl
  cases a1
  all_goals
    go_enter Try.func3, Try.ntmps3
    go_wp2_with (first
      | (go_at_call 6; refine (pick_any _ _ _ (by omega)).mono ?_; rintro e w' ⟨⟨r, rfl, hr1, hr2⟩, rfl⟩)
      | (go_at_call 7; refine (known_any _).mono ?_; rintro e w' ⟨rfl, rfl⟩)
      | (go_at_call 8; refine (opName_any _ _).mono ?_; rintro e w' ⟨rfl, rfl⟩)
      | (go_at_call 9; refine (refOp _ _).mono ?_; rintro e w' ⟨rfl, rfl⟩)
      | (go_at_call 10; refine (offered_any _ _).mono ?_; rintro e w' ⟨rfl, rfl⟩))
    go_ret
    exact ⟨rfl, by repeat (first | exact Grown.refl _ | apply Grown.drew | apply Grown.alloc)⟩
end Go.Proofs.Ytfkpjhgfcogdbaa
