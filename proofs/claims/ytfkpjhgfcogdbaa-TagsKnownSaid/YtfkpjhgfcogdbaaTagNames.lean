/- Walks of tags.Name, later, all, words. -/
import Derived.Test.YtfkpjhgfcogdbaaRefOps
namespace Go.Proofs.Ytfkpjhgfcogdbaa
open Go.RowKit

def laterS (n : Int) : Value := .string ⟨(Nm.look Nm.names2 n).toArray⟩
def nameS (n : Int) : Value := .string ⟨(Nm.name n).toArray⟩

set_option maxHeartbeats 1600000 in
set_option maxRecDepth 100000 in
theorem later_any (n : Int) (w : World) : Calls Try.prog 20 #[.int .i64 n] w fun e w' => e = .returned (laterS n) ∧ w = w' := by
  go_enter Try.func20, Try.ntmps20
  go_wp2
  all_goals go_ret
  all_goals refine ⟨ret_eq ?_, rfl⟩
  all_goals simp_all [laterS, Nm.look, Nm.names2]

set_option maxHeartbeats 3200000 in
set_option maxRecDepth 100000 in
theorem name_any (n : Int) (w : World) : Calls Try.prog 14 #[.int .i64 n] w fun e w' => e = .returned (nameS n) ∧ w = w' := by
  go_enter Try.func14, Try.ntmps14
  go_wp2_with (go_at_call 20; refine (later_any _ _).mono ?_; rintro e w' ⟨rfl, rfl⟩)
  all_goals go_ret
  all_goals refine ⟨ret_eq ?_, rfl⟩
  all_goals simp_all [nameS, laterS, Nm.name, Nm.look, Nm.names1]
end Go.Proofs.Ytfkpjhgfcogdbaa
