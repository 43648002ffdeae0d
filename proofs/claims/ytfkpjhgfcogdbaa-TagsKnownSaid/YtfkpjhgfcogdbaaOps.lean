/- Walks of tags.OpName and its like. -/
import Derived.Test.YtfkpjhgfcogdbaaRows
import Derived.Test.YtfkpjhgfcogdbaaNames
import Derived.WalkKit
import Derived.WalkSpells
import Derived.WalkLawsBesides
namespace Go.Proofs.Ytfkpjhgfcogdbaa
open Go.RowKit

def opS (n : Int) : Value := .string ⟨(Nm.look Nm.ops n).toArray⟩
theorem hide {p : Prop} (h : p) : Hid p := h
theorem ret_eq {a b : Value} (h : a = b) : Ending.returned a = .returned b := by rw [h]

set_option maxHeartbeats 1600000 in
set_option maxRecDepth 100000 in
theorem opName_any (n : Int) (w : World) : Calls Try.prog 8 #[.int .i64 n] w fun e w' => e = .returned (opS n) ∧ w = w' := by
  go_enter Try.func8, Try.ntmps8
  go_wp2
  all_goals go_ret
  all_goals refine ⟨ret_eq ?_, rfl⟩
  all_goals simp_all [opS, Nm.look, Nm.ops]

def rowCells (l : List Nm.Row) : Array Value := (l.flatMap fun r => [Value.int .i64 r.1, Value.string ⟨r.2.toArray⟩]).toArray

set_option maxHeartbeats 1600000 in
set_option maxRecDepth 100000 in
theorem ops_any (w : World) : Calls Try.prog 17 #[] w fun e w' => e = .returned (.slice (some ⟨w.heap.size, 0, none⟩) 24 24) ∧ w.alloc (.cells (rowCells Nm.rops) 35) = w' := by
  go_enter Try.func17, Try.ntmps17
  go_wp2
  go_ret
  exact ⟨rfl, rfl⟩

end Go.Proofs.Ytfkpjhgfcogdbaa
