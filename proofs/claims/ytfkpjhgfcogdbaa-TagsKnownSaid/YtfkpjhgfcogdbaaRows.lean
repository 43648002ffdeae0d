/-
  No cell of these rows narrows 'for every input' (looked for: loops, veiled, ifaces, maps, wideKeys, modest, calm, conditions, laid).
  DERIVED. THE GIVEN ROWS OF THIS SEAT. 3 by the template 'for every input the law returns true; each argument reads behind the call as it read before'; 0 by the template 'total and deterministic' (their statements: YtfkpjhgfcogdbaaTotals.lean).
  GIVEN WITH THE SEED: the statements are not yours to turn. If you find one false, say at which input.
  Laid BY PROGRAM, IN A SANDBOX (cutbox-rows.mjs): the forced cells as the released guide's own fill.sh prints them over the translation 8420b3bf92b391f4… (all of the seat's roots in one cut). By AI agents, Wed Nov 11 2026. No macro, syntax, notation, axiom, sorry.
-/
import Derived.Test.YtfkpjhgfcogdbaaChecked
import GoSem.Claim
import GoSem.ClaimJoined
import GoSem.ClaimMapViews
import Derived.JoinedTies
import Derived.KernelRfl
namespace Go.Proofs.Ytfkpjhgfcogdbaa
/- THE CELL 'sum', in the pinned program and in every row, IS THE sha256 OF THE DUMP (.gsa) THAT YtfkpjhgfcogdbaaProg.lean LOADS. Nothing in Lean hashes anything: it is a label: what it is worth is what the hold of that sum in a sandbox is worth. -/
noncomputable def Try.pinned : Pinned := { name := "ytfkpjhgfcogdbaa", sum := "8420b3bf92b391f4869a351155822c911c7037dd105a77e1574e8ca4b3bbb962", checked := Try.checked }
namespace Rows
def none {H : Type} : Left H := { results := [], args := [] }

/-- 'locksmithlaw7.TagsOps': WHATEVER THE INPUT: true; the input reads as it did. -/
def tagsOpsSpec : ChangeSpec := { name := "tagsOps", fn := fun _ => fun
  | [d1, d2] => { results := [.lit (.bool true)], args := [d1, d2] }
  | _ => none }
def tagsOpsRow : OpenClaim := { program := "ytfkpjhgfcogdbaa", sum := "8420b3bf92b391f4869a351155822c911c7037dd105a77e1574e8ca4b3bbb962", func := "locksmith/locksmithlaw7.TagsOps", spec := "tagsOps", apart := false }
def TagsOpsSaid : Prop := tagsOpsRow.holds Try.pinned (OpenSpec.ofChange tagsOpsSpec)

/-- ITS FALSE NEIGHBOUR: 'it returns false'. Refute it at one input. -/
def tagsOpsWrong : ChangeSpec := { name := "tagsOps", fn := fun _ => fun
  | [d1, d2] => { results := [.lit (.bool false)], args := [d1, d2] }
  | _ => none }
def TagsOpsWrongFalsely : Prop := tagsOpsRow.holds Try.pinned (OpenSpec.ofChange tagsOpsWrong)

/-- 'locksmithlaw7.TagsNames': WHATEVER THE INPUT: true; the input reads as it did. -/
def tagsNamesSpec : ChangeSpec := { name := "tagsNames", fn := fun _ => fun
  | [d1, d2, d3] => { results := [.lit (.bool true)], args := [d1, d2, d3] }
  | _ => none }
def tagsNamesRow : OpenClaim := { program := "ytfkpjhgfcogdbaa", sum := "8420b3bf92b391f4869a351155822c911c7037dd105a77e1574e8ca4b3bbb962", func := "locksmith/locksmithlaw7.TagsNames", spec := "tagsNames", apart := false }
def TagsNamesSaid : Prop := tagsNamesRow.holds Try.pinned (OpenSpec.ofChange tagsNamesSpec)

/-- ITS FALSE NEIGHBOUR: 'it returns false'. Refute it at one input. -/
def tagsNamesWrong : ChangeSpec := { name := "tagsNames", fn := fun _ => fun
  | [d1, d2, d3] => { results := [.lit (.bool false)], args := [d1, d2, d3] }
  | _ => none }
def TagsNamesWrongFalsely : Prop := tagsNamesRow.holds Try.pinned (OpenSpec.ofChange tagsNamesWrong)

/-- 'locksmithlaw7.TagsKnown': WHATEVER THE INPUT: true; the input reads as it did. -/
def tagsKnownSpec : ChangeSpec := { name := "tagsKnown", fn := fun _ => fun
  | [] => { results := [.lit (.bool true)], args := [] }
  | _ => none }
def tagsKnownRow : OpenClaim := { program := "ytfkpjhgfcogdbaa", sum := "8420b3bf92b391f4869a351155822c911c7037dd105a77e1574e8ca4b3bbb962", func := "locksmith/locksmithlaw7.TagsKnown", spec := "tagsKnown", apart := false }
def TagsKnownSaid : Prop := tagsKnownRow.holds Try.pinned (OpenSpec.ofChange tagsKnownSpec)

/-- ITS FALSE NEIGHBOUR: 'it returns false'. Refute it at one input. -/
def tagsKnownWrong : ChangeSpec := { name := "tagsKnown", fn := fun _ => fun
  | [] => { results := [.lit (.bool false)], args := [] }
  | _ => none }
def TagsKnownWrongFalsely : Prop := tagsKnownRow.holds Try.pinned (OpenSpec.ofChange tagsKnownWrong)

/- THE SECOND FORM. 'bulk': how many values and letters a reading holds, each counted each time it is reached (what is shared counts as often as it is met; a slice's spare places count too). A statement '..UptoSaid' is the law's where the arguments, and the package variables that the reading takes, are together of bulk at most 1048576: NARROWER than '..Said'. Prove '..Said' where nothing that the law and all that it calls make is longer than what came in: it says more and counts as full. Else prove '..UptoSaid'. A law counts once. -/
mutual
def uptoBulk {H : Type} : DataW H → Nat
  | .lit (.string bytes) => bytes.length + 1
  | .lit _ => 1
  | .nil => 1
  | .ptr d => uptoBulk d + 1
  | .slice elems spare => uptoBulkAll elems + uptoBulkAll spare + 1
  | .agg parts => uptoBulkAll parts + 1
  | .iface _ d => uptoBulk d + 1
  | .map entries => uptoBulkEntries entries + 1
  | .held _ => 1
def uptoBulkAll {H : Type} : List (DataW H) → Nat
  | [] => 0
  | d :: r => uptoBulk d + uptoBulkAll r
def uptoBulkEntries {H : Type} : List (Lit × DataW H) → Nat
  | [] => 0
  | x :: r => uptoBulkEntry x + uptoBulkEntries r
def uptoBulkEntry {H : Type} : Lit × DataW H → Nat
  | (.string bytes, d) => bytes.length + uptoBulk d + 1
  | (_, d) => uptoBulk d + 1
 end
def uptoSmall : (H : Type) → List (DataW H) → Bool := fun _ ds => decide (uptoBulkAll ds ≤ 1048576)
def OpenSpec.upto (s : _root_.Go.ChangeSpec) : _root_.Go.OpenSpec := { _root_.Go.OpenSpec.ofChange s with cond := some uptoSmall }

/-- 'locksmithlaw7.TagsOps', WHERE WHAT IT READS IS OF BULK AT MOST 1048576: true; the input reads as it did. -/
def tagsOpsUptoRow : OpenClaim := { program := "ytfkpjhgfcogdbaa", sum := "8420b3bf92b391f4869a351155822c911c7037dd105a77e1574e8ca4b3bbb962", func := "locksmith/locksmithlaw7.TagsOps", spec := "tagsOps", apart := false, narrowed := true }
def TagsOpsUptoSaid : Prop := tagsOpsUptoRow.holds Try.pinned (OpenSpec.upto tagsOpsSpec)

/-- 'locksmithlaw7.TagsNames', WHERE WHAT IT READS IS OF BULK AT MOST 1048576: true; the input reads as it did. -/
def tagsNamesUptoRow : OpenClaim := { program := "ytfkpjhgfcogdbaa", sum := "8420b3bf92b391f4869a351155822c911c7037dd105a77e1574e8ca4b3bbb962", func := "locksmith/locksmithlaw7.TagsNames", spec := "tagsNames", apart := false, narrowed := true }
def TagsNamesUptoSaid : Prop := tagsNamesUptoRow.holds Try.pinned (OpenSpec.upto tagsNamesSpec)

/-- 'locksmithlaw7.TagsKnown', WHERE WHAT IT READS IS OF BULK AT MOST 1048576: true; the input reads as it did. -/
def tagsKnownUptoRow : OpenClaim := { program := "ytfkpjhgfcogdbaa", sum := "8420b3bf92b391f4869a351155822c911c7037dd105a77e1574e8ca4b3bbb962", func := "locksmith/locksmithlaw7.TagsKnown", spec := "tagsKnown", apart := false, narrowed := true }
def TagsKnownUptoSaid : Prop := tagsKnownUptoRow.holds Try.pinned (OpenSpec.upto tagsKnownSpec)

end Rows
end Go.Proofs.Ytfkpjhgfcogdbaa
