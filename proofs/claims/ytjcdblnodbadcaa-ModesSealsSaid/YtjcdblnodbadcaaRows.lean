/-
  No cell of these rows narrows 'for every input' (looked for: loops, veiled, ifaces, maps, wideKeys, modest, calm, conditions, laid).
  DERIVED. THE GIVEN ROWS OF THIS SEAT. 10 by the template 'for every input the law returns true; each argument reads behind the call as it read before'; 0 by the template 'total and deterministic' (their statements: YtjcdblnodbadcaaTotals.lean).
  GIVEN WITH THE SEED: the statements are not yours to turn. If you find one false, say at which input.
  Laid BY PROGRAM, IN A SANDBOX (cutbox-rows.mjs): the forced cells as the released guide's own fill.sh prints them over the translation 2da039551f2c229d… (all of the seat's roots in one cut). By AI agents, Wed Nov 11 2026. No macro, syntax, notation, axiom, sorry.
-/
import Derived.Test.YtjcdblnodbadcaaChecked
import GoSem.Claim
import GoSem.ClaimJoined
import GoSem.ClaimMapViews
import Derived.JoinedTies
import Derived.KernelRfl
namespace Go.Proofs.Ytjcdblnodbadcaa
/- THE CELL 'sum', in the pinned program and in every row, IS THE sha256 OF THE DUMP (.gsa) THAT YtjcdblnodbadcaaProg.lean LOADS. Nothing in Lean hashes anything: it is a label: what it is worth is what the hold of that sum in a sandbox is worth. -/
noncomputable def Try.pinned : Pinned := { name := "ytjcdblnodbadcaa", sum := "2da039551f2c229d75c64f19dfde82914014acf9518eeea2d3b6c71341fc71d7", checked := Try.checked }
namespace Rows
def none {H : Type} : Left H := { results := [], args := [] }

/-- 'locksmithlaw8.AesField': WHATEVER THE INPUT: true; the input reads as it did. -/
def aesFieldSpec : ChangeSpec := { name := "aesField", fn := fun _ => fun
  | [d1, d2, d3] => { results := [.lit (.bool true)], args := [d1, d2, d3] }
  | _ => none }
def aesFieldRow : OpenClaim := { program := "ytjcdblnodbadcaa", sum := "2da039551f2c229d75c64f19dfde82914014acf9518eeea2d3b6c71341fc71d7", func := "locksmith/locksmithlaw8.AesField", spec := "aesField", apart := false }
def AesFieldSaid : Prop := aesFieldRow.holds Try.pinned (OpenSpec.ofChange aesFieldSpec)

/-- ITS FALSE NEIGHBOUR: 'it returns false'. Refute it at one input. -/
def aesFieldWrong : ChangeSpec := { name := "aesField", fn := fun _ => fun
  | [d1, d2, d3] => { results := [.lit (.bool false)], args := [d1, d2, d3] }
  | _ => none }
def AesFieldWrongFalsely : Prop := aesFieldRow.holds Try.pinned (OpenSpec.ofChange aesFieldWrong)

/-- 'locksmithlaw9.ModesPads': WHATEVER THE INPUT: true; the input reads as it did. -/
def modesPadsSpec : ChangeSpec := { name := "modesPads", fn := fun _ => fun
  | [d1, d2, d3, d4, d5] => { results := [.lit (.bool true)], args := [d1, d2, d3, d4, d5] }
  | _ => none }
def modesPadsRow : OpenClaim := { program := "ytjcdblnodbadcaa", sum := "2da039551f2c229d75c64f19dfde82914014acf9518eeea2d3b6c71341fc71d7", func := "locksmith/locksmithlaw9.ModesPads", spec := "modesPads", apart := false }
def ModesPadsSaid : Prop := modesPadsRow.holds Try.pinned (OpenSpec.ofChange modesPadsSpec)

/-- ITS FALSE NEIGHBOUR: 'it returns false'. Refute it at one input. -/
def modesPadsWrong : ChangeSpec := { name := "modesPads", fn := fun _ => fun
  | [d1, d2, d3, d4, d5] => { results := [.lit (.bool false)], args := [d1, d2, d3, d4, d5] }
  | _ => none }
def ModesPadsWrongFalsely : Prop := modesPadsRow.holds Try.pinned (OpenSpec.ofChange modesPadsWrong)

/-- 'locksmithlaw8.AesKnown': WHATEVER THE INPUT: true; the input reads as it did. -/
def aesKnownSpec : ChangeSpec := { name := "aesKnown", fn := fun _ => fun
  | [] => { results := [.lit (.bool true)], args := [] }
  | _ => none }
def aesKnownRow : OpenClaim := { program := "ytjcdblnodbadcaa", sum := "2da039551f2c229d75c64f19dfde82914014acf9518eeea2d3b6c71341fc71d7", func := "locksmith/locksmithlaw8.AesKnown", spec := "aesKnown", unfollowed := true, recurses := true, apart := false }
def AesKnownSaid : Prop := aesKnownRow.holds Try.pinned (OpenSpec.ofChange aesKnownSpec)

/-- ITS FALSE NEIGHBOUR: 'it returns false'. Refute it at one input. -/
def aesKnownWrong : ChangeSpec := { name := "aesKnown", fn := fun _ => fun
  | [] => { results := [.lit (.bool false)], args := [] }
  | _ => none }
def AesKnownWrongFalsely : Prop := aesKnownRow.holds Try.pinned (OpenSpec.ofChange aesKnownWrong)

/-- 'locksmithlaw8.AesBlocks': WHATEVER THE INPUT: true; the input reads as it did. -/
def aesBlocksSpec : ChangeSpec := { name := "aesBlocks", fn := fun _ => fun
  | [d1, d2, d3, d4] => { results := [.lit (.bool true)], args := [d1, d2, d3, d4] }
  | _ => none }
def aesBlocksRow : OpenClaim := { program := "ytjcdblnodbadcaa", sum := "2da039551f2c229d75c64f19dfde82914014acf9518eeea2d3b6c71341fc71d7", func := "locksmith/locksmithlaw8.AesBlocks", spec := "aesBlocks", unfollowed := true, recurses := true, apart := false }
def AesBlocksSaid : Prop := aesBlocksRow.holds Try.pinned (OpenSpec.ofChange aesBlocksSpec)

/-- ITS FALSE NEIGHBOUR: 'it returns false'. Refute it at one input. -/
def aesBlocksWrong : ChangeSpec := { name := "aesBlocks", fn := fun _ => fun
  | [d1, d2, d3, d4] => { results := [.lit (.bool false)], args := [d1, d2, d3, d4] }
  | _ => none }
def AesBlocksWrongFalsely : Prop := aesBlocksRow.holds Try.pinned (OpenSpec.ofChange aesBlocksWrong)

/-- 'locksmithlaw8.AesBack': WHATEVER THE INPUT: true; the input reads as it did. -/
def aesBackSpec : ChangeSpec := { name := "aesBack", fn := fun _ => fun
  | [d1, d2, d3, d4] => { results := [.lit (.bool true)], args := [d1, d2, d3, d4] }
  | _ => none }
def aesBackRow : OpenClaim := { program := "ytjcdblnodbadcaa", sum := "2da039551f2c229d75c64f19dfde82914014acf9518eeea2d3b6c71341fc71d7", func := "locksmith/locksmithlaw8.AesBack", spec := "aesBack", unfollowed := true, recurses := true, apart := false }
def AesBackSaid : Prop := aesBackRow.holds Try.pinned (OpenSpec.ofChange aesBackSpec)

/-- ITS FALSE NEIGHBOUR: 'it returns false'. Refute it at one input. -/
def aesBackWrong : ChangeSpec := { name := "aesBack", fn := fun _ => fun
  | [d1, d2, d3, d4] => { results := [.lit (.bool false)], args := [d1, d2, d3, d4] }
  | _ => none }
def AesBackWrongFalsely : Prop := aesBackRow.holds Try.pinned (OpenSpec.ofChange aesBackWrong)

/-- 'locksmithlaw9.ModesChains': WHATEVER THE INPUT: true; the input reads as it did. -/
def modesChainsSpec : ChangeSpec := { name := "modesChains", fn := fun _ => fun
  | [d1, d2, d3, d4, d5] => { results := [.lit (.bool true)], args := [d1, d2, d3, d4, d5] }
  | _ => none }
def modesChainsRow : OpenClaim := { program := "ytjcdblnodbadcaa", sum := "2da039551f2c229d75c64f19dfde82914014acf9518eeea2d3b6c71341fc71d7", func := "locksmith/locksmithlaw9.ModesChains", spec := "modesChains", unfollowed := true, recurses := true, apart := false }
def ModesChainsSaid : Prop := modesChainsRow.holds Try.pinned (OpenSpec.ofChange modesChainsSpec)

/-- ITS FALSE NEIGHBOUR: 'it returns false'. Refute it at one input. -/
def modesChainsWrong : ChangeSpec := { name := "modesChains", fn := fun _ => fun
  | [d1, d2, d3, d4, d5] => { results := [.lit (.bool false)], args := [d1, d2, d3, d4, d5] }
  | _ => none }
def ModesChainsWrongFalsely : Prop := modesChainsRow.holds Try.pinned (OpenSpec.ofChange modesChainsWrong)

/-- 'locksmithlaw9.ModesMacs': WHATEVER THE INPUT: true; the input reads as it did. -/
def modesMacsSpec : ChangeSpec := { name := "modesMacs", fn := fun _ => fun
  | [d1, d2, d3, d4, d5] => { results := [.lit (.bool true)], args := [d1, d2, d3, d4, d5] }
  | _ => none }
def modesMacsRow : OpenClaim := { program := "ytjcdblnodbadcaa", sum := "2da039551f2c229d75c64f19dfde82914014acf9518eeea2d3b6c71341fc71d7", func := "locksmith/locksmithlaw9.ModesMacs", spec := "modesMacs", unfollowed := true, recurses := true, apart := false }
def ModesMacsSaid : Prop := modesMacsRow.holds Try.pinned (OpenSpec.ofChange modesMacsSpec)

/-- ITS FALSE NEIGHBOUR: 'it returns false'. Refute it at one input. -/
def modesMacsWrong : ChangeSpec := { name := "modesMacs", fn := fun _ => fun
  | [d1, d2, d3, d4, d5] => { results := [.lit (.bool false)], args := [d1, d2, d3, d4, d5] }
  | _ => none }
def ModesMacsWrongFalsely : Prop := modesMacsRow.holds Try.pinned (OpenSpec.ofChange modesMacsWrong)

/-- 'locksmithlaw9.ModesSeals': WHATEVER THE INPUT: true; the input reads as it did. -/
def modesSealsSpec : ChangeSpec := { name := "modesSeals", fn := fun _ => fun
  | [d1, d2, d3, d4, d5, d6, d7] => { results := [.lit (.bool true)], args := [d1, d2, d3, d4, d5, d6, d7] }
  | _ => none }
def modesSealsRow : OpenClaim := { program := "ytjcdblnodbadcaa", sum := "2da039551f2c229d75c64f19dfde82914014acf9518eeea2d3b6c71341fc71d7", func := "locksmith/locksmithlaw9.ModesSeals", spec := "modesSeals", unfollowed := true, recurses := true, apart := false }
def ModesSealsSaid : Prop := modesSealsRow.holds Try.pinned (OpenSpec.ofChange modesSealsSpec)

/-- ITS FALSE NEIGHBOUR: 'it returns false'. Refute it at one input. -/
def modesSealsWrong : ChangeSpec := { name := "modesSeals", fn := fun _ => fun
  | [d1, d2, d3, d4, d5, d6, d7] => { results := [.lit (.bool false)], args := [d1, d2, d3, d4, d5, d6, d7] }
  | _ => none }
def ModesSealsWrongFalsely : Prop := modesSealsRow.holds Try.pinned (OpenSpec.ofChange modesSealsWrong)

/-- 'locksmithlaw9.ModesBack': WHATEVER THE INPUT: true; the input reads as it did. -/
def modesBackSpec : ChangeSpec := { name := "modesBack", fn := fun _ => fun
  | [d1, d2, d3, d4, d5] => { results := [.lit (.bool true)], args := [d1, d2, d3, d4, d5] }
  | _ => none }
def modesBackRow : OpenClaim := { program := "ytjcdblnodbadcaa", sum := "2da039551f2c229d75c64f19dfde82914014acf9518eeea2d3b6c71341fc71d7", func := "locksmith/locksmithlaw9.ModesBack", spec := "modesBack", unfollowed := true, recurses := true, apart := false }
def ModesBackSaid : Prop := modesBackRow.holds Try.pinned (OpenSpec.ofChange modesBackSpec)

/-- ITS FALSE NEIGHBOUR: 'it returns false'. Refute it at one input. -/
def modesBackWrong : ChangeSpec := { name := "modesBack", fn := fun _ => fun
  | [d1, d2, d3, d4, d5] => { results := [.lit (.bool false)], args := [d1, d2, d3, d4, d5] }
  | _ => none }
def ModesBackWrongFalsely : Prop := modesBackRow.holds Try.pinned (OpenSpec.ofChange modesBackWrong)

/-- 'locksmithlaw9.ModesKnown': WHATEVER THE INPUT: true; the input reads as it did. -/
def modesKnownSpec : ChangeSpec := { name := "modesKnown", fn := fun _ => fun
  | [] => { results := [.lit (.bool true)], args := [] }
  | _ => none }
def modesKnownRow : OpenClaim := { program := "ytjcdblnodbadcaa", sum := "2da039551f2c229d75c64f19dfde82914014acf9518eeea2d3b6c71341fc71d7", func := "locksmith/locksmithlaw9.ModesKnown", spec := "modesKnown", unfollowed := true, recurses := true, apart := false }
def ModesKnownSaid : Prop := modesKnownRow.holds Try.pinned (OpenSpec.ofChange modesKnownSpec)

/-- ITS FALSE NEIGHBOUR: 'it returns false'. Refute it at one input. -/
def modesKnownWrong : ChangeSpec := { name := "modesKnown", fn := fun _ => fun
  | [] => { results := [.lit (.bool false)], args := [] }
  | _ => none }
def ModesKnownWrongFalsely : Prop := modesKnownRow.holds Try.pinned (OpenSpec.ofChange modesKnownWrong)

/- THE SECOND FORM. 'bulk': how many values and letters a reading holds, each counted each time it is reached (what is shared counts as often as it is met; a slice's spare places count too). A statement '..UptoSaid' is the law's where the arguments, and the package variables that the reading takes, are together of bulk at most 1048576: NARROWER than '..Said'. Prove '..Said' where nothing that the law and all that it calls make is longer than what came in: it says more and counts as full. Else prove '..UptoSaid'. A law counts once. -/
mutual
def uptoBulk {H : Type} : DataW H → Nat
  | .lit (.string bytes) => bytes.length + 1
  | .lit _ => 1
  | .nil => 1
  | .ptr d => uptoBulk d + 1
  | .slice elems spare => uptoBulkAll elems + uptoBulkAll spare + 1
  | .agg parts => uptoBulkAll parts + 1
  | .iface _ d => uptoBulk d + 1
  | .map entries => uptoBulkEntries entries + 1
  | .held _ => 1
def uptoBulkAll {H : Type} : List (DataW H) → Nat
  | [] => 0
  | d :: r => uptoBulk d + uptoBulkAll r
def uptoBulkEntries {H : Type} : List (Lit × DataW H) → Nat
  | [] => 0
  | x :: r => uptoBulkEntry x + uptoBulkEntries r
def uptoBulkEntry {H : Type} : Lit × DataW H → Nat
  | (.string bytes, d) => bytes.length + uptoBulk d + 1
  | (_, d) => uptoBulk d + 1
 end
def uptoSmall : (H : Type) → List (DataW H) → Bool := fun _ ds => decide (uptoBulkAll ds ≤ 1048576)
def OpenSpec.upto (s : _root_.Go.ChangeSpec) : _root_.Go.OpenSpec := { _root_.Go.OpenSpec.ofChange s with cond := some uptoSmall }

/-- 'locksmithlaw8.AesField', WHERE WHAT IT READS IS OF BULK AT MOST 1048576: true; the input reads as it did. -/
def aesFieldUptoRow : OpenClaim := { program := "ytjcdblnodbadcaa", sum := "2da039551f2c229d75c64f19dfde82914014acf9518eeea2d3b6c71341fc71d7", func := "locksmith/locksmithlaw8.AesField", spec := "aesField", apart := false, narrowed := true }
def AesFieldUptoSaid : Prop := aesFieldUptoRow.holds Try.pinned (OpenSpec.upto aesFieldSpec)

/-- 'locksmithlaw9.ModesPads', WHERE WHAT IT READS IS OF BULK AT MOST 1048576: true; the input reads as it did. -/
def modesPadsUptoRow : OpenClaim := { program := "ytjcdblnodbadcaa", sum := "2da039551f2c229d75c64f19dfde82914014acf9518eeea2d3b6c71341fc71d7", func := "locksmith/locksmithlaw9.ModesPads", spec := "modesPads", apart := false, narrowed := true }
def ModesPadsUptoSaid : Prop := modesPadsUptoRow.holds Try.pinned (OpenSpec.upto modesPadsSpec)

/-- 'locksmithlaw8.AesKnown', WHERE WHAT IT READS IS OF BULK AT MOST 1048576: true; the input reads as it did. -/
def aesKnownUptoRow : OpenClaim := { program := "ytjcdblnodbadcaa", sum := "2da039551f2c229d75c64f19dfde82914014acf9518eeea2d3b6c71341fc71d7", func := "locksmith/locksmithlaw8.AesKnown", spec := "aesKnown", unfollowed := true, recurses := true, apart := false, narrowed := true }
def AesKnownUptoSaid : Prop := aesKnownUptoRow.holds Try.pinned (OpenSpec.upto aesKnownSpec)

/-- 'locksmithlaw8.AesBlocks', WHERE WHAT IT READS IS OF BULK AT MOST 1048576: true; the input reads as it did. -/
def aesBlocksUptoRow : OpenClaim := { program := "ytjcdblnodbadcaa", sum := "2da039551f2c229d75c64f19dfde82914014acf9518eeea2d3b6c71341fc71d7", func := "locksmith/locksmithlaw8.AesBlocks", spec := "aesBlocks", unfollowed := true, recurses := true, apart := false, narrowed := true }
def AesBlocksUptoSaid : Prop := aesBlocksUptoRow.holds Try.pinned (OpenSpec.upto aesBlocksSpec)

/-- 'locksmithlaw8.AesBack', WHERE WHAT IT READS IS OF BULK AT MOST 1048576: true; the input reads as it did. -/
def aesBackUptoRow : OpenClaim := { program := "ytjcdblnodbadcaa", sum := "2da039551f2c229d75c64f19dfde82914014acf9518eeea2d3b6c71341fc71d7", func := "locksmith/locksmithlaw8.AesBack", spec := "aesBack", unfollowed := true, recurses := true, apart := false, narrowed := true }
def AesBackUptoSaid : Prop := aesBackUptoRow.holds Try.pinned (OpenSpec.upto aesBackSpec)

/-- 'locksmithlaw9.ModesChains', WHERE WHAT IT READS IS OF BULK AT MOST 1048576: true; the input reads as it did. -/
def modesChainsUptoRow : OpenClaim := { program := "ytjcdblnodbadcaa", sum := "2da039551f2c229d75c64f19dfde82914014acf9518eeea2d3b6c71341fc71d7", func := "locksmith/locksmithlaw9.ModesChains", spec := "modesChains", unfollowed := true, recurses := true, apart := false, narrowed := true }
def ModesChainsUptoSaid : Prop := modesChainsUptoRow.holds Try.pinned (OpenSpec.upto modesChainsSpec)

/-- 'locksmithlaw9.ModesMacs', WHERE WHAT IT READS IS OF BULK AT MOST 1048576: true; the input reads as it did. -/
def modesMacsUptoRow : OpenClaim := { program := "ytjcdblnodbadcaa", sum := "2da039551f2c229d75c64f19dfde82914014acf9518eeea2d3b6c71341fc71d7", func := "locksmith/locksmithlaw9.ModesMacs", spec := "modesMacs", unfollowed := true, recurses := true, apart := false, narrowed := true }
def ModesMacsUptoSaid : Prop := modesMacsUptoRow.holds Try.pinned (OpenSpec.upto modesMacsSpec)

/-- 'locksmithlaw9.ModesSeals', WHERE WHAT IT READS IS OF BULK AT MOST 1048576: true; the input reads as it did. -/
def modesSealsUptoRow : OpenClaim := { program := "ytjcdblnodbadcaa", sum := "2da039551f2c229d75c64f19dfde82914014acf9518eeea2d3b6c71341fc71d7", func := "locksmith/locksmithlaw9.ModesSeals", spec := "modesSeals", unfollowed := true, recurses := true, apart := false, narrowed := true }
def ModesSealsUptoSaid : Prop := modesSealsUptoRow.holds Try.pinned (OpenSpec.upto modesSealsSpec)

/-- 'locksmithlaw9.ModesBack', WHERE WHAT IT READS IS OF BULK AT MOST 1048576: true; the input reads as it did. -/
def modesBackUptoRow : OpenClaim := { program := "ytjcdblnodbadcaa", sum := "2da039551f2c229d75c64f19dfde82914014acf9518eeea2d3b6c71341fc71d7", func := "locksmith/locksmithlaw9.ModesBack", spec := "modesBack", unfollowed := true, recurses := true, apart := false, narrowed := true }
def ModesBackUptoSaid : Prop := modesBackUptoRow.holds Try.pinned (OpenSpec.upto modesBackSpec)

/-- 'locksmithlaw9.ModesKnown', WHERE WHAT IT READS IS OF BULK AT MOST 1048576: true; the input reads as it did. -/
def modesKnownUptoRow : OpenClaim := { program := "ytjcdblnodbadcaa", sum := "2da039551f2c229d75c64f19dfde82914014acf9518eeea2d3b6c71341fc71d7", func := "locksmith/locksmithlaw9.ModesKnown", spec := "modesKnown", unfollowed := true, recurses := true, apart := false, narrowed := true }
def ModesKnownUptoSaid : Prop := modesKnownUptoRow.holds Try.pinned (OpenSpec.upto modesKnownSpec)

end Rows
end Go.Proofs.Ytjcdblnodbadcaa
