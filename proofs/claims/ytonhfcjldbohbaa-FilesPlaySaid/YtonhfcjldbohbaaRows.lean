/-
  No cell of these rows narrows 'for every input' (looked for: loops, veiled, ifaces, maps, wideKeys, modest, calm, conditions, laid).
  DERIVED. THE GIVEN ROWS OF THIS SEAT. 5 by the template 'for every input the law returns true; each argument reads behind the call as it read before'; 0 by the template 'total and deterministic' (their statements: YtonhfcjldbohbaaTotals.lean).
  GIVEN WITH THE SEED: the statements are not yours to turn. If you find one false, say at which input.
  Laid BY PROGRAM, IN A SANDBOX (cutbox-rows.mjs): the forced cells as the released guide's own fill.sh prints them over the translation 1b062f348b57c800… (all of the seat's roots in one cut). By AI agents, Wed Nov 11 2026. No macro, syntax, notation, axiom, sorry.
-/
import Derived.Test.YtonhfcjldbohbaaChecked
import GoSem.Claim
import GoSem.ClaimJoined
import GoSem.ClaimMapViews
import Derived.JoinedTies
import Derived.KernelRfl
namespace Go.Proofs.Ytonhfcjldbohbaa
/- THE CELL 'sum', in the pinned program and in every row, IS THE sha256 OF THE DUMP (.gsa) THAT YtonhfcjldbohbaaProg.lean LOADS. Nothing in Lean hashes anything: it is a label: what it is worth is what the hold of that sum in a sandbox is worth. -/
noncomputable def Try.pinned : Pinned := { name := "ytonhfcjldbohbaa", sum := "1b062f348b57c8005233391cad7380c4546c1d3c3f2e6c390b3a0c91c10a012d", checked := Try.checked }
namespace Rows
def none {H : Type} : Left H := { results := [], args := [] }

/-- 'cupellaw13.FilesNames': WHATEVER THE INPUT: true; the input reads as it did. -/
def filesNamesSpec : ChangeSpec := { name := "filesNames", fn := fun _ => fun
  | [d1, d2] => { results := [.lit (.bool true)], args := [d1, d2] }
  | _ => none }
def filesNamesRow : OpenClaim := { program := "ytonhfcjldbohbaa", sum := "1b062f348b57c8005233391cad7380c4546c1d3c3f2e6c390b3a0c91c10a012d", func := "cupel/cupellaw13.FilesNames", spec := "filesNames", inPlace := ["internal/bytealg.IndexByteString", "internal/bytealg.IndexString"], unfollowed := true, recurses := true, named := ["internal/bytealg.MaxLen"], apart := false }
def FilesNamesSaid : Prop := filesNamesRow.holds Try.pinned (OpenSpec.ofChange filesNamesSpec)

/-- ITS FALSE NEIGHBOUR: 'it returns false'. Refute it at one input. -/
def filesNamesWrong : ChangeSpec := { name := "filesNames", fn := fun _ => fun
  | [d1, d2] => { results := [.lit (.bool false)], args := [d1, d2] }
  | _ => none }
def FilesNamesWrongFalsely : Prop := filesNamesRow.holds Try.pinned (OpenSpec.ofChange filesNamesWrong)

/-- 'cupellaw13.FilesFull': WHATEVER THE INPUT: true; the input reads as it did. -/
def filesFullSpec : ChangeSpec := { name := "filesFull", fn := fun _ => fun
  | [d1, d2] => { results := [.lit (.bool true)], args := [d1, d2] }
  | _ => none }
def filesFullRow : OpenClaim := { program := "ytonhfcjldbohbaa", sum := "1b062f348b57c8005233391cad7380c4546c1d3c3f2e6c390b3a0c91c10a012d", func := "cupel/cupellaw13.FilesFull", spec := "filesFull", inPlace := ["internal/bytealg.IndexByteString", "internal/bytealg.IndexString"], unfollowed := true, recurses := true, named := ["internal/bytealg.MaxLen"], apart := false }
def FilesFullSaid : Prop := filesFullRow.holds Try.pinned (OpenSpec.ofChange filesFullSpec)

/-- ITS FALSE NEIGHBOUR: 'it returns false'. Refute it at one input. -/
def filesFullWrong : ChangeSpec := { name := "filesFull", fn := fun _ => fun
  | [d1, d2] => { results := [.lit (.bool false)], args := [d1, d2] }
  | _ => none }
def FilesFullWrongFalsely : Prop := filesFullRow.holds Try.pinned (OpenSpec.ofChange filesFullWrong)

/-- 'cupellaw13.FilesSince': WHATEVER THE INPUT: true; the input reads as it did. -/
def filesSinceSpec : ChangeSpec := { name := "filesSince", fn := fun _ => fun
  | [d1, d2, d3] => { results := [.lit (.bool true)], args := [d1, d2, d3] }
  | _ => none }
def filesSinceRow : OpenClaim := { program := "ytonhfcjldbohbaa", sum := "1b062f348b57c8005233391cad7380c4546c1d3c3f2e6c390b3a0c91c10a012d", func := "cupel/cupellaw13.FilesSince", spec := "filesSince", inPlace := ["internal/bytealg.IndexByteString", "internal/bytealg.IndexString"], unfollowed := true, recurses := true, named := ["internal/bytealg.MaxLen"], apart := false }
def FilesSinceSaid : Prop := filesSinceRow.holds Try.pinned (OpenSpec.ofChange filesSinceSpec)

/-- ITS FALSE NEIGHBOUR: 'it returns false'. Refute it at one input. -/
def filesSinceWrong : ChangeSpec := { name := "filesSince", fn := fun _ => fun
  | [d1, d2, d3] => { results := [.lit (.bool false)], args := [d1, d2, d3] }
  | _ => none }
def FilesSinceWrongFalsely : Prop := filesSinceRow.holds Try.pinned (OpenSpec.ofChange filesSinceWrong)

/-- 'cupellaw13.FilesPlay': WHATEVER THE INPUT: true; the input reads as it did. -/
def filesPlaySpec : ChangeSpec := { name := "filesPlay", fn := fun _ => fun
  | [d1, d2, d3] => { results := [.lit (.bool true)], args := [d1, d2, d3] }
  | _ => none }
def filesPlayRow : OpenClaim := { program := "ytonhfcjldbohbaa", sum := "1b062f348b57c8005233391cad7380c4546c1d3c3f2e6c390b3a0c91c10a012d", func := "cupel/cupellaw13.FilesPlay", spec := "filesPlay", inPlace := ["internal/bytealg.IndexByteString", "internal/bytealg.IndexString"], unfollowed := true, recurses := true, named := ["internal/bytealg.MaxLen"], apart := false }
def FilesPlaySaid : Prop := filesPlayRow.holds Try.pinned (OpenSpec.ofChange filesPlaySpec)

/-- ITS FALSE NEIGHBOUR: 'it returns false'. Refute it at one input. -/
def filesPlayWrong : ChangeSpec := { name := "filesPlay", fn := fun _ => fun
  | [d1, d2, d3] => { results := [.lit (.bool false)], args := [d1, d2, d3] }
  | _ => none }
def FilesPlayWrongFalsely : Prop := filesPlayRow.holds Try.pinned (OpenSpec.ofChange filesPlayWrong)

/-- 'cupellaw13.FilesKeep': WHATEVER THE INPUT: true; the input reads as it did. -/
def filesKeepSpec : ChangeSpec := { name := "filesKeep", fn := fun _ => fun
  | [d1, d2] => { results := [.lit (.bool true)], args := [d1, d2] }
  | _ => none }
def filesKeepRow : OpenClaim := { program := "ytonhfcjldbohbaa", sum := "1b062f348b57c8005233391cad7380c4546c1d3c3f2e6c390b3a0c91c10a012d", func := "cupel/cupellaw13.FilesKeep", spec := "filesKeep", inPlace := ["internal/bytealg.IndexByteString", "internal/bytealg.IndexString", "maps.clone"], unfollowed := true, recurses := true, named := ["internal/bytealg.MaxLen"], apart := false }
def FilesKeepSaid : Prop := filesKeepRow.holds Try.pinned (OpenSpec.ofChange filesKeepSpec)

/-- ITS FALSE NEIGHBOUR: 'it returns false'. Refute it at one input. -/
def filesKeepWrong : ChangeSpec := { name := "filesKeep", fn := fun _ => fun
  | [d1, d2] => { results := [.lit (.bool false)], args := [d1, d2] }
  | _ => none }
def FilesKeepWrongFalsely : Prop := filesKeepRow.holds Try.pinned (OpenSpec.ofChange filesKeepWrong)

/- THE SECOND FORM. 'bulk': how many values and letters a reading holds, each counted each time it is reached (what is shared counts as often as it is met; a slice's spare places count too). A statement '..UptoSaid' is the law's where the arguments, and the package variables that the reading takes, are together of bulk at most 1048576: NARROWER than '..Said'. Prove '..Said' where nothing that the law and all that it calls make is longer than what came in: it says more and counts as full. Else prove '..UptoSaid'. A law counts once. -/
mutual
def uptoBulk {H : Type} : DataW H → Nat
  | .lit (.string bytes) => bytes.length + 1
  | .lit _ => 1
  | .nil => 1
  | .ptr d => uptoBulk d + 1
  | .slice elems spare => uptoBulkAll elems + uptoBulkAll spare + 1
  | .agg parts => uptoBulkAll parts + 1
  | .iface _ d => uptoBulk d + 1
  | .map entries => uptoBulkEntries entries + 1
  | .held _ => 1
def uptoBulkAll {H : Type} : List (DataW H) → Nat
  | [] => 0
  | d :: r => uptoBulk d + uptoBulkAll r
def uptoBulkEntries {H : Type} : List (Lit × DataW H) → Nat
  | [] => 0
  | x :: r => uptoBulkEntry x + uptoBulkEntries r
def uptoBulkEntry {H : Type} : Lit × DataW H → Nat
  | (.string bytes, d) => bytes.length + uptoBulk d + 1
  | (_, d) => uptoBulk d + 1
 end
def uptoSmall : (H : Type) → List (DataW H) → Bool := fun _ ds => decide (uptoBulkAll ds ≤ 1048576)
def OpenSpec.upto (s : _root_.Go.ChangeSpec) : _root_.Go.OpenSpec := { _root_.Go.OpenSpec.ofChange s with cond := some uptoSmall }

/-- 'cupellaw13.FilesNames', WHERE WHAT IT READS IS OF BULK AT MOST 1048576: true; the input reads as it did. -/
def filesNamesUptoRow : OpenClaim := { program := "ytonhfcjldbohbaa", sum := "1b062f348b57c8005233391cad7380c4546c1d3c3f2e6c390b3a0c91c10a012d", func := "cupel/cupellaw13.FilesNames", spec := "filesNames", inPlace := ["internal/bytealg.IndexByteString", "internal/bytealg.IndexString"], unfollowed := true, recurses := true, named := ["internal/bytealg.MaxLen"], apart := false, narrowed := true }
def FilesNamesUptoSaid : Prop := filesNamesUptoRow.holds Try.pinned (OpenSpec.upto filesNamesSpec)

/-- 'cupellaw13.FilesFull', WHERE WHAT IT READS IS OF BULK AT MOST 1048576: true; the input reads as it did. -/
def filesFullUptoRow : OpenClaim := { program := "ytonhfcjldbohbaa", sum := "1b062f348b57c8005233391cad7380c4546c1d3c3f2e6c390b3a0c91c10a012d", func := "cupel/cupellaw13.FilesFull", spec := "filesFull", inPlace := ["internal/bytealg.IndexByteString", "internal/bytealg.IndexString"], unfollowed := true, recurses := true, named := ["internal/bytealg.MaxLen"], apart := false, narrowed := true }
def FilesFullUptoSaid : Prop := filesFullUptoRow.holds Try.pinned (OpenSpec.upto filesFullSpec)

/-- 'cupellaw13.FilesSince', WHERE WHAT IT READS IS OF BULK AT MOST 1048576: true; the input reads as it did. -/
def filesSinceUptoRow : OpenClaim := { program := "ytonhfcjldbohbaa", sum := "1b062f348b57c8005233391cad7380c4546c1d3c3f2e6c390b3a0c91c10a012d", func := "cupel/cupellaw13.FilesSince", spec := "filesSince", inPlace := ["internal/bytealg.IndexByteString", "internal/bytealg.IndexString"], unfollowed := true, recurses := true, named := ["internal/bytealg.MaxLen"], apart := false, narrowed := true }
def FilesSinceUptoSaid : Prop := filesSinceUptoRow.holds Try.pinned (OpenSpec.upto filesSinceSpec)

/-- 'cupellaw13.FilesPlay', WHERE WHAT IT READS IS OF BULK AT MOST 1048576: true; the input reads as it did. -/
def filesPlayUptoRow : OpenClaim := { program := "ytonhfcjldbohbaa", sum := "1b062f348b57c8005233391cad7380c4546c1d3c3f2e6c390b3a0c91c10a012d", func := "cupel/cupellaw13.FilesPlay", spec := "filesPlay", inPlace := ["internal/bytealg.IndexByteString", "internal/bytealg.IndexString"], unfollowed := true, recurses := true, named := ["internal/bytealg.MaxLen"], apart := false, narrowed := true }
def FilesPlayUptoSaid : Prop := filesPlayUptoRow.holds Try.pinned (OpenSpec.upto filesPlaySpec)

/-- 'cupellaw13.FilesKeep', WHERE WHAT IT READS IS OF BULK AT MOST 1048576: true; the input reads as it did. -/
def filesKeepUptoRow : OpenClaim := { program := "ytonhfcjldbohbaa", sum := "1b062f348b57c8005233391cad7380c4546c1d3c3f2e6c390b3a0c91c10a012d", func := "cupel/cupellaw13.FilesKeep", spec := "filesKeep", inPlace := ["internal/bytealg.IndexByteString", "internal/bytealg.IndexString", "maps.clone"], unfollowed := true, recurses := true, named := ["internal/bytealg.MaxLen"], apart := false, narrowed := true }
def FilesKeepUptoSaid : Prop := filesKeepUptoRow.holds Try.pinned (OpenSpec.upto filesKeepSpec)

end Rows
end Go.Proofs.Ytonhfcjldbohbaa
