/-
  No cell of these rows narrows 'for every input' (looked for: loops, veiled, ifaces, maps, wideKeys, modest, calm, conditions, laid).
  DERIVED. THE GIVEN ROWS OF THIS SEAT. 4 by the template 'for every input the law returns true; each argument reads behind the call as it read before'; 0 by the template 'total and deterministic' (their statements: YtafhodampbfbkaaTotals.lean).
  GIVEN WITH THE SEED: the statements are not yours to turn. If you find one false, say at which input.
  Laid BY PROGRAM, IN A SANDBOX (cutbox-rows.mjs): the forced cells as the released guide's own fill.sh prints them over the translation dd3590928a00d1b5… (all of the seat's roots in one cut). By AI agents, Wed Nov 11 2026. No macro, syntax, notation, axiom, sorry.
-/
import Derived.Test.YtafhodampbfbkaaChecked
import GoSem.Claim
import GoSem.ClaimJoined
import GoSem.ClaimMapViews
import Derived.JoinedTies
import Derived.KernelRfl
namespace Go.Proofs.Ytafhodampbfbkaa
/- THE CELL 'sum', in the pinned program and in every row, IS THE sha256 OF THE DUMP (.gsa) THAT YtafhodampbfbkaaProg.lean LOADS. Nothing in Lean hashes anything: it is a label: what it is worth is what the hold of that sum in a sandbox is worth. -/
noncomputable def Try.pinned : Pinned := { name := "ytafhodampbfbkaa", sum := "dd3590928a00d1b5f8672c87897eb5614f3916ffc604660a1f193d9b8309cd1d", checked := Try.checked }
namespace Rows
def none {H : Type} : Left H := { results := [], args := [] }

/-- 'cupellaw25.EditJoins': WHATEVER THE INPUT: true; the input reads as it did. -/
def editJoinsSpec : ChangeSpec := { name := "editJoins", fn := fun _ => fun
  | [d1, d2] => { results := [.lit (.bool true)], args := [d1, d2] }
  | _ => none }
def editJoinsRow : OpenClaim := { program := "ytafhodampbfbkaa", sum := "dd3590928a00d1b5f8672c87897eb5614f3916ffc604660a1f193d9b8309cd1d", func := "cupel/cupellaw25.EditJoins", spec := "editJoins", inPlace := ["internal/abi.NoEscape"], apart := false }
def EditJoinsSaid : Prop := editJoinsRow.holds Try.pinned (OpenSpec.ofChange editJoinsSpec)

/-- ITS FALSE NEIGHBOUR: 'it returns false'. Refute it at one input. -/
def editJoinsWrong : ChangeSpec := { name := "editJoins", fn := fun _ => fun
  | [d1, d2] => { results := [.lit (.bool false)], args := [d1, d2] }
  | _ => none }
def EditJoinsWrongFalsely : Prop := editJoinsRow.holds Try.pinned (OpenSpec.ofChange editJoinsWrong)

/-- 'cupellaw25.EditDoes': WHATEVER THE INPUT: true; the input reads as it did. -/
def editDoesSpec : ChangeSpec := { name := "editDoes", fn := fun _ => fun
  | [d1, d2] => { results := [.lit (.bool true)], args := [d1, d2] }
  | _ => none }
def editDoesRow : OpenClaim := { program := "ytafhodampbfbkaa", sum := "dd3590928a00d1b5f8672c87897eb5614f3916ffc604660a1f193d9b8309cd1d", func := "cupel/cupellaw25.EditDoes", spec := "editDoes", inPlace := ["internal/abi.NoEscape"], apart := false }
def EditDoesSaid : Prop := editDoesRow.holds Try.pinned (OpenSpec.ofChange editDoesSpec)

/-- ITS FALSE NEIGHBOUR: 'it returns false'. Refute it at one input. -/
def editDoesWrong : ChangeSpec := { name := "editDoes", fn := fun _ => fun
  | [d1, d2] => { results := [.lit (.bool false)], args := [d1, d2] }
  | _ => none }
def EditDoesWrongFalsely : Prop := editDoesRow.holds Try.pinned (OpenSpec.ofChange editDoesWrong)

/-- 'cupellaw25.EditBack': WHATEVER THE INPUT: true; the input reads as it did. -/
def editBackSpec : ChangeSpec := { name := "editBack", fn := fun _ => fun
  | [d1, d2, d3] => { results := [.lit (.bool true)], args := [d1, d2, d3] }
  | _ => none }
def editBackRow : OpenClaim := { program := "ytafhodampbfbkaa", sum := "dd3590928a00d1b5f8672c87897eb5614f3916ffc604660a1f193d9b8309cd1d", func := "cupel/cupellaw25.EditBack", spec := "editBack", inPlace := ["internal/abi.NoEscape"], apart := false }
def EditBackSaid : Prop := editBackRow.holds Try.pinned (OpenSpec.ofChange editBackSpec)

/-- ITS FALSE NEIGHBOUR: 'it returns false'. Refute it at one input. -/
def editBackWrong : ChangeSpec := { name := "editBack", fn := fun _ => fun
  | [d1, d2, d3] => { results := [.lit (.bool false)], args := [d1, d2, d3] }
  | _ => none }
def EditBackWrongFalsely : Prop := editBackRow.holds Try.pinned (OpenSpec.ofChange editBackWrong)

/-- 'cupellaw25.EditPlaces': WHATEVER THE INPUT: true; the input reads as it did. -/
def editPlacesSpec : ChangeSpec := { name := "editPlaces", fn := fun _ => fun
  | [d1, d2] => { results := [.lit (.bool true)], args := [d1, d2] }
  | _ => none }
def editPlacesRow : OpenClaim := { program := "ytafhodampbfbkaa", sum := "dd3590928a00d1b5f8672c87897eb5614f3916ffc604660a1f193d9b8309cd1d", func := "cupel/cupellaw25.EditPlaces", spec := "editPlaces", inPlace := ["internal/abi.NoEscape"], apart := false }
def EditPlacesSaid : Prop := editPlacesRow.holds Try.pinned (OpenSpec.ofChange editPlacesSpec)

/-- ITS FALSE NEIGHBOUR: 'it returns false'. Refute it at one input. -/
def editPlacesWrong : ChangeSpec := { name := "editPlaces", fn := fun _ => fun
  | [d1, d2] => { results := [.lit (.bool false)], args := [d1, d2] }
  | _ => none }
def EditPlacesWrongFalsely : Prop := editPlacesRow.holds Try.pinned (OpenSpec.ofChange editPlacesWrong)

/- THE SECOND FORM. 'bulk': how many values and letters a reading holds, each counted each time it is reached (what is shared counts as often as it is met; a slice's spare places count too). A statement '..UptoSaid' is the law's where the arguments, and the package variables that the reading takes, are together of bulk at most 1048576: NARROWER than '..Said'. Prove '..Said' where nothing that the law and all that it calls make is longer than what came in: it says more and counts as full. Else prove '..UptoSaid'. A law counts once. -/
mutual
def uptoBulk {H : Type} : DataW H → Nat
  | .lit (.string bytes) => bytes.length + 1
  | .lit _ => 1
  | .nil => 1
  | .ptr d => uptoBulk d + 1
  | .slice elems spare => uptoBulkAll elems + uptoBulkAll spare + 1
  | .agg parts => uptoBulkAll parts + 1
  | .iface _ d => uptoBulk d + 1
  | .map entries => uptoBulkEntries entries + 1
  | .held _ => 1
def uptoBulkAll {H : Type} : List (DataW H) → Nat
  | [] => 0
  | d :: r => uptoBulk d + uptoBulkAll r
def uptoBulkEntries {H : Type} : List (Lit × DataW H) → Nat
  | [] => 0
  | x :: r => uptoBulkEntry x + uptoBulkEntries r
def uptoBulkEntry {H : Type} : Lit × DataW H → Nat
  | (.string bytes, d) => bytes.length + uptoBulk d + 1
  | (_, d) => uptoBulk d + 1
 end
def uptoSmall : (H : Type) → List (DataW H) → Bool := fun _ ds => decide (uptoBulkAll ds ≤ 1048576)
def OpenSpec.upto (s : _root_.Go.ChangeSpec) : _root_.Go.OpenSpec := { _root_.Go.OpenSpec.ofChange s with cond := some uptoSmall }

/-- 'cupellaw25.EditJoins', WHERE WHAT IT READS IS OF BULK AT MOST 1048576: true; the input reads as it did. -/
def editJoinsUptoRow : OpenClaim := { program := "ytafhodampbfbkaa", sum := "dd3590928a00d1b5f8672c87897eb5614f3916ffc604660a1f193d9b8309cd1d", func := "cupel/cupellaw25.EditJoins", spec := "editJoins", inPlace := ["internal/abi.NoEscape"], apart := false, narrowed := true }
def EditJoinsUptoSaid : Prop := editJoinsUptoRow.holds Try.pinned (OpenSpec.upto editJoinsSpec)

/-- 'cupellaw25.EditDoes', WHERE WHAT IT READS IS OF BULK AT MOST 1048576: true; the input reads as it did. -/
def editDoesUptoRow : OpenClaim := { program := "ytafhodampbfbkaa", sum := "dd3590928a00d1b5f8672c87897eb5614f3916ffc604660a1f193d9b8309cd1d", func := "cupel/cupellaw25.EditDoes", spec := "editDoes", inPlace := ["internal/abi.NoEscape"], apart := false, narrowed := true }
def EditDoesUptoSaid : Prop := editDoesUptoRow.holds Try.pinned (OpenSpec.upto editDoesSpec)

/-- 'cupellaw25.EditBack', WHERE WHAT IT READS IS OF BULK AT MOST 1048576: true; the input reads as it did. -/
def editBackUptoRow : OpenClaim := { program := "ytafhodampbfbkaa", sum := "dd3590928a00d1b5f8672c87897eb5614f3916ffc604660a1f193d9b8309cd1d", func := "cupel/cupellaw25.EditBack", spec := "editBack", inPlace := ["internal/abi.NoEscape"], apart := false, narrowed := true }
def EditBackUptoSaid : Prop := editBackUptoRow.holds Try.pinned (OpenSpec.upto editBackSpec)

/-- 'cupellaw25.EditPlaces', WHERE WHAT IT READS IS OF BULK AT MOST 1048576: true; the input reads as it did. -/
def editPlacesUptoRow : OpenClaim := { program := "ytafhodampbfbkaa", sum := "dd3590928a00d1b5f8672c87897eb5614f3916ffc604660a1f193d9b8309cd1d", func := "cupel/cupellaw25.EditPlaces", spec := "editPlaces", inPlace := ["internal/abi.NoEscape"], apart := false, narrowed := true }
def EditPlacesUptoSaid : Prop := editPlacesUptoRow.holds Try.pinned (OpenSpec.upto editPlacesSpec)

end Rows
end Go.Proofs.Ytafhodampbfbkaa
