/-
  No cell of these rows narrows 'for every input' (looked for: loops, veiled, ifaces, maps, wideKeys, modest, calm, conditions, laid).
  DERIVED. THE GIVEN ROWS OF THIS SEAT. 5 by the template 'for every input the law returns true; each argument reads behind the call as it read before'; 0 by the template 'total and deterministic' (their statements: YtiljegeodokfmaaTotals.lean).
  GIVEN WITH THE SEED: the statements are not yours to turn. If you find one false, say at which input.
  Laid BY PROGRAM, IN A SANDBOX (cutbox-rows.mjs): the forced cells as the released guide's own fill.sh prints them over the translation 0ffa76168fa6156f… (all of the seat's roots in one cut). By AI agents, Wed Nov 11 2026. No macro, syntax, notation, axiom, sorry.
-/
import Derived.Test.YtiljegeodokfmaaChecked
import GoSem.Claim
import GoSem.ClaimJoined
import GoSem.ClaimMapViews
import Derived.JoinedTies
import Derived.KernelRfl
namespace Go.Proofs.Ytiljegeodokfmaa
/- THE CELL 'sum', in the pinned program and in every row, IS THE sha256 OF THE DUMP (.gsa) THAT YtiljegeodokfmaaProg.lean LOADS. Nothing in Lean hashes anything: it is a label: what it is worth is what the hold of that sum in a sandbox is worth. -/
noncomputable def Try.pinned : Pinned := { name := "ytiljegeodokfmaa", sum := "0ffa76168fa6156f92307a1d33574ef3973e0f0cf364096e77b323783a214ccb", checked := Try.checked }
namespace Rows
def none {H : Type} : Left H := { results := [], args := [] }

/-- 'cupellaw12.FixOrder': WHATEVER THE INPUT: true; the input reads as it did. -/
def fixOrderSpec : ChangeSpec := { name := "fixOrder", fn := fun _ => fun
  | [d1, d2] => { results := [.lit (.bool true)], args := [d1, d2] }
  | _ => none }
def fixOrderRow : OpenClaim := { program := "ytiljegeodokfmaa", sum := "0ffa76168fa6156f92307a1d33574ef3973e0f0cf364096e77b323783a214ccb", func := "cupel/cupellaw12.FixOrder", spec := "fixOrder", unfollowed := true, recurses := true, apart := false }
def FixOrderSaid : Prop := fixOrderRow.holds Try.pinned (OpenSpec.ofChange fixOrderSpec)

/-- ITS FALSE NEIGHBOUR: 'it returns false'. Refute it at one input. -/
def fixOrderWrong : ChangeSpec := { name := "fixOrder", fn := fun _ => fun
  | [d1, d2] => { results := [.lit (.bool false)], args := [d1, d2] }
  | _ => none }
def FixOrderWrongFalsely : Prop := fixOrderRow.holds Try.pinned (OpenSpec.ofChange fixOrderWrong)

/-- 'cupellaw12.FixSets': WHATEVER THE INPUT: true; the input reads as it did. -/
def fixSetsSpec : ChangeSpec := { name := "fixSets", fn := fun _ => fun
  | [d1, d2, d3] => { results := [.lit (.bool true)], args := [d1, d2, d3] }
  | _ => none }
def fixSetsRow : OpenClaim := { program := "ytiljegeodokfmaa", sum := "0ffa76168fa6156f92307a1d33574ef3973e0f0cf364096e77b323783a214ccb", func := "cupel/cupellaw12.FixSets", spec := "fixSets", unfollowed := true, recurses := true, apart := false }
def FixSetsSaid : Prop := fixSetsRow.holds Try.pinned (OpenSpec.ofChange fixSetsSpec)

/-- ITS FALSE NEIGHBOUR: 'it returns false'. Refute it at one input. -/
def fixSetsWrong : ChangeSpec := { name := "fixSets", fn := fun _ => fun
  | [d1, d2, d3] => { results := [.lit (.bool false)], args := [d1, d2, d3] }
  | _ => none }
def FixSetsWrongFalsely : Prop := fixSetsRow.holds Try.pinned (OpenSpec.ofChange fixSetsWrong)

/-- 'cupellaw12.FixGrows': WHATEVER THE INPUT: true; the input reads as it did. -/
def fixGrowsSpec : ChangeSpec := { name := "fixGrows", fn := fun _ => fun
  | [d1, d2, d3] => { results := [.lit (.bool true)], args := [d1, d2, d3] }
  | _ => none }
def fixGrowsRow : OpenClaim := { program := "ytiljegeodokfmaa", sum := "0ffa76168fa6156f92307a1d33574ef3973e0f0cf364096e77b323783a214ccb", func := "cupel/cupellaw12.FixGrows", spec := "fixGrows", unfollowed := true, recurses := true, apart := false }
def FixGrowsSaid : Prop := fixGrowsRow.holds Try.pinned (OpenSpec.ofChange fixGrowsSpec)

/-- ITS FALSE NEIGHBOUR: 'it returns false'. Refute it at one input. -/
def fixGrowsWrong : ChangeSpec := { name := "fixGrows", fn := fun _ => fun
  | [d1, d2, d3] => { results := [.lit (.bool false)], args := [d1, d2, d3] }
  | _ => none }
def FixGrowsWrongFalsely : Prop := fixGrowsRow.holds Try.pinned (OpenSpec.ofChange fixGrowsWrong)

/-- 'cupellaw12.FixRing': WHATEVER THE INPUT: true; the input reads as it did. -/
def fixRingSpec : ChangeSpec := { name := "fixRing", fn := fun _ => fun
  | [d1, d2] => { results := [.lit (.bool true)], args := [d1, d2] }
  | _ => none }
def fixRingRow : OpenClaim := { program := "ytiljegeodokfmaa", sum := "0ffa76168fa6156f92307a1d33574ef3973e0f0cf364096e77b323783a214ccb", func := "cupel/cupellaw12.FixRing", spec := "fixRing", unfollowed := true, recurses := true, apart := false }
def FixRingSaid : Prop := fixRingRow.holds Try.pinned (OpenSpec.ofChange fixRingSpec)

/-- ITS FALSE NEIGHBOUR: 'it returns false'. Refute it at one input. -/
def fixRingWrong : ChangeSpec := { name := "fixRing", fn := fun _ => fun
  | [d1, d2] => { results := [.lit (.bool false)], args := [d1, d2] }
  | _ => none }
def FixRingWrongFalsely : Prop := fixRingRow.holds Try.pinned (OpenSpec.ofChange fixRingWrong)

/-- 'cupellaw12.FixParts': WHATEVER THE INPUT: true; the input reads as it did. -/
def fixPartsSpec : ChangeSpec := { name := "fixParts", fn := fun _ => fun
  | [d1, d2] => { results := [.lit (.bool true)], args := [d1, d2] }
  | _ => none }
def fixPartsRow : OpenClaim := { program := "ytiljegeodokfmaa", sum := "0ffa76168fa6156f92307a1d33574ef3973e0f0cf364096e77b323783a214ccb", func := "cupel/cupellaw12.FixParts", spec := "fixParts", unfollowed := true, recurses := true, apart := false }
def FixPartsSaid : Prop := fixPartsRow.holds Try.pinned (OpenSpec.ofChange fixPartsSpec)

/-- ITS FALSE NEIGHBOUR: 'it returns false'. Refute it at one input. -/
def fixPartsWrong : ChangeSpec := { name := "fixParts", fn := fun _ => fun
  | [d1, d2] => { results := [.lit (.bool false)], args := [d1, d2] }
  | _ => none }
def FixPartsWrongFalsely : Prop := fixPartsRow.holds Try.pinned (OpenSpec.ofChange fixPartsWrong)

/- THE SECOND FORM. 'bulk': how many values and letters a reading holds, each counted each time it is reached (what is shared counts as often as it is met; a slice's spare places count too). A statement '..UptoSaid' is the law's where the arguments, and the package variables that the reading takes, are together of bulk at most 1048576: NARROWER than '..Said'. Prove '..Said' where nothing that the law and all that it calls make is longer than what came in: it says more and counts as full. Else prove '..UptoSaid'. A law counts once. -/
mutual
def uptoBulk {H : Type} : DataW H → Nat
  | .lit (.string bytes) => bytes.length + 1
  | .lit _ => 1
  | .nil => 1
  | .ptr d => uptoBulk d + 1
  | .slice elems spare => uptoBulkAll elems + uptoBulkAll spare + 1
  | .agg parts => uptoBulkAll parts + 1
  | .iface _ d => uptoBulk d + 1
  | .map entries => uptoBulkEntries entries + 1
  | .held _ => 1
def uptoBulkAll {H : Type} : List (DataW H) → Nat
  | [] => 0
  | d :: r => uptoBulk d + uptoBulkAll r
def uptoBulkEntries {H : Type} : List (Lit × DataW H) → Nat
  | [] => 0
  | x :: r => uptoBulkEntry x + uptoBulkEntries r
def uptoBulkEntry {H : Type} : Lit × DataW H → Nat
  | (.string bytes, d) => bytes.length + uptoBulk d + 1
  | (_, d) => uptoBulk d + 1
 end
def uptoSmall : (H : Type) → List (DataW H) → Bool := fun _ ds => decide (uptoBulkAll ds ≤ 1048576)
def OpenSpec.upto (s : _root_.Go.ChangeSpec) : _root_.Go.OpenSpec := { _root_.Go.OpenSpec.ofChange s with cond := some uptoSmall }

/-- 'cupellaw12.FixOrder', WHERE WHAT IT READS IS OF BULK AT MOST 1048576: true; the input reads as it did. -/
def fixOrderUptoRow : OpenClaim := { program := "ytiljegeodokfmaa", sum := "0ffa76168fa6156f92307a1d33574ef3973e0f0cf364096e77b323783a214ccb", func := "cupel/cupellaw12.FixOrder", spec := "fixOrder", unfollowed := true, recurses := true, apart := false, narrowed := true }
def FixOrderUptoSaid : Prop := fixOrderUptoRow.holds Try.pinned (OpenSpec.upto fixOrderSpec)

/-- 'cupellaw12.FixSets', WHERE WHAT IT READS IS OF BULK AT MOST 1048576: true; the input reads as it did. -/
def fixSetsUptoRow : OpenClaim := { program := "ytiljegeodokfmaa", sum := "0ffa76168fa6156f92307a1d33574ef3973e0f0cf364096e77b323783a214ccb", func := "cupel/cupellaw12.FixSets", spec := "fixSets", unfollowed := true, recurses := true, apart := false, narrowed := true }
def FixSetsUptoSaid : Prop := fixSetsUptoRow.holds Try.pinned (OpenSpec.upto fixSetsSpec)

/-- 'cupellaw12.FixGrows', WHERE WHAT IT READS IS OF BULK AT MOST 1048576: true; the input reads as it did. -/
def fixGrowsUptoRow : OpenClaim := { program := "ytiljegeodokfmaa", sum := "0ffa76168fa6156f92307a1d33574ef3973e0f0cf364096e77b323783a214ccb", func := "cupel/cupellaw12.FixGrows", spec := "fixGrows", unfollowed := true, recurses := true, apart := false, narrowed := true }
def FixGrowsUptoSaid : Prop := fixGrowsUptoRow.holds Try.pinned (OpenSpec.upto fixGrowsSpec)

/-- 'cupellaw12.FixRing', WHERE WHAT IT READS IS OF BULK AT MOST 1048576: true; the input reads as it did. -/
def fixRingUptoRow : OpenClaim := { program := "ytiljegeodokfmaa", sum := "0ffa76168fa6156f92307a1d33574ef3973e0f0cf364096e77b323783a214ccb", func := "cupel/cupellaw12.FixRing", spec := "fixRing", unfollowed := true, recurses := true, apart := false, narrowed := true }
def FixRingUptoSaid : Prop := fixRingUptoRow.holds Try.pinned (OpenSpec.upto fixRingSpec)

/-- 'cupellaw12.FixParts', WHERE WHAT IT READS IS OF BULK AT MOST 1048576: true; the input reads as it did. -/
def fixPartsUptoRow : OpenClaim := { program := "ytiljegeodokfmaa", sum := "0ffa76168fa6156f92307a1d33574ef3973e0f0cf364096e77b323783a214ccb", func := "cupel/cupellaw12.FixParts", spec := "fixParts", unfollowed := true, recurses := true, apart := false, narrowed := true }
def FixPartsUptoSaid : Prop := fixPartsUptoRow.holds Try.pinned (OpenSpec.upto fixPartsSpec)

end Rows
end Go.Proofs.Ytiljegeodokfmaa
