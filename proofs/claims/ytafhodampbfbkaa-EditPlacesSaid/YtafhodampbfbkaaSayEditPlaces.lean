/- The pure statement of the law EditPlaces, written by a program of this session (wip/xrow.py). -/
import Derived.Test.YtafhodampbfbkaaPAx7
namespace Go.Proofs.Ytafhodampbfbkaa.PA
open Go.RowKit Go.Proofs.YtafhodampbfbkaaW.PrintWords Go.Proofs.YtafhodampbfbkaaW.PrintLast
set_option linter.unusedVariables false
def OK31 (x : S31) : Prop := ((Lit.int .i64 x.f0).wf = true) ∧ ((Lit.int .i64 x.f1).wf = true) ∧ (x.f2.size ≤ 9223372036854775807)
/-- What is left of the law EditPlaces: about lists and numbers alone. -/
def cupellaw25_EditPlaces.Pure : Prop := ∀ (a0 : ByteArray) (l1 : List S31), a0.size ≤ 140737488351232 → l1.length ≤ 9223372036854775807 → l1.length * 32 ≤ 140737488351232 → (∀ x ∈ l1, OK31 x) → ∃ k, cupellaw25_EditPlaces.f k a0 l1 = some true
end Go.Proofs.Ytafhodampbfbkaa.PA
