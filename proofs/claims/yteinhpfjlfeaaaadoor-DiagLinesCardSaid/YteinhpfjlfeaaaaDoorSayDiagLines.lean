/- The pure statement of the law DiagLines, written by a program of this session (wip/xrow.py). -/
import Derived.Test.YteinhpfjlfeaaaaDoorPAx12
namespace Go.Proofs.YteinhpfjlfeaaaaDoor.PA
open Go.RowKit Go.Proofs.YteinhpfjlfeaaaaDoorW.PrintWords Go.Proofs.YteinhpfjlfeaaaaDoorW.PrintLast
set_option linter.unusedVariables false
def OK23 (x : S23) : Prop := ((Lit.int .i64 x.f0).wf = true) ∧ ((Lit.int .i64 x.f1).wf = true) ∧ (x.f2.size ≤ 9223372036854775807)
/-- What is left of the law DiagLines: about lists and numbers alone. -/
def cupellaw19_DiagLines.Pure : Prop := ∀ (a0 : ByteArray) (l1 : List (List S23)) (l2 : List Int), a0.size ≤ 140737488351232 → l1.length ≤ 9223372036854775807 → l1.length * 24 ≤ 140737488351232 → (∀ x ∈ l1, ∀ x_x ∈ x, OK23 x_x) → l2.length ≤ 9223372036854775807 → l2.length * 1 ≤ 140737488351232 → (∀ x ∈ l2, (Lit.int .u8 x).wf = true) → ∃ k, cupellaw19_DiagLines.f k a0 l1 l2 = some true
end Go.Proofs.YteinhpfjlfeaaaaDoor.PA
