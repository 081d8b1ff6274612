/- The pure statement of the law EditBack, written by a program of this session (wip/xrow.py). -/
import Derived.Test.YtafhodampbfbkaaPAx6
namespace Go.Proofs.Ytafhodampbfbkaa.PA
open Go.RowKit Go.Proofs.YtafhodampbfbkaaW.PrintWords Go.Proofs.YtafhodampbfbkaaW.PrintLast
set_option linter.unusedVariables false
def OK31 (x : S31) : Prop := ((Lit.int .i64 x.f0).wf = true) ∧ ((Lit.int .i64 x.f1).wf = true) ∧ (x.f2.size ≤ 9223372036854775807)
/-- What is left of the law EditBack: about lists and numbers alone. -/
def cupellaw25_EditBack.Pure : Prop := ∀ (a0 : ByteArray) (l1 : List S31) (a2 : ByteArray), a0.size ≤ 140737488351232 → l1.length ≤ 9223372036854775807 → l1.length * 32 ≤ 140737488351232 → (∀ x ∈ l1, OK31 x) → a2.size ≤ 140737488351232 → ∃ k, cupellaw25_EditBack.f k a0 l1 a2 = some true
end Go.Proofs.Ytafhodampbfbkaa.PA
