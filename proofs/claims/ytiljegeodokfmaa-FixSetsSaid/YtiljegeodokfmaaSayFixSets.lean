/- The pure statement of the law FixSets, written by a program of this session (wip/xrow.py). -/
import Derived.Test.YtiljegeodokfmaaPAx93
namespace Go.Proofs.Ytiljegeodokfmaa.PA
open Go.RowKit Go.Proofs.YtiljegeodokfmaaW.PrintWords Go.Proofs.YtiljegeodokfmaaW.PrintLast
set_option linter.unusedVariables false
def OK30 (x : S30) : Prop := ((Lit.int .i64 x.f0).wf = true) ∧ ((Lit.int .i64 x.f1).wf = true)
/-- What is left of the law FixSets: about lists and numbers alone. -/
def cupellaw12_FixSets.Pure : Prop := ∀ (l0 : List Int) (l1 : List S30) (a2 : Int), l0.length ≤ 9223372036854775807 → l0.length * 8 ≤ 140737488351232 → (∀ x ∈ l0, (Lit.int .i64 x).wf = true) → l1.length ≤ 9223372036854775807 → l1.length * 16 ≤ 140737488351232 → (∀ x ∈ l1, OK30 x) → (Lit.int .i64 a2).wf = true → cupellaw12_FixSets.f l0 l1 a2 = some true
end Go.Proofs.Ytiljegeodokfmaa.PA
