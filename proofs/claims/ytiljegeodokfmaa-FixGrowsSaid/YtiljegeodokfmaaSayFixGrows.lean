/- The pure statement of the law FixGrows, written by a program of this session (wip/xrow.py). -/
import Derived.Test.YtiljegeodokfmaaPAx94
namespace Go.Proofs.Ytiljegeodokfmaa.PA
open Go.RowKit Go.Proofs.YtiljegeodokfmaaW.PrintWords Go.Proofs.YtiljegeodokfmaaW.PrintLast
set_option linter.unusedVariables false
/-- What is left of the law FixGrows: about lists and numbers alone. -/
def cupellaw12_FixGrows.Pure : Prop := ∀ (l0 : List ByteArray) (a1 : ByteArray) (a2 : ByteArray), l0.length ≤ 9223372036854775807 → l0.length * 16 ≤ 140737488351232 → (∀ x ∈ l0, x.size ≤ 9223372036854775807) → a1.size ≤ 140737488351232 → a2.size ≤ 140737488351232 → cupellaw12_FixGrows.f l0 a1 a2 = some true
end Go.Proofs.Ytiljegeodokfmaa.PA
