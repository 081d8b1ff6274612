/- The pure statement of the law FixRing, written by a program of this session (wip/xrow.py). -/
import Derived.Test.YtiljegeodokfmaaPAx91
namespace Go.Proofs.Ytiljegeodokfmaa.PA
open Go.RowKit Go.Proofs.YtiljegeodokfmaaW.PrintWords Go.Proofs.YtiljegeodokfmaaW.PrintLast
set_option linter.unusedVariables false
/-- What is left of the law FixRing: about lists and numbers alone. -/
def cupellaw12_FixRing.Pure : Prop := ∀ (a0 : Int) (a1 : Int), (Lit.int .u8 a0).wf = true → (Lit.int .u8 a1).wf = true → cupellaw12_FixRing.f a0 a1 = some true
end Go.Proofs.Ytiljegeodokfmaa.PA
