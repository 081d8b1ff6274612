import Derived.Test.YtiljegeodokfmaaSayFixParts
namespace Go.Proofs.Ytiljegeodokfmaa.Pure
open Go.RowKit Go.Proofs.Ytiljegeodokfmaa.PA Go.Proofs.YtiljegeodokfmaaW.PrintWords Go.Proofs.YtiljegeodokfmaaW.PrintLast

theorem FixParts : cupellaw12_FixParts.Pure := by
  intro l0 l1 _ _ _ _ _ _
  rfl

end Go.Proofs.Ytiljegeodokfmaa.Pure
