import Derived.Test.YtiljegeodokfmaaSayFixOrder
namespace Go.Proofs.Ytiljegeodokfmaa.Pure
open Go.RowKit Go.Proofs.Ytiljegeodokfmaa.PA Go.Proofs.YtiljegeodokfmaaW.PrintWords Go.Proofs.YtiljegeodokfmaaW.PrintLast

theorem FixOrder : cupellaw12_FixOrder.Pure := by
  intro l0 l1 _ _ h0 _ _ h1
  unfold cupellaw12_FixOrder.f
  exact if_pos ⟨h0, h1⟩

end Go.Proofs.Ytiljegeodokfmaa.Pure
