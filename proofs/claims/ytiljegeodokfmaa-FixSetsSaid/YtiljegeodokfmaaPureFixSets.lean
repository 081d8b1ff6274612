import Derived.Test.YtiljegeodokfmaaSayFixSets
namespace Go.Proofs.Ytiljegeodokfmaa.Pure
open Go.RowKit Go.Proofs.Ytiljegeodokfmaa.PA Go.Proofs.YtiljegeodokfmaaW.PrintWords Go.Proofs.YtiljegeodokfmaaW.PrintLast

theorem FixSets : cupellaw12_FixSets.Pure := by
  intro l0 l1 a2 _ _ h0 _ _ h1 h2
  unfold cupellaw12_FixSets.f
  exact if_pos ⟨⟨h0, h1⟩, h2⟩

end Go.Proofs.Ytiljegeodokfmaa.Pure
