import Derived.Test.YtiljegeodokfmaaSayFixGrows
namespace Go.Proofs.Ytiljegeodokfmaa.Pure
open Go.RowKit Go.Proofs.Ytiljegeodokfmaa.PA Go.Proofs.YtiljegeodokfmaaW.PrintWords Go.Proofs.YtiljegeodokfmaaW.PrintLast

theorem FixGrows : cupellaw12_FixGrows.Pure := by
  intro l0 a1 a2 _ _ h0 h1 h2
  unfold cupellaw12_FixGrows.f
  exact if_pos ⟨h0, by omega, by omega⟩

end Go.Proofs.Ytiljegeodokfmaa.Pure
