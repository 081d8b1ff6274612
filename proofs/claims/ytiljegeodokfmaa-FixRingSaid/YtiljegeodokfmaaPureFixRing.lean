import Derived.Test.YtiljegeodokfmaaSayFixRing
namespace Go.Proofs.Ytiljegeodokfmaa.Pure
open Go.RowKit Go.Proofs.Ytiljegeodokfmaa.PA Go.Proofs.YtiljegeodokfmaaW.PrintWords Go.Proofs.YtiljegeodokfmaaW.PrintLast

theorem u8_lt {a : Int} (h : (Go.Lit.int .u8 a).wf = true) : 0 ≤ a ∧ a < 256 := by
  have e1 : Go.IntKind.u8.min = 0 := by decide
  have e2 : Go.IntKind.u8.max = 255 := by decide
  simp [Go.Lit.wf, e1, e2] at h
  omega
theorem FixRing : cupellaw12_FixRing.Pure := by
  intro a0 a1 h0 h1
  unfold cupellaw12_FixRing.f
  exact if_pos ⟨u8_lt h0, u8_lt h1⟩

end Go.Proofs.Ytiljegeodokfmaa.Pure
