/- fix: FixRing's contract in the printed shape (for xrow.py). -/
import Derived.Test.YtiljegeodokfmaaFixRing
namespace Go.Proofs.Ytiljegeodokfmaa.PA
open Go Go.RowKit Go.Proofs.YtiljegeodokfmaaW.PrintWords Go.Proofs.YtiljegeodokfmaaW.PrintLast Go.Proofs.YtiljegeodokfmaaW.PrintMore
/-- True, of bytes. -/
def cupellaw12_FixRing.f (a0 : Int) (a1 : Int) : Option (Bool) := if (0 ≤ a0 ∧ a0 < 256) ∧ (0 ≤ a1 ∧ a1 < 256) then some true else none
theorem cupellaw12_FixRing.calls (a0 : Int) (a1 : Int) (r : Bool) (w : World) (h : cupellaw12_FixRing.f a0 a1 = some r) :
    Calls Try.prog 6 #[.int .u8 a0, .int .u8 a1] w fun e w' => e = .returned (.bool r) ∧ Below w.heap.size w w' := by
  unfold cupellaw12_FixRing.f at h
  split at h
  · rename_i hw
    injection h with h
    subst h
    exact Fx.FixRing_any a0 a1 w hw.1.1 hw.1.2 hw.2.1 hw.2.2
  · cases h
end Go.Proofs.Ytiljegeodokfmaa.PA
