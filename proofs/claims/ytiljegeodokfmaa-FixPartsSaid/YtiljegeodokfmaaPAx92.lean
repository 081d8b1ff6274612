/- fix: FixParts' contract in the printed shape (for xrow.py). -/
import Derived.Test.YtiljegeodokfmaaFixParts
namespace Go.Proofs.Ytiljegeodokfmaa.PA
open Go Go.RowKit Go.Proofs.YtiljegeodokfmaaW.PrintWords Go.Proofs.YtiljegeodokfmaaW.PrintLast Go.Proofs.YtiljegeodokfmaaW.PrintMore
/-- True. -/
def cupellaw12_FixParts.f (l0 : List (S30)) (l1 : List (S30)) : Option (Bool) := some true
theorem cupellaw12_FixParts.calls (A0 : Option Addr) (c0 : Nat) (l0 : List (S30)) (A1 : Option Addr) (c1 : Nat) (l1 : List (S30)) (r : Bool) (w : World) (hr0 : Kd.C k30 w A0 l0.length l0) (hc0 : l0.length ≤ c0) (hr1 : Kd.C k30 w A1 l1.length l1) (hc1 : l1.length ≤ c1) (h : cupellaw12_FixParts.f l0 l1 = some r) :
    Calls Try.prog 7 #[.slice A0 l0.length c0, .slice A1 l1.length c1] w fun e w' => e = .returned (.bool r) ∧ Below w.heap.size w w' := by
  injection h with h
  subst h
  exact Fx.FixParts_any A0 c0 l0 A1 c1 l1 w hr0 hc0 hr1 hc1 ⟨Fx.parts1 l0 l1⟩ ⟨Fx.parts2 l0 l1⟩ ⟨Fx.parts3 l0 l1⟩ ⟨Fx.parts4 l0 l1⟩
end Go.Proofs.Ytiljegeodokfmaa.PA
