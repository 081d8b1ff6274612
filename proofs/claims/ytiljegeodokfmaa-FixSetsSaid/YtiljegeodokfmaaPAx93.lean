/- fix: FixSets' contract in the printed shape (for xrow.py). -/
import Derived.Test.YtiljegeodokfmaaFixSets
namespace Go.Proofs.Ytiljegeodokfmaa.PA
open Go Go.RowKit Go.Proofs.YtiljegeodokfmaaW.PrintWords Go.Proofs.YtiljegeodokfmaaW.PrintLast Go.Proofs.YtiljegeodokfmaaW.PrintMore
/-- True, of numbers that are. -/
def cupellaw12_FixSets.f (l0 : List Int) (l1 : List (S30)) (a2 : Int) : Option (Bool) := if ((∀ x ∈ l0, (Lit.int .i64 x).wf = true) ∧ (∀ e ∈ l1, (Lit.int .i64 e.f0).wf = true ∧ (Lit.int .i64 e.f1).wf = true)) ∧ (Lit.int .i64 a2).wf = true then some true else none
theorem cupellaw12_FixSets.calls (A0 : Option Addr) (c0 : Nat) (l0 : List Int) (A1 : Option Addr) (c1 : Nat) (l1 : List (S30)) (a2 : Int) (r : Bool) (w : World) (hr0 : Kd.C (Kd.int .i64) w A0 l0.length l0) (hc0 : l0.length ≤ c0) (hr1 : Kd.C k30 w A1 l1.length l1) (hc1 : l1.length ≤ c1) (h : cupellaw12_FixSets.f l0 l1 a2 = some r) :
    Calls Try.prog 4 #[.slice A0 l0.length c0, .slice A1 l1.length c1, .int .i64 a2] w fun e w' => e = .returned (.bool r) ∧ Below w.heap.size w w' := by
  unfold cupellaw12_FixSets.f at h
  split at h
  · rename_i hw
    injection h with h
    subst h
    exact Fx.FixSets_any A0 c0 l0 A1 c1 l1 a2 w hr0 hc0 hr1 hc1 hw.1.1 hw.1.2 hw.2
  · cases h
end Go.Proofs.Ytiljegeodokfmaa.PA
