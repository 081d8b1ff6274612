/- fix: FixGrows' contract in the printed shape (for xrow.py). -/
import Derived.Test.YtiljegeodokfmaaFixGrows
namespace Go.Proofs.Ytiljegeodokfmaa.PA
open Go Go.RowKit Go.Proofs.YtiljegeodokfmaaW.PrintWords Go.Proofs.YtiljegeodokfmaaW.PrintLast Go.Proofs.YtiljegeodokfmaaW.PrintMore
/-- True, of texts that are. -/
def cupellaw12_FixGrows.f (l0 : List ByteArray) (a1 : ByteArray) (a2 : ByteArray) : Option (Bool) := if (∀ x ∈ l0, x.size ≤ 9223372036854775807) ∧ (a1.size ≤ 9223372036854775807 ∧ a2.size ≤ 9223372036854775807) then some true else none
theorem cupellaw12_FixGrows.calls (A0 : Option Addr) (c0 : Nat) (l0 : List ByteArray) (a1 : ByteArray) (a2 : ByteArray) (r : Bool) (w : World) (hr0 : Kd.C Kd.string w A0 l0.length l0) (hc0 : l0.length ≤ c0) (h : cupellaw12_FixGrows.f l0 a1 a2 = some r) :
    Calls Try.prog 5 #[.slice A0 l0.length c0, .string a1, .string a2] w fun e w' => e = .returned (.bool r) ∧ Below w.heap.size w w' := by
  unfold cupellaw12_FixGrows.f at h
  split at h
  · rename_i hw
    injection h with h
    subst h
    exact Fs.FixGrows_any A0 c0 l0 a1 a2 w hr0 hc0 hw.1 hw.2.1 hw.2.2
  · cases h
end Go.Proofs.Ytiljegeodokfmaa.PA
