/- files: FilesSince's contract in the printed shape (for xrow.py). -/
import Derived.Test.YtonhfcjldbohbaaFlQ
namespace Go.Proofs.Ytonhfcjldbohbaa.PA
open Go Go.RowKit Go.Proofs.YtonhfcjldbohbaaW.PrintWords Go.Proofs.YtonhfcjldbohbaaW.PrintLast Go.Proofs.YtonhfcjldbohbaaW.PrintMore
set_option linter.unusedVariables false
/-- True, of bytes. -/
def cupellaw13_FilesSince.f (l0 : List (S43)) (a1 : Int) (a2 : Int) : Option (Bool) := if (0 ≤ a1 ∧ a1 < 256) ∧ (0 ≤ a2 ∧ a2 < 256) then some true else none
theorem cupellaw13_FilesSince.calls (A0 : Option Addr) (c0 : Nat) (l0 : List (S43)) (a1 : Int) (a2 : Int) (r : Bool) (w : World) (hr0 : Kd.C k43 w A0 l0.length l0) (hc0 : l0.length ≤ c0) (h : cupellaw13_FilesSince.f l0 a1 a2 = some r) :
    Calls Try.prog 5 #[.slice A0 l0.length c0, .int .u8 a1, .int .u8 a2] w fun e w' => e = .returned (.bool r) ∧ Below w.heap.size w w' := by
  unfold cupellaw13_FilesSince.f at h
  split at h
  · rename_i hw
    injection h with h
    subst h
    exact Fi.FilesSince_any A0 c0 l0 a1 a2 w hr0 hc0 hw.1.1 hw.1.2 hw.2.1 hw.2.2
  · cases h
end Go.Proofs.Ytonhfcjldbohbaa.PA
