/- files: FilesKeep's contract in the printed shape (for xrow.py). -/
import Derived.Test.YtonhfcjldbohbaaFlS
namespace Go.Proofs.Ytonhfcjldbohbaa.PA
open Go Go.RowKit Go.Proofs.YtonhfcjldbohbaaW.PrintWords Go.Proofs.YtonhfcjldbohbaaW.PrintLast Go.Proofs.YtonhfcjldbohbaaW.PrintMore
set_option linter.unusedVariables false
/-- True, of a byte. -/
def cupellaw13_FilesKeep.f (a0 : Int) (l1 : List (S43)) : Option (Bool) := if 0 ≤ a0 ∧ a0 < 256 then some true else none
theorem cupellaw13_FilesKeep.calls (a0 : Int) (A1 : Option Addr) (c1 : Nat) (l1 : List (S43)) (r : Bool) (w : World) (hr1 : Kd.C k43 w A1 l1.length l1) (hc1 : l1.length ≤ c1) (h : cupellaw13_FilesKeep.f a0 l1 = some r) :
    Calls Try.prog 7 #[.int .u8 a0, .slice A1 l1.length c1] w fun e w' => e = .returned (.bool r) ∧ Below w.heap.size w w' := by
  unfold cupellaw13_FilesKeep.f at h
  split at h
  · rename_i hw
    injection h with h
    subst h
    exact Fi.FilesKeep_any a0 A1 c1 l1 w hr1 hc1 hw.1 hw.2
  · cases h
end Go.Proofs.Ytonhfcjldbohbaa.PA
