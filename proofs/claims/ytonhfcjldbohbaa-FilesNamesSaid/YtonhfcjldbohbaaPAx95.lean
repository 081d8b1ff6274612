/- files: FilesNames' contract in the printed shape (for xrow.py). -/
import Derived.Test.YtonhfcjldbohbaaFlM
namespace Go.Proofs.Ytonhfcjldbohbaa.PA
open Go Go.RowKit Go.Proofs.YtonhfcjldbohbaaW.PrintWords Go.Proofs.YtonhfcjldbohbaaW.PrintLast Go.Proofs.YtonhfcjldbohbaaW.PrintMore
set_option linter.unusedVariables false
/-- True, of a byte. -/
def cupellaw13_FilesNames.f (a0 : ByteArray) (a1 : Int) : Option (Bool) := if 0 ≤ a1 ∧ a1 < 256 then some true else none
theorem cupellaw13_FilesNames.calls (a0 : ByteArray) (a1 : Int) (r : Bool) (w : World) (h : cupellaw13_FilesNames.f a0 a1 = some r) :
    Calls Try.prog 3 #[.string a0, .int .u8 a1] w fun e w' => e = .returned (.bool r) ∧ Below w.heap.size w w' := by
  unfold cupellaw13_FilesNames.f at h
  split at h
  · rename_i hw
    injection h with h
    subst h
    exact Fi.FilesNames_any a0 a1 w hw.1 hw.2
  · cases h
end Go.Proofs.Ytonhfcjldbohbaa.PA
