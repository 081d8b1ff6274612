/- files: FilesFull's contract in the printed shape (for xrow.py). -/
import Derived.Test.YtonhfcjldbohbaaFlO
namespace Go.Proofs.Ytonhfcjldbohbaa.PA
open Go Go.RowKit Go.Proofs.YtonhfcjldbohbaaW.PrintWords Go.Proofs.YtonhfcjldbohbaaW.PrintLast Go.Proofs.YtonhfcjldbohbaaW.PrintMore
set_option linter.unusedVariables false
/-- True, of bytes. -/
def cupellaw13_FilesFull.f (a0 : Int) (a1 : Int) : Option (Bool) := if (0 ≤ a0 ∧ a0 < 256) ∧ (0 ≤ a1 ∧ a1 < 256) then some true else none
theorem cupellaw13_FilesFull.calls (a0 : Int) (a1 : Int) (r : Bool) (w : World) (h : cupellaw13_FilesFull.f a0 a1 = some r) :
    Calls Try.prog 4 #[.int .u8 a0, .int .u8 a1] w fun e w' => e = .returned (.bool r) ∧ Below w.heap.size w w' := by
  unfold cupellaw13_FilesFull.f at h
  split at h
  · rename_i hw
    injection h with h
    subst h
    exact Fi.FilesFull_any a0 a1 w hw.1.1 hw.1.2 hw.2.1 hw.2.2
  · cases h
end Go.Proofs.Ytonhfcjldbohbaa.PA
