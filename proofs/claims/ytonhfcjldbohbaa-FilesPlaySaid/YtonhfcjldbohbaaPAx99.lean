/- files: FilesPlay's contract in the printed shape (for xrow.py). -/
import Derived.Test.YtonhfcjldbohbaaFlXY
namespace Go.Proofs.Ytonhfcjldbohbaa.PA
open Go Go.RowKit Go.Proofs.YtonhfcjldbohbaaW.PrintWords Go.Proofs.YtonhfcjldbohbaaW.PrintLast Go.Proofs.YtonhfcjldbohbaaW.PrintMore
set_option linter.unusedVariables false
/-- True. -/
def cupellaw13_FilesPlay.f (a0 : Int) (l1 : List (S43)) (a2 : Int) : Option (Bool) := some true
theorem cupellaw13_FilesPlay.calls (a0 : Int) (A1 : Option Addr) (c1 : Nat) (l1 : List (S43)) (a2 : Int) (r : Bool) (w : World) (hr1 : Kd.C k43 w A1 l1.length l1) (hc1 : l1.length ≤ c1) (h : cupellaw13_FilesPlay.f a0 l1 a2 = some r) :
    Calls Try.prog 6 #[.int .i64 a0, .slice A1 l1.length c1, .int .i64 a2] w fun e w' => e = .returned (.bool r) ∧ Below w.heap.size w w' := by
  unfold cupellaw13_FilesPlay.f at h
  injection h with h
  subst h
  exact Fi.FilesPlay_any a0 A1 c1 l1 a2 w hr1 hc1
end Go.Proofs.Ytonhfcjldbohbaa.PA
