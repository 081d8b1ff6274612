/- The pure statement of the law FilesFull, written by a program of this session (wip/xrow.py). -/
import Derived.Test.YtonhfcjldbohbaaPAx96
namespace Go.Proofs.Ytonhfcjldbohbaa.PA
open Go.RowKit Go.Proofs.YtonhfcjldbohbaaW.PrintWords Go.Proofs.YtonhfcjldbohbaaW.PrintLast
set_option linter.unusedVariables false
/-- What is left of the law FilesFull: about lists and numbers alone. -/
def cupellaw13_FilesFull.Pure : Prop := ∀ (a0 : Int) (a1 : Int), (Lit.int .u8 a0).wf = true → (Lit.int .u8 a1).wf = true → cupellaw13_FilesFull.f a0 a1 = some true
end Go.Proofs.Ytonhfcjldbohbaa.PA
