/- The pure statement of the law FilesNames, written by a program of this session (wip/xrow.py). -/
import Derived.Test.YtonhfcjldbohbaaPAx95
namespace Go.Proofs.Ytonhfcjldbohbaa.PA
open Go.RowKit Go.Proofs.YtonhfcjldbohbaaW.PrintWords Go.Proofs.YtonhfcjldbohbaaW.PrintLast
set_option linter.unusedVariables false
/-- What is left of the law FilesNames: about lists and numbers alone. -/
def cupellaw13_FilesNames.Pure : Prop := ∀ (a0 : ByteArray) (a1 : Int), a0.size ≤ 140737488351232 → (Lit.int .u8 a1).wf = true → cupellaw13_FilesNames.f a0 a1 = some true
end Go.Proofs.Ytonhfcjldbohbaa.PA
