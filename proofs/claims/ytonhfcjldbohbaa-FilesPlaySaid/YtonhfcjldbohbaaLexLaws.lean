/- Plain laws of the scanner's step. -/
import Derived.Test.YtonhfcjldbohbaaMathA04
set_option linter.unusedVariables false
set_option linter.unusedSimpArgs false
namespace Go.Proofs.Ytonhfcjldbohbaa.M04
open Go.RowKit Go.Proofs.Ytonhfcjldbohbaa.PA Go.Proofs.YtonhfcjldbohbaaW.PrintWords Go.Proofs.YtonhfcjldbohbaaW.PrintLast Go.Proofs.Ytonhfcjldbohbaa.Pl Go.Proofs.Ytonhfcjldbohbaa.Lx

end Go.Proofs.Ytonhfcjldbohbaa.M04
