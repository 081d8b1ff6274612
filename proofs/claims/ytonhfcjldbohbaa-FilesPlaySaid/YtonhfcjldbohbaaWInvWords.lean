-- Words of the kit's print.sh, without those that this claim does not use (struck by wip/prune.py of this session).
import Derived.Test.YtonhfcjldbohbaaWInv
import Derived.Test.YtonhfcjldbohbaaWFootNe
namespace Go.Proofs.YtonhfcjldbohbaaW.PrintWords
open Go.RowKit
end Go.Proofs.YtonhfcjldbohbaaW.PrintWords
namespace Go.Proofs.YtonhfcjldbohbaaW.PrintLast
section
variable {ops : Array Oper} {a : Act} {o og : Oper} {g : Nat} {t : Tmp} {u : Bool}
end
end Go.Proofs.YtonhfcjldbohbaaW.PrintLast
