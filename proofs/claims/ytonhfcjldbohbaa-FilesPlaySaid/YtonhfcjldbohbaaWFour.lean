-- Words of the kit's print.sh, without those that this claim does not use (struck by wip/prune.py of this session).
import Derived.Test.YtonhfcjldbohbaaWTab
/-! ### 56. Four, five, six operations that may come up next, in any order -/
namespace Go.Proofs.YtonhfcjldbohbaaW.PrintLast
section
variable {P : Program} {ops : Array Oper} {Q : Exit → Act → World → Prop} {md : Region.Mode} {S : World → Prop} {ds : List Nat} {T : Bool × List (List Nat × List Nat)}
end
end Go.Proofs.YtonhfcjldbohbaaW.PrintLast
