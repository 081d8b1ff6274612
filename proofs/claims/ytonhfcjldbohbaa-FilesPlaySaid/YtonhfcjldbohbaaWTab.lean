-- Words of the kit's print.sh, without those that this claim does not use (struck by wip/prune.py of this session).
import Derived.Test.YtonhfcjldbohbaaWLast
import Derived.Test.YtonhfcjldbohbaaWWords
/-! ### 50. A region's order in a table, made once a region: each step asks the table (numbers alone), not the operations -/
namespace Go.Proofs.YtonhfcjldbohbaaW.PrintLast
open Go.Proofs.YtonhfcjldbohbaaW.PrintWords (Aside0)
section
variable {md : Region.Mode} {ops : Array Oper} {T : Bool × List (List Nat × List Nat)} {l l' li lj lk : Array Bool} {ds : List Nat} {i j k : Nat}
end
end Go.Proofs.YtonhfcjldbohbaaW.PrintLast
