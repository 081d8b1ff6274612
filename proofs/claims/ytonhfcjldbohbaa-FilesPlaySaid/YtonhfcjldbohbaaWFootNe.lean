-- Words of the kit's print.sh, without those that this claim does not use (struck by wip/prune.py of this session).
import Derived.Test.YtonhfcjldbohbaaWN
/-! ### 52. A row that stays read whatever happens to a block (a set of blocks) doesn't lie there -/
namespace Go.Proofs.YtonhfcjldbohbaaW.PrintWords
open Go.RowKit
namespace Kd
section
variable {α : Type} {d : Kd α} {W : World} {g n : Nat} {S ok : Nat → Prop} {A : Option Addr} {ad : Addr} {xs : List α}
end
end Kd
end Go.Proofs.YtonhfcjldbohbaaW.PrintWords
