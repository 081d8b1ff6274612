/- A world for the witnesses: the listed tables of unicode/utf8. -/
import Derived.Test.YtafhodampbfbkaaDoorCards
import Derived.Test.YtafhodampbfbkaaDoorTie
import Derived.Deep.DeepHandedRow
import Derived.Lib.LaidTab
namespace Go.Proofs.YtafhodampbfbkaaDoor
open Go.ChangeShapes Go.WideShapes Go.ChangeAt
set_option maxRecDepth 100000
theorem own : ownKnob Tryd.prog.godebug = none := by kernel_rfl
mutual
/-- A datum's whole numbers as cells. -/
def flat : DataW Unit → List Value
  | .lit (.int k n) => [.int k n]
  | .agg l => flats l
  | _ => []
def flats : List (DataW Unit) → List Value
  | [] => []
  | d :: r => flat d ++ flats r
end
/-- A world in which the listed tables hold what their text lays. -/
noncomputable def laidWorld (os : Os) : World :=
  { World.holding Tryd.prog os ⟨#[], #[], []⟩ with heap :=
      let h := (World.holding Tryd.prog os ⟨#[], #[], []⟩).heap
      let h := h.modify 2 fun | .cells _ t fr => .cells (flat Rows.laid_unicode_utf8_acceptRanges).toArray t fr | o => o
      let h := h.modify 1 fun | .cells _ t fr => .cells (flat Rows.laid_unicode_utf8_first).toArray t fr | o => o
      h }
end Go.Proofs.YtafhodampbfbkaaDoor
