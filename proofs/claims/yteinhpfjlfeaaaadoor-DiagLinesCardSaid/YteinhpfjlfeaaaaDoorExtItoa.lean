/- The contract of strconv.Itoa, in the printed shape; it asks the table of powers (Tabs). -/
import Derived.Test.YteinhpfjlfeaaaaDoorPAx0
import Derived.Test.YteinhpfjlfeaaaaDoorShelf
import Derived.WalkSmall
import Derived.ChangeBears2
import Derived.Lib.AppendIntMem
namespace Go.Proofs.YteinhpfjlfeaaaaDoor.PA
open Go.RowKit Go.Proofs.YteinhpfjlfeaaaaDoorW.PrintWords Go.Proofs.YteinhpfjlfeaaaaDoorW.PrintLast Go.Proofs.YteinhpfjlfeaaaaDoorW.PrintMore
set_option linter.unusedVariables false

/-- The table of powers lies where the program's text lays it. -/
def Tabs (w : World) : Prop := Lib.TabIs Tryd.prog w "internal/strconv.uint64pow10" .u64 Lib.pow10Tab
theorem tabs_named : (Tryd.prog.globalNamed "internal/strconv.uint64pow10").isSome = true := by kernel_rfl
theorem Tabs.lt {w : World} (h : Tabs w) {g : Nat} (hg : Tryd.prog.globalNamed "internal/strconv.uint64pow10" = some g) : g < w.heap.size :=
  World.block_lt_of_cell? w ⟨g, 0, none⟩ ((var?_cell hg h 0).trans (by rfl))
theorem Tabs.below {B : Nat} {w w' : World} (h : Tabs w) (hB : w.heap.size ≤ B) (hb : Below B w w') : Tabs w' := by
  obtain ⟨g, hg⟩ := Option.isSome_iff_exists.1 tabs_named
  exact var?_below hb hg (Nat.lt_of_lt_of_le (h.lt hg) hB) h

def strconv_Itoa_19.f (a0 : Int) : Option ByteArray := if -9223372036854775808 ≤ a0 ∧ a0 ≤ 9223372036854775807 then some ⟨(Lib.itoa a0).toArray⟩ else none
theorem strconv_Itoa_19.calls (a0 : Int) (r : ByteArray) (w : World) (h : strconv_Itoa_19.f a0 = some r) (hT : Tabs w) :
    Calls Tryd.prog 19 #[.int .i64 a0] w fun e w' => e = .returned (.string r) ∧ Below w.heap.size w w' := by
  unfold strconv_Itoa_19.f at h
  by_cases hr : -9223372036854775808 ≤ a0 ∧ a0 ≤ 9223372036854775807
  · rw [if_pos hr] at h
    obtain rfl := Option.some.inj h
    refine (Tryd.strconv_Itoa a0 hr.1 hr.2 w hT).mono ?_
    rintro e w' ⟨rfl, k, os, rfl⟩
    exact ⟨rfl, Lib.below_grow _ w (Nat.le_refl _) k os⟩
  · rw [if_neg hr] at h; exact absurd h (by simp)
end Go.Proofs.YteinhpfjlfeaaaaDoor.PA
