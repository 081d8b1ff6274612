/- The pure statement of the law FilesSince, written by a program of this session (wip/xrow.py). -/
import Derived.Test.YtonhfcjldbohbaaPAx97
namespace Go.Proofs.Ytonhfcjldbohbaa.PA
open Go.RowKit Go.Proofs.YtonhfcjldbohbaaW.PrintWords Go.Proofs.YtonhfcjldbohbaaW.PrintLast
set_option linter.unusedVariables false
def OK43 (x : S43) : Prop := ((Lit.int .i64 x.f0).wf = true) ∧ (x.f1.size ≤ 9223372036854775807) ∧ (x.f2.size ≤ 9223372036854775807) ∧ ((Lit.int .i64 x.f3).wf = true)
/-- What is left of the law FilesSince: about lists and numbers alone. -/
def cupellaw13_FilesSince.Pure : Prop := ∀ (l0 : List S43) (a1 : Int) (a2 : Int), l0.length ≤ 9223372036854775807 → l0.length * 48 ≤ 140737488351232 → (∀ x ∈ l0, OK43 x) → (Lit.int .u8 a1).wf = true → (Lit.int .u8 a2).wf = true → cupellaw13_FilesSince.f l0 a1 a2 = some true
end Go.Proofs.Ytonhfcjldbohbaa.PA
