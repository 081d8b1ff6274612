/- The pure statement of the law FilesPlay, written by a program of this session (wip/xrow.py). -/
import Derived.Test.YtonhfcjldbohbaaPAx99
namespace Go.Proofs.Ytonhfcjldbohbaa.PA
open Go.RowKit Go.Proofs.YtonhfcjldbohbaaW.PrintWords Go.Proofs.YtonhfcjldbohbaaW.PrintLast
set_option linter.unusedVariables false
def OK43 (x : S43) : Prop := ((Lit.int .i64 x.f0).wf = true) ∧ (x.f1.size ≤ 9223372036854775807) ∧ (x.f2.size ≤ 9223372036854775807) ∧ ((Lit.int .i64 x.f3).wf = true)
/-- What is left of the law FilesPlay: about lists and numbers alone. -/
def cupellaw13_FilesPlay.Pure : Prop := ∀ (a0 : Int) (l1 : List S43) (a2 : Int), (Lit.int .i64 a0).wf = true → l1.length ≤ 9223372036854775807 → l1.length * 48 ≤ 140737488351232 → (∀ x ∈ l1, OK43 x) → (Lit.int .i64 a2).wf = true → cupellaw13_FilesPlay.f a0 l1 a2 = some true
end Go.Proofs.Ytonhfcjldbohbaa.PA
