import Derived.Test.YtonhfcjldbohbaaSayFilesSince
namespace Go.Proofs.Ytonhfcjldbohbaa.Pure
open Go.RowKit Go.Proofs.Ytonhfcjldbohbaa.PA Go.Proofs.YtonhfcjldbohbaaW.PrintWords Go.Proofs.YtonhfcjldbohbaaW.PrintLast

theorem u8_lt {a : Int} (h : (Go.Lit.int .u8 a).wf = true) : 0 ≤ a ∧ a < 256 := by
  have e1 : Go.IntKind.u8.min = 0 := by decide
  have e2 : Go.IntKind.u8.max = 255 := by decide
  simp [Go.Lit.wf, e1, e2] at h
  omega
theorem FilesSince : cupellaw13_FilesSince.Pure := by
  intro l0 a1 a2 _ _ _ h1 h2
  unfold cupellaw13_FilesSince.f
  exact if_pos ⟨u8_lt h1, u8_lt h2⟩

end Go.Proofs.Ytonhfcjldbohbaa.Pure
