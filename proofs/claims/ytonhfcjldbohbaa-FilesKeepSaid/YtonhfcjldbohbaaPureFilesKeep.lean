import Derived.Test.YtonhfcjldbohbaaSayFilesKeep
namespace Go.Proofs.Ytonhfcjldbohbaa.Pure
open Go.RowKit Go.Proofs.Ytonhfcjldbohbaa.PA Go.Proofs.YtonhfcjldbohbaaW.PrintWords Go.Proofs.YtonhfcjldbohbaaW.PrintLast

theorem u8_lt {a : Int} (h : (Go.Lit.int .u8 a).wf = true) : 0 ≤ a ∧ a < 256 := by
  have e1 : Go.IntKind.u8.min = 0 := by decide
  have e2 : Go.IntKind.u8.max = 255 := by decide
  simp [Go.Lit.wf, e1, e2] at h
  omega
theorem FilesKeep : cupellaw13_FilesKeep.Pure := by
  intro a0 l1 h1 _ _ _
  unfold cupellaw13_FilesKeep.f
  exact if_pos (u8_lt h1)

end Go.Proofs.Ytonhfcjldbohbaa.Pure
