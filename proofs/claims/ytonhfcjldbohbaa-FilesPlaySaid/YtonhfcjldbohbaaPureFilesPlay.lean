import Derived.Test.YtonhfcjldbohbaaSayFilesPlay
namespace Go.Proofs.Ytonhfcjldbohbaa.Pure
open Go.RowKit Go.Proofs.Ytonhfcjldbohbaa.PA Go.Proofs.YtonhfcjldbohbaaW.PrintWords Go.Proofs.YtonhfcjldbohbaaW.PrintLast

theorem FilesPlay : cupellaw13_FilesPlay.Pure := by
  intro a0 l1 a2
  intros
  rfl

end Go.Proofs.Ytonhfcjldbohbaa.Pure
