/- The contracts of cupel/lex.Lex and Same, in the printed shape. -/
import Derived.Test.YtonhfcjldbohbaaLexH
namespace Go.Proofs.Ytonhfcjldbohbaa.PA
open Go.RowKit Go.Proofs.Ytonhfcjldbohbaa.Lx Go.Proofs.YtonhfcjldbohbaaW.PrintWords Go.Proofs.YtonhfcjldbohbaaW.PrintLast Go.Proofs.YtonhfcjldbohbaaW.PrintMore

def lex_Lex.f (a0 : ByteArray) : Option (List S100 × List S134) := if a0.size ≤ 1000000000 then some (lexA a0.data.toList) else none
theorem lex_Lex.calls (a0 : ByteArray) (r1 : List S100) (r2 : List S134) (w : World) (h : lex_Lex.f a0 = some (r1, r2)) :
    Calls Try.prog 47 #[.string a0] w fun e w' => ∃ v1 v2, e = .returned (.tuple #[v1, v2]) ∧ Kd.R k100 100 w' w.heap.size (fun _ => True) v1 r1 ∧ Kd.R k134 134 w' w.heap.size (fun _ => True) v2 r2 ∧ Below w.heap.size w w' := by
  unfold lex_Lex.f at h
  by_cases hs : a0.size ≤ 1000000000
  · rw [if_pos hs] at h
    have h := Option.some.inj h
    have e1 : (lexA a0.data.toList).1 = r1 := by rw [h]
    have e2 : (lexA a0.data.toList).2 = r2 := by rw [h]
    subst e1 e2
    refine (lex_any a0 w hs).mono ?_
    rintro e w' ⟨v1, v2, rfl, h1, h2, h3⟩
    exact ⟨v1, v2, rfl, tks_R h1, dgs_R h2, h3⟩
  · rw [if_neg hs] at h; exact absurd h (by simp)

end Go.Proofs.Ytonhfcjldbohbaa.PA
