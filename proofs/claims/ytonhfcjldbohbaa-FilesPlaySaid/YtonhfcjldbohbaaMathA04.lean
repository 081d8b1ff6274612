/- Plain lemmas of chapter 04, second part: Lex's value, the reference's; lengths. -/
import Derived.Test.YtonhfcjldbohbaaMath04
set_option linter.unusedVariables false
set_option linter.unusedSimpArgs false
namespace Go.Proofs.Ytonhfcjldbohbaa.M04
open Go.RowKit Go.Proofs.Ytonhfcjldbohbaa.PA Go.Proofs.YtonhfcjldbohbaaW.PrintWords Go.Proofs.YtonhfcjldbohbaaW.PrintLast Go.Proofs.Ytonhfcjldbohbaa.Pl Go.Proofs.Ytonhfcjldbohbaa.Lx

theorem lex_f (s : ByteArray) (hs : s.size ≤ 1000000000) : lex_Lex.f s = some (lexA s.data.toList) := by unfold lex_Lex.f; rw [if_pos hs]
theorem lexR_len : ∀ (n : Nat) (a : Int) (l : List UInt8), l.length ≤ n → (lexR a l).1.length ≤ l.length ∧ (lexR a l).2.length ≤ l.length
  | 0, a, l, h => by
    have : l = [] := List.length_eq_zero_iff.1 (by omega)
    subst this
    simp [lexR_nil]
  | n + 1, a, [], h => by simp [lexR_nil]
  | n + 1, a, b :: r, h => by
    have hb := one_bounds b r
    have hd : ((b :: r).drop (Lx.one (b :: r)).n).length = (b :: r).length - (Lx.one (b :: r)).n := List.length_drop
    have ih := lexR_len n (a + (Lx.one (b :: r)).n) ((b :: r).drop (Lx.one (b :: r)).n) (by omega)
    have ht := toks_le (Lx.one (b :: r)) a
    have hg := diags_le (Lx.one (b :: r)) a
    rw [lexR_cons]
    simp only [List.length_append]
    omega
theorem lexA_len (l : List UInt8) : (lexA l).1.length ≤ l.length + 1 ∧ (lexA l).2.length ≤ l.length := by
  have := lexR_len l.length 0 l (Nat.le_refl _)
  simp only [lexA, List.length_append, List.length_singleton]
  omega
theorem rdK (l : List Tk) (j : Nat) (h : j < l.length) : rd_T100 l (j : Int) = l[j] := by simp [rd_T100, List.getD_eq_getElem?_getD, List.getElem?_eq_getElem h]
theorem rdKr (l : List Tr) (j : Nat) (h : j < l.length) : rd_T70 l (j : Int) = l[j] := by simp [rd_T70, List.getD_eq_getElem?_getD, List.getElem?_eq_getElem h]
end Go.Proofs.Ytonhfcjldbohbaa.M04
