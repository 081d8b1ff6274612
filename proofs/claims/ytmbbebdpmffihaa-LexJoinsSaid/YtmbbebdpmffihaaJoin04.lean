/- Plain laws: two sources, a line break between them. -/
import Derived.Test.YtmbbebdpmffihaaLexLaws
set_option linter.unusedVariables false
set_option linter.unusedSimpArgs false
namespace Go.Proofs.Ytmbbebdpmffihaa.M04
open Go.RowKit Go.Proofs.Ytmbbebdpmffihaa.PA Go.Proofs.YtmbbebdpmffihaaW.PrintWords Go.Proofs.YtmbbebdpmffihaaW.PrintLast Go.Proofs.Ytmbbebdpmffihaa.Pl Go.Proofs.Ytmbbebdpmffihaa.Lx

theorem run_app (p : Int → Bool) (h10 : p 10 = false) : ∀ (r y : List UInt8), runLen p (r ++ 10 :: y) = runLen p r
  | [], y => by rw [List.nil_append, runLen_cons, show (((10 : UInt8).toNat : Nat) : Int) = 10 from rfl, h10]; rfl
  | b :: r, y => by rw [List.cons_append, runLen_cons, runLen_cons, run_app p h10 r y]
theorem take_run (p : Int → Bool) (r y : List UInt8) : (r ++ y).take (runLen p r) = r.take (runLen p r) := List.take_append_of_le_length (runLen_le p r)
theorem pre_app (b : UInt8) : ∀ (r y : List UInt8), Lib.hasPrefix (b :: (r ++ 10 :: y)) [45, 62] = Lib.hasPrefix (b :: r) [45, 62]
  | [], y => by
    cases hq : Lib.hasPrefix (b :: ([] ++ 10 :: y)) [45, 62] with
    | true => obtain ⟨t, ht⟩ := pre_two hq; injection ht with h1 h2; injection h2 with h3 h4; exact absurd h3 (by decide)
    | false =>
      cases hq2 : Lib.hasPrefix [b] [45, 62] with
      | false => rfl
      | true => obtain ⟨t, ht⟩ := pre_two hq2; simp at ht
  | c :: r, y => by simp [Lib.hasPrefix, List.isPrefixOf]
/-- A line break ends every token. -/
theorem one_app (b : UInt8) (r y : List UInt8) : one (b :: r ++ 10 :: y) = one (b :: r) := by
  have e1 := run_app nlB rfl (b :: r) y
  have e2 := run_app goB rfl (b :: r) y
  have e3 := run_app digB rfl (b :: r) y
  have e4 := run_app inB rfl r y
  have e5 := take_run goB (b :: r) (10 :: y)
  have e6 := take_run digB (b :: r) (10 :: y)
  have e7 := take_run inB r (10 :: y)
  have e8 := pre_app b r y
  have e9 : ((r ++ 10 :: y).drop (runLen inB r)).head? = some 34 ↔ (r.drop (runLen inB r)).head? = some 34 := by
    rcases Nat.lt_or_ge (runLen inB r) r.length with h | h
    · rw [List.drop_append_of_le_length (by omega), List.drop_eq_getElem_cons h]
      simp only [List.cons_append, List.head?_cons]
    · have hle := runLen_le inB r
      have : runLen inB r = r.length := by omega
      rw [this, List.drop_left, List.drop_length]
      simp
  rw [List.cons_append] at e1 e2 e3 e5 e6 ⊢
  simp only [one, e1, e2, e3, e4, e5, e6, e7, e8, e9]
theorem lexR_join : ∀ (n : Nat) (a : Int) (x y : List UInt8), x.length ≤ n → lexR a (x ++ 10 :: y) = ((lexR a x).1 ++ (lexR (a + x.length + 1) y).1, (lexR a x).2 ++ (lexR (a + x.length + 1) y).2)
  | n, a, [], y, _ => by
    rw [List.nil_append, lexR_nil, lexR_cons]
    show (toks ⟨1, none, none⟩ a ++ _, diags ⟨1, none, none⟩ a ++ _) = _
    have : a + ((one (10 :: y)).n : Int) = a + (([] : List UInt8).length : Int) + 1 := by
      rw [show (one (10 :: y)).n = 1 from rfl]; simp
    rw [this]
    rfl
  | 0, a, b :: r, y, h => by simp at h
  | n + 1, a, b :: r, y, h => by
    have hb := one_bounds b r
    have hd : ((b :: r).drop (one (b :: r)).n).length = (b :: r).length - (one (b :: r)).n := List.length_drop
    have ih := lexR_join n (a + (one (b :: r)).n) ((b :: r).drop (one (b :: r)).n) y (by omega)
    have ho := one_app b r y
    rw [List.cons_append] at ho ⊢
    rw [lexR_cons, lexR_cons, ho, ← List.cons_append, List.drop_append_of_le_length hb.2, ih, hd]
    rw [show a + ((one (b :: r)).n : Int) + (((b :: r).length - (one (b :: r)).n : Nat) : Int) + 1 = a + ((b :: r).length : Int) + 1 by omega]
    simp only [List.append_assoc]
def shT (c : Int) (t : Tk) : Tk := ⟨t.f0, t.f1 + c, t.f2⟩
def shD (c : Int) (t : Dg) : Dg := ⟨t.f0 + c, t.f1, t.f2⟩
theorem toks_sh (s : Step) (a c : Int) : toks s (a + c) = (toks s a).map (shT c) := by unfold toks; split <;> rfl
theorem diags_sh (s : Step) (a c : Int) : diags s (a + c) = (diags s a).map (shD c) := by unfold diags; split <;> rfl
theorem lexR_shift (c : Int) : ∀ (n : Nat) (a : Int) (x : List UInt8), x.length ≤ n → lexR (a + c) x = ((lexR a x).1.map (shT c), (lexR a x).2.map (shD c))
  | n, a, [], _ => by simp [lexR_nil]
  | 0, a, b :: r, h => by simp at h
  | n + 1, a, b :: r, h => by
    have hb := one_bounds b r
    have hd : ((b :: r).drop (one (b :: r)).n).length = (b :: r).length - (one (b :: r)).n := List.length_drop
    have ih := lexR_shift c n (a + (one (b :: r)).n) ((b :: r).drop (one (b :: r)).n) (by omega)
    rw [lexR_cons, lexR_cons, toks_sh, diags_sh, show a + c + ((one (b :: r)).n : Int) = a + ((one (b :: r)).n : Int) + c by omega, ih, List.map_append, List.map_append]
/-- Lex of both, from that of each. -/
theorem lexA_join (x y : List UInt8) : lexA (x ++ 10 :: y) = ((lexR 0 x).1 ++ (lexA y).1.map (shT ((x.length : Int) + 1)), (lexA x).2 ++ (lexA y).2.map (shD ((x.length : Int) + 1))) := by
  have h1 := lexR_join x.length 0 x y (Nat.le_refl _)
  have h2 := lexR_shift ((x.length : Int) + 1) y.length 0 y (Nat.le_refl _)
  rw [lexA, h1, show (0 : Int) + (x.length : Int) + 1 = 0 + ((x.length : Int) + 1) by omega, h2, lexA, lexA]
  simp only [List.map_append, List.append_assoc, List.map_cons, List.map_nil, shT, List.length_append, List.length_cons]
  rw [show (((x.length + (y.length + 1) : Nat)) : Int) = (y.length : Int) + ((x.length : Int) + 1) by omega]
theorem sameL_shift (c : Int) : ∀ l : List Tk, sameL (l.map (shT c)) l = true
  | [] => rfl
  | t :: l => by rw [List.map_cons, sameL, sameL_shift c l]; simp [sameT, shT]
theorem sameL_self : ∀ l : List Tk, sameL l l = true
  | [] => rfl
  | t :: l => by rw [sameL, sameL_self l]; simp [sameT]
theorem lexA_low (l : List UInt8) : ∀ t ∈ (lexA l).2, 0 ≤ t.f0 ∧ t.f0 ≤ (l.length : Int) := fun t ht => by
  have := (lexR_facts l.length 0 l (Nat.le_refl _)).2.2.1 t ht
  exact ⟨by omega, by omega⟩
end Go.Proofs.Ytmbbebdpmffihaa.M04
