/- files: names (plain). -/
import Derived.Test.YtonhfcjldbohbaaFlK
namespace Go.Proofs.Ytonhfcjldbohbaa.Fi
open Go Go.RowKit Go.ChangeMaps Go.MapKept Go.Proofs.Ytonhfcjldbohbaa.PA Go.Proofs.YtonhfcjldbohbaaW.PrintWords Go.Proofs.YtonhfcjldbohbaaW.PrintLast Go.Proofs.YtonhfcjldbohbaaW.PrintMore Go.Proofs.Ytonhfcjldbohbaa.Lx Go.Proofs.Ytonhfcjldbohbaa.M04 Go.Proofs.Ytonhfcjldbohbaa.Pl
set_option linter.unusedVariables false
set_option linter.unusedSimpArgs false

def longB (k : Nat) : ByteArray := ⟨(List.replicate k 97).toArray⟩
theorem longB_size (k : Nat) : (longB k).size = k := by simp [longB, ByteArray.size]
theorem longB_succ (k : Nat) : longB k ++ ⟨#[97]⟩ = longB (k + 1) := by
  refine data_inj ?_
  rw [app_data]
  simp [longB, List.replicate_succ']
set_option maxRecDepth 100000 in
theorem nameOk_long : ∀ k, k < 40 → nameOk (longB k) = decide (1 ≤ k) := by
  have h : ∀ k, k < 40 → (if ((lexA (List.replicate k 97)).1.length : Int) = 2 then (if 0 < ((lexA (List.replicate k 97)).1.length : Int) then (if ((rd_T100 (lexA (List.replicate k 97)).1 0).f0) = 1 then (some (decide (((rd_T100 (lexA (List.replicate k 97)).1 0).f2).data.toList = List.replicate k 97))) else (some false)) else (none)) else (some false)) = some (decide (1 ≤ k)) := by decide +kernel
  intro k hk
  have h1 := h k hk
  unfold nameOk lex_Name.f lex_Lex.f
  rw [longB_size, if_pos (by omega)]
  simp only [Option.bind_some]
  have e : (longB k).data.toList = List.replicate k 97 := by simp [longB]
  rw [e]
  have e2 : ∀ x : ByteArray, (x.toList == (longB k).toList) = decide (x.data.toList = List.replicate k 97) := fun x => by
    rw [← e]
    by_cases hx : x = longB k
    · subst hx; simp
    · have h1 : ¬ x.data.toList = (longB k).data.toList := fun h => hx (ba_ext h)
      have h2 : ¬ x.toList = (longB k).toList := fun h => hx (toList_inj h)
      simp [h1, h2]
  rw [e2, h1]; rfl
theorem ref_name (n : ByteArray) (hs : n.size ≤ 100000) : ∃ k, cupelref13_Name.f k n = some (decide (n.size ≤ 32) && nameOk n) := by
  obtain ⟨k, hk⟩ := ref_f n hs
  refine ⟨k, ?_⟩
  have hl := lexA_len n.data.toList
  unfold cupelref13_Name.f nameOk lex_Name.f
  have hk0 : cupelref04_Lex.f k n = _ := hk k (Nat.le_refl _)
  rw [hk0, lex_f n (by omega)]
  simp only [Option.bind_some]
  generalize (lexA n.data.toList).1 = L at *
  by_cases h1 : n.size ≤ 32
  · rw [if_pos (by omega), decide_eq_true h1, List.length_map]
    by_cases h2 : (L.length : Int) = 2
    · have hlt : 0 < L.length := by omega
      have hlt0 : 0 < (L.length : Int) := by omega
      simp only [if_pos h2, if_pos hlt0]
      have e1 : rd_T100 L 0 = L[0] := rdK L 0 hlt
      have hlt2 : 0 < (L.map cvT).length := by rw [List.length_map]; omega
      have e2 : rd_T70 (L.map cvT) 0 = cvT L[0] := by rw [← List.getElem_map cvT (h := hlt2)]; exact rdKr _ 0 hlt2
      rw [e1, e2]
      by_cases h3 : L[0].f0 = 1
      · have h3' : (cvT L[0]).f0 = 1 := h3
        simp only [if_pos h3, if_pos h3']; rfl
      · have h3' : ¬ (cvT L[0]).f0 = 1 := h3
        simp only [if_neg h3, if_neg h3']; rfl
    · simp only [if_neg h2]; rfl
  · rw [if_neg (by omega), decide_eq_false h1]; rfl

/-! ### FilesNames, plain -/
abbrev bY : ByteArray := ⟨#[121]⟩
def nmT1 (name : ByteArray) : Tb × Int := putT ⟨10, 0, []⟩ name bX 0
def nmT2 (name long : ByteArray) : Tb × Int := putT (nmT1 name).1 long bY 0
def okN (name : ByteArray) : Bool := decide (name.size ≤ 32) && nameOk name
theorem right_name (n s : ByteArray) (hs : s.size ≤ 65536) : rightV n s 0 = if okN n = true then 0 else 1 := by
  unfold rightV okN
  rw [if_neg (show ¬ s.size > 65536 by omega)]
  by_cases h1 : n.size ≤ 32 <;> by_cases h2 : nameOk n = true <;> simp [h1, h2]
theorem toList_eq {a b : ByteArray} : (a.toList == b.toList) = decide (a = b) := by
  by_cases h : a = b
  · subst h; simp
  · have h2 : ¬ a.toList = b.toList := fun e => h (toList_inj e)
    simp [h, h2]
/-- What the two calls leave. -/
def NmOut (name long : ByteArray) (e f : Int) (L : List Fl) : Prop :=
  (okN name = true ∧ e = 0 ∧ (∃ a, L = [a] ∧ a.f0 = name ∨ ∃ b, L = [a, b] ∧ (a.f0 = name ∨ ¬ a.f0 = name ∧ b.f0 = name)) ∨ okN name = false ∧ e = 1 ∧ (L = [] ∨ ∃ a, L = [a] ∧ ¬ a.f0 = name)) ∧ f = if okN long = true then 0 else 1
theorem nm_out (name long : ByteArray) : NmOut name long (nmT1 name).2 (nmT2 name long).2 (allF (nmT2 name long).1) := by
  have hx : rightV name bX 0 = if okN name = true then 0 else 1 := right_name name bX (by decide)
  have hy : rightV long bY 0 = if okN long = true then 0 else 1 := right_name long bY (by decide)
  unfold NmOut nmT2
  cases hn : okN name
  · have e1 : nmT1 name = (⟨10, 0, []⟩, 1) := by
      unfold nmT1 putT
      rw [hx, hn]; rfl
    rw [e1]
    cases hl : okN long
    · have e2 : putT ⟨10, 0, []⟩ long bY 0 = (⟨10, 0, []⟩, 1) := by
        unfold putT
        rw [hy, hl]; rfl
      rw [e2]
      exact ⟨.inr ⟨rfl, rfl, .inl rfl⟩, rfl⟩
    · have e2 : putT ⟨10, 0, []⟩ long bY 0 = (⟨10, 1, [⟨long, bY, 0, 1, false⟩]⟩, 0) := by
        unfold putT
        rw [hy, hl]; rfl
      rw [e2]
      exact ⟨.inr ⟨rfl, rfl, .inr ⟨_, rfl, fun e => by have e' : long = name := e; rw [e', hn] at hl; exact absurd hl (by decide)⟩⟩, rfl⟩
  · have e1 : nmT1 name = (⟨10, 1, [⟨name, bX, 0, 1, false⟩]⟩, 0) := by
      unfold nmT1 putT
      rw [hx, hn]; rfl
    rw [e1]
    cases hl : okN long
    · have e2 : putT ⟨10, 1, [⟨name, bX, 0, 1, false⟩]⟩ long bY 0 = (⟨10, 1, [⟨name, bX, 0, 1, false⟩]⟩, 1) := by
        unfold putT
        rw [hy, hl]; rfl
      rw [e2]
      exact ⟨.inl ⟨rfl, rfl, _, .inl ⟨rfl, rfl⟩⟩, rfl⟩
    · by_cases he : name = long
      · subst he
        have hg : get here [(⟨name, bX, 0, 1, false⟩ : Fl)] name.data.toList = some ⟨name, bX, 0, 1, false⟩ := by simp [get, nmL, here]
        have hb : (bX.toList == bY.toList) = false := by rw [toList_eq]; decide
        have e2 : putT ⟨10, 1, [⟨name, bX, 0, 1, false⟩]⟩ name bY 0 = (⟨10, 2, [⟨name, bY, 0, 2, false⟩]⟩, 0) := by
          unfold putT
          rw [hy, hl]
          simp only [if_true, ne_eq, not_true_eq_false, if_false, hg, hb, Bool.false_and, Bool.false_eq_true, setL]
          simp [lt_irr, nmL]
        rw [e2]
        exact ⟨.inl ⟨rfl, rfl, _, .inl ⟨rfl, rfl⟩⟩, rfl⟩
      · have hne : ¬ nmL ⟨name, bX, 0, 1, false⟩ = long.data.toList := fun e => he (ba_ext e)
        have hg : get here [(⟨name, bX, 0, 1, false⟩ : Fl)] long.data.toList = none := by
          rw [get_cons, if_neg (fun e => hne e.1)]; rfl
        by_cases hlt : nmL ⟨name, bX, 0, 1, false⟩ < nmL ⟨long, bY, 0, 1 + 1, false⟩
        · have e2 : putT ⟨10, 1, [⟨name, bX, 0, 1, false⟩]⟩ long bY 0 = (⟨10, 2, [⟨name, bX, 0, 1, false⟩, ⟨long, bY, 0, 2, false⟩]⟩, 0) := by
            unfold putT
            rw [hy, hl]
            simp only [if_true, ne_eq, not_true_eq_false, if_false, hg]
            rw [if_neg (by simp [here]), if_neg (by decide)]
            simp only [setL]
            rw [if_pos hlt]; rfl
          rw [e2]
          exact ⟨.inl ⟨rfl, rfl, _, .inr ⟨_, rfl, .inl rfl⟩⟩, rfl⟩
        · have e2 : putT ⟨10, 1, [⟨name, bX, 0, 1, false⟩]⟩ long bY 0 = (⟨10, 2, [⟨long, bY, 0, 2, false⟩, ⟨name, bX, 0, 1, false⟩]⟩, 0) := by
            unfold putT
            rw [hy, hl]
            simp only [if_true, ne_eq, not_true_eq_false, if_false, hg]
            rw [if_neg (by simp [here]), if_neg (by decide)]
            simp only [setL]
            rw [if_neg hlt, if_neg (show ¬ nmL ⟨name, bX, 0, 1, false⟩ = nmL ⟨long, bY, 0, 1 + 1, false⟩ from hne)]; rfl
          rw [e2]
          exact ⟨.inl ⟨rfl, rfl, _, .inr ⟨_, rfl, .inr ⟨fun e => he e.symm, rfl⟩⟩⟩, rfl⟩
end Go.Proofs.Ytonhfcjldbohbaa.Fi
