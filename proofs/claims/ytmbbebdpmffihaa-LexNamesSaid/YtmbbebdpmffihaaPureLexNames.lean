/- The pure statement of LexNames. -/
import Derived.Test.YtmbbebdpmffihaaPAx10
import Derived.Test.YtmbbebdpmffihaaRef04
import Derived.Test.YtmbbebdpmffihaaMathA04
set_option linter.unusedVariables false
set_option linter.unusedSimpArgs false
namespace Go.Proofs.Ytmbbebdpmffihaa.Pure
open Go.RowKit Go.Proofs.Ytmbbebdpmffihaa.PA Go.Proofs.YtmbbebdpmffihaaW.PrintWords Go.Proofs.YtmbbebdpmffihaaW.PrintLast Go.Proofs.Ytmbbebdpmffihaa.Pl Go.Proofs.Ytmbbebdpmffihaa.Lx Go.Proofs.Ytmbbebdpmffihaa.M04

theorem sameL_refl : ∀ l : List Tk, sameL l l = true
  | [] => rfl
  | a :: l => by rw [sameL, sameL_refl l]; simp [sameT]

theorem names_ev (x0 : ByteArray) (nm : Bool) (hnm : lex_Name.f x0 = some nm) (l m : List Tk) (hl : l.length ≤ 100000) : ∀ (d i : Nat) (q : Bool), l.length - i = d → i ≤ l.length → sameL l m = (q && sameL (l.drop i) (m.drop i)) → (q = true → l.length = m.length) →
    Ev (fun k => cupellaw04_LexNames.l0 k x0 (l.map cvT) nm l m (m.map cvT) q (i : Int)) true := by
  have hfin : ∀ q : Bool, sameL l m = q → Ev (fun k => (lex_Name.f x0).bind fun t360 => (if (t360 == nm) = true then ((lex_Same.f l m).bind fun t361 => (if (t361 == q) = true then ((lex_Same.f l l).bind fun t362 => (some t362)) else (some false))) else (some false))) true := by
    intro q hq
    simp only [hnm, lex_Same.f, hq, sameL_refl]
    refine smb (pos (by simp) (smb (pos (by simp) (smb (now rfl)))))
  intro d
  induction d with
  | zero =>
    intro i q hd hi hs hle
    obtain rfl : i = l.length := by omega
    refine Ev.step (fun k => by rw [cupellaw04_LexNames.l0]) ?_
    cases q with
    | false => exact neg (by decide) (hfin false (by rw [hs]; rfl))
    | true =>
      have := hle rfl
      rw [List.drop_eq_nil_of_le (by omega), List.drop_eq_nil_of_le (by omega)] at hs
      exact pos rfl (neg (by rw [List.length_map]; omega) (hfin true (by rw [hs]; rfl)))
  | succ d ih =>
    intro i q hd hi hs hle
    refine Ev.step (fun k => by rw [cupellaw04_LexNames.l0]) ?_
    cases q with
    | false => exact neg (by decide) (hfin false (by rw [hs]; rfl))
    | true =>
      have hlen := hle rfl
      have hlt : i < l.length := by omega
      have hlt2 : i < m.length := by omega
      have h1 : i < (l.map cvT).length := by simpa using hlt
      have h2 : i < (m.map cvT).length := by simpa using hlt2
      rw [rdKr _ i h1, rdKr _ i h2, List.getElem_map, List.getElem_map, wrap_id (x := (i : Int) + 1) (by omega) (by omega)]
      rw [List.drop_eq_getElem_cons hlt, List.drop_eq_getElem_cons hlt2, sameL] at hs
      refine pos rfl (pos (by rw [List.length_map]; omega) (pos (by omega) (pos (by rw [List.length_map]; omega) ?_)))
      by_cases hk : l[i].f0 = m[i].f0
      · refine pos hk (ih (i + 1) _ (by omega) (by omega) ?_ (fun _ => hlen))
        rw [hs, sameT, beq_iff_eq.2 hk]; rfl
      · refine neg hk (ih (i + 1) _ (by omega) (by omega) ?_ (fun _ => hlen))
        rw [hs, sameT, beq_eq_false_iff_ne.2 hk]; rfl

theorem LexNames : cupellaw04_LexNames.Pure := by
  intro a0 a1 h0 h1
  refine Ev.rounds ?_
  unfold cupellaw04_LexNames.f
  simp only [alive_t]
  refine smb (pos rfl ?_)
  by_cases hs : (a0.size : Int) > 300
  · exact pos hs (Ev.step (fun k => by rw [cupellaw04_LexNames.j0]) (pos rfl (now rfl)))
  refine neg hs ?_
  by_cases ht : (a1.size : Int) > 300
  · rw [decide_eq_true ht]
    exact Ev.step (fun k => by rw [cupellaw04_LexNames.j0]) (pos rfl (now rfl))
  rw [decide_eq_false ht]
  refine Ev.step (fun k => by rw [cupellaw04_LexNames.j0]) (neg (by decide) (bnd (ref_f a0 (by omega)) ?_))
  have hl := lexA_len a0.data.toList
  rw [size_data] at hl
  have key : ∀ nm, lex_Name.f a0 = some nm → Ev (fun k => cupellaw04_LexNames.j1 k a0 a1 ((lexA a0.data.toList).1.map cvT) nm) true := by
    intro nm hnm
    refine Ev.step (fun k => by rw [cupellaw04_LexNames.j1]) ?_
    simp only [lex_f a0 (show a0.size ≤ 1000000000 by omega), lex_f a1 (show a1.size ≤ 1000000000 by omega)]
    refine smb (smb (bnd (ref_f a1 (by omega)) ?_))
    refine names_ev a0 nm hnm _ _ (by omega) _ 0 _ rfl (by omega) ?_ ?_
    · rw [List.drop_zero, List.drop_zero, List.length_map, List.length_map]
      by_cases hq : (lexA a0.data.toList).1.length = (lexA a1.data.toList).1.length
      · rw [beq_iff_eq.2 (by omega)]; rfl
      · rw [beq_eq_false_iff_ne.2 (by omega), sameL_len hq]; rfl
    · intro hq
      have := beq_iff_eq.1 hq
      simp only [List.length_map] at this
      omega
  have hN : lex_Name.f a0 = (if ((lexA a0.data.toList).1.length : Int) = 2 then (if 0 < ((lexA a0.data.toList).1.length : Int) then (if ((rd_T35 (lexA a0.data.toList).1 0).f0) = 1 then (some (((rd_T35 (lexA a0.data.toList).1 0).f2).toList == a0.toList)) else (some false)) else (none)) else (some false)) := by
    unfold lex_Name.f
    rw [lex_f a0 (by omega)]; rfl
  generalize hL : (lexA a0.data.toList).1 = L at *
  by_cases h2 : (L.length : Int) = 2
  · have hlt : 0 < L.length := by omega
    have hlt2 : 0 < (L.map cvT).length := by rw [List.length_map]; omega
    rw [if_pos h2, if_pos (by omega)] at hN
    refine pos (show ((L.map cvT).length : Int) = 2 by rw [List.length_map]; exact h2) (pos (show (0 : Int) < ((L.map cvT).length : Int) by omega) ?_)
    have e1 : rd_T35 L 0 = L[0] := rdK L 0 hlt
    have e2 : rd_T34 (L.map cvT) 0 = cvT L[0] := by rw [← List.getElem_map cvT (h := hlt2)]; exact rdKr _ 0 hlt2
    rw [e1] at hN
    rw [e2]
    by_cases h3 : L[0].f0 = 1
    · rw [if_pos h3] at hN
      exact pos h3 (key _ hN)
    · rw [if_neg h3] at hN
      exact neg h3 (key _ hN)
  · rw [if_neg h2] at hN
    exact neg (show ¬ ((L.map cvT).length : Int) = 2 by rw [List.length_map]; exact h2) (key _ hN)
end Go.Proofs.Ytmbbebdpmffihaa.Pure
