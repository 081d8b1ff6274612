/- The pure statement of LexAll. -/
import Derived.Test.YtmbbebdpmffihaaPAx6
import Derived.Test.YtmbbebdpmffihaaMathA04
set_option linter.unusedVariables false
set_option linter.unusedSimpArgs false
namespace Go.Proofs.Ytmbbebdpmffihaa.Pure
open Go.RowKit Go.Proofs.Ytmbbebdpmffihaa.PA Go.Proofs.YtmbbebdpmffihaaW.PrintWords Go.Proofs.YtmbbebdpmffihaaW.PrintLast Go.Proofs.Ytmbbebdpmffihaa.Pl Go.Proofs.Ytmbbebdpmffihaa.Lx Go.Proofs.Ytmbbebdpmffihaa.M04

theorem diags_ev (l : List Dg) (hl : l.length ≤ 100000) : ∀ (d i : Nat) (x : List Dr), l.length - i = d → i ≤ l.length → x.length ≤ i → Ev (fun k => cupellaw04_Diags.l0 k l x (i : Int)) (x ++ (l.drop i).map cvD) := by
  intro d
  induction d with
  | zero =>
    intro i x hd hi hx
    refine Ev.step (fun k => by rw [cupellaw04_Diags.l0]) ?_
    rw [List.drop_eq_nil_of_le (by omega)]
    exact neg (by omega) (now (by simp))
  | succ d ih =>
    intro i x hd hi hx
    have hlt : i < l.length := by omega
    refine Ev.step (fun k => by rw [cupellaw04_Diags.l0]) ?_
    rw [List.drop_eq_getElem_cons hlt, rdG l i hlt, wrap_id (x := (i : Int) + 1) (by omega) (by omega)]
    refine pos (by omega) (pos (by omega) (pos (by omega) (val (ih (i + 1) _ (by omega) (by omega) (by simp; omega)) ?_)))
    rw [List.map_cons, List.append_assoc]
    rfl
theorem sameD_ev (l : List Dr) (hl : l.length ≤ 100000) : ∀ (d i : Nat), l.length - i = d → i ≤ l.length → Ev (fun k => cupelref04_SameDiags.l0 k l l (i : Int)) true := by
  intro d
  induction d with
  | zero =>
    intro i hd hi
    refine Ev.step (fun k => by rw [cupelref04_SameDiags.l0]) ?_
    exact neg (by omega) (now rfl)
  | succ d ih =>
    intro i hd hi
    have hlt : i < l.length := by omega
    refine Ev.step (fun k => by rw [cupelref04_SameDiags.l0]) ?_
    rw [rdGr l i hlt, wrap_id (x := (i : Int) + 1) (by omega) (by omega)]
    exact pos (by omega) (pos (by omega) (pos (by omega) (neg (by simp) (ih (i + 1) (by omega) (by omega)))))
theorem sameDf (l : List Dr) (hl : l.length ≤ 100000) : Ev (fun k => cupelref04_SameDiags.f k l l) true :=
  Ev.congr (f := fun k => if (l.length : Int) = (l.length : Int) then (cupelref04_SameDiags.l0 k l l 0) else (some false)) (fun k => rfl) (pos rfl (sameD_ev l hl _ 0 rfl (by omega)))
theorem all_ev (l : List Tk) (hl : l.length ≤ 100000) : ∀ (d i : Nat), l.length - i = d → i ≤ l.length → Ev (fun k => cupellaw04_LexAll.l0 k l (l.map cvT) (i : Int)) true := by
  intro d
  induction d with
  | zero =>
    intro i hd hi
    refine Ev.step (fun k => by rw [cupellaw04_LexAll.l0]) ?_
    exact neg (by omega) (now rfl)
  | succ d ih =>
    intro i hd hi
    have hlt : i < l.length := by omega
    have hlt2 : i < (l.map cvT).length := by simpa using hlt
    refine Ev.step (fun k => by rw [cupellaw04_LexAll.l0]) ?_
    rw [rdK l i hlt, rdKr _ i hlt2, List.getElem_map, wrap_id (x := (i : Int) + 1) (by omega) (by omega)]
    exact pos (by omega) (pos (by omega) (pos (by omega) (neg (by simp [cvT]) (ih (i + 1) (by omega) (by omega)))))

theorem LexAll : cupellaw04_LexAll.Pure := by
  intro a0 ha
  refine Ev.rounds ?_
  unfold cupellaw04_LexAll.f
  simp only [alive_t]
  refine smb (pos rfl ?_)
  by_cases hs : (a0.size : Int) > 2000
  · exact pos hs (now rfl)
  refine neg hs ?_
  have hl := lexA_len a0.data.toList
  rw [size_data] at hl
  simp only [lex_f a0 (by omega)]
  refine smb (bnd (ref_f a0 (by omega)) ?_)
  refine pos (by simp) (bnd (a := (lexA a0.data.toList).2.map cvD) (val (diags_ev _ (by omega) _ 0 [] rfl (by omega) (by simp)) (by simp)) ?_)
  refine bnd (sameDf ((lexA a0.data.toList).2.map cvD) (by rw [List.length_map]; omega)) ?_
  refine Ev.step (fun k => by rw [cupellaw04_LexAll.j0]) ?_
  exact neg (by decide) (all_ev _ (by omega) _ 0 rfl (by omega))
end Go.Proofs.Ytmbbebdpmffihaa.Pure
