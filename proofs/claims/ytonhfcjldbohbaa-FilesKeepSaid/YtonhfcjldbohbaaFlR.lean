/- files: FilesKeep, plain. -/
import Derived.Test.YtonhfcjldbohbaaFlQ
namespace Go.Proofs.Ytonhfcjldbohbaa.Fi
open Go Go.RowKit Go.ChangeMaps Go.MapKept Go.Proofs.Ytonhfcjldbohbaa.PA Go.Proofs.YtonhfcjldbohbaaW.PrintWords Go.Proofs.YtonhfcjldbohbaaW.PrintLast Go.Proofs.YtonhfcjldbohbaaW.PrintMore
set_option linter.unusedVariables false
set_option linter.unusedSimpArgs false

theorem eqA32 (d : Nat) (w : World) (x0 y0 x1 y1 : ByteArray) (x2 y2 : Int) (x3 y3 : Int) :
    (Op.equalIn (d + 2) 32 (.agg #[.string x0, .string x1, .int .i64 x2, .int .i64 x3]) (.agg #[.string y0, .string y1, .int .i64 y2, .int .i64 y3])).run Try.prog w = .ok (x0.toList == y0.toList && (x1.toList == y1.toList && (x2 == y2 && (x3 == y3)))) w := by
  refine eqA_of Try.underlying32 (by kernel_rfl) ?_
  refine eqf_cons (by rfl) (by go_simp; rfl) (by go_simp; rfl) (by go_simp) ?_
  refine eqf_cons (by rfl) (by go_simp; rfl) (by go_simp; rfl) (by go_simp) ?_
  refine eqf_cons (by rfl) (by go_simp; rfl) (by go_simp; rfl) (by go_simp) ?_
  exact eqf_last (by rfl) (by go_simp; rfl) (by go_simp; rfl) (by go_simp)
def eqF (x y : Fl) : Bool := x.f0.toList == y.f0.toList && (x.f1.toList == y.f1.toList && (x.f2 == y.f2 && (x.f3 == y.f3)))
theorem eqF_iff (x y : Fl) : eqF x y = true ↔ x.f0 = y.f0 ∧ x.f1 = y.f1 ∧ x.f2 = y.f2 ∧ x.f3 = y.f3 := by
  unfold eqF
  rw [toList_eq, toList_eq]
  simp
abbrev zF : Fl := ⟨nil0, nil0, 0, 0, false⟩
/-- Alike, as far as k. -/
def aL (x y : List Fl) (k : Nat) : Bool := (x.length == y.length) && (List.range k).all fun j => eqF (x.getD j zF) (y.getD j zF)
theorem aL_succ (x y : List Fl) (k : Nat) : aL x y (k + 1) = (aL x y k && eqF (x.getD k zF) (y.getD k zF)) := by
  unfold aL
  rw [List.range_succ, List.all_append]
  simp [Bool.and_assoc]
theorem aL_stop {x y : List Fl} {k : Nat} (h : aL x y k = false) : ∀ m, k ≤ m → aL x y m = false := fun m hm => by
  induction m with
  | zero => obtain rfl : k = 0 := by omega
            exact h
  | succ m ih =>
    rcases Nat.lt_or_ge m k with h1 | h1
    · obtain rfl : k = m + 1 := by omega
      exact h
    · rw [aL_succ, ih h1]; rfl
theorem aL_refl (x : List Fl) : aL x x x.length = true := by
  unfold aL
  simp
  intro j hj
  exact (eqF_iff _ _).2 ⟨rfl, rfl, rfl, rfl⟩
theorem aL_true {x y : List Fl} (h : aL x y x.length = true) : x.length = y.length ∧ ∀ j, j < x.length → eqF (x.getD j zF) (y.getD j zF) = true := by
  unfold aL at h
  simp at h
  exact ⟨h.1, fun j hj => by have := h.2 j hj; simpa [List.getD_eq_getElem?_getD] using this⟩
/-- What a call that does something does. -/
def Diff (f : Fl) (l : List Fl) : Prop := (gone f = true ∧ (get here l (nmL f)).isSome = true) ∨ (here f = true ∧ get here l (nmL f) = none) ∨ (here f = true ∧ ∃ g, get here l (nmL f) = some g ∧ ¬ (f.f1 = g.f1 ∧ f.f2 = g.f2))
theorem do_cases (T : Tb) (a : Act13) : (doT T a).1 = T ∨ ((doT T a).2 = 0 ∧ T.rev < T.most ∧ ∃ f, (doT T a).1 = ⟨T.most, T.rev + 1, setL f T.l⟩ ∧ Diff f T.l) := by
  unfold doT
  split
  · unfold putT
    split
    · exact .inl rfl
    · split
      · rename_i hg
        split
        · exact .inl rfl
        · split
          · exact .inl rfl
          · exact .inr ⟨rfl, by omega, _, rfl, .inr (.inl ⟨rfl, hg⟩)⟩
      · rename_i g hg
        split
        · exact .inl rfl
        · rename_i hne
          split
          · exact .inl rfl
          · refine .inr ⟨rfl, by omega, _, rfl, .inr (.inr ⟨rfl, g, hg, fun e => hne ?_⟩)⟩
            have e1 : a.f2 = g.f1 := e.1
            have e2 : a.f3 = g.f2 := e.2
            rw [e1, e2]
            simp
  · unfold dropT
    split
    · exact .inl rfl
    · rename_i g hg
      split
      · exact .inl rfl
      · refine .inr ⟨rfl, by omega, _, rfl, .inl ⟨rfl, ?_⟩⟩
        show (get here T.l a.f1.data.toList).isSome = true
        rw [hg]; rfl
theorem diff_aL {T : Tb} (h : TOk T) {f : Fl} (hd : Diff f T.l) (m r : Int) : aL (allF ⟨m, r, setL f T.l⟩) (allF T) (allF ⟨m, r, setL f T.l⟩).length = false := by
  cases hb : aL (allF ⟨m, r, setL f T.l⟩) (allF T) (allF ⟨m, r, setL f T.l⟩).length with
  | false => rfl
  | true =>
    obtain ⟨h1, h2⟩ := aL_true hb
    have hc := cnt_setL (sel := here) (f := f) h.sorted
    have hl : ((setL f T.l).filter here).length = (T.l.filter here).length := h1
    rcases hd with ⟨g1, g2⟩ | ⟨g1, g2⟩ | ⟨g1, g, g2, g3⟩
    · rw [if_pos g2, if_neg (by simpa [gone, here] using g1)] at hc
      omega
    · rw [g2, if_pos g1] at hc
      simp at hc
      omega
    · have hm : f ∈ (setL f T.l).filter here := by
        have := get_setL (sel := here) (f := f) h.sorted (nmL f)
        rw [if_pos rfl, if_pos g1] at this
        exact List.mem_filter.2 ⟨(get_some this).1, g1⟩
      obtain ⟨j, hj, e⟩ := List.getElem_of_mem hm
      have h3 := h2 j hj
      have hj2 : j < (T.l.filter here).length := by omega
      have e1 : (allF ⟨m, r, setL f T.l⟩).getD j zF = f := by
        show ((setL f T.l).filter here).getD j zF = f
        rw [List.getD_eq_getElem?_getD, List.getElem?_eq_getElem hj, e]; rfl
      have e2 : (allF T).getD j zF = (T.l.filter here)[j] := by
        show (T.l.filter here).getD j zF = _
        rw [List.getD_eq_getElem?_getD, List.getElem?_eq_getElem hj2]; rfl
      rw [e1, e2] at h3
      obtain ⟨q0, q1, q2, _⟩ := (eqF_iff _ _).1 h3
      obtain ⟨p1, p2⟩ := List.mem_filter.1 (List.getElem_mem hj2)
      have := get_of_mem h.sorted p1 p2
      have en : nmL (T.l.filter here)[j] = nmL f := by unfold nmL; rw [← q0]
      rw [en, g2] at this
      obtain rfl := Option.some.inj this
      exact absurd ⟨q1, q2⟩ g3
theorem since_one {T : Tb} (h : TOk T) (f : Fl) (m r : Int) : (sinceF ⟨m, r, setL f T.l⟩ T.rev).length ≤ 1 := by
  unfold sinceF
  rw [List.length_map]
  have hs := sorted_setL (f := f) h.sorted
  have hsub : ((setL f T.l).filter fun x => decide (T.rev < x.f3)).Sublist (setL f T.l) := List.filter_sublist
  have hs2 := hs.sublist hsub
  have hall : ∀ x ∈ ((setL f T.l).filter fun x => decide (T.rev < x.f3)), x = f := fun x hx => by
    obtain ⟨h1, h2⟩ := List.mem_filter.1 hx
    rcases mem_setL h1 with h3 | h3
    · exact h3
    · have := (h.el x h3).2.2.2.2.2
      simp at h2
      omega
  generalize ((setL f T.l).filter fun x => decide (T.rev < x.f3)) = l at hs2 hall
  match l, hs2, hall with
  | [], _, _ => simp
  | [_], _, _ => simp
  | x :: y :: l, hs2, hall =>
    have e1 := hall x (by simp)
    have e2 := hall y (by simp)
    have := (List.pairwise_cons.1 hs2).1 y (by simp)
    rw [e1, e2] at this
    exact absurd this (lt_irr _)
/-- What a call does, and what it leaves. -/
theorem keep_law {T : Tb} (h : TOk T) (a : Act13) (R : Tb) (e : Int) (hR : doT T a = (R, e)) :
    T.rev ≤ R.rev ∧ R.rev ≤ T.rev + 1 ∧ R.most = T.most ∧ (e ≠ 0 → R.rev = T.rev) ∧ aL (allF R) (allF T) (allF R).length = decide (R.rev = T.rev) ∧ (sinceF R T.rev).length ≤ 1 := by
  have hd := do_cases T a
  rw [hR] at hd
  rcases hd with hd | ⟨h1, h2, f, hf, hdf⟩
  · have hd' : R = T := hd
    subst hd'
    exact ⟨Int.le_refl _, by omega, rfl, fun _ => rfl, by rw [aL_refl]; simp, by rw [since_now h]; simp⟩
  · have hf' : R = ⟨T.most, T.rev + 1, setL f T.l⟩ := hf
    subst hf'
    refine ⟨by show T.rev ≤ T.rev + 1; omega, Int.le_refl _, rfl, fun he => absurd h1 he, ?_, since_one h f _ _⟩
    rw [diff_aL h hdf]
    symm
    exact decide_eq_false (by show ¬ T.rev + 1 = T.rev; omega)
end Go.Proofs.Ytonhfcjldbohbaa.Fi
