/- The pure statement of DiagPlaces. -/
import Derived.Test.YteinhpfjlfeaaaaDoorPAx9
import Derived.Test.YteinhpfjlfeaaaaDoorMathE19
set_option linter.unusedVariables false
set_option linter.unusedSimpArgs false
namespace Go.Proofs.YteinhpfjlfeaaaaDoor.Pure
open Go.RowKit Go.Proofs.YteinhpfjlfeaaaaDoor.PA Go.Proofs.YteinhpfjlfeaaaaDoorW.PrintWords Go.Proofs.YteinhpfjlfeaaaaDoorW.PrintLast Go.Proofs.YteinhpfjlfeaaaaDoor.Pl Go.Proofs.YteinhpfjlfeaaaaDoor.M19
open Go.Proofs.YteinhpfjlfeaaaaDoor.Of hiding pos

theorem i64w {x : Int} (h : (Lit.int .i64 x).wf = true) : -9223372036854775808 ≤ x ∧ x ≤ 9223372036854775807 := by
  simp only [Lit.wf, Bool.and_eq_true, decide_eq_true_eq] at h
  have e1 : IntKind.i64.min = -9223372036854775808 := by decide
  have e2 : IntKind.i64.max = 9223372036854775807 := by decide
  rw [e1, e2] at h
  exact h
/-- Which of the first places lies there: the last one. -/
def last (s : ByteArray) (a b : Int) : Nat → Int
  | 0 => -1
  | i + 1 => if ((lnc (s.data.toList.take i)).1 : Int) = a ∧ ((lnc (s.data.toList.take i)).2 : Int) = b then (i : Int) else last s a b i
theorem last_none {s : ByteArray} {a b : Int} : ∀ i, (∀ j < i, ¬ (((lnc (s.data.toList.take j)).1 : Int) = a ∧ ((lnc (s.data.toList.take j)).2 : Int) = b)) → last s a b i = -1
  | 0, _ => rfl
  | i + 1, h => by rw [last, if_neg (h i (by omega)), last_none i (fun j hj => h j (by omega))]
theorem last_offs (s : ByteArray) (a b : Int) : offs s a b = if last s a b (s.size + 1) < 0 then (0, false) else (last s a b (s.size + 1), true) := by
  cases hb : (offs s a b).2 with
  | false =>
    have h1 := offs_no s a b hb
    have h2 : last s a b (s.size + 1) = -1 := by
      refine last_none _ (fun j hj ⟨e1, e2⟩ => ?_)
      have := offs_back s j (by omega)
      rw [e1, e2] at this
      rw [this] at hb
      cases hb
    rw [h2, if_pos (by decide), ← h1, ← hb]
  | true =>
    obtain ⟨i, h1, h2, e1, e2⟩ := offs_only s a b (offs s a b).1 (by rw [← hb])
    have key : ∀ m, i < m → m ≤ s.size + 1 → last s a b m = (i : Int) := by
      intro m
      induction m with
      | zero => omega
      | succ m ih =>
        intro hm hs
        rw [last]
        by_cases hc : ((lnc (s.data.toList.take m)).1 : Int) = a ∧ ((lnc (s.data.toList.take m)).2 : Int) = b
        · rw [if_pos hc]
          have q1 := offs_back s m (by omega)
          rw [hc.1, hc.2] at q1
          have q2 := offs_back s i h2
          rw [e1, e2, q1] at q2
          exact (Prod.mk.inj q2).1
        · rw [if_neg hc]
          have : i ≠ m := fun e => hc (by rw [← e]; exact ⟨e1, e2⟩)
          exact ih (by omega) (by omega)
    rw [key _ (by omega) (by omega), if_neg (by omega), ← h1, ← hb]
theorem ref_ev (s : ByteArray) (hs : s.size ≤ 100000) (at_ : Int) : Ev (fun k => cupelref19_Place.f k s at_) (((lnc (s.data.toList.take (min s.size at_.toNat))).1 : Int), ((lnc (s.data.toList.take (min s.size at_.toNat))).2 : Int)) := by
  have := refPlace_ev s hs at_ s.size 0 (by omega) (by omega) (.inr rfl)
  exact this
theorem places_l0 (s : ByteArray) (hs : s.size ≤ 600) (a b n : Int) (is : Bool) (ho : offs s a b = (n, is)) : ∀ (d i : Nat), s.size + 1 - i = d → i ≤ s.size + 1 →
    Ev (fun k => cupellaw19_DiagPlaces.l0 k s a b n is (last s a b i) (i : Int)) true := by
  intro d
  induction d with
  | zero =>
    intro i hd hi
    obtain rfl : i = s.size + 1 := by omega
    refine Ev.step (fun k => by rw [cupellaw19_DiagPlaces.l0]) (neg (by omega) ?_)
    rw [last_offs] at ho
    by_cases h : last s a b (s.size + 1) < 0
    · rw [if_pos h] at ho
      obtain ⟨rfl, rfl⟩ := Prod.mk.inj ho
      exact pos (by rw [decide_eq_false (by omega)]; rfl) (neg (by decide) (pos rfl (now rfl)))
    · rw [if_neg h] at ho
      obtain ⟨rfl, rfl⟩ := Prod.mk.inj ho
      exact pos (by rw [decide_eq_true (by omega)]; rfl) (pos rfl (now (by simp)))
  | succ d ih =>
    intro i hd hi
    refine Ev.step (fun k => by rw [cupellaw19_DiagPlaces.l0]) (pos (by omega) ?_)
    have hr := ref_ev s (by omega) (i : Int)
    rw [show min s.size (i : Int).toNat = i by omega] at hr
    refine bnd hr ?_
    have hnext := ih (i + 1) (by omega) (by omega)
    have hw : wrap64 ((i : Int) + 1) = ((i + 1 : Nat) : Int) := by rw [wrap_id (by omega) (by omega)]; rfl
    rw [hw]
    rw [last] at hnext
    by_cases h1 : ((lnc (s.data.toList.take i)).1 : Int) = a
    · refine pos h1 ?_
      by_cases h2 : ((lnc (s.data.toList.take i)).2 : Int) = b
      · rw [if_pos ⟨h1, h2⟩] at hnext
        exact pos h2 hnext
      · rw [if_neg (fun e => h2 e.2)] at hnext
        exact neg h2 hnext
    · rw [if_neg (fun e => h1 e.1)] at hnext
      exact neg h1 hnext
theorem DiagPlaces : cupellaw19_DiagPlaces.Pure := by
  intro a0 a1 a2 a3 w0 w1 w2 w3
  have b1 := i64w w1
  have b3 := i64w w3
  refine Ev.rounds ?_
  unfold cupellaw19_DiagPlaces.f
  simp only [alive_t]
  refine smb (pos rfl ?_)
  by_cases hs : (a0.size : Int) > 600
  · exact pos hs (now rfl)
  refine neg hs ?_
  rw [place_f a0 (by omega) a1]
  refine smb (bnd (ref_ev a0 (by omega) a1) ?_)
  have hl := lnc_le (a0.data.toList.take (min a0.size a1.toNat))
  have htl : (a0.data.toList.take (min a0.size a1.toNat)).length ≤ a0.size := by rw [List.length_take, size_data]; omega
  simp only
  rw [offset_f a0 (by omega) _ _ (by omega), offs_back a0 _ (by omega)]
  refine smb ?_
  simp only
  have hfin : Ev (fun k => cupellaw19_DiagPlaces.j2 k a0 a2 a3 false) true := by
    refine Ev.step (fun k => by rw [cupellaw19_DiagPlaces.j2]) (neg (by decide) ?_)
    rw [offset_f a0 (by omega) _ _ b3]
    refine smb ?_
    exact places_l0 a0 (by omega) a2 a3 _ _ rfl (a0.size + 1) 0 rfl (by omega)
  have hj1 : ∀ x : Int, x = ((min a0.size a1.toNat : Nat) : Int) → Ev (fun k => cupellaw19_DiagPlaces.j1 k a0 a2 a3 ((lnc (a0.data.toList.take (min a0.size a1.toNat))).1 : Int) ((lnc (a0.data.toList.take (min a0.size a1.toNat))).2 : Int) ((lnc (a0.data.toList.take (min a0.size a1.toNat))).1 : Int) ((lnc (a0.data.toList.take (min a0.size a1.toNat))).2 : Int) ((min a0.size a1.toNat : Nat) : Int) true x) true := by
    rintro x rfl
    refine Ev.step (fun k => by rw [cupellaw19_DiagPlaces.j1]) (pos rfl (pos rfl (pos rfl ?_)))
    rw [bne_self_eq_false]
    exact hfin
  have hj0 : ∀ x : Int, (if x > (a0.size : Int) then (a0.size : Int) else x) = ((min a0.size a1.toNat : Nat) : Int) → Ev (fun k => cupellaw19_DiagPlaces.j0 k a0 a2 a3 ((lnc (a0.data.toList.take (min a0.size a1.toNat))).1 : Int) ((lnc (a0.data.toList.take (min a0.size a1.toNat))).2 : Int) ((lnc (a0.data.toList.take (min a0.size a1.toNat))).1 : Int) ((lnc (a0.data.toList.take (min a0.size a1.toNat))).2 : Int) ((min a0.size a1.toNat : Nat) : Int) true x) true := by
    intro x hx
    refine Ev.step (fun k => by rw [cupellaw19_DiagPlaces.j0]) ?_
    by_cases h : x > (a0.size : Int)
    · rw [if_pos h] at hx
      exact pos h (hj1 _ hx)
    · rw [if_neg h] at hx
      exact neg h (hj1 _ hx)
  by_cases hneg : a1 < 0
  · exact pos hneg (hj0 0 (by rw [if_neg (by omega)]; omega))
  · exact neg hneg (hj0 a1 (by split <;> omega))
end Go.Proofs.YteinhpfjlfeaaaaDoor.Pure
