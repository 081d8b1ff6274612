/- The pure statement of DiagOrder. -/
import Derived.Test.YteinhpfjlfeaaaaDoorPAx10
import Derived.Test.YteinhpfjlfeaaaaDoorMathE19
set_option linter.unusedVariables false
set_option linter.unusedSimpArgs false
namespace Go.Proofs.YteinhpfjlfeaaaaDoor.Pure
open Go.RowKit Go.Proofs.YteinhpfjlfeaaaaDoor.PA Go.Proofs.YteinhpfjlfeaaaaDoorW.PrintWords Go.Proofs.YteinhpfjlfeaaaaDoorW.PrintLast Go.Proofs.YteinhpfjlfeaaaaDoor.Pl Go.Proofs.YteinhpfjlfeaaaaDoor.M19
open Go.Proofs.YteinhpfjlfeaaaaDoor.Of hiding pos

theorem offs_none (s : ByteArray) (a b : Int) (h : ∀ i : Nat, i ≤ s.size → ¬ (((lnc (s.data.toList.take i)).1 : Int) = a ∧ ((lnc (s.data.toList.take i)).2 : Int) = b)) : (offs s a b).2 = false := by
  cases hb : (offs s a b).2 with
  | false => rfl
  | true =>
    obtain ⟨i, _, g1, g2, g3⟩ := offs_only s a b (offs s a b).1 (by rw [← hb])
    exact absurd ⟨g2, g3⟩ (h i g1)
/-- Later places have later lines, or later columns. -/
theorem lnc_lt (s : ByteArray) (i j : Nat) (hij : i < j) (hj : j ≤ s.size) : (lnc (s.data.toList.take i)).1 < (lnc (s.data.toList.take j)).1 ∨ ((lnc (s.data.toList.take i)).1 = (lnc (s.data.toList.take j)).1 ∧ (lnc (s.data.toList.take i)).2 < (lnc (s.data.toList.take j)).2) := by
  induction j with
  | zero => omega
  | succ j ih =>
    have hlt : j < s.data.toList.length := by rw [size_data]; omega
    have hn := lnc_snoc (s.data.toList.take j) s.data.toList[j]
    rw [← List.take_succ_eq_append_getElem hlt] at hn
    rw [hn]
    by_cases he : i = j
    · subst he; split <;> simp
    · have := ih (by omega) (by omega)
      split <;> simp only <;> omega
theorem order_l0 (s : ByteArray) (hs : s.size ≤ 300) : ∀ (d i : Nat), s.size + 1 - i = d → i ≤ s.size + 1 → ∀ (x y : Int), (i = 0 → x = 1 ∧ y = 0) → (1 ≤ i → x = ((lnc (s.data.toList.take (i - 1))).1 : Int) ∧ y = ((lnc (s.data.toList.take (i - 1))).2 : Int)) →
    Ev (fun k => cupellaw19_DiagOrder.l0 k s x y (i : Int)) true := by
  intro d
  induction d with
  | zero =>
    intro i hd hi x y _ hxy
    obtain rfl : i = s.size + 1 := by omega
    obtain ⟨rfl, rfl⟩ := hxy (by omega)
    rw [show s.size + 1 - 1 = s.size by omega]
    refine Ev.step (fun k => by rw [cupellaw19_DiagOrder.l0]) (neg (by omega) ?_)
    have hl := lnc_le (s.data.toList.take s.size)
    have htl : (s.data.toList.take s.size).length ≤ s.size := by rw [List.length_take]; omega
    have h1 : (offs s ((lnc (s.data.toList.take s.size)).1 : Int) (((lnc (s.data.toList.take s.size)).2 : Int) + 1)).2 = false := by
      refine offs_none s _ _ (fun i hi ⟨e1, e2⟩ => ?_)
      by_cases he : i = s.size
      · subst he; omega
      · have := lnc_lt s i s.size (by omega) (Nat.le_refl _); omega
    have h2 : (offs s (((lnc (s.data.toList.take s.size)).1 : Int) + 1) 1).2 = false := by
      refine offs_none s _ _ (fun i hi ⟨e1, e2⟩ => ?_)
      by_cases he : i = s.size
      · subst he; omega
      · have := lnc_lt s i s.size (by omega) (Nat.le_refl _); omega
    have h3 : (offs s 1 0).2 = false := by
      refine offs_none s _ _ (fun i hi ⟨e1, e2⟩ => ?_)
      have := lnc_le (s.data.toList.take i); omega
    rw [wrap_id (by omega) (by omega), wrap_id (by omega) (by omega), offset_f s (by omega) _ _ (by omega), offset_f s (by omega) _ _ (by omega), offset_f s (by omega) _ _ (by omega)]
    refine smb (smb (smb (neg (by rw [h1]; decide) (neg (by rw [h2]; decide) (now (by rw [h3]; rfl))))))
  | succ d ih =>
    intro i hd hi x y h0 hxy
    refine Ev.step (fun k => by rw [cupellaw19_DiagOrder.l0]) (pos (by omega) ?_)
    have hl := lnc_le (s.data.toList.take i)
    have htl : (s.data.toList.take i).length ≤ i := by rw [List.length_take]; omega
    rw [place_f s (by omega) (i : Int), show min s.size (i : Int).toNat = i by omega]
    refine smb ?_
    have hback := offs_back s i (by omega)
    have hof := offset_f s (by omega) ((lnc (s.data.toList.take i)).1 : Int) ((lnc (s.data.toList.take i)).2 : Int) (by omega)
    rw [hback] at hof
    have hnext := ih (i + 1) (by omega) (by omega) ((lnc (s.data.toList.take i)).1 : Int) ((lnc (s.data.toList.take i)).2 : Int) (by omega) (fun _ => by rw [Nat.add_sub_cancel]; exact ⟨rfl, rfl⟩)
    have hw : wrap64 ((i : Int) + 1) = ((i + 1 : Nat) : Int) := by rw [wrap_id (by omega) (by omega)]; rfl
    by_cases hi0 : i = 0
    · subst hi0
      obtain ⟨rfl, rfl⟩ := h0 rfl
      refine neg (by decide) (Ev.step (fun k => by rw [cupellaw19_DiagOrder.j1]) (neg (by decide) (pos (by rfl) ?_)))
      refine Ev.step (fun k => by rw [cupellaw19_DiagOrder.j3]) (neg (by show ¬ (((1 : Nat) : Int) != wrap64 (0 + 1)) = true; rw [wrap_id (by decide) (by decide)]; decide) ?_)
      simp only
      rw [hof]
      refine smb (pos rfl (pos rfl ?_))
      rw [hw]
      exact hnext
    · obtain ⟨rfl, rfl⟩ := hxy (by omega)
      have hlt : i - 1 < s.data.toList.length := by rw [size_data]; omega
      have hn := lnc_snoc (s.data.toList.take (i - 1)) s.data.toList[i - 1]
      rw [← List.take_succ_eq_append_getElem hlt, show i - 1 + 1 = i by omega] at hn
      have hb := bt_data s (i - 1) (by omega)
      have hl1 := lnc_le (s.data.toList.take (i - 1))
      have htl1 : (s.data.toList.take (i - 1)).length ≤ i := by rw [List.length_take]; omega
      rw [wrap_id (x := (i : Int) - 1) (by omega) (by omega), show (i : Int) - 1 = ((i - 1 : Nat) : Int) by omega, hb]
      refine pos (by omega) (pos (by omega) (pos (by omega) ?_))
      refine Ev.step (fun k => by rw [cupellaw19_DiagOrder.j1]) ?_
      rw [wrap_id (x := ((lnc (s.data.toList.take (i - 1))).1 : Int) + 1) (by omega) (by omega), wrap_id (x := ((lnc (s.data.toList.take (i - 1))).2 : Int) + 1) (by omega) (by omega)]
      by_cases h10 : s.data.toList[i - 1] = 10
      · rw [if_pos h10] at hn
        have e1 : (((lnc (s.data.toList.take i)).1 : Nat) : Int) = ((lnc (s.data.toList.take (i - 1))).1 : Int) + 1 := by rw [hn]; rfl
        have e2 : (((lnc (s.data.toList.take i)).2 : Nat) : Int) = 1 := by rw [hn]; rfl
        refine pos (by rw [h10]; rfl) (pos e1 ?_)
        refine Ev.step (fun k => by rw [cupellaw19_DiagOrder.j2]) (neg (by simp only; rw [e2]; decide) ?_)
        simp only
        rw [hof]
        refine smb (pos rfl (pos rfl ?_))
        rw [hw]
        exact hnext
      · rw [if_neg h10] at hn
        have e1 : (((lnc (s.data.toList.take i)).1 : Nat) : Int) = ((lnc (s.data.toList.take (i - 1))).1 : Int) := by rw [hn]
        have e2 : (((lnc (s.data.toList.take i)).2 : Nat) : Int) = ((lnc (s.data.toList.take (i - 1))).2 : Int) + 1 := by rw [hn]; rfl
        have hne : ¬ (((s.data.toList[i - 1].toNat : Nat) : Int) == 10) = true := fun e => h10 (UInt8.toNat_inj.1 (by rw [show (10 : UInt8).toNat = 10 from rfl]; have := beq_iff_eq.1 e; omega))
        refine neg hne (pos e1 ?_)
        refine Ev.step (fun k => by rw [cupellaw19_DiagOrder.j3]) (neg (by simp only; rw [e2]; simp) ?_)
        simp only
        rw [hof]
        refine smb (pos rfl (pos rfl ?_))
        rw [hw]
        exact hnext
theorem DiagOrder : cupellaw19_DiagOrder.Pure := by
  intro a0 w0
  refine Ev.rounds ?_
  unfold cupellaw19_DiagOrder.f
  simp only [alive_t]
  refine smb (pos rfl ?_)
  by_cases hs : (a0.size : Int) > 300
  · exact pos hs (now rfl)
  exact neg hs (order_l0 a0 (by omega) (a0.size + 1) 0 rfl (by omega) 1 0 (fun _ => ⟨rfl, rfl⟩) (fun h => by omega))
end Go.Proofs.YteinhpfjlfeaaaaDoor.Pure
