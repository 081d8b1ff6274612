/- Plain lemmas of chapter 19, third part: places. -/
import Derived.Test.YteinhpfjlfeaaaaDoorMathB19
import Derived.Test.YteinhpfjlfeaaaaDoorPAx5
set_option linter.unusedVariables false
set_option linter.unusedSimpArgs false
namespace Go.Proofs.YteinhpfjlfeaaaaDoor.M19
open Go.RowKit Go.Proofs.YteinhpfjlfeaaaaDoor.PA Go.Proofs.YteinhpfjlfeaaaaDoorW.PrintWords Go.Proofs.YteinhpfjlfeaaaaDoorW.PrintLast Go.Proofs.YteinhpfjlfeaaaaDoor.Pl

/-- Line and column behind some bytes. -/
def lnc (l : List UInt8) : Nat × Nat := l.foldl (fun p b => if b = 10 then (p.1 + 1, 1) else (p.1, p.2 + 1)) (1, 1)
theorem lnc_snoc (l : List UInt8) (b : UInt8) : lnc (l ++ [b]) = if b = 10 then ((lnc l).1 + 1, 1) else ((lnc l).1, (lnc l).2 + 1) := by
  unfold lnc; rw [List.foldl_append]; rfl
theorem lnc_le (l : List UInt8) : (lnc l).1 ≤ l.length + 1 ∧ (lnc l).2 ≤ l.length + 1 ∧ 1 ≤ (lnc l).1 ∧ 1 ≤ (lnc l).2 := by
  have key : ∀ n (l : List UInt8), l.length = n → (lnc l).1 ≤ l.length + 1 ∧ (lnc l).2 ≤ l.length + 1 ∧ 1 ≤ (lnc l).1 ∧ 1 ≤ (lnc l).2 := by
    intro n
    induction n with
    | zero => intro l h; obtain rfl := List.length_eq_zero_iff.1 h; exact ⟨by decide, by decide, by decide, by decide⟩
    | succ n ih =>
      intro l h
      have hne : l ≠ [] := by rintro rfl; simp at h
      obtain ⟨m, b, rfl⟩ : ∃ m b, l = m ++ [b] := ⟨l.dropLast, l.getLast hne, (List.dropLast_concat_getLast hne).symm⟩
      have := ih m (by simp at h; exact h)
      rw [lnc_snoc, List.length_append, List.length_singleton]
      split <;> simp only <;> omega
  exact key _ l rfl
theorem lnc_line (l : List UInt8) : (lnc l).1 = 1 + Lib.countByte l 10 := by
  have key : ∀ n (l : List UInt8), l.length = n → (lnc l).1 = 1 + Lib.countByte l 10 := by
    intro n
    induction n with
    | zero => intro l h; obtain rfl := List.length_eq_zero_iff.1 h; rfl
    | succ n ih =>
      intro l h
      have hne : l ≠ [] := by rintro rfl; simp at h
      obtain ⟨m, b, rfl⟩ : ∃ m b, l = m ++ [b] := ⟨l.dropLast, l.getLast hne, (List.dropLast_concat_getLast hne).symm⟩
      have := ih m (by simp at h; exact h)
      rw [lnc_snoc, Lib.countByte, List.count_append, List.count_singleton]
      simp only [Lib.countByte] at this
      by_cases hb : b = 10
      · simp [hb, this]; omega
      · simp [hb, this]
  exact key _ l rfl
/-- The reference's walk. -/
theorem refPlace_ev (src : ByteArray) (hs : src.size ≤ 100000) (at_ : Int) : ∀ (d i : Nat), src.size - i = d → i ≤ src.size → ((i : Int) ≤ at_ ∨ i = 0) →
    Ev (fun k => cupelref19_Place.l0 k src at_ ((lnc (src.data.toList.take i)).1 : Int) ((lnc (src.data.toList.take i)).2 : Int) (i : Int)) (((lnc (src.data.toList.take (min src.size at_.toNat))).1 : Int), ((lnc (src.data.toList.take (min src.size at_.toNat))).2 : Int)) := by
  intro d
  induction d with
  | zero =>
    intro i hd hi ha
    obtain rfl : i = src.size := by omega
    refine Ev.step (fun k => by rw [cupelref19_Place.l0]) (neg (by omega) ?_)
    refine Ev.step (fun k => by rw [cupelref19_Place.j1]) (neg (by decide) (now ?_))
    rw [show min src.size at_.toNat = src.size by omega]
  | succ d ih =>
    intro i hd hi ha
    have hlt : i < src.data.toList.length := by rw [size_data]; omega
    have hll := lnc_le (src.data.toList.take i)
    have htl : (src.data.toList.take i).length ≤ i := by rw [List.length_take]; omega
    refine Ev.step (fun k => by rw [cupelref19_Place.l0]) (pos (by omega) ?_)
    refine Ev.step (fun k => by rw [cupelref19_Place.j1]) ?_
    by_cases h : (i : Int) < at_
    · rw [decide_eq_true h]
      refine pos rfl (pos (by omega) (pos (by omega) ?_))
      have hb := bt_data src i (by omega)
      have hn := lnc_snoc (src.data.toList.take i) src.data.toList[i]
      rw [← List.take_succ_eq_append_getElem hlt] at hn
      have ihh := ih (i + 1) (by omega) (by omega) (.inl (by omega))
      rw [hb, wrap_id (x := (i : Int) + 1) (by omega) (by omega)]
      by_cases h10 : src.data.toList[i] = 10
      · rw [if_pos h10] at hn
        rw [hn] at ihh
        refine pos (by rw [h10]; rfl) ?_
        rw [wrap_id (by omega) (by omega)]
        exact ihh
      · rw [if_neg h10] at hn
        rw [hn] at ihh
        refine neg (fun e => h10 (UInt8.toNat_inj.1 (by rw [show (10 : UInt8).toNat = 10 from rfl]; omega))) ?_
        rw [wrap_id (by omega) (by omega)]
        exact ihh
    · rw [decide_eq_false h]
      refine neg (by decide) (now ?_)
      rw [show min src.size at_.toNat = i by omega]
theorem lastIdx_lnc (s : ByteArray) : ∀ k : Nat, k ≤ s.size → (k : Int) - Lib.lastIdx s 10 k = ((lnc (s.data.toList.take k)).2 : Int)
  | 0, _ => rfl
  | k + 1, h => by
    have ih := lastIdx_lnc s k (by omega)
    have hlt : k < s.data.toList.length := by rw [size_data]; omega
    have hn := lnc_snoc (s.data.toList.take k) s.data.toList[k]
    rw [← List.take_succ_eq_append_getElem hlt] at hn
    have hg : s.data[k]! = s.data.toList[k] := by
      have : k < s.data.size := by rw [Array.length_toList] at hlt; exact hlt
      rw [getElem!_pos s.data k this, Array.getElem_toList]
    rw [hn, Lib.lastIdx, hg]
    by_cases h10 : s.data.toList[k] = 10
    · rw [if_pos h10, if_pos (by rw [h10]; rfl)]; simp only; omega
    · rw [if_neg h10, if_neg (fun e => h10 (UInt8.toNat_inj.1 (by rw [show (10 : UInt8).toNat = 10 from rfl]; omega)))]; simp only; omega
theorem place_f (src : ByteArray) (hs : src.size ≤ 100000) (at_ : Int) : diag_Place.f src at_ = some (((lnc (src.data.toList.take (min src.size at_.toNat))).1 : Int), ((lnc (src.data.toList.take (min src.size at_.toNat))).2 : Int)) := by
  generalize hm : min src.size at_.toNat = m
  have hc : mx 0 (mn at_ (src.size : Int)) = (m : Int) := by
    unfold mx mn
    split <;> split <;> omega
  have he : (src.extract 0 ((m : Int)).toNat).data.toList = src.data.toList.take m := by
    rw [ext_data, List.drop_zero, Nat.sub_zero, Int.toNat_natCast]
  have hz : (src.extract 0 ((m : Int)).toNat).size = m := by rw [size_ext, Int.toNat_natCast]; omega
  have hl := lnc_le (src.data.toList.take m)
  have htl : (src.data.toList.take m).length ≤ m := by rw [List.length_take]; omega
  unfold diag_Place.f
  rw [hc, if_pos (by omega), if_pos (by omega)]
  have h1 : strings_Count.f (src.extract 0 ((m : Int)).toNat) ⟨#[10]⟩ = some ((Lib.countByte (src.data.toList.take m) 10 : Nat) : Int) := by
    unfold strings_Count.f; rw [he]
  have h2 : strings_LastIndexByte.f (src.extract 0 ((m : Int)).toNat) 10 = some (Lib.lastIndexByte (src.extract 0 ((m : Int)).toNat) 10) := by
    unfold strings_LastIndexByte.f; rw [if_pos (by omega)]
  have h3 := lastIdx_lnc (src.extract 0 ((m : Int)).toNat) m (by omega)
  rw [he, List.take_take, Nat.min_self] at h3
  have h4 : Lib.lastIndexByte (src.extract 0 ((m : Int)).toNat) 10 = Lib.lastIdx (src.extract 0 ((m : Int)).toNat) 10 m := by rw [Lib.lastIndexByte, hz]
  have h5 := lnc_line (src.data.toList.take m)
  rw [h1, Option.bind_some, h2, Option.bind_some, h4, hz, wrap_id (by omega) (by omega), wrap_id (by omega) (by omega), h3, h5]
  congr 1
end Go.Proofs.YteinhpfjlfeaaaaDoor.M19
