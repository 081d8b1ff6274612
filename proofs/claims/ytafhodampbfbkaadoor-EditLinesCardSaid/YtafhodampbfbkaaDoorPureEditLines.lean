/- The pure statement of EditLines: where lines begin and end. -/
import Derived.Test.YtafhodampbfbkaaDoorPAx5
import Derived.Test.YtafhodampbfbkaaDoorEv
import Derived.Lib.IndexLaws
set_option linter.unusedVariables false
set_option linter.unusedSimpArgs false
namespace Go.Proofs.YtafhodampbfbkaaDoor.M25
open Go.RowKit Go.Proofs.YtafhodampbfbkaaDoor.PA Go.Proofs.YtafhodampbfbkaaDoorW.PrintWords Go.Proofs.YtafhodampbfbkaaDoorW.PrintLast Go.Proofs.YtafhodampbfbkaaDoor.Pl

theorem rdD (m : List S24) (j : Nat) (h : j < m.length) : rd_T24 m (j : Int) = m[j] := by
  simp [rd_T24, List.getD_eq_getElem?_getD, List.getElem?_eq_getElem h]
/-- May there be such edits, behind a place? -/
def RightB (n : Int) : Int → List S24 → Bool
  | _, [] => true
  | en, e :: r => decide (en ≤ e.f0) && decide (e.f0 ≤ n) && decide (0 ≤ e.f1) && decide (e.f1 ≤ n - e.f0) && RightB n (e.f0 + e.f1) r

theorem right_l (a0 : ByteArray) (ha : a0.size ≤ 140737488351232) (m : List S24) (hm : m.length ≤ 9223372036854775807) : ∀ (d j : Nat) (en : Int), m.length - j = d → j ≤ m.length → 0 ≤ en → en ≤ (a0.size : Int) →
    Ev (fun k => edit_Right.l0 k a0 en m (m.length : Int) (j : Int)) (if RightB a0.size en (m.drop j) = true then 0 else 1) := by
  intro d
  induction d with
  | zero =>
    intro j en hd hj h0 h1
    obtain rfl : j = m.length := by omega
    refine Ev.step (fun k => by rw [edit_Right.l0]) ?_
    refine neg (by omega) ?_
    exact now (by simp [RightB])
  | succ d ih =>
    intro j en hd hj h0 h1
    have hlt : j < m.length := by omega
    rw [List.drop_eq_getElem_cons hlt, RightB]
    refine Ev.step (fun k => by rw [edit_Right.l0]) ?_
    simp only [rdD m j hlt]
    refine pos (by omega) (pos (by omega) (pos (by omega) ?_))
    by_cases c1 : m[j].f0 < en
    · exact pos c1 (now (by rw [if_neg]; simp; omega))
    refine neg c1 ?_
    by_cases c2 : m[j].f0 > (a0.size : Int)
    · exact pos c2 (now (by rw [if_neg]; simp; omega))
    refine neg c2 ?_
    by_cases c3 : m[j].f1 < 0
    · exact pos c3 (now (by rw [if_neg]; simp; omega))
    refine neg c3 ?_
    rw [wrap_id (x := (a0.size : Int) - m[j].f0) (by omega) (by omega)]
    by_cases c4 : m[j].f1 > (a0.size : Int) - m[j].f0
    · exact pos c4 (now (by rw [if_neg]; simp; omega))
    refine neg c4 ?_
    rw [wrap_id (x := m[j].f0 + m[j].f1) (by omega) (by omega), wrap_id (x := (j : Int) + 1) (by omega) (by omega)]
    have := ih (j + 1) (m[j].f0 + m[j].f1) (by omega) (by omega) (by omega) (by omega)
    refine val this ?_
    rw [show (decide (en ≤ m[j].f0) && decide (m[j].f0 ≤ (a0.size : Int)) && decide (0 ≤ m[j].f1) && decide (m[j].f1 ≤ (a0.size : Int) - m[j].f0)) = true from by simp; omega, Bool.true_and]

theorem right_f (a0 : ByteArray) (ha : a0.size ≤ 140737488351232) (m : List S24) (hm : m.length ≤ 9223372036854775807) :
    Ev (fun k => edit_Right.f k a0 m) (if RightB a0.size 0 m = true then 0 else 1) := by
  unfold edit_Right.f
  exact right_l a0 ha m hm m.length 0 0 (by omega) (by omega) (by omega) (by omega)

theorem alive_f : Ev (fun k => cupellaw25_alive.f k) true :=
  Ev.of cupellaw25_alive.mono (k := 12) (by decide +kernel)

/-- What comes behind a place. -/
def tail (s : ByteArray) : Int → List S24 → ByteArray
  | fr, [] => s.extract fr.toNat s.size
  | fr, e :: r => s.extract fr.toNat e.f0.toNat ++ e.f2 ++ tail s (e.f0 + e.f1) r
/-- How many bytes the edits put in. -/
def ins : List S24 → Nat
  | [] => 0
  | e :: r => e.f2.size + ins r

theorem rightB_cons {n en : Int} {e : S24} {r : List S24} (h : RightB n en (e :: r) = true) : en ≤ e.f0 ∧ e.f0 ≤ n ∧ 0 ≤ e.f1 ∧ e.f1 ≤ n - e.f0 ∧ RightB n (e.f0 + e.f1) r = true := by
  simp only [RightB, Bool.and_eq_true, decide_eq_true_eq] at h
  exact ⟨h.1.1.1.1, h.1.1.1.2, h.1.1.2, h.1.2, h.2⟩

theorem loop_ok (s : ByteArray) (hs : s.size ≤ 140737488351) : ∀ (m : List S24) (acc : ByteArray) (fr : Int), 0 ≤ fr → fr ≤ (s.size : Int) → RightB s.size fr m = true → acc.size + ((m.length + 1) * s.size + ins m) ≤ 140737488355328 →
    edit_Do.loop s m acc fr = some (acc ++ tail s fr m)
  | [], acc, fr, h0, h1, _, hb => by
    rw [edit_Do.loop, if_pos ⟨h0, h1, by simp [ins] at hb; omega⟩, tail]
  | e :: r, acc, fr, h0, h1, hr, hb => by
    obtain ⟨g1, g2, g3, g4, g5⟩ := rightB_cons hr
    simp only [ins, List.length_cons] at hb
    have hmul : (r.length + 1 + 1) * s.size = (r.length + 1) * s.size + s.size := by rw [Nat.add_mul, Nat.one_mul]
    rw [edit_Do.loop, if_pos ⟨h0, g1, g2, by omega⟩, wrap_id (x := e.f0 + e.f1) (by omega) (by omega)]
    have hsz : (acc ++ (s.extract fr.toNat e.f0.toNat ++ e.f2)).size ≤ acc.size + s.size + e.f2.size := by
      rw [ByteArray.size_append, ByteArray.size_append, size_ext]; omega
    rw [loop_ok s hs r _ (e.f0 + e.f1) (by omega) (by omega) g5 (by omega)]
    rw [tail]
    congr 1
    exact data_inj (by simp only [app_data, List.append_assoc])

/-- Do: all edits, or why not. -/
theorem do_f (s : ByteArray) (hs : s.size ≤ 1000000) (m : List S24) (hm : m.length ≤ 1000000) (hi : ins m ≤ 1000000000) :
    Ev (fun k => edit_Do.f k s m) (if RightB s.size 0 m = true then (tail s 0 m, 0) else (⟨#[]⟩, 1)) := by
  unfold edit_Do.f
  refine bnd (right_f s (by omega) m (by omega)) ?_
  by_cases h : RightB s.size 0 m = true
  · simp only [if_pos h]
    refine pos (by simp) ?_
    have hmul : (m.length + 1) * s.size ≤ 1000001 * 1000000 := Nat.mul_le_mul (by omega) hs
    rw [loop_ok s (by omega) m ⟨#[]⟩ 0 (by omega) (by omega) h (by have h0 : (⟨#[]⟩ : ByteArray).size = 0 := rfl; omega)]
    exact smb (now (by rw [show (⟨#[]⟩ : ByteArray) ++ tail s 0 m = tail s 0 m from data_inj (by rw [app_data, empty_data, List.nil_append])]))
  · simp only [if_neg h]
    exact neg (by omega) (now rfl)


/-- Where the lines behind the first one begin. -/
def ps : Nat → List UInt8 → List Nat
  | _, [] => []
  | off, b :: r => if b = 10 then (off + 1) :: ps (off + 1) r else ps (off + 1) r
theorem ps_miss : ∀ (l : List UInt8) (off : Nat), Lib.indexByte l 10 = -1 → ps off l = []
  | [], _, _ => rfl
  | b :: r, off, h => by
    have hn := Lib.indexByte_none h
    have hb : b ≠ 10 := fun e => hn 0 (by rw [e]; rfl)
    have hr : Lib.indexByte r 10 = -1 := by
      rw [Lib.indexByte, if_neg (by simpa using hb)] at h
      by_cases hh : (Lib.indexByte r 10 == -1) = true
      · exact beq_iff_eq.1 hh
      · rw [if_neg hh] at h
        have := Lib.indexByte_ge r 10
        omega
    rw [ps, if_neg hb, ps_miss r _ hr]
theorem ps_hit : ∀ (l : List UInt8) (off i : Nat), Lib.indexByte l 10 = (i : Int) → ps off l = (off + i + 1) :: ps (off + i + 1) (l.drop (i + 1))
  | [], _, i, h => by simp [Lib.indexByte] at h
  | b :: r, off, i, h => by
    rw [Lib.indexByte] at h
    by_cases hb : b = 10
    · subst hb
      rw [if_pos (by rfl)] at h
      obtain rfl : i = 0 := by omega
      rw [ps, if_pos rfl]; rfl
    · rw [if_neg (by simpa using hb)] at h
      have hge := Lib.indexByte_ge r 10
      by_cases hh : (Lib.indexByte r 10 == -1) = true
      · rw [if_pos hh] at h; omega
      · rw [if_neg hh] at h
        have hne : Lib.indexByte r 10 ≠ -1 := fun e => hh (beq_iff_eq.2 e)
        obtain ⟨j, rfl⟩ : ∃ j, i = j + 1 := ⟨i - 1, by omega⟩
        rw [ps, if_neg hb, ps_hit r (off + 1) j (by omega), List.drop_succ_cons]
        rw [show off + 1 + j + 1 = off + (j + 1) + 1 by omega]
theorem ps_length : ∀ (l : List UInt8) (off : Nat), (ps off l).length = l.count 10
  | [], _ => rfl
  | b :: r, off => by
    rw [ps, List.count_cons]
    by_cases hb : b = 10
    · rw [if_pos hb, List.length_cons, ps_length r]; simp [hb]
    · rw [if_neg hb, ps_length r]; simp [hb]
theorem lenL_cons (x : ByteArray) (r : List ByteArray) : lenL (x :: r) = x.size + lenL r := by simp [lenL]
/-- The pieces end where the next lines begin. -/
theorem split_ps : ∀ (n : Nat) (s : ByteArray) (off : Nat), Lib.countB s ⟨#[10]⟩ = n → ∀ k, k ≤ n → (off :: ps off s.data.toList)[k]? = some (off + lenL ((Lib.splitB ⟨#[10]⟩ 1 n s).take k))
  | 0, s, off, _, k, hk => by
    obtain rfl : k = 0 := by omega
    simp [lenL]
  | n + 1, s, off, hn, k, hk => by
    rcases Lib.indexB_cases s ⟨#[10]⟩ with h | ⟨i, hi, hle⟩
    · have := Lib.countB_miss s ⟨#[10]⟩ h; omega
    · have h1 : (⟨#[10]⟩ : ByteArray).size = 1 := rfl
      have hc := Lib.countB_hit s ⟨#[10]⟩ i (by decide) hi
      rw [h1] at hc
      rw [Lib.splitB_hit _ _ _ _ i hi, h1]
      cases k with
      | zero => simp [lenL]
      | succ k =>
        have hib : Lib.indexByte s.data.toList 10 = (i : Int) := by rw [← hi]; exact (Lib.index_one _ _).symm
        rw [ps_hit _ off i hib, List.getElem?_cons_succ, List.take_succ_cons, lenL_cons]
        have ih := split_ps n (s.extract (i + 1) s.size) (off + i + 1) (by omega) k (by omega)
        have he : (s.extract (i + 1) s.size).data.toList = s.data.toList.drop (i + 1) := by
          rw [ext_data, List.take_of_length_le (by rw [List.length_drop, size_data]; omega)]
        rw [he] at ih
        rw [ih, size_ext]
        congr 1
        omega
theorem refLines_l (s : ByteArray) (hs : s.size ≤ 300) : ∀ (d i : Nat) (acc : List Int), s.size - i = d → i ≤ s.size → acc.length ≤ i + 1 →
    Ev (fun k => cupelref25_Lines.l0 k s acc (i : Int)) (acc ++ ((ps i (s.data.toList.drop i)).map fun n : Nat => (n : Int)) ++ [(s.size : Int)]) := by
  intro d
  induction d with
  | zero =>
    intro i acc hd hi ha
    obtain rfl : i = s.size := by omega
    refine Ev.step (fun k => by rw [cupelref25_Lines.l0]) (neg (by omega) (pos (by omega) (now ?_)))
    rw [List.drop_eq_nil_of_le (by rw [size_data]; exact Nat.le_refl _)]
    simp [ps]
  | succ d ih =>
    intro i acc hd hi ha
    have hlt : i < s.data.toList.length := by rw [size_data]; omega
    refine Ev.step (fun k => by rw [cupelref25_Lines.l0]) (pos (by omega) (pos (by omega) ?_))
    rw [bt_data s i (by omega), wrap_id (x := (i : Int) + 1) (by omega) (by omega), List.drop_eq_getElem_cons hlt, ps]
    by_cases hb : s.data.toList[i] = 10
    · refine pos (by rw [hb]; rfl) (pos (by omega) ?_)
      have := ih (i + 1) (acc ++ [((i + 1 : Nat) : Int)]) (by omega) (by omega) (by simp; omega)
      refine val this ?_
      rw [if_pos hb]; simp
    · refine neg (fun e => hb (UInt8.toNat_inj.1 (by rw [show (10 : UInt8).toNat = 10 from rfl]; omega))) ?_
      have := ih (i + 1) acc (by omega) (by omega) (by omega)
      refine val this ?_
      rw [if_neg hb]
theorem refLines_f (s : ByteArray) (hs : s.size ≤ 300) : Ev (fun k => cupelref25_Lines.f k s) (0 :: ((ps 0 s.data.toList).map fun n : Nat => (n : Int)) ++ [(s.size : Int)]) := by
  have := refLines_l s hs s.size 0 [0] (by omega) (by omega) (by simp)
  exact this
/-- Behind which byte a number of lines end. -/
theorem p_at (s : ByteArray) (k : Nat) (hk : k ≤ (pcs s).length) : (0 :: ((ps 0 s.data.toList).map fun n : Nat => (n : Int)) ++ [(s.size : Int)])[k]? = some ((lenL ((pcs s).take k) : Nat) : Int) := by
  rw [pcs_length] at hk
  have hpl : (ps 0 s.data.toList).length = Lib.countB s ⟨#[10]⟩ := by rw [ps_length]; exact (Lib.count_one 10 _).symm
  by_cases h : k ≤ Lib.countB s ⟨#[10]⟩
  · have := split_ps _ s 0 rfl k h
    rw [List.getElem?_append_left (by simp; omega)]
    cases k with
    | zero => simp [lenL]
    | succ k =>
      rw [List.getElem?_cons_succ] at this ⊢
      rw [List.getElem?_map, this]
      simp [pcs]
  · obtain rfl : k = Lib.countB s ⟨#[10]⟩ + 1 := by omega
    rw [List.getElem?_append_right (by simp; omega), List.take_of_length_le (by rw [pcs_length]; exact Nat.le_refl _)]
    rw [show lenL (pcs s) = s.size from lenL_split 0 _ s]
    simp [hpl]
end Go.Proofs.YtafhodampbfbkaaDoor.M25
namespace Go.Proofs.YtafhodampbfbkaaDoor.Pure
open Go.RowKit Go.Proofs.YtafhodampbfbkaaDoor.PA Go.Proofs.YtafhodampbfbkaaDoorW.PrintWords Go.Proofs.YtafhodampbfbkaaDoorW.PrintLast Go.Proofs.YtafhodampbfbkaaDoor.Pl Go.Proofs.YtafhodampbfbkaaDoor.M25
set_option maxRecDepth 100000 in
theorem EditLines : cupellaw25_EditLines.Pure := by
  intro a0 a1 a2 w0 w1 w2
  refine Ev.rounds ?_
  unfold cupellaw25_EditLines.f
  refine bnd alive_f (pos rfl ?_)
  by_cases hs : (a0.size : Int) > 300
  · exact pos hs (now rfl)
  refine neg hs ?_
  have hpl : (pcs a0).length ≤ a0.size + 1 := by have := Lib.countB_le ⟨#[10]⟩ (by decide) a0.size a0 (Nat.le_refl _); rw [pcs_length]; omega
  have hp1 : 1 ≤ (pcs a0).length := by rw [pcs_length]; omega
  have hlen : (0 :: ((ps 0 a0.data.toList).map fun n : Nat => (n : Int)) ++ [(a0.size : Int)]).length = (pcs a0).length + 1 := by
    have hpl : (ps 0 a0.data.toList).length = Lib.countB a0 ⟨#[10]⟩ := by rw [ps_length]; exact (Lib.count_one 10 _).symm
    rw [pcs_length]; simp; omega
  have hat := p_at a0
  have href := refLines_f a0 (by omega)
  generalize (0 :: ((ps 0 a0.data.toList).map fun n : Nat => (n : Int)) ++ [(a0.size : Int)]) = p at hlen hat href
  have hrd : ∀ k : Nat, k ≤ (pcs a0).length → rd p (k : Int) = ((lenL ((pcs a0).take k) : Nat) : Int) := by
    intro k hk
    unfold rd
    rw [Int.toNat_natCast, List.getD_eq_getElem?_getD, hat k hk]; rfl
  unfold edit_Lines.f
  rw [if_pos (by omega)]
  refine smb (bnd href ?_)
  rw [wrap_id (x := (p.length : Int) - 1) (by omega) (by omega)]
  by_cases h1 : a1 < 1
  · rw [if_pos (show a1 < 1 ∨ a2 < a1 ∨ ((pcs a0).length : Int) < a2 from .inl h1)]
    exact pos h1 (neg (by decide) (now (by rw [Lib.toList_data]; rfl)))
  refine neg h1 ?_
  by_cases h2 : a2 < a1
  · rw [if_pos (show a1 < 1 ∨ a2 < a1 ∨ ((pcs a0).length : Int) < a2 from .inr (.inl h2))]
    exact pos h2 (neg (by decide) (now (by rw [Lib.toList_data]; rfl)))
  refine neg h2 ?_
  by_cases h3 : a2 > (p.length : Int) - 1
  · rw [if_pos (show a1 < 1 ∨ a2 < a1 ∨ ((pcs a0).length : Int) < a2 from .inr (.inr (by omega)))]
    exact pos h3 (neg (by decide) (now (by rw [Lib.toList_data]; rfl)))
  refine neg h3 ?_
  rw [if_neg (show ¬ (a1 < 1 ∨ a2 < a1 ∨ ((pcs a0).length : Int) < a2) by omega)]
  obtain ⟨i, rfl⟩ : ∃ i : Nat, a1 = (i : Int) + 1 := ⟨(a1 - 1).toNat, by omega⟩
  obtain ⟨j, rfl⟩ : ∃ j : Nat, a2 = (j : Int) := ⟨a2.toNat, by omega⟩
  rw [show ((i : Int) + 1 - 1).toNat = i by omega, show ((j : Int)).toNat = j by rfl]
  have hij : i < j := by omega
  have hsum : lenL ((pcs a0).take i) + lenL (((pcs a0).take j).drop i) = lenL ((pcs a0).take j) := by
    have e : ((pcs a0).take j).take i = (pcs a0).take i := by rw [List.take_take, Nat.min_eq_left (by omega)]
    rw [← e]
    unfold lenL
    rw [← List.sum_append, ← List.map_append, List.take_append_drop]
  have hall : lenL ((pcs a0).take j) ≤ a0.size := by
    have h := lenL_sub (pcs a0) 0 j
    rw [List.drop_zero] at h
    rw [show a0.size = lenL (pcs a0) from (lenL_split 0 _ a0).symm]
    exact h
  have hd := do_f a0 (by omega) [⟨((lenL ((pcs a0).take i) : Nat) : Int), ((lenL (((pcs a0).take j).drop i) : Nat) : Int), ⟨#[]⟩⟩] (by simp) (by simp [ins]; decide)
  rw [if_pos (by simp [RightB]; omega)] at hd
  simp only at hd ⊢
  refine bnd hd (pos (by trivial) (pos (show (0 : Int) = 0 from rfl) ?_))
  rw [wrap_id (x := (i : Int) + 1 - 1) (by omega) (by omega), show (i : Int) + 1 - 1 = ((i : Nat) : Int) by omega, hrd i (by omega), hrd j (by omega)]
  refine pos (by omega) ?_
  refine pos (by omega) ?_
  refine pos (by omega) ?_
  refine pos (by omega) ?_
  refine pos (by omega) ?_
  refine pos (by omega) ?_
  refine pos (by omega) ?_
  refine pos (by omega) ?_
  refine pos (by rw [size_ext, size_ext]; omega) ?_
  refine pos ?_ (now (by rw [Lib.toList_data]; rfl))
  simp only [tail]
  rw [Lib.toList_data, Lib.toList_data, app_data, app_data, app_data]
  rw [show ((lenL ((pcs a0).take i) : Nat) : Int) + ((lenL (((pcs a0).take j).drop i) : Nat) : Int) = ((lenL ((pcs a0).take j) : Nat) : Int) by omega]
  simp
end Go.Proofs.YtafhodampbfbkaaDoor.Pure
