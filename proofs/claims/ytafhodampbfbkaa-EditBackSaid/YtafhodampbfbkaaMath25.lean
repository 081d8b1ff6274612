/- Layer 25 in plain words: what the printed functions of edits come to. -/
import Derived.Test.YtafhodampbfbkaaPAx5
import Derived.Test.YtafhodampbfbkaaPAx6
import Derived.Test.YtafhodampbfbkaaEv
set_option linter.unusedVariables false
set_option linter.unusedSimpArgs false
namespace Go.Proofs.Ytafhodampbfbkaa.M25
open Go.RowKit Go.Proofs.Ytafhodampbfbkaa.PA Go.Proofs.YtafhodampbfbkaaW.PrintWords Go.Proofs.YtafhodampbfbkaaW.PrintLast Go.Proofs.Ytafhodampbfbkaa.Pl

@[reducible] def cv (x : S31) : S35 := ⟨x.f0, x.f1, x.f2⟩
theorem rdD (m : List S35) (j : Nat) (h : j < m.length) : rd_T35 m (j : Int) = m[j] := by
  simp [rd_T35, List.getD_eq_getElem?_getD, List.getElem?_eq_getElem h]
theorem rdE (m : List S31) (j : Nat) (h : j < m.length) : rd_T31 m (j : Int) = m[j] := by
  simp [rd_T31, List.getD_eq_getElem?_getD, List.getElem?_eq_getElem h]

/-- May there be such edits, behind a place? -/
def RightB (n : Int) : Int → List S35 → Bool
  | _, [] => true
  | en, e :: r => decide (en ≤ e.f0) && decide (e.f0 ≤ n) && decide (0 ≤ e.f1) && decide (e.f1 ≤ n - e.f0) && RightB n (e.f0 + e.f1) r

theorem rightB_bad {n en : Int} {x : S31} {r : List S35} (h : ¬ (en ≤ x.f0 ∧ x.f0 ≤ n ∧ 0 ≤ x.f1 ∧ x.f1 ≤ n - x.f0)) : RightB n en (cv x :: r) = false := by
  rw [RightB, Bool.eq_false_iff]
  intro h'
  simp only [Bool.and_eq_true, decide_eq_true_eq] at h'
  exact h ⟨h'.1.1.1.1, h'.1.1.1.2, h'.1.1.2, h'.1.2⟩
theorem rightB_ok {n en : Int} {x : S31} {r : List S35} (h : en ≤ x.f0 ∧ x.f0 ≤ n ∧ 0 ≤ x.f1 ∧ x.f1 ≤ n - x.f0) : RightB n en (cv x :: r) = RightB n (x.f0 + x.f1) r := by
  rw [RightB]
  have : (decide (en ≤ (cv x).f0) && decide ((cv x).f0 ≤ n) && decide (0 ≤ (cv x).f1) && decide ((cv x).f1 ≤ n - (cv x).f0)) = true := by
    simp only [Bool.and_eq_true, decide_eq_true_eq]
    exact ⟨⟨⟨h.1, h.2.1⟩, h.2.2.1⟩, h.2.2.2⟩
  rw [this, Bool.true_and]

theorem right_l (a0 : ByteArray) (ha : a0.size ≤ 140737488351232) (m : List S35) (hm : m.length ≤ 9223372036854775807) : ∀ (d j : Nat) (en : Int), m.length - j = d → j ≤ m.length → 0 ≤ en → en ≤ (a0.size : Int) →
    Ev (fun k => edit_Right.l0 k a0 en m (m.length : Int) (j : Int)) (if RightB a0.size en (m.drop j) = true then 0 else 1) := by
  intro d
  induction d with
  | zero =>
    intro j en hd hj h0 h1
    obtain rfl : j = m.length := by omega
    refine Ev.step (fun k => by rw [edit_Right.l0]) ?_
    refine neg (by omega) ?_
    exact now (by simp [RightB])
  | succ d ih =>
    intro j en hd hj h0 h1
    have hlt : j < m.length := by omega
    rw [List.drop_eq_getElem_cons hlt, RightB]
    refine Ev.step (fun k => by rw [edit_Right.l0]) ?_
    simp only [rdD m j hlt]
    refine pos (by omega) (pos (by omega) (pos (by omega) ?_))
    by_cases c1 : m[j].f0 < en
    · exact pos c1 (now (by rw [if_neg]; simp; omega))
    refine neg c1 ?_
    by_cases c2 : m[j].f0 > (a0.size : Int)
    · exact pos c2 (now (by rw [if_neg]; simp; omega))
    refine neg c2 ?_
    by_cases c3 : m[j].f1 < 0
    · exact pos c3 (now (by rw [if_neg]; simp; omega))
    refine neg c3 ?_
    rw [wrap_id (x := (a0.size : Int) - m[j].f0) (by omega) (by omega)]
    by_cases c4 : m[j].f1 > (a0.size : Int) - m[j].f0
    · exact pos c4 (now (by rw [if_neg]; simp; omega))
    refine neg c4 ?_
    rw [wrap_id (x := m[j].f0 + m[j].f1) (by omega) (by omega), wrap_id (x := (j : Int) + 1) (by omega) (by omega)]
    have := ih (j + 1) (m[j].f0 + m[j].f1) (by omega) (by omega) (by omega) (by omega)
    refine val this ?_
    rw [show (decide (en ≤ m[j].f0) && decide (m[j].f0 ≤ (a0.size : Int)) && decide (0 ≤ m[j].f1) && decide (m[j].f1 ≤ (a0.size : Int) - m[j].f0)) = true from by simp; omega, Bool.true_and]

theorem right_f (a0 : ByteArray) (ha : a0.size ≤ 140737488351232) (m : List S35) (hm : m.length ≤ 9223372036854775807) :
    Ev (fun k => edit_Right.f k a0 m) (if RightB a0.size 0 m = true then 0 else 1) := by
  unfold edit_Right.f
  exact right_l a0 ha m hm m.length 0 0 (by omega) (by omega) (by omega) (by omega)

/-- The document's test of the same. -/
theorem refright_l (a0 : ByteArray) (ha : a0.size ≤ 140737488351232) (l : List S31) (hl : l.length ≤ 9223372036854775807) : ∀ (d j : Nat) (en : Int), l.length - j = d → j ≤ l.length → 0 ≤ en → en ≤ (a0.size : Int) →
    (∀ h : 0 < j, ∀ h' : j - 1 < l.length, en = l[j - 1].f0 + l[j - 1].f1) → (j = 0 → en = 0) →
    Ev (fun k => cupelref25_Right.l0 k a0 l (j : Int)) (RightB a0.size en ((l.drop j).map cv)) := by
  intro d
  induction d with
  | zero =>
    intro j en hd hj h0 h1 _ _
    obtain rfl : j = l.length := by omega
    refine Ev.step (fun k => by rw [cupelref25_Right.l0]) ?_
    refine neg (by omega) ?_
    exact now (by simp [RightB])
  | succ d ih =>
    intro j en hd hj h0 h1 hp hz
    have hlt : j < l.length := by omega
    rw [List.drop_eq_getElem_cons hlt, List.map_cons]
    have bad : ∀ c : Bool, c = true → Ev (fun k => cupelref25_Right.j1 k a0 l (j : Int) c) false := by
      intro c hc
      refine Ev.step (fun k => by rw [cupelref25_Right.j1]) ?_
      exact pos hc (now rfl)
    refine Ev.step (fun k => by rw [cupelref25_Right.l0]) ?_
    simp only [rdE l j hlt]
    refine pos (by omega) (pos (by omega) ?_)
    by_cases c1 : l[j].f0 < 0
    · exact pos c1 (val (bad _ rfl) (rightB_bad (by omega)).symm)
    refine neg c1 ?_
    by_cases c2 : l[j].f1 < 0
    · exact pos c2 (val (bad _ rfl) (rightB_bad (by omega)).symm)
    refine neg c2 ?_
    by_cases c3 : l[j].f0 > (a0.size : Int)
    · exact pos c3 (val (bad _ rfl) (rightB_bad (by omega)).symm)
    refine neg c3 ?_
    rw [wrap_id (x := (a0.size : Int) - l[j].f0) (by omega) (by omega)]
    by_cases c4 : l[j].f1 > (a0.size : Int) - l[j].f0
    · exact val (bad _ (by simpa using c4)) (rightB_bad (by omega)).symm
    refine Ev.step (fun k => by rw [cupelref25_Right.j1]) ?_
    refine neg (by simpa using c4) ?_
    have go : ∀ v : Bool, (RightB a0.size (l[j].f0 + l[j].f1) ((l.drop (j + 1)).map cv)) = v → Ev (fun k => cupelref25_Right.l0 k a0 l (wrap64 ((j : Int) + 1))) v := by
      intro v hv
      rw [wrap_id (x := (j : Int) + 1) (by omega) (by omega)]
      refine val (ih (j + 1) (l[j].f0 + l[j].f1) (by omega) (by omega) (by omega) (by omega) (fun _ _ => by simp) (by omega)) hv
    by_cases hj0 : j = 0
    · subst hj0
      obtain rfl := hz rfl
      refine neg (by omega) (go _ ?_)
      exact (rightB_ok (by omega)).symm
    · have hj1 : ((j : Int) - 1) = ((j - 1 : Nat) : Int) := by omega
      have hlt1 : j - 1 < l.length := by omega
      have he := hp (by omega) hlt1
      simp only [rdE l j hlt]
      refine pos (by omega) (pos (by omega) (pos (by omega) ?_))
      rw [wrap_id (x := (j : Int) - 1) (by omega) (by omega), hj1]
      simp only [rdE l (j - 1) hlt1]
      refine pos (by omega) (pos (by omega) ?_)
      rw [← he, wrap_id (x := en) (by omega) (by omega)]
      by_cases c5 : l[j].f0 < en
      · exact pos c5 (now (rightB_bad (by omega)).symm)
      · refine neg c5 (go _ ?_)
        exact (rightB_ok (by omega)).symm
theorem refright_f (a0 : ByteArray) (ha : a0.size ≤ 140737488351232) (l : List S31) (hl : l.length ≤ 9223372036854775807) : Ev (fun k => cupelref25_Right.f k a0 l) (RightB a0.size 0 (l.map cv)) := by
  unfold cupelref25_Right.f
  exact refright_l a0 ha l hl l.length 0 0 (by omega) (by omega) (by omega) (by omega) (fun h => by omega) (fun _ => rfl)

/-- The conversion, element by element. -/
theorem of_l (l : List S31) (hl : l.length ≤ 4398046511100) : ∀ (d j : Nat), l.length - j = d → j ≤ l.length →
    Ev (fun k => cupellaw25_Of.l0 k l ((l.take j).map cv) (j : Int)) (l.map cv) := by
  intro d
  induction d with
  | zero =>
    intro j hd hj
    obtain rfl : j = l.length := by omega
    refine Ev.step (fun k => by rw [cupellaw25_Of.l0]) ?_
    exact neg (by omega) (now (by rw [List.take_length]))
  | succ d ih =>
    intro j hd hj
    have hlt : j < l.length := by omega
    refine Ev.step (fun k => by rw [cupellaw25_Of.l0]) ?_
    simp only [rdE l j hlt]
    refine pos (by omega) (pos (by omega) (pos (by simp; omega) ?_))
    rw [wrap_id (x := (j : Int) + 1) (by omega) (by omega)]
    have h := ih (j + 1) (by omega) (by omega)
    rw [List.take_succ_eq_append_getElem hlt, List.map_append] at h
    exact h
theorem of_f (l : List S31) (hl : l.length ≤ 4398046511100) : Ev (fun k => cupellaw25_Of.f k l) (l.map cv) := by
  unfold cupellaw25_Of.f
  exact of_l l hl l.length 0 (by omega) (by omega)

/-- More than are looked at? -/
theorem far_l (a0 : ByteArray) (l : List S31) (hl : l.length ≤ 9223372036854775807) : ∀ (d j : Nat), l.length - j = d → j ≤ l.length →
    ∃ b : Bool, Ev (fun k => cupellaw25_far.l0 k a0 l (j : Int)) b ∧ (b = false → a0.size ≤ 600 ∧ l.length ≤ 30 ∧ ∀ x ∈ l.drop j, x.f2.size ≤ 300) := by
  intro d
  induction d with
  | zero =>
    intro j hd hj
    obtain rfl : j = l.length := by omega
    by_cases c : (a0.size : Int) > 600
    · refine ⟨true, Ev.step (fun k => by rw [cupellaw25_far.l0]) ?_, by simp⟩
      exact neg (by omega) (pos c (now rfl))
    · refine ⟨_, Ev.step (fun k => by rw [cupellaw25_far.l0]) (neg (by omega) (neg c (now rfl))), fun h => ?_⟩
      simp at h
      exact ⟨by omega, by omega, by simp⟩
  | succ d ih =>
    intro j hd hj
    have hlt : j < l.length := by omega
    by_cases c : ((l[j].f2).size : Int) > 300
    · refine ⟨true, Ev.step (fun k => by rw [cupellaw25_far.l0]) ?_, by simp⟩
      simp only [rdE l j hlt]
      exact pos (by omega) (pos (by omega) (pos c (now rfl)))
    · obtain ⟨b, h, hb⟩ := ih (j + 1) (by omega) (by omega)
      refine ⟨b, Ev.step (fun k => by rw [cupellaw25_far.l0]) ?_, fun e => ?_⟩
      · simp only [rdE l j hlt]
        refine pos (by omega) (pos (by omega) (neg c ?_))
        rw [wrap_id (x := (j : Int) + 1) (by omega) (by omega)]
        exact h
      · obtain ⟨h1, h2, h3⟩ := hb e
        refine ⟨h1, h2, ?_⟩
        rw [List.drop_eq_getElem_cons hlt]
        intro x hx
        rcases List.mem_cons.1 hx with rfl | hx
        · omega
        · exact h3 x hx
theorem far_f (a0 : ByteArray) (l : List S31) (hl : l.length ≤ 9223372036854775807) :
    ∃ b : Bool, Ev (fun k => cupellaw25_far.f k a0 l) b ∧ (b = false → a0.size ≤ 600 ∧ l.length ≤ 30 ∧ ∀ x ∈ l, x.f2.size ≤ 300) := by
  obtain ⟨b, h, hb⟩ := far_l a0 l hl l.length 0 (by omega) (by omega)
  exact ⟨b, by unfold cupellaw25_far.f; exact h, by simpa using hb⟩

theorem alive_f : Ev (fun k => cupellaw25_alive.f k) true :=
  Ev.of cupellaw25_alive.mono (k := 12) (by decide +kernel)

/-- What comes behind a place. -/
def tail (s : ByteArray) : Int → List S35 → ByteArray
  | fr, [] => s.extract fr.toNat s.size
  | fr, e :: r => s.extract fr.toNat e.f0.toNat ++ e.f2 ++ tail s (e.f0 + e.f1) r
/-- How many bytes the edits put in. -/
def ins : List S35 → Nat
  | [] => 0
  | e :: r => e.f2.size + ins r

theorem rightB_cons {n en : Int} {e : S35} {r : List S35} (h : RightB n en (e :: r) = true) : en ≤ e.f0 ∧ e.f0 ≤ n ∧ 0 ≤ e.f1 ∧ e.f1 ≤ n - e.f0 ∧ RightB n (e.f0 + e.f1) r = true := by
  simp only [RightB, Bool.and_eq_true, decide_eq_true_eq] at h
  exact ⟨h.1.1.1.1, h.1.1.1.2, h.1.1.2, h.1.2, h.2⟩

theorem loop_ok (s : ByteArray) (hs : s.size ≤ 140737488351) : ∀ (m : List S35) (acc : ByteArray) (fr : Int), 0 ≤ fr → fr ≤ (s.size : Int) → RightB s.size fr m = true → acc.size + ((m.length + 1) * s.size + ins m) ≤ 140737488355328 →
    edit_Do.loop s m acc fr = some (acc ++ tail s fr m)
  | [], acc, fr, h0, h1, _, hb => by
    rw [edit_Do.loop, if_pos ⟨h0, h1, by simp [ins] at hb; omega⟩, tail]
  | e :: r, acc, fr, h0, h1, hr, hb => by
    obtain ⟨g1, g2, g3, g4, g5⟩ := rightB_cons hr
    simp only [ins, List.length_cons] at hb
    have hmul : (r.length + 1 + 1) * s.size = (r.length + 1) * s.size + s.size := by rw [Nat.add_mul, Nat.one_mul]
    rw [edit_Do.loop, if_pos ⟨h0, g1, g2, by omega⟩, wrap_id (x := e.f0 + e.f1) (by omega) (by omega)]
    have hsz : (acc ++ (s.extract fr.toNat e.f0.toNat ++ e.f2)).size ≤ acc.size + s.size + e.f2.size := by
      rw [ByteArray.size_append, ByteArray.size_append, size_ext]; omega
    rw [loop_ok s hs r _ (e.f0 + e.f1) (by omega) (by omega) g5 (by omega)]
    rw [tail]
    congr 1
    exact data_inj (by simp only [app_data, List.append_assoc])

/-- Do: all edits, or why not. -/
theorem do_f (s : ByteArray) (hs : s.size ≤ 1000000) (m : List S35) (hm : m.length ≤ 1000000) (hi : ins m ≤ 1000000000) :
    Ev (fun k => edit_Do.f k s m) (if RightB s.size 0 m = true then (tail s 0 m, 0) else (⟨#[]⟩, 1)) := by
  unfold edit_Do.f
  refine bnd (right_f s (by omega) m (by omega)) ?_
  by_cases h : RightB s.size 0 m = true
  · simp only [if_pos h]
    refine pos (by simp) ?_
    have hmul : (m.length + 1) * s.size ≤ 1000001 * 1000000 := Nat.mul_le_mul (by omega) hs
    rw [loop_ok s (by omega) m ⟨#[]⟩ 0 (by omega) (by omega) h (by have h0 : (⟨#[]⟩ : ByteArray).size = 0 := rfl; omega)]
    exact smb (now (by rw [show (⟨#[]⟩ : ByteArray) ++ tail s 0 m = tail s 0 m from data_inj (by rw [app_data, empty_data, List.nil_append])]))
  · simp only [if_neg h]
    exact neg (by omega) (now rfl)

/-- The document's Do, from the last edit on. -/
def refdo (s : ByteArray) : List S35 → ByteArray
  | [] => s
  | e :: r => (refdo s r).extract 0 e.f0.toNat ++ e.f2 ++ (refdo s r).extract (e.f0 + e.f1).toNat (refdo s r).size

theorem refdo_tail (s : ByteArray) : ∀ (m : List S35) (fr : Int), 0 ≤ fr → fr ≤ (s.size : Int) → RightB s.size fr m = true →
    refdo s m = s.extract 0 fr.toNat ++ tail s fr m
  | [], fr, h0, h1, _ => by
    apply data_inj
    rw [refdo, tail, app_data, ext_data, ext_data, List.drop_zero, Nat.sub_zero, List.take_of_length_le (l := List.drop fr.toNat s.data.toList) (by rw [List.length_drop, size_data]; omega), List.take_append_drop]
  | e :: r, fr, h0, h1, hr => by
    obtain ⟨g1, g2, g3, g4, g5⟩ := rightB_cons hr
    have ih := refdo_tail s r (e.f0 + e.f1) (by omega) (by omega) g5
    apply data_inj
    rw [refdo, tail, ih]
    simp only [app_data, ext_data, ← size_data, List.length_append, List.length_take, List.length_drop, List.drop_zero, Nat.sub_zero]
    generalize hL : s.data.toList = L
    generalize (tail s (e.f0 + e.f1) r).data.toList = T
    have hLs : (L.length : Int) = s.size := by rw [← hL, size_data]
    have k1 : min (e.f0 + e.f1).toNat L.length = (e.f0 + e.f1).toNat := by omega
    have e1 : List.take e.f0.toNat (List.take (e.f0 + e.f1).toNat L ++ T) = List.take e.f0.toNat L := by
      rw [List.take_append_of_le_length (by rw [List.length_take]; omega), List.take_take, Nat.min_eq_left (by omega)]
    have e2 : List.drop (e.f0 + e.f1).toNat (List.take (e.f0 + e.f1).toNat L ++ T) = T := by
      rw [List.drop_append_of_le_length (by rw [List.length_take]; omega), List.drop_take]
      simp
    have e4 : List.take ((e.f0 + e.f1).toNat + T.length - (e.f0 + e.f1).toNat) T = T := List.take_of_length_le (by omega)
    rw [e1, k1, e2, e4]
    have e3 : List.take fr.toNat L ++ List.take (e.f0.toNat - fr.toNat) (List.drop fr.toNat L) = List.take e.f0.toNat L := by
      rw [← List.take_add]
      congr 1
      omega
    rw [← e3]
    simp only [List.append_assoc]

theorem tail_size (s : ByteArray) : ∀ (m : List S35) (fr : Int), 0 ≤ fr → fr ≤ (s.size : Int) → RightB s.size fr m = true → ((tail s fr m).size : Int) ≤ s.size - fr + ins m
  | [], fr, h0, h1, _ => by rw [tail, size_ext]; simp [ins]; omega
  | e :: r, fr, h0, h1, hr => by
    obtain ⟨g1, g2, g3, g4, g5⟩ := rightB_cons hr
    have ih := tail_size s r (e.f0 + e.f1) (by omega) (by omega) g5
    rw [tail, ByteArray.size_append, ByteArray.size_append, size_ext, ins]
    omega
theorem rightB_drop {n : Int} : ∀ {m : List S35} {en : Int}, RightB n en m = true → 0 ≤ en → ∀ (j : Nat) (h : j < m.length), en ≤ m[j].f0 ∧ m[j].f0 ≤ n ∧ 0 ≤ m[j].f1 ∧ m[j].f1 ≤ n - m[j].f0 ∧ RightB n (m[j].f0 + m[j].f1) (m.drop (j + 1)) = true
  | e :: r, en, hr, h0, 0, h => rightB_cons hr
  | e :: r, en, hr, h0, j + 1, h => by
    obtain ⟨g1, g2, g3, g4, g5⟩ := rightB_cons hr
    have := rightB_drop g5 (by omega) j (by simpa using h)
    simp only [List.getElem_cons_succ, List.drop_succ_cons]
    exact ⟨by omega, this.2.1, this.2.2.1, this.2.2.2.1, this.2.2.2.2⟩
theorem ins_drop : ∀ (m : List S35) (j : Nat), ins (m.drop j) ≤ ins m
  | [], j => by simp
  | e :: r, 0 => by simp
  | e :: r, j + 1 => by
    have := ins_drop r j
    simp only [List.drop_succ_cons, ins]
    omega
theorem refdo_l (s : ByteArray) (hs : s.size ≤ 1000000) (l : List S31) (hl : l.length ≤ 1000000) (hi : ins (l.map cv) ≤ 1000000000) (hr : RightB s.size 0 (l.map cv) = true) : ∀ (i : Nat), i ≤ l.length →
    Ev (fun k => cupelref25_Do.l0 k (refdo s ((l.drop i).map cv)) l ((i : Int) - 1)) (refdo s (l.map cv))
  | 0, _ => by
    refine Ev.step (fun k => by rw [cupelref25_Do.l0]) ?_
    exact neg (by omega) (now (by simp))
  | i + 1, h => by
    have hlt : i < l.length := by omega
    have hlt' : i < (l.map cv).length := by simpa using hlt
    have hd := rightB_drop hr (by omega) i hlt'
    simp only [List.getElem_map, ← List.map_drop] at hd
    obtain ⟨g1, g2, g3, g4, g5⟩ : 0 ≤ l[i].f0 ∧ l[i].f0 ≤ (s.size : Int) ∧ 0 ≤ l[i].f1 ∧ l[i].f1 ≤ (s.size : Int) - l[i].f0 ∧ RightB s.size (l[i].f0 + l[i].f1) ((l.drop (i + 1)).map cv) = true := by
      exact hd
    have ht := refdo_tail s _ (l[i].f0 + l[i].f1) (by omega) (by omega) g5
    have hts := tail_size s _ (l[i].f0 + l[i].f1) (by omega) (by omega) g5
    have hin := ins_drop (l.map cv) (i + 1)
    have hin2 := ins_drop (l.map cv) i
    rw [List.drop_eq_getElem_cons hlt'] at hin2
    simp only [ins, List.getElem_map, ← List.map_drop] at hin hin2
    have hf2 : (l[i].f2).size ≤ 1000000000 := by omega
    have hX : (refdo s ((l.drop (i + 1)).map cv)).size = (l[i].f0 + l[i].f1).toNat + (tail s (l[i].f0 + l[i].f1) ((l.drop (i + 1)).map cv)).size := by
      rw [ht, ByteArray.size_append, size_ext]; omega
    generalize hXX : refdo s ((l.drop (i + 1)).map cv) = X at hX
    refine Ev.step (fun k => by rw [cupelref25_Do.l0]) ?_
    rw [show (((i + 1 : Nat) : Int) - 1) = (i : Int) from by omega]
    simp only [rdE l i hlt]
    rw [wrap_id (x := l[i].f0 + l[i].f1) (by omega) (by omega), wrap_id (x := (i : Int) - 1) (by omega) (by omega)]
    refine pos (by omega) (pos (by omega) (pos (by omega) (pos (by omega) (pos (by omega) (pos ?_ (pos (by omega) (pos (by omega) (pos ?_ ?_))))))))
    · rw [size_ext]; omega
    · rw [ByteArray.size_append, size_ext, size_ext]; omega
    · have h2 := refdo_l s hs l hl hi hr i (by omega)
      rw [List.drop_eq_getElem_cons hlt, List.map_cons, refdo, hXX] at h2
      exact h2
theorem refdo_f (s : ByteArray) (hs : s.size ≤ 1000000) (l : List S31) (hl : l.length ≤ 1000000) (hi : ins (l.map cv) ≤ 1000000000) (hr : RightB s.size 0 (l.map cv) = true) :
    Ev (fun k => cupelref25_Do.f k s l) (refdo s (l.map cv)) := by
  unfold cupelref25_Do.f
  have h := refdo_l s hs l hl hi hr l.length (Nat.le_refl _)
  rw [wrap_id (x := (l.length : Int) - 1) (by omega) (by omega)]
  simpa [refdo] using h
theorem ins_le : ∀ (l : List S31), (∀ x ∈ l, x.f2.size ≤ 300) → ins (l.map cv) ≤ 300 * l.length
  | [], _ => by simp [ins]
  | x :: r, h => by
    have := ins_le r (fun y hy => h y (List.mem_cons_of_mem _ hy))
    have h1 := h x List.mem_cons_self
    simp only [List.map_cons, ins, List.length_cons]
    omega

end Go.Proofs.Ytafhodampbfbkaa.M25
