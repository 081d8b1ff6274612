/- The pure statement of EditPlaces. -/
import Derived.Test.YtafhodampbfbkaaSayEditPlaces
import Derived.Test.YtafhodampbfbkaaMath25
set_option linter.unusedVariables false
set_option linter.unusedSimpArgs false
namespace Go.Proofs.Ytafhodampbfbkaa.Pure
open Go.RowKit Go.Proofs.Ytafhodampbfbkaa.PA Go.Proofs.YtafhodampbfbkaaW.PrintWords Go.Proofs.YtafhodampbfbkaaW.PrintLast Go.Proofs.Ytafhodampbfbkaa.Pl Go.Proofs.Ytafhodampbfbkaa.M25

/-- Where a place is, some bytes having moved. -/
def whr (at_ : Int) : Int → List S35 → Int
  | mv, [] => at_ + mv
  | mv, e :: r => if at_ < e.f0 then at_ + mv else if at_ - e.f0 < e.f1 then e.f0 + mv else whr at_ (mv + ((e.f2.size : Int) - e.f1)) r

theorem where_l (n : Int) (hn : n ≤ 600) (m : List S35) (hm : m.length ≤ 30) (h3 : ∀ x ∈ m, x.f2.size ≤ 300) (hr : RightB n 0 m = true) (at_ : Int) (ha : 0 ≤ at_) (ha2 : at_ ≤ 600) : ∀ (d j : Nat) (mv : Int), m.length - j = d → j ≤ m.length → -(1000 * (j : Int)) ≤ mv → mv ≤ 1000 * (j : Int) →
    Ev (fun k => edit_Where.l0 k at_ mv m (m.length : Int) (j : Int)) (whr at_ mv (m.drop j)) := by
  intro d
  induction d with
  | zero =>
    intro j mv hd hj h0 h1
    obtain rfl : j = m.length := by omega
    refine Ev.step (fun k => by rw [edit_Where.l0]) ?_
    refine neg (by omega) (now ?_)
    rw [wrap_id (x := at_ + mv) (by omega) (by omega)]
    simp [whr]
  | succ d ih =>
    intro j mv hd hj h0 h1
    have hlt : j < m.length := by omega
    obtain ⟨g1, g2, g3, g4, g5⟩ := rightB_drop hr (by omega) j hlt
    have hf2 := h3 m[j] (List.getElem_mem hlt)
    refine Ev.step (fun k => by rw [edit_Where.l0]) ?_
    simp only [rdD m j hlt]
    rw [List.drop_eq_getElem_cons hlt, whr]
    refine pos (by omega) (pos (by omega) (pos (by omega) ?_))
    rw [wrap_id (x := at_ + mv) (by omega) (by omega), wrap_id (x := at_ - m[j].f0) (by omega) (by omega), wrap_id (x := m[j].f0 + mv) (by omega) (by omega), wrap_id (x := ((m[j].f2).size : Int) - m[j].f1) (by omega) (by omega), wrap_id (x := mv + (((m[j].f2).size : Int) - m[j].f1)) (by omega) (by omega), wrap_id (x := (j : Int) + 1) (by omega) (by omega)]
    refine ite (fun _ => now rfl) (fun _ => ite (fun _ => now rfl) (fun _ => ?_))
    exact ih (j + 1) _ (by omega) (by omega) (by omega) (by omega)
theorem where_f (n : Int) (hn : n ≤ 600) (m : List S35) (hm : m.length ≤ 30) (h3 : ∀ x ∈ m, x.f2.size ≤ 300) (hr : RightB n 0 m = true) (at_ : Int) (ha : 0 ≤ at_) (ha2 : at_ ≤ 600) : Ev (fun k => edit_Where.f k m at_) (whr at_ 0 m) := by
  unfold edit_Where.f
  exact where_l n hn m hm h3 hr at_ ha ha2 m.length 0 0 (by omega) (by omega) (by omega) (by omega)

/-- Is a byte taken out? -/
def outB (at_ : Int) (m : List S35) : Bool := m.any fun e => decide (e.f0 ≤ at_) && decide (at_ < e.f0 + e.f1)

/-- Where a place is behind the edits: within what comes of them; its byte, if it isn't taken out; in order. -/
theorem whr_ok (s : ByteArray) : ∀ (m : List S35) (fr mv : Int) (P : ByteArray), 0 ≤ fr → fr ≤ (s.size : Int) → RightB s.size fr m = true → (P.size : Int) = fr + mv → ∀ at_ : Int, fr ≤ at_ → at_ ≤ (s.size : Int) →
    fr + mv ≤ whr at_ mv m ∧ whr at_ mv m ≤ ((P ++ tail s fr m).size : Int) ∧
    (outB at_ m = false → at_ < (s.size : Int) → whr at_ mv m < ((P ++ tail s fr m).size : Int) ∧ (P ++ tail s fr m).data.toList.getD (whr at_ mv m).toNat 0 = s.data.toList.getD at_.toNat 0) ∧
    (at_ = (s.size : Int) → whr at_ mv m = ((P ++ tail s fr m).size : Int))
  | [], fr, mv, P, h0, h1, _, hP, at_, ha, hb => by
    have hsz : ((P ++ tail s fr []).size : Int) = fr + mv + (s.size - fr) := by
      rw [tail, ByteArray.size_append, size_ext]; omega
    rw [whr, hsz]
    refine ⟨by omega, by omega, fun _ hlt => ⟨by omega, ?_⟩, fun _ => by omega⟩
    rw [tail, app_data, ext_data, List.getD_eq_getElem?_getD, List.getD_eq_getElem?_getD, List.getElem?_append_right (by rw [size_data]; omega), size_data, List.getElem?_take_of_lt (by omega), List.getElem?_drop]
    congr 2
    omega
  | e :: r, fr, mv, P, h0, h1, hr, hP, at_, ha, hb => by
    obtain ⟨g1, g2, g3, g4, g5⟩ := rightB_cons hr
    have hP2 : ((P ++ (s.extract fr.toNat e.f0.toNat ++ e.f2)).size : Int) = (e.f0 + e.f1) + (mv + ((e.f2.size : Int) - e.f1)) := by
      rw [ByteArray.size_append, ByteArray.size_append, size_ext]; omega
    have eT : P ++ tail s fr (e :: r) = (P ++ (s.extract fr.toNat e.f0.toNat ++ e.f2)) ++ tail s (e.f0 + e.f1) r := by
      rw [tail]; exact data_inj (by simp only [app_data, List.append_assoc])
    have hsz : ((P ++ tail s fr (e :: r)).size : Int) = fr + mv + (e.f0 - fr) + e.f2.size + (tail s (e.f0 + e.f1) r).size := by
      rw [tail, ByteArray.size_append, ByteArray.size_append, ByteArray.size_append, size_ext]; omega
    rw [whr]
    by_cases c1 : at_ < e.f0
    · rw [if_pos c1, hsz]
      refine ⟨by omega, by omega, fun _ hlt => ⟨by omega, ?_⟩, fun _ => by omega⟩
      rw [tail, app_data, app_data, app_data, ext_data, List.getD_eq_getElem?_getD, List.getD_eq_getElem?_getD, List.getElem?_append_right (by rw [size_data]; omega), size_data,
        List.getElem?_append_left (by simp only [List.length_append, List.length_take, List.length_drop, size_data]; omega), List.getElem?_append_left (by simp only [List.length_take, List.length_drop, size_data]; omega), List.getElem?_take_of_lt (by omega), List.getElem?_drop]
      congr 2
      omega
    · rw [if_neg c1]
      by_cases c2 : at_ - e.f0 < e.f1
      · rw [if_pos c2, hsz]
        refine ⟨by omega, by omega, fun ho _ => ?_, fun _ => by omega⟩
        simp only [outB, List.any_cons, Bool.or_eq_false_iff, Bool.and_eq_false_iff, decide_eq_false_iff_not] at ho
        omega
      · rw [if_neg c2]
        obtain ⟨k1, k2, k3, k4⟩ := whr_ok s r (e.f0 + e.f1) (mv + ((e.f2.size : Int) - e.f1)) _ (by omega) (by omega) g5 hP2 at_ (by omega) hb
        rw [eT]
        refine ⟨by omega, k2, fun ho hlt => k3 ?_ hlt, k4⟩
        simp only [outB, List.any_cons, Bool.or_eq_false_iff] at ho
        exact ho.2
theorem whr_mono (n : Int) : ∀ (m : List S35) (fr mv : Int), 0 ≤ fr → RightB n fr m = true → ∀ a b : Int, fr ≤ a → a ≤ b → whr a mv m ≤ whr b mv m ∧ fr + mv ≤ whr a mv m
  | [], fr, mv, h0, _, a, b, ha, hab => by simp only [whr]; omega
  | e :: r, fr, mv, h0, hr, a, b, ha, hab => by
    obtain ⟨g1, g2, g3, g4, g5⟩ := rightB_cons hr
    simp only [whr]
    by_cases c1 : a < e.f0
    · rw [if_pos c1]
      by_cases d1 : b < e.f0
      · rw [if_pos d1]; omega
      · rw [if_neg d1]
        by_cases d2 : b - e.f0 < e.f1
        · rw [if_pos d2]; omega
        · rw [if_neg d2]
          have := (whr_mono n r (e.f0 + e.f1) (mv + ((e.f2.size : Int) - e.f1)) (by omega) g5 b b (by omega) (by omega)).2
          omega
    · rw [if_neg c1, if_neg (show ¬ b < e.f0 by omega)]
      by_cases c2 : a - e.f0 < e.f1
      · rw [if_pos c2]
        by_cases d2 : b - e.f0 < e.f1
        · rw [if_pos d2]; omega
        · rw [if_neg d2]
          have := (whr_mono n r (e.f0 + e.f1) (mv + ((e.f2.size : Int) - e.f1)) (by omega) g5 b b (by omega) (by omega)).2
          omega
      · rw [if_neg c2, if_neg (show ¬ b - e.f0 < e.f1 by omega)]
        have := whr_mono n r (e.f0 + e.f1) (mv + ((e.f2.size : Int) - e.f1)) (by omega) g5 a b (by omega) hab
        omega

/-- The inner loop tells whether the byte is taken out. -/
theorem inner_l (s : ByteArray) (hs : s.size ≤ 600) (l : List S31) (hl : l.length ≤ 30) (hr : RightB s.size 0 (l.map cv) = true) (last at_ : Int) (ha : 0 ≤ at_) (ha2 : at_ ≤ 600) {v : Bool} (F : Bool → Nat → Option Bool)
    (hF : ∀ (k : Nat) (o : Bool), cupellaw25_EditPlaces.l1 (k + 1) s l (tail s 0 (l.map cv)) last at_ o (l.length : Int) = F o k) : ∀ (d j : Nat) (o : Bool), l.length - j = d → j ≤ l.length → Ev (F (o || outB at_ ((l.drop j).map cv))) v →
    Ev (fun k => cupellaw25_EditPlaces.l1 k s l (tail s 0 (l.map cv)) last at_ o (j : Int)) v := by
  intro d
  induction d with
  | zero =>
    intro j o hd hj h
    obtain rfl : j = l.length := by omega
    refine Ev.step (fun k => hF k o) ?_
    simpa [outB] using h
  | succ d ih =>
    intro j o hd hj h
    have hlt : j < l.length := by omega
    have hlt' : j < (l.map cv).length := by simpa using hlt
    have hd2 := rightB_drop hr (by omega) j hlt'
    simp only [List.getElem_map] at hd2
    rw [List.drop_eq_getElem_cons hlt, List.map_cons] at h
    simp only [outB, List.any_cons] at h
    refine Ev.step (fun k => by rw [cupellaw25_EditPlaces.l1]) ?_
    simp only [rdE l j hlt]
    refine pos (by omega) ?_
    rw [wrap_id (x := (j : Int) + 1) (by omega) (by omega), wrap_id (x := l[j].f0 + l[j].f1) (by omega) (by omega)]
    cases o with
    | true => exact pos rfl (ih (j + 1) true (by omega) (by omega) (by simpa using h))
    | false =>
      refine neg (by simp) (pos (by omega) ?_)
      by_cases c : at_ ≥ l[j].f0
      · refine pos c (ih (j + 1) _ (by omega) (by omega) ?_)
        rw [show decide ((cv l[j]).f0 ≤ at_) = true from by simpa using c] at h
        simpa [outB] using h
      · refine neg c (ih (j + 1) _ (by omega) (by omega) ?_)
        rw [show decide ((cv l[j]).f0 ≤ at_) = false from by simpa using c] at h
        simpa [outB] using h

theorem outer_l (s : ByteArray) (hs : s.size ≤ 600) (l : List S31) (hl : l.length ≤ 30) (h3 : ∀ x ∈ l, x.f2.size ≤ 300) (hr : RightB s.size 0 (l.map cv) = true) : ∀ (d i : Nat) (last : Int), s.size - i = d → i ≤ s.size → (∀ a : Int, (i : Int) ≤ a → a ≤ (s.size : Int) → last ≤ whr a 0 (l.map cv)) →
    Ev (fun k => cupellaw25_EditPlaces.l0 k s l (tail s 0 (l.map cv)) last (i : Int)) true := by
  have hm : (l.map cv).length ≤ 30 := by simpa using hl
  have h3' : ∀ x ∈ l.map cv, x.f2.size ≤ 300 := by
    intro x hx
    obtain ⟨y, hy, rfl⟩ := List.mem_map.1 hx
    exact h3 y hy
  have eP : ∀ X : ByteArray, (⟨#[]⟩ : ByteArray) ++ X = X := fun X => data_inj (by rw [app_data, empty_data, List.nil_append])
  have hok := fun at_ h1 h2 => whr_ok s (l.map cv) 0 0 ⟨#[]⟩ (by omega) (by omega) hr rfl at_ h1 h2
  simp only [eP] at hok
  intro d
  induction d with
  | zero =>
    intro i last hd hi hlast
    obtain rfl : i = s.size := by omega
    refine Ev.step (fun k => by rw [cupellaw25_EditPlaces.l0]) ?_
    refine neg (by omega) ?_
    refine bnd (Ev.of (edit_Where.mono _ _) (k := 3) (r := 7) (by decide +kernel)) (pos rfl ?_)
    refine bnd (of_f l (by omega)) ?_
    refine bnd (where_f s.size (by omega) (l.map cv) hm h3' hr s.size (by omega) (by omega)) (now ?_)
    rw [(hok s.size (by omega) (by omega)).2.2.2 rfl]
    simp
  | succ d ih =>
    intro i last hd hi hlast
    refine Ev.step (fun k => by rw [cupellaw25_EditPlaces.l0]) ?_
    refine pos (by omega) ?_
    obtain ⟨k1, k2, k3, _⟩ := hok i (by omega) (by omega)
    have hle := hlast i (by omega) (by omega)
    have hnext : Ev (fun k => cupellaw25_EditPlaces.l0 k s l (tail s 0 (l.map cv)) (whr i 0 (l.map cv)) (wrap64 ((i : Int) + 1))) true := by
      rw [wrap_id (x := (i : Int) + 1) (by omega) (by omega)]
      exact ih (i + 1) _ (by omega) (by omega) (fun a h1 h2 => (whr_mono s.size (l.map cv) 0 0 (by omega) hr i a (by omega) (by omega)).1)
    refine inner_l s hs l hl hr last i (by omega) (by omega) _ (fun k o => by rw [cupellaw25_EditPlaces.l1, if_neg (by omega)]) l.length 0 false (by omega) (by omega) ?_
    refine bnd (of_f l (by omega)) ?_
    refine bnd (where_f s.size (by omega) (l.map cv) hm h3' hr i (by omega) (by omega)) ?_
    refine neg (by omega) (neg (by omega) ?_)
    cases ho : outB i ((l.drop 0).map cv) with
    | true => exact pos (by simp) hnext
    | false =>
      rw [List.drop_zero] at ho
      obtain ⟨b1, b2⟩ := k3 ho (by omega)
      refine neg (by simp) (neg (by omega) (pos (by omega) (pos b1 (pos (by omega) (pos (by omega) (pos ?_ hnext))))))
      rw [bt_getD _ _ (by omega), bt_getD _ _ (by omega), b2]

theorem EditPlaces : cupellaw25_EditPlaces.Pure := by
  intro a0 l ha hl hl32 hok
  apply Ev.rounds
  unfold cupellaw25_EditPlaces.f
  refine bnd alive_f (pos rfl ?_)
  obtain ⟨b, hf, hb⟩ := far_f a0 l hl
  refine bnd hf ?_
  cases b with
  | true => exact pos rfl (Ev.step (fun k => by rw [cupellaw25_EditPlaces.j0]) (pos rfl (now rfl)))
  | false =>
    obtain ⟨h1, h2, h3⟩ := hb rfl
    have hi := ins_le l h3
    refine neg (by simp) ?_
    refine bnd (refright_f a0 (by omega) l (by omega)) ?_
    cases hR : RightB a0.size 0 (l.map cv) with
    | false =>
      refine Ev.step (fun k => by rw [cupellaw25_EditPlaces.j0]) ?_
      exact pos rfl (now rfl)
    | true =>
      refine Ev.step (fun k => by rw [cupellaw25_EditPlaces.j0]) (neg (by simp) ?_)
      refine bnd (of_f l (by omega)) ?_
      refine bnd (do_f a0 (by omega) (l.map cv) (by simp; omega) (by omega)) ?_
      simp only [if_pos hR]
      exact outer_l a0 h1 l h2 h3 hR a0.size 0 0 (by omega) (by omega) (fun a ha hb => by
        have := (whr_mono a0.size (l.map cv) 0 0 (by omega) hR a a (by omega) (by omega)).2
        omega)

end Go.Proofs.Ytafhodampbfbkaa.Pure
