/- The pure statement of EditJoins. -/
import Derived.Test.YtafhodampbfbkaaSayEditJoins
import Derived.Test.YtafhodampbfbkaaMath25
set_option linter.unusedVariables false
set_option linter.unusedSimpArgs false
namespace Go.Proofs.Ytafhodampbfbkaa.Pure
open Go.RowKit Go.Proofs.Ytafhodampbfbkaa.PA Go.Proofs.YtafhodampbfbkaaW.PrintWords Go.Proofs.YtafhodampbfbkaaW.PrintLast Go.Proofs.Ytafhodampbfbkaa.Pl Go.Proofs.Ytafhodampbfbkaa.M25

/-- By how much the edits let a source grow. -/
def gr : List S35 → Int
  | [] => 0
  | e :: r => e.f2.size - e.f1 + gr r
theorem tail_gr (s : ByteArray) : ∀ (m : List S35) (fr : Int), 0 ≤ fr → fr ≤ (s.size : Int) → RightB s.size fr m = true → ((tail s fr m).size : Int) = s.size - fr + gr m
  | [], fr, h0, h1, _ => by rw [tail, size_ext]; simp [gr]; omega
  | e :: r, fr, h0, h1, hr => by
    obtain ⟨g1, g2, g3, g4, g5⟩ := rightB_cons hr
    have ih := tail_gr s r (e.f0 + e.f1) (by omega) (by omega) g5
    rw [tail, ByteArray.size_append, ByteArray.size_append, size_ext, gr]
    omega

theorem grown_l (s t x : ByteArray) (hs : s.size ≤ 600) (l : List S31) (hl : l.length ≤ 30) (h3 : ∀ x ∈ l, x.f2.size ≤ 300) (hr : RightB s.size 0 (l.map cv) = true)
    (ht : t.size ≤ 20000) (hx : t.toList = x.toList) : ∀ (d j : Nat) (acc : Int), l.length - j = d → j ≤ l.length → -(1000 * (j : Int)) ≤ acc → acc ≤ 1000 * (j : Int) → (t.size : Int) = s.size + (acc + gr ((l.drop j).map cv)) →
    Ev (fun k => cupellaw25_EditJoins.l1 k s l t x s 0 acc (j : Int)) true := by
  intro d
  induction d with
  | zero =>
    intro j acc hd hj h0 h1 he
    obtain rfl : j = l.length := by omega
    refine Ev.step (fun k => by rw [cupellaw25_EditJoins.l1]) ?_
    refine neg (by omega) (pos hx (pos rfl (pos rfl (now ?_))))
    simp only [List.drop_length, List.map_nil, gr] at he
    rw [wrap_id (x := (s.size : Int) + acc) (by omega) (by omega)]
    simp; omega
  | succ d ih =>
    intro j acc hd hj h0 h1 he
    have hlt : j < l.length := by omega
    have hlt' : j < (l.map cv).length := by simpa using hlt
    have hd2 := rightB_drop hr (by omega) j hlt'
    simp only [List.getElem_map] at hd2
    have hf2 := h3 l[j] (List.getElem_mem hlt)
    rw [List.drop_eq_getElem_cons hlt, List.map_cons, gr] at he
    dsimp only [cv] at he hd2
    refine Ev.step (fun k => by rw [cupellaw25_EditJoins.l1]) ?_
    simp only [rdE l j hlt]
    refine pos (by omega) (pos (by omega) ?_)
    rw [wrap_id (x := acc + ((l[j].f2).size : Int)) (by omega) (by omega), wrap_id (x := acc + ((l[j].f2).size : Int) - l[j].f1) (by omega) (by omega), wrap_id (x := (j : Int) + 1) (by omega) (by omega)]
    exact ih (j + 1) _ (by omega) (by omega) (by omega) (by omega) (by omega)

theorem rightB_one {n : Int} {e : S35} (h0 : 0 ≤ e.f0) (h1 : 0 ≤ e.f1) (h2 : e.f0 + e.f1 ≤ n) : RightB n 0 [e] = true := by
  simp [RightB]
  omega
theorem do_nil (s : ByteArray) (hs : s.size ≤ 600) : Ev (fun k => edit_Do.f k s ([] : List S35)) (s, 0) := by
  have h := do_f s (by omega) [] (by simp) (by simp [ins])
  refine val h ?_
  rw [if_pos (by simp [RightB]), tail]
  rw [show s.extract (0 : Int).toNat s.size = s from data_inj (by rw [ext_data]; simp [List.take_of_length_le, size_data])]

theorem ins_one (l : List S31) (h3 : ∀ x ∈ l, x.f2.size ≤ 300) (i : Nat) (h : i < l.length) : ins [cv l[i]] ≤ 300 := by
  have := h3 l[i] (List.getElem_mem h)
  simp only [ins]
  omega

theorem joins_l (s : ByteArray) (hs : s.size ≤ 600) (l : List S31) (hl : l.length ≤ 30) (h3 : ∀ x ∈ l, x.f2.size ≤ 300) (hr : RightB s.size 0 (l.map cv) = true) : ∀ (i : Nat), i ≤ l.length →
    Ev (fun k => cupellaw25_EditJoins.l0 k s l (tail s 0 (l.map cv)) (refdo s ((l.drop i).map cv)) ((i : Int) - 1)) true
  | 0, _ => by
    have hi := ins_le l h3
    have e1 : refdo s (l.map cv) = tail s 0 (l.map cv) := by
      rw [refdo_tail s (l.map cv) 0 (by omega) (by omega) hr]
      exact data_inj (by rw [app_data, ext_data]; simp)
    have hsz := tail_size s (l.map cv) 0 (by omega) (by omega) hr
    have hgr := tail_gr s (l.map cv) 0 (by omega) (by omega) hr
    refine Ev.step (fun k => by rw [cupellaw25_EditJoins.l0]) ?_
    refine neg (by omega) ?_
    refine bnd (do_nil s hs) ?_
    simp only [List.drop_zero, e1]
    exact grown_l s _ _ hs l hl h3 hr (by omega) rfl l.length 0 0 (by omega) (by omega) (by omega) (by omega) (by simp only [List.drop_zero]; omega)
  | i + 1, h => by
    have hlt : i < l.length := by omega
    have hlt' : i < (l.map cv).length := by simpa using hlt
    have hi := ins_le l h3
    have hd := rightB_drop hr (by omega) i hlt'
    simp only [List.getElem_map, ← List.map_drop] at hd
    obtain ⟨g1, g2, g3, g4, g5⟩ : 0 ≤ l[i].f0 ∧ l[i].f0 ≤ (s.size : Int) ∧ 0 ≤ l[i].f1 ∧ l[i].f1 ≤ (s.size : Int) - l[i].f0 ∧ RightB s.size (l[i].f0 + l[i].f1) ((l.drop (i + 1)).map cv) = true := hd
    have ht := refdo_tail s _ (l[i].f0 + l[i].f1) (by omega) (by omega) g5
    have hts := tail_size s _ (l[i].f0 + l[i].f1) (by omega) (by omega) g5
    have hin := ins_drop (l.map cv) (i + 1)
    simp only [← List.map_drop] at hin
    have hX : (refdo s ((l.drop (i + 1)).map cv)).size = (l[i].f0 + l[i].f1).toNat + (tail s (l[i].f0 + l[i].f1) ((l.drop (i + 1)).map cv)).size := by
      rw [ht, ByteArray.size_append, size_ext]; omega
    have h2 := joins_l s hs l hl h3 hr i (by omega)
    rw [List.drop_eq_getElem_cons hlt, List.map_cons, refdo] at h2
    generalize refdo s ((l.drop (i + 1)).map cv) = X at hX h2
    refine Ev.step (fun k => by rw [cupellaw25_EditJoins.l0]) ?_
    rw [show (((i + 1 : Nat) : Int) - 1) = (i : Int) from by omega, wrap_id (x := (i : Int) + 1) (by omega) (by omega), wrap_id (x := (i : Int) - 1) (by omega) (by omega)]
    refine pos (by omega) (pos (by omega) (pos (by omega) (pos (by omega) ?_)))
    have hcut : (l.take ((i : Int) + 1).toNat).drop (i : Int).toNat = [l[i]] := by
      rw [show ((i : Int) + 1).toNat = i + 1 from by omega, Int.toNat_natCast, List.take_succ_eq_append_getElem hlt, List.drop_append_of_le_length (by simp; omega)]
      simp
    rw [hcut]
    refine bnd (of_f [l[i]] (by simp)) ?_
    have hone : RightB X.size 0 [cv l[i]] = true := rightB_one g1 g3 (by have : ((cv l[i]).f0 + (cv l[i]).f1) = l[i].f0 + l[i].f1 := rfl; omega)
    refine bnd (do_f X (by omega) ([l[i]].map cv) (by simp) (by have := ins_one l h3 i hlt; simp only [List.map_cons, List.map_nil]; omega)) ?_
    simp only [List.map_cons, List.map_nil, if_pos hone]
    refine pos (by trivial) ?_
    have e2 : tail X 0 [cv l[i]] = X.extract 0 l[i].f0.toNat ++ l[i].f2 ++ X.extract (l[i].f0 + l[i].f1).toNat X.size := by
      simp only [tail]; rfl
    rw [e2]
    exact h2

theorem EditJoins : cupellaw25_EditJoins.Pure := by
  intro a0 l ha hl hl32 hok
  apply Ev.rounds
  unfold cupellaw25_EditJoins.f
  refine bnd alive_f (pos rfl ?_)
  obtain ⟨b, hf, hb⟩ := far_f a0 l hl
  refine bnd hf ?_
  cases b with
  | true => exact pos rfl (Ev.step (fun k => by rw [cupellaw25_EditJoins.j0]) (pos rfl (now rfl)))
  | false =>
    obtain ⟨h1, h2, h3⟩ := hb rfl
    have hi := ins_le l h3
    refine neg (by simp) ?_
    refine bnd (refright_f a0 (by omega) l (by omega)) ?_
    cases hR : RightB a0.size 0 (l.map cv) with
    | false =>
      refine Ev.step (fun k => by rw [cupellaw25_EditJoins.j0]) ?_
      exact pos rfl (now rfl)
    | true =>
      refine Ev.step (fun k => by rw [cupellaw25_EditJoins.j0]) (neg (by simp) ?_)
      refine bnd (of_f l (by omega)) ?_
      refine bnd (do_f a0 (by omega) (l.map cv) (by simp; omega) (by omega)) ?_
      simp only [if_pos hR]
      have h := joins_l a0 h1 l h2 h3 hR l.length (Nat.le_refl _)
      rw [wrap_id (x := (l.length : Int) - 1) (by omega) (by omega)]
      simpa [refdo] using h

end Go.Proofs.Ytafhodampbfbkaa.Pure
