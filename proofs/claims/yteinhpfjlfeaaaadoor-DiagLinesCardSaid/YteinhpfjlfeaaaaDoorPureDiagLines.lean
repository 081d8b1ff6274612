/- The pure statement of DiagLines. -/
import Derived.Test.YteinhpfjlfeaaaaDoorSayDiagLines
import Derived.Test.YteinhpfjlfeaaaaDoorMathD19
set_option linter.unusedVariables false
set_option linter.unusedSimpArgs false
namespace Go.Proofs.YteinhpfjlfeaaaaDoor.Pure
open Go.RowKit Go.Proofs.YteinhpfjlfeaaaaDoor.PA Go.Proofs.YteinhpfjlfeaaaaDoorW.PrintWords Go.Proofs.YteinhpfjlfeaaaaDoorW.PrintLast Go.Proofs.YteinhpfjlfeaaaaDoor.Pl Go.Proofs.YteinhpfjlfeaaaaDoor.M19

@[reducible] def cvd (x : S23) : S26 := ⟨x.f0, x.f1, x.f2⟩
theorem lines_snoc (src name : ByteArray) (d : S26) : ∀ (l : List S26) (a0 a t : ByteArray), diag_Lines.loop src name l a0 = some a → diag_Line.f name src d.f0 d.f1 d.f2 = some t → a.size + t.size ≤ 140737488355328 → diag_Lines.loop src name (l ++ [d]) a0 = some (a ++ t)
  | [], a0, a, t, h, ht, hs => by
    obtain rfl := Option.some.inj h
    simp only [List.nil_append, diag_Lines.loop, ht, Option.bind_some, if_pos hs]
  | x :: r, a0, a, t, h, ht, hs => by
    rw [diag_Lines.loop] at h
    obtain ⟨u, hu, h2⟩ := Option.bind_eq_some_iff.1 h
    split at h2
    · rename_i c
      rw [List.cons_append, diag_Lines.loop, hu, Option.bind_some, if_pos c]
      exact lines_snoc src name d r _ a t h2 ht hs
    · cases h2
theorem rdL (l : List (List S23)) (i : Nat) (h : i < l.length) : rd_L11 l (i : Int) = l[i] := by
  simp [rd_L11, List.getD_eq_getElem?_getD, List.getElem?_eq_getElem h]
theorem rdG (l : List S23) (i : Nat) (h : i < l.length) : rd_T23 l (i : Int) = l[i] := by
  simp [rd_T23, List.getD_eq_getElem?_getD, List.getElem?_eq_getElem h]
theorem rdR (l : List S46) (i : Nat) (h : i < l.length) : rd_T46 l (i : Int) = l[i] := by
  simp [rd_T46, List.getD_eq_getElem?_getD, List.getElem?_eq_getElem h]
def s1 (l : List S46) : Nat := (l.map (·.f1.length)).sum
def s2 (l : List S46) : Nat := (l.map (·.f2.length)).sum
/-- Few of them, each with few diagnostics and casts. -/
def Few (l : List S46) : Prop := ∀ x ∈ l, x.f1.length ≤ 20 ∧ x.f2.length ≤ 8
theorem few_le : ∀ (l : List S46), Few l → s1 l ≤ 20 * l.length ∧ s2 l ≤ 8 * l.length
  | [], _ => ⟨by simp [s1], by simp [s2]⟩
  | x :: r, h => by
    have ih := few_le r (fun y hy => h y (List.mem_cons_of_mem _ hy))
    have hx := h x (List.mem_cons_self ..)
    simp only [s1, s2, List.map_cons, List.sum_cons, List.length_cons] at ih ⊢
    omega
theorem few_take {l : List S46} (h : Few l) (n : Nat) : Few (l.take n) := fun x hx => h x (List.mem_of_mem_take hx)
theorem s1_snoc (l : List S46) (x : S46) : s1 (l ++ [x]) = s1 l + x.f1.length := by simp [s1]
theorem s2_snoc (l : List S46) (x : S46) : s2 (l ++ [x]) = s2 l + x.f2.length := by simp [s2]
theorem count_l (l : List S46) (hl : l.length ≤ 10) (hf : Few l) : ∀ (d j : Nat), l.length - j = d → j ≤ l.length →
    Ev (fun k => diag_Count.l0 k (s1 (l.take j) : Int) (s2 (l.take j) : Int) l (l.length : Int) (j : Int)) ((s1 l : Int), (s2 l : Int)) := by
  intro d
  induction d with
  | zero =>
    intro j hd hj
    obtain rfl : j = l.length := by omega
    exact Ev.step (fun k => by rw [diag_Count.l0]) (neg (by omega) (now (by rw [List.take_length])))
  | succ d ih =>
    intro j hd hj
    have hlt : j < l.length := by omega
    have hb := few_le (l.take j) (few_take hf j)
    have hx := hf l[j] (List.getElem_mem _)
    have hlj : (l.take j).length ≤ j := by rw [List.length_take]; omega
    refine Ev.step (fun k => by rw [diag_Count.l0]) (pos (by omega) (pos (by omega) (pos (by omega) ?_)))
    have hn := ih (j + 1) (by omega) (by omega)
    rw [List.take_succ_eq_append_getElem hlt, s1_snoc, s2_snoc] at hn
    rw [rdR l j hlt, wrap_id (by omega) (by omega), wrap_id (by omega) (by omega), wrap_id (by omega) (by omega)]
    exact hn
theorem count_f (l : List S46) (hl : l.length ≤ 10) (hf : Few l) : Ev (fun k => diag_Count.f k l) ((s1 l : Int), (s2 l : Int)) := count_l l hl hf l.length 0 rfl (by omega)

theorem mod9 (x : Int) (h0 : 0 ≤ x) (h1 : x ≤ 255) : 0 ≤ Int.tmod (wrap64 x) 9 ∧ Int.tmod (wrap64 x) 9 ≤ 8 := by
  rw [wrap_id (by omega) (by omega), Int.tmod_eq_emod_of_nonneg h0]
  omega

section
variable (a0 : ByteArray) (hs : a0.size ≤ 300) (l1 : List (List S23)) (hl1 : l1.length ≤ 10) (l2 : List Int) (h1 : ∀ x ∈ l1, ∀ y ∈ x, OK23 y) (h2 : ∀ x ∈ l2, (Lit.int .u8 x).wf = true)
def Outer (i : Nat) : Prop := ∀ x7 : List S46, x7.length = i → Few x7 → Ev (fun k => cupellaw19_DiagLines.l0 k a0 l1 l2 x7 (s1 x7 : Int) (s2 x7 : Int) (i : Int)) true
include hs hl1 h1 h2
theorem inner (i : Nat) (hi : i < l1.length) (hlen : (l1[i]).length ≤ 20) (ho : Outer a0 l1 l2 (i + 1)) (x7 : List S46) (hx7 : x7.length = i) (hf : Few x7) : ∀ (d j : Nat) (acc : ByteArray), (l1[i]).length - j = d → j ≤ (l1[i]).length → diag_Lines.loop a0 ⟨#[102]⟩ (((l1[i]).take j).map cvd) ⟨#[]⟩ = some acc → acc.size ≤ j * 300200 →
    Ev (fun k => cupellaw19_DiagLines.l1 k a0 l1 l2 x7 (s1 x7 : Int) (s2 x7 : Int) (i : Int) acc (j : Int) ⟨#[102]⟩ (((l1[i]).take j).map cvd)) true := by
  intro d
  have hfl := few_le x7 hf
  induction d with
  | zero =>
    intro j acc hd hj hacc hsz
    obtain rfl : j = (l1[i]).length := by omega
    rw [List.take_length] at hacc ⊢
    refine Ev.step (fun k => by rw [cupellaw19_DiagLines.l1]) (pos (by omega) (pos (by omega) ?_))
    simp only [rdL l1 i hi]
    refine neg (by omega) ?_
    have hml : ((l1[i]).map cvd).length = (l1[i]).length := by simp
    by_cases hc : (i : Int) < (l2.length : Int)
    · have hlt2 : i < l2.length := by omega
      have hu := h2 l2[i] (List.getElem_mem _)
      have hu8 : 0 ≤ l2[i] ∧ l2[i] ≤ 255 := by
        simp only [Lit.wf, Bool.and_eq_true, decide_eq_true_eq] at hu
        have e1 : IntKind.u8.min = 0 := by decide
        have e2 : IntKind.u8.max = 255 := by decide
        rw [e1, e2] at hu
        exact hu
      have hrd : rd l2 (i : Int) = l2[i] := by simp [rd, List.getD_eq_getElem?_getD, List.getElem?_eq_getElem hlt2]
      have hm := mod9 l2[i] hu8.1 hu8.2
      refine pos hc ?_
      rw [hrd]
      generalize Int.tmod (wrap64 l2[i]) 9 = q at hm ⊢
      refine pos (by omega) (pos (by omega) (smb ?_))
      have hL : diag_Lines.f a0 ⟨#[102]⟩ ((l1[i]).map cvd) (List.replicate q.toNat 0) [] = some acc := hacc
      rw [hL]
      refine smb (pos rfl (pos (by omega) ?_))
      have hrep : (List.replicate q.toNat (0 : Int)).length = q.toNat := List.length_replicate
      have := ho (x7 ++ [⟨⟨#[102]⟩, (l1[i]).map cvd, List.replicate q.toNat 0, []⟩]) (by simp [hx7]) (fun x hx => by
        rcases List.mem_append.1 hx with hx | hx
        · exact hf x hx
        · obtain rfl := List.mem_singleton.1 hx
          exact ⟨by simp only; omega, by simp only; omega⟩)
      rw [s1_snoc, s2_snoc] at this
      rw [wrap_id (by omega) (by omega), wrap_id (by omega) (by omega), wrap_id (by omega) (by omega)]
      exact this
    · refine neg hc ?_
      have hL : diag_Lines.f a0 ⟨#[102]⟩ ((l1[i]).map cvd) [] [] = some acc := hacc
      rw [hL]
      refine smb (pos rfl (pos (by omega) ?_))
      have := ho (x7 ++ [⟨⟨#[102]⟩, (l1[i]).map cvd, [], []⟩]) (by simp [hx7]) (fun x hx => by
        rcases List.mem_append.1 hx with hx | hx
        · exact hf x hx
        · obtain rfl := List.mem_singleton.1 hx
          exact ⟨by simp only; omega, by simp⟩)
      rw [s1_snoc, s2_snoc] at this
      have h0 : (([] : List Int).length : Int) = 0 := rfl
      rw [wrap_id (by omega) (by omega), wrap_id (by omega) (by omega), wrap_id (by omega) (by omega)]
      exact this
  | succ d ih =>
    intro j acc hd hj hacc hsz
    have hlt : j < (l1[i]).length := by omega
    refine Ev.step (fun k => by rw [cupellaw19_DiagLines.l1]) (pos (by omega) (pos (by omega) ?_))
    simp only [rdL l1 i hi, rdG (l1[i]) j hlt]
    refine pos (by omega) (pos (by omega) ?_)
    by_cases hn : ((l1[i])[j].f2.size : Int) > 100
    · exact pos hn (now rfl)
    refine neg hn ?_
    have hml : (((l1[i]).take j).map cvd).length ≤ 20 := by simp; omega
    refine pos (by omega) ?_
    have hok := (h1 (l1[i]) (List.getElem_mem _) (l1[i])[j] (List.getElem_mem _)).2.1
    simp only [Lit.wf, Bool.and_eq_true, decide_eq_true_eq] at hok
    have e1 : IntKind.i64.min = -9223372036854775808 := by decide
    have e2 : IntKind.i64.max = 9223372036854775807 := by decide
    rw [e1, e2] at hok
    obtain ⟨t, t1, t2, t3⟩ := line_both3 ⟨#[102]⟩ a0 (l1[i])[j].f2 (l1[i])[j].f0 (l1[i])[j].f1 hok.1 hok.2 (by decide) (by omega) (by omega)
    have hjs : j * 300200 ≤ 20 * 300200 := Nat.mul_le_mul_right _ (by omega)
    refine bnd t2 (pos (by omega) ?_)
    have hmap : ((l1[i]).take (j + 1)).map cvd = ((l1[i]).take j).map cvd ++ [cvd (l1[i])[j]] := by rw [List.take_succ_eq_append_getElem hlt, List.map_append]; rfl
    have hnext := ih (j + 1) (acc ++ t) (by omega) (by omega) (by rw [hmap]; exact lines_snoc a0 _ _ _ _ acc t hacc t1 (by omega)) (by rw [ByteArray.size_append, Nat.add_mul]; omega)
    rw [hmap] at hnext
    rw [wrap_id (by omega) (by omega)]
    exact hnext
theorem outer : ∀ (d i : Nat), l1.length - i = d → i ≤ l1.length → Outer a0 l1 l2 i := by
  intro d
  induction d with
  | zero =>
    intro i hd hi x7 hx hf
    obtain rfl : i = l1.length := by omega
    exact Ev.step (fun k => by rw [cupellaw19_DiagLines.l0]) (neg (by omega) (bnd (count_f x7 (by omega) hf) (pos rfl (now (beq_self_eq_true _)))))
  | succ d ih =>
    intro i hd hi x7 hx hf
    have hlt : i < l1.length := by omega
    refine Ev.step (fun k => by rw [cupellaw19_DiagLines.l0]) (pos (by omega) (pos (by omega) ?_))
    rw [rdL l1 i hlt]
    by_cases hc : ((l1[i]).length : Int) > 20
    · exact pos hc (now rfl)
    refine neg hc ?_
    have := inner a0 hs l1 hl1 l2 h1 h2 i hlt (by omega) (ih (i + 1) (by omega) (by omega)) x7 hx hf (l1[i]).length 0 ⟨#[]⟩ rfl (by omega) rfl (by decide)
    exact this
end
theorem DiagLines : cupellaw19_DiagLines.Pure := by
  intro a0 l1 l2 w0 w1 w2 h1 w3 w4 h2
  refine Ev.rounds ?_
  unfold cupellaw19_DiagLines.f
  simp only [alive_t]
  refine smb (pos rfl ?_)
  have hend : Ev (fun k => cupellaw19_DiagLines.j0 k a0 l1 l2 true) true := Ev.step (fun k => by rw [cupellaw19_DiagLines.j0]) (pos rfl (now rfl))
  by_cases hs : (a0.size : Int) > 300
  · exact pos hs hend
  refine neg hs ?_
  by_cases hl : (l1.length : Int) > 10
  · rw [decide_eq_true hl]; exact hend
  rw [decide_eq_false hl]
  refine Ev.step (fun k => by rw [cupellaw19_DiagLines.j0]) (neg (by decide) ?_)
  exact outer a0 (by omega) l1 (by omega) l2 h1 h2 l1.length 0 rfl (by omega) [] rfl (fun x hx => by cases hx)
end Go.Proofs.YteinhpfjlfeaaaaDoor.Pure
