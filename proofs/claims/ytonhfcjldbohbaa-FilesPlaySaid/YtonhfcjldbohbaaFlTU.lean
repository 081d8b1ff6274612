/- Several texts of this claim in one: FlT, FlU. -/
import Derived.Test.YtonhfcjldbohbaaFlKS
import Derived.Test.YtonhfcjldbohbaaPAx11
import Derived.Test.YtonhfcjldbohbaaPAx12
namespace Go.Proofs.Ytonhfcjldbohbaa.Fi
open Go Go.RowKit Go.ChangeMaps Go.MapKept Go.Proofs.Ytonhfcjldbohbaa.PA Go.Proofs.YtonhfcjldbohbaaW.PrintWords Go.Proofs.YtonhfcjldbohbaaW.PrintLast Go.Proofs.YtonhfcjldbohbaaW.PrintMore Go.Proofs.Ytonhfcjldbohbaa.Pl
set_option linter.unusedVariables false
set_option linter.unusedSimpArgs false

theorem rdF (l : List Fl) (i : Nat) (h : i < l.length) : rd_T55 l (i : Int) = l[i] := by simp [rd_T55, List.getD_eq_getElem?_getD, List.getElem?_eq_getElem h]
theorem wrS (i : Nat) (h : i ≤ 100000000) : wrap64 ((i : Int) + 1) = ((i + 1 : Nat) : Int) := by unfold wrap64; omega
/-! Find -/
def idxF (n : ByteArray) : List Fl → Nat → Int
  | [], _ => -1
  | x :: l, i => if x.f0.toList = n.toList then i else idxF n l (i + 1)
theorem find_ev (a b : Int) (n : ByteArray) (l : List Fl) (hl : l.length ≤ 1000000) : ∀ (d i : Nat), l.length - i = d → i ≤ l.length → Ev (fun k => cupelref13_Find.l0 k n (i : Int) a b l) (idxF n (l.drop i) i) := by
  intro d
  induction d with
  | zero =>
    intro i hd hi
    obtain rfl : i = l.length := by omega
    refine Ev.step (fun k => by rw [cupelref13_Find.l0]) ?_
    rw [List.drop_length]
    exact neg (by omega) (now rfl)
  | succ d ih =>
    intro i hd hi
    have hlt : i < l.length := by omega
    refine Ev.step (fun k => by rw [cupelref13_Find.l0]) ?_
    refine pos (by omega) (pos (by omega) ?_)
    rw [rdF l i hlt, List.drop_eq_getElem_cons hlt, idxF]
    by_cases h : l[i].f0.toList = n.toList
    · rw [if_pos h]; exact pos h (now rfl)
    · rw [if_neg h, wrS i (by omega)]; exact neg h (ih (i + 1) (by omega) (by omega))
theorem idxF_spec (n : ByteArray) : ∀ (l : List Fl) (i : Nat), (idxF n l i = -1 ∧ ∀ sel, get sel l n.data.toList = none) ∨ ∃ j, ∃ h : j < l.length, idxF n l i = ((i + j : Nat) : Int) ∧ l[j].f0 = n
  | [], i => .inl ⟨rfl, fun _ => rfl⟩
  | x :: l, i => by
    unfold idxF
    by_cases h : x.f0.toList = n.toList
    · rw [if_pos h]
      exact .inr ⟨0, by simp, by simp, toList_inj h⟩
    · rw [if_neg h]
      rcases idxF_spec n l (i + 1) with ⟨h1, h2⟩ | ⟨j, hj, h1, h2⟩
      · refine .inl ⟨h1, fun sel => ?_⟩
        rw [get_cons, if_neg (fun e => h (by
          have : x.f0 = n := ba_ext e.1
          rw [this]))]
        exact h2 sel
      · exact .inr ⟨j + 1, by simpa using hj, by rw [h1]; congr 1; omega, by simpa using h2⟩
/-! Count -/
theorem count_ev (a b : Int) (l : List Fl) (hl : l.length ≤ 1000000) : ∀ (d i c : Nat), l.length - i = d → i ≤ l.length → c ≤ i → Ev (fun k => cupelref13_Count.l0 k (c : Int) (i : Int) a b l) (((c + ((l.drop i).filter here).length : Nat) : Int)) := by
  intro d
  induction d with
  | zero =>
    intro i c hd hi hc
    obtain rfl : i = l.length := by omega
    refine Ev.step (fun k => by rw [cupelref13_Count.l0]) ?_
    rw [List.drop_length]
    exact neg (by omega) (now rfl)
  | succ d ih =>
    intro i c hd hi hc
    have hlt : i < l.length := by omega
    refine Ev.step (fun k => by rw [cupelref13_Count.l0]) ?_
    refine pos (by omega) (pos (by omega) ?_)
    rw [rdF l i hlt, List.drop_eq_getElem_cons hlt, wrS i (by omega), wrS c (by omega)]
    by_cases h : l[i].f4 = true
    · have hh : ¬ here l[i] = true := by simp [here, h]
      rw [List.filter_cons, if_neg hh]
      exact pos h (ih (i + 1) c (by omega) (by omega) (by omega))
    · have hh : here l[i] = true := by simpa [here] using h
      rw [List.filter_cons, if_pos hh, List.length_cons]
      have := ih (i + 1) (c + 1) (by omega) (by omega) (by omega)
      rw [show c + 1 + ((l.drop (i + 1)).filter here).length = c + (((l.drop (i + 1)).filter here).length + 1) by omega] at this
      exact neg h this
/-! set -/
theorem set_done (a b : Int) (f : Fl) (l : List Fl) (hl : l.length ≤ 1000000) : ∀ (d i : Nat) (o : List Fl), l.length - i = d → i ≤ l.length → o.length ≤ 2 * i + 2 → (∀ x ∈ l.drop i, ¬ x.f0 = f.f0) → Ev (fun k => cupelref13_set.l0 k o true (i : Int) a b l f.f0 f.f1 f.f2 f.f3 f.f4) (a, b, o ++ l.drop i) := by
  intro d
  induction d with
  | zero =>
    intro i o hd hi ho hx
    obtain rfl : i = l.length := by omega
    refine Ev.step (fun k => by rw [cupelref13_set.l0]) ?_
    rw [List.drop_length, List.append_nil]
    exact neg (by omega) (pos rfl (now rfl))
  | succ d ih =>
    intro i o hd hi ho hx
    have hlt : i < l.length := by omega
    have hdr := List.drop_eq_getElem_cons hlt
    rw [hdr] at hx ⊢
    have hne : ¬ l[i].f0.toList = f.f0.toList := fun e => hx l[i] (List.mem_cons_self ..) (toList_inj e)
    refine Ev.step (fun k => by rw [cupelref13_set.l0]) ?_
    refine pos (by omega) (pos rfl ?_)
    refine Ev.step (fun k => by rw [cupelref13_set.j1]) ?_
    rw [rdF l i hlt, wrS i (by omega)]
    refine neg (by decide) (pos (by omega) (pos (by omega) (neg hne (pos (by omega) ?_))))
    have := ih (i + 1) (o ++ [l[i]]) (by omega) (by omega) (by rw [List.length_append, List.length_singleton]; omega) (fun x hx' => hx x (List.mem_cons_of_mem _ hx'))
    rw [List.append_assoc] at this
    exact this
theorem set_loop (a b : Int) (f : Fl) (l : List Fl) (hl : l.length ≤ 1000000) : ∀ (d i : Nat) (o : List Fl), l.length - i = d → i ≤ l.length → o.length ≤ i → Sorted (l.drop i) → Ev (fun k => cupelref13_set.l0 k o false (i : Int) a b l f.f0 f.f1 f.f2 f.f3 f.f4) (a, b, o ++ setL f (l.drop i)) := by
  intro d
  induction d with
  | zero =>
    intro i o hd hi ho hs
    obtain rfl : i = l.length := by omega
    refine Ev.step (fun k => by rw [cupelref13_set.l0]) ?_
    rw [List.drop_length]
    exact neg (by omega) (neg (by decide) (pos (by omega) (now rfl)))
  | succ d ih =>
    intro i o hd hi ho hs
    have hlt : i < l.length := by omega
    have hdr := List.drop_eq_getElem_cons hlt
    rw [hdr] at hs ⊢
    have hs' : (∀ z ∈ l.drop (i + 1), nmL l[i] < nmL z) ∧ Sorted (l.drop (i + 1)) := List.pairwise_cons.1 hs
    refine Ev.step (fun k => by rw [cupelref13_set.l0]) ?_
    refine pos (by omega) (neg (by decide) (pos (by omega) ?_))
    rw [rdF l i hlt]
    have hbl : Op.bytesLess (l[i].f0.toList) (f.f0.toList) = decide (nmL l[i] < nmL f) := by
      rw [bytesLess_eq, Lib.toList_data, Lib.toList_data]; rfl
    rw [hbl, setL]
    refine Ev.step (fun k => by rw [cupelref13_set.j1]) ?_
    rw [rdF l i hlt, wrS i (by omega)]
    by_cases h1 : nmL l[i] < nmL f
    · rw [if_pos h1]
      have hne : ¬ l[i].f0.toList = f.f0.toList := fun e => by
        have : l[i].f0 = f.f0 := toList_inj e
        unfold nmL at h1
        rw [this] at h1
        exact lt_irr _ h1
      refine neg (by simp [h1]) (pos (by omega) (pos (by omega) (neg hne (pos (by omega) ?_))))
      have := ih (i + 1) (o ++ [l[i]]) (by omega) (by omega) (by rw [List.length_append, List.length_singleton]; omega) hs'.2
      rw [List.append_assoc] at this
      exact this
    · rw [if_neg h1]
      refine pos (by simp [h1]) (pos (by omega) (smb (pos (by omega) (pos (by omega) ?_))))
      by_cases h2 : nmL l[i] = nmL f
      · rw [if_pos h2]
        have he : l[i].f0.toList = f.f0.toList := by rw [show l[i].f0 = f.f0 from ba_ext h2]
        refine pos he ?_
        have := set_done a b f l hl _ (i + 1) (o ++ [f]) rfl (by omega) (by rw [List.length_append, List.length_singleton]; omega) (fun x hx e => by
          have h3 := hs'.1 x hx
          rw [h2] at h3
          have : nmL x = nmL f := by unfold nmL; rw [e]
          rw [this] at h3
          exact lt_irr _ h3)
        rw [List.append_assoc] at this
        exact this
      · rw [if_neg h2]
        have hne : ¬ l[i].f0.toList = f.f0.toList := fun e => h2 (by unfold nmL; rw [toList_inj e])
        refine neg hne (pos (by rw [List.length_append, List.length_singleton]; omega) ?_)
        have h4 := lt_of_not h1 h2
        have := set_done a b f l hl _ (i + 1) (o ++ [f] ++ [l[i]]) rfl (by omega) (by rw [List.length_append, List.length_append, List.length_singleton, List.length_singleton]; omega) (fun x hx e => by
          have h3 := lt_tr h4 (hs'.1 x hx)
          have : nmL x = nmL f := by unfold nmL; rw [e]
          rw [this] at h3
          exact lt_irr _ h3)
        have e5 : o ++ [f] ++ [l[i]] ++ l.drop (i + 1) = o ++ (f :: l[i] :: l.drop (i + 1)) := by simp only [List.append_assoc, List.cons_append, List.nil_append]
        rw [e5] at this
        exact this
/-! Since -/
theorem ins_loop (x : ByteArray) (o : List ByteArray) (ho : o.length ≤ 1000000) (hx : ∀ y ∈ o, y.data.toList < x.data.toList) : ∀ (d i : Nat), o.length - i = d → i ≤ o.length → Ev (fun k => cupelref07_Insert.l0 k o x (i : Int)) (o ++ [x]) := by
  intro d
  induction d with
  | zero =>
    intro i hd hi
    obtain rfl : i = o.length := by omega
    refine Ev.step (fun k => by rw [cupelref07_Insert.l0]) ?_
    have e1 : o.take ((o.length : Nat) : Int).toNat = o := List.take_length
    have e2 : o.drop ((o.length : Nat) : Int).toNat = [] := List.drop_length
    refine neg (by omega) (smb (pos (by omega) (pos (by omega) (smb ?_))))
    rw [e1, e2]
    refine pos (by simp only [List.nil_append, List.length_nil]; omega) (smb (pos (by simp only [List.nil_append]; omega) (smb (smb (pos (by simp only [List.nil_append, List.length_append, List.length_singleton, List.length_nil]; omega) ?_)))))
    simp only [List.nil_append, List.append_nil]
    exact now rfl
  | succ d ih =>
    intro i hd hi
    have hlt : i < o.length := by omega
    refine Ev.step (fun k => by rw [cupelref07_Insert.l0]) ?_
    have hrd : rdOf ByteArray.empty o (i : Int) = o[i] := by simp [rdOf, List.getD_eq_getElem?_getD, List.getElem?_eq_getElem hlt]
    refine pos (by omega) (pos (by omega) ?_)
    rw [hrd, wrS i (by omega)]
    refine pos ?_ (ih (i + 1) (by omega) (by omega))
    rw [bytesLess_eq, Lib.toList_data, Lib.toList_data]
    exact decide_eq_true (hx _ (List.getElem_mem hlt))
theorem since_loop (a b rev : Int) (l : List Fl) (hl : l.length ≤ 1000000) (hs : Sorted l) : ∀ (d i : Nat), l.length - i = d → i ≤ l.length → Ev (fun k => cupelref13_Since.l0 k rev (((l.take i).filter fun f => decide (rev < f.f3)).map fun f => f.f0) (i : Int) a b l) ((l.filter fun f => decide (rev < f.f3)).map fun f => f.f0) := by
  intro d
  induction d with
  | zero =>
    intro i hd hi
    obtain rfl : i = l.length := by omega
    refine Ev.step (fun k => by rw [cupelref13_Since.l0]) ?_
    rw [List.take_length]
    exact neg (by omega) (now rfl)
  | succ d ih =>
    intro i hd hi
    have hlt : i < l.length := by omega
    refine Ev.step (fun k => by rw [cupelref13_Since.l0]) ?_
    refine pos (by omega) (pos (by omega) ?_)
    rw [rdF l i hlt, wrS i (by omega)]
    have htk : (l.take (i + 1)) = l.take i ++ [l[i]] := List.take_succ_eq_append_getElem hlt
    have hi1 := ih (i + 1) (by omega) (by omega)
    rw [htk, List.filter_append, List.map_append] at hi1
    by_cases h : rev < l[i].f3
    · refine pos h ?_
      have hf : [l[i]].filter (fun f => decide (rev < f.f3)) = [l[i]] := by simp [h]
      rw [hf] at hi1
      refine bnd (g := fun k => cupelref07_Insert.f k _ l[i].f0) (ins_loop l[i].f0 _ ?_ ?_ _ 0 rfl (Nat.zero_le _)) hi1
      · rw [List.length_map]
        refine Nat.le_trans (List.length_filter_le _ _) ?_
        rw [List.length_take]; omega
      · intro y hy
        obtain ⟨g, hg, rfl⟩ := List.mem_map.1 hy
        have hg2 := (List.mem_filter.1 hg).1
        obtain ⟨j, hj, e⟩ := List.getElem_of_mem hg2
        rw [List.length_take] at hj
        rw [← e, List.getElem_take]
        exact List.pairwise_iff_getElem.1 hs j i (by omega) hlt (by omega)
    · refine neg h ?_
      have hf : [l[i]].filter (fun f => decide (rev < f.f3)) = [] := by simp [h]
      rw [hf, List.map_nil, List.append_nil] at hi1
      exact hi1
/-! same -/
theorem same_loop (l : List ByteArray) (hl : l.length ≤ 1000000) : ∀ (d i : Nat), l.length - i = d → i ≤ l.length → Ev (fun k => cupellaw13_same.l0 k l l (i : Int)) true := by
  intro d
  induction d with
  | zero =>
    intro i hd hi
    obtain rfl : i = l.length := by omega
    refine Ev.step (fun k => by rw [cupellaw13_same.l0]) ?_
    exact neg (by omega) (now rfl)
  | succ d ih =>
    intro i hd hi
    refine Ev.step (fun k => by rw [cupellaw13_same.l0]) ?_
    refine pos (by omega) (pos (by omega) (pos (by omega) (pos rfl ?_)))
    rw [wrS i (by omega)]
    exact ih (i + 1) (by omega) (by omega)
end Go.Proofs.Ytonhfcjldbohbaa.Fi

namespace Go.Proofs.Ytonhfcjldbohbaa.Fi
open Go Go.RowKit Go.ChangeMaps Go.MapKept Go.Proofs.Ytonhfcjldbohbaa.PA Go.Proofs.YtonhfcjldbohbaaW.PrintWords Go.Proofs.YtonhfcjldbohbaaW.PrintLast Go.Proofs.YtonhfcjldbohbaaW.PrintMore Go.Proofs.Ytonhfcjldbohbaa.Lx Go.Proofs.Ytonhfcjldbohbaa.M04 Go.Proofs.Ytonhfcjldbohbaa.Pl
attribute [local go_sem] Oper.semAt_some
set_option linter.unusedVariables false
set_option linter.unusedSimpArgs false

structure DoB (n0 n1 n2 : Nat) (w0 w : World) (most rev : Int) (V : Value) (a : Act13) : Prop where
  ht : w.heap[n0]? = some (.cells #[.int .i64 most, .int .i64 rev, V] 49 (0, 0))
  ha : w.heap[n1]? = some (.cells #[.int .i64 a.f0, .string a.f1, .string a.f2, .int .i64 a.f3] 43 (0, 0))
  hr : w.heap[n2]? = some (.cells #[.int .i64 0, .int .i64 0, .slice none 0 0] 49 (0, 0))
  hb : Below w0.heap.size w0 w
  hz : w0.heap.size ≤ n0 ∧ n0 < n1 ∧ n1 < n2 ∧ n2 < w.heap.size
section
variable {n0 n1 n2 : Nat} {w0 w : World} {most rev : Int} {V : Value} {a : Act13} (h : DoB n0 n1 n2 w0 w most rev V a)
include h
theorem DoB.below {w' : World} (hb : Below w.heap.size w w') : DoB n0 n1 n2 w0 w' most rev V a :=
  ⟨(hb.block n0 (by have := h.hz; omega)).trans h.ht, (hb.block n1 (by have := h.hz; omega)).trans h.ha, (hb.block n2 (by have := h.hz; omega)).trans h.hr, h.hb.trans (hb.mono (by have := h.hz; omega)), by have := h.hz; have := hb.size; omega⟩
theorem DoB.drew : DoB n0 n1 n2 w0 w.drew most rev V a := h.below (Below.refl _ _).drew
theorem DoB.k0 : w.cell? ⟨n0, 0, none⟩ = some (.int .i64 most) := by rw [Lib.cell_of_heap h.ht]; rfl
theorem DoB.k1 : w.cell? ⟨n0, 1, none⟩ = some (.int .i64 rev) := by rw [Lib.cell_of_heap h.ht]; rfl
theorem DoB.k2 : w.cell? ⟨n0, 2, none⟩ = some V := by rw [Lib.cell_of_heap h.ht]; rfl
theorem DoB.a0 : w.cell? ⟨n1, 0, none⟩ = some (.int .i64 a.f0) := by rw [Lib.cell_of_heap h.ha]; rfl
theorem DoB.a1 : w.cell? ⟨n1, 1, none⟩ = some (.string a.f1) := by rw [Lib.cell_of_heap h.ha]; rfl
theorem DoB.a2 : w.cell? ⟨n1, 2, none⟩ = some (.string a.f2) := by rw [Lib.cell_of_heap h.ha]; rfl
theorem DoB.a3 : w.cell? ⟨n1, 3, none⟩ = some (.int .i64 a.f3) := by rw [Lib.cell_of_heap h.ha]; rfl
theorem DoB.r0 : w.cell? ⟨n2, 0, none⟩ = some (.int .i64 0) := by rw [Lib.cell_of_heap h.hr]; rfl
theorem DoB.r1 : w.cell? ⟨n2, 1, none⟩ = some (.int .i64 0) := by rw [Lib.cell_of_heap h.hr]; rfl
theorem DoB.r2 : w.cell? ⟨n2, 2, none⟩ = some (.slice none 0 0) := by rw [Lib.cell_of_heap h.hr]; rfl
theorem DoB.f1 : w.frozen? ⟨n0, 1, none⟩ = false := Lib.frozen_of_heap h.ht 1
theorem DoB.g0 : w.frozen? ⟨n2, 0, none⟩ = false := Lib.frozen_of_heap h.hr 0
theorem DoB.g1 : w.frozen? ⟨n2, 1, none⟩ = false := Lib.frozen_of_heap h.hr 1
theorem DoB.g2 : w.frozen? ⟨n2, 2, none⟩ = false := Lib.frozen_of_heap h.hr 2
end
theorem DoB.new (w : World) (most rev : Int) (V : Value) (a : Act13) : DoB w.heap.size (w.heap.size + 1) (w.heap.size + 1 + 1) w (((w.alloc (.cells #[.int .i64 most, .int .i64 rev, V] 49)).alloc (.cells #[.int .i64 a.f0, .string a.f1, .string a.f2, .int .i64 a.f3] 43)).alloc (.cells #[.int .i64 0, .int .i64 0, .slice none 0 0] 49)) most rev V a := by
  have e1 : (w.alloc (.cells #[.int .i64 most, .int .i64 rev, V] 49)).heap.size = w.heap.size + 1 := by simp
  have e2 : ((w.alloc (.cells #[.int .i64 most, .int .i64 rev, V] 49)).alloc (.cells #[.int .i64 a.f0, .string a.f1, .string a.f2, .int .i64 a.f3] 43)).heap.size = w.heap.size + 1 + 1 := by simp
  refine ⟨?_, ?_, ?_, ?_, ?_⟩
  · rw [Below.heap_alloc _ _ _ (by rw [e2]; omega), Below.heap_alloc _ _ _ (by rw [e1]; omega)]; exact heap_alloc_new w _
  · rw [Below.heap_alloc _ _ _ (by rw [e2]; omega), ← e1]; exact heap_alloc_new _ _
  · rw [← e2]; exact heap_alloc_new _ _
  · exact (((Below.refl _ _).alloc (Nat.le_refl _) _).alloc (by rw [e1]; omega) _).alloc (by rw [e2]; omega) _
  · refine ⟨Nat.le_refl _, by omega, by omega, ?_⟩
    simp
theorem DoB.res {n0 n1 n2 : Nat} {w0 w : World} {most rev : Int} {V : Value} {a : Act13} (h : DoB n0 n1 n2 w0 w most rev V a) (x y z : Value) :
    ∃ W, ((w.setCell ⟨n2, 0, none⟩ x).setCell ⟨n2, 1, none⟩ y).setCell ⟨n2, 2, none⟩ z = W ∧ W.cell? ⟨n2, 0, none⟩ = some x ∧ W.cell? ⟨n2, 1, none⟩ = some y ∧ W.cell? ⟨n2, 2, none⟩ = some z ∧ Below w0.heap.size w0 W ∧ (∀ k, k ≠ n2 → W.heap[k]? = w.heap[k]?) ∧ W.heap.size = w.heap.size := by
  have e := blk_set (blk_set (blk_set h.hr 0 x) 1 y) 2 z
  have hz := h.hz
  refine ⟨_, rfl, ?_, ?_, ?_, ?_, ?_, ?_⟩
  · rw [Lib.cell_of_heap e]; rfl
  · rw [Lib.cell_of_heap e]; rfl
  · rw [Lib.cell_of_heap e]; rfl
  · exact (((h.hb.setCell (p := ⟨n2, 0, none⟩) (by show w0.heap.size ≤ n2; omega) _).setCell (p := ⟨n2, 1, none⟩) (by show w0.heap.size ≤ n2; omega) _).setCell (p := ⟨n2, 2, none⟩) (by show w0.heap.size ≤ n2; omega) _)
  · intro k hk
    exact (Below.heap_setCell _ ⟨n2, 2, none⟩ _ k hk).trans ((Below.heap_setCell _ ⟨n2, 1, none⟩ _ k hk).trans (Below.heap_setCell _ ⟨n2, 0, none⟩ _ k hk))
  · simp
theorem DoB.fbox {n0 n1 n2 : Nat} {w0 w : World} {most rev : Int} {V : Value} {a : Act13} (h : DoB n0 n1 n2 w0 w most rev V a) (r' : Int) (f : Fl) :
    ∃ W, (w.setCell ⟨n0, 1, none⟩ (.int .i64 r')).alloc (.cells #[.string f.f0, .string f.f1, .int .i64 f.f2, .int .i64 f.f3, .bool f.f4] 55) = W ∧ DoB n0 n1 n2 w0 W most r' V a ∧ W.heap[w.heap.size]? = some (.cells #[.string f.f0, .string f.f1, .int .i64 f.f2, .int .i64 f.f3, .bool f.f4] 55 (0, 0)) ∧ W.heap.size = w.heap.size + 1 := by
  have hz := h.hz
  have e1 : (w.setCell ⟨n0, 1, none⟩ (.int .i64 r')).heap.size = w.heap.size := by simp
  refine ⟨_, rfl, ⟨?_, ?_, ?_, ?_, ?_⟩, ?_, by simp⟩
  · rw [Below.heap_alloc _ _ _ (by rw [e1]; omega), blk_set h.ht]; rfl
  · rw [Below.heap_alloc _ _ _ (by rw [e1]; omega)]
    exact (Below.heap_setCell w ⟨n0, 1, none⟩ _ n1 (by show n1 ≠ n0; omega)).trans h.ha
  · rw [Below.heap_alloc _ _ _ (by rw [e1]; omega)]
    exact (Below.heap_setCell w ⟨n0, 1, none⟩ _ n2 (by show n2 ≠ n0; omega)).trans h.hr
  · exact (h.hb.setCell (p := ⟨n0, 1, none⟩) (by show w0.heap.size ≤ n0; omega) _).alloc (by rw [e1]; omega) _
  · refine ⟨hz.1, hz.2.1, hz.2.2.1, ?_⟩
    simp; omega
  · rw [← e1]; exact heap_alloc_new _ _
theorem set_C {w' W : World} {base n2 n : Nat} {A' : Option Addr} {c' : Nat} {xs : List Fl} (ho : Kd.R k55 55 w' base (fun _ => True) (.slice A' n c') xs) (hn : n2 < base) (hW : ∀ k, k ≠ n2 → W.heap[k]? = w'.heap[k]?) : n = xs.length ∧ n ≤ c' ∧ Kd.C k55 W A' xs.length xs :=
  Kd.R_reads' (Kd.R_move (Kd.R_bound ho) (fun k hk => hW k (by have := hk.2.1; omega)))
theorem set_ex (T : Tb) (ok : TOk T) (f : Fl) (r' : Int) : ∃ k, cupelref13_set.f k T.most r' T.l f.f0 f.f1 f.f2 f.f3 f.f4 = some (T.most, r', setL f T.l) := by
  obtain ⟨k, hk⟩ := set_loop T.most r' f T.l ok.len _ 0 [] rfl (Nat.zero_le _) (Nat.zero_le _) ok.sorted
  exact ⟨k, hk k (Nat.le_refl _)⟩
def RD (w0 : World) (A0 : Option Addr) (l0 : List Fl) (T : Tb) (er : Int) (e : Ending) (w' : World) : Prop := ∃ A c, e = .returned (.tuple #[.agg #[.int .i64 T.most, .int .i64 T.rev, .slice A T.l.length c], .int .i64 er]) ∧ T.l.length ≤ c ∧ Kd.C k55 w' A T.l.length T.l ∧ ((A = A0 ∧ T.l = l0) ∨ ∀ ad, A = some ad → w0.heap.size ≤ ad.block) ∧ Below w0.heap.size w0 w'
theorem idx_cases {T : Tb} (hs : Sorted T.l) (n : ByteArray) : (idxF n T.l 0 = -1 ∧ get here T.l n.data.toList = none) ∨ ∃ j, ∃ h : j < T.l.length, idxF n T.l 0 = (j : Int) ∧ ((T.l[j].f4 = true ∧ get here T.l n.data.toList = none) ∨ (T.l[j].f4 = false ∧ get here T.l n.data.toList = some T.l[j])) := by
  rcases idxF_spec n T.l 0 with ⟨h1, h2⟩ | ⟨j, hj, h1, h2⟩
  · exact .inl ⟨h1, h2 _⟩
  · refine .inr ⟨j, hj, by rw [h1, Nat.zero_add], ?_⟩
    have hm := List.getElem_mem hj
    have e2 := get_of_mem (sel := fun _ => true) hs hm rfl
    have hn : nmL T.l[j] = n.data.toList := by unfold nmL; rw [h2]
    rw [hn] at e2
    cases h4 : T.l[j].f4 with
    | false =>
      refine .inr ⟨rfl, ?_⟩
      have := get_of_mem (sel := here) hs hm (by simp [here, h4])
      rw [hn] at this
      exact this
    | true =>
      refine .inl ⟨rfl, ?_⟩
      cases hg : get here T.l n.data.toList with
      | none => rfl
      | some g =>
        obtain ⟨g1, g2, g3⟩ := get_some hg
        have e1 := get_of_mem (sel := fun _ => true) hs g1 rfl
        rw [show nmL g = n.data.toList from g2] at e1
        rw [e1] at e2
        obtain rfl := Option.some.inj e2
        simp [here, h4] at g3
set_option maxHeartbeats 4000000 in
set_option maxRecDepth 100000 in
theorem refdo_none (T : Tb) (ok : TOk T) (A : Option Addr) (c : Nat) (a : Act13) (w : World) (hc : T.l.length ≤ c) (hr : Kd.C k55 w A T.l.length T.l) (hn : a.f1.size ≤ 300) (hkind : a.f0 = 0 ∨ a.f0 = 1) (hi : idxF a.f1 T.l 0 = -1) (hg : get here T.l a.f1.data.toList = none) :
    Calls Try.prog 19 #[.agg #[.int .i64 T.most, .int .i64 T.rev, .slice A T.l.length c], vA a] w (RD w A T.l (doT T a).1 (doT T a).2) := by
  obtain ⟨R, hR⟩ : ∃ R, doT T a = R := ⟨_, rfl⟩
  rw [hR]
  have HRR := Aside0.mk hR
  clear hR
  unfold vA
  have hnm : idxF a.f1 T.l 0 = idxF a.f1 (T.l.drop 0) 0 := rfl
  obtain ⟨kf, hkf'⟩ := find_ev T.most T.rev a.f1 T.l ok.len _ 0 rfl (Nat.zero_le _)
  have hkf := hkf' kf (Nat.le_refl _)
  rw [← hnm, hi] at hkf
  have HKF := Aside0.mk hkf
  have HR := Aside0.mk hr
  have OK := Aside0.mk ok
  have HG := Aside0.mk hg
  clear hnm hkf hkf' hr ok hg hi
  go_enter Try.func19, Try.ntmps19
  go_wp2_with fail
  have hD := DoB.new w T.most T.rev (.slice A T.l.length c) a
  obtain ⟨W0, hW0⟩ : ∃ W, ((w.alloc (.cells #[.int .i64 T.most, .int .i64 T.rev, .slice A T.l.length c] 49)).alloc (.cells #[.int .i64 a.f0, .string a.f1, .string a.f2, .int .i64 a.f3] 43)).alloc (.cells #[.int .i64 0, .int .i64 0, .slice none 0 0] 49) = W := ⟨_, rfl⟩
  rw [hW0] at hD ⊢
  have HD := Aside0.mk hD
  have HR0 := Aside0.mk (C_below HR.out hD.hb)
  clear hD hW0
  obtain ⟨n0, hn0⟩ : ∃ n, w.heap.size = n := ⟨_, rfl⟩
  rw [hn0] at HD ⊢
  obtain ⟨n1, hn1⟩ : ∃ n, n0 + 1 = n := ⟨_, rfl⟩
  rw [hn1] at HD ⊢
  obtain ⟨n2, hn2⟩ : ∃ n, n1 + 1 = n := ⟨_, rfl⟩
  rw [hn2] at HD ⊢
  clear hn0 hn1 hn2
  refine (cupelref13_Find.calls kf T.most T.rev A c T.l a.f1 _ W0 HR0.out hc HKF.out).mono ?_
  rintro e w1 ⟨rfl, hb⟩
  have HD1 := Aside0.mk (HD.out.below hb)
  have HR1 := Aside0.mk (C_below HR0.out hb)
  clear HD HR0 HKF hb
  have k0 := HD1.out.k0
  have k1 := HD1.out.k1
  have k2 := HD1.out.k2
  have a0 := HD1.out.a0
  have a1 := HD1.out.a1
  have a2 := HD1.out.a2
  have a3 := HD1.out.a3
  have r0 := HD1.out.r0
  have r1 := HD1.out.r1
  have r2 := HD1.out.r2
  have f1 := HD1.out.f1
  have g0 := HD1.out.g0
  have g1 := HD1.out.g1
  have g2 := HD1.out.g2
  have hd0 : (0 : Int) ≤ -1 ↔ False := by decide
  rcases hkind with hk | hk
  · have hkd : (a.f0 == 1) = false := by rw [hk]; rfl
    have hput : doT T a = putT T a.f1 a.f2 a.f3 := by rw [doT, if_pos hk]
    have HPUT := Aside0.mk hput
    clear hk hput
    go_wp2_with fail
    obtain ⟨kn, hkn⟩ := ref_name a.f1 (by omega)
    refine (cupelref13_Name.calls kn a.f1 _ w1 hkn).mono ?_
    rintro e w2 ⟨rfl, hb⟩
    have HD2 := Aside0.mk (HD1.out.below hb)
    have HR2 := Aside0.mk (C_below HR1.out hb)
    clear hb hkn
    clear k0 k1 k2 a0 a1 a2 a3 r0 r1 r2 f1 g0 g1 g2 HD1 HR1
    have k0 := HD2.out.k0
    have k1 := HD2.out.k1
    have k2 := HD2.out.k2
    have a0 := HD2.out.a0
    have a1 := HD2.out.a1
    have a2 := HD2.out.a2
    have a3 := HD2.out.a3
    have r0 := HD2.out.r0
    have r1 := HD2.out.r1
    have r2 := HD2.out.r2
    have f1 := HD2.out.f1
    have g0 := HD2.out.g0
    have g1 := HD2.out.g1
    have g2 := HD2.out.g2
    by_cases hq : a.f1.size ≤ 32 ∧ nameOk a.f1 = true ∧ 0 ≤ a.f3 ∧ a.f3 ≤ 2
    · obtain ⟨q1, q2, q3, q4⟩ := hq
      have hnm : (decide (a.f1.size ≤ 32) && nameOk a.f1) = true := by rw [decide_eq_true q1, q2]; rfl
      have ht0 : decide (a.f3 < 0) = false := decide_eq_false (by omega)
      have ht2 : decide (2 < a.f3) = false := decide_eq_false (by omega)
      rw [hnm]
      have HQ := Aside0.mk (show a.f1.size ≤ 32 ∧ nameOk a.f1 = true ∧ 0 ≤ a.f3 ∧ a.f3 ≤ 2 from ⟨q1, q2, q3, q4⟩)
      clear q1 q2 q3 q4 hnm
      by_cases hsz : a.f2.size > 65536
      · have hs1 : decide ((65536 : Int) < (a.f2.size : Int)) = true := decide_eq_true (by omega)
        have hs2 : decide (65536 < a.f2.size) = true := decide_eq_true hsz
        have hpost : doT T a = (T, 5) := by
          rw [HPUT.out]
          unfold putT rightV
          rw [if_pos HQ.out, if_pos hsz, if_pos (by decide)]
        obtain rfl : R = (T, 5) := by rw [← HRR.out]; exact hpost
        clear hpost HRR HPUT
        go_wp2_with fail
        obtain ⟨W, hW, q0, q1, q2, hBW, _, _⟩ := HD2.out.res (.int .i64 T.most) (.int .i64 T.rev) (.slice A T.l.length c)
        rw [hW]
        have HBW := Aside0.mk hBW
        clear hW hBW k0 k1 k2 a0 a1 a2 a3 r0 r1 r2 f1 g0 g1 g2
        try simp only [Exit.inBlock, Exit.then]
        refine bodyPost_ret (by simp [results, Try.results19, go_sem, q0, q1, q2]; try rfl) rfl ?_
        exact ⟨A, c, rfl, hc, C_below HR.out (by first | exact HBW.out | exact HBW.out.drew), .inl ⟨rfl, rfl⟩, by first | exact HBW.out | exact HBW.out.drew⟩
      have hs1 : decide ((65536 : Int) < (a.f2.size : Int)) = false := decide_eq_false (by omega)
      have hs2 : decide (65536 < a.f2.size) = false := decide_eq_false hsz
      have hrt : rightV a.f1 a.f2 a.f3 = 0 := by unfold rightV; rw [if_pos HQ.out, if_neg hsz]
      have HRT := Aside0.mk hrt
      clear hrt hsz
      go_wp2_with fail
      obtain ⟨kc, hkc⟩ := count_ev T.most T.rev T.l OK.out.len _ 0 0 rfl (Nat.zero_le _) (Nat.le_refl _)
      have hkc := hkc kc (Nat.le_refl _)
      rw [Nat.zero_add, List.drop_zero] at hkc
      refine (cupelref13_Count.calls kc T.most T.rev A c T.l _ w2 HR2.out hc hkc).mono ?_
      rintro e w3 ⟨rfl, hb⟩
      have HD3 := Aside0.mk (HD2.out.below hb)
      have HR3 := Aside0.mk (C_below HR2.out hb)
      clear hb hkc
      clear k0 k1 k2 a0 a1 a2 a3 r0 r1 r2 f1 g0 g1 g2 HD2 HR2
      have k0 := HD3.out.k0
      have k1 := HD3.out.k1
      have k2 := HD3.out.k2
      have a0 := HD3.out.a0
      have a1 := HD3.out.a1
      have a2 := HD3.out.a2
      have a3 := HD3.out.a3
      have r0 := HD3.out.r0
      have r1 := HD3.out.r1
      have r2 := HD3.out.r2
      have f1 := HD3.out.f1
      have g0 := HD3.out.g0
      have g1 := HD3.out.g1
      have g2 := HD3.out.g2
      by_cases h64 : 64 ≤ (T.l.filter here).length
      · have hs3 : decide ((64 : Int) ≤ ((T.l.filter here).length : Int)) = true := decide_eq_true (by omega)
        have hs4 : decide (64 ≤ (T.l.filter here).length) = true := decide_eq_true h64
        obtain rfl : R = (T, 4) := by
          rw [← HRR.out, HPUT.out]
          unfold putT
          rw [if_neg (by rw [HRT.out]; decide), HG.out]
          dsimp only
          rw [if_pos h64]
        clear HRR HPUT
        go_wp2_with fail
        obtain ⟨W, hW, q0, q1, q2, hBW, _, _⟩ := HD3.out.res (.int .i64 T.most) (.int .i64 T.rev) (.slice A T.l.length c)
        rw [hW]
        have HBW := Aside0.mk hBW
        clear hW hBW k0 k1 k2 a0 a1 a2 a3 r0 r1 r2 f1 g0 g1 g2
        try simp only [Exit.inBlock, Exit.then]
        refine bodyPost_ret (by simp [results, Try.results19, go_sem, q0, q1, q2]; try rfl) rfl ?_
        exact ⟨A, c, rfl, hc, C_below HR.out (by first | exact HBW.out | exact HBW.out.drew), .inl ⟨rfl, rfl⟩, by first | exact HBW.out | exact HBW.out.drew⟩
      have hs3 : decide ((64 : Int) ≤ ((T.l.filter here).length : Int)) = false := decide_eq_false (by omega)
      have hs4 : decide (64 ≤ (T.l.filter here).length) = false := decide_eq_false h64
      by_cases hrev : T.most ≤ T.rev
      · have hs5 : decide (T.most ≤ T.rev) = true := decide_eq_true hrev
        obtain rfl : R = (T, 6) := by
          rw [← HRR.out, HPUT.out]
          unfold putT
          rw [if_neg (by rw [HRT.out]; decide), HG.out]
          dsimp only
          rw [if_neg h64, if_pos hrev]
        clear HRR HPUT
        go_wp2_with fail
        go_region
        go_wp2_with fail
        obtain ⟨W, hW, q0, q1, q2, hBW, _, _⟩ := HD3.out.res (.int .i64 T.most) (.int .i64 T.rev) (.slice A T.l.length c)
        rw [hW]
        have HBW := Aside0.mk hBW
        clear hW hBW k0 k1 k2 a0 a1 a2 a3 r0 r1 r2 f1 g0 g1 g2
        try simp only [Exit.inBlock, Exit.then]
        refine bodyPost_ret (by simp [results, Try.results19, go_sem, q0, q1, q2]; try rfl) rfl ?_
        exact ⟨A, c, rfl, hc, C_below HR.out (by first | exact HBW.out | exact HBW.out.drew), .inl ⟨rfl, rfl⟩, by first | exact HBW.out | exact HBW.out.drew⟩
      have hs5 : decide (T.most ≤ T.rev) = false := decide_eq_false hrev
      obtain rfl : R = (⟨T.most, T.rev + 1, setL ⟨a.f1, a.f2, a.f3, T.rev + 1, false⟩ T.l⟩, 0) := by
        rw [← HRR.out, HPUT.out]
        unfold putT
        rw [if_neg (by rw [HRT.out]; decide), HG.out]
        dsimp only
        rw [if_neg h64, if_neg hrev]
      have hwr : wrap64 (T.rev + 1) = T.rev + 1 := by have := OK.out.rev0; have := OK.out.most; unfold wrap64; omega
      have hzz := HD3.out.hz
      have n10 : ¬ n1 = n0 := by omega
      have n01 : ¬ n0 = n1 := by omega
      have n20 : ¬ n2 = n0 := by omega
      have n02 : ¬ n0 = n2 := by omega
      clear HRR HPUT h64 hrev hzz
      go_wp2_with fail
      go_region
      go_wp2_with fail
      go_region
      obtain ⟨W3, hW3, hD, hfb, hzf⟩ := HD3.out.fbox (T.rev + 1) ⟨a.f1, a.f2, a.f3, T.rev + 1, false⟩
      rw [hW3]
      have HDf := Aside0.mk hD.drew.drew
      have hfb2 : W3.drew.drew.heap[w3.heap.size]? = _ := hfb
      clear hW3 hD hfb hzf
      clear k0 k1 k2 a0 a1 a2 a3 r0 r1 r2 f1 g0 g1 g2
      obtain ⟨W4, hW4⟩ : ∃ W, W3.drew.drew = W := ⟨_, rfl⟩
      rw [hW4] at HDf hfb2 ⊢
      clear hW4
      obtain ⟨nf, hnf⟩ : ∃ n, w3.heap.size = n := ⟨_, rfl⟩
      rw [hnf] at hfb2 ⊢
      clear hnf
      have k0 := HDf.out.k0
      have k1 := HDf.out.k1
      have k2 := HDf.out.k2
      have a0 := HDf.out.a0
      have a1 := HDf.out.a1
      have a2 := HDf.out.a2
      have a3 := HDf.out.a3
      have r0 := HDf.out.r0
      have r1 := HDf.out.r1
      have r2 := HDf.out.r2
      have f1 := HDf.out.f1
      have g0 := HDf.out.g0
      have g1 := HDf.out.g1
      have g2 := HDf.out.g2
      have b0 : W4.cell? ⟨nf, 0, none⟩ = some (.string a.f1) := by rw [Lib.cell_of_heap hfb2]; rfl
      have b1 : W4.cell? ⟨nf, 1, none⟩ = some (.string a.f2) := by rw [Lib.cell_of_heap hfb2]; rfl
      have b2 : W4.cell? ⟨nf, 2, none⟩ = some (.int .i64 a.f3) := by rw [Lib.cell_of_heap hfb2]; rfl
      have b3 : W4.cell? ⟨nf, 3, none⟩ = some (.int .i64 (T.rev + 1)) := by rw [Lib.cell_of_heap hfb2]; rfl
      have b4 : W4.cell? ⟨nf, 4, none⟩ = some (.bool false) := by rw [Lib.cell_of_heap hfb2]; rfl
      go_wp2_with fail
      obtain ⟨ks, hks⟩ := set_ex T OK.out ⟨a.f1, a.f2, a.f3, T.rev + 1, false⟩ (T.rev + 1)
      refine (cupelref13_set.calls ks T.most (T.rev + 1) A c T.l _ _ _ _ _ _ _ _ W4 (C_below HR.out HDf.out.hb) hc hks).mono ?_
      rintro e w5 ⟨v2, rfl, ho, hb⟩
      have HD5 := Aside0.mk (HDf.out.below hb)
      obtain ⟨A', n', c', rfl⟩ : ∃ A' n' c', v2 = .slice A' n' c' := by
        obtain ⟨A', c', h, _⟩ := Kd.R_reads ho
        exact ⟨A', _, c', h⟩
      have HO := Aside0.mk ho
      have hlt2 : n2 < W4.heap.size := HDf.out.hz.2.2.2
      clear ho hb hks
      clear k0 k1 k2 a0 a1 a2 a3 r0 r1 r2 f1 g0 g1 g2
      have k0 := HD5.out.k0
      have k1 := HD5.out.k1
      have k2 := HD5.out.k2
      have a0 := HD5.out.a0
      have a1 := HD5.out.a1
      have a2 := HD5.out.a2
      have a3 := HD5.out.a3
      have r0 := HD5.out.r0
      have r1 := HD5.out.r1
      have r2 := HD5.out.r2
      have f1 := HD5.out.f1
      have g0 := HD5.out.g0
      have g1 := HD5.out.g1
      have g2 := HD5.out.g2
      go_wp2_with fail
      obtain ⟨W, hW, q0, q1, q2, hBW, hoW, _⟩ := HD5.out.res (.int .i64 T.most) (.int .i64 (T.rev + 1)) (.slice A' n' c')
      rw [hW]
      have HBW := Aside0.mk hBW
      have hC := set_C HO.out hlt2 hoW
      clear hW hBW k0 k1 k2 a0 a1 a2 a3 r0 r1 r2 f1 g0 g1 g2 hoW
      try simp only [Exit.inBlock, Exit.then]
      refine bodyPost_ret (by simp [results, Try.results19, go_sem, q0, q1, q2]; try rfl) rfl ?_
      have hnew : ∀ ad, A' = some ad → w.heap.size ≤ ad.block := fun ad e => Nat.le_trans HDf.out.hb.size (Kd.R_base HO.out ad.block (by rw [e]; rfl))
      obtain ⟨rfl, hc2, hC⟩ := hC
      exact ⟨A', c', rfl, hc2, hC, .inr hnew, HBW.out⟩
    · have hpost : doT T a = (T, 1) := by
        rw [HPUT.out]
        unfold putT rightV
        rw [if_neg hq, if_pos (by decide)]
      obtain rfl : R = (T, 1) := by rw [← HRR.out]; exact hpost
      clear hpost HRR HPUT
      by_cases hnm : (decide (a.f1.size ≤ 32) && nameOk a.f1) = true
      · by_cases ht0 : a.f3 < 0
        · have ht0 : decide (a.f3 < 0) = true := decide_eq_true ht0
          rw [hnm]
          go_wp2_with fail
          obtain ⟨W, hW, q0, q1, q2, hBW, _, _⟩ := HD2.out.res (.int .i64 T.most) (.int .i64 T.rev) (.slice A T.l.length c)
          rw [hW]
          have HBW := Aside0.mk hBW
          clear hW hBW k0 k1 k2 a0 a1 a2 a3 r0 r1 r2 f1 g0 g1 g2
          try simp only [Exit.inBlock, Exit.then]
          refine bodyPost_ret (by simp [results, Try.results19, go_sem, q0, q1, q2]; try rfl) rfl ?_
          exact ⟨A, c, rfl, hc, C_below HR.out (by first | exact HBW.out | exact HBW.out.drew), .inl ⟨rfl, rfl⟩, by first | exact HBW.out | exact HBW.out.drew⟩
        · have ht0' : decide (a.f3 < 0) = false := decide_eq_false ht0
          have ht2 : decide (2 < a.f3) = true := decide_eq_true (Decidable.byContradiction fun ht2 => hq (by
            rw [Bool.and_eq_true] at hnm
            exact ⟨of_decide_eq_true hnm.1, hnm.2, by omega, by omega⟩))
          rw [hnm]
          go_wp2_with fail
          obtain ⟨W, hW, q0, q1, q2, hBW, _, _⟩ := HD2.out.res (.int .i64 T.most) (.int .i64 T.rev) (.slice A T.l.length c)
          rw [hW]
          have HBW := Aside0.mk hBW
          clear hW hBW k0 k1 k2 a0 a1 a2 a3 r0 r1 r2 f1 g0 g1 g2
          try simp only [Exit.inBlock, Exit.then]
          refine bodyPost_ret (by simp [results, Try.results19, go_sem, q0, q1, q2]; try rfl) rfl ?_
          exact ⟨A, c, rfl, hc, C_below HR.out (by first | exact HBW.out | exact HBW.out.drew), .inl ⟨rfl, rfl⟩, by first | exact HBW.out | exact HBW.out.drew⟩
      · have hnm := Bool.eq_false_iff.2 hnm
        rw [hnm]
        go_wp2_with fail
        obtain ⟨W, hW, q0, q1, q2, hBW, _, _⟩ := HD2.out.res (.int .i64 T.most) (.int .i64 T.rev) (.slice A T.l.length c)
        rw [hW]
        have HBW := Aside0.mk hBW
        clear hW hBW k0 k1 k2 a0 a1 a2 a3 r0 r1 r2 f1 g0 g1 g2
        try simp only [Exit.inBlock, Exit.then]
        refine bodyPost_ret (by simp [results, Try.results19, go_sem, q0, q1, q2]; try rfl) rfl ?_
        exact ⟨A, c, rfl, hc, C_below HR.out (by first | exact HBW.out | exact HBW.out.drew), .inl ⟨rfl, rfl⟩, by first | exact HBW.out | exact HBW.out.drew⟩
  · have hkd : (a.f0 == 1) = true := by rw [hk]; rfl
    obtain rfl : R = (T, 3) := by
      rw [← HRR.out, doT, if_neg (by omega), dropT, HG.out]
    clear hk HRR
    go_wp2_with fail
    obtain ⟨W, hW, q0, q1, q2, hBW, _, _⟩ := HD1.out.res (.int .i64 T.most) (.int .i64 T.rev) (.slice A T.l.length c)
    rw [hW]
    have HBW := Aside0.mk hBW
    clear hW hBW k0 k1 k2 a0 a1 a2 a3 r0 r1 r2 f1 g0 g1 g2
    try simp only [Exit.inBlock, Exit.then]
    refine bodyPost_ret (by simp [results, Try.results19, go_sem, q0, q1, q2]; try rfl) rfl ?_
    exact ⟨A, c, rfl, hc, C_below HR.out (by first | exact HBW.out | exact HBW.out.drew), .inl ⟨rfl, rfl⟩, by first | exact HBW.out | exact HBW.out.drew⟩
set_option maxHeartbeats 4000000 in
set_option maxRecDepth 100000 in
theorem refdo_gone (T : Tb) (ok : TOk T) (A : Option Addr) (c : Nat) (a : Act13) (w : World) (hc : T.l.length ≤ c) (hr : Kd.C k55 w A T.l.length T.l) (hn : a.f1.size ≤ 300) (hkind : a.f0 = 0 ∨ a.f0 = 1) (j : Nat) (hj : j < T.l.length) (hi : idxF a.f1 T.l 0 = (j : Int)) (h4 : T.l[j].f4 = true) (hg : get here T.l a.f1.data.toList = none) :
    Calls Try.prog 19 #[.agg #[.int .i64 T.most, .int .i64 T.rev, .slice A T.l.length c], vA a] w (RD w A T.l (doT T a).1 (doT T a).2) := by
  obtain ⟨R, hR⟩ : ∃ R, doT T a = R := ⟨_, rfl⟩
  rw [hR]
  have HRR := Aside0.mk hR
  clear hR
  unfold vA
  have hnm : idxF a.f1 T.l 0 = idxF a.f1 (T.l.drop 0) 0 := rfl
  obtain ⟨kf, hkf'⟩ := find_ev T.most T.rev a.f1 T.l ok.len _ 0 rfl (Nat.zero_le _)
  have hkf := hkf' kf (Nat.le_refl _)
  rw [← hnm, hi] at hkf
  have HKF := Aside0.mk hkf
  have HR := Aside0.mk hr
  have OK := Aside0.mk ok
  have HG := Aside0.mk hg
  clear hnm hkf hkf' hr ok hg hi
  go_enter Try.func19, Try.ntmps19
  go_wp2_with fail
  have hD := DoB.new w T.most T.rev (.slice A T.l.length c) a
  obtain ⟨W0, hW0⟩ : ∃ W, ((w.alloc (.cells #[.int .i64 T.most, .int .i64 T.rev, .slice A T.l.length c] 49)).alloc (.cells #[.int .i64 a.f0, .string a.f1, .string a.f2, .int .i64 a.f3] 43)).alloc (.cells #[.int .i64 0, .int .i64 0, .slice none 0 0] 49) = W := ⟨_, rfl⟩
  rw [hW0] at hD ⊢
  have HD := Aside0.mk hD
  have HR0 := Aside0.mk (C_below HR.out hD.hb)
  clear hD hW0
  obtain ⟨n0, hn0⟩ : ∃ n, w.heap.size = n := ⟨_, rfl⟩
  rw [hn0] at HD ⊢
  obtain ⟨n1, hn1⟩ : ∃ n, n0 + 1 = n := ⟨_, rfl⟩
  rw [hn1] at HD ⊢
  obtain ⟨n2, hn2⟩ : ∃ n, n1 + 1 = n := ⟨_, rfl⟩
  rw [hn2] at HD ⊢
  clear hn0 hn1 hn2
  refine (cupelref13_Find.calls kf T.most T.rev A c T.l a.f1 _ W0 HR0.out hc HKF.out).mono ?_
  rintro e w1 ⟨rfl, hb⟩
  have HD1 := Aside0.mk (HD.out.below hb)
  have HR1 := Aside0.mk (C_below HR0.out hb)
  clear HD HR0 HKF hb
  have k0 := HD1.out.k0
  have k1 := HD1.out.k1
  have k2 := HD1.out.k2
  have a0 := HD1.out.a0
  have a1 := HD1.out.a1
  have a2 := HD1.out.a2
  have a3 := HD1.out.a3
  have r0 := HD1.out.r0
  have r1 := HD1.out.r1
  have r2 := HD1.out.r2
  have f1 := HD1.out.f1
  have g0 := HD1.out.g0
  have g1 := HD1.out.g1
  have g2 := HD1.out.g2
  obtain ⟨ad, hA, x0, x1, x2, x3, x4⟩ := at_T55 HR1.out (j : Int) (by omega) (by omega)
  subst hA
  rw [rdF T.l j hj, Int.toNat_natCast] at x0 x1 x2 x3 x4
  have hd0 : decide ((0 : Int) ≤ (j : Int)) = true := decide_eq_true (by omega)
  have hd1 : decide ((j : Int) < (T.l.length : Int)) = true := decide_eq_true (by omega)
  have hd2 : decide (j < T.l.length) = true := decide_eq_true hj
  rw [h4] at x4
  rcases hkind with hk | hk
  · have hkd : (a.f0 == 1) = false := by rw [hk]; rfl
    have hput : doT T a = putT T a.f1 a.f2 a.f3 := by rw [doT, if_pos hk]
    have HPUT := Aside0.mk hput
    clear hk hput
    go_wp2_with fail
    clear x0 x1 x2 x3 x4
    obtain ⟨kn, hkn⟩ := ref_name a.f1 (by omega)
    refine (cupelref13_Name.calls kn a.f1 _ w1 hkn).mono ?_
    rintro e w2 ⟨rfl, hb⟩
    have HD2 := Aside0.mk (HD1.out.below hb)
    have HR2 := Aside0.mk (C_below HR1.out hb)
    clear hb hkn
    clear k0 k1 k2 a0 a1 a2 a3 r0 r1 r2 f1 g0 g1 g2 HD1 HR1
    have k0 := HD2.out.k0
    have k1 := HD2.out.k1
    have k2 := HD2.out.k2
    have a0 := HD2.out.a0
    have a1 := HD2.out.a1
    have a2 := HD2.out.a2
    have a3 := HD2.out.a3
    have r0 := HD2.out.r0
    have r1 := HD2.out.r1
    have r2 := HD2.out.r2
    have f1 := HD2.out.f1
    have g0 := HD2.out.g0
    have g1 := HD2.out.g1
    have g2 := HD2.out.g2
    by_cases hq : a.f1.size ≤ 32 ∧ nameOk a.f1 = true ∧ 0 ≤ a.f3 ∧ a.f3 ≤ 2
    · obtain ⟨q1, q2, q3, q4⟩ := hq
      have hnm : (decide (a.f1.size ≤ 32) && nameOk a.f1) = true := by rw [decide_eq_true q1, q2]; rfl
      have ht0 : decide (a.f3 < 0) = false := decide_eq_false (by omega)
      have ht2 : decide (2 < a.f3) = false := decide_eq_false (by omega)
      rw [hnm]
      have HQ := Aside0.mk (show a.f1.size ≤ 32 ∧ nameOk a.f1 = true ∧ 0 ≤ a.f3 ∧ a.f3 ≤ 2 from ⟨q1, q2, q3, q4⟩)
      clear q1 q2 q3 q4 hnm
      by_cases hsz : a.f2.size > 65536
      · have hs1 : decide ((65536 : Int) < (a.f2.size : Int)) = true := decide_eq_true (by omega)
        have hs2 : decide (65536 < a.f2.size) = true := decide_eq_true hsz
        have hpost : doT T a = (T, 5) := by
          rw [HPUT.out]
          unfold putT rightV
          rw [if_pos HQ.out, if_pos hsz, if_pos (by decide)]
        obtain rfl : R = (T, 5) := by rw [← HRR.out]; exact hpost
        clear hpost HRR HPUT
        go_wp2_with fail
        obtain ⟨W, hW, q0, q1, q2, hBW, _, _⟩ := HD2.out.res (.int .i64 T.most) (.int .i64 T.rev) (.slice (some ad) T.l.length c)
        rw [hW]
        have HBW := Aside0.mk hBW
        clear hW hBW k0 k1 k2 a0 a1 a2 a3 r0 r1 r2 f1 g0 g1 g2
        try simp only [Exit.inBlock, Exit.then]
        refine bodyPost_ret (by simp [results, Try.results19, go_sem, q0, q1, q2]; try rfl) rfl ?_
        exact ⟨(some ad), c, rfl, hc, C_below HR.out (by first | exact HBW.out | exact HBW.out.drew), .inl ⟨rfl, rfl⟩, by first | exact HBW.out | exact HBW.out.drew⟩
      have hs1 : decide ((65536 : Int) < (a.f2.size : Int)) = false := decide_eq_false (by omega)
      have hs2 : decide (65536 < a.f2.size) = false := decide_eq_false hsz
      have hrt : rightV a.f1 a.f2 a.f3 = 0 := by unfold rightV; rw [if_pos HQ.out, if_neg hsz]
      have HRT := Aside0.mk hrt
      clear hrt hsz
      go_wp2_with fail
      obtain ⟨kc, hkc⟩ := count_ev T.most T.rev T.l OK.out.len _ 0 0 rfl (Nat.zero_le _) (Nat.le_refl _)
      have hkc := hkc kc (Nat.le_refl _)
      rw [Nat.zero_add, List.drop_zero] at hkc
      refine (cupelref13_Count.calls kc T.most T.rev (some ad) c T.l _ w2 HR2.out hc hkc).mono ?_
      rintro e w3 ⟨rfl, hb⟩
      have HD3 := Aside0.mk (HD2.out.below hb)
      have HR3 := Aside0.mk (C_below HR2.out hb)
      clear hb hkc
      clear k0 k1 k2 a0 a1 a2 a3 r0 r1 r2 f1 g0 g1 g2 HD2 HR2
      have k0 := HD3.out.k0
      have k1 := HD3.out.k1
      have k2 := HD3.out.k2
      have a0 := HD3.out.a0
      have a1 := HD3.out.a1
      have a2 := HD3.out.a2
      have a3 := HD3.out.a3
      have r0 := HD3.out.r0
      have r1 := HD3.out.r1
      have r2 := HD3.out.r2
      have f1 := HD3.out.f1
      have g0 := HD3.out.g0
      have g1 := HD3.out.g1
      have g2 := HD3.out.g2
      by_cases h64 : 64 ≤ (T.l.filter here).length
      · have hs3 : decide ((64 : Int) ≤ ((T.l.filter here).length : Int)) = true := decide_eq_true (by omega)
        have hs4 : decide (64 ≤ (T.l.filter here).length) = true := decide_eq_true h64
        obtain rfl : R = (T, 4) := by
          rw [← HRR.out, HPUT.out]
          unfold putT
          rw [if_neg (by rw [HRT.out]; decide), HG.out]
          dsimp only
          rw [if_pos h64]
        clear HRR HPUT
        go_wp2_with fail
        obtain ⟨W, hW, q0, q1, q2, hBW, _, _⟩ := HD3.out.res (.int .i64 T.most) (.int .i64 T.rev) (.slice (some ad) T.l.length c)
        rw [hW]
        have HBW := Aside0.mk hBW
        clear hW hBW k0 k1 k2 a0 a1 a2 a3 r0 r1 r2 f1 g0 g1 g2
        try simp only [Exit.inBlock, Exit.then]
        refine bodyPost_ret (by simp [results, Try.results19, go_sem, q0, q1, q2]; try rfl) rfl ?_
        exact ⟨(some ad), c, rfl, hc, C_below HR.out (by first | exact HBW.out | exact HBW.out.drew), .inl ⟨rfl, rfl⟩, by first | exact HBW.out | exact HBW.out.drew⟩
      have hs3 : decide ((64 : Int) ≤ ((T.l.filter here).length : Int)) = false := decide_eq_false (by omega)
      have hs4 : decide (64 ≤ (T.l.filter here).length) = false := decide_eq_false h64
      by_cases hrev : T.most ≤ T.rev
      · have hs5 : decide (T.most ≤ T.rev) = true := decide_eq_true hrev
        obtain rfl : R = (T, 6) := by
          rw [← HRR.out, HPUT.out]
          unfold putT
          rw [if_neg (by rw [HRT.out]; decide), HG.out]
          dsimp only
          rw [if_neg h64, if_pos hrev]
        clear HRR HPUT
        go_wp2_with fail
        go_region
        go_wp2_with fail
        obtain ⟨W, hW, q0, q1, q2, hBW, _, _⟩ := HD3.out.res (.int .i64 T.most) (.int .i64 T.rev) (.slice (some ad) T.l.length c)
        rw [hW]
        have HBW := Aside0.mk hBW
        clear hW hBW k0 k1 k2 a0 a1 a2 a3 r0 r1 r2 f1 g0 g1 g2
        try simp only [Exit.inBlock, Exit.then]
        refine bodyPost_ret (by simp [results, Try.results19, go_sem, q0, q1, q2]; try rfl) rfl ?_
        exact ⟨(some ad), c, rfl, hc, C_below HR.out (by first | exact HBW.out | exact HBW.out.drew), .inl ⟨rfl, rfl⟩, by first | exact HBW.out | exact HBW.out.drew⟩
      have hs5 : decide (T.most ≤ T.rev) = false := decide_eq_false hrev
      obtain rfl : R = (⟨T.most, T.rev + 1, setL ⟨a.f1, a.f2, a.f3, T.rev + 1, false⟩ T.l⟩, 0) := by
        rw [← HRR.out, HPUT.out]
        unfold putT
        rw [if_neg (by rw [HRT.out]; decide), HG.out]
        dsimp only
        rw [if_neg h64, if_neg hrev]
      have hwr : wrap64 (T.rev + 1) = T.rev + 1 := by have := OK.out.rev0; have := OK.out.most; unfold wrap64; omega
      have hzz := HD3.out.hz
      have n10 : ¬ n1 = n0 := by omega
      have n01 : ¬ n0 = n1 := by omega
      have n20 : ¬ n2 = n0 := by omega
      have n02 : ¬ n0 = n2 := by omega
      clear HRR HPUT h64 hrev hzz
      go_wp2_with fail
      go_region
      go_wp2_with fail
      go_region
      obtain ⟨W3, hW3, hD, hfb, hzf⟩ := HD3.out.fbox (T.rev + 1) ⟨a.f1, a.f2, a.f3, T.rev + 1, false⟩
      rw [hW3]
      have HDf := Aside0.mk hD.drew.drew
      have hfb2 : W3.drew.drew.heap[w3.heap.size]? = _ := hfb
      clear hW3 hD hfb hzf
      clear k0 k1 k2 a0 a1 a2 a3 r0 r1 r2 f1 g0 g1 g2
      obtain ⟨W4, hW4⟩ : ∃ W, W3.drew.drew = W := ⟨_, rfl⟩
      rw [hW4] at HDf hfb2 ⊢
      clear hW4
      obtain ⟨nf, hnf⟩ : ∃ n, w3.heap.size = n := ⟨_, rfl⟩
      rw [hnf] at hfb2 ⊢
      clear hnf
      have k0 := HDf.out.k0
      have k1 := HDf.out.k1
      have k2 := HDf.out.k2
      have a0 := HDf.out.a0
      have a1 := HDf.out.a1
      have a2 := HDf.out.a2
      have a3 := HDf.out.a3
      have r0 := HDf.out.r0
      have r1 := HDf.out.r1
      have r2 := HDf.out.r2
      have f1 := HDf.out.f1
      have g0 := HDf.out.g0
      have g1 := HDf.out.g1
      have g2 := HDf.out.g2
      have b0 : W4.cell? ⟨nf, 0, none⟩ = some (.string a.f1) := by rw [Lib.cell_of_heap hfb2]; rfl
      have b1 : W4.cell? ⟨nf, 1, none⟩ = some (.string a.f2) := by rw [Lib.cell_of_heap hfb2]; rfl
      have b2 : W4.cell? ⟨nf, 2, none⟩ = some (.int .i64 a.f3) := by rw [Lib.cell_of_heap hfb2]; rfl
      have b3 : W4.cell? ⟨nf, 3, none⟩ = some (.int .i64 (T.rev + 1)) := by rw [Lib.cell_of_heap hfb2]; rfl
      have b4 : W4.cell? ⟨nf, 4, none⟩ = some (.bool false) := by rw [Lib.cell_of_heap hfb2]; rfl
      go_wp2_with fail
      obtain ⟨ks, hks⟩ := set_ex T OK.out ⟨a.f1, a.f2, a.f3, T.rev + 1, false⟩ (T.rev + 1)
      refine (cupelref13_set.calls ks T.most (T.rev + 1) (some ad) c T.l _ _ _ _ _ _ _ _ W4 (C_below HR.out HDf.out.hb) hc hks).mono ?_
      rintro e w5 ⟨v2, rfl, ho, hb⟩
      have HD5 := Aside0.mk (HDf.out.below hb)
      obtain ⟨A', n', c', rfl⟩ : ∃ A' n' c', v2 = .slice A' n' c' := by
        obtain ⟨A', c', h, _⟩ := Kd.R_reads ho
        exact ⟨A', _, c', h⟩
      have HO := Aside0.mk ho
      have hlt2 : n2 < W4.heap.size := HDf.out.hz.2.2.2
      clear ho hb hks
      clear k0 k1 k2 a0 a1 a2 a3 r0 r1 r2 f1 g0 g1 g2
      have k0 := HD5.out.k0
      have k1 := HD5.out.k1
      have k2 := HD5.out.k2
      have a0 := HD5.out.a0
      have a1 := HD5.out.a1
      have a2 := HD5.out.a2
      have a3 := HD5.out.a3
      have r0 := HD5.out.r0
      have r1 := HD5.out.r1
      have r2 := HD5.out.r2
      have f1 := HD5.out.f1
      have g0 := HD5.out.g0
      have g1 := HD5.out.g1
      have g2 := HD5.out.g2
      go_wp2_with fail
      obtain ⟨W, hW, q0, q1, q2, hBW, hoW, _⟩ := HD5.out.res (.int .i64 T.most) (.int .i64 (T.rev + 1)) (.slice A' n' c')
      rw [hW]
      have HBW := Aside0.mk hBW
      have hC := set_C HO.out hlt2 hoW
      clear hW hBW k0 k1 k2 a0 a1 a2 a3 r0 r1 r2 f1 g0 g1 g2 hoW
      try simp only [Exit.inBlock, Exit.then]
      refine bodyPost_ret (by simp [results, Try.results19, go_sem, q0, q1, q2]; try rfl) rfl ?_
      have hnew : ∀ ad, A' = some ad → w.heap.size ≤ ad.block := fun ad e => Nat.le_trans HDf.out.hb.size (Kd.R_base HO.out ad.block (by rw [e]; rfl))
      obtain ⟨rfl, hc2, hC⟩ := hC
      exact ⟨A', c', rfl, hc2, hC, .inr hnew, HBW.out⟩
    · have hpost : doT T a = (T, 1) := by
        rw [HPUT.out]
        unfold putT rightV
        rw [if_neg hq, if_pos (by decide)]
      obtain rfl : R = (T, 1) := by rw [← HRR.out]; exact hpost
      clear hpost HRR HPUT
      by_cases hnm : (decide (a.f1.size ≤ 32) && nameOk a.f1) = true
      · by_cases ht0 : a.f3 < 0
        · have ht0 : decide (a.f3 < 0) = true := decide_eq_true ht0
          rw [hnm]
          go_wp2_with fail
          obtain ⟨W, hW, q0, q1, q2, hBW, _, _⟩ := HD2.out.res (.int .i64 T.most) (.int .i64 T.rev) (.slice (some ad) T.l.length c)
          rw [hW]
          have HBW := Aside0.mk hBW
          clear hW hBW k0 k1 k2 a0 a1 a2 a3 r0 r1 r2 f1 g0 g1 g2
          try simp only [Exit.inBlock, Exit.then]
          refine bodyPost_ret (by simp [results, Try.results19, go_sem, q0, q1, q2]; try rfl) rfl ?_
          exact ⟨(some ad), c, rfl, hc, C_below HR.out (by first | exact HBW.out | exact HBW.out.drew), .inl ⟨rfl, rfl⟩, by first | exact HBW.out | exact HBW.out.drew⟩
        · have ht0' : decide (a.f3 < 0) = false := decide_eq_false ht0
          have ht2 : decide (2 < a.f3) = true := decide_eq_true (Decidable.byContradiction fun ht2 => hq (by
            rw [Bool.and_eq_true] at hnm
            exact ⟨of_decide_eq_true hnm.1, hnm.2, by omega, by omega⟩))
          rw [hnm]
          go_wp2_with fail
          obtain ⟨W, hW, q0, q1, q2, hBW, _, _⟩ := HD2.out.res (.int .i64 T.most) (.int .i64 T.rev) (.slice (some ad) T.l.length c)
          rw [hW]
          have HBW := Aside0.mk hBW
          clear hW hBW k0 k1 k2 a0 a1 a2 a3 r0 r1 r2 f1 g0 g1 g2
          try simp only [Exit.inBlock, Exit.then]
          refine bodyPost_ret (by simp [results, Try.results19, go_sem, q0, q1, q2]; try rfl) rfl ?_
          exact ⟨(some ad), c, rfl, hc, C_below HR.out (by first | exact HBW.out | exact HBW.out.drew), .inl ⟨rfl, rfl⟩, by first | exact HBW.out | exact HBW.out.drew⟩
      · have hnm := Bool.eq_false_iff.2 hnm
        rw [hnm]
        go_wp2_with fail
        obtain ⟨W, hW, q0, q1, q2, hBW, _, _⟩ := HD2.out.res (.int .i64 T.most) (.int .i64 T.rev) (.slice (some ad) T.l.length c)
        rw [hW]
        have HBW := Aside0.mk hBW
        clear hW hBW k0 k1 k2 a0 a1 a2 a3 r0 r1 r2 f1 g0 g1 g2
        try simp only [Exit.inBlock, Exit.then]
        refine bodyPost_ret (by simp [results, Try.results19, go_sem, q0, q1, q2]; try rfl) rfl ?_
        exact ⟨(some ad), c, rfl, hc, C_below HR.out (by first | exact HBW.out | exact HBW.out.drew), .inl ⟨rfl, rfl⟩, by first | exact HBW.out | exact HBW.out.drew⟩
  · have hkd : (a.f0 == 1) = true := by rw [hk]; rfl
    obtain rfl : R = (T, 3) := by
      rw [← HRR.out, doT, if_neg (by omega), dropT, HG.out]
    clear hk HRR
    go_wp2_with fail
    obtain ⟨W, hW, q0, q1, q2, hBW, _, _⟩ := HD1.out.res (.int .i64 T.most) (.int .i64 T.rev) (.slice (some ad) T.l.length c)
    rw [hW]
    have HBW := Aside0.mk hBW
    clear hW hBW k0 k1 k2 a0 a1 a2 a3 r0 r1 r2 f1 g0 g1 g2
    try simp only [Exit.inBlock, Exit.then]
    refine bodyPost_ret (by simp [results, Try.results19, go_sem, q0, q1, q2]; try rfl) rfl ?_
    exact ⟨(some ad), c, rfl, hc, C_below HR.out (by first | exact HBW.out | exact HBW.out.drew), .inl ⟨rfl, rfl⟩, by first | exact HBW.out | exact HBW.out.drew⟩
end Go.Proofs.Ytonhfcjldbohbaa.Fi
