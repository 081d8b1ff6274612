/- fix: FixOrder's plain law. -/
import Derived.Test.YtiljegeodokfmaaGrV
import Derived.Test.YtiljegeodokfmaaPAx2
namespace Go.Proofs.Ytiljegeodokfmaa.Fx
open Go Go.RowKit Go.Proofs.YtiljegeodokfmaaW.PrintWords Go.Proofs.Ytiljegeodokfmaa.PA
set_option linter.unusedVariables false
set_option linter.unusedSimpArgs false

theorem mem_idxs {ns l : List Int} {n : Nat} : n ∈ idxs ns l ↔ ∃ y, y ∈ l ∧ y ∈ ns ∧ n = ns.idxOf y := by
  unfold idxs
  simp only [List.mem_map, List.mem_filter, decide_eq_true_eq]
  constructor
  · rintro ⟨y, ⟨h1, h2⟩, rfl⟩; exact ⟨y, h1, h2, rfl⟩
  · rintro ⟨y, h1, h2, rfl⟩; exact ⟨y, ⟨h1, h2⟩, rfl⟩
theorem mem_leadG {ns : List Int} {tq : Nat → List Nat} {x : Int} {l : List Int} {i n : Nat} : n ∈ leadG ns tq x l i ↔ n ∈ tq i ∨ (x ∈ ns ∧ i = ns.idxOf x ∧ ∃ y, y ∈ l ∧ y ∈ ns ∧ n = ns.idxOf y) := by
  unfold leadG
  by_cases hx : x ∈ ns
  · rw [if_pos hx]
    unfold leadF
    by_cases hi : i = ns.idxOf x
    · subst hi; rw [if_pos rfl, List.mem_append, mem_idxs]; simp [hx]
    · rw [if_neg hi]; simp [hi]
  · rw [if_neg hx]; simp [hx]
theorem leadG_len {ns : List Int} {tq : Nat → List Nat} {x : Int} {l : List Int} {b : Nat} (h : ∀ i, (tq i).length ≤ b) (i : Nat) : (leadG ns tq x l i).length ≤ b + l.length := by
  have hid : (idxs ns l).length ≤ l.length := by unfold idxs; rw [List.length_map]; exact List.length_filter_le _ _
  have := h i
  unfold leadG
  split
  · unfold leadF
    split
    · rename_i e; rw [List.length_append]; rw [← e]; omega
    · omega
  · omega
/-- An edge of a list. -/
def Edge_ (ns : List Int) (l : List S30) (i n : Nat) : Prop := ∃ e, e ∈ l ∧ e.f0 ∈ ns ∧ i = ns.idxOf e.f0 ∧ e.f1 ∈ ns ∧ n = ns.idxOf e.f1
def tqOnce (ns : List Int) (l : List S30) : Nat → List Nat := l.foldl (fun t e => leadG ns t e.f0 [e.f1]) (fun _ => [])
def tqTwice (ns : List Int) (l : List S30) : Nat → List Nat := l.foldl (fun t e => leadG ns (leadG ns t e.f0 [e.f1, e.f1]) e.f0 []) (fun _ => [])
theorem tqOnce_snoc (ns : List Int) (l : List S30) (e : S30) : tqOnce ns (l ++ [e]) = leadG ns (tqOnce ns l) e.f0 [e.f1] := by unfold tqOnce; rw [List.foldl_append]; rfl
theorem tqTwice_snoc (ns : List Int) (l : List S30) (e : S30) : tqTwice ns (l ++ [e]) = leadG ns (leadG ns (tqTwice ns l) e.f0 [e.f1, e.f1]) e.f0 [] := by unfold tqTwice; rw [List.foldl_append]; rfl
theorem snocRec {α : Type} {P : List α → Prop} (h0 : P []) (h1 : ∀ l e, P l → P (l ++ [e])) (l : List α) : P l := by
  have : ∀ r : List α, P r.reverse := by
    intro r
    induction r with
    | nil => exact h0
    | cons e r ih => rw [List.reverse_cons]; exact h1 _ _ ih
  simpa using this l.reverse
theorem mem_tqOnce {ns : List Int} {l : List S30} {i n : Nat} : n ∈ tqOnce ns l i ↔ Edge_ ns l i n := by
  refine snocRec (P := fun l => n ∈ tqOnce ns l i ↔ Edge_ ns l i n) (by simp [tqOnce, Edge_]) (fun l e ih => ?_) l
  · show n ∈ tqOnce ns (l ++ [e]) i ↔ Edge_ ns (l ++ [e]) i n
    rw [tqOnce_snoc, mem_leadG, ih]
    unfold Edge_
    constructor
    · rintro (⟨e', h, h2⟩ | ⟨h1, h2, y, hy, h3, h4⟩)
      · exact ⟨e', by simp [h], h2⟩
      · obtain rfl := List.mem_singleton.1 hy
        exact ⟨e, by simp, h1, h2, h3, h4⟩
    · rintro ⟨e', h, h1, h2, h3, h4⟩
      rcases List.mem_append.1 h with h | h
      · exact .inl ⟨e', h, h1, h2, h3, h4⟩
      · obtain rfl := List.mem_singleton.1 h
        exact .inr ⟨h1, h2, _, by simp, h3, h4⟩
theorem mem_tqTwice {ns : List Int} {l : List S30} {i n : Nat} : n ∈ tqTwice ns l i ↔ Edge_ ns l i n := by
  refine snocRec (P := fun l => n ∈ tqTwice ns l i ↔ Edge_ ns l i n) (by simp [tqTwice, Edge_]) (fun l e ih => ?_) l
  · show n ∈ tqTwice ns (l ++ [e]) i ↔ Edge_ ns (l ++ [e]) i n
    rw [tqTwice_snoc, mem_leadG, mem_leadG, ih]
    unfold Edge_
    constructor
    · rintro ((⟨e', h, h2⟩ | ⟨h1, h2, y, hy, h3, h4⟩) | ⟨_, _, y, hy, _⟩)
      · exact ⟨e', by simp [h], h2⟩
      · obtain rfl : y = e.f1 := by simpa using hy
        exact ⟨e, by simp, h1, h2, h3, h4⟩
      · cases hy
    · rintro ⟨e', h, h1, h2, h3, h4⟩
      rcases List.mem_append.1 h with h | h
      · exact .inl (.inl ⟨e', h, h1, h2, h3, h4⟩)
      · obtain rfl := List.mem_singleton.1 h
        exact .inl (.inr ⟨h1, h2, _, by simp, h3, h4⟩)
theorem Edge_.rev {ns : List Int} {l : List S30} {i n : Nat} : Edge_ ns l.reverse i n ↔ Edge_ ns l i n := by
  unfold Edge_; simp
theorem Edge_.lt {ns : List Int} {l : List S30} {i n : Nat} (h : Edge_ ns l i n) : i < ns.length ∧ n < ns.length := by
  obtain ⟨e, _, h1, rfl, h2, rfl⟩ := h
  exact ⟨List.idxOf_lt_length_of_mem h1, List.idxOf_lt_length_of_mem h2⟩
/-- The order in which it was told plays no part. -/
theorem order_set (ns : List Int) (l : List S30) (x : Int) : setR ns (tqOnce ns l) x = setR ns (tqTwice ns l.reverse) x := by
  unfold setR
  split
  · rename_i hx
    congr 1
    apply List.filter_congr
    intro n hn
    exact RB_congr (fun i n _ => by rw [mem_tqOnce, mem_tqTwice, Edge_.rev]) (fun i n h => (mem_tqOnce.1 h).lt.2) (fun i n h => (mem_tqTwice.1 h).lt.2) _ _ (List.idxOf_lt_length_of_mem hx)
  · rfl
theorem order_circs (ns : List Int) (l : List S30) : circsR ns (tqOnce ns l) = circsR ns (tqTwice ns l.reverse) :=
  List.filter_congr (fun x _ => by unfold circR; rw [order_set])
end Go.Proofs.Ytiljegeodokfmaa.Fx
