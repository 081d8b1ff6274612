/- fix: the graph as the laws see it. -/
import Derived.Test.YtiljegeodokfmaaGrI
import Derived.Test.YtiljegeodokfmaaGrT
namespace Go.Proofs.Ytiljegeodokfmaa.Fx
open Go Go.RowKit Go.Proofs.YtiljegeodokfmaaW.PrintWords Go.Proofs.YtiljegeodokfmaaW.PrintLast Go.Proofs.YtiljegeodokfmaaW.PrintMore
set_option linter.unusedVariables false
set_option linter.unusedSimpArgs false

theorem G.small {B : Nat} {S : Nat → Prop} {g : Nat} {ns : List Int} {tq : Nat → List Nat} {sv : Option M} {w : World} (h : G B S g ns tq sv w) : ∀ i n, n ∈ tq i → n < ns.length := by
  obtain ⟨vn, bm, bt, vs, vts, h⟩ := h
  exact h.small
theorem G.hN {B : Nat} {S : Nat → Prop} {g : Nat} {ns : List Int} {tq : Nat → List Nat} {sv : Option M} {w : World} (h : G B S g ns tq sv w) : ns.length ≤ 1000 := by
  obtain ⟨vn, bm, bt, vs, vts, h⟩ := h
  exact h.hN
theorem G.low {B B' : Nat} {S : Nat → Prop} {g : Nat} {ns : List Int} {tq : Nat → List Nat} {sv : Option M} {w : World} (h : G B S g ns tq sv w) (hB : B' ≤ B) : G B' S g ns tq sv w := by
  obtain ⟨vn, bm, bt, vs, vts, h⟩ := h
  exact ⟨vn, bm, bt, vs, vts, { h with sB := fun k hk => ⟨by have := (h.sB k hk).1; omega, (h.sB k hk).2⟩ }⟩
/-- A graph: its nodes, and what leads where; its sets are solved, or will be. -/
def GS (B : Nat) (S : Nat → Prop) (g : Nat) (ns : List Int) (tq : Nat → List Nat) (w : World) : Prop := ∃ sv m, G B S g ns tq sv w ∧ Sol ns tq sv m ∧ ∀ i j, i < ns.length → j < ns.length → m i j = RB ns.length tq i j
theorem GS.of_none {B : Nat} {S : Nat → Prop} {g : Nat} {ns : List Int} {tq : Nat → List Nat} {w : World} (h : G B S g ns tq none w) : GS B S g ns tq w := by
  obtain ⟨m, h1, h2⟩ := sol_ex ns tq h.hN h.small
  exact ⟨none, m, h, h1, h2⟩
theorem GS.low {B B' : Nat} {S : Nat → Prop} {g : Nat} {ns : List Int} {tq : Nat → List Nat} {w : World} (h : GS B S g ns tq w) (hB : B' ≤ B) : GS B' S g ns tq w := by
  obtain ⟨sv, m, h1, h2⟩ := h
  exact ⟨sv, m, h1.low hB, h2⟩
theorem GS.sB {B : Nat} {S : Nat → Prop} {g : Nat} {ns : List Int} {tq : Nat → List Nat} {w : World} (h : GS B S g ns tq w) : ∀ k, S k → B ≤ k ∧ k < w.heap.size := by
  obtain ⟨sv, m, h1, h2⟩ := h
  exact h1.sB
theorem GS.small {B : Nat} {S : Nat → Prop} {g : Nat} {ns : List Int} {tq : Nat → List Nat} {w : World} (h : GS B S g ns tq w) : ∀ i n, n ∈ tq i → n < ns.length := by
  obtain ⟨sv, m, h1, h2⟩ := h
  exact h1.small
theorem GS.heap {B : Nat} {S : Nat → Prop} {g : Nat} {ns : List Int} {tq : Nat → List Nat} {w w' : World} (h : GS B S g ns tq w) (hz : w.heap.size ≤ w'.heap.size) (hk : ∀ k, S k → w'.heap[k]? = w.heap[k]?) : GS B S g ns tq w' := by
  obtain ⟨sv, m, h1, h2⟩ := h
  exact ⟨sv, m, h1.heap hz hk, h2⟩
/-- Another graph's change leaves it. -/
theorem GS.other {B B2 : Nat} {S S2 : Nat → Prop} {g : Nat} {ns : List Int} {tq : Nat → List Nat} {w w' : World} (h : GS B S g ns tq w) (hc : Ch B2 S2 w w') (hd : ∀ k, S k → ¬ S2 k) : GS B S g ns tq w' :=
  h.heap hc.below.size (fun k hk => hc.keep k (h.sB k hk).2 (hd k hk))
/-- A graph's move: its blocks, and new ones. -/
def Mv (B : Nat) (S S' : Nat → Prop) (w w' : World) : Prop := (∀ k, S' k → S k ∨ w.heap.size ≤ k) ∧ Ch B S w w'
theorem new_gs (A : Option Addr) (c : Nat) (l : List Int) (w : World) (B : Nat) (hB : B ≤ w.heap.size) (hr : ReadsInt w .i64 A l.length l) (hl : l.length ≤ 1000) (hw : ∀ x ∈ l, (Lit.int .i64 x).wf = true) :
    Calls Try.prog 9 #[.slice A l.length c] w fun e w' => ∃ g S, e = .returned (.pointer (some ⟨g, 0, none⟩)) ∧ GS B S g (onceF l) (fun _ => []) w' ∧ Mv B (fun _ => False) S w w' := by
  refine (new_any A c l w hr hl hw).mono ?_
  rintro e w' ⟨g, rfl, h1, h2⟩
  exact ⟨g, _, rfl, (GS.of_none h1).low hB, fun k hk => .inr hk.1, h2.mono hB, fun k hk _ => h2.block k hk⟩
/-- What leads where behind a Lead. -/
def leadG (ns : List Int) (tq : Nat → List Nat) (x : Int) (l : List Int) : Nat → List Nat := if x ∈ ns then leadF ns tq (ns.idxOf x) l else tq
theorem lead_gs (B : Nat) (S : Nat → Prop) (g : Nat) (ns : List Int) (tq : Nat → List Nat) (x : Int) (hx : (Lit.int .i64 x).wf = true) (A : Option Addr) (c : Nat) (l : List Int) (w : World) (h : GS B S g ns tq w) (hB : B ≤ w.heap.size) (hl : ∀ W', Ch B S w W' → ReadsInt W' .i64 A l.length l) (hw : ∀ y ∈ l, (Lit.int .i64 y).wf = true) (hlen : ∀ i, (tq i).length + l.length ≤ 1000000) :
    Calls Try.prog 10 #[.pointer (some ⟨g, 0, none⟩), .int .i64 x, .slice A l.length c] w fun e w' => e = .returned (.int .i64 (if x ∈ ns then 0 else 3)) ∧ ∃ S', GS B S' g ns (leadG ns tq x l) w' ∧ Mv B S S' w w' := by
  obtain ⟨sv, m, h1, h2⟩ := h
  unfold leadG
  by_cases hn : x ∈ ns
  · rw [if_pos hn, if_pos hn]
    refine (lead_some B S g ns tq sv x hx hn A c l w h1 hB hl hw hlen).mono ?_
    rintro e w' ⟨rfl, h3, h4⟩
    exact ⟨rfl, _, GS.of_none h3, fun k hk => hk.elim .inl (fun h => .inr h.1), h4⟩
  · rw [if_neg hn, if_neg hn]
    refine (lead_none B S g ns tq sv x hx hn A l.length c w h1).mono ?_
    rintro e w' ⟨rfl, rfl⟩
    exact ⟨rfl, S, ⟨sv, m, h1, h2⟩, fun k hk => .inl hk, Ch.refl _ _ _⟩
theorem set_gs (B : Nat) (S : Nat → Prop) (g : Nat) (ns : List Int) (tq : Nat → List Nat) (x : Int) (hx : (Lit.int .i64 x).wf = true) (w : World) (hB : B ≤ w.heap.size) (h : GS B S g ns tq w) :
    Calls Try.prog 13 #[.pointer (some ⟨g, 0, none⟩), .int .i64 x] w fun e w' => ∃ v S', e = .returned v ∧ GS B S' g ns tq w' ∧ Mv B S S' w w' ∧ w'.ownsRow w.heap.size 3 1 v (setR ns tq x).length (nums .i64 (setR ns tq x)) ∧ ∀ k, v.ownBlock = some k → ¬ S' k := by
  obtain ⟨sv, m, h1, h2, h3⟩ := h
  refine (set_any B S g ns tq sv m x hx w hB h1 h2).mono ?_
  rintro e w' ⟨v, rfl, S', a1, a2, a3, a4, a5⟩
  rw [setOf_eq h3] at a4
  exact ⟨v, S', rfl, ⟨some m, m, a2, .inl rfl, h3⟩, ⟨a1, a3⟩, a4, a5⟩
def circR (ns : List Int) (tq : Nat → List Nat) (x : Int) : Bool := decide (x ∈ setR ns tq x)
theorem circle_gs (B : Nat) (S : Nat → Prop) (g : Nat) (ns : List Int) (tq : Nat → List Nat) (x : Int) (hx : (Lit.int .i64 x).wf = true) (w : World) (hB : B ≤ w.heap.size) (h : GS B S g ns tq w) :
    Calls Try.prog 18 #[.pointer (some ⟨g, 0, none⟩), .int .i64 x] w fun e w' => e = .returned (.bool (circR ns tq x)) ∧ ∃ S', GS B S' g ns tq w' ∧ Mv B S S' w w' := by
  obtain ⟨sv, m, h1, h2, h3⟩ := h
  refine (circle_any B S g ns tq sv m x hx w hB h1 h2).mono ?_
  rintro e w' ⟨rfl, S', a1, a2, a3⟩
  unfold circ
  rw [setOf_eq h3]
  exact ⟨rfl, S', ⟨some m, m, a2, .inl rfl, h3⟩, a1, a3⟩
def sameR (ns : List Int) (tq : Nat → List Nat) (a b : Int) : Bool := decide (a ∈ setR ns tq b) && decide (b ∈ setR ns tq a)
theorem same_gs (B : Nat) (S : Nat → Prop) (g : Nat) (ns : List Int) (tq : Nat → List Nat) (x y : Int) (hx : (Lit.int .i64 x).wf = true) (hy : (Lit.int .i64 y).wf = true) (w : World) (hB : B ≤ w.heap.size) (h : GS B S g ns tq w) :
    Calls Try.prog 19 #[.pointer (some ⟨g, 0, none⟩), .int .i64 x, .int .i64 y] w fun e w' => e = .returned (.bool (sameR ns tq x y)) ∧ ∃ S', GS B S' g ns tq w' ∧ Mv B S S' w w' := by
  obtain ⟨sv, m, h1, h2, h3⟩ := h
  refine (same_any B S g ns tq sv m x y hx hy w hB h1 h2).mono ?_
  rintro e w' ⟨rfl, S', a1, a2, a3⟩
  unfold both
  rw [setOf_eq h3, setOf_eq h3]
  exact ⟨rfl, S', ⟨some m, m, a2, .inl rfl, h3⟩, a1, a3⟩
def circsR (ns : List Int) (tq : Nat → List Nat) : List Int := ns.filter (circR ns tq)
theorem circles_gs (B : Nat) (S : Nat → Prop) (g : Nat) (ns : List Int) (tq : Nat → List Nat) (w : World) (hwf : ∀ x ∈ ns, (Lit.int .i64 x).wf = true) (hB : B ≤ w.heap.size) (h : GS B S g ns tq w) :
    Calls Try.prog 14 #[.pointer (some ⟨g, 0, none⟩)] w fun e w' => ∃ v S', e = .returned v ∧ GS B S' g ns tq w' ∧ Mv B S S' w w' ∧ w'.ownsRow w.heap.size 3 1 v (circsR ns tq).length (nums .i64 (circsR ns tq)) ∧ ∀ k, v.ownBlock = some k → ¬ S' k := by
  obtain ⟨sv, m, h1, h2, h3⟩ := h
  refine (circles_any B S g ns tq sv m w hwf hB h1 h2).mono ?_
  rintro e w' ⟨v, rfl, S', sv', a1, a2, a3, a4, a5, a6⟩
  have he : circsOf ns m = circsR ns tq := List.filter_congr (fun x _ => by unfold circ circR; rw [setOf_eq h3])
  rw [he] at a5
  exact ⟨v, S', rfl, ⟨sv', m, a3, a2, h3⟩, ⟨a1, a4⟩, a5, a6⟩
/-- Solve: how many rounds. -/
theorem solve_gs (B : Nat) (S : Nat → Prop) (g : Nat) (ns : List Int) (tq : Nat → List Nat) (w : World) (hB : B ≤ w.heap.size) (h : G B S g ns tq none w) :
    Calls Try.prog 16 #[.pointer (some ⟨g, 0, none⟩)] w fun e w' => ∃ r m S', e = .returned (.int .i64 r) ∧ 1 ≤ r ∧ r ≤ (ns.length : Int) + 1 ∧ G B S' g ns tq (some m) w' ∧ Mv B S S' w w' ∧ ∀ i j, i < ns.length → j < ns.length → m i j = RB ns.length tq i j := by
  obtain ⟨m, r, h1, h2, h3, h4⟩ := solve_ex h.small
  refine (solve_new B S g ns tq m r _ (by have := h.hN; omega) w hB h h1).mono ?_
  rintro e w' ⟨rfl, a1, a2⟩
  exact ⟨r, m, _, rfl, h2, h3, a1, ⟨fun k hk => hk.elim .inl (fun h => .inr h.1), a2⟩, h4⟩
end Go.Proofs.Ytiljegeodokfmaa.Fx
