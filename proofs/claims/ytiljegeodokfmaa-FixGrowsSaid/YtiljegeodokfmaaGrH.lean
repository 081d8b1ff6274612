/- fix, eighth part: Circle, Same, Circles; the graph that is nil. -/
import Derived.Test.YtiljegeodokfmaaGrG
namespace Go.Proofs.Ytiljegeodokfmaa.Fx
open Go Go.RowKit Go.Proofs.YtiljegeodokfmaaW.PrintWords Go.Proofs.YtiljegeodokfmaaW.PrintLast Go.Proofs.YtiljegeodokfmaaW.PrintMore Go.Proofs.Ytiljegeodokfmaa.Rg
attribute [local go_sem] Oper.semAt_some
set_option linter.unusedVariables false
set_option linter.unusedSimpArgs false

theorem Then.trans {B : Nat} {S : Nat → Prop} {g : Nat} {ns : List Int} {tq : Nat → List Nat} {m : M} {a b c : World} {S' : Nat → Prop} (hS : ∀ k, S' k → S k ∨ a.heap.size ≤ k) (h1 : Ch B S a b) (h : Then B S' g ns tq m b c) : Then B S g ns tq m a c := by
  obtain ⟨S2, h2, h3, h4⟩ := h
  have := h1.below.size
  exact ⟨S2, fun k hk => (h2 k hk).elim (hS k) (fun h => .inr (by omega)), h3, h1.trans h4 hS⟩
theorem Then.trans' {B : Nat} {S : Nat → Prop} {g : Nat} {ns : List Int} {tq : Nat → List Nat} {m : M} {a b c : World} (h1 : Ch B S a b) (h : Then B S g ns tq m b c) : Then B S g ns tq m a c := h.trans (fun k hk => .inl hk) h1

/-- Does it lie on a circle? -/
def circ (ns : List Int) (m : M) (x : Int) : Bool := decide (x ∈ setOf ns m x)
theorem circle_any (B : Nat) (S : Nat → Prop) (g : Nat) (ns : List Int) (tq : Nat → List Nat) (sv : Option M) (m : M) (x : Int) (hx : (Lit.int .i64 x).wf = true) (w : World) (hB : B ≤ w.heap.size) (h : G B S g ns tq sv w) (hs : Sol ns tq sv m) :
    Calls Try.prog 18 #[.pointer (some ⟨g, 0, none⟩), .int .i64 x] w fun e w' => e = .returned (.bool (circ ns m x)) ∧ Then B S g ns tq m w w' := by
  have HS := Aside0.mk (has_any B S g ns tq sv m x x hx w hB h hs)
  clear h hs
  refine (callsIn_wide (n := 9)).1 ?_
  refine callsIn_of_wp Try.func18 rfl trivial ?_ rfl
  simp only [Try.ntmps18, List.size_toArray, List.length_cons, List.length_nil, Nat.reduceAdd, Nat.reduceSub, Array.replicate_succ, Array.replicate_zero, List.push_toArray, List.append_toArray, List.nil_append, List.cons_append]
  gi_wp2_with (refine ⟨trivial, ?_⟩; gi_at_call 33; refine (callsIn_wide.2 HS.out).mono ?_; rintro e w' ⟨rfl, ht⟩)
  go_ret
  exact ⟨rfl, ht⟩
/-- Is each in the other one's set? -/
def both (ns : List Int) (m : M) (a b : Int) : Bool := decide (a ∈ setOf ns m b) && decide (b ∈ setOf ns m a)
theorem same_any (B : Nat) (S : Nat → Prop) (g : Nat) (ns : List Int) (tq : Nat → List Nat) (sv : Option M) (m : M) (x y : Int) (hx : (Lit.int .i64 x).wf = true) (hy : (Lit.int .i64 y).wf = true) (w : World) (hB : B ≤ w.heap.size) (h : G B S g ns tq sv w) (hs : Sol ns tq sv m) :
    Calls Try.prog 19 #[.pointer (some ⟨g, 0, none⟩), .int .i64 x, .int .i64 y] w fun e w' => e = .returned (.bool (both ns m x y)) ∧ Then B S g ns tq m w w' := by
  have HS := Aside0.mk (has_any B S g ns tq sv m x y hy w hB h hs)
  clear h hs
  unfold both
  cases hd : decide (x ∈ setOf ns m y)
  · refine (callsIn_wide (n := 9)).1 ?_
    refine callsIn_of_wp Try.func19 rfl trivial ?_ rfl
    simp only [Try.ntmps19, List.size_toArray, List.length_cons, List.length_nil, Nat.reduceAdd, Nat.reduceSub, Array.replicate_succ, Array.replicate_zero, List.push_toArray, List.append_toArray, List.nil_append, List.cons_append]
    gi_wp2_with (refine ⟨trivial, ?_⟩; gi_at_call 33; refine (callsIn_wide.2 HS.out).mono ?_; rintro e w' ⟨rfl, ht⟩; rw [hd])
    refine ⟨trivial, ?_⟩
    gi_wp2
    go_ret
    exact ⟨rfl, ht⟩
  · refine (callsIn_wide (n := 9)).1 ?_
    refine callsIn_of_wp Try.func19 rfl trivial ?_ rfl
    simp only [Try.ntmps19, List.size_toArray, List.length_cons, List.length_nil, Nat.reduceAdd, Nat.reduceSub, Array.replicate_succ, Array.replicate_zero, List.push_toArray, List.append_toArray, List.nil_append, List.cons_append]
    gi_wp2_with fail
    refine ⟨trivial, ?_⟩
    gi_at_call 33
    refine (callsIn_wide.2 HS.out).mono ?_
    rintro e w' ⟨rfl, S', hS', hG, hC⟩
    rw [hd]
    have HS2 := Aside0.mk (has_any B S' g ns tq (some m) m y x hx w' (by have := hC.below.size; omega) hG (.inl rfl))
    gi_wp2_with fail
    refine ⟨trivial, (callsIn_wide.2 HS2.out).mono ?_⟩
    rintro e w2 ⟨rfl, ht⟩
    gi_wp2
    go_ret
    exact ⟨rfl, ht.trans hS' hC⟩
theorem circles1_any (n : Nat) (hn : 12 ≤ n) (B : Nat) (S : Nat → Prop) (g : Nat) (ns : List Int) (tq : Nat → List Nat) (sv : Option M) (m : M) (x : Int) (hx : (Lit.int .i64 x).wf = true) (b : Nat) (w : World) (hB : B ≤ w.heap.size) (h : G B S g ns tq sv w) (hs : Sol ns tq sv m) (hb : w.cell? ⟨b, 0, none⟩ = some (.pointer (some ⟨g, 0, none⟩))) :
    CallsIn Fence.wide n Try.prog 31 #[.int .i64 x, .pointer (some ⟨b, 0, none⟩)] w fun e w' => e = .returned (.bool (!circ ns m x)) ∧ Then B S g ns tq m w w' := by
  have HS := Aside0.mk (circle_any B S g ns tq sv m x hx w hB h hs)
  clear h hs
  refine callsIn_of_wp Try.func31 rfl trivial ?_ rfl
  simp only [Try.ntmps31, List.size_toArray, List.length_cons, List.length_nil, Nat.reduceAdd, Nat.reduceSub, Array.replicate_succ, Array.replicate_zero, List.push_toArray, List.append_toArray, List.nil_append, List.cons_append]
  gi_wp2_with (refine ⟨trivial, fun _ => by omega, ?_⟩; gi_at_call 18; refine (callsIn_wide.2 HS.out).mono ?_; rintro e w' ⟨rfl, ht⟩)
  go_ret
  exact ⟨rfl, ht⟩
end Go.Proofs.Ytiljegeodokfmaa.Fx
