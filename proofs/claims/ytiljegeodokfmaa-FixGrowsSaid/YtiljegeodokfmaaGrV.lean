/- fix: alive. -/
import Derived.Test.YtiljegeodokfmaaGrU
namespace Go.Proofs.Ytiljegeodokfmaa.Fx
open Go Go.RowKit Go.Proofs.YtiljegeodokfmaaW.PrintWords Go.Proofs.YtiljegeodokfmaaW.PrintLast Go.Proofs.YtiljegeodokfmaaW.PrintMore
attribute [local go_sem] Oper.semAt_some
set_option linter.unusedVariables false
set_option linter.unusedSimpArgs false

theorem built_reads {w : World} {b : Nat} {l : List Int} (h : w.heap[b]? = some (.cells (nums .i64 l).toArray 3 (0, 0))) (hl : l.length ≤ 1000) : ReadsInt w .i64 (some ⟨b, 0, none⟩) l.length l := by
  have hown : w.ownsRow 0 3 1 (.slice (some ⟨b, 0, none⟩) l.length l.length) l.length (nums .i64 l) := ⟨by simp [nums], .inr ⟨b, l.length, _, rfl, Nat.zero_le _, h, Nat.le_refl _, by unfold maxLen; omega, by simp [nums], by simp only [Nat.mul_one]; exact List.take_of_length_le (by simp [nums])⟩⟩
  obtain ⟨A, c, e, hr⟩ := own_reads hown
  injection e with e1
  subst e1; exact hr
theorem nil_reads (w : World) : ReadsInt w .i64 none 0 [] := by
  have hown : w.ownsRow 0 3 1 (.slice none 0 0) 0 (nums .i64 []) := ⟨rfl, .inl ⟨rfl, rfl⟩⟩
  obtain ⟨A, c, e, hr⟩ := own_reads hown
  injection e with e1
  subst e1; exact hr
/-- The same in whatever world the graph's moves bring. -/
theorem built_stays {B : Nat} {S : Nat → Prop} {w : World} {b : Nat} {l : List Int} (h : w.heap[b]? = some (.cells (nums .i64 l).toArray 3 (0, 0))) (hl : l.length ≤ 1000) (hb : ¬ S b) : ∀ W', Ch B S w W' → ReadsInt W' .i64 (some ⟨b, 0, none⟩) l.length l :=
  fun W' hc => built_reads ((hc.keep b (Array.getElem?_eq_some_iff.1 h).1 hb).trans h) hl
theorem Mv.trans {B : Nat} {S S1 S2 : Nat → Prop} {a b c : World} (h : Mv B S S1 a b) (k : Mv B S1 S2 b c) : Mv B S S2 a c :=
  ⟨fun x hx => (k.1 x hx).elim (h.1 x) (fun e => .inr (Nat.le_trans h.2.below.size e)), h.2.trans k.2 h.1⟩
theorem Mv.alloc {B : Nat} {S S1 : Nat → Prop} {a b : World} (h : Mv B S S1 a b) (hB : B ≤ b.heap.size) (o : Obj) : Mv B S S1 a (b.alloc o) := ⟨h.1, h.2.alloc hB o⟩
theorem GS.alloc {B : Nat} {S : Nat → Prop} {g : Nat} {ns : List Int} {tq : Nat → List Nat} {w : World} (h : GS B S g ns tq w) (o : Obj) : GS B S g ns tq (w.alloc o) :=
  h.heap (by simp) (fun k hk => Below.heap_alloc w o k (h.sB k hk).2)

theorem lead_built {B : Nat} {S : Nat → Prop} {g : Nat} {ns : List Int} {tq : Nat → List Nat} (x : Int) (l : List Int) {w : World} (h : GS B S g ns tq w) (hx : (Lit.int .i64 x).wf = true) (hB : B ≤ w.heap.size) (hl : l.length ≤ 1000) (hw : ∀ y ∈ l, (Lit.int .i64 y).wf = true) (hlen : ∀ i, (tq i).length + l.length ≤ 1000000) (cs : Array Value) (hcs : cs = (nums .i64 l).toArray) (n c : Nat) (hn : n = l.length) :
    Calls Try.prog 10 #[.pointer (some ⟨g, 0, none⟩), .int .i64 x, .slice (some ⟨w.heap.size, 0, none⟩) n c] (w.alloc (.cells cs 3)) fun e w' => e = .returned (.int .i64 (if x ∈ ns then 0 else 3)) ∧ ∃ S', GS B S' g ns (leadG ns tq x l) w' ∧ Mv B S S' w w' := by
  subst hcs hn
  have hz : (w.alloc (.cells (nums .i64 l).toArray 3)).heap.size = w.heap.size + 1 := by simp
  refine (lead_gs B S g ns tq x hx (some ⟨w.heap.size, 0, none⟩) c l _ (h.alloc _) (by omega) (built_stays (World.alloc_heap_new w _) hl (fun hk => by have := (h.sB _ hk).2; omega)) hw hlen).mono ?_
  rintro e w' ⟨rfl, S', h1, h2⟩
  exact ⟨rfl, S', h1, fun k hk => (h2.1 k hk).imp id (fun e => by omega), ((Ch.refl B S w).alloc hB _).trans h2.2 (fun _ h => .inl h)⟩
def tqA : Nat → List Nat := leadG [1, 2, 3] (fun _ => []) 1 [2]
def tqB : Nat → List Nat := leadG [1, 2, 3] tqA 2 [1, 3, 9]
set_option maxRecDepth 100000 in
set_option maxHeartbeats 4000000 in
theorem alive_any (w : World) : Calls Try.prog 8 #[] w fun e w' => e = .returned (.bool true) ∧ Below w.heap.size w w' := by
  refine (callsIn_wide (n := 20)).1 ?_
  refine callsIn_of_wp Try.func8 rfl trivial ?_ rfl
  simp only [Try.ntmps8, List.size_toArray, List.length_cons, List.length_nil, Nat.reduceAdd, Nat.reduceSub, Array.replicate_succ, Array.replicate_zero, List.push_toArray, List.append_toArray, List.nil_append, List.cons_append]
  gi_wp2_with fail
  refine ⟨trivial, ?_⟩
  gi_at_call 9
  refine (callsIn_wide.2 (new_gs (some ⟨w.heap.size, 0, none⟩) 3 [1, 2, 3] _ w.heap.size (by simp) (built_reads (World.alloc_heap_new w _) (by decide)) (by decide) (by decide))).mono ?_
  rintro e w1 ⟨g, S1, rfl, hG1, hM1⟩
  rw [show onceF [1, 2, 3] = [1, 2, 3] by decide] at hG1
  have hz1 := hM1.2.below.size
  have HG1 := Aside0.mk hG1
  have HM1 := Aside0.mk hM1
  clear hG1 hM1
  gi_wp2_with fail
  refine ⟨trivial, ?_⟩
  gi_at_call 10
  refine (callsIn_wide.2 (lead_built 1 [2] HG1.out (by decide) (by simp at hz1; omega) (by decide) (by decide) (by simp) _ rfl _ _ rfl)).mono ?_
  rintro e w2 ⟨rfl, S2, hG2, hM2⟩
  rw [if_pos (by decide)]
  have hz2 := hM2.2.below.size
  have HG2 := Aside0.mk (show GS w.heap.size S2 g [1, 2, 3] tqA w2 from hG2)
  have HM2 := Aside0.mk (HM1.out.trans hM2)
  clear hG2 hM2 HG1 HM1
  gi_wp2_with fail
  refine ⟨trivial, ?_⟩
  gi_at_call 10
  refine (callsIn_wide.2 (lead_built 2 [1, 3, 9] HG2.out (by decide) (by simp at hz1; omega) (by decide) (by decide) (fun i => by unfold tqA leadG leadF; simp; split <;> simp [idxs]) _ rfl _ _ rfl)).mono ?_
  rintro e w3 ⟨rfl, S3, hG3, hM3⟩
  rw [if_pos (by decide)]
  have hz3 := hM3.2.below.size
  have HG3 := Aside0.mk (show GS w.heap.size S3 g [1, 2, 3] tqB w3 from hG3)
  have HM3 := Aside0.mk (HM2.out.trans hM3)
  clear hG3 hM3 HG2 HM2
  gi_wp2_with fail
  refine ⟨trivial, ?_⟩
  gi_at_call 18
  refine (callsIn_wide.2 (circle_gs w.heap.size S3 g [1, 2, 3] tqB 1 (by decide) w3 (by simp at hz1; omega) HG3.out)).mono ?_
  rintro e w4 ⟨rfl, S4, hG4, hM4⟩
  rw [show circR [1, 2, 3] tqB 1 = true by decide]
  have hz4 := hM4.2.below.size
  have HG4 := Aside0.mk hG4
  have HM4 := Aside0.mk (HM3.out.trans hM4)
  clear hG4 hM4 HG3 HM3
  gi_wp2_with fail
  refine ⟨trivial, ?_⟩
  gi_at_call 18
  refine (callsIn_wide.2 (circle_gs w.heap.size S4 g [1, 2, 3] tqB 2 (by decide) w4 (by simp at hz1; omega) HG4.out)).mono ?_
  rintro e w5 ⟨rfl, S5, hG5, hM5⟩
  rw [show circR [1, 2, 3] tqB 2 = true by decide]
  have hz5 := hM5.2.below.size
  have HG5 := Aside0.mk hG5
  have HM5 := Aside0.mk (HM4.out.trans hM5)
  clear hG5 hM5 HG4 HM4
  gi_wp2_with fail
  refine ⟨trivial, ?_⟩
  gi_at_call 18
  refine (callsIn_wide.2 (circle_gs w.heap.size S5 g [1, 2, 3] tqB 3 (by decide) w5 (by simp at hz1; omega) HG5.out)).mono ?_
  rintro e w6 ⟨rfl, S6, hG6, hM6⟩
  rw [show circR [1, 2, 3] tqB 3 = false by decide]
  have hz6 := hM6.2.below.size
  have HG6 := Aside0.mk hG6
  have HM6 := Aside0.mk (HM5.out.trans hM6)
  clear hG6 hM6 HG5 HM5
  gi_wp2_with fail
  refine ⟨trivial, ?_⟩
  gi_at_call 10
  refine (callsIn_wide.2 (lead_built 9 [1] HG6.out (by decide) (by simp at hz1; omega) (by decide) (by decide) (fun i => by unfold tqB tqA leadG leadF; simp [idxs]; repeat (first | split | simp | omega)) _ rfl _ _ rfl)).mono ?_
  rintro e w7 ⟨rfl, S7, hG7, hM7⟩
  rw [if_neg (by decide)]
  have HM7 := Aside0.mk (HM6.out.trans hM7)
  clear hG7 hM7 HG6 HM6
  gi_wp2
  go_ret
  refine ⟨rfl, ?_⟩
  have hb : Below w.heap.size (w.alloc (.cells (nums .i64 [1, 2, 3]).toArray 3)) w7 := HM7.out.2.below
  exact ((Below.refl _ w).alloc (Nat.le_refl _) _).trans hb
end Go.Proofs.Ytiljegeodokfmaa.Fx
