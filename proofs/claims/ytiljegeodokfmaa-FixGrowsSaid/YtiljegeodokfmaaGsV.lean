/- fix, keys string: built slices, lists. Turned by wip/gsturn.py. -/
import Derived.Test.YtiljegeodokfmaaGsU
import Derived.Test.YtiljegeodokfmaaGrO
namespace Go.Proofs.Ytiljegeodokfmaa.Fs
open Go Go.RowKit Go.Proofs.YtiljegeodokfmaaW.PrintWords Go.Proofs.YtiljegeodokfmaaW.PrintLast Go.Proofs.YtiljegeodokfmaaW.PrintMore Go.Proofs.Ytiljegeodokfmaa.Fx
set_option linter.unusedVariables false
set_option linter.unusedSimpArgs false

theorem built_reads {w : World} {b : Nat} {l : List ByteArray} (h : w.heap[b]? = some (.cells (strs l).toArray 9 (0, 0))) (hl : l.length ≤ 1000) : ReadsStr w (some ⟨b, 0, none⟩) l.length l := by
  have hown : w.ownsRow 0 9 1 (.slice (some ⟨b, 0, none⟩) l.length l.length) l.length (strs l) := ⟨by simp [strs, encs], .inr ⟨b, l.length, _, rfl, Nat.zero_le _, h, Nat.le_refl _, by unfold maxLen; omega, by simp [strs, encs], by simp only [Nat.mul_one]; exact List.take_of_length_le (by simp [strs, encs])⟩⟩
  obtain ⟨A, c, e, hr⟩ := own_reads_of (enc := Value.string) (d := ByteArray.empty) hown
  injection e with e1
  subst e1; exact hr
/-- The same in whatever world the graph's moves bring. -/
theorem built_stays {B : Nat} {S : Nat → Prop} {w : World} {b : Nat} {l : List ByteArray} (h : w.heap[b]? = some (.cells (strs l).toArray 9 (0, 0))) (hl : l.length ≤ 1000) (hb : ¬ S b) : ∀ W', Ch B S w W' → ReadsStr W' (some ⟨b, 0, none⟩) l.length l :=
  fun W' hc => built_reads ((hc.keep b (Array.getElem?_eq_some_iff.1 h).1 hb).trans h) hl
theorem GS.alloc {B : Nat} {S : Nat → Prop} {g : Nat} {ns : List ByteArray} {tq : Nat → List Nat} {w : World} (h : GS B S g ns tq w) (o : Obj) : GS B S g ns tq (w.alloc o) :=
  h.heap (by simp) (fun k hk => Below.heap_alloc w o k (h.sB k hk).2)

theorem lead_built {B : Nat} {S : Nat → Prop} {g : Nat} {ns : List ByteArray} {tq : Nat → List Nat} (x : ByteArray) (l : List ByteArray) {w : World} (h : GS B S g ns tq w) (hx : x.size ≤ 9223372036854775807) (hB : B ≤ w.heap.size) (hl : l.length ≤ 1000) (hw : ∀ y ∈ l, y.size ≤ 9223372036854775807) (hlen : ∀ i, (tq i).length + l.length ≤ 1000000) (cs : Array Value) (hcs : cs = (strs l).toArray) (n c : Nat) (hn : n = l.length) :
    Calls Try.prog 21 #[.pointer (some ⟨g, 0, none⟩), .string x, .slice (some ⟨w.heap.size, 0, none⟩) n c] (w.alloc (.cells cs 9)) fun e w' => e = .returned (.int .i64 (if x ∈ ns then 0 else 3)) ∧ ∃ S', GS B S' g ns (leadG ns tq x l) w' ∧ Mv B S S' w w' := by
  subst hcs hn
  have hz : (w.alloc (.cells (strs l).toArray 9)).heap.size = w.heap.size + 1 := by simp
  refine (lead_gs B S g ns tq x hx (some ⟨w.heap.size, 0, none⟩) c l _ (h.alloc _) (by omega) (built_stays (World.alloc_heap_new w _) hl (fun hk => by have := (h.sB _ hk).2; omega)) hw hlen).mono ?_
  rintro e w' ⟨rfl, S', h1, h2⟩
  exact ⟨rfl, S', h1, fun k hk => (h2.1 k hk).imp id (fun e => by omega), ((Ch.refl B S w).alloc hB _).trans h2.2 (fun _ h => .inl h)⟩
theorem mem_idxs {ns l : List ByteArray} {n : Nat} : n ∈ idxs ns l ↔ ∃ y, y ∈ l ∧ y ∈ ns ∧ n = ns.idxOf y := by
  unfold idxs
  simp only [List.mem_map, List.mem_filter, decide_eq_true_eq]
  constructor
  · rintro ⟨y, ⟨h1, h2⟩, rfl⟩; exact ⟨y, h1, h2, rfl⟩
  · rintro ⟨y, h1, h2, rfl⟩; exact ⟨y, ⟨h1, h2⟩, rfl⟩
theorem mem_leadG {ns : List ByteArray} {tq : Nat → List Nat} {x : ByteArray} {l : List ByteArray} {i n : Nat} : n ∈ leadG ns tq x l i ↔ n ∈ tq i ∨ (x ∈ ns ∧ i = ns.idxOf x ∧ ∃ y, y ∈ l ∧ y ∈ ns ∧ n = ns.idxOf y) := by
  unfold leadG
  by_cases hx : x ∈ ns
  · rw [if_pos hx]
    unfold leadF
    by_cases hi : i = ns.idxOf x
    · subst hi; rw [if_pos rfl, List.mem_append, mem_idxs]; simp [hx]
    · rw [if_neg hi]; simp [hi]
  · rw [if_neg hx]; simp [hx]
theorem leadG_len {ns : List ByteArray} {tq : Nat → List Nat} {x : ByteArray} {l : List ByteArray} {b : Nat} (h : ∀ i, (tq i).length ≤ b) (i : Nat) : (leadG ns tq x l i).length ≤ b + l.length := by
  have hid : (idxs ns l).length ≤ l.length := by unfold idxs; rw [List.length_map]; exact List.length_filter_le _ _
  have := h i
  unfold leadG
  split
  · unfold leadF
    split
    · rename_i e; rw [List.length_append]; rw [← e]; omega
    · omega
  · omega
/-- A list of the caller's own, in a value. -/
def Lst (w : World) (base : Nat) (v : Value) (l : List ByteArray) : Prop :=
  ∃ A c, v = .slice A l.length c ∧ l.length ≤ c ∧ ∃ K : Nat → Prop, (∀ k, K k → base ≤ k ∧ k < w.heap.size ∧ v.ownBlock = some k) ∧ ∀ W : World, (∀ k, K k → W.heap[k]? = w.heap[k]?) → ReadsStr W A l.length l
theorem Lst.of_own {w : World} {base : Nat} {v : Value} {l : List ByteArray} (hb : base ≤ w.heap.size) (h : w.ownsRow base 9 1 v l.length (strs l)) (hl : l.length ≤ 1000) : Lst w base v l := by
  obtain ⟨A, c, rfl, hr⟩ := own_reads_of (enc := Value.string) (d := ByteArray.empty) h
  refine ⟨A, c, rfl, ?_, fun k => (Value.slice A l.length c).ownBlock = some k, fun k hk => ⟨(h.lt k hk).1, (h.lt k hk).2, hk⟩, fun W hW => ?_⟩
  · rcases h.2 with ⟨e, h0⟩ | ⟨g, cap, cur, e, _, _, h1, _⟩
    · omega
    · injection e with _ _ e3; omega
  · obtain ⟨A', c', e, hr'⟩ := own_reads_of (enc := Value.string) (d := ByteArray.empty) (Fx.own_heap h (w' := W) (fun k e => hW k e))
    injection e with e1
    subst e1; exact hr'
theorem onceF_mem {l : List ByteArray} {x : ByteArray} (h : x ∈ onceF l) : x ∈ l := by
  revert h
  refine snocRec (P := fun l => x ∈ onceF l → x ∈ l) (fun h => by simp [onceF] at h) (fun l e ih h => ?_) l
  rw [onceF_snoc] at h
  split at h
  · exact List.mem_append_left _ (ih h)
  · rcases List.mem_append.1 h with h | h
    · exact List.mem_append_left _ (ih h)
    · exact List.mem_append_right _ h
end Go.Proofs.Ytiljegeodokfmaa.Fs
