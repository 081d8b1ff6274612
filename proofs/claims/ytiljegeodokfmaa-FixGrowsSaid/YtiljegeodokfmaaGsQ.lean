/- fix, keys string: FixGrows' plain law. -/
import Derived.Test.YtiljegeodokfmaaGsP
namespace Go.Proofs.Ytiljegeodokfmaa.Fs
open Go Go.RowKit Go.Proofs.YtiljegeodokfmaaW.PrintWords Go.Proofs.YtiljegeodokfmaaW.PrintLast Go.Proofs.YtiljegeodokfmaaW.PrintMore Go.Proofs.Ytiljegeodokfmaa.Fx
set_option linter.unusedVariables false
set_option linter.unusedSimpArgs false

theorem RB_trans {N : Nat} {tq : Nat → List Nat} (hs : ∀ i n, n ∈ tq i → n < N) {i a n : Nat} (hi : i < N) (h1 : RB N tq i a = true) (h2 : RB N tq a n = true) : RB N tq i n = true := by
  have key : ∀ (r i : Nat), i < N → PR tq a r i = true → RB N tq i n = true := by
    intro r
    induction r with
    | zero => intro i _ h; simp [PR] at h
    | succ r ih =>
      intro i hi h
      obtain ⟨m, hm, h⟩ := PR_succ.1 h
      rcases h with rfl | h
      · exact RB_step hs hi hm h2
      · exact RB_step hs hi hm (ih m (hs i m hm) h)
  exact key _ i hi h1
theorem PR_up {t1 t2 : Nat → List Nat} {j : Nat} (h : ∀ i n, n ∈ t1 i → n ∈ t2 i) : ∀ (r i : Nat), PR t1 j r i = true → PR t2 j r i = true
  | 0, i, hp => by simp [PR] at hp
  | r + 1, i, hp => by
    obtain ⟨n, hn, hp⟩ := PR_succ.1 hp
    exact PR_succ.2 ⟨n, h i n hn, hp.imp id (PR_up h r n)⟩
theorem setR_len_eq {ns : List ByteArray} {tq : Nat → List Nat} {x : ByteArray} (h : x ∈ ns) : (setR ns tq x).length = cntP ns.length (fun n => RB ns.length tq (ns.idxOf x) n) := by
  unfold setR cntP
  rw [if_pos h, List.length_map]
/-- Sets only grow. -/
theorem grows_len {ns : List ByteArray} {t1 t2 : Nat → List Nat} (h : ∀ i n, n ∈ t1 i → n ∈ t2 i) (x : ByteArray) : (setR ns t1 x).length ≤ (setR ns t2 x).length := by
  by_cases hx : x ∈ ns
  · rw [setR_len_eq hx, setR_len_eq hx]
    exact cntP_mono (fun i _ hp => PR_up h _ _ hp)
  · unfold setR; rw [if_neg hx, if_neg hx]; exact Nat.le_refl _
theorem onceF_mem2 {l : List ByteArray} {x : ByteArray} (h : x ∈ l) : x ∈ onceF l := by
  revert h
  refine snocRec (P := fun l => x ∈ l → x ∈ onceF l) (fun h => by cases h) (fun l e ih h => ?_) l
  rw [onceF_snoc]
  rcases List.mem_append.1 h with h | h
  · split
    · exact ih h
    · exact List.mem_append_left _ (ih h)
  · have := List.mem_singleton.1 h
    subst this
    split
    · assumption
    · exact List.mem_append_right _ (List.mem_singleton.2 rfl)
theorem getD_idx {ns : List ByteArray} {x : ByteArray} (h : x ∈ ns) : ns.getD (ns.idxOf x) ByteArray.empty = x := by
  have hl := List.idxOf_lt_length_of_mem h
  rw [List.getD_eq_getElem?_getD, List.getElem?_eq_getElem hl]; exact List.getElem_idxOf hl
theorem onceF_nodup (l : List ByteArray) : (onceF l).Nodup := by
  refine snocRec (P := fun l => (onceF l).Nodup) (by simp [onceF]) (fun l e ih => ?_) l
  rw [onceF_snoc]
  split
  · exact ih
  · rename_i h
    refine List.nodup_append.2 ⟨ih, by simp, fun a ha b hb e => ?_⟩
    have := List.mem_singleton.1 hb
    subst this e
    exact h ha
/-- Who is in a set, told by places. -/
theorem mem_setR {ns : List ByteArray} {tq : Nat → List Nat} (hd : ns.Nodup) {x y : ByteArray} (h : x ∈ setR ns tq y) : x ∈ ns ∧ y ∈ ns ∧ RB ns.length tq (ns.idxOf y) (ns.idxOf x) = true := by
  unfold setR at h
  split at h
  · rename_i hy
    obtain ⟨n, hn, rfl⟩ := List.mem_map.1 h
    obtain ⟨h1, h2⟩ := List.mem_filter.1 hn
    have hl := List.mem_range.1 h1
    have e : ns.getD n ByteArray.empty = ns[n] := by rw [List.getD_eq_getElem?_getD, List.getElem?_eq_getElem hl]; rfl
    rw [e, hd.idxOf_getElem n hl]
    exact ⟨List.getElem_mem _, hy, h2⟩
  · cases h
theorem setR_mem {ns : List ByteArray} {tq : Nat → List Nat} {x y : ByteArray} (hx : x ∈ ns) (hy : y ∈ ns) (h : RB ns.length tq (ns.idxOf y) (ns.idxOf x) = true) : x ∈ setR ns tq y := by
  unfold setR
  rw [if_pos hy]
  exact List.mem_map.2 ⟨ns.idxOf x, List.mem_filter.2 ⟨List.mem_range.2 (List.idxOf_lt_length_of_mem hx), h⟩, getD_idx hx⟩
/-- A set holds the sets of what is in it. -/
theorem within_len {ns : List ByteArray} {tq : Nat → List Nat} (hd : ns.Nodup) (hs : ∀ i n, n ∈ tq i → n < ns.length) {x y : ByteArray} (h : x ∈ setR ns tq y) : (setR ns tq x).length ≤ (setR ns tq y).length := by
  obtain ⟨h1, h2, h3⟩ := mem_setR hd h
  rw [setR_len_eq h1, setR_len_eq h2]
  exact cntP_mono (fun i _ hp => RB_trans hs (List.idxOf_lt_length_of_mem h2) h3 hp)
theorem same_circ {ns : List ByteArray} {tq : Nat → List Nat} (hd : ns.Nodup) (hs : ∀ i n, n ∈ tq i → n < ns.length) {x y : ByteArray} (h : sameR ns tq x y = true) : circR ns tq y = true := by
  unfold sameR at h
  rw [Bool.and_eq_true] at h
  obtain ⟨h1, h2, h3⟩ := mem_setR hd (of_decide_eq_true h.1)
  obtain ⟨_, _, h4⟩ := mem_setR hd (of_decide_eq_true h.2)
  unfold circR
  exact decide_eq_true (setR_mem h2 h2 (RB_trans hs (List.idxOf_lt_length_of_mem h2) h3 h4))
/-- What leads where behind j pairs. -/
def tqP (ns l : List ByteArray) : Nat → Nat → List Nat
  | 0 => fun _ => []
  | j + 1 => leadG ns (tqP ns l j) (l.getD (2 * j) ByteArray.empty) [l.getD (2 * j + 1) ByteArray.empty]
theorem tqP_len (ns l : List ByteArray) : ∀ j i, (tqP ns l j i).length ≤ j
  | 0, i => by simp [tqP]
  | j + 1, i => by
    have := leadG_len (tqP_len ns l j) i (x := l.getD (2 * j) ByteArray.empty) (l := [l.getD (2 * j + 1) ByteArray.empty]) (ns := ns)
    simpa [tqP] using this
theorem leadG_up {ns : List ByteArray} {tq : Nat → List Nat} {x : ByteArray} {l : List ByteArray} (i n : Nat) (h : n ∈ tq i) : n ∈ leadG ns tq x l i := mem_leadG.2 (.inl h)
theorem leadG_lt {ns : List ByteArray} {tq : Nat → List Nat} {x : ByteArray} {l : List ByteArray} (h : ∀ i n, n ∈ tq i → n < ns.length) (i n : Nat) (hm : n ∈ leadG ns tq x l i) : n < ns.length := by
  rcases mem_leadG.1 hm with h' | ⟨_, _, y, _, hy, rfl⟩
  · exact h i n h'
  · exact List.idxOf_lt_length_of_mem hy
theorem tqP_lt (ns l : List ByteArray) : ∀ j i n, n ∈ tqP ns l j i → n < ns.length
  | 0, i, n, h => by simp [tqP] at h
  | j + 1, i, n, h => leadG_lt (tqP_lt ns l j) i n h
end Go.Proofs.Ytiljegeodokfmaa.Fs
