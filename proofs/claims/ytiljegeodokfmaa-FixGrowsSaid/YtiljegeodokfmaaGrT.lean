/- fix: what the rounds come to: who is reached. No program. -/
import Derived.Test.YtiljegeodokfmaaGrF
namespace Go.Proofs.Ytiljegeodokfmaa.Fx
open Go Go.RowKit
set_option linter.unusedVariables false
set_option linter.unusedSimpArgs false

/-- j is come to from i in at most r steps, one at least. -/
def PR (tq : Nat → List Nat) (j : Nat) : Nat → Nat → Bool
  | 0, _ => false
  | r + 1, i => (tq i).any fun n => n == j || PR tq j r n
theorem PR_succ {tq : Nat → List Nat} {j r i : Nat} : PR tq j (r + 1) i = true ↔ ∃ n, n ∈ tq i ∧ (n = j ∨ PR tq j r n = true) := by
  simp [PR]
theorem PR_mono {tq : Nat → List Nat} {j : Nat} : ∀ (r i : Nat), PR tq j r i = true → PR tq j (r + 1) i = true
  | 0, i, h => by simp [PR] at h
  | r + 1, i, h => by
    obtain ⟨n, hn, h⟩ := PR_succ.1 h
    exact PR_succ.2 ⟨n, hn, h.elim .inl (fun h => .inr (PR_mono r n h))⟩
theorem PR_le {tq : Nat → List Nat} {j : Nat} {r s i : Nat} (hs : r ≤ s) (h : PR tq j r i = true) : PR tq j s i = true := by
  induction hs with
  | refl => exact h
  | step _ ih => exact PR_mono _ _ ih
def cntP (N : Nat) (p : Nat → Bool) : Nat := ((List.range N).filter p).length
theorem cntP_le (N : Nat) (p : Nat → Bool) : cntP N p ≤ N := by
  have := List.length_filter_le p (List.range N)
  simpa [cntP] using this
theorem cntP_mono {N : Nat} {p q : Nat → Bool} (h : ∀ i, i < N → p i = true → q i = true) : cntP N p ≤ cntP N q := by
  unfold cntP
  induction N with
  | zero => simp
  | succ N ih =>
    rw [List.range_succ, List.filter_append, List.filter_append, List.length_append, List.length_append]
    have h1 := ih (fun i hi => h i (by omega))
    have h2 : ([N].filter p).length ≤ ([N].filter q).length := by
      cases hp : p N
      · simp [hp]
      · simp [hp, h N (by omega) hp]
    omega
theorem cntP_lt {N : Nat} {p q : Nat → Bool} (h : ∀ i, i < N → p i = true → q i = true) {x : Nat} (hx : x < N) (hp : p x = false) (hq : q x = true) : cntP N p < cntP N q := by
  unfold cntP
  induction N with
  | zero => omega
  | succ N ih =>
    rw [List.range_succ, List.filter_append, List.filter_append, List.length_append, List.length_append]
    have h1 : ((List.range N).filter p).length ≤ ((List.range N).filter q).length := cntP_mono (fun i hi => h i (by omega))
    have h2 : ([N].filter p).length ≤ ([N].filter q).length := by
      cases hp : p N
      · simp [hp]
      · simp [hp, h N (by omega) hp]
    by_cases hxN : x = N
    · subst hxN
      have : ([x].filter p).length < ([x].filter q).length := by simp [hp, hq]
      omega
    · have := ih (fun i hi => h i (by omega)) (by omega)
      omega
/-- It stands still, at the latest behind N steps. -/
theorem PR_stable {tq : Nat → List Nat} {N j : Nat} (hs : ∀ i n, n ∈ tq i → n < N) (i : Nat) (hi : i < N) : PR tq j (N + 1) i = true → PR tq j N i = true := by
  have key : ∀ r, (∀ i, i < N → PR tq j (r + 1) i = true → PR tq j r i = true) ∨ r + 1 ≤ cntP N (PR tq j (r + 1)) := by
    intro r
    induction r with
    | zero =>
      by_cases h : ∃ x, x < N ∧ PR tq j (0 + 1) x = true
      · obtain ⟨x, hx, h⟩ := h
        have := cntP_lt (N := N) (p := PR tq j 0) (q := PR tq j (0 + 1)) (fun i _ h => PR_mono 0 i h) hx rfl h
        right; omega
      · exact .inl fun x hx h' => (h ⟨x, hx, h'⟩).elim
    | succ r ih =>
      rcases ih with ih | ih
      · refine .inl fun x hx h => ?_
        obtain ⟨n, hn, h⟩ := PR_succ.1 h
        exact PR_succ.2 ⟨n, hn, h.elim .inl (fun h => .inr (ih n (hs x n hn) h))⟩
      · by_cases h : ∃ x, x < N ∧ PR tq j (r + 1 + 1) x = true ∧ PR tq j (r + 1) x = false
        · obtain ⟨x, hx, h, h2⟩ := h
          have := cntP_lt (N := N) (p := PR tq j (r + 1)) (q := PR tq j (r + 1 + 1)) (fun i _ h => PR_mono _ i h) hx h2 h
          right; omega
        · refine .inl fun x hx h' => ?_
          cases h2 : PR tq j (r + 1) x
          · exact (h ⟨x, hx, h', h2⟩).elim
          · rfl
  rcases key N with h | h
  · exact h i hi
  · have := cntP_le N (PR tq j (N + 1)); omega
/-- Who is reached. -/
def RB (N : Nat) (tq : Nat → List Nat) (i j : Nat) : Bool := PR tq j N i
theorem RB_of_PR {tq : Nat → List Nat} {N j : Nat} (hs : ∀ i n, n ∈ tq i → n < N) : ∀ (r i : Nat), i < N → PR tq j r i = true → RB N tq i j = true
  | 0, i, _, h => by simp [PR] at h
  | r + 1, i, hi, h => by
    obtain ⟨n, hn, h⟩ := PR_succ.1 h
    exact PR_stable hs i hi (PR_succ.2 ⟨n, hn, h.elim .inl (fun h => .inr (RB_of_PR hs r n (hs i n hn) h))⟩)
theorem RB_edge {tq : Nat → List Nat} {N : Nat} (hs : ∀ i n, n ∈ tq i → n < N) {i n : Nat} (hi : i < N) (h : n ∈ tq i) : RB N tq i n = true := RB_of_PR hs 1 i hi (PR_succ.2 ⟨n, h, .inl rfl⟩)
theorem RB_step {tq : Nat → List Nat} {N : Nat} (hs : ∀ i n, n ∈ tq i → n < N) {i n j : Nat} (hi : i < N) (h : n ∈ tq i) (hj : RB N tq n j = true) : RB N tq i j = true := RB_of_PR hs (N + 1) i hi (PR_succ.2 ⟨n, h, .inr hj⟩)

/-- What a round is told. -/
structure RI (N : Nat) (tq : Nat → List Nat) (m0 : M) (p : M × Bool) (E : Nat → Nat → Prop) : Prop where
  le : ∀ i j, m0 i j = true → p.1 i j = true
  reach : ∀ i j, i < N → j < N → p.1 i j = true → RB N tq i j = true
  done : ∀ i n, i < N → E i n → p.1 i n = true ∧ ∀ x, m0 n x = true → p.1 i x = true
  quiet : p.2 = false → ∀ i j, i < N → j < N → p.1 i j = m0 i j
  loud : p.2 = true → ∃ i j, i < N ∧ j < N ∧ m0 i j = false ∧ p.1 i j = true
theorem RI.edge {N : Nat} {tq : Nat → List Nat} (hs : ∀ i n, n ∈ tq i → n < N) {m0 : M} {p : M × Bool} {E : Nat → Nat → Prop} (h : RI N tq m0 p E) {i n : Nat} (hi : i < N) (hn : n ∈ tq i) : RI N tq m0 (edgeM N i n p) (fun a b => E a b ∨ (a = i ∧ b = n)) := by
  have hnN := hs i n hn
  have hval : ∀ a b, (edgeM N i n p).1 a b = if a = i then ((if b = n then true else p.1 i b) || (if n = i then (if b = n then true else p.1 i b) else p.1 n b)) else p.1 a b := by
    intro a b
    simp only [edgeM, orM, setM]
    by_cases ha : a = i
    · subst ha; simp
    · simp [ha]
  have hge : ∀ a b, p.1 a b = true → (edgeM N i n p).1 a b = true := by
    intro a b hp
    rw [hval]
    split
    · rename_i ha; subst ha; simp [hp]
    · exact hp
  refine ⟨fun a b hm => hge a b (h.le a b hm), fun a b ha hb hp => ?_, fun a b ha hE => ?_, fun hq => ?_, fun hq => ?_⟩
  · rw [hval] at hp
    split at hp
    · rename_i hai; subst hai
      by_cases hbn : b = n
      · subst hbn; exact RB_edge hs ha hn
      · simp only [hbn, if_false, Bool.or_eq_true] at hp
        rcases hp with hp | hp
        · exact h.reach a b ha hb hp
        · split at hp
          · exact h.reach a b ha hb hp
          · exact RB_step hs ha hn (h.reach n b hnN hb hp)
    · exact h.reach a b ha hb hp
  · rcases hE with hE | ⟨rfl, rfl⟩
    · exact ⟨hge _ _ (h.done a b ha hE).1, fun x hx => hge _ _ ((h.done a b ha hE).2 x hx)⟩
    · refine ⟨by rw [hval]; simp, fun x hx => ?_⟩
      rw [hval]
      have := h.le _ _ hx
      simp only [if_true, Bool.or_eq_true]
      right
      split
      · rename_i e; subst e; split
        · rfl
        · exact this
      · exact this
  · have hq' : p.2 = false ∧ p.1 i n = true ∧ grew (setM p.1 i n i) (setM p.1 i n n) N = false := by
      have : (p.2 || !p.1 i n || grew (setM p.1 i n i) (setM p.1 i n n) N) = false := hq
      simp only [Bool.or_eq_false_iff, Bool.not_eq_false'] at this
      exact ⟨this.1.1, this.1.2, this.2⟩
    obtain ⟨q1, q2, q3⟩ := hq'
    intro a b ha hb
    rw [← h.quiet q1 a b ha hb, hval]
    split
    · rename_i hai; subst hai
      have hset : (if b = n then true else p.1 a b) = p.1 a b := by split; (rename_i e; subst e; exact q2.symm); rfl
      rw [hset]
      have hg : ∀ x, x < N → setM p.1 a n n x = true → setM p.1 a n a x = true := by
        intro x hx hsx
        have := List.any_eq_false.1 q3 x (List.mem_range.2 hx)
        simp [hsx] at this
        exact this
      have := hg b hb
      simp only [setM, if_true] at this
      rw [hset] at this
      cases hp : p.1 a b
      · rw [hp] at this
        split at this
        · rename_i e; subst e; simp [hp]
        · rename_i e
          rw [if_neg e]
          simpa using this
      · simp
    · rfl
  · have : (p.2 || !p.1 i n || grew (setM p.1 i n i) (setM p.1 i n n) N) = true := hq
    simp only [Bool.or_eq_true, Bool.not_eq_true'] at this
    rcases this with (q | q) | q
    · obtain ⟨a, b, ha, hb, h1, h2⟩ := h.loud q
      exact ⟨a, b, ha, hb, h1, hge a b h2⟩
    · refine ⟨i, n, hi, hnN, ?_, by rw [hval]; simp⟩
      cases hm : m0 i n
      · rfl
      · rw [h.le _ _ hm] at q; cases q
    · obtain ⟨x, hx, hg⟩ := List.any_eq_true.1 q
      simp only [Bool.and_eq_true, Bool.not_eq_true'] at hg
      have hxN := List.mem_range.1 hx
      refine ⟨i, x, hi, hxN, ?_, ?_⟩
      · cases hm : m0 i x
        · rfl
        · have hp := h.le _ _ hm
          have h2 := hg.2
          simp only [setM, if_true] at h2
          split at h2
          · cases h2
          · rw [hp] at h2; cases h2
      · rw [hval]
        have h1 := hg.1
        simp only [setM] at h1
        simp only [if_true, Bool.or_eq_true]
        right
        exact h1

theorem RI.row {N : Nat} {tq : Nat → List Nat} (hs : ∀ i n, n ∈ tq i → n < N) {m0 : M} {i : Nat} (hi : i < N) : ∀ (l : List Nat) (p : M × Bool) (E : Nat → Nat → Prop), RI N tq m0 p E → (∀ n ∈ l, n ∈ tq i) → RI N tq m0 (rowM N i l p) (fun a b => E a b ∨ (a = i ∧ b ∈ l))
  | [], p, E, h, _ => ⟨h.le, h.reach, fun a b ha hE => h.done a b ha (hE.elim id (fun e => by cases e.2)), h.quiet, h.loud⟩
  | n :: l, p, E, h, hl => by
    have h1 := RI.row hs hi l _ _ (h.edge hs hi (hl n (by simp))) (fun n hn => hl n (by simp [hn]))
    refine ⟨h1.le, h1.reach, fun a b ha hE => h1.done a b ha ?_, h1.quiet, h1.loud⟩
    rcases hE with hE | ⟨rfl, hE⟩
    · exact .inl (.inl hE)
    · rcases List.mem_cons.1 hE with rfl | hE
      · exact .inl (.inr ⟨rfl, rfl⟩)
      · exact .inr ⟨rfl, hE⟩
theorem RI.to {N : Nat} {tq : Nat → List Nat} (hs : ∀ i n, n ∈ tq i → n < N) {m0 : M} (h0 : ∀ i j, i < N → j < N → m0 i j = true → RB N tq i j = true) : ∀ k, k ≤ N → RI N tq m0 (roundTo N tq m0 k) (fun a b => a < k ∧ b ∈ tq a)
  | 0, _ => ⟨fun _ _ h => h, h0, fun a b _ hE => by omega, fun _ _ _ _ _ => rfl, fun h => by cases h⟩
  | k + 1, hk => by
    rw [roundTo_succ]
    have h := RI.row hs (by omega) (tq k) _ _ (RI.to hs h0 k (by omega)) (fun n hn => hn)
    refine ⟨h.le, h.reach, fun a b ha hE => h.done a b ha ?_, h.quiet, h.loud⟩
    by_cases hak : a = k
    · subst hak; exact .inr ⟨rfl, hE.2⟩
    · exact .inl ⟨by omega, hE.2⟩
/-- A round: on from at most r steps. -/
theorem round_law {N : Nat} {tq : Nat → List Nat} (hs : ∀ i n, n ∈ tq i → n < N) {m : M} {r : Nat} (h1 : ∀ i j, i < N → j < N → m i j = true → RB N tq i j = true) (h2 : ∀ i j, i < N → j < N → PR tq j r i = true → m i j = true) :
    (∀ i j, i < N → j < N → (roundM N tq m).1 i j = true → RB N tq i j = true) ∧ (∀ i j, i < N → j < N → PR tq j (r + 1) i = true → (roundM N tq m).1 i j = true) ∧ ((roundM N tq m).2 = false → ∀ i j, i < N → j < N → (roundM N tq m).1 i j = RB N tq i j) ∧ (N ≤ r → (roundM N tq m).2 = false) := by
  have h := RI.to hs h1 N (Nat.le_refl _)
  have hr : ∀ i j, i < N → j < N → PR tq j (r + 1) i = true → (roundM N tq m).1 i j = true := by
    intro i j hi hj hp
    obtain ⟨n, hn, hp⟩ := PR_succ.1 hp
    obtain ⟨d1, d2⟩ := h.done i n hi ⟨hi, hn⟩
    rcases hp with rfl | hp
    · exact d1
    · exact d2 j (h2 n j (hs i n hn) hj hp)
  refine ⟨h.reach, hr, fun hq i j hi hj => ?_, fun hN => ?_⟩
  · have hcl : ∀ (k i : Nat), i < N → PR tq j k i = true → (roundM N tq m).1 i j = true := by
      intro k
      induction k with
      | zero => intro i _ h; simp [PR] at h
      | succ k ih =>
        intro i hi hp
        obtain ⟨n, hn, hp⟩ := PR_succ.1 hp
        obtain ⟨d1, d2⟩ := h.done i n hi ⟨hi, hn⟩
        rcases hp with rfl | hp
        · exact d1
        · have := ih n (hs i n hn) hp
          rw [show (roundM N tq m).1 n j = m n j from h.quiet hq n j (hs i n hn) hj] at this
          exact d2 j this
    cases hb : RB N tq i j
    · cases hm : (roundM N tq m).1 i j
      · rfl
      · rw [h.reach i j hi hj hm] at hb; cases hb
    · exact hcl N i hi hb
  · cases hq : (roundM N tq m).2
    · rfl
    · obtain ⟨i, j, hi, hj, l1, l2⟩ := h.loud hq
      have := h.reach i j hi hj l2
      rw [h2 i j hi hj (PR_le hN this)] at l1; cases l1
theorem solve_from {N : Nat} {tq : Nat → List Nat} (hs : ∀ i n, n ∈ tq i → n < N) : ∀ (d r : Nat) (m : M) (c : Int), r + d = N → (∀ i j, i < N → j < N → m i j = true → RB N tq i j = true) → (∀ i j, i < N → j < N → PR tq j r i = true → m i j = true) →
    ∃ m' c', solveL N tq (d + 1) m c = some (m', c') ∧ c ≤ c' ∧ c' ≤ c + d ∧ ∀ i j, i < N → j < N → m' i j = RB N tq i j
  | 0, r, m, c, hrd, h1, h2 => by
    obtain ⟨a1, a2, a3, a4⟩ := round_law hs h1 h2
    have hq := a4 (by omega)
    refine ⟨(roundM N tq m).1, c, ?_, by omega, by omega, a3 hq⟩
    unfold solveL; rw [hq]; rfl
  | d + 1, r, m, c, hrd, h1, h2 => by
    obtain ⟨a1, a2, a3, a4⟩ := round_law hs h1 h2
    cases hq : (roundM N tq m).2
    · refine ⟨(roundM N tq m).1, c, ?_, by omega, by omega, a3 hq⟩
      unfold solveL; rw [hq]; rfl
    · obtain ⟨m', c', b1, b2, b3, b4⟩ := solve_from hs d (r + 1) (roundM N tq m).1 (c + 1) (by omega) a1 a2
      refine ⟨m', c', ?_, by omega, by omega, b4⟩
      unfold solveL; rw [hq, if_pos rfl]; exact b1
/-- The rounds end, and say who is reached. -/
theorem solve_ex {N : Nat} {tq : Nat → List Nat} (hs : ∀ i n, n ∈ tq i → n < N) : ∃ m r, solveL N tq (N + 1) (fun _ _ => false) 1 = some (m, r) ∧ 1 ≤ r ∧ r ≤ (N : Int) + 1 ∧ ∀ i j, i < N → j < N → m i j = RB N tq i j := by
  obtain ⟨m, r, h1, h2, h3, h4⟩ := solve_from hs N 0 (fun _ _ => false) 1 (by omega) (fun _ _ _ _ h => by cases h) (fun _ _ _ _ h => by simp [PR] at h)
  exact ⟨m, r, h1, h2, by omega, h4⟩
theorem sol_ex (ns : List Int) (tq : Nat → List Nat) (hn : ns.length ≤ 1000) (hs : ∀ i n, n ∈ tq i → n < ns.length) : ∃ m, Sol ns tq none m ∧ ∀ i j, i < ns.length → j < ns.length → m i j = RB ns.length tq i j := by
  obtain ⟨m, r, h1, _, _, h4⟩ := solve_ex hs
  exact ⟨m, .inr ⟨rfl, _, r, by omega, h1⟩, h4⟩
/-- Who is in a node's set. -/
def setR (ns : List Int) (tq : Nat → List Nat) (x : Int) : List Int := if x ∈ ns then ((List.range ns.length).filter fun n => RB ns.length tq (ns.idxOf x) n).map fun n => ns.getD n 0 else []
theorem setOf_eq {ns : List Int} {tq : Nat → List Nat} {m : M} (h : ∀ i j, i < ns.length → j < ns.length → m i j = RB ns.length tq i j) (x : Int) : setOf ns m x = setR ns tq x := by
  unfold setOf setR
  split
  · rename_i hx
    congr 1
    apply List.filter_congr
    intro n hn
    exact h _ n (List.idxOf_lt_length_of_mem hx) (List.mem_range.1 hn)
  · rfl
theorem RB_congr {N : Nat} {t1 t2 : Nat → List Nat} (h : ∀ i n, i < N → (n ∈ t1 i ↔ n ∈ t2 i)) (hs : ∀ i n, n ∈ t1 i → n < N) (hs2 : ∀ i n, n ∈ t2 i → n < N) (i j : Nat) (hi : i < N) : RB N t1 i j = RB N t2 i j := by
  have key : ∀ (t1 t2 : Nat → List Nat), (∀ i n, i < N → (n ∈ t1 i → n ∈ t2 i)) → (∀ i n, n ∈ t1 i → n < N) → ∀ r i, i < N → PR t1 j r i = true → PR t2 j r i = true := by
    intro t1 t2 h hs r
    induction r with
    | zero => intro i _ hp; simp [PR] at hp
    | succ r ih =>
      intro i hi hp
      obtain ⟨n, hn, hp⟩ := PR_succ.1 hp
      exact PR_succ.2 ⟨n, h i n hi hn, hp.elim .inl (fun hp => .inr (ih n (hs i n hn) hp))⟩
  unfold RB
  cases h1 : PR t1 j N i
  · cases h2 : PR t2 j N i
    · rfl
    · rw [key t2 t1 (fun i n hi => (h i n hi).2) hs2 N i hi h2] at h1; cases h1
  · rw [key t1 t2 (fun i n hi => (h i n hi).1) hs N i hi h1]
end Go.Proofs.Ytiljegeodokfmaa.Fx
