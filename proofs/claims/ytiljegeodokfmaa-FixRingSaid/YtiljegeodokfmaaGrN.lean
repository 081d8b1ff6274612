/- fix: FixRing's plain law. -/
import Derived.Test.YtiljegeodokfmaaGrM
namespace Go.Proofs.Ytiljegeodokfmaa.Fx
open Go Go.RowKit Go.Proofs.YtiljegeodokfmaaW.PrintWords Go.Proofs.YtiljegeodokfmaaW.PrintLast Go.Proofs.YtiljegeodokfmaaW.PrintMore Go.Proofs.Ytiljegeodokfmaa.PA
set_option linter.unusedVariables false
set_option linter.unusedSimpArgs false

def tens (j : Nat) : List Int := (List.range j).map fun i : Nat => 10 * (i : Int)
def tqRing (k : Nat) : Nat → Nat → List Nat
  | 0 => fun _ => []
  | i + 1 => leadG (tens k) (tqRing k i) (10 * (i : Int)) [10 * (((i + 1) % k : Nat) : Int)]
def tqCut (k cut : Nat) : Nat → Nat → List Nat
  | 0 => fun _ => []
  | i + 1 => if i = cut then tqCut k cut i else leadG (tens k) (tqCut k cut i) (10 * (i : Int)) [10 * (((i + 1) % k : Nat) : Int)]
theorem tqRing_len (k : Nat) : ∀ i n, (tqRing k i n).length ≤ i
  | 0, n => by simp [tqRing]
  | i + 1, n => by have := leadG_len (tqRing_len k i) n (x := 10 * (i : Int)) (l := [10 * (((i + 1) % k : Nat) : Int)]) (ns := tens k); simpa [tqRing] using this
theorem tqCut_len (k cut : Nat) : ∀ i n, (tqCut k cut i n).length ≤ i
  | 0, n => by simp [tqCut]
  | i + 1, n => by
    have h := tqCut_len k cut i
    unfold tqCut
    split
    · have := h n; omega
    · have := leadG_len h n (x := 10 * (i : Int)) (l := [10 * (((i + 1) % k : Nat) : Int)]) (ns := tens k); simpa using this
theorem tens_rd {k i : Nat} (h : i < k) : rd (tens k) (i : Int) = 10 * (i : Int) := by simp [tens, rd_nat, h]
theorem tens_len (k : Nat) : (tens k).length = k := by simp [tens]
theorem onceF_tens : ∀ k, k ≤ 15 → onceF (tens k) = tens k := by decide +kernel
theorem ten_wf {n : Nat} (h : n ≤ 15) : (Lit.int .i64 (10 * (n : Int))).wf = true := by
  have : ∀ n : Nat, n ≤ 15 → (Lit.int .i64 (10 * (n : Int))).wf = true := by decide +kernel
  exact this n h
theorem tens_wf {k : Nat} (h : k ≤ 15) : ∀ x ∈ tens k, (Lit.int .i64 x).wf = true := by
  intro x hx
  unfold tens at hx
  obtain ⟨i, hi, rfl⟩ := List.mem_map.1 hx
  exact ten_wf (by have := List.mem_range.1 hi; omega)
def fR (k cut : Nat) : M := fun i j => decide ((cut + k - j) % k < (cut + k - i) % k)
theorem RBg : ∀ k, k ≤ 15 → ∀ i, i < k → ∀ j, j < k → RB k (fun i => [(i + 1) % k]) i j = true := by decide +kernel
theorem RBc : ∀ k, k ≤ 15 → ∀ cut, cut < k → ∀ i, i < k → ∀ j, j < k → RB k (fun i => if i = cut then [] else [(i + 1) % k]) i j = fR k cut i j := by decide +kernel
theorem tqg : ∀ k, k ≤ 15 → ∀ i, i < k → tqRing k k i = [(i + 1) % k] := by decide +kernel
theorem tqc : ∀ k, k ≤ 15 → ∀ cut, cut < k → ∀ i, i < k → tqCut k cut k i = if i = cut then [] else [(i + 1) % k] := by decide +kernel
theorem tqg_far {k : Nat} : ∀ n i, k ≤ i → tqRing k n i = []
  | 0, i, h => rfl
  | n + 1, i, h => by
    unfold tqRing leadG
    split
    · rename_i hx
      unfold leadF
      have := List.idxOf_lt_length_of_mem hx
      rw [tens_len] at this
      rw [if_neg (by omega)]
      exact tqg_far n i h
    · exact tqg_far n i h
theorem tqc_far {k cut : Nat} : ∀ n i, k ≤ i → tqCut k cut n i = []
  | 0, i, h => rfl
  | n + 1, i, h => by
    unfold tqCut leadG
    split
    · exact tqc_far n i h
    split
    · rename_i hx
      unfold leadF
      have := List.idxOf_lt_length_of_mem hx
      rw [tens_len] at this
      rw [if_neg (by omega)]
      exact tqc_far n i h
    · exact tqc_far n i h
theorem ring_setR {k : Nat} (hk : k ≤ 15) (x : Int) : setR (tens k) (tqRing k k) x = setOf (tens k) (fun _ _ => true) x := by
  refine (setOf_eq (fun i j hi hj => ?_) x).symm
  rw [tens_len] at hi hj ⊢
  have hs : ∀ i n, n ∈ tqRing k k i → n < k := fun i n h => by
    rcases Nat.lt_or_ge i k with h1 | h1
    · rw [tqg k hk i h1] at h; rw [List.mem_singleton.1 h]; exact Nat.mod_lt _ (by omega)
    · rw [tqg_far k i h1] at h; cases h
  rw [RB_congr (t2 := fun i => [(i + 1) % k]) (fun i n h => by rw [tqg k hk i h]) hs (fun i n h => by rw [List.mem_singleton.1 h]; exact Nat.mod_lt _ (by omega)) i j hi, RBg k hk i hi j hj]
theorem cut_setR {k cut : Nat} (hk : k ≤ 15) (hc : cut < k) (x : Int) : setR (tens k) (tqCut k cut k) x = setOf (tens k) (fR k cut) x := by
  refine (setOf_eq (fun i j hi hj => ?_) x).symm
  rw [tens_len] at hi hj ⊢
  have hs2 : ∀ i n, n ∈ (if i = cut then ([] : List Nat) else [(i + 1) % k]) → n < k := fun i n h => by
    split at h
    · cases h
    · rw [List.mem_singleton.1 h]; exact Nat.mod_lt _ (by omega)
  have hs : ∀ i n, n ∈ tqCut k cut k i → n < k := fun i n h => by
    rcases Nat.lt_or_ge i k with h1 | h1
    · rw [tqc k hk cut hc i h1] at h; exact hs2 i n h
    · rw [tqc_far k i h1] at h; cases h
  rw [RB_congr (t2 := fun i => if i = cut then [] else [(i + 1) % k]) (fun i n h => by rw [tqc k hk cut hc i h]) hs hs2 i j hi, RBc k hk cut hc i hi j hj]
theorem chk1 : ∀ k, k ≤ 15 → ∀ i, i < k → (setOf (tens k) (fun _ _ => true) (10 * (i : Int))).length = k ∧ (10 * (i : Int)) ∈ setOf (tens k) (fun _ _ => true) 0 ∧ 0 ∈ setOf (tens k) (fun _ _ => true) (10 * (i : Int)) ∧ (10 * (i : Int)) ∈ setOf (tens k) (fun _ _ => true) (10 * (i : Int)) := by decide +kernel
theorem chk2a : ∀ k, k ≤ 15 → ∀ cut, cut < k → ∀ i, i < k → decide ((10 * (i : Int)) ∈ setOf (tens k) (fR k cut) (10 * (i : Int))) = false := by decide +kernel
theorem chk2b : ∀ k, k ≤ 15 → ∀ cut, cut < k → ∀ i, i < k → (decide ((10 * (i : Int)) ∈ setOf (tens k) (fR k cut) 0) && decide (0 ∈ setOf (tens k) (fR k cut) (10 * (i : Int)))) = false := by decide +kernel
theorem chk3 : ∀ k, k ≤ 15 → ∀ cut, cut < k → (setOf (tens k) (fR k cut) (10 * (cut : Int))).length = 0 ∧ (setOf (tens k) (fR k cut) (10 * (((cut + 1) % k : Nat) : Int))).length + 1 = k := by decide +kernel
section
variable {k cut i : Nat} (hk : k ≤ 15) (hc : cut < k) (hi : i < k)
include hk
theorem ring1 (hi : i < k) : circR (tens k) (tqRing k k) (10 * (i : Int)) = true := by unfold circR; rw [ring_setR hk]; exact decide_eq_true (chk1 k hk i hi).2.2.2
theorem ring2 (hi : i < k) : (setR (tens k) (tqRing k k) (10 * (i : Int))).length = k := by rw [ring_setR hk]; exact (chk1 k hk i hi).1
theorem ring4 (hi : i < k) : sameR (tens k) (tqRing k k) (10 * (i : Int)) 0 = true := by
  unfold sameR; rw [ring_setR hk, ring_setR hk, decide_eq_true (chk1 k hk i hi).2.1, decide_eq_true (chk1 k hk i hi).2.2.1]; rfl
theorem ring3 (hc : cut < k) (hi : i < k) : circR (tens k) (tqCut k cut k) (10 * (i : Int)) = false := by unfold circR; rw [cut_setR hk hc]; exact chk2a k hk cut hc i hi
theorem ring5 (hc : cut < k) (hi : i < k) : sameR (tens k) (tqCut k cut k) (10 * (i : Int)) 0 = false := by
  unfold sameR; rw [cut_setR hk hc, cut_setR hk hc]; exact chk2b k hk cut hc i hi
theorem ring6 : (circsR (tens k) (tqRing k k)).length = k := by
  unfold circsR
  rw [List.filter_eq_self.2 (fun x hx => ?_), tens_len]
  unfold tens at hx
  obtain ⟨i, hi, rfl⟩ := List.mem_map.1 hx
  exact ring1 hk (List.mem_range.1 hi)
theorem ring7 (hc : cut < k) : (circsR (tens k) (tqCut k cut k)).length = 0 := by
  unfold circsR
  rw [List.filter_eq_nil_iff.2 (fun x hx => ?_)]; · rfl
  unfold tens at hx
  obtain ⟨i, hi, rfl⟩ := List.mem_map.1 hx
  rw [ring3 hk hc (List.mem_range.1 hi)]; simp
theorem ring8 (hc : cut < k) : (setR (tens k) (tqCut k cut k) (10 * (cut : Int))).length = 0 := by rw [cut_setR hk hc]; exact (chk3 k hk cut hc).1
theorem ring9 (hc : cut < k) : (setR (tens k) (tqCut k cut k) (10 * (((cut + 1) % k : Nat) : Int))).length + 1 = k := by rw [cut_setR hk hc]; exact (chk3 k hk cut hc).2
end
end Go.Proofs.Ytiljegeodokfmaa.Fx
