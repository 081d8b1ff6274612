/- fix, first part: a matrix of rows of bools; one row added to another one. -/
import Derived.Test.YtiljegeodokfmaaWWords
import Derived.Test.YtiljegeodokfmaaWMore
import Derived.Test.YtiljegeodokfmaaWKept
import Derived.Test.YtiljegeodokfmaaProg
import Derived.Lib.Hide
import Derived.Outline
import Derived.Deep.QuietTactic
import Derived.BigQuiet
import Derived.Deep.LoopGhost
import Derived.Lib.Builder
namespace Go.Proofs.Ytiljegeodokfmaa.Fx
open Go Go.RowKit Go.Proofs.YtiljegeodokfmaaW.PrintWords
set_option linter.unusedVariables false
set_option linter.unusedSimpArgs false

/-- A row's cells. -/
def rowL (N : Nat) (f : Nat → Bool) : List Value := (List.range N).map fun j => .bool (f j)
def rowA (N : Nat) (f : Nat → Bool) : Array Value := (rowL N f).toArray
theorem rowA_get {N : Nat} {f : Nat → Bool} {j : Nat} (h : j < N) : (rowA N f)[j]? = some (.bool (f j)) := by
  simp [rowA, rowL, h]
theorem rowA_size (N : Nat) (f : Nat → Bool) : (rowA N f).size = N := by simp [rowA, rowL]
theorem rowA_set {N : Nat} {f g : Nat → Bool} {j : Nat} {b : Bool} (hg : ∀ x, x < N → g x = if x = j then b else f x) : (rowA N f).setIfInBounds j (.bool b) = rowA N g := by
  apply Array.ext_getElem?
  intro i
  rw [Array.getElem?_setIfInBounds]
  by_cases hi : i < N
  · rw [rowA_get hi, rowA_get hi, hg i hi, rowA_size]
    by_cases hj : j = i
    · subst hj; simp [hi]
    · rw [if_neg hj, if_neg (fun e => hj e.symm)]
  · rw [Array.getElem?_eq_none (by rw [rowA_size]; omega : (rowA N g).size ≤ i)]
    split
    · split
      · rename_i h1 h2; rw [rowA_size] at h2; omega
      · rfl
    · exact Array.getElem?_eq_none (by rw [rowA_size]; omega)
theorem rowA_congr {N : Nat} {f g : Nat → Bool} (h : ∀ x, x < N → f x = g x) : rowA N f = rowA N g := by
  unfold rowA rowL
  congr 1
  exact List.map_congr_left (fun x hx => by rw [h x (List.mem_range.1 hx)])

/-- One block's cells are others; all else stands. -/
structure One (b : Nat) (w w' : World) : Prop where
  os : w'.os = w.os
  tape : w'.tape = w.tape
  output : w'.output = w.output
  size : w'.heap.size = w.heap.size
  block : ∀ k, k ≠ b → w'.heap[k]? = w.heap[k]?
theorem One.refl (b : Nat) (w : World) : One b w w := ⟨rfl, rfl, rfl, rfl, fun _ _ => rfl⟩
theorem One.trans {b : Nat} {a c d : World} (h : One b a c) (k : One b c d) : One b a d := ⟨k.os.trans h.os, k.tape.trans h.tape, k.output.trans h.output, k.size.trans h.size, fun i hi => (k.block i hi).trans (h.block i hi)⟩
theorem One.setCell {b : Nat} {a c : World} (h : One b a c) (o : Nat) (u : Value) : One b a (c.setCell ⟨b, o, none⟩ u) :=
  ⟨h.os, h.tape, h.output, by rw [← h.size]; simp, fun k hk => (Below.heap_setCell c ⟨b, o, none⟩ u k hk).trans (h.block k hk)⟩
theorem One.drew {b : Nat} {a c : World} (h : One b a c) : One b a c.drew := ⟨h.os, h.tape, h.output, h.size, h.block⟩
theorem blk_row {w : World} {b N t : Nat} {f g : Nat → Bool} {j : Nat} {v : Bool} (h : w.heap[b]? = some (.cells (rowA N f) t (0, 0))) (hg : ∀ x, x < N → g x = if x = j then v else f x) :
    (w.setCell ⟨b, j, none⟩ (.bool v)).heap[b]? = some (.cells (rowA N g) t (0, 0)) := by
  rw [← rowA_set hg]
  simp [World.setCell, Array.getElem?_modify, h]

/-- What a row is when another one has been added up to a place. -/
def upto (a b : Nat → Bool) (j : Nat) : Nat → Bool := fun x => a x || (decide (x < j) && b x)
/-- Did it grow? -/
def grew (a b : Nat → Bool) (j : Nat) : Bool := (List.range j).any fun x => b x && !a x
theorem grew_succ (a b : Nat → Bool) (j : Nat) : grew a b (j + 1) = (grew a b j || (b j && !a j)) := by
  simp [grew, List.range_succ]
def AddPost (N b1 : Nat) (a b : Nat → Bool) (w : World) (e : Ending) (w' : World) : Prop :=
  e = .returned (.bool (grew a b N)) ∧ w'.heap[b1]? = some (.cells (rowA N fun x => a x || b x) 4 (0, 0)) ∧ One b1 w w'

set_option maxHeartbeats 2000000 in
set_option maxRecDepth 100000 in
theorem add_two (N b1 b2 : Nat) (a b : Nat → Bool) (w : World) (hN : N ≤ 100000) (hne : b1 ≠ b2) (h1 : w.heap[b1]? = some (.cells (rowA N a) 4 (0, 0))) (h2 : w.heap[b2]? = some (.cells (rowA N b) 4 (0, 0))) :
    Calls Try.prog 44 #[.slice (some ⟨b1, 0, none⟩) N N, .slice (some ⟨b2, 0, none⟩) N N] w (AddPost N b1 a b w) := by
  have H1 := Aside0.mk h1
  have H2 := Aside0.mk h2
  clear h1 h2
  go_enter Try.func44, Try.ntmps44
  go_wp2_with fail
  go_loopg [5, 10] N (fun kq v5 v10 w' => ∃ j : Nat, v5 = .bool (grew a b j) ∧ v10 = .int .i64 j ∧ Aside0 (j ≤ N ∧ kq = N - j) ∧ Aside0 (w'.heap[b1]? = some (.cells (rowA N (upto a b j)) 4 (0, 0))) ∧ Aside0 (One b1 w w'))
  case atStart => exact ⟨0, rfl, rfl, ⟨by omega, by omega⟩, ⟨by rw [H1.out]; rw [rowA_congr (fun x _ => by simp [upto] : ∀ x, x < N → a x = upto a b 0 x)]⟩, ⟨One.refl _ _⟩⟩
  case round =>
    obtain ⟨j, rfl, rfl, HJ, HB, HO⟩ := hrel
    obtain ⟨hj1, hj2⟩ := HJ.out
    by_cases hj : j < N
    · have hc2 : wr.cell? ⟨b2, j, none⟩ = some (.bool (b j)) := by
        rw [Lib.cell_of_heap ((HO.out.block b2 (fun e => hne e.symm)).trans H2.out)]; exact rowA_get hj
      have hc1 : wr.cell? ⟨b1, j, none⟩ = some (.bool (a j)) := by
        rw [Lib.cell_of_heap HB.out, rowA_get hj]; simp [upto]
      have hf1 : wr.frozen? ⟨b1, j, none⟩ = false := Lib.frozen_of_heap HB.out j
      have hgs := grew_succ a b j
      have HG := Aside0.mk hgs
      clear hgs hj2
      cases hbj : b j
      · rw [hbj] at hc2 HG
        rw [Bool.false_and, Bool.or_false] at HG
        go_wp2
        go_roundg (gk - 1)
        case measure => have := HJ.out; omega
        case rel => exact ⟨j + 1, by rw [HG.out], by go_num, ⟨by omega, by have := HJ.out; omega⟩, ⟨by rw [HB.out, rowA_congr (fun x hx => by
          simp only [upto]
          by_cases hxj : x = j
          · subst hxj; simp [hbj]
          · rw [show decide (x < j + 1) = decide (x < j) from by by_cases h : x < j <;> simp [h] <;> omega] : ∀ x, x < N → upto a b j x = upto a b (j + 1) x)]⟩, HO⟩
      · rw [hbj] at hc2 HG
        rw [Bool.true_and] at HG
        cases haj : a j
        · rw [haj] at hc1 HG
          rw [Bool.not_false, Bool.or_true] at HG
          have HB2 : Aside0 ((wr.setCell ⟨b1, j, none⟩ (.bool true)).heap[b1]? = some (.cells (rowA N (upto a b (j + 1))) 4 (0, 0))) := ⟨blk_row HB.out (fun x hx => by
            simp only [upto]
            by_cases hxj : x = j
            · subst hxj; simp [hbj]
            · rw [if_neg hxj, show decide (x < j + 1) = decide (x < j) from by by_cases h : x < j <;> simp [h] <;> omega])⟩
          go_wp2
          go_roundg (gk - 1)
          case measure => have := HJ.out; omega
          case rel => exact ⟨j + 1, by rw [HG.out], by go_num, ⟨by omega, by have := HJ.out; omega⟩, HB2, ⟨HO.out.setCell _ _⟩⟩
        · rw [haj] at hc1 HG
          rw [Bool.not_true, Bool.or_false] at HG
          go_wp2
          go_roundg (gk - 1)
          case measure => have := HJ.out; omega
          case rel => exact ⟨j + 1, by rw [HG.out], by go_num, ⟨by omega, by have := HJ.out; omega⟩, ⟨by rw [HB.out, rowA_congr (fun x hx => by
            simp only [upto]
            by_cases hxj : x = j
            · subst hxj; simp [haj]
            · rw [show decide (x < j + 1) = decide (x < j) from by by_cases h : x < j <;> simp [h] <;> omega] : ∀ x, x < N → upto a b j x = upto a b (j + 1) x)]⟩, HO⟩
    · obtain rfl : j = N := by omega
      clear hj hj2
      go_wp2
      go_ret
      exact ⟨rfl, by rw [HB.out, rowA_congr (fun x hx => by simp [upto, hx] : ∀ x, x < j → upto a b j x = (a x || b x))], HO.out⟩

set_option maxHeartbeats 2000000 in
set_option maxRecDepth 100000 in
/-- One row to itself. -/
theorem add_self (N b1 : Nat) (a : Nat → Bool) (w : World) (hN : N ≤ 100000) (h1 : w.heap[b1]? = some (.cells (rowA N a) 4 (0, 0))) :
    Calls Try.prog 44 #[.slice (some ⟨b1, 0, none⟩) N N, .slice (some ⟨b1, 0, none⟩) N N] w fun e w' => e = .returned (.bool false) ∧ w' = w := by
  have H1 := Aside0.mk h1
  clear h1
  go_enter Try.func44, Try.ntmps44
  go_wp2_with fail
  go_loopg [5, 10] N (fun kq v5 v10 w' => ∃ j : Nat, v5 = .bool false ∧ v10 = .int .i64 j ∧ Aside0 (j ≤ N ∧ kq = N - j) ∧ w' = w)
  case atStart => exact ⟨0, rfl, rfl, ⟨by omega, by omega⟩, rfl⟩
  case round =>
    obtain ⟨j, rfl, rfl, HJ, rfl⟩ := hrel
    obtain ⟨hj1, hj2⟩ := HJ.out
    by_cases hj : j < N
    · have hc1 : wr.cell? ⟨b1, j, none⟩ = some (.bool (a j)) := by
        rw [Lib.cell_of_heap H1.out, rowA_get hj]
      clear hj2
      cases haj : a j
      all_goals
        rw [haj] at hc1
        go_wp2
        go_roundg (gk - 1)
        case measure => have := HJ.out; omega
        case rel => exact ⟨j + 1, rfl, by go_num, ⟨by omega, by have := HJ.out; omega⟩, rfl⟩
    · obtain rfl : j = N := by omega
      clear hj hj2
      go_wp2
      go_ret
      exact ⟨rfl, rfl⟩
theorem grew_self (a : Nat → Bool) (N : Nat) : grew a a N = false := by
  unfold grew
  rw [List.any_eq_false]
  intro x _
  cases a x <;> simp
theorem add_any (N b1 b2 : Nat) (a b : Nat → Bool) (w : World) (hN : N ≤ 100000) (hab : b1 = b2 → a = b) (h1 : w.heap[b1]? = some (.cells (rowA N a) 4 (0, 0))) (h2 : w.heap[b2]? = some (.cells (rowA N b) 4 (0, 0))) :
    Calls Try.prog 44 #[.slice (some ⟨b1, 0, none⟩) N N, .slice (some ⟨b2, 0, none⟩) N N] w (AddPost N b1 a b w) := by
  by_cases hne : b1 = b2
  · subst hne
    obtain rfl := hab rfl
    refine (add_self N b1 a w hN h1).mono ?_
    rintro e w' ⟨rfl, rfl⟩
    exact ⟨by rw [grew_self], by rw [h1, rowA_congr (fun x _ => by simp : ∀ x, x < N → a x = (a x || a x))], One.refl _ _⟩
  · exact add_two N b1 b2 a b w hN hne h1 h2
end Go.Proofs.Ytiljegeodokfmaa.Fx
