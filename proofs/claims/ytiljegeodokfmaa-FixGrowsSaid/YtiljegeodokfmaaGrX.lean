/- fix: what the reference's small functions say. -/
import Derived.Test.YtiljegeodokfmaaGrW
import Derived.Test.YtiljegeodokfmaaEv
import Derived.Test.YtiljegeodokfmaaPAx1
namespace Go.Proofs.Ytiljegeodokfmaa.Fx
open Go Go.RowKit Go.Proofs.YtiljegeodokfmaaW.PrintWords Go.Proofs.Ytiljegeodokfmaa.PA
set_option linter.unusedVariables false
set_option linter.unusedSimpArgs false

theorem wr1 {n : Nat} (h : n ≤ 1000000) : wrap64 ((n : Int) + 1) = ((n + 1 : Nat) : Int) := by unfold wrap64; omega
theorem rd_nat (l : List Int) (i : Nat) : rd l (i : Int) = l.getD i 0 := by simp [rd]
theorem same_law (l : List Int) : ∀ (d j : Nat), j + d = l.length → l.length ≤ 1000000 → cupelref03_Same.l0 (d + 1) l l (j : Int) = some true
  | 0, j, h, hl => by
    unfold cupelref03_Same.l0
    rw [if_neg (by omega)]
  | d + 1, j, h, hl => by
    unfold cupelref03_Same.l0
    rw [if_pos (by omega), if_pos (by omega), if_pos (by omega), if_pos rfl, wr1 (by omega)]
    exact same_law l d (j + 1) (by omega) hl
theorem same_f (l : List Int) (hl : l.length ≤ 1000000) : cupelref03_Same.f (l.length + 1) l l = some true := by
  unfold cupelref03_Same.f
  rw [if_pos rfl]
  exact same_law l l.length 0 (by omega) hl
theorem once_in (x0 acc : List Int) (i : Nat) (hi : i < x0.length) (hl : x0.length ≤ 1000000) (ha : acc.length ≤ 1000000) (r : List Int) (k0 : Nat) (h0 : cupelref12_Once.l0 k0 x0 (if x0.getD i 0 ∈ acc then acc else acc ++ [x0.getD i 0]) ((i + 1 : Nat) : Int) = some r) :
    ∀ (d j : Nat) (b : Bool), j + d = acc.length → b = decide (x0.getD i 0 ∈ acc.take j) → cupelref12_Once.l1 (k0 + d + 1) x0 acc (i : Int) b (j : Int) = some r
  | 0, j, b, h, hb => by
    have hj : acc.take j = acc := List.take_of_length_le (by omega)
    rw [hj] at hb
    show cupelref12_Once.l1 (k0 + 1) x0 acc (i : Int) b (j : Int) = some r
    unfold cupelref12_Once.l1
    rw [if_neg (by omega)]
    by_cases hm : x0.getD i 0 ∈ acc
    · rw [if_pos (by rw [hb]; simpa using hm), wr1 (by omega)]
      rw [if_pos hm] at h0
      exact h0
    · rw [if_neg (by rw [hb]; simpa using hm), if_pos (by omega), if_pos (by omega), if_pos (by omega), wr1 (by omega), rd_nat]
      rw [if_neg hm] at h0
      exact h0
  | d + 1, j, b, h, hb => by
    have hjl : j < acc.length := by omega
    have htk : acc.take (j + 1) = acc.take j ++ [acc.getD j 0] := take_succ_getD hjl
    show cupelref12_Once.l1 ((k0 + d + 1) + 1) x0 acc (i : Int) b (j : Int) = some r
    unfold cupelref12_Once.l1
    rw [if_pos (by omega)]
    cases hbb : b
    · rw [if_neg (by simp), if_pos (by omega), if_pos (by omega), if_pos (by omega), wr1 (by omega), rd_nat, rd_nat]
      refine once_in x0 acc i hi hl ha r k0 h0 d (j + 1) _ (by omega) ?_
      rw [htk]
      have : ¬ x0.getD i 0 ∈ acc.take j := by rw [hbb] at hb; simpa using hb.symm
      have e : decide (x0.getD i 0 ∈ acc.take j ++ [acc.getD j 0]) = decide (x0.getD i 0 = acc.getD j 0) := by simp only [List.mem_append, this, false_or, List.mem_singleton]
      rw [e]
      by_cases hxy : acc.getD j 0 = x0.getD i 0
      · rw [hxy]; simp
      · rw [decide_eq_false (Ne.symm hxy)]; simpa using hxy
    · rw [if_pos rfl, wr1 (by omega)]
      refine once_in x0 acc i hi hl ha r k0 h0 d (j + 1) true (by omega) ?_
      rw [htk]
      have : x0.getD i 0 ∈ acc.take j := by rw [hbb] at hb; simpa using hb.symm
      simp only [List.mem_append, this, true_or, decide_true]
theorem once_law (x0 : List Int) (hl : x0.length ≤ 1000) : ∀ (d i : Nat), i + d = x0.length → ∃ k, cupelref12_Once.l0 k x0 (onceF (x0.take i)) (i : Int) = some (onceF x0)
  | 0, i, h => by
    refine ⟨1, ?_⟩
    unfold cupelref12_Once.l0
    rw [if_neg (by omega), List.take_of_length_le (by omega)]
  | d + 1, i, h => by
    obtain ⟨k0, h0⟩ := once_law x0 hl d (i + 1) (by omega)
    rw [take_succ_getD (by omega), onceF_snoc] at h0
    have hac : (onceF (x0.take i)).length ≤ 1000000 := by have := onceF_len (x0.take i); rw [List.length_take] at this; omega
    have := once_in x0 (onceF (x0.take i)) i (by omega) (by omega) hac _ k0 h0 (onceF (x0.take i)).length 0 false (by omega) (by simp)
    refine ⟨k0 + (onceF (x0.take i)).length + 1 + 1, ?_⟩
    unfold cupelref12_Once.l0
    rw [if_pos (by omega)]
    exact this
theorem once_f (x0 : List Int) (hl : x0.length ≤ 1000) : ∃ k, cupelref12_Once.f k x0 = some (onceF x0) := by
  obtain ⟨k, h⟩ := once_law x0 hl x0.length 0 (by omega)
  exact ⟨k, h⟩

theorem reads_of_C {w : World} {A : Option Addr} {n : Nat} {xs : List Int} (h : Kd.C (Kd.int .i64) w A n xs) : ReadsInt w .i64 A n xs := by
  obtain ⟨h1, h2, h3⟩ := h
  refine ⟨h1, h2, fun hn => ?_⟩
  obtain ⟨ad, e, _⟩ := Kd.at_int ⟨h1, h2, h3⟩ 0 (by omega) (by omega)
  refine ⟨ad, e, fun j hj => ?_⟩
  obtain ⟨ad2, e2, hc⟩ := Kd.at_int ⟨h1, h2, h3⟩ (j : Int) (by omega) (by omega)
  rw [e] at e2
  injection e2 with e2
  subst e2
  simpa [rd] using hc
theorem C_of_reads_ {w : World} {A : Option Addr} {n : Nat} {xs : List Int} (h : ReadsInt w .i64 A n xs) : Kd.C (Kd.int .i64) w A n xs := by
  refine ⟨h.1, h.2.1, fun hn => ?_⟩
  obtain ⟨ad, e, hc⟩ := h.2.2 (by have := h.1; omega)
  refine ⟨ad, e, fun j p hp => ?_⟩
  obtain ⟨hj, rfl⟩ := List.getElem?_eq_some_iff.1 hp
  refine ⟨[.int .i64 xs[j]], rfl, rfl, fun i u hu => ?_⟩
  obtain ⟨hi, rfl⟩ := List.getElem?_eq_some_iff.1 hu
  simp at hi
  subst hi
  have := hc j (by have := h.1; omega)
  rw [List.getD_eq_getElem?_getD, List.getElem?_eq_getElem hj] at this
  simpa [Kd.int, Kd.scalar] using this
/-- A list of the caller's own, in a value. -/
def Lst (w : World) (base : Nat) (v : Value) (l : List Int) : Prop :=
  ∃ A c, v = .slice A l.length c ∧ l.length ≤ c ∧ ∃ K : Nat → Prop, (∀ k, K k → base ≤ k ∧ k < w.heap.size ∧ v.ownBlock = some k) ∧ ∀ W : World, (∀ k, K k → W.heap[k]? = w.heap[k]?) → ReadsInt W .i64 A l.length l
theorem Lst.of_own {w : World} {base : Nat} {v : Value} {l : List Int} (hb : base ≤ w.heap.size) (h : w.ownsRow base 3 1 v l.length (nums .i64 l)) (hl : l.length ≤ 1000) : Lst w base v l := by
  obtain ⟨A, c, rfl, hr⟩ := own_reads h
  refine ⟨A, c, rfl, ?_, fun k => (Value.slice A l.length c).ownBlock = some k, fun k hk => ⟨(h.lt k hk).1, (h.lt k hk).2, hk⟩, fun W hW => ?_⟩
  · rcases h.2 with ⟨e, h0⟩ | ⟨g, cap, cur, e, _, _, h1, _⟩
    · omega
    · injection e with _ _ e3; omega
  · obtain ⟨A', c', e, hr'⟩ := own_reads (own_heap h (w' := W) (fun k e => hW k e))
    injection e with e1
    subst e1; exact hr'
theorem Lst.of_R {w : World} {base : Nat} {v : Value} {l : List Int} {ok : Nat → Prop} (h : Kd.R (Kd.int .i64) 3 w base ok v l) : Lst w base v l := by
  obtain ⟨A, c, rfl, hc, hr⟩ := Kd.R_reads h
  by_cases hl : 0 < l.length
  · obtain ⟨g, cap, e, hb, hg, _⟩ := Kd.R_form h hl
    injection e with e1 e2 e3
    subst e1 e3
    have hri := reads_of_C hr
    refine ⟨_, _, rfl, by omega, fun k => k = g, fun k hk => ⟨by omega, by omega, by rw [hk]; simp [Value.ownBlock]⟩, fun W hW => ⟨hri.1, hri.2.1, fun hn => ?_⟩⟩
    obtain ⟨ad, e, hcell⟩ := hri.2.2 hn
    refine ⟨ad, e, fun j hj => ?_⟩
    injection e with e
    subst e
    have := hcell j hj
    rw [show (⟨g, 0, none⟩ : Addr).add j = ⟨g, j, none⟩ by simp [Addr.add]; omega] at this ⊢
    exact (World.cell?_of_block (hW g rfl)).trans this
  · have h0 : l.length = 0 := by omega
    exact ⟨A, c, rfl, by omega, fun _ => False, fun k hk => hk.elim, fun W _ => ⟨rfl, by omega, fun h => by omega⟩⟩

theorem onceF_mem {l : List Int} {x : Int} (h : x ∈ onceF l) : x ∈ l := by
  revert h
  refine snocRec (P := fun l => x ∈ onceF l → x ∈ l) (fun h => by simp [onceF] at h) (fun l e ih h => ?_) l
  rw [onceF_snoc] at h
  split at h
  · exact List.mem_append_left _ (ih h)
  · rcases List.mem_append.1 h with h | h
    · exact List.mem_append_left _ (ih h)
    · exact List.mem_append_right _ h
end Go.Proofs.Ytiljegeodokfmaa.Fx
