/- fix: FixParts' plain law. -/
import Derived.Test.YtiljegeodokfmaaGrO
import Derived.Test.YtiljegeodokfmaaFixOrd
namespace Go.Proofs.Ytiljegeodokfmaa.Fx
open Go Go.RowKit Go.Proofs.YtiljegeodokfmaaW.PrintWords Go.Proofs.YtiljegeodokfmaaW.PrintLast Go.Proofs.YtiljegeodokfmaaW.PrintMore Go.Proofs.Ytiljegeodokfmaa.PA
set_option linter.unusedVariables false
set_option linter.unusedSimpArgs false

def nodesF (i : Nat) : List Int := (List.range i).flatMap fun j : Nat => [(j : Int), 100 + (j : Int)]
def leftF (i : Nat) : List Int := (List.range i).map fun j : Nat => (j : Int)
def rightF (i : Nat) : List Int := (List.range i).map fun j : Nat => 100 + (j : Int)
theorem nodesF_succ (i : Nat) : nodesF i ++ [(i : Int), 100 + (i : Int)] = nodesF (i + 1) := by unfold nodesF; rw [List.range_succ, List.flatMap_append]; rfl
theorem leftF_succ (i : Nat) : leftF i ++ [(i : Int)] = leftF (i + 1) := by unfold leftF; rw [List.range_succ, List.map_append]; rfl
theorem rightF_succ (i : Nat) : rightF i ++ [100 + (i : Int)] = rightF (i + 1) := by unfold rightF; rw [List.range_succ, List.map_append]; rfl
theorem nodesF_len (i : Nat) : (nodesF i).length = 2 * i := by
  induction i with
  | zero => rfl
  | succ i ih => rw [← nodesF_succ, List.length_append, ih]; simp; omega
theorem leftF_len (i : Nat) : (leftF i).length = i := by simp [leftF]
theorem rightF_len (i : Nat) : (rightF i).length = i := by simp [rightF]
def m7 (x : Int) : Nat := ((BitVec.ofInt 64 x) &&& 7#64).toNat
theorem m7_le (x : Int) : m7 x ≤ 7 := by unfold m7; rw [BitVec.toNat_and]; exact Nat.and_le_right
theorem bits7 (x : Int) : bits .and .i64 x 7 = (m7 x : Int) := by
  have h := m7_le x
  show IntKind.i64.wrap (m7 x : Int) = (m7 x : Int)
  generalize m7 x = n at h
  have : ∀ n : Nat, n ≤ 7 → IntKind.i64.wrap (n : Int) = (n : Int) := by decide
  exact this n h
/-- What leads where, behind some edges. -/
def tqE (ns : List Int) (off : Int) (t0 : Nat → List Nat) (l : List S30) : Nat → List Nat := l.foldl (fun t e => leadG ns t (off + m7 e.f0) [off + m7 e.f1]) t0
theorem tqE_snoc (ns : List Int) (off : Int) (t0 : Nat → List Nat) (l : List S30) (e : S30) : tqE ns off t0 (l ++ [e]) = leadG ns (tqE ns off t0 l) (off + m7 e.f0) [off + m7 e.f1] := by unfold tqE; rw [List.foldl_append]; rfl
theorem tqE_len (ns : List Int) (off : Int) (t0 : Nat → List Nat) (b : Nat) (h0 : ∀ i, (t0 i).length ≤ b) (l : List S30) : ∀ i, (tqE ns off t0 l i).length ≤ b + l.length := by
  refine snocRec (P := fun l => ∀ i, (tqE ns off t0 l i).length ≤ b + l.length) (fun i => by simpa [tqE] using h0 i) (fun l e ih i => ?_) l
  rw [tqE_snoc]
  have := leadG_len (x := off + m7 e.f0) (l := [off + (m7 e.f1 : Int)]) (ns := ns) ih i
  simp at this ⊢
  omega
theorem rd30_take {l : List S30} {i : Nat} (h : i < l.length) : l.take (i + 1) = l.take i ++ [rd_T30 l (i : Int)] := by
  rw [List.take_add_one]; unfold rd_T30; rw [Int.toNat_natCast, List.getD_eq_getElem?_getD, List.getElem?_eq_getElem h]; rfl
theorem small_wf {n : Nat} (h : n ≤ 7) : (Lit.int .i64 (n : Int)).wf = true ∧ (Lit.int .i64 (100 + (n : Int))).wf = true := by
  have : ∀ n : Nat, n ≤ 7 → (Lit.int .i64 (n : Int)).wf = true ∧ (Lit.int .i64 (100 + (n : Int))).wf = true := by decide
  exact this n h
def tgP (l0 l1 : List S30) : Nat → List Nat := tqE (nodesF 6) 100 (tqE (nodesF 6) 0 (fun _ => []) l0) l1
def thP (l0 : List S30) : Nat → List Nat := tqE (leftF 6) 0 (fun _ => []) l0
def tkP (l1 : List S30) : Nat → List Nat := tqE (rightF 6) 100 (fun _ => []) l1

theorem mem_tqE {ns : List Int} {off : Int} {t0 : Nat → List Nat} {l : List S30} {i n : Nat} : n ∈ tqE ns off t0 l i ↔ n ∈ t0 i ∨ ∃ e, e ∈ l ∧ (off + m7 e.f0) ∈ ns ∧ i = ns.idxOf (off + (m7 e.f0 : Int)) ∧ (off + m7 e.f1) ∈ ns ∧ n = ns.idxOf (off + (m7 e.f1 : Int)) := by
  refine snocRec (P := fun l => n ∈ tqE ns off t0 l i ↔ n ∈ t0 i ∨ ∃ e, e ∈ l ∧ (off + m7 e.f0) ∈ ns ∧ i = ns.idxOf (off + (m7 e.f0 : Int)) ∧ (off + m7 e.f1) ∈ ns ∧ n = ns.idxOf (off + (m7 e.f1 : Int))) (by simp [tqE]) (fun l e ih => ?_) l
  rw [tqE_snoc, mem_leadG, ih]
  constructor
  · rintro ((h | ⟨e', h, h2⟩) | ⟨h1, h2, y, hy, h3, h4⟩)
    · exact .inl h
    · exact .inr ⟨e', by simp [h], h2⟩
    · obtain rfl := List.mem_singleton.1 hy
      exact .inr ⟨e, by simp, h1, h2, h3, h4⟩
  · rintro (h | ⟨e', h, h1, h2, h3, h4⟩)
    · exact .inl (.inl h)
    · rcases List.mem_append.1 h with h | h
      · exact .inl (.inr ⟨e', h, h1, h2, h3, h4⟩)
      · obtain rfl := List.mem_singleton.1 h
        exact .inr ⟨h1, h2, _, by simp, h3, h4⟩
def EA (l : List S30) (i n : Nat) : Prop := ∃ e, e ∈ l ∧ m7 e.f0 < 6 ∧ i = m7 e.f0 ∧ m7 e.f1 < 6 ∧ n = m7 e.f1
theorem inL : ∀ p : Nat, p ≤ 7 → (((0 + (p : Int)) ∈ leftF 6 ↔ p < 6) ∧ (p < 6 → (leftF 6).idxOf (0 + (p : Int)) = p)) := by decide
theorem inR : ∀ p : Nat, p ≤ 7 → (((100 + (p : Int)) ∈ rightF 6 ↔ p < 6) ∧ (p < 6 → (rightF 6).idxOf (100 + (p : Int)) = p)) := by decide
theorem inN0 : ∀ p : Nat, p ≤ 7 → (((0 + (p : Int)) ∈ nodesF 6 ↔ p < 6) ∧ (p < 6 → (nodesF 6).idxOf (0 + (p : Int)) = 2 * p)) := by decide
theorem inN1 : ∀ p : Nat, p ≤ 7 → (((100 + (p : Int)) ∈ nodesF 6 ↔ p < 6) ∧ (p < 6 → (nodesF 6).idxOf (100 + (p : Int)) = 2 * p + 1)) := by decide
/-- One list of edges over one numbering of places. -/
theorem mem_tqE' {ns : List Int} {off : Int} {t0 : Nat → List Nat} {l : List S30} {f : Nat → Nat} (hf : ∀ p : Nat, p ≤ 7 → (((off + (p : Int)) ∈ ns ↔ p < 6) ∧ (p < 6 → ns.idxOf (off + (p : Int)) = f p))) {i n : Nat} :
    n ∈ tqE ns off t0 l i ↔ n ∈ t0 i ∨ ∃ a b, EA l a b ∧ i = f a ∧ n = f b := by
  rw [mem_tqE]
  constructor
  · rintro (h | ⟨e, he, h1, h2, h3, h4⟩)
    · exact .inl h
    · have q0 := hf _ (m7_le e.f0)
      have q1 := hf _ (m7_le e.f1)
      have p0 := q0.1.1 h1
      have p1 := q1.1.1 h3
      exact .inr ⟨_, _, ⟨e, he, p0, rfl, p1, rfl⟩, by rw [h2, q0.2 p0], by rw [h4, q1.2 p1]⟩
  · rintro (h | ⟨a, b, ⟨e, he, p0, rfl, p1, rfl⟩, h2, h4⟩)
    · exact .inl h
    · have q0 := hf _ (m7_le e.f0)
      have q1 := hf _ (m7_le e.f1)
      exact .inr ⟨e, he, q0.1.2 p0, by rw [h2, q0.2 p0], q1.1.2 p1, by rw [h4, q1.2 p1]⟩
theorem EA.lt {l : List S30} {i n : Nat} (h : EA l i n) : i < 6 ∧ n < 6 := by obtain ⟨e, _, h1, rfl, h2, rfl⟩ := h; exact ⟨h1, h2⟩
theorem mem_th {l : List S30} {i n : Nat} : n ∈ thP l i ↔ EA l i n := by
  unfold thP
  rw [mem_tqE' (f := fun p => p) inL]
  constructor
  · rintro (h | ⟨a, b, h, rfl, rfl⟩)
    · cases h
    · exact h
  · exact fun h => .inr ⟨i, n, h, rfl, rfl⟩
theorem mem_tk {l : List S30} {i n : Nat} : n ∈ tkP l i ↔ EA l i n := by
  unfold tkP
  rw [mem_tqE' (f := fun p => p) inR]
  constructor
  · rintro (h | ⟨a, b, h, rfl, rfl⟩)
    · cases h
    · exact h
  · exact fun h => .inr ⟨i, n, h, rfl, rfl⟩
theorem mem_tg {l0 l1 : List S30} {i n : Nat} : n ∈ tgP l0 l1 i ↔ (∃ a b, EA l0 a b ∧ i = 2 * a ∧ n = 2 * b) ∨ (∃ a b, EA l1 a b ∧ i = 2 * a + 1 ∧ n = 2 * b + 1) := by
  unfold tgP
  rw [mem_tqE' (f := fun p => 2 * p + 1) inN1, mem_tqE' (f := fun p => 2 * p) inN0]
  constructor
  · rintro ((h | h) | h)
    · cases h
    · exact .inl h
    · exact .inr h
  · rintro (h | h)
    · exact .inl (.inr h)
    · exact .inr h
theorem PR_even {l0 l1 : List S30} {b : Nat} : ∀ (r a : Nat), (PR (tgP l0 l1) (2 * b) r (2 * a) = true ↔ PR (thP l0) b r a = true) ∧ PR (tgP l0 l1) (2 * b + 1) r (2 * a) ≠ true
  | 0, a => by simp [PR]
  | r + 1, a => by
    refine ⟨?_, ?_⟩
    · rw [PR_succ, PR_succ]
      constructor
      · rintro ⟨n, hn, h⟩
        rcases mem_tg.1 hn with ⟨a', b', he, h1, rfl⟩ | ⟨a', b', he, h1, rfl⟩
        · obtain rfl : a = a' := by omega
          refine ⟨b', mem_th.2 he, h.imp (fun h => by omega) (fun h => (PR_even r b').1.1 h)⟩
        · omega
      · rintro ⟨n, hn, h⟩
        exact ⟨2 * n, mem_tg.2 (.inl ⟨a, n, mem_th.1 hn, rfl, rfl⟩), h.imp (fun h => by omega) (fun h => (PR_even r n).1.2 h)⟩
    · rw [Ne, PR_succ]
      rintro ⟨n, hn, h⟩
      rcases mem_tg.1 hn with ⟨a', b', he, h1, rfl⟩ | ⟨a', b', he, h1, rfl⟩
      · rcases h with h | h
        · omega
        · exact (PR_even r b').2 h
      · omega
theorem PR_odd {l0 l1 : List S30} {b : Nat} : ∀ (r a : Nat), (PR (tgP l0 l1) (2 * b + 1) r (2 * a + 1) = true ↔ PR (tkP l1) b r a = true) ∧ PR (tgP l0 l1) (2 * b) r (2 * a + 1) ≠ true
  | 0, a => by simp [PR]
  | r + 1, a => by
    refine ⟨?_, ?_⟩
    · rw [PR_succ, PR_succ]
      constructor
      · rintro ⟨n, hn, h⟩
        rcases mem_tg.1 hn with ⟨a', b', he, h1, rfl⟩ | ⟨a', b', he, h1, rfl⟩
        · omega
        · obtain rfl : a = a' := by omega
          refine ⟨b', mem_tk.2 he, h.imp (fun h => by omega) (fun h => (PR_odd r b').1.1 h)⟩
      · rintro ⟨n, hn, h⟩
        exact ⟨2 * n + 1, mem_tg.2 (.inr ⟨a, n, mem_tk.1 hn, rfl, rfl⟩), h.imp (fun h => by omega) (fun h => (PR_odd r n).1.2 h)⟩
    · rw [Ne, PR_succ]
      rintro ⟨n, hn, h⟩
      rcases mem_tg.1 hn with ⟨a', b', he, h1, rfl⟩ | ⟨a', b', he, h1, rfl⟩
      · omega
      · rcases h with h | h
        · omega
        · exact (PR_odd r b').2 h
theorem bool_iff {a b : Bool} (h : a = true ↔ b = true) : a = b := by cases a <;> cases b <;> simp_all
theorem RB_even (l0 l1 : List S30) {a : Nat} (ha : a < 6) (b : Nat) : RB 12 (tgP l0 l1) (2 * a) (2 * b) = RB 6 (thP l0) a b ∧ RB 12 (tgP l0 l1) (2 * a) (2 * b + 1) = false := by
  refine ⟨bool_iff ⟨fun h => RB_of_PR (fun i n h => (mem_th.1 h).lt.2) 12 a ha ((PR_even 12 a).1.1 h), fun h => (PR_even 12 a).1.2 (PR_le (by omega) h)⟩, ?_⟩
  cases h : RB 12 (tgP l0 l1) (2 * a) (2 * b + 1)
  · rfl
  · exact ((PR_even 12 a).2 h).elim
theorem RB_odd (l0 l1 : List S30) {a : Nat} (ha : a < 6) (b : Nat) : RB 12 (tgP l0 l1) (2 * a + 1) (2 * b + 1) = RB 6 (tkP l1) a b ∧ RB 12 (tgP l0 l1) (2 * a + 1) (2 * b) = false := by
  refine ⟨bool_iff ⟨fun h => RB_of_PR (fun i n h => (mem_tk.1 h).lt.2) 12 a ha ((PR_odd 12 a).1.1 h), fun h => (PR_odd 12 a).1.2 (PR_le (by omega) h)⟩, ?_⟩
  cases h : RB 12 (tgP l0 l1) (2 * a + 1) (2 * b)
  · rfl
  · exact ((PR_odd 12 a).2 h).elim
theorem pick_even (p q : Nat → Bool) (h : ∀ b, p (2 * b) = q b) (h' : ∀ b, p (2 * b + 1) = false) : ((List.range 12).filter p).map (fun n => (nodesF 6).getD n 0) = ((List.range 6).filter q).map (fun n => (leftF 6).getD n 0) := by
  show ([0, 1, 2, 3, 4, 5, 6, 7, 8, 9, 10, 11].filter p).map _ = ([0, 1, 2, 3, 4, 5].filter q).map _
  have a0 := h 0; have a1 := h 1; have a2 := h 2; have a3 := h 3; have a4 := h 4; have a5 := h 5
  have b0 := h' 0; have b1 := h' 1; have b2 := h' 2; have b3 := h' 3; have b4 := h' 4; have b5 := h' 5
  simp only [Nat.reduceMul, Nat.reduceAdd] at a0 a1 a2 a3 a4 a5 b0 b1 b2 b3 b4 b5
  simp only [List.filter_cons, List.filter_nil, a0, a1, a2, a3, a4, a5, b0, b1, b2, b3, b4, b5]
  clear a0 a1 a2 a3 a4 a5 b0 b1 b2 b3 b4 b5 h h'
  generalize q 0 = c0; generalize q 1 = c1; generalize q 2 = c2; generalize q 3 = c3; generalize q 4 = c4; generalize q 5 = c5
  revert c0 c1 c2 c3 c4 c5
  decide
theorem pick_odd (p q : Nat → Bool) (h : ∀ b, p (2 * b + 1) = q b) (h' : ∀ b, p (2 * b) = false) : ((List.range 12).filter p).map (fun n => (nodesF 6).getD n 0) = ((List.range 6).filter q).map (fun n => (rightF 6).getD n 0) := by
  show ([0, 1, 2, 3, 4, 5, 6, 7, 8, 9, 10, 11].filter p).map _ = ([0, 1, 2, 3, 4, 5].filter q).map _
  have a0 := h 0; have a1 := h 1; have a2 := h 2; have a3 := h 3; have a4 := h 4; have a5 := h 5
  have b0 := h' 0; have b1 := h' 1; have b2 := h' 2; have b3 := h' 3; have b4 := h' 4; have b5 := h' 5
  simp only [Nat.reduceMul, Nat.reduceAdd] at a0 a1 a2 a3 a4 a5 b0 b1 b2 b3 b4 b5
  simp only [List.filter_cons, List.filter_nil, a0, a1, a2, a3, a4, a5, b0, b1, b2, b3, b4, b5]
  clear a0 a1 a2 a3 a4 a5 b0 b1 b2 b3 b4 b5 h h'
  generalize q 0 = c0; generalize q 1 = c1; generalize q 2 = c2; generalize q 3 = c3; generalize q 4 = c4; generalize q 5 = c5
  revert c0 c1 c2 c3 c4 c5
  decide
theorem parts1 (l0 l1 : List S30) (i : Nat) (hi : i < 6) : setR (nodesF 6) (tgP l0 l1) (i : Int) = setR (leftF 6) (thP l0) (i : Int) := by
  have h0 := inN0 i (by omega)
  have h1 := inL i (by omega)
  rw [Int.zero_add] at h0 h1
  unfold setR
  rw [if_pos (h0.1.2 hi), if_pos (h1.1.2 hi), h0.2 hi, h1.2 hi]
  exact pick_even _ _ (fun b => (RB_even l0 l1 hi b).1) (fun b => (RB_even l0 l1 hi b).2)
theorem parts2 (l0 l1 : List S30) (i : Nat) (hi : i < 6) : setR (nodesF 6) (tgP l0 l1) (100 + (i : Int)) = setR (rightF 6) (tkP l1) (100 + (i : Int)) := by
  have h0 := inN1 i (by omega)
  have h1 := inR i (by omega)
  unfold setR
  rw [if_pos (h0.1.2 hi), if_pos (h1.1.2 hi), h0.2 hi, h1.2 hi]
  exact pick_odd _ _ (fun b => (RB_odd l0 l1 hi b).1) (fun b => (RB_odd l0 l1 hi b).2)
theorem setR_mem {ns : List Int} {tq : Nat → List Nat} {x y : Int} (h : y ∈ setR ns tq x) : y ∈ ns := by
  unfold setR at h
  split at h
  · obtain ⟨n, hn, rfl⟩ := List.mem_map.1 h
    have := List.mem_range.1 (List.mem_filter.1 hn).1
    rw [List.getD_eq_getElem?_getD, List.getElem?_eq_getElem this]; exact List.getElem_mem _
  · cases h
theorem parts3 (l0 l1 : List S30) (i : Nat) (hi : i < 6) : sameR (nodesF 6) (tgP l0 l1) (i : Int) (100 + (i : Int)) = false := by
  have : ¬ (i : Int) ∈ setR (nodesF 6) (tgP l0 l1) (100 + (i : Int)) := fun h => by
    rw [parts2 l0 l1 i hi] at h
    have := setR_mem h
    unfold rightF at this
    obtain ⟨n, hn, e⟩ := List.mem_map.1 this
    omega
  unfold sameR
  rw [decide_eq_false this]; rfl
theorem filt_nodes (p : Int → Bool) : ∀ n, ((nodesF n).filter p).length = ((leftF n).filter p).length + ((rightF n).filter p).length
  | 0 => rfl
  | n + 1 => by
    rw [← nodesF_succ, ← leftF_succ, ← rightF_succ, List.filter_append, List.filter_append, List.filter_append, List.length_append, List.length_append, List.length_append, filt_nodes p n]
    have : ([(n : Int), 100 + (n : Int)].filter p).length = ([(n : Int)].filter p).length + ([100 + (n : Int)].filter p).length := by
      simp only [List.filter_cons, List.filter_nil]
      cases p n <;> cases p (100 + (n : Int)) <;> rfl
    omega
theorem parts4 (l0 l1 : List S30) : (circsR (nodesF 6) (tgP l0 l1)).length = (circsR (leftF 6) (thP l0)).length + (circsR (rightF 6) (tkP l1)).length := by
  unfold circsR
  rw [filt_nodes]
  congr 1
  · refine congrArg List.length (List.filter_congr (fun x hx => ?_))
    unfold leftF at hx
    obtain ⟨n, hn, rfl⟩ := List.mem_map.1 hx
    unfold circR
    rw [parts1 l0 l1 n (List.mem_range.1 hn)]
  · refine congrArg List.length (List.filter_congr (fun x hx => ?_))
    unfold rightF at hx
    obtain ⟨n, hn, rfl⟩ := List.mem_map.1 hx
    unfold circR
    rw [parts2 l0 l1 n (List.mem_range.1 hn)]
end Go.Proofs.Ytiljegeodokfmaa.Fx
