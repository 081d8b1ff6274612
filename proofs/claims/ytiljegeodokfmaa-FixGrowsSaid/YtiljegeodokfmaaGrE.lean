/- fix, fifth part: Lead. -/
import Derived.Test.YtiljegeodokfmaaGrD
import Derived.Deep.RegionHeld3
import Derived.WalkSpells
namespace Go.Proofs.Ytiljegeodokfmaa.Fx
open Go Go.RowKit Go.Proofs.YtiljegeodokfmaaW.PrintWords Go.Proofs.YtiljegeodokfmaaW.PrintLast Go.Proofs.YtiljegeodokfmaaW.PrintMore
set_option linter.unusedVariables false
set_option linter.unusedSimpArgs false

theorem frz_alloc {w : World} {g o : Nat} (h : g < w.heap.size) (hf : w.frozen? ⟨g, o, none⟩ = false) (x : Obj) : (w.alloc x).frozen? ⟨g, o, none⟩ = false :=
  (World.frozen?_of_block (w := w) (Below.heap_alloc w x g h)).trans hf
theorem cel_alloc {w : World} {g o : Nat} {v : Value} (h : g < w.heap.size) (hf : w.cell? ⟨g, o, none⟩ = some v) (x : Obj) : (w.alloc x).cell? ⟨g, o, none⟩ = some v :=
  (World.cell?_of_block (w := w) (Below.heap_alloc w x g h)).trans hf

/-- Where some keys stand that are there. -/
def idxs (ns : List Int) (l : List Int) : List Nat := (l.filter fun k => decide (k ∈ ns)).map fun k => ns.idxOf k
theorem idxs_snoc (ns l : List Int) (k : Int) : idxs ns (l ++ [k]) = if k ∈ ns then idxs ns l ++ [ns.idxOf k] else idxs ns l := by
  unfold idxs
  rw [List.filter_append]
  by_cases h : k ∈ ns
  · simp [h]
  · simp [h]
def leadF (ns : List Int) (tq : Nat → List Nat) (i : Nat) (l : List Int) : Nat → List Nat := fun x => if x = i then tq i ++ idxs ns l else tq x

/-- The graph while what it leads to is told: as GP, whatever the sets. -/
structure GQ (B : Nat) (S : Nat → Prop) (g : Nat) (vn : Value) (bm bt : Nat) (vs sol : Value) (vts : List Value) (ns : List Int) (tq : Nat → List Nat) (w : World) : Prop where
  hN : ns.length ≤ 1000
  sB : ∀ k, S k → B ≤ k ∧ k < w.heap.size
  hg : w.heap[g]? = some (.cells #[vn, .map (some bm), .slice (some ⟨bt, 0, none⟩) ns.length ns.length, vs, sol] 58 (0, 0))
  sg : S g
  sm : S bm
  st : S bt
  hn : w.ownsRow 0 3 1 vn ns.length (nums .i64 ns)
  sn : ∀ k, vn.ownBlock = some k → S k
  hm : MapIs w bm ns
  hbt : w.heap[bt]? = some (.cells vts.toArray 22 (0, 0))
  vlen : vts.length = ns.length
  rows : ∀ (i : Nat) (u : Value), vts[i]? = some u → w.ownsRow 0 3 1 u (tq i).length (nums .i64 ((tq i).map fun n : Nat => (n : Int))) ∧ ∀ k, u.ownBlock = some k → S k ∧ vn.ownBlock ≠ some k
  apart : ∀ (i j : Nat) (u v : Value), i ≠ j → vts[i]? = some u → vts[j]? = some v → ∀ k, u.ownBlock = some k → v.ownBlock ≠ some k
  small : ∀ i n, n ∈ tq i → n < ns.length
theorem GP.q {B : Nat} {S : Nat → Prop} {g : Nat} {vn : Value} {bm bt : Nat} {vs : Value} {vts : List Value} {ns : List Int} {tq : Nat → List Nat} {sv : Option M} {w : World} (h : GP B S g vn bm bt vs vts ns tq sv w) : GQ B S g vn bm bt vs (.bool sv.isSome) vts ns tq w :=
  have ha : ∀ (i j : Nat) (u v : Value), i ≠ j → vts[i]? = some u → vts[j]? = some v → ∀ k, u.ownBlock = some k → v.ownBlock ≠ some k := by
    intro i j u v hij hu hv k e
    rcases Nat.lt_or_gt_of_ne hij with h1 | h1
    · exact h.apart i j u v h1 hu hv k e
    · exact fun e' => h.apart j i v u h1 hv hu k e' e
  { h with apart := ha }

theorem GQ.mono {B : Nat} {S S2 : Nat → Prop} {g : Nat} {vn : Value} {bm bt : Nat} {vs sol : Value} {vts : List Value} {ns : List Int} {tq : Nat → List Nat} {w : World} (h : GQ B S g vn bm bt vs sol vts ns tq w) (hS : ∀ k, S k → S2 k) (hS2 : ∀ k, S2 k → B ≤ k ∧ k < w.heap.size) : GQ B S2 g vn bm bt vs sol vts ns tq w :=
  { h with sB := hS2, sg := hS g h.sg, sm := hS bm h.sm, st := hS bt h.st, sn := fun k e => hS k (h.sn k e), rows := fun i u hu => ⟨(h.rows i u hu).1, fun k e => ⟨hS k ((h.rows i u hu).2 k e).1, ((h.rows i u hu).2 k e).2⟩⟩ }
theorem leadF_nil (ns : List Int) (tq : Nat → List Nat) (i : Nat) : leadF ns tq i [] = tq := by
  funext x; unfold leadF; split
  · rename_i h; subst h; simp [idxs]
  · rfl
theorem grown_plain {w w1 : World} {o : Obj} {row : Option Nat} (h : (w.drew.alloc o).grownBy w1 row) : (w.alloc o).grownBy w1 row := ⟨h.os, h.tape, h.output, h.size, h.block⟩
/-- A number stands behind a row. -/
theorem GQ.grow {B : Nat} {S : Nat → Prop} {g : Nat} {vn : Value} {bm bt : Nat} {vs sol : Value} {vts : List Value} {ns : List Int} {tq : Nat → List Nat} {w w1 : World} {o : Obj} {i n : Nat} {u v1 : Value} {S2 : Nat → Prop}
    (h : GQ B S g vn bm bt vs sol vts ns tq w) (hB : B ≤ w.heap.size) (hu : vts[i]? = some u) (hn : n < ns.length) (hg : (w.alloc o).grownBy w1 u.ownBlock)
    (ho : w1.ownsRow 0 3 1 v1 ((tq i).length + 1) (nums .i64 ((tq i).map fun n : Nat => (n : Int)) ++ [.int .i64 n])) (hat : ∀ k, v1.ownBlock = some k → (u.ownBlock = some k ∨ w.heap.size ≤ k) ∧ k < w1.heap.size)
    (hS : ∀ k, S k → S2 k) (hS1 : ∀ k, v1.ownBlock = some k → S2 k) (hS2 : ∀ k, S2 k → B ≤ k ∧ k < w1.heap.size) :
    GQ B S2 g vn bm bt vs sol (vts.set i v1) ns (fun x => if x = i then tq i ++ [n] else tq x) (w1.setCell ⟨bt, i, none⟩ v1) ∧ Ch B S w (w1.setCell ⟨bt, i, none⟩ v1) := by
  have hru := (h.rows i u hu).1
  have hsame : ∀ x, x < w.heap.size → u.ownBlock ≠ some x → w1.heap[x]? = w.heap[x]? := fun x hx hne => by
    rw [hg.block x (by simp; omega) (fun e => hne e.symm), Below.heap_alloc _ _ _ hx]
  have hgl := (h.sB g h.sg).2
  have hml := (h.sB bm h.sm).2
  have htl := (h.sB bt h.st).2
  have hug : u.ownBlock ≠ some g := own_ne_of hru h.hg (by decide)
  have hut : u.ownBlock ≠ some bt := own_ne_of hru h.hbt (by decide)
  have hum : u.ownBlock ≠ some bm := fun e => by
    obtain ⟨D, ⟨es, clock, hb, _⟩, _⟩ := h.hm
    rcases hru.2 with ⟨h1, _⟩ | ⟨g', cap, cur, h1, _, h2, _⟩
    · rw [h1] at e; simp [Value.ownBlock] at e
    · rw [h1] at e
      have : g' = bm := by simpa [Value.ownBlock] using e
      rw [this, hb] at h2
      injection h2 with h2
      cases h2
  have hgt : g ≠ bt := fun e => by
    have h1 := h.hbt
    rw [← e, h.hg] at h1
    injection h1 with h1; injection h1 with _ h2; exact absurd h2 (by decide)
  have hmt : bm ≠ bt := fun e => by
    obtain ⟨D, ⟨es, clock, hb, _⟩, _⟩ := h.hm
    rw [e, h.hbt] at hb
    injection hb with hb
    cases hb
  have hfar : ∀ x, x < w.heap.size → u.ownBlock ≠ some x → x ≠ bt → (w1.setCell ⟨bt, i, none⟩ v1).heap[x]? = w.heap[x]? := fun x hx h1 h2 => (Below.heap_setCell _ ⟨bt, i, none⟩ _ x h2).trans (hsame x hx h1)
  have hnot : ∀ k, vn.ownBlock = some k → k ≠ bt := fun k e e' => by subst e'; exact own_ne_of h.hn h.hbt (by decide) e
  refine ⟨{
    hN := h.hN
    sB := fun k hk => by have := hS2 k hk; simpa using this
    hg := (hfar g hgl hug hgt).trans h.hg
    sg := hS g h.sg
    sm := hS bm h.sm
    st := hS bt h.st
    hn := own_heap h.hn (fun k e => hfar k (h.sB k (h.sn k e)).2 (fun e' => ((h.rows i u hu).2 k e').2 e) (hnot k e))
    sn := fun k e => hS k (h.sn k e)
    hm := h.hm.heap (hfar bm hml hum hmt)
    hbt := by
      rw [blk_set ((hsame bt htl hut).trans h.hbt)]
      simp
    vlen := by rw [List.length_set]; exact h.vlen
    rows := fun j v hv => ?_
    apart := fun a b x y hab hx hy k e => ?_
    small := fun x y hy => by
      split at hy
      · rcases List.mem_append.1 hy with hy | hy
        · exact h.small i y hy
        · obtain rfl := List.mem_singleton.1 hy; exact hn
      · exact h.small x y hy }, ?_⟩
  · rw [List.getElem?_set] at hv
    by_cases hj : i = j
    · subst hj
      rw [if_pos rfl] at hv
      split at hv
      · obtain rfl := Option.some.inj hv
        refine ⟨?_, fun k e => ⟨hS1 k e, fun e' => ?_⟩⟩
        · rw [if_pos rfl, List.length_append, List.map_append]
          have hx := own_heap ho (w' := w1.setCell ⟨bt, i, none⟩ v1) (fun k e => Below.heap_setCell _ ⟨bt, i, none⟩ _ k (fun e' => own_ne_of ho ((hsame bt htl hut).trans h.hbt) (by decide) ((show k = bt from e') ▸ e)))
          simpa [nums] using hx
        · rcases (hat k e).1 with h1 | h1
          · exact ((h.rows i u hu).2 k h1).2 e'
          · have := (h.sB k (h.sn k e')).2; omega
      · cases hv
    · rw [if_neg hj] at hv
      rw [if_neg (fun e => hj e.symm)]
      obtain ⟨r1, r2⟩ := h.rows j v hv
      exact ⟨own_heap r1 (fun k e => hfar k (h.sB k (r2 k e).1).2 (fun e' => h.apart i j u v hj hu hv k e' e) (fun e' => own_ne_of r1 h.hbt (by decide) ((show k = bt from e') ▸ e))), fun k e => ⟨hS k (r2 k e).1, (r2 k e).2⟩⟩
  · rw [List.getElem?_set] at hx hy
    by_cases ha : i = a <;> by_cases hb : i = b
    · omega
    · rw [if_pos ha] at hx
      rw [if_neg hb] at hy
      split at hx
      · obtain rfl := Option.some.inj hx
        intro e'
        rcases (hat k e).1 with h1 | h1
        · exact h.apart i b u y hb hu hy k h1 e'
        · have := (h.sB k ((h.rows b y hy).2 k e').1).2; omega
      · cases hx
    · rw [if_neg ha] at hx
      rw [if_pos hb] at hy
      split at hy
      · obtain rfl := Option.some.inj hy
        intro e'
        rcases (hat k e').1 with h1 | h1
        · exact h.apart i a u x ha hu hx k h1 e
        · have := (h.sB k ((h.rows a x hx).2 k e).1).2; omega
      · cases hy
    · rw [if_neg ha] at hx
      rw [if_neg hb] at hy
      exact h.apart a b x y hab hx hy k e
  · refine ⟨(((Below.refl B w).alloc hB o).grown hg (by simp; omega) (fun k hk => (h.sB k ((h.rows i u hu).2 k hk).1).1)).setCell (p := ⟨bt, i, none⟩) (h.sB bt h.st).1 _, fun x hx hne => ?_⟩
    exact hfar x hx (fun e => hne ((h.rows i u hu).2 x e).1) (fun e => hne (e ▸ h.st))

theorem lead_nil (x : Int) (A : Option Addr) (n c : Nat) (w : World) : Calls Try.prog 10 #[.pointer none, .int .i64 x, .slice A n c] w fun e w' => e = .returned (.int .i64 2) ∧ w' = w := by
  go_enter Try.func10, Try.ntmps10
  go_wp2
  go_ret
  exact ⟨rfl, rfl⟩
theorem lead_none (B : Nat) (S : Nat → Prop) (g : Nat) (ns : List Int) (tq : Nat → List Nat) (sv : Option M) (x : Int) (hx : (Lit.int .i64 x).wf = true) (hn : x ∉ ns) (A : Option Addr) (n c : Nat) (w : World) (h : G B S g ns tq sv w) :
    Calls Try.prog 10 #[.pointer (some ⟨g, 0, none⟩), .int .i64 x, .slice A n c] w fun e w' => e = .returned (.int .i64 3) ∧ w' = w := by
  obtain ⟨vn, bm, bt, vs, vts, h⟩ := h
  have c1 : w.cell? ⟨g, 1, none⟩ = some (.map (some bm)) := by rw [Lib.cell_of_heap h.hg]; rfl
  have hl := h.hm.look x hx
  rw [show decide (x ∈ ns) = false by simpa using hn] at hl
  clear h hn
  go_enter Try.func10, Try.ntmps10
  go_wp2
  go_ret
  exact ⟨rfl, rfl⟩

def LeadPost (B : Nat) (S : Nat → Prop) (g : Nat) (ns : List Int) (tq : Nat → List Nat) (w : World) (e : Ending) (w' : World) : Prop :=
  e = .returned (.int .i64 0) ∧ G B (fun k => S k ∨ (w.heap.size ≤ k ∧ k < w'.heap.size)) g ns tq none w' ∧ Ch B S w w'
set_option maxHeartbeats 4000000 in
set_option maxRecDepth 100000 in
theorem lead_some (B : Nat) (S : Nat → Prop) (g : Nat) (ns : List Int) (tq : Nat → List Nat) (sv : Option M) (x : Int) (hx : (Lit.int .i64 x).wf = true) (hn : x ∈ ns) (A : Option Addr) (c : Nat) (l : List Int) (w : World) (h : G B S g ns tq sv w) (hB : B ≤ w.heap.size) (hl : ∀ W', Ch B S w W' → ReadsInt W' .i64 A l.length l) (hw : ∀ y ∈ l, (Lit.int .i64 y).wf = true) (hlen : ∀ i, (tq i).length + l.length ≤ 1000000) :
    Calls Try.prog 10 #[.pointer (some ⟨g, 0, none⟩), .int .i64 x, .slice A l.length c] w (LeadPost B S g ns (leadF ns tq (ns.idxOf x) l) w) := by
  obtain ⟨vn, bm, bt, vs, vts, h⟩ := h
  have c1 : w.cell? ⟨g, 1, none⟩ = some (.map (some bm)) := by rw [Lib.cell_of_heap h.hg]; rfl
  have hlk := h.hm.look x hx
  rw [show decide (x ∈ ns) = true by simpa using hn, show at_ ns x = ((ns.idxOf x : Nat) : Int) by simp [at_, hn]] at hlk
  have hi : ns.idxOf x < ns.length := List.idxOf_lt_length_of_mem hn
  generalize ns.idxOf x = i at hlk hi ⊢
  have hl0 := hl w (Ch.refl _ _ _)
  have hll : l.length ≤ 9223372036854775807 := hl0.2.1
  have hQ := h.q
  have hlens := h.len
  have HQ := Aside0.mk hQ
  have HL := Aside0.mk hl
  have HW := Aside0.mk hw
  have HLEN := Aside0.mk hlen
  have hN := h.hN
  generalize sv.isSome = sb at HQ
  clear h hl hw hlen hQ hn hl0 hlens
  go_enter Try.func10, Try.ntmps10
  go_wp2_with fail
  clear hlk c1
  go_loopg [28] l.length (fun kq v28 w' => ∃ (j : Nat) (vts' : List Value), v28 = .int .i64 j ∧ Aside0 (j ≤ l.length ∧ kq = l.length - j) ∧ Aside0 (GQ B (fun k => S k ∨ (w.heap.size ≤ k ∧ k < w'.heap.size)) g vn bm bt vs (.bool sb) vts' ns (leadF ns tq i (l.take j)) w') ∧ Aside0 (Ch B S w w'))
  case atStart => exact ⟨0, vts, rfl, ⟨by omega, by omega⟩, ⟨by rw [List.take_zero, leadF_nil]; exact HQ.out.mono (fun k h => .inl h) (fun k h => h.elim (HQ.out.sB k) (fun h => ⟨by omega, h.2⟩))⟩, ⟨Ch.refl _ _ _⟩⟩
  case round =>
    obtain ⟨j, vts', rfl, HJ, HF, HC⟩ := hrel
    obtain ⟨hj1, hj2⟩ := HJ.out
    have hzr := HC.out.below.size
    have hg := HF.out.hg
    have c1 : wr.cell? ⟨g, 1, none⟩ = some (.map (some bm)) := by rw [Lib.cell_of_heap hg]; rfl
    have c2 : wr.cell? ⟨g, 2, none⟩ = some (.slice (some ⟨bt, 0, none⟩) ns.length ns.length) := by rw [Lib.cell_of_heap hg]; rfl
    by_cases hj : j < l.length
    · obtain ⟨ad, hA, hcx⟩ := (HL.out wr HC.out).at_ (j : Int) (by omega) (by omega)
      subst hA
      have hrd : rd l (j : Int) = l[j] := by simp [rd, List.getD_eq_getElem?_getD, List.getElem?_eq_getElem hj]
      rw [hrd, Int.toNat_natCast] at hcx
      have hwf := HW.out l[j] (List.getElem_mem _)
      have hsn : idxs ns (l.take (j + 1)) = if l[j] ∈ ns then idxs ns (l.take j) ++ [ns.idxOf l[j]] else idxs ns (l.take j) := by rw [List.take_succ_eq_append_getElem hj, idxs_snoc]
      generalize l[j] = y at hcx hwf hsn
      have hlook := HF.out.hm.look y hwf
      have HSN := Aside0.mk hsn
      clear hrd hsn hj2 hg
      by_cases hy : y ∈ ns
      · rw [show decide (y ∈ ns) = true by simpa using hy, show at_ ns y = ((ns.idxOf y : Nat) : Int) by simp [at_, hy]] at hlook
        rw [if_pos hy] at HSN
        have hnl : ns.idxOf y < ns.length := List.idxOf_lt_length_of_mem hy
        generalize ns.idxOf y = n at hlook HSN hnl
        clear hy
        obtain ⟨u, hu⟩ : ∃ u, vts'[i]? = some u := ⟨_, List.getElem?_eq_getElem (by rw [HF.out.vlen]; exact hi)⟩
        have hrow := (HF.out.rows i u hu).1
        have ci : wr.cell? ⟨bt, i, none⟩ = some u := by rw [Lib.cell_of_heap HF.out.hbt]; simpa using hu
        have cfi : wr.frozen? ⟨bt, i, none⟩ = false := Lib.frozen_of_heap HF.out.hbt i
        have hgl := (HF.out.sB g HF.out.sg).2
        have htl := (HF.out.sB bt HF.out.st).2
        have hne : Aside0 (some bt ≠ u.ownBlock) := ⟨fun e => own_ne_of hrow HF.out.hbt (by decide) e.symm⟩
        have hneg : Aside0 (some g ≠ u.ownBlock) := ⟨fun e => own_ne_of hrow HF.out.hg (by decide) e.symm⟩
        have hlenr : (leadF ns tq i (l.take j) i).length ≤ 1000000 := by
          have h1 : leadF ns tq i (l.take j) i = tq i ++ idxs ns (l.take j) := by simp [leadF]
          have h2 : (idxs ns (l.take j)).length ≤ l.length := by
            unfold idxs
            rw [List.length_map]
            exact Nat.le_trans (List.length_filter_le _ _) (by rw [List.length_take]; omega)
          rw [h1, List.length_append]
          have := HLEN.out i
          omega
        have hm : (leadF ns tq i (l.take j) i).length + 1 ≤ maxLen := by unfold maxLen; omega
        have HROW := Aside0.mk hrow
        have HU := Aside0.mk hu
        clear hrow hu
        obtain ⟨i0, hi0, hz0, hz1, hz2⟩ := info_parts infoInt
        go_wp2_with fail
        refine start_ (n := 17) (S := fun w' => w'.cell? ⟨g, 2, none⟩ = some (.slice (some ⟨bt, 0, none⟩) ns.length ns.length) ∧ w'.cell? ⟨bt, i, none⟩ = some u) (ds := [16]) #[false, false, false, false, false, false, false, false, false, false, false, false, false, false, false, false, false] (by kernel_rfl) rfl rfl ⟨c2, ci⟩ (fun hHeld => ?_)
        refine pure_ (i := 0) (N := some 42) (v := ?_) (a' := ?_) #[true, false, false, false, false, false, false, false, false, false, false, false, false, false, false, false, false] rfl rfl (by kernel_rfl) (fun _ _ _ h => h) (Or.inl ⟨by rfl, ?_⟩) ?_ ?_
        rotate_left
        · intro w'
          go_simp
          with_reducible rfl
        rotate_left
        · simp only [Act.put, List.setIfInBounds_toArray, List.set_cons_zero, List.set_cons_succ, i64_w, i32_w]
          rfl
        refine pure_ (i := 1) (N := some 43) (v := ?_) (a' := ?_) #[true, true, false, false, false, false, false, false, false, false, false, false, false, false, false, false, false] rfl rfl (by kernel_rfl) (fun _ _ _ h => h) (Or.inl ⟨by rfl, ?_⟩) ?_ ?_
        rotate_left
        · intro w'
          go_simp
          with_reducible rfl
        rotate_left
        · simp only [Act.put, List.setIfInBounds_toArray, List.set_cons_zero, List.set_cons_succ, i64_w, i32_w]
          rfl
        refine pure_ (i := 2) (N := some 44) (v := ?_) (a' := ?_) #[true, true, true, false, false, false, false, false, false, false, false, false, false, false, false, false, false] rfl rfl (by kernel_rfl) (fun _ _ _ h => h) (Or.inl ⟨by rfl, ?_⟩) ?_ ?_
        rotate_left
        · intro w'
          go_simp
          with_reducible rfl
        rotate_left
        · simp only [Act.put, List.setIfInBounds_toArray, List.set_cons_zero, List.set_cons_succ, i64_w, i32_w]
          rfl
        refine pure_ (i := 4) (N := some 46) (v := ?_) (a' := ?_) #[true, true, true, false, true, false, false, false, false, false, false, false, false, false, false, false, false] rfl rfl (by kernel_rfl) (fun _ _ _ h => h) (Or.inl ⟨by rfl, ?_⟩) ?_ ?_
        rotate_left
        · intro w'
          go_simp
          with_reducible rfl
        rotate_left
        · simp only [Act.put, List.setIfInBounds_toArray, List.set_cons_zero, List.set_cons_succ, i64_w, i32_w]
          rfl
        refine pure_ (i := 5) (N := some 47) (v := ?_) (a' := ?_) #[true, true, true, false, true, true, false, false, false, false, false, false, false, false, false, false, false] rfl rfl (by kernel_rfl) (fun _ _ _ h => h) (Or.inl ⟨by rfl, ?_⟩) ?_ ?_
        rotate_left
        · intro w'
          go_simp
          with_reducible rfl
        rotate_left
        · simp only [Act.put, List.setIfInBounds_toArray, List.set_cons_zero, List.set_cons_succ, i64_w, i32_w]
          rfl
        refine pure_ (i := 6) (N := some 48) (v := ?_) (a' := ?_) #[true, true, true, false, true, true, true, false, false, false, false, false, false, false, false, false, false] rfl rfl (by kernel_rfl) (fun _ _ _ h => h) (Or.inl ⟨by rfl, ?_⟩) ?_ ?_
        rotate_left
        · intro w'
          go_simp
          with_reducible rfl
        rotate_left
        · simp only [Act.put, List.setIfInBounds_toArray, List.set_cons_zero, List.set_cons_succ, i64_w, i32_w]
          rfl
        refine pure_ (i := 7) (N := some 49) (v := ?_) (a' := ?_) #[true, true, true, false, true, true, true, true, false, false, false, false, false, false, false, false, false] rfl rfl (by kernel_rfl) (fun _ _ _ h => h) (Or.inl ⟨by rfl, ?_⟩) ?_ ?_
        rotate_left
        · intro w'
          go_simp
          with_reducible rfl
        rotate_left
        · simp only [Act.put, List.setIfInBounds_toArray, List.set_cons_zero, List.set_cons_succ, i64_w, i32_w]
          rfl
        refine pure_ (i := 9) (N := some 51) (v := ?_) (a' := ?_) #[true, true, true, false, true, true, true, true, false, true, false, false, false, false, false, false, false] rfl rfl (by kernel_rfl) (fun _ _ _ h => h) (Or.inl ⟨by rfl, ?_⟩) ?_ ?_
        rotate_left
        · intro w'
          go_simp
          with_reducible rfl
        rotate_left
        · simp only [Act.put, List.setIfInBounds_toArray, List.set_cons_zero, List.set_cons_succ, i64_w, i32_w]
          rfl
        refine pure_ (i := 12) (N := some 54) (v := ?_) (a' := ?_) #[true, true, true, false, true, true, true, true, false, true, false, false, true, false, false, false, false] rfl rfl (by kernel_rfl) (fun _ _ _ h => h) (Or.inl ⟨by rfl, ?_⟩) ?_ ?_
        rotate_left
        · intro w'
          go_simp
          with_reducible rfl
        rotate_left
        · simp only [Act.put, List.setIfInBounds_toArray, List.set_cons_zero, List.set_cons_succ, i64_w, i32_w]
          rfl
        refine take_ (i := 3) (N := some 45) (v := ?_) (a' := ?_) #[true, true, true, true, true, true, true, true, false, true, false, false, true, false, false, false, false] rfl rfl (by kernel_rfl) (fun _ _ _ h => h) (Or.inl ⟨by rfl, ?_⟩) hHeld ?_ ?_
        rotate_left
        · rintro w' ⟨s0, s1⟩
          go_simp
          with_reducible rfl
        rotate_left
        · simp only [Act.put, List.setIfInBounds_toArray, List.set_cons_zero, List.set_cons_succ, i64_w, i32_w]
          rfl
        refine take_ (i := 8) (N := some 50) (v := ?_) (a' := ?_) #[true, true, true, true, true, true, true, true, true, true, false, false, true, false, false, false, false] rfl rfl (by kernel_rfl) (fun _ _ _ h => h) (Or.inl ⟨by rfl, ?_⟩) hHeld ?_ ?_
        rotate_left
        · rintro w' ⟨s0, s1⟩
          go_simp
          with_reducible rfl
        rotate_left
        · simp only [Act.put, List.setIfInBounds_toArray, List.set_cons_zero, List.set_cons_succ, i64_w, i32_w]
          rfl
        refine pure_ (i := 10) (N := some 52) (v := ?_) (a' := ?_) #[true, true, true, true, true, true, true, true, true, true, true, false, true, false, false, false, false] rfl rfl (by kernel_rfl) (fun _ _ _ h => h) (Or.inl ⟨by rfl, ?_⟩) ?_ ?_
        rotate_left
        · intro w'
          go_simp
          with_reducible rfl
        rotate_left
        · simp only [Act.put, List.setIfInBounds_toArray, List.set_cons_zero, List.set_cons_succ, i64_w, i32_w]
          rfl
        refine take_ (i := 11) (N := some 53) (v := ?_) (a' := ?_) #[true, true, true, true, true, true, true, true, true, true, true, true, true, false, false, false, false] rfl rfl (by kernel_rfl) (fun _ _ _ h => h) (Or.inl ⟨by rfl, ?_⟩) hHeld ?_ ?_
        rotate_left
        · rintro w' ⟨s0, s1⟩
          go_simp
          with_reducible rfl
        rotate_left
        · simp only [Act.put, List.setIfInBounds_toArray, List.set_cons_zero, List.set_cons_succ, i64_w, i32_w]
          rfl
        refine one_ (i := 13) (N := some 55) #[true, true, true, true, true, true, true, true, true, true, true, true, true, true, false, false, false] rfl rfl (by kernel_rfl) (by decide) (fun K hK => ?_)
        refine value_ (w1 := ?_) (v := ?_) (by rfl) rfl ?_ ?_
        rotate_left 2
        · go_simp
          constructor
          · rfl
          · rfl
        refine hK.out _ _ ⟨cel_alloc hgl c2 _, cel_alloc htl ci _⟩ (fun hHeld => ?_)
        clear hK K
        refine norm_ (a' := ?_) ?_ ?_
        rotate_left
        · show Act.put _ (some 55) _ = _
          simp only [Act.put, List.setIfInBounds_toArray, List.set_cons_zero, List.set_cons_succ, i64_w, i32_w]
          rfl
        refine one_ (i := 14) (N := some 56) #[true, true, true, true, true, true, true, true, true, true, true, true, true, true, true, false, false] rfl rfl (by kernel_rfl) (by decide) (fun K hK => ?_)
        refine step_append_lies _ (by rfl) _ _ _ (by rfl) 0 3 i0 _ 1 8 Try.underlying22 hi0 hz0 hz1 hz2 rfl (by omega) u (leadF ns tq i (l.take j) i).length (nums .i64 ((leadF ns tq i (l.take j) i).map fun n : Nat => (n : Int))) (by rfl) (HROW.out.alloc _) ⟨wr.heap.size, 0, none⟩ 1 1 [.int .i64 n] (by rfl) (by rfl) (World.news_of_block (cs := #[.int .i64 n]) (t := 3) (fr := (0, 0)) (heap_alloc_new wr _)) (by simp [Value.oneCell']) (by omega) hm (by omega) (by simp) (wr.heap.size + 1) (by simp) ?_
        intro gg cap w1 hown1 hgrow hat hlt1
        have hf1 : w1.frozen? ⟨bt, i, none⟩ = false := (hgrow.frozen_far _ (by simp; omega) hne.out).trans (frz_alloc htl cfi _)
        have hd3 : w1.cell? ⟨bt, i, none⟩ = some u := (hgrow.cell_far _ (by simp; omega) hne.out).trans (cel_alloc htl ci _)
        refine hK.out _ _ ⟨(hgrow.cell_far _ (by simp; omega) hneg.out).trans (cel_alloc hgl c2 _), hd3⟩ (fun hHeld => ?_)
        clear hK K
        refine norm_ (a' := ?_) ?_ ?_
        rotate_left
        · show Act.put _ (some 56) _ = _
          simp only [Act.put, List.setIfInBounds_toArray, List.set_cons_zero, List.set_cons_succ, i64_w, i32_w]
          rfl
        refine pure_ (i := 15) (N := some 57) (v := ?_) (a' := ?_) #[true, true, true, true, true, true, true, true, true, true, true, true, true, true, true, true, false] rfl rfl (by kernel_rfl) (fun _ _ _ h => h) (Or.inl ⟨by rfl, ?_⟩) ?_ ?_
        rotate_left
        · intro w'
          go_simp
          with_reducible rfl
        rotate_left
        · simp only [Act.put, List.setIfInBounds_toArray, List.set_cons_zero, List.set_cons_succ, i64_w, i32_w]
          rfl
        refine last_ (i := 16) (N := none) #[true, true, true, true, true, true, true, true, true, true, true, true, true, true, true, true, true] rfl rfl (by kernel_rfl) (by decide) (fun K hK => ?_)
        refine skip_ (w1 := ?_) (by rfl) rfl ?_ ?_
        rotate_left
        · go_simp
          rfl
        refine hK.out _ _ ?_
        clear hK K
        refine done_ (by kernel_rfl) ?_
        have hgp := grown_plain hgrow
        have hz1' : wr.heap.size < w1.heap.size := by have := hgp.size; simp at this; omega
        obtain ⟨q1, q2⟩ := HF.out.grow (S2 := fun k => S k ∨ (w.heap.size ≤ k ∧ k < w1.heap.size)) (by omega) HU.out hnl hgp hown1
          (fun k e => by
            have : gg = k := by simpa [Value.ownBlock] using e
            subst this
            exact ⟨hat.imp id (fun e' => by omega), hlt1⟩)
          (fun k hk => hk.imp id (fun hk => ⟨hk.1, by omega⟩))
          (fun k e => by
            have : gg = k := by simpa [Value.ownBlock] using e
            subst this
            rcases hat with h1 | h1
            · exact ((HF.out.rows i u HU.out).2 gg h1).1.imp id (fun hk => ⟨hk.1, by omega⟩)
            · exact .inr ⟨by omega, hlt1⟩)
          (fun k hk => by
            rcases hk with hk | hk
            · have := HQ.out.sB k hk; exact ⟨this.1, by omega⟩
            · exact ⟨by omega, hk.2⟩)
        have Q1 := Aside0.mk q1
        have Q2 := Aside0.mk q2
        have hlf : leadF ns tq i (l.take (j + 1)) = fun x => if x = i then leadF ns tq i (l.take j) i ++ [n] else leadF ns tq i (l.take j) x := by
          funext x
          unfold leadF
          rw [HSN.out]
          by_cases hx : x = i
          · simp [hx]
          · simp [hx]
        have HLF := Aside0.mk hlf
        clear q1 q2 hlf hgp hgrow hown1 hat hlt1 hf1 hd3
        go_wp2
        go_roundg (gk - 1)
        case measure => have := HJ.out; omega
        case rel => exact ⟨j + 1, _, by go_num, ⟨by omega, by have := HJ.out; omega⟩, ⟨by rw [HLF.out, World.size_setCell]; exact Q1.out⟩, ⟨HC.out.trans Q2.out (fun k hk => hk.imp id (fun hk => hk.1))⟩⟩
      · rw [show decide (y ∈ ns) = false by simpa using hy] at hlook
        rw [if_neg hy] at HSN
        clear hy
        go_wp2
        go_roundg (gk - 1)
        case measure => have := HJ.out; omega
        case rel => exact ⟨j + 1, vts', by go_num, ⟨by omega, by have := HJ.out; omega⟩, ⟨by rw [show leadF ns tq i (l.take (j + 1)) = leadF ns tq i (l.take j) by unfold leadF; rw [HSN.out]]; exact HF.out⟩, HC⟩
    · obtain rfl : j = l.length := by omega
      rw [List.take_length] at *
      have c4 : wr.cell? ⟨g, 4, none⟩ = some (.bool sb) := by rw [Lib.cell_of_heap hg]; rfl
      have f4 : wr.frozen? ⟨g, 4, none⟩ = false := Lib.frozen_of_heap hg 4
      have hlens : ∀ x, (leadF ns tq i l x).length ≤ 1000000 := fun x => by
        have h2 : (idxs ns l).length ≤ l.length := by
          unfold idxs
          rw [List.length_map]
          exact List.length_filter_le _ _
        unfold leadF
        split
        · rw [List.length_append]; have := HLEN.out i; omega
        · have := HLEN.out x; omega
      have HLENS := Aside0.mk hlens
      clear hj hj2 c1 c2 hg hlens
      go_wp2
      go_ret
      have hfar : ∀ x, x ≠ g → (wr.setCell ⟨g, 4, none⟩ (.bool false)).heap[x]? = wr.heap[x]? := fun x hx => Below.heap_setCell _ ⟨g, 4, none⟩ _ x hx
      have h := HF.out
      have hmg : bm ≠ g := fun e => by
        obtain ⟨D, ⟨es, clock, hb, _⟩, _⟩ := h.hm
        rw [e, h.hg] at hb
        injection hb with hb
        cases hb
      have htg : bt ≠ g := fun e => by
        have h1 := h.hbt
        rw [e, h.hg] at h1
        injection h1 with h1; injection h1 with _ h2; exact absurd h2 (by decide)
      refine ⟨rfl, ⟨vn, bm, bt, vs, vts', {
        hN := h.hN
        sB := fun k hk => by rw [World.size_setCell] at hk ⊢; exact h.sB k hk
        hg := by rw [blk_set h.hg]; rfl
        sg := by rw [World.size_setCell]; exact h.sg
        sm := by rw [World.size_setCell]; exact h.sm
        st := by rw [World.size_setCell]; exact h.st
        hn := own_heap h.hn (fun k e => hfar k (fun e' => own_ne_of h.hn h.hg (by decide) ((show k = g from e') ▸ e)))
        sn := fun k e => by rw [World.size_setCell]; exact h.sn k e
        hm := h.hm.heap (hfar bm hmg)
        hbt := (hfar bt htg).trans h.hbt
        vlen := h.vlen
        rows := fun a u hu => ⟨own_heap (h.rows a u hu).1 (fun k e => hfar k (fun e' => own_ne_of (h.rows a u hu).1 h.hg (by decide) ((show k = g from e') ▸ e))), fun k e => by rw [World.size_setCell]; exact (h.rows a u hu).2 k e⟩
        apart := fun a b u v hab hu hv => h.apart a b u v (by omega) hu hv
        small := h.small
        len := HLENS.out
        sets := fun m hm => by cases hm }⟩, ?_⟩
      exact HC.out.setCell (p := ⟨g, 4, none⟩) (HQ.out.sB g HQ.out.sg).1 (.inl HQ.out.sg) _
end Go.Proofs.Ytiljegeodokfmaa.Fx
