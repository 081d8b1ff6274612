/- fix, third part: the graph behind its pointer; Solve. -/
import Derived.Test.YtiljegeodokfmaaGrB
import Derived.Maps.OwnSet
import Derived.Maps.Views
import Derived.Laws.MakeOwn
import Derived.Deep.OwnRows
import Derived.RegionTactic
namespace Go.Proofs.Ytiljegeodokfmaa.Fx
open Go Go.RowKit Go.Proofs.YtiljegeodokfmaaW.PrintWords
set_option linter.unusedVariables false
set_option linter.unusedSimpArgs false

/-- Only the blocks of S, and new ones, are others. -/
structure Ch (B : Nat) (S : Nat → Prop) (w w' : World) : Prop where
  below : Below B w w'
  keep : ∀ k, k < w.heap.size → ¬ S k → w'.heap[k]? = w.heap[k]?
theorem Ch.refl (B : Nat) (S : Nat → Prop) (w : World) : Ch B S w w := ⟨Below.refl _ _, fun _ _ _ => rfl⟩
theorem Ch.trans {B : Nat} {S S' : Nat → Prop} {a b c : World} (h : Ch B S a b) (k : Ch B S' b c) (hs : ∀ x, S' x → S x ∨ a.heap.size ≤ x) : Ch B S a c :=
  ⟨h.below.trans k.below, fun x hx hn => (k.keep x (Nat.lt_of_lt_of_le hx h.below.size) (fun e => (hs x e).elim hn (fun e' => by omega))).trans (h.keep x hx hn)⟩
theorem Ch.alloc {B : Nat} {S : Nat → Prop} {a b : World} (h : Ch B S a b) (hB : B ≤ b.heap.size) (o : Obj) : Ch B S a (b.alloc o) :=
  ⟨h.below.alloc hB o, fun x hx hn => (Below.heap_alloc b o x (Nat.lt_of_lt_of_le hx h.below.size)).trans (h.keep x hx hn)⟩
theorem Ch.setCell {B : Nat} {S : Nat → Prop} {a b : World} (h : Ch B S a b) {p : Addr} (hB : B ≤ p.block) (hp : S p.block ∨ a.heap.size ≤ p.block) (u : Value) : Ch B S a (b.setCell p u) :=
  ⟨h.below.setCell hB u, fun x hx hn => (Below.heap_setCell b p u x (fun e => by subst e; exact hp.elim hn (fun e' => by omega))).trans (h.keep x hx hn)⟩
theorem Ch.drew {B : Nat} {S : Nat → Prop} {a b : World} (h : Ch B S a b) : Ch B S a b.drew := ⟨h.below.drew, h.keep⟩
theorem Ch.drewN {B : Nat} {S : Nat → Prop} {a b : World} (h : Ch B S a b) (n : Nat) : Ch B S a (b.drewN n) := ⟨pw_below_drewN h.below n, h.keep⟩
theorem Ch.rows {B : Nat} {S : Nat → Prop} {a b c : World} {N : Nat} {rb : Nat → Nat} (h : Ch B S a b) (k : Rows N rb b c) (hB : ∀ i, i < N → B ≤ rb i) (hs : ∀ i, i < N → S (rb i) ∨ a.heap.size ≤ rb i) : Ch B S a c :=
  h.trans (S' := fun x => ∃ i, i < N ∧ x = rb i) ⟨⟨k.os, k.tape, k.output, by rw [k.size]; exact Nat.le_refl _, fun x hx => k.block x (fun i hi e => by have := hB i hi; omega)⟩, fun x _ hn => k.block x (fun i hi e => hn ⟨i, hi, e⟩)⟩ (fun x ⟨i, hi, e⟩ => e ▸ hs i hi)
theorem Ch.mono {B : Nat} {S S' : Nat → Prop} {a b : World} (h : Ch B S a b) (hs : ∀ x, S x → S' x ∨ a.heap.size ≤ x) : Ch B S' a b :=
  ⟨h.below, fun x hx hn => h.keep x hx (fun e => (hs x e).elim hn (fun e' => by omega))⟩
theorem Ch.of_below {B : Nat} {a b : World} (S : Nat → Prop) (h : Below a.heap.size a b) (hB : B ≤ a.heap.size) : Ch B S a b := ⟨h.mono hB, fun x hx _ => h.block x hx⟩

/-- A row stays where its block does. -/
theorem own_heap {w w' : World} {base : Nat} {e : TypeId} {size n : Nat} {v : Value} {xs : List Value} (h : w.ownsRow base e size v n xs) (hk : ∀ k, v.ownBlock = some k → w'.heap[k]? = w.heap[k]?) : w'.ownsRow base e size v n xs := by
  refine ⟨h.1, ?_⟩
  rcases h.2 with h2 | ⟨g, cap, cur, rfl, hb, hh, r⟩
  · exact .inl h2
  · exact .inr ⟨g, cap, cur, rfl, hb, (hk g rfl).trans hh, r⟩

theorem own_ne_of {w : World} {B e size n g t : Nat} {v : Value} {xs : List Value} {cs : Array Value} (h : w.ownsRow B e size v n xs) (hb : w.heap[g]? = some (.cells cs t (0, 0))) (hne : e ≠ t) : v.ownBlock ≠ some g := by
  rcases h.2 with ⟨rfl, _⟩ | ⟨g', cap, cur, rfl, _, hh, _⟩
  · simp [Value.ownBlock]
  · intro he
    have : g' = g := by simpa [Value.ownBlock] using he
    subst this
    rw [hb] at hh
    injection hh with hh
    injection hh with _ ht
    exact hne ht.symm
theorem blk_set {w : World} {g t : Nat} {cs : Array Value} (h : w.heap[g]? = some (.cells cs t (0, 0))) (i : Nat) (u : Value) : (w.setCell ⟨g, i, none⟩ u).heap[g]? = some (.cells (cs.setIfInBounds i u) t (0, 0)) := by
  simp [World.setCell, Array.getElem?_modify, h]
/-- Where a key stands. -/
def at_ (ns : List Int) (x : Int) : Int := if x ∈ ns then (ns.idxOf x : Int) else 0
/-- The map tells where each node stands. -/
def MapIs (w : World) (bm : Nat) (ns : List Int) : Prop :=
  ∃ (D : DataW Unit), w.ownsMap Try.prog 3 (plainElem Try.prog 3) bm ns.length D ∧ ∀ x : Int, (Lit.int .i64 x).wf = true → Maps.has D (.int .i64 x) = decide (x ∈ ns) ∧ D.atKey (.int .i64 x) (.lit (.int .i64 0)) = .lit (.int .i64 (at_ ns x))
theorem MapIs.heap {w w' : World} {bm : Nat} {ns : List Int} (h : MapIs w bm ns) (hk : w'.heap[bm]? = w.heap[bm]?) : MapIs w' bm ns := by
  obtain ⟨D, ⟨es, clock, hb, r⟩, hx⟩ := h
  exact ⟨D, ⟨es, clock, hk.trans hb, r⟩, hx⟩
theorem MapIs.lt {w : World} {bm : Nat} {ns : List Int} (h : MapIs w bm ns) : bm < w.heap.size := by
  obtain ⟨D, ho, _⟩ := h
  exact ho.lt
theorem MapIs.look {w : World} {bm : Nat} {ns : List Int} (h : MapIs w bm ns) (x : Int) (hx : (Lit.int .i64 x).wf = true) :
    (Instr.lookup 54 (.map (some bm)) (.int .i64 x) true).run Try.prog w = .ok (.tuple #[.int .i64 (at_ ns x), .bool (decide (x ∈ ns))]) w := by
  obtain ⟨D, ho, hD⟩ := h
  obtain ⟨h1, h2⟩ := hD x hx
  obtain ⟨v, ps, hrun, hv⟩ := ho.look_ok (Maps.int_keyed Try.underlying3) Try.underlying54 (Try.zeroValue3 w) (plainElem_int Try.underlying3 (by decide)) (Maps.keyOf_int_mk Try.underlying3 hx)
  obtain ⟨c, rfl, hc, _⟩ := plainElem_int_inv Try.underlying3 hv
  rw [h2] at hc
  have : c = at_ ns x := by
    have := congrArg Prod.fst hc
    simp at this
    exact this.symm
  rw [hrun, h1, this]

/-- The sets' rows. -/
structure Sets (S : Nat → Prop) (bs : Nat) (rb : Nat → Nat) (N : Nat) (m : M) (w : World) : Prop where
  sb : S bs
  hb : w.heap[bs]? = some (.cells ((List.range N).map fun i => Value.slice (some ⟨rb i, 0, none⟩) N N).toArray 65 (0, 0))
  sr : ∀ i, i < N → S (rb i)
  inj : ∀ x y, x < N → y < N → rb x = rb y → x = y
  mat : Mat N rb m w
/-- A graph's parts. -/
structure GP (B : Nat) (S : Nat → Prop) (g : Nat) (vn : Value) (bm bt : Nat) (vs : Value) (vts : List Value) (ns : List Int) (tq : Nat → List Nat) (sv : Option M) (w : World) : Prop where
  hN : ns.length ≤ 1000
  sB : ∀ k, S k → B ≤ k ∧ k < w.heap.size
  hg : w.heap[g]? = some (.cells #[vn, .map (some bm), .slice (some ⟨bt, 0, none⟩) ns.length ns.length, vs, .bool sv.isSome] 58 (0, 0))
  sg : S g
  sm : S bm
  st : S bt
  hn : w.ownsRow 0 3 1 vn ns.length (nums .i64 ns)
  sn : ∀ k, vn.ownBlock = some k → S k
  hm : MapIs w bm ns
  hbt : w.heap[bt]? = some (.cells vts.toArray 22 (0, 0))
  vlen : vts.length = ns.length
  rows : ∀ (i : Nat) (u : Value), vts[i]? = some u → w.ownsRow 0 3 1 u (tq i).length (nums .i64 ((tq i).map fun n : Nat => (n : Int))) ∧ ∀ k, u.ownBlock = some k → S k ∧ vn.ownBlock ≠ some k
  apart : ∀ (i j : Nat) (u v : Value), i < j → vts[i]? = some u → vts[j]? = some v → ∀ k, u.ownBlock = some k → v.ownBlock ≠ some k
  small : ∀ i n, n ∈ tq i → n < ns.length
  len : ∀ i, (tq i).length ≤ 1000000
  sets : ∀ m, sv = some m → ∃ bs rb, vs = .slice (some ⟨bs, 0, none⟩) ns.length ns.length ∧ Sets S bs rb ns.length m w
/-- A graph in its state: the nodes, what leads where, the sets if they are solved. -/
def G (B : Nat) (S : Nat → Prop) (g : Nat) (ns : List Int) (tq : Nat → List Nat) (sv : Option M) (w : World) : Prop := ∃ vn bm bt vs vts, GP B S g vn bm bt vs vts ns tq sv w
theorem GP.heap {B : Nat} {S : Nat → Prop} {g : Nat} {vn : Value} {bm bt : Nat} {vs : Value} {vts : List Value} {ns : List Int} {tq : Nat → List Nat} {sv : Option M} {w w' : World} (h : GP B S g vn bm bt vs vts ns tq sv w) (hz : w.heap.size ≤ w'.heap.size) (hk : ∀ k, S k → w'.heap[k]? = w.heap[k]?) : GP B S g vn bm bt vs vts ns tq sv w' :=
  { h with
    sB := fun k hk' => ⟨(h.sB k hk').1, Nat.lt_of_lt_of_le (h.sB k hk').2 hz⟩
    hg := (hk g h.sg).trans h.hg
    hn := own_heap h.hn (fun k e => hk k (h.sn k e))
    hm := h.hm.heap (hk bm h.sm)
    hbt := (hk bt h.st).trans h.hbt
    rows := fun i u hu => ⟨own_heap (h.rows i u hu).1 (fun k e => hk k ((h.rows i u hu).2 k e).1), (h.rows i u hu).2⟩
    sets := fun m hm => by
      obtain ⟨bs, rb, e, hs⟩ := h.sets m hm
      exact ⟨bs, rb, e, { hs with hb := (hk bs hs.sb).trans hs.hb, mat := fun i hi => (hk _ (hs.sr i hi)).trans (hs.mat i hi) }⟩ }
theorem G.heap {B : Nat} {S : Nat → Prop} {g : Nat} {ns : List Int} {tq : Nat → List Nat} {sv : Option M} {w w' : World} (h : G B S g ns tq sv w) (hz : w.heap.size ≤ w'.heap.size) (hk : ∀ k, S k → w'.heap[k]? = w.heap[k]?) : G B S g ns tq sv w' := by
  obtain ⟨vn, bm, bt, vs, vts, h⟩ := h
  exact ⟨vn, bm, bt, vs, vts, h.heap hz hk⟩

theorem Rows.trans {N : Nat} {rb : Nat → Nat} {a b c : World} (h : Rows N rb a b) (k : Rows N rb b c) : Rows N rb a c :=
  ⟨k.os.trans h.os, k.tape.trans h.tape, k.output.trans h.output, k.size.trans h.size, fun j hj => (k.block j hj).trans (h.block j hj)⟩
theorem Env.rows {N g bt bs : Nat} {rb : Nat → Nat} {vn vm sol : Value} {vts : List Value} {tq : Nat → List Nat} {w w' : World} (E : Env N g bt bs rb vn vm sol vts tq w) (h : Rows N rb w w') : Env N g bt bs rb vn vm sol vts tq w' :=
  { E with
    hg := (h.block g E.ng).trans E.hg
    hbt := (h.block bt E.nbt).trans E.hbt
    hbs := (h.block bs E.nbs).trans E.hbs
    reads := fun i u hu => by
      obtain ⟨A, c, e, hr⟩ := E.reads i u hu
      exact ⟨A, c, e, fun w2 h2 => hr w2 (h.trans h2)⟩ }
/-- The rows of what leads, read whatever the sets' rows do. -/
theorem reads_of {w w0 : World} {N : Nat} {rb : Nat → Nat} {u : Value} {l : List Nat} (h : w0.ownsRow 0 3 1 u l.length (nums .i64 (l.map fun n : Nat => (n : Int)))) (hk : ∀ k, u.ownBlock = some k → w.heap[k]? = w0.heap[k]? ∧ ∀ i, i < N → k ≠ rb i) :
    ∃ A c, u = .slice A l.length c ∧ ∀ w', Rows N rb w w' → ReadsInt w' .i64 A l.length (l.map fun n : Nat => (n : Int)) := by
  obtain ⟨A, c, rfl, _⟩ := own_reads h
  refine ⟨A, c, rfl, fun w' hw => ?_⟩
  obtain ⟨A', c', e, hr⟩ := own_reads (own_heap h (w' := w') (fun k e => (hw.block k (hk k e).2).trans (hk k e).1))
  injection e with e1 e2 e3
  rw [e1]; exact hr
/-- The rounds until nothing turns. -/
def solveL (N : Nat) (tq : Nat → List Nat) : Nat → M → Int → Option (M × Int)
  | 0, _, _ => none
  | k + 1, m, n => if (roundM N tq m).2 = true then solveL N tq k (roundM N tq m).1 (n + 1) else some ((roundM N tq m).1, n)

theorem made_nil (N : Nat) : madeCells #[.slice none 0 0] N = (List.replicate N (Value.slice none 0 0)).toArray := by
  apply Array.ext
  · simp [madeCells]
  · intro i h1 h2; simp [madeCells, Nat.mod_one]
theorem made_false (N : Nat) : madeCells #[.bool false] N = rowA N (fun _ => false) := by
  apply Array.ext
  · simp [madeCells, rowA_size]
  · intro i h1 h2
    simp [madeCells, Nat.mod_one, rowA, rowL]

theorem solve_nil (w : World) : Calls Try.prog 16 #[.pointer none] w fun e w' => e = .returned (.int .i64 0) ∧ w' = w := by
  go_enter Try.func16, Try.ntmps16
  go_wp2
  go_ret
  exact ⟨rfl, rfl⟩
theorem solve_done (B : Nat) (S : Nat → Prop) (g : Nat) (ns : List Int) (tq : Nat → List Nat) (m : M) (w : World) (h : G B S g ns tq (some m) w) : Calls Try.prog 16 #[.pointer (some ⟨g, 0, none⟩)] w fun e w' => e = .returned (.int .i64 0) ∧ w' = w := by
  obtain ⟨vn, bm, bt, vs, vts, h⟩ := h
  have c4 : w.cell? ⟨g, 4, none⟩ = some (.bool true) := by rw [Lib.cell_of_heap h.hg]; rfl
  clear h
  go_enter Try.func16, Try.ntmps16
  go_wp2
  go_ret
  exact ⟨rfl, rfl⟩

def SolvePost (B : Nat) (S : Nat → Prop) (g : Nat) (ns : List Int) (tq : Nat → List Nat) (m : M) (r : Int) (w : World) (e : Ending) (w' : World) : Prop :=
  e = .returned (.int .i64 r) ∧ G B (fun k => S k ∨ (w.heap.size ≤ k ∧ k < w'.heap.size)) g ns tq (some m) w' ∧ Ch B S w w'

set_option maxHeartbeats 4000000 in
set_option maxRecDepth 100000 in
theorem solve_new (B : Nat) (S : Nat → Prop) (g : Nat) (ns : List Int) (tq : Nat → List Nat) (m : M) (r : Int) (k : Nat) (hk : k ≤ 1000000) (w : World) (hB : B ≤ w.heap.size) (h : G B S g ns tq none w) (hs : solveL ns.length tq k (fun _ _ => false) 1 = some (m, r)) :
    Calls Try.prog 16 #[.pointer (some ⟨g, 0, none⟩)] w (SolvePost B S g ns tq m r w) := by
  obtain ⟨vn, bm, bt, vs, vts, h⟩ := h
  have hN := h.hN
  obtain ⟨An, cn, rfl⟩ := own_slice h.hn
  have c0 : w.cell? ⟨g, 0, none⟩ = some (.slice An ns.length cn) := by rw [Lib.cell_of_heap h.hg]; rfl
  have c3 : w.cell? ⟨g, 3, none⟩ = some vs := by rw [Lib.cell_of_heap h.hg]; rfl
  have c4 : w.cell? ⟨g, 4, none⟩ = some (.bool false) := by rw [Lib.cell_of_heap h.hg]; rfl
  have cf : ∀ o, w.frozen? ⟨g, o, none⟩ = false := fun o => Lib.frozen_of_heap h.hg o
  have hgl := (h.sB g h.sg)
  have hmk := run_make_row' (P := Try.prog) 56 65 (.slice none 0 0) 24 Try.underlying56 (by kernel_rfl) rfl .i64 .i64 ns.length (by omega) (by omega)
  have H := Aside0.mk h
  have HS := Aside0.mk hs
  clear h hs
  go_enter Try.func16, Try.ntmps16
  go_wp2_with fail
  obtain ⟨W1, hW1⟩ : ∃ W1, (w.setCell ⟨g, 3, none⟩ (.slice (some ⟨w.heap.size, 0, none⟩) ns.length ns.length)).alloc (.cells (madeCells #[.slice none 0 0] ns.length) 65) = W1 := ⟨_, rfl⟩
  rw [hW1]
  have hz1 : W1.heap.size = w.heap.size + 1 := by rw [← hW1]; simp
  have hg1 : W1.heap[g]? = some (.cells #[.slice An ns.length cn, .map (some bm), .slice (some ⟨bt, 0, none⟩) ns.length ns.length, .slice (some ⟨w.heap.size, 0, none⟩) ns.length ns.length, .bool false] 58 (0, 0)) := by
    rw [← hW1, Below.heap_alloc _ _ _ (by simp; exact hgl.2)]
    simp [World.setCell, Array.getElem?_modify, H.out.hg]
  have hbs1 : W1.heap[w.heap.size]? = some (.cells (List.replicate ns.length (Value.slice none 0 0)).toArray 65 (0, 0)) := by
    rw [← hW1, ← made_nil]
    have := heap_alloc_new (w.setCell ⟨g, 3, none⟩ (.slice (some ⟨w.heap.size, 0, none⟩) ns.length ns.length)) (.cells (madeCells #[.slice none 0 0] ns.length) 65)
    rwa [World.size_setCell] at this
  have hch1 : Ch B S w W1 := by rw [← hW1]; exact ((Ch.refl B S w).setCell (p := ⟨g, 3, none⟩) hgl.1 (.inl H.out.sg) _).alloc (by simp; exact hB) _
  have hsame1 : ∀ x, x < w.heap.size → x ≠ g → W1.heap[x]? = w.heap[x]? := fun x hx hn => by
    rw [← hW1, Below.heap_alloc _ _ _ (by simp; exact hx)]
    exact Below.heap_setCell _ _ _ _ hn
  have HG1 := Aside0.mk hg1
  have HBS1 := Aside0.mk hbs1
  have HCH1 := Aside0.mk hch1
  have HSM1 := Aside0.mk hsame1
  clear hW1 hg1 hbs1 hch1 hsame1 hmk c0 c3 c4 cf
  have hmk := run_make_row' (P := Try.prog) 65 4 (.bool false) 1 Try.underlying65 (by kernel_rfl) rfl .i64 .i64 ns.length (by omega) (by omega)
  go_loopg [27] ns.length (fun kq v27 w' => ∃ (i : Nat) (rb : Nat → Nat), v27 = .int .i64 i ∧ Aside0 (i ≤ ns.length ∧ kq = ns.length - i) ∧ Aside0 (w'.heap[w.heap.size]? = some (.cells ((List.range ns.length).map fun x => if x < i then Value.slice (some ⟨rb x, 0, none⟩) ns.length ns.length else Value.slice none 0 0).toArray 65 (0, 0))) ∧
    Aside0 (∀ x, x < i → w.heap.size < rb x ∧ rb x < w'.heap.size ∧ w'.heap[rb x]? = some (.cells (rowA ns.length (fun _ => false)) 4 (0, 0))) ∧ Aside0 (∀ x y, x < i → y < i → rb x = rb y → x = y) ∧ Aside0 (Below w.heap.size W1 w'))
  case atStart => exact ⟨0, fun _ => 0, rfl, ⟨by omega, by omega⟩, ⟨by rw [HBS1.out]; congr 3; apply List.ext_getElem <;> simp⟩, ⟨fun x hx => by omega⟩, ⟨fun x y hx => by omega⟩, ⟨Below.refl _ _⟩⟩
  case round =>
    obtain ⟨i, rb, rfl, HJ, HBS, HRB, HINJ, HBL⟩ := hrel
    obtain ⟨hj1, hj2⟩ := HJ.out
    have hg := (HBL.out.block g hgl.2).trans HG1.out
    have c0 : wr.cell? ⟨g, 0, none⟩ = some (.slice An ns.length cn) := by rw [Lib.cell_of_heap hg]; rfl
    have c3 : wr.cell? ⟨g, 3, none⟩ = some (.slice (some ⟨w.heap.size, 0, none⟩) ns.length ns.length) := by rw [Lib.cell_of_heap hg]; rfl
    have HGR := Aside0.mk hg
    clear hg
    by_cases hi : i < ns.length
    · have cs : wr.cell? ⟨w.heap.size, i, none⟩ = some (.slice none 0 0) := by rw [Lib.cell_of_heap HBS.out]; simp [hi]
      have fs : wr.frozen? ⟨w.heap.size, i, none⟩ = false := Lib.frozen_of_heap HBS.out i
      have hzr := HBL.out.size
      have hgr : g < wr.heap.size := by omega
      have d0 : (wr.alloc (.cells (madeCells #[.bool false] ns.length) 4)).cell? ⟨g, 0, none⟩ = some (.slice An ns.length cn) := (World.cell?_of_block (Below.heap_alloc wr _ _ hgr)).trans c0
      have d3 : (wr.alloc (.cells (madeCells #[.bool false] ns.length) 4)).cell? ⟨g, 3, none⟩ = some (.slice (some ⟨w.heap.size, 0, none⟩) ns.length ns.length) := (World.cell?_of_block (Below.heap_alloc wr _ _ hgr)).trans c3
      have ds : (wr.alloc (.cells (madeCells #[.bool false] ns.length) 4)).cell? ⟨w.heap.size, i, none⟩ = some (.slice none 0 0) := (World.cell?_of_block (Below.heap_alloc wr _ _ (by show w.heap.size < _; omega))).trans cs
      have es : (wr.alloc (.cells (madeCells #[.bool false] ns.length) 4)).frozen? ⟨w.heap.size, i, none⟩ = false := (World.frozen?_of_block (Below.heap_alloc wr _ _ (by show w.heap.size < _; omega))).trans fs
      go_wp2_with fail
      go_region
      have hbl2 : Below w.heap.size wr ((wr.alloc (.cells (madeCells #[.bool false] ns.length) 4)).setCell ⟨w.heap.size, i, none⟩ (.slice (some ⟨wr.heap.size, 0, none⟩) ns.length ns.length)).drew := (((Below.refl w.heap.size wr).alloc (by omega) _).setCell (p := ⟨w.heap.size, i, none⟩) (Nat.le_refl _) _).drew
      have hold : ∀ x, x < wr.heap.size → x ≠ w.heap.size → ((wr.alloc (.cells (madeCells #[.bool false] ns.length) 4)).setCell ⟨w.heap.size, i, none⟩ (.slice (some ⟨wr.heap.size, 0, none⟩) ns.length ns.length)).drew.heap[x]? = wr.heap[x]? := fun x hx hn => (Below.heap_setCell _ ⟨w.heap.size, i, none⟩ _ x hn).trans (Below.heap_alloc wr _ x hx)
      have hnew : ((wr.alloc (.cells (madeCells #[.bool false] ns.length) 4)).setCell ⟨w.heap.size, i, none⟩ (.slice (some ⟨wr.heap.size, 0, none⟩) ns.length ns.length)).drew.heap[wr.heap.size]? = some (.cells (rowA ns.length (fun _ => false)) 4 (0, 0)) := by
        rw [← made_false]
        exact (Below.heap_setCell _ ⟨w.heap.size, i, none⟩ _ _ (by show wr.heap.size ≠ w.heap.size; omega)).trans (heap_alloc_new wr _)
      have hbs2 : ((wr.alloc (.cells (madeCells #[.bool false] ns.length) 4)).setCell ⟨w.heap.size, i, none⟩ (.slice (some ⟨wr.heap.size, 0, none⟩) ns.length ns.length)).drew.heap[w.heap.size]? = some (.cells ((List.range ns.length).map fun x => if x < i + 1 then Value.slice (some ⟨if x = i then wr.heap.size else rb x, 0, none⟩) ns.length ns.length else Value.slice none 0 0).toArray 65 (0, 0)) := by
        have h1 : (wr.alloc (.cells (madeCells #[.bool false] ns.length) 4)).heap[w.heap.size]? = _ := (Below.heap_alloc wr _ _ (by omega)).trans HBS.out
        show ((wr.alloc (.cells (madeCells #[.bool false] ns.length) 4)).setCell ⟨w.heap.size, i, none⟩ (.slice (some ⟨wr.heap.size, 0, none⟩) ns.length ns.length)).heap[w.heap.size]? = _
        rw [blk_set h1]
        congr 2
        apply Array.ext_getElem?
        intro x
        rw [Array.getElem?_setIfInBounds]
        by_cases hx : i = x
        · subst hx; simp [hi]
        · rw [if_neg hx]
          simp only [List.getElem?_toArray, List.getElem?_map]
          by_cases hxn : x < ns.length
          · rw [List.getElem?_range hxn]
            simp only [Option.map_some]
            have hx' : ¬ x = i := fun e => hx e.symm
            by_cases hxi : x < i
            · have hxj : x < i + 1 := by omega
              simp only [hxi, hxj, hx', if_true, if_false]
            · have hxj : ¬ x < i + 1 := by omega
              simp only [hxi, hxj, if_false]
          · rw [List.getElem?_eq_none (by simp; omega)]; rfl
      have HBL2 := Aside0.mk hbl2
      have HOLD := Aside0.mk hold
      have HNEW := Aside0.mk hnew
      have HBS2 := Aside0.mk hbs2
      have hz2 : wr.heap.size < ((wr.alloc (.cells (madeCells #[.bool false] ns.length) 4)).setCell ⟨w.heap.size, i, none⟩ (.slice (some ⟨wr.heap.size, 0, none⟩) ns.length ns.length)).drew.heap.size := (Array.getElem?_eq_some_iff.1 hnew).1
      have HZ2 := Aside0.mk hz2
      clear hbl2 hold hnew hbs2 d0 d3 ds es c0 c3 cs fs hmk hz2
      generalize ((wr.alloc (.cells (madeCells #[.bool false] ns.length) 4)).setCell ⟨w.heap.size, i, none⟩ (.slice (some ⟨wr.heap.size, 0, none⟩) ns.length ns.length)).drew = W2 at HBL2 HOLD HNEW HBS2 HZ2 ⊢
      go_wp2
      go_roundg (gk - 1)
      case measure => have := HJ.out; omega
      case rel =>
        refine ⟨i + 1, fun x => if x = i then wr.heap.size else rb x, by go_num, ⟨by omega, by have := HJ.out; omega⟩, HBS2, ⟨fun x hx => ?_⟩, ⟨fun x y hx hy e => ?_⟩, ⟨HBL.out.trans HBL2.out⟩⟩
        · by_cases he : x = i
          · simp only [if_pos he]; exact ⟨by omega, HZ2.out, HNEW.out⟩
          · simp only [if_neg he]
            obtain ⟨q1, q2, q3⟩ := HRB.out x (by omega)
            exact ⟨q1, by have := HZ2.out; omega, (HOLD.out _ q2 (by omega)).trans q3⟩
        · by_cases hx' : x = i <;> by_cases hy' : y = i
          · omega
          · simp only [if_pos hx', if_neg hy'] at e
            have := (HRB.out y (by omega)).2.1; omega
          · simp only [if_neg hx', if_pos hy'] at e
            have := (HRB.out x (by omega)).2.1; omega
          · simp only [if_neg hx', if_neg hy'] at e
            exact HINJ.out x y (by omega) (by omega) e
    · obtain rfl : i = ns.length := by omega
      have hbs2 : wr.heap[w.heap.size]? = some (.cells ((List.range ns.length).map fun x => Value.slice (some ⟨rb x, 0, none⟩) ns.length ns.length).toArray 65 (0, 0)) := by
        rw [HBS.out]
        congr 3
        exact List.map_congr_left (fun x hx => by rw [if_pos (List.mem_range.1 hx)])
      have hmat : Mat ns.length rb (fun _ _ => false) wr := fun x hx => (HRB.out x hx).2.2
      have hE : Env ns.length g bt w.heap.size rb (.slice An ns.length cn) (.map (some bm)) (.bool false) vts tq wr := {
        hN := by omega
        hg := HGR.out
        hbt := (HBL.out.block bt (H.out.sB bt H.out.st).2).trans ((HSM1.out bt (H.out.sB bt H.out.st).2 (fun e => by have h1 := H.out.hbt; rw [e, H.out.hg] at h1; injection h1 with h1; injection h1 with _ h2; exact absurd h2 (by decide))).trans H.out.hbt)
        hbs := hbs2
        hlen := H.out.vlen
        ng := fun x hx e => by have := (HRB.out x hx).1; omega
        nbt := fun x hx e => by have := (HRB.out x hx).1; have := (H.out.sB bt H.out.st).2; omega
        nbs := fun x hx e => by have := (HRB.out x hx).1; omega
        inj := HINJ.out
        small := fun x _ n hn => H.out.small x n hn
        len := fun x _ => H.out.len x
        reads := fun x u hu => reads_of (H.out.rows x u hu).1 (fun k e => by
          have hS := ((H.out.rows x u hu).2 k e).1
          have hlt := (H.out.sB k hS).2
          refine ⟨(HBL.out.block k hlt).trans (HSM1.out k hlt ?_), fun y hy => by have := (HRB.out y hy).1; omega⟩
          rintro rfl
          exact own_ne_of (H.out.rows x u hu).1 H.out.hg (by decide) e) }
      have hch : Ch B S w wr := HCH1.out.trans (S' := fun x => w.heap.size ≤ x) ⟨HBL.out.mono hB, fun x hx hn => HBL.out.block x (by omega)⟩ (fun x hx => .inr hx)
      have hold : ∀ x, x < w.heap.size → x ≠ g → wr.heap[x]? = w.heap[x]? := fun x hx hn => (HBL.out.block x hx).trans (HSM1.out x hx hn)
      have HM0 := Aside0.mk hmat
      have HE0 := Aside0.mk hE
      have HCH := Aside0.mk hch
      have HOL := Aside0.mk hold
      have hrbs : ∀ x, x < ns.length → w.heap.size < rb x ∧ rb x < wr.heap.size := fun x hx => ⟨(HRB.out x hx).1, (HRB.out x hx).2.1⟩
      have HRBS := Aside0.mk hrbs
      have hzr := HBL.out.size
      clear hbs2 hmat hE hch hold hrbs HBL HSM1 HG1 HBS1 HCH1 HRB HBS hj1 hj2 hi c0 c3 hmk
      obtain ⟨Wl, hWl⟩ : ∃ x, x = wr := ⟨wr, rfl⟩
      subst hWl
      go_wp2_with fail
      go_loopg [4] k (fun kq v4 w' => ∃ (m1 : M) (n : Int), v4 = .int .i64 n ∧ Aside0 (1 ≤ n ∧ n ≤ 1 + ((k - kq : Nat) : Int) ∧ kq ≤ k) ∧ Aside0 (solveL ns.length tq kq m1 n = some (m, r)) ∧ Aside0 (Mat ns.length rb m1 w') ∧ Aside0 (Rows ns.length rb Wl w'))
      case atStart => exact ⟨_, 1, rfl, ⟨by omega, by omega, by omega⟩, HS, HM0, ⟨Rows.refl _ _ _⟩⟩
      case round =>
        obtain ⟨m1, n, rfl, HN, HL, HM, HR⟩ := hrel
        obtain ⟨hn1, hn2, hn3⟩ := HN.out
        have hl := HL.out
        obtain ⟨k1, rfl⟩ : ∃ k1, gk = k1 + 1 := by
          cases gk with
          | zero => simp [solveL] at hl
          | succ k1 => exact ⟨k1, rfl⟩
        rw [solveL] at hl
        have hround := round_any ns.length g bt w.heap.size rb _ _ _ vts tq m1 wr (HE0.out.rows HR.out) HM.out
        by_cases hb : (roundM ns.length tq m1).2 = true
        · rw [if_pos hb] at hl
          have HL2 := Aside0.mk hl
          have HRD := Aside0.mk hround
          have HBB := Aside0.mk hb
          clear hl hround hb HL
          go_wp2_with fail
          refine HRD.out.mono ?_
          rintro e w2 ⟨rfl, hm2, hr2⟩
          rw [HBB.out]
          have HM2 := Aside0.mk hm2
          have HR2 : Aside0 (Rows ns.length rb Wl w2) := ⟨HR.out.trans hr2⟩
          clear hm2 hr2
          go_wp2
          go_roundg k1
          case measure => omega
          case rel => exact ⟨_, n + 1, by first | rfl | go_num, ⟨by omega, by omega, by omega⟩, HL2, HM2, HR2⟩
        · rw [if_neg hb] at hl
          have hb' : (roundM ns.length tq m1).2 = false := by simpa using hb
          obtain ⟨e1, e2⟩ := Prod.mk.inj (Option.some.inj hl)
          have HRD := Aside0.mk hround
          have HBB := Aside0.mk hb'
          have E1 := Aside0.mk e1
          have E2 := Aside0.mk e2
          clear hl hround hb hb' HL e1 e2
          go_wp2_with fail
          refine HRD.out.mono ?_
          rintro e w2 ⟨rfl, hm2, hr2⟩
          rw [HBB.out]
          have hg2 := (hr2.block g HE0.out.ng).trans (HE0.out.rows HR.out).hg
          have f4 : w2.frozen? ⟨g, 4, none⟩ = false := Lib.frozen_of_heap hg2 4
          have c4 : w2.cell? ⟨g, 4, none⟩ = some (.bool false) := by rw [Lib.cell_of_heap hg2]; rfl
          have HG2 := Aside0.mk hg2
          have HM2 := Aside0.mk hm2
          have HR2 : Aside0 (Rows ns.length rb Wl w2) := ⟨HR.out.trans hr2⟩
          clear hm2 hr2 hg2
          go_wp2
          go_ret
          refine ⟨by rw [E2.out]; rfl, ?_, ?_⟩
          · have hzW : (w2.setCell ⟨g, 4, none⟩ (.bool true)).heap.size = Wl.heap.size := by rw [World.size_setCell]; exact HR2.out.size
            have hkeep : ∀ x, S x → x ≠ g → (w2.setCell ⟨g, 4, none⟩ (.bool true)).heap[x]? = w.heap[x]? := fun x hx hn => by
              have hlt := (H.out.sB x hx).2
              rw [Below.heap_setCell _ ⟨g, 4, none⟩ _ x hn, HR2.out.block x (fun y hy e => by have := HRBS.out y hy; omega)]
              exact HOL.out x hlt hn
            have hnm : ∀ {cs : Array Value} {t : Nat} {x : Nat}, w.heap[x]? = some (.cells cs t (0, 0)) → t ≠ 58 → x ≠ g := fun h1 h2 e => by
              subst e
              rw [H.out.hg] at h1
              injection h1 with h1
              injection h1 with _ h3
              exact h2 h3.symm
            have hmg : bm ≠ g := fun e => by
              obtain ⟨D, ⟨es, clock, hb, _⟩, _⟩ := H.out.hm
              rw [e, H.out.hg] at hb
              injection hb with hb
              cases hb
            have hkn : ∀ x, (Value.slice An ns.length cn).ownBlock = some x → (w2.setCell ⟨g, 4, none⟩ (.bool true)).heap[x]? = w.heap[x]? := fun x e => hkeep x (H.out.sn x e) (fun e' => by subst e'; exact own_ne_of H.out.hn H.out.hg (by decide) e)
            refine ⟨_, bm, bt, _, vts, {
              hN := hN
              sB := fun x hx => by
                rcases hx with hx | hx
                · have := H.out.sB x hx; exact ⟨this.1, by rw [hzW]; omega⟩
                · exact ⟨by omega, hx.2⟩
              hg := by rw [blk_set HG2.out]; rfl
              sg := .inl H.out.sg
              sm := .inl H.out.sm
              st := .inl H.out.st
              hn := own_heap H.out.hn hkn
              sn := fun x e => .inl (H.out.sn x e)
              hm := H.out.hm.heap (hkeep bm H.out.sm hmg)
              hbt := (hkeep bt H.out.st (hnm H.out.hbt (by decide))).trans H.out.hbt
              vlen := H.out.vlen
              rows := fun i u hu => ⟨own_heap (H.out.rows i u hu).1 (fun x e => hkeep x ((H.out.rows i u hu).2 x e).1 (fun e' => by subst e'; exact own_ne_of (H.out.rows i u hu).1 H.out.hg (by decide) e)), fun x e => ⟨.inl ((H.out.rows i u hu).2 x e).1, ((H.out.rows i u hu).2 x e).2⟩⟩
              apart := H.out.apart
              small := H.out.small
              len := H.out.len
              sets := fun m' hm' => by
                obtain rfl := Option.some.inj hm'
                refine ⟨w.heap.size, rb, rfl, {
                  sb := .inr ⟨Nat.le_refl _, by rw [hzW]; omega⟩
                  hb := ?_
                  sr := fun x hx => .inr (by have := HRBS.out x hx; rw [hzW]; omega)
                  inj := HE0.out.inj
                  mat := ?_ }⟩
                · rw [Below.heap_setCell _ ⟨g, 4, none⟩ _ _ (by show w.heap.size ≠ g; omega)]
                  exact (HR2.out.block _ HE0.out.nbs).trans HE0.out.hbs
                · intro x hx
                  rw [Below.heap_setCell _ ⟨g, 4, none⟩ _ _ (fun e => HE0.out.ng x hx e.symm), HM2.out x hx, ← E1.out] }⟩
          · exact (HCH.out.rows HR2.out (fun x hx => by have := HRBS.out x hx; omega) (fun x hx => .inr (by have := HRBS.out x hx; omega))).setCell (p := ⟨g, 4, none⟩) hgl.1 (.inl H.out.sg) _
end Go.Proofs.Ytiljegeodokfmaa.Fx
