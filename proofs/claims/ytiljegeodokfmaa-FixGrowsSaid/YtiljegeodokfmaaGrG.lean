/- fix, seventh part: in, AppendSeq, Collect, Set. -/
import Derived.Test.YtiljegeodokfmaaGrF
import Derived.RangeFuncBox
namespace Go.Proofs.Ytiljegeodokfmaa.Fx
open Go Go.RowKit Go.Proofs.YtiljegeodokfmaaW.PrintWords Go.Proofs.YtiljegeodokfmaaW.PrintLast Go.Proofs.YtiljegeodokfmaaW.PrintMore Go.Proofs.Ytiljegeodokfmaa.Rg
attribute [local go_sem] Oper.semAt_some
set_option linter.unusedVariables false
set_option linter.unusedSimpArgs false

/-- What stood stands. -/
def Old (w W : World) : Prop := Keep (fun _ => False) w W
theorem Old.refl (w : World) : Old w w := Keep.refl _ w
theorem Old.alloc {w W : World} (h : Old w W) (o : Obj) : Old w (W.alloc o) :=
  ⟨by have := h.1; simp; omega, fun k hk hc => (Below.heap_alloc W o k (Nat.lt_of_lt_of_le hk h.1)).trans (h.2 k hk hc)⟩
/-- An iterator's closure that gives ys. P: what it leaves behind. -/
def Src (B : Nat) (S N : Nat → Prop) (w : World) (lb : Array Value) (ys : List Int) (P : Nat → World → Prop) : Prop :=
  ∀ (n : Nat), 3 ≤ n → ∀ (W : World), Old w W → ∀ (l : Nat) (C : Nat → Prop), (∀ k, C k → k < W.heap.size ∧ ¬ N k) → ∀ (I Ix : World → List Int → World → Prop),
    (∀ W1, Ch B S W W1 → I W1 [] W1) →
    (∀ W1 pre y W2, Ch B S W W1 → I W1 pre W2 → Keep C W1 W2 → pre.length < 1000 → YieldAt Fence.wide (n - 1) Try.prog l #[.int .i64 y] W2 fun e W' => (e = .returned (.bool true) ∧ I W1 (pre ++ [y]) W' ∧ Keep C W1 W') ∨ (e = .returned (.bool false) ∧ Ix W1 (pre ++ [y]) W' ∧ Keep C W1 W')) →
    CallsIn Fence.wide n Try.prog 42 (#[.func (.yield l) #[] #[]] ++ lb) W fun e W' => (∃ v, e = .returned v) ∧ ∃ W1, Ch B S W W1 ∧ P W.heap.size W1 ∧ Keep C W1 W' ∧ (I W1 ys W' ∨ ∃ pre, pre <+: ys ∧ Ix W1 pre W')

def boxG (w : World) (v : Option Addr) (x : Int) : World := (w.alloc (.cells #[.pointer v] 25)).alloc (.cells #[.int .i64 x] 3)
theorem in_any (n : Nat) (v : Option Addr) (x : Int) (w : World) :
    CallsIn Fence.wide n Try.prog 28 #[.pointer v, .int .i64 x] w fun e w' => e = .returned (.func (.func 42) #[] #[.pointer (some ⟨w.heap.size, 0, none⟩), .pointer (some ⟨w.heap.size + 1, 0, none⟩)]) ∧ w' = boxG w v x := by
  refine callsIn_of_wp Try.func28 rfl trivial ?_ rfl
  simp only [Try.ntmps28, List.size_toArray, List.length_cons, List.length_nil, Nat.reduceAdd, Nat.reduceSub, Array.replicate_succ, Array.replicate_zero, List.push_toArray, List.append_toArray, List.nil_append, List.cons_append]
  gi_wp2
  go_ret
  exact ⟨rfl, rfl⟩

theorem G.sB {B : Nat} {S : Nat → Prop} {g : Nat} {ns : List Int} {tq : Nat → List Nat} {sv : Option M} {w : World} (h : G B S g ns tq sv w) : ∀ k, S k → B ≤ k ∧ k < w.heap.size := by
  obtain ⟨vn, bm, bt, vs, vts, h⟩ := h
  exact h.sB
theorem in_src (B : Nat) (S : Nat → Prop) (g : Nat) (ns : List Int) (tq : Nat → List Nat) (sv : Option M) (m : M) (x : Int) (hx : (Lit.int .i64 x).wf = true) (w : World) (hB : B ≤ w.heap.size) (h : G B S g ns tq sv w) (hs : Sol ns tq sv m) :
    Src B S (fun k => S k ∨ k = w.heap.size ∨ k = w.heap.size + 1) (boxG w (some ⟨g, 0, none⟩) x) #[.pointer (some ⟨w.heap.size, 0, none⟩), .pointer (some ⟨w.heap.size + 1, 0, none⟩)] (setOf ns m x) (fun z W1 => G B (fun k => S k ∨ (z ≤ k ∧ k < W1.heap.size)) g ns tq (some m) W1) := by
  intro n hn W hW l C hC I Ix hI hY
  have hz : (boxG w (some ⟨g, 0, none⟩) x).heap.size = w.heap.size + 2 := by simp [boxG]
  have hz2 := hW.1
  have hold : ∀ k, k < w.heap.size → W.heap[k]? = w.heap[k]? := fun k hk => (hW.2 k (by omega) (fun h => h)).trans ((Below.heap_alloc _ _ k (by simp; omega)).trans (Below.heap_alloc _ _ k hk))
  have hsB := h.sB
  have hG := h.heap (w' := W) (by omega) (fun k hk => hold k (hsB k hk).2)
  have c0 : W.cell? ⟨w.heap.size, 0, none⟩ = some (.pointer (some ⟨g, 0, none⟩)) := by
    rw [World.cell?_of_block (hW.2 w.heap.size (by omega) (fun h => h))]
    exact (World.cell?_of_block (Below.heap_alloc _ _ _ (by simp))).trans (Boxed.new w _ _).cell
  have c1 : W.cell? ⟨w.heap.size + 1, 0, none⟩ = some (.int .i64 x) := by
    rw [World.cell?_of_block (hW.2 (w.heap.size + 1) (by omega) (fun h => h))]
    have := World.alloc_heap_new (w.alloc (.cells #[.pointer (some ⟨g, 0, none⟩)] 25)) (.cells #[.int .i64 x] 3)
    rw [World.size_alloc] at this
    exact (show Boxed _ (w.heap.size + 1) _ _ from this).cell
  exact in1_any n hn B S g ns tq sv m x hx l w.heap.size (w.heap.size + 1) W (by omega) hG hs c0 c1 (fun e => by have := (hsB _ e).2; omega) (fun e => by have := (hsB _ e).2; omega) C
    (fun k hk => by have := hC k hk; exact ⟨this.1, fun e => this.2 (.inl e), fun e => this.2 (.inr (.inl e)), fun e => this.2 (.inr (.inr e))⟩) I Ix hI (fun W1 pre y W2 h1 h2 h3 h4 _ => hY W1 pre y W2 h1 h2 h3 h4)

theorem Keep.trans {C : Nat → Prop} {a b c : World} (h : Keep C a b) (k : Keep C b c) : Keep C a c :=
  ⟨Nat.le_trans h.1 k.1, fun x hx hc => (k.2 x (Nat.lt_of_lt_of_le hx h.1) hc).trans (h.2 x hx hc)⟩
theorem Keep.putObj {C : Nat → Prop} {a b : World} (h : Keep C a b) {l : Nat} (hl : C l) (o : Obj) : Keep C a (b.putObj l o) :=
  ⟨by simpa [World.putObj] using h.1, fun x hx hc => (World.putObj_heap_other (fun e => by subst e; exact hc hl)).trans (h.2 x hx hc)⟩
theorem foldl_one (t : Array Value) (p : Tmp) (v : Value) : Array.foldl (fun t (x : Tmp × Value) => match x with | (p, v) => t.setIfInBounds p v) t (#[p].zip #[v]) = t.setIfInBounds p v := by simp
/-- How the body may leave a round. -/
def BPost (Cu : Nat → Prop) (W1 W2 : World) (Go : World → Prop) (Stop : Code → World → Prop) : Exit → Act → World → Prop
  | .normal, _, W3 => KeepsOthers W2 W3 ∧ (∀ k, k < W1.heap.size → ¬ Cu k → W3.heap[k]? = W2.heap[k]?) ∧ Go W3
  | .ret, _, W3 => KeepsOthers W2 W3 ∧ (∀ k, k < W1.heap.size → ¬ Cu k → W3.heap[k]? = W2.heap[k]?) ∧ Stop .ret W3
  | _, _, _ => False
theorem src_run {n : Nat} (hn : 4 ≤ n) {B : Nat} {S N : Nat → Prop} {w0 : World} {lb : Array Value} {ys : List Int} {P : Nat → World → Prop} (hsrc : Src B S N w0 lb ys P) {g : Operand} {p : Tmp} {assign body : Code} {Q : Exit → Act → World → Prop} {a : Act} {w : World} (hw : Old w0 w) (hB : B ≤ w.heap.size) (hS : ∀ k, S k → k < w0.heap.size)
    (hg : a.eval g = .func (.func 42) #[] lb) (Cu : Nat → Prop) (hCu : ∀ k, Cu k → k < w.heap.size ∧ ¬ N k) (hN : ∀ k, N k → k < w0.heap.size) (U : World → List Int → World → Prop) (Ux : Code → World → List Int → World → Prop)
    (hU : ∀ W1 pre A l o o', w.heap.size ≤ l → A.heap[l]? = some o → o.isCells = false → U W1 pre A → U W1 pre (A.putObj l o'))
    (hUx : ∀ c W1 pre A l o o', w.heap.size ≤ l → A.heap[l]? = some o → o.isCells = false → Ux c W1 pre A → Ux c W1 pre (A.putObj l o'))
    (h0 : ∀ W1, Ch B S w W1 → w.heap.size + 2 ≤ W1.heap.size → U W1 [] W1)
    (a1 : Int → Act) (hassign : ∀ y l W (K : Act → World → Prop), K (a1 y) W → assign.wpIn (Fence.wide.inRound l) (n - 1 - 1) Try.prog (Exit.then K (fun _ _ _ => False)) { tmps := a.tmps.setIfInBounds p (.int .i64 y), defers := [] } W)
    (hbody : ∀ l W1 pre y W2, w.heap.size + 2 ≤ W1.heap.size → W1.heap.size ≤ W2.heap.size → pre.length < 1000 → U W1 pre W2 → body.wpIn (Fence.wide.inRound l) (n - 1 - 1) Try.prog (BPost Cu W1 W2 (U W1 (pre ++ [y])) (fun c => Ux c W1 (pre ++ [y]))) (a1 y) W2)
    (done : ∀ W1 W', Ch B S w W1 → P (w.heap.size + 2) W1 → w.heap.size + 2 ≤ W1.heap.size → Keep (fun k => Cu k ∨ k = w.heap.size ∨ k = w.heap.size + 1) W1 W' → U W1 ys W' → W'.heap[w.heap.size]? = some (.deferred (some [])) → Q .normal { a with defers := { target := .collected w.heap.size, args := #[] } :: a.defers } W')
    (stop : ∀ c W1 W' pre, Ch B S w W1 → P (w.heap.size + 2) W1 → w.heap.size + 2 ≤ W1.heap.size → Keep (fun k => Cu k ∨ k = w.heap.size ∨ k = w.heap.size + 1) W1 W' → pre <+: ys → Ux c W1 pre W' → W'.heap[w.heap.size]? = some (.deferred (some [])) → c.wpIn Fence.wide n Try.prog Q { a with defers := { target := .collected w.heap.size, args := #[] } :: a.defers } W') :
    (Code.rangeFunc g #[p] assign body).wpIn Fence.wide n Try.prog Q a w := by
  refine range_run rfl (by omega) hg trivial (enters_of Try.func42 (by kernel_rfl) rfl) ?_
  intro fn hfn
  obtain ⟨W, hW⟩ : ∃ W, (w.alloc (.deferred (some []))).alloc (.loop (rec_ fn a.tmps #[p] assign body w.heap.size .ready none)) = W := ⟨_, rfl⟩
  have hsz : W.heap.size = w.heap.size + 2 := by rw [← hW]; simp
  have hL : W.heap[w.heap.size + 1]? = some (.loop (rec_ fn a.tmps #[p] assign body w.heap.size .ready none)) := by
    rw [← hW]
    have := World.alloc_heap_new (w.alloc (.deferred (some []))) (.loop (rec_ fn a.tmps #[p] assign body w.heap.size .ready none))
    rwa [World.size_alloc] at this
  have hD : W.heap[w.heap.size]? = some (.deferred (some [])) := by rw [← hW]; exact (Below.heap_alloc _ _ _ (by simp)).trans (World.alloc_heap_new w _)
  have hOld : Old w0 W := by rw [← hW]; exact (hw.alloc _).alloc _
  have hCh : Ch B S w W := by rw [← hW]; exact ((Ch.refl B S w).alloc hB _).alloc (by simp; omega) _
  have hw1 := hw.1
  rw [hW]
  refine (hsrc (n - 1) (by omega) W hOld (w.heap.size + 1) (fun k => Cu k ∨ k = w.heap.size ∨ k = w.heap.size + 1) (fun k hk => ?_)
    (fun W1 pre A => U W1 pre A ∧ A.heap[w.heap.size + 1]? = some (.loop (rec_ fn a.tmps #[p] assign body w.heap.size .ready none)) ∧ A.heap[w.heap.size]? = some (.deferred (some [])))
    (fun W1 pre A => ∃ c, Ux c W1 pre A ∧ A.heap[w.heap.size + 1]? = some (.loop (rec_ fn a.tmps #[p] assign body w.heap.size .done (some c))) ∧ A.heap[w.heap.size]? = some (.deferred (some []))) ?_ ?_).mono ?_
  · rcases hk with h | rfl | rfl
    · have := hCu k h; exact ⟨by omega, this.2⟩
    · exact ⟨by omega, fun e => by have := hN _ e; omega⟩
    · exact ⟨by omega, fun e => by have := hN _ e; omega⟩
  · intro W1 h1
    have := h1.below.size
    exact ⟨h0 W1 (hCh.trans h1 (fun x hx => .inl hx)) (by omega), (h1.keep _ (by omega) (fun e => by have := hS _ e; omega)).trans hL, (h1.keep _ (by omega) (fun e => by have := hS _ e; omega)).trans hD⟩
  · rintro W1 pre y W2 h1 ⟨hu, hl, hd⟩ hk hlen
    have hs1 := h1.below.size
    have hlt : w.heap.size + 1 < W2.heap.size := (Array.getElem?_eq_some_iff.1 hl).1
    obtain ⟨Wb, hWb⟩ : ∃ Wb, W2.putObj (w.heap.size + 1) (.loop (rec_ fn a.tmps #[p] assign body w.heap.size .busy none)) = Wb := ⟨_, rfl⟩
    have hkb : Keep (fun k => Cu k ∨ k = w.heap.size ∨ k = w.heap.size + 1) W1 Wb := by rw [← hWb]; exact hk.putObj (.inr (.inr rfl)) _
    have hub : U W1 pre Wb := by rw [← hWb]; exact hU _ _ _ _ _ _ (by omega) hl rfl hu
    refine (yield_at hfn (by omega) #[.int .i64 y] rfl W2 hl hd (a1 y) (fun K hK => by have := hassign y (w.heap.size + 1) W2 K hK; rwa [← foldl_one a.tmps p (.int .i64 y)] at this) (fun W3 => (W1.heap.size ≤ W3.heap.size ∧ ∀ k, k < W1.heap.size → ¬ Cu k → W3.heap[k]? = Wb.heap[k]?) ∧ U W1 (pre ++ [y]) W3) (fun c W3 => (W1.heap.size ≤ W3.heap.size ∧ ∀ k, k < W1.heap.size → ¬ Cu k → W3.heap[k]? = Wb.heap[k]?) ∧ Ux c W1 (pre ++ [y]) W3) ?_).mono ?_
    · rw [hWb]
      refine wpIn_mono (hbody _ W1 pre y Wb (by omega) hkb.1 hlen hub) ?_
      rintro e a3 W3 hp
      cases e with
      | normal => exact ⟨hp.1, ⟨Nat.le_trans hkb.1 hp.1.size, hp.2.1⟩, hp.2.2⟩
      | ret => exact ⟨hp.1, ⟨Nat.le_trans hkb.1 hp.1.size, hp.2.1⟩, hp.2.2⟩
      | exit id => exact hp.elim
      | goto t => exact hp.elim
      | panic ch => exact hp.elim
      | outgrown => exact hp.elim
    · have fin : ∀ (W3 : World) (o : Obj), (W1.heap.size ≤ W3.heap.size ∧ ∀ k, k < W1.heap.size → ¬ Cu k → W3.heap[k]? = Wb.heap[k]?) → W3.heap[w.heap.size + 1]? = some (.loop (rec_ fn a.tmps #[p] assign body w.heap.size .busy none)) → Keep (fun k => Cu k ∨ k = w.heap.size ∨ k = w.heap.size + 1) W1 (W3.putObj (w.heap.size + 1) o) := by
        intro W3 o hk3 hl3
        exact Keep.putObj ⟨hk3.1, fun k h1 h2 => (hk3.2 k h1 (fun h => h2 (.inl h))).trans (hkb.2 k h1 h2)⟩ (.inr (.inr rfl)) _
      rintro e W' (⟨rfl, W3, ⟨hk3, hu3⟩, rfl, hl3, hd3⟩ | ⟨rfl, c, W3, ⟨hk3, hu3⟩, rfl, hl3, hd3⟩)
      · exact .inl ⟨rfl, ⟨hU _ _ _ _ _ _ (by omega) hl3 rfl hu3, World.putObj_heap_same (Array.getElem?_eq_some_iff.1 hl3).1, (World.putObj_heap_other (by omega)).trans hd3⟩, fin _ _ hk3 hl3⟩
      · exact .inr ⟨rfl, ⟨c, hUx _ _ _ _ _ _ _ (by omega) hl3 rfl hu3, World.putObj_heap_same (Array.getElem?_eq_some_iff.1 hl3).1, (World.putObj_heap_other (by omega)).trans hd3⟩, fin _ _ hk3 hl3⟩
  · rintro e W' ⟨hv, W1, h1, hP, hk, (⟨hu, hl, hd⟩ | ⟨pre, hpre, c, hu, hl, hd⟩)⟩
    · have hs1 := h1.below.size
      refine ⟨hv, .inl ⟨hl, fun o => done W1 _ (hCh.trans h1 (fun x hx => .inl hx)) (hsz ▸ hP) (by omega) (hk.putObj (.inr (.inr rfl)) _) (hU _ _ _ _ _ _ (by omega) hl rfl hu) ((World.putObj_heap_other (by omega)).trans hd)⟩⟩
    · have hs1 := h1.below.size
      refine ⟨hv, .inr ⟨c, hl, fun o => stop c W1 _ pre (hCh.trans h1 (fun x hx => .inl hx)) (hsz ▸ hP) (by omega) (hk.putObj (.inr (.inr rfl)) _) hpre (hUx _ _ _ _ _ _ _ (by omega) hl rfl hu) ((World.putObj_heap_other (by omega)).trans hd)⟩⟩

theorem own_base {W : World} {base base' : Nat} {e : TypeId} {size : Nat} {v : Value} {k : Nat} {xs : List Value} (h : W.ownsRow base e size v k xs) (hb : base' ≤ base) : W.ownsRow base' e size v k xs := by
  refine ⟨h.1, ?_⟩
  rcases h.2 with hn | ⟨g, cap, cur, hv, hbg, rest⟩
  · exact .inl hn
  · exact .inr ⟨g, cap, cur, hv, Nat.le_trans hb hbg, rest⟩
/-- What an AppendSeq has gathered. -/
def Gath (Bs n0 : Nat) (W1 : World) (ys : List Int) (W : World) : Prop := ∃ v, Boxed W Bs 22 v ∧ W.ownsRow W1.heap.size 3 1 v ys.length (nums .i64 ys) ∧ Below n0 W1 W
set_option maxRecDepth 100000 in
set_option maxHeartbeats 4000000 in
theorem append_any (n : Nat) (hn : 5 ≤ n) (B : Nat) (S N : Nat → Prop) (w : World) (lb : Array Value) (ys : List Int) (P : Nat → World → Prop) (hB : B ≤ w.heap.size) (hS : ∀ k, S k → k < w.heap.size) (hN : ∀ k, N k → k < w.heap.size) (hsrc : Src B S N w lb ys P) :
    CallsIn Fence.wide n Try.prog 41 #[.slice none 0 0, .func (.func 42) #[] lb] w fun e w' => ∃ v z W1, e = .returned v ∧ w.heap.size ≤ z ∧ z ≤ W1.heap.size ∧ P z W1 ∧ w'.ownsRow W1.heap.size 3 1 v ys.length (nums .i64 ys) ∧ Ch B S w w' ∧ W1.heap.size ≤ w'.heap.size ∧ ∀ k, (k < w.heap.size ∨ z ≤ k) → k < W1.heap.size → w'.heap[k]? = W1.heap[k]? := by
  refine callsIn_of_wp_marks Try.func41 rfl trivial ?_ rfl
  simp only [Try.ntmps41, List.size_toArray, List.length_cons, List.length_nil, Nat.reduceAdd, Nat.reduceSub, Array.replicate_succ, Array.replicate_zero, List.push_toArray, List.append_toArray, List.nil_append, List.cons_append]
  gi_wp2
  obtain ⟨W0, hW0⟩ : ∃ W0, w.alloc (.cells #[.slice none 0 0] 22) = W0 := ⟨_, rfl⟩
  have hs0 : W0.heap.size = w.heap.size + 1 := by rw [← hW0]; simp
  have hv0 : Boxed W0 w.heap.size 22 (.slice none 0 0) := by rw [← hW0]; exact Boxed.new w _ _
  have hOld0 : Old w W0 := by rw [← hW0]; exact (Old.refl w).alloc _
  have hB0 : Ch B S w W0 := by rw [← hW0]; exact (Ch.refl B S w).alloc hB _
  rw [hW0]
  clear hW0
  have HV0 := Aside0.mk hv0
  have HSRC := Aside0.mk hsrc
  clear hv0 hsrc
  refine src_run (by omega) HSRC.out hOld0 (by omega) hS rfl (fun k => k = w.heap.size) (fun k hk => ⟨by omega, fun e => by have := hN _ e; omega⟩) hN (Gath w.heap.size w.heap.size) (fun _ _ _ _ => False) ?hU (fun c W1 pre A l o o' _ _ _ h => h) ?h0
    (fun y => { tmps := #[.slice none 0 0, .func (.func 42) #[] lb, .pointer (some ⟨w.heap.size, 0, none⟩), undef, .slice none 0 0, .int .i64 y, .func (.func 42) #[] lb, .int .i64 y, undef, undef, undef, undef, undef], defers := [] }) ?assign ?body ?done ?stop
  case hU =>
    rintro W1 pre A l o o' hl ho hoc ⟨v, hv, hrow, hb⟩
    refine ⟨v, (World.putObj_heap_other (by omega)).trans hv, ownsRow_putObj hrow o' ho hoc, hb.grown (grownBy_putObj' _ _ _) ?_ (fun k e => by cases e; omega)⟩
    have := hv.lt; omega
  case h0 =>
    intro W1 h1 _
    exact ⟨_, (h1.keep _ (by omega) (fun e => by have := hS _ e; omega)).trans HV0.out, ⟨rfl, .inl ⟨rfl, rfl⟩⟩, Below.refl _ _⟩
  case assign =>
    intro y l W K hK
    gi_wp2
    exact hK
  case body =>
    rintro l W1 pre y W2 hz1 hz2 hlen ⟨v, hv, hrow, hb⟩
    obtain ⟨i0, hi0, hiz, hi1, hi2⟩ := info_parts infoInt
    have hcv := hv.cell
    have hfv := hv.frozen
    gi_wp2_with (gi_at_builtin; refine wpListIn_append_own _ rfl _ _ 22 rfl W1.heap.size 3 i0 (.int .i64 0) 1 8 Try.underlying22 hi0 hiz hi1 hi2 rfl (by decide) _ _ _ rfl (hrow.alloc _) ⟨W2.heap.size, 0, none⟩ 1 1 [.int .i64 y] rfl rfl (cell_one_new _ _ _) (by simp [Value.oneCell']) (by unfold maxLen; omega) (by omega) (by simp; omega) ?_; intro v' w3 hown' hgrow hnil; obtain ⟨hbx, hbx2, hown2, hko, hbl⟩ := hv.appended (n₀ := w.heap.size) (e := 3) (by decide) (own_base hrow (by omega)) (by omega) (Nat.le_refl _) (own_base hown' (by omega)) hgrow; have hcv3 := hbx.cell; have hfv3 := hbx.frozen; obtain ⟨A', c', e'⟩ := own_slice hown'; subst e')
    have hK3 : ∀ k, k < W1.heap.size → ¬ k = w.heap.size → (w3.setCell ⟨w.heap.size, 0, none⟩ (.slice A' (pre.length + 1) c')).heap[k]? = W2.heap[k]? := fun k h1 h2 =>
      (Below.heap_setCell w3 ⟨w.heap.size, 0, none⟩ _ k h2).trans ((hgrow.block k (by simp; omega) (fun e => by have := (hrow.lt k e.symm).1; omega)).trans (Below.heap_alloc _ _ k (by omega)))
    refine ⟨hko, hK3, _, hbx2, ?_, hb.trans hbl⟩
    rw [List.length_append, List.length_singleton, show nums .i64 (pre ++ [y]) = nums .i64 pre ++ [.int .i64 y] by simp [nums]]
    exact hown'.kept (grownBy_setCell' w3 w.heap.size _) (.inr (hbx.not_row (by decide) hown').symm)
  case done =>
    rintro W1 W' h1 hP hz1 hk ⟨v, hv, hrow, hb⟩ hD
    have hcv := hv.cell
    have hfv := hv.frozen
    have HK := Aside0.mk hk
    have HP := Aside0.mk hP
    gi_wp2
    refine ⟨by simp, .inl ⟨_, _, rfl, run_takeDeferred hD, ?_⟩⟩
    have hg := grownBy_putObj' W' W0.heap.size (.deferred none)
    refine ⟨_, results_tmp rfl _ _ _, v, _, W1, rfl, ?_, ?_, HP.out, ownsRow_putObj hrow _ hD rfl, ?_, ?_, ?_⟩
    · omega
    · omega
    · have hbb : Below w.heap.size W1 (W'.putObj W0.heap.size (.deferred none)) := hb.grown hg (by have := hk.1; omega) (fun k e => by cases e; omega)
      exact (hB0.trans h1 (fun x h => .inl h)).trans (S' := fun k => w.heap.size ≤ k) ⟨hbb.mono hB, fun k h1 h2 => hbb.block k (by omega)⟩ (fun x h => .inr h)
    · exact Nat.le_trans HK.out.1 hg.size
    · intro k h2 h3
      exact (World.putObj_heap_other (by omega)).trans (HK.out.2 k h3 (by omega))
  case stop => exact fun c W1 W' pre _ _ _ _ _ h _ => h.elim

theorem collect_any (n : Nat) (hn : 6 ≤ n) (B : Nat) (S N : Nat → Prop) (w : World) (lb : Array Value) (ys : List Int) (P : Nat → World → Prop) (hB : B ≤ w.heap.size) (hS : ∀ k, S k → k < w.heap.size) (hN : ∀ k, N k → k < w.heap.size) (hsrc : Src B S N w lb ys P) :
    CallsIn Fence.wide n Try.prog 27 #[.func (.func 42) #[] lb] w fun e w' => ∃ v z W1, e = .returned v ∧ w.heap.size ≤ z ∧ z ≤ W1.heap.size ∧ P z W1 ∧ w'.ownsRow W1.heap.size 3 1 v ys.length (nums .i64 ys) ∧ Ch B S w w' ∧ W1.heap.size ≤ w'.heap.size ∧ ∀ k, (k < w.heap.size ∨ z ≤ k) → k < W1.heap.size → w'.heap[k]? = W1.heap[k]? := by
  refine callsIn_of_wp Try.func27 rfl trivial ?_ rfl
  simp only [Try.ntmps27, List.size_toArray, List.length_cons, List.length_nil, Nat.reduceAdd, Nat.reduceSub, Array.replicate_succ, Array.replicate_zero, List.push_toArray, List.append_toArray, List.nil_append, List.cons_append]
  gi_wp2_with (refine ⟨trivial, fun _ => by omega, ?_⟩; refine (append_any (n - 1) (by omega) B S N w lb ys P hB hS hN hsrc).mono ?_; rintro e w' ⟨v, z, W1, rfl, h1, h2, h3, h4, h5, h6, h7⟩)
  go_ret
  exact ⟨v, z, W1, rfl, h1, h2, h3, h4, h5, h6, h7⟩

/-- A graph after a question. -/
def Then (B : Nat) (S : Nat → Prop) (g : Nat) (ns : List Int) (tq : Nat → List Nat) (m : M) (w w' : World) : Prop := ∃ S' : Nat → Prop, (∀ k, S' k → S k ∨ w.heap.size ≤ k) ∧ G B S' g ns tq (some m) w' ∧ Ch B S w w'
/-- Set's answer: a list of its own, apart from the graph. -/
def SetPost (B : Nat) (S : Nat → Prop) (g : Nat) (ns : List Int) (tq : Nat → List Nat) (m : M) (ys : List Int) (w : World) (v : Value) (w' : World) : Prop := ∃ S' : Nat → Prop, (∀ k, S' k → S k ∨ w.heap.size ≤ k) ∧ G B S' g ns tq (some m) w' ∧ Ch B S w w' ∧ w'.ownsRow w.heap.size 3 1 v ys.length (nums .i64 ys) ∧ ∀ k, v.ownBlock = some k → ¬ S' k
theorem set_any (B : Nat) (S : Nat → Prop) (g : Nat) (ns : List Int) (tq : Nat → List Nat) (sv : Option M) (m : M) (x : Int) (hx : (Lit.int .i64 x).wf = true) (w : World) (hB : B ≤ w.heap.size) (h : G B S g ns tq sv w) (hs : Sol ns tq sv m) :
    Calls Try.prog 13 #[.pointer (some ⟨g, 0, none⟩), .int .i64 x] w fun e w' => ∃ v, e = .returned v ∧ SetPost B S g ns tq m (setOf ns m x) w v w' := by
  refine (callsIn_wide (n := 8)).1 ?_
  have hsrc := in_src B S g ns tq sv m x hx w hB h hs
  have hsB := h.sB
  refine callsIn_of_wp Try.func13 rfl trivial ?_ rfl
  simp only [Try.ntmps13, List.size_toArray, List.length_cons, List.length_nil, Nat.reduceAdd, Nat.reduceSub, Array.replicate_succ, Array.replicate_zero, List.push_toArray, List.append_toArray, List.nil_append, List.cons_append]
  have HS := Aside0.mk hsrc
  have HB := Aside0.mk hsB
  clear hsrc h hs hsB
  gi_wp2_with (first
    | (refine ⟨trivial, ?_⟩; gi_at_call 28; refine (in_any _ _ x _).mono ?_; rintro e w' ⟨rfl, rfl⟩)
    | (refine ⟨trivial, ?_⟩; gi_at_call 27; refine (collect_any _ (by omega) B S _ _ _ _ _ (by simp [boxG]; omega) (fun k hk => by have := (HB.out k hk).2; simp [boxG]; omega) (fun k hk => by simp [boxG]; rcases hk with hk | rfl | rfl; (have := (HB.out k hk).2; omega); omega; omega) HS.out).mono ?_; rintro e w' ⟨v, z, W1, rfl, h1, h2, h3, h4, h5, h6, h7⟩))
  have hzb : (boxG w (some ⟨g, 0, none⟩) x).heap.size = w.heap.size + 2 := by simp [boxG]
  have hbox : Ch B S w (boxG w (some ⟨g, 0, none⟩) x) := ((Ch.refl B S w).alloc hB _).alloc (by simp; omega) _
  have h3' : G B (fun k => S k ∨ (z ≤ k ∧ k < W1.heap.size)) g ns tq (some m) W1 := h3
  go_ret
  refine ⟨v, rfl, fun k => S k ∨ (z ≤ k ∧ k < W1.heap.size), fun k hk => hk.elim .inl (fun hk => .inr (by omega)), h3'.heap h6 (fun k hk => h7 k ?_ (h3'.sB k hk).2), hbox.trans h5 (fun k hk => .inl hk), own_base h4 (by omega), fun k e hk => ?_⟩
  · rcases hk with hk | hk
    · have := (HB.out k hk).2; exact .inl (by omega)
    · exact .inr hk.1
  · have := (h3'.sB k hk).2
    have := (h4.lt k e).1
    omega

theorem then_of {B : Nat} {S : Nat → Prop} {g : Nat} {ns : List Int} {tq : Nat → List Nat} {m : M} {w W1 W' : World} {z : Nat} (hB : B ≤ w.heap.size) (hS : ∀ k, S k → k < w.heap.size) (h1 : Ch B S w W1) (hP : G B (fun k => S k ∨ (z ≤ k ∧ k < W1.heap.size)) g ns tq (some m) W1) (hz : w.heap.size ≤ z)
    (hb : Below w.heap.size W1 W') (hk : ∀ k, k < W1.heap.size → z ≤ k → W'.heap[k]? = W1.heap[k]?) : Then B S g ns tq m w W' :=
  ⟨_, fun k hk => hk.elim .inl (fun hk => .inr (by omega)), hP.heap hb.size (fun k hk' => hk'.elim (fun h => hb.block k (hS k h)) (fun h => hk k h.2 h.1)), h1.trans (S' := fun k => w.heap.size ≤ k) ⟨hb.mono hB, fun k h1 h2 => hb.block k (by omega)⟩ (fun x h => .inr h)⟩

set_option maxRecDepth 100000 in
set_option maxHeartbeats 4000000 in
theorem has_any (B : Nat) (S : Nat → Prop) (g : Nat) (ns : List Int) (tq : Nat → List Nat) (sv : Option M) (m : M) (k x : Int) (hx : (Lit.int .i64 x).wf = true) (w : World) (hB : B ≤ w.heap.size) (h : G B S g ns tq sv w) (hs : Sol ns tq sv m) :
    Calls Try.prog 33 #[.pointer (some ⟨g, 0, none⟩), .int .i64 k, .int .i64 x] w fun e w' => e = .returned (.bool (decide (k ∈ setOf ns m x))) ∧ Then B S g ns tq m w w' := by
  refine (callsIn_wide (n := 8)).1 ?_
  obtain ⟨w1, hw1⟩ : ∃ w1, (w.alloc (.cells #[.int .i64 k] 3)).alloc (.cells #[.bool false] 4) = w1 := ⟨_, rfl⟩
  have hz1 : w1.heap.size = w.heap.size + 2 := by rw [← hw1]; simp
  have hold : ∀ k, k < w.heap.size → w1.heap[k]? = w.heap[k]? := fun k hk => by rw [← hw1]; exact (Below.heap_alloc _ _ k (by simp; omega)).trans (Below.heap_alloc _ _ k hk)
  have hsB := h.sB
  have hG := h.heap (w' := w1) (by omega) (fun k hk => hold k (hsB k hk).2)
  have hsrc := in_src B S g ns tq sv m x hx w1 (by omega) hG hs
  have hCh1 : Ch B S w w1 := by rw [← hw1]; exact ((Ch.refl B S w).alloc hB _).alloc (by simp; omega) _
  have hbk : Boxed w1 w.heap.size 3 (.int .i64 k) := by rw [← hw1]; exact (Boxed.new w _ _).alloc _
  have hbr : Boxed w1 (w.heap.size + 1) 4 (.bool false) := by
    rw [← hw1]
    have := Boxed.new (w.alloc (.cells #[.int .i64 k] 3)) 4 (.bool false)
    rwa [World.size_alloc] at this
  refine callsIn_of_wp_marks Try.func33 rfl trivial ?_ rfl
  simp only [Try.ntmps33, List.size_toArray, List.length_cons, List.length_nil, Nat.reduceAdd, Nat.reduceSub, Array.replicate_succ, Array.replicate_zero, List.push_toArray, List.append_toArray, List.nil_append, List.cons_append]
  have HS := Aside0.mk hsrc
  have HB := Aside0.mk hsB
  have HC1 := Aside0.mk hCh1
  have HBK := Aside0.mk hbk
  have HBR := Aside0.mk hbr
  clear hsrc h hs hsB hG hold hCh1 hbk hbr
  gi_wp2_with (refine ⟨trivial, ?_⟩; gi_at_call 28; refine (in_any _ _ x _).mono ?_; rintro e w' ⟨rfl, rfl⟩)
  rw [hz1] at HS
  obtain ⟨w2, hw2⟩ : ∃ w2, boxG w1 (some ⟨g, 0, none⟩) x = w2 := ⟨_, rfl⟩
  have hz2 : w2.heap.size = w.heap.size + 4 := by rw [← hw2]; simp [boxG]; omega
  have hC2 : Ch B S w w2 := by rw [← hw2]; exact (HC1.out.alloc (by omega) _).alloc (by simp; omega) _
  have hbk2 : Boxed w2 w.heap.size 3 (.int .i64 k) := by rw [← hw2]; exact (HBK.out.alloc _).alloc _
  have hbr2 : Boxed w2 (w.heap.size + 1) 4 (.bool false) := by rw [← hw2]; exact (HBR.out.alloc _).alloc _
  rw [hw2] at HS ⊢
  clear HC1 HBK HBR hw2 hw1
  have HC2 := Aside0.mk hC2
  have HBK := Aside0.mk hbk2
  have HBR := Aside0.mk hbr2
  clear hC2 hbk2 hbr2
  refine src_run (by omega) HS.out (Old.refl _) (by omega) (fun k hk => by have := (HB.out k hk).2; omega) rfl (fun j => j = w.heap.size + 1) (fun j hj => ⟨by omega, fun e => by
      rcases e with e | e | e
      · have := (HB.out _ e).2; omega
      · omega
      · omega⟩) (fun j hj => by
      rcases hj with e | e | e
      · have := (HB.out _ e).2; omega
      · omega
      · omega)
    (fun W1 pre W => k ∉ pre ∧ Boxed W w.heap.size 3 (.int .i64 k) ∧ Boxed W (w.heap.size + 1) 4 (.bool false) ∧ Below w.heap.size W1 W) (fun c W1 pre W => c = .ret ∧ k ∈ pre ∧ Boxed W (w.heap.size + 1) 4 (.bool true) ∧ Below w.heap.size W1 W) ?hU ?hUx ?h0
    (fun y => { tmps := #[.pointer (some ⟨g, 0, none⟩), .int .i64 k, .int .i64 x, undef, .pointer (some ⟨w.heap.size, 0, none⟩), undef, .pointer (some ⟨w.heap.size + 1, 0, none⟩), .int .i64 y, .pointer (some ⟨g, 0, none⟩), .int .i64 x, .func (.func 42) #[] #[.pointer (some ⟨w.heap.size + 2, 0, none⟩), .pointer (some ⟨w.heap.size + 2 + 1, 0, none⟩)], .int .i64 y, undef, undef, undef], defers := [] }) ?assign ?body ?done ?stop
  case hU =>
    rintro W1 pre A l o o' hl ho hoc ⟨h1, h2, h3, hb⟩
    have := h2.lt
    exact ⟨h1, (World.putObj_heap_other (by omega)).trans h2, (World.putObj_heap_other (by omega)).trans h3, hb.grown (grownBy_putObj' _ _ _) (by omega) (fun k e => by cases e; omega)⟩
  case hUx =>
    rintro c W1 pre A l o o' hl ho hoc ⟨h1, h2, h3, hb⟩
    have := h3.lt
    exact ⟨h1, h2, (World.putObj_heap_other (by omega)).trans h3, hb.grown (grownBy_putObj' _ _ _) (by omega) (fun k e => by cases e; omega)⟩
  case h0 =>
    intro W1 h1 _
    exact ⟨List.not_mem_nil, (h1.keep _ (by omega) (fun e => by have := (HB.out _ e).2; omega)).trans HBK.out, (h1.keep _ (by omega) (fun e => by have := (HB.out _ e).2; omega)).trans HBR.out, Below.refl _ _⟩
  case assign =>
    intro y l W K hK
    gi_wp2
    exact hK
  case body =>
    rintro l W1 pre y W2 hz3 hz4 hlen ⟨hn, hbk, hbr, hb⟩
    have c1 := hbk.cell
    have c2 := hbr.cell
    have f2 := hbr.frozen
    have HBL := Aside0.mk hb
    have HN := Aside0.mk hn
    have HK := Aside0.mk hbk
    have HR := Aside0.mk hbr
    clear hb hn hbk hbr
    by_cases hy : y = k
    · have hd : (y == k) = true := by simpa using hy
      gi_wp2
      refine ⟨KeepsOthers.setCell _ _ _, fun j _ hj => Below.heap_setCell _ _ _ j hj, rfl, by simp [hy], HR.out.set _, HBL.out.setCell (p := ⟨w.heap.size + 1, 0, none⟩) (by simp) _⟩
    · have hd : (y == k) = false := by simpa using hy
      have HY := Aside0.mk hy
      clear hy
      gi_wp2
      exact ⟨KeepsOthers.refl _, fun j _ _ => rfl, by simp [HN.out, Ne.symm HY.out], HK.out, HR.out, HBL.out⟩
  case done =>
    rintro W1 W' h1 hP hz3 hk ⟨hn, hbk, hbr, hb⟩ hD
    have hP' : G B (fun k => S k ∨ (w2.heap.size + 2 ≤ k ∧ k < W1.heap.size)) g ns tq (some m) W1 := hP
    have c2 := hbr.cell
    have f2 := hbr.frozen
    have HN := Aside0.mk hn
    have HR := Aside0.mk hbr
    have HBL := Aside0.mk hb
    have HK := Aside0.mk hk
    clear hn hbk hbr hb hk hP
    gi_wp2
    have hD2 : (W'.setCell ⟨w.heap.size + 1, 0, none⟩ (.bool false)).heap[w2.heap.size]? = some (.deferred (some [])) := (Below.heap_setCell W' ⟨w.heap.size + 1, 0, none⟩ _ _ (by show w2.heap.size ≠ w.heap.size + 1; omega)).trans hD
    refine ⟨by simp, .inl ⟨_, _, rfl, run_takeDeferred hD2, ?_⟩⟩
    have hbx : Boxed ((W'.setCell ⟨w.heap.size + 1, 0, none⟩ (.bool false)).putObj w2.heap.size (.deferred none)) (w.heap.size + 1) 4 (.bool false) := (World.putObj_heap_other (by omega)).trans (HR.out.set _)
    have c5 := hbx.cell
    refine ⟨.bool false, ?_, by rw [decide_eq_false HN.out], then_of hB (fun k hk => (HB.out k hk).2) (HC2.out.trans h1 (fun x h => .inl h)) hP' (by omega) ?_ ?_⟩
    · simp [results, Try.results33, go_sem, c5]
    · refine (HBL.out.setCell (p := ⟨w.heap.size + 1, 0, none⟩) (by simp) _).grown (grownBy_putObj' _ _ _) ?_ (fun k e => by cases e; omega)
      have := HK.out.1; simp; omega
    · intro j h2 h3
      exact (World.putObj_heap_other (by omega)).trans ((Below.heap_setCell W' ⟨w.heap.size + 1, 0, none⟩ _ j (by show j ≠ w.heap.size + 1; omega)).trans (HK.out.2 j h2 (by omega)))
  case stop =>
    rintro c W1 W' pre h1 hP hz3 hk hpre ⟨rfl, hin, hbr, hb⟩ hD
    have hP' : G B (fun k => S k ∨ (w2.heap.size + 2 ≤ k ∧ k < W1.heap.size)) g ns tq (some m) W1 := hP
    have HN := Aside0.mk hin
    have HPR := Aside0.mk hpre
    have HR := Aside0.mk hbr
    have HBL := Aside0.mk hb
    have HK := Aside0.mk hk
    clear hin hbr hb hk hP hpre
    gi_wp2
    refine ⟨by simp, .inl ⟨_, _, rfl, run_takeDeferred hD, ?_⟩⟩
    have hbx : Boxed (W'.putObj w2.heap.size (.deferred none)) (w.heap.size + 1) 4 (.bool true) := (World.putObj_heap_other (by omega)).trans HR.out
    have c5 := hbx.cell
    refine ⟨.bool true, ?_, by rw [decide_eq_true (HPR.out.subset HN.out)], then_of hB (fun k hk => (HB.out k hk).2) (HC2.out.trans h1 (fun x h => .inl h)) hP' (by omega) ?_ ?_⟩
    · simp [results, Try.results33, go_sem, c5]
    · refine HBL.out.grown (grownBy_putObj' _ _ _) ?_ (fun k e => by cases e; omega)
      have := HK.out.1; omega
    · intro j h2 h3
      exact (World.putObj_heap_other (by omega)).trans (HK.out.2 j h2 (by omega))
end Go.Proofs.Ytiljegeodokfmaa.Fx
