/- files, sixth part: a whole range over the iterator; Collect, All, Bytes. -/
import Derived.Test.YtonhfcjldbohbaaFlE
import Derived.RangeFuncBox
namespace Go.Proofs.Ytonhfcjldbohbaa.Fi
open Go Go.RowKit Go.ChangeMaps Go.MapKept Go.Proofs.Ytonhfcjldbohbaa.PA Go.Proofs.YtonhfcjldbohbaaW.PrintWords Go.Proofs.YtonhfcjldbohbaaW.PrintLast Go.Proofs.YtonhfcjldbohbaaW.PrintMore Go.Proofs.Ytonhfcjldbohbaa.Rg
attribute [local go_sem] Oper.semAt_some
set_option linter.unusedVariables false
set_option linter.unusedSimpArgs false

/-- A file's block. -/
def vC (y : Fl) : Obj := .cells #[.string y.f0, .string y.f1, .int .i64 y.f2, .int .i64 y.f3] 32 (0, 0)
section
variable {F : Fence} {P : Program}
theorem yield_atA {m : Nat} {fn : FuncId} (hfn : F.fn fn) {tmps : Array Value} {ps : Array Tmp} {assign body : Code} {d l : Nat} (hdl : d ≠ l) (args : Array Value) (hps : args.size = ps.size) (V W : World)
    (hV : V.heap[l]? = some (.loop (rec_ fn tmps ps assign body d .ready none))) (hl : W.heap[l]? = some (.loop (rec_ fn tmps ps assign body d .ready none))) (hd : W.heap[d]? = some (.deferred (some []))) (a1 : Act)
    (hassign : ∀ K : Act → World → Prop, K a1 W → assign.wpIn (F.inRound l) m P (Exit.then K (fun _ _ _ => False)) { tmps := (ps.zip args).foldl (fun t (p, v) => t.setIfInBounds p v) tmps, defers := [] } V)
    (Go : World → Prop) (Stop : Code → World → Prop)
    (hbody : body.wpIn (F.inRound l) m P (Rg.Left (W.putObj l (.loop (rec_ fn tmps ps assign body d .busy none))) Go Stop) a1 (W.putObj l (.loop (rec_ fn tmps ps assign body d .busy none)))) :
    YieldAt F m P l args V fun e W' =>
      (e = .returned (.bool true) ∧ ∃ W3, Go W3 ∧ W' = W3.putObj l (.loop (rec_ fn tmps ps assign body d .ready none)) ∧ W3.heap[l]? = some (.loop (rec_ fn tmps ps assign body d .busy none)) ∧ W3.heap[d]? = some (.deferred (some []))) ∨
      (e = .returned (.bool false) ∧ ∃ c W3, Stop c W3 ∧ W' = W3.putObj l (.loop (rec_ fn tmps ps assign body d .done (some c))) ∧ W3.heap[l]? = some (.loop (rec_ fn tmps ps assign body d .busy none)) ∧ W3.heap[d]? = some (.deferred (some []))) := by
  have hlt : l < W.heap.size := (Array.getElem?_eq_some_iff.1 hl).1
  refine ⟨fn, _, assign, body, run_yield (r := rec_ fn tmps ps assign body d .ready none) hV hps, roundIn_of_wpIn hfn (hassign _ ⟨_, run_beginRound hl rfl, ?_⟩)⟩
  have hb : (W.putObj l (.loop (rec_ fn tmps ps assign body d .busy none))).heap[l]? = some (.loop (rec_ fn tmps ps assign body d .busy none)) := World.putObj_heap_same hlt
  have hdd : (W.putObj l (.loop (rec_ fn tmps ps assign body d .busy none))).heap[d]? = some (.deferred (some [])) := (World.putObj_heap_other hdl).trans hd
  have fin : ∀ (j : Option Code) (W3 : World), KeepsOthers (W.putObj l (.loop (rec_ fn tmps ps assign body d .busy none))) W3 →
      (Instr.endRound l j).run P W3 = .ok (.bool j.isNone) (W3.putObj l (.loop (rec_ fn tmps ps assign body d (if j.isNone then .ready else .done) j))) ∧ W3.heap[l]? = some (.loop (rec_ fn tmps ps assign body d .busy none)) ∧ W3.heap[d]? = some (.deferred (some [])) :=
    fun j W3 hk => ⟨run_endRound j (hk.same _ _ hb rfl), hk.same _ _ hb rfl, hk.same _ _ hdd rfl⟩
  refine wpIn_mono hbody ?_
  rintro e a3 W3 hp
  cases e with
  | normal =>
    obtain ⟨hk, hg⟩ := hp
    obtain ⟨r1, r2, r3⟩ := fin none W3 hk
    exact ⟨_, _, r1, .inl ⟨rfl, W3, hg, rfl, r2, r3⟩⟩
  | ret =>
    obtain ⟨hk, hg⟩ := hp
    obtain ⟨r1, r2, r3⟩ := fin (some .ret) W3 hk
    exact ⟨_, _, r1, .inr ⟨rfl, .ret, W3, hg, rfl, r2, r3⟩⟩
  | exit id =>
    obtain ⟨hk, hg⟩ := hp
    obtain ⟨r1, r2, r3⟩ := fin (some (.exit id)) W3 hk
    exact ⟨_, _, r1, .inr ⟨rfl, .exit id, W3, hg, rfl, r2, r3⟩⟩
  | goto t =>
    obtain ⟨hk, hg⟩ := hp
    obtain ⟨r1, r2, r3⟩ := fin (some (.goto t)) W3 hk
    exact ⟨_, _, r1, .inr ⟨rfl, .goto t, W3, hg, rfl, r2, r3⟩⟩
  | panic ch => exact hp.elim
  | outgrown => exact hp.elim
end
theorem Keep.trans {C : Nat → Prop} {a b c : World} (h : Keep C a b) (k : Keep C b c) : Keep C a c :=
  ⟨Nat.le_trans h.1 k.1, fun x hx hc => (k.2 x (Nat.lt_of_lt_of_le hx h.1) hc).trans (h.2 x hx hc)⟩
theorem Keep.putObj {C : Nat → Prop} {a b : World} (h : Keep C a b) {l : Nat} (hl : C l) (o : Obj) : Keep C a (b.putObj l o) :=
  ⟨by simpa [World.putObj] using h.1, fun x hx hc => (World.putObj_heap_other (fun e => by subst e; exact hc hl)).trans (h.2 x hx hc)⟩
theorem foldl_one (t : Array Value) (p : Tmp) (v : Value) : Array.foldl (fun t (x : Tmp × Value) => match x with | (p, v) => t.setIfInBounds p v) t (#[p].zip #[v]) = t.setIfInBounds p v := by simp
/-- How the body may leave a round. -/
def BPost (Cu : Nat → Prop) (W1 W2 : World) (Go : World → Prop) (Stop : Code → World → Prop) : Exit → Act → World → Prop
  | .normal, _, W3 => KeepsOthers W2 W3 ∧ (∀ k, k < W1.heap.size → ¬ Cu k → W3.heap[k]? = W2.heap[k]?) ∧ Go W3
  | .ret, _, W3 => KeepsOthers W2 W3 ∧ (∀ k, k < W1.heap.size → ¬ Cu k → W3.heap[k]? = W2.heap[k]?) ∧ Stop .ret W3
  | _, _, _ => False
theorem src_run {n : Nat} (hn : 4 ≤ n) {N : Nat → Prop} {w0 : World} {lb : Array Value} {ys : List Fl} (hsrc : Src N w0 lb ys) {g : Operand} {p : Tmp} {assign body : Code} {Q : Exit → Act → World → Prop} {a : Act} {w : World} (hw : Old w0 w)
    (hg : a.eval g = .func (.func 41) #[] lb) (Cu : Nat → Prop) (hCu : ∀ k, Cu k → k < w.heap.size ∧ ¬ N k) (hN : ∀ k, N k → k < w0.heap.size) (U : World → List Fl → World → Prop) (Ux : Code → World → List Fl → World → Prop)
    (hU : ∀ W1 pre A l o o', w.heap.size ≤ l → A.heap[l]? = some o → o.isCells = false → U W1 pre A → U W1 pre (A.putObj l o'))
    (hUx : ∀ c W1 pre A l o o', w.heap.size ≤ l → A.heap[l]? = some o → o.isCells = false → Ux c W1 pre A → Ux c W1 pre (A.putObj l o'))
    (h0 : ∀ W1, Below w.heap.size w W1 → w.heap.size + 2 ≤ W1.heap.size → U W1 [] W1)
    (hUa : ∀ W1 pre A o, W1.heap.size ≤ A.heap.size → U W1 pre A → U W1 pre (A.alloc o))
    (a1 : Nat → Fl → Act) (hassign : ∀ y l W (K : Act → World → Prop), K (a1 W.heap.size y) (W.alloc (vC y)) → assign.wpIn (Fence.wide.inRound l) (n - 1 - 1) Try.prog (Exit.then K (fun _ _ _ => False)) { tmps := a.tmps.setIfInBounds p (vF y), defers := [] } W)
    (hbody : ∀ l x W1 pre y W2, w.heap.size + 2 ≤ W1.heap.size → W1.heap.size ≤ x → W2.heap[x]? = some (vC y) → pre.length < 64 → y ∈ ys → U W1 pre W2 → body.wpIn (Fence.wide.inRound l) (n - 1 - 1) Try.prog (BPost Cu W1 W2 (U W1 (pre ++ [y])) (fun c => Ux c W1 (pre ++ [y]))) (a1 x y) W2)
    (done : ∀ W1 W', Below w.heap.size w W1 → w.heap.size + 2 ≤ W1.heap.size → Keep (fun k => Cu k ∨ k = w.heap.size ∨ k = w.heap.size + 1) W1 W' → U W1 ys W' → W'.heap[w.heap.size]? = some (.deferred (some [])) → Q .normal { a with defers := { target := .collected w.heap.size, args := #[] } :: a.defers } W')
    (stop : ∀ c W1 W' pre, Below w.heap.size w W1 → w.heap.size + 2 ≤ W1.heap.size → Keep (fun k => Cu k ∨ k = w.heap.size ∨ k = w.heap.size + 1) W1 W' → pre <+: ys → Ux c W1 pre W' → W'.heap[w.heap.size]? = some (.deferred (some [])) → c.wpIn Fence.wide n Try.prog Q { a with defers := { target := .collected w.heap.size, args := #[] } :: a.defers } W') :
    (Code.rangeFunc g #[p] assign body).wpIn Fence.wide n Try.prog Q a w := by
  refine range_run rfl (by omega) hg trivial (enters_of Try.func41 (by kernel_rfl) rfl) ?_
  intro fn hfn
  obtain ⟨W, hW⟩ : ∃ W, (w.alloc (.deferred (some []))).alloc (.loop (rec_ fn a.tmps #[p] assign body w.heap.size .ready none)) = W := ⟨_, rfl⟩
  have hsz : W.heap.size = w.heap.size + 2 := by rw [← hW]; simp
  have hL : W.heap[w.heap.size + 1]? = some (.loop (rec_ fn a.tmps #[p] assign body w.heap.size .ready none)) := by
    rw [← hW]
    have := World.alloc_heap_new (w.alloc (.deferred (some []))) (.loop (rec_ fn a.tmps #[p] assign body w.heap.size .ready none))
    rwa [World.size_alloc] at this
  have hD : W.heap[w.heap.size]? = some (.deferred (some [])) := by rw [← hW]; exact (Below.heap_alloc _ _ _ (by simp)).trans (World.alloc_heap_new w _)
  have hOld : Old w0 W := by rw [← hW]; exact (hw.alloc _).alloc _
  have hCh : Below w.heap.size w W := by rw [← hW]; exact ((Below.refl _ w).alloc (Nat.le_refl _) _).alloc (by simp) _
  have hw1 := hw.1
  rw [hW]
  refine (hsrc (n - 1) (by omega) W hOld (w.heap.size + 1) (fun k => Cu k ∨ k = w.heap.size ∨ k = w.heap.size + 1) (fun k hk => ?_)
    (fun W1 pre A => U W1 pre A ∧ A.heap[w.heap.size + 1]? = some (.loop (rec_ fn a.tmps #[p] assign body w.heap.size .ready none)) ∧ A.heap[w.heap.size]? = some (.deferred (some [])))
    (fun W1 pre A => ∃ c, Ux c W1 pre A ∧ A.heap[w.heap.size + 1]? = some (.loop (rec_ fn a.tmps #[p] assign body w.heap.size .done (some c))) ∧ A.heap[w.heap.size]? = some (.deferred (some []))) ?_ ?_).mono ?_
  · rcases hk with h | rfl | rfl
    · have := hCu k h; exact ⟨by omega, this.2⟩
    · exact ⟨by omega, fun e => by have := hN _ e; omega⟩
    · exact ⟨by omega, fun e => by have := hN _ e; omega⟩
  · intro W1 h1
    have := h1.size
    exact ⟨h0 W1 (hCh.trans (h1.mono (by omega))) (by omega), (h1.block _ (by omega)).trans hL, (h1.block _ (by omega)).trans hD⟩
  · rintro W1 pre y V h1 ⟨hu, hV, hdV⟩ hk hlen hmem
    have hs1 := h1.size
    have hlt : w.heap.size + 1 < V.heap.size := (Array.getElem?_eq_some_iff.1 hV).1
    obtain ⟨W2, hW2⟩ : ∃ W2, V.alloc (vC y) = W2 := ⟨_, rfl⟩
    have hzV : W2.heap.size = V.heap.size + 1 := by rw [← hW2]; simp
    have hl : W2.heap[w.heap.size + 1]? = some (.loop (rec_ fn a.tmps #[p] assign body w.heap.size .ready none)) := by rw [← hW2]; exact (Below.heap_alloc _ _ _ hlt).trans hV
    have hd : W2.heap[w.heap.size]? = some (.deferred (some [])) := by rw [← hW2]; exact (Below.heap_alloc _ _ _ (by omega)).trans hdV
    have hk2 : Keep (fun k => Cu k ∨ k = w.heap.size ∨ k = w.heap.size + 1) W1 W2 := by rw [← hW2]; exact ⟨by have := hk.1; simp; omega, fun k h1 h2 => (Below.heap_alloc _ _ _ (Nat.lt_of_lt_of_le h1 hk.1)).trans (hk.2 k h1 h2)⟩
    have hu2 : U W1 pre W2 := by rw [← hW2]; exact hUa _ _ _ _ hk.1 hu
    have hnew : W2.heap[V.heap.size]? = some (vC y) := by rw [← hW2]; exact heap_alloc_new V _
    obtain ⟨Wb, hWb⟩ : ∃ Wb, W2.putObj (w.heap.size + 1) (.loop (rec_ fn a.tmps #[p] assign body w.heap.size .busy none)) = Wb := ⟨_, rfl⟩
    have hkb : Keep (fun k => Cu k ∨ k = w.heap.size ∨ k = w.heap.size + 1) W1 Wb := by rw [← hWb]; exact hk2.putObj (.inr (.inr rfl)) _
    have hub : U W1 pre Wb := by rw [← hWb]; exact hU _ _ _ _ _ _ (by omega) hl rfl hu2
    refine (yield_atA hfn (by omega) #[vF y] rfl V W2 hV hl hd (a1 V.heap.size y) (fun K hK => by have := hassign y (w.heap.size + 1) V K (by rw [hW2]; exact hK); rwa [← foldl_one a.tmps p (vF y)] at this) (fun W3 => (W1.heap.size ≤ W3.heap.size ∧ ∀ k, k < W1.heap.size → ¬ Cu k → W3.heap[k]? = Wb.heap[k]?) ∧ U W1 (pre ++ [y]) W3) (fun c W3 => (W1.heap.size ≤ W3.heap.size ∧ ∀ k, k < W1.heap.size → ¬ Cu k → W3.heap[k]? = Wb.heap[k]?) ∧ Ux c W1 (pre ++ [y]) W3) ?_).mono ?_
    · rw [hWb]
      refine wpIn_mono (hbody _ V.heap.size W1 pre y Wb (by omega) hk.1 (by rw [← hWb]; exact (World.putObj_heap_other (by omega)).trans hnew) hlen hmem hub) ?_
      rintro e a3 W3 hp
      cases e with
      | normal => exact ⟨hp.1, ⟨Nat.le_trans hkb.1 hp.1.size, hp.2.1⟩, hp.2.2⟩
      | ret => exact ⟨hp.1, ⟨Nat.le_trans hkb.1 hp.1.size, hp.2.1⟩, hp.2.2⟩
      | exit id => exact hp.elim
      | goto t => exact hp.elim
      | panic ch => exact hp.elim
      | outgrown => exact hp.elim
    · have fin : ∀ (W3 : World) (o : Obj), (W1.heap.size ≤ W3.heap.size ∧ ∀ k, k < W1.heap.size → ¬ Cu k → W3.heap[k]? = Wb.heap[k]?) → W3.heap[w.heap.size + 1]? = some (.loop (rec_ fn a.tmps #[p] assign body w.heap.size .busy none)) → Keep (fun k => Cu k ∨ k = w.heap.size ∨ k = w.heap.size + 1) W1 (W3.putObj (w.heap.size + 1) o) := by
        intro W3 o hk3 hl3
        exact Keep.putObj ⟨hk3.1, fun k h1 h2 => (hk3.2 k h1 (fun h => h2 (.inl h))).trans (hkb.2 k h1 h2)⟩ (.inr (.inr rfl)) _
      rintro e W' (⟨rfl, W3, ⟨hk3, hu3⟩, rfl, hl3, hd3⟩ | ⟨rfl, c, W3, ⟨hk3, hu3⟩, rfl, hl3, hd3⟩)
      · exact .inl ⟨rfl, ⟨hU _ _ _ _ _ _ (by omega) hl3 rfl hu3, World.putObj_heap_same (Array.getElem?_eq_some_iff.1 hl3).1, (World.putObj_heap_other (by omega)).trans hd3⟩, fin _ _ hk3 hl3⟩
      · exact .inr ⟨rfl, ⟨c, hUx _ _ _ _ _ _ _ (by omega) hl3 rfl hu3, World.putObj_heap_same (Array.getElem?_eq_some_iff.1 hl3).1, (World.putObj_heap_other (by omega)).trans hd3⟩, fin _ _ hk3 hl3⟩
  · rintro e W' ⟨hv, W1, h1, hk, (⟨hu, hl, hd⟩ | ⟨pre, hpre, c, hu, hl, hd⟩)⟩
    · have hs1 := h1.size
      refine ⟨hv, .inl ⟨hl, fun o => done W1 _ (hCh.trans (h1.mono (by omega))) (by omega) (hk.putObj (.inr (.inr rfl)) _) (hU _ _ _ _ _ _ (by omega) hl rfl hu) ((World.putObj_heap_other (by omega)).trans hd)⟩⟩
    · have hs1 := h1.size
      refine ⟨hv, .inr ⟨c, hl, fun o => stop c W1 _ pre (hCh.trans (h1.mono (by omega))) (by omega) (hk.putObj (.inr (.inr rfl)) _) hpre (hUx _ _ _ _ _ _ _ (by omega) hl rfl hu) ((World.putObj_heap_other (by omega)).trans hd)⟩⟩

theorem own_base {W : World} {base base' : Nat} {e : TypeId} {size : Nat} {v : Value} {k : Nat} {xs : List Value} (h : W.ownsRow base e size v k xs) (hb : base' ≤ base) : W.ownsRow base' e size v k xs := by
  refine ⟨h.1, ?_⟩
  rcases h.2 with hn | ⟨g, cap, cur, hv, hbg, rest⟩
  · exact .inl hn
  · exact .inr ⟨g, cap, cur, hv, Nat.le_trans hb hbg, rest⟩

theorem files_any (n : Nat) (v : Option Addr) (w : World) :
    CallsIn Fence.wide n Try.prog 27 #[.pointer v] w fun e w' => e = .returned (.func (.func 41) #[] #[.pointer (some ⟨w.heap.size, 0, none⟩)]) ∧ w' = w.alloc (.cells #[.pointer v] 23) := by
  refine callsIn_of_wp Try.func27 rfl trivial ?_ rfl
  simp only [Try.ntmps27, List.size_toArray, List.length_cons, List.length_nil, Nat.reduceAdd, Nat.reduceSub, Array.replicate_succ, Array.replicate_zero, List.push_toArray, List.append_toArray, List.nil_append, List.cons_append]
  gi_wp2
  go_ret
  exact ⟨rfl, rfl⟩
end Go.Proofs.Ytonhfcjldbohbaa.Fi
