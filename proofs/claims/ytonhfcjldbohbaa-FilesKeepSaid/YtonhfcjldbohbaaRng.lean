/- A range over a function whose iterator turns memory of its own first: one round, and the whole, with the relation chosen within. -/
import Derived.RangeFuncNested
import Derived.RangeFuncBound
import Derived.RangeFuncCalls
import Derived.RangeFuncLeaves
import Derived.Shelf.Abstract
import Derived.Shelf.RegionOpen
import Derived.WalkKit
import Derived.OwnWalkIn
import Derived.TacticsInMore
import Derived.LoopNIn
import Derived.LoopIn
namespace Go.Proofs.Ytonhfcjldbohbaa.Rg
open Go Go.RowKit
set_option linter.unusedVariables false

/-- The loop's record. -/
def rec_ (fn : FuncId) (tmps : Array Value) (ps : Array Tmp) (assign body : Code) (d : Nat) (st : LoopState) (pe : Option Code) : Loop :=
  { state := st, pending := pe, fn, tmps, params := ps, assign, body, defers := d }
/-- How a round may be left. -/
def Left (W : World) (Go : World → Prop) (Stop : Code → World → Prop) : Exit → Act → World → Prop
  | .normal, _, W' => KeepsOthers W W' ∧ Go W'
  | .ret, _, W' => KeepsOthers W W' ∧ Stop .ret W'
  | .exit id, _, W' => KeepsOthers W W' ∧ Stop (.exit id) W'
  | .goto t, _, W' => KeepsOthers W W' ∧ Stop (.goto t) W'
  | .panic _, _, _ => False
  | .outgrown, _, _ => False
section
variable {F : Fence} {P : Program}
theorem yield_at {m : Nat} {fn : FuncId} (hfn : F.fn fn) {tmps : Array Value} {ps : Array Tmp} {assign body : Code} {d l : Nat} (hdl : d ≠ l) (args : Array Value) (hps : args.size = ps.size) (W : World)
    (hl : W.heap[l]? = some (.loop (rec_ fn tmps ps assign body d .ready none))) (hd : W.heap[d]? = some (.deferred (some []))) (a1 : Act)
    (hassign : ∀ K : Act → World → Prop, K a1 W → assign.wpIn (F.inRound l) m P (Exit.then K (fun _ _ _ => False)) { tmps := (ps.zip args).foldl (fun t (p, v) => t.setIfInBounds p v) tmps, defers := [] } W)
    (Go : World → Prop) (Stop : Code → World → Prop)
    (hbody : body.wpIn (F.inRound l) m P (Left (W.putObj l (.loop (rec_ fn tmps ps assign body d .busy none))) Go Stop) a1 (W.putObj l (.loop (rec_ fn tmps ps assign body d .busy none)))) :
    YieldAt F m P l args W fun e W' =>
      (e = .returned (.bool true) ∧ ∃ W3, Go W3 ∧ W' = W3.putObj l (.loop (rec_ fn tmps ps assign body d .ready none)) ∧ W3.heap[l]? = some (.loop (rec_ fn tmps ps assign body d .busy none)) ∧ W3.heap[d]? = some (.deferred (some []))) ∨
      (e = .returned (.bool false) ∧ ∃ c W3, Stop c W3 ∧ W' = W3.putObj l (.loop (rec_ fn tmps ps assign body d .done (some c))) ∧ W3.heap[l]? = some (.loop (rec_ fn tmps ps assign body d .busy none)) ∧ W3.heap[d]? = some (.deferred (some []))) := by
  have hlt : l < W.heap.size := (Array.getElem?_eq_some_iff.1 hl).1
  refine ⟨fn, _, assign, body, run_yield (r := rec_ fn tmps ps assign body d .ready none) hl hps, roundIn_of_wpIn hfn (hassign _ ⟨_, run_beginRound hl rfl, ?_⟩)⟩
  have hb : (W.putObj l (.loop (rec_ fn tmps ps assign body d .busy none))).heap[l]? = some (.loop (rec_ fn tmps ps assign body d .busy none)) := World.putObj_heap_same hlt
  have hdd : (W.putObj l (.loop (rec_ fn tmps ps assign body d .busy none))).heap[d]? = some (.deferred (some [])) := (World.putObj_heap_other hdl).trans hd
  have fin : ∀ (j : Option Code) (W3 : World), KeepsOthers (W.putObj l (.loop (rec_ fn tmps ps assign body d .busy none))) W3 →
      (Instr.endRound l j).run P W3 = .ok (.bool j.isNone) (W3.putObj l (.loop (rec_ fn tmps ps assign body d (if j.isNone then .ready else .done) j))) ∧ W3.heap[l]? = some (.loop (rec_ fn tmps ps assign body d .busy none)) ∧ W3.heap[d]? = some (.deferred (some [])) :=
    fun j W3 hk => ⟨run_endRound j (hk.same _ _ hb rfl), hk.same _ _ hb rfl, hk.same _ _ hdd rfl⟩
  refine wpIn_mono hbody ?_
  rintro e a3 W3 hp
  cases e with
  | normal =>
    obtain ⟨hk, hg⟩ := hp
    obtain ⟨r1, r2, r3⟩ := fin none W3 hk
    exact ⟨_, _, r1, .inl ⟨rfl, W3, hg, rfl, r2, r3⟩⟩
  | ret =>
    obtain ⟨hk, hg⟩ := hp
    obtain ⟨r1, r2, r3⟩ := fin (some .ret) W3 hk
    exact ⟨_, _, r1, .inr ⟨rfl, .ret, W3, hg, rfl, r2, r3⟩⟩
  | exit id =>
    obtain ⟨hk, hg⟩ := hp
    obtain ⟨r1, r2, r3⟩ := fin (some (.exit id)) W3 hk
    exact ⟨_, _, r1, .inr ⟨rfl, .exit id, W3, hg, rfl, r2, r3⟩⟩
  | goto t =>
    obtain ⟨hk, hg⟩ := hp
    obtain ⟨r1, r2, r3⟩ := fin (some (.goto t)) W3 hk
    exact ⟨_, _, r1, .inr ⟨rfl, .goto t, W3, hg, rfl, r2, r3⟩⟩
  | panic ch => exact hp.elim
  | outgrown => exact hp.elim
/-- The whole: what the iterator leaves. -/
theorem range_run {n : Nat} {g : Operand} {ps : Array Tmp} {assign body : Code} {Q : Exit → Act → World → Prop} {a : Act} {w : World} (hro : F.round = none) (h1 : 1 ≤ n) {gf : Nat} {lb : Array Value} (hg : a.eval g = .func (.func gf) #[] lb) (hFg : F.fn gf)
    (eg : ∀ args w, (callFunc gf args).run P w = .ok (.enter gf args) w)
    (hrun : ∀ fn, F.fn fn → CallsIn F (n - 1) P gf (#[.func (.yield (w.heap.size + 1)) #[] #[]] ++ lb) ((w.alloc (.deferred (some []))).alloc (.loop (rec_ fn a.tmps ps assign body w.heap.size .ready none))) fun e W' => (∃ v, e = .returned v) ∧
      ((W'.heap[w.heap.size + 1]? = some (.loop (rec_ fn a.tmps ps assign body w.heap.size .ready none)) ∧ ∀ o, Q .normal { a with defers := { target := .collected w.heap.size, args := #[] } :: a.defers } (W'.putObj (w.heap.size + 1) (.loop o))) ∨
       (∃ c, W'.heap[w.heap.size + 1]? = some (.loop (rec_ fn a.tmps ps assign body w.heap.size .done (some c))) ∧ ∀ o, c.wpIn F n P Q { a with defers := { target := .collected w.heap.size, args := #[] } :: a.defers } (W'.putObj (w.heap.size + 1) (.loop o))))) :
    (Code.rangeFunc g ps assign body).wpIn F n P Q a w := by
  refine wpIn_rangeFunc ?_
  intro fn hfn
  rw [hro]
  have h0 := hrun fn hfn
  obtain ⟨W1, hW1⟩ : ∃ W1, (w.alloc (.deferred (some []))).alloc (.loop (rec_ fn a.tmps ps assign body w.heap.size .ready none)) = W1 := ⟨_, rfl⟩
  rw [hW1] at h0
  refine ⟨w.heap.size + 1, [{ target := .collected w.heap.size, args := #[] }], W1, { target := .fn (.func gf) lb, args := #[.func (.yield (w.heap.size + 1)) #[] #[]] }, W1, gf, #[.func (.yield (w.heap.size + 1)) #[] #[]] ++ lb, W1, ?_, ?_, ?_, ?_, fun _ => h1, ?_⟩
  · rw [← hW1]; exact run_enterLoop_outer _ _ _ _ _
  · simp only [resolve, hg]
    simp [go_sem]
  · intro f' hf'; simp [Target.leads] at hf'; subst hf'; exact hFg
  · simp [invoke, go_sem, eg]
  · refine h0.mono ?_
    rintro e W2 ⟨⟨v, rfl⟩, (⟨hl, hq⟩ | ⟨c, hl, hq⟩)⟩
    · exact ⟨none, _, run_endLoop hl (by simp [rec_]), hq _⟩
    · exact ⟨some c, _, run_endLoop hl (by simp [rec_]), hq _⟩
end
end Go.Proofs.Ytonhfcjldbohbaa.Rg
