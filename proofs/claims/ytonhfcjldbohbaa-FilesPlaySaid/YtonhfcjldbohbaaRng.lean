/- A range over a function whose iterator turns memory of its own first: one round, and the whole, with the relation chosen within. -/
import Derived.RangeFuncNested
import Derived.RangeFuncBound
import Derived.RangeFuncCalls
import Derived.RangeFuncLeaves
import Derived.Shelf.Abstract
import Derived.Shelf.RegionOpen
import Derived.WalkKit
import Derived.OwnWalkIn
import Derived.TacticsInMore
import Derived.LoopNIn
import Derived.LoopIn
namespace Go.Proofs.Ytonhfcjldbohbaa.Rg
open Go Go.RowKit
set_option linter.unusedVariables false

/-- The loop's record. -/
def rec_ (fn : FuncId) (tmps : Array Value) (ps : Array Tmp) (assign body : Code) (d : Nat) (st : LoopState) (pe : Option Code) : Loop :=
  { state := st, pending := pe, fn, tmps, params := ps, assign, body, defers := d }
/-- How a round may be left. -/
def Left (W : World) (Go : World → Prop) (Stop : Code → World → Prop) : Exit → Act → World → Prop
  | .normal, _, W' => KeepsOthers W W' ∧ Go W'
  | .ret, _, W' => KeepsOthers W W' ∧ Stop .ret W'
  | .exit id, _, W' => KeepsOthers W W' ∧ Stop (.exit id) W'
  | .goto t, _, W' => KeepsOthers W W' ∧ Stop (.goto t) W'
  | .panic _, _, _ => False
  | .outgrown, _, _ => False
section
variable {F : Fence} {P : Program}
/-- The whole: what the iterator leaves. -/
theorem range_run {n : Nat} {g : Operand} {ps : Array Tmp} {assign body : Code} {Q : Exit → Act → World → Prop} {a : Act} {w : World} (hro : F.round = none) (h1 : 1 ≤ n) {gf : Nat} {lb : Array Value} (hg : a.eval g = .func (.func gf) #[] lb) (hFg : F.fn gf)
    (eg : ∀ args w, (callFunc gf args).run P w = .ok (.enter gf args) w)
    (hrun : ∀ fn, F.fn fn → CallsIn F (n - 1) P gf (#[.func (.yield (w.heap.size + 1)) #[] #[]] ++ lb) ((w.alloc (.deferred (some []))).alloc (.loop (rec_ fn a.tmps ps assign body w.heap.size .ready none))) fun e W' => (∃ v, e = .returned v) ∧
      ((W'.heap[w.heap.size + 1]? = some (.loop (rec_ fn a.tmps ps assign body w.heap.size .ready none)) ∧ ∀ o, Q .normal { a with defers := { target := .collected w.heap.size, args := #[] } :: a.defers } (W'.putObj (w.heap.size + 1) (.loop o))) ∨
       (∃ c, W'.heap[w.heap.size + 1]? = some (.loop (rec_ fn a.tmps ps assign body w.heap.size .done (some c))) ∧ ∀ o, c.wpIn F n P Q { a with defers := { target := .collected w.heap.size, args := #[] } :: a.defers } (W'.putObj (w.heap.size + 1) (.loop o))))) :
    (Code.rangeFunc g ps assign body).wpIn F n P Q a w := by
  refine wpIn_rangeFunc ?_
  intro fn hfn
  rw [hro]
  have h0 := hrun fn hfn
  obtain ⟨W1, hW1⟩ : ∃ W1, (w.alloc (.deferred (some []))).alloc (.loop (rec_ fn a.tmps ps assign body w.heap.size .ready none)) = W1 := ⟨_, rfl⟩
  rw [hW1] at h0
  refine ⟨w.heap.size + 1, [{ target := .collected w.heap.size, args := #[] }], W1, { target := .fn (.func gf) lb, args := #[.func (.yield (w.heap.size + 1)) #[] #[]] }, W1, gf, #[.func (.yield (w.heap.size + 1)) #[] #[]] ++ lb, W1, ?_, ?_, ?_, ?_, fun _ => h1, ?_⟩
  · rw [← hW1]; exact run_enterLoop_outer _ _ _ _ _
  · simp only [resolve, hg]
    simp [go_sem]
  · intro f' hf'; simp [Target.leads] at hf'; subst hf'; exact hFg
  · simp [invoke, go_sem, eg]
  · refine h0.mono ?_
    rintro e W2 ⟨⟨v, rfl⟩, (⟨hl, hq⟩ | ⟨c, hl, hq⟩)⟩
    · exact ⟨none, _, run_endLoop hl (by simp [rec_]), hq _⟩
    · exact ⟨some c, _, run_endLoop hl (by simp [rec_]), hq _⟩
end
end Go.Proofs.Ytonhfcjldbohbaa.Rg
