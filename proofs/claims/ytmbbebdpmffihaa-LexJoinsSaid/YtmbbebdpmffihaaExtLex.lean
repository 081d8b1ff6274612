/- The contracts of cupel/lex.Lex and Same, in the printed shape. -/
import Derived.Test.YtmbbebdpmffihaaLexF
namespace Go.Proofs.Ytmbbebdpmffihaa.PA
open Go.RowKit Go.Proofs.Ytmbbebdpmffihaa.Lx Go.Proofs.YtmbbebdpmffihaaW.PrintWords Go.Proofs.YtmbbebdpmffihaaW.PrintLast Go.Proofs.YtmbbebdpmffihaaW.PrintMore

def lex_Lex.f (a0 : ByteArray) : Option (List S35 × List S39) := if a0.size ≤ 1000000000 then some (lexA a0.data.toList) else none
theorem lex_Lex.calls (a0 : ByteArray) (r1 : List S35) (r2 : List S39) (w : World) (h : lex_Lex.f a0 = some (r1, r2)) :
    Calls Try.prog 10 #[.string a0] w fun e w' => ∃ v1 v2, e = .returned (.tuple #[v1, v2]) ∧ Kd.R k35 35 w' w.heap.size (fun _ => True) v1 r1 ∧ Kd.R k39 39 w' w.heap.size (fun _ => True) v2 r2 ∧ Below w.heap.size w w' := by
  unfold lex_Lex.f at h
  by_cases hs : a0.size ≤ 1000000000
  · rw [if_pos hs] at h
    have h := Option.some.inj h
    have e1 : (lexA a0.data.toList).1 = r1 := by rw [h]
    have e2 : (lexA a0.data.toList).2 = r2 := by rw [h]
    subst e1 e2
    refine (lex_any a0 w hs).mono ?_
    rintro e w' ⟨v1, v2, rfl, h1, h2, h3⟩
    exact ⟨v1, v2, rfl, tks_R h1, dgs_R h2, h3⟩
  · rw [if_neg hs] at h; exact absurd h (by simp)

def lex_Same.f (l1 l2 : List S35) : Option Bool := some (sameL l1 l2)
set_option maxHeartbeats 3200000 in
set_option maxRecDepth 100000 in
theorem lex_Same.calls (A1 : Option Addr) (c1 : Nat) (l1 : List S35) (A2 : Option Addr) (c2 : Nat) (l2 : List S35) (r : Bool) (w : World) (hr1 : Kd.C k35 w A1 l1.length l1) (hc1 : l1.length ≤ c1) (hr2 : Kd.C k35 w A2 l2.length l2) (hc2 : l2.length ≤ c2) (h : lex_Same.f l1 l2 = some r) :
    Calls Try.prog 15 #[.slice A1 l1.length c1, .slice A2 l2.length c2] w fun e w' => e = .returned (.bool r) ∧ Below w.heap.size w w' := by
  obtain rfl := Option.some.inj h
  have hc := equal_any A1 c1 l1 A2 c2 l2 w hr1 hc1 hr2 hc2
  generalize sameL l1 l2 = b at hc ⊢
  clear h hr1 hr2
  go_enter Try.func15, Try.ntmps15
  go_wp2_with fail
  refine hc.mono ?_
  rintro e w2 ⟨rfl, hb⟩
  have HB := Lib.hid hb
  clear hb
  go_wp2
  go_returns
  exact ⟨rfl, HB.out⟩

end Go.Proofs.Ytmbbebdpmffihaa.PA
