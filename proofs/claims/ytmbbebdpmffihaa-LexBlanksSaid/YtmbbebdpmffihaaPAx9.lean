-- Written by a program of this session (wip/xprint.py over the kit's printer). Lean checks it.
import Derived.Test.YtmbbebdpmffihaaPAx0
import Derived.Test.YtmbbebdpmffihaaPAx4
import Derived.Test.YtmbbebdpmffihaaExtLex
namespace Go.Proofs.Ytmbbebdpmffihaa.PA
open Go.RowKit Go.Proofs.YtmbbebdpmffihaaW.PrintWords Go.Proofs.YtmbbebdpmffihaaW.PrintLast Go.Proofs.YtmbbebdpmffihaaW.PrintMore
attribute [local go_sem] max2_int min2_int max_two min_two max_three min_three max_four min_four   -- for this text's walks alone
set_option linter.unusedVariables false
set_option linter.unusedSimpArgs false

/-! ### cupellaw04_LexBlanks: function 6 -/
mutual
def cupellaw04_LexBlanks.l0 : Nat → ByteArray → List (S35) → List (S39) → ByteArray → ByteArray → Int → Int → Option (Bool)
  | 0, _, _, _, _, _, _, _ => none
  | k + 1, x0, x5, x6, x7, x8, x9, x10 => if x10 < (x5.length : Int) then (if 0 ≤ x10 then (if ((rd_T35 x5 x10).f1) ≤ x9 then (if x10 > 0 then (cupellaw04_LexBlanks.j1 k x0 x5 x6 x7 x8 x10 true) else (cupellaw04_LexBlanks.j1 k x0 x5 x6 x7 x8 x10 (decide (((rd_T35 x5 x10).f1) > (x0.size : Int))))) else (cupellaw04_LexBlanks.j1 k x0 x5 x6 x7 x8 x10 (decide (((rd_T35 x5 x10).f1) > (x0.size : Int))))) else (none)) else ((lex_Lex.f x8).bind fun bt279 => (cupellaw04_LexBlanks.l1 k x5 x6 bt279.1 bt279.2 1))
def cupellaw04_LexBlanks.j1 : Nat → ByteArray → List (S35) → List (S39) → ByteArray → ByteArray → Int → Bool → Option (Bool)
  | 0, _, _, _, _, _, _, _ => none
  | k + 1, x0, x5, x6, x7, x8, x10, x56 => if x56 = true then (some false) else (if 0 ≤ x10 then (if x10 < (x5.length : Int) then (if ((rd_T35 x5 x10).f0) = 4 then (if x8.size + 1 ≤ 9223372036854775807 then (if (x8 ++ (⟨#[34]⟩ : ByteArray)).size + ((rd_T35 x5 x10).f2).size ≤ 9223372036854775807 then (if ((x8 ++ (⟨#[34]⟩ : ByteArray)) ++ ((rd_T35 x5 x10).f2)).size + 1 ≤ 9223372036854775807 then (if (((x8 ++ (⟨#[34]⟩ : ByteArray)) ++ ((rd_T35 x5 x10).f2)) ++ (⟨#[34]⟩ : ByteArray)).size + x7.size ≤ 9223372036854775807 then (cupellaw04_LexBlanks.l0 k x0 x5 x6 x7 ((((x8 ++ (⟨#[34]⟩ : ByteArray)) ++ ((rd_T35 x5 x10).f2)) ++ (⟨#[34]⟩ : ByteArray)) ++ x7) ((rd_T35 x5 x10).f1) (wrap64 (x10 + 1))) else (none)) else (none)) else (none)) else (none)) else (if x8.size + ((rd_T35 x5 x10).f2).size ≤ 9223372036854775807 then (if (x8 ++ ((rd_T35 x5 x10).f2)).size + x7.size ≤ 9223372036854775807 then (cupellaw04_LexBlanks.l0 k x0 x5 x6 x7 ((x8 ++ ((rd_T35 x5 x10).f2)) ++ x7) ((rd_T35 x5 x10).f1) (wrap64 (x10 + 1))) else (none)) else (none))) else (none)) else (none))
def cupellaw04_LexBlanks.l1 : Nat → List (S35) → List (S39) → List (S35) → List (S39) → Int → Option (Bool)
  | 0, _, _, _, _, _ => none
  | k + 1, x5, x6, x11, x12, x13 => if x13 < (x6.length : Int) then (if 0 ≤ (wrap64 (x13 - 1)) then (if (wrap64 (x13 - 1)) < (x6.length : Int) then (if 0 ≤ x13 then (if ((rd_T39 x6 (wrap64 (x13 - 1))).f0) ≥ ((rd_T39 x6 x13).f0) then (some false) else (cupellaw04_LexBlanks.l1 k x5 x6 x11 x12 (wrap64 (x13 + 1)))) else (none)) else (none)) else (none)) else ((lex_Same.f x5 x11).bind fun t287 => (if t287 = true then (some ((x12.length : Int) == 0)) else (some false)))
end
def cupellaw04_LexBlanks.f (k : Nat) (a0 : ByteArray) (a1 : Int) : Option (Bool) := (cupellaw04_alive.f).bind fun t261 => (if t261 = true then (if (a0.size : Int) > 600 then (some true) else ((lex_Lex.f a0).bind fun bt262 => ((some (([(⟨#[32]⟩ : ByteArray), (⟨#[10]⟩ : ByteArray), (⟨#[9, 32, 13]⟩ : ByteArray), (⟨#[35, 32, 108, 101, 116, 32, 34, 10]⟩ : ByteArray), (⟨#[32, 32, 35, 10, 32]⟩ : ByteArray)] : List ByteArray) : List ByteArray)).bind fun y268 => (if 0 ≤ (Int.tmod a1 5) then (if (Int.tmod a1 5) < (y268.length : Int) then (cupellaw04_LexBlanks.l0 k a0 bt262.1 bt262.2 (rdOf ByteArray.empty y268 (Int.tmod a1 5)) (rdOf ByteArray.empty y268 (Int.tmod a1 5)) (-1) 0) else (none)) else (none))))) else (some false))
theorem cupellaw04_LexBlanks.mono_l : ∀ k, (∀ y0 y1 y2 y3 y4 y5 y6, LeO (cupellaw04_LexBlanks.l0 k y0 y1 y2 y3 y4 y5 y6) (cupellaw04_LexBlanks.l0 (k + 1) y0 y1 y2 y3 y4 y5 y6)) ∧ (∀ y0 y1 y2 y3 y4 y5 y6, LeO (cupellaw04_LexBlanks.j1 k y0 y1 y2 y3 y4 y5 y6) (cupellaw04_LexBlanks.j1 (k + 1) y0 y1 y2 y3 y4 y5 y6)) ∧ (∀ y0 y1 y2 y3 y4, LeO (cupellaw04_LexBlanks.l1 k y0 y1 y2 y3 y4) (cupellaw04_LexBlanks.l1 (k + 1) y0 y1 y2 y3 y4))
  | 0 => ⟨fun _ _ _ _ _ _ _ r h => by simp [cupellaw04_LexBlanks.l0] at h, fun _ _ _ _ _ _ _ r h => by simp [cupellaw04_LexBlanks.j1] at h, fun _ _ _ _ _ r h => by simp [cupellaw04_LexBlanks.l1] at h⟩
  | k + 1 => by
    obtain ⟨ih0, ih1, ih2⟩ := cupellaw04_LexBlanks.mono_l k
    refine ⟨?_, ?_, ?_⟩
    · intro y0 y1 y2 y3 y4 y5 y6
      unfold cupellaw04_LexBlanks.l0
      repeat' first
      | (with_reducible exact ih0 _ _ _ _ _ _ _)
      | (with_reducible exact ih1 _ _ _ _ _ _ _)
      | (with_reducible exact ih2 _ _ _ _ _)
      | (with_reducible exact LeO.refl _)
      | (with_reducible exact LeO.none _)
      | (with_reducible refine LeO.ite ?_ ?_)
      | (with_reducible refine LeO.bind ?_ (fun _ => ?_))
      | exact ih0 _ _ _ _ _ _ _
      | exact ih1 _ _ _ _ _ _ _
      | exact ih2 _ _ _ _ _
      | exact LeO.none _
      | refine LeO.ite ?_ ?_
      | refine LeO.bind ?_ (fun _ => ?_)
    · intro y0 y1 y2 y3 y4 y5 y6
      unfold cupellaw04_LexBlanks.j1
      repeat' first
      | (with_reducible exact ih0 _ _ _ _ _ _ _)
      | (with_reducible exact ih1 _ _ _ _ _ _ _)
      | (with_reducible exact ih2 _ _ _ _ _)
      | (with_reducible exact LeO.refl _)
      | (with_reducible exact LeO.none _)
      | (with_reducible refine LeO.ite ?_ ?_)
      | (with_reducible refine LeO.bind ?_ (fun _ => ?_))
      | exact ih0 _ _ _ _ _ _ _
      | exact ih1 _ _ _ _ _ _ _
      | exact ih2 _ _ _ _ _
      | exact LeO.none _
      | refine LeO.ite ?_ ?_
      | refine LeO.bind ?_ (fun _ => ?_)
    · intro y0 y1 y2 y3 y4
      unfold cupellaw04_LexBlanks.l1
      repeat' first
      | (with_reducible exact ih0 _ _ _ _ _ _ _)
      | (with_reducible exact ih1 _ _ _ _ _ _ _)
      | (with_reducible exact ih2 _ _ _ _ _)
      | (with_reducible exact LeO.refl _)
      | (with_reducible exact LeO.none _)
      | (with_reducible refine LeO.ite ?_ ?_)
      | (with_reducible refine LeO.bind ?_ (fun _ => ?_))
      | exact ih0 _ _ _ _ _ _ _
      | exact ih1 _ _ _ _ _ _ _
      | exact ih2 _ _ _ _ _
      | exact LeO.none _
      | refine LeO.ite ?_ ?_
      | refine LeO.bind ?_ (fun _ => ?_)
theorem cupellaw04_LexBlanks.mono : ∀ a0 a1 k, LeO (cupellaw04_LexBlanks.f k a0 a1) (cupellaw04_LexBlanks.f (k + 1) a0 a1) := by
  intro a0 a1 k
  obtain ⟨ih0, ih1, ih2⟩ := cupellaw04_LexBlanks.mono_l k
  unfold cupellaw04_LexBlanks.f
  repeat' first
      | (with_reducible exact ih0 _ _ _ _ _ _ _)
      | (with_reducible exact ih1 _ _ _ _ _ _ _)
      | (with_reducible exact ih2 _ _ _ _ _)
      | (with_reducible exact LeO.refl _)
      | (with_reducible exact LeO.none _)
      | (with_reducible refine LeO.ite ?_ ?_)
      | (with_reducible refine LeO.bind ?_ (fun _ => ?_))
      | exact ih0 _ _ _ _ _ _ _
      | exact ih1 _ _ _ _ _ _ _
      | exact ih2 _ _ _ _ _
      | exact LeO.none _
      | refine LeO.ite ?_ ?_
      | refine LeO.bind ?_ (fun _ => ?_)
set_option maxHeartbeats 8000000 in
set_option maxRecDepth 100000 in
theorem cupellaw04_LexBlanks.calls (k : Nat) (a0 : ByteArray) (a1 : Int) (r : Bool) (w : World) (h : cupellaw04_LexBlanks.f k a0 a1 = some r) :
    Calls Try.prog 6 #[.string a0, .int .u8 a1] w fun e w' => e = .returned (.bool r) ∧ Below w.heap.size w w' := by
  have HB := Aside0.mk (Below.refl w.heap.size w)
  have H : ((cupellaw04_alive.f).bind fun t261 => (if t261 = true then (if (a0.size : Int) > 600 then (some true) else ((lex_Lex.f a0).bind fun bt262 => ((some (([(⟨#[32]⟩ : ByteArray), (⟨#[10]⟩ : ByteArray), (⟨#[9, 32, 13]⟩ : ByteArray), (⟨#[35, 32, 108, 101, 116, 32, 34, 10]⟩ : ByteArray), (⟨#[32, 32, 35, 10, 32]⟩ : ByteArray)] : List ByteArray) : List ByteArray)).bind fun y268 => (if 0 ≤ (Int.tmod a1 5) then (if (Int.tmod a1 5) < (y268.length : Int) then (cupellaw04_LexBlanks.l0 k a0 bt262.1 bt262.2 (rdOf ByteArray.empty y268 (Int.tmod a1 5)) (rdOf ByteArray.empty y268 (Int.tmod a1 5)) (-1) 0) else (none)) else (none))))) else (some false))) = some r := h
  clear h
  replace H := Option.bind_eq_some_iff.mp H
  obtain ⟨t261, A30, H⟩ := H
  replace H : (if t261 = true then (if (a0.size : Int) > 600 then (some true) else ((lex_Lex.f a0).bind fun bt262 => ((some (([(⟨#[32]⟩ : ByteArray), (⟨#[10]⟩ : ByteArray), (⟨#[9, 32, 13]⟩ : ByteArray), (⟨#[35, 32, 108, 101, 116, 32, 34, 10]⟩ : ByteArray), (⟨#[32, 32, 35, 10, 32]⟩ : ByteArray)] : List ByteArray) : List ByteArray)).bind fun y268 => (if 0 ≤ (Int.tmod a1 5) then (if (Int.tmod a1 5) < (y268.length : Int) then (cupellaw04_LexBlanks.l0 k a0 bt262.1 bt262.2 (rdOf ByteArray.empty y268 (Int.tmod a1 5)) (rdOf ByteArray.empty y268 (Int.tmod a1 5)) (-1) 0) else (none)) else (none))))) else (some false)) = some r := H
  have A3 := Aside0.mk A30
  clear A30
  by_cases c4 : t261 = true
  · subst c4
    have H1 : (if (a0.size : Int) > 600 then (some true) else ((lex_Lex.f a0).bind fun bt262 => ((some (([(⟨#[32]⟩ : ByteArray), (⟨#[10]⟩ : ByteArray), (⟨#[9, 32, 13]⟩ : ByteArray), (⟨#[35, 32, 108, 101, 116, 32, 34, 10]⟩ : ByteArray), (⟨#[32, 32, 35, 10, 32]⟩ : ByteArray)] : List ByteArray) : List ByteArray)).bind fun y268 => (if 0 ≤ (Int.tmod a1 5) then (if (Int.tmod a1 5) < (y268.length : Int) then (cupellaw04_LexBlanks.l0 k a0 bt262.1 bt262.2 (rdOf ByteArray.empty y268 (Int.tmod a1 5)) (rdOf ByteArray.empty y268 (Int.tmod a1 5)) (-1) 0) else (none)) else (none))))) = some r := by rw [if_pos rfl] at H; exact H
    clear H
    have H := H1
    clear H1
    by_cases c5 : (a0.size : Int) > 600
    · rw [if_pos c5] at H
      have c5b0 : decide (600 < (a0.size : Int)) = true := decide_eq_true c5
      have c5b1 : decide (600 < a0.size) = true := decide_eq_true (by omega)
      clear c5
      obtain rfl := Option.some.inj H
      go_enter Try.func6, Try.ntmps6
      go_wp2_with (first | (go_at_call 9; (with_reducible refine (cupellaw04_alive.calls  true _ A3.out).mono ?_); rintro e w6 ⟨rfl, hb⟩; (try clear A3); have n0_ := Aside0.mk (below_step (by repeat (first | (with_reducible first | exact HB.out | apply below_alloc | apply pw_below_drewN | apply below_drew1) | exact HB.out)) hb); clear HB; have HB := n0_; clear n0_; (try clear hb); (try clear hb2); (try clear hk); (try clear hi)))
      repeat (go_quiet (first | (go_at_call 9; (with_reducible refine (cupellaw04_alive.calls  true _ A3.out).mono ?_); rintro e w6 ⟨rfl, hb⟩; (try clear A3); have n0_ := Aside0.mk (below_step (by repeat (first | (with_reducible first | exact HB.out | apply below_alloc | apply pw_below_drewN | apply below_drew1) | exact HB.out)) hb); clear HB; have HB := n0_; clear n0_; (try clear hb); (try clear hb2); (try clear hk); (try clear hi))); try go_wp2_with (first | (go_at_call 9; (with_reducible refine (cupellaw04_alive.calls  true _ A3.out).mono ?_); rintro e w6 ⟨rfl, hb⟩; (try clear A3); have n0_ := Aside0.mk (below_step (by repeat (first | (with_reducible first | exact HB.out | apply below_alloc | apply pw_below_drewN | apply below_drew1) | exact HB.out)) hb); clear HB; have HB := n0_; clear n0_; (try clear hb); (try clear hb2); (try clear hk); (try clear hi))))
      go_ret
      exact ⟨by first | rfl | (simp [errW_none, errW_some] <;> rfl) | (simp [*, errW_none, errW_some] <;> rfl), by repeat (first | (with_reducible first | exact HB.out | apply below_alloc | apply pw_below_drewN | apply below_drew1) | exact HB.out)⟩
    · rw [if_neg c5] at H
      have c5b0 : decide (600 < (a0.size : Int)) = false := decide_eq_false c5
      have c5b1 : decide (600 < a0.size) = false := decide_eq_false (by omega)
      clear c5
      replace H := Option.bind_eq_some_iff.mp H
      obtain ⟨⟨t262, t263⟩, A70, H⟩ := H
      replace H : ((some (([(⟨#[32]⟩ : ByteArray), (⟨#[10]⟩ : ByteArray), (⟨#[9, 32, 13]⟩ : ByteArray), (⟨#[35, 32, 108, 101, 116, 32, 34, 10]⟩ : ByteArray), (⟨#[32, 32, 35, 10, 32]⟩ : ByteArray)] : List ByteArray) : List ByteArray)).bind fun y268 => (if 0 ≤ (Int.tmod a1 5) then (if (Int.tmod a1 5) < (y268.length : Int) then (cupellaw04_LexBlanks.l0 k a0 t262 t263 (rdOf ByteArray.empty y268 (Int.tmod a1 5)) (rdOf ByteArray.empty y268 (Int.tmod a1 5)) (-1) 0) else (none)) else (none))) = some r := H
      have A7 := Aside0.mk A70
      clear A70
      obtain ⟨y268, hy268⟩ : ∃ y_ : List ByteArray, y_ = (([(⟨#[32]⟩ : ByteArray), (⟨#[10]⟩ : ByteArray), (⟨#[9, 32, 13]⟩ : ByteArray), (⟨#[35, 32, 108, 101, 116, 32, 34, 10]⟩ : ByteArray), (⟨#[32, 32, 35, 10, 32]⟩ : ByteArray)] : List ByteArray)) := ⟨_, rfl⟩
      replace H : (if 0 ≤ (Int.tmod a1 5) then (if (Int.tmod a1 5) < (y268.length : Int) then (cupellaw04_LexBlanks.l0 k a0 t262 t263 (rdOf ByteArray.empty y268 (Int.tmod a1 5)) (rdOf ByteArray.empty y268 (Int.tmod a1 5)) (-1) 0) else (none)) else (none)) = some r := by first | (rw [hy268]; with_reducible exact H) | (have H2_ := (Option.bind_some _ _).symm.trans H; rw [hy268]; with_reducible exact H2_) | (have H2_ := (Option.bind_some _ _).symm.trans H; with_reducible exact H2_) | with_reducible exact H | (rw [hy268]; exact H) | exact H
      have Ny268 := Aside0.mk hy268
      clear hy268
      obtain ⟨ji8, hji8⟩ : ∃ j_ : Int, (Int.tmod a1 5) = j_ := ⟨_, rfl⟩
      replace H : (if 0 ≤ (ji8) then (if (ji8) < (y268.length : Int) then (cupellaw04_LexBlanks.l0 k a0 t262 t263 (rdOf ByteArray.empty y268 (ji8)) (rdOf ByteArray.empty y268 (ji8)) (-1) 0) else (none)) else (none)) = some r := by first | (rw [hji8] at H; exact H) | (simp only [hji8] at H ⊢; exact H)
      (try rw [hji8] at A3)
      (try rw [hji8] at A7)
      by_cases c9 : 0 ≤ (ji8)
      · rw [if_pos c9] at H
        have c9b0 : decide (0 ≤ (ji8)) = true := decide_eq_true c9
        clear c9
        by_cases c10 : (ji8) < (y268.length : Int)
        · rw [if_pos c10] at H
          have c10b0 : decide ((ji8) < (y268.length : Int)) = true := decide_eq_true c10
          clear c10
          have H' := Aside0.mk H
          clear H
          go_enter Try.func6, Try.ntmps6
          go_wp2_with (first | (go_at_call 9; (with_reducible refine (cupellaw04_alive.calls  true _ A3.out).mono ?_); rintro e w11 ⟨rfl, hb⟩; (try clear A3); have n0_ := Aside0.mk (below_step (by repeat (first | (with_reducible first | exact HB.out | apply below_alloc | apply pw_below_drewN | apply below_drew1) | exact HB.out)) hb); clear HB; have HB := n0_; clear n0_; (try clear hb); (try clear hb2); (try clear hk); (try clear hi)) | (go_at_call 10; (with_reducible refine (lex_Lex.calls a0 t262 t263 _ A7.out).mono ?_); rintro e w12 ⟨v264, v266, rfl, ho0, ho1, hb⟩; (try clear A7); have n0_ := Aside0.mk (Kd.R_lower ho0 (below_size (by repeat (first | (with_reducible first | exact HB.out | apply below_alloc | apply pw_below_drewN | apply below_drew1) | exact HB.out)))); have n1_ := Aside0.mk (Kd.R_lower ho1 (below_size (by repeat (first | (with_reducible first | exact HB.out | apply below_alloc | apply pw_below_drewN | apply below_drew1) | exact HB.out)))); have n2_ := Aside0.mk (below_step (by repeat (first | (with_reducible first | exact HB.out | apply below_alloc | apply pw_below_drewN | apply below_drew1) | exact HB.out)) hb); clear HB; have HO265 := n0_; have HO267 := n1_; have HB := n2_; clear n0_ n1_ n2_; (try clear hb); (try clear hb2); (try clear hk); (try clear hi); (try clear ho0); (try clear ho1)) | ((with_reducible refine gate_dst (N := 24) rfl ?_); (try (refine gate_guard (by rfl) ?_; dsimp only)); refine Kd.R_lit Kd.string _ 9 ?hg (N := 24) ?hd (xs := ([(⟨#[32]⟩ : ByteArray), (⟨#[10]⟩ : ByteArray), (⟨#[9, 32, 13]⟩ : ByteArray), (⟨#[35, 32, 108, 101, 116, 32, 34, 10]⟩ : ByteArray), (⟨#[32, 32, 35, 10, 32]⟩ : ByteArray)] : List ByteArray)) (inner := [.string (⟨#[32]⟩ : ByteArray), .string (⟨#[10]⟩ : ByteArray), .string (⟨#[9, 32, 13]⟩ : ByteArray), .string (⟨#[35, 32, 108, 101, 116, 32, 34, 10]⟩ : ByteArray), .string (⟨#[32, 32, 35, 10, 32]⟩ : ByteArray)]) (ok := fun _ => True) (okp := fun _ => True) ?hr ?hp (fun _ hk => hk) trivial (Below.refl _ _) (Nat.le_refl _) (by simp) ?_; (case hd => rfl); (case hg => rfl); (case hr => first | (go_simp; done) | (go_simp; rfl)); (case hp => exact (Reps.one (show Kd.M Kd.string _ _ _ (⟨#[32]⟩ : ByteArray) [.string (⟨#[32]⟩ : ByteArray)] from rfl) (Reps.one (show Kd.M Kd.string _ _ _ (⟨#[10]⟩ : ByteArray) [.string (⟨#[10]⟩ : ByteArray)] from rfl) (Reps.one (show Kd.M Kd.string _ _ _ (⟨#[9, 32, 13]⟩ : ByteArray) [.string (⟨#[9, 32, 13]⟩ : ByteArray)] from rfl) (Reps.one (show Kd.M Kd.string _ _ _ (⟨#[35, 32, 108, 101, 116, 32, 34, 10]⟩ : ByteArray) [.string (⟨#[35, 32, 108, 101, 116, 32, 34, 10]⟩ : ByteArray)] from rfl) (Reps.one (show Kd.M Kd.string _ _ _ (⟨#[32, 32, 35, 10, 32]⟩ : ByteArray) [.string (⟨#[32, 32, 35, 10, 32]⟩ : ByteArray)] from rfl) (Reps.none _ _))))))); intro v269 w13 ho14 hb hg_ hnew_; clear hg_ hnew_; (first | rw [← Ny268.out] at ho14 | (simp only [Int.reduceToNat] at ho14; rw [← Ny268.out] at ho14)); have n0_ := Aside0.mk (Kd.R_below (by (with_reducible repeat (first | apply Kd.R_alloc | apply Kd.R_drewN | apply Kd.R_drew)); exact HO265.out) hb); have n1_ := Aside0.mk (Kd.R_below (by (with_reducible repeat (first | apply Kd.R_alloc | apply Kd.R_drewN | apply Kd.R_drew)); exact HO267.out) hb); have n2_ := Aside0.mk (Kd.R_lower ho14 (below_size (by repeat (first | (with_reducible first | exact HB.out | apply below_alloc | apply pw_below_drewN | apply below_drew1) | exact HB.out)))); have n3_ := Aside0.mk (below_step (by repeat (first | (with_reducible first | exact HB.out | apply below_alloc | apply pw_below_drewN | apply below_drew1) | exact HB.out)) hb); clear HO265; clear HO267; clear HB; have HO265 := n0_; have HO267 := n1_; have HO270 := n2_; have HB := n3_; clear n0_ n1_ n2_ n3_; clear hb ho14; obtain ⟨Ao15, co15, eo15⟩ := Kd.R_slice HO270.out; subst eo15; have p271 : 0 ≤ ((ji8) : Int) := of_decide_eq_true (by first | (with_reducible assumption) | assumption); have q271 : (ji8) < (y268.length : Int) := of_decide_eq_true (by first | (with_reducible assumption) | assumption); obtain ⟨ad271, e271, hx271_0⟩ := Kd.at_string (Kd.R_reads' HO270.out).2.2 (ji8) p271 q271; cases e271; replace p271 := eq_true p271; replace q271 := eq_true q271))
          repeat (go_quiet (first | (go_at_call 9; (with_reducible refine (cupellaw04_alive.calls  true _ A3.out).mono ?_); rintro e w11 ⟨rfl, hb⟩; (try clear A3); have n0_ := Aside0.mk (below_step (by repeat (first | (with_reducible first | exact HB.out | apply below_alloc | apply pw_below_drewN | apply below_drew1) | exact HB.out)) hb); clear HB; have HB := n0_; clear n0_; (try clear hb); (try clear hb2); (try clear hk); (try clear hi)) | (go_at_call 10; (with_reducible refine (lex_Lex.calls a0 t262 t263 _ A7.out).mono ?_); rintro e w12 ⟨v264, v266, rfl, ho0, ho1, hb⟩; (try clear A7); have n0_ := Aside0.mk (Kd.R_lower ho0 (below_size (by repeat (first | (with_reducible first | exact HB.out | apply below_alloc | apply pw_below_drewN | apply below_drew1) | exact HB.out)))); have n1_ := Aside0.mk (Kd.R_lower ho1 (below_size (by repeat (first | (with_reducible first | exact HB.out | apply below_alloc | apply pw_below_drewN | apply below_drew1) | exact HB.out)))); have n2_ := Aside0.mk (below_step (by repeat (first | (with_reducible first | exact HB.out | apply below_alloc | apply pw_below_drewN | apply below_drew1) | exact HB.out)) hb); clear HB; have HO265 := n0_; have HO267 := n1_; have HB := n2_; clear n0_ n1_ n2_; (try clear hb); (try clear hb2); (try clear hk); (try clear hi); (try clear ho0); (try clear ho1)) | ((with_reducible refine gate_dst (N := 24) rfl ?_); (try (refine gate_guard (by rfl) ?_; dsimp only)); refine Kd.R_lit Kd.string _ 9 ?hg (N := 24) ?hd (xs := ([(⟨#[32]⟩ : ByteArray), (⟨#[10]⟩ : ByteArray), (⟨#[9, 32, 13]⟩ : ByteArray), (⟨#[35, 32, 108, 101, 116, 32, 34, 10]⟩ : ByteArray), (⟨#[32, 32, 35, 10, 32]⟩ : ByteArray)] : List ByteArray)) (inner := [.string (⟨#[32]⟩ : ByteArray), .string (⟨#[10]⟩ : ByteArray), .string (⟨#[9, 32, 13]⟩ : ByteArray), .string (⟨#[35, 32, 108, 101, 116, 32, 34, 10]⟩ : ByteArray), .string (⟨#[32, 32, 35, 10, 32]⟩ : ByteArray)]) (ok := fun _ => True) (okp := fun _ => True) ?hr ?hp (fun _ hk => hk) trivial (Below.refl _ _) (Nat.le_refl _) (by simp) ?_; (case hd => rfl); (case hg => rfl); (case hr => first | (go_simp; done) | (go_simp; rfl)); (case hp => exact (Reps.one (show Kd.M Kd.string _ _ _ (⟨#[32]⟩ : ByteArray) [.string (⟨#[32]⟩ : ByteArray)] from rfl) (Reps.one (show Kd.M Kd.string _ _ _ (⟨#[10]⟩ : ByteArray) [.string (⟨#[10]⟩ : ByteArray)] from rfl) (Reps.one (show Kd.M Kd.string _ _ _ (⟨#[9, 32, 13]⟩ : ByteArray) [.string (⟨#[9, 32, 13]⟩ : ByteArray)] from rfl) (Reps.one (show Kd.M Kd.string _ _ _ (⟨#[35, 32, 108, 101, 116, 32, 34, 10]⟩ : ByteArray) [.string (⟨#[35, 32, 108, 101, 116, 32, 34, 10]⟩ : ByteArray)] from rfl) (Reps.one (show Kd.M Kd.string _ _ _ (⟨#[32, 32, 35, 10, 32]⟩ : ByteArray) [.string (⟨#[32, 32, 35, 10, 32]⟩ : ByteArray)] from rfl) (Reps.none _ _))))))); intro v269 w13 ho14 hb hg_ hnew_; clear hg_ hnew_; (first | rw [← Ny268.out] at ho14 | (simp only [Int.reduceToNat] at ho14; rw [← Ny268.out] at ho14)); have n0_ := Aside0.mk (Kd.R_below (by (with_reducible repeat (first | apply Kd.R_alloc | apply Kd.R_drewN | apply Kd.R_drew)); exact HO265.out) hb); have n1_ := Aside0.mk (Kd.R_below (by (with_reducible repeat (first | apply Kd.R_alloc | apply Kd.R_drewN | apply Kd.R_drew)); exact HO267.out) hb); have n2_ := Aside0.mk (Kd.R_lower ho14 (below_size (by repeat (first | (with_reducible first | exact HB.out | apply below_alloc | apply pw_below_drewN | apply below_drew1) | exact HB.out)))); have n3_ := Aside0.mk (below_step (by repeat (first | (with_reducible first | exact HB.out | apply below_alloc | apply pw_below_drewN | apply below_drew1) | exact HB.out)) hb); clear HO265; clear HO267; clear HB; have HO265 := n0_; have HO267 := n1_; have HO270 := n2_; have HB := n3_; clear n0_ n1_ n2_ n3_; clear hb ho14; obtain ⟨Ao15, co15, eo15⟩ := Kd.R_slice HO270.out; subst eo15; have p271 : 0 ≤ ((ji8) : Int) := of_decide_eq_true (by first | (with_reducible assumption) | assumption); have q271 : (ji8) < (y268.length : Int) := of_decide_eq_true (by first | (with_reducible assumption) | assumption); obtain ⟨ad271, e271, hx271_0⟩ := Kd.at_string (Kd.R_reads' HO270.out).2.2 (ji8) p271 q271; cases e271; replace p271 := eq_true p271; replace q271 := eq_true q271)); try go_wp2_with (first | (go_at_call 9; (with_reducible refine (cupellaw04_alive.calls  true _ A3.out).mono ?_); rintro e w11 ⟨rfl, hb⟩; (try clear A3); have n0_ := Aside0.mk (below_step (by repeat (first | (with_reducible first | exact HB.out | apply below_alloc | apply pw_below_drewN | apply below_drew1) | exact HB.out)) hb); clear HB; have HB := n0_; clear n0_; (try clear hb); (try clear hb2); (try clear hk); (try clear hi)) | (go_at_call 10; (with_reducible refine (lex_Lex.calls a0 t262 t263 _ A7.out).mono ?_); rintro e w12 ⟨v264, v266, rfl, ho0, ho1, hb⟩; (try clear A7); have n0_ := Aside0.mk (Kd.R_lower ho0 (below_size (by repeat (first | (with_reducible first | exact HB.out | apply below_alloc | apply pw_below_drewN | apply below_drew1) | exact HB.out)))); have n1_ := Aside0.mk (Kd.R_lower ho1 (below_size (by repeat (first | (with_reducible first | exact HB.out | apply below_alloc | apply pw_below_drewN | apply below_drew1) | exact HB.out)))); have n2_ := Aside0.mk (below_step (by repeat (first | (with_reducible first | exact HB.out | apply below_alloc | apply pw_below_drewN | apply below_drew1) | exact HB.out)) hb); clear HB; have HO265 := n0_; have HO267 := n1_; have HB := n2_; clear n0_ n1_ n2_; (try clear hb); (try clear hb2); (try clear hk); (try clear hi); (try clear ho0); (try clear ho1)) | ((with_reducible refine gate_dst (N := 24) rfl ?_); (try (refine gate_guard (by rfl) ?_; dsimp only)); refine Kd.R_lit Kd.string _ 9 ?hg (N := 24) ?hd (xs := ([(⟨#[32]⟩ : ByteArray), (⟨#[10]⟩ : ByteArray), (⟨#[9, 32, 13]⟩ : ByteArray), (⟨#[35, 32, 108, 101, 116, 32, 34, 10]⟩ : ByteArray), (⟨#[32, 32, 35, 10, 32]⟩ : ByteArray)] : List ByteArray)) (inner := [.string (⟨#[32]⟩ : ByteArray), .string (⟨#[10]⟩ : ByteArray), .string (⟨#[9, 32, 13]⟩ : ByteArray), .string (⟨#[35, 32, 108, 101, 116, 32, 34, 10]⟩ : ByteArray), .string (⟨#[32, 32, 35, 10, 32]⟩ : ByteArray)]) (ok := fun _ => True) (okp := fun _ => True) ?hr ?hp (fun _ hk => hk) trivial (Below.refl _ _) (Nat.le_refl _) (by simp) ?_; (case hd => rfl); (case hg => rfl); (case hr => first | (go_simp; done) | (go_simp; rfl)); (case hp => exact (Reps.one (show Kd.M Kd.string _ _ _ (⟨#[32]⟩ : ByteArray) [.string (⟨#[32]⟩ : ByteArray)] from rfl) (Reps.one (show Kd.M Kd.string _ _ _ (⟨#[10]⟩ : ByteArray) [.string (⟨#[10]⟩ : ByteArray)] from rfl) (Reps.one (show Kd.M Kd.string _ _ _ (⟨#[9, 32, 13]⟩ : ByteArray) [.string (⟨#[9, 32, 13]⟩ : ByteArray)] from rfl) (Reps.one (show Kd.M Kd.string _ _ _ (⟨#[35, 32, 108, 101, 116, 32, 34, 10]⟩ : ByteArray) [.string (⟨#[35, 32, 108, 101, 116, 32, 34, 10]⟩ : ByteArray)] from rfl) (Reps.one (show Kd.M Kd.string _ _ _ (⟨#[32, 32, 35, 10, 32]⟩ : ByteArray) [.string (⟨#[32, 32, 35, 10, 32]⟩ : ByteArray)] from rfl) (Reps.none _ _))))))); intro v269 w13 ho14 hb hg_ hnew_; clear hg_ hnew_; (first | rw [← Ny268.out] at ho14 | (simp only [Int.reduceToNat] at ho14; rw [← Ny268.out] at ho14)); have n0_ := Aside0.mk (Kd.R_below (by (with_reducible repeat (first | apply Kd.R_alloc | apply Kd.R_drewN | apply Kd.R_drew)); exact HO265.out) hb); have n1_ := Aside0.mk (Kd.R_below (by (with_reducible repeat (first | apply Kd.R_alloc | apply Kd.R_drewN | apply Kd.R_drew)); exact HO267.out) hb); have n2_ := Aside0.mk (Kd.R_lower ho14 (below_size (by repeat (first | (with_reducible first | exact HB.out | apply below_alloc | apply pw_below_drewN | apply below_drew1) | exact HB.out)))); have n3_ := Aside0.mk (below_step (by repeat (first | (with_reducible first | exact HB.out | apply below_alloc | apply pw_below_drewN | apply below_drew1) | exact HB.out)) hb); clear HO265; clear HO267; clear HB; have HO265 := n0_; have HO267 := n1_; have HO270 := n2_; have HB := n3_; clear n0_ n1_ n2_ n3_; clear hb ho14; obtain ⟨Ao15, co15, eo15⟩ := Kd.R_slice HO270.out; subst eo15; have p271 : 0 ≤ ((ji8) : Int) := of_decide_eq_true (by first | (with_reducible assumption) | assumption); have q271 : (ji8) < (y268.length : Int) := of_decide_eq_true (by first | (with_reducible assumption) | assumption); obtain ⟨ad271, e271, hx271_0⟩ := Kd.at_string (Kd.R_reads' HO270.out).2.2 (ji8) p271 q271; cases e271; replace p271 := eq_true p271; replace q271 := eq_true q271)))
          go_loopg [8, 9, 10] k (fun kq v8 v9 v10 w' => ∃ (x8_1 : ByteArray) (x9_1 : Int) (x10_1 : Int), v8 = .string x8_1 ∧ v9 = .int .i64 x9_1 ∧ v10 = .int .i64 x10_1 ∧ Aside0 (cupellaw04_LexBlanks.l0 kq a0 t262 t263 (rdOf ByteArray.empty y268 (ji8)) x8_1 x9_1 x10_1 = some r) ∧ Aside0 (kq ≤ k) ∧ Aside0 (Kd.R k35 35 w' w.heap.size (fun _ => True) v264 t262) ∧ Aside0 (Kd.R k39 39 w' w.heap.size (fun _ => True) v266 t263) ∧ Aside0 (Below w.heap.size w w'))
          case atStart => exact ⟨(rdOf ByteArray.empty y268 (ji8)), ((-1)), (0), (by first | rfl | (simp; done) | (simp only [← hji8] <;> (first | rfl | simp)) | (simp [*]; done)), (by first | rfl | (simp; done) | (simp [*]; done)), (by first | rfl | (simp; done) | (simp [*]; done)), H', ⟨Nat.le_refl _⟩, ⟨by (with_reducible repeat (first | apply Kd.R_alloc | apply Kd.R_drewN | apply Kd.R_drew)); exact HO265.out⟩, ⟨by (with_reducible repeat (first | apply Kd.R_alloc | apply Kd.R_drewN | apply Kd.R_drew)); exact HO267.out⟩, ⟨by repeat (first | (with_reducible first | exact HB.out | apply below_alloc | apply pw_below_drewN | apply below_drew1) | exact HB.out)⟩⟩
          case round =>
            clear H'
            try clear c1
            try clear p2
            try clear q2
            try clear hx2
            try clear c4
            try clear c5
            try clear c5b0
            try clear c5b1
            try clear c6
            try clear c9
            try clear c9b0
            try clear c10
            try clear c10b0
            try clear hx271_0
            try clear p271
            try clear q271
            obtain ⟨x8_1, x9_1, x10_1, rfl, rfl, rfl, HA, HK1, HO_5, HO_6, HB⟩ := hrel
            cases gk with
            | zero => exact absurd HA.out (by simp [cupellaw04_LexBlanks.l0])
            | succ k1 =>
              have H := HA.out
              clear HA
              simp only [cupellaw04_LexBlanks.l0] at H
              by_cases c16 : x10_1 < (t262.length : Int)
              · rw [if_pos c16] at H
                have c16b0 : decide (x10_1 < (t262.length : Int)) = true := decide_eq_true c16
                clear c16
                have HC17 := Aside0.mk H
                clear H
                obtain ⟨Ao18, co18, eo18⟩ := Kd.R_slice HO_5.out
                subst eo18
                go_upto_region 12 with (fail)
                repeat (go_quiet (fail); go_upto_region 12 with (fail))
                go_cut [56] (fun v56 wc => ∃ (kq : Nat) (x56_16 : Bool), v56 = .bool x56_16 ∧ Aside0 (cupellaw04_LexBlanks.j1 kq a0 t262 t263 (rdOf ByteArray.empty y268 (ji8)) x8_1 x10_1 x56_16 = some r) ∧ Aside0 (kq ≤ k1) ∧ Aside0 (Kd.R k35 35 wc w.heap.size (fun _ => True) (.slice Ao18 t262.length co18) t262) ∧ Aside0 (Kd.R k39 39 wc w.heap.size (fun _ => True) v266 t263) ∧ Aside0 (Below w.heap.size w wc))
                case first =>
                  have H := HC17.out
                  clear HC17
                  by_cases c19 : 0 ≤ x10_1
                  · rw [if_pos c19] at H
                    have c19b0 : decide (0 ≤ x10_1) = true := decide_eq_true c19
                    clear c19
                    (first | rw [c19b0] | (simp only [i64_w, i32_w]; rw [c19b0]) | skip)
                    by_cases c20 : ((rd_T35 t262 x10_1).f1) ≤ x9_1
                    · rw [if_pos c20] at H
                      have c20b0 : decide (((rd_T35 t262 x10_1).f1) ≤ x9_1) = true := decide_eq_true c20
                      clear c20
                      by_cases c21 : x10_1 > 0
                      · rw [if_pos c21] at H
                        have c21b0 : decide (0 < x10_1) = true := decide_eq_true c21
                        clear c21
                        have H' := Aside0.mk H
                        clear H
                        have p272 : 0 ≤ (x10_1 : Int) := of_decide_eq_true (by first | (with_reducible assumption) | assumption)
                        have q272 : x10_1 < (t262.length : Int) := of_decide_eq_true (by first | (with_reducible assumption) | assumption)
                        obtain ⟨ad272, e272, hx272_0, hx272_1, hx272_2⟩ := at_T35 (Kd.R_reads' HO_5.out).2.2 x10_1 p272 q272
                        cases e272
                        replace p272 := eq_true p272
                        replace q272 := eq_true q272
                        go_wp2
                        repeat (go_quiet (fail); try go_wp2)
                        go_meet
                        case rel => exact ⟨_, (true), (by first | rfl | (simp; done) | (simp [*]; done)), H', ⟨by have := HK1.out; first | omega | exact Nat.le_refl _⟩, ⟨by (with_reducible repeat (first | apply Kd.R_alloc | apply Kd.R_drewN | apply Kd.R_drew)); exact HO_5.out⟩, ⟨by (with_reducible repeat (first | apply Kd.R_alloc | apply Kd.R_drewN | apply Kd.R_drew)); exact HO_6.out⟩, ⟨by repeat (first | (with_reducible first | exact HB.out | apply below_alloc | apply pw_below_drewN | apply below_drew1) | exact HB.out)⟩⟩
                      · rw [if_neg c21] at H
                        have c21b0 : decide (0 < x10_1) = false := decide_eq_false c21
                        clear c21
                        have H' := Aside0.mk H
                        clear H
                        have p272 : 0 ≤ (x10_1 : Int) := of_decide_eq_true (by first | (with_reducible assumption) | assumption)
                        have q272 : x10_1 < (t262.length : Int) := of_decide_eq_true (by first | (with_reducible assumption) | assumption)
                        obtain ⟨ad272, e272, hx272_0, hx272_1, hx272_2⟩ := at_T35 (Kd.R_reads' HO_5.out).2.2 x10_1 p272 q272
                        cases e272
                        replace p272 := eq_true p272
                        replace q272 := eq_true q272
                        have p273 : 0 ≤ (x10_1 : Int) := of_decide_eq_true (by first | (with_reducible assumption) | assumption)
                        have q273 : x10_1 < (t262.length : Int) := of_decide_eq_true (by first | (with_reducible assumption) | assumption)
                        obtain ⟨ad273, e273, hx273_0, hx273_1, hx273_2⟩ := at_T35 (Kd.R_reads' HO_5.out).2.2 x10_1 p273 q273
                        obtain rfl : ad272 = ad273 := (by injection e273)
                        replace p273 := eq_true p273
                        replace q273 := eq_true q273
                        go_wp2
                        repeat (go_quiet (fail); try go_wp2)
                        go_meet
                        case rel => exact ⟨_, (decide (((rd_T35 t262 x10_1).f1) > (a0.size : Int))), (by first | rfl | (simp; done) | (simp [*]; done)), H', ⟨by have := HK1.out; first | omega | exact Nat.le_refl _⟩, ⟨by (with_reducible repeat (first | apply Kd.R_alloc | apply Kd.R_drewN | apply Kd.R_drew)); exact HO_5.out⟩, ⟨by (with_reducible repeat (first | apply Kd.R_alloc | apply Kd.R_drewN | apply Kd.R_drew)); exact HO_6.out⟩, ⟨by repeat (first | (with_reducible first | exact HB.out | apply below_alloc | apply pw_below_drewN | apply below_drew1) | exact HB.out)⟩⟩
                    · rw [if_neg c20] at H
                      have c20b0 : decide (((rd_T35 t262 x10_1).f1) ≤ x9_1) = false := decide_eq_false c20
                      clear c20
                      have H' := Aside0.mk H
                      clear H
                      have p272 : 0 ≤ (x10_1 : Int) := of_decide_eq_true (by first | (with_reducible assumption) | assumption)
                      have q272 : x10_1 < (t262.length : Int) := of_decide_eq_true (by first | (with_reducible assumption) | assumption)
                      obtain ⟨ad272, e272, hx272_0, hx272_1, hx272_2⟩ := at_T35 (Kd.R_reads' HO_5.out).2.2 x10_1 p272 q272
                      cases e272
                      replace p272 := eq_true p272
                      replace q272 := eq_true q272
                      have p274 : 0 ≤ (x10_1 : Int) := of_decide_eq_true (by first | (with_reducible assumption) | assumption)
                      have q274 : x10_1 < (t262.length : Int) := of_decide_eq_true (by first | (with_reducible assumption) | assumption)
                      obtain ⟨ad274, e274, hx274_0, hx274_1, hx274_2⟩ := at_T35 (Kd.R_reads' HO_5.out).2.2 x10_1 p274 q274
                      obtain rfl : ad272 = ad274 := (by injection e274)
                      replace p274 := eq_true p274
                      replace q274 := eq_true q274
                      go_wp2
                      repeat (go_quiet (fail); try go_wp2)
                      go_meet
                      case rel => exact ⟨_, (decide (((rd_T35 t262 x10_1).f1) > (a0.size : Int))), (by first | rfl | (simp; done) | (simp [*]; done)), H', ⟨by have := HK1.out; first | omega | exact Nat.le_refl _⟩, ⟨by (with_reducible repeat (first | apply Kd.R_alloc | apply Kd.R_drewN | apply Kd.R_drew)); exact HO_5.out⟩, ⟨by (with_reducible repeat (first | apply Kd.R_alloc | apply Kd.R_drewN | apply Kd.R_drew)); exact HO_6.out⟩, ⟨by repeat (first | (with_reducible first | exact HB.out | apply below_alloc | apply pw_below_drewN | apply below_drew1) | exact HB.out)⟩⟩
                  · rw [if_neg c19] at H
                    exact absurd H (by simp)
                case rest =>
                  clear HC17
                  try clear c1
                  try clear c2
                  try clear p2
                  try clear q2
                  try clear hx2
                  try clear c4
                  try clear c5
                  try clear c5b0
                  try clear c5b1
                  try clear c6
                  try clear c9
                  try clear c9b0
                  try clear c10
                  try clear c10b0
                  try clear c16
                  try clear c16b0
                  try clear c19
                  try clear c19b0
                  try clear c20
                  try clear c20b0
                  try clear c21
                  try clear c21b0
                  try clear hx271_0
                  try clear hx272_0
                  try clear hx272_1
                  try clear hx272_2
                  try clear hx273_0
                  try clear hx273_1
                  try clear hx273_2
                  try clear hx274_0
                  try clear hx274_1
                  try clear hx274_2
                  try clear p2
                  try clear p271
                  try clear p272
                  try clear p273
                  try clear p274
                  try clear q2
                  try clear q271
                  try clear q272
                  try clear q273
                  try clear q274
                  obtain ⟨kq, x56_16, rfl, HA, HJ16, HO_5, HO_6, HB⟩ := hcut
                  cases kq with
                  | zero => exact absurd HA.out (by simp [cupellaw04_LexBlanks.j1])
                  | succ kj16 =>
                    have H := HA.out
                    clear HA
                    simp only [cupellaw04_LexBlanks.j1] at H
                    by_cases c22 : x56_16 = true
                    · subst c22
                      have H1 : (some false) = some r := by rw [if_pos rfl] at H; exact H
                      clear H
                      have H := H1
                      clear H1
                      obtain rfl := Option.some.inj H
                      go_wp2
                      repeat (go_quiet (fail); try go_wp2)
                      go_ret
                      exact ⟨by first | rfl | (simp [errW_none, errW_some] <;> rfl) | (simp only [← hji8]; first | rfl | (simp [errW_none, errW_some] <;> rfl)) | (simp [*, errW_none, errW_some] <;> rfl), by repeat (first | (with_reducible first | exact HB.out | apply below_alloc | apply pw_below_drewN | apply below_drew1) | exact HB.out)⟩
                    · replace c22 := Bool.eq_false_iff.mpr c22
                      subst c22
                      have H1 : (if 0 ≤ x10_1 then (if x10_1 < (t262.length : Int) then (if ((rd_T35 t262 x10_1).f0) = 4 then (if x8_1.size + 1 ≤ 9223372036854775807 then (if (x8_1 ++ (⟨#[34]⟩ : ByteArray)).size + ((rd_T35 t262 x10_1).f2).size ≤ 9223372036854775807 then (if ((x8_1 ++ (⟨#[34]⟩ : ByteArray)) ++ ((rd_T35 t262 x10_1).f2)).size + 1 ≤ 9223372036854775807 then (if (((x8_1 ++ (⟨#[34]⟩ : ByteArray)) ++ ((rd_T35 t262 x10_1).f2)) ++ (⟨#[34]⟩ : ByteArray)).size + (rdOf ByteArray.empty y268 (ji8)).size ≤ 9223372036854775807 then (cupellaw04_LexBlanks.l0 kj16 a0 t262 t263 (rdOf ByteArray.empty y268 (ji8)) ((((x8_1 ++ (⟨#[34]⟩ : ByteArray)) ++ ((rd_T35 t262 x10_1).f2)) ++ (⟨#[34]⟩ : ByteArray)) ++ (rdOf ByteArray.empty y268 (ji8))) ((rd_T35 t262 x10_1).f1) (wrap64 (x10_1 + 1))) else (none)) else (none)) else (none)) else (none)) else (if x8_1.size + ((rd_T35 t262 x10_1).f2).size ≤ 9223372036854775807 then (if (x8_1 ++ ((rd_T35 t262 x10_1).f2)).size + (rdOf ByteArray.empty y268 (ji8)).size ≤ 9223372036854775807 then (cupellaw04_LexBlanks.l0 kj16 a0 t262 t263 (rdOf ByteArray.empty y268 (ji8)) ((x8_1 ++ ((rd_T35 t262 x10_1).f2)) ++ (rdOf ByteArray.empty y268 (ji8))) ((rd_T35 t262 x10_1).f1) (wrap64 (x10_1 + 1))) else (none)) else (none))) else (none)) else (none)) = some r := by rw [if_neg (show ¬ (false = true) by decide)] at H; exact H
                      clear H
                      have H := H1
                      clear H1
                      by_cases c23 : 0 ≤ x10_1
                      · rw [if_pos c23] at H
                        have c23b0 : decide (0 ≤ x10_1) = true := decide_eq_true c23
                        clear c23
                        by_cases c24 : x10_1 < (t262.length : Int)
                        · rw [if_pos c24] at H
                          have c24b0 : decide (x10_1 < (t262.length : Int)) = true := decide_eq_true c24
                          clear c24
                          by_cases c25 : ((rd_T35 t262 x10_1).f0) = 4
                          · rw [if_pos c25] at H
                            have c25b0 : (((rd_T35 t262 x10_1).f0) == 4) = true := beq_iff_eq.mpr c25
                            have c25b1 : (((rd_T35 t262 x10_1).f0) != 4) = false := bne_eq_false_iff_eq.mpr c25
                            clear c25
                            by_cases c26 : x8_1.size + 1 ≤ 9223372036854775807
                            · rw [if_pos c26] at H
                              have c26b0 := eq_true c26
                              have c26b9 := eq_false (Nat.not_lt.2 c26)
                              try simp only [ByteArray.size_append] at c26b9
                              have c26b1 : decide (x8_1.size + 1 ≤ 9223372036854775807) = true := decide_eq_true c26
                              try have c26b2 : (9223372036854775807 < x8_1.size + 1) = False := eq_false (Nat.not_lt.2 c26)
                              by_cases c27 : (x8_1 ++ (⟨#[34]⟩ : ByteArray)).size + ((rd_T35 t262 x10_1).f2).size ≤ 9223372036854775807
                              · rw [if_pos c27] at H
                                have c27b0 := eq_true c27
                                have c27b9 := eq_false (Nat.not_lt.2 c27)
                                try simp only [ByteArray.size_append, show (⟨#[34]⟩ : ByteArray).size = 1 from rfl] at c27b9
                                have c27b1 : decide ((x8_1 ++ (⟨#[34]⟩ : ByteArray)).size + ((rd_T35 t262 x10_1).f2).size ≤ 9223372036854775807) = true := decide_eq_true c27
                                try have c27b2 : (9223372036854775807 < (x8_1 ++ (⟨#[34]⟩ : ByteArray)).size + ((rd_T35 t262 x10_1).f2).size) = False := eq_false (Nat.not_lt.2 c27)
                                by_cases c28 : ((x8_1 ++ (⟨#[34]⟩ : ByteArray)) ++ ((rd_T35 t262 x10_1).f2)).size + 1 ≤ 9223372036854775807
                                · rw [if_pos c28] at H
                                  have c28b0 := eq_true c28
                                  have c28b9 := eq_false (Nat.not_lt.2 c28)
                                  try simp only [ByteArray.size_append, show (⟨#[34]⟩ : ByteArray).size = 1 from rfl] at c28b9
                                  have c28b1 : decide (((x8_1 ++ (⟨#[34]⟩ : ByteArray)) ++ ((rd_T35 t262 x10_1).f2)).size + 1 ≤ 9223372036854775807) = true := decide_eq_true c28
                                  try have c28b2 : (9223372036854775807 < ((x8_1 ++ (⟨#[34]⟩ : ByteArray)) ++ ((rd_T35 t262 x10_1).f2)).size + 1) = False := eq_false (Nat.not_lt.2 c28)
                                  by_cases c29 : (((x8_1 ++ (⟨#[34]⟩ : ByteArray)) ++ ((rd_T35 t262 x10_1).f2)) ++ (⟨#[34]⟩ : ByteArray)).size + (rdOf ByteArray.empty y268 (ji8)).size ≤ 9223372036854775807
                                  · rw [if_pos c29] at H
                                    have c29b0 := eq_true c29
                                    have c29b9 := eq_false (Nat.not_lt.2 c29)
                                    try simp only [ByteArray.size_append, show (⟨#[34]⟩ : ByteArray).size = 1 from rfl] at c29b9
                                    have c29b1 : decide ((((x8_1 ++ (⟨#[34]⟩ : ByteArray)) ++ ((rd_T35 t262 x10_1).f2)) ++ (⟨#[34]⟩ : ByteArray)).size + (rdOf ByteArray.empty y268 (ji8)).size ≤ 9223372036854775807) = true := decide_eq_true c29
                                    try have c29b2 : (9223372036854775807 < (((x8_1 ++ (⟨#[34]⟩ : ByteArray)) ++ ((rd_T35 t262 x10_1).f2)) ++ (⟨#[34]⟩ : ByteArray)).size + (rdOf ByteArray.empty y268 (ji8)).size) = False := eq_false (Nat.not_lt.2 c29)
                                    have H' := Aside0.mk H
                                    clear H
                                    have p275 : 0 ≤ (x10_1 : Int) := of_decide_eq_true (by first | (with_reducible assumption) | assumption)
                                    have q275 : x10_1 < (t262.length : Int) := of_decide_eq_true (by first | (with_reducible assumption) | assumption)
                                    obtain ⟨ad275, e275, hx275_0, hx275_1, hx275_2⟩ := at_T35 (Kd.R_reads' HO_5.out).2.2 x10_1 p275 q275
                                    cases e275
                                    replace p275 := eq_true p275
                                    replace q275 := eq_true q275
                                    have p276 : 0 ≤ (x10_1 : Int) := of_decide_eq_true (by first | (with_reducible assumption) | assumption)
                                    have q276 : x10_1 < (t262.length : Int) := of_decide_eq_true (by first | (with_reducible assumption) | assumption)
                                    obtain ⟨ad276, e276, hx276_0, hx276_1, hx276_2⟩ := at_T35 (Kd.R_reads' HO_5.out).2.2 x10_1 p276 q276
                                    obtain rfl : ad275 = ad276 := (by injection e276)
                                    replace p276 := eq_true p276
                                    replace q276 := eq_true q276
                                    have p277 : 0 ≤ (x10_1 : Int) := of_decide_eq_true (by first | (with_reducible assumption) | assumption)
                                    have q277 : x10_1 < (t262.length : Int) := of_decide_eq_true (by first | (with_reducible assumption) | assumption)
                                    obtain ⟨ad277, e277, hx277_0, hx277_1, hx277_2⟩ := at_T35 (Kd.R_reads' HO_5.out).2.2 x10_1 p277 q277
                                    obtain rfl : ad275 = ad277 := (by injection e277)
                                    replace p277 := eq_true p277
                                    replace q277 := eq_true q277
                                    go_wp2
                                    repeat (go_quiet (fail); try go_wp2)
                                    go_roundg kj16
                                    case measure => have := HK1.out; have := HJ16.out; omega
                                    case rel => exact ⟨((((x8_1 ++ (⟨#[34]⟩ : ByteArray)) ++ ((rd_T35 t262 x10_1).f2)) ++ (⟨#[34]⟩ : ByteArray)) ++ (rdOf ByteArray.empty y268 (ji8))), ((rd_T35 t262 x10_1).f1), (wrap64 (x10_1 + 1)), (by first | rfl | (simp; done) | (simp only [← hji8] <;> (first | rfl | simp)) | (simp [*]; done)), (by first | rfl | (simp; done) | (simp [*]; done)), (by first | rfl | (simp; done) | (simp [*]; done)), H', ⟨by have := HK1.out; have := HJ16.out; omega⟩, ⟨by (with_reducible repeat (first | apply Kd.R_alloc | apply Kd.R_drewN | apply Kd.R_drew)); exact HO_5.out⟩, ⟨by (with_reducible repeat (first | apply Kd.R_alloc | apply Kd.R_drewN | apply Kd.R_drew)); exact HO_6.out⟩, ⟨by repeat (first | (with_reducible first | exact HB.out | apply below_alloc | apply pw_below_drewN | apply below_drew1) | exact HB.out)⟩⟩
                                  · rw [if_neg c29] at H
                                    exact absurd H (by simp)
                                · rw [if_neg c28] at H
                                  exact absurd H (by simp)
                              · rw [if_neg c27] at H
                                exact absurd H (by simp)
                            · rw [if_neg c26] at H
                              exact absurd H (by simp)
                          · rw [if_neg c25] at H
                            have c25b0 : (((rd_T35 t262 x10_1).f0) == 4) = false := beq_eq_false_iff_ne.mpr c25
                            have c25b1 : (((rd_T35 t262 x10_1).f0) != 4) = true := bne_iff_ne.mpr c25
                            by_cases c30 : x8_1.size + ((rd_T35 t262 x10_1).f2).size ≤ 9223372036854775807
                            · rw [if_pos c30] at H
                              have c30b0 := eq_true c30
                              have c30b9 := eq_false (Nat.not_lt.2 c30)
                              try simp only [ByteArray.size_append] at c30b9
                              have c30b1 : decide (x8_1.size + ((rd_T35 t262 x10_1).f2).size ≤ 9223372036854775807) = true := decide_eq_true c30
                              try have c30b2 : (9223372036854775807 < x8_1.size + ((rd_T35 t262 x10_1).f2).size) = False := eq_false (Nat.not_lt.2 c30)
                              by_cases c31 : (x8_1 ++ ((rd_T35 t262 x10_1).f2)).size + (rdOf ByteArray.empty y268 (ji8)).size ≤ 9223372036854775807
                              · rw [if_pos c31] at H
                                have c31b0 := eq_true c31
                                have c31b9 := eq_false (Nat.not_lt.2 c31)
                                try simp only [ByteArray.size_append] at c31b9
                                have c31b1 : decide ((x8_1 ++ ((rd_T35 t262 x10_1).f2)).size + (rdOf ByteArray.empty y268 (ji8)).size ≤ 9223372036854775807) = true := decide_eq_true c31
                                try have c31b2 : (9223372036854775807 < (x8_1 ++ ((rd_T35 t262 x10_1).f2)).size + (rdOf ByteArray.empty y268 (ji8)).size) = False := eq_false (Nat.not_lt.2 c31)
                                have H' := Aside0.mk H
                                clear H
                                have p275 : 0 ≤ (x10_1 : Int) := of_decide_eq_true (by first | (with_reducible assumption) | assumption)
                                have q275 : x10_1 < (t262.length : Int) := of_decide_eq_true (by first | (with_reducible assumption) | assumption)
                                obtain ⟨ad275, e275, hx275_0, hx275_1, hx275_2⟩ := at_T35 (Kd.R_reads' HO_5.out).2.2 x10_1 p275 q275
                                cases e275
                                replace p275 := eq_true p275
                                replace q275 := eq_true q275
                                have p276 : 0 ≤ (x10_1 : Int) := of_decide_eq_true (by first | (with_reducible assumption) | assumption)
                                have q276 : x10_1 < (t262.length : Int) := of_decide_eq_true (by first | (with_reducible assumption) | assumption)
                                obtain ⟨ad276, e276, hx276_0, hx276_1, hx276_2⟩ := at_T35 (Kd.R_reads' HO_5.out).2.2 x10_1 p276 q276
                                obtain rfl : ad275 = ad276 := (by injection e276)
                                replace p276 := eq_true p276
                                replace q276 := eq_true q276
                                have p278 : 0 ≤ (x10_1 : Int) := of_decide_eq_true (by first | (with_reducible assumption) | assumption)
                                have q278 : x10_1 < (t262.length : Int) := of_decide_eq_true (by first | (with_reducible assumption) | assumption)
                                obtain ⟨ad278, e278, hx278_0, hx278_1, hx278_2⟩ := at_T35 (Kd.R_reads' HO_5.out).2.2 x10_1 p278 q278
                                obtain rfl : ad275 = ad278 := (by injection e278)
                                replace p278 := eq_true p278
                                replace q278 := eq_true q278
                                go_wp2
                                repeat (go_quiet (fail); try go_wp2)
                                go_roundg kj16
                                case measure => have := HK1.out; have := HJ16.out; omega
                                case rel => exact ⟨((x8_1 ++ ((rd_T35 t262 x10_1).f2)) ++ (rdOf ByteArray.empty y268 (ji8))), ((rd_T35 t262 x10_1).f1), (wrap64 (x10_1 + 1)), (by first | rfl | (simp; done) | (simp only [← hji8] <;> (first | rfl | simp)) | (simp [*]; done)), (by first | rfl | (simp; done) | (simp [*]; done)), (by first | rfl | (simp; done) | (simp [*]; done)), H', ⟨by have := HK1.out; have := HJ16.out; omega⟩, ⟨by (with_reducible repeat (first | apply Kd.R_alloc | apply Kd.R_drewN | apply Kd.R_drew)); exact HO_5.out⟩, ⟨by (with_reducible repeat (first | apply Kd.R_alloc | apply Kd.R_drewN | apply Kd.R_drew)); exact HO_6.out⟩, ⟨by repeat (first | (with_reducible first | exact HB.out | apply below_alloc | apply pw_below_drewN | apply below_drew1) | exact HB.out)⟩⟩
                              · rw [if_neg c31] at H
                                exact absurd H (by simp)
                            · rw [if_neg c30] at H
                              exact absurd H (by simp)
                        · rw [if_neg c24] at H
                          exact absurd H (by simp)
                      · rw [if_neg c23] at H
                        exact absurd H (by simp)
              · rw [if_neg c16] at H
                have c16b0 : decide (x10_1 < (t262.length : Int)) = false := decide_eq_false c16
                clear c16
                replace H := Option.bind_eq_some_iff.mp H
                obtain ⟨⟨t279, t280⟩, A320, H⟩ := H
                replace H : (cupellaw04_LexBlanks.l1 k1 t262 t263 t279 t280 1) = some r := H
                have A32 := Aside0.mk A320
                clear A320
                have H' := Aside0.mk H
                clear H
                obtain ⟨Ao33, co33, eo33⟩ := Kd.R_slice HO_5.out
                subst eo33
                go_wp2_with (first | (go_at_call 10; (with_reducible refine (lex_Lex.calls x8_1 t279 t280 _ A32.out).mono ?_); rintro e w34 ⟨v281, v283, rfl, ho0, ho1, hb⟩; (try clear A32); have n0_ := Aside0.mk (Kd.R_elder' (by (with_reducible repeat (first | apply Kd.R_alloc | apply Kd.R_drewN | apply Kd.R_drew)); exact HO_5.out) (Kd.R_base ho0) hb); have n1_ := Aside0.mk (Kd.R_elder' (by (with_reducible repeat (first | apply Kd.R_alloc | apply Kd.R_drewN | apply Kd.R_drew)); exact HO_6.out) (Kd.R_base ho1) hb); have n2_ := Aside0.mk (Kd.R_lower (Kd.R_new' ho0 (Kd.R_lt (by (with_reducible repeat (first | apply Kd.R_alloc | apply Kd.R_drewN | apply Kd.R_drew)); exact HO_5.out))) (below_size (by repeat (first | (with_reducible first | exact HB.out | apply below_alloc | apply pw_below_drewN | apply below_drew1) | exact HB.out)))); have n3_ := Aside0.mk (Kd.R_lower (Kd.R_new' ho1 (Kd.R_lt (by (with_reducible repeat (first | apply Kd.R_alloc | apply Kd.R_drewN | apply Kd.R_drew)); exact HO_6.out))) (below_size (by repeat (first | (with_reducible first | exact HB.out | apply below_alloc | apply pw_below_drewN | apply below_drew1) | exact HB.out)))); have n4_ := Aside0.mk (below_step (by repeat (first | (with_reducible first | exact HB.out | apply below_alloc | apply pw_below_drewN | apply below_drew1) | exact HB.out)) hb); clear HO_5; clear HO_6; clear HB; have HO_5 := n0_; have HO_6 := n1_; have HO282 := n2_; have HO284 := n3_; have HB := n4_; clear n0_ n1_ n2_ n3_ n4_; (try clear hb); (try clear hb2); (try clear hk); (try clear hi); (try clear ho0); (try clear ho1)))
                repeat (go_quiet (first | (go_at_call 10; (with_reducible refine (lex_Lex.calls x8_1 t279 t280 _ A32.out).mono ?_); rintro e w34 ⟨v281, v283, rfl, ho0, ho1, hb⟩; (try clear A32); have n0_ := Aside0.mk (Kd.R_elder' (by (with_reducible repeat (first | apply Kd.R_alloc | apply Kd.R_drewN | apply Kd.R_drew)); exact HO_5.out) (Kd.R_base ho0) hb); have n1_ := Aside0.mk (Kd.R_elder' (by (with_reducible repeat (first | apply Kd.R_alloc | apply Kd.R_drewN | apply Kd.R_drew)); exact HO_6.out) (Kd.R_base ho1) hb); have n2_ := Aside0.mk (Kd.R_lower (Kd.R_new' ho0 (Kd.R_lt (by (with_reducible repeat (first | apply Kd.R_alloc | apply Kd.R_drewN | apply Kd.R_drew)); exact HO_5.out))) (below_size (by repeat (first | (with_reducible first | exact HB.out | apply below_alloc | apply pw_below_drewN | apply below_drew1) | exact HB.out)))); have n3_ := Aside0.mk (Kd.R_lower (Kd.R_new' ho1 (Kd.R_lt (by (with_reducible repeat (first | apply Kd.R_alloc | apply Kd.R_drewN | apply Kd.R_drew)); exact HO_6.out))) (below_size (by repeat (first | (with_reducible first | exact HB.out | apply below_alloc | apply pw_below_drewN | apply below_drew1) | exact HB.out)))); have n4_ := Aside0.mk (below_step (by repeat (first | (with_reducible first | exact HB.out | apply below_alloc | apply pw_below_drewN | apply below_drew1) | exact HB.out)) hb); clear HO_5; clear HO_6; clear HB; have HO_5 := n0_; have HO_6 := n1_; have HO282 := n2_; have HO284 := n3_; have HB := n4_; clear n0_ n1_ n2_ n3_ n4_; (try clear hb); (try clear hb2); (try clear hk); (try clear hi); (try clear ho0); (try clear ho1))); try go_wp2_with (first | (go_at_call 10; (with_reducible refine (lex_Lex.calls x8_1 t279 t280 _ A32.out).mono ?_); rintro e w34 ⟨v281, v283, rfl, ho0, ho1, hb⟩; (try clear A32); have n0_ := Aside0.mk (Kd.R_elder' (by (with_reducible repeat (first | apply Kd.R_alloc | apply Kd.R_drewN | apply Kd.R_drew)); exact HO_5.out) (Kd.R_base ho0) hb); have n1_ := Aside0.mk (Kd.R_elder' (by (with_reducible repeat (first | apply Kd.R_alloc | apply Kd.R_drewN | apply Kd.R_drew)); exact HO_6.out) (Kd.R_base ho1) hb); have n2_ := Aside0.mk (Kd.R_lower (Kd.R_new' ho0 (Kd.R_lt (by (with_reducible repeat (first | apply Kd.R_alloc | apply Kd.R_drewN | apply Kd.R_drew)); exact HO_5.out))) (below_size (by repeat (first | (with_reducible first | exact HB.out | apply below_alloc | apply pw_below_drewN | apply below_drew1) | exact HB.out)))); have n3_ := Aside0.mk (Kd.R_lower (Kd.R_new' ho1 (Kd.R_lt (by (with_reducible repeat (first | apply Kd.R_alloc | apply Kd.R_drewN | apply Kd.R_drew)); exact HO_6.out))) (below_size (by repeat (first | (with_reducible first | exact HB.out | apply below_alloc | apply pw_below_drewN | apply below_drew1) | exact HB.out)))); have n4_ := Aside0.mk (below_step (by repeat (first | (with_reducible first | exact HB.out | apply below_alloc | apply pw_below_drewN | apply below_drew1) | exact HB.out)) hb); clear HO_5; clear HO_6; clear HB; have HO_5 := n0_; have HO_6 := n1_; have HO282 := n2_; have HO284 := n3_; have HB := n4_; clear n0_ n1_ n2_ n3_ n4_; (try clear hb); (try clear hb2); (try clear hk); (try clear hi); (try clear ho0); (try clear ho1))))
                go_loopg [13] k1 (fun kq v13 w' => ∃ (x13_2 : Int), v13 = .int .i64 x13_2 ∧ Aside0 (cupellaw04_LexBlanks.l1 kq t262 t263 t279 t280 x13_2 = some r) ∧ Aside0 (kq ≤ k1) ∧ Aside0 (Kd.R k35 35 w' w.heap.size (fun k_ => some k_ ≠ (v281 : Value).ownBlock) (.slice Ao33 t262.length co33) t262) ∧ Aside0 (Kd.R k39 39 w' w.heap.size (fun k_ => some k_ ≠ (v283 : Value).ownBlock) v266 t263) ∧ Aside0 (Kd.R k35 35 w' w.heap.size (fun k_ => some k_ ≠ ((.slice Ao33 t262.length co33) : Value).ownBlock) v281 t279) ∧ Aside0 (Kd.R k39 39 w' w.heap.size (fun k_ => some k_ ≠ (v266 : Value).ownBlock) v283 t280) ∧ Aside0 (Below w.heap.size w w'))
                case atStart => exact ⟨(1), (by first | rfl | (simp; done) | (simp [*]; done)), H', ⟨Nat.le_refl _⟩, ⟨by (with_reducible repeat (first | apply Kd.R_alloc | apply Kd.R_drewN | apply Kd.R_drew)); exact Kd.R_mono HO_5.out (fun _ hk => hk.2)⟩, ⟨by (with_reducible repeat (first | apply Kd.R_alloc | apply Kd.R_drewN | apply Kd.R_drew)); exact Kd.R_mono HO_6.out (fun _ hk => hk.2)⟩, ⟨by (with_reducible repeat (first | apply Kd.R_alloc | apply Kd.R_drewN | apply Kd.R_drew)); exact Kd.R_mono HO282.out (fun _ hk => hk.2)⟩, ⟨by (with_reducible repeat (first | apply Kd.R_alloc | apply Kd.R_drewN | apply Kd.R_drew)); exact Kd.R_mono HO284.out (fun _ hk => hk.2)⟩, ⟨by repeat (first | (with_reducible first | exact HB.out | apply below_alloc | apply pw_below_drewN | apply below_drew1) | exact HB.out)⟩⟩
                case round =>
                  clear H'
                  try clear c1
                  try clear c2
                  try clear p2
                  try clear q2
                  try clear hx2
                  try clear c3
                  try clear c4
                  try clear c5
                  try clear c5b0
                  try clear c5b1
                  try clear c6
                  try clear p6
                  try clear c9
                  try clear c9b0
                  try clear c10
                  try clear c10b0
                  try clear c16
                  try clear c16b0
                  try clear c19
                  try clear c19b0
                  try clear c20
                  try clear c20b0
                  try clear c21
                  try clear c21b0
                  try clear c22
                  try clear c23
                  try clear c23b0
                  try clear c24
                  try clear c24b0
                  try clear c25
                  try clear c25b0
                  try clear c25b1
                  try clear c26
                  try clear c26b0
                  try clear c26b1
                  try clear c26b2
                  try clear c27
                  try clear c27b0
                  try clear c27b1
                  try clear c27b2
                  try clear p27
                  try clear q27
                  try clear hx27
                  try clear c28
                  try clear c28b0
                  try clear c28b1
                  try clear c28b2
                  try clear c29
                  try clear c29b0
                  try clear c29b1
                  try clear c29b2
                  try clear c30
                  try clear c30b0
                  try clear c30b1
                  try clear c30b2
                  try clear c31
                  try clear c31b0
                  try clear c31b1
                  try clear c31b2
                  try clear hx271_0
                  try clear hx272_0
                  try clear hx272_1
                  try clear hx272_2
                  try clear hx273_0
                  try clear hx273_1
                  try clear hx273_2
                  try clear hx274_0
                  try clear hx274_1
                  try clear hx274_2
                  try clear hx275_0
                  try clear hx275_1
                  try clear hx275_2
                  try clear hx276_0
                  try clear hx276_1
                  try clear hx276_2
                  try clear hx277_0
                  try clear hx277_1
                  try clear hx277_2
                  try clear hx278_0
                  try clear hx278_1
                  try clear hx278_2
                  try clear p2
                  try clear p271
                  try clear p272
                  try clear p273
                  try clear p274
                  try clear p275
                  try clear p276
                  try clear p277
                  try clear p278
                  try clear q2
                  try clear q271
                  try clear q272
                  try clear q273
                  try clear q274
                  try clear q275
                  try clear q276
                  try clear q277
                  try clear q278
                  obtain ⟨x13_2, rfl, HA, HK2, HO_5, HO_6, HO_11, HO_12, HB⟩ := hrel
                  cases gk with
                  | zero => exact absurd HA.out (by simp [cupellaw04_LexBlanks.l1])
                  | succ k2 =>
                    have H := HA.out
                    clear HA
                    simp only [cupellaw04_LexBlanks.l1] at H
                    by_cases c35 : x13_2 < (t263.length : Int)
                    · rw [if_pos c35] at H
                      have c35b0 : decide (x13_2 < (t263.length : Int)) = true := decide_eq_true c35
                      clear c35
                      obtain ⟨ji36, hji36⟩ : ∃ j_ : Int, (wrap64 (x13_2 - 1)) = j_ := ⟨_, rfl⟩
                      replace H : (if 0 ≤ (ji36) then (if (ji36) < (t263.length : Int) then (if 0 ≤ x13_2 then (if ((rd_T39 t263 (ji36)).f0) ≥ ((rd_T39 t263 x13_2).f0) then (some false) else (cupellaw04_LexBlanks.l1 k2 t262 t263 t279 t280 (wrap64 (x13_2 + 1)))) else (none)) else (none)) else (none)) = some r := by first | (rw [hji36] at H; exact H) | (simp only [hji36] at H ⊢; exact H)
                      have hji36w : (IntKind.i64.wrap (x13_2 - 1)) = ji36 := (i64_w _).trans hji36
                      by_cases c37 : 0 ≤ (ji36)
                      · rw [if_pos c37] at H
                        have c37b0 : decide (0 ≤ (ji36)) = true := decide_eq_true c37
                        clear c37
                        by_cases c38 : (ji36) < (t263.length : Int)
                        · rw [if_pos c38] at H
                          have c38b0 : decide ((ji36) < (t263.length : Int)) = true := decide_eq_true c38
                          clear c38
                          by_cases c39 : 0 ≤ x13_2
                          · rw [if_pos c39] at H
                            have c39b0 : decide (0 ≤ x13_2) = true := decide_eq_true c39
                            clear c39
                            by_cases c40 : ((rd_T39 t263 (ji36)).f0) ≥ ((rd_T39 t263 x13_2).f0)
                            · rw [if_pos c40] at H
                              have c40b0 : decide (((rd_T39 t263 x13_2).f0) ≤ ((rd_T39 t263 (ji36)).f0)) = true := decide_eq_true c40
                              clear c40
                              obtain rfl := Option.some.inj H
                              obtain ⟨Ao41, co41, eo41⟩ := Kd.R_slice HO_6.out
                              subst eo41
                              have p285 : 0 ≤ ((ji36) : Int) := of_decide_eq_true (by first | (with_reducible assumption) | assumption)
                              have q285 : (ji36) < (t263.length : Int) := of_decide_eq_true (by first | (with_reducible assumption) | assumption)
                              obtain ⟨ad285, e285, hx285_0, hx285_1, hx285_2⟩ := at_T39 (Kd.R_reads' HO_6.out).2.2 (ji36) p285 q285
                              cases e285
                              replace p285 := eq_true p285
                              replace q285 := eq_true q285
                              have p286 : 0 ≤ (x13_2 : Int) := of_decide_eq_true (by first | (with_reducible assumption) | assumption)
                              have q286 : x13_2 < (t263.length : Int) := of_decide_eq_true (by first | (with_reducible assumption) | assumption)
                              obtain ⟨ad286, e286, hx286_0, hx286_1, hx286_2⟩ := at_T39 (Kd.R_reads' HO_6.out).2.2 x13_2 p286 q286
                              obtain rfl : ad285 = ad286 := (by injection e286)
                              replace p286 := eq_true p286
                              replace q286 := eq_true q286
                              go_wp2
                              repeat (go_quiet (fail); try go_wp2)
                              go_ret
                              exact ⟨by first | rfl | (simp [errW_none, errW_some] <;> rfl) | (simp only [← hji8, ← hji36]; first | rfl | (simp [errW_none, errW_some] <;> rfl)) | (simp [*, errW_none, errW_some] <;> rfl), by repeat (first | (with_reducible first | exact HB.out | apply below_alloc | apply pw_below_drewN | apply below_drew1) | exact HB.out)⟩
                            · rw [if_neg c40] at H
                              have c40b0 : decide (((rd_T39 t263 x13_2).f0) ≤ ((rd_T39 t263 (ji36)).f0)) = false := decide_eq_false c40
                              clear c40
                              have H' := Aside0.mk H
                              clear H
                              obtain ⟨Ao42, co42, eo42⟩ := Kd.R_slice HO_6.out
                              subst eo42
                              have p285 : 0 ≤ ((ji36) : Int) := of_decide_eq_true (by first | (with_reducible assumption) | assumption)
                              have q285 : (ji36) < (t263.length : Int) := of_decide_eq_true (by first | (with_reducible assumption) | assumption)
                              obtain ⟨ad285, e285, hx285_0, hx285_1, hx285_2⟩ := at_T39 (Kd.R_reads' HO_6.out).2.2 (ji36) p285 q285
                              cases e285
                              replace p285 := eq_true p285
                              replace q285 := eq_true q285
                              have p286 : 0 ≤ (x13_2 : Int) := of_decide_eq_true (by first | (with_reducible assumption) | assumption)
                              have q286 : x13_2 < (t263.length : Int) := of_decide_eq_true (by first | (with_reducible assumption) | assumption)
                              obtain ⟨ad286, e286, hx286_0, hx286_1, hx286_2⟩ := at_T39 (Kd.R_reads' HO_6.out).2.2 x13_2 p286 q286
                              obtain rfl : ad285 = ad286 := (by injection e286)
                              replace p286 := eq_true p286
                              replace q286 := eq_true q286
                              go_wp2
                              repeat (go_quiet (fail); try go_wp2)
                              go_roundg k2
                              case measure => have := HK1.out; have := HK2.out; omega
                              case rel => exact ⟨(wrap64 (x13_2 + 1)), (by first | rfl | (simp; done) | (simp [*]; done)), H', ⟨by have := HK1.out; have := HK2.out; omega⟩, ⟨by (with_reducible repeat (first | apply Kd.R_alloc | apply Kd.R_drewN | apply Kd.R_drew)); exact HO_5.out⟩, ⟨by (with_reducible repeat (first | apply Kd.R_alloc | apply Kd.R_drewN | apply Kd.R_drew)); exact HO_6.out⟩, ⟨by (with_reducible repeat (first | apply Kd.R_alloc | apply Kd.R_drewN | apply Kd.R_drew)); exact HO_11.out⟩, ⟨by (with_reducible repeat (first | apply Kd.R_alloc | apply Kd.R_drewN | apply Kd.R_drew)); exact HO_12.out⟩, ⟨by repeat (first | (with_reducible first | exact HB.out | apply below_alloc | apply pw_below_drewN | apply below_drew1) | exact HB.out)⟩⟩
                          · rw [if_neg c39] at H
                            exact absurd H (by simp)
                        · rw [if_neg c38] at H
                          exact absurd H (by simp)
                      · rw [if_neg c37] at H
                        exact absurd H (by simp)
                    · rw [if_neg c35] at H
                      have c35b0 : decide (x13_2 < (t263.length : Int)) = false := decide_eq_false c35
                      clear c35
                      replace H := Option.bind_eq_some_iff.mp H
                      obtain ⟨t287, A430, H⟩ := H
                      replace H : (if t287 = true then (some ((t280.length : Int) == 0)) else (some false)) = some r := H
                      have A43 := Aside0.mk A430
                      clear A430
                      by_cases c44 : t287 = true
                      · subst c44
                        have H1 : (some ((t280.length : Int) == 0)) = some r := by rw [if_pos rfl] at H; exact H
                        clear H
                        have H := H1
                        clear H1
                        obtain rfl := Option.some.inj H
                        obtain ⟨Ao45, co45, eo45⟩ := Kd.R_slice HO_6.out
                        subst eo45
                        obtain ⟨Ao46, co46, eo46⟩ := Kd.R_slice HO_11.out
                        subst eo46
                        go_wp2_with (first | (go_at_call 15; (with_reducible refine (lex_Same.calls _ _ t262 _ _ t279 true _ ?side1 ?side2 ?side3 ?side4 A43.out).mono ?_); (case side1 => repeat (first | exact (Kd.R_reads' HO_5.out).2.2 | (with_reducible refine Kd.C_alloc ?_ _) | (with_reducible refine Kd.C_drewN ?_ _) | (with_reducible refine Kd.C_drew ?_))); (case side2 => exact (Kd.R_reads' HO_5.out).2.1); (case side3 => repeat (first | exact (Kd.R_reads' HO_11.out).2.2 | (with_reducible refine Kd.C_alloc ?_ _) | (with_reducible refine Kd.C_drewN ?_ _) | (with_reducible refine Kd.C_drew ?_))); (case side4 => exact (Kd.R_reads' HO_11.out).2.1); rintro e w47 ⟨rfl, hb⟩; (try clear A43); have n0_ := Aside0.mk (Kd.R_below (by (with_reducible repeat (first | apply Kd.R_alloc | apply Kd.R_drewN | apply Kd.R_drew)); exact HO_5.out) hb); have n1_ := Aside0.mk (Kd.R_below (by (with_reducible repeat (first | apply Kd.R_alloc | apply Kd.R_drewN | apply Kd.R_drew)); exact HO_6.out) hb); have n2_ := Aside0.mk (Kd.R_below (by (with_reducible repeat (first | apply Kd.R_alloc | apply Kd.R_drewN | apply Kd.R_drew)); exact HO_11.out) hb); have n3_ := Aside0.mk (Kd.R_below (by (with_reducible repeat (first | apply Kd.R_alloc | apply Kd.R_drewN | apply Kd.R_drew)); exact HO_12.out) hb); have n4_ := Aside0.mk (below_step (by repeat (first | (with_reducible first | exact HB.out | apply below_alloc | apply pw_below_drewN | apply below_drew1) | exact HB.out)) hb); clear HO_5; clear HO_6; clear HO_11; clear HO_12; clear HB; have HO_5 := n0_; have HO_6 := n1_; have HO_11 := n2_; have HO_12 := n3_; have HB := n4_; clear n0_ n1_ n2_ n3_ n4_; (try clear hb); (try clear hb2); (try clear hk); (try clear hi); obtain ⟨Ao48, co48, eo48⟩ := Kd.R_slice HO_12.out; subst eo48))
                        repeat (go_quiet (first | (go_at_call 15; (with_reducible refine (lex_Same.calls _ _ t262 _ _ t279 true _ ?side1 ?side2 ?side3 ?side4 A43.out).mono ?_); (case side1 => repeat (first | exact (Kd.R_reads' HO_5.out).2.2 | (with_reducible refine Kd.C_alloc ?_ _) | (with_reducible refine Kd.C_drewN ?_ _) | (with_reducible refine Kd.C_drew ?_))); (case side2 => exact (Kd.R_reads' HO_5.out).2.1); (case side3 => repeat (first | exact (Kd.R_reads' HO_11.out).2.2 | (with_reducible refine Kd.C_alloc ?_ _) | (with_reducible refine Kd.C_drewN ?_ _) | (with_reducible refine Kd.C_drew ?_))); (case side4 => exact (Kd.R_reads' HO_11.out).2.1); rintro e w47 ⟨rfl, hb⟩; (try clear A43); have n0_ := Aside0.mk (Kd.R_below (by (with_reducible repeat (first | apply Kd.R_alloc | apply Kd.R_drewN | apply Kd.R_drew)); exact HO_5.out) hb); have n1_ := Aside0.mk (Kd.R_below (by (with_reducible repeat (first | apply Kd.R_alloc | apply Kd.R_drewN | apply Kd.R_drew)); exact HO_6.out) hb); have n2_ := Aside0.mk (Kd.R_below (by (with_reducible repeat (first | apply Kd.R_alloc | apply Kd.R_drewN | apply Kd.R_drew)); exact HO_11.out) hb); have n3_ := Aside0.mk (Kd.R_below (by (with_reducible repeat (first | apply Kd.R_alloc | apply Kd.R_drewN | apply Kd.R_drew)); exact HO_12.out) hb); have n4_ := Aside0.mk (below_step (by repeat (first | (with_reducible first | exact HB.out | apply below_alloc | apply pw_below_drewN | apply below_drew1) | exact HB.out)) hb); clear HO_5; clear HO_6; clear HO_11; clear HO_12; clear HB; have HO_5 := n0_; have HO_6 := n1_; have HO_11 := n2_; have HO_12 := n3_; have HB := n4_; clear n0_ n1_ n2_ n3_ n4_; (try clear hb); (try clear hb2); (try clear hk); (try clear hi); obtain ⟨Ao48, co48, eo48⟩ := Kd.R_slice HO_12.out; subst eo48)); try go_wp2_with (first | (go_at_call 15; (with_reducible refine (lex_Same.calls _ _ t262 _ _ t279 true _ ?side1 ?side2 ?side3 ?side4 A43.out).mono ?_); (case side1 => repeat (first | exact (Kd.R_reads' HO_5.out).2.2 | (with_reducible refine Kd.C_alloc ?_ _) | (with_reducible refine Kd.C_drewN ?_ _) | (with_reducible refine Kd.C_drew ?_))); (case side2 => exact (Kd.R_reads' HO_5.out).2.1); (case side3 => repeat (first | exact (Kd.R_reads' HO_11.out).2.2 | (with_reducible refine Kd.C_alloc ?_ _) | (with_reducible refine Kd.C_drewN ?_ _) | (with_reducible refine Kd.C_drew ?_))); (case side4 => exact (Kd.R_reads' HO_11.out).2.1); rintro e w47 ⟨rfl, hb⟩; (try clear A43); have n0_ := Aside0.mk (Kd.R_below (by (with_reducible repeat (first | apply Kd.R_alloc | apply Kd.R_drewN | apply Kd.R_drew)); exact HO_5.out) hb); have n1_ := Aside0.mk (Kd.R_below (by (with_reducible repeat (first | apply Kd.R_alloc | apply Kd.R_drewN | apply Kd.R_drew)); exact HO_6.out) hb); have n2_ := Aside0.mk (Kd.R_below (by (with_reducible repeat (first | apply Kd.R_alloc | apply Kd.R_drewN | apply Kd.R_drew)); exact HO_11.out) hb); have n3_ := Aside0.mk (Kd.R_below (by (with_reducible repeat (first | apply Kd.R_alloc | apply Kd.R_drewN | apply Kd.R_drew)); exact HO_12.out) hb); have n4_ := Aside0.mk (below_step (by repeat (first | (with_reducible first | exact HB.out | apply below_alloc | apply pw_below_drewN | apply below_drew1) | exact HB.out)) hb); clear HO_5; clear HO_6; clear HO_11; clear HO_12; clear HB; have HO_5 := n0_; have HO_6 := n1_; have HO_11 := n2_; have HO_12 := n3_; have HB := n4_; clear n0_ n1_ n2_ n3_ n4_; (try clear hb); (try clear hb2); (try clear hk); (try clear hi); obtain ⟨Ao48, co48, eo48⟩ := Kd.R_slice HO_12.out; subst eo48)))
                        go_ret
                        exact ⟨by first | rfl | (simp [errW_none, errW_some] <;> rfl) | (simp only [← hji8]; first | rfl | (simp [errW_none, errW_some] <;> rfl)) | (simp [*, errW_none, errW_some] <;> rfl), by repeat (first | (with_reducible first | exact HB.out | apply below_alloc | apply pw_below_drewN | apply below_drew1) | exact HB.out)⟩
                      · replace c44 := Bool.eq_false_iff.mpr c44
                        subst c44
                        have H1 : (some false) = some r := by rw [if_neg (show ¬ (false = true) by decide)] at H; exact H
                        clear H
                        have H := H1
                        clear H1
                        obtain rfl := Option.some.inj H
                        obtain ⟨Ao49, co49, eo49⟩ := Kd.R_slice HO_6.out
                        subst eo49
                        obtain ⟨Ao50, co50, eo50⟩ := Kd.R_slice HO_11.out
                        subst eo50
                        go_wp2_with (first | (go_at_call 15; (with_reducible refine (lex_Same.calls _ _ t262 _ _ t279 false _ ?side1 ?side2 ?side3 ?side4 A43.out).mono ?_); (case side1 => repeat (first | exact (Kd.R_reads' HO_5.out).2.2 | (with_reducible refine Kd.C_alloc ?_ _) | (with_reducible refine Kd.C_drewN ?_ _) | (with_reducible refine Kd.C_drew ?_))); (case side2 => exact (Kd.R_reads' HO_5.out).2.1); (case side3 => repeat (first | exact (Kd.R_reads' HO_11.out).2.2 | (with_reducible refine Kd.C_alloc ?_ _) | (with_reducible refine Kd.C_drewN ?_ _) | (with_reducible refine Kd.C_drew ?_))); (case side4 => exact (Kd.R_reads' HO_11.out).2.1); rintro e w51 ⟨rfl, hb⟩; (try clear A43); have n0_ := Aside0.mk (Kd.R_below (by (with_reducible repeat (first | apply Kd.R_alloc | apply Kd.R_drewN | apply Kd.R_drew)); exact HO_5.out) hb); have n1_ := Aside0.mk (Kd.R_below (by (with_reducible repeat (first | apply Kd.R_alloc | apply Kd.R_drewN | apply Kd.R_drew)); exact HO_6.out) hb); have n2_ := Aside0.mk (Kd.R_below (by (with_reducible repeat (first | apply Kd.R_alloc | apply Kd.R_drewN | apply Kd.R_drew)); exact HO_11.out) hb); have n3_ := Aside0.mk (Kd.R_below (by (with_reducible repeat (first | apply Kd.R_alloc | apply Kd.R_drewN | apply Kd.R_drew)); exact HO_12.out) hb); have n4_ := Aside0.mk (below_step (by repeat (first | (with_reducible first | exact HB.out | apply below_alloc | apply pw_below_drewN | apply below_drew1) | exact HB.out)) hb); clear HO_5; clear HO_6; clear HO_11; clear HO_12; clear HB; have HO_5 := n0_; have HO_6 := n1_; have HO_11 := n2_; have HO_12 := n3_; have HB := n4_; clear n0_ n1_ n2_ n3_ n4_; (try clear hb); (try clear hb2); (try clear hk); (try clear hi)))
                        repeat (go_quiet (first | (go_at_call 15; (with_reducible refine (lex_Same.calls _ _ t262 _ _ t279 false _ ?side1 ?side2 ?side3 ?side4 A43.out).mono ?_); (case side1 => repeat (first | exact (Kd.R_reads' HO_5.out).2.2 | (with_reducible refine Kd.C_alloc ?_ _) | (with_reducible refine Kd.C_drewN ?_ _) | (with_reducible refine Kd.C_drew ?_))); (case side2 => exact (Kd.R_reads' HO_5.out).2.1); (case side3 => repeat (first | exact (Kd.R_reads' HO_11.out).2.2 | (with_reducible refine Kd.C_alloc ?_ _) | (with_reducible refine Kd.C_drewN ?_ _) | (with_reducible refine Kd.C_drew ?_))); (case side4 => exact (Kd.R_reads' HO_11.out).2.1); rintro e w51 ⟨rfl, hb⟩; (try clear A43); have n0_ := Aside0.mk (Kd.R_below (by (with_reducible repeat (first | apply Kd.R_alloc | apply Kd.R_drewN | apply Kd.R_drew)); exact HO_5.out) hb); have n1_ := Aside0.mk (Kd.R_below (by (with_reducible repeat (first | apply Kd.R_alloc | apply Kd.R_drewN | apply Kd.R_drew)); exact HO_6.out) hb); have n2_ := Aside0.mk (Kd.R_below (by (with_reducible repeat (first | apply Kd.R_alloc | apply Kd.R_drewN | apply Kd.R_drew)); exact HO_11.out) hb); have n3_ := Aside0.mk (Kd.R_below (by (with_reducible repeat (first | apply Kd.R_alloc | apply Kd.R_drewN | apply Kd.R_drew)); exact HO_12.out) hb); have n4_ := Aside0.mk (below_step (by repeat (first | (with_reducible first | exact HB.out | apply below_alloc | apply pw_below_drewN | apply below_drew1) | exact HB.out)) hb); clear HO_5; clear HO_6; clear HO_11; clear HO_12; clear HB; have HO_5 := n0_; have HO_6 := n1_; have HO_11 := n2_; have HO_12 := n3_; have HB := n4_; clear n0_ n1_ n2_ n3_ n4_; (try clear hb); (try clear hb2); (try clear hk); (try clear hi))); try go_wp2_with (first | (go_at_call 15; (with_reducible refine (lex_Same.calls _ _ t262 _ _ t279 false _ ?side1 ?side2 ?side3 ?side4 A43.out).mono ?_); (case side1 => repeat (first | exact (Kd.R_reads' HO_5.out).2.2 | (with_reducible refine Kd.C_alloc ?_ _) | (with_reducible refine Kd.C_drewN ?_ _) | (with_reducible refine Kd.C_drew ?_))); (case side2 => exact (Kd.R_reads' HO_5.out).2.1); (case side3 => repeat (first | exact (Kd.R_reads' HO_11.out).2.2 | (with_reducible refine Kd.C_alloc ?_ _) | (with_reducible refine Kd.C_drewN ?_ _) | (with_reducible refine Kd.C_drew ?_))); (case side4 => exact (Kd.R_reads' HO_11.out).2.1); rintro e w51 ⟨rfl, hb⟩; (try clear A43); have n0_ := Aside0.mk (Kd.R_below (by (with_reducible repeat (first | apply Kd.R_alloc | apply Kd.R_drewN | apply Kd.R_drew)); exact HO_5.out) hb); have n1_ := Aside0.mk (Kd.R_below (by (with_reducible repeat (first | apply Kd.R_alloc | apply Kd.R_drewN | apply Kd.R_drew)); exact HO_6.out) hb); have n2_ := Aside0.mk (Kd.R_below (by (with_reducible repeat (first | apply Kd.R_alloc | apply Kd.R_drewN | apply Kd.R_drew)); exact HO_11.out) hb); have n3_ := Aside0.mk (Kd.R_below (by (with_reducible repeat (first | apply Kd.R_alloc | apply Kd.R_drewN | apply Kd.R_drew)); exact HO_12.out) hb); have n4_ := Aside0.mk (below_step (by repeat (first | (with_reducible first | exact HB.out | apply below_alloc | apply pw_below_drewN | apply below_drew1) | exact HB.out)) hb); clear HO_5; clear HO_6; clear HO_11; clear HO_12; clear HB; have HO_5 := n0_; have HO_6 := n1_; have HO_11 := n2_; have HO_12 := n3_; have HB := n4_; clear n0_ n1_ n2_ n3_ n4_; (try clear hb); (try clear hb2); (try clear hk); (try clear hi))))
                        go_ret
                        exact ⟨by first | rfl | (simp [errW_none, errW_some] <;> rfl) | (simp only [← hji8]; first | rfl | (simp [errW_none, errW_some] <;> rfl)) | (simp [*, errW_none, errW_some] <;> rfl), by repeat (first | (with_reducible first | exact HB.out | apply below_alloc | apply pw_below_drewN | apply below_drew1) | exact HB.out)⟩
        · rw [if_neg c10] at H
          exact absurd H (by simp)
      · rw [if_neg c9] at H
        exact absurd H (by simp)
  · replace c4 := Bool.eq_false_iff.mpr c4
    subst c4
    have H1 : (some false) = some r := by rw [if_neg (show ¬ (false = true) by decide)] at H; exact H
    clear H
    have H := H1
    clear H1
    obtain rfl := Option.some.inj H
    go_enter Try.func6, Try.ntmps6
    go_wp2_with (first | (go_at_call 9; (with_reducible refine (cupellaw04_alive.calls  false _ A3.out).mono ?_); rintro e w52 ⟨rfl, hb⟩; (try clear A3); have n0_ := Aside0.mk (below_step (by repeat (first | (with_reducible first | exact HB.out | apply below_alloc | apply pw_below_drewN | apply below_drew1) | exact HB.out)) hb); clear HB; have HB := n0_; clear n0_; (try clear hb); (try clear hb2); (try clear hk); (try clear hi)))
    repeat (go_quiet (first | (go_at_call 9; (with_reducible refine (cupellaw04_alive.calls  false _ A3.out).mono ?_); rintro e w52 ⟨rfl, hb⟩; (try clear A3); have n0_ := Aside0.mk (below_step (by repeat (first | (with_reducible first | exact HB.out | apply below_alloc | apply pw_below_drewN | apply below_drew1) | exact HB.out)) hb); clear HB; have HB := n0_; clear n0_; (try clear hb); (try clear hb2); (try clear hk); (try clear hi))); try go_wp2_with (first | (go_at_call 9; (with_reducible refine (cupellaw04_alive.calls  false _ A3.out).mono ?_); rintro e w52 ⟨rfl, hb⟩; (try clear A3); have n0_ := Aside0.mk (below_step (by repeat (first | (with_reducible first | exact HB.out | apply below_alloc | apply pw_below_drewN | apply below_drew1) | exact HB.out)) hb); clear HB; have HB := n0_; clear n0_; (try clear hb); (try clear hb2); (try clear hk); (try clear hi))))
    go_ret
    exact ⟨by first | rfl | (simp [errW_none, errW_some] <;> rfl) | (simp [*, errW_none, errW_some] <;> rfl), by repeat (first | (with_reducible first | exact HB.out | apply below_alloc | apply pw_below_drewN | apply below_drew1) | exact HB.out)⟩

/-- THE ONE PURE STATEMENT of cupellaw04_LexBlanks: yours. -/
def cupellaw04_LexBlanks.Pure : Prop := ∀ (a0 : ByteArray) (a1 : Int), a0.size ≤ 140737488351232 → (Lit.int .u8 a1).wf = true → ∃ k, cupellaw04_LexBlanks.f k a0 a1 = some true
theorem cupellaw04_LexBlanks.walk (P : cupellaw04_LexBlanks.Pure) (a0 : ByteArray) (a1 : Int) (w : World) (w0 : a0.size ≤ 140737488351232) (w1 : (Lit.int .u8 a1).wf = true) :
    Calls Try.prog 6 #[.string a0, .int .u8 a1] w fun e w' => e = .returned (.bool true) ∧ Below w.heap.size w w' := by
  obtain ⟨k, h⟩ := P a0 a1 w0 w1
  refine (cupellaw04_LexBlanks.calls k a0 a1 true w h).mono ?_
  rintro e w' ⟨rfl, hd⟩
  exact ⟨rfl, hd⟩

-- NOT PRINTED: function 7 (cupellaw04_LexJoins)

end Go.Proofs.Ytmbbebdpmffihaa.PA
