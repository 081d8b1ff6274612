-- Written by a program of this session (wip/xprint.py over the kit's printer). Lean checks it.
import Derived.Test.YtmbbebdpmffihaaPAx0
import Derived.Test.YtmbbebdpmffihaaPAx4
import Derived.Test.YtmbbebdpmffihaaExtLex
namespace Go.Proofs.Ytmbbebdpmffihaa.PA
open Go.RowKit Go.Proofs.YtmbbebdpmffihaaW.PrintWords Go.Proofs.YtmbbebdpmffihaaW.PrintLast Go.Proofs.YtmbbebdpmffihaaW.PrintMore
attribute [local go_sem] max2_int min2_int max_two min_two max_three min_three max_four min_four   -- for this text's walks alone
set_option linter.unusedVariables false
set_option linter.unusedSimpArgs false

/-! ### lex_Name: function 14 -/
def lex_Name.f (a0 : ByteArray) : Option (Bool) := (lex_Lex.f a0).bind fun bt223 => (if (bt223.1.length : Int) = 2 then (if 0 < (bt223.1.length : Int) then (if ((rd_T35 bt223.1 0).f0) = 1 then (some (((rd_T35 bt223.1 0).f2).toList == a0.toList)) else (some false)) else (none)) else (some false))
set_option maxHeartbeats 8000000 in
set_option maxRecDepth 100000 in
theorem lex_Name.calls (a0 : ByteArray) (r : Bool) (w : World) (h : lex_Name.f a0 = some r) :
    Calls Try.prog 14 #[.string a0] w fun e w' => e = .returned (.bool r) ∧ Below w.heap.size w w' := by
  have HB := Aside0.mk (Below.refl w.heap.size w)
  have H : ((lex_Lex.f a0).bind fun bt223 => (if (bt223.1.length : Int) = 2 then (if 0 < (bt223.1.length : Int) then (if ((rd_T35 bt223.1 0).f0) = 1 then (some (((rd_T35 bt223.1 0).f2).toList == a0.toList)) else (some false)) else (none)) else (some false))) = some r := h
  clear h
  replace H := Option.bind_eq_some_iff.mp H
  obtain ⟨⟨t223, t224⟩, A20, H⟩ := H
  replace H : (if (t223.length : Int) = 2 then (if 0 < (t223.length : Int) then (if ((rd_T35 t223 0).f0) = 1 then (some (((rd_T35 t223 0).f2).toList == a0.toList)) else (some false)) else (none)) else (some false)) = some r := H
  have A2 := Aside0.mk A20
  clear A20
  by_cases c3 : (t223.length : Int) = 2
  · rw [if_pos c3] at H
    have c3b0 : ((t223.length : Int) == 2) = true := beq_iff_eq.mpr c3
    have c3b1 : ((t223.length : Int) != 2) = false := bne_eq_false_iff_eq.mpr c3
    clear c3
    by_cases c4 : 0 < (t223.length : Int)
    · rw [if_pos c4] at H
      have c4b0 : decide (0 < (t223.length : Int)) = true := decide_eq_true c4
      have c4b1 : decide (0 < t223.length) = true := decide_eq_true (by omega)
      clear c4
      by_cases c5 : ((rd_T35 t223 0).f0) = 1
      · rw [if_pos c5] at H
        have c5b0 : (((rd_T35 t223 0).f0) == 1) = true := beq_iff_eq.mpr c5
        have c5b1 : (((rd_T35 t223 0).f0) != 1) = false := bne_eq_false_iff_eq.mpr c5
        clear c5
        obtain rfl := Option.some.inj H
        go_enter Try.func14, Try.ntmps14
        go_wp2_with (first | ((with_reducible refine gate_callee (f := 10) rfl ?_); refine goesL_ (some 7) rfl rfl Try.func10 (by kernel_rfl) rfl #[.string a0] rfl (by (try simp only [List.map_toArray, List.map_cons, List.map_nil]); first | done | rfl | (simp only [List.length_drop, List.length_take]; rfl)) ?_; (with_reducible refine (lex_Lex.calls a0 t223 t224 _ A2.out).mono ?_); rintro e w6 ⟨v225, v227, rfl, ho0, ho1, hb⟩; refine ⟨_, rfl, ?_⟩; have n0_ := Aside0.mk (Kd.R_lower ho0 (below_size (by repeat (first | (with_reducible first | exact HB.out | apply below_alloc | apply pw_below_drewN | apply below_drew1) | exact HB.out)))); have n1_ := Aside0.mk (Kd.R_lower ho1 (below_size (by repeat (first | (with_reducible first | exact HB.out | apply below_alloc | apply pw_below_drewN | apply below_drew1) | exact HB.out)))); have n2_ := Aside0.mk (below_step (by repeat (first | (with_reducible first | exact HB.out | apply below_alloc | apply pw_below_drewN | apply below_drew1) | exact HB.out)) hb); clear HB; have HO226 := n0_; have HO228 := n1_; have HB := n2_; clear n0_ n1_ n2_; (try clear hb); (try clear hb2); (try clear hk); (try clear hi); (try clear ho0); (try clear ho1); obtain ⟨Ao7, co7, eo7⟩ := Kd.R_slice HO226.out; subst eo7; have p229 : 0 ≤ (0 : Int) := (by omega); have q229 : 0 < (t223.length : Int) := of_decide_eq_true (by first | (with_reducible assumption) | assumption); obtain ⟨ad229, e229, hx229_0, hx229_1, hx229_2⟩ := at_T35 (Kd.R_reads' HO226.out).2.2 0 p229 q229; cases e229; have qi229 : (0 < t223.length) = True := eq_true (by omega); (try rw [show ((0 : Int)).toNat = 0 from rfl] at hx229_0); (try rw [show 0 * 3 = 0 from rfl] at hx229_0); (try rw [Addr.add_zero'] at hx229_0); (try rw [show ((0 : Int)).toNat = 0 from rfl] at hx229_1); (try rw [show 0 * 3 = 0 from rfl] at hx229_1); (try rw [Addr.add_zero'] at hx229_1); (try rw [show ((0 : Int)).toNat = 0 from rfl] at hx229_2); (try rw [show 0 * 3 = 0 from rfl] at hx229_2); (try rw [Addr.add_zero'] at hx229_2); replace p229 := eq_true p229; replace q229 := eq_true q229; have p230 : 0 ≤ (0 : Int) := (by omega); have q230 : 0 < (t223.length : Int) := of_decide_eq_true (by first | (with_reducible assumption) | assumption); obtain ⟨ad230, e230, hx230_0, hx230_1, hx230_2⟩ := at_T35 (Kd.R_reads' HO226.out).2.2 0 p230 q230; obtain rfl : ad229 = ad230 := (by injection e230); have qi230 : (0 < t223.length) = True := eq_true (by omega); (try rw [show ((0 : Int)).toNat = 0 from rfl] at hx230_0); (try rw [show 0 * 3 = 0 from rfl] at hx230_0); (try rw [Addr.add_zero'] at hx230_0); (try rw [show ((0 : Int)).toNat = 0 from rfl] at hx230_1); (try rw [show 0 * 3 = 0 from rfl] at hx230_1); (try rw [Addr.add_zero'] at hx230_1); (try rw [show ((0 : Int)).toNat = 0 from rfl] at hx230_2); (try rw [show 0 * 3 = 0 from rfl] at hx230_2); (try rw [Addr.add_zero'] at hx230_2); replace p230 := eq_true p230; replace q230 := eq_true q230))
        go_ret
        exact ⟨by first | rfl | (simp [errW_none, errW_some] <;> rfl) | (simp [*, errW_none, errW_some] <;> rfl), by repeat (first | (with_reducible first | exact HB.out | apply below_alloc | apply pw_below_drewN | apply below_drew1) | exact HB.out)⟩
      · rw [if_neg c5] at H
        have c5b0 : (((rd_T35 t223 0).f0) == 1) = false := beq_eq_false_iff_ne.mpr c5
        have c5b1 : (((rd_T35 t223 0).f0) != 1) = true := bne_iff_ne.mpr c5
        obtain rfl := Option.some.inj H
        go_enter Try.func14, Try.ntmps14
        go_wp2_with (first | ((with_reducible refine gate_callee (f := 10) rfl ?_); refine goesL_ (some 7) rfl rfl Try.func10 (by kernel_rfl) rfl #[.string a0] rfl (by (try simp only [List.map_toArray, List.map_cons, List.map_nil]); first | done | rfl | (simp only [List.length_drop, List.length_take]; rfl)) ?_; (with_reducible refine (lex_Lex.calls a0 t223 t224 _ A2.out).mono ?_); rintro e w8 ⟨v225, v227, rfl, ho0, ho1, hb⟩; refine ⟨_, rfl, ?_⟩; have n0_ := Aside0.mk (Kd.R_lower ho0 (below_size (by repeat (first | (with_reducible first | exact HB.out | apply below_alloc | apply pw_below_drewN | apply below_drew1) | exact HB.out)))); have n1_ := Aside0.mk (Kd.R_lower ho1 (below_size (by repeat (first | (with_reducible first | exact HB.out | apply below_alloc | apply pw_below_drewN | apply below_drew1) | exact HB.out)))); have n2_ := Aside0.mk (below_step (by repeat (first | (with_reducible first | exact HB.out | apply below_alloc | apply pw_below_drewN | apply below_drew1) | exact HB.out)) hb); clear HB; have HO226 := n0_; have HO228 := n1_; have HB := n2_; clear n0_ n1_ n2_; (try clear hb); (try clear hb2); (try clear hk); (try clear hi); (try clear ho0); (try clear ho1); obtain ⟨Ao9, co9, eo9⟩ := Kd.R_slice HO226.out; subst eo9; have p229 : 0 ≤ (0 : Int) := (by omega); have q229 : 0 < (t223.length : Int) := of_decide_eq_true (by first | (with_reducible assumption) | assumption); obtain ⟨ad229, e229, hx229_0, hx229_1, hx229_2⟩ := at_T35 (Kd.R_reads' HO226.out).2.2 0 p229 q229; cases e229; have qi229 : (0 < t223.length) = True := eq_true (by omega); (try rw [show ((0 : Int)).toNat = 0 from rfl] at hx229_0); (try rw [show 0 * 3 = 0 from rfl] at hx229_0); (try rw [Addr.add_zero'] at hx229_0); (try rw [show ((0 : Int)).toNat = 0 from rfl] at hx229_1); (try rw [show 0 * 3 = 0 from rfl] at hx229_1); (try rw [Addr.add_zero'] at hx229_1); (try rw [show ((0 : Int)).toNat = 0 from rfl] at hx229_2); (try rw [show 0 * 3 = 0 from rfl] at hx229_2); (try rw [Addr.add_zero'] at hx229_2); replace p229 := eq_true p229; replace q229 := eq_true q229))
        go_ret
        exact ⟨by first | rfl | (simp [errW_none, errW_some] <;> rfl) | (simp [*, errW_none, errW_some] <;> rfl), by repeat (first | (with_reducible first | exact HB.out | apply below_alloc | apply pw_below_drewN | apply below_drew1) | exact HB.out)⟩
    · rw [if_neg c4] at H
      exact absurd H (by simp)
  · rw [if_neg c3] at H
    have c3b0 : ((t223.length : Int) == 2) = false := beq_eq_false_iff_ne.mpr c3
    have c3b1 : ((t223.length : Int) != 2) = true := bne_iff_ne.mpr c3
    obtain rfl := Option.some.inj H
    go_enter Try.func14, Try.ntmps14
    go_wp2_with (first | ((with_reducible refine gate_callee (f := 10) rfl ?_); refine goesL_ (some 7) rfl rfl Try.func10 (by kernel_rfl) rfl #[.string a0] rfl (by (try simp only [List.map_toArray, List.map_cons, List.map_nil]); first | done | rfl | (simp only [List.length_drop, List.length_take]; rfl)) ?_; (with_reducible refine (lex_Lex.calls a0 t223 t224 _ A2.out).mono ?_); rintro e w10 ⟨v225, v227, rfl, ho0, ho1, hb⟩; refine ⟨_, rfl, ?_⟩; have n0_ := Aside0.mk (Kd.R_lower ho0 (below_size (by repeat (first | (with_reducible first | exact HB.out | apply below_alloc | apply pw_below_drewN | apply below_drew1) | exact HB.out)))); have n1_ := Aside0.mk (Kd.R_lower ho1 (below_size (by repeat (first | (with_reducible first | exact HB.out | apply below_alloc | apply pw_below_drewN | apply below_drew1) | exact HB.out)))); have n2_ := Aside0.mk (below_step (by repeat (first | (with_reducible first | exact HB.out | apply below_alloc | apply pw_below_drewN | apply below_drew1) | exact HB.out)) hb); clear HB; have HO226 := n0_; have HO228 := n1_; have HB := n2_; clear n0_ n1_ n2_; (try clear hb); (try clear hb2); (try clear hk); (try clear hi); (try clear ho0); (try clear ho1); obtain ⟨Ao11, co11, eo11⟩ := Kd.R_slice HO226.out; subst eo11))
    go_ret
    exact ⟨by first | rfl | (simp [errW_none, errW_some] <;> rfl) | (simp [*, errW_none, errW_some] <;> rfl), by repeat (first | (with_reducible first | exact HB.out | apply below_alloc | apply pw_below_drewN | apply below_drew1) | exact HB.out)⟩

/-! ### cupellaw04_LexWords: function 5 -/
mutual
def cupellaw04_LexWords.j0 : Nat → Int → ByteArray → ByteArray → Bool → Option (Bool)
  | 0, _, _, _, _ => none
  | k + 1, x2, x8, x9, x79 => if x79 = true then (some false) else (cupellaw04_LexWords.l0 k x8 x9 (⟨#[]⟩ : ByteArray) (Int.tmod (wrap64 (x2)) 30) 0)
def cupellaw04_LexWords.l0 : Nat → ByteArray → ByteArray → ByteArray → Int → Int → Option (Bool)
  | 0, _, _, _, _, _ => none
  | k + 1, x8, x9, x14, x15, x16 => if x16 < x15 then (if x14.size + x8.size ≤ 9223372036854775807 then (if (x14 ++ x8).size + x9.size ≤ 9223372036854775807 then (if ((x14 ++ x8) ++ x9).size + 1 ≤ 9223372036854775807 then (cupellaw04_LexWords.l0 k x8 x9 (((x14 ++ x8) ++ x9) ++ (⟨#[32]⟩ : ByteArray)) x15 (wrap64 (x16 + 1))) else (none)) else (none)) else (none)) else ((lex_Lex.f x14).bind fun bt255 => (if (bt255.1.length : Int) = (wrap64 (x15 + 1)) then (some ((bt255.2.length : Int) == 0)) else (some false)))
end
def cupellaw04_LexWords.f (k : Nat) (a0 : Int) (a1 : Int) (a2 : Int) : Option (Bool) := (cupellaw04_alive.f).bind fun t231 => (if t231 = true then ((some (([(⟨#[117, 115, 101]⟩ : ByteArray), (⟨#[116, 121, 112, 101]⟩ : ByteArray), (⟨#[108, 101, 116]⟩ : ByteArray), (⟨#[105, 110]⟩ : ByteArray), (⟨#[105, 102]⟩ : ByteArray), (⟨#[116, 104, 101, 110]⟩ : ByteArray), (⟨#[101, 108, 115, 101]⟩ : ByteArray), (⟨#[102, 117, 110]⟩ : ByteArray), (⟨#[116, 114, 117, 101]⟩ : ByteArray), (⟨#[102, 97, 108, 115, 101]⟩ : ByteArray), (⟨#[105, 110, 116]⟩ : ByteArray), (⟨#[98, 111, 111, 108]⟩ : ByteArray), (⟨#[116, 101, 120, 116]⟩ : ByteArray)] : List ByteArray) : List ByteArray)).bind fun y232 => (if (y232.length : Int) = 0 then (none) else (if 0 ≤ (Int.tmod (wrap64 (a0)) (y232.length : Int)) then (if (Int.tmod (wrap64 (a0)) (y232.length : Int)) < (y232.length : Int) then (if 0 ≤ (Int.tmod a1 6) then (if (Int.tmod a1 6) < 6 then ((some (([bt (⟨#[97, 98, 122, 95, 48, 57]⟩ : ByteArray) (Int.tmod a1 6)] : List Int) : List Int)).bind fun y236 => ((lex_Lex.f (rdOf ByteArray.empty y232 (Int.tmod (wrap64 (a0)) (y232.length : Int)))).bind fun bt239 => (if (rdOf ByteArray.empty y232 (Int.tmod (wrap64 (a0)) (y232.length : Int))).size + (strOfNums y236).size ≤ 9223372036854775807 then ((lex_Lex.f ((rdOf ByteArray.empty y232 (Int.tmod (wrap64 (a0)) (y232.length : Int))) ++ (strOfNums y236))).bind fun bt245 => (if (bt239.1.length : Int) = 2 then (if 0 < (bt239.1.length : Int) then (if ((rd_T35 bt239.1 0).f0) = 2 then ((lex_Name.f (rdOf ByteArray.empty y232 (Int.tmod (wrap64 (a0)) (y232.length : Int)))).bind fun t252 => (if t252 = true then (cupellaw04_LexWords.j0 k a2 (rdOf ByteArray.empty y232 (Int.tmod (wrap64 (a0)) (y232.length : Int))) (strOfNums y236) true) else (if (bt245.1.length : Int) = 2 then (if 0 < (bt245.1.length : Int) then (if ((rd_T35 bt245.1 0).f0) = 1 then ((lex_Name.f ((rdOf ByteArray.empty y232 (Int.tmod (wrap64 (a0)) (y232.length : Int))) ++ (strOfNums y236))).bind fun t254 => (cupellaw04_LexWords.j0 k a2 (rdOf ByteArray.empty y232 (Int.tmod (wrap64 (a0)) (y232.length : Int))) (strOfNums y236) (!t254))) else (cupellaw04_LexWords.j0 k a2 (rdOf ByteArray.empty y232 (Int.tmod (wrap64 (a0)) (y232.length : Int))) (strOfNums y236) true)) else (none)) else (cupellaw04_LexWords.j0 k a2 (rdOf ByteArray.empty y232 (Int.tmod (wrap64 (a0)) (y232.length : Int))) (strOfNums y236) true)))) else (cupellaw04_LexWords.j0 k a2 (rdOf ByteArray.empty y232 (Int.tmod (wrap64 (a0)) (y232.length : Int))) (strOfNums y236) true)) else (none)) else (cupellaw04_LexWords.j0 k a2 (rdOf ByteArray.empty y232 (Int.tmod (wrap64 (a0)) (y232.length : Int))) (strOfNums y236) true))) else (none)))) else (none)) else (none)) else (none)) else (none)))) else (some false))
theorem cupellaw04_LexWords.mono_l : ∀ k, (∀ y0 y1 y2 y3, LeO (cupellaw04_LexWords.j0 k y0 y1 y2 y3) (cupellaw04_LexWords.j0 (k + 1) y0 y1 y2 y3)) ∧ (∀ y0 y1 y2 y3 y4, LeO (cupellaw04_LexWords.l0 k y0 y1 y2 y3 y4) (cupellaw04_LexWords.l0 (k + 1) y0 y1 y2 y3 y4))
  | 0 => ⟨fun _ _ _ _ r h => by simp [cupellaw04_LexWords.j0] at h, fun _ _ _ _ _ r h => by simp [cupellaw04_LexWords.l0] at h⟩
  | k + 1 => by
    obtain ⟨ih0, ih1⟩ := cupellaw04_LexWords.mono_l k
    refine ⟨?_, ?_⟩
    · intro y0 y1 y2 y3
      unfold cupellaw04_LexWords.j0
      repeat' first
      | (with_reducible exact ih0 _ _ _ _)
      | (with_reducible exact ih1 _ _ _ _ _)
      | (with_reducible exact LeO.refl _)
      | (with_reducible exact LeO.none _)
      | (with_reducible refine LeO.ite ?_ ?_)
      | (with_reducible refine LeO.bind ?_ (fun _ => ?_))
      | exact ih0 _ _ _ _
      | exact ih1 _ _ _ _ _
      | exact LeO.none _
      | refine LeO.ite ?_ ?_
      | refine LeO.bind ?_ (fun _ => ?_)
    · intro y0 y1 y2 y3 y4
      unfold cupellaw04_LexWords.l0
      repeat' first
      | (with_reducible exact ih0 _ _ _ _)
      | (with_reducible exact ih1 _ _ _ _ _)
      | (with_reducible exact LeO.refl _)
      | (with_reducible exact LeO.none _)
      | (with_reducible refine LeO.ite ?_ ?_)
      | (with_reducible refine LeO.bind ?_ (fun _ => ?_))
      | exact ih0 _ _ _ _
      | exact ih1 _ _ _ _ _
      | exact LeO.none _
      | refine LeO.ite ?_ ?_
      | refine LeO.bind ?_ (fun _ => ?_)
theorem cupellaw04_LexWords.mono : ∀ a0 a1 a2 k, LeO (cupellaw04_LexWords.f k a0 a1 a2) (cupellaw04_LexWords.f (k + 1) a0 a1 a2) := by
  intro a0 a1 a2 k
  obtain ⟨ih0, ih1⟩ := cupellaw04_LexWords.mono_l k
  unfold cupellaw04_LexWords.f
  repeat' first
      | (with_reducible exact ih0 _ _ _ _)
      | (with_reducible exact ih1 _ _ _ _ _)
      | (with_reducible exact LeO.refl _)
      | (with_reducible exact LeO.none _)
      | (with_reducible refine LeO.ite ?_ ?_)
      | (with_reducible refine LeO.bind ?_ (fun _ => ?_))
      | exact ih0 _ _ _ _
      | exact ih1 _ _ _ _ _
      | exact LeO.none _
      | refine LeO.ite ?_ ?_
      | refine LeO.bind ?_ (fun _ => ?_)
set_option maxHeartbeats 8000000 in
set_option maxRecDepth 100000 in
theorem cupellaw04_LexWords.calls (k : Nat) (a0 : Int) (a1 : Int) (a2 : Int) (r : Bool) (w : World) (h : cupellaw04_LexWords.f k a0 a1 a2 = some r) :
    Calls Try.prog 5 #[.int .u8 a0, .int .u8 a1, .int .u8 a2] w fun e w' => e = .returned (.bool r) ∧ Below w.heap.size w w' := by
  have HB := Aside0.mk (Below.refl w.heap.size w)
  have H : ((cupellaw04_alive.f).bind fun t231 => (if t231 = true then ((some (([(⟨#[117, 115, 101]⟩ : ByteArray), (⟨#[116, 121, 112, 101]⟩ : ByteArray), (⟨#[108, 101, 116]⟩ : ByteArray), (⟨#[105, 110]⟩ : ByteArray), (⟨#[105, 102]⟩ : ByteArray), (⟨#[116, 104, 101, 110]⟩ : ByteArray), (⟨#[101, 108, 115, 101]⟩ : ByteArray), (⟨#[102, 117, 110]⟩ : ByteArray), (⟨#[116, 114, 117, 101]⟩ : ByteArray), (⟨#[102, 97, 108, 115, 101]⟩ : ByteArray), (⟨#[105, 110, 116]⟩ : ByteArray), (⟨#[98, 111, 111, 108]⟩ : ByteArray), (⟨#[116, 101, 120, 116]⟩ : ByteArray)] : List ByteArray) : List ByteArray)).bind fun y232 => (if (y232.length : Int) = 0 then (none) else (if 0 ≤ (Int.tmod (wrap64 (a0)) (y232.length : Int)) then (if (Int.tmod (wrap64 (a0)) (y232.length : Int)) < (y232.length : Int) then (if 0 ≤ (Int.tmod a1 6) then (if (Int.tmod a1 6) < 6 then ((some (([bt (⟨#[97, 98, 122, 95, 48, 57]⟩ : ByteArray) (Int.tmod a1 6)] : List Int) : List Int)).bind fun y236 => ((lex_Lex.f (rdOf ByteArray.empty y232 (Int.tmod (wrap64 (a0)) (y232.length : Int)))).bind fun bt239 => (if (rdOf ByteArray.empty y232 (Int.tmod (wrap64 (a0)) (y232.length : Int))).size + (strOfNums y236).size ≤ 9223372036854775807 then ((lex_Lex.f ((rdOf ByteArray.empty y232 (Int.tmod (wrap64 (a0)) (y232.length : Int))) ++ (strOfNums y236))).bind fun bt245 => (if (bt239.1.length : Int) = 2 then (if 0 < (bt239.1.length : Int) then (if ((rd_T35 bt239.1 0).f0) = 2 then ((lex_Name.f (rdOf ByteArray.empty y232 (Int.tmod (wrap64 (a0)) (y232.length : Int)))).bind fun t252 => (if t252 = true then (cupellaw04_LexWords.j0 k a2 (rdOf ByteArray.empty y232 (Int.tmod (wrap64 (a0)) (y232.length : Int))) (strOfNums y236) true) else (if (bt245.1.length : Int) = 2 then (if 0 < (bt245.1.length : Int) then (if ((rd_T35 bt245.1 0).f0) = 1 then ((lex_Name.f ((rdOf ByteArray.empty y232 (Int.tmod (wrap64 (a0)) (y232.length : Int))) ++ (strOfNums y236))).bind fun t254 => (cupellaw04_LexWords.j0 k a2 (rdOf ByteArray.empty y232 (Int.tmod (wrap64 (a0)) (y232.length : Int))) (strOfNums y236) (!t254))) else (cupellaw04_LexWords.j0 k a2 (rdOf ByteArray.empty y232 (Int.tmod (wrap64 (a0)) (y232.length : Int))) (strOfNums y236) true)) else (none)) else (cupellaw04_LexWords.j0 k a2 (rdOf ByteArray.empty y232 (Int.tmod (wrap64 (a0)) (y232.length : Int))) (strOfNums y236) true)))) else (cupellaw04_LexWords.j0 k a2 (rdOf ByteArray.empty y232 (Int.tmod (wrap64 (a0)) (y232.length : Int))) (strOfNums y236) true)) else (none)) else (cupellaw04_LexWords.j0 k a2 (rdOf ByteArray.empty y232 (Int.tmod (wrap64 (a0)) (y232.length : Int))) (strOfNums y236) true))) else (none)))) else (none)) else (none)) else (none)) else (none)))) else (some false))) = some r := h
  clear h
  replace H := Option.bind_eq_some_iff.mp H
  obtain ⟨t231, A40, H⟩ := H
  replace H : (if t231 = true then ((some (([(⟨#[117, 115, 101]⟩ : ByteArray), (⟨#[116, 121, 112, 101]⟩ : ByteArray), (⟨#[108, 101, 116]⟩ : ByteArray), (⟨#[105, 110]⟩ : ByteArray), (⟨#[105, 102]⟩ : ByteArray), (⟨#[116, 104, 101, 110]⟩ : ByteArray), (⟨#[101, 108, 115, 101]⟩ : ByteArray), (⟨#[102, 117, 110]⟩ : ByteArray), (⟨#[116, 114, 117, 101]⟩ : ByteArray), (⟨#[102, 97, 108, 115, 101]⟩ : ByteArray), (⟨#[105, 110, 116]⟩ : ByteArray), (⟨#[98, 111, 111, 108]⟩ : ByteArray), (⟨#[116, 101, 120, 116]⟩ : ByteArray)] : List ByteArray) : List ByteArray)).bind fun y232 => (if (y232.length : Int) = 0 then (none) else (if 0 ≤ (Int.tmod (wrap64 (a0)) (y232.length : Int)) then (if (Int.tmod (wrap64 (a0)) (y232.length : Int)) < (y232.length : Int) then (if 0 ≤ (Int.tmod a1 6) then (if (Int.tmod a1 6) < 6 then ((some (([bt (⟨#[97, 98, 122, 95, 48, 57]⟩ : ByteArray) (Int.tmod a1 6)] : List Int) : List Int)).bind fun y236 => ((lex_Lex.f (rdOf ByteArray.empty y232 (Int.tmod (wrap64 (a0)) (y232.length : Int)))).bind fun bt239 => (if (rdOf ByteArray.empty y232 (Int.tmod (wrap64 (a0)) (y232.length : Int))).size + (strOfNums y236).size ≤ 9223372036854775807 then ((lex_Lex.f ((rdOf ByteArray.empty y232 (Int.tmod (wrap64 (a0)) (y232.length : Int))) ++ (strOfNums y236))).bind fun bt245 => (if (bt239.1.length : Int) = 2 then (if 0 < (bt239.1.length : Int) then (if ((rd_T35 bt239.1 0).f0) = 2 then ((lex_Name.f (rdOf ByteArray.empty y232 (Int.tmod (wrap64 (a0)) (y232.length : Int)))).bind fun t252 => (if t252 = true then (cupellaw04_LexWords.j0 k a2 (rdOf ByteArray.empty y232 (Int.tmod (wrap64 (a0)) (y232.length : Int))) (strOfNums y236) true) else (if (bt245.1.length : Int) = 2 then (if 0 < (bt245.1.length : Int) then (if ((rd_T35 bt245.1 0).f0) = 1 then ((lex_Name.f ((rdOf ByteArray.empty y232 (Int.tmod (wrap64 (a0)) (y232.length : Int))) ++ (strOfNums y236))).bind fun t254 => (cupellaw04_LexWords.j0 k a2 (rdOf ByteArray.empty y232 (Int.tmod (wrap64 (a0)) (y232.length : Int))) (strOfNums y236) (!t254))) else (cupellaw04_LexWords.j0 k a2 (rdOf ByteArray.empty y232 (Int.tmod (wrap64 (a0)) (y232.length : Int))) (strOfNums y236) true)) else (none)) else (cupellaw04_LexWords.j0 k a2 (rdOf ByteArray.empty y232 (Int.tmod (wrap64 (a0)) (y232.length : Int))) (strOfNums y236) true)))) else (cupellaw04_LexWords.j0 k a2 (rdOf ByteArray.empty y232 (Int.tmod (wrap64 (a0)) (y232.length : Int))) (strOfNums y236) true)) else (none)) else (cupellaw04_LexWords.j0 k a2 (rdOf ByteArray.empty y232 (Int.tmod (wrap64 (a0)) (y232.length : Int))) (strOfNums y236) true))) else (none)))) else (none)) else (none)) else (none)) else (none)))) else (some false)) = some r := H
  have A4 := Aside0.mk A40
  clear A40
  by_cases c5 : t231 = true
  · subst c5
    have H1 : ((some (([(⟨#[117, 115, 101]⟩ : ByteArray), (⟨#[116, 121, 112, 101]⟩ : ByteArray), (⟨#[108, 101, 116]⟩ : ByteArray), (⟨#[105, 110]⟩ : ByteArray), (⟨#[105, 102]⟩ : ByteArray), (⟨#[116, 104, 101, 110]⟩ : ByteArray), (⟨#[101, 108, 115, 101]⟩ : ByteArray), (⟨#[102, 117, 110]⟩ : ByteArray), (⟨#[116, 114, 117, 101]⟩ : ByteArray), (⟨#[102, 97, 108, 115, 101]⟩ : ByteArray), (⟨#[105, 110, 116]⟩ : ByteArray), (⟨#[98, 111, 111, 108]⟩ : ByteArray), (⟨#[116, 101, 120, 116]⟩ : ByteArray)] : List ByteArray) : List ByteArray)).bind fun y232 => (if (y232.length : Int) = 0 then (none) else (if 0 ≤ (Int.tmod (wrap64 (a0)) (y232.length : Int)) then (if (Int.tmod (wrap64 (a0)) (y232.length : Int)) < (y232.length : Int) then (if 0 ≤ (Int.tmod a1 6) then (if (Int.tmod a1 6) < 6 then ((some (([bt (⟨#[97, 98, 122, 95, 48, 57]⟩ : ByteArray) (Int.tmod a1 6)] : List Int) : List Int)).bind fun y236 => ((lex_Lex.f (rdOf ByteArray.empty y232 (Int.tmod (wrap64 (a0)) (y232.length : Int)))).bind fun bt239 => (if (rdOf ByteArray.empty y232 (Int.tmod (wrap64 (a0)) (y232.length : Int))).size + (strOfNums y236).size ≤ 9223372036854775807 then ((lex_Lex.f ((rdOf ByteArray.empty y232 (Int.tmod (wrap64 (a0)) (y232.length : Int))) ++ (strOfNums y236))).bind fun bt245 => (if (bt239.1.length : Int) = 2 then (if 0 < (bt239.1.length : Int) then (if ((rd_T35 bt239.1 0).f0) = 2 then ((lex_Name.f (rdOf ByteArray.empty y232 (Int.tmod (wrap64 (a0)) (y232.length : Int)))).bind fun t252 => (if t252 = true then (cupellaw04_LexWords.j0 k a2 (rdOf ByteArray.empty y232 (Int.tmod (wrap64 (a0)) (y232.length : Int))) (strOfNums y236) true) else (if (bt245.1.length : Int) = 2 then (if 0 < (bt245.1.length : Int) then (if ((rd_T35 bt245.1 0).f0) = 1 then ((lex_Name.f ((rdOf ByteArray.empty y232 (Int.tmod (wrap64 (a0)) (y232.length : Int))) ++ (strOfNums y236))).bind fun t254 => (cupellaw04_LexWords.j0 k a2 (rdOf ByteArray.empty y232 (Int.tmod (wrap64 (a0)) (y232.length : Int))) (strOfNums y236) (!t254))) else (cupellaw04_LexWords.j0 k a2 (rdOf ByteArray.empty y232 (Int.tmod (wrap64 (a0)) (y232.length : Int))) (strOfNums y236) true)) else (none)) else (cupellaw04_LexWords.j0 k a2 (rdOf ByteArray.empty y232 (Int.tmod (wrap64 (a0)) (y232.length : Int))) (strOfNums y236) true)))) else (cupellaw04_LexWords.j0 k a2 (rdOf ByteArray.empty y232 (Int.tmod (wrap64 (a0)) (y232.length : Int))) (strOfNums y236) true)) else (none)) else (cupellaw04_LexWords.j0 k a2 (rdOf ByteArray.empty y232 (Int.tmod (wrap64 (a0)) (y232.length : Int))) (strOfNums y236) true))) else (none)))) else (none)) else (none)) else (none)) else (none)))) = some r := by rw [if_pos rfl] at H; exact H
    clear H
    have H := H1
    clear H1
    obtain ⟨y232, hy232⟩ : ∃ y_ : List ByteArray, y_ = (([(⟨#[117, 115, 101]⟩ : ByteArray), (⟨#[116, 121, 112, 101]⟩ : ByteArray), (⟨#[108, 101, 116]⟩ : ByteArray), (⟨#[105, 110]⟩ : ByteArray), (⟨#[105, 102]⟩ : ByteArray), (⟨#[116, 104, 101, 110]⟩ : ByteArray), (⟨#[101, 108, 115, 101]⟩ : ByteArray), (⟨#[102, 117, 110]⟩ : ByteArray), (⟨#[116, 114, 117, 101]⟩ : ByteArray), (⟨#[102, 97, 108, 115, 101]⟩ : ByteArray), (⟨#[105, 110, 116]⟩ : ByteArray), (⟨#[98, 111, 111, 108]⟩ : ByteArray), (⟨#[116, 101, 120, 116]⟩ : ByteArray)] : List ByteArray)) := ⟨_, rfl⟩
    replace H : (if (y232.length : Int) = 0 then (none) else (if 0 ≤ (Int.tmod (wrap64 (a0)) (y232.length : Int)) then (if (Int.tmod (wrap64 (a0)) (y232.length : Int)) < (y232.length : Int) then (if 0 ≤ (Int.tmod a1 6) then (if (Int.tmod a1 6) < 6 then ((some (([bt (⟨#[97, 98, 122, 95, 48, 57]⟩ : ByteArray) (Int.tmod a1 6)] : List Int) : List Int)).bind fun y236 => ((lex_Lex.f (rdOf ByteArray.empty y232 (Int.tmod (wrap64 (a0)) (y232.length : Int)))).bind fun bt239 => (if (rdOf ByteArray.empty y232 (Int.tmod (wrap64 (a0)) (y232.length : Int))).size + (strOfNums y236).size ≤ 9223372036854775807 then ((lex_Lex.f ((rdOf ByteArray.empty y232 (Int.tmod (wrap64 (a0)) (y232.length : Int))) ++ (strOfNums y236))).bind fun bt245 => (if (bt239.1.length : Int) = 2 then (if 0 < (bt239.1.length : Int) then (if ((rd_T35 bt239.1 0).f0) = 2 then ((lex_Name.f (rdOf ByteArray.empty y232 (Int.tmod (wrap64 (a0)) (y232.length : Int)))).bind fun t252 => (if t252 = true then (cupellaw04_LexWords.j0 k a2 (rdOf ByteArray.empty y232 (Int.tmod (wrap64 (a0)) (y232.length : Int))) (strOfNums y236) true) else (if (bt245.1.length : Int) = 2 then (if 0 < (bt245.1.length : Int) then (if ((rd_T35 bt245.1 0).f0) = 1 then ((lex_Name.f ((rdOf ByteArray.empty y232 (Int.tmod (wrap64 (a0)) (y232.length : Int))) ++ (strOfNums y236))).bind fun t254 => (cupellaw04_LexWords.j0 k a2 (rdOf ByteArray.empty y232 (Int.tmod (wrap64 (a0)) (y232.length : Int))) (strOfNums y236) (!t254))) else (cupellaw04_LexWords.j0 k a2 (rdOf ByteArray.empty y232 (Int.tmod (wrap64 (a0)) (y232.length : Int))) (strOfNums y236) true)) else (none)) else (cupellaw04_LexWords.j0 k a2 (rdOf ByteArray.empty y232 (Int.tmod (wrap64 (a0)) (y232.length : Int))) (strOfNums y236) true)))) else (cupellaw04_LexWords.j0 k a2 (rdOf ByteArray.empty y232 (Int.tmod (wrap64 (a0)) (y232.length : Int))) (strOfNums y236) true)) else (none)) else (cupellaw04_LexWords.j0 k a2 (rdOf ByteArray.empty y232 (Int.tmod (wrap64 (a0)) (y232.length : Int))) (strOfNums y236) true))) else (none)))) else (none)) else (none)) else (none)) else (none))) = some r := by first | (rw [hy232]; with_reducible exact H) | (have H2_ := (Option.bind_some _ _).symm.trans H; rw [hy232]; with_reducible exact H2_) | (have H2_ := (Option.bind_some _ _).symm.trans H; with_reducible exact H2_) | with_reducible exact H | (rw [hy232]; exact H) | exact H
    have Ny232 := Aside0.mk hy232
    clear hy232
    by_cases c6 : (y232.length : Int) = 0
    · rw [if_pos c6] at H
      exact absurd H (by simp)
    · rw [if_neg c6] at H
      have c6b0 : ((y232.length : Int) == 0) = false := beq_eq_false_iff_ne.mpr c6
      have c6b1 : ((y232.length : Int) != 0) = true := bne_iff_ne.mpr c6
      have c6b2 : ¬ (y232 = []) := fun h_ => c6 (by rw [h_]; rfl)
      obtain ⟨ji7, hji7⟩ : ∃ j_ : Int, (Int.tmod (wrap64 (a0)) (y232.length : Int)) = j_ := ⟨_, rfl⟩
      replace H : (if 0 ≤ (ji7) then (if (ji7) < (y232.length : Int) then (if 0 ≤ (Int.tmod a1 6) then (if (Int.tmod a1 6) < 6 then ((some (([bt (⟨#[97, 98, 122, 95, 48, 57]⟩ : ByteArray) (Int.tmod a1 6)] : List Int) : List Int)).bind fun y236 => ((lex_Lex.f (rdOf ByteArray.empty y232 (ji7))).bind fun bt239 => (if (rdOf ByteArray.empty y232 (ji7)).size + (strOfNums y236).size ≤ 9223372036854775807 then ((lex_Lex.f ((rdOf ByteArray.empty y232 (ji7)) ++ (strOfNums y236))).bind fun bt245 => (if (bt239.1.length : Int) = 2 then (if 0 < (bt239.1.length : Int) then (if ((rd_T35 bt239.1 0).f0) = 2 then ((lex_Name.f (rdOf ByteArray.empty y232 (ji7))).bind fun t252 => (if t252 = true then (cupellaw04_LexWords.j0 k a2 (rdOf ByteArray.empty y232 (ji7)) (strOfNums y236) true) else (if (bt245.1.length : Int) = 2 then (if 0 < (bt245.1.length : Int) then (if ((rd_T35 bt245.1 0).f0) = 1 then ((lex_Name.f ((rdOf ByteArray.empty y232 (ji7)) ++ (strOfNums y236))).bind fun t254 => (cupellaw04_LexWords.j0 k a2 (rdOf ByteArray.empty y232 (ji7)) (strOfNums y236) (!t254))) else (cupellaw04_LexWords.j0 k a2 (rdOf ByteArray.empty y232 (ji7)) (strOfNums y236) true)) else (none)) else (cupellaw04_LexWords.j0 k a2 (rdOf ByteArray.empty y232 (ji7)) (strOfNums y236) true)))) else (cupellaw04_LexWords.j0 k a2 (rdOf ByteArray.empty y232 (ji7)) (strOfNums y236) true)) else (none)) else (cupellaw04_LexWords.j0 k a2 (rdOf ByteArray.empty y232 (ji7)) (strOfNums y236) true))) else (none)))) else (none)) else (none)) else (none)) else (none)) = some r := by first | (rw [hji7] at H; exact H) | (simp only [hji7] at H ⊢; exact H)
      (try rw [hji7] at A4)
      by_cases c8 : 0 ≤ (ji7)
      · rw [if_pos c8] at H
        have c8b0 : decide (0 ≤ (ji7)) = true := decide_eq_true c8
        clear c8
        by_cases c9 : (ji7) < (y232.length : Int)
        · rw [if_pos c9] at H
          have c9b0 : decide ((ji7) < (y232.length : Int)) = true := decide_eq_true c9
          clear c9
          obtain ⟨ji10, hji10⟩ : ∃ j_ : Int, (Int.tmod a1 6) = j_ := ⟨_, rfl⟩
          replace H : (if 0 ≤ (ji10) then (if (ji10) < 6 then ((some (([bt (⟨#[97, 98, 122, 95, 48, 57]⟩ : ByteArray) (ji10)] : List Int) : List Int)).bind fun y236 => ((lex_Lex.f (rdOf ByteArray.empty y232 (ji7))).bind fun bt239 => (if (rdOf ByteArray.empty y232 (ji7)).size + (strOfNums y236).size ≤ 9223372036854775807 then ((lex_Lex.f ((rdOf ByteArray.empty y232 (ji7)) ++ (strOfNums y236))).bind fun bt245 => (if (bt239.1.length : Int) = 2 then (if 0 < (bt239.1.length : Int) then (if ((rd_T35 bt239.1 0).f0) = 2 then ((lex_Name.f (rdOf ByteArray.empty y232 (ji7))).bind fun t252 => (if t252 = true then (cupellaw04_LexWords.j0 k a2 (rdOf ByteArray.empty y232 (ji7)) (strOfNums y236) true) else (if (bt245.1.length : Int) = 2 then (if 0 < (bt245.1.length : Int) then (if ((rd_T35 bt245.1 0).f0) = 1 then ((lex_Name.f ((rdOf ByteArray.empty y232 (ji7)) ++ (strOfNums y236))).bind fun t254 => (cupellaw04_LexWords.j0 k a2 (rdOf ByteArray.empty y232 (ji7)) (strOfNums y236) (!t254))) else (cupellaw04_LexWords.j0 k a2 (rdOf ByteArray.empty y232 (ji7)) (strOfNums y236) true)) else (none)) else (cupellaw04_LexWords.j0 k a2 (rdOf ByteArray.empty y232 (ji7)) (strOfNums y236) true)))) else (cupellaw04_LexWords.j0 k a2 (rdOf ByteArray.empty y232 (ji7)) (strOfNums y236) true)) else (none)) else (cupellaw04_LexWords.j0 k a2 (rdOf ByteArray.empty y232 (ji7)) (strOfNums y236) true))) else (none)))) else (none)) else (none)) = some r := by first | (rw [hji10] at H; exact H) | (simp only [hji10] at H ⊢; exact H)
          (try rw [hji10] at A4)
          by_cases c11 : 0 ≤ (ji10)
          · rw [if_pos c11] at H
            have c11b0 : decide (0 ≤ (ji10)) = true := decide_eq_true c11
            clear c11
            by_cases c12 : (ji10) < 6
            · rw [if_pos c12] at H
              have c12b0 : decide ((ji10) < 6) = true := decide_eq_true c12
              clear c12
              obtain ⟨y236, hy236⟩ : ∃ y_ : List Int, y_ = (([bt (⟨#[97, 98, 122, 95, 48, 57]⟩ : ByteArray) (ji10)] : List Int)) := ⟨_, rfl⟩
              replace H : ((lex_Lex.f (rdOf ByteArray.empty y232 (ji7))).bind fun bt239 => (if (rdOf ByteArray.empty y232 (ji7)).size + (strOfNums y236).size ≤ 9223372036854775807 then ((lex_Lex.f ((rdOf ByteArray.empty y232 (ji7)) ++ (strOfNums y236))).bind fun bt245 => (if (bt239.1.length : Int) = 2 then (if 0 < (bt239.1.length : Int) then (if ((rd_T35 bt239.1 0).f0) = 2 then ((lex_Name.f (rdOf ByteArray.empty y232 (ji7))).bind fun t252 => (if t252 = true then (cupellaw04_LexWords.j0 k a2 (rdOf ByteArray.empty y232 (ji7)) (strOfNums y236) true) else (if (bt245.1.length : Int) = 2 then (if 0 < (bt245.1.length : Int) then (if ((rd_T35 bt245.1 0).f0) = 1 then ((lex_Name.f ((rdOf ByteArray.empty y232 (ji7)) ++ (strOfNums y236))).bind fun t254 => (cupellaw04_LexWords.j0 k a2 (rdOf ByteArray.empty y232 (ji7)) (strOfNums y236) (!t254))) else (cupellaw04_LexWords.j0 k a2 (rdOf ByteArray.empty y232 (ji7)) (strOfNums y236) true)) else (none)) else (cupellaw04_LexWords.j0 k a2 (rdOf ByteArray.empty y232 (ji7)) (strOfNums y236) true)))) else (cupellaw04_LexWords.j0 k a2 (rdOf ByteArray.empty y232 (ji7)) (strOfNums y236) true)) else (none)) else (cupellaw04_LexWords.j0 k a2 (rdOf ByteArray.empty y232 (ji7)) (strOfNums y236) true))) else (none))) = some r := by first | (rw [hy236]; with_reducible exact H) | (have H2_ := (Option.bind_some _ _).symm.trans H; rw [hy236]; with_reducible exact H2_) | (have H2_ := (Option.bind_some _ _).symm.trans H; with_reducible exact H2_) | with_reducible exact H | (rw [hy236]; exact H) | exact H
              have Ny236 := Aside0.mk hy236
              clear hy236
              replace H := Option.bind_eq_some_iff.mp H
              obtain ⟨⟨t239, t240⟩, A140, H⟩ := H
              replace H : (if (rdOf ByteArray.empty y232 (ji7)).size + (strOfNums y236).size ≤ 9223372036854775807 then ((lex_Lex.f ((rdOf ByteArray.empty y232 (ji7)) ++ (strOfNums y236))).bind fun bt245 => (if (t239.length : Int) = 2 then (if 0 < (t239.length : Int) then (if ((rd_T35 t239 0).f0) = 2 then ((lex_Name.f (rdOf ByteArray.empty y232 (ji7))).bind fun t252 => (if t252 = true then (cupellaw04_LexWords.j0 k a2 (rdOf ByteArray.empty y232 (ji7)) (strOfNums y236) true) else (if (bt245.1.length : Int) = 2 then (if 0 < (bt245.1.length : Int) then (if ((rd_T35 bt245.1 0).f0) = 1 then ((lex_Name.f ((rdOf ByteArray.empty y232 (ji7)) ++ (strOfNums y236))).bind fun t254 => (cupellaw04_LexWords.j0 k a2 (rdOf ByteArray.empty y232 (ji7)) (strOfNums y236) (!t254))) else (cupellaw04_LexWords.j0 k a2 (rdOf ByteArray.empty y232 (ji7)) (strOfNums y236) true)) else (none)) else (cupellaw04_LexWords.j0 k a2 (rdOf ByteArray.empty y232 (ji7)) (strOfNums y236) true)))) else (cupellaw04_LexWords.j0 k a2 (rdOf ByteArray.empty y232 (ji7)) (strOfNums y236) true)) else (none)) else (cupellaw04_LexWords.j0 k a2 (rdOf ByteArray.empty y232 (ji7)) (strOfNums y236) true))) else (none)) = some r := H
              have A14 := Aside0.mk A140
              clear A140
              by_cases c15 : (rdOf ByteArray.empty y232 (ji7)).size + (strOfNums y236).size ≤ 9223372036854775807
              · rw [if_pos c15] at H
                have c15b0 := eq_true c15
                have c15b1 : decide ((rdOf ByteArray.empty y232 (ji7)).size + (strOfNums y236).size ≤ 9223372036854775807) = true := decide_eq_true c15
                try have c15b2 : (9223372036854775807 < (rdOf ByteArray.empty y232 (ji7)).size + (strOfNums y236).size) = False := eq_false (Nat.not_lt.2 c15)
                replace H := Option.bind_eq_some_iff.mp H
                obtain ⟨⟨t245, t246⟩, A160, H⟩ := H
                replace H : (if (t239.length : Int) = 2 then (if 0 < (t239.length : Int) then (if ((rd_T35 t239 0).f0) = 2 then ((lex_Name.f (rdOf ByteArray.empty y232 (ji7))).bind fun t252 => (if t252 = true then (cupellaw04_LexWords.j0 k a2 (rdOf ByteArray.empty y232 (ji7)) (strOfNums y236) true) else (if (t245.length : Int) = 2 then (if 0 < (t245.length : Int) then (if ((rd_T35 t245 0).f0) = 1 then ((lex_Name.f ((rdOf ByteArray.empty y232 (ji7)) ++ (strOfNums y236))).bind fun t254 => (cupellaw04_LexWords.j0 k a2 (rdOf ByteArray.empty y232 (ji7)) (strOfNums y236) (!t254))) else (cupellaw04_LexWords.j0 k a2 (rdOf ByteArray.empty y232 (ji7)) (strOfNums y236) true)) else (none)) else (cupellaw04_LexWords.j0 k a2 (rdOf ByteArray.empty y232 (ji7)) (strOfNums y236) true)))) else (cupellaw04_LexWords.j0 k a2 (rdOf ByteArray.empty y232 (ji7)) (strOfNums y236) true)) else (none)) else (cupellaw04_LexWords.j0 k a2 (rdOf ByteArray.empty y232 (ji7)) (strOfNums y236) true)) = some r := H
                have A16 := Aside0.mk A160
                clear A160
                have HC17 := Aside0.mk H
                clear H
                go_enter Try.func5, Try.ntmps5
                go_upto_region 8 with (first | ((with_reducible refine gate_callee (f := 9) rfl ?_); refine goesL_ (some 19) rfl rfl Try.func9 (by kernel_rfl) rfl #[] rfl (by (try simp only [List.map_toArray, List.map_cons, List.map_nil]); first | done | rfl | (simp only [List.length_drop, List.length_take]; rfl)) ?_; (with_reducible refine (cupellaw04_alive.calls  true _ A4.out).mono ?_); rintro e w18 ⟨rfl, hb⟩; refine ⟨_, rfl, ?_⟩; have n0_ := Aside0.mk (below_step (by repeat (first | (with_reducible first | exact HB.out | apply below_alloc | apply pw_below_drewN | apply below_drew1) | exact HB.out)) hb); clear HB; have HB := n0_; clear n0_; (try clear hb); (try clear hb2); (try clear hk); (try clear hi)) | ((with_reducible refine gate_dst (N := 21) rfl ?_); (try (refine gate_guard (by rfl) ?_; dsimp only)); refine Kd.R_lit Kd.string _ 9 ?hg (N := 21) ?hd (xs := ([(⟨#[117, 115, 101]⟩ : ByteArray), (⟨#[116, 121, 112, 101]⟩ : ByteArray), (⟨#[108, 101, 116]⟩ : ByteArray), (⟨#[105, 110]⟩ : ByteArray), (⟨#[105, 102]⟩ : ByteArray), (⟨#[116, 104, 101, 110]⟩ : ByteArray), (⟨#[101, 108, 115, 101]⟩ : ByteArray), (⟨#[102, 117, 110]⟩ : ByteArray), (⟨#[116, 114, 117, 101]⟩ : ByteArray), (⟨#[102, 97, 108, 115, 101]⟩ : ByteArray), (⟨#[105, 110, 116]⟩ : ByteArray), (⟨#[98, 111, 111, 108]⟩ : ByteArray), (⟨#[116, 101, 120, 116]⟩ : ByteArray)] : List ByteArray)) (inner := [.string (⟨#[117, 115, 101]⟩ : ByteArray), .string (⟨#[116, 121, 112, 101]⟩ : ByteArray), .string (⟨#[108, 101, 116]⟩ : ByteArray), .string (⟨#[105, 110]⟩ : ByteArray), .string (⟨#[105, 102]⟩ : ByteArray), .string (⟨#[116, 104, 101, 110]⟩ : ByteArray), .string (⟨#[101, 108, 115, 101]⟩ : ByteArray), .string (⟨#[102, 117, 110]⟩ : ByteArray), .string (⟨#[116, 114, 117, 101]⟩ : ByteArray), .string (⟨#[102, 97, 108, 115, 101]⟩ : ByteArray), .string (⟨#[105, 110, 116]⟩ : ByteArray), .string (⟨#[98, 111, 111, 108]⟩ : ByteArray), .string (⟨#[116, 101, 120, 116]⟩ : ByteArray)]) (ok := fun _ => True) (okp := fun _ => True) ?hr ?hp (fun _ hk => hk) trivial (Below.refl _ _) (Nat.le_refl _) (by simp) ?_; (case hd => rfl); (case hg => rfl); (case hr => first | (go_simp; done) | (go_simp; rfl)); (case hp => exact (Reps.one (show Kd.M Kd.string _ _ _ (⟨#[117, 115, 101]⟩ : ByteArray) [.string (⟨#[117, 115, 101]⟩ : ByteArray)] from rfl) (Reps.one (show Kd.M Kd.string _ _ _ (⟨#[116, 121, 112, 101]⟩ : ByteArray) [.string (⟨#[116, 121, 112, 101]⟩ : ByteArray)] from rfl) (Reps.one (show Kd.M Kd.string _ _ _ (⟨#[108, 101, 116]⟩ : ByteArray) [.string (⟨#[108, 101, 116]⟩ : ByteArray)] from rfl) (Reps.one (show Kd.M Kd.string _ _ _ (⟨#[105, 110]⟩ : ByteArray) [.string (⟨#[105, 110]⟩ : ByteArray)] from rfl) (Reps.one (show Kd.M Kd.string _ _ _ (⟨#[105, 102]⟩ : ByteArray) [.string (⟨#[105, 102]⟩ : ByteArray)] from rfl) (Reps.one (show Kd.M Kd.string _ _ _ (⟨#[116, 104, 101, 110]⟩ : ByteArray) [.string (⟨#[116, 104, 101, 110]⟩ : ByteArray)] from rfl) (Reps.one (show Kd.M Kd.string _ _ _ (⟨#[101, 108, 115, 101]⟩ : ByteArray) [.string (⟨#[101, 108, 115, 101]⟩ : ByteArray)] from rfl) (Reps.one (show Kd.M Kd.string _ _ _ (⟨#[102, 117, 110]⟩ : ByteArray) [.string (⟨#[102, 117, 110]⟩ : ByteArray)] from rfl) (Reps.one (show Kd.M Kd.string _ _ _ (⟨#[116, 114, 117, 101]⟩ : ByteArray) [.string (⟨#[116, 114, 117, 101]⟩ : ByteArray)] from rfl) (Reps.one (show Kd.M Kd.string _ _ _ (⟨#[102, 97, 108, 115, 101]⟩ : ByteArray) [.string (⟨#[102, 97, 108, 115, 101]⟩ : ByteArray)] from rfl) (Reps.one (show Kd.M Kd.string _ _ _ (⟨#[105, 110, 116]⟩ : ByteArray) [.string (⟨#[105, 110, 116]⟩ : ByteArray)] from rfl) (Reps.one (show Kd.M Kd.string _ _ _ (⟨#[98, 111, 111, 108]⟩ : ByteArray) [.string (⟨#[98, 111, 111, 108]⟩ : ByteArray)] from rfl) (Reps.one (show Kd.M Kd.string _ _ _ (⟨#[116, 101, 120, 116]⟩ : ByteArray) [.string (⟨#[116, 101, 120, 116]⟩ : ByteArray)] from rfl) (Reps.none _ _))))))))))))))); intro v233 w19 ho20 hb hg_ hnew_; clear hg_ hnew_; (first | rw [← Ny232.out] at ho20 | (simp only [Int.reduceToNat] at ho20; rw [← Ny232.out] at ho20)); have n0_ := Aside0.mk (Kd.R_lower ho20 (below_size (by repeat (first | (with_reducible first | exact HB.out | apply below_alloc | apply pw_below_drewN | apply below_drew1) | exact HB.out)))); have n1_ := Aside0.mk (below_step (by repeat (first | (with_reducible first | exact HB.out | apply below_alloc | apply pw_below_drewN | apply below_drew1) | exact HB.out)) hb); clear HB; have HO234 := n0_; have HB := n1_; clear n0_ n1_; clear hb ho20; obtain ⟨Ao21, co21, eo21⟩ := Kd.R_slice HO234.out; subst eo21; have p235 : 0 ≤ ((ji7) : Int) := of_decide_eq_true (by first | (with_reducible assumption) | assumption); have q235 : (ji7) < (y232.length : Int) := of_decide_eq_true (by first | (with_reducible assumption) | assumption); obtain ⟨ad235, e235, hx235_0⟩ := Kd.at_string (Kd.R_reads' HO234.out).2.2 (ji7) p235 q235; cases e235; replace p235 := eq_true p235; replace q235 := eq_true q235; have p13 : 0 ≤ ((ji10) : Int) := of_decide_eq_true (by first | (with_reducible assumption) | assumption); have q13 : (ji10) < (6 : Int) := of_decide_eq_true (by first | (with_reducible assumption) | assumption); have hx13 := bt_at (⟨#[97, 98, 122, 95, 48, 57]⟩ : ByteArray) (ji10); replace p13 := eq_true p13; replace q13 := eq_true q13) | ((with_reducible refine gate_dst (N := 33) rfl ?_); (try (refine gate_guard (by rfl) ?_; dsimp only)); refine Kd.R_lit (Kd.int .u8) _ 5 ?hg (N := 33) ?hd (xs := ([bt (⟨#[97, 98, 122, 95, 48, 57]⟩ : ByteArray) (ji10)] : List Int)) (inner := [.int .u8 (bt (⟨#[97, 98, 122, 95, 48, 57]⟩ : ByteArray) (ji10))]) (ok := fun _ => True) (okp := fun _ => True) ?hr ?hp (fun _ hk => hk) trivial (Below.refl _ _) (Nat.le_refl _) (by simp) ?_; (case hd => rfl); (case hg => rfl); (case hr => first | (go_simp; done) | (go_simp; rfl)); (case hp => exact (Reps.one (show Kd.M (Kd.int .u8) _ _ _ (bt (⟨#[97, 98, 122, 95, 48, 57]⟩ : ByteArray) (ji10)) [.int .u8 (bt (⟨#[97, 98, 122, 95, 48, 57]⟩ : ByteArray) (ji10))] from rfl) (Reps.none _ _))); intro v237 w22 ho23 hb hg_ hnew_; clear hg_ hnew_; (first | rw [← Ny236.out] at ho23 | (simp only [Int.reduceToNat] at ho23; rw [← Ny236.out] at ho23)); have n0_ := Aside0.mk (Kd.R_below (by (with_reducible repeat (first | apply Kd.R_alloc | apply Kd.R_drewN | apply Kd.R_drew)); exact HO234.out) hb); have n1_ := Aside0.mk (Kd.R_lower ho23 (below_size (by repeat (first | (with_reducible first | exact HB.out | apply below_alloc | apply pw_below_drewN | apply below_drew1) | exact HB.out)))); have n2_ := Aside0.mk (below_step (by repeat (first | (with_reducible first | exact HB.out | apply below_alloc | apply pw_below_drewN | apply below_drew1) | exact HB.out)) hb); clear HO234; clear HB; have HO234 := n0_; have HO238 := n1_; have HB := n2_; clear n0_ n1_ n2_; clear hb ho23; have hcv24 := own_string (P := Try.prog) Try.underlying37 Try.underlying5 Try.underlying9 (Kd.own_of_R HO238.out)) | ((with_reducible refine gate_callee (f := 10) rfl ?_); refine goesL_ (some 37) rfl rfl Try.func10 (by kernel_rfl) rfl #[.string (rdOf ByteArray.empty y232 (ji7))] rfl (by (try simp only [List.map_toArray, List.map_cons, List.map_nil]); first | done | (simp only [hji7]; rfl) | rfl | (simp only [List.length_drop, List.length_take]; rfl)) ?_; (with_reducible refine (lex_Lex.calls (rdOf ByteArray.empty y232 (ji7)) t239 t240 _ A14.out).mono ?_); rintro e w25 ⟨v241, v243, rfl, ho0, ho1, hb⟩; refine ⟨_, rfl, ?_⟩; have n0_ := Aside0.mk (Kd.R_below (by (with_reducible repeat (first | apply Kd.R_alloc | apply Kd.R_drewN | apply Kd.R_drew)); exact HO234.out) hb); have n1_ := Aside0.mk (Kd.R_below (by (with_reducible repeat (first | apply Kd.R_alloc | apply Kd.R_drewN | apply Kd.R_drew)); exact HO238.out) hb); have n2_ := Aside0.mk (Kd.R_lower ho0 (below_size (by repeat (first | (with_reducible first | exact HB.out | apply below_alloc | apply pw_below_drewN | apply below_drew1) | exact HB.out)))); have n3_ := Aside0.mk (Kd.R_lower ho1 (below_size (by repeat (first | (with_reducible first | exact HB.out | apply below_alloc | apply pw_below_drewN | apply below_drew1) | exact HB.out)))); have n4_ := Aside0.mk (below_step (by repeat (first | (with_reducible first | exact HB.out | apply below_alloc | apply pw_below_drewN | apply below_drew1) | exact HB.out)) hb); clear HO234; clear HO238; clear HB; have HO234 := n0_; have HO238 := n1_; have HO242 := n2_; have HO244 := n3_; have HB := n4_; clear n0_ n1_ n2_ n3_ n4_; (try clear hb); (try clear hb2); (try clear hk); (try clear hi); (try clear ho0); (try clear ho1)) | ((with_reducible refine gate_callee (f := 10) rfl ?_); refine goesL_ (some 44) rfl rfl Try.func10 (by kernel_rfl) rfl #[.string ((rdOf ByteArray.empty y232 (ji7)) ++ (strOfNums y236))] rfl (by (try simp only [List.map_toArray, List.map_cons, List.map_nil]); first | done | (simp only [hji7]; rfl) | rfl | (simp only [List.length_drop, List.length_take]; rfl)) ?_; (with_reducible refine (lex_Lex.calls ((rdOf ByteArray.empty y232 (ji7)) ++ (strOfNums y236)) t245 t246 _ A16.out).mono ?_); rintro e w26 ⟨v247, v249, rfl, ho0, ho1, hb⟩; refine ⟨_, rfl, ?_⟩; have n0_ := Aside0.mk (Kd.R_below (by (with_reducible repeat (first | apply Kd.R_alloc | apply Kd.R_drewN | apply Kd.R_drew)); exact HO234.out) hb); have n1_ := Aside0.mk (Kd.R_below (by (with_reducible repeat (first | apply Kd.R_alloc | apply Kd.R_drewN | apply Kd.R_drew)); exact HO238.out) hb); have n2_ := Aside0.mk (Kd.R_elder' (by (with_reducible repeat (first | apply Kd.R_alloc | apply Kd.R_drewN | apply Kd.R_drew)); exact HO242.out) (Kd.R_base ho0) hb); have n3_ := Aside0.mk (Kd.R_elder' (by (with_reducible repeat (first | apply Kd.R_alloc | apply Kd.R_drewN | apply Kd.R_drew)); exact HO244.out) (Kd.R_base ho1) hb); have n4_ := Aside0.mk (Kd.R_lower (Kd.R_new' ho0 (Kd.R_lt (by (with_reducible repeat (first | apply Kd.R_alloc | apply Kd.R_drewN | apply Kd.R_drew)); exact HO242.out))) (below_size (by repeat (first | (with_reducible first | exact HB.out | apply below_alloc | apply pw_below_drewN | apply below_drew1) | exact HB.out)))); have n5_ := Aside0.mk (Kd.R_lower (Kd.R_new' ho1 (Kd.R_lt (by (with_reducible repeat (first | apply Kd.R_alloc | apply Kd.R_drewN | apply Kd.R_drew)); exact HO244.out))) (below_size (by repeat (first | (with_reducible first | exact HB.out | apply below_alloc | apply pw_below_drewN | apply below_drew1) | exact HB.out)))); have n6_ := Aside0.mk (below_step (by repeat (first | (with_reducible first | exact HB.out | apply below_alloc | apply pw_below_drewN | apply below_drew1) | exact HB.out)) hb); clear HO234; clear HO238; clear HO242; clear HO244; clear HB; have HO234 := n0_; have HO238 := n1_; have HO242 := n2_; have HO244 := n3_; have HO248 := n4_; have HO250 := n5_; have HB := n6_; clear n0_ n1_ n2_ n3_ n4_ n5_ n6_; (try clear hb); (try clear hb2); (try clear hk); (try clear hi); (try clear ho0); (try clear ho1)))
                (try simp only [Act.put, List.setIfInBounds_toArray, List.set_cons_zero, List.set_cons_succ])
                go_cut [79] (fun v79 wc => ∃ (kq : Nat) (x79_16 : Bool), v79 = .bool x79_16 ∧ Aside0 (cupellaw04_LexWords.j0 kq a2 (rdOf ByteArray.empty y232 (ji7)) (strOfNums y236) x79_16 = some r) ∧ Aside0 (kq ≤ k) ∧ Aside0 (Below w.heap.size w wc))
                case first =>
                  have H := HC17.out
                  clear HC17
                  by_cases c27 : (t239.length : Int) = 2
                  · rw [if_pos c27] at H
                    have c27b0 : ((t239.length : Int) == 2) = true := beq_iff_eq.mpr c27
                    have c27b1 : ((t239.length : Int) != 2) = false := bne_eq_false_iff_eq.mpr c27
                    clear c27
                    (first | rw [c27b0] | (simp only [i64_w, i32_w]; rw [c27b0]) | skip)
                    by_cases c28 : 0 < (t239.length : Int)
                    · rw [if_pos c28] at H
                      have c28b0 : decide (0 < (t239.length : Int)) = true := decide_eq_true c28
                      have c28b1 : decide (0 < t239.length) = true := decide_eq_true (by omega)
                      clear c28
                      by_cases c29 : ((rd_T35 t239 0).f0) = 2
                      · rw [if_pos c29] at H
                        have c29b0 : (((rd_T35 t239 0).f0) == 2) = true := beq_iff_eq.mpr c29
                        have c29b1 : (((rd_T35 t239 0).f0) != 2) = false := bne_eq_false_iff_eq.mpr c29
                        clear c29
                        replace H := Option.bind_eq_some_iff.mp H
                        obtain ⟨t252, A300, H⟩ := H
                        replace H : (if t252 = true then (cupellaw04_LexWords.j0 k a2 (rdOf ByteArray.empty y232 (ji7)) (strOfNums y236) true) else (if (t245.length : Int) = 2 then (if 0 < (t245.length : Int) then (if ((rd_T35 t245 0).f0) = 1 then ((lex_Name.f ((rdOf ByteArray.empty y232 (ji7)) ++ (strOfNums y236))).bind fun t254 => (cupellaw04_LexWords.j0 k a2 (rdOf ByteArray.empty y232 (ji7)) (strOfNums y236) (!t254))) else (cupellaw04_LexWords.j0 k a2 (rdOf ByteArray.empty y232 (ji7)) (strOfNums y236) true)) else (none)) else (cupellaw04_LexWords.j0 k a2 (rdOf ByteArray.empty y232 (ji7)) (strOfNums y236) true))) = some r := H
                        have A30 := Aside0.mk A300
                        clear A300
                        by_cases c31 : t252 = true
                        · subst c31
                          have H1 : (cupellaw04_LexWords.j0 k a2 (rdOf ByteArray.empty y232 (ji7)) (strOfNums y236) true) = some r := by rw [if_pos rfl] at H; exact H
                          clear H
                          have H := H1
                          clear H1
                          have H' := Aside0.mk H
                          clear H
                          obtain ⟨Ao32, co32, eo32⟩ := Kd.R_slice HO242.out
                          subst eo32
                          have p251 : 0 ≤ (0 : Int) := (by omega)
                          have q251 : 0 < (t239.length : Int) := of_decide_eq_true (by first | (with_reducible assumption) | assumption)
                          obtain ⟨ad251, e251, hx251_0, hx251_1, hx251_2⟩ := at_T35 (Kd.R_reads' HO242.out).2.2 0 p251 q251
                          cases e251
                          have qi251 : (0 < t239.length) = True := eq_true (by omega)
                          (try rw [show ((0 : Int)).toNat = 0 from rfl] at hx251_0)
                          (try rw [show 0 * 3 = 0 from rfl] at hx251_0)
                          (try rw [Addr.add_zero'] at hx251_0)
                          (try rw [show ((0 : Int)).toNat = 0 from rfl] at hx251_1)
                          (try rw [show 0 * 3 = 0 from rfl] at hx251_1)
                          (try rw [Addr.add_zero'] at hx251_1)
                          (try rw [show ((0 : Int)).toNat = 0 from rfl] at hx251_2)
                          (try rw [show 0 * 3 = 0 from rfl] at hx251_2)
                          (try rw [Addr.add_zero'] at hx251_2)
                          replace p251 := eq_true p251
                          replace q251 := eq_true q251
                          go_wp2_with (first | (go_at_call 14; (with_reducible refine (lex_Name.calls (rdOf ByteArray.empty y232 (ji7)) true _ A30.out).mono ?_); rintro e w33 ⟨rfl, hb⟩; (try clear A30); have n0_ := Aside0.mk (Kd.R_below (by (with_reducible repeat (first | apply Kd.R_alloc | apply Kd.R_drewN | apply Kd.R_drew)); exact HO234.out) hb); have n1_ := Aside0.mk (Kd.R_below (by (with_reducible repeat (first | apply Kd.R_alloc | apply Kd.R_drewN | apply Kd.R_drew)); exact HO238.out) hb); have n2_ := Aside0.mk (Kd.R_below (by (with_reducible repeat (first | apply Kd.R_alloc | apply Kd.R_drewN | apply Kd.R_drew)); exact HO242.out) hb); have n3_ := Aside0.mk (Kd.R_below (by (with_reducible repeat (first | apply Kd.R_alloc | apply Kd.R_drewN | apply Kd.R_drew)); exact HO244.out) hb); have n4_ := Aside0.mk (Kd.R_below (by (with_reducible repeat (first | apply Kd.R_alloc | apply Kd.R_drewN | apply Kd.R_drew)); exact HO248.out) hb); have n5_ := Aside0.mk (Kd.R_below (by (with_reducible repeat (first | apply Kd.R_alloc | apply Kd.R_drewN | apply Kd.R_drew)); exact HO250.out) hb); have n6_ := Aside0.mk (below_step (by repeat (first | (with_reducible first | exact HB.out | apply below_alloc | apply pw_below_drewN | apply below_drew1) | exact HB.out)) hb); clear HO234; clear HO238; clear HO242; clear HO244; clear HO248; clear HO250; clear HB; have HO234 := n0_; have HO238 := n1_; have HO242 := n2_; have HO244 := n3_; have HO248 := n4_; have HO250 := n5_; have HB := n6_; clear n0_ n1_ n2_ n3_ n4_ n5_ n6_; (try clear hb); (try clear hb2); (try clear hk); (try clear hi)))
                          go_meet
                          case rel => exact ⟨_, (true), (by first | rfl | (simp; done) | (simp [*]; done)), H', ⟨by first | omega | exact Nat.le_refl _⟩, ⟨by repeat (first | (with_reducible first | exact HB.out | apply below_alloc | apply pw_below_drewN | apply below_drew1) | exact HB.out)⟩⟩
                        · replace c31 := Bool.eq_false_iff.mpr c31
                          subst c31
                          have H1 : (if (t245.length : Int) = 2 then (if 0 < (t245.length : Int) then (if ((rd_T35 t245 0).f0) = 1 then ((lex_Name.f ((rdOf ByteArray.empty y232 (ji7)) ++ (strOfNums y236))).bind fun t254 => (cupellaw04_LexWords.j0 k a2 (rdOf ByteArray.empty y232 (ji7)) (strOfNums y236) (!t254))) else (cupellaw04_LexWords.j0 k a2 (rdOf ByteArray.empty y232 (ji7)) (strOfNums y236) true)) else (none)) else (cupellaw04_LexWords.j0 k a2 (rdOf ByteArray.empty y232 (ji7)) (strOfNums y236) true)) = some r := by rw [if_neg (show ¬ (false = true) by decide)] at H; exact H
                          clear H
                          have H := H1
                          clear H1
                          by_cases c34 : (t245.length : Int) = 2
                          · rw [if_pos c34] at H
                            have c34b0 : ((t245.length : Int) == 2) = true := beq_iff_eq.mpr c34
                            have c34b1 : ((t245.length : Int) != 2) = false := bne_eq_false_iff_eq.mpr c34
                            clear c34
                            by_cases c35 : 0 < (t245.length : Int)
                            · rw [if_pos c35] at H
                              have c35b0 : decide (0 < (t245.length : Int)) = true := decide_eq_true c35
                              have c35b1 : decide (0 < t245.length) = true := decide_eq_true (by omega)
                              clear c35
                              by_cases c36 : ((rd_T35 t245 0).f0) = 1
                              · rw [if_pos c36] at H
                                have c36b0 : (((rd_T35 t245 0).f0) == 1) = true := beq_iff_eq.mpr c36
                                have c36b1 : (((rd_T35 t245 0).f0) != 1) = false := bne_eq_false_iff_eq.mpr c36
                                clear c36
                                replace H := Option.bind_eq_some_iff.mp H
                                obtain ⟨t254, A370, H⟩ := H
                                replace H : (cupellaw04_LexWords.j0 k a2 (rdOf ByteArray.empty y232 (ji7)) (strOfNums y236) (!t254)) = some r := H
                                have A37 := Aside0.mk A370
                                clear A370
                                have H' := Aside0.mk H
                                clear H
                                obtain ⟨Ao38, co38, eo38⟩ := Kd.R_slice HO242.out
                                subst eo38
                                have p251 : 0 ≤ (0 : Int) := (by omega)
                                have q251 : 0 < (t239.length : Int) := of_decide_eq_true (by first | (with_reducible assumption) | assumption)
                                obtain ⟨ad251, e251, hx251_0, hx251_1, hx251_2⟩ := at_T35 (Kd.R_reads' HO242.out).2.2 0 p251 q251
                                cases e251
                                have qi251 : (0 < t239.length) = True := eq_true (by omega)
                                (try rw [show ((0 : Int)).toNat = 0 from rfl] at hx251_0)
                                (try rw [show 0 * 3 = 0 from rfl] at hx251_0)
                                (try rw [Addr.add_zero'] at hx251_0)
                                (try rw [show ((0 : Int)).toNat = 0 from rfl] at hx251_1)
                                (try rw [show 0 * 3 = 0 from rfl] at hx251_1)
                                (try rw [Addr.add_zero'] at hx251_1)
                                (try rw [show ((0 : Int)).toNat = 0 from rfl] at hx251_2)
                                (try rw [show 0 * 3 = 0 from rfl] at hx251_2)
                                (try rw [Addr.add_zero'] at hx251_2)
                                replace p251 := eq_true p251
                                replace q251 := eq_true q251
                                go_wp2_with (first | (go_at_call 14; (with_reducible refine (lex_Name.calls (rdOf ByteArray.empty y232 (ji7)) false _ A30.out).mono ?_); rintro e w39 ⟨rfl, hb⟩; (try clear A30); have n0_ := Aside0.mk (Kd.R_below (by (with_reducible repeat (first | apply Kd.R_alloc | apply Kd.R_drewN | apply Kd.R_drew)); exact HO234.out) hb); have n1_ := Aside0.mk (Kd.R_below (by (with_reducible repeat (first | apply Kd.R_alloc | apply Kd.R_drewN | apply Kd.R_drew)); exact HO238.out) hb); have n2_ := Aside0.mk (Kd.R_below (by (with_reducible repeat (first | apply Kd.R_alloc | apply Kd.R_drewN | apply Kd.R_drew)); exact HO242.out) hb); have n3_ := Aside0.mk (Kd.R_below (by (with_reducible repeat (first | apply Kd.R_alloc | apply Kd.R_drewN | apply Kd.R_drew)); exact HO244.out) hb); have n4_ := Aside0.mk (Kd.R_below (by (with_reducible repeat (first | apply Kd.R_alloc | apply Kd.R_drewN | apply Kd.R_drew)); exact HO248.out) hb); have n5_ := Aside0.mk (Kd.R_below (by (with_reducible repeat (first | apply Kd.R_alloc | apply Kd.R_drewN | apply Kd.R_drew)); exact HO250.out) hb); have n6_ := Aside0.mk (below_step (by repeat (first | (with_reducible first | exact HB.out | apply below_alloc | apply pw_below_drewN | apply below_drew1) | exact HB.out)) hb); clear HO234; clear HO238; clear HO242; clear HO244; clear HO248; clear HO250; clear HB; have HO234 := n0_; have HO238 := n1_; have HO242 := n2_; have HO244 := n3_; have HO248 := n4_; have HO250 := n5_; have HB := n6_; clear n0_ n1_ n2_ n3_ n4_ n5_ n6_; (try clear hb); (try clear hb2); (try clear hk); (try clear hi); obtain ⟨Ao40, co40, eo40⟩ := Kd.R_slice HO248.out; subst eo40; have p253 : 0 ≤ (0 : Int) := (by omega); have q253 : 0 < (t245.length : Int) := of_decide_eq_true (by first | (with_reducible assumption) | assumption); obtain ⟨ad253, e253, hx253_0, hx253_1, hx253_2⟩ := at_T35 (Kd.R_reads' HO248.out).2.2 0 p253 q253; cases e253; have qi253 : (0 < t245.length) = True := eq_true (by omega); (try rw [show ((0 : Int)).toNat = 0 from rfl] at hx253_0); (try rw [show 0 * 3 = 0 from rfl] at hx253_0); (try rw [Addr.add_zero'] at hx253_0); (try rw [show ((0 : Int)).toNat = 0 from rfl] at hx253_1); (try rw [show 0 * 3 = 0 from rfl] at hx253_1); (try rw [Addr.add_zero'] at hx253_1); (try rw [show ((0 : Int)).toNat = 0 from rfl] at hx253_2); (try rw [show 0 * 3 = 0 from rfl] at hx253_2); (try rw [Addr.add_zero'] at hx253_2); replace p253 := eq_true p253; replace q253 := eq_true q253) | (go_at_call 14; (with_reducible refine (lex_Name.calls ((rdOf ByteArray.empty y232 (ji7)) ++ (strOfNums y236)) t254 _ A37.out).mono ?_); rintro e w41 ⟨rfl, hb⟩; (try clear A37); have n0_ := Aside0.mk (Kd.R_below (by (with_reducible repeat (first | apply Kd.R_alloc | apply Kd.R_drewN | apply Kd.R_drew)); exact HO234.out) hb); have n1_ := Aside0.mk (Kd.R_below (by (with_reducible repeat (first | apply Kd.R_alloc | apply Kd.R_drewN | apply Kd.R_drew)); exact HO238.out) hb); have n2_ := Aside0.mk (Kd.R_below (by (with_reducible repeat (first | apply Kd.R_alloc | apply Kd.R_drewN | apply Kd.R_drew)); exact HO242.out) hb); have n3_ := Aside0.mk (Kd.R_below (by (with_reducible repeat (first | apply Kd.R_alloc | apply Kd.R_drewN | apply Kd.R_drew)); exact HO244.out) hb); have n4_ := Aside0.mk (Kd.R_below (by (with_reducible repeat (first | apply Kd.R_alloc | apply Kd.R_drewN | apply Kd.R_drew)); exact HO248.out) hb); have n5_ := Aside0.mk (Kd.R_below (by (with_reducible repeat (first | apply Kd.R_alloc | apply Kd.R_drewN | apply Kd.R_drew)); exact HO250.out) hb); have n6_ := Aside0.mk (below_step (by repeat (first | (with_reducible first | exact HB.out | apply below_alloc | apply pw_below_drewN | apply below_drew1) | exact HB.out)) hb); clear HO234; clear HO238; clear HO242; clear HO244; clear HO248; clear HO250; clear HB; have HO234 := n0_; have HO238 := n1_; have HO242 := n2_; have HO244 := n3_; have HO248 := n4_; have HO250 := n5_; have HB := n6_; clear n0_ n1_ n2_ n3_ n4_ n5_ n6_; (try clear hb); (try clear hb2); (try clear hk); (try clear hi)))
                                go_meet
                                case rel => exact ⟨_, (!t254), (by first | rfl | (simp; done) | (simp [*]; done)), H', ⟨by first | omega | exact Nat.le_refl _⟩, ⟨by repeat (first | (with_reducible first | exact HB.out | apply below_alloc | apply pw_below_drewN | apply below_drew1) | exact HB.out)⟩⟩
                              · rw [if_neg c36] at H
                                have c36b0 : (((rd_T35 t245 0).f0) == 1) = false := beq_eq_false_iff_ne.mpr c36
                                have c36b1 : (((rd_T35 t245 0).f0) != 1) = true := bne_iff_ne.mpr c36
                                have H' := Aside0.mk H
                                clear H
                                obtain ⟨Ao42, co42, eo42⟩ := Kd.R_slice HO242.out
                                subst eo42
                                have p251 : 0 ≤ (0 : Int) := (by omega)
                                have q251 : 0 < (t239.length : Int) := of_decide_eq_true (by first | (with_reducible assumption) | assumption)
                                obtain ⟨ad251, e251, hx251_0, hx251_1, hx251_2⟩ := at_T35 (Kd.R_reads' HO242.out).2.2 0 p251 q251
                                cases e251
                                have qi251 : (0 < t239.length) = True := eq_true (by omega)
                                (try rw [show ((0 : Int)).toNat = 0 from rfl] at hx251_0)
                                (try rw [show 0 * 3 = 0 from rfl] at hx251_0)
                                (try rw [Addr.add_zero'] at hx251_0)
                                (try rw [show ((0 : Int)).toNat = 0 from rfl] at hx251_1)
                                (try rw [show 0 * 3 = 0 from rfl] at hx251_1)
                                (try rw [Addr.add_zero'] at hx251_1)
                                (try rw [show ((0 : Int)).toNat = 0 from rfl] at hx251_2)
                                (try rw [show 0 * 3 = 0 from rfl] at hx251_2)
                                (try rw [Addr.add_zero'] at hx251_2)
                                replace p251 := eq_true p251
                                replace q251 := eq_true q251
                                go_wp2_with (first | (go_at_call 14; (with_reducible refine (lex_Name.calls (rdOf ByteArray.empty y232 (ji7)) false _ A30.out).mono ?_); rintro e w43 ⟨rfl, hb⟩; (try clear A30); have n0_ := Aside0.mk (Kd.R_below (by (with_reducible repeat (first | apply Kd.R_alloc | apply Kd.R_drewN | apply Kd.R_drew)); exact HO234.out) hb); have n1_ := Aside0.mk (Kd.R_below (by (with_reducible repeat (first | apply Kd.R_alloc | apply Kd.R_drewN | apply Kd.R_drew)); exact HO238.out) hb); have n2_ := Aside0.mk (Kd.R_below (by (with_reducible repeat (first | apply Kd.R_alloc | apply Kd.R_drewN | apply Kd.R_drew)); exact HO242.out) hb); have n3_ := Aside0.mk (Kd.R_below (by (with_reducible repeat (first | apply Kd.R_alloc | apply Kd.R_drewN | apply Kd.R_drew)); exact HO244.out) hb); have n4_ := Aside0.mk (Kd.R_below (by (with_reducible repeat (first | apply Kd.R_alloc | apply Kd.R_drewN | apply Kd.R_drew)); exact HO248.out) hb); have n5_ := Aside0.mk (Kd.R_below (by (with_reducible repeat (first | apply Kd.R_alloc | apply Kd.R_drewN | apply Kd.R_drew)); exact HO250.out) hb); have n6_ := Aside0.mk (below_step (by repeat (first | (with_reducible first | exact HB.out | apply below_alloc | apply pw_below_drewN | apply below_drew1) | exact HB.out)) hb); clear HO234; clear HO238; clear HO242; clear HO244; clear HO248; clear HO250; clear HB; have HO234 := n0_; have HO238 := n1_; have HO242 := n2_; have HO244 := n3_; have HO248 := n4_; have HO250 := n5_; have HB := n6_; clear n0_ n1_ n2_ n3_ n4_ n5_ n6_; (try clear hb); (try clear hb2); (try clear hk); (try clear hi); obtain ⟨Ao44, co44, eo44⟩ := Kd.R_slice HO248.out; subst eo44; have p253 : 0 ≤ (0 : Int) := (by omega); have q253 : 0 < (t245.length : Int) := of_decide_eq_true (by first | (with_reducible assumption) | assumption); obtain ⟨ad253, e253, hx253_0, hx253_1, hx253_2⟩ := at_T35 (Kd.R_reads' HO248.out).2.2 0 p253 q253; cases e253; have qi253 : (0 < t245.length) = True := eq_true (by omega); (try rw [show ((0 : Int)).toNat = 0 from rfl] at hx253_0); (try rw [show 0 * 3 = 0 from rfl] at hx253_0); (try rw [Addr.add_zero'] at hx253_0); (try rw [show ((0 : Int)).toNat = 0 from rfl] at hx253_1); (try rw [show 0 * 3 = 0 from rfl] at hx253_1); (try rw [Addr.add_zero'] at hx253_1); (try rw [show ((0 : Int)).toNat = 0 from rfl] at hx253_2); (try rw [show 0 * 3 = 0 from rfl] at hx253_2); (try rw [Addr.add_zero'] at hx253_2); replace p253 := eq_true p253; replace q253 := eq_true q253))
                                go_meet
                                case rel => exact ⟨_, (true), (by first | rfl | (simp; done) | (simp [*]; done)), H', ⟨by first | omega | exact Nat.le_refl _⟩, ⟨by repeat (first | (with_reducible first | exact HB.out | apply below_alloc | apply pw_below_drewN | apply below_drew1) | exact HB.out)⟩⟩
                            · rw [if_neg c35] at H
                              exact absurd H (by simp)
                          · rw [if_neg c34] at H
                            have c34b0 : ((t245.length : Int) == 2) = false := beq_eq_false_iff_ne.mpr c34
                            have c34b1 : ((t245.length : Int) != 2) = true := bne_iff_ne.mpr c34
                            have H' := Aside0.mk H
                            clear H
                            obtain ⟨Ao45, co45, eo45⟩ := Kd.R_slice HO242.out
                            subst eo45
                            have p251 : 0 ≤ (0 : Int) := (by omega)
                            have q251 : 0 < (t239.length : Int) := of_decide_eq_true (by first | (with_reducible assumption) | assumption)
                            obtain ⟨ad251, e251, hx251_0, hx251_1, hx251_2⟩ := at_T35 (Kd.R_reads' HO242.out).2.2 0 p251 q251
                            cases e251
                            have qi251 : (0 < t239.length) = True := eq_true (by omega)
                            (try rw [show ((0 : Int)).toNat = 0 from rfl] at hx251_0)
                            (try rw [show 0 * 3 = 0 from rfl] at hx251_0)
                            (try rw [Addr.add_zero'] at hx251_0)
                            (try rw [show ((0 : Int)).toNat = 0 from rfl] at hx251_1)
                            (try rw [show 0 * 3 = 0 from rfl] at hx251_1)
                            (try rw [Addr.add_zero'] at hx251_1)
                            (try rw [show ((0 : Int)).toNat = 0 from rfl] at hx251_2)
                            (try rw [show 0 * 3 = 0 from rfl] at hx251_2)
                            (try rw [Addr.add_zero'] at hx251_2)
                            replace p251 := eq_true p251
                            replace q251 := eq_true q251
                            go_wp2_with (first | (go_at_call 14; (with_reducible refine (lex_Name.calls (rdOf ByteArray.empty y232 (ji7)) false _ A30.out).mono ?_); rintro e w46 ⟨rfl, hb⟩; (try clear A30); have n0_ := Aside0.mk (Kd.R_below (by (with_reducible repeat (first | apply Kd.R_alloc | apply Kd.R_drewN | apply Kd.R_drew)); exact HO234.out) hb); have n1_ := Aside0.mk (Kd.R_below (by (with_reducible repeat (first | apply Kd.R_alloc | apply Kd.R_drewN | apply Kd.R_drew)); exact HO238.out) hb); have n2_ := Aside0.mk (Kd.R_below (by (with_reducible repeat (first | apply Kd.R_alloc | apply Kd.R_drewN | apply Kd.R_drew)); exact HO242.out) hb); have n3_ := Aside0.mk (Kd.R_below (by (with_reducible repeat (first | apply Kd.R_alloc | apply Kd.R_drewN | apply Kd.R_drew)); exact HO244.out) hb); have n4_ := Aside0.mk (Kd.R_below (by (with_reducible repeat (first | apply Kd.R_alloc | apply Kd.R_drewN | apply Kd.R_drew)); exact HO248.out) hb); have n5_ := Aside0.mk (Kd.R_below (by (with_reducible repeat (first | apply Kd.R_alloc | apply Kd.R_drewN | apply Kd.R_drew)); exact HO250.out) hb); have n6_ := Aside0.mk (below_step (by repeat (first | (with_reducible first | exact HB.out | apply below_alloc | apply pw_below_drewN | apply below_drew1) | exact HB.out)) hb); clear HO234; clear HO238; clear HO242; clear HO244; clear HO248; clear HO250; clear HB; have HO234 := n0_; have HO238 := n1_; have HO242 := n2_; have HO244 := n3_; have HO248 := n4_; have HO250 := n5_; have HB := n6_; clear n0_ n1_ n2_ n3_ n4_ n5_ n6_; (try clear hb); (try clear hb2); (try clear hk); (try clear hi); obtain ⟨Ao47, co47, eo47⟩ := Kd.R_slice HO248.out; subst eo47))
                            go_meet
                            case rel => exact ⟨_, (true), (by first | rfl | (simp; done) | (simp [*]; done)), H', ⟨by first | omega | exact Nat.le_refl _⟩, ⟨by repeat (first | (with_reducible first | exact HB.out | apply below_alloc | apply pw_below_drewN | apply below_drew1) | exact HB.out)⟩⟩
                      · rw [if_neg c29] at H
                        have c29b0 : (((rd_T35 t239 0).f0) == 2) = false := beq_eq_false_iff_ne.mpr c29
                        have c29b1 : (((rd_T35 t239 0).f0) != 2) = true := bne_iff_ne.mpr c29
                        have H' := Aside0.mk H
                        clear H
                        obtain ⟨Ao48, co48, eo48⟩ := Kd.R_slice HO242.out
                        subst eo48
                        have p251 : 0 ≤ (0 : Int) := (by omega)
                        have q251 : 0 < (t239.length : Int) := of_decide_eq_true (by first | (with_reducible assumption) | assumption)
                        obtain ⟨ad251, e251, hx251_0, hx251_1, hx251_2⟩ := at_T35 (Kd.R_reads' HO242.out).2.2 0 p251 q251
                        cases e251
                        have qi251 : (0 < t239.length) = True := eq_true (by omega)
                        (try rw [show ((0 : Int)).toNat = 0 from rfl] at hx251_0)
                        (try rw [show 0 * 3 = 0 from rfl] at hx251_0)
                        (try rw [Addr.add_zero'] at hx251_0)
                        (try rw [show ((0 : Int)).toNat = 0 from rfl] at hx251_1)
                        (try rw [show 0 * 3 = 0 from rfl] at hx251_1)
                        (try rw [Addr.add_zero'] at hx251_1)
                        (try rw [show ((0 : Int)).toNat = 0 from rfl] at hx251_2)
                        (try rw [show 0 * 3 = 0 from rfl] at hx251_2)
                        (try rw [Addr.add_zero'] at hx251_2)
                        replace p251 := eq_true p251
                        replace q251 := eq_true q251
                        go_wp2
                        go_meet
                        case rel => exact ⟨_, (true), (by first | rfl | (simp; done) | (simp [*]; done)), H', ⟨by first | omega | exact Nat.le_refl _⟩, ⟨by repeat (first | (with_reducible first | exact HB.out | apply below_alloc | apply pw_below_drewN | apply below_drew1) | exact HB.out)⟩⟩
                    · rw [if_neg c28] at H
                      exact absurd H (by simp)
                  · rw [if_neg c27] at H
                    have c27b0 : ((t239.length : Int) == 2) = false := beq_eq_false_iff_ne.mpr c27
                    have c27b1 : ((t239.length : Int) != 2) = true := bne_iff_ne.mpr c27
                    (first | rw [c27b0] | (simp only [i64_w, i32_w]; rw [c27b0]) | skip)
                    have H' := Aside0.mk H
                    clear H
                    obtain ⟨Ao49, co49, eo49⟩ := Kd.R_slice HO242.out
                    subst eo49
                    go_wp2
                    go_meet
                    case rel => exact ⟨_, (true), (by first | rfl | (simp; done) | (simp [*]; done)), H', ⟨by first | omega | exact Nat.le_refl _⟩, ⟨by repeat (first | (with_reducible first | exact HB.out | apply below_alloc | apply pw_below_drewN | apply below_drew1) | exact HB.out)⟩⟩
                case rest =>
                  clear HC17
                  try clear c1
                  try clear p1
                  try clear q1
                  try clear hx1
                  try clear c2
                  try clear p2
                  try clear q2
                  try clear hx2
                  try clear hcv2
                  try clear qi2
                  try clear c3
                  try clear c5
                  try clear c6
                  try clear c6b0
                  try clear c6b1
                  try clear c6b2
                  try clear p6
                  try clear c8
                  try clear c8b0
                  try clear c9
                  try clear c9b0
                  try clear c10
                  try clear c11
                  try clear c11b0
                  try clear c12
                  try clear c12b0
                  try clear p13
                  try clear q13
                  try clear hx13
                  try clear c15
                  try clear c15b0
                  try clear c15b1
                  try clear c15b2
                  try clear p23
                  try clear q23
                  try clear hx23
                  try clear hcv24
                  try clear p25
                  try clear q25
                  try clear hx25
                  try clear qi25
                  try clear c27
                  try clear c27b0
                  try clear c27b1
                  try clear c28
                  try clear c28b0
                  try clear c28b1
                  try clear c29
                  try clear c29b0
                  try clear c29b1
                  try clear c31
                  try clear c34
                  try clear c34b0
                  try clear c34b1
                  try clear c35
                  try clear c35b0
                  try clear c35b1
                  try clear c36
                  try clear c36b0
                  try clear c36b1
                  try clear hx235_0
                  try clear hx251_0
                  try clear hx251_1
                  try clear hx251_2
                  try clear hx253_0
                  try clear hx253_1
                  try clear hx253_2
                  try clear p13
                  try clear p235
                  try clear p251
                  try clear p253
                  try clear q13
                  try clear q235
                  try clear q251
                  try clear q253
                  obtain ⟨kq, x79_16, rfl, HA, HJ16, HB⟩ := hcut
                  cases kq with
                  | zero => exact absurd HA.out (by simp [cupellaw04_LexWords.j0])
                  | succ kj16 =>
                    have H := HA.out
                    clear HA
                    simp only [cupellaw04_LexWords.j0] at H
                    by_cases c50 : x79_16 = true
                    · subst c50
                      have H1 : (some false) = some r := by rw [if_pos rfl] at H; exact H
                      clear H
                      have H := H1
                      clear H1
                      obtain rfl := Option.some.inj H
                      go_wp2
                      go_ret
                      exact ⟨by first | rfl | (simp [errW_none, errW_some] <;> rfl) | (simp only [← hji7, ← hji10]; first | rfl | (simp [errW_none, errW_some] <;> rfl)) | (simp [*, errW_none, errW_some] <;> rfl), by repeat (first | (with_reducible first | exact HB.out | apply below_alloc | apply pw_below_drewN | apply below_drew1) | exact HB.out)⟩
                    · replace c50 := Bool.eq_false_iff.mpr c50
                      subst c50
                      have H1 : (cupellaw04_LexWords.l0 kj16 (rdOf ByteArray.empty y232 (ji7)) (strOfNums y236) (⟨#[]⟩ : ByteArray) (Int.tmod (wrap64 (a2)) 30) 0) = some r := by rw [if_neg (show ¬ (false = true) by decide)] at H; exact H
                      clear H
                      have H := H1
                      clear H1
                      have H' := Aside0.mk H
                      clear H
                      go_wp2
                      go_loopg [14, 16] kj16 (fun kq v14 v16 w' => ∃ (x14_2 : ByteArray) (x16_2 : Int), v14 = .string x14_2 ∧ v16 = .int .i64 x16_2 ∧ Aside0 (cupellaw04_LexWords.l0 kq (rdOf ByteArray.empty y232 (ji7)) (strOfNums y236) x14_2 (Int.tmod (wrap64 (a2)) 30) x16_2 = some r) ∧ Aside0 (kq ≤ kj16) ∧ Aside0 (Below w.heap.size w w'))
                      case atStart => exact ⟨((⟨#[]⟩ : ByteArray)), (0), (by first | rfl | (simp; done) | (simp [*]; done)), (by first | rfl | (simp; done) | (simp [*]; done)), H', ⟨Nat.le_refl _⟩, ⟨by repeat (first | (with_reducible first | exact HB.out | apply below_alloc | apply pw_below_drewN | apply below_drew1) | exact HB.out)⟩⟩
                      case round =>
                        clear H'
                        try clear c1
                        try clear p1
                        try clear q1
                        try clear hx1
                        try clear c2
                        try clear p2
                        try clear q2
                        try clear hx2
                        try clear hcv2
                        try clear qi2
                        try clear c3
                        try clear c5
                        try clear c6
                        try clear c6b0
                        try clear c6b1
                        try clear c6b2
                        try clear p6
                        try clear c8
                        try clear c8b0
                        try clear c9
                        try clear c9b0
                        try clear c10
                        try clear c11
                        try clear c11b0
                        try clear c12
                        try clear c12b0
                        try clear p13
                        try clear q13
                        try clear hx13
                        try clear c15
                        try clear c15b0
                        try clear c15b1
                        try clear c15b2
                        try clear p23
                        try clear q23
                        try clear hx23
                        try clear hcv24
                        try clear p25
                        try clear q25
                        try clear hx25
                        try clear qi25
                        try clear c27
                        try clear c27b0
                        try clear c27b1
                        try clear c28
                        try clear c28b0
                        try clear c28b1
                        try clear c29
                        try clear c29b0
                        try clear c29b1
                        try clear c31
                        try clear c34
                        try clear c34b0
                        try clear c34b1
                        try clear c35
                        try clear c35b0
                        try clear c35b1
                        try clear c36
                        try clear c36b0
                        try clear c36b1
                        try clear c50
                        try clear hx235_0
                        try clear hx251_0
                        try clear hx251_1
                        try clear hx251_2
                        try clear hx253_0
                        try clear hx253_1
                        try clear hx253_2
                        try clear p1
                        try clear p13
                        try clear p2
                        try clear p23
                        try clear p235
                        try clear p25
                        try clear p251
                        try clear p253
                        try clear p6
                        try clear q1
                        try clear q13
                        try clear q2
                        try clear q23
                        try clear q235
                        try clear q25
                        try clear q251
                        try clear q253
                        obtain ⟨x14_2, x16_2, rfl, rfl, HA, HK2, HB⟩ := hrel
                        cases gk with
                        | zero => exact absurd HA.out (by simp [cupellaw04_LexWords.l0])
                        | succ k2 =>
                          have H := HA.out
                          clear HA
                          simp only [cupellaw04_LexWords.l0] at H
                          by_cases c51 : x16_2 < (Int.tmod (wrap64 (a2)) 30)
                          · rw [if_pos c51] at H
                            have c51b0 : decide (x16_2 < (Int.tmod (wrap64 (a2)) 30)) = true := decide_eq_true c51
                            clear c51
                            by_cases c52 : x14_2.size + (rdOf ByteArray.empty y232 (ji7)).size ≤ 9223372036854775807
                            · rw [if_pos c52] at H
                              have c52b0 := eq_true c52
                              have c52b1 : decide (x14_2.size + (rdOf ByteArray.empty y232 (ji7)).size ≤ 9223372036854775807) = true := decide_eq_true c52
                              try have c52b2 : (9223372036854775807 < x14_2.size + (rdOf ByteArray.empty y232 (ji7)).size) = False := eq_false (Nat.not_lt.2 c52)
                              by_cases c53 : (x14_2 ++ (rdOf ByteArray.empty y232 (ji7))).size + (strOfNums y236).size ≤ 9223372036854775807
                              · rw [if_pos c53] at H
                                have c53b0 := eq_true c53
                                have c53b1 : decide ((x14_2 ++ (rdOf ByteArray.empty y232 (ji7))).size + (strOfNums y236).size ≤ 9223372036854775807) = true := decide_eq_true c53
                                try have c53b2 : (9223372036854775807 < (x14_2 ++ (rdOf ByteArray.empty y232 (ji7))).size + (strOfNums y236).size) = False := eq_false (Nat.not_lt.2 c53)
                                by_cases c54 : ((x14_2 ++ (rdOf ByteArray.empty y232 (ji7))) ++ (strOfNums y236)).size + 1 ≤ 9223372036854775807
                                · rw [if_pos c54] at H
                                  have c54b0 := eq_true c54
                                  have c54b9 := eq_false (Nat.not_lt.2 c54)
                                  try simp only [ByteArray.size_append] at c54b9
                                  have c54b1 : decide (((x14_2 ++ (rdOf ByteArray.empty y232 (ji7))) ++ (strOfNums y236)).size + 1 ≤ 9223372036854775807) = true := decide_eq_true c54
                                  try have c54b2 : (9223372036854775807 < ((x14_2 ++ (rdOf ByteArray.empty y232 (ji7))) ++ (strOfNums y236)).size + 1) = False := eq_false (Nat.not_lt.2 c54)
                                  have H' := Aside0.mk H
                                  clear H
                                  go_wp2
                                  go_roundg k2
                                  case measure => have := HJ16.out; have := HK2.out; omega
                                  case rel => exact ⟨(((x14_2 ++ (rdOf ByteArray.empty y232 (ji7))) ++ (strOfNums y236)) ++ (⟨#[32]⟩ : ByteArray)), (wrap64 (x16_2 + 1)), (by first | rfl | (simp; done) | (simp only [← hji7] <;> (first | rfl | simp)) | (simp [*]; done)), (by first | rfl | (simp; done) | (simp [*]; done)), H', ⟨by have := HJ16.out; have := HK2.out; omega⟩, ⟨by repeat (first | (with_reducible first | exact HB.out | apply below_alloc | apply pw_below_drewN | apply below_drew1) | exact HB.out)⟩⟩
                                · rw [if_neg c54] at H
                                  exact absurd H (by simp)
                              · rw [if_neg c53] at H
                                exact absurd H (by simp)
                            · rw [if_neg c52] at H
                              exact absurd H (by simp)
                          · rw [if_neg c51] at H
                            have c51b0 : decide (x16_2 < (Int.tmod (wrap64 (a2)) 30)) = false := decide_eq_false c51
                            clear c51
                            replace H := Option.bind_eq_some_iff.mp H
                            obtain ⟨⟨t255, t256⟩, A550, H⟩ := H
                            replace H : (if (t255.length : Int) = (wrap64 ((Int.tmod (wrap64 (a2)) 30) + 1)) then (some ((t256.length : Int) == 0)) else (some false)) = some r := H
                            have A55 := Aside0.mk A550
                            clear A550
                            by_cases c56 : (t255.length : Int) = (wrap64 ((Int.tmod (wrap64 (a2)) 30) + 1))
                            · rw [if_pos c56] at H
                              have c56b0 : ((t255.length : Int) == (wrap64 ((Int.tmod (wrap64 (a2)) 30) + 1))) = true := beq_iff_eq.mpr c56
                              have c56b1 : ((t255.length : Int) != (wrap64 ((Int.tmod (wrap64 (a2)) 30) + 1))) = false := bne_eq_false_iff_eq.mpr c56
                              clear c56
                              obtain rfl := Option.some.inj H
                              go_wp2_with (first | ((with_reducible refine gate_callee (f := 10) rfl ?_); refine goesL_ (some 96) rfl rfl Try.func10 (by kernel_rfl) rfl #[.string x14_2] rfl (by (try simp only [List.map_toArray, List.map_cons, List.map_nil]); first | done | rfl | (simp only [List.length_drop, List.length_take]; rfl)) ?_; (with_reducible refine (lex_Lex.calls x14_2 t255 t256 _ A55.out).mono ?_); rintro e w57 ⟨v257, v259, rfl, ho0, ho1, hb⟩; refine ⟨_, rfl, ?_⟩; have n0_ := Aside0.mk (Kd.R_lower ho0 (below_size (by repeat (first | (with_reducible first | exact HB.out | apply below_alloc | apply pw_below_drewN | apply below_drew1) | exact HB.out)))); have n1_ := Aside0.mk (Kd.R_lower ho1 (below_size (by repeat (first | (with_reducible first | exact HB.out | apply below_alloc | apply pw_below_drewN | apply below_drew1) | exact HB.out)))); have n2_ := Aside0.mk (below_step (by repeat (first | (with_reducible first | exact HB.out | apply below_alloc | apply pw_below_drewN | apply below_drew1) | exact HB.out)) hb); clear HB; have HO258 := n0_; have HO260 := n1_; have HB := n2_; clear n0_ n1_ n2_; (try clear hb); (try clear hb2); (try clear hk); (try clear hi); (try clear ho0); (try clear ho1); obtain ⟨Ao58, co58, eo58⟩ := Kd.R_slice HO258.out; subst eo58; obtain ⟨Ao59, co59, eo59⟩ := Kd.R_slice HO260.out; subst eo59))
                              go_ret
                              exact ⟨by first | rfl | (simp [errW_none, errW_some] <;> rfl) | (simp only [← hji7, ← hji10]; first | rfl | (simp [errW_none, errW_some] <;> rfl)) | (simp [*, errW_none, errW_some] <;> rfl), by repeat (first | (with_reducible first | exact HB.out | apply below_alloc | apply pw_below_drewN | apply below_drew1) | exact HB.out)⟩
                            · rw [if_neg c56] at H
                              have c56b0 : ((t255.length : Int) == (wrap64 ((Int.tmod (wrap64 (a2)) 30) + 1))) = false := beq_eq_false_iff_ne.mpr c56
                              have c56b1 : ((t255.length : Int) != (wrap64 ((Int.tmod (wrap64 (a2)) 30) + 1))) = true := bne_iff_ne.mpr c56
                              obtain rfl := Option.some.inj H
                              go_wp2_with (first | ((with_reducible refine gate_callee (f := 10) rfl ?_); refine goesL_ (some 96) rfl rfl Try.func10 (by kernel_rfl) rfl #[.string x14_2] rfl (by (try simp only [List.map_toArray, List.map_cons, List.map_nil]); first | done | rfl | (simp only [List.length_drop, List.length_take]; rfl)) ?_; (with_reducible refine (lex_Lex.calls x14_2 t255 t256 _ A55.out).mono ?_); rintro e w60 ⟨v257, v259, rfl, ho0, ho1, hb⟩; refine ⟨_, rfl, ?_⟩; have n0_ := Aside0.mk (Kd.R_lower ho0 (below_size (by repeat (first | (with_reducible first | exact HB.out | apply below_alloc | apply pw_below_drewN | apply below_drew1) | exact HB.out)))); have n1_ := Aside0.mk (Kd.R_lower ho1 (below_size (by repeat (first | (with_reducible first | exact HB.out | apply below_alloc | apply pw_below_drewN | apply below_drew1) | exact HB.out)))); have n2_ := Aside0.mk (below_step (by repeat (first | (with_reducible first | exact HB.out | apply below_alloc | apply pw_below_drewN | apply below_drew1) | exact HB.out)) hb); clear HB; have HO258 := n0_; have HO260 := n1_; have HB := n2_; clear n0_ n1_ n2_; (try clear hb); (try clear hb2); (try clear hk); (try clear hi); (try clear ho0); (try clear ho1); obtain ⟨Ao61, co61, eo61⟩ := Kd.R_slice HO258.out; subst eo61))
                              go_ret
                              exact ⟨by first | rfl | (simp [errW_none, errW_some] <;> rfl) | (simp only [← hji7, ← hji10]; first | rfl | (simp [errW_none, errW_some] <;> rfl)) | (simp [*, errW_none, errW_some] <;> rfl), by repeat (first | (with_reducible first | exact HB.out | apply below_alloc | apply pw_below_drewN | apply below_drew1) | exact HB.out)⟩
              · rw [if_neg c15] at H
                exact absurd H (by simp)
            · rw [if_neg c12] at H
              exact absurd H (by simp)
          · rw [if_neg c11] at H
            exact absurd H (by simp)
        · rw [if_neg c9] at H
          exact absurd H (by simp)
      · rw [if_neg c8] at H
        exact absurd H (by simp)
  · replace c5 := Bool.eq_false_iff.mpr c5
    subst c5
    have H1 : (some false) = some r := by rw [if_neg (show ¬ (false = true) by decide)] at H; exact H
    clear H
    have H := H1
    clear H1
    obtain rfl := Option.some.inj H
    go_enter Try.func5, Try.ntmps5
    go_wp2_with (first | ((with_reducible refine gate_callee (f := 9) rfl ?_); refine goesL_ (some 19) rfl rfl Try.func9 (by kernel_rfl) rfl #[] rfl (by (try simp only [List.map_toArray, List.map_cons, List.map_nil]); first | done | rfl | (simp only [List.length_drop, List.length_take]; rfl)) ?_; (with_reducible refine (cupellaw04_alive.calls  false _ A4.out).mono ?_); rintro e w62 ⟨rfl, hb⟩; refine ⟨_, rfl, ?_⟩; have n0_ := Aside0.mk (below_step (by repeat (first | (with_reducible first | exact HB.out | apply below_alloc | apply pw_below_drewN | apply below_drew1) | exact HB.out)) hb); clear HB; have HB := n0_; clear n0_; (try clear hb); (try clear hb2); (try clear hk); (try clear hi)))
    go_ret
    exact ⟨by first | rfl | (simp [errW_none, errW_some] <;> rfl) | (simp [*, errW_none, errW_some] <;> rfl), by repeat (first | (with_reducible first | exact HB.out | apply below_alloc | apply pw_below_drewN | apply below_drew1) | exact HB.out)⟩

/-- THE ONE PURE STATEMENT of cupellaw04_LexWords: yours. -/
def cupellaw04_LexWords.Pure : Prop := ∀ (a0 : Int) (a1 : Int) (a2 : Int), (Lit.int .u8 a0).wf = true → (Lit.int .u8 a1).wf = true → (Lit.int .u8 a2).wf = true → ∃ k, cupellaw04_LexWords.f k a0 a1 a2 = some true
theorem cupellaw04_LexWords.walk (P : cupellaw04_LexWords.Pure) (a0 : Int) (a1 : Int) (a2 : Int) (w : World) (w0 : (Lit.int .u8 a0).wf = true) (w1 : (Lit.int .u8 a1).wf = true) (w2 : (Lit.int .u8 a2).wf = true) :
    Calls Try.prog 5 #[.int .u8 a0, .int .u8 a1, .int .u8 a2] w fun e w' => e = .returned (.bool true) ∧ Below w.heap.size w w' := by
  obtain ⟨k, h⟩ := P a0 a1 a2 w0 w1 w2
  refine (cupellaw04_LexWords.calls k a0 a1 a2 true w h).mono ?_
  rintro e w' ⟨rfl, hd⟩
  exact ⟨rfl, hd⟩

-- NOT PRINTED: function 21 (lex_Tok)

end Go.Proofs.Ytmbbebdpmffihaa.PA
