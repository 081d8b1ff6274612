-- Written by a program of this session (wip/xprint.py over the kit's printer). Lean checks it.
import Derived.Test.YteinhpfjlfeaaaaDoorPAx0
import Derived.Test.YteinhpfjlfeaaaaDoorPAx4
namespace Go.Proofs.YteinhpfjlfeaaaaDoor.PA
open Go.RowKit Go.Proofs.YteinhpfjlfeaaaaDoorW.PrintWords Go.Proofs.YteinhpfjlfeaaaaDoorW.PrintLast Go.Proofs.YteinhpfjlfeaaaaDoorW.PrintMore
attribute [local go_sem] max2_int min2_int max_two min_two max_three min_three max_four min_four   -- for this text's walks alone
set_option linter.unusedVariables false
set_option linter.unusedSimpArgs false

/-! ### cupelref19_Place: function 14 -/
mutual
def cupelref19_Place.l0 : Nat → ByteArray → Int → Int → Int → Int → Option (Int × Int)
  | 0, _, _, _, _, _ => none
  | k + 1, x0, x1, x6, x7, x8 => if x8 < (x0.size : Int) then (cupelref19_Place.j1 k x0 x1 x6 x7 x8 (decide (x8 < x1))) else (cupelref19_Place.j1 k x0 x1 x6 x7 x8 false)
def cupelref19_Place.j1 : Nat → ByteArray → Int → Int → Int → Int → Bool → Option (Int × Int)
  | 0, _, _, _, _, _, _ => none
  | k + 1, x0, x1, x6, x7, x8, x17 => if x17 = true then (if 0 ≤ x8 then (if x8 < (x0.size : Int) then (if (bt x0 x8) = 10 then (cupelref19_Place.l0 k x0 x1 (wrap64 (x6 + 1)) 1 (wrap64 (x8 + 1))) else (cupelref19_Place.l0 k x0 x1 x6 (wrap64 (x7 + 1)) (wrap64 (x8 + 1)))) else (none)) else (none)) else (some (x6, x7))
end
def cupelref19_Place.f (k : Nat) (a0 : ByteArray) (a1 : Int) : Option (Int × Int) := cupelref19_Place.l0 k a0 a1 1 1 0
theorem cupelref19_Place.mono_l : ∀ k, (∀ y0 y1 y2 y3 y4, LeO (cupelref19_Place.l0 k y0 y1 y2 y3 y4) (cupelref19_Place.l0 (k + 1) y0 y1 y2 y3 y4)) ∧ (∀ y0 y1 y2 y3 y4 y5, LeO (cupelref19_Place.j1 k y0 y1 y2 y3 y4 y5) (cupelref19_Place.j1 (k + 1) y0 y1 y2 y3 y4 y5))
  | 0 => ⟨fun _ _ _ _ _ r h => by simp [cupelref19_Place.l0] at h, fun _ _ _ _ _ _ r h => by simp [cupelref19_Place.j1] at h⟩
  | k + 1 => by
    obtain ⟨ih0, ih1⟩ := cupelref19_Place.mono_l k
    refine ⟨?_, ?_⟩
    · intro y0 y1 y2 y3 y4
      unfold cupelref19_Place.l0
      repeat' first
      | (with_reducible exact ih0 _ _ _ _ _)
      | (with_reducible exact ih1 _ _ _ _ _ _)
      | (with_reducible exact LeO.refl _)
      | (with_reducible exact LeO.none _)
      | (with_reducible refine LeO.ite ?_ ?_)
      | (with_reducible refine LeO.bind ?_ (fun _ => ?_))
      | exact ih0 _ _ _ _ _
      | exact ih1 _ _ _ _ _ _
      | exact LeO.none _
      | refine LeO.ite ?_ ?_
      | refine LeO.bind ?_ (fun _ => ?_)
    · intro y0 y1 y2 y3 y4 y5
      unfold cupelref19_Place.j1
      repeat' first
      | (with_reducible exact ih0 _ _ _ _ _)
      | (with_reducible exact ih1 _ _ _ _ _ _)
      | (with_reducible exact LeO.refl _)
      | (with_reducible exact LeO.none _)
      | (with_reducible refine LeO.ite ?_ ?_)
      | (with_reducible refine LeO.bind ?_ (fun _ => ?_))
      | exact ih0 _ _ _ _ _
      | exact ih1 _ _ _ _ _ _
      | exact LeO.none _
      | refine LeO.ite ?_ ?_
      | refine LeO.bind ?_ (fun _ => ?_)
theorem cupelref19_Place.mono : ∀ a0 a1 k, LeO (cupelref19_Place.f k a0 a1) (cupelref19_Place.f (k + 1) a0 a1) := by
  intro a0 a1 k
  obtain ⟨ih0, ih1⟩ := cupelref19_Place.mono_l k
  unfold cupelref19_Place.f
  repeat' first
      | (with_reducible exact ih0 _ _ _ _ _)
      | (with_reducible exact ih1 _ _ _ _ _ _)
      | (with_reducible exact LeO.refl _)
      | (with_reducible exact LeO.none _)
      | (with_reducible refine LeO.ite ?_ ?_)
      | (with_reducible refine LeO.bind ?_ (fun _ => ?_))
      | exact ih0 _ _ _ _ _
      | exact ih1 _ _ _ _ _ _
      | exact LeO.none _
      | refine LeO.ite ?_ ?_
      | refine LeO.bind ?_ (fun _ => ?_)
set_option maxHeartbeats 8000000 in
set_option maxRecDepth 100000 in
theorem cupelref19_Place.calls (k : Nat) (a0 : ByteArray) (a1 : Int) (r1 : Int) (r2 : Int) (w : World) (h : cupelref19_Place.f k a0 a1 = some (r1, r2)) :
    Calls Tryd.prog 14 #[.string a0, .int .i64 a1] w fun e w' => e = .returned (.tuple #[.int .i64 r1, .int .i64 r2]) ∧ Drawn0 w w' := by
  have H : (cupelref19_Place.l0 k a0 a1 1 1 0) = some (r1, r2) := h
  clear h
  have H' := Aside0.mk H
  clear H
  go_enter Tryd.func14, Tryd.ntmps14
  go_wp2
  go_loopg [6, 7, 8] k (fun kq v6 v7 v8 w' => ∃ (x6_1 : Int) (x7_1 : Int) (x8_1 : Int), v6 = .int .i64 x6_1 ∧ v7 = .int .i64 x7_1 ∧ v8 = .int .i64 x8_1 ∧ Aside0 (cupelref19_Place.l0 kq a0 a1 x6_1 x7_1 x8_1 = some (r1, r2)) ∧ Aside0 (kq ≤ k) ∧ Drawn0 w w')
  case atStart => exact ⟨(1), (1), (0), (by first | rfl | (simp; done) | (simp [*]; done)), (by first | rfl | (simp; done) | (simp [*]; done)), (by first | rfl | (simp; done) | (simp [*]; done)), H', ⟨Nat.le_refl _⟩, by repeat (first | exact Drawn0.refl _ | apply Drawn0.step)⟩
  case round =>
    clear H'
    try clear c1
    try clear p2
    obtain ⟨x6_1, x7_1, x8_1, rfl, rfl, rfl, HA, HK1, ⟨m1, rfl⟩⟩ := hrel
    cases gk with
    | zero => exact absurd HA.out (by simp [cupelref19_Place.l0])
    | succ k1 =>
      have H := HA.out
      clear HA
      simp only [cupelref19_Place.l0] at H
      have HC3 := Aside0.mk H
      clear H
      go_upto_region 3 with (fail)
      go_cut [17] (fun v17 wc => ∃ (kq : Nat) (x17_2 : Bool), v17 = .bool x17_2 ∧ Aside0 (cupelref19_Place.j1 kq a0 a1 x6_1 x7_1 x8_1 x17_2 = some (r1, r2)) ∧ Aside0 (kq ≤ k1) ∧ Drawn0 w wc)
      case first =>
        have H := HC3.out
        clear HC3
        by_cases c4 : x8_1 < (a0.size : Int)
        · rw [if_pos c4] at H
          have c4b0 : decide (x8_1 < (a0.size : Int)) = true := decide_eq_true c4
          clear c4
          (first | rw [c4b0] | (simp only [i64_w, i32_w]; rw [c4b0]) | skip)
          have H' := Aside0.mk H
          clear H
          go_wp2
          go_meet
          case rel => exact ⟨_, (decide (x8_1 < a1)), (by first | rfl | (simp; done) | (simp [*]; done)), H', ⟨by have := HK1.out; first | omega | exact Nat.le_refl _⟩, by repeat (first | exact Drawn0.refl _ | apply Drawn0.step)⟩
        · rw [if_neg c4] at H
          have c4b0 : decide (x8_1 < (a0.size : Int)) = false := decide_eq_false c4
          clear c4
          (first | rw [c4b0] | (simp only [i64_w, i32_w]; rw [c4b0]) | skip)
          have H' := Aside0.mk H
          clear H
          go_wp2
          go_meet
          case rel => exact ⟨_, (false), (by first | rfl | (simp; done) | (simp [*]; done)), H', ⟨by have := HK1.out; first | omega | exact Nat.le_refl _⟩, by repeat (first | exact Drawn0.refl _ | apply Drawn0.step)⟩
      case rest =>
        clear HC3
        try clear c1
        try clear p2
        try clear c4
        try clear c4b0
        try clear p2
        obtain ⟨kq, x17_2, rfl, HA, HJ2, ⟨mc2, rfl⟩⟩ := hcut
        cases kq with
        | zero => exact absurd HA.out (by simp [cupelref19_Place.j1])
        | succ kj2 =>
          have H := HA.out
          clear HA
          simp only [cupelref19_Place.j1] at H
          by_cases c5 : x17_2 = true
          · subst c5
            have H1 : (if 0 ≤ x8_1 then (if x8_1 < (a0.size : Int) then (if (bt a0 x8_1) = 10 then (cupelref19_Place.l0 kj2 a0 a1 (wrap64 (x6_1 + 1)) 1 (wrap64 (x8_1 + 1))) else (cupelref19_Place.l0 kj2 a0 a1 x6_1 (wrap64 (x7_1 + 1)) (wrap64 (x8_1 + 1)))) else (none)) else (none)) = some (r1, r2) := by rw [if_pos rfl] at H; exact H
            clear H
            have H := H1
            clear H1
            by_cases c6 : 0 ≤ x8_1
            · rw [if_pos c6] at H
              have c6b0 : decide (0 ≤ x8_1) = true := decide_eq_true c6
              clear c6
              by_cases c7 : x8_1 < (a0.size : Int)
              · rw [if_pos c7] at H
                have c7b0 : decide (x8_1 < (a0.size : Int)) = true := decide_eq_true c7
                clear c7
                by_cases c9 : (bt a0 x8_1) = 10
                · rw [if_pos c9] at H
                  have c9b0 : ((bt a0 x8_1) == 10) = true := beq_iff_eq.mpr c9
                  have c9b1 : ((bt a0 x8_1) != 10) = false := bne_eq_false_iff_eq.mpr c9
                  clear c9
                  have H' := Aside0.mk H
                  clear H
                  have p8 : 0 ≤ (x8_1 : Int) := of_decide_eq_true (by first | (with_reducible assumption) | assumption)
                  have q8 : x8_1 < (a0.size : Int) := of_decide_eq_true (by first | (with_reducible assumption) | assumption)
                  have hx8 := bt_at a0 x8_1
                  replace p8 := eq_true p8
                  replace q8 := eq_true q8
                  go_wp2
                  go_roundg kj2
                  case measure => have := HK1.out; have := HJ2.out; omega
                  case rel => exact ⟨(wrap64 (x6_1 + 1)), (1), (wrap64 (x8_1 + 1)), (by first | rfl | (simp; done) | (simp [*]; done)), (by first | rfl | (simp; done) | (simp [*]; done)), (by first | rfl | (simp; done) | (simp [*]; done)), H', ⟨by have := HK1.out; have := HJ2.out; omega⟩, by repeat (first | exact Drawn0.refl _ | apply Drawn0.step)⟩
                · rw [if_neg c9] at H
                  have c9b0 : ((bt a0 x8_1) == 10) = false := beq_eq_false_iff_ne.mpr c9
                  have c9b1 : ((bt a0 x8_1) != 10) = true := bne_iff_ne.mpr c9
                  have H' := Aside0.mk H
                  clear H
                  have p8 : 0 ≤ (x8_1 : Int) := of_decide_eq_true (by first | (with_reducible assumption) | assumption)
                  have q8 : x8_1 < (a0.size : Int) := of_decide_eq_true (by first | (with_reducible assumption) | assumption)
                  have hx8 := bt_at a0 x8_1
                  replace p8 := eq_true p8
                  replace q8 := eq_true q8
                  go_wp2
                  go_roundg kj2
                  case measure => have := HK1.out; have := HJ2.out; omega
                  case rel => exact ⟨(x6_1), (wrap64 (x7_1 + 1)), (wrap64 (x8_1 + 1)), (by first | rfl | (simp; done) | (simp [*]; done)), (by first | rfl | (simp; done) | (simp [*]; done)), (by first | rfl | (simp; done) | (simp [*]; done)), H', ⟨by have := HK1.out; have := HJ2.out; omega⟩, by repeat (first | exact Drawn0.refl _ | apply Drawn0.step)⟩
              · rw [if_neg c7] at H
                exact absurd H (by simp)
            · rw [if_neg c6] at H
              exact absurd H (by simp)
          · replace c5 := Bool.eq_false_iff.mpr c5
            subst c5
            have H1 : (some (x6_1, x7_1)) = some (r1, r2) := by rw [if_neg (show ¬ (false = true) by decide)] at H; exact H
            clear H
            have H := H1
            clear H1
            simp only [Option.some.injEq, Prod.mk.injEq] at H
            obtain ⟨rfl, rfl⟩ := H
            go_wp2
            go_ret2
            exact ⟨by first | rfl | (simp; done) | (simp [*]; done), by repeat (first | exact Drawn0.refl _ | apply Drawn0.step)⟩

/-! ### cupelref19_Line: function 12 -/
def cupelref19_Line.f (k : Nat) (a0 : ByteArray) (a1 : ByteArray) (a2_0 : Int) (a2_1 : Int) (a2_2 : ByteArray) : Option (ByteArray) := (cupelref19_Place.f k a1 a2_0).bind fun bt147 => (if a0.size + 1 ≤ 9223372036854775807 then ((cupelref18_Digits.f k bt147.1).bind fun t149 => (if (a0 ++ (⟨#[58]⟩ : ByteArray)).size + t149.size ≤ 9223372036854775807 then (if ((a0 ++ (⟨#[58]⟩ : ByteArray)) ++ t149).size + 1 ≤ 9223372036854775807 then ((cupelref18_Digits.f k bt147.2).bind fun t150 => (if (((a0 ++ (⟨#[58]⟩ : ByteArray)) ++ t149) ++ (⟨#[58]⟩ : ByteArray)).size + t150.size ≤ 9223372036854775807 then (if ((((a0 ++ (⟨#[58]⟩ : ByteArray)) ++ t149) ++ (⟨#[58]⟩ : ByteArray)) ++ t150).size + 2 ≤ 9223372036854775807 then ((cupelref19_Says.f k a2_0 a2_1 a2_2).bind fun t151 => (if (((((a0 ++ (⟨#[58]⟩ : ByteArray)) ++ t149) ++ (⟨#[58]⟩ : ByteArray)) ++ t150) ++ (⟨#[58, 32]⟩ : ByteArray)).size + t151.size ≤ 9223372036854775807 then (if ((((((a0 ++ (⟨#[58]⟩ : ByteArray)) ++ t149) ++ (⟨#[58]⟩ : ByteArray)) ++ t150) ++ (⟨#[58, 32]⟩ : ByteArray)) ++ t151).size + 1 ≤ 9223372036854775807 then (some (((((((a0 ++ (⟨#[58]⟩ : ByteArray)) ++ t149) ++ (⟨#[58]⟩ : ByteArray)) ++ t150) ++ (⟨#[58, 32]⟩ : ByteArray)) ++ t151) ++ (⟨#[10]⟩ : ByteArray))) else (none)) else (none))) else (none)) else (none))) else (none)) else (none))) else (none))
theorem cupelref19_Line.mono : ∀ a0 a1 a2 a3 a4 k, LeO (cupelref19_Line.f k a0 a1 a2 a3 a4) (cupelref19_Line.f (k + 1) a0 a1 a2 a3 a4) := by
  intro a0 a1 a2 a3 a4 k
  unfold cupelref19_Line.f
  repeat' first
      | (with_reducible exact cupelref18_Digits.mono _ _)
      | (with_reducible exact cupelref19_Place.mono _ _ _)
      | (with_reducible exact cupelref19_Says.mono _ _ _ _)
      | (with_reducible exact LeO.refl _)
      | (with_reducible exact LeO.none _)
      | (with_reducible refine LeO.ite ?_ ?_)
      | (with_reducible refine LeO.bind ?_ (fun _ => ?_))
      | exact cupelref18_Digits.mono _ _
      | exact cupelref19_Place.mono _ _ _
      | exact cupelref19_Says.mono _ _ _ _
      | exact LeO.none _
      | refine LeO.ite ?_ ?_
      | refine LeO.bind ?_ (fun _ => ?_)
def cupelref19_Line.T2 : Bool × List (List Nat × List Nat) := (true, [([], []), ([0], [0]), ([], []), ([2], [2]), ([1, 3], [1, 3]), ([4], [4]), ([], []), ([6, 3], [6]), ([5, 7], [5, 7]), ([8], [8]), ([], []), ([10, 7], [10]), ([9, 11], [9, 11]), ([12], [12]), ([13, 11, 0, 1, 2, 3, 4, 5, 6, 7, 8, 9, 10, 11, 12, 13], [13])])
def cupelref19_Line.B2 : List Nat := [0, 1, 0, 4, 15, 31, 0, 76, 255, 511, 0, 1228, 4095, 8191, 16383]
theorem cupelref19_Line.tab2 : rtab .any (opsOf Tryd.f12 2) = cupelref19_Line.T2 := by kernel_rfl
theorem cupelref19_Line.bits2 : waitsOk cupelref19_Line.T2.2 cupelref19_Line.B2 = true := by kernel_rfl
set_option maxHeartbeats 8000000 in
set_option maxRecDepth 100000 in
theorem cupelref19_Line.calls (k : Nat) (a0 : ByteArray) (a1 : ByteArray) (a2_0 : Int) (a2_1 : Int) (a2_2 : ByteArray) (r : ByteArray) (w : World) (h : cupelref19_Line.f k a0 a1 a2_0 a2_1 a2_2 = some r) :
    Calls Tryd.prog 12 #[.string a0, .string a1, .agg #[.int .i64 a2_0, .int .i64 a2_1, .string a2_2]] w fun e w' => e = .returned (.string r) ∧ Below w.heap.size w w' := by
  have hu23 := Tryd.underlying23
  have HB := Aside0.mk (Below.refl w.heap.size w)
  have H : ((cupelref19_Place.f k a1 a2_0).bind fun bt147 => (if a0.size + 1 ≤ 9223372036854775807 then ((cupelref18_Digits.f k bt147.1).bind fun t149 => (if (a0 ++ (⟨#[58]⟩ : ByteArray)).size + t149.size ≤ 9223372036854775807 then (if ((a0 ++ (⟨#[58]⟩ : ByteArray)) ++ t149).size + 1 ≤ 9223372036854775807 then ((cupelref18_Digits.f k bt147.2).bind fun t150 => (if (((a0 ++ (⟨#[58]⟩ : ByteArray)) ++ t149) ++ (⟨#[58]⟩ : ByteArray)).size + t150.size ≤ 9223372036854775807 then (if ((((a0 ++ (⟨#[58]⟩ : ByteArray)) ++ t149) ++ (⟨#[58]⟩ : ByteArray)) ++ t150).size + 2 ≤ 9223372036854775807 then ((cupelref19_Says.f k a2_0 a2_1 a2_2).bind fun t151 => (if (((((a0 ++ (⟨#[58]⟩ : ByteArray)) ++ t149) ++ (⟨#[58]⟩ : ByteArray)) ++ t150) ++ (⟨#[58, 32]⟩ : ByteArray)).size + t151.size ≤ 9223372036854775807 then (if ((((((a0 ++ (⟨#[58]⟩ : ByteArray)) ++ t149) ++ (⟨#[58]⟩ : ByteArray)) ++ t150) ++ (⟨#[58, 32]⟩ : ByteArray)) ++ t151).size + 1 ≤ 9223372036854775807 then (some (((((((a0 ++ (⟨#[58]⟩ : ByteArray)) ++ t149) ++ (⟨#[58]⟩ : ByteArray)) ++ t150) ++ (⟨#[58, 32]⟩ : ByteArray)) ++ t151) ++ (⟨#[10]⟩ : ByteArray))) else (none)) else (none))) else (none)) else (none))) else (none)) else (none))) else (none))) = some r := h
  clear h
  replace H := Option.bind_eq_some_iff.mp H
  obtain ⟨⟨t147, t148⟩, A40, H⟩ := H
  replace H : (if a0.size + 1 ≤ 9223372036854775807 then ((cupelref18_Digits.f k t147).bind fun t149 => (if (a0 ++ (⟨#[58]⟩ : ByteArray)).size + t149.size ≤ 9223372036854775807 then (if ((a0 ++ (⟨#[58]⟩ : ByteArray)) ++ t149).size + 1 ≤ 9223372036854775807 then ((cupelref18_Digits.f k t148).bind fun t150 => (if (((a0 ++ (⟨#[58]⟩ : ByteArray)) ++ t149) ++ (⟨#[58]⟩ : ByteArray)).size + t150.size ≤ 9223372036854775807 then (if ((((a0 ++ (⟨#[58]⟩ : ByteArray)) ++ t149) ++ (⟨#[58]⟩ : ByteArray)) ++ t150).size + 2 ≤ 9223372036854775807 then ((cupelref19_Says.f k a2_0 a2_1 a2_2).bind fun t151 => (if (((((a0 ++ (⟨#[58]⟩ : ByteArray)) ++ t149) ++ (⟨#[58]⟩ : ByteArray)) ++ t150) ++ (⟨#[58, 32]⟩ : ByteArray)).size + t151.size ≤ 9223372036854775807 then (if ((((((a0 ++ (⟨#[58]⟩ : ByteArray)) ++ t149) ++ (⟨#[58]⟩ : ByteArray)) ++ t150) ++ (⟨#[58, 32]⟩ : ByteArray)) ++ t151).size + 1 ≤ 9223372036854775807 then (some (((((((a0 ++ (⟨#[58]⟩ : ByteArray)) ++ t149) ++ (⟨#[58]⟩ : ByteArray)) ++ t150) ++ (⟨#[58, 32]⟩ : ByteArray)) ++ t151) ++ (⟨#[10]⟩ : ByteArray))) else (none)) else (none))) else (none)) else (none))) else (none)) else (none))) else (none)) = some r := H
  have A4 := Aside0.mk A40
  clear A40
  by_cases c5 : a0.size + 1 ≤ 9223372036854775807
  · rw [if_pos c5] at H
    have c5b0 := eq_true c5
    have c5b9 := eq_false (Nat.not_lt.2 c5)
    try simp only [ByteArray.size_append] at c5b9
    have c5b1 : decide (a0.size + 1 ≤ 9223372036854775807) = true := decide_eq_true c5
    try have c5b2 : (9223372036854775807 < a0.size + 1) = False := eq_false (Nat.not_lt.2 c5)
    replace H := Option.bind_eq_some_iff.mp H
    obtain ⟨t149, A60, H⟩ := H
    replace H : (if (a0 ++ (⟨#[58]⟩ : ByteArray)).size + t149.size ≤ 9223372036854775807 then (if ((a0 ++ (⟨#[58]⟩ : ByteArray)) ++ t149).size + 1 ≤ 9223372036854775807 then ((cupelref18_Digits.f k t148).bind fun t150 => (if (((a0 ++ (⟨#[58]⟩ : ByteArray)) ++ t149) ++ (⟨#[58]⟩ : ByteArray)).size + t150.size ≤ 9223372036854775807 then (if ((((a0 ++ (⟨#[58]⟩ : ByteArray)) ++ t149) ++ (⟨#[58]⟩ : ByteArray)) ++ t150).size + 2 ≤ 9223372036854775807 then ((cupelref19_Says.f k a2_0 a2_1 a2_2).bind fun t151 => (if (((((a0 ++ (⟨#[58]⟩ : ByteArray)) ++ t149) ++ (⟨#[58]⟩ : ByteArray)) ++ t150) ++ (⟨#[58, 32]⟩ : ByteArray)).size + t151.size ≤ 9223372036854775807 then (if ((((((a0 ++ (⟨#[58]⟩ : ByteArray)) ++ t149) ++ (⟨#[58]⟩ : ByteArray)) ++ t150) ++ (⟨#[58, 32]⟩ : ByteArray)) ++ t151).size + 1 ≤ 9223372036854775807 then (some (((((((a0 ++ (⟨#[58]⟩ : ByteArray)) ++ t149) ++ (⟨#[58]⟩ : ByteArray)) ++ t150) ++ (⟨#[58, 32]⟩ : ByteArray)) ++ t151) ++ (⟨#[10]⟩ : ByteArray))) else (none)) else (none))) else (none)) else (none))) else (none)) else (none)) = some r := H
    have A6 := Aside0.mk A60
    clear A60
    by_cases c7 : (a0 ++ (⟨#[58]⟩ : ByteArray)).size + t149.size ≤ 9223372036854775807
    · rw [if_pos c7] at H
      have c7b0 := eq_true c7
      have c7b9 := eq_false (Nat.not_lt.2 c7)
      try simp only [ByteArray.size_append, show (⟨#[58]⟩ : ByteArray).size = 1 from rfl] at c7b9
      have c7b1 : decide ((a0 ++ (⟨#[58]⟩ : ByteArray)).size + t149.size ≤ 9223372036854775807) = true := decide_eq_true c7
      try have c7b2 : (9223372036854775807 < (a0 ++ (⟨#[58]⟩ : ByteArray)).size + t149.size) = False := eq_false (Nat.not_lt.2 c7)
      by_cases c8 : ((a0 ++ (⟨#[58]⟩ : ByteArray)) ++ t149).size + 1 ≤ 9223372036854775807
      · rw [if_pos c8] at H
        have c8b0 := eq_true c8
        have c8b9 := eq_false (Nat.not_lt.2 c8)
        try simp only [ByteArray.size_append, show (⟨#[58]⟩ : ByteArray).size = 1 from rfl] at c8b9
        have c8b1 : decide (((a0 ++ (⟨#[58]⟩ : ByteArray)) ++ t149).size + 1 ≤ 9223372036854775807) = true := decide_eq_true c8
        try have c8b2 : (9223372036854775807 < ((a0 ++ (⟨#[58]⟩ : ByteArray)) ++ t149).size + 1) = False := eq_false (Nat.not_lt.2 c8)
        replace H := Option.bind_eq_some_iff.mp H
        obtain ⟨t150, A90, H⟩ := H
        replace H : (if (((a0 ++ (⟨#[58]⟩ : ByteArray)) ++ t149) ++ (⟨#[58]⟩ : ByteArray)).size + t150.size ≤ 9223372036854775807 then (if ((((a0 ++ (⟨#[58]⟩ : ByteArray)) ++ t149) ++ (⟨#[58]⟩ : ByteArray)) ++ t150).size + 2 ≤ 9223372036854775807 then ((cupelref19_Says.f k a2_0 a2_1 a2_2).bind fun t151 => (if (((((a0 ++ (⟨#[58]⟩ : ByteArray)) ++ t149) ++ (⟨#[58]⟩ : ByteArray)) ++ t150) ++ (⟨#[58, 32]⟩ : ByteArray)).size + t151.size ≤ 9223372036854775807 then (if ((((((a0 ++ (⟨#[58]⟩ : ByteArray)) ++ t149) ++ (⟨#[58]⟩ : ByteArray)) ++ t150) ++ (⟨#[58, 32]⟩ : ByteArray)) ++ t151).size + 1 ≤ 9223372036854775807 then (some (((((((a0 ++ (⟨#[58]⟩ : ByteArray)) ++ t149) ++ (⟨#[58]⟩ : ByteArray)) ++ t150) ++ (⟨#[58, 32]⟩ : ByteArray)) ++ t151) ++ (⟨#[10]⟩ : ByteArray))) else (none)) else (none))) else (none)) else (none)) = some r := H
        have A9 := Aside0.mk A90
        clear A90
        by_cases c10 : (((a0 ++ (⟨#[58]⟩ : ByteArray)) ++ t149) ++ (⟨#[58]⟩ : ByteArray)).size + t150.size ≤ 9223372036854775807
        · rw [if_pos c10] at H
          have c10b0 := eq_true c10
          have c10b9 := eq_false (Nat.not_lt.2 c10)
          try simp only [ByteArray.size_append, show (⟨#[58]⟩ : ByteArray).size = 1 from rfl] at c10b9
          have c10b1 : decide ((((a0 ++ (⟨#[58]⟩ : ByteArray)) ++ t149) ++ (⟨#[58]⟩ : ByteArray)).size + t150.size ≤ 9223372036854775807) = true := decide_eq_true c10
          try have c10b2 : (9223372036854775807 < (((a0 ++ (⟨#[58]⟩ : ByteArray)) ++ t149) ++ (⟨#[58]⟩ : ByteArray)).size + t150.size) = False := eq_false (Nat.not_lt.2 c10)
          by_cases c11 : ((((a0 ++ (⟨#[58]⟩ : ByteArray)) ++ t149) ++ (⟨#[58]⟩ : ByteArray)) ++ t150).size + 2 ≤ 9223372036854775807
          · rw [if_pos c11] at H
            have c11b0 := eq_true c11
            have c11b9 := eq_false (Nat.not_lt.2 c11)
            try simp only [ByteArray.size_append, show (⟨#[58]⟩ : ByteArray).size = 1 from rfl] at c11b9
            have c11b1 : decide (((((a0 ++ (⟨#[58]⟩ : ByteArray)) ++ t149) ++ (⟨#[58]⟩ : ByteArray)) ++ t150).size + 2 ≤ 9223372036854775807) = true := decide_eq_true c11
            try have c11b2 : (9223372036854775807 < ((((a0 ++ (⟨#[58]⟩ : ByteArray)) ++ t149) ++ (⟨#[58]⟩ : ByteArray)) ++ t150).size + 2) = False := eq_false (Nat.not_lt.2 c11)
            replace H := Option.bind_eq_some_iff.mp H
            obtain ⟨t151, A120, H⟩ := H
            replace H : (if (((((a0 ++ (⟨#[58]⟩ : ByteArray)) ++ t149) ++ (⟨#[58]⟩ : ByteArray)) ++ t150) ++ (⟨#[58, 32]⟩ : ByteArray)).size + t151.size ≤ 9223372036854775807 then (if ((((((a0 ++ (⟨#[58]⟩ : ByteArray)) ++ t149) ++ (⟨#[58]⟩ : ByteArray)) ++ t150) ++ (⟨#[58, 32]⟩ : ByteArray)) ++ t151).size + 1 ≤ 9223372036854775807 then (some (((((((a0 ++ (⟨#[58]⟩ : ByteArray)) ++ t149) ++ (⟨#[58]⟩ : ByteArray)) ++ t150) ++ (⟨#[58, 32]⟩ : ByteArray)) ++ t151) ++ (⟨#[10]⟩ : ByteArray))) else (none)) else (none)) = some r := H
            have A12 := Aside0.mk A120
            clear A120
            by_cases c13 : (((((a0 ++ (⟨#[58]⟩ : ByteArray)) ++ t149) ++ (⟨#[58]⟩ : ByteArray)) ++ t150) ++ (⟨#[58, 32]⟩ : ByteArray)).size + t151.size ≤ 9223372036854775807
            · rw [if_pos c13] at H
              have c13b0 := eq_true c13
              have c13b9 := eq_false (Nat.not_lt.2 c13)
              try simp only [ByteArray.size_append, show (⟨#[58, 32]⟩ : ByteArray).size = 2 from rfl, show (⟨#[58]⟩ : ByteArray).size = 1 from rfl] at c13b9
              have c13b1 : decide ((((((a0 ++ (⟨#[58]⟩ : ByteArray)) ++ t149) ++ (⟨#[58]⟩ : ByteArray)) ++ t150) ++ (⟨#[58, 32]⟩ : ByteArray)).size + t151.size ≤ 9223372036854775807) = true := decide_eq_true c13
              try have c13b2 : (9223372036854775807 < (((((a0 ++ (⟨#[58]⟩ : ByteArray)) ++ t149) ++ (⟨#[58]⟩ : ByteArray)) ++ t150) ++ (⟨#[58, 32]⟩ : ByteArray)).size + t151.size) = False := eq_false (Nat.not_lt.2 c13)
              by_cases c14 : ((((((a0 ++ (⟨#[58]⟩ : ByteArray)) ++ t149) ++ (⟨#[58]⟩ : ByteArray)) ++ t150) ++ (⟨#[58, 32]⟩ : ByteArray)) ++ t151).size + 1 ≤ 9223372036854775807
              · rw [if_pos c14] at H
                have c14b0 := eq_true c14
                have c14b9 := eq_false (Nat.not_lt.2 c14)
                try simp only [ByteArray.size_append, show (⟨#[58, 32]⟩ : ByteArray).size = 2 from rfl, show (⟨#[58]⟩ : ByteArray).size = 1 from rfl] at c14b9
                have c14b1 : decide (((((((a0 ++ (⟨#[58]⟩ : ByteArray)) ++ t149) ++ (⟨#[58]⟩ : ByteArray)) ++ t150) ++ (⟨#[58, 32]⟩ : ByteArray)) ++ t151).size + 1 ≤ 9223372036854775807) = true := decide_eq_true c14
                try have c14b2 : (9223372036854775807 < ((((((a0 ++ (⟨#[58]⟩ : ByteArray)) ++ t149) ++ (⟨#[58]⟩ : ByteArray)) ++ t150) ++ (⟨#[58, 32]⟩ : ByteArray)) ++ t151).size + 1) = False := eq_false (Nat.not_lt.2 c14)
                obtain rfl := Option.some.inj H
                go_enter Tryd.func12, Tryd.ntmps12
                try go_wp2_with (first | ((with_reducible refine gate_dst (N := 5) rfl ?_); refine box_event ?hg (N := 5) ?hd (cs := #[.int .i64 a2_0, .int .i64 a2_1, .string a2_2]) (t := 23) ?hr ?_; (case hd => rfl); (case hg => rfl); (case hr => first | (go_simp; done) | (go_simp; rfl)); intro gb146 hg w15 hbox hb; have n0_ := Aside0.mk (below_step (by repeat (first | (with_reducible first | exact HB.out | apply below_alloc | apply pw_below_drewN | apply below_drew1) | exact HB.out)) hb); have n1_ := Aside0.mk (hbox); have n2_ := Aside0.mk ((by rw [hg]; exact (below_size (by repeat (first | (with_reducible first | exact HB.out | apply below_alloc | apply pw_below_drewN | apply below_drew1) | exact HB.out))) : w.heap.size ≤ gb146)); have n3_ := Aside0.mk ((by rw [hg]; exact (below_size (by repeat (first | (with_reducible first | exact HB.out | apply below_alloc | apply pw_below_drewN | apply below_drew1) | exact HB.out))) : w.heap.size ≤ gb146)); clear HB; have HB := n0_; have BK146 := n1_; have GW146 := n2_; have GE146 := n3_; clear n0_ n1_ n2_ n3_; clear hb hbox hg; have hcz16_0 : w15.cell? ⟨gb146, 0, none⟩ = some (.int .i64 a2_0) := (blk_cell BK146.out 0).trans rfl; have hcz16_1 : w15.cell? ⟨gb146, 1, none⟩ = some (.int .i64 a2_1) := (blk_cell BK146.out 1).trans rfl; have hcz16_2 : w15.cell? ⟨gb146, 2, none⟩ = some (.string a2_2) := (blk_cell BK146.out 2).trans rfl; have hfz16_0 := blk_frozen BK146.out 0; have hfz16_1 := blk_frozen BK146.out 1; have hfz16_2 := blk_frozen BK146.out 2) | ((with_reducible refine gate_callee (f := 14) rfl ?_); refine goesL_ (some 13) rfl rfl Tryd.func14 (by kernel_rfl) rfl #[.string a1, .int .i64 a2_0] rfl (by (try simp only [List.map_toArray, List.map_cons, List.map_nil]); first | done | rfl | (simp only [List.length_drop, List.length_take]; rfl)) ?_; (with_reducible refine (cupelref19_Place.calls k a1 a2_0 t147 t148 _ A4.out).mono ?_); rintro e w' ⟨rfl, ⟨nd, rfl⟩⟩; refine ⟨_, rfl, ?_⟩))
                (try (rw [drewN_self w15]; generalize hq_ : World.drewN w15 _ = w15; have n0_ : Aside0 (w15.heap[gb146]? = some (.cells #[.int .i64 a2_0, .int .i64 a2_1, .string a2_2] 23 (0, 0))) := ⟨by rw [← hq_]; exact (by (with_reducible repeat (first | refine blk_drewN ?_ _ | refine blk_drew ?_ | refine blk_alloc ?_ _)); exact BK146.out)⟩; have n1_ : Aside0 (Below w.heap.size w w15) := ⟨by rw [← hq_]; exact (by repeat (first | (with_reducible first | exact HB.out | apply below_alloc | apply pw_below_drewN | apply below_drew1 | refine below_set ?_ GE146.out) | exact HB.out))⟩; clear BK146 HB hq_; have BK146 := n0_; have HB := n1_; clear n0_ n1_))
                have n0_ := Aside0.mk (blk_drew BK146.out)
                have n1_ := Aside0.mk (below_drew1 HB.out)
                clear BK146
                clear HB
                have BK146 := n0_
                have HB := n1_
                clear n0_ n1_
                refine start_ (n := 15) (S := fun w' => w'.cell? ⟨gb146, 0, none⟩ = some (.int .i64 a2_0) ∧ w'.cell? ⟨gb146, 1, none⟩ = some (.int .i64 a2_1) ∧ w'.cell? ⟨gb146, 2, none⟩ = some (.string a2_2)) (ds := []) #[false, false, false, false, false, false, false, false, false, false, false, false, false, false, false] (by kernel_rfl) rfl rfl ⟨(blk_cell BK146.out 0).trans rfl, (blk_cell BK146.out 1).trans rfl, (blk_cell BK146.out 2).trans rfl⟩ (fun hHeld => ?_); refine with_tabW cupelref19_Line.tab2 cupelref19_Line.bits2 (fun HT_ HW_ => ?_)
                generalize w15.drew = w17 at BK146 HB hHeld ⊢
                refine pure_ (i := 0) (N := some 16) (v := ?_) (a' := ?_) #[true, false, false, false, false, false, false, false, false, false, false, false, false, false, false] rfl rfl (any_of HT_.out (by kernel_rfl)) (fun _ _ _ h => h) (Or.inl ⟨by rfl, ?_⟩) ?_ ?_
                rotate_left
                · intro w'
                  go_simp
                  with_reducible rfl
                rotate_left
                · simp only [Act.put, List.setIfInBounds_toArray, List.set_cons_zero, List.set_cons_succ, i64_w, i32_w]
                  rfl
                refine pure_ (i := 1) (N := some 17) (v := ?_) (a' := ?_) #[true, true, false, false, false, false, false, false, false, false, false, false, false, false, false] rfl rfl (any_of HT_.out (by kernel_rfl)) (fun _ _ _ h => h) (Or.inl ⟨by rfl, ?_⟩) ?_ ?_
                rotate_left
                · intro w'
                  go_simp
                  with_reducible rfl
                rotate_left
                · simp only [Act.put, List.setIfInBounds_toArray, List.set_cons_zero, List.set_cons_succ, i64_w, i32_w]
                  rfl
                refine pure_ (i := 2) (N := some 18) (v := ?_) (a' := ?_) #[true, true, true, false, false, false, false, false, false, false, false, false, false, false, false] rfl rfl (any_of HT_.out (by kernel_rfl)) (fun _ _ _ h => h) (Or.inl ⟨by rfl, ?_⟩) ?_ ?_
                rotate_left
                · intro w'
                  go_simp
                  with_reducible rfl
                rotate_left
                · simp only [Act.put, List.setIfInBounds_toArray, List.set_cons_zero, List.set_cons_succ, i64_w, i32_w]
                  rfl
                refine pure_ (i := 6) (N := some 22) (v := ?_) (a' := ?_) #[true, true, true, false, false, false, true, false, false, false, false, false, false, false, false] rfl rfl (any_of HT_.out (by kernel_rfl)) (fun _ _ _ h => h) (Or.inl ⟨by rfl, ?_⟩) ?_ ?_
                rotate_left
                · intro w'
                  go_simp
                  with_reducible rfl
                rotate_left
                · simp only [Act.put, List.setIfInBounds_toArray, List.set_cons_zero, List.set_cons_succ, i64_w, i32_w]
                  rfl
                refine take_ (i := 10) (N := some 26) (v := ?_) (a' := ?_) #[true, true, true, false, false, false, true, false, false, false, true, false, false, false, false] rfl rfl (take_ofW HT_.out HW_.out (by kernel_rfl)) (fun _ _ _ h => h) (Or.inl ⟨by rfl, ?_⟩) hHeld ?_ ?_
                rotate_left
                · rintro w' ⟨s0, s1, s2⟩
                  go_simp
                  with_reducible rfl
                rotate_left
                · simp only [Act.put, List.setIfInBounds_toArray, List.set_cons_zero, List.set_cons_succ, i64_w, i32_w]
                  rfl
                refine one_ (i := 3) (N := some 19) #[true, true, true, true, false, false, true, false, false, false, true, false, false, false, false] rfl rfl (one_of HT_.out (by kernel_rfl)) (by decide) (fun K hK => ?_)
                refine goes_ Tryd.func21 (by kernel_rfl) rfl #[.int .i64 t147] (by rfl) rfl rfl (by (try simp only [List.map_toArray, List.map_cons, List.map_nil]); first | done | rfl | (simp only [List.length_drop, List.length_take]; rfl)) ?_
                with_reducible refine (cupelref18_Digits.calls k t147 t149 _ A6.out).mono ?_
                rintro e w18 ⟨rfl, hb⟩
                refine ⟨_, rfl, ?_⟩
                have n0_ := Aside0.mk (blk_below (g := gb146) (o := .cells #[.int .i64 a2_0, .int .i64 a2_1, .string a2_2] 23 (0, 0)) (by (with_reducible repeat (first | refine blk_drewN ?_ _ | refine blk_drew ?_ | refine blk_alloc ?_ _)); exact BK146.out) hb)
                have n1_ := Aside0.mk (below_step (by repeat (first | (with_reducible first | exact HB.out | apply below_alloc | apply pw_below_drewN | apply below_drew1 | refine below_set ?_ GE146.out) | exact HB.out)) hb)
                clear BK146
                clear HB
                have BK146 := n0_
                have HB := n1_
                clear n0_ n1_
                (try clear hb)
                (try clear hb2)
                (try clear hk)
                (try clear hi)
                refine hK.out _ _ ⟨(blk_cell BK146.out 0).trans rfl, (blk_cell BK146.out 1).trans rfl, (blk_cell BK146.out 2).trans rfl⟩ (fun hHeld => ?_)
                clear hK K
                refine norm_ (a' := ?_) ?_ ?_
                rotate_left
                · show Act.put _ (some 19) _ = _
                  simp only [Act.put, List.setIfInBounds_toArray, List.set_cons_zero, List.set_cons_succ, i64_w, i32_w]
                  rfl
                refine pure_ (i := 4) (N := some 20) (v := ?_) (a' := ?_) #[true, true, true, true, true, false, true, false, false, false, true, false, false, false, false] rfl rfl (any_of HT_.out (by kernel_rfl)) (fun _ _ _ h => h) (Or.inl ⟨by rfl, ?_⟩) ?_ ?_
                rotate_left
                · intro w'
                  go_simp
                  with_reducible rfl
                rotate_left
                · simp only [Act.put, List.setIfInBounds_toArray, List.set_cons_zero, List.set_cons_succ, i64_w, i32_w]
                  rfl
                refine pure_ (i := 5) (N := some 21) (v := ?_) (a' := ?_) #[true, true, true, true, true, true, true, false, false, false, true, false, false, false, false] rfl rfl (any_of HT_.out (by kernel_rfl)) (fun _ _ _ h => h) (Or.inl ⟨by rfl, ?_⟩) ?_ ?_
                rotate_left
                · intro w'
                  go_simp
                  with_reducible rfl
                rotate_left
                · simp only [Act.put, List.setIfInBounds_toArray, List.set_cons_zero, List.set_cons_succ, i64_w, i32_w]
                  rfl
                refine one_ (i := 7) (N := some 23) #[true, true, true, true, true, true, true, true, false, false, true, false, false, false, false] rfl rfl (one_of HT_.out (by kernel_rfl)) (by decide) (fun K hK => ?_)
                refine goes_ Tryd.func21 (by kernel_rfl) rfl #[.int .i64 t148] (by rfl) rfl rfl (by (try simp only [List.map_toArray, List.map_cons, List.map_nil]); first | done | rfl | (simp only [List.length_drop, List.length_take]; rfl)) ?_
                with_reducible refine (cupelref18_Digits.calls k t148 t150 _ A9.out).mono ?_
                rintro e w19 ⟨rfl, hb⟩
                refine ⟨_, rfl, ?_⟩
                have n0_ := Aside0.mk (blk_below (g := gb146) (o := .cells #[.int .i64 a2_0, .int .i64 a2_1, .string a2_2] 23 (0, 0)) (by (with_reducible repeat (first | refine blk_drewN ?_ _ | refine blk_drew ?_ | refine blk_alloc ?_ _)); exact BK146.out) hb)
                have n1_ := Aside0.mk (below_step (by repeat (first | (with_reducible first | exact HB.out | apply below_alloc | apply pw_below_drewN | apply below_drew1 | refine below_set ?_ GE146.out) | exact HB.out)) hb)
                clear BK146
                clear HB
                have BK146 := n0_
                have HB := n1_
                clear n0_ n1_
                (try clear hb)
                (try clear hb2)
                (try clear hk)
                (try clear hi)
                refine hK.out _ _ ⟨(blk_cell BK146.out 0).trans rfl, (blk_cell BK146.out 1).trans rfl, (blk_cell BK146.out 2).trans rfl⟩ (fun hHeld => ?_)
                clear hK K
                refine norm_ (a' := ?_) ?_ ?_
                rotate_left
                · show Act.put _ (some 23) _ = _
                  simp only [Act.put, List.setIfInBounds_toArray, List.set_cons_zero, List.set_cons_succ, i64_w, i32_w]
                  rfl
                refine pure_ (i := 8) (N := some 24) (v := ?_) (a' := ?_) #[true, true, true, true, true, true, true, true, true, false, true, false, false, false, false] rfl rfl (any_of HT_.out (by kernel_rfl)) (fun _ _ _ h => h) (Or.inl ⟨by rfl, ?_⟩) ?_ ?_
                rotate_left
                · intro w'
                  go_simp
                  with_reducible rfl
                rotate_left
                · simp only [Act.put, List.setIfInBounds_toArray, List.set_cons_zero, List.set_cons_succ, i64_w, i32_w]
                  rfl
                refine pure_ (i := 9) (N := some 25) (v := ?_) (a' := ?_) #[true, true, true, true, true, true, true, true, true, true, true, false, false, false, false] rfl rfl (any_of HT_.out (by kernel_rfl)) (fun _ _ _ h => h) (Or.inl ⟨by rfl, ?_⟩) ?_ ?_
                rotate_left
                · intro w'
                  go_simp
                  with_reducible rfl
                rotate_left
                · simp only [Act.put, List.setIfInBounds_toArray, List.set_cons_zero, List.set_cons_succ, i64_w, i32_w]
                  rfl
                refine one_ (i := 11) (N := some 27) #[true, true, true, true, true, true, true, true, true, true, true, true, false, false, false] rfl rfl (one_of HT_.out (by kernel_rfl)) (by decide) (fun K hK => ?_)
                refine goes_ Tryd.func10 (by kernel_rfl) rfl #[.agg #[.int .i64 a2_0, .int .i64 a2_1, .string a2_2]] (by rfl) rfl rfl (by (try simp only [List.map_toArray, List.map_cons, List.map_nil]); first | done | rfl | (simp only [List.length_drop, List.length_take]; rfl)) ?_
                with_reducible refine (cupelref19_Says.calls k a2_0 a2_1 a2_2 t151 _ A12.out).mono ?_
                rintro e w20 ⟨rfl, hb⟩
                refine ⟨_, rfl, ?_⟩
                have n0_ := Aside0.mk (blk_below (g := gb146) (o := .cells #[.int .i64 a2_0, .int .i64 a2_1, .string a2_2] 23 (0, 0)) (by (with_reducible repeat (first | refine blk_drewN ?_ _ | refine blk_drew ?_ | refine blk_alloc ?_ _)); exact BK146.out) hb)
                have n1_ := Aside0.mk (below_step (by repeat (first | (with_reducible first | exact HB.out | apply below_alloc | apply pw_below_drewN | apply below_drew1 | refine below_set ?_ GE146.out) | exact HB.out)) hb)
                clear BK146
                clear HB
                have BK146 := n0_
                have HB := n1_
                clear n0_ n1_
                (try clear hb)
                (try clear hb2)
                (try clear hk)
                (try clear hi)
                refine hK.out _ _ ⟨(blk_cell BK146.out 0).trans rfl, (blk_cell BK146.out 1).trans rfl, (blk_cell BK146.out 2).trans rfl⟩ (fun hHeld => ?_)
                clear hK K
                refine norm_ (a' := ?_) ?_ ?_
                rotate_left
                · show Act.put _ (some 27) _ = _
                  simp only [Act.put, List.setIfInBounds_toArray, List.set_cons_zero, List.set_cons_succ, i64_w, i32_w]
                  rfl
                refine pure_ (i := 12) (N := some 28) (v := ?_) (a' := ?_) #[true, true, true, true, true, true, true, true, true, true, true, true, true, false, false] rfl rfl (any_of HT_.out (by kernel_rfl)) (fun _ _ _ h => h) (Or.inl ⟨by rfl, ?_⟩) ?_ ?_
                rotate_left
                · intro w'
                  go_simp
                  with_reducible rfl
                rotate_left
                · simp only [Act.put, List.setIfInBounds_toArray, List.set_cons_zero, List.set_cons_succ, i64_w, i32_w]
                  rfl
                refine pure_ (i := 13) (N := some 29) (v := ?_) (a' := ?_) #[true, true, true, true, true, true, true, true, true, true, true, true, true, true, false] rfl rfl (any_of HT_.out (by kernel_rfl)) (fun _ _ _ h => h) (Or.inl ⟨by rfl, ?_⟩) ?_ ?_
                rotate_left
                · intro w'
                  go_simp
                  with_reducible rfl
                rotate_left
                · simp only [Act.put, List.setIfInBounds_toArray, List.set_cons_zero, List.set_cons_succ, i64_w, i32_w]
                  rfl
                refine pure_ (i := 14) (N := some 6) (v := ?_) (a' := ?_) #[true, true, true, true, true, true, true, true, true, true, true, true, true, true, true] rfl rfl (any_of HT_.out (by kernel_rfl)) (fun _ _ _ h => h) (Or.inl ⟨by rfl, ?_⟩) ?_ ?_
                rotate_left
                · intro w'
                  go_simp
                  with_reducible rfl
                rotate_left
                · simp only [Act.put, List.setIfInBounds_toArray, List.set_cons_zero, List.set_cons_succ, i64_w, i32_w]
                  rfl
                refine done_ (done_of HT_.out (by kernel_rfl)) ?_
                try go_wp2
                go_ret
                exact ⟨by first | rfl | (simp [errW_none, errW_some] <;> rfl) | (simp [*, errW_none, errW_some] <;> rfl), by repeat (first | (with_reducible first | exact HB.out | apply below_alloc | apply pw_below_drewN | apply below_drew1 | refine below_set ?_ GE146.out) | exact HB.out)⟩
              · rw [if_neg c14] at H
                exact absurd H (by simp)
            · rw [if_neg c13] at H
              exact absurd H (by simp)
          · rw [if_neg c11] at H
            exact absurd H (by simp)
        · rw [if_neg c10] at H
          exact absurd H (by simp)
      · rw [if_neg c8] at H
        exact absurd H (by simp)
    · rw [if_neg c7] at H
      exact absurd H (by simp)
  · rw [if_neg c5] at H
    exact absurd H (by simp)

end Go.Proofs.YteinhpfjlfeaaaaDoor.PA
