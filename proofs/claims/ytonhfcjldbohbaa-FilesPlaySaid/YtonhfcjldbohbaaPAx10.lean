-- Written by a program of this session (wip/xprint.py over the kit's printer). Lean checks it.
import Derived.Test.YtonhfcjldbohbaaPAx0
namespace Go.Proofs.Ytonhfcjldbohbaa.PA
open Go.RowKit Go.Proofs.YtonhfcjldbohbaaW.PrintWords Go.Proofs.YtonhfcjldbohbaaW.PrintLast Go.Proofs.YtonhfcjldbohbaaW.PrintMore
attribute [local go_sem] max2_int min2_int max_two min_two max_three min_three max_four min_four   -- for this text's walks alone
set_option linter.unusedVariables false
set_option linter.unusedSimpArgs false

-- NOT PRINTED: function 58 (slices_partitionOrdered_string)

-- NOT PRINTED: function 44 (slices_pdqsortOrdered_string)

-- NOT PRINTED: function 28 (slices_Sort_string_string)

-- NOT PRINTED: function 14 (files_Table_Since)

-- NOT PRINTED: function 15 (files_Table_Bytes)

-- NOT PRINTED: function 4 (cupellaw13_FilesFull)

/-! ### cupellaw13_Far: function 16 -/
def cupellaw13_Far.l0 : Nat → List (S43) → Int → Option (Bool)
  | 0, _, _ => none
  | k + 1, x0, x3 => if x3 < (x0.length : Int) then (if 0 ≤ x3 then (if (((rd_T43 x0 x3).f2).size : Int) > 300 then (if (((rd_T43 x0 x3).f2).size : Int) ≤ 65536 then (some true) else (if (((rd_T43 x0 x3).f1).size : Int) > 300 then (some true) else (if ((rd_T43 x0 x3).f0) < 0 then (some true) else (if ((rd_T43 x0 x3).f0) > 1 then (some true) else (cupellaw13_Far.l0 k x0 (wrap64 (x3 + 1))))))) else (if (((rd_T43 x0 x3).f1).size : Int) > 300 then (some true) else (if ((rd_T43 x0 x3).f0) < 0 then (some true) else (if ((rd_T43 x0 x3).f0) > 1 then (some true) else (cupellaw13_Far.l0 k x0 (wrap64 (x3 + 1))))))) else (none)) else (some false)
def cupellaw13_Far.f (k : Nat) (l0 : List (S43)) : Option (Bool) := if (l0.length : Int) > 100 then (some true) else (cupellaw13_Far.l0 k l0 0)
theorem cupellaw13_Far.mono_l : ∀ k, (∀ y0 y1, LeO (cupellaw13_Far.l0 k y0 y1) (cupellaw13_Far.l0 (k + 1) y0 y1))
  | 0 => fun _ _ r h => by simp [cupellaw13_Far.l0] at h
  | k + 1 => by
    have ih0 := cupellaw13_Far.mono_l k
    · intro y0 y1
      unfold cupellaw13_Far.l0
      repeat' first
      | (with_reducible exact ih0 _ _)
      | (with_reducible exact LeO.refl _)
      | (with_reducible exact LeO.none _)
      | (with_reducible refine LeO.ite ?_ ?_)
      | (with_reducible refine LeO.bind ?_ (fun _ => ?_))
      | exact ih0 _ _
      | exact LeO.none _
      | refine LeO.ite ?_ ?_
      | refine LeO.bind ?_ (fun _ => ?_)
theorem cupellaw13_Far.mono : ∀ a0 k, LeO (cupellaw13_Far.f k a0) (cupellaw13_Far.f (k + 1) a0) := by
  intro a0 k
  have ih0 := cupellaw13_Far.mono_l k
  unfold cupellaw13_Far.f
  repeat' first
      | (with_reducible exact ih0 _ _)
      | (with_reducible exact LeO.refl _)
      | (with_reducible exact LeO.none _)
      | (with_reducible refine LeO.ite ?_ ?_)
      | (with_reducible refine LeO.bind ?_ (fun _ => ?_))
      | exact ih0 _ _
      | exact LeO.none _
      | refine LeO.ite ?_ ?_
      | refine LeO.bind ?_ (fun _ => ?_)
set_option maxHeartbeats 8000000 in
set_option maxRecDepth 100000 in
theorem cupellaw13_Far.calls (k : Nat) (A0 : Option Addr) (c0 : Nat) (l0 : List (S43)) (r : Bool) (w : World) (hr0 : Kd.C k43 w A0 l0.length l0) (hc0 : l0.length ≤ c0) (h : cupellaw13_Far.f k l0 = some r) :
    Calls Try.prog 16 #[.slice A0 l0.length c0] w fun e w' => e = .returned (.bool r) ∧ Drawn0 w w' := by
  have HR0 := Aside0.mk hr0
  have HC0 := Aside0.mk hc0
  clear hr0 hc0
  have H : (if (l0.length : Int) > 100 then (some true) else (cupellaw13_Far.l0 k l0 0)) = some r := h
  clear h
  by_cases c2 : (l0.length : Int) > 100
  · rw [if_pos c2] at H
    have c2b0 : decide (100 < (l0.length : Int)) = true := decide_eq_true c2
    have c2b1 : decide (100 < l0.length) = true := decide_eq_true (by omega)
    clear c2
    obtain rfl := Option.some.inj H
    go_enter Try.func16, Try.ntmps16
    go_wp2
    go_ret
    exact ⟨by first | rfl | (simp; done) | (simp [*]; done), by repeat (first | exact Drawn0.refl _ | apply Drawn0.step)⟩
  · rw [if_neg c2] at H
    have c2b0 : decide (100 < (l0.length : Int)) = false := decide_eq_false c2
    have c2b1 : decide (100 < l0.length) = false := decide_eq_false (by omega)
    clear c2
    have H' := Aside0.mk H
    clear H
    go_enter Try.func16, Try.ntmps16
    go_wp2
    go_loopg [3] k (fun kq v3 w' => ∃ (x3_1 : Int), v3 = .int .i64 x3_1 ∧ Aside0 (cupellaw13_Far.l0 kq l0 x3_1 = some r) ∧ Aside0 (kq ≤ k) ∧ Drawn0 w w')
    case atStart => exact ⟨(0), (by first | rfl | (simp; done) | (simp [*]; done)), H', ⟨Nat.le_refl _⟩, by repeat (first | exact Drawn0.refl _ | apply Drawn0.step)⟩
    case round =>
      clear H'
      try clear c1
      try clear c2
      try clear c2b0
      try clear c2b1
      try clear p2
      obtain ⟨x3_1, rfl, HA, HK1, ⟨m1, rfl⟩⟩ := hrel
      cases gk with
      | zero => exact absurd HA.out (by simp [cupellaw13_Far.l0])
      | succ k1 =>
        have H := HA.out
        clear HA
        simp only [cupellaw13_Far.l0] at H
        by_cases c3 : x3_1 < (l0.length : Int)
        · rw [if_pos c3] at H
          have c3b0 : decide (x3_1 < (l0.length : Int)) = true := decide_eq_true c3
          clear c3
          by_cases c4 : 0 ≤ x3_1
          · rw [if_pos c4] at H
            have c4b0 : decide (0 ≤ x3_1) = true := decide_eq_true c4
            clear c4
            by_cases c5 : (((rd_T43 l0 x3_1).f2).size : Int) > 300
            · rw [if_pos c5] at H
              have c5b0 : decide (300 < (((rd_T43 l0 x3_1).f2).size : Int)) = true := decide_eq_true c5
              have c5b1 : decide (300 < ((rd_T43 l0 x3_1).f2).size) = true := decide_eq_true (by omega)
              clear c5
              by_cases c6 : (((rd_T43 l0 x3_1).f2).size : Int) ≤ 65536
              · rw [if_pos c6] at H
                have c6b0 : decide ((((rd_T43 l0 x3_1).f2).size : Int) ≤ 65536) = true := decide_eq_true c6
                have c6b1 : decide (((rd_T43 l0 x3_1).f2).size ≤ 65536) = true := decide_eq_true (by omega)
                clear c6
                obtain rfl := Option.some.inj H
                have p292 : 0 ≤ (x3_1 : Int) := of_decide_eq_true (by first | (with_reducible assumption) | assumption)
                have q292 : x3_1 < (l0.length : Int) := of_decide_eq_true (by first | (with_reducible assumption) | assumption)
                obtain ⟨ad292, e292, hx292_0, hx292_1, hx292_2, hx292_3⟩ := at_T43 HR0.out x3_1 p292 q292
                cases e292
                replace p292 := eq_true p292
                replace q292 := eq_true q292
                have p293 : 0 ≤ (x3_1 : Int) := of_decide_eq_true (by first | (with_reducible assumption) | assumption)
                have q293 : x3_1 < (l0.length : Int) := of_decide_eq_true (by first | (with_reducible assumption) | assumption)
                obtain ⟨ad293, e293, hx293_0, hx293_1, hx293_2, hx293_3⟩ := at_T43 HR0.out x3_1 p293 q293
                obtain rfl : ad292 = ad293 := (by injection e293)
                replace p293 := eq_true p293
                replace q293 := eq_true q293
                go_wp2
                go_ret
                exact ⟨by first | rfl | (simp; done) | (simp [*]; done), by repeat (first | exact Drawn0.refl _ | apply Drawn0.step)⟩
              · rw [if_neg c6] at H
                have c6b0 : decide ((((rd_T43 l0 x3_1).f2).size : Int) ≤ 65536) = false := decide_eq_false c6
                have c6b1 : decide (((rd_T43 l0 x3_1).f2).size ≤ 65536) = false := decide_eq_false (by omega)
                clear c6
                by_cases c7 : (((rd_T43 l0 x3_1).f1).size : Int) > 300
                · rw [if_pos c7] at H
                  have c7b0 : decide (300 < (((rd_T43 l0 x3_1).f1).size : Int)) = true := decide_eq_true c7
                  have c7b1 : decide (300 < ((rd_T43 l0 x3_1).f1).size) = true := decide_eq_true (by omega)
                  clear c7
                  obtain rfl := Option.some.inj H
                  have p292 : 0 ≤ (x3_1 : Int) := of_decide_eq_true (by first | (with_reducible assumption) | assumption)
                  have q292 : x3_1 < (l0.length : Int) := of_decide_eq_true (by first | (with_reducible assumption) | assumption)
                  obtain ⟨ad292, e292, hx292_0, hx292_1, hx292_2, hx292_3⟩ := at_T43 HR0.out x3_1 p292 q292
                  cases e292
                  replace p292 := eq_true p292
                  replace q292 := eq_true q292
                  have p293 : 0 ≤ (x3_1 : Int) := of_decide_eq_true (by first | (with_reducible assumption) | assumption)
                  have q293 : x3_1 < (l0.length : Int) := of_decide_eq_true (by first | (with_reducible assumption) | assumption)
                  obtain ⟨ad293, e293, hx293_0, hx293_1, hx293_2, hx293_3⟩ := at_T43 HR0.out x3_1 p293 q293
                  obtain rfl : ad292 = ad293 := (by injection e293)
                  replace p293 := eq_true p293
                  replace q293 := eq_true q293
                  have p294 : 0 ≤ (x3_1 : Int) := of_decide_eq_true (by first | (with_reducible assumption) | assumption)
                  have q294 : x3_1 < (l0.length : Int) := of_decide_eq_true (by first | (with_reducible assumption) | assumption)
                  obtain ⟨ad294, e294, hx294_0, hx294_1, hx294_2, hx294_3⟩ := at_T43 HR0.out x3_1 p294 q294
                  obtain rfl : ad292 = ad294 := (by injection e294)
                  replace p294 := eq_true p294
                  replace q294 := eq_true q294
                  go_wp2
                  go_ret
                  exact ⟨by first | rfl | (simp; done) | (simp [*]; done), by repeat (first | exact Drawn0.refl _ | apply Drawn0.step)⟩
                · rw [if_neg c7] at H
                  have c7b0 : decide (300 < (((rd_T43 l0 x3_1).f1).size : Int)) = false := decide_eq_false c7
                  have c7b1 : decide (300 < ((rd_T43 l0 x3_1).f1).size) = false := decide_eq_false (by omega)
                  clear c7
                  by_cases c8 : ((rd_T43 l0 x3_1).f0) < 0
                  · rw [if_pos c8] at H
                    have c8b0 : decide (((rd_T43 l0 x3_1).f0) < 0) = true := decide_eq_true c8
                    clear c8
                    obtain rfl := Option.some.inj H
                    have p292 : 0 ≤ (x3_1 : Int) := of_decide_eq_true (by first | (with_reducible assumption) | assumption)
                    have q292 : x3_1 < (l0.length : Int) := of_decide_eq_true (by first | (with_reducible assumption) | assumption)
                    obtain ⟨ad292, e292, hx292_0, hx292_1, hx292_2, hx292_3⟩ := at_T43 HR0.out x3_1 p292 q292
                    cases e292
                    replace p292 := eq_true p292
                    replace q292 := eq_true q292
                    have p293 : 0 ≤ (x3_1 : Int) := of_decide_eq_true (by first | (with_reducible assumption) | assumption)
                    have q293 : x3_1 < (l0.length : Int) := of_decide_eq_true (by first | (with_reducible assumption) | assumption)
                    obtain ⟨ad293, e293, hx293_0, hx293_1, hx293_2, hx293_3⟩ := at_T43 HR0.out x3_1 p293 q293
                    obtain rfl : ad292 = ad293 := (by injection e293)
                    replace p293 := eq_true p293
                    replace q293 := eq_true q293
                    have p294 : 0 ≤ (x3_1 : Int) := of_decide_eq_true (by first | (with_reducible assumption) | assumption)
                    have q294 : x3_1 < (l0.length : Int) := of_decide_eq_true (by first | (with_reducible assumption) | assumption)
                    obtain ⟨ad294, e294, hx294_0, hx294_1, hx294_2, hx294_3⟩ := at_T43 HR0.out x3_1 p294 q294
                    obtain rfl : ad292 = ad294 := (by injection e294)
                    replace p294 := eq_true p294
                    replace q294 := eq_true q294
                    have p295 : 0 ≤ (x3_1 : Int) := of_decide_eq_true (by first | (with_reducible assumption) | assumption)
                    have q295 : x3_1 < (l0.length : Int) := of_decide_eq_true (by first | (with_reducible assumption) | assumption)
                    obtain ⟨ad295, e295, hx295_0, hx295_1, hx295_2, hx295_3⟩ := at_T43 HR0.out x3_1 p295 q295
                    obtain rfl : ad292 = ad295 := (by injection e295)
                    replace p295 := eq_true p295
                    replace q295 := eq_true q295
                    go_wp2
                    go_ret
                    exact ⟨by first | rfl | (simp; done) | (simp [*]; done), by repeat (first | exact Drawn0.refl _ | apply Drawn0.step)⟩
                  · rw [if_neg c8] at H
                    have c8b0 : decide (((rd_T43 l0 x3_1).f0) < 0) = false := decide_eq_false c8
                    clear c8
                    by_cases c9 : ((rd_T43 l0 x3_1).f0) > 1
                    · rw [if_pos c9] at H
                      have c9b0 : decide (1 < ((rd_T43 l0 x3_1).f0)) = true := decide_eq_true c9
                      clear c9
                      obtain rfl := Option.some.inj H
                      have p292 : 0 ≤ (x3_1 : Int) := of_decide_eq_true (by first | (with_reducible assumption) | assumption)
                      have q292 : x3_1 < (l0.length : Int) := of_decide_eq_true (by first | (with_reducible assumption) | assumption)
                      obtain ⟨ad292, e292, hx292_0, hx292_1, hx292_2, hx292_3⟩ := at_T43 HR0.out x3_1 p292 q292
                      cases e292
                      replace p292 := eq_true p292
                      replace q292 := eq_true q292
                      have p293 : 0 ≤ (x3_1 : Int) := of_decide_eq_true (by first | (with_reducible assumption) | assumption)
                      have q293 : x3_1 < (l0.length : Int) := of_decide_eq_true (by first | (with_reducible assumption) | assumption)
                      obtain ⟨ad293, e293, hx293_0, hx293_1, hx293_2, hx293_3⟩ := at_T43 HR0.out x3_1 p293 q293
                      obtain rfl : ad292 = ad293 := (by injection e293)
                      replace p293 := eq_true p293
                      replace q293 := eq_true q293
                      have p294 : 0 ≤ (x3_1 : Int) := of_decide_eq_true (by first | (with_reducible assumption) | assumption)
                      have q294 : x3_1 < (l0.length : Int) := of_decide_eq_true (by first | (with_reducible assumption) | assumption)
                      obtain ⟨ad294, e294, hx294_0, hx294_1, hx294_2, hx294_3⟩ := at_T43 HR0.out x3_1 p294 q294
                      obtain rfl : ad292 = ad294 := (by injection e294)
                      replace p294 := eq_true p294
                      replace q294 := eq_true q294
                      have p295 : 0 ≤ (x3_1 : Int) := of_decide_eq_true (by first | (with_reducible assumption) | assumption)
                      have q295 : x3_1 < (l0.length : Int) := of_decide_eq_true (by first | (with_reducible assumption) | assumption)
                      obtain ⟨ad295, e295, hx295_0, hx295_1, hx295_2, hx295_3⟩ := at_T43 HR0.out x3_1 p295 q295
                      obtain rfl : ad292 = ad295 := (by injection e295)
                      replace p295 := eq_true p295
                      replace q295 := eq_true q295
                      have p296 : 0 ≤ (x3_1 : Int) := of_decide_eq_true (by first | (with_reducible assumption) | assumption)
                      have q296 : x3_1 < (l0.length : Int) := of_decide_eq_true (by first | (with_reducible assumption) | assumption)
                      obtain ⟨ad296, e296, hx296_0, hx296_1, hx296_2, hx296_3⟩ := at_T43 HR0.out x3_1 p296 q296
                      obtain rfl : ad292 = ad296 := (by injection e296)
                      replace p296 := eq_true p296
                      replace q296 := eq_true q296
                      go_wp2
                      go_ret
                      exact ⟨by first | rfl | (simp; done) | (simp [*]; done), by repeat (first | exact Drawn0.refl _ | apply Drawn0.step)⟩
                    · rw [if_neg c9] at H
                      have c9b0 : decide (1 < ((rd_T43 l0 x3_1).f0)) = false := decide_eq_false c9
                      clear c9
                      have H' := Aside0.mk H
                      clear H
                      have p292 : 0 ≤ (x3_1 : Int) := of_decide_eq_true (by first | (with_reducible assumption) | assumption)
                      have q292 : x3_1 < (l0.length : Int) := of_decide_eq_true (by first | (with_reducible assumption) | assumption)
                      obtain ⟨ad292, e292, hx292_0, hx292_1, hx292_2, hx292_3⟩ := at_T43 HR0.out x3_1 p292 q292
                      cases e292
                      replace p292 := eq_true p292
                      replace q292 := eq_true q292
                      have p293 : 0 ≤ (x3_1 : Int) := of_decide_eq_true (by first | (with_reducible assumption) | assumption)
                      have q293 : x3_1 < (l0.length : Int) := of_decide_eq_true (by first | (with_reducible assumption) | assumption)
                      obtain ⟨ad293, e293, hx293_0, hx293_1, hx293_2, hx293_3⟩ := at_T43 HR0.out x3_1 p293 q293
                      obtain rfl : ad292 = ad293 := (by injection e293)
                      replace p293 := eq_true p293
                      replace q293 := eq_true q293
                      have p294 : 0 ≤ (x3_1 : Int) := of_decide_eq_true (by first | (with_reducible assumption) | assumption)
                      have q294 : x3_1 < (l0.length : Int) := of_decide_eq_true (by first | (with_reducible assumption) | assumption)
                      obtain ⟨ad294, e294, hx294_0, hx294_1, hx294_2, hx294_3⟩ := at_T43 HR0.out x3_1 p294 q294
                      obtain rfl : ad292 = ad294 := (by injection e294)
                      replace p294 := eq_true p294
                      replace q294 := eq_true q294
                      have p295 : 0 ≤ (x3_1 : Int) := of_decide_eq_true (by first | (with_reducible assumption) | assumption)
                      have q295 : x3_1 < (l0.length : Int) := of_decide_eq_true (by first | (with_reducible assumption) | assumption)
                      obtain ⟨ad295, e295, hx295_0, hx295_1, hx295_2, hx295_3⟩ := at_T43 HR0.out x3_1 p295 q295
                      obtain rfl : ad292 = ad295 := (by injection e295)
                      replace p295 := eq_true p295
                      replace q295 := eq_true q295
                      have p296 : 0 ≤ (x3_1 : Int) := of_decide_eq_true (by first | (with_reducible assumption) | assumption)
                      have q296 : x3_1 < (l0.length : Int) := of_decide_eq_true (by first | (with_reducible assumption) | assumption)
                      obtain ⟨ad296, e296, hx296_0, hx296_1, hx296_2, hx296_3⟩ := at_T43 HR0.out x3_1 p296 q296
                      obtain rfl : ad292 = ad296 := (by injection e296)
                      replace p296 := eq_true p296
                      replace q296 := eq_true q296
                      go_wp2
                      go_roundg k1
                      case measure => have := HK1.out; omega
                      case rel => exact ⟨(wrap64 (x3_1 + 1)), (by first | rfl | (simp; done) | (simp [*]; done)), H', ⟨by have := HK1.out; omega⟩, by repeat (first | exact Drawn0.refl _ | apply Drawn0.step)⟩
            · rw [if_neg c5] at H
              have c5b0 : decide (300 < (((rd_T43 l0 x3_1).f2).size : Int)) = false := decide_eq_false c5
              have c5b1 : decide (300 < ((rd_T43 l0 x3_1).f2).size) = false := decide_eq_false (by omega)
              clear c5
              by_cases c10 : (((rd_T43 l0 x3_1).f1).size : Int) > 300
              · rw [if_pos c10] at H
                have c10b0 : decide (300 < (((rd_T43 l0 x3_1).f1).size : Int)) = true := decide_eq_true c10
                have c10b1 : decide (300 < ((rd_T43 l0 x3_1).f1).size) = true := decide_eq_true (by omega)
                clear c10
                obtain rfl := Option.some.inj H
                have p292 : 0 ≤ (x3_1 : Int) := of_decide_eq_true (by first | (with_reducible assumption) | assumption)
                have q292 : x3_1 < (l0.length : Int) := of_decide_eq_true (by first | (with_reducible assumption) | assumption)
                obtain ⟨ad292, e292, hx292_0, hx292_1, hx292_2, hx292_3⟩ := at_T43 HR0.out x3_1 p292 q292
                cases e292
                replace p292 := eq_true p292
                replace q292 := eq_true q292
                have p297 : 0 ≤ (x3_1 : Int) := of_decide_eq_true (by first | (with_reducible assumption) | assumption)
                have q297 : x3_1 < (l0.length : Int) := of_decide_eq_true (by first | (with_reducible assumption) | assumption)
                obtain ⟨ad297, e297, hx297_0, hx297_1, hx297_2, hx297_3⟩ := at_T43 HR0.out x3_1 p297 q297
                obtain rfl : ad292 = ad297 := (by injection e297)
                replace p297 := eq_true p297
                replace q297 := eq_true q297
                go_wp2
                go_ret
                exact ⟨by first | rfl | (simp; done) | (simp [*]; done), by repeat (first | exact Drawn0.refl _ | apply Drawn0.step)⟩
              · rw [if_neg c10] at H
                have c10b0 : decide (300 < (((rd_T43 l0 x3_1).f1).size : Int)) = false := decide_eq_false c10
                have c10b1 : decide (300 < ((rd_T43 l0 x3_1).f1).size) = false := decide_eq_false (by omega)
                clear c10
                by_cases c11 : ((rd_T43 l0 x3_1).f0) < 0
                · rw [if_pos c11] at H
                  have c11b0 : decide (((rd_T43 l0 x3_1).f0) < 0) = true := decide_eq_true c11
                  clear c11
                  obtain rfl := Option.some.inj H
                  have p292 : 0 ≤ (x3_1 : Int) := of_decide_eq_true (by first | (with_reducible assumption) | assumption)
                  have q292 : x3_1 < (l0.length : Int) := of_decide_eq_true (by first | (with_reducible assumption) | assumption)
                  obtain ⟨ad292, e292, hx292_0, hx292_1, hx292_2, hx292_3⟩ := at_T43 HR0.out x3_1 p292 q292
                  cases e292
                  replace p292 := eq_true p292
                  replace q292 := eq_true q292
                  have p297 : 0 ≤ (x3_1 : Int) := of_decide_eq_true (by first | (with_reducible assumption) | assumption)
                  have q297 : x3_1 < (l0.length : Int) := of_decide_eq_true (by first | (with_reducible assumption) | assumption)
                  obtain ⟨ad297, e297, hx297_0, hx297_1, hx297_2, hx297_3⟩ := at_T43 HR0.out x3_1 p297 q297
                  obtain rfl : ad292 = ad297 := (by injection e297)
                  replace p297 := eq_true p297
                  replace q297 := eq_true q297
                  have p298 : 0 ≤ (x3_1 : Int) := of_decide_eq_true (by first | (with_reducible assumption) | assumption)
                  have q298 : x3_1 < (l0.length : Int) := of_decide_eq_true (by first | (with_reducible assumption) | assumption)
                  obtain ⟨ad298, e298, hx298_0, hx298_1, hx298_2, hx298_3⟩ := at_T43 HR0.out x3_1 p298 q298
                  obtain rfl : ad292 = ad298 := (by injection e298)
                  replace p298 := eq_true p298
                  replace q298 := eq_true q298
                  go_wp2
                  go_ret
                  exact ⟨by first | rfl | (simp; done) | (simp [*]; done), by repeat (first | exact Drawn0.refl _ | apply Drawn0.step)⟩
                · rw [if_neg c11] at H
                  have c11b0 : decide (((rd_T43 l0 x3_1).f0) < 0) = false := decide_eq_false c11
                  clear c11
                  by_cases c12 : ((rd_T43 l0 x3_1).f0) > 1
                  · rw [if_pos c12] at H
                    have c12b0 : decide (1 < ((rd_T43 l0 x3_1).f0)) = true := decide_eq_true c12
                    clear c12
                    obtain rfl := Option.some.inj H
                    have p292 : 0 ≤ (x3_1 : Int) := of_decide_eq_true (by first | (with_reducible assumption) | assumption)
                    have q292 : x3_1 < (l0.length : Int) := of_decide_eq_true (by first | (with_reducible assumption) | assumption)
                    obtain ⟨ad292, e292, hx292_0, hx292_1, hx292_2, hx292_3⟩ := at_T43 HR0.out x3_1 p292 q292
                    cases e292
                    replace p292 := eq_true p292
                    replace q292 := eq_true q292
                    have p297 : 0 ≤ (x3_1 : Int) := of_decide_eq_true (by first | (with_reducible assumption) | assumption)
                    have q297 : x3_1 < (l0.length : Int) := of_decide_eq_true (by first | (with_reducible assumption) | assumption)
                    obtain ⟨ad297, e297, hx297_0, hx297_1, hx297_2, hx297_3⟩ := at_T43 HR0.out x3_1 p297 q297
                    obtain rfl : ad292 = ad297 := (by injection e297)
                    replace p297 := eq_true p297
                    replace q297 := eq_true q297
                    have p298 : 0 ≤ (x3_1 : Int) := of_decide_eq_true (by first | (with_reducible assumption) | assumption)
                    have q298 : x3_1 < (l0.length : Int) := of_decide_eq_true (by first | (with_reducible assumption) | assumption)
                    obtain ⟨ad298, e298, hx298_0, hx298_1, hx298_2, hx298_3⟩ := at_T43 HR0.out x3_1 p298 q298
                    obtain rfl : ad292 = ad298 := (by injection e298)
                    replace p298 := eq_true p298
                    replace q298 := eq_true q298
                    have p299 : 0 ≤ (x3_1 : Int) := of_decide_eq_true (by first | (with_reducible assumption) | assumption)
                    have q299 : x3_1 < (l0.length : Int) := of_decide_eq_true (by first | (with_reducible assumption) | assumption)
                    obtain ⟨ad299, e299, hx299_0, hx299_1, hx299_2, hx299_3⟩ := at_T43 HR0.out x3_1 p299 q299
                    obtain rfl : ad292 = ad299 := (by injection e299)
                    replace p299 := eq_true p299
                    replace q299 := eq_true q299
                    go_wp2
                    go_ret
                    exact ⟨by first | rfl | (simp; done) | (simp [*]; done), by repeat (first | exact Drawn0.refl _ | apply Drawn0.step)⟩
                  · rw [if_neg c12] at H
                    have c12b0 : decide (1 < ((rd_T43 l0 x3_1).f0)) = false := decide_eq_false c12
                    clear c12
                    have H' := Aside0.mk H
                    clear H
                    have p292 : 0 ≤ (x3_1 : Int) := of_decide_eq_true (by first | (with_reducible assumption) | assumption)
                    have q292 : x3_1 < (l0.length : Int) := of_decide_eq_true (by first | (with_reducible assumption) | assumption)
                    obtain ⟨ad292, e292, hx292_0, hx292_1, hx292_2, hx292_3⟩ := at_T43 HR0.out x3_1 p292 q292
                    cases e292
                    replace p292 := eq_true p292
                    replace q292 := eq_true q292
                    have p297 : 0 ≤ (x3_1 : Int) := of_decide_eq_true (by first | (with_reducible assumption) | assumption)
                    have q297 : x3_1 < (l0.length : Int) := of_decide_eq_true (by first | (with_reducible assumption) | assumption)
                    obtain ⟨ad297, e297, hx297_0, hx297_1, hx297_2, hx297_3⟩ := at_T43 HR0.out x3_1 p297 q297
                    obtain rfl : ad292 = ad297 := (by injection e297)
                    replace p297 := eq_true p297
                    replace q297 := eq_true q297
                    have p298 : 0 ≤ (x3_1 : Int) := of_decide_eq_true (by first | (with_reducible assumption) | assumption)
                    have q298 : x3_1 < (l0.length : Int) := of_decide_eq_true (by first | (with_reducible assumption) | assumption)
                    obtain ⟨ad298, e298, hx298_0, hx298_1, hx298_2, hx298_3⟩ := at_T43 HR0.out x3_1 p298 q298
                    obtain rfl : ad292 = ad298 := (by injection e298)
                    replace p298 := eq_true p298
                    replace q298 := eq_true q298
                    have p299 : 0 ≤ (x3_1 : Int) := of_decide_eq_true (by first | (with_reducible assumption) | assumption)
                    have q299 : x3_1 < (l0.length : Int) := of_decide_eq_true (by first | (with_reducible assumption) | assumption)
                    obtain ⟨ad299, e299, hx299_0, hx299_1, hx299_2, hx299_3⟩ := at_T43 HR0.out x3_1 p299 q299
                    obtain rfl : ad292 = ad299 := (by injection e299)
                    replace p299 := eq_true p299
                    replace q299 := eq_true q299
                    go_wp2
                    go_roundg k1
                    case measure => have := HK1.out; omega
                    case rel => exact ⟨(wrap64 (x3_1 + 1)), (by first | rfl | (simp; done) | (simp [*]; done)), H', ⟨by have := HK1.out; omega⟩, by repeat (first | exact Drawn0.refl _ | apply Drawn0.step)⟩
          · rw [if_neg c4] at H
            exact absurd H (by simp)
        · rw [if_neg c3] at H
          have c3b0 : decide (x3_1 < (l0.length : Int)) = false := decide_eq_false c3
          clear c3
          obtain rfl := Option.some.inj H
          go_wp2
          go_ret
          exact ⟨by first | rfl | (simp; done) | (simp [*]; done), by repeat (first | exact Drawn0.refl _ | apply Drawn0.step)⟩

-- NOT PRINTED: function 23 (files_Table_Drop)

-- NOT PRINTED: function 17 (cupellaw13_Do)

-- NOT PRINTED: function 18 (files_Table_Find)

-- NOT PRINTED: function 5 (cupellaw13_FilesSince)

/-! ### cupelref13_Find: function 29 -/
def cupelref13_Find.l0 : Nat → ByteArray → Int → Int → Int → List (S55) → Option (Int)
  | 0, _, _, _, _, _ => none
  | k + 1, x1, x5, x301000, x301001, x301002 => if x5 < (x301002.length : Int) then (if 0 ≤ x5 then (if ((rd_T55 x301002 x5).f0).toList = x1.toList then (some x5) else (cupelref13_Find.l0 k x1 (wrap64 (x5 + 1)) x301000 x301001 x301002)) else (none)) else (some (-1))
def cupelref13_Find.f (k : Nat) (a0_0 : Int) (a0_1 : Int) (l0_2 : List (S55)) (a1 : ByteArray) : Option (Int) := cupelref13_Find.l0 k a1 0 a0_0 a0_1 l0_2
theorem cupelref13_Find.mono_l : ∀ k, (∀ y0 y1 y2 y3 y4, LeO (cupelref13_Find.l0 k y0 y1 y2 y3 y4) (cupelref13_Find.l0 (k + 1) y0 y1 y2 y3 y4))
  | 0 => fun _ _ _ _ _ r h => by simp [cupelref13_Find.l0] at h
  | k + 1 => by
    have ih0 := cupelref13_Find.mono_l k
    · intro y0 y1 y2 y3 y4
      unfold cupelref13_Find.l0
      repeat' first
      | (with_reducible exact ih0 _ _ _ _ _)
      | (with_reducible exact LeO.refl _)
      | (with_reducible exact LeO.none _)
      | (with_reducible refine LeO.ite ?_ ?_)
      | (with_reducible refine LeO.bind ?_ (fun _ => ?_))
      | exact ih0 _ _ _ _ _
      | exact LeO.none _
      | refine LeO.ite ?_ ?_
      | refine LeO.bind ?_ (fun _ => ?_)
theorem cupelref13_Find.mono : ∀ a0 a1 a2 a3 k, LeO (cupelref13_Find.f k a0 a1 a2 a3) (cupelref13_Find.f (k + 1) a0 a1 a2 a3) := by
  intro a0 a1 a2 a3 k
  have ih0 := cupelref13_Find.mono_l k
  unfold cupelref13_Find.f
  repeat' first
      | (with_reducible exact ih0 _ _ _ _ _)
      | (with_reducible exact LeO.refl _)
      | (with_reducible exact LeO.none _)
      | (with_reducible refine LeO.ite ?_ ?_)
      | (with_reducible refine LeO.bind ?_ (fun _ => ?_))
      | exact ih0 _ _ _ _ _
      | exact LeO.none _
      | refine LeO.ite ?_ ?_
      | refine LeO.bind ?_ (fun _ => ?_)
set_option maxHeartbeats 8000000 in
set_option maxRecDepth 100000 in
theorem cupelref13_Find.calls (k : Nat) (a0_0 : Int) (a0_1 : Int) (A0_2 : Option Addr) (c0_2 : Nat) (l0_2 : List (S55)) (a1 : ByteArray) (r : Int) (w : World) (hr0_2 : Kd.C k55 w A0_2 l0_2.length l0_2) (hc0_2 : l0_2.length ≤ c0_2) (h : cupelref13_Find.f k a0_0 a0_1 l0_2 a1 = some r) :
    Calls Try.prog 29 #[.agg #[.int .i64 a0_0, .int .i64 a0_1, .slice A0_2 l0_2.length c0_2], .string a1] w fun e w' => e = .returned (.int .i64 r) ∧ Below w.heap.size w w' := by
  have hu49 := Try.underlying49
  have HR0_2 := Aside0.mk hr0_2
  have HC0_2 := Aside0.mk hc0_2
  clear hr0_2 hc0_2
  have HB := Aside0.mk (Below.refl w.heap.size w)
  have H : (cupelref13_Find.l0 k a1 0 a0_0 a0_1 l0_2) = some r := h
  clear h
  have H' := Aside0.mk H
  clear H
  go_enter Try.func29, Try.ntmps29
  go_wp2_with (first | ((with_reducible refine gate_dst (N := 2) rfl ?_); refine box_event ?hg (N := 2) ?hd (cs := #[.int .i64 a0_0, .int .i64 a0_1, .slice A0_2 l0_2.length c0_2]) (t := 49) ?hr ?_; (case hd => rfl); (case hg => rfl); (case hr => first | (go_simp; done) | (go_simp; rfl)); intro gb300 hg w3 hbox hb; have n0_ := Aside0.mk (below_step (by repeat (first | (with_reducible first | exact HB.out | apply below_alloc | apply pw_below_drewN | apply below_drew1) | exact HB.out)) hb); have n1_ := Aside0.mk (hbox); have n2_ := Aside0.mk ((by rw [hg]; exact (below_size (by repeat (first | (with_reducible first | exact HB.out | apply below_alloc | apply pw_below_drewN | apply below_drew1) | exact HB.out))) : w.heap.size ≤ gb300)); have n3_ := Aside0.mk ((by rw [hg]; exact (below_size (by repeat (first | (with_reducible first | exact HB.out | apply below_alloc | apply pw_below_drewN | apply below_drew1) | exact HB.out))) : w.heap.size ≤ gb300)); clear HB; have HB := n0_; have BK300 := n1_; have GW300 := n2_; have GE300 := n3_; clear n0_ n1_ n2_ n3_; clear hb hbox hg))
  go_loopg [5] k (fun kq v5 w' => ∃ (x5_1 : Int), v5 = .int .i64 x5_1 ∧ Aside0 (cupelref13_Find.l0 kq a1 x5_1 a0_0 a0_1 l0_2 = some r) ∧ Aside0 (kq ≤ k) ∧ Aside0 (w'.heap[gb300]? = some (.cells #[.int .i64 a0_0, .int .i64 a0_1, (.slice A0_2 l0_2.length c0_2)] 49 (0, 0))) ∧ Aside0 (Below w.heap.size w w'))
  case atStart => exact ⟨(0), (by first | rfl | (simp; done) | (simp [*]; done)), H', ⟨Nat.le_refl _⟩, ⟨by (with_reducible repeat (first | refine blk_drewN ?_ _ | refine blk_drew ?_ | refine blk_alloc ?_ _)); exact BK300.out⟩, ⟨by repeat (first | (with_reducible first | exact HB.out | apply below_alloc | apply pw_below_drewN | apply below_drew1 | refine below_set ?_ GE300.out) | exact HB.out)⟩⟩
  case round =>
    clear H'
    try clear c2
    try clear p2
    obtain ⟨x5_1, rfl, HA, HK1, BK300, HB⟩ := hrel
    cases gk with
    | zero => exact absurd HA.out (by simp [cupelref13_Find.l0])
    | succ k1 =>
      have H := HA.out
      clear HA
      simp only [cupelref13_Find.l0] at H
      by_cases c4 : x5_1 < (l0_2.length : Int)
      · rw [if_pos c4] at H
        have c4b0 : decide (x5_1 < (l0_2.length : Int)) = true := decide_eq_true c4
        clear c4
        by_cases c5 : 0 ≤ x5_1
        · rw [if_pos c5] at H
          have c5b0 : decide (0 ≤ x5_1) = true := decide_eq_true c5
          clear c5
          by_cases c6 : ((rd_T55 l0_2 x5_1).f0).toList = a1.toList
          · rw [if_pos c6] at H
            have c6b0 : (((rd_T55 l0_2 x5_1).f0).toList == a1.toList) = true := beq_iff_eq.mpr c6
            have c6b1 : (((rd_T55 l0_2 x5_1).f0).toList != a1.toList) = false := bne_eq_false_iff_eq.mpr c6
            clear c6
            obtain rfl := Option.some.inj H
            have hcz7_0 : wr.cell? ⟨gb300, 0, none⟩ = some (.int .i64 a0_0) := (blk_cell BK300.out 0).trans rfl
            have hcz7_1 : wr.cell? ⟨gb300, 1, none⟩ = some (.int .i64 a0_1) := (blk_cell BK300.out 1).trans rfl
            have hcz7_2 : wr.cell? ⟨gb300, 2, none⟩ = some (.slice A0_2 l0_2.length c0_2) := (blk_cell BK300.out 2).trans rfl
            have hfz7_0 := blk_frozen BK300.out 0
            have hfz7_1 := blk_frozen BK300.out 1
            have hfz7_2 := blk_frozen BK300.out 2
            have p301 : 0 ≤ (x5_1 : Int) := of_decide_eq_true (by first | (with_reducible assumption) | assumption)
            have q301 : x5_1 < (l0_2.length : Int) := of_decide_eq_true (by first | (with_reducible assumption) | assumption)
            obtain ⟨ad301, e301, hx301_0, hx301_1, hx301_2, hx301_3, hx301_4⟩ := at_T55 HR0_2.out x5_1 p301 q301
            cases e301
            replace hx301_0 := (HB.out.cell (World.block_lt_of_cell? w _ hx301_0)).trans hx301_0
            replace hx301_1 := (HB.out.cell (World.block_lt_of_cell? w _ hx301_1)).trans hx301_1
            replace hx301_2 := (HB.out.cell (World.block_lt_of_cell? w _ hx301_2)).trans hx301_2
            replace hx301_3 := (HB.out.cell (World.block_lt_of_cell? w _ hx301_3)).trans hx301_3
            replace hx301_4 := (HB.out.cell (World.block_lt_of_cell? w _ hx301_4)).trans hx301_4
            replace p301 := eq_true p301
            replace q301 := eq_true q301
            go_wp2
            go_ret
            exact ⟨by first | rfl | (simp [errW_none, errW_some] <;> rfl) | (simp [*, errW_none, errW_some] <;> rfl), by repeat (first | (with_reducible first | exact HB.out | apply below_alloc | apply pw_below_drewN | apply below_drew1 | refine below_set ?_ GE300.out) | exact HB.out)⟩
          · rw [if_neg c6] at H
            have c6b0 : (((rd_T55 l0_2 x5_1).f0).toList == a1.toList) = false := beq_eq_false_iff_ne.mpr c6
            have c6b1 : (((rd_T55 l0_2 x5_1).f0).toList != a1.toList) = true := bne_iff_ne.mpr c6
            have H' := Aside0.mk H
            clear H
            have hcz8_0 : wr.cell? ⟨gb300, 0, none⟩ = some (.int .i64 a0_0) := (blk_cell BK300.out 0).trans rfl
            have hcz8_1 : wr.cell? ⟨gb300, 1, none⟩ = some (.int .i64 a0_1) := (blk_cell BK300.out 1).trans rfl
            have hcz8_2 : wr.cell? ⟨gb300, 2, none⟩ = some (.slice A0_2 l0_2.length c0_2) := (blk_cell BK300.out 2).trans rfl
            have hfz8_0 := blk_frozen BK300.out 0
            have hfz8_1 := blk_frozen BK300.out 1
            have hfz8_2 := blk_frozen BK300.out 2
            have p301 : 0 ≤ (x5_1 : Int) := of_decide_eq_true (by first | (with_reducible assumption) | assumption)
            have q301 : x5_1 < (l0_2.length : Int) := of_decide_eq_true (by first | (with_reducible assumption) | assumption)
            obtain ⟨ad301, e301, hx301_0, hx301_1, hx301_2, hx301_3, hx301_4⟩ := at_T55 HR0_2.out x5_1 p301 q301
            cases e301
            replace hx301_0 := (HB.out.cell (World.block_lt_of_cell? w _ hx301_0)).trans hx301_0
            replace hx301_1 := (HB.out.cell (World.block_lt_of_cell? w _ hx301_1)).trans hx301_1
            replace hx301_2 := (HB.out.cell (World.block_lt_of_cell? w _ hx301_2)).trans hx301_2
            replace hx301_3 := (HB.out.cell (World.block_lt_of_cell? w _ hx301_3)).trans hx301_3
            replace hx301_4 := (HB.out.cell (World.block_lt_of_cell? w _ hx301_4)).trans hx301_4
            replace p301 := eq_true p301
            replace q301 := eq_true q301
            go_wp2
            go_roundg k1
            case measure => have := HK1.out; omega
            case rel => exact ⟨(wrap64 (x5_1 + 1)), (by first | rfl | (simp; done) | (simp [*]; done)), H', ⟨by have := HK1.out; omega⟩, ⟨by (with_reducible repeat (first | refine blk_drewN ?_ _ | refine blk_drew ?_ | refine blk_alloc ?_ _)); exact BK300.out⟩, ⟨by repeat (first | (with_reducible first | exact HB.out | apply below_alloc | apply pw_below_drewN | apply below_drew1 | refine below_set ?_ GE300.out) | exact HB.out)⟩⟩
        · rw [if_neg c5] at H
          exact absurd H (by simp)
      · rw [if_neg c4] at H
        have c4b0 : decide (x5_1 < (l0_2.length : Int)) = false := decide_eq_false c4
        clear c4
        obtain rfl := Option.some.inj H
        have hcz9_0 : wr.cell? ⟨gb300, 0, none⟩ = some (.int .i64 a0_0) := (blk_cell BK300.out 0).trans rfl
        have hcz9_1 : wr.cell? ⟨gb300, 1, none⟩ = some (.int .i64 a0_1) := (blk_cell BK300.out 1).trans rfl
        have hcz9_2 : wr.cell? ⟨gb300, 2, none⟩ = some (.slice A0_2 l0_2.length c0_2) := (blk_cell BK300.out 2).trans rfl
        have hfz9_0 := blk_frozen BK300.out 0
        have hfz9_1 := blk_frozen BK300.out 1
        have hfz9_2 := blk_frozen BK300.out 2
        go_wp2
        go_ret
        exact ⟨by first | rfl | (simp [errW_none, errW_some] <;> rfl) | (simp [*, errW_none, errW_some] <;> rfl), by repeat (first | (with_reducible first | exact HB.out | apply below_alloc | apply pw_below_drewN | apply below_drew1 | refine below_set ?_ GE300.out) | exact HB.out)⟩

end Go.Proofs.Ytonhfcjldbohbaa.PA
