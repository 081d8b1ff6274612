-- Written by a program of this session (wip/xprint.py over the kit's printer). Lean checks it.
import Derived.Test.YteinhpfjlfeaaaaDoorPAx0
import Derived.Test.YteinhpfjlfeaaaaDoorPAx2
import Derived.Test.YteinhpfjlfeaaaaDoorExtItoa
import Derived.Test.YteinhpfjlfeaaaaDoorExtStr
namespace Go.Proofs.YteinhpfjlfeaaaaDoor.PA
open Go.RowKit Go.Proofs.YteinhpfjlfeaaaaDoorW.PrintWords Go.Proofs.YteinhpfjlfeaaaaDoorW.PrintLast Go.Proofs.YteinhpfjlfeaaaaDoorW.PrintMore
attribute [local go_sem] max2_int min2_int max_two min_two max_three min_three max_four min_four   -- for this text's walks alone
set_option linter.unusedVariables false
set_option linter.unusedSimpArgs false

/-! ### diag_Place: function 13 -/
def diag_Place.f (a0 : ByteArray) (a1 : Int) : Option (Int × Int) := if 0 ≤ (mx 0 (mn a1 (a0.size : Int))) then (if (mx 0 (mn a1 (a0.size : Int))) ≤ (a0.size : Int) then ((strings_Count.f (a0.extract 0 ((mx 0 (mn a1 (a0.size : Int))) : Int).toNat) (⟨#[10]⟩ : ByteArray)).bind fun t120 => ((strings_LastIndexByte.f (a0.extract 0 ((mx 0 (mn a1 (a0.size : Int))) : Int).toNat) 10).bind fun t121 => (some (wrap64 (1 + t120), wrap64 (((a0.extract 0 ((mx 0 (mn a1 (a0.size : Int))) : Int).toNat).size : Int) - t121))))) else (none)) else (none)
set_option maxHeartbeats 8000000 in
set_option maxRecDepth 100000 in
theorem diag_Place.calls (a0 : ByteArray) (a1 : Int) (r1 : Int) (r2 : Int) (w : World) (h : diag_Place.f a0 a1 = some (r1, r2)) :
    Calls Tryd.prog 13 #[.string a0, .int .i64 a1] w fun e w' => e = .returned (.tuple #[.int .i64 r1, .int .i64 r2]) ∧ Below w.heap.size w w' := by
  have HB := Aside0.mk (Below.refl w.heap.size w)
  have H : (if 0 ≤ (mx 0 (mn a1 (a0.size : Int))) then (if (mx 0 (mn a1 (a0.size : Int))) ≤ (a0.size : Int) then ((strings_Count.f (a0.extract 0 ((mx 0 (mn a1 (a0.size : Int))) : Int).toNat) (⟨#[10]⟩ : ByteArray)).bind fun t120 => ((strings_LastIndexByte.f (a0.extract 0 ((mx 0 (mn a1 (a0.size : Int))) : Int).toNat) 10).bind fun t121 => (some (wrap64 (1 + t120), wrap64 (((a0.extract 0 ((mx 0 (mn a1 (a0.size : Int))) : Int).toNat).size : Int) - t121))))) else (none)) else (none)) = some (r1, r2) := h
  clear h
  obtain ⟨ji3, hji3⟩ : ∃ j_ : Int, (mn a1 (a0.size : Int)) = j_ := ⟨_, rfl⟩
  replace H : (if 0 ≤ (mx 0 (ji3)) then (if (mx 0 (ji3)) ≤ (a0.size : Int) then ((strings_Count.f (a0.extract 0 ((mx 0 (ji3)) : Int).toNat) (⟨#[10]⟩ : ByteArray)).bind fun t120 => ((strings_LastIndexByte.f (a0.extract 0 ((mx 0 (ji3)) : Int).toNat) 10).bind fun t121 => (some (wrap64 (1 + t120), wrap64 (((a0.extract 0 ((mx 0 (ji3)) : Int).toNat).size : Int) - t121))))) else (none)) else (none)) = some (r1, r2) := by first | (rw [hji3] at H; exact H) | (simp only [hji3] at H ⊢; exact H)
  have hji3_ : (if (a0.size : Int) < a1 then (a0.size : Int) else a1) = ji3 := hji3
  obtain ⟨ji4, hji4⟩ : ∃ j_ : Int, (mx 0 (ji3)) = j_ := ⟨_, rfl⟩
  replace H : (if 0 ≤ (ji4) then (if (ji4) ≤ (a0.size : Int) then ((strings_Count.f (a0.extract 0 ((ji4) : Int).toNat) (⟨#[10]⟩ : ByteArray)).bind fun t120 => ((strings_LastIndexByte.f (a0.extract 0 ((ji4) : Int).toNat) 10).bind fun t121 => (some (wrap64 (1 + t120), wrap64 (((a0.extract 0 ((ji4) : Int).toNat).size : Int) - t121))))) else (none)) else (none)) = some (r1, r2) := by first | (rw [hji4] at H; exact H) | (simp only [hji4] at H ⊢; exact H)
  have hji4_ : (if 0 < (ji3) then (ji3) else 0) = ji4 := hji4
  by_cases c5 : 0 ≤ (ji4)
  · rw [if_pos c5] at H
    have c5b0 := eq_true c5
    have c5b1 : decide (0 ≤ (ji4)) = true := decide_eq_true c5
    clear c5
    by_cases c6 : (ji4) ≤ (a0.size : Int)
    · rw [if_pos c6] at H
      have c6b0 := eq_true c6
      have c6b1 : decide ((ji4) ≤ (a0.size : Int)) = true := decide_eq_true c6
      clear c6
      replace H := Option.bind_eq_some_iff.mp H
      obtain ⟨t120, A70, H⟩ := H
      replace H : ((strings_LastIndexByte.f (a0.extract 0 ((ji4) : Int).toNat) 10).bind fun t121 => (some (wrap64 (1 + t120), wrap64 (((a0.extract 0 ((ji4) : Int).toNat).size : Int) - t121)))) = some (r1, r2) := H
      have A7 := Aside0.mk A70
      clear A70
      replace H := Option.bind_eq_some_iff.mp H
      obtain ⟨t121, A80, H⟩ := H
      replace H : (some (wrap64 (1 + t120), wrap64 (((a0.extract 0 ((ji4) : Int).toNat).size : Int) - t121))) = some (r1, r2) := H
      have A8 := Aside0.mk A80
      clear A80
      simp only [Option.some.injEq, Prod.mk.injEq] at H
      obtain ⟨rfl, rfl⟩ := H
      go_enter Tryd.func13, Tryd.ntmps13
      go_wp2_with (first | ((with_reducible refine gate_callee (f := 22) rfl ?_); refine goesL_ (some 15) rfl rfl Tryd.func22 (by kernel_rfl) rfl #[.string (a0.extract 0 ((ji4) : Int).toNat), .string (⟨#[10]⟩ : ByteArray)] rfl (by (try simp only [List.map_toArray, List.map_cons, List.map_nil]); first | done | (simp only [hji4]; rfl) | rfl | (simp only [List.length_drop, List.length_take]; rfl)) ?_; (with_reducible refine (strings_Count.calls (a0.extract 0 ((ji4) : Int).toNat) (⟨#[10]⟩ : ByteArray) t120 _ A7.out).mono ?_); rintro e w' ⟨rfl, ⟨nd, rfl⟩⟩; refine ⟨_, rfl, ?_⟩) | ((with_reducible refine gate_callee (f := 23) rfl ?_); refine goesL_ (some 20) rfl rfl Tryd.func23 (by kernel_rfl) rfl #[.string (a0.extract 0 ((ji4) : Int).toNat), .int .u8 10] rfl (by (try simp only [List.map_toArray, List.map_cons, List.map_nil]); first | done | (simp only [hji4]; rfl) | rfl | (simp only [List.length_drop, List.length_take]; rfl)) ?_; (with_reducible refine (strings_LastIndexByte.calls (a0.extract 0 ((ji4) : Int).toNat) 10 t121 _ A8.out).mono ?_); rintro e w' ⟨rfl, ⟨nd, rfl⟩⟩; refine ⟨_, rfl, ?_⟩))
      go_ret2
      exact ⟨by first | rfl | (simp [errW_none, errW_some] <;> rfl) | (simp only [← hji3, ← hji4]; first | rfl | (simp [errW_none, errW_some] <;> rfl)) | (simp [*, errW_none, errW_some] <;> rfl), by repeat (first | (with_reducible first | exact HB.out | apply below_alloc | apply pw_below_drewN | apply below_drew1) | exact HB.out)⟩
    · rw [if_neg c6] at H
      exact absurd H (by simp)
  · rw [if_neg c5] at H
    exact absurd H (by simp)

/-! ### cupellaw19_alive: function 8 -/
def cupellaw19_alive.f  : Option (Bool) := (diag_Place.f (⟨#[97, 98, 10, 99]⟩ : ByteArray) 3).bind fun bt122 => (if bt122.1 = 2 then (if bt122.2 = 1 then ((diag_Says.f 0 4 (⟨#[120]⟩ : ByteArray)).bind fun t124 => (some (t124.toList == ([116, 119, 105, 99, 101, 58, 32, 120] : List UInt8)))) else (some false)) else (some false))
set_option maxHeartbeats 8000000 in
set_option maxRecDepth 100000 in
theorem cupellaw19_alive.calls  (r : Bool) (w : World) (h : cupellaw19_alive.f  = some r) (hT : Tabs w) :
    Calls Tryd.prog 8 #[] w fun e w' => e = .returned (.bool r) ∧ Below w.heap.size w w' := by
  have HT0 := Aside0.mk hT
  clear hT
  have hu26 := Tryd.underlying26
  have HB := Aside0.mk (Below.refl w.heap.size w)
  have H : ((diag_Place.f (⟨#[97, 98, 10, 99]⟩ : ByteArray) 3).bind fun bt122 => (if bt122.1 = 2 then (if bt122.2 = 1 then ((diag_Says.f 0 4 (⟨#[120]⟩ : ByteArray)).bind fun t124 => (some (t124.toList == ([116, 119, 105, 99, 101, 58, 32, 120] : List UInt8)))) else (some false)) else (some false))) = some r := h
  clear h
  replace H := Option.bind_eq_some_iff.mp H
  obtain ⟨⟨t122, t123⟩, A10, H⟩ := H
  replace H : (if t122 = 2 then (if t123 = 1 then ((diag_Says.f 0 4 (⟨#[120]⟩ : ByteArray)).bind fun t124 => (some (t124.toList == ([116, 119, 105, 99, 101, 58, 32, 120] : List UInt8)))) else (some false)) else (some false)) = some r := H
  have A1 := Aside0.mk A10
  clear A10
  by_cases c2 : t122 = 2
  · rw [if_pos c2] at H
    have c2b0 : (t122 == 2) = true := beq_iff_eq.mpr c2
    have c2b1 : (t122 != 2) = false := bne_eq_false_iff_eq.mpr c2
    clear c2
    by_cases c3 : t123 = 1
    · rw [if_pos c3] at H
      have c3b0 : (t123 == 1) = true := beq_iff_eq.mpr c3
      have c3b1 : (t123 != 1) = false := bne_eq_false_iff_eq.mpr c3
      clear c3
      replace H := Option.bind_eq_some_iff.mp H
      obtain ⟨t124, A40, H⟩ := H
      replace H : (some (t124.toList == ([116, 119, 105, 99, 101, 58, 32, 120] : List UInt8))) = some r := H
      have A4 := Aside0.mk A40
      clear A40
      obtain rfl := Option.some.inj H
      go_enter Tryd.func8, Tryd.ntmps8
      go_wp2_with (first | ((with_reducible refine gate_callee (f := 13) rfl ?_); refine goesL_ (some 4) rfl rfl Tryd.func13 (by kernel_rfl) rfl #[.string (⟨#[97, 98, 10, 99]⟩ : ByteArray), .int .i64 3] rfl (by (try simp only [List.map_toArray, List.map_cons, List.map_nil]); first | done | rfl | (simp only [List.length_drop, List.length_take]; rfl)) ?_; (with_reducible refine (diag_Place.calls (⟨#[97, 98, 10, 99]⟩ : ByteArray) 3 t122 t123 _ A1.out).mono ?_); rintro e w5 ⟨rfl, hb⟩; refine ⟨_, rfl, ?_⟩; have n0_ := Aside0.mk (below_step (by repeat (first | (with_reducible first | exact HB.out | apply below_alloc | apply pw_below_drewN | apply below_drew1) | exact HB.out)) hb); clear HB; have HB := n0_; clear n0_; (try clear hb); (try clear hb2); (try clear hk); (try clear hi)) | (go_at_call 9; (with_reducible refine (diag_Says.calls 0 4 (⟨#[120]⟩ : ByteArray) t124 _ A4.out (Tabs.below HT0.out (Nat.le_refl _) (by repeat (first | (with_reducible first | exact HB.out | apply below_alloc | apply pw_below_drewN | apply below_drew1) | exact HB.out)))).mono ?_); rintro e w6 ⟨rfl, hb⟩; (try clear A4); have n0_ := Aside0.mk (below_step (by repeat (first | (with_reducible first | exact HB.out | apply below_alloc | apply pw_below_drewN | apply below_drew1) | exact HB.out)) hb); clear HB; have HB := n0_; clear n0_; (try clear hb); (try clear hb2); (try clear hk); (try clear hi)))
      go_ret
      exact ⟨by first | rfl | (simp [errW_none, errW_some] <;> rfl) | (simp [*, errW_none, errW_some] <;> rfl), by repeat (first | (with_reducible first | exact HB.out | apply below_alloc | apply pw_below_drewN | apply below_drew1) | exact HB.out)⟩
    · rw [if_neg c3] at H
      have c3b0 : (t123 == 1) = false := beq_eq_false_iff_ne.mpr c3
      have c3b1 : (t123 != 1) = true := bne_iff_ne.mpr c3
      obtain rfl := Option.some.inj H
      go_enter Tryd.func8, Tryd.ntmps8
      go_wp2_with (first | ((with_reducible refine gate_callee (f := 13) rfl ?_); refine goesL_ (some 4) rfl rfl Tryd.func13 (by kernel_rfl) rfl #[.string (⟨#[97, 98, 10, 99]⟩ : ByteArray), .int .i64 3] rfl (by (try simp only [List.map_toArray, List.map_cons, List.map_nil]); first | done | rfl | (simp only [List.length_drop, List.length_take]; rfl)) ?_; (with_reducible refine (diag_Place.calls (⟨#[97, 98, 10, 99]⟩ : ByteArray) 3 t122 t123 _ A1.out).mono ?_); rintro e w7 ⟨rfl, hb⟩; refine ⟨_, rfl, ?_⟩; have n0_ := Aside0.mk (below_step (by repeat (first | (with_reducible first | exact HB.out | apply below_alloc | apply pw_below_drewN | apply below_drew1) | exact HB.out)) hb); clear HB; have HB := n0_; clear n0_; (try clear hb); (try clear hb2); (try clear hk); (try clear hi)))
      go_ret
      exact ⟨by first | rfl | (simp [errW_none, errW_some] <;> rfl) | (simp [*, errW_none, errW_some] <;> rfl), by repeat (first | (with_reducible first | exact HB.out | apply below_alloc | apply pw_below_drewN | apply below_drew1) | exact HB.out)⟩
  · rw [if_neg c2] at H
    have c2b0 : (t122 == 2) = false := beq_eq_false_iff_ne.mpr c2
    have c2b1 : (t122 != 2) = true := bne_iff_ne.mpr c2
    obtain rfl := Option.some.inj H
    go_enter Tryd.func8, Tryd.ntmps8
    go_wp2_with (first | ((with_reducible refine gate_callee (f := 13) rfl ?_); refine goesL_ (some 4) rfl rfl Tryd.func13 (by kernel_rfl) rfl #[.string (⟨#[97, 98, 10, 99]⟩ : ByteArray), .int .i64 3] rfl (by (try simp only [List.map_toArray, List.map_cons, List.map_nil]); first | done | rfl | (simp only [List.length_drop, List.length_take]; rfl)) ?_; (with_reducible refine (diag_Place.calls (⟨#[97, 98, 10, 99]⟩ : ByteArray) 3 t122 t123 _ A1.out).mono ?_); rintro e w8 ⟨rfl, hb⟩; refine ⟨_, rfl, ?_⟩; have n0_ := Aside0.mk (below_step (by repeat (first | (with_reducible first | exact HB.out | apply below_alloc | apply pw_below_drewN | apply below_drew1) | exact HB.out)) hb); clear HB; have HB := n0_; clear n0_; (try clear hb); (try clear hb2); (try clear hk); (try clear hi)))
    go_ret
    exact ⟨by first | rfl | (simp [errW_none, errW_some] <;> rfl) | (simp [*, errW_none, errW_some] <;> rfl), by repeat (first | (with_reducible first | exact HB.out | apply below_alloc | apply pw_below_drewN | apply below_drew1) | exact HB.out)⟩

/-! ### cupelref18_Digits: function 21 -/
def cupelref18_Digits.f : Nat → Int → Option (ByteArray)
  | 0, _ => none
  | k + 1, a0 => if a0 > 9 then ((cupelref18_Digits.f k (wrap64 (Int.tdiv a0 10))).bind fun t125 => ((cupelref18_Digits.f k (Int.tmod a0 10)).bind fun t126 => (if t125.size + t126.size ≤ 9223372036854775807 then (some (t125 ++ t126)) else (none)))) else (some (strOfNums (([(wrap64 (48 + a0)) % 256] : List Int))))
theorem cupelref18_Digits.mono_l : ∀ k, (∀ y0, LeO (cupelref18_Digits.f k y0) (cupelref18_Digits.f (k + 1) y0))
  | 0 => fun _ r h => by simp [cupelref18_Digits.f] at h
  | k + 1 => by
    have ih0 := cupelref18_Digits.mono_l k
    · intro y0
      unfold cupelref18_Digits.f
      repeat' first
      | (with_reducible exact ih0 _)
      | (with_reducible exact LeO.refl _)
      | (with_reducible exact LeO.none _)
      | (with_reducible refine LeO.ite ?_ ?_)
      | (with_reducible refine LeO.bind ?_ (fun _ => ?_))
      | exact ih0 _
      | exact LeO.none _
      | refine LeO.ite ?_ ?_
      | refine LeO.bind ?_ (fun _ => ?_)
theorem cupelref18_Digits.mono : ∀ a0 k, LeO (cupelref18_Digits.f k a0) (cupelref18_Digits.f (k + 1) a0) := by
  intro a0 k
  have ih0 := cupelref18_Digits.mono_l k
  exact ih0 a0
set_option maxHeartbeats 8000000 in
set_option maxRecDepth 100000 in
theorem cupelref18_Digits.calls (k : Nat) : ∀ (a0 : Int) (r : ByteArray) (w : World) (h : cupelref18_Digits.f k a0 = some r),
    Calls Tryd.prog 21 #[.int .i64 a0] w fun e w' => e = .returned (.string r) ∧ Below w.heap.size w w' := by
  induction k using Nat.strongRecOn with
  | _ k ih =>
  intro a0 r w h
  cases k with
  | zero => exact absurd h (by simp [cupelref18_Digits.f])
  | succ k =>
  simp only [cupelref18_Digits.f] at h
  have HB := Aside0.mk (Below.refl w.heap.size w)
  have H : (if a0 > 9 then ((cupelref18_Digits.f k (wrap64 (Int.tdiv a0 10))).bind fun t125 => ((cupelref18_Digits.f k (Int.tmod a0 10)).bind fun t126 => (if t125.size + t126.size ≤ 9223372036854775807 then (some (t125 ++ t126)) else (none)))) else (some (strOfNums (([(wrap64 (48 + a0)) % 256] : List Int))))) = some r := h
  clear h
  by_cases c2 : a0 > 9
  · rw [if_pos c2] at H
    have c2b0 : decide (9 < a0) = true := decide_eq_true c2
    clear c2
    replace H := Option.bind_eq_some_iff.mp H
    obtain ⟨t125, A30, H⟩ := H
    replace H : ((cupelref18_Digits.f k (Int.tmod a0 10)).bind fun t126 => (if t125.size + t126.size ≤ 9223372036854775807 then (some (t125 ++ t126)) else (none))) = some r := H
    have A3 := Aside0.mk A30
    clear A30
    replace H := Option.bind_eq_some_iff.mp H
    obtain ⟨t126, A40, H⟩ := H
    replace H : (if t125.size + t126.size ≤ 9223372036854775807 then (some (t125 ++ t126)) else (none)) = some r := H
    have A4 := Aside0.mk A40
    clear A40
    by_cases c5 : t125.size + t126.size ≤ 9223372036854775807
    · rw [if_pos c5] at H
      have c5b0 := eq_true c5
      have c5b9 := eq_false (Nat.not_lt.2 c5)
      try simp only [ByteArray.size_append] at c5b9
      have c5b1 : decide (t125.size + t126.size ≤ 9223372036854775807) = true := decide_eq_true c5
      try have c5b2 : (9223372036854775807 < t125.size + t126.size) = False := eq_false (Nat.not_lt.2 c5)
      obtain rfl := Option.some.inj H
      go_enter Tryd.func21, Tryd.ntmps21
      go_wp2_with (first | ((with_reducible refine gate_callee (f := 21) rfl ?_); refine goesL_ (some 7) rfl rfl Tryd.func21 (by kernel_rfl) rfl #[.int .i64 (wrap64 (Int.tdiv a0 10))] rfl (by (try simp only [List.map_toArray, List.map_cons, List.map_nil]); first | done | rfl | (simp only [List.length_drop, List.length_take]; rfl)) ?_; (with_reducible refine (ih k (by omega) (wrap64 (Int.tdiv a0 10)) t125 _ A3.out).mono ?_); rintro e w6 ⟨rfl, hb⟩; refine ⟨_, rfl, ?_⟩; have n0_ := Aside0.mk (below_step (by repeat (first | (with_reducible first | exact HB.out | apply below_alloc | apply pw_below_drewN | apply below_drew1) | exact HB.out)) hb); clear HB; have HB := n0_; clear n0_; (try clear hb); (try clear hb2); (try clear hk); (try clear hi)) | ((with_reducible refine gate_callee (f := 21) rfl ?_); refine goesL_ (some 10) rfl rfl Tryd.func21 (by kernel_rfl) rfl #[.int .i64 (Int.tmod a0 10)] rfl (by (try simp only [List.map_toArray, List.map_cons, List.map_nil]); first | done | rfl | (simp only [List.length_drop, List.length_take]; rfl)) ?_; (with_reducible refine (ih k (by omega) (Int.tmod a0 10) t126 _ A4.out).mono ?_); rintro e w7 ⟨rfl, hb⟩; refine ⟨_, rfl, ?_⟩; have n0_ := Aside0.mk (below_step (by repeat (first | (with_reducible first | exact HB.out | apply below_alloc | apply pw_below_drewN | apply below_drew1) | exact HB.out)) hb); clear HB; have HB := n0_; clear n0_; (try clear hb); (try clear hb2); (try clear hk); (try clear hi)))
      go_ret
      exact ⟨by first | rfl | (simp [errW_none, errW_some] <;> rfl) | (simp [*, errW_none, errW_some] <;> rfl), by repeat (first | (with_reducible first | exact HB.out | apply below_alloc | apply pw_below_drewN | apply below_drew1) | exact HB.out)⟩
    · rw [if_neg c5] at H
      exact absurd H (by simp)
  · rw [if_neg c2] at H
    have c2b0 : decide (9 < a0) = false := decide_eq_false c2
    clear c2
    obtain ⟨y127, hy127⟩ : ∃ y_ : List Int, y_ = (([(wrap64 (48 + a0)) % 256] : List Int)) := ⟨_, rfl⟩
    replace H : (some (strOfNums y127)) = some r := by first | (rw [hy127]; with_reducible exact H) | (have H2_ := (Option.bind_some _ _).symm.trans H; rw [hy127]; with_reducible exact H2_) | (have H2_ := (Option.bind_some _ _).symm.trans H; with_reducible exact H2_) | with_reducible exact H | (rw [hy127]; exact H) | exact H
    have Ny127 := Aside0.mk hy127
    clear hy127
    obtain rfl := Option.some.inj H
    go_enter Tryd.func21, Tryd.ntmps21
    go_wp2_with (first | ((with_reducible refine gate_dst (N := 15) rfl ?_); refine Kd.R_lit (Kd.int .u8) _ 5 ?hg (N := 15) ?hd (xs := ([(wrap64 (48 + a0)) % 256] : List Int)) (inner := [.int .u8 ((wrap64 (48 + a0)) % 256)]) (ok := fun _ => True) (okp := fun _ => True) ?hr ?hp (fun _ hk => hk) trivial (Below.refl _ _) (Nat.le_refl _) (by simp) ?_; (case hd => rfl); (case hg => rfl); (case hr => first | (go_simp; done) | (go_simp; rfl)); (case hp => exact (Reps.one (show Kd.M (Kd.int .u8) _ _ _ ((wrap64 (48 + a0)) % 256) [.int .u8 ((wrap64 (48 + a0)) % 256)] from rfl) (Reps.none _ _))); intro v128 w8 ho9 hb hg_ hnew_; clear hg_ hnew_; (first | rw [← Ny127.out] at ho9 | (simp only [Int.reduceToNat] at ho9; rw [← Ny127.out] at ho9)); have n0_ := Aside0.mk (Kd.R_lower ho9 (below_size (by repeat (first | (with_reducible first | exact HB.out | apply below_alloc | apply pw_below_drewN | apply below_drew1) | exact HB.out)))); have n1_ := Aside0.mk (below_step (by repeat (first | (with_reducible first | exact HB.out | apply below_alloc | apply pw_below_drewN | apply below_drew1) | exact HB.out)) hb); clear HB; have HO129 := n0_; have HB := n1_; clear n0_ n1_; clear hb ho9; have hcv10 := own_string (P := Tryd.prog) Tryd.underlying39 Tryd.underlying5 Tryd.underlying9 (Kd.own_of_R HO129.out)))
    go_ret
    exact ⟨by first | rfl | (simp [errW_none, errW_some] <;> rfl) | (simp [*, errW_none, errW_some] <;> rfl), by repeat (first | (with_reducible first | exact HB.out | apply below_alloc | apply pw_below_drewN | apply below_drew1) | exact HB.out)⟩

/-! ### cupelref19_digits: function 20 -/
def cupelref19_digits.f : Nat → Int → Option (ByteArray)
  | 0, _ => none
  | k + 1, a0 => if a0 < (-9) then ((cupelref19_digits.f k (wrap64 (Int.tdiv a0 10))).bind fun t130 => ((cupelref18_Digits.f k (wrap64 (-(Int.tmod a0 10)))).bind fun t131 => (if t130.size + t131.size ≤ 9223372036854775807 then (some (t130 ++ t131)) else (none)))) else ((cupelref18_Digits.f k (wrap64 (-a0))).bind fun t132 => (some t132))
theorem cupelref19_digits.mono_l : ∀ k, (∀ y0, LeO (cupelref19_digits.f k y0) (cupelref19_digits.f (k + 1) y0))
  | 0 => fun _ r h => by simp [cupelref19_digits.f] at h
  | k + 1 => by
    have ih0 := cupelref19_digits.mono_l k
    · intro y0
      unfold cupelref19_digits.f
      repeat' first
      | (with_reducible exact ih0 _)
      | (with_reducible exact cupelref18_Digits.mono _ _)
      | (with_reducible exact LeO.refl _)
      | (with_reducible exact LeO.none _)
      | (with_reducible refine LeO.ite ?_ ?_)
      | (with_reducible refine LeO.bind ?_ (fun _ => ?_))
      | exact ih0 _
      | exact cupelref18_Digits.mono _ _
      | exact LeO.none _
      | refine LeO.ite ?_ ?_
      | refine LeO.bind ?_ (fun _ => ?_)
theorem cupelref19_digits.mono : ∀ a0 k, LeO (cupelref19_digits.f k a0) (cupelref19_digits.f (k + 1) a0) := by
  intro a0 k
  have ih0 := cupelref19_digits.mono_l k
  exact ih0 a0
set_option maxHeartbeats 8000000 in
set_option maxRecDepth 100000 in
theorem cupelref19_digits.calls (k : Nat) : ∀ (a0 : Int) (r : ByteArray) (w : World) (h : cupelref19_digits.f k a0 = some r),
    Calls Tryd.prog 20 #[.int .i64 a0] w fun e w' => e = .returned (.string r) ∧ Below w.heap.size w w' := by
  induction k using Nat.strongRecOn with
  | _ k ih =>
  intro a0 r w h
  cases k with
  | zero => exact absurd h (by simp [cupelref19_digits.f])
  | succ k =>
  simp only [cupelref19_digits.f] at h
  have HB := Aside0.mk (Below.refl w.heap.size w)
  have H : (if a0 < (-9) then ((cupelref19_digits.f k (wrap64 (Int.tdiv a0 10))).bind fun t130 => ((cupelref18_Digits.f k (wrap64 (-(Int.tmod a0 10)))).bind fun t131 => (if t130.size + t131.size ≤ 9223372036854775807 then (some (t130 ++ t131)) else (none)))) else ((cupelref18_Digits.f k (wrap64 (-a0))).bind fun t132 => (some t132))) = some r := h
  clear h
  by_cases c2 : a0 < (-9)
  · rw [if_pos c2] at H
    have c2b0 : decide (a0 < (-9)) = true := decide_eq_true c2
    clear c2
    replace H := Option.bind_eq_some_iff.mp H
    obtain ⟨t130, A30, H⟩ := H
    replace H : ((cupelref18_Digits.f k (wrap64 (-(Int.tmod a0 10)))).bind fun t131 => (if t130.size + t131.size ≤ 9223372036854775807 then (some (t130 ++ t131)) else (none))) = some r := H
    have A3 := Aside0.mk A30
    clear A30
    replace H := Option.bind_eq_some_iff.mp H
    obtain ⟨t131, A40, H⟩ := H
    replace H : (if t130.size + t131.size ≤ 9223372036854775807 then (some (t130 ++ t131)) else (none)) = some r := H
    have A4 := Aside0.mk A40
    clear A40
    by_cases c5 : t130.size + t131.size ≤ 9223372036854775807
    · rw [if_pos c5] at H
      have c5b0 := eq_true c5
      have c5b9 := eq_false (Nat.not_lt.2 c5)
      try simp only [ByteArray.size_append] at c5b9
      have c5b1 : decide (t130.size + t131.size ≤ 9223372036854775807) = true := decide_eq_true c5
      try have c5b2 : (9223372036854775807 < t130.size + t131.size) = False := eq_false (Nat.not_lt.2 c5)
      obtain rfl := Option.some.inj H
      go_enter Tryd.func20, Tryd.ntmps20
      go_wp2_with (first | ((with_reducible refine gate_callee (f := 20) rfl ?_); refine goesL_ (some 7) rfl rfl Tryd.func20 (by kernel_rfl) rfl #[.int .i64 (wrap64 (Int.tdiv a0 10))] rfl (by (try simp only [List.map_toArray, List.map_cons, List.map_nil]); first | done | rfl | (simp only [List.length_drop, List.length_take]; rfl)) ?_; (with_reducible refine (ih k (by omega) (wrap64 (Int.tdiv a0 10)) t130 _ A3.out).mono ?_); rintro e w6 ⟨rfl, hb⟩; refine ⟨_, rfl, ?_⟩; have n0_ := Aside0.mk (below_step (by repeat (first | (with_reducible first | exact HB.out | apply below_alloc | apply pw_below_drewN | apply below_drew1) | exact HB.out)) hb); clear HB; have HB := n0_; clear n0_; (try clear hb); (try clear hb2); (try clear hk); (try clear hi)) | ((with_reducible refine gate_callee (f := 21) rfl ?_); refine goesL_ (some 11) rfl rfl Tryd.func21 (by kernel_rfl) rfl #[.int .i64 (wrap64 (-(Int.tmod a0 10)))] rfl (by (try simp only [List.map_toArray, List.map_cons, List.map_nil]); first | done | rfl | (simp only [List.length_drop, List.length_take]; rfl)) ?_; (with_reducible refine (cupelref18_Digits.calls k (wrap64 (-(Int.tmod a0 10))) t131 _ A4.out).mono ?_); rintro e w7 ⟨rfl, hb⟩; refine ⟨_, rfl, ?_⟩; have n0_ := Aside0.mk (below_step (by repeat (first | (with_reducible first | exact HB.out | apply below_alloc | apply pw_below_drewN | apply below_drew1) | exact HB.out)) hb); clear HB; have HB := n0_; clear n0_; (try clear hb); (try clear hb2); (try clear hk); (try clear hi)))
      go_ret
      exact ⟨by first | rfl | (simp [errW_none, errW_some] <;> rfl) | (simp [*, errW_none, errW_some] <;> rfl), by repeat (first | (with_reducible first | exact HB.out | apply below_alloc | apply pw_below_drewN | apply below_drew1) | exact HB.out)⟩
    · rw [if_neg c5] at H
      exact absurd H (by simp)
  · rw [if_neg c2] at H
    have c2b0 : decide (a0 < (-9)) = false := decide_eq_false c2
    clear c2
    replace H := Option.bind_eq_some_iff.mp H
    obtain ⟨t132, A80, H⟩ := H
    replace H : (some t132) = some r := H
    have A8 := Aside0.mk A80
    clear A80
    obtain rfl := Option.some.inj H
    go_enter Tryd.func20, Tryd.ntmps20
    go_wp2_with (first | ((with_reducible refine gate_callee (f := 21) rfl ?_); refine goesL_ (some 15) rfl rfl Tryd.func21 (by kernel_rfl) rfl #[.int .i64 (wrap64 (-a0))] rfl (by (try simp only [List.map_toArray, List.map_cons, List.map_nil]); first | done | rfl | (simp only [List.length_drop, List.length_take]; rfl)) ?_; (with_reducible refine (cupelref18_Digits.calls k (wrap64 (-a0)) t132 _ A8.out).mono ?_); rintro e w9 ⟨rfl, hb⟩; refine ⟨_, rfl, ?_⟩; have n0_ := Aside0.mk (below_step (by repeat (first | (with_reducible first | exact HB.out | apply below_alloc | apply pw_below_drewN | apply below_drew1) | exact HB.out)) hb); clear HB; have HB := n0_; clear n0_; (try clear hb); (try clear hb2); (try clear hk); (try clear hi)))
    go_ret
    exact ⟨by first | rfl | (simp [errW_none, errW_some] <;> rfl) | (simp [*, errW_none, errW_some] <;> rfl), by repeat (first | (with_reducible first | exact HB.out | apply below_alloc | apply pw_below_drewN | apply below_drew1) | exact HB.out)⟩

/-! ### cupelref19_Says: function 10 -/
def cupelref19_Says.j0 : Nat → List ByteArray → ByteArray → Bool → Int → Int → ByteArray → Option (ByteArray)
  | 0, _, _, _, _, _, _ => none
  | k + 1, x3, x4, x13, x134000, x134001, x134002 => if x13 = true then (if 0 ≤ (wrap64 (x134001 - 1)) then (if (wrap64 (x134001 - 1)) < (x3.length : Int) then (if x134002.toList = ([] : List UInt8) then (some (rdOf ByteArray.empty x3 (wrap64 (x134001 - 1)))) else (if (rdOf ByteArray.empty x3 (wrap64 (x134001 - 1))).size + 2 ≤ 9223372036854775807 then (if ((rdOf ByteArray.empty x3 (wrap64 (x134001 - 1))) ++ (⟨#[58, 32]⟩ : ByteArray)).size + x134002.size ≤ 9223372036854775807 then (some (((rdOf ByteArray.empty x3 (wrap64 (x134001 - 1))) ++ (⟨#[58, 32]⟩ : ByteArray)) ++ x134002)) else (none)) else (none))) else (none)) else (none)) else (if x134001 < 0 then (if x4.size + 1 ≤ 9223372036854775807 then ((cupelref19_digits.f k x134001).bind fun t138 => (if (x4 ++ (⟨#[45]⟩ : ByteArray)).size + t138.size ≤ 9223372036854775807 then (if x134002.toList = ([] : List UInt8) then (some ((x4 ++ (⟨#[45]⟩ : ByteArray)) ++ t138)) else (if ((x4 ++ (⟨#[45]⟩ : ByteArray)) ++ t138).size + 2 ≤ 9223372036854775807 then (if (((x4 ++ (⟨#[45]⟩ : ByteArray)) ++ t138) ++ (⟨#[58, 32]⟩ : ByteArray)).size + x134002.size ≤ 9223372036854775807 then (some ((((x4 ++ (⟨#[45]⟩ : ByteArray)) ++ t138) ++ (⟨#[58, 32]⟩ : ByteArray)) ++ x134002)) else (none)) else (none))) else (none))) else (none)) else ((cupelref18_Digits.f k x134001).bind fun t139 => (if x4.size + t139.size ≤ 9223372036854775807 then (if x134002.toList = ([] : List UInt8) then (some (x4 ++ t139)) else (if (x4 ++ t139).size + 2 ≤ 9223372036854775807 then (if ((x4 ++ t139) ++ (⟨#[58, 32]⟩ : ByteArray)).size + x134002.size ≤ 9223372036854775807 then (some (((x4 ++ t139) ++ (⟨#[58, 32]⟩ : ByteArray)) ++ x134002)) else (none)) else (none))) else (none))))
def cupelref19_Says.f (k : Nat) (a0_0 : Int) (a0_1 : Int) (a0_2 : ByteArray) : Option (ByteArray) := (some (([(⟨#[110, 111, 32, 116, 111, 107, 101, 110]⟩ : ByteArray), (⟨#[110, 111, 116, 32, 101, 120, 112, 101, 99, 116, 101, 100]⟩ : ByteArray), (⟨#[116, 111, 111, 32, 100, 101, 101, 112]⟩ : ByteArray), (⟨#[116, 119, 105, 99, 101]⟩ : ByteArray), (⟨#[117, 110, 107, 110, 111, 119, 110, 32, 116, 121, 112, 101]⟩ : ByteArray), (⟨#[117, 110, 107, 110, 111, 119, 110, 32, 110, 97, 109, 101]⟩ : ByteArray), (⟨#[110, 111, 32, 115, 117, 99, 104, 32, 102, 105, 108, 101]⟩ : ByteArray), (⟨#[119, 97, 110, 116, 101, 100]⟩ : ByteArray), (⟨#[110, 111, 32, 115, 117, 99, 104, 32, 102, 105, 101, 108, 100]⟩ : ByteArray), (⟨#[110, 111, 32, 102, 117, 110, 99, 116, 105, 111, 110]⟩ : ByteArray), (⟨#[110, 101, 101, 100, 115, 32, 105, 116, 115, 101, 108, 102]⟩ : ByteArray), (⟨#[115, 116, 97, 110, 100, 115, 32, 102, 111, 114, 32, 110, 111, 116, 104, 105, 110, 103]⟩ : ByteArray), (⟨#[110, 117, 109, 98, 101, 114, 32, 116, 111, 111, 32, 103, 114, 101, 97, 116]⟩ : ByteArray)] : List ByteArray) : List ByteArray)).bind fun y134 => (if a0_1 ≥ 1 then (cupelref19_Says.j0 k y134 (⟨#[99, 111, 100, 101, 32]⟩ : ByteArray) (decide (a0_1 ≤ 13)) a0_0 a0_1 a0_2) else (cupelref19_Says.j0 k y134 (⟨#[99, 111, 100, 101, 32]⟩ : ByteArray) false a0_0 a0_1 a0_2))
theorem cupelref19_Says.mono_l : ∀ k, (∀ y0 y1 y2 y3 y4 y5, LeO (cupelref19_Says.j0 k y0 y1 y2 y3 y4 y5) (cupelref19_Says.j0 (k + 1) y0 y1 y2 y3 y4 y5))
  | 0 => fun _ _ _ _ _ _ r h => by simp [cupelref19_Says.j0] at h
  | k + 1 => by
    have ih0 := cupelref19_Says.mono_l k
    · intro y0 y1 y2 y3 y4 y5
      unfold cupelref19_Says.j0
      repeat' first
      | (with_reducible exact ih0 _ _ _ _ _ _)
      | (with_reducible exact cupelref18_Digits.mono _ _)
      | (with_reducible exact cupelref19_digits.mono _ _)
      | (with_reducible exact LeO.refl _)
      | (with_reducible exact LeO.none _)
      | (with_reducible refine LeO.ite ?_ ?_)
      | (with_reducible refine LeO.bind ?_ (fun _ => ?_))
      | exact ih0 _ _ _ _ _ _
      | exact cupelref18_Digits.mono _ _
      | exact cupelref19_digits.mono _ _
      | exact LeO.none _
      | refine LeO.ite ?_ ?_
      | refine LeO.bind ?_ (fun _ => ?_)
theorem cupelref19_Says.mono : ∀ a0 a1 a2 k, LeO (cupelref19_Says.f k a0 a1 a2) (cupelref19_Says.f (k + 1) a0 a1 a2) := by
  intro a0 a1 a2 k
  have ih0 := cupelref19_Says.mono_l k
  unfold cupelref19_Says.f
  repeat' first
      | (with_reducible exact ih0 _ _ _ _ _ _)
      | (with_reducible exact cupelref18_Digits.mono _ _)
      | (with_reducible exact cupelref19_digits.mono _ _)
      | (with_reducible exact LeO.refl _)
      | (with_reducible exact LeO.none _)
      | (with_reducible refine LeO.ite ?_ ?_)
      | (with_reducible refine LeO.bind ?_ (fun _ => ?_))
      | exact ih0 _ _ _ _ _ _
      | exact cupelref18_Digits.mono _ _
      | exact cupelref19_digits.mono _ _
      | exact LeO.none _
      | refine LeO.ite ?_ ?_
      | refine LeO.bind ?_ (fun _ => ?_)
set_option maxHeartbeats 8000000 in
set_option maxRecDepth 100000 in
theorem cupelref19_Says.calls (k : Nat) (a0_0 : Int) (a0_1 : Int) (a0_2 : ByteArray) (r : ByteArray) (w : World) (h : cupelref19_Says.f k a0_0 a0_1 a0_2 = some r) :
    Calls Tryd.prog 10 #[.agg #[.int .i64 a0_0, .int .i64 a0_1, .string a0_2]] w fun e w' => e = .returned (.string r) ∧ Below w.heap.size w w' := by
  have hu23 := Tryd.underlying23
  have HB := Aside0.mk (Below.refl w.heap.size w)
  have H : ((some (([(⟨#[110, 111, 32, 116, 111, 107, 101, 110]⟩ : ByteArray), (⟨#[110, 111, 116, 32, 101, 120, 112, 101, 99, 116, 101, 100]⟩ : ByteArray), (⟨#[116, 111, 111, 32, 100, 101, 101, 112]⟩ : ByteArray), (⟨#[116, 119, 105, 99, 101]⟩ : ByteArray), (⟨#[117, 110, 107, 110, 111, 119, 110, 32, 116, 121, 112, 101]⟩ : ByteArray), (⟨#[117, 110, 107, 110, 111, 119, 110, 32, 110, 97, 109, 101]⟩ : ByteArray), (⟨#[110, 111, 32, 115, 117, 99, 104, 32, 102, 105, 108, 101]⟩ : ByteArray), (⟨#[119, 97, 110, 116, 101, 100]⟩ : ByteArray), (⟨#[110, 111, 32, 115, 117, 99, 104, 32, 102, 105, 101, 108, 100]⟩ : ByteArray), (⟨#[110, 111, 32, 102, 117, 110, 99, 116, 105, 111, 110]⟩ : ByteArray), (⟨#[110, 101, 101, 100, 115, 32, 105, 116, 115, 101, 108, 102]⟩ : ByteArray), (⟨#[115, 116, 97, 110, 100, 115, 32, 102, 111, 114, 32, 110, 111, 116, 104, 105, 110, 103]⟩ : ByteArray), (⟨#[110, 117, 109, 98, 101, 114, 32, 116, 111, 111, 32, 103, 114, 101, 97, 116]⟩ : ByteArray)] : List ByteArray) : List ByteArray)).bind fun y134 => (if a0_1 ≥ 1 then (cupelref19_Says.j0 k y134 (⟨#[99, 111, 100, 101, 32]⟩ : ByteArray) (decide (a0_1 ≤ 13)) a0_0 a0_1 a0_2) else (cupelref19_Says.j0 k y134 (⟨#[99, 111, 100, 101, 32]⟩ : ByteArray) false a0_0 a0_1 a0_2))) = some r := h
  clear h
  obtain ⟨y134, hy134⟩ : ∃ y_ : List ByteArray, y_ = (([(⟨#[110, 111, 32, 116, 111, 107, 101, 110]⟩ : ByteArray), (⟨#[110, 111, 116, 32, 101, 120, 112, 101, 99, 116, 101, 100]⟩ : ByteArray), (⟨#[116, 111, 111, 32, 100, 101, 101, 112]⟩ : ByteArray), (⟨#[116, 119, 105, 99, 101]⟩ : ByteArray), (⟨#[117, 110, 107, 110, 111, 119, 110, 32, 116, 121, 112, 101]⟩ : ByteArray), (⟨#[117, 110, 107, 110, 111, 119, 110, 32, 110, 97, 109, 101]⟩ : ByteArray), (⟨#[110, 111, 32, 115, 117, 99, 104, 32, 102, 105, 108, 101]⟩ : ByteArray), (⟨#[119, 97, 110, 116, 101, 100]⟩ : ByteArray), (⟨#[110, 111, 32, 115, 117, 99, 104, 32, 102, 105, 101, 108, 100]⟩ : ByteArray), (⟨#[110, 111, 32, 102, 117, 110, 99, 116, 105, 111, 110]⟩ : ByteArray), (⟨#[110, 101, 101, 100, 115, 32, 105, 116, 115, 101, 108, 102]⟩ : ByteArray), (⟨#[115, 116, 97, 110, 100, 115, 32, 102, 111, 114, 32, 110, 111, 116, 104, 105, 110, 103]⟩ : ByteArray), (⟨#[110, 117, 109, 98, 101, 114, 32, 116, 111, 111, 32, 103, 114, 101, 97, 116]⟩ : ByteArray)] : List ByteArray)) := ⟨_, rfl⟩
  replace H : (if a0_1 ≥ 1 then (cupelref19_Says.j0 k y134 (⟨#[99, 111, 100, 101, 32]⟩ : ByteArray) (decide (a0_1 ≤ 13)) a0_0 a0_1 a0_2) else (cupelref19_Says.j0 k y134 (⟨#[99, 111, 100, 101, 32]⟩ : ByteArray) false a0_0 a0_1 a0_2)) = some r := by first | (rw [hy134]; with_reducible exact H) | (have H2_ := (Option.bind_some _ _).symm.trans H; rw [hy134]; with_reducible exact H2_) | (have H2_ := (Option.bind_some _ _).symm.trans H; with_reducible exact H2_) | with_reducible exact H | (rw [hy134]; exact H) | exact H
  have Ny134 := Aside0.mk hy134
  clear hy134
  have HC2 := Aside0.mk H
  clear H
  go_enter Tryd.func10, Tryd.ntmps10
  go_upto_region 3 with (first | ((with_reducible refine gate_dst (N := 1) rfl ?_); refine box_event ?hg (N := 1) ?hd (cs := #[.int .i64 a0_0, .int .i64 a0_1, .string a0_2]) (t := 23) ?hr ?_; (case hd => rfl); (case hg => rfl); (case hr => first | (go_simp; done) | (go_simp; rfl)); intro gb133 hg w3 hbox hb; have n0_ := Aside0.mk (below_step (by repeat (first | (with_reducible first | exact HB.out | apply below_alloc | apply pw_below_drewN | apply below_drew1) | exact HB.out)) hb); have n1_ := Aside0.mk (hbox); have n2_ := Aside0.mk ((by rw [hg]; exact (below_size (by repeat (first | (with_reducible first | exact HB.out | apply below_alloc | apply pw_below_drewN | apply below_drew1) | exact HB.out))) : w.heap.size ≤ gb133)); have n3_ := Aside0.mk ((by rw [hg]; exact (below_size (by repeat (first | (with_reducible first | exact HB.out | apply below_alloc | apply pw_below_drewN | apply below_drew1) | exact HB.out))) : w.heap.size ≤ gb133)); clear HB; have HB := n0_; have BK133 := n1_; have GW133 := n2_; have GE133 := n3_; clear n0_ n1_ n2_ n3_; clear hb hbox hg) | ((with_reducible refine gate_dst (N := 5) rfl ?_); refine Kd.R_lit Kd.string _ 9 ?hg (N := 5) ?hd (xs := ([(⟨#[110, 111, 32, 116, 111, 107, 101, 110]⟩ : ByteArray), (⟨#[110, 111, 116, 32, 101, 120, 112, 101, 99, 116, 101, 100]⟩ : ByteArray), (⟨#[116, 111, 111, 32, 100, 101, 101, 112]⟩ : ByteArray), (⟨#[116, 119, 105, 99, 101]⟩ : ByteArray), (⟨#[117, 110, 107, 110, 111, 119, 110, 32, 116, 121, 112, 101]⟩ : ByteArray), (⟨#[117, 110, 107, 110, 111, 119, 110, 32, 110, 97, 109, 101]⟩ : ByteArray), (⟨#[110, 111, 32, 115, 117, 99, 104, 32, 102, 105, 108, 101]⟩ : ByteArray), (⟨#[119, 97, 110, 116, 101, 100]⟩ : ByteArray), (⟨#[110, 111, 32, 115, 117, 99, 104, 32, 102, 105, 101, 108, 100]⟩ : ByteArray), (⟨#[110, 111, 32, 102, 117, 110, 99, 116, 105, 111, 110]⟩ : ByteArray), (⟨#[110, 101, 101, 100, 115, 32, 105, 116, 115, 101, 108, 102]⟩ : ByteArray), (⟨#[115, 116, 97, 110, 100, 115, 32, 102, 111, 114, 32, 110, 111, 116, 104, 105, 110, 103]⟩ : ByteArray), (⟨#[110, 117, 109, 98, 101, 114, 32, 116, 111, 111, 32, 103, 114, 101, 97, 116]⟩ : ByteArray)] : List ByteArray)) (inner := [.string (⟨#[110, 111, 32, 116, 111, 107, 101, 110]⟩ : ByteArray), .string (⟨#[110, 111, 116, 32, 101, 120, 112, 101, 99, 116, 101, 100]⟩ : ByteArray), .string (⟨#[116, 111, 111, 32, 100, 101, 101, 112]⟩ : ByteArray), .string (⟨#[116, 119, 105, 99, 101]⟩ : ByteArray), .string (⟨#[117, 110, 107, 110, 111, 119, 110, 32, 116, 121, 112, 101]⟩ : ByteArray), .string (⟨#[117, 110, 107, 110, 111, 119, 110, 32, 110, 97, 109, 101]⟩ : ByteArray), .string (⟨#[110, 111, 32, 115, 117, 99, 104, 32, 102, 105, 108, 101]⟩ : ByteArray), .string (⟨#[119, 97, 110, 116, 101, 100]⟩ : ByteArray), .string (⟨#[110, 111, 32, 115, 117, 99, 104, 32, 102, 105, 101, 108, 100]⟩ : ByteArray), .string (⟨#[110, 111, 32, 102, 117, 110, 99, 116, 105, 111, 110]⟩ : ByteArray), .string (⟨#[110, 101, 101, 100, 115, 32, 105, 116, 115, 101, 108, 102]⟩ : ByteArray), .string (⟨#[115, 116, 97, 110, 100, 115, 32, 102, 111, 114, 32, 110, 111, 116, 104, 105, 110, 103]⟩ : ByteArray), .string (⟨#[110, 117, 109, 98, 101, 114, 32, 116, 111, 111, 32, 103, 114, 101, 97, 116]⟩ : ByteArray)]) (ok := fun _ => True) (okp := fun _ => True) ?hr ?hp (fun _ hk => hk) trivial (Below.refl _ _) (Nat.le_refl _) (by simp) ?_; (case hd => rfl); (case hg => rfl); (case hr => first | (go_simp; done) | (go_simp; rfl)); (case hp => exact (Reps.one (show Kd.M Kd.string _ _ _ (⟨#[110, 111, 32, 116, 111, 107, 101, 110]⟩ : ByteArray) [.string (⟨#[110, 111, 32, 116, 111, 107, 101, 110]⟩ : ByteArray)] from rfl) (Reps.one (show Kd.M Kd.string _ _ _ (⟨#[110, 111, 116, 32, 101, 120, 112, 101, 99, 116, 101, 100]⟩ : ByteArray) [.string (⟨#[110, 111, 116, 32, 101, 120, 112, 101, 99, 116, 101, 100]⟩ : ByteArray)] from rfl) (Reps.one (show Kd.M Kd.string _ _ _ (⟨#[116, 111, 111, 32, 100, 101, 101, 112]⟩ : ByteArray) [.string (⟨#[116, 111, 111, 32, 100, 101, 101, 112]⟩ : ByteArray)] from rfl) (Reps.one (show Kd.M Kd.string _ _ _ (⟨#[116, 119, 105, 99, 101]⟩ : ByteArray) [.string (⟨#[116, 119, 105, 99, 101]⟩ : ByteArray)] from rfl) (Reps.one (show Kd.M Kd.string _ _ _ (⟨#[117, 110, 107, 110, 111, 119, 110, 32, 116, 121, 112, 101]⟩ : ByteArray) [.string (⟨#[117, 110, 107, 110, 111, 119, 110, 32, 116, 121, 112, 101]⟩ : ByteArray)] from rfl) (Reps.one (show Kd.M Kd.string _ _ _ (⟨#[117, 110, 107, 110, 111, 119, 110, 32, 110, 97, 109, 101]⟩ : ByteArray) [.string (⟨#[117, 110, 107, 110, 111, 119, 110, 32, 110, 97, 109, 101]⟩ : ByteArray)] from rfl) (Reps.one (show Kd.M Kd.string _ _ _ (⟨#[110, 111, 32, 115, 117, 99, 104, 32, 102, 105, 108, 101]⟩ : ByteArray) [.string (⟨#[110, 111, 32, 115, 117, 99, 104, 32, 102, 105, 108, 101]⟩ : ByteArray)] from rfl) (Reps.one (show Kd.M Kd.string _ _ _ (⟨#[119, 97, 110, 116, 101, 100]⟩ : ByteArray) [.string (⟨#[119, 97, 110, 116, 101, 100]⟩ : ByteArray)] from rfl) (Reps.one (show Kd.M Kd.string _ _ _ (⟨#[110, 111, 32, 115, 117, 99, 104, 32, 102, 105, 101, 108, 100]⟩ : ByteArray) [.string (⟨#[110, 111, 32, 115, 117, 99, 104, 32, 102, 105, 101, 108, 100]⟩ : ByteArray)] from rfl) (Reps.one (show Kd.M Kd.string _ _ _ (⟨#[110, 111, 32, 102, 117, 110, 99, 116, 105, 111, 110]⟩ : ByteArray) [.string (⟨#[110, 111, 32, 102, 117, 110, 99, 116, 105, 111, 110]⟩ : ByteArray)] from rfl) (Reps.one (show Kd.M Kd.string _ _ _ (⟨#[110, 101, 101, 100, 115, 32, 105, 116, 115, 101, 108, 102]⟩ : ByteArray) [.string (⟨#[110, 101, 101, 100, 115, 32, 105, 116, 115, 101, 108, 102]⟩ : ByteArray)] from rfl) (Reps.one (show Kd.M Kd.string _ _ _ (⟨#[115, 116, 97, 110, 100, 115, 32, 102, 111, 114, 32, 110, 111, 116, 104, 105, 110, 103]⟩ : ByteArray) [.string (⟨#[115, 116, 97, 110, 100, 115, 32, 102, 111, 114, 32, 110, 111, 116, 104, 105, 110, 103]⟩ : ByteArray)] from rfl) (Reps.one (show Kd.M Kd.string _ _ _ (⟨#[110, 117, 109, 98, 101, 114, 32, 116, 111, 111, 32, 103, 114, 101, 97, 116]⟩ : ByteArray) [.string (⟨#[110, 117, 109, 98, 101, 114, 32, 116, 111, 111, 32, 103, 114, 101, 97, 116]⟩ : ByteArray)] from rfl) (Reps.none _ _))))))))))))))); intro v135 w4 ho5 hb hg_ hnew_; clear hg_ hnew_; (first | rw [← Ny134.out] at ho5 | (simp only [Int.reduceToNat] at ho5; rw [← Ny134.out] at ho5)); have n0_ := Aside0.mk (Kd.R_lower ho5 (below_size (by repeat (first | (with_reducible first | exact HB.out | apply below_alloc | apply pw_below_drewN | apply below_drew1 | refine below_set ?_ GE133.out) | exact HB.out)))); have n1_ := Aside0.mk (blk_below (g := gb133) (o := .cells #[.int .i64 a0_0, .int .i64 a0_1, .string a0_2] 23 (0, 0)) (by (with_reducible repeat (first | refine blk_drewN ?_ _ | refine blk_drew ?_ | refine blk_alloc ?_ _)); exact BK133.out) hb); have n2_ := Aside0.mk (below_step (by repeat (first | (with_reducible first | exact HB.out | apply below_alloc | apply pw_below_drewN | apply below_drew1 | refine below_set ?_ GE133.out) | exact HB.out)) hb); clear BK133; clear HB; have HO136 := n0_; have BK133 := n1_; have HB := n2_; clear n0_ n1_ n2_; clear hb ho5))
  (try simp only [Act.put, List.setIfInBounds_toArray, List.set_cons_zero, List.set_cons_succ])
  go_cut [13] (fun v13 wc => ∃ (kq : Nat) (x13_1 : Bool), v13 = .bool x13_1 ∧ Aside0 (cupelref19_Says.j0 kq y134 (⟨#[99, 111, 100, 101, 32]⟩ : ByteArray) x13_1 a0_0 a0_1 a0_2 = some r) ∧ Aside0 (kq ≤ k) ∧ Aside0 (Kd.R Kd.string 9 wc w.heap.size (fun _ => True) v135 y134) ∧ Aside0 (wc.heap[gb133]? = some (.cells #[.int .i64 a0_0, .int .i64 a0_1, .string a0_2] 23 (0, 0))) ∧ Aside0 (Below w.heap.size w wc))
  case first =>
    have H := HC2.out
    clear HC2
    by_cases c6 : a0_1 ≥ 1
    · rw [if_pos c6] at H
      have c6b0 : decide (1 ≤ a0_1) = true := decide_eq_true c6
      clear c6
      (first | rw [c6b0] | (simp only [i64_w, i32_w]; rw [c6b0]) | skip)
      have H' := Aside0.mk H
      clear H
      have hcz7_0 : w4.cell? ⟨gb133, 0, none⟩ = some (.int .i64 a0_0) := (blk_cell BK133.out 0).trans rfl
      have hcz7_1 : w4.cell? ⟨gb133, 1, none⟩ = some (.int .i64 a0_1) := (blk_cell BK133.out 1).trans rfl
      have hcz7_2 : w4.cell? ⟨gb133, 2, none⟩ = some (.string a0_2) := (blk_cell BK133.out 2).trans rfl
      have hfz7_0 := blk_frozen BK133.out 0
      have hfz7_1 := blk_frozen BK133.out 1
      have hfz7_2 := blk_frozen BK133.out 2
      go_wp2
      go_meet
      case rel => exact ⟨_, (decide (a0_1 ≤ 13)), (by first | rfl | (simp; done) | (simp [*]; done)), H', ⟨by first | omega | exact Nat.le_refl _⟩, ⟨by (with_reducible repeat (first | apply Kd.R_alloc | apply Kd.R_drewN | apply Kd.R_drew)); exact HO136.out⟩, ⟨by (with_reducible repeat (first | refine blk_drewN ?_ _ | refine blk_drew ?_ | refine blk_alloc ?_ _)); exact BK133.out⟩, ⟨by repeat (first | (with_reducible first | exact HB.out | apply below_alloc | apply pw_below_drewN | apply below_drew1 | refine below_set ?_ GE133.out) | exact HB.out)⟩⟩
    · rw [if_neg c6] at H
      have c6b0 : decide (1 ≤ a0_1) = false := decide_eq_false c6
      clear c6
      (first | rw [c6b0] | (simp only [i64_w, i32_w]; rw [c6b0]) | skip)
      have H' := Aside0.mk H
      clear H
      have hcz8_0 : w4.cell? ⟨gb133, 0, none⟩ = some (.int .i64 a0_0) := (blk_cell BK133.out 0).trans rfl
      have hcz8_1 : w4.cell? ⟨gb133, 1, none⟩ = some (.int .i64 a0_1) := (blk_cell BK133.out 1).trans rfl
      have hcz8_2 : w4.cell? ⟨gb133, 2, none⟩ = some (.string a0_2) := (blk_cell BK133.out 2).trans rfl
      have hfz8_0 := blk_frozen BK133.out 0
      have hfz8_1 := blk_frozen BK133.out 1
      have hfz8_2 := blk_frozen BK133.out 2
      go_wp2
      go_meet
      case rel => exact ⟨_, (false), (by first | rfl | (simp; done) | (simp [*]; done)), H', ⟨by first | omega | exact Nat.le_refl _⟩, ⟨by (with_reducible repeat (first | apply Kd.R_alloc | apply Kd.R_drewN | apply Kd.R_drew)); exact HO136.out⟩, ⟨by (with_reducible repeat (first | refine blk_drewN ?_ _ | refine blk_drew ?_ | refine blk_alloc ?_ _)); exact BK133.out⟩, ⟨by repeat (first | (with_reducible first | exact HB.out | apply below_alloc | apply pw_below_drewN | apply below_drew1 | refine below_set ?_ GE133.out) | exact HB.out)⟩⟩
  case rest =>
    clear HC2
    try clear c1
    try clear p2
    try clear c6
    try clear c6b0
    try clear hcz7_0
    try clear hcz7_1
    try clear hcz7_2
    try clear hcz8_0
    try clear hcz8_1
    try clear hcz8_2
    try clear hfz7_0
    try clear hfz7_1
    try clear hfz7_2
    try clear hfz8_0
    try clear hfz8_1
    try clear hfz8_2
    obtain ⟨kq, x13_1, rfl, HA, HJ1, HO_3, BK133, HB⟩ := hcut
    cases kq with
    | zero => exact absurd HA.out (by simp [cupelref19_Says.j0])
    | succ kj1 =>
      have H := HA.out
      clear HA
      simp only [cupelref19_Says.j0] at H
      by_cases c9 : x13_1 = true
      · subst c9
        have H1 : (if 0 ≤ (wrap64 (a0_1 - 1)) then (if (wrap64 (a0_1 - 1)) < (y134.length : Int) then (if a0_2.toList = ([] : List UInt8) then (some (rdOf ByteArray.empty y134 (wrap64 (a0_1 - 1)))) else (if (rdOf ByteArray.empty y134 (wrap64 (a0_1 - 1))).size + 2 ≤ 9223372036854775807 then (if ((rdOf ByteArray.empty y134 (wrap64 (a0_1 - 1))) ++ (⟨#[58, 32]⟩ : ByteArray)).size + a0_2.size ≤ 9223372036854775807 then (some (((rdOf ByteArray.empty y134 (wrap64 (a0_1 - 1))) ++ (⟨#[58, 32]⟩ : ByteArray)) ++ a0_2)) else (none)) else (none))) else (none)) else (none)) = some r := by rw [if_pos rfl] at H; exact H
        clear H
        have H := H1
        clear H1
        obtain ⟨ji10, hji10⟩ : ∃ j_ : Int, (wrap64 (a0_1 - 1)) = j_ := ⟨_, rfl⟩
        replace H : (if 0 ≤ (ji10) then (if (ji10) < (y134.length : Int) then (if a0_2.toList = ([] : List UInt8) then (some (rdOf ByteArray.empty y134 (ji10))) else (if (rdOf ByteArray.empty y134 (ji10)).size + 2 ≤ 9223372036854775807 then (if ((rdOf ByteArray.empty y134 (ji10)) ++ (⟨#[58, 32]⟩ : ByteArray)).size + a0_2.size ≤ 9223372036854775807 then (some (((rdOf ByteArray.empty y134 (ji10)) ++ (⟨#[58, 32]⟩ : ByteArray)) ++ a0_2)) else (none)) else (none))) else (none)) else (none)) = some r := by first | (rw [hji10] at H; exact H) | (simp only [hji10] at H ⊢; exact H)
        have hji10w : (IntKind.i64.wrap (a0_1 - 1)) = ji10 := (i64_w _).trans hji10
        by_cases c11 : 0 ≤ (ji10)
        · rw [if_pos c11] at H
          have c11b0 : decide (0 ≤ (ji10)) = true := decide_eq_true c11
          clear c11
          by_cases c12 : (ji10) < (y134.length : Int)
          · rw [if_pos c12] at H
            have c12b0 : decide ((ji10) < (y134.length : Int)) = true := decide_eq_true c12
            clear c12
            by_cases c13 : a0_2.toList = ([] : List UInt8)
            · rw [if_pos c13] at H
              have c13b0 : (a0_2.toList == ([] : List UInt8)) = true := beq_iff_eq.mpr c13
              have c13b1 : (a0_2.toList != ([] : List UInt8)) = false := bne_eq_false_iff_eq.mpr c13
              clear c13
              obtain rfl := Option.some.inj H
              have hcz14_0 : wc.cell? ⟨gb133, 0, none⟩ = some (.int .i64 a0_0) := (blk_cell BK133.out 0).trans rfl
              have hcz14_1 : wc.cell? ⟨gb133, 1, none⟩ = some (.int .i64 a0_1) := (blk_cell BK133.out 1).trans rfl
              have hcz14_2 : wc.cell? ⟨gb133, 2, none⟩ = some (.string a0_2) := (blk_cell BK133.out 2).trans rfl
              have hfz14_0 := blk_frozen BK133.out 0
              have hfz14_1 := blk_frozen BK133.out 1
              have hfz14_2 := blk_frozen BK133.out 2
              obtain ⟨Ao15, co15, eo15⟩ := Kd.R_slice HO_3.out
              subst eo15
              have p137 : 0 ≤ ((ji10) : Int) := of_decide_eq_true (by first | (with_reducible assumption) | assumption)
              have q137 : (ji10) < (y134.length : Int) := of_decide_eq_true (by first | (with_reducible assumption) | assumption)
              obtain ⟨ad137, e137, hx137_0⟩ := Kd.at_string (Kd.R_reads' HO_3.out).2.2 (ji10) p137 q137
              cases e137
              replace p137 := eq_true p137
              replace q137 := eq_true q137
              go_wp2
              go_ret
              exact ⟨by first | rfl | (simp [errW_none, errW_some] <;> rfl) | (simp only [← hji10]; first | rfl | (simp [errW_none, errW_some] <;> rfl)) | (simp [*, errW_none, errW_some] <;> rfl), by repeat (first | (with_reducible first | exact HB.out | apply below_alloc | apply pw_below_drewN | apply below_drew1 | refine below_set ?_ GE133.out) | exact HB.out)⟩
            · rw [if_neg c13] at H
              have c13b0 : (a0_2.toList == ([] : List UInt8)) = false := beq_eq_false_iff_ne.mpr c13
              have c13b1 : (a0_2.toList != ([] : List UInt8)) = true := bne_iff_ne.mpr c13
              by_cases c16 : (rdOf ByteArray.empty y134 (ji10)).size + 2 ≤ 9223372036854775807
              · rw [if_pos c16] at H
                have c16b0 := eq_true c16
                have c16b9 := eq_false (Nat.not_lt.2 c16)
                try simp only [ByteArray.size_append] at c16b9
                have c16b1 : decide ((rdOf ByteArray.empty y134 (ji10)).size + 2 ≤ 9223372036854775807) = true := decide_eq_true c16
                try have c16b2 : (9223372036854775807 < (rdOf ByteArray.empty y134 (ji10)).size + 2) = False := eq_false (Nat.not_lt.2 c16)
                by_cases c17 : ((rdOf ByteArray.empty y134 (ji10)) ++ (⟨#[58, 32]⟩ : ByteArray)).size + a0_2.size ≤ 9223372036854775807
                · rw [if_pos c17] at H
                  have c17b0 := eq_true c17
                  have c17b9 := eq_false (Nat.not_lt.2 c17)
                  try simp only [ByteArray.size_append, show (⟨#[58, 32]⟩ : ByteArray).size = 2 from rfl] at c17b9
                  have c17b1 : decide (((rdOf ByteArray.empty y134 (ji10)) ++ (⟨#[58, 32]⟩ : ByteArray)).size + a0_2.size ≤ 9223372036854775807) = true := decide_eq_true c17
                  try have c17b2 : (9223372036854775807 < ((rdOf ByteArray.empty y134 (ji10)) ++ (⟨#[58, 32]⟩ : ByteArray)).size + a0_2.size) = False := eq_false (Nat.not_lt.2 c17)
                  obtain rfl := Option.some.inj H
                  have hcz18_0 : wc.cell? ⟨gb133, 0, none⟩ = some (.int .i64 a0_0) := (blk_cell BK133.out 0).trans rfl
                  have hcz18_1 : wc.cell? ⟨gb133, 1, none⟩ = some (.int .i64 a0_1) := (blk_cell BK133.out 1).trans rfl
                  have hcz18_2 : wc.cell? ⟨gb133, 2, none⟩ = some (.string a0_2) := (blk_cell BK133.out 2).trans rfl
                  have hfz18_0 := blk_frozen BK133.out 0
                  have hfz18_1 := blk_frozen BK133.out 1
                  have hfz18_2 := blk_frozen BK133.out 2
                  obtain ⟨Ao19, co19, eo19⟩ := Kd.R_slice HO_3.out
                  subst eo19
                  have p137 : 0 ≤ ((ji10) : Int) := of_decide_eq_true (by first | (with_reducible assumption) | assumption)
                  have q137 : (ji10) < (y134.length : Int) := of_decide_eq_true (by first | (with_reducible assumption) | assumption)
                  obtain ⟨ad137, e137, hx137_0⟩ := Kd.at_string (Kd.R_reads' HO_3.out).2.2 (ji10) p137 q137
                  cases e137
                  replace p137 := eq_true p137
                  replace q137 := eq_true q137
                  go_wp2
                  go_ret
                  exact ⟨by first | rfl | (simp [errW_none, errW_some] <;> rfl) | (simp only [← hji10]; first | rfl | (simp [errW_none, errW_some] <;> rfl)) | (simp [*, errW_none, errW_some] <;> rfl), by repeat (first | (with_reducible first | exact HB.out | apply below_alloc | apply pw_below_drewN | apply below_drew1 | refine below_set ?_ GE133.out) | exact HB.out)⟩
                · rw [if_neg c17] at H
                  exact absurd H (by simp)
              · rw [if_neg c16] at H
                exact absurd H (by simp)
          · rw [if_neg c12] at H
            exact absurd H (by simp)
        · rw [if_neg c11] at H
          exact absurd H (by simp)
      · replace c9 := Bool.eq_false_iff.mpr c9
        subst c9
        have H1 : (if a0_1 < 0 then (if (⟨#[99, 111, 100, 101, 32]⟩ : ByteArray).size + 1 ≤ 9223372036854775807 then ((cupelref19_digits.f kj1 a0_1).bind fun t138 => (if ((⟨#[99, 111, 100, 101, 32]⟩ : ByteArray) ++ (⟨#[45]⟩ : ByteArray)).size + t138.size ≤ 9223372036854775807 then (if a0_2.toList = ([] : List UInt8) then (some (((⟨#[99, 111, 100, 101, 32]⟩ : ByteArray) ++ (⟨#[45]⟩ : ByteArray)) ++ t138)) else (if (((⟨#[99, 111, 100, 101, 32]⟩ : ByteArray) ++ (⟨#[45]⟩ : ByteArray)) ++ t138).size + 2 ≤ 9223372036854775807 then (if ((((⟨#[99, 111, 100, 101, 32]⟩ : ByteArray) ++ (⟨#[45]⟩ : ByteArray)) ++ t138) ++ (⟨#[58, 32]⟩ : ByteArray)).size + a0_2.size ≤ 9223372036854775807 then (some (((((⟨#[99, 111, 100, 101, 32]⟩ : ByteArray) ++ (⟨#[45]⟩ : ByteArray)) ++ t138) ++ (⟨#[58, 32]⟩ : ByteArray)) ++ a0_2)) else (none)) else (none))) else (none))) else (none)) else ((cupelref18_Digits.f kj1 a0_1).bind fun t139 => (if (⟨#[99, 111, 100, 101, 32]⟩ : ByteArray).size + t139.size ≤ 9223372036854775807 then (if a0_2.toList = ([] : List UInt8) then (some ((⟨#[99, 111, 100, 101, 32]⟩ : ByteArray) ++ t139)) else (if ((⟨#[99, 111, 100, 101, 32]⟩ : ByteArray) ++ t139).size + 2 ≤ 9223372036854775807 then (if (((⟨#[99, 111, 100, 101, 32]⟩ : ByteArray) ++ t139) ++ (⟨#[58, 32]⟩ : ByteArray)).size + a0_2.size ≤ 9223372036854775807 then (some ((((⟨#[99, 111, 100, 101, 32]⟩ : ByteArray) ++ t139) ++ (⟨#[58, 32]⟩ : ByteArray)) ++ a0_2)) else (none)) else (none))) else (none)))) = some r := by rw [if_neg (show ¬ (false = true) by decide)] at H; exact H
        clear H
        have H := H1
        clear H1
        by_cases c20 : a0_1 < 0
        · rw [if_pos c20] at H
          have c20b0 : decide (a0_1 < 0) = true := decide_eq_true c20
          clear c20
          by_cases c21 : (⟨#[99, 111, 100, 101, 32]⟩ : ByteArray).size + 1 ≤ 9223372036854775807
          · rw [if_pos c21] at H
            have c21b0 := eq_true c21
            have c21b9 := eq_false (Nat.not_lt.2 c21)
            try simp only [ByteArray.size_append, show (⟨#[99, 111, 100, 101, 32]⟩ : ByteArray).size = 5 from rfl] at c21b9
            have c21b1 : decide ((⟨#[99, 111, 100, 101, 32]⟩ : ByteArray).size + 1 ≤ 9223372036854775807) = true := decide_eq_true c21
            try have c21b2 : (9223372036854775807 < (⟨#[99, 111, 100, 101, 32]⟩ : ByteArray).size + 1) = False := eq_false (Nat.not_lt.2 c21)
            replace H := Option.bind_eq_some_iff.mp H
            obtain ⟨t138, A220, H⟩ := H
            replace H : (if ((⟨#[99, 111, 100, 101, 32]⟩ : ByteArray) ++ (⟨#[45]⟩ : ByteArray)).size + t138.size ≤ 9223372036854775807 then (if a0_2.toList = ([] : List UInt8) then (some (((⟨#[99, 111, 100, 101, 32]⟩ : ByteArray) ++ (⟨#[45]⟩ : ByteArray)) ++ t138)) else (if (((⟨#[99, 111, 100, 101, 32]⟩ : ByteArray) ++ (⟨#[45]⟩ : ByteArray)) ++ t138).size + 2 ≤ 9223372036854775807 then (if ((((⟨#[99, 111, 100, 101, 32]⟩ : ByteArray) ++ (⟨#[45]⟩ : ByteArray)) ++ t138) ++ (⟨#[58, 32]⟩ : ByteArray)).size + a0_2.size ≤ 9223372036854775807 then (some (((((⟨#[99, 111, 100, 101, 32]⟩ : ByteArray) ++ (⟨#[45]⟩ : ByteArray)) ++ t138) ++ (⟨#[58, 32]⟩ : ByteArray)) ++ a0_2)) else (none)) else (none))) else (none)) = some r := H
            have A22 := Aside0.mk A220
            clear A220
            by_cases c23 : ((⟨#[99, 111, 100, 101, 32]⟩ : ByteArray) ++ (⟨#[45]⟩ : ByteArray)).size + t138.size ≤ 9223372036854775807
            · rw [if_pos c23] at H
              have c23b0 := eq_true c23
              have c23b9 := eq_false (Nat.not_lt.2 c23)
              try simp only [ByteArray.size_append, show (⟨#[45]⟩ : ByteArray).size = 1 from rfl, show (⟨#[99, 111, 100, 101, 32]⟩ : ByteArray).size = 5 from rfl] at c23b9
              have c23b1 : decide (((⟨#[99, 111, 100, 101, 32]⟩ : ByteArray) ++ (⟨#[45]⟩ : ByteArray)).size + t138.size ≤ 9223372036854775807) = true := decide_eq_true c23
              try have c23b2 : (9223372036854775807 < ((⟨#[99, 111, 100, 101, 32]⟩ : ByteArray) ++ (⟨#[45]⟩ : ByteArray)).size + t138.size) = False := eq_false (Nat.not_lt.2 c23)
              by_cases c24 : a0_2.toList = ([] : List UInt8)
              · rw [if_pos c24] at H
                have c24b0 : (a0_2.toList == ([] : List UInt8)) = true := beq_iff_eq.mpr c24
                have c24b1 : (a0_2.toList != ([] : List UInt8)) = false := bne_eq_false_iff_eq.mpr c24
                clear c24
                obtain rfl := Option.some.inj H
                have hcz25_0 : wc.cell? ⟨gb133, 0, none⟩ = some (.int .i64 a0_0) := (blk_cell BK133.out 0).trans rfl
                have hcz25_1 : wc.cell? ⟨gb133, 1, none⟩ = some (.int .i64 a0_1) := (blk_cell BK133.out 1).trans rfl
                have hcz25_2 : wc.cell? ⟨gb133, 2, none⟩ = some (.string a0_2) := (blk_cell BK133.out 2).trans rfl
                have hfz25_0 := blk_frozen BK133.out 0
                have hfz25_1 := blk_frozen BK133.out 1
                have hfz25_2 := blk_frozen BK133.out 2
                go_wp2_with (first | ((with_reducible refine gate_callee (f := 20) rfl ?_); refine goesL_ (some 27) rfl rfl Tryd.func20 (by kernel_rfl) rfl #[.int .i64 a0_1] rfl (by (try simp only [List.map_toArray, List.map_cons, List.map_nil]); first | done | rfl | (simp only [List.length_drop, List.length_take]; rfl)) ?_; (with_reducible refine (cupelref19_digits.calls kj1 a0_1 t138 _ A22.out).mono ?_); rintro e w26 ⟨rfl, hb⟩; refine ⟨_, rfl, ?_⟩; have n0_ := Aside0.mk (Kd.R_below (by (with_reducible repeat (first | apply Kd.R_alloc | apply Kd.R_drewN | apply Kd.R_drew)); exact HO_3.out) hb); have n1_ := Aside0.mk (blk_below (g := gb133) (o := .cells #[.int .i64 a0_0, .int .i64 a0_1, .string a0_2] 23 (0, 0)) (by (with_reducible repeat (first | refine blk_drewN ?_ _ | refine blk_drew ?_ | refine blk_alloc ?_ _)); exact BK133.out) hb); have n2_ := Aside0.mk (below_step (by repeat (first | (with_reducible first | exact HB.out | apply below_alloc | apply pw_below_drewN | apply below_drew1 | refine below_set ?_ GE133.out) | exact HB.out)) hb); clear HO_3; clear BK133; clear HB; have HO_3 := n0_; have BK133 := n1_; have HB := n2_; clear n0_ n1_ n2_; (try clear hb); (try clear hb2); (try clear hk); (try clear hi); have hcz27_0 : w26.cell? ⟨gb133, 0, none⟩ = some (.int .i64 a0_0) := (blk_cell BK133.out 0).trans rfl; have hcz27_1 : w26.cell? ⟨gb133, 1, none⟩ = some (.int .i64 a0_1) := (blk_cell BK133.out 1).trans rfl; have hcz27_2 : w26.cell? ⟨gb133, 2, none⟩ = some (.string a0_2) := (blk_cell BK133.out 2).trans rfl; have hfz27_0 := blk_frozen BK133.out 0; have hfz27_1 := blk_frozen BK133.out 1; have hfz27_2 := blk_frozen BK133.out 2))
                go_ret
                exact ⟨by first | rfl | (simp [errW_none, errW_some] <;> rfl) | (simp [*, errW_none, errW_some] <;> rfl), by repeat (first | (with_reducible first | exact HB.out | apply below_alloc | apply pw_below_drewN | apply below_drew1 | refine below_set ?_ GE133.out) | exact HB.out)⟩
              · rw [if_neg c24] at H
                have c24b0 : (a0_2.toList == ([] : List UInt8)) = false := beq_eq_false_iff_ne.mpr c24
                have c24b1 : (a0_2.toList != ([] : List UInt8)) = true := bne_iff_ne.mpr c24
                by_cases c28 : (((⟨#[99, 111, 100, 101, 32]⟩ : ByteArray) ++ (⟨#[45]⟩ : ByteArray)) ++ t138).size + 2 ≤ 9223372036854775807
                · rw [if_pos c28] at H
                  have c28b0 := eq_true c28
                  have c28b9 := eq_false (Nat.not_lt.2 c28)
                  try simp only [ByteArray.size_append, show (⟨#[45]⟩ : ByteArray).size = 1 from rfl, show (⟨#[99, 111, 100, 101, 32]⟩ : ByteArray).size = 5 from rfl] at c28b9
                  have c28b1 : decide ((((⟨#[99, 111, 100, 101, 32]⟩ : ByteArray) ++ (⟨#[45]⟩ : ByteArray)) ++ t138).size + 2 ≤ 9223372036854775807) = true := decide_eq_true c28
                  try have c28b2 : (9223372036854775807 < (((⟨#[99, 111, 100, 101, 32]⟩ : ByteArray) ++ (⟨#[45]⟩ : ByteArray)) ++ t138).size + 2) = False := eq_false (Nat.not_lt.2 c28)
                  by_cases c29 : ((((⟨#[99, 111, 100, 101, 32]⟩ : ByteArray) ++ (⟨#[45]⟩ : ByteArray)) ++ t138) ++ (⟨#[58, 32]⟩ : ByteArray)).size + a0_2.size ≤ 9223372036854775807
                  · rw [if_pos c29] at H
                    have c29b0 := eq_true c29
                    have c29b9 := eq_false (Nat.not_lt.2 c29)
                    try simp only [ByteArray.size_append, show (⟨#[45]⟩ : ByteArray).size = 1 from rfl, show (⟨#[58, 32]⟩ : ByteArray).size = 2 from rfl, show (⟨#[99, 111, 100, 101, 32]⟩ : ByteArray).size = 5 from rfl] at c29b9
                    have c29b1 : decide (((((⟨#[99, 111, 100, 101, 32]⟩ : ByteArray) ++ (⟨#[45]⟩ : ByteArray)) ++ t138) ++ (⟨#[58, 32]⟩ : ByteArray)).size + a0_2.size ≤ 9223372036854775807) = true := decide_eq_true c29
                    try have c29b2 : (9223372036854775807 < ((((⟨#[99, 111, 100, 101, 32]⟩ : ByteArray) ++ (⟨#[45]⟩ : ByteArray)) ++ t138) ++ (⟨#[58, 32]⟩ : ByteArray)).size + a0_2.size) = False := eq_false (Nat.not_lt.2 c29)
                    obtain rfl := Option.some.inj H
                    have hcz30_0 : wc.cell? ⟨gb133, 0, none⟩ = some (.int .i64 a0_0) := (blk_cell BK133.out 0).trans rfl
                    have hcz30_1 : wc.cell? ⟨gb133, 1, none⟩ = some (.int .i64 a0_1) := (blk_cell BK133.out 1).trans rfl
                    have hcz30_2 : wc.cell? ⟨gb133, 2, none⟩ = some (.string a0_2) := (blk_cell BK133.out 2).trans rfl
                    have hfz30_0 := blk_frozen BK133.out 0
                    have hfz30_1 := blk_frozen BK133.out 1
                    have hfz30_2 := blk_frozen BK133.out 2
                    go_wp2_with (first | ((with_reducible refine gate_callee (f := 20) rfl ?_); refine goesL_ (some 27) rfl rfl Tryd.func20 (by kernel_rfl) rfl #[.int .i64 a0_1] rfl (by (try simp only [List.map_toArray, List.map_cons, List.map_nil]); first | done | rfl | (simp only [List.length_drop, List.length_take]; rfl)) ?_; (with_reducible refine (cupelref19_digits.calls kj1 a0_1 t138 _ A22.out).mono ?_); rintro e w31 ⟨rfl, hb⟩; refine ⟨_, rfl, ?_⟩; have n0_ := Aside0.mk (Kd.R_below (by (with_reducible repeat (first | apply Kd.R_alloc | apply Kd.R_drewN | apply Kd.R_drew)); exact HO_3.out) hb); have n1_ := Aside0.mk (blk_below (g := gb133) (o := .cells #[.int .i64 a0_0, .int .i64 a0_1, .string a0_2] 23 (0, 0)) (by (with_reducible repeat (first | refine blk_drewN ?_ _ | refine blk_drew ?_ | refine blk_alloc ?_ _)); exact BK133.out) hb); have n2_ := Aside0.mk (below_step (by repeat (first | (with_reducible first | exact HB.out | apply below_alloc | apply pw_below_drewN | apply below_drew1 | refine below_set ?_ GE133.out) | exact HB.out)) hb); clear HO_3; clear BK133; clear HB; have HO_3 := n0_; have BK133 := n1_; have HB := n2_; clear n0_ n1_ n2_; (try clear hb); (try clear hb2); (try clear hk); (try clear hi); have hcz32_0 : w31.cell? ⟨gb133, 0, none⟩ = some (.int .i64 a0_0) := (blk_cell BK133.out 0).trans rfl; have hcz32_1 : w31.cell? ⟨gb133, 1, none⟩ = some (.int .i64 a0_1) := (blk_cell BK133.out 1).trans rfl; have hcz32_2 : w31.cell? ⟨gb133, 2, none⟩ = some (.string a0_2) := (blk_cell BK133.out 2).trans rfl; have hfz32_0 := blk_frozen BK133.out 0; have hfz32_1 := blk_frozen BK133.out 1; have hfz32_2 := blk_frozen BK133.out 2))
                    go_ret
                    exact ⟨by first | rfl | (simp [errW_none, errW_some] <;> rfl) | (simp [*, errW_none, errW_some] <;> rfl), by repeat (first | (with_reducible first | exact HB.out | apply below_alloc | apply pw_below_drewN | apply below_drew1 | refine below_set ?_ GE133.out) | exact HB.out)⟩
                  · rw [if_neg c29] at H
                    exact absurd H (by simp)
                · rw [if_neg c28] at H
                  exact absurd H (by simp)
            · rw [if_neg c23] at H
              exact absurd H (by simp)
          · rw [if_neg c21] at H
            exact absurd H (by simp)
        · rw [if_neg c20] at H
          have c20b0 : decide (a0_1 < 0) = false := decide_eq_false c20
          clear c20
          replace H := Option.bind_eq_some_iff.mp H
          obtain ⟨t139, A330, H⟩ := H
          replace H : (if (⟨#[99, 111, 100, 101, 32]⟩ : ByteArray).size + t139.size ≤ 9223372036854775807 then (if a0_2.toList = ([] : List UInt8) then (some ((⟨#[99, 111, 100, 101, 32]⟩ : ByteArray) ++ t139)) else (if ((⟨#[99, 111, 100, 101, 32]⟩ : ByteArray) ++ t139).size + 2 ≤ 9223372036854775807 then (if (((⟨#[99, 111, 100, 101, 32]⟩ : ByteArray) ++ t139) ++ (⟨#[58, 32]⟩ : ByteArray)).size + a0_2.size ≤ 9223372036854775807 then (some ((((⟨#[99, 111, 100, 101, 32]⟩ : ByteArray) ++ t139) ++ (⟨#[58, 32]⟩ : ByteArray)) ++ a0_2)) else (none)) else (none))) else (none)) = some r := H
          have A33 := Aside0.mk A330
          clear A330
          by_cases c34 : (⟨#[99, 111, 100, 101, 32]⟩ : ByteArray).size + t139.size ≤ 9223372036854775807
          · rw [if_pos c34] at H
            have c34b0 := eq_true c34
            have c34b9 := eq_false (Nat.not_lt.2 c34)
            try simp only [ByteArray.size_append, show (⟨#[99, 111, 100, 101, 32]⟩ : ByteArray).size = 5 from rfl] at c34b9
            have c34b1 : decide ((⟨#[99, 111, 100, 101, 32]⟩ : ByteArray).size + t139.size ≤ 9223372036854775807) = true := decide_eq_true c34
            try have c34b2 : (9223372036854775807 < (⟨#[99, 111, 100, 101, 32]⟩ : ByteArray).size + t139.size) = False := eq_false (Nat.not_lt.2 c34)
            by_cases c35 : a0_2.toList = ([] : List UInt8)
            · rw [if_pos c35] at H
              have c35b0 : (a0_2.toList == ([] : List UInt8)) = true := beq_iff_eq.mpr c35
              have c35b1 : (a0_2.toList != ([] : List UInt8)) = false := bne_eq_false_iff_eq.mpr c35
              clear c35
              obtain rfl := Option.some.inj H
              have hcz36_0 : wc.cell? ⟨gb133, 0, none⟩ = some (.int .i64 a0_0) := (blk_cell BK133.out 0).trans rfl
              have hcz36_1 : wc.cell? ⟨gb133, 1, none⟩ = some (.int .i64 a0_1) := (blk_cell BK133.out 1).trans rfl
              have hcz36_2 : wc.cell? ⟨gb133, 2, none⟩ = some (.string a0_2) := (blk_cell BK133.out 2).trans rfl
              have hfz36_0 := blk_frozen BK133.out 0
              have hfz36_1 := blk_frozen BK133.out 1
              have hfz36_2 := blk_frozen BK133.out 2
              go_wp2_with (first | ((with_reducible refine gate_callee (f := 21) rfl ?_); refine goesL_ (some 32) rfl rfl Tryd.func21 (by kernel_rfl) rfl #[.int .i64 a0_1] rfl (by (try simp only [List.map_toArray, List.map_cons, List.map_nil]); first | done | rfl | (simp only [List.length_drop, List.length_take]; rfl)) ?_; (with_reducible refine (cupelref18_Digits.calls kj1 a0_1 t139 _ A33.out).mono ?_); rintro e w37 ⟨rfl, hb⟩; refine ⟨_, rfl, ?_⟩; have n0_ := Aside0.mk (Kd.R_below (by (with_reducible repeat (first | apply Kd.R_alloc | apply Kd.R_drewN | apply Kd.R_drew)); exact HO_3.out) hb); have n1_ := Aside0.mk (blk_below (g := gb133) (o := .cells #[.int .i64 a0_0, .int .i64 a0_1, .string a0_2] 23 (0, 0)) (by (with_reducible repeat (first | refine blk_drewN ?_ _ | refine blk_drew ?_ | refine blk_alloc ?_ _)); exact BK133.out) hb); have n2_ := Aside0.mk (below_step (by repeat (first | (with_reducible first | exact HB.out | apply below_alloc | apply pw_below_drewN | apply below_drew1 | refine below_set ?_ GE133.out) | exact HB.out)) hb); clear HO_3; clear BK133; clear HB; have HO_3 := n0_; have BK133 := n1_; have HB := n2_; clear n0_ n1_ n2_; (try clear hb); (try clear hb2); (try clear hk); (try clear hi); have hcz38_0 : w37.cell? ⟨gb133, 0, none⟩ = some (.int .i64 a0_0) := (blk_cell BK133.out 0).trans rfl; have hcz38_1 : w37.cell? ⟨gb133, 1, none⟩ = some (.int .i64 a0_1) := (blk_cell BK133.out 1).trans rfl; have hcz38_2 : w37.cell? ⟨gb133, 2, none⟩ = some (.string a0_2) := (blk_cell BK133.out 2).trans rfl; have hfz38_0 := blk_frozen BK133.out 0; have hfz38_1 := blk_frozen BK133.out 1; have hfz38_2 := blk_frozen BK133.out 2))
              go_ret
              exact ⟨by first | rfl | (simp [errW_none, errW_some] <;> rfl) | (simp [*, errW_none, errW_some] <;> rfl), by repeat (first | (with_reducible first | exact HB.out | apply below_alloc | apply pw_below_drewN | apply below_drew1 | refine below_set ?_ GE133.out) | exact HB.out)⟩
            · rw [if_neg c35] at H
              have c35b0 : (a0_2.toList == ([] : List UInt8)) = false := beq_eq_false_iff_ne.mpr c35
              have c35b1 : (a0_2.toList != ([] : List UInt8)) = true := bne_iff_ne.mpr c35
              by_cases c39 : ((⟨#[99, 111, 100, 101, 32]⟩ : ByteArray) ++ t139).size + 2 ≤ 9223372036854775807
              · rw [if_pos c39] at H
                have c39b0 := eq_true c39
                have c39b9 := eq_false (Nat.not_lt.2 c39)
                try simp only [ByteArray.size_append, show (⟨#[99, 111, 100, 101, 32]⟩ : ByteArray).size = 5 from rfl] at c39b9
                have c39b1 : decide (((⟨#[99, 111, 100, 101, 32]⟩ : ByteArray) ++ t139).size + 2 ≤ 9223372036854775807) = true := decide_eq_true c39
                try have c39b2 : (9223372036854775807 < ((⟨#[99, 111, 100, 101, 32]⟩ : ByteArray) ++ t139).size + 2) = False := eq_false (Nat.not_lt.2 c39)
                by_cases c40 : (((⟨#[99, 111, 100, 101, 32]⟩ : ByteArray) ++ t139) ++ (⟨#[58, 32]⟩ : ByteArray)).size + a0_2.size ≤ 9223372036854775807
                · rw [if_pos c40] at H
                  have c40b0 := eq_true c40
                  have c40b9 := eq_false (Nat.not_lt.2 c40)
                  try simp only [ByteArray.size_append, show (⟨#[58, 32]⟩ : ByteArray).size = 2 from rfl, show (⟨#[99, 111, 100, 101, 32]⟩ : ByteArray).size = 5 from rfl] at c40b9
                  have c40b1 : decide ((((⟨#[99, 111, 100, 101, 32]⟩ : ByteArray) ++ t139) ++ (⟨#[58, 32]⟩ : ByteArray)).size + a0_2.size ≤ 9223372036854775807) = true := decide_eq_true c40
                  try have c40b2 : (9223372036854775807 < (((⟨#[99, 111, 100, 101, 32]⟩ : ByteArray) ++ t139) ++ (⟨#[58, 32]⟩ : ByteArray)).size + a0_2.size) = False := eq_false (Nat.not_lt.2 c40)
                  obtain rfl := Option.some.inj H
                  have hcz41_0 : wc.cell? ⟨gb133, 0, none⟩ = some (.int .i64 a0_0) := (blk_cell BK133.out 0).trans rfl
                  have hcz41_1 : wc.cell? ⟨gb133, 1, none⟩ = some (.int .i64 a0_1) := (blk_cell BK133.out 1).trans rfl
                  have hcz41_2 : wc.cell? ⟨gb133, 2, none⟩ = some (.string a0_2) := (blk_cell BK133.out 2).trans rfl
                  have hfz41_0 := blk_frozen BK133.out 0
                  have hfz41_1 := blk_frozen BK133.out 1
                  have hfz41_2 := blk_frozen BK133.out 2
                  go_wp2_with (first | ((with_reducible refine gate_callee (f := 21) rfl ?_); refine goesL_ (some 32) rfl rfl Tryd.func21 (by kernel_rfl) rfl #[.int .i64 a0_1] rfl (by (try simp only [List.map_toArray, List.map_cons, List.map_nil]); first | done | rfl | (simp only [List.length_drop, List.length_take]; rfl)) ?_; (with_reducible refine (cupelref18_Digits.calls kj1 a0_1 t139 _ A33.out).mono ?_); rintro e w42 ⟨rfl, hb⟩; refine ⟨_, rfl, ?_⟩; have n0_ := Aside0.mk (Kd.R_below (by (with_reducible repeat (first | apply Kd.R_alloc | apply Kd.R_drewN | apply Kd.R_drew)); exact HO_3.out) hb); have n1_ := Aside0.mk (blk_below (g := gb133) (o := .cells #[.int .i64 a0_0, .int .i64 a0_1, .string a0_2] 23 (0, 0)) (by (with_reducible repeat (first | refine blk_drewN ?_ _ | refine blk_drew ?_ | refine blk_alloc ?_ _)); exact BK133.out) hb); have n2_ := Aside0.mk (below_step (by repeat (first | (with_reducible first | exact HB.out | apply below_alloc | apply pw_below_drewN | apply below_drew1 | refine below_set ?_ GE133.out) | exact HB.out)) hb); clear HO_3; clear BK133; clear HB; have HO_3 := n0_; have BK133 := n1_; have HB := n2_; clear n0_ n1_ n2_; (try clear hb); (try clear hb2); (try clear hk); (try clear hi); have hcz43_0 : w42.cell? ⟨gb133, 0, none⟩ = some (.int .i64 a0_0) := (blk_cell BK133.out 0).trans rfl; have hcz43_1 : w42.cell? ⟨gb133, 1, none⟩ = some (.int .i64 a0_1) := (blk_cell BK133.out 1).trans rfl; have hcz43_2 : w42.cell? ⟨gb133, 2, none⟩ = some (.string a0_2) := (blk_cell BK133.out 2).trans rfl; have hfz43_0 := blk_frozen BK133.out 0; have hfz43_1 := blk_frozen BK133.out 1; have hfz43_2 := blk_frozen BK133.out 2))
                  go_ret
                  exact ⟨by first | rfl | (simp [errW_none, errW_some] <;> rfl) | (simp [*, errW_none, errW_some] <;> rfl), by repeat (first | (with_reducible first | exact HB.out | apply below_alloc | apply pw_below_drewN | apply below_drew1 | refine below_set ?_ GE133.out) | exact HB.out)⟩
                · rw [if_neg c40] at H
                  exact absurd H (by simp)
              · rw [if_neg c39] at H
                exact absurd H (by simp)
          · rw [if_neg c34] at H
            exact absurd H (by simp)

/-! ### diag_Line: function 11 -/
def diag_Line.f (a0 : ByteArray) (a1 : ByteArray) (a2_0 : Int) (a2_1 : Int) (a2_2 : ByteArray) : Option (ByteArray) := (diag_Place.f a1 a2_0).bind fun bt141 => (if a0.size + 1 ≤ 9223372036854775807 then ((strconv_Itoa_19.f bt141.1).bind fun t143 => (if (a0 ++ (⟨#[58]⟩ : ByteArray)).size + t143.size ≤ 9223372036854775807 then (if ((a0 ++ (⟨#[58]⟩ : ByteArray)) ++ t143).size + 1 ≤ 9223372036854775807 then ((strconv_Itoa_19.f bt141.2).bind fun t144 => (if (((a0 ++ (⟨#[58]⟩ : ByteArray)) ++ t143) ++ (⟨#[58]⟩ : ByteArray)).size + t144.size ≤ 9223372036854775807 then (if ((((a0 ++ (⟨#[58]⟩ : ByteArray)) ++ t143) ++ (⟨#[58]⟩ : ByteArray)) ++ t144).size + 2 ≤ 9223372036854775807 then ((diag_Says.f a2_0 a2_1 a2_2).bind fun t145 => (if (((((a0 ++ (⟨#[58]⟩ : ByteArray)) ++ t143) ++ (⟨#[58]⟩ : ByteArray)) ++ t144) ++ (⟨#[58, 32]⟩ : ByteArray)).size + t145.size ≤ 9223372036854775807 then (if ((((((a0 ++ (⟨#[58]⟩ : ByteArray)) ++ t143) ++ (⟨#[58]⟩ : ByteArray)) ++ t144) ++ (⟨#[58, 32]⟩ : ByteArray)) ++ t145).size + 1 ≤ 9223372036854775807 then (some (((((((a0 ++ (⟨#[58]⟩ : ByteArray)) ++ t143) ++ (⟨#[58]⟩ : ByteArray)) ++ t144) ++ (⟨#[58, 32]⟩ : ByteArray)) ++ t145) ++ (⟨#[10]⟩ : ByteArray))) else (none)) else (none))) else (none)) else (none))) else (none)) else (none))) else (none))
def diag_Line.T2 : Bool × List (List Nat × List Nat) := (true, [([], []), ([0], [0]), ([], []), ([2], [2]), ([1, 3], [1, 3]), ([4], [4]), ([], []), ([6, 3], [6]), ([5, 7], [5, 7]), ([8], [8]), ([], []), ([10, 7], [10]), ([9, 11], [9, 11]), ([12], [12]), ([13, 11, 0, 1, 2, 3, 4, 5, 6, 7, 8, 9, 10, 11, 12, 13], [13])])
def diag_Line.B2 : List Nat := [0, 1, 0, 4, 15, 31, 0, 76, 255, 511, 0, 1228, 4095, 8191, 16383]
theorem diag_Line.tab2 : rtab .any (opsOf Tryd.f11 2) = diag_Line.T2 := by kernel_rfl
theorem diag_Line.bits2 : waitsOk diag_Line.T2.2 diag_Line.B2 = true := by kernel_rfl
set_option maxHeartbeats 8000000 in
set_option maxRecDepth 100000 in
theorem diag_Line.calls (a0 : ByteArray) (a1 : ByteArray) (a2_0 : Int) (a2_1 : Int) (a2_2 : ByteArray) (r : ByteArray) (w : World) (h : diag_Line.f a0 a1 a2_0 a2_1 a2_2 = some r) (hT : Tabs w) :
    Calls Tryd.prog 11 #[.string a0, .string a1, .agg #[.int .i64 a2_0, .int .i64 a2_1, .string a2_2]] w fun e w' => e = .returned (.string r) ∧ Below w.heap.size w w' := by
  have HT0 := Aside0.mk hT
  clear hT
  have hu26 := Tryd.underlying26
  have HB := Aside0.mk (Below.refl w.heap.size w)
  have H : ((diag_Place.f a1 a2_0).bind fun bt141 => (if a0.size + 1 ≤ 9223372036854775807 then ((strconv_Itoa_19.f bt141.1).bind fun t143 => (if (a0 ++ (⟨#[58]⟩ : ByteArray)).size + t143.size ≤ 9223372036854775807 then (if ((a0 ++ (⟨#[58]⟩ : ByteArray)) ++ t143).size + 1 ≤ 9223372036854775807 then ((strconv_Itoa_19.f bt141.2).bind fun t144 => (if (((a0 ++ (⟨#[58]⟩ : ByteArray)) ++ t143) ++ (⟨#[58]⟩ : ByteArray)).size + t144.size ≤ 9223372036854775807 then (if ((((a0 ++ (⟨#[58]⟩ : ByteArray)) ++ t143) ++ (⟨#[58]⟩ : ByteArray)) ++ t144).size + 2 ≤ 9223372036854775807 then ((diag_Says.f a2_0 a2_1 a2_2).bind fun t145 => (if (((((a0 ++ (⟨#[58]⟩ : ByteArray)) ++ t143) ++ (⟨#[58]⟩ : ByteArray)) ++ t144) ++ (⟨#[58, 32]⟩ : ByteArray)).size + t145.size ≤ 9223372036854775807 then (if ((((((a0 ++ (⟨#[58]⟩ : ByteArray)) ++ t143) ++ (⟨#[58]⟩ : ByteArray)) ++ t144) ++ (⟨#[58, 32]⟩ : ByteArray)) ++ t145).size + 1 ≤ 9223372036854775807 then (some (((((((a0 ++ (⟨#[58]⟩ : ByteArray)) ++ t143) ++ (⟨#[58]⟩ : ByteArray)) ++ t144) ++ (⟨#[58, 32]⟩ : ByteArray)) ++ t145) ++ (⟨#[10]⟩ : ByteArray))) else (none)) else (none))) else (none)) else (none))) else (none)) else (none))) else (none))) = some r := h
  clear h
  replace H := Option.bind_eq_some_iff.mp H
  obtain ⟨⟨t141, t142⟩, A40, H⟩ := H
  replace H : (if a0.size + 1 ≤ 9223372036854775807 then ((strconv_Itoa_19.f t141).bind fun t143 => (if (a0 ++ (⟨#[58]⟩ : ByteArray)).size + t143.size ≤ 9223372036854775807 then (if ((a0 ++ (⟨#[58]⟩ : ByteArray)) ++ t143).size + 1 ≤ 9223372036854775807 then ((strconv_Itoa_19.f t142).bind fun t144 => (if (((a0 ++ (⟨#[58]⟩ : ByteArray)) ++ t143) ++ (⟨#[58]⟩ : ByteArray)).size + t144.size ≤ 9223372036854775807 then (if ((((a0 ++ (⟨#[58]⟩ : ByteArray)) ++ t143) ++ (⟨#[58]⟩ : ByteArray)) ++ t144).size + 2 ≤ 9223372036854775807 then ((diag_Says.f a2_0 a2_1 a2_2).bind fun t145 => (if (((((a0 ++ (⟨#[58]⟩ : ByteArray)) ++ t143) ++ (⟨#[58]⟩ : ByteArray)) ++ t144) ++ (⟨#[58, 32]⟩ : ByteArray)).size + t145.size ≤ 9223372036854775807 then (if ((((((a0 ++ (⟨#[58]⟩ : ByteArray)) ++ t143) ++ (⟨#[58]⟩ : ByteArray)) ++ t144) ++ (⟨#[58, 32]⟩ : ByteArray)) ++ t145).size + 1 ≤ 9223372036854775807 then (some (((((((a0 ++ (⟨#[58]⟩ : ByteArray)) ++ t143) ++ (⟨#[58]⟩ : ByteArray)) ++ t144) ++ (⟨#[58, 32]⟩ : ByteArray)) ++ t145) ++ (⟨#[10]⟩ : ByteArray))) else (none)) else (none))) else (none)) else (none))) else (none)) else (none))) else (none)) = some r := H
  have A4 := Aside0.mk A40
  clear A40
  by_cases c5 : a0.size + 1 ≤ 9223372036854775807
  · rw [if_pos c5] at H
    have c5b0 := eq_true c5
    have c5b9 := eq_false (Nat.not_lt.2 c5)
    try simp only [ByteArray.size_append] at c5b9
    have c5b1 : decide (a0.size + 1 ≤ 9223372036854775807) = true := decide_eq_true c5
    try have c5b2 : (9223372036854775807 < a0.size + 1) = False := eq_false (Nat.not_lt.2 c5)
    replace H := Option.bind_eq_some_iff.mp H
    obtain ⟨t143, A60, H⟩ := H
    replace H : (if (a0 ++ (⟨#[58]⟩ : ByteArray)).size + t143.size ≤ 9223372036854775807 then (if ((a0 ++ (⟨#[58]⟩ : ByteArray)) ++ t143).size + 1 ≤ 9223372036854775807 then ((strconv_Itoa_19.f t142).bind fun t144 => (if (((a0 ++ (⟨#[58]⟩ : ByteArray)) ++ t143) ++ (⟨#[58]⟩ : ByteArray)).size + t144.size ≤ 9223372036854775807 then (if ((((a0 ++ (⟨#[58]⟩ : ByteArray)) ++ t143) ++ (⟨#[58]⟩ : ByteArray)) ++ t144).size + 2 ≤ 9223372036854775807 then ((diag_Says.f a2_0 a2_1 a2_2).bind fun t145 => (if (((((a0 ++ (⟨#[58]⟩ : ByteArray)) ++ t143) ++ (⟨#[58]⟩ : ByteArray)) ++ t144) ++ (⟨#[58, 32]⟩ : ByteArray)).size + t145.size ≤ 9223372036854775807 then (if ((((((a0 ++ (⟨#[58]⟩ : ByteArray)) ++ t143) ++ (⟨#[58]⟩ : ByteArray)) ++ t144) ++ (⟨#[58, 32]⟩ : ByteArray)) ++ t145).size + 1 ≤ 9223372036854775807 then (some (((((((a0 ++ (⟨#[58]⟩ : ByteArray)) ++ t143) ++ (⟨#[58]⟩ : ByteArray)) ++ t144) ++ (⟨#[58, 32]⟩ : ByteArray)) ++ t145) ++ (⟨#[10]⟩ : ByteArray))) else (none)) else (none))) else (none)) else (none))) else (none)) else (none)) = some r := H
    have A6 := Aside0.mk A60
    clear A60
    by_cases c7 : (a0 ++ (⟨#[58]⟩ : ByteArray)).size + t143.size ≤ 9223372036854775807
    · rw [if_pos c7] at H
      have c7b0 := eq_true c7
      have c7b9 := eq_false (Nat.not_lt.2 c7)
      try simp only [ByteArray.size_append, show (⟨#[58]⟩ : ByteArray).size = 1 from rfl] at c7b9
      have c7b1 : decide ((a0 ++ (⟨#[58]⟩ : ByteArray)).size + t143.size ≤ 9223372036854775807) = true := decide_eq_true c7
      try have c7b2 : (9223372036854775807 < (a0 ++ (⟨#[58]⟩ : ByteArray)).size + t143.size) = False := eq_false (Nat.not_lt.2 c7)
      by_cases c8 : ((a0 ++ (⟨#[58]⟩ : ByteArray)) ++ t143).size + 1 ≤ 9223372036854775807
      · rw [if_pos c8] at H
        have c8b0 := eq_true c8
        have c8b9 := eq_false (Nat.not_lt.2 c8)
        try simp only [ByteArray.size_append, show (⟨#[58]⟩ : ByteArray).size = 1 from rfl] at c8b9
        have c8b1 : decide (((a0 ++ (⟨#[58]⟩ : ByteArray)) ++ t143).size + 1 ≤ 9223372036854775807) = true := decide_eq_true c8
        try have c8b2 : (9223372036854775807 < ((a0 ++ (⟨#[58]⟩ : ByteArray)) ++ t143).size + 1) = False := eq_false (Nat.not_lt.2 c8)
        replace H := Option.bind_eq_some_iff.mp H
        obtain ⟨t144, A90, H⟩ := H
        replace H : (if (((a0 ++ (⟨#[58]⟩ : ByteArray)) ++ t143) ++ (⟨#[58]⟩ : ByteArray)).size + t144.size ≤ 9223372036854775807 then (if ((((a0 ++ (⟨#[58]⟩ : ByteArray)) ++ t143) ++ (⟨#[58]⟩ : ByteArray)) ++ t144).size + 2 ≤ 9223372036854775807 then ((diag_Says.f a2_0 a2_1 a2_2).bind fun t145 => (if (((((a0 ++ (⟨#[58]⟩ : ByteArray)) ++ t143) ++ (⟨#[58]⟩ : ByteArray)) ++ t144) ++ (⟨#[58, 32]⟩ : ByteArray)).size + t145.size ≤ 9223372036854775807 then (if ((((((a0 ++ (⟨#[58]⟩ : ByteArray)) ++ t143) ++ (⟨#[58]⟩ : ByteArray)) ++ t144) ++ (⟨#[58, 32]⟩ : ByteArray)) ++ t145).size + 1 ≤ 9223372036854775807 then (some (((((((a0 ++ (⟨#[58]⟩ : ByteArray)) ++ t143) ++ (⟨#[58]⟩ : ByteArray)) ++ t144) ++ (⟨#[58, 32]⟩ : ByteArray)) ++ t145) ++ (⟨#[10]⟩ : ByteArray))) else (none)) else (none))) else (none)) else (none)) = some r := H
        have A9 := Aside0.mk A90
        clear A90
        by_cases c10 : (((a0 ++ (⟨#[58]⟩ : ByteArray)) ++ t143) ++ (⟨#[58]⟩ : ByteArray)).size + t144.size ≤ 9223372036854775807
        · rw [if_pos c10] at H
          have c10b0 := eq_true c10
          have c10b9 := eq_false (Nat.not_lt.2 c10)
          try simp only [ByteArray.size_append, show (⟨#[58]⟩ : ByteArray).size = 1 from rfl] at c10b9
          have c10b1 : decide ((((a0 ++ (⟨#[58]⟩ : ByteArray)) ++ t143) ++ (⟨#[58]⟩ : ByteArray)).size + t144.size ≤ 9223372036854775807) = true := decide_eq_true c10
          try have c10b2 : (9223372036854775807 < (((a0 ++ (⟨#[58]⟩ : ByteArray)) ++ t143) ++ (⟨#[58]⟩ : ByteArray)).size + t144.size) = False := eq_false (Nat.not_lt.2 c10)
          by_cases c11 : ((((a0 ++ (⟨#[58]⟩ : ByteArray)) ++ t143) ++ (⟨#[58]⟩ : ByteArray)) ++ t144).size + 2 ≤ 9223372036854775807
          · rw [if_pos c11] at H
            have c11b0 := eq_true c11
            have c11b9 := eq_false (Nat.not_lt.2 c11)
            try simp only [ByteArray.size_append, show (⟨#[58]⟩ : ByteArray).size = 1 from rfl] at c11b9
            have c11b1 : decide (((((a0 ++ (⟨#[58]⟩ : ByteArray)) ++ t143) ++ (⟨#[58]⟩ : ByteArray)) ++ t144).size + 2 ≤ 9223372036854775807) = true := decide_eq_true c11
            try have c11b2 : (9223372036854775807 < ((((a0 ++ (⟨#[58]⟩ : ByteArray)) ++ t143) ++ (⟨#[58]⟩ : ByteArray)) ++ t144).size + 2) = False := eq_false (Nat.not_lt.2 c11)
            replace H := Option.bind_eq_some_iff.mp H
            obtain ⟨t145, A120, H⟩ := H
            replace H : (if (((((a0 ++ (⟨#[58]⟩ : ByteArray)) ++ t143) ++ (⟨#[58]⟩ : ByteArray)) ++ t144) ++ (⟨#[58, 32]⟩ : ByteArray)).size + t145.size ≤ 9223372036854775807 then (if ((((((a0 ++ (⟨#[58]⟩ : ByteArray)) ++ t143) ++ (⟨#[58]⟩ : ByteArray)) ++ t144) ++ (⟨#[58, 32]⟩ : ByteArray)) ++ t145).size + 1 ≤ 9223372036854775807 then (some (((((((a0 ++ (⟨#[58]⟩ : ByteArray)) ++ t143) ++ (⟨#[58]⟩ : ByteArray)) ++ t144) ++ (⟨#[58, 32]⟩ : ByteArray)) ++ t145) ++ (⟨#[10]⟩ : ByteArray))) else (none)) else (none)) = some r := H
            have A12 := Aside0.mk A120
            clear A120
            by_cases c13 : (((((a0 ++ (⟨#[58]⟩ : ByteArray)) ++ t143) ++ (⟨#[58]⟩ : ByteArray)) ++ t144) ++ (⟨#[58, 32]⟩ : ByteArray)).size + t145.size ≤ 9223372036854775807
            · rw [if_pos c13] at H
              have c13b0 := eq_true c13
              have c13b9 := eq_false (Nat.not_lt.2 c13)
              try simp only [ByteArray.size_append, show (⟨#[58, 32]⟩ : ByteArray).size = 2 from rfl, show (⟨#[58]⟩ : ByteArray).size = 1 from rfl] at c13b9
              have c13b1 : decide ((((((a0 ++ (⟨#[58]⟩ : ByteArray)) ++ t143) ++ (⟨#[58]⟩ : ByteArray)) ++ t144) ++ (⟨#[58, 32]⟩ : ByteArray)).size + t145.size ≤ 9223372036854775807) = true := decide_eq_true c13
              try have c13b2 : (9223372036854775807 < (((((a0 ++ (⟨#[58]⟩ : ByteArray)) ++ t143) ++ (⟨#[58]⟩ : ByteArray)) ++ t144) ++ (⟨#[58, 32]⟩ : ByteArray)).size + t145.size) = False := eq_false (Nat.not_lt.2 c13)
              by_cases c14 : ((((((a0 ++ (⟨#[58]⟩ : ByteArray)) ++ t143) ++ (⟨#[58]⟩ : ByteArray)) ++ t144) ++ (⟨#[58, 32]⟩ : ByteArray)) ++ t145).size + 1 ≤ 9223372036854775807
              · rw [if_pos c14] at H
                have c14b0 := eq_true c14
                have c14b9 := eq_false (Nat.not_lt.2 c14)
                try simp only [ByteArray.size_append, show (⟨#[58, 32]⟩ : ByteArray).size = 2 from rfl, show (⟨#[58]⟩ : ByteArray).size = 1 from rfl] at c14b9
                have c14b1 : decide (((((((a0 ++ (⟨#[58]⟩ : ByteArray)) ++ t143) ++ (⟨#[58]⟩ : ByteArray)) ++ t144) ++ (⟨#[58, 32]⟩ : ByteArray)) ++ t145).size + 1 ≤ 9223372036854775807) = true := decide_eq_true c14
                try have c14b2 : (9223372036854775807 < ((((((a0 ++ (⟨#[58]⟩ : ByteArray)) ++ t143) ++ (⟨#[58]⟩ : ByteArray)) ++ t144) ++ (⟨#[58, 32]⟩ : ByteArray)) ++ t145).size + 1) = False := eq_false (Nat.not_lt.2 c14)
                obtain rfl := Option.some.inj H
                go_enter Tryd.func11, Tryd.ntmps11
                try go_wp2_with (first | ((with_reducible refine gate_dst (N := 5) rfl ?_); refine box_event ?hg (N := 5) ?hd (cs := #[.int .i64 a2_0, .int .i64 a2_1, .string a2_2]) (t := 26) ?hr ?_; (case hd => rfl); (case hg => rfl); (case hr => first | (go_simp; done) | (go_simp; rfl)); intro gb140 hg w15 hbox hb; have n0_ := Aside0.mk (below_step (by repeat (first | (with_reducible first | exact HB.out | apply below_alloc | apply pw_below_drewN | apply below_drew1) | exact HB.out)) hb); have n1_ := Aside0.mk (hbox); have n2_ := Aside0.mk ((by rw [hg]; exact (below_size (by repeat (first | (with_reducible first | exact HB.out | apply below_alloc | apply pw_below_drewN | apply below_drew1) | exact HB.out))) : w.heap.size ≤ gb140)); have n3_ := Aside0.mk ((by rw [hg]; exact (below_size (by repeat (first | (with_reducible first | exact HB.out | apply below_alloc | apply pw_below_drewN | apply below_drew1) | exact HB.out))) : w.heap.size ≤ gb140)); clear HB; have HB := n0_; have BK140 := n1_; have GW140 := n2_; have GE140 := n3_; clear n0_ n1_ n2_ n3_; clear hb hbox hg; have hcz16_0 : w15.cell? ⟨gb140, 0, none⟩ = some (.int .i64 a2_0) := (blk_cell BK140.out 0).trans rfl; have hcz16_1 : w15.cell? ⟨gb140, 1, none⟩ = some (.int .i64 a2_1) := (blk_cell BK140.out 1).trans rfl; have hcz16_2 : w15.cell? ⟨gb140, 2, none⟩ = some (.string a2_2) := (blk_cell BK140.out 2).trans rfl; have hfz16_0 := blk_frozen BK140.out 0; have hfz16_1 := blk_frozen BK140.out 1; have hfz16_2 := blk_frozen BK140.out 2) | ((with_reducible refine gate_callee (f := 13) rfl ?_); refine goesL_ (some 13) rfl rfl Tryd.func13 (by kernel_rfl) rfl #[.string a1, .int .i64 a2_0] rfl (by (try simp only [List.map_toArray, List.map_cons, List.map_nil]); first | done | rfl | (simp only [List.length_drop, List.length_take]; rfl)) ?_; (with_reducible refine (diag_Place.calls a1 a2_0 t141 t142 _ A4.out).mono ?_); rintro e w17 ⟨rfl, hb⟩; refine ⟨_, rfl, ?_⟩; have n0_ := Aside0.mk (blk_below (g := gb140) (o := .cells #[.int .i64 a2_0, .int .i64 a2_1, .string a2_2] 26 (0, 0)) (by (with_reducible repeat (first | refine blk_drewN ?_ _ | refine blk_drew ?_ | refine blk_alloc ?_ _)); exact BK140.out) hb); have n1_ := Aside0.mk (below_step (by repeat (first | (with_reducible first | exact HB.out | apply below_alloc | apply pw_below_drewN | apply below_drew1 | refine below_set ?_ GE140.out) | exact HB.out)) hb); clear BK140; clear HB; have BK140 := n0_; have HB := n1_; clear n0_ n1_; (try clear hb); (try clear hb2); (try clear hk); (try clear hi)))
                have n0_ := Aside0.mk (blk_drew BK140.out)
                have n1_ := Aside0.mk (below_drew1 HB.out)
                clear BK140
                clear HB
                have BK140 := n0_
                have HB := n1_
                clear n0_ n1_
                refine start_ (n := 15) (S := fun w' => w'.cell? ⟨gb140, 0, none⟩ = some (.int .i64 a2_0) ∧ w'.cell? ⟨gb140, 1, none⟩ = some (.int .i64 a2_1) ∧ w'.cell? ⟨gb140, 2, none⟩ = some (.string a2_2)) (ds := []) #[false, false, false, false, false, false, false, false, false, false, false, false, false, false, false] (by kernel_rfl) rfl rfl ⟨(blk_cell BK140.out 0).trans rfl, (blk_cell BK140.out 1).trans rfl, (blk_cell BK140.out 2).trans rfl⟩ (fun hHeld => ?_); refine with_tabW diag_Line.tab2 diag_Line.bits2 (fun HT_ HW_ => ?_)
                generalize w17.drew = w18 at BK140 HB hHeld ⊢
                refine pure_ (i := 0) (N := some 16) (v := ?_) (a' := ?_) #[true, false, false, false, false, false, false, false, false, false, false, false, false, false, false] rfl rfl (any_of HT_.out (by kernel_rfl)) (fun _ _ _ h => h) (Or.inl ⟨by rfl, ?_⟩) ?_ ?_
                rotate_left
                · intro w'
                  go_simp
                  with_reducible rfl
                rotate_left
                · simp only [Act.put, List.setIfInBounds_toArray, List.set_cons_zero, List.set_cons_succ, i64_w, i32_w]
                  rfl
                refine pure_ (i := 1) (N := some 17) (v := ?_) (a' := ?_) #[true, true, false, false, false, false, false, false, false, false, false, false, false, false, false] rfl rfl (any_of HT_.out (by kernel_rfl)) (fun _ _ _ h => h) (Or.inl ⟨by rfl, ?_⟩) ?_ ?_
                rotate_left
                · intro w'
                  go_simp
                  with_reducible rfl
                rotate_left
                · simp only [Act.put, List.setIfInBounds_toArray, List.set_cons_zero, List.set_cons_succ, i64_w, i32_w]
                  rfl
                refine pure_ (i := 2) (N := some 18) (v := ?_) (a' := ?_) #[true, true, true, false, false, false, false, false, false, false, false, false, false, false, false] rfl rfl (any_of HT_.out (by kernel_rfl)) (fun _ _ _ h => h) (Or.inl ⟨by rfl, ?_⟩) ?_ ?_
                rotate_left
                · intro w'
                  go_simp
                  with_reducible rfl
                rotate_left
                · simp only [Act.put, List.setIfInBounds_toArray, List.set_cons_zero, List.set_cons_succ, i64_w, i32_w]
                  rfl
                refine pure_ (i := 6) (N := some 22) (v := ?_) (a' := ?_) #[true, true, true, false, false, false, true, false, false, false, false, false, false, false, false] rfl rfl (any_of HT_.out (by kernel_rfl)) (fun _ _ _ h => h) (Or.inl ⟨by rfl, ?_⟩) ?_ ?_
                rotate_left
                · intro w'
                  go_simp
                  with_reducible rfl
                rotate_left
                · simp only [Act.put, List.setIfInBounds_toArray, List.set_cons_zero, List.set_cons_succ, i64_w, i32_w]
                  rfl
                refine take_ (i := 10) (N := some 26) (v := ?_) (a' := ?_) #[true, true, true, false, false, false, true, false, false, false, true, false, false, false, false] rfl rfl (take_ofW HT_.out HW_.out (by kernel_rfl)) (fun _ _ _ h => h) (Or.inl ⟨by rfl, ?_⟩) hHeld ?_ ?_
                rotate_left
                · rintro w' ⟨s0, s1, s2⟩
                  go_simp
                  with_reducible rfl
                rotate_left
                · simp only [Act.put, List.setIfInBounds_toArray, List.set_cons_zero, List.set_cons_succ, i64_w, i32_w]
                  rfl
                refine one_ (i := 3) (N := some 19) #[true, true, true, true, false, false, true, false, false, false, true, false, false, false, false] rfl rfl (one_of HT_.out (by kernel_rfl)) (by decide) (fun K hK => ?_)
                refine goes_ Tryd.func19 (by kernel_rfl) rfl #[.int .i64 t141] (by rfl) rfl rfl (by (try simp only [List.map_toArray, List.map_cons, List.map_nil]); first | done | rfl | (simp only [List.length_drop, List.length_take]; rfl)) ?_
                with_reducible refine (strconv_Itoa_19.calls t141 t143 _ A6.out (Tabs.below HT0.out (Nat.le_refl _) (by repeat (first | (with_reducible first | exact HB.out | apply below_alloc | apply pw_below_drewN | apply below_drew1) | exact HB.out)))).mono ?_
                rintro e w19 ⟨rfl, hb⟩
                refine ⟨_, rfl, ?_⟩
                have n0_ := Aside0.mk (blk_below (g := gb140) (o := .cells #[.int .i64 a2_0, .int .i64 a2_1, .string a2_2] 26 (0, 0)) (by (with_reducible repeat (first | refine blk_drewN ?_ _ | refine blk_drew ?_ | refine blk_alloc ?_ _)); exact BK140.out) hb)
                have n1_ := Aside0.mk (below_step (by repeat (first | (with_reducible first | exact HB.out | apply below_alloc | apply pw_below_drewN | apply below_drew1 | refine below_set ?_ GE140.out) | exact HB.out)) hb)
                clear BK140
                clear HB
                have BK140 := n0_
                have HB := n1_
                clear n0_ n1_
                (try clear hb)
                (try clear hb2)
                (try clear hk)
                (try clear hi)
                refine hK.out _ _ ⟨(blk_cell BK140.out 0).trans rfl, (blk_cell BK140.out 1).trans rfl, (blk_cell BK140.out 2).trans rfl⟩ (fun hHeld => ?_)
                clear hK K
                refine norm_ (a' := ?_) ?_ ?_
                rotate_left
                · show Act.put _ (some 19) _ = _
                  simp only [Act.put, List.setIfInBounds_toArray, List.set_cons_zero, List.set_cons_succ, i64_w, i32_w]
                  rfl
                refine pure_ (i := 4) (N := some 20) (v := ?_) (a' := ?_) #[true, true, true, true, true, false, true, false, false, false, true, false, false, false, false] rfl rfl (any_of HT_.out (by kernel_rfl)) (fun _ _ _ h => h) (Or.inl ⟨by rfl, ?_⟩) ?_ ?_
                rotate_left
                · intro w'
                  go_simp
                  with_reducible rfl
                rotate_left
                · simp only [Act.put, List.setIfInBounds_toArray, List.set_cons_zero, List.set_cons_succ, i64_w, i32_w]
                  rfl
                refine pure_ (i := 5) (N := some 21) (v := ?_) (a' := ?_) #[true, true, true, true, true, true, true, false, false, false, true, false, false, false, false] rfl rfl (any_of HT_.out (by kernel_rfl)) (fun _ _ _ h => h) (Or.inl ⟨by rfl, ?_⟩) ?_ ?_
                rotate_left
                · intro w'
                  go_simp
                  with_reducible rfl
                rotate_left
                · simp only [Act.put, List.setIfInBounds_toArray, List.set_cons_zero, List.set_cons_succ, i64_w, i32_w]
                  rfl
                refine one_ (i := 7) (N := some 23) #[true, true, true, true, true, true, true, true, false, false, true, false, false, false, false] rfl rfl (one_of HT_.out (by kernel_rfl)) (by decide) (fun K hK => ?_)
                refine goes_ Tryd.func19 (by kernel_rfl) rfl #[.int .i64 t142] (by rfl) rfl rfl (by (try simp only [List.map_toArray, List.map_cons, List.map_nil]); first | done | rfl | (simp only [List.length_drop, List.length_take]; rfl)) ?_
                with_reducible refine (strconv_Itoa_19.calls t142 t144 _ A9.out (Tabs.below HT0.out (Nat.le_refl _) (by repeat (first | (with_reducible first | exact HB.out | apply below_alloc | apply pw_below_drewN | apply below_drew1) | exact HB.out)))).mono ?_
                rintro e w20 ⟨rfl, hb⟩
                refine ⟨_, rfl, ?_⟩
                have n0_ := Aside0.mk (blk_below (g := gb140) (o := .cells #[.int .i64 a2_0, .int .i64 a2_1, .string a2_2] 26 (0, 0)) (by (with_reducible repeat (first | refine blk_drewN ?_ _ | refine blk_drew ?_ | refine blk_alloc ?_ _)); exact BK140.out) hb)
                have n1_ := Aside0.mk (below_step (by repeat (first | (with_reducible first | exact HB.out | apply below_alloc | apply pw_below_drewN | apply below_drew1 | refine below_set ?_ GE140.out) | exact HB.out)) hb)
                clear BK140
                clear HB
                have BK140 := n0_
                have HB := n1_
                clear n0_ n1_
                (try clear hb)
                (try clear hb2)
                (try clear hk)
                (try clear hi)
                refine hK.out _ _ ⟨(blk_cell BK140.out 0).trans rfl, (blk_cell BK140.out 1).trans rfl, (blk_cell BK140.out 2).trans rfl⟩ (fun hHeld => ?_)
                clear hK K
                refine norm_ (a' := ?_) ?_ ?_
                rotate_left
                · show Act.put _ (some 23) _ = _
                  simp only [Act.put, List.setIfInBounds_toArray, List.set_cons_zero, List.set_cons_succ, i64_w, i32_w]
                  rfl
                refine pure_ (i := 8) (N := some 24) (v := ?_) (a' := ?_) #[true, true, true, true, true, true, true, true, true, false, true, false, false, false, false] rfl rfl (any_of HT_.out (by kernel_rfl)) (fun _ _ _ h => h) (Or.inl ⟨by rfl, ?_⟩) ?_ ?_
                rotate_left
                · intro w'
                  go_simp
                  with_reducible rfl
                rotate_left
                · simp only [Act.put, List.setIfInBounds_toArray, List.set_cons_zero, List.set_cons_succ, i64_w, i32_w]
                  rfl
                refine pure_ (i := 9) (N := some 25) (v := ?_) (a' := ?_) #[true, true, true, true, true, true, true, true, true, true, true, false, false, false, false] rfl rfl (any_of HT_.out (by kernel_rfl)) (fun _ _ _ h => h) (Or.inl ⟨by rfl, ?_⟩) ?_ ?_
                rotate_left
                · intro w'
                  go_simp
                  with_reducible rfl
                rotate_left
                · simp only [Act.put, List.setIfInBounds_toArray, List.set_cons_zero, List.set_cons_succ, i64_w, i32_w]
                  rfl
                refine one_ (i := 11) (N := some 27) #[true, true, true, true, true, true, true, true, true, true, true, true, false, false, false] rfl rfl (one_of HT_.out (by kernel_rfl)) (by decide) (fun K hK => ?_)
                refine goes_ Tryd.func9 (by kernel_rfl) rfl #[.agg #[.int .i64 a2_0, .int .i64 a2_1, .string a2_2]] (by rfl) rfl rfl (by (try simp only [List.map_toArray, List.map_cons, List.map_nil]); first | done | rfl | (simp only [List.length_drop, List.length_take]; rfl)) ?_
                with_reducible refine (diag_Says.calls a2_0 a2_1 a2_2 t145 _ A12.out (Tabs.below HT0.out (Nat.le_refl _) (by repeat (first | (with_reducible first | exact HB.out | apply below_alloc | apply pw_below_drewN | apply below_drew1) | exact HB.out)))).mono ?_
                rintro e w21 ⟨rfl, hb⟩
                refine ⟨_, rfl, ?_⟩
                have n0_ := Aside0.mk (blk_below (g := gb140) (o := .cells #[.int .i64 a2_0, .int .i64 a2_1, .string a2_2] 26 (0, 0)) (by (with_reducible repeat (first | refine blk_drewN ?_ _ | refine blk_drew ?_ | refine blk_alloc ?_ _)); exact BK140.out) hb)
                have n1_ := Aside0.mk (below_step (by repeat (first | (with_reducible first | exact HB.out | apply below_alloc | apply pw_below_drewN | apply below_drew1 | refine below_set ?_ GE140.out) | exact HB.out)) hb)
                clear BK140
                clear HB
                have BK140 := n0_
                have HB := n1_
                clear n0_ n1_
                (try clear hb)
                (try clear hb2)
                (try clear hk)
                (try clear hi)
                refine hK.out _ _ ⟨(blk_cell BK140.out 0).trans rfl, (blk_cell BK140.out 1).trans rfl, (blk_cell BK140.out 2).trans rfl⟩ (fun hHeld => ?_)
                clear hK K
                refine norm_ (a' := ?_) ?_ ?_
                rotate_left
                · show Act.put _ (some 27) _ = _
                  simp only [Act.put, List.setIfInBounds_toArray, List.set_cons_zero, List.set_cons_succ, i64_w, i32_w]
                  rfl
                refine pure_ (i := 12) (N := some 28) (v := ?_) (a' := ?_) #[true, true, true, true, true, true, true, true, true, true, true, true, true, false, false] rfl rfl (any_of HT_.out (by kernel_rfl)) (fun _ _ _ h => h) (Or.inl ⟨by rfl, ?_⟩) ?_ ?_
                rotate_left
                · intro w'
                  go_simp
                  with_reducible rfl
                rotate_left
                · simp only [Act.put, List.setIfInBounds_toArray, List.set_cons_zero, List.set_cons_succ, i64_w, i32_w]
                  rfl
                refine pure_ (i := 13) (N := some 29) (v := ?_) (a' := ?_) #[true, true, true, true, true, true, true, true, true, true, true, true, true, true, false] rfl rfl (any_of HT_.out (by kernel_rfl)) (fun _ _ _ h => h) (Or.inl ⟨by rfl, ?_⟩) ?_ ?_
                rotate_left
                · intro w'
                  go_simp
                  with_reducible rfl
                rotate_left
                · simp only [Act.put, List.setIfInBounds_toArray, List.set_cons_zero, List.set_cons_succ, i64_w, i32_w]
                  rfl
                refine pure_ (i := 14) (N := some 6) (v := ?_) (a' := ?_) #[true, true, true, true, true, true, true, true, true, true, true, true, true, true, true] rfl rfl (any_of HT_.out (by kernel_rfl)) (fun _ _ _ h => h) (Or.inl ⟨by rfl, ?_⟩) ?_ ?_
                rotate_left
                · intro w'
                  go_simp
                  with_reducible rfl
                rotate_left
                · simp only [Act.put, List.setIfInBounds_toArray, List.set_cons_zero, List.set_cons_succ, i64_w, i32_w]
                  rfl
                refine done_ (done_of HT_.out (by kernel_rfl)) ?_
                try go_wp2
                go_ret
                exact ⟨by first | rfl | (simp [errW_none, errW_some] <;> rfl) | (simp [*, errW_none, errW_some] <;> rfl), by repeat (first | (with_reducible first | exact HB.out | apply below_alloc | apply pw_below_drewN | apply below_drew1 | refine below_set ?_ GE140.out) | exact HB.out)⟩
              · rw [if_neg c14] at H
                exact absurd H (by simp)
            · rw [if_neg c13] at H
              exact absurd H (by simp)
          · rw [if_neg c11] at H
            exact absurd H (by simp)
        · rw [if_neg c10] at H
          exact absurd H (by simp)
      · rw [if_neg c8] at H
        exact absurd H (by simp)
    · rw [if_neg c7] at H
      exact absurd H (by simp)
  · rw [if_neg c5] at H
    exact absurd H (by simp)

end Go.Proofs.YteinhpfjlfeaaaaDoor.PA
