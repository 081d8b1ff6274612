-- Written by a program of this session (wip/xprint.py over the kit's printer). Lean checks it.
import Derived.Test.YtonhfcjldbohbaaPAx0
import Derived.Test.YtonhfcjldbohbaaPAx2
namespace Go.Proofs.Ytonhfcjldbohbaa.PA
open Go.RowKit Go.Proofs.YtonhfcjldbohbaaW.PrintWords Go.Proofs.YtonhfcjldbohbaaW.PrintLast Go.Proofs.YtonhfcjldbohbaaW.PrintMore
attribute [local go_sem] max2_int min2_int max_two min_two max_three min_three max_four min_four   -- for this text's walks alone
set_option linter.unusedVariables false
set_option linter.unusedSimpArgs false

/-! ### cupelref04_Lex: function 25 -/
mutual
def cupelref04_Lex.l0 : Nat → ByteArray → List (S70) → List (S85) → Int → Option ((List (S70)) × (List (S85)))
  | 0, _, _, _, _ => none
  | k + 1, x0, x4, x5, x6 => if x6 < (x0.size : Int) then (if 0 ≤ x6 then ((cupelref04_In.f k (bt x0 x6) (⟨#[32, 9, 10, 13]⟩ : ByteArray)).bind fun t122 => (if t122 = true then (cupelref04_Lex.l0 k x0 x4 x5 (wrap64 (x6 + 1))) else (if (bt x0 x6) = 35 then ((cupelref04_Until.f k x0 x6 (⟨#[10]⟩ : ByteArray)).bind fun t123 => (cupelref04_Lex.l0 k x0 x4 x5 t123)) else ((cupelref04_In.f k (bt x0 x6) (⟨#[97, 98, 99, 100, 101, 102, 103, 104, 105, 106, 107, 108, 109, 110, 111, 112, 113, 114, 115, 116, 117, 118, 119, 120, 121, 122, 95]⟩ : ByteArray)).bind fun t124 => (if t124 = true then ((cupelref04_While.f k x0 x6 (⟨#[97, 98, 99, 100, 101, 102, 103, 104, 105, 106, 107, 108, 109, 110, 111, 112, 113, 114, 115, 116, 117, 118, 119, 120, 121, 122, 95, 48, 49, 50, 51, 52, 53, 54, 55, 56, 57]⟩ : ByteArray)).bind fun t125 => (if x6 ≤ t125 then (if t125 ≤ (x0.size : Int) then ((cupelref04_Word.f k (x0.extract (x6 : Int).toNat (t125 : Int).toNat)).bind fun t126 => (if t126 = true then (if x4.length < 4398046511104 then (cupelref04_Lex.l0 k x0 (x4 ++ [(⟨2, x6, x0.extract (x6 : Int).toNat (t125 : Int).toNat⟩ : S70)]) x5 t125) else (none)) else (if x4.length < 4398046511104 then (cupelref04_Lex.l0 k x0 (x4 ++ [(⟨1, x6, x0.extract (x6 : Int).toNat (t125 : Int).toNat⟩ : S70)]) x5 t125) else (none)))) else (none)) else (none))) else ((cupelref04_In.f k (bt x0 x6) (⟨#[48, 49, 50, 51, 52, 53, 54, 55, 56, 57]⟩ : ByteArray)).bind fun t133 => (if t133 = true then ((cupelref04_While.f k x0 x6 (⟨#[48, 49, 50, 51, 52, 53, 54, 55, 56, 57]⟩ : ByteArray)).bind fun t134 => (if x6 ≤ t134 then (if t134 ≤ (x0.size : Int) then (if (wrap64 (t134 - x6)) > 18 then (if x5.length < 4398046511104 then (if x4.length < 4398046511104 then (cupelref04_Lex.l0 k x0 (x4 ++ [(⟨3, x6, (⟨#[48]⟩ : ByteArray)⟩ : S70)]) (x5 ++ [(⟨x6, 13, (⟨#[]⟩ : ByteArray)⟩ : S85)]) t134) else (none)) else (none)) else (if x4.length < 4398046511104 then (cupelref04_Lex.l0 k x0 (x4 ++ [(⟨3, x6, x0.extract (x6 : Int).toNat (t134 : Int).toNat⟩ : S70)]) x5 t134) else (none))) else (none)) else (none))) else (if (bt x0 x6) = 34 then ((cupelref04_Until.f k x0 (wrap64 (x6 + 1)) (⟨#[34, 10]⟩ : ByteArray)).bind fun t144 => (if t144 < (x0.size : Int) then (if 0 ≤ t144 then (if (bt x0 t144) = 34 then (if 0 ≤ (wrap64 (x6 + 1)) then (if (wrap64 (x6 + 1)) ≤ t144 then (if t144 ≤ (x0.size : Int) then (if x4.length < 4398046511104 then (cupelref04_Lex.l0 k x0 (x4 ++ [(⟨4, x6, x0.extract ((wrap64 (x6 + 1)) : Int).toNat (t144 : Int).toNat⟩ : S70)]) x5 (wrap64 (t144 + 1))) else (none)) else (none)) else (none)) else (none)) else (if x5.length < 4398046511104 then (cupelref04_Lex.l0 k x0 x4 (x5 ++ [(⟨x6, 1, (⟨#[]⟩ : ByteArray)⟩ : S85)]) t144) else (none))) else (none)) else (if x5.length < 4398046511104 then (cupelref04_Lex.l0 k x0 x4 (x5 ++ [(⟨x6, 1, (⟨#[]⟩ : ByteArray)⟩ : S85)]) t144) else (none)))) else (if (bt x0 x6) = 45 then (if (wrap64 (x6 + 1)) < (x0.size : Int) then (if 0 ≤ (wrap64 (x6 + 1)) then (cupelref04_Lex.j1 k x0 x4 x5 x6 (bt x0 x6) (wrap64 (x6 + 1)) ((bt x0 (wrap64 (x6 + 1))) == 62)) else (none)) else (cupelref04_Lex.j1 k x0 x4 x5 x6 (bt x0 x6) (wrap64 (x6 + 1)) false)) else (cupelref04_Lex.j1 k x0 x4 x5 x6 (bt x0 x6) (wrap64 (x6 + 1)) false)))))))))) else (none)) else (if x4.length < 4398046511104 then (some ((x4 ++ [(⟨6, (x0.size : Int), (⟨#[]⟩ : ByteArray)⟩ : S70)]), x5)) else (none))
def cupelref04_Lex.j1 : Nat → ByteArray → List (S70) → List (S85) → Int → Int → Int → Bool → Option ((List (S70)) × (List (S85)))
  | 0, _, _, _, _, _, _, _ => none
  | k + 1, x0, x4, x5, x6, x7, x8, x119 => if x119 = true then (if x4.length < 4398046511104 then (cupelref04_Lex.l0 k x0 (x4 ++ [(⟨5, x6, (⟨#[45, 62]⟩ : ByteArray)⟩ : S70)]) x5 (wrap64 (x8 + 1))) else (none)) else ((cupelref04_In.f k x7 (⟨#[61, 58, 59, 44, 46, 40, 41, 123, 125, 124, 63]⟩ : ByteArray)).bind fun t157 => (if t157 = true then (if 0 ≤ x6 then (if x6 ≤ x8 then (if x8 ≤ (x0.size : Int) then (if x4.length < 4398046511104 then (cupelref04_Lex.l0 k x0 (x4 ++ [(⟨5, x6, x0.extract (x6 : Int).toNat (x8 : Int).toNat⟩ : S70)]) x5 x8) else (none)) else (none)) else (none)) else (none)) else (if x5.length < 4398046511104 then (cupelref04_Lex.l0 k x0 x4 (x5 ++ [(⟨x6, 1, (⟨#[]⟩ : ByteArray)⟩ : S85)]) x8) else (none))))
end
def cupelref04_Lex.f (k : Nat) (a0 : ByteArray) : Option ((List (S70)) × (List (S85))) := cupelref04_Lex.l0 k a0 ([] : List (S70)) ([] : List (S85)) 0
theorem cupelref04_Lex.mono_l : ∀ k, (∀ y0 y1 y2 y3, LeO (cupelref04_Lex.l0 k y0 y1 y2 y3) (cupelref04_Lex.l0 (k + 1) y0 y1 y2 y3)) ∧ (∀ y0 y1 y2 y3 y4 y5 y6, LeO (cupelref04_Lex.j1 k y0 y1 y2 y3 y4 y5 y6) (cupelref04_Lex.j1 (k + 1) y0 y1 y2 y3 y4 y5 y6))
  | 0 => ⟨fun _ _ _ _ r h => by simp [cupelref04_Lex.l0] at h, fun _ _ _ _ _ _ _ r h => by simp [cupelref04_Lex.j1] at h⟩
  | k + 1 => by
    obtain ⟨ih0, ih1⟩ := cupelref04_Lex.mono_l k
    refine ⟨?_, ?_⟩
    · intro y0 y1 y2 y3
      unfold cupelref04_Lex.l0
      repeat' first
      | (with_reducible exact ih0 _ _ _ _)
      | (with_reducible exact ih1 _ _ _ _ _ _ _)
      | (with_reducible exact cupelref04_In.mono _ _ _)
      | (with_reducible exact cupelref04_Until.mono _ _ _ _)
      | (with_reducible exact cupelref04_While.mono _ _ _ _)
      | (with_reducible exact cupelref04_Word.mono _ _)
      | (with_reducible exact LeO.refl _)
      | (with_reducible exact LeO.none _)
      | (with_reducible refine LeO.ite ?_ ?_)
      | (with_reducible refine LeO.bind ?_ (fun _ => ?_))
      | exact ih0 _ _ _ _
      | exact ih1 _ _ _ _ _ _ _
      | exact cupelref04_In.mono _ _ _
      | exact cupelref04_Until.mono _ _ _ _
      | exact cupelref04_While.mono _ _ _ _
      | exact cupelref04_Word.mono _ _
      | exact LeO.none _
      | refine LeO.ite ?_ ?_
      | refine LeO.bind ?_ (fun _ => ?_)
    · intro y0 y1 y2 y3 y4 y5 y6
      unfold cupelref04_Lex.j1
      repeat' first
      | (with_reducible exact ih0 _ _ _ _)
      | (with_reducible exact ih1 _ _ _ _ _ _ _)
      | (with_reducible exact cupelref04_In.mono _ _ _)
      | (with_reducible exact cupelref04_Until.mono _ _ _ _)
      | (with_reducible exact cupelref04_While.mono _ _ _ _)
      | (with_reducible exact cupelref04_Word.mono _ _)
      | (with_reducible exact LeO.refl _)
      | (with_reducible exact LeO.none _)
      | (with_reducible refine LeO.ite ?_ ?_)
      | (with_reducible refine LeO.bind ?_ (fun _ => ?_))
      | exact ih0 _ _ _ _
      | exact ih1 _ _ _ _ _ _ _
      | exact cupelref04_In.mono _ _ _
      | exact cupelref04_Until.mono _ _ _ _
      | exact cupelref04_While.mono _ _ _ _
      | exact cupelref04_Word.mono _ _
      | exact LeO.none _
      | refine LeO.ite ?_ ?_
      | refine LeO.bind ?_ (fun _ => ?_)
theorem cupelref04_Lex.mono : ∀ a0 k, LeO (cupelref04_Lex.f k a0) (cupelref04_Lex.f (k + 1) a0) := by
  intro a0 k
  obtain ⟨ih0, ih1⟩ := cupelref04_Lex.mono_l k
  unfold cupelref04_Lex.f
  repeat' first
      | (with_reducible exact ih0 _ _ _ _)
      | (with_reducible exact ih1 _ _ _ _ _ _ _)
      | (with_reducible exact cupelref04_In.mono _ _ _)
      | (with_reducible exact cupelref04_Until.mono _ _ _ _)
      | (with_reducible exact cupelref04_While.mono _ _ _ _)
      | (with_reducible exact cupelref04_Word.mono _ _)
      | (with_reducible exact LeO.refl _)
      | (with_reducible exact LeO.none _)
      | (with_reducible refine LeO.ite ?_ ?_)
      | (with_reducible refine LeO.bind ?_ (fun _ => ?_))
      | exact ih0 _ _ _ _
      | exact ih1 _ _ _ _ _ _ _
      | exact cupelref04_In.mono _ _ _
      | exact cupelref04_Until.mono _ _ _ _
      | exact cupelref04_While.mono _ _ _ _
      | exact cupelref04_Word.mono _ _
      | exact LeO.none _
      | refine LeO.ite ?_ ?_
      | refine LeO.bind ?_ (fun _ => ?_)
set_option maxHeartbeats 8000000 in
set_option maxRecDepth 100000 in
theorem cupelref04_Lex.calls (k : Nat) (a0 : ByteArray) (r1 : List (S70)) (r2 : List (S85)) (w : World) (h : cupelref04_Lex.f k a0 = some (r1, r2)) :
    Calls Try.prog 25 #[.string a0] w fun e w' => ∃ v0_ v1_ : Value, e = .returned (.tuple #[v0_, v1_]) ∧ Kd.R k70 70 w' w.heap.size (fun _ => True) v0_ r1 ∧ Kd.R k85 85 w' w.heap.size (fun _ => True) v1_ r2 ∧ Below w.heap.size w w' := by
  have hu70 := Try.underlying70
  have hu85 := Try.underlying85
  have HB := Aside0.mk (Below.refl w.heap.size w)
  have H : (cupelref04_Lex.l0 k a0 ([] : List (S70)) ([] : List (S85)) 0) = some (r1, r2) := h
  clear h
  have H' := Aside0.mk H
  clear H
  go_enter Try.func25, Try.ntmps25
  go_wp2
  go_loopg [4, 5, 6] k (fun kq v4 v5 v6 w' => ∃ (x4_1 : List (S70)) (x5_1 : List (S85)) (x6_1 : Int), v6 = .int .i64 x6_1 ∧ Aside0 (cupelref04_Lex.l0 kq a0 x4_1 x5_1 x6_1 = some (r1, r2)) ∧ Aside0 (kq ≤ k) ∧ Aside0 (Kd.R k70 70 w' w.heap.size (fun _ => True) v4 x4_1) ∧ Aside0 (Kd.R k85 85 w' w.heap.size (fun _ => True) v5 x5_1) ∧ Aside0 (Below w.heap.size w w'))
  case atStart => exact ⟨(([] : List (S70))), (([] : List (S85))), (0), (by first | rfl | (simp; done) | (simp [*]; done)), H', ⟨Nat.le_refl _⟩, ⟨by first | exact Kd.R_nil _ _ _ _ _ | exact Kd.N_nil _ _ _ _ _ | exact Kd.V_nil _ _ _ _ _ | exact Kd.Q_nil _ _ _ _ _ | exact Kd.S_nil _ _ _ _ _⟩, ⟨by first | exact Kd.R_nil _ _ _ _ _ | exact Kd.N_nil _ _ _ _ _ | exact Kd.V_nil _ _ _ _ _ | exact Kd.Q_nil _ _ _ _ _ | exact Kd.S_nil _ _ _ _ _⟩, ⟨by repeat (first | (with_reducible first | exact HB.out | apply below_alloc | apply pw_below_drewN | apply below_drew1) | exact HB.out)⟩⟩
  case round =>
    clear H'
    obtain ⟨x4_1, x5_1, x6_1, rfl, HA, HK1, HO_4, HO_5, HB⟩ := hrel
    cases gk with
    | zero => exact absurd HA.out (by simp [cupelref04_Lex.l0])
    | succ k1 =>
      have H := HA.out
      clear HA
      simp only [cupelref04_Lex.l0] at H
      by_cases c2 : x6_1 < (a0.size : Int)
      · rw [if_pos c2] at H
        have c2b0 : decide (x6_1 < (a0.size : Int)) = true := decide_eq_true c2
        clear c2
        by_cases c3 : 0 ≤ x6_1
        · rw [if_pos c3] at H
          have c3b0 : decide (0 ≤ x6_1) = true := decide_eq_true c3
          clear c3
          replace H := Option.bind_eq_some_iff.mp H
          obtain ⟨t122, A50, H⟩ := H
          replace H : (if t122 = true then (cupelref04_Lex.l0 k1 a0 x4_1 x5_1 (wrap64 (x6_1 + 1))) else (if (bt a0 x6_1) = 35 then ((cupelref04_Until.f k1 a0 x6_1 (⟨#[10]⟩ : ByteArray)).bind fun t123 => (cupelref04_Lex.l0 k1 a0 x4_1 x5_1 t123)) else ((cupelref04_In.f k1 (bt a0 x6_1) (⟨#[97, 98, 99, 100, 101, 102, 103, 104, 105, 106, 107, 108, 109, 110, 111, 112, 113, 114, 115, 116, 117, 118, 119, 120, 121, 122, 95]⟩ : ByteArray)).bind fun t124 => (if t124 = true then ((cupelref04_While.f k1 a0 x6_1 (⟨#[97, 98, 99, 100, 101, 102, 103, 104, 105, 106, 107, 108, 109, 110, 111, 112, 113, 114, 115, 116, 117, 118, 119, 120, 121, 122, 95, 48, 49, 50, 51, 52, 53, 54, 55, 56, 57]⟩ : ByteArray)).bind fun t125 => (if x6_1 ≤ t125 then (if t125 ≤ (a0.size : Int) then ((cupelref04_Word.f k1 (a0.extract (x6_1 : Int).toNat (t125 : Int).toNat)).bind fun t126 => (if t126 = true then (if x4_1.length < 4398046511104 then (cupelref04_Lex.l0 k1 a0 (x4_1 ++ [(⟨2, x6_1, a0.extract (x6_1 : Int).toNat (t125 : Int).toNat⟩ : S70)]) x5_1 t125) else (none)) else (if x4_1.length < 4398046511104 then (cupelref04_Lex.l0 k1 a0 (x4_1 ++ [(⟨1, x6_1, a0.extract (x6_1 : Int).toNat (t125 : Int).toNat⟩ : S70)]) x5_1 t125) else (none)))) else (none)) else (none))) else ((cupelref04_In.f k1 (bt a0 x6_1) (⟨#[48, 49, 50, 51, 52, 53, 54, 55, 56, 57]⟩ : ByteArray)).bind fun t133 => (if t133 = true then ((cupelref04_While.f k1 a0 x6_1 (⟨#[48, 49, 50, 51, 52, 53, 54, 55, 56, 57]⟩ : ByteArray)).bind fun t134 => (if x6_1 ≤ t134 then (if t134 ≤ (a0.size : Int) then (if (wrap64 (t134 - x6_1)) > 18 then (if x5_1.length < 4398046511104 then (if x4_1.length < 4398046511104 then (cupelref04_Lex.l0 k1 a0 (x4_1 ++ [(⟨3, x6_1, (⟨#[48]⟩ : ByteArray)⟩ : S70)]) (x5_1 ++ [(⟨x6_1, 13, (⟨#[]⟩ : ByteArray)⟩ : S85)]) t134) else (none)) else (none)) else (if x4_1.length < 4398046511104 then (cupelref04_Lex.l0 k1 a0 (x4_1 ++ [(⟨3, x6_1, a0.extract (x6_1 : Int).toNat (t134 : Int).toNat⟩ : S70)]) x5_1 t134) else (none))) else (none)) else (none))) else (if (bt a0 x6_1) = 34 then ((cupelref04_Until.f k1 a0 (wrap64 (x6_1 + 1)) (⟨#[34, 10]⟩ : ByteArray)).bind fun t144 => (if t144 < (a0.size : Int) then (if 0 ≤ t144 then (if (bt a0 t144) = 34 then (if 0 ≤ (wrap64 (x6_1 + 1)) then (if (wrap64 (x6_1 + 1)) ≤ t144 then (if t144 ≤ (a0.size : Int) then (if x4_1.length < 4398046511104 then (cupelref04_Lex.l0 k1 a0 (x4_1 ++ [(⟨4, x6_1, a0.extract ((wrap64 (x6_1 + 1)) : Int).toNat (t144 : Int).toNat⟩ : S70)]) x5_1 (wrap64 (t144 + 1))) else (none)) else (none)) else (none)) else (none)) else (if x5_1.length < 4398046511104 then (cupelref04_Lex.l0 k1 a0 x4_1 (x5_1 ++ [(⟨x6_1, 1, (⟨#[]⟩ : ByteArray)⟩ : S85)]) t144) else (none))) else (none)) else (if x5_1.length < 4398046511104 then (cupelref04_Lex.l0 k1 a0 x4_1 (x5_1 ++ [(⟨x6_1, 1, (⟨#[]⟩ : ByteArray)⟩ : S85)]) t144) else (none)))) else (if (bt a0 x6_1) = 45 then (if (wrap64 (x6_1 + 1)) < (a0.size : Int) then (if 0 ≤ (wrap64 (x6_1 + 1)) then (cupelref04_Lex.j1 k1 a0 x4_1 x5_1 x6_1 (bt a0 x6_1) (wrap64 (x6_1 + 1)) ((bt a0 (wrap64 (x6_1 + 1))) == 62)) else (none)) else (cupelref04_Lex.j1 k1 a0 x4_1 x5_1 x6_1 (bt a0 x6_1) (wrap64 (x6_1 + 1)) false)) else (cupelref04_Lex.j1 k1 a0 x4_1 x5_1 x6_1 (bt a0 x6_1) (wrap64 (x6_1 + 1)) false))))))))) = some (r1, r2) := H
          have A5 := Aside0.mk A50
          clear A50
          by_cases c6 : t122 = true
          · subst c6
            have H1 : (cupelref04_Lex.l0 k1 a0 x4_1 x5_1 (wrap64 (x6_1 + 1))) = some (r1, r2) := by rw [if_pos rfl] at H; exact H
            clear H
            have H := H1
            clear H1
            have H' := Aside0.mk H
            clear H
            have p4 : 0 ≤ (x6_1 : Int) := of_decide_eq_true (by first | (with_reducible assumption) | assumption)
            have q4 : x6_1 < (a0.size : Int) := of_decide_eq_true (by first | (with_reducible assumption) | assumption)
            have hx4 := bt_at a0 x6_1
            replace p4 := eq_true p4
            replace q4 := eq_true q4
            go_wp2_with (first | ((with_reducible refine gate_callee (f := 36) rfl ?_); refine goesL_ (some 21) rfl rfl Try.func36 (by kernel_rfl) rfl #[.int .u8 (bt a0 x6_1), .string (⟨#[32, 9, 10, 13]⟩ : ByteArray)] rfl (by (try simp only [List.map_toArray, List.map_cons, List.map_nil]); first | done | rfl | (simp only [List.length_drop, List.length_take]; rfl)) ?_; (with_reducible refine (cupelref04_In.calls k1 (bt a0 x6_1) (⟨#[32, 9, 10, 13]⟩ : ByteArray) true _ A5.out).mono ?_); rintro e w' ⟨rfl, ⟨nd, rfl⟩⟩; refine ⟨_, rfl, ?_⟩))
            go_roundg k1
            case measure => have := HK1.out; omega
            case rel => exact ⟨(x4_1), (x5_1), (wrap64 (x6_1 + 1)), (by first | rfl | (simp; done) | (simp [*]; done)), H', ⟨by have := HK1.out; omega⟩, ⟨by (with_reducible repeat (first | apply Kd.R_alloc | apply Kd.R_drewN | apply Kd.R_drew)); exact HO_4.out⟩, ⟨by (with_reducible repeat (first | apply Kd.R_alloc | apply Kd.R_drewN | apply Kd.R_drew)); exact HO_5.out⟩, ⟨by repeat (first | (with_reducible first | exact HB.out | apply below_alloc | apply pw_below_drewN | apply below_drew1) | exact HB.out)⟩⟩
          · replace c6 := Bool.eq_false_iff.mpr c6
            subst c6
            have H1 : (if (bt a0 x6_1) = 35 then ((cupelref04_Until.f k1 a0 x6_1 (⟨#[10]⟩ : ByteArray)).bind fun t123 => (cupelref04_Lex.l0 k1 a0 x4_1 x5_1 t123)) else ((cupelref04_In.f k1 (bt a0 x6_1) (⟨#[97, 98, 99, 100, 101, 102, 103, 104, 105, 106, 107, 108, 109, 110, 111, 112, 113, 114, 115, 116, 117, 118, 119, 120, 121, 122, 95]⟩ : ByteArray)).bind fun t124 => (if t124 = true then ((cupelref04_While.f k1 a0 x6_1 (⟨#[97, 98, 99, 100, 101, 102, 103, 104, 105, 106, 107, 108, 109, 110, 111, 112, 113, 114, 115, 116, 117, 118, 119, 120, 121, 122, 95, 48, 49, 50, 51, 52, 53, 54, 55, 56, 57]⟩ : ByteArray)).bind fun t125 => (if x6_1 ≤ t125 then (if t125 ≤ (a0.size : Int) then ((cupelref04_Word.f k1 (a0.extract (x6_1 : Int).toNat (t125 : Int).toNat)).bind fun t126 => (if t126 = true then (if x4_1.length < 4398046511104 then (cupelref04_Lex.l0 k1 a0 (x4_1 ++ [(⟨2, x6_1, a0.extract (x6_1 : Int).toNat (t125 : Int).toNat⟩ : S70)]) x5_1 t125) else (none)) else (if x4_1.length < 4398046511104 then (cupelref04_Lex.l0 k1 a0 (x4_1 ++ [(⟨1, x6_1, a0.extract (x6_1 : Int).toNat (t125 : Int).toNat⟩ : S70)]) x5_1 t125) else (none)))) else (none)) else (none))) else ((cupelref04_In.f k1 (bt a0 x6_1) (⟨#[48, 49, 50, 51, 52, 53, 54, 55, 56, 57]⟩ : ByteArray)).bind fun t133 => (if t133 = true then ((cupelref04_While.f k1 a0 x6_1 (⟨#[48, 49, 50, 51, 52, 53, 54, 55, 56, 57]⟩ : ByteArray)).bind fun t134 => (if x6_1 ≤ t134 then (if t134 ≤ (a0.size : Int) then (if (wrap64 (t134 - x6_1)) > 18 then (if x5_1.length < 4398046511104 then (if x4_1.length < 4398046511104 then (cupelref04_Lex.l0 k1 a0 (x4_1 ++ [(⟨3, x6_1, (⟨#[48]⟩ : ByteArray)⟩ : S70)]) (x5_1 ++ [(⟨x6_1, 13, (⟨#[]⟩ : ByteArray)⟩ : S85)]) t134) else (none)) else (none)) else (if x4_1.length < 4398046511104 then (cupelref04_Lex.l0 k1 a0 (x4_1 ++ [(⟨3, x6_1, a0.extract (x6_1 : Int).toNat (t134 : Int).toNat⟩ : S70)]) x5_1 t134) else (none))) else (none)) else (none))) else (if (bt a0 x6_1) = 34 then ((cupelref04_Until.f k1 a0 (wrap64 (x6_1 + 1)) (⟨#[34, 10]⟩ : ByteArray)).bind fun t144 => (if t144 < (a0.size : Int) then (if 0 ≤ t144 then (if (bt a0 t144) = 34 then (if 0 ≤ (wrap64 (x6_1 + 1)) then (if (wrap64 (x6_1 + 1)) ≤ t144 then (if t144 ≤ (a0.size : Int) then (if x4_1.length < 4398046511104 then (cupelref04_Lex.l0 k1 a0 (x4_1 ++ [(⟨4, x6_1, a0.extract ((wrap64 (x6_1 + 1)) : Int).toNat (t144 : Int).toNat⟩ : S70)]) x5_1 (wrap64 (t144 + 1))) else (none)) else (none)) else (none)) else (none)) else (if x5_1.length < 4398046511104 then (cupelref04_Lex.l0 k1 a0 x4_1 (x5_1 ++ [(⟨x6_1, 1, (⟨#[]⟩ : ByteArray)⟩ : S85)]) t144) else (none))) else (none)) else (if x5_1.length < 4398046511104 then (cupelref04_Lex.l0 k1 a0 x4_1 (x5_1 ++ [(⟨x6_1, 1, (⟨#[]⟩ : ByteArray)⟩ : S85)]) t144) else (none)))) else (if (bt a0 x6_1) = 45 then (if (wrap64 (x6_1 + 1)) < (a0.size : Int) then (if 0 ≤ (wrap64 (x6_1 + 1)) then (cupelref04_Lex.j1 k1 a0 x4_1 x5_1 x6_1 (bt a0 x6_1) (wrap64 (x6_1 + 1)) ((bt a0 (wrap64 (x6_1 + 1))) == 62)) else (none)) else (cupelref04_Lex.j1 k1 a0 x4_1 x5_1 x6_1 (bt a0 x6_1) (wrap64 (x6_1 + 1)) false)) else (cupelref04_Lex.j1 k1 a0 x4_1 x5_1 x6_1 (bt a0 x6_1) (wrap64 (x6_1 + 1)) false)))))))) = some (r1, r2) := by rw [if_neg (show ¬ (false = true) by decide)] at H; exact H
            clear H
            have H := H1
            clear H1
            by_cases c7 : (bt a0 x6_1) = 35
            · rw [if_pos c7] at H
              have c7b0 : ((bt a0 x6_1) == 35) = true := beq_iff_eq.mpr c7
              have c7b1 : ((bt a0 x6_1) != 35) = false := bne_eq_false_iff_eq.mpr c7
              clear c7
              replace H := Option.bind_eq_some_iff.mp H
              obtain ⟨t123, A80, H⟩ := H
              replace H : (cupelref04_Lex.l0 k1 a0 x4_1 x5_1 t123) = some (r1, r2) := H
              have A8 := Aside0.mk A80
              clear A80
              have H' := Aside0.mk H
              clear H
              have p4 : 0 ≤ (x6_1 : Int) := of_decide_eq_true (by first | (with_reducible assumption) | assumption)
              have q4 : x6_1 < (a0.size : Int) := of_decide_eq_true (by first | (with_reducible assumption) | assumption)
              have hx4 := bt_at a0 x6_1
              replace p4 := eq_true p4
              replace q4 := eq_true q4
              go_wp2_with (first | ((with_reducible refine gate_callee (f := 36) rfl ?_); refine goesL_ (some 21) rfl rfl Try.func36 (by kernel_rfl) rfl #[.int .u8 (bt a0 x6_1), .string (⟨#[32, 9, 10, 13]⟩ : ByteArray)] rfl (by (try simp only [List.map_toArray, List.map_cons, List.map_nil]); first | done | rfl | (simp only [List.length_drop, List.length_take]; rfl)) ?_; (with_reducible refine (cupelref04_In.calls k1 (bt a0 x6_1) (⟨#[32, 9, 10, 13]⟩ : ByteArray) false _ A5.out).mono ?_); rintro e w' ⟨rfl, ⟨nd, rfl⟩⟩; refine ⟨_, rfl, ?_⟩) | ((with_reducible refine gate_callee (f := 37) rfl ?_); refine goesL_ (some 28) rfl rfl Try.func37 (by kernel_rfl) rfl #[.string a0, .int .i64 x6_1, .string (⟨#[10]⟩ : ByteArray)] rfl (by (try simp only [List.map_toArray, List.map_cons, List.map_nil]); first | done | rfl | (simp only [List.length_drop, List.length_take]; rfl)) ?_; (with_reducible refine (cupelref04_Until.calls k1 a0 x6_1 (⟨#[10]⟩ : ByteArray) t123 _ A8.out).mono ?_); rintro e w' ⟨rfl, ⟨nd, rfl⟩⟩; refine ⟨_, rfl, ?_⟩))
              go_roundg k1
              case measure => have := HK1.out; omega
              case rel => exact ⟨(x4_1), (x5_1), (t123), (by first | rfl | (simp; done) | (simp [*]; done)), H', ⟨by have := HK1.out; omega⟩, ⟨by (with_reducible repeat (first | apply Kd.R_alloc | apply Kd.R_drewN | apply Kd.R_drew)); exact HO_4.out⟩, ⟨by (with_reducible repeat (first | apply Kd.R_alloc | apply Kd.R_drewN | apply Kd.R_drew)); exact HO_5.out⟩, ⟨by repeat (first | (with_reducible first | exact HB.out | apply below_alloc | apply pw_below_drewN | apply below_drew1) | exact HB.out)⟩⟩
            · rw [if_neg c7] at H
              have c7b0 : ((bt a0 x6_1) == 35) = false := beq_eq_false_iff_ne.mpr c7
              have c7b1 : ((bt a0 x6_1) != 35) = true := bne_iff_ne.mpr c7
              replace H := Option.bind_eq_some_iff.mp H
              obtain ⟨t124, A90, H⟩ := H
              replace H : (if t124 = true then ((cupelref04_While.f k1 a0 x6_1 (⟨#[97, 98, 99, 100, 101, 102, 103, 104, 105, 106, 107, 108, 109, 110, 111, 112, 113, 114, 115, 116, 117, 118, 119, 120, 121, 122, 95, 48, 49, 50, 51, 52, 53, 54, 55, 56, 57]⟩ : ByteArray)).bind fun t125 => (if x6_1 ≤ t125 then (if t125 ≤ (a0.size : Int) then ((cupelref04_Word.f k1 (a0.extract (x6_1 : Int).toNat (t125 : Int).toNat)).bind fun t126 => (if t126 = true then (if x4_1.length < 4398046511104 then (cupelref04_Lex.l0 k1 a0 (x4_1 ++ [(⟨2, x6_1, a0.extract (x6_1 : Int).toNat (t125 : Int).toNat⟩ : S70)]) x5_1 t125) else (none)) else (if x4_1.length < 4398046511104 then (cupelref04_Lex.l0 k1 a0 (x4_1 ++ [(⟨1, x6_1, a0.extract (x6_1 : Int).toNat (t125 : Int).toNat⟩ : S70)]) x5_1 t125) else (none)))) else (none)) else (none))) else ((cupelref04_In.f k1 (bt a0 x6_1) (⟨#[48, 49, 50, 51, 52, 53, 54, 55, 56, 57]⟩ : ByteArray)).bind fun t133 => (if t133 = true then ((cupelref04_While.f k1 a0 x6_1 (⟨#[48, 49, 50, 51, 52, 53, 54, 55, 56, 57]⟩ : ByteArray)).bind fun t134 => (if x6_1 ≤ t134 then (if t134 ≤ (a0.size : Int) then (if (wrap64 (t134 - x6_1)) > 18 then (if x5_1.length < 4398046511104 then (if x4_1.length < 4398046511104 then (cupelref04_Lex.l0 k1 a0 (x4_1 ++ [(⟨3, x6_1, (⟨#[48]⟩ : ByteArray)⟩ : S70)]) (x5_1 ++ [(⟨x6_1, 13, (⟨#[]⟩ : ByteArray)⟩ : S85)]) t134) else (none)) else (none)) else (if x4_1.length < 4398046511104 then (cupelref04_Lex.l0 k1 a0 (x4_1 ++ [(⟨3, x6_1, a0.extract (x6_1 : Int).toNat (t134 : Int).toNat⟩ : S70)]) x5_1 t134) else (none))) else (none)) else (none))) else (if (bt a0 x6_1) = 34 then ((cupelref04_Until.f k1 a0 (wrap64 (x6_1 + 1)) (⟨#[34, 10]⟩ : ByteArray)).bind fun t144 => (if t144 < (a0.size : Int) then (if 0 ≤ t144 then (if (bt a0 t144) = 34 then (if 0 ≤ (wrap64 (x6_1 + 1)) then (if (wrap64 (x6_1 + 1)) ≤ t144 then (if t144 ≤ (a0.size : Int) then (if x4_1.length < 4398046511104 then (cupelref04_Lex.l0 k1 a0 (x4_1 ++ [(⟨4, x6_1, a0.extract ((wrap64 (x6_1 + 1)) : Int).toNat (t144 : Int).toNat⟩ : S70)]) x5_1 (wrap64 (t144 + 1))) else (none)) else (none)) else (none)) else (none)) else (if x5_1.length < 4398046511104 then (cupelref04_Lex.l0 k1 a0 x4_1 (x5_1 ++ [(⟨x6_1, 1, (⟨#[]⟩ : ByteArray)⟩ : S85)]) t144) else (none))) else (none)) else (if x5_1.length < 4398046511104 then (cupelref04_Lex.l0 k1 a0 x4_1 (x5_1 ++ [(⟨x6_1, 1, (⟨#[]⟩ : ByteArray)⟩ : S85)]) t144) else (none)))) else (if (bt a0 x6_1) = 45 then (if (wrap64 (x6_1 + 1)) < (a0.size : Int) then (if 0 ≤ (wrap64 (x6_1 + 1)) then (cupelref04_Lex.j1 k1 a0 x4_1 x5_1 x6_1 (bt a0 x6_1) (wrap64 (x6_1 + 1)) ((bt a0 (wrap64 (x6_1 + 1))) == 62)) else (none)) else (cupelref04_Lex.j1 k1 a0 x4_1 x5_1 x6_1 (bt a0 x6_1) (wrap64 (x6_1 + 1)) false)) else (cupelref04_Lex.j1 k1 a0 x4_1 x5_1 x6_1 (bt a0 x6_1) (wrap64 (x6_1 + 1)) false)))))) = some (r1, r2) := H
              have A9 := Aside0.mk A90
              clear A90
              by_cases c10 : t124 = true
              · subst c10
                have H1 : ((cupelref04_While.f k1 a0 x6_1 (⟨#[97, 98, 99, 100, 101, 102, 103, 104, 105, 106, 107, 108, 109, 110, 111, 112, 113, 114, 115, 116, 117, 118, 119, 120, 121, 122, 95, 48, 49, 50, 51, 52, 53, 54, 55, 56, 57]⟩ : ByteArray)).bind fun t125 => (if x6_1 ≤ t125 then (if t125 ≤ (a0.size : Int) then ((cupelref04_Word.f k1 (a0.extract (x6_1 : Int).toNat (t125 : Int).toNat)).bind fun t126 => (if t126 = true then (if x4_1.length < 4398046511104 then (cupelref04_Lex.l0 k1 a0 (x4_1 ++ [(⟨2, x6_1, a0.extract (x6_1 : Int).toNat (t125 : Int).toNat⟩ : S70)]) x5_1 t125) else (none)) else (if x4_1.length < 4398046511104 then (cupelref04_Lex.l0 k1 a0 (x4_1 ++ [(⟨1, x6_1, a0.extract (x6_1 : Int).toNat (t125 : Int).toNat⟩ : S70)]) x5_1 t125) else (none)))) else (none)) else (none))) = some (r1, r2) := by rw [if_pos rfl] at H; exact H
                clear H
                have H := H1
                clear H1
                replace H := Option.bind_eq_some_iff.mp H
                obtain ⟨t125, A110, H⟩ := H
                replace H : (if x6_1 ≤ t125 then (if t125 ≤ (a0.size : Int) then ((cupelref04_Word.f k1 (a0.extract (x6_1 : Int).toNat (t125 : Int).toNat)).bind fun t126 => (if t126 = true then (if x4_1.length < 4398046511104 then (cupelref04_Lex.l0 k1 a0 (x4_1 ++ [(⟨2, x6_1, a0.extract (x6_1 : Int).toNat (t125 : Int).toNat⟩ : S70)]) x5_1 t125) else (none)) else (if x4_1.length < 4398046511104 then (cupelref04_Lex.l0 k1 a0 (x4_1 ++ [(⟨1, x6_1, a0.extract (x6_1 : Int).toNat (t125 : Int).toNat⟩ : S70)]) x5_1 t125) else (none)))) else (none)) else (none)) = some (r1, r2) := H
                have A11 := Aside0.mk A110
                clear A110
                have c12b0 := eq_true (of_decide_eq_true (by first | (with_reducible assumption) | assumption) : 0 ≤ x6_1)
                by_cases c13 : x6_1 ≤ t125
                · rw [if_pos c13] at H
                  have c13b0 := eq_true c13
                  have c13b1 : decide (x6_1 ≤ t125) = true := decide_eq_true c13
                  clear c13
                  by_cases c14 : t125 ≤ (a0.size : Int)
                  · rw [if_pos c14] at H
                    have c14b0 := eq_true c14
                    have c14b1 : decide (t125 ≤ (a0.size : Int)) = true := decide_eq_true c14
                    clear c14
                    replace H := Option.bind_eq_some_iff.mp H
                    obtain ⟨t126, A150, H⟩ := H
                    replace H : (if t126 = true then (if x4_1.length < 4398046511104 then (cupelref04_Lex.l0 k1 a0 (x4_1 ++ [(⟨2, x6_1, a0.extract (x6_1 : Int).toNat (t125 : Int).toNat⟩ : S70)]) x5_1 t125) else (none)) else (if x4_1.length < 4398046511104 then (cupelref04_Lex.l0 k1 a0 (x4_1 ++ [(⟨1, x6_1, a0.extract (x6_1 : Int).toNat (t125 : Int).toNat⟩ : S70)]) x5_1 t125) else (none))) = some (r1, r2) := H
                    have A15 := Aside0.mk A150
                    clear A150
                    by_cases c16 : t126 = true
                    · subst c16
                      have H1 : (if x4_1.length < 4398046511104 then (cupelref04_Lex.l0 k1 a0 (x4_1 ++ [(⟨2, x6_1, a0.extract (x6_1 : Int).toNat (t125 : Int).toNat⟩ : S70)]) x5_1 t125) else (none)) = some (r1, r2) := by rw [if_pos rfl] at H; exact H
                      clear H
                      have H := H1
                      clear H1
                      have c17b0 := eq_true (of_decide_eq_true (by first | (with_reducible assumption) | assumption) : 0 ≤ x6_1)
                      have c18b0 := eq_true (of_decide_eq_true (by first | (with_reducible assumption) | assumption) : x6_1 ≤ t125)
                      have c19b0 := eq_true (of_decide_eq_true (by first | (with_reducible assumption) | assumption) : t125 ≤ (a0.size : Int))
                      by_cases c20 : x4_1.length < 4398046511104
                      · rw [if_pos c20] at H
                        have LMc20 := Aside0.mk c20
                        clear c20
                        obtain ⟨y127, hy127⟩ : ∃ y_ : List (S70), y_ = (x4_1 ++ [(⟨2, x6_1, a0.extract (x6_1 : Int).toNat (t125 : Int).toNat⟩ : S70)]) := ⟨_, rfl⟩
                        replace H : (cupelref04_Lex.l0 k1 a0 y127 x5_1 t125) = some (r1, r2) := by first | (rw [hy127]; with_reducible exact H) | (have H2_ := (Option.bind_some _ _).symm.trans H; rw [hy127]; with_reducible exact H2_) | (have H2_ := (Option.bind_some _ _).symm.trans H; with_reducible exact H2_) | with_reducible exact H | (rw [hy127]; exact H) | exact H
                        have Ny127 := Aside0.mk hy127
                        clear hy127
                        have H' := Aside0.mk H
                        clear H
                        have p4 : 0 ≤ (x6_1 : Int) := of_decide_eq_true (by first | (with_reducible assumption) | assumption)
                        have q4 : x6_1 < (a0.size : Int) := of_decide_eq_true (by first | (with_reducible assumption) | assumption)
                        have hx4 := bt_at a0 x6_1
                        replace p4 := eq_true p4
                        replace q4 := eq_true q4
                        go_wp2_with (first | ((with_reducible refine gate_callee (f := 36) rfl ?_); refine goesL_ (some 21) rfl rfl Try.func36 (by kernel_rfl) rfl #[.int .u8 (bt a0 x6_1), .string (⟨#[32, 9, 10, 13]⟩ : ByteArray)] rfl (by (try simp only [List.map_toArray, List.map_cons, List.map_nil]); first | done | rfl | (simp only [List.length_drop, List.length_take]; rfl)) ?_; (with_reducible refine (cupelref04_In.calls k1 (bt a0 x6_1) (⟨#[32, 9, 10, 13]⟩ : ByteArray) false _ A5.out).mono ?_); rintro e w' ⟨rfl, ⟨nd, rfl⟩⟩; refine ⟨_, rfl, ?_⟩) | ((with_reducible refine gate_callee (f := 36) rfl ?_); refine goesL_ (some 30) rfl rfl Try.func36 (by kernel_rfl) rfl #[.int .u8 (bt a0 x6_1), .string (⟨#[97, 98, 99, 100, 101, 102, 103, 104, 105, 106, 107, 108, 109, 110, 111, 112, 113, 114, 115, 116, 117, 118, 119, 120, 121, 122, 95]⟩ : ByteArray)] rfl (by (try simp only [List.map_toArray, List.map_cons, List.map_nil]); first | done | rfl | (simp only [List.length_drop, List.length_take]; rfl)) ?_; (with_reducible refine (cupelref04_In.calls k1 (bt a0 x6_1) (⟨#[97, 98, 99, 100, 101, 102, 103, 104, 105, 106, 107, 108, 109, 110, 111, 112, 113, 114, 115, 116, 117, 118, 119, 120, 121, 122, 95]⟩ : ByteArray) true _ A9.out).mono ?_); rintro e w' ⟨rfl, ⟨nd, rfl⟩⟩; refine ⟨_, rfl, ?_⟩) | ((with_reducible refine gate_callee (f := 38) rfl ?_); refine goesL_ (some 33) rfl rfl Try.func38 (by kernel_rfl) rfl #[.string a0, .int .i64 x6_1, .string (⟨#[97, 98, 99, 100, 101, 102, 103, 104, 105, 106, 107, 108, 109, 110, 111, 112, 113, 114, 115, 116, 117, 118, 119, 120, 121, 122, 95, 48, 49, 50, 51, 52, 53, 54, 55, 56, 57]⟩ : ByteArray)] rfl (by (try simp only [List.map_toArray, List.map_cons, List.map_nil]); first | done | rfl | (simp only [List.length_drop, List.length_take]; rfl)) ?_; (with_reducible refine (cupelref04_While.calls k1 a0 x6_1 (⟨#[97, 98, 99, 100, 101, 102, 103, 104, 105, 106, 107, 108, 109, 110, 111, 112, 113, 114, 115, 116, 117, 118, 119, 120, 121, 122, 95, 48, 49, 50, 51, 52, 53, 54, 55, 56, 57]⟩ : ByteArray) t125 _ A11.out).mono ?_); rintro e w' ⟨rfl, ⟨nd, rfl⟩⟩; refine ⟨_, rfl, ?_⟩) | ((with_reducible refine gate_callee (f := 39) rfl ?_); refine goesL_ (some 38) rfl rfl Try.func39 (by kernel_rfl) rfl #[.string (a0.extract (x6_1 : Int).toNat (t125 : Int).toNat)] rfl (by (try simp only [List.map_toArray, List.map_cons, List.map_nil]); first | done | rfl | (simp only [List.length_drop, List.length_take]; rfl)) ?_; (with_reducible refine (cupelref04_Word.calls k1 (a0.extract (x6_1 : Int).toNat (t125 : Int).toNat) true _ A15.out).mono ?_); rintro e w21 ⟨rfl, hb⟩; refine ⟨_, rfl, ?_⟩; have n0_ := Aside0.mk (Kd.R_below (by (with_reducible repeat (first | apply Kd.R_alloc | apply Kd.R_drewN | apply Kd.R_drew)); exact HO_4.out) hb); have n1_ := Aside0.mk (Kd.R_below (by (with_reducible repeat (first | apply Kd.R_alloc | apply Kd.R_drewN | apply Kd.R_drew)); exact HO_5.out) hb); have n2_ := Aside0.mk (below_step (by repeat (first | (with_reducible first | exact HB.out | apply below_alloc | apply pw_below_drewN | apply below_drew1) | exact HB.out)) hb); clear HO_4; clear HO_5; clear HB; have HO_4 := n0_; have HO_5 := n1_; have HB := n2_; clear n0_ n1_ n2_; (try clear hb); (try clear hb2); (try clear hk); (try clear hi)) | ((with_reducible refine gate_builtin (b := .append) (xs := #[.tmp 39, .tmp 47]) rfl ?_); (try (refine gate_guard (by rfl) ?_; dsimp only)); at_builtin; refine Kd.R_append k70 (w0 := w) w.heap.size rfl (.tmp 39) (.tmp 47) 65 70 (.agg #[(.int .i64 0), (.int .i64 0), (.string ⟨#[]⟩)]) 32 rfl Try.underlying65 info70 rfl (by decide) (by omega) u4 x4_1 (⟨2, x6_1, a0.extract (x6_1 : Int).toNat (t125 : Int).toNat⟩ : S70) [.int .i64 2, .int .i64 x6_1, .string (a0.extract (x6_1 : Int).toNat (t125 : Int).toNat)] (fun _ => True) (fun _ => False) rfl rfl ?aP (fun _ hk => hk.elim) ?aF ?aO ?aB ?aS ?aL ?_; (case aP => exact k70_mkM _ _ _ (⟨2, x6_1, a0.extract (x6_1 : Int).toNat (t125 : Int).toNat⟩ : S70)); (case aB => exact (by repeat (first | (with_reducible first | exact HB.out | apply below_alloc | apply pw_below_drewN | apply below_drew1) | exact HB.out))); (case aF => exact (fun _ _ => trivial)); (case aO => exact (by (with_reducible repeat (first | apply Kd.R_alloc | apply Kd.R_drewN | apply Kd.R_drew)); exact HO_4.out)); (case aS => exact (below_size (by repeat (first | (with_reducible first | exact HB.out | apply below_alloc | apply pw_below_drewN | apply below_drew1) | exact HB.out)))); (case aL => have := LMc20.out; omega); intro v128 w22 ho hb hg hat; rw [← Ny127.out] at ho; have n0_ := Aside0.mk (Kd.R_over' (by (with_reducible repeat (first | apply Kd.R_alloc | apply Kd.R_drewN | apply Kd.R_drew)); exact HO_5.out) (Kd.R_typed (by (with_reducible repeat (first | apply Kd.R_alloc | apply Kd.R_drewN | apply Kd.R_drew)); exact HO_4.out)) (by decide) hg); have n1_ := Aside0.mk (hb); have n2_ := Aside0.mk (ho); clear HO_5; clear HB; clear HO_4; have HO_5 := n0_; have HB := n1_; have HO129 := n2_; clear n0_ n1_ n2_; clear ho hb hg hat))
                        go_roundg k1
                        case measure => have := HK1.out; omega
                        case rel => exact ⟨(y127), (x5_1), (t125), (by first | rfl | (simp; done) | (simp [*]; done)), H', ⟨by have := HK1.out; omega⟩, ⟨by (with_reducible repeat (first | apply Kd.R_alloc | apply Kd.R_drewN | apply Kd.R_drew)); exact HO129.out⟩, ⟨by (with_reducible repeat (first | apply Kd.R_alloc | apply Kd.R_drewN | apply Kd.R_drew)); exact HO_5.out⟩, ⟨by repeat (first | (with_reducible first | exact HB.out | apply below_alloc | apply pw_below_drewN | apply below_drew1) | exact HB.out)⟩⟩
                      · rw [if_neg c20] at H
                        exact absurd H (by simp)
                    · replace c16 := Bool.eq_false_iff.mpr c16
                      subst c16
                      have H1 : (if x4_1.length < 4398046511104 then (cupelref04_Lex.l0 k1 a0 (x4_1 ++ [(⟨1, x6_1, a0.extract (x6_1 : Int).toNat (t125 : Int).toNat⟩ : S70)]) x5_1 t125) else (none)) = some (r1, r2) := by rw [if_neg (show ¬ (false = true) by decide)] at H; exact H
                      clear H
                      have H := H1
                      clear H1
                      have c23b0 := eq_true (of_decide_eq_true (by first | (with_reducible assumption) | assumption) : 0 ≤ x6_1)
                      have c24b0 := eq_true (of_decide_eq_true (by first | (with_reducible assumption) | assumption) : x6_1 ≤ t125)
                      have c25b0 := eq_true (of_decide_eq_true (by first | (with_reducible assumption) | assumption) : t125 ≤ (a0.size : Int))
                      by_cases c26 : x4_1.length < 4398046511104
                      · rw [if_pos c26] at H
                        have LMc26 := Aside0.mk c26
                        clear c26
                        obtain ⟨y130, hy130⟩ : ∃ y_ : List (S70), y_ = (x4_1 ++ [(⟨1, x6_1, a0.extract (x6_1 : Int).toNat (t125 : Int).toNat⟩ : S70)]) := ⟨_, rfl⟩
                        replace H : (cupelref04_Lex.l0 k1 a0 y130 x5_1 t125) = some (r1, r2) := by first | (rw [hy130]; with_reducible exact H) | (have H2_ := (Option.bind_some _ _).symm.trans H; rw [hy130]; with_reducible exact H2_) | (have H2_ := (Option.bind_some _ _).symm.trans H; with_reducible exact H2_) | with_reducible exact H | (rw [hy130]; exact H) | exact H
                        have Ny130 := Aside0.mk hy130
                        clear hy130
                        have H' := Aside0.mk H
                        clear H
                        have p4 : 0 ≤ (x6_1 : Int) := of_decide_eq_true (by first | (with_reducible assumption) | assumption)
                        have q4 : x6_1 < (a0.size : Int) := of_decide_eq_true (by first | (with_reducible assumption) | assumption)
                        have hx4 := bt_at a0 x6_1
                        replace p4 := eq_true p4
                        replace q4 := eq_true q4
                        go_wp2_with (first | ((with_reducible refine gate_callee (f := 36) rfl ?_); refine goesL_ (some 21) rfl rfl Try.func36 (by kernel_rfl) rfl #[.int .u8 (bt a0 x6_1), .string (⟨#[32, 9, 10, 13]⟩ : ByteArray)] rfl (by (try simp only [List.map_toArray, List.map_cons, List.map_nil]); first | done | rfl | (simp only [List.length_drop, List.length_take]; rfl)) ?_; (with_reducible refine (cupelref04_In.calls k1 (bt a0 x6_1) (⟨#[32, 9, 10, 13]⟩ : ByteArray) false _ A5.out).mono ?_); rintro e w' ⟨rfl, ⟨nd, rfl⟩⟩; refine ⟨_, rfl, ?_⟩) | ((with_reducible refine gate_callee (f := 36) rfl ?_); refine goesL_ (some 30) rfl rfl Try.func36 (by kernel_rfl) rfl #[.int .u8 (bt a0 x6_1), .string (⟨#[97, 98, 99, 100, 101, 102, 103, 104, 105, 106, 107, 108, 109, 110, 111, 112, 113, 114, 115, 116, 117, 118, 119, 120, 121, 122, 95]⟩ : ByteArray)] rfl (by (try simp only [List.map_toArray, List.map_cons, List.map_nil]); first | done | rfl | (simp only [List.length_drop, List.length_take]; rfl)) ?_; (with_reducible refine (cupelref04_In.calls k1 (bt a0 x6_1) (⟨#[97, 98, 99, 100, 101, 102, 103, 104, 105, 106, 107, 108, 109, 110, 111, 112, 113, 114, 115, 116, 117, 118, 119, 120, 121, 122, 95]⟩ : ByteArray) true _ A9.out).mono ?_); rintro e w' ⟨rfl, ⟨nd, rfl⟩⟩; refine ⟨_, rfl, ?_⟩) | ((with_reducible refine gate_callee (f := 38) rfl ?_); refine goesL_ (some 33) rfl rfl Try.func38 (by kernel_rfl) rfl #[.string a0, .int .i64 x6_1, .string (⟨#[97, 98, 99, 100, 101, 102, 103, 104, 105, 106, 107, 108, 109, 110, 111, 112, 113, 114, 115, 116, 117, 118, 119, 120, 121, 122, 95, 48, 49, 50, 51, 52, 53, 54, 55, 56, 57]⟩ : ByteArray)] rfl (by (try simp only [List.map_toArray, List.map_cons, List.map_nil]); first | done | rfl | (simp only [List.length_drop, List.length_take]; rfl)) ?_; (with_reducible refine (cupelref04_While.calls k1 a0 x6_1 (⟨#[97, 98, 99, 100, 101, 102, 103, 104, 105, 106, 107, 108, 109, 110, 111, 112, 113, 114, 115, 116, 117, 118, 119, 120, 121, 122, 95, 48, 49, 50, 51, 52, 53, 54, 55, 56, 57]⟩ : ByteArray) t125 _ A11.out).mono ?_); rintro e w' ⟨rfl, ⟨nd, rfl⟩⟩; refine ⟨_, rfl, ?_⟩) | ((with_reducible refine gate_callee (f := 39) rfl ?_); refine goesL_ (some 38) rfl rfl Try.func39 (by kernel_rfl) rfl #[.string (a0.extract (x6_1 : Int).toNat (t125 : Int).toNat)] rfl (by (try simp only [List.map_toArray, List.map_cons, List.map_nil]); first | done | rfl | (simp only [List.length_drop, List.length_take]; rfl)) ?_; (with_reducible refine (cupelref04_Word.calls k1 (a0.extract (x6_1 : Int).toNat (t125 : Int).toNat) false _ A15.out).mono ?_); rintro e w27 ⟨rfl, hb⟩; refine ⟨_, rfl, ?_⟩; have n0_ := Aside0.mk (Kd.R_below (by (with_reducible repeat (first | apply Kd.R_alloc | apply Kd.R_drewN | apply Kd.R_drew)); exact HO_4.out) hb); have n1_ := Aside0.mk (Kd.R_below (by (with_reducible repeat (first | apply Kd.R_alloc | apply Kd.R_drewN | apply Kd.R_drew)); exact HO_5.out) hb); have n2_ := Aside0.mk (below_step (by repeat (first | (with_reducible first | exact HB.out | apply below_alloc | apply pw_below_drewN | apply below_drew1) | exact HB.out)) hb); clear HO_4; clear HO_5; clear HB; have HO_4 := n0_; have HO_5 := n1_; have HB := n2_; clear n0_ n1_ n2_; (try clear hb); (try clear hb2); (try clear hk); (try clear hi)) | ((with_reducible refine gate_builtin (b := .append) (xs := #[.tmp 39, .tmp 47]) rfl ?_); (try (refine gate_guard (by rfl) ?_; dsimp only)); at_builtin; refine Kd.R_append k70 (w0 := w) w.heap.size rfl (.tmp 39) (.tmp 47) 65 70 (.agg #[(.int .i64 0), (.int .i64 0), (.string ⟨#[]⟩)]) 32 rfl Try.underlying65 info70 rfl (by decide) (by omega) u4 x4_1 (⟨1, x6_1, a0.extract (x6_1 : Int).toNat (t125 : Int).toNat⟩ : S70) [.int .i64 1, .int .i64 x6_1, .string (a0.extract (x6_1 : Int).toNat (t125 : Int).toNat)] (fun _ => True) (fun _ => False) rfl rfl ?aP (fun _ hk => hk.elim) ?aF ?aO ?aB ?aS ?aL ?_; (case aP => exact k70_mkM _ _ _ (⟨1, x6_1, a0.extract (x6_1 : Int).toNat (t125 : Int).toNat⟩ : S70)); (case aB => exact (by repeat (first | (with_reducible first | exact HB.out | apply below_alloc | apply pw_below_drewN | apply below_drew1) | exact HB.out))); (case aF => exact (fun _ _ => trivial)); (case aO => exact (by (with_reducible repeat (first | apply Kd.R_alloc | apply Kd.R_drewN | apply Kd.R_drew)); exact HO_4.out)); (case aS => exact (below_size (by repeat (first | (with_reducible first | exact HB.out | apply below_alloc | apply pw_below_drewN | apply below_drew1) | exact HB.out)))); (case aL => have := LMc26.out; omega); intro v131 w28 ho hb hg hat; rw [← Ny130.out] at ho; have n0_ := Aside0.mk (Kd.R_over' (by (with_reducible repeat (first | apply Kd.R_alloc | apply Kd.R_drewN | apply Kd.R_drew)); exact HO_5.out) (Kd.R_typed (by (with_reducible repeat (first | apply Kd.R_alloc | apply Kd.R_drewN | apply Kd.R_drew)); exact HO_4.out)) (by decide) hg); have n1_ := Aside0.mk (hb); have n2_ := Aside0.mk (ho); clear HO_5; clear HB; clear HO_4; have HO_5 := n0_; have HB := n1_; have HO132 := n2_; clear n0_ n1_ n2_; clear ho hb hg hat))
                        go_roundg k1
                        case measure => have := HK1.out; omega
                        case rel => exact ⟨(y130), (x5_1), (t125), (by first | rfl | (simp; done) | (simp [*]; done)), H', ⟨by have := HK1.out; omega⟩, ⟨by (with_reducible repeat (first | apply Kd.R_alloc | apply Kd.R_drewN | apply Kd.R_drew)); exact HO132.out⟩, ⟨by (with_reducible repeat (first | apply Kd.R_alloc | apply Kd.R_drewN | apply Kd.R_drew)); exact HO_5.out⟩, ⟨by repeat (first | (with_reducible first | exact HB.out | apply below_alloc | apply pw_below_drewN | apply below_drew1) | exact HB.out)⟩⟩
                      · rw [if_neg c26] at H
                        exact absurd H (by simp)
                  · rw [if_neg c14] at H
                    exact absurd H (by simp)
                · rw [if_neg c13] at H
                  exact absurd H (by simp)
              · replace c10 := Bool.eq_false_iff.mpr c10
                subst c10
                have H1 : ((cupelref04_In.f k1 (bt a0 x6_1) (⟨#[48, 49, 50, 51, 52, 53, 54, 55, 56, 57]⟩ : ByteArray)).bind fun t133 => (if t133 = true then ((cupelref04_While.f k1 a0 x6_1 (⟨#[48, 49, 50, 51, 52, 53, 54, 55, 56, 57]⟩ : ByteArray)).bind fun t134 => (if x6_1 ≤ t134 then (if t134 ≤ (a0.size : Int) then (if (wrap64 (t134 - x6_1)) > 18 then (if x5_1.length < 4398046511104 then (if x4_1.length < 4398046511104 then (cupelref04_Lex.l0 k1 a0 (x4_1 ++ [(⟨3, x6_1, (⟨#[48]⟩ : ByteArray)⟩ : S70)]) (x5_1 ++ [(⟨x6_1, 13, (⟨#[]⟩ : ByteArray)⟩ : S85)]) t134) else (none)) else (none)) else (if x4_1.length < 4398046511104 then (cupelref04_Lex.l0 k1 a0 (x4_1 ++ [(⟨3, x6_1, a0.extract (x6_1 : Int).toNat (t134 : Int).toNat⟩ : S70)]) x5_1 t134) else (none))) else (none)) else (none))) else (if (bt a0 x6_1) = 34 then ((cupelref04_Until.f k1 a0 (wrap64 (x6_1 + 1)) (⟨#[34, 10]⟩ : ByteArray)).bind fun t144 => (if t144 < (a0.size : Int) then (if 0 ≤ t144 then (if (bt a0 t144) = 34 then (if 0 ≤ (wrap64 (x6_1 + 1)) then (if (wrap64 (x6_1 + 1)) ≤ t144 then (if t144 ≤ (a0.size : Int) then (if x4_1.length < 4398046511104 then (cupelref04_Lex.l0 k1 a0 (x4_1 ++ [(⟨4, x6_1, a0.extract ((wrap64 (x6_1 + 1)) : Int).toNat (t144 : Int).toNat⟩ : S70)]) x5_1 (wrap64 (t144 + 1))) else (none)) else (none)) else (none)) else (none)) else (if x5_1.length < 4398046511104 then (cupelref04_Lex.l0 k1 a0 x4_1 (x5_1 ++ [(⟨x6_1, 1, (⟨#[]⟩ : ByteArray)⟩ : S85)]) t144) else (none))) else (none)) else (if x5_1.length < 4398046511104 then (cupelref04_Lex.l0 k1 a0 x4_1 (x5_1 ++ [(⟨x6_1, 1, (⟨#[]⟩ : ByteArray)⟩ : S85)]) t144) else (none)))) else (if (bt a0 x6_1) = 45 then (if (wrap64 (x6_1 + 1)) < (a0.size : Int) then (if 0 ≤ (wrap64 (x6_1 + 1)) then (cupelref04_Lex.j1 k1 a0 x4_1 x5_1 x6_1 (bt a0 x6_1) (wrap64 (x6_1 + 1)) ((bt a0 (wrap64 (x6_1 + 1))) == 62)) else (none)) else (cupelref04_Lex.j1 k1 a0 x4_1 x5_1 x6_1 (bt a0 x6_1) (wrap64 (x6_1 + 1)) false)) else (cupelref04_Lex.j1 k1 a0 x4_1 x5_1 x6_1 (bt a0 x6_1) (wrap64 (x6_1 + 1)) false))))) = some (r1, r2) := by rw [if_neg (show ¬ (false = true) by decide)] at H; exact H
                clear H
                have H := H1
                clear H1
                replace H := Option.bind_eq_some_iff.mp H
                obtain ⟨t133, A290, H⟩ := H
                replace H : (if t133 = true then ((cupelref04_While.f k1 a0 x6_1 (⟨#[48, 49, 50, 51, 52, 53, 54, 55, 56, 57]⟩ : ByteArray)).bind fun t134 => (if x6_1 ≤ t134 then (if t134 ≤ (a0.size : Int) then (if (wrap64 (t134 - x6_1)) > 18 then (if x5_1.length < 4398046511104 then (if x4_1.length < 4398046511104 then (cupelref04_Lex.l0 k1 a0 (x4_1 ++ [(⟨3, x6_1, (⟨#[48]⟩ : ByteArray)⟩ : S70)]) (x5_1 ++ [(⟨x6_1, 13, (⟨#[]⟩ : ByteArray)⟩ : S85)]) t134) else (none)) else (none)) else (if x4_1.length < 4398046511104 then (cupelref04_Lex.l0 k1 a0 (x4_1 ++ [(⟨3, x6_1, a0.extract (x6_1 : Int).toNat (t134 : Int).toNat⟩ : S70)]) x5_1 t134) else (none))) else (none)) else (none))) else (if (bt a0 x6_1) = 34 then ((cupelref04_Until.f k1 a0 (wrap64 (x6_1 + 1)) (⟨#[34, 10]⟩ : ByteArray)).bind fun t144 => (if t144 < (a0.size : Int) then (if 0 ≤ t144 then (if (bt a0 t144) = 34 then (if 0 ≤ (wrap64 (x6_1 + 1)) then (if (wrap64 (x6_1 + 1)) ≤ t144 then (if t144 ≤ (a0.size : Int) then (if x4_1.length < 4398046511104 then (cupelref04_Lex.l0 k1 a0 (x4_1 ++ [(⟨4, x6_1, a0.extract ((wrap64 (x6_1 + 1)) : Int).toNat (t144 : Int).toNat⟩ : S70)]) x5_1 (wrap64 (t144 + 1))) else (none)) else (none)) else (none)) else (none)) else (if x5_1.length < 4398046511104 then (cupelref04_Lex.l0 k1 a0 x4_1 (x5_1 ++ [(⟨x6_1, 1, (⟨#[]⟩ : ByteArray)⟩ : S85)]) t144) else (none))) else (none)) else (if x5_1.length < 4398046511104 then (cupelref04_Lex.l0 k1 a0 x4_1 (x5_1 ++ [(⟨x6_1, 1, (⟨#[]⟩ : ByteArray)⟩ : S85)]) t144) else (none)))) else (if (bt a0 x6_1) = 45 then (if (wrap64 (x6_1 + 1)) < (a0.size : Int) then (if 0 ≤ (wrap64 (x6_1 + 1)) then (cupelref04_Lex.j1 k1 a0 x4_1 x5_1 x6_1 (bt a0 x6_1) (wrap64 (x6_1 + 1)) ((bt a0 (wrap64 (x6_1 + 1))) == 62)) else (none)) else (cupelref04_Lex.j1 k1 a0 x4_1 x5_1 x6_1 (bt a0 x6_1) (wrap64 (x6_1 + 1)) false)) else (cupelref04_Lex.j1 k1 a0 x4_1 x5_1 x6_1 (bt a0 x6_1) (wrap64 (x6_1 + 1)) false)))) = some (r1, r2) := H
                have A29 := Aside0.mk A290
                clear A290
                by_cases c30 : t133 = true
                · subst c30
                  have H1 : ((cupelref04_While.f k1 a0 x6_1 (⟨#[48, 49, 50, 51, 52, 53, 54, 55, 56, 57]⟩ : ByteArray)).bind fun t134 => (if x6_1 ≤ t134 then (if t134 ≤ (a0.size : Int) then (if (wrap64 (t134 - x6_1)) > 18 then (if x5_1.length < 4398046511104 then (if x4_1.length < 4398046511104 then (cupelref04_Lex.l0 k1 a0 (x4_1 ++ [(⟨3, x6_1, (⟨#[48]⟩ : ByteArray)⟩ : S70)]) (x5_1 ++ [(⟨x6_1, 13, (⟨#[]⟩ : ByteArray)⟩ : S85)]) t134) else (none)) else (none)) else (if x4_1.length < 4398046511104 then (cupelref04_Lex.l0 k1 a0 (x4_1 ++ [(⟨3, x6_1, a0.extract (x6_1 : Int).toNat (t134 : Int).toNat⟩ : S70)]) x5_1 t134) else (none))) else (none)) else (none))) = some (r1, r2) := by rw [if_pos rfl] at H; exact H
                  clear H
                  have H := H1
                  clear H1
                  replace H := Option.bind_eq_some_iff.mp H
                  obtain ⟨t134, A310, H⟩ := H
                  replace H : (if x6_1 ≤ t134 then (if t134 ≤ (a0.size : Int) then (if (wrap64 (t134 - x6_1)) > 18 then (if x5_1.length < 4398046511104 then (if x4_1.length < 4398046511104 then (cupelref04_Lex.l0 k1 a0 (x4_1 ++ [(⟨3, x6_1, (⟨#[48]⟩ : ByteArray)⟩ : S70)]) (x5_1 ++ [(⟨x6_1, 13, (⟨#[]⟩ : ByteArray)⟩ : S85)]) t134) else (none)) else (none)) else (if x4_1.length < 4398046511104 then (cupelref04_Lex.l0 k1 a0 (x4_1 ++ [(⟨3, x6_1, a0.extract (x6_1 : Int).toNat (t134 : Int).toNat⟩ : S70)]) x5_1 t134) else (none))) else (none)) else (none)) = some (r1, r2) := H
                  have A31 := Aside0.mk A310
                  clear A310
                  have c32b0 := eq_true (of_decide_eq_true (by first | (with_reducible assumption) | assumption) : 0 ≤ x6_1)
                  by_cases c33 : x6_1 ≤ t134
                  · rw [if_pos c33] at H
                    have c33b0 := eq_true c33
                    have c33b1 : decide (x6_1 ≤ t134) = true := decide_eq_true c33
                    clear c33
                    by_cases c34 : t134 ≤ (a0.size : Int)
                    · rw [if_pos c34] at H
                      have c34b0 := eq_true c34
                      have c34b1 : decide (t134 ≤ (a0.size : Int)) = true := decide_eq_true c34
                      clear c34
                      by_cases c35 : (wrap64 (t134 - x6_1)) > 18
                      · rw [if_pos c35] at H
                        have c35b0 : decide (18 < (wrap64 (t134 - x6_1))) = true := decide_eq_true c35
                        clear c35
                        by_cases c36 : x5_1.length < 4398046511104
                        · rw [if_pos c36] at H
                          have LMc36 := Aside0.mk c36
                          clear c36
                          obtain ⟨y135, hy135⟩ : ∃ y_ : List (S85), y_ = (x5_1 ++ [(⟨x6_1, 13, (⟨#[]⟩ : ByteArray)⟩ : S85)]) := ⟨_, rfl⟩
                          replace H : (if x4_1.length < 4398046511104 then (cupelref04_Lex.l0 k1 a0 (x4_1 ++ [(⟨3, x6_1, (⟨#[48]⟩ : ByteArray)⟩ : S70)]) y135 t134) else (none)) = some (r1, r2) := by first | (rw [hy135]; with_reducible exact H) | (have H2_ := (Option.bind_some _ _).symm.trans H; rw [hy135]; with_reducible exact H2_) | (have H2_ := (Option.bind_some _ _).symm.trans H; with_reducible exact H2_) | with_reducible exact H | (rw [hy135]; exact H) | exact H
                          have Ny135 := Aside0.mk hy135
                          clear hy135
                          by_cases c37 : x4_1.length < 4398046511104
                          · rw [if_pos c37] at H
                            have LMc37 := Aside0.mk c37
                            clear c37
                            obtain ⟨y138, hy138⟩ : ∃ y_ : List (S70), y_ = (x4_1 ++ [(⟨3, x6_1, (⟨#[48]⟩ : ByteArray)⟩ : S70)]) := ⟨_, rfl⟩
                            replace H : (cupelref04_Lex.l0 k1 a0 y138 y135 t134) = some (r1, r2) := by first | (rw [hy138]; with_reducible exact H) | (have H2_ := (Option.bind_some _ _).symm.trans H; rw [hy138]; with_reducible exact H2_) | (have H2_ := (Option.bind_some _ _).symm.trans H; with_reducible exact H2_) | with_reducible exact H | (rw [hy138]; exact H) | exact H
                            have Ny138 := Aside0.mk hy138
                            clear hy138
                            have H' := Aside0.mk H
                            clear H
                            have p4 : 0 ≤ (x6_1 : Int) := of_decide_eq_true (by first | (with_reducible assumption) | assumption)
                            have q4 : x6_1 < (a0.size : Int) := of_decide_eq_true (by first | (with_reducible assumption) | assumption)
                            have hx4 := bt_at a0 x6_1
                            replace p4 := eq_true p4
                            replace q4 := eq_true q4
                            go_wp2_with (first | ((with_reducible refine gate_callee (f := 36) rfl ?_); refine goesL_ (some 21) rfl rfl Try.func36 (by kernel_rfl) rfl #[.int .u8 (bt a0 x6_1), .string (⟨#[32, 9, 10, 13]⟩ : ByteArray)] rfl (by (try simp only [List.map_toArray, List.map_cons, List.map_nil]); first | done | rfl | (simp only [List.length_drop, List.length_take]; rfl)) ?_; (with_reducible refine (cupelref04_In.calls k1 (bt a0 x6_1) (⟨#[32, 9, 10, 13]⟩ : ByteArray) false _ A5.out).mono ?_); rintro e w' ⟨rfl, ⟨nd, rfl⟩⟩; refine ⟨_, rfl, ?_⟩) | ((with_reducible refine gate_callee (f := 36) rfl ?_); refine goesL_ (some 30) rfl rfl Try.func36 (by kernel_rfl) rfl #[.int .u8 (bt a0 x6_1), .string (⟨#[97, 98, 99, 100, 101, 102, 103, 104, 105, 106, 107, 108, 109, 110, 111, 112, 113, 114, 115, 116, 117, 118, 119, 120, 121, 122, 95]⟩ : ByteArray)] rfl (by (try simp only [List.map_toArray, List.map_cons, List.map_nil]); first | done | rfl | (simp only [List.length_drop, List.length_take]; rfl)) ?_; (with_reducible refine (cupelref04_In.calls k1 (bt a0 x6_1) (⟨#[97, 98, 99, 100, 101, 102, 103, 104, 105, 106, 107, 108, 109, 110, 111, 112, 113, 114, 115, 116, 117, 118, 119, 120, 121, 122, 95]⟩ : ByteArray) false _ A9.out).mono ?_); rintro e w' ⟨rfl, ⟨nd, rfl⟩⟩; refine ⟨_, rfl, ?_⟩) | ((with_reducible refine gate_callee (f := 36) rfl ?_); refine goesL_ (some 50) rfl rfl Try.func36 (by kernel_rfl) rfl #[.int .u8 (bt a0 x6_1), .string (⟨#[48, 49, 50, 51, 52, 53, 54, 55, 56, 57]⟩ : ByteArray)] rfl (by (try simp only [List.map_toArray, List.map_cons, List.map_nil]); first | done | rfl | (simp only [List.length_drop, List.length_take]; rfl)) ?_; (with_reducible refine (cupelref04_In.calls k1 (bt a0 x6_1) (⟨#[48, 49, 50, 51, 52, 53, 54, 55, 56, 57]⟩ : ByteArray) true _ A29.out).mono ?_); rintro e w' ⟨rfl, ⟨nd, rfl⟩⟩; refine ⟨_, rfl, ?_⟩) | ((with_reducible refine gate_callee (f := 38) rfl ?_); refine goesL_ (some 53) rfl rfl Try.func38 (by kernel_rfl) rfl #[.string a0, .int .i64 x6_1, .string (⟨#[48, 49, 50, 51, 52, 53, 54, 55, 56, 57]⟩ : ByteArray)] rfl (by (try simp only [List.map_toArray, List.map_cons, List.map_nil]); first | done | rfl | (simp only [List.length_drop, List.length_take]; rfl)) ?_; (with_reducible refine (cupelref04_While.calls k1 a0 x6_1 (⟨#[48, 49, 50, 51, 52, 53, 54, 55, 56, 57]⟩ : ByteArray) t134 _ A31.out).mono ?_); rintro e w' ⟨rfl, ⟨nd, rfl⟩⟩; refine ⟨_, rfl, ?_⟩) | ((with_reducible refine gate_builtin (b := .append) (xs := #[.tmp 62, .tmp 65]) rfl ?_); (try (refine gate_guard (by rfl) ?_; dsimp only)); at_builtin; refine Kd.R_append k85 (w0 := w) w.heap.size rfl (.tmp 62) (.tmp 65) 66 85 (.agg #[(.int .i64 0), (.int .i64 0), (.string ⟨#[]⟩)]) 32 rfl Try.underlying66 info85 rfl (by decide) (by omega) u5 x5_1 (⟨x6_1, 13, (⟨#[]⟩ : ByteArray)⟩ : S85) [.int .i64 x6_1, .int .i64 13, .string (⟨#[]⟩ : ByteArray)] (fun _ => True) (fun _ => False) rfl rfl ?aP (fun _ hk => hk.elim) ?aF ?aO ?aB ?aS ?aL ?_; (case aP => exact k85_mkM _ _ _ (⟨x6_1, 13, (⟨#[]⟩ : ByteArray)⟩ : S85)); (case aB => exact (by repeat (first | (with_reducible first | exact HB.out | apply below_alloc | apply pw_below_drewN | apply below_drew1) | exact HB.out))); (case aF => exact (fun _ _ => trivial)); (case aO => exact (by (with_reducible repeat (first | apply Kd.R_alloc | apply Kd.R_drewN | apply Kd.R_drew)); exact HO_5.out)); (case aS => exact (below_size (by repeat (first | (with_reducible first | exact HB.out | apply below_alloc | apply pw_below_drewN | apply below_drew1) | exact HB.out)))); (case aL => have := LMc36.out; omega); intro v136 w38 ho hb hg hat; rw [← Ny135.out] at ho; have n0_ := Aside0.mk (Kd.R_over' (by (with_reducible repeat (first | apply Kd.R_alloc | apply Kd.R_drewN | apply Kd.R_drew)); exact HO_4.out) (Kd.R_typed (by (with_reducible repeat (first | apply Kd.R_alloc | apply Kd.R_drewN | apply Kd.R_drew)); exact HO_5.out)) (by decide) hg); have n1_ := Aside0.mk (hb); have n2_ := Aside0.mk (ho); clear HO_4; clear HB; clear HO_5; have HO_4 := n0_; have HB := n1_; have HO137 := n2_; clear n0_ n1_ n2_; clear ho hb hg hat) | ((with_reducible refine gate_builtin (b := .append) (xs := #[.tmp 67, .tmp 71]) rfl ?_); (try (refine gate_guard (by rfl) ?_; dsimp only)); at_builtin; refine Kd.R_append k70 (w0 := w) w.heap.size rfl (.tmp 67) (.tmp 71) 65 70 (.agg #[(.int .i64 0), (.int .i64 0), (.string ⟨#[]⟩)]) 32 rfl Try.underlying65 info70 rfl (by decide) (by omega) u4 x4_1 (⟨3, x6_1, (⟨#[48]⟩ : ByteArray)⟩ : S70) [.int .i64 3, .int .i64 x6_1, .string (⟨#[48]⟩ : ByteArray)] (fun _ => True) (fun _ => False) rfl rfl ?aP (fun _ hk => hk.elim) ?aF ?aO ?aB ?aS ?aL ?_; (case aP => exact k70_mkM _ _ _ (⟨3, x6_1, (⟨#[48]⟩ : ByteArray)⟩ : S70)); (case aB => exact (by repeat (first | (with_reducible first | exact HB.out | apply below_alloc | apply pw_below_drewN | apply below_drew1) | exact HB.out))); (case aF => exact (fun _ _ => trivial)); (case aO => exact (by (with_reducible repeat (first | apply Kd.R_alloc | apply Kd.R_drewN | apply Kd.R_drew)); exact HO_4.out)); (case aS => exact (below_size (by repeat (first | (with_reducible first | exact HB.out | apply below_alloc | apply pw_below_drewN | apply below_drew1) | exact HB.out)))); (case aL => have := LMc37.out; omega); intro v139 w39 ho hb hg hat; rw [← Ny138.out] at ho; have n0_ := Aside0.mk (Kd.R_over' (by (with_reducible repeat (first | apply Kd.R_alloc | apply Kd.R_drewN | apply Kd.R_drew)); exact HO137.out) (Kd.R_typed (by (with_reducible repeat (first | apply Kd.R_alloc | apply Kd.R_drewN | apply Kd.R_drew)); exact HO_4.out)) (by decide) hg); have n1_ := Aside0.mk (hb); have n2_ := Aside0.mk (ho); clear HO137; clear HB; clear HO_4; have HO137 := n0_; have HB := n1_; have HO140 := n2_; clear n0_ n1_ n2_; clear ho hb hg hat))
                            go_roundg k1
                            case measure => have := HK1.out; omega
                            case rel => exact ⟨(y138), (y135), (t134), (by first | rfl | (simp; done) | (simp [*]; done)), H', ⟨by have := HK1.out; omega⟩, ⟨by (with_reducible repeat (first | apply Kd.R_alloc | apply Kd.R_drewN | apply Kd.R_drew)); exact HO140.out⟩, ⟨by (with_reducible repeat (first | apply Kd.R_alloc | apply Kd.R_drewN | apply Kd.R_drew)); exact HO137.out⟩, ⟨by repeat (first | (with_reducible first | exact HB.out | apply below_alloc | apply pw_below_drewN | apply below_drew1) | exact HB.out)⟩⟩
                          · rw [if_neg c37] at H
                            exact absurd H (by simp)
                        · rw [if_neg c36] at H
                          exact absurd H (by simp)
                      · rw [if_neg c35] at H
                        have c35b0 : decide (18 < (wrap64 (t134 - x6_1))) = false := decide_eq_false c35
                        clear c35
                        by_cases c40 : x4_1.length < 4398046511104
                        · rw [if_pos c40] at H
                          have LMc40 := Aside0.mk c40
                          clear c40
                          obtain ⟨y141, hy141⟩ : ∃ y_ : List (S70), y_ = (x4_1 ++ [(⟨3, x6_1, a0.extract (x6_1 : Int).toNat (t134 : Int).toNat⟩ : S70)]) := ⟨_, rfl⟩
                          replace H : (cupelref04_Lex.l0 k1 a0 y141 x5_1 t134) = some (r1, r2) := by first | (rw [hy141]; with_reducible exact H) | (have H2_ := (Option.bind_some _ _).symm.trans H; rw [hy141]; with_reducible exact H2_) | (have H2_ := (Option.bind_some _ _).symm.trans H; with_reducible exact H2_) | with_reducible exact H | (rw [hy141]; exact H) | exact H
                          have Ny141 := Aside0.mk hy141
                          clear hy141
                          have H' := Aside0.mk H
                          clear H
                          have p4 : 0 ≤ (x6_1 : Int) := of_decide_eq_true (by first | (with_reducible assumption) | assumption)
                          have q4 : x6_1 < (a0.size : Int) := of_decide_eq_true (by first | (with_reducible assumption) | assumption)
                          have hx4 := bt_at a0 x6_1
                          replace p4 := eq_true p4
                          replace q4 := eq_true q4
                          go_wp2_with (first | ((with_reducible refine gate_callee (f := 36) rfl ?_); refine goesL_ (some 21) rfl rfl Try.func36 (by kernel_rfl) rfl #[.int .u8 (bt a0 x6_1), .string (⟨#[32, 9, 10, 13]⟩ : ByteArray)] rfl (by (try simp only [List.map_toArray, List.map_cons, List.map_nil]); first | done | rfl | (simp only [List.length_drop, List.length_take]; rfl)) ?_; (with_reducible refine (cupelref04_In.calls k1 (bt a0 x6_1) (⟨#[32, 9, 10, 13]⟩ : ByteArray) false _ A5.out).mono ?_); rintro e w' ⟨rfl, ⟨nd, rfl⟩⟩; refine ⟨_, rfl, ?_⟩) | ((with_reducible refine gate_callee (f := 36) rfl ?_); refine goesL_ (some 30) rfl rfl Try.func36 (by kernel_rfl) rfl #[.int .u8 (bt a0 x6_1), .string (⟨#[97, 98, 99, 100, 101, 102, 103, 104, 105, 106, 107, 108, 109, 110, 111, 112, 113, 114, 115, 116, 117, 118, 119, 120, 121, 122, 95]⟩ : ByteArray)] rfl (by (try simp only [List.map_toArray, List.map_cons, List.map_nil]); first | done | rfl | (simp only [List.length_drop, List.length_take]; rfl)) ?_; (with_reducible refine (cupelref04_In.calls k1 (bt a0 x6_1) (⟨#[97, 98, 99, 100, 101, 102, 103, 104, 105, 106, 107, 108, 109, 110, 111, 112, 113, 114, 115, 116, 117, 118, 119, 120, 121, 122, 95]⟩ : ByteArray) false _ A9.out).mono ?_); rintro e w' ⟨rfl, ⟨nd, rfl⟩⟩; refine ⟨_, rfl, ?_⟩) | ((with_reducible refine gate_callee (f := 36) rfl ?_); refine goesL_ (some 50) rfl rfl Try.func36 (by kernel_rfl) rfl #[.int .u8 (bt a0 x6_1), .string (⟨#[48, 49, 50, 51, 52, 53, 54, 55, 56, 57]⟩ : ByteArray)] rfl (by (try simp only [List.map_toArray, List.map_cons, List.map_nil]); first | done | rfl | (simp only [List.length_drop, List.length_take]; rfl)) ?_; (with_reducible refine (cupelref04_In.calls k1 (bt a0 x6_1) (⟨#[48, 49, 50, 51, 52, 53, 54, 55, 56, 57]⟩ : ByteArray) true _ A29.out).mono ?_); rintro e w' ⟨rfl, ⟨nd, rfl⟩⟩; refine ⟨_, rfl, ?_⟩) | ((with_reducible refine gate_callee (f := 38) rfl ?_); refine goesL_ (some 53) rfl rfl Try.func38 (by kernel_rfl) rfl #[.string a0, .int .i64 x6_1, .string (⟨#[48, 49, 50, 51, 52, 53, 54, 55, 56, 57]⟩ : ByteArray)] rfl (by (try simp only [List.map_toArray, List.map_cons, List.map_nil]); first | done | rfl | (simp only [List.length_drop, List.length_take]; rfl)) ?_; (with_reducible refine (cupelref04_While.calls k1 a0 x6_1 (⟨#[48, 49, 50, 51, 52, 53, 54, 55, 56, 57]⟩ : ByteArray) t134 _ A31.out).mono ?_); rintro e w' ⟨rfl, ⟨nd, rfl⟩⟩; refine ⟨_, rfl, ?_⟩) | ((with_reducible refine gate_builtin (b := .append) (xs := #[.tmp 67, .tmp 71]) rfl ?_); (try (refine gate_guard (by rfl) ?_; dsimp only)); at_builtin; refine Kd.R_append k70 (w0 := w) w.heap.size rfl (.tmp 67) (.tmp 71) 65 70 (.agg #[(.int .i64 0), (.int .i64 0), (.string ⟨#[]⟩)]) 32 rfl Try.underlying65 info70 rfl (by decide) (by omega) u4 x4_1 (⟨3, x6_1, a0.extract (x6_1 : Int).toNat (t134 : Int).toNat⟩ : S70) [.int .i64 3, .int .i64 x6_1, .string (a0.extract (x6_1 : Int).toNat (t134 : Int).toNat)] (fun _ => True) (fun _ => False) rfl rfl ?aP (fun _ hk => hk.elim) ?aF ?aO ?aB ?aS ?aL ?_; (case aP => exact k70_mkM _ _ _ (⟨3, x6_1, a0.extract (x6_1 : Int).toNat (t134 : Int).toNat⟩ : S70)); (case aB => exact (by repeat (first | (with_reducible first | exact HB.out | apply below_alloc | apply pw_below_drewN | apply below_drew1) | exact HB.out))); (case aF => exact (fun _ _ => trivial)); (case aO => exact (by (with_reducible repeat (first | apply Kd.R_alloc | apply Kd.R_drewN | apply Kd.R_drew)); exact HO_4.out)); (case aS => exact (below_size (by repeat (first | (with_reducible first | exact HB.out | apply below_alloc | apply pw_below_drewN | apply below_drew1) | exact HB.out)))); (case aL => have := LMc40.out; omega); intro v142 w41 ho hb hg hat; rw [← Ny141.out] at ho; have n0_ := Aside0.mk (Kd.R_over' (by (with_reducible repeat (first | apply Kd.R_alloc | apply Kd.R_drewN | apply Kd.R_drew)); exact HO_5.out) (Kd.R_typed (by (with_reducible repeat (first | apply Kd.R_alloc | apply Kd.R_drewN | apply Kd.R_drew)); exact HO_4.out)) (by decide) hg); have n1_ := Aside0.mk (hb); have n2_ := Aside0.mk (ho); clear HO_5; clear HB; clear HO_4; have HO_5 := n0_; have HB := n1_; have HO143 := n2_; clear n0_ n1_ n2_; clear ho hb hg hat))
                          go_roundg k1
                          case measure => have := HK1.out; omega
                          case rel => exact ⟨(y141), (x5_1), (t134), (by first | rfl | (simp; done) | (simp [*]; done)), H', ⟨by have := HK1.out; omega⟩, ⟨by (with_reducible repeat (first | apply Kd.R_alloc | apply Kd.R_drewN | apply Kd.R_drew)); exact HO143.out⟩, ⟨by (with_reducible repeat (first | apply Kd.R_alloc | apply Kd.R_drewN | apply Kd.R_drew)); exact HO_5.out⟩, ⟨by repeat (first | (with_reducible first | exact HB.out | apply below_alloc | apply pw_below_drewN | apply below_drew1) | exact HB.out)⟩⟩
                        · rw [if_neg c40] at H
                          exact absurd H (by simp)
                    · rw [if_neg c34] at H
                      exact absurd H (by simp)
                  · rw [if_neg c33] at H
                    exact absurd H (by simp)
                · replace c30 := Bool.eq_false_iff.mpr c30
                  subst c30
                  have H1 : (if (bt a0 x6_1) = 34 then ((cupelref04_Until.f k1 a0 (wrap64 (x6_1 + 1)) (⟨#[34, 10]⟩ : ByteArray)).bind fun t144 => (if t144 < (a0.size : Int) then (if 0 ≤ t144 then (if (bt a0 t144) = 34 then (if 0 ≤ (wrap64 (x6_1 + 1)) then (if (wrap64 (x6_1 + 1)) ≤ t144 then (if t144 ≤ (a0.size : Int) then (if x4_1.length < 4398046511104 then (cupelref04_Lex.l0 k1 a0 (x4_1 ++ [(⟨4, x6_1, a0.extract ((wrap64 (x6_1 + 1)) : Int).toNat (t144 : Int).toNat⟩ : S70)]) x5_1 (wrap64 (t144 + 1))) else (none)) else (none)) else (none)) else (none)) else (if x5_1.length < 4398046511104 then (cupelref04_Lex.l0 k1 a0 x4_1 (x5_1 ++ [(⟨x6_1, 1, (⟨#[]⟩ : ByteArray)⟩ : S85)]) t144) else (none))) else (none)) else (if x5_1.length < 4398046511104 then (cupelref04_Lex.l0 k1 a0 x4_1 (x5_1 ++ [(⟨x6_1, 1, (⟨#[]⟩ : ByteArray)⟩ : S85)]) t144) else (none)))) else (if (bt a0 x6_1) = 45 then (if (wrap64 (x6_1 + 1)) < (a0.size : Int) then (if 0 ≤ (wrap64 (x6_1 + 1)) then (cupelref04_Lex.j1 k1 a0 x4_1 x5_1 x6_1 (bt a0 x6_1) (wrap64 (x6_1 + 1)) ((bt a0 (wrap64 (x6_1 + 1))) == 62)) else (none)) else (cupelref04_Lex.j1 k1 a0 x4_1 x5_1 x6_1 (bt a0 x6_1) (wrap64 (x6_1 + 1)) false)) else (cupelref04_Lex.j1 k1 a0 x4_1 x5_1 x6_1 (bt a0 x6_1) (wrap64 (x6_1 + 1)) false))) = some (r1, r2) := by rw [if_neg (show ¬ (false = true) by decide)] at H; exact H
                  clear H
                  have H := H1
                  clear H1
                  by_cases c42 : (bt a0 x6_1) = 34
                  · rw [if_pos c42] at H
                    have c42b0 : ((bt a0 x6_1) == 34) = true := beq_iff_eq.mpr c42
                    have c42b1 : ((bt a0 x6_1) != 34) = false := bne_eq_false_iff_eq.mpr c42
                    clear c42
                    replace H := Option.bind_eq_some_iff.mp H
                    obtain ⟨t144, A430, H⟩ := H
                    replace H : (if t144 < (a0.size : Int) then (if 0 ≤ t144 then (if (bt a0 t144) = 34 then (if 0 ≤ (wrap64 (x6_1 + 1)) then (if (wrap64 (x6_1 + 1)) ≤ t144 then (if t144 ≤ (a0.size : Int) then (if x4_1.length < 4398046511104 then (cupelref04_Lex.l0 k1 a0 (x4_1 ++ [(⟨4, x6_1, a0.extract ((wrap64 (x6_1 + 1)) : Int).toNat (t144 : Int).toNat⟩ : S70)]) x5_1 (wrap64 (t144 + 1))) else (none)) else (none)) else (none)) else (none)) else (if x5_1.length < 4398046511104 then (cupelref04_Lex.l0 k1 a0 x4_1 (x5_1 ++ [(⟨x6_1, 1, (⟨#[]⟩ : ByteArray)⟩ : S85)]) t144) else (none))) else (none)) else (if x5_1.length < 4398046511104 then (cupelref04_Lex.l0 k1 a0 x4_1 (x5_1 ++ [(⟨x6_1, 1, (⟨#[]⟩ : ByteArray)⟩ : S85)]) t144) else (none))) = some (r1, r2) := H
                    have A43 := Aside0.mk A430
                    clear A430
                    by_cases c44 : t144 < (a0.size : Int)
                    · rw [if_pos c44] at H
                      have c44b0 : decide (t144 < (a0.size : Int)) = true := decide_eq_true c44
                      clear c44
                      by_cases c45 : 0 ≤ t144
                      · rw [if_pos c45] at H
                        have c45b0 : decide (0 ≤ t144) = true := decide_eq_true c45
                        clear c45
                        by_cases c47 : (bt a0 t144) = 34
                        · rw [if_pos c47] at H
                          have c47b0 : ((bt a0 t144) == 34) = true := beq_iff_eq.mpr c47
                          have c47b1 : ((bt a0 t144) != 34) = false := bne_eq_false_iff_eq.mpr c47
                          clear c47
                          obtain ⟨ji48, hji48⟩ : ∃ j_ : Int, (wrap64 (x6_1 + 1)) = j_ := ⟨_, rfl⟩
                          replace H : (if 0 ≤ (ji48) then (if (ji48) ≤ t144 then (if t144 ≤ (a0.size : Int) then (if x4_1.length < 4398046511104 then (cupelref04_Lex.l0 k1 a0 (x4_1 ++ [(⟨4, x6_1, a0.extract ((ji48) : Int).toNat (t144 : Int).toNat⟩ : S70)]) x5_1 (wrap64 (t144 + 1))) else (none)) else (none)) else (none)) else (none)) = some (r1, r2) := by first | (rw [hji48] at H; exact H) | (simp only [hji48] at H ⊢; exact H)
                          (try rw [hji48] at A5)
                          (try rw [hji48] at A9)
                          (try rw [hji48] at A29)
                          (try rw [hji48] at A43)
                          have hji48w : (IntKind.i64.wrap (x6_1 + 1)) = ji48 := (i64_w _).trans hji48
                          by_cases c49 : 0 ≤ (ji48)
                          · rw [if_pos c49] at H
                            have c49b0 := eq_true c49
                            have c49b1 : decide (0 ≤ (ji48)) = true := decide_eq_true c49
                            clear c49
                            by_cases c50 : (ji48) ≤ t144
                            · rw [if_pos c50] at H
                              have c50b0 := eq_true c50
                              have c50b1 : decide ((ji48) ≤ t144) = true := decide_eq_true c50
                              clear c50
                              by_cases c51 : t144 ≤ (a0.size : Int)
                              · rw [if_pos c51] at H
                                have c51b0 := eq_true c51
                                have c51b1 : decide (t144 ≤ (a0.size : Int)) = true := decide_eq_true c51
                                clear c51
                                by_cases c52 : x4_1.length < 4398046511104
                                · rw [if_pos c52] at H
                                  have LMc52 := Aside0.mk c52
                                  clear c52
                                  obtain ⟨y145, hy145⟩ : ∃ y_ : List (S70), y_ = (x4_1 ++ [(⟨4, x6_1, a0.extract ((ji48) : Int).toNat (t144 : Int).toNat⟩ : S70)]) := ⟨_, rfl⟩
                                  replace H : (cupelref04_Lex.l0 k1 a0 y145 x5_1 (wrap64 (t144 + 1))) = some (r1, r2) := by first | (rw [hy145]; with_reducible exact H) | (have H2_ := (Option.bind_some _ _).symm.trans H; rw [hy145]; with_reducible exact H2_) | (have H2_ := (Option.bind_some _ _).symm.trans H; with_reducible exact H2_) | with_reducible exact H | (rw [hy145]; exact H) | exact H
                                  have Ny145 := Aside0.mk hy145
                                  clear hy145
                                  have H' := Aside0.mk H
                                  clear H
                                  have p4 : 0 ≤ (x6_1 : Int) := of_decide_eq_true (by first | (with_reducible assumption) | assumption)
                                  have q4 : x6_1 < (a0.size : Int) := of_decide_eq_true (by first | (with_reducible assumption) | assumption)
                                  have hx4 := bt_at a0 x6_1
                                  replace p4 := eq_true p4
                                  replace q4 := eq_true q4
                                  go_wp2_with (first | ((with_reducible refine gate_callee (f := 36) rfl ?_); refine goesL_ (some 21) rfl rfl Try.func36 (by kernel_rfl) rfl #[.int .u8 (bt a0 x6_1), .string (⟨#[32, 9, 10, 13]⟩ : ByteArray)] rfl (by (try simp only [List.map_toArray, List.map_cons, List.map_nil]); first | done | rfl | (simp only [List.length_drop, List.length_take]; rfl)) ?_; (with_reducible refine (cupelref04_In.calls k1 (bt a0 x6_1) (⟨#[32, 9, 10, 13]⟩ : ByteArray) false _ A5.out).mono ?_); rintro e w' ⟨rfl, ⟨nd, rfl⟩⟩; refine ⟨_, rfl, ?_⟩) | ((with_reducible refine gate_callee (f := 36) rfl ?_); refine goesL_ (some 30) rfl rfl Try.func36 (by kernel_rfl) rfl #[.int .u8 (bt a0 x6_1), .string (⟨#[97, 98, 99, 100, 101, 102, 103, 104, 105, 106, 107, 108, 109, 110, 111, 112, 113, 114, 115, 116, 117, 118, 119, 120, 121, 122, 95]⟩ : ByteArray)] rfl (by (try simp only [List.map_toArray, List.map_cons, List.map_nil]); first | done | rfl | (simp only [List.length_drop, List.length_take]; rfl)) ?_; (with_reducible refine (cupelref04_In.calls k1 (bt a0 x6_1) (⟨#[97, 98, 99, 100, 101, 102, 103, 104, 105, 106, 107, 108, 109, 110, 111, 112, 113, 114, 115, 116, 117, 118, 119, 120, 121, 122, 95]⟩ : ByteArray) false _ A9.out).mono ?_); rintro e w' ⟨rfl, ⟨nd, rfl⟩⟩; refine ⟨_, rfl, ?_⟩) | ((with_reducible refine gate_callee (f := 36) rfl ?_); refine goesL_ (some 50) rfl rfl Try.func36 (by kernel_rfl) rfl #[.int .u8 (bt a0 x6_1), .string (⟨#[48, 49, 50, 51, 52, 53, 54, 55, 56, 57]⟩ : ByteArray)] rfl (by (try simp only [List.map_toArray, List.map_cons, List.map_nil]); first | done | rfl | (simp only [List.length_drop, List.length_take]; rfl)) ?_; (with_reducible refine (cupelref04_In.calls k1 (bt a0 x6_1) (⟨#[48, 49, 50, 51, 52, 53, 54, 55, 56, 57]⟩ : ByteArray) false _ A29.out).mono ?_); rintro e w' ⟨rfl, ⟨nd, rfl⟩⟩; refine ⟨_, rfl, ?_⟩) | ((with_reducible refine gate_callee (f := 37) rfl ?_); refine goesL_ (some 78) rfl rfl Try.func37 (by kernel_rfl) rfl #[.string a0, .int .i64 ji48, .string (⟨#[34, 10]⟩ : ByteArray)] rfl (by (try simp only [List.map_toArray, List.map_cons, List.map_nil]); first | done | (simp only [hji48]; rfl) | rfl | (simp only [List.length_drop, List.length_take]; rfl)) ?_; (with_reducible refine (cupelref04_Until.calls k1 a0 ji48 (⟨#[34, 10]⟩ : ByteArray) t144 _ A43.out).mono ?_); rintro e w' ⟨rfl, ⟨nd, rfl⟩⟩; refine ⟨_, rfl, ?_⟩; have p46 : 0 ≤ (t144 : Int) := of_decide_eq_true (by first | (with_reducible assumption) | assumption); have q46 : t144 < (a0.size : Int) := of_decide_eq_true (by first | (with_reducible assumption) | assumption); have hx46 := bt_at a0 t144; replace p46 := eq_true p46; replace q46 := eq_true q46) | ((with_reducible refine gate_builtin (b := .append) (xs := #[.tmp 89, .tmp 97]) rfl ?_); (try (refine gate_guard (by rfl) ?_; dsimp only)); at_builtin; refine Kd.R_append k70 (w0 := w) w.heap.size rfl (.tmp 89) (.tmp 97) 65 70 (.agg #[(.int .i64 0), (.int .i64 0), (.string ⟨#[]⟩)]) 32 rfl Try.underlying65 info70 rfl (by decide) (by omega) u4 x4_1 (⟨4, x6_1, a0.extract ((ji48) : Int).toNat (t144 : Int).toNat⟩ : S70) [.int .i64 4, .int .i64 x6_1, .string (a0.extract ((ji48) : Int).toNat (t144 : Int).toNat)] (fun _ => True) (fun _ => False) rfl rfl ?aP (fun _ hk => hk.elim) ?aF ?aO ?aB ?aS ?aL ?_; (case aP => exact k70_mkM _ _ _ (⟨4, x6_1, a0.extract ((ji48) : Int).toNat (t144 : Int).toNat⟩ : S70)); (case aB => exact (by repeat (first | (with_reducible first | exact HB.out | apply below_alloc | apply pw_below_drewN | apply below_drew1) | exact HB.out))); (case aF => exact (fun _ _ => trivial)); (case aO => exact (by (with_reducible repeat (first | apply Kd.R_alloc | apply Kd.R_drewN | apply Kd.R_drew)); exact HO_4.out)); (case aS => exact (below_size (by repeat (first | (with_reducible first | exact HB.out | apply below_alloc | apply pw_below_drewN | apply below_drew1) | exact HB.out)))); (case aL => have := LMc52.out; omega); intro v146 w53 ho hb hg hat; rw [← Ny145.out] at ho; have n0_ := Aside0.mk (Kd.R_over' (by (with_reducible repeat (first | apply Kd.R_alloc | apply Kd.R_drewN | apply Kd.R_drew)); exact HO_5.out) (Kd.R_typed (by (with_reducible repeat (first | apply Kd.R_alloc | apply Kd.R_drewN | apply Kd.R_drew)); exact HO_4.out)) (by decide) hg); have n1_ := Aside0.mk (hb); have n2_ := Aside0.mk (ho); clear HO_5; clear HB; clear HO_4; have HO_5 := n0_; have HB := n1_; have HO147 := n2_; clear n0_ n1_ n2_; clear ho hb hg hat))
                                  go_roundg k1
                                  case measure => have := HK1.out; omega
                                  case rel => exact ⟨(y145), (x5_1), (wrap64 (t144 + 1)), (by first | rfl | (simp; done) | (simp [*]; done)), H', ⟨by have := HK1.out; omega⟩, ⟨by (with_reducible repeat (first | apply Kd.R_alloc | apply Kd.R_drewN | apply Kd.R_drew)); exact HO147.out⟩, ⟨by (with_reducible repeat (first | apply Kd.R_alloc | apply Kd.R_drewN | apply Kd.R_drew)); exact HO_5.out⟩, ⟨by repeat (first | (with_reducible first | exact HB.out | apply below_alloc | apply pw_below_drewN | apply below_drew1) | exact HB.out)⟩⟩
                                · rw [if_neg c52] at H
                                  exact absurd H (by simp)
                              · rw [if_neg c51] at H
                                exact absurd H (by simp)
                            · rw [if_neg c50] at H
                              exact absurd H (by simp)
                          · rw [if_neg c49] at H
                            exact absurd H (by simp)
                        · rw [if_neg c47] at H
                          have c47b0 : ((bt a0 t144) == 34) = false := beq_eq_false_iff_ne.mpr c47
                          have c47b1 : ((bt a0 t144) != 34) = true := bne_iff_ne.mpr c47
                          by_cases c54 : x5_1.length < 4398046511104
                          · rw [if_pos c54] at H
                            have LMc54 := Aside0.mk c54
                            clear c54
                            obtain ⟨y148, hy148⟩ : ∃ y_ : List (S85), y_ = (x5_1 ++ [(⟨x6_1, 1, (⟨#[]⟩ : ByteArray)⟩ : S85)]) := ⟨_, rfl⟩
                            replace H : (cupelref04_Lex.l0 k1 a0 x4_1 y148 t144) = some (r1, r2) := by first | (rw [hy148]; with_reducible exact H) | (have H2_ := (Option.bind_some _ _).symm.trans H; rw [hy148]; with_reducible exact H2_) | (have H2_ := (Option.bind_some _ _).symm.trans H; with_reducible exact H2_) | with_reducible exact H | (rw [hy148]; exact H) | exact H
                            have Ny148 := Aside0.mk hy148
                            clear hy148
                            have H' := Aside0.mk H
                            clear H
                            have p4 : 0 ≤ (x6_1 : Int) := of_decide_eq_true (by first | (with_reducible assumption) | assumption)
                            have q4 : x6_1 < (a0.size : Int) := of_decide_eq_true (by first | (with_reducible assumption) | assumption)
                            have hx4 := bt_at a0 x6_1
                            replace p4 := eq_true p4
                            replace q4 := eq_true q4
                            go_wp2_with (first | ((with_reducible refine gate_callee (f := 36) rfl ?_); refine goesL_ (some 21) rfl rfl Try.func36 (by kernel_rfl) rfl #[.int .u8 (bt a0 x6_1), .string (⟨#[32, 9, 10, 13]⟩ : ByteArray)] rfl (by (try simp only [List.map_toArray, List.map_cons, List.map_nil]); first | done | rfl | (simp only [List.length_drop, List.length_take]; rfl)) ?_; (with_reducible refine (cupelref04_In.calls k1 (bt a0 x6_1) (⟨#[32, 9, 10, 13]⟩ : ByteArray) false _ A5.out).mono ?_); rintro e w' ⟨rfl, ⟨nd, rfl⟩⟩; refine ⟨_, rfl, ?_⟩) | ((with_reducible refine gate_callee (f := 36) rfl ?_); refine goesL_ (some 30) rfl rfl Try.func36 (by kernel_rfl) rfl #[.int .u8 (bt a0 x6_1), .string (⟨#[97, 98, 99, 100, 101, 102, 103, 104, 105, 106, 107, 108, 109, 110, 111, 112, 113, 114, 115, 116, 117, 118, 119, 120, 121, 122, 95]⟩ : ByteArray)] rfl (by (try simp only [List.map_toArray, List.map_cons, List.map_nil]); first | done | rfl | (simp only [List.length_drop, List.length_take]; rfl)) ?_; (with_reducible refine (cupelref04_In.calls k1 (bt a0 x6_1) (⟨#[97, 98, 99, 100, 101, 102, 103, 104, 105, 106, 107, 108, 109, 110, 111, 112, 113, 114, 115, 116, 117, 118, 119, 120, 121, 122, 95]⟩ : ByteArray) false _ A9.out).mono ?_); rintro e w' ⟨rfl, ⟨nd, rfl⟩⟩; refine ⟨_, rfl, ?_⟩) | ((with_reducible refine gate_callee (f := 36) rfl ?_); refine goesL_ (some 50) rfl rfl Try.func36 (by kernel_rfl) rfl #[.int .u8 (bt a0 x6_1), .string (⟨#[48, 49, 50, 51, 52, 53, 54, 55, 56, 57]⟩ : ByteArray)] rfl (by (try simp only [List.map_toArray, List.map_cons, List.map_nil]); first | done | rfl | (simp only [List.length_drop, List.length_take]; rfl)) ?_; (with_reducible refine (cupelref04_In.calls k1 (bt a0 x6_1) (⟨#[48, 49, 50, 51, 52, 53, 54, 55, 56, 57]⟩ : ByteArray) false _ A29.out).mono ?_); rintro e w' ⟨rfl, ⟨nd, rfl⟩⟩; refine ⟨_, rfl, ?_⟩) | ((with_reducible refine gate_callee (f := 37) rfl ?_); refine goesL_ (some 78) rfl rfl Try.func37 (by kernel_rfl) rfl #[.string a0, .int .i64 (wrap64 (x6_1 + 1)), .string (⟨#[34, 10]⟩ : ByteArray)] rfl (by (try simp only [List.map_toArray, List.map_cons, List.map_nil]); first | done | rfl | (simp only [List.length_drop, List.length_take]; rfl)) ?_; (with_reducible refine (cupelref04_Until.calls k1 a0 (wrap64 (x6_1 + 1)) (⟨#[34, 10]⟩ : ByteArray) t144 _ A43.out).mono ?_); rintro e w' ⟨rfl, ⟨nd, rfl⟩⟩; refine ⟨_, rfl, ?_⟩; have p46 : 0 ≤ (t144 : Int) := of_decide_eq_true (by first | (with_reducible assumption) | assumption); have q46 : t144 < (a0.size : Int) := of_decide_eq_true (by first | (with_reducible assumption) | assumption); have hx46 := bt_at a0 t144; replace p46 := eq_true p46; replace q46 := eq_true q46) | ((with_reducible refine gate_builtin (b := .append) (xs := #[.tmp 101, .tmp 104]) rfl ?_); (try (refine gate_guard (by rfl) ?_; dsimp only)); at_builtin; refine Kd.R_append k85 (w0 := w) w.heap.size rfl (.tmp 101) (.tmp 104) 66 85 (.agg #[(.int .i64 0), (.int .i64 0), (.string ⟨#[]⟩)]) 32 rfl Try.underlying66 info85 rfl (by decide) (by omega) u5 x5_1 (⟨x6_1, 1, (⟨#[]⟩ : ByteArray)⟩ : S85) [.int .i64 x6_1, .int .i64 1, .string (⟨#[]⟩ : ByteArray)] (fun _ => True) (fun _ => False) rfl rfl ?aP (fun _ hk => hk.elim) ?aF ?aO ?aB ?aS ?aL ?_; (case aP => exact k85_mkM _ _ _ (⟨x6_1, 1, (⟨#[]⟩ : ByteArray)⟩ : S85)); (case aB => exact (by repeat (first | (with_reducible first | exact HB.out | apply below_alloc | apply pw_below_drewN | apply below_drew1) | exact HB.out))); (case aF => exact (fun _ _ => trivial)); (case aO => exact (by (with_reducible repeat (first | apply Kd.R_alloc | apply Kd.R_drewN | apply Kd.R_drew)); exact HO_5.out)); (case aS => exact (below_size (by repeat (first | (with_reducible first | exact HB.out | apply below_alloc | apply pw_below_drewN | apply below_drew1) | exact HB.out)))); (case aL => have := LMc54.out; omega); intro v149 w55 ho hb hg hat; rw [← Ny148.out] at ho; have n0_ := Aside0.mk (Kd.R_over' (by (with_reducible repeat (first | apply Kd.R_alloc | apply Kd.R_drewN | apply Kd.R_drew)); exact HO_4.out) (Kd.R_typed (by (with_reducible repeat (first | apply Kd.R_alloc | apply Kd.R_drewN | apply Kd.R_drew)); exact HO_5.out)) (by decide) hg); have n1_ := Aside0.mk (hb); have n2_ := Aside0.mk (ho); clear HO_4; clear HB; clear HO_5; have HO_4 := n0_; have HB := n1_; have HO150 := n2_; clear n0_ n1_ n2_; clear ho hb hg hat))
                            go_roundg k1
                            case measure => have := HK1.out; omega
                            case rel => exact ⟨(x4_1), (y148), (t144), (by first | rfl | (simp; done) | (simp [*]; done)), H', ⟨by have := HK1.out; omega⟩, ⟨by (with_reducible repeat (first | apply Kd.R_alloc | apply Kd.R_drewN | apply Kd.R_drew)); exact HO_4.out⟩, ⟨by (with_reducible repeat (first | apply Kd.R_alloc | apply Kd.R_drewN | apply Kd.R_drew)); exact HO150.out⟩, ⟨by repeat (first | (with_reducible first | exact HB.out | apply below_alloc | apply pw_below_drewN | apply below_drew1) | exact HB.out)⟩⟩
                          · rw [if_neg c54] at H
                            exact absurd H (by simp)
                      · rw [if_neg c45] at H
                        exact absurd H (by simp)
                    · rw [if_neg c44] at H
                      have c44b0 : decide (t144 < (a0.size : Int)) = false := decide_eq_false c44
                      clear c44
                      by_cases c56 : x5_1.length < 4398046511104
                      · rw [if_pos c56] at H
                        have LMc56 := Aside0.mk c56
                        clear c56
                        obtain ⟨y151, hy151⟩ : ∃ y_ : List (S85), y_ = (x5_1 ++ [(⟨x6_1, 1, (⟨#[]⟩ : ByteArray)⟩ : S85)]) := ⟨_, rfl⟩
                        replace H : (cupelref04_Lex.l0 k1 a0 x4_1 y151 t144) = some (r1, r2) := by first | (rw [hy151]; with_reducible exact H) | (have H2_ := (Option.bind_some _ _).symm.trans H; rw [hy151]; with_reducible exact H2_) | (have H2_ := (Option.bind_some _ _).symm.trans H; with_reducible exact H2_) | with_reducible exact H | (rw [hy151]; exact H) | exact H
                        have Ny151 := Aside0.mk hy151
                        clear hy151
                        have H' := Aside0.mk H
                        clear H
                        have p4 : 0 ≤ (x6_1 : Int) := of_decide_eq_true (by first | (with_reducible assumption) | assumption)
                        have q4 : x6_1 < (a0.size : Int) := of_decide_eq_true (by first | (with_reducible assumption) | assumption)
                        have hx4 := bt_at a0 x6_1
                        replace p4 := eq_true p4
                        replace q4 := eq_true q4
                        go_wp2_with (first | ((with_reducible refine gate_callee (f := 36) rfl ?_); refine goesL_ (some 21) rfl rfl Try.func36 (by kernel_rfl) rfl #[.int .u8 (bt a0 x6_1), .string (⟨#[32, 9, 10, 13]⟩ : ByteArray)] rfl (by (try simp only [List.map_toArray, List.map_cons, List.map_nil]); first | done | rfl | (simp only [List.length_drop, List.length_take]; rfl)) ?_; (with_reducible refine (cupelref04_In.calls k1 (bt a0 x6_1) (⟨#[32, 9, 10, 13]⟩ : ByteArray) false _ A5.out).mono ?_); rintro e w' ⟨rfl, ⟨nd, rfl⟩⟩; refine ⟨_, rfl, ?_⟩) | ((with_reducible refine gate_callee (f := 36) rfl ?_); refine goesL_ (some 30) rfl rfl Try.func36 (by kernel_rfl) rfl #[.int .u8 (bt a0 x6_1), .string (⟨#[97, 98, 99, 100, 101, 102, 103, 104, 105, 106, 107, 108, 109, 110, 111, 112, 113, 114, 115, 116, 117, 118, 119, 120, 121, 122, 95]⟩ : ByteArray)] rfl (by (try simp only [List.map_toArray, List.map_cons, List.map_nil]); first | done | rfl | (simp only [List.length_drop, List.length_take]; rfl)) ?_; (with_reducible refine (cupelref04_In.calls k1 (bt a0 x6_1) (⟨#[97, 98, 99, 100, 101, 102, 103, 104, 105, 106, 107, 108, 109, 110, 111, 112, 113, 114, 115, 116, 117, 118, 119, 120, 121, 122, 95]⟩ : ByteArray) false _ A9.out).mono ?_); rintro e w' ⟨rfl, ⟨nd, rfl⟩⟩; refine ⟨_, rfl, ?_⟩) | ((with_reducible refine gate_callee (f := 36) rfl ?_); refine goesL_ (some 50) rfl rfl Try.func36 (by kernel_rfl) rfl #[.int .u8 (bt a0 x6_1), .string (⟨#[48, 49, 50, 51, 52, 53, 54, 55, 56, 57]⟩ : ByteArray)] rfl (by (try simp only [List.map_toArray, List.map_cons, List.map_nil]); first | done | rfl | (simp only [List.length_drop, List.length_take]; rfl)) ?_; (with_reducible refine (cupelref04_In.calls k1 (bt a0 x6_1) (⟨#[48, 49, 50, 51, 52, 53, 54, 55, 56, 57]⟩ : ByteArray) false _ A29.out).mono ?_); rintro e w' ⟨rfl, ⟨nd, rfl⟩⟩; refine ⟨_, rfl, ?_⟩) | ((with_reducible refine gate_callee (f := 37) rfl ?_); refine goesL_ (some 78) rfl rfl Try.func37 (by kernel_rfl) rfl #[.string a0, .int .i64 (wrap64 (x6_1 + 1)), .string (⟨#[34, 10]⟩ : ByteArray)] rfl (by (try simp only [List.map_toArray, List.map_cons, List.map_nil]); first | done | rfl | (simp only [List.length_drop, List.length_take]; rfl)) ?_; (with_reducible refine (cupelref04_Until.calls k1 a0 (wrap64 (x6_1 + 1)) (⟨#[34, 10]⟩ : ByteArray) t144 _ A43.out).mono ?_); rintro e w' ⟨rfl, ⟨nd, rfl⟩⟩; refine ⟨_, rfl, ?_⟩) | ((with_reducible refine gate_builtin (b := .append) (xs := #[.tmp 101, .tmp 104]) rfl ?_); (try (refine gate_guard (by rfl) ?_; dsimp only)); at_builtin; refine Kd.R_append k85 (w0 := w) w.heap.size rfl (.tmp 101) (.tmp 104) 66 85 (.agg #[(.int .i64 0), (.int .i64 0), (.string ⟨#[]⟩)]) 32 rfl Try.underlying66 info85 rfl (by decide) (by omega) u5 x5_1 (⟨x6_1, 1, (⟨#[]⟩ : ByteArray)⟩ : S85) [.int .i64 x6_1, .int .i64 1, .string (⟨#[]⟩ : ByteArray)] (fun _ => True) (fun _ => False) rfl rfl ?aP (fun _ hk => hk.elim) ?aF ?aO ?aB ?aS ?aL ?_; (case aP => exact k85_mkM _ _ _ (⟨x6_1, 1, (⟨#[]⟩ : ByteArray)⟩ : S85)); (case aB => exact (by repeat (first | (with_reducible first | exact HB.out | apply below_alloc | apply pw_below_drewN | apply below_drew1) | exact HB.out))); (case aF => exact (fun _ _ => trivial)); (case aO => exact (by (with_reducible repeat (first | apply Kd.R_alloc | apply Kd.R_drewN | apply Kd.R_drew)); exact HO_5.out)); (case aS => exact (below_size (by repeat (first | (with_reducible first | exact HB.out | apply below_alloc | apply pw_below_drewN | apply below_drew1) | exact HB.out)))); (case aL => have := LMc56.out; omega); intro v152 w57 ho hb hg hat; rw [← Ny151.out] at ho; have n0_ := Aside0.mk (Kd.R_over' (by (with_reducible repeat (first | apply Kd.R_alloc | apply Kd.R_drewN | apply Kd.R_drew)); exact HO_4.out) (Kd.R_typed (by (with_reducible repeat (first | apply Kd.R_alloc | apply Kd.R_drewN | apply Kd.R_drew)); exact HO_5.out)) (by decide) hg); have n1_ := Aside0.mk (hb); have n2_ := Aside0.mk (ho); clear HO_4; clear HB; clear HO_5; have HO_4 := n0_; have HB := n1_; have HO153 := n2_; clear n0_ n1_ n2_; clear ho hb hg hat))
                        go_roundg k1
                        case measure => have := HK1.out; omega
                        case rel => exact ⟨(x4_1), (y151), (t144), (by first | rfl | (simp; done) | (simp [*]; done)), H', ⟨by have := HK1.out; omega⟩, ⟨by (with_reducible repeat (first | apply Kd.R_alloc | apply Kd.R_drewN | apply Kd.R_drew)); exact HO_4.out⟩, ⟨by (with_reducible repeat (first | apply Kd.R_alloc | apply Kd.R_drewN | apply Kd.R_drew)); exact HO153.out⟩, ⟨by repeat (first | (with_reducible first | exact HB.out | apply below_alloc | apply pw_below_drewN | apply below_drew1) | exact HB.out)⟩⟩
                      · rw [if_neg c56] at H
                        exact absurd H (by simp)
                  · rw [if_neg c42] at H
                    have c42b0 : ((bt a0 x6_1) == 34) = false := beq_eq_false_iff_ne.mpr c42
                    have c42b1 : ((bt a0 x6_1) != 34) = true := bne_iff_ne.mpr c42
                    have HC58 := Aside0.mk H
                    clear H
                    have p4 : 0 ≤ (x6_1 : Int) := of_decide_eq_true (by first | (with_reducible assumption) | assumption)
                    have q4 : x6_1 < (a0.size : Int) := of_decide_eq_true (by first | (with_reducible assumption) | assumption)
                    have hx4 := bt_at a0 x6_1
                    replace p4 := eq_true p4
                    replace q4 := eq_true q4
                    go_upto_region 30 with (first | ((with_reducible refine gate_callee (f := 36) rfl ?_); refine goesL_ (some 21) rfl rfl Try.func36 (by kernel_rfl) rfl #[.int .u8 (bt a0 x6_1), .string (⟨#[32, 9, 10, 13]⟩ : ByteArray)] rfl (by (try simp only [List.map_toArray, List.map_cons, List.map_nil]); first | done | rfl | (simp only [List.length_drop, List.length_take]; rfl)) ?_; (with_reducible refine (cupelref04_In.calls k1 (bt a0 x6_1) (⟨#[32, 9, 10, 13]⟩ : ByteArray) false _ A5.out).mono ?_); rintro e w' ⟨rfl, ⟨nd, rfl⟩⟩; refine ⟨_, rfl, ?_⟩) | ((with_reducible refine gate_callee (f := 36) rfl ?_); refine goesL_ (some 30) rfl rfl Try.func36 (by kernel_rfl) rfl #[.int .u8 (bt a0 x6_1), .string (⟨#[97, 98, 99, 100, 101, 102, 103, 104, 105, 106, 107, 108, 109, 110, 111, 112, 113, 114, 115, 116, 117, 118, 119, 120, 121, 122, 95]⟩ : ByteArray)] rfl (by (try simp only [List.map_toArray, List.map_cons, List.map_nil]); first | done | rfl | (simp only [List.length_drop, List.length_take]; rfl)) ?_; (with_reducible refine (cupelref04_In.calls k1 (bt a0 x6_1) (⟨#[97, 98, 99, 100, 101, 102, 103, 104, 105, 106, 107, 108, 109, 110, 111, 112, 113, 114, 115, 116, 117, 118, 119, 120, 121, 122, 95]⟩ : ByteArray) false _ A9.out).mono ?_); rintro e w' ⟨rfl, ⟨nd, rfl⟩⟩; refine ⟨_, rfl, ?_⟩) | ((with_reducible refine gate_callee (f := 36) rfl ?_); refine goesL_ (some 50) rfl rfl Try.func36 (by kernel_rfl) rfl #[.int .u8 (bt a0 x6_1), .string (⟨#[48, 49, 50, 51, 52, 53, 54, 55, 56, 57]⟩ : ByteArray)] rfl (by (try simp only [List.map_toArray, List.map_cons, List.map_nil]); first | done | rfl | (simp only [List.length_drop, List.length_take]; rfl)) ?_; (with_reducible refine (cupelref04_In.calls k1 (bt a0 x6_1) (⟨#[48, 49, 50, 51, 52, 53, 54, 55, 56, 57]⟩ : ByteArray) false _ A29.out).mono ?_); rintro e w' ⟨rfl, ⟨nd, rfl⟩⟩; refine ⟨_, rfl, ?_⟩))
                    (try simp only [Act.put, List.setIfInBounds_toArray, List.set_cons_zero, List.set_cons_succ])
                    go_cut [119] (fun v119 wc => ∃ (kq : Nat) (x119_57 : Bool), v119 = .bool x119_57 ∧ Aside0 (cupelref04_Lex.j1 kq a0 x4_1 x5_1 x6_1 (bt a0 x6_1) (wrap64 (x6_1 + 1)) x119_57 = some (r1, r2)) ∧ Aside0 (kq ≤ k1) ∧ Aside0 (Kd.R k70 70 wc w.heap.size (fun _ => True) u4 x4_1) ∧ Aside0 (Kd.R k85 85 wc w.heap.size (fun _ => True) u5 x5_1) ∧ Aside0 (Below w.heap.size w wc))
                    case first =>
                      have H := HC58.out
                      clear HC58
                      by_cases c59 : (bt a0 x6_1) = 45
                      · rw [if_pos c59] at H
                        have c59b0 : ((bt a0 x6_1) == 45) = true := beq_iff_eq.mpr c59
                        have c59b1 : ((bt a0 x6_1) != 45) = false := bne_eq_false_iff_eq.mpr c59
                        clear c59
                        (first | rw [c59b0] | (simp only [i64_w, i32_w]; rw [c59b0]) | skip)
                        by_cases c60 : (wrap64 (x6_1 + 1)) < (a0.size : Int)
                        · rw [if_pos c60] at H
                          have c60b0 : decide ((wrap64 (x6_1 + 1)) < (a0.size : Int)) = true := decide_eq_true c60
                          clear c60
                          obtain ⟨ji61, hji61⟩ : ∃ j_ : Int, (wrap64 (x6_1 + 1)) = j_ := ⟨_, rfl⟩
                          replace H : (if 0 ≤ (ji61) then (cupelref04_Lex.j1 k1 a0 x4_1 x5_1 x6_1 (bt a0 x6_1) ji61 ((bt a0 (ji61)) == 62)) else (none)) = some (r1, r2) := by first | (rw [hji61] at H; exact H) | (simp only [hji61] at H ⊢; exact H)
                          (try rw [hji61] at c60b0)
                          have hji61w : (IntKind.i64.wrap (x6_1 + 1)) = ji61 := (i64_w _).trans hji61
                          by_cases c62 : 0 ≤ (ji61)
                          · rw [if_pos c62] at H
                            have c62b0 : decide (0 ≤ (ji61)) = true := decide_eq_true c62
                            clear c62
                            have H' := Aside0.mk H
                            clear H
                            have p63 : 0 ≤ ((ji61) : Int) := of_decide_eq_true (by first | (with_reducible assumption) | assumption)
                            have q63 : (ji61) < (a0.size : Int) := of_decide_eq_true (by first | (with_reducible assumption) | assumption)
                            have hx63 := bt_at a0 (ji61)
                            replace p63 := eq_true p63
                            replace q63 := eq_true q63
                            go_wp2
                            subst hji61
                            go_meet
                            case rel => exact ⟨_, (((bt a0 ((wrap64 (x6_1 + 1)))) == 62)), (by first | rfl | (simp; done) | (simp only [← hji61] <;> (first | rfl | simp)) | (simp [*]; done)), H', ⟨by have := HK1.out; first | omega | exact Nat.le_refl _⟩, ⟨by (with_reducible repeat (first | apply Kd.R_alloc | apply Kd.R_drewN | apply Kd.R_drew)); exact HO_4.out⟩, ⟨by (with_reducible repeat (first | apply Kd.R_alloc | apply Kd.R_drewN | apply Kd.R_drew)); exact HO_5.out⟩, ⟨by repeat (first | (with_reducible first | exact HB.out | apply below_alloc | apply pw_below_drewN | apply below_drew1) | exact HB.out)⟩⟩
                          · rw [if_neg c62] at H
                            exact absurd H (by simp)
                        · rw [if_neg c60] at H
                          have c60b0 : decide ((wrap64 (x6_1 + 1)) < (a0.size : Int)) = false := decide_eq_false c60
                          clear c60
                          have H' := Aside0.mk H
                          clear H
                          go_wp2
                          go_meet
                          case rel => exact ⟨_, (false), (by first | rfl | (simp; done) | (simp [*]; done)), H', ⟨by have := HK1.out; first | omega | exact Nat.le_refl _⟩, ⟨by (with_reducible repeat (first | apply Kd.R_alloc | apply Kd.R_drewN | apply Kd.R_drew)); exact HO_4.out⟩, ⟨by (with_reducible repeat (first | apply Kd.R_alloc | apply Kd.R_drewN | apply Kd.R_drew)); exact HO_5.out⟩, ⟨by repeat (first | (with_reducible first | exact HB.out | apply below_alloc | apply pw_below_drewN | apply below_drew1) | exact HB.out)⟩⟩
                      · rw [if_neg c59] at H
                        have c59b0 : ((bt a0 x6_1) == 45) = false := beq_eq_false_iff_ne.mpr c59
                        have c59b1 : ((bt a0 x6_1) != 45) = true := bne_iff_ne.mpr c59
                        (first | rw [c59b0] | (simp only [i64_w, i32_w]; rw [c59b0]) | skip)
                        have H' := Aside0.mk H
                        clear H
                        go_wp2
                        go_meet
                        case rel => exact ⟨_, (false), (by first | rfl | (simp; done) | (simp [*]; done)), H', ⟨by have := HK1.out; first | omega | exact Nat.le_refl _⟩, ⟨by (with_reducible repeat (first | apply Kd.R_alloc | apply Kd.R_drewN | apply Kd.R_drew)); exact HO_4.out⟩, ⟨by (with_reducible repeat (first | apply Kd.R_alloc | apply Kd.R_drewN | apply Kd.R_drew)); exact HO_5.out⟩, ⟨by repeat (first | (with_reducible first | exact HB.out | apply below_alloc | apply pw_below_drewN | apply below_drew1) | exact HB.out)⟩⟩
                    case rest =>
                      clear HC58
                      try clear c1
                      try clear c2
                      try clear c2b0
                      try clear p2
                      try clear c3
                      try clear c3b0
                      try clear c4
                      try clear p4
                      try clear q4
                      try clear hx4
                      try clear c5
                      try clear c6
                      try clear p6
                      try clear q6
                      try clear hx6
                      try clear c7
                      try clear c7b0
                      try clear c7b1
                      try clear c10
                      try clear c12
                      try clear c12b0
                      try clear c13
                      try clear c13b0
                      try clear c13b1
                      try clear c14
                      try clear c14b0
                      try clear c14b1
                      try clear c16
                      try clear c17
                      try clear c17b0
                      try clear c18
                      try clear c18b0
                      try clear c19
                      try clear c19b0
                      try clear c20
                      try clear c23
                      try clear c23b0
                      try clear c24
                      try clear c24b0
                      try clear c25
                      try clear c25b0
                      try clear c26
                      try clear c30
                      try clear c32
                      try clear c32b0
                      try clear c33
                      try clear c33b0
                      try clear c33b1
                      try clear c34
                      try clear c34b0
                      try clear c34b1
                      try clear c35
                      try clear c35b0
                      try clear c36
                      try clear c37
                      try clear c38
                      try clear c39
                      try clear c40
                      try clear c42
                      try clear c42b0
                      try clear c42b1
                      try clear c44
                      try clear c44b0
                      try clear c45
                      try clear c45b0
                      try clear p46
                      try clear q46
                      try clear hx46
                      try clear c47
                      try clear c47b0
                      try clear c47b1
                      try clear c49
                      try clear c49b0
                      try clear c49b1
                      try clear c50
                      try clear c50b0
                      try clear c50b1
                      try clear c51
                      try clear c51b0
                      try clear c51b1
                      try clear c52
                      try clear c54
                      try clear c56
                      try clear c59
                      try clear c59b0
                      try clear c59b1
                      try clear c60
                      try clear c60b0
                      try clear c62
                      try clear c62b0
                      try clear p63
                      try clear q63
                      try clear hx63
                      try clear p4
                      try clear p46
                      try clear p63
                      try clear q4
                      try clear q46
                      try clear q63
                      obtain ⟨kq, x119_57, rfl, HA, HJ57, HO_4, HO_5, HB⟩ := hcut
                      cases kq with
                      | zero => exact absurd HA.out (by simp [cupelref04_Lex.j1])
                      | succ kj57 =>
                        have H := HA.out
                        clear HA
                        simp only [cupelref04_Lex.j1] at H
                        by_cases c64 : x119_57 = true
                        · subst c64
                          have H1 : (if x4_1.length < 4398046511104 then (cupelref04_Lex.l0 kj57 a0 (x4_1 ++ [(⟨5, x6_1, (⟨#[45, 62]⟩ : ByteArray)⟩ : S70)]) x5_1 (wrap64 ((wrap64 (x6_1 + 1)) + 1))) else (none)) = some (r1, r2) := by rw [if_pos rfl] at H; exact H
                          clear H
                          have H := H1
                          clear H1
                          by_cases c65 : x4_1.length < 4398046511104
                          · rw [if_pos c65] at H
                            have LMc65 := Aside0.mk c65
                            clear c65
                            obtain ⟨y154, hy154⟩ : ∃ y_ : List (S70), y_ = (x4_1 ++ [(⟨5, x6_1, (⟨#[45, 62]⟩ : ByteArray)⟩ : S70)]) := ⟨_, rfl⟩
                            replace H : (cupelref04_Lex.l0 kj57 a0 y154 x5_1 (wrap64 ((wrap64 (x6_1 + 1)) + 1))) = some (r1, r2) := by first | (rw [hy154]; with_reducible exact H) | (have H2_ := (Option.bind_some _ _).symm.trans H; rw [hy154]; with_reducible exact H2_) | (have H2_ := (Option.bind_some _ _).symm.trans H; with_reducible exact H2_) | with_reducible exact H | (rw [hy154]; exact H) | exact H
                            have Ny154 := Aside0.mk hy154
                            clear hy154
                            have H' := Aside0.mk H
                            clear H
                            go_wp2_with (first | ((with_reducible refine gate_builtin (b := .append) (xs := #[.tmp 122, .tmp 125]) rfl ?_); (try (refine gate_guard (by rfl) ?_; dsimp only)); at_builtin; refine Kd.R_append k70 (w0 := w) w.heap.size rfl (.tmp 122) (.tmp 125) 65 70 (.agg #[(.int .i64 0), (.int .i64 0), (.string ⟨#[]⟩)]) 32 rfl Try.underlying65 info70 rfl (by decide) (by omega) u4 x4_1 (⟨5, x6_1, (⟨#[45, 62]⟩ : ByteArray)⟩ : S70) [.int .i64 5, .int .i64 x6_1, .string (⟨#[45, 62]⟩ : ByteArray)] (fun _ => True) (fun _ => False) rfl rfl ?aP (fun _ hk => hk.elim) ?aF ?aO ?aB ?aS ?aL ?_; (case aP => exact k70_mkM _ _ _ (⟨5, x6_1, (⟨#[45, 62]⟩ : ByteArray)⟩ : S70)); (case aB => exact (by repeat (first | (with_reducible first | exact HB.out | apply below_alloc | apply pw_below_drewN | apply below_drew1) | exact HB.out))); (case aF => exact (fun _ _ => trivial)); (case aO => exact (by (with_reducible repeat (first | apply Kd.R_alloc | apply Kd.R_drewN | apply Kd.R_drew)); exact HO_4.out)); (case aS => exact (below_size (by repeat (first | (with_reducible first | exact HB.out | apply below_alloc | apply pw_below_drewN | apply below_drew1) | exact HB.out)))); (case aL => have := LMc65.out; omega); intro v155 w66 ho hb hg hat; rw [← Ny154.out] at ho; have n0_ := Aside0.mk (Kd.R_over' (by (with_reducible repeat (first | apply Kd.R_alloc | apply Kd.R_drewN | apply Kd.R_drew)); exact HO_5.out) (Kd.R_typed (by (with_reducible repeat (first | apply Kd.R_alloc | apply Kd.R_drewN | apply Kd.R_drew)); exact HO_4.out)) (by decide) hg); have n1_ := Aside0.mk (hb); have n2_ := Aside0.mk (ho); clear HO_5; clear HB; clear HO_4; have HO_5 := n0_; have HB := n1_; have HO156 := n2_; clear n0_ n1_ n2_; clear ho hb hg hat))
                            go_roundg kj57
                            case measure => have := HK1.out; have := HJ57.out; omega
                            case rel => exact ⟨(y154), (x5_1), (wrap64 ((wrap64 (x6_1 + 1)) + 1)), (by first | rfl | (simp; done) | (simp [*]; done)), H', ⟨by have := HK1.out; have := HJ57.out; omega⟩, ⟨by (with_reducible repeat (first | apply Kd.R_alloc | apply Kd.R_drewN | apply Kd.R_drew)); exact HO156.out⟩, ⟨by (with_reducible repeat (first | apply Kd.R_alloc | apply Kd.R_drewN | apply Kd.R_drew)); exact HO_5.out⟩, ⟨by repeat (first | (with_reducible first | exact HB.out | apply below_alloc | apply pw_below_drewN | apply below_drew1) | exact HB.out)⟩⟩
                          · rw [if_neg c65] at H
                            exact absurd H (by simp)
                        · replace c64 := Bool.eq_false_iff.mpr c64
                          subst c64
                          have H1 : ((cupelref04_In.f kj57 (bt a0 x6_1) (⟨#[61, 58, 59, 44, 46, 40, 41, 123, 125, 124, 63]⟩ : ByteArray)).bind fun t157 => (if t157 = true then (if 0 ≤ x6_1 then (if x6_1 ≤ (wrap64 (x6_1 + 1)) then (if (wrap64 (x6_1 + 1)) ≤ (a0.size : Int) then (if x4_1.length < 4398046511104 then (cupelref04_Lex.l0 kj57 a0 (x4_1 ++ [(⟨5, x6_1, a0.extract (x6_1 : Int).toNat ((wrap64 (x6_1 + 1)) : Int).toNat⟩ : S70)]) x5_1 (wrap64 (x6_1 + 1))) else (none)) else (none)) else (none)) else (none)) else (if x5_1.length < 4398046511104 then (cupelref04_Lex.l0 kj57 a0 x4_1 (x5_1 ++ [(⟨x6_1, 1, (⟨#[]⟩ : ByteArray)⟩ : S85)]) (wrap64 (x6_1 + 1))) else (none)))) = some (r1, r2) := by rw [if_neg (show ¬ (false = true) by decide)] at H; exact H
                          clear H
                          have H := H1
                          clear H1
                          replace H := Option.bind_eq_some_iff.mp H
                          obtain ⟨t157, A670, H⟩ := H
                          replace H : (if t157 = true then (if 0 ≤ x6_1 then (if x6_1 ≤ (wrap64 (x6_1 + 1)) then (if (wrap64 (x6_1 + 1)) ≤ (a0.size : Int) then (if x4_1.length < 4398046511104 then (cupelref04_Lex.l0 kj57 a0 (x4_1 ++ [(⟨5, x6_1, a0.extract (x6_1 : Int).toNat ((wrap64 (x6_1 + 1)) : Int).toNat⟩ : S70)]) x5_1 (wrap64 (x6_1 + 1))) else (none)) else (none)) else (none)) else (none)) else (if x5_1.length < 4398046511104 then (cupelref04_Lex.l0 kj57 a0 x4_1 (x5_1 ++ [(⟨x6_1, 1, (⟨#[]⟩ : ByteArray)⟩ : S85)]) (wrap64 (x6_1 + 1))) else (none))) = some (r1, r2) := H
                          have A67 := Aside0.mk A670
                          clear A670
                          by_cases c68 : t157 = true
                          · subst c68
                            have H1 : (if 0 ≤ x6_1 then (if x6_1 ≤ (wrap64 (x6_1 + 1)) then (if (wrap64 (x6_1 + 1)) ≤ (a0.size : Int) then (if x4_1.length < 4398046511104 then (cupelref04_Lex.l0 kj57 a0 (x4_1 ++ [(⟨5, x6_1, a0.extract (x6_1 : Int).toNat ((wrap64 (x6_1 + 1)) : Int).toNat⟩ : S70)]) x5_1 (wrap64 (x6_1 + 1))) else (none)) else (none)) else (none)) else (none)) = some (r1, r2) := by rw [if_pos rfl] at H; exact H
                            clear H
                            have H := H1
                            clear H1
                            by_cases c69 : 0 ≤ x6_1
                            · rw [if_pos c69] at H
                              have c69b0 := eq_true c69
                              have c69b1 : decide (0 ≤ x6_1) = true := decide_eq_true c69
                              clear c69
                              by_cases c70 : x6_1 ≤ (wrap64 (x6_1 + 1))
                              · rw [if_pos c70] at H
                                have c70b0 := eq_true c70
                                have c70b1 : decide (x6_1 ≤ (wrap64 (x6_1 + 1))) = true := decide_eq_true c70
                                by_cases c71 : (wrap64 (x6_1 + 1)) ≤ (a0.size : Int)
                                · rw [if_pos c71] at H
                                  have c71b0 := eq_true c71
                                  have c71b1 : decide ((wrap64 (x6_1 + 1)) ≤ (a0.size : Int)) = true := decide_eq_true c71
                                  by_cases c72 : x4_1.length < 4398046511104
                                  · rw [if_pos c72] at H
                                    have LMc72 := Aside0.mk c72
                                    clear c72
                                    obtain ⟨y158, hy158⟩ : ∃ y_ : List (S70), y_ = (x4_1 ++ [(⟨5, x6_1, a0.extract (x6_1 : Int).toNat ((wrap64 (x6_1 + 1)) : Int).toNat⟩ : S70)]) := ⟨_, rfl⟩
                                    replace H : (cupelref04_Lex.l0 kj57 a0 y158 x5_1 (wrap64 (x6_1 + 1))) = some (r1, r2) := by first | (rw [hy158]; with_reducible exact H) | (have H2_ := (Option.bind_some _ _).symm.trans H; rw [hy158]; with_reducible exact H2_) | (have H2_ := (Option.bind_some _ _).symm.trans H; with_reducible exact H2_) | with_reducible exact H | (rw [hy158]; exact H) | exact H
                                    have Ny158 := Aside0.mk hy158
                                    clear hy158
                                    have H' := Aside0.mk H
                                    clear H
                                    go_wp2_with (first | ((with_reducible refine gate_callee (f := 36) rfl ?_); refine goesL_ (some 128) rfl rfl Try.func36 (by kernel_rfl) rfl #[.int .u8 (bt a0 x6_1), .string (⟨#[61, 58, 59, 44, 46, 40, 41, 123, 125, 124, 63]⟩ : ByteArray)] rfl (by (try simp only [List.map_toArray, List.map_cons, List.map_nil]); first | done | rfl | (simp only [List.length_drop, List.length_take]; rfl)) ?_; (with_reducible refine (cupelref04_In.calls kj57 (bt a0 x6_1) (⟨#[61, 58, 59, 44, 46, 40, 41, 123, 125, 124, 63]⟩ : ByteArray) true _ A67.out).mono ?_); rintro e w' ⟨rfl, ⟨nd, rfl⟩⟩; refine ⟨_, rfl, ?_⟩) | ((with_reducible refine gate_builtin (b := .append) (xs := #[.tmp 129, .tmp 136]) rfl ?_); (try (refine gate_guard (by rfl) ?_; dsimp only)); at_builtin; refine Kd.R_append k70 (w0 := w) w.heap.size rfl (.tmp 129) (.tmp 136) 65 70 (.agg #[(.int .i64 0), (.int .i64 0), (.string ⟨#[]⟩)]) 32 rfl Try.underlying65 info70 rfl (by decide) (by omega) u4 x4_1 (⟨5, x6_1, a0.extract (x6_1 : Int).toNat ((wrap64 (x6_1 + 1)) : Int).toNat⟩ : S70) [.int .i64 5, .int .i64 x6_1, .string (a0.extract (x6_1 : Int).toNat ((wrap64 (x6_1 + 1)) : Int).toNat)] (fun _ => True) (fun _ => False) rfl rfl ?aP (fun _ hk => hk.elim) ?aF ?aO ?aB ?aS ?aL ?_; (case aP => exact k70_mkM _ _ _ (⟨5, x6_1, a0.extract (x6_1 : Int).toNat ((wrap64 (x6_1 + 1)) : Int).toNat⟩ : S70)); (case aB => exact (by repeat (first | (with_reducible first | exact HB.out | apply below_alloc | apply pw_below_drewN | apply below_drew1) | exact HB.out))); (case aF => exact (fun _ _ => trivial)); (case aO => exact (by (with_reducible repeat (first | apply Kd.R_alloc | apply Kd.R_drewN | apply Kd.R_drew)); exact HO_4.out)); (case aS => exact (below_size (by repeat (first | (with_reducible first | exact HB.out | apply below_alloc | apply pw_below_drewN | apply below_drew1) | exact HB.out)))); (case aL => have := LMc72.out; omega); intro v159 w73 ho hb hg hat; rw [← Ny158.out] at ho; have n0_ := Aside0.mk (Kd.R_over' (by (with_reducible repeat (first | apply Kd.R_alloc | apply Kd.R_drewN | apply Kd.R_drew)); exact HO_5.out) (Kd.R_typed (by (with_reducible repeat (first | apply Kd.R_alloc | apply Kd.R_drewN | apply Kd.R_drew)); exact HO_4.out)) (by decide) hg); have n1_ := Aside0.mk (hb); have n2_ := Aside0.mk (ho); clear HO_5; clear HB; clear HO_4; have HO_5 := n0_; have HB := n1_; have HO160 := n2_; clear n0_ n1_ n2_; clear ho hb hg hat))
                                    go_roundg kj57
                                    case measure => have := HK1.out; have := HJ57.out; omega
                                    case rel => exact ⟨(y158), (x5_1), ((wrap64 (x6_1 + 1))), (by first | rfl | (simp; done) | (simp [*]; done)), H', ⟨by have := HK1.out; have := HJ57.out; omega⟩, ⟨by (with_reducible repeat (first | apply Kd.R_alloc | apply Kd.R_drewN | apply Kd.R_drew)); exact HO160.out⟩, ⟨by (with_reducible repeat (first | apply Kd.R_alloc | apply Kd.R_drewN | apply Kd.R_drew)); exact HO_5.out⟩, ⟨by repeat (first | (with_reducible first | exact HB.out | apply below_alloc | apply pw_below_drewN | apply below_drew1) | exact HB.out)⟩⟩
                                  · rw [if_neg c72] at H
                                    exact absurd H (by simp)
                                · rw [if_neg c71] at H
                                  exact absurd H (by simp)
                              · rw [if_neg c70] at H
                                exact absurd H (by simp)
                            · rw [if_neg c69] at H
                              exact absurd H (by simp)
                          · replace c68 := Bool.eq_false_iff.mpr c68
                            subst c68
                            have H1 : (if x5_1.length < 4398046511104 then (cupelref04_Lex.l0 kj57 a0 x4_1 (x5_1 ++ [(⟨x6_1, 1, (⟨#[]⟩ : ByteArray)⟩ : S85)]) (wrap64 (x6_1 + 1))) else (none)) = some (r1, r2) := by rw [if_neg (show ¬ (false = true) by decide)] at H; exact H
                            clear H
                            have H := H1
                            clear H1
                            by_cases c74 : x5_1.length < 4398046511104
                            · rw [if_pos c74] at H
                              have LMc74 := Aside0.mk c74
                              clear c74
                              obtain ⟨y161, hy161⟩ : ∃ y_ : List (S85), y_ = (x5_1 ++ [(⟨x6_1, 1, (⟨#[]⟩ : ByteArray)⟩ : S85)]) := ⟨_, rfl⟩
                              replace H : (cupelref04_Lex.l0 kj57 a0 x4_1 y161 (wrap64 (x6_1 + 1))) = some (r1, r2) := by first | (rw [hy161]; with_reducible exact H) | (have H2_ := (Option.bind_some _ _).symm.trans H; rw [hy161]; with_reducible exact H2_) | (have H2_ := (Option.bind_some _ _).symm.trans H; with_reducible exact H2_) | with_reducible exact H | (rw [hy161]; exact H) | exact H
                              have Ny161 := Aside0.mk hy161
                              clear hy161
                              have H' := Aside0.mk H
                              clear H
                              go_wp2_with (first | ((with_reducible refine gate_callee (f := 36) rfl ?_); refine goesL_ (some 128) rfl rfl Try.func36 (by kernel_rfl) rfl #[.int .u8 (bt a0 x6_1), .string (⟨#[61, 58, 59, 44, 46, 40, 41, 123, 125, 124, 63]⟩ : ByteArray)] rfl (by (try simp only [List.map_toArray, List.map_cons, List.map_nil]); first | done | rfl | (simp only [List.length_drop, List.length_take]; rfl)) ?_; (with_reducible refine (cupelref04_In.calls kj57 (bt a0 x6_1) (⟨#[61, 58, 59, 44, 46, 40, 41, 123, 125, 124, 63]⟩ : ByteArray) false _ A67.out).mono ?_); rintro e w' ⟨rfl, ⟨nd, rfl⟩⟩; refine ⟨_, rfl, ?_⟩) | ((with_reducible refine gate_builtin (b := .append) (xs := #[.tmp 138, .tmp 141]) rfl ?_); (try (refine gate_guard (by rfl) ?_; dsimp only)); at_builtin; refine Kd.R_append k85 (w0 := w) w.heap.size rfl (.tmp 138) (.tmp 141) 66 85 (.agg #[(.int .i64 0), (.int .i64 0), (.string ⟨#[]⟩)]) 32 rfl Try.underlying66 info85 rfl (by decide) (by omega) u5 x5_1 (⟨x6_1, 1, (⟨#[]⟩ : ByteArray)⟩ : S85) [.int .i64 x6_1, .int .i64 1, .string (⟨#[]⟩ : ByteArray)] (fun _ => True) (fun _ => False) rfl rfl ?aP (fun _ hk => hk.elim) ?aF ?aO ?aB ?aS ?aL ?_; (case aP => exact k85_mkM _ _ _ (⟨x6_1, 1, (⟨#[]⟩ : ByteArray)⟩ : S85)); (case aB => exact (by repeat (first | (with_reducible first | exact HB.out | apply below_alloc | apply pw_below_drewN | apply below_drew1) | exact HB.out))); (case aF => exact (fun _ _ => trivial)); (case aO => exact (by (with_reducible repeat (first | apply Kd.R_alloc | apply Kd.R_drewN | apply Kd.R_drew)); exact HO_5.out)); (case aS => exact (below_size (by repeat (first | (with_reducible first | exact HB.out | apply below_alloc | apply pw_below_drewN | apply below_drew1) | exact HB.out)))); (case aL => have := LMc74.out; omega); intro v162 w75 ho hb hg hat; rw [← Ny161.out] at ho; have n0_ := Aside0.mk (Kd.R_over' (by (with_reducible repeat (first | apply Kd.R_alloc | apply Kd.R_drewN | apply Kd.R_drew)); exact HO_4.out) (Kd.R_typed (by (with_reducible repeat (first | apply Kd.R_alloc | apply Kd.R_drewN | apply Kd.R_drew)); exact HO_5.out)) (by decide) hg); have n1_ := Aside0.mk (hb); have n2_ := Aside0.mk (ho); clear HO_4; clear HB; clear HO_5; have HO_4 := n0_; have HB := n1_; have HO163 := n2_; clear n0_ n1_ n2_; clear ho hb hg hat))
                              go_roundg kj57
                              case measure => have := HK1.out; have := HJ57.out; omega
                              case rel => exact ⟨(x4_1), (y161), ((wrap64 (x6_1 + 1))), (by first | rfl | (simp; done) | (simp [*]; done)), H', ⟨by have := HK1.out; have := HJ57.out; omega⟩, ⟨by (with_reducible repeat (first | apply Kd.R_alloc | apply Kd.R_drewN | apply Kd.R_drew)); exact HO_4.out⟩, ⟨by (with_reducible repeat (first | apply Kd.R_alloc | apply Kd.R_drewN | apply Kd.R_drew)); exact HO163.out⟩, ⟨by repeat (first | (with_reducible first | exact HB.out | apply below_alloc | apply pw_below_drewN | apply below_drew1) | exact HB.out)⟩⟩
                            · rw [if_neg c74] at H
                              exact absurd H (by simp)
        · rw [if_neg c3] at H
          exact absurd H (by simp)
      · rw [if_neg c2] at H
        have c2b0 : decide (x6_1 < (a0.size : Int)) = false := decide_eq_false c2
        clear c2
        by_cases c76 : x4_1.length < 4398046511104
        · rw [if_pos c76] at H
          have LMc76 := Aside0.mk c76
          clear c76
          obtain ⟨y119, hy119⟩ : ∃ y_ : List (S70), y_ = (x4_1 ++ [(⟨6, (a0.size : Int), (⟨#[]⟩ : ByteArray)⟩ : S70)]) := ⟨_, rfl⟩
          replace H : (some (y119, x5_1)) = some (r1, r2) := by first | (rw [hy119]; with_reducible exact H) | (have H2_ := (Option.bind_some _ _).symm.trans H; rw [hy119]; with_reducible exact H2_) | (have H2_ := (Option.bind_some _ _).symm.trans H; with_reducible exact H2_) | with_reducible exact H | (rw [hy119]; exact H) | exact H
          have Ny119 := Aside0.mk hy119
          clear hy119
          simp only [Option.some.injEq, Prod.mk.injEq] at H
          obtain ⟨rfl, rfl⟩ := H
          go_wp2_with (first | ((with_reducible refine gate_builtin (b := .append) (xs := #[.tmp 144, .tmp 148]) rfl ?_); (try (refine gate_guard (by rfl) ?_; dsimp only)); at_builtin; refine Kd.R_append k70 (w0 := w) w.heap.size rfl (.tmp 144) (.tmp 148) 65 70 (.agg #[(.int .i64 0), (.int .i64 0), (.string ⟨#[]⟩)]) 32 rfl Try.underlying65 info70 rfl (by decide) (by omega) u4 x4_1 (⟨6, (a0.size : Int), (⟨#[]⟩ : ByteArray)⟩ : S70) [.int .i64 6, .int .i64 (a0.size : Int), .string (⟨#[]⟩ : ByteArray)] (fun _ => True) (fun _ => False) rfl rfl ?aP (fun _ hk => hk.elim) ?aF ?aO ?aB ?aS ?aL ?_; (case aP => exact k70_mkM _ _ _ (⟨6, (a0.size : Int), (⟨#[]⟩ : ByteArray)⟩ : S70)); (case aB => exact (by repeat (first | (with_reducible first | exact HB.out | apply below_alloc | apply pw_below_drewN | apply below_drew1) | exact HB.out))); (case aF => exact (fun _ _ => trivial)); (case aO => exact (by (with_reducible repeat (first | apply Kd.R_alloc | apply Kd.R_drewN | apply Kd.R_drew)); exact HO_4.out)); (case aS => exact (below_size (by repeat (first | (with_reducible first | exact HB.out | apply below_alloc | apply pw_below_drewN | apply below_drew1) | exact HB.out)))); (case aL => have := LMc76.out; omega); intro v120 w77 ho hb hg hat; rw [← Ny119.out] at ho; have n0_ := Aside0.mk (Kd.R_over' (by (with_reducible repeat (first | apply Kd.R_alloc | apply Kd.R_drewN | apply Kd.R_drew)); exact HO_5.out) (Kd.R_typed (by (with_reducible repeat (first | apply Kd.R_alloc | apply Kd.R_drewN | apply Kd.R_drew)); exact HO_4.out)) (by decide) hg); have n1_ := Aside0.mk (hb); have n2_ := Aside0.mk (ho); clear HO_5; clear HB; clear HO_4; have HO_5 := n0_; have HB := n1_; have HO121 := n2_; clear n0_ n1_ n2_; clear ho hb hg hat))
          go_ret2
          exact ⟨_, _, by first | rfl | (simp [errW_none, errW_some] <;> rfl) | (simp [*, errW_none, errW_some] <;> rfl), by (with_reducible repeat (first | apply Kd.R_alloc | apply Kd.R_drewN | apply Kd.R_drew)); exact HO121.out, by (with_reducible repeat (first | apply Kd.R_alloc | apply Kd.R_drewN | apply Kd.R_drew)); exact HO_5.out, by repeat (first | (with_reducible first | exact HB.out | apply below_alloc | apply pw_below_drewN | apply below_drew1) | exact HB.out)⟩
        · rw [if_neg c76] at H
          exact absurd H (by simp)

/-! ### cupelref13_Name: function 11 -/
def cupelref13_Name.f (k : Nat) (a0 : ByteArray) : Option (Bool) := (cupelref04_Lex.f k a0).bind fun bt164 => (if (a0.size : Int) ≤ 32 then (if (bt164.1.length : Int) = 2 then (if 0 < (bt164.1.length : Int) then (if ((rd_T70 bt164.1 0).f0) = 1 then (some (((rd_T70 bt164.1 0).f2).toList == a0.toList)) else (some false)) else (none)) else (some false)) else (some false))
theorem cupelref13_Name.mono : ∀ a0 k, LeO (cupelref13_Name.f k a0) (cupelref13_Name.f (k + 1) a0) := by
  intro a0 k
  unfold cupelref13_Name.f
  repeat' first
      | (with_reducible exact cupelref04_Lex.mono _ _)
      | (with_reducible exact LeO.refl _)
      | (with_reducible exact LeO.none _)
      | (with_reducible refine LeO.ite ?_ ?_)
      | (with_reducible refine LeO.bind ?_ (fun _ => ?_))
      | exact cupelref04_Lex.mono _ _
      | exact LeO.none _
      | refine LeO.ite ?_ ?_
      | refine LeO.bind ?_ (fun _ => ?_)
set_option maxHeartbeats 8000000 in
set_option maxRecDepth 100000 in
theorem cupelref13_Name.calls (k : Nat) (a0 : ByteArray) (r : Bool) (w : World) (h : cupelref13_Name.f k a0 = some r) :
    Calls Try.prog 11 #[.string a0] w fun e w' => e = .returned (.bool r) ∧ Below w.heap.size w w' := by
  have HB := Aside0.mk (Below.refl w.heap.size w)
  have H : ((cupelref04_Lex.f k a0).bind fun bt164 => (if (a0.size : Int) ≤ 32 then (if (bt164.1.length : Int) = 2 then (if 0 < (bt164.1.length : Int) then (if ((rd_T70 bt164.1 0).f0) = 1 then (some (((rd_T70 bt164.1 0).f2).toList == a0.toList)) else (some false)) else (none)) else (some false)) else (some false))) = some r := h
  clear h
  replace H := Option.bind_eq_some_iff.mp H
  obtain ⟨⟨t164, t165⟩, A20, H⟩ := H
  replace H : (if (a0.size : Int) ≤ 32 then (if (t164.length : Int) = 2 then (if 0 < (t164.length : Int) then (if ((rd_T70 t164 0).f0) = 1 then (some (((rd_T70 t164 0).f2).toList == a0.toList)) else (some false)) else (none)) else (some false)) else (some false)) = some r := H
  have A2 := Aside0.mk A20
  clear A20
  by_cases c3 : (a0.size : Int) ≤ 32
  · rw [if_pos c3] at H
    have c3b0 : decide ((a0.size : Int) ≤ 32) = true := decide_eq_true c3
    have c3b1 : decide (a0.size ≤ 32) = true := decide_eq_true (by omega)
    clear c3
    by_cases c4 : (t164.length : Int) = 2
    · rw [if_pos c4] at H
      have c4b0 : ((t164.length : Int) == 2) = true := beq_iff_eq.mpr c4
      have c4b1 : ((t164.length : Int) != 2) = false := bne_eq_false_iff_eq.mpr c4
      clear c4
      by_cases c5 : 0 < (t164.length : Int)
      · rw [if_pos c5] at H
        have c5b0 : decide (0 < (t164.length : Int)) = true := decide_eq_true c5
        have c5b1 : decide (0 < t164.length) = true := decide_eq_true (by omega)
        clear c5
        by_cases c6 : ((rd_T70 t164 0).f0) = 1
        · rw [if_pos c6] at H
          have c6b0 : (((rd_T70 t164 0).f0) == 1) = true := beq_iff_eq.mpr c6
          have c6b1 : (((rd_T70 t164 0).f0) != 1) = false := bne_eq_false_iff_eq.mpr c6
          clear c6
          obtain rfl := Option.some.inj H
          go_enter Try.func11, Try.ntmps11
          go_wp2_with (first | ((with_reducible refine gate_callee (f := 25) rfl ?_); refine goesL_ (some 7) rfl rfl Try.func25 (by kernel_rfl) rfl #[.string a0] rfl (by (try simp only [List.map_toArray, List.map_cons, List.map_nil]); first | done | rfl | (simp only [List.length_drop, List.length_take]; rfl)) ?_; (with_reducible refine (cupelref04_Lex.calls k a0 t164 t165 _ A2.out).mono ?_); rintro e w7 ⟨v166, v168, rfl, ho0, ho1, hb⟩; refine ⟨_, rfl, ?_⟩; have n0_ := Aside0.mk (Kd.R_lower ho0 (below_size (by repeat (first | (with_reducible first | exact HB.out | apply below_alloc | apply pw_below_drewN | apply below_drew1) | exact HB.out)))); have n1_ := Aside0.mk (Kd.R_lower ho1 (below_size (by repeat (first | (with_reducible first | exact HB.out | apply below_alloc | apply pw_below_drewN | apply below_drew1) | exact HB.out)))); have n2_ := Aside0.mk (below_step (by repeat (first | (with_reducible first | exact HB.out | apply below_alloc | apply pw_below_drewN | apply below_drew1) | exact HB.out)) hb); clear HB; have HO167 := n0_; have HO169 := n1_; have HB := n2_; clear n0_ n1_ n2_; (try clear hb); (try clear hb2); (try clear hk); (try clear hi); (try clear ho0); (try clear ho1); obtain ⟨Ao8, co8, eo8⟩ := Kd.R_slice HO167.out; subst eo8; have p170 : 0 ≤ (0 : Int) := (by omega); have q170 : 0 < (t164.length : Int) := of_decide_eq_true (by first | (with_reducible assumption) | assumption); obtain ⟨ad170, e170, hx170_0, hx170_1, hx170_2⟩ := at_T70 (Kd.R_reads' HO167.out).2.2 0 p170 q170; cases e170; have qi170 : (0 < t164.length) = True := eq_true (by omega); (try rw [show ((0 : Int)).toNat = 0 from rfl] at hx170_0); (try rw [show 0 * 3 = 0 from rfl] at hx170_0); (try rw [Addr.add_zero'] at hx170_0); (try rw [show ((0 : Int)).toNat = 0 from rfl] at hx170_1); (try rw [show 0 * 3 = 0 from rfl] at hx170_1); (try rw [Addr.add_zero'] at hx170_1); (try rw [show ((0 : Int)).toNat = 0 from rfl] at hx170_2); (try rw [show 0 * 3 = 0 from rfl] at hx170_2); (try rw [Addr.add_zero'] at hx170_2); replace p170 := eq_true p170; replace q170 := eq_true q170; have p171 : 0 ≤ (0 : Int) := (by omega); have q171 : 0 < (t164.length : Int) := of_decide_eq_true (by first | (with_reducible assumption) | assumption); obtain ⟨ad171, e171, hx171_0, hx171_1, hx171_2⟩ := at_T70 (Kd.R_reads' HO167.out).2.2 0 p171 q171; obtain rfl : ad170 = ad171 := (by injection e171); have qi171 : (0 < t164.length) = True := eq_true (by omega); (try rw [show ((0 : Int)).toNat = 0 from rfl] at hx171_0); (try rw [show 0 * 3 = 0 from rfl] at hx171_0); (try rw [Addr.add_zero'] at hx171_0); (try rw [show ((0 : Int)).toNat = 0 from rfl] at hx171_1); (try rw [show 0 * 3 = 0 from rfl] at hx171_1); (try rw [Addr.add_zero'] at hx171_1); (try rw [show ((0 : Int)).toNat = 0 from rfl] at hx171_2); (try rw [show 0 * 3 = 0 from rfl] at hx171_2); (try rw [Addr.add_zero'] at hx171_2); replace p171 := eq_true p171; replace q171 := eq_true q171))
          go_ret
          exact ⟨by first | rfl | (simp [errW_none, errW_some] <;> rfl) | (simp [*, errW_none, errW_some] <;> rfl), by repeat (first | (with_reducible first | exact HB.out | apply below_alloc | apply pw_below_drewN | apply below_drew1) | exact HB.out)⟩
        · rw [if_neg c6] at H
          have c6b0 : (((rd_T70 t164 0).f0) == 1) = false := beq_eq_false_iff_ne.mpr c6
          have c6b1 : (((rd_T70 t164 0).f0) != 1) = true := bne_iff_ne.mpr c6
          obtain rfl := Option.some.inj H
          go_enter Try.func11, Try.ntmps11
          go_wp2_with (first | ((with_reducible refine gate_callee (f := 25) rfl ?_); refine goesL_ (some 7) rfl rfl Try.func25 (by kernel_rfl) rfl #[.string a0] rfl (by (try simp only [List.map_toArray, List.map_cons, List.map_nil]); first | done | rfl | (simp only [List.length_drop, List.length_take]; rfl)) ?_; (with_reducible refine (cupelref04_Lex.calls k a0 t164 t165 _ A2.out).mono ?_); rintro e w9 ⟨v166, v168, rfl, ho0, ho1, hb⟩; refine ⟨_, rfl, ?_⟩; have n0_ := Aside0.mk (Kd.R_lower ho0 (below_size (by repeat (first | (with_reducible first | exact HB.out | apply below_alloc | apply pw_below_drewN | apply below_drew1) | exact HB.out)))); have n1_ := Aside0.mk (Kd.R_lower ho1 (below_size (by repeat (first | (with_reducible first | exact HB.out | apply below_alloc | apply pw_below_drewN | apply below_drew1) | exact HB.out)))); have n2_ := Aside0.mk (below_step (by repeat (first | (with_reducible first | exact HB.out | apply below_alloc | apply pw_below_drewN | apply below_drew1) | exact HB.out)) hb); clear HB; have HO167 := n0_; have HO169 := n1_; have HB := n2_; clear n0_ n1_ n2_; (try clear hb); (try clear hb2); (try clear hk); (try clear hi); (try clear ho0); (try clear ho1); obtain ⟨Ao10, co10, eo10⟩ := Kd.R_slice HO167.out; subst eo10; have p170 : 0 ≤ (0 : Int) := (by omega); have q170 : 0 < (t164.length : Int) := of_decide_eq_true (by first | (with_reducible assumption) | assumption); obtain ⟨ad170, e170, hx170_0, hx170_1, hx170_2⟩ := at_T70 (Kd.R_reads' HO167.out).2.2 0 p170 q170; cases e170; have qi170 : (0 < t164.length) = True := eq_true (by omega); (try rw [show ((0 : Int)).toNat = 0 from rfl] at hx170_0); (try rw [show 0 * 3 = 0 from rfl] at hx170_0); (try rw [Addr.add_zero'] at hx170_0); (try rw [show ((0 : Int)).toNat = 0 from rfl] at hx170_1); (try rw [show 0 * 3 = 0 from rfl] at hx170_1); (try rw [Addr.add_zero'] at hx170_1); (try rw [show ((0 : Int)).toNat = 0 from rfl] at hx170_2); (try rw [show 0 * 3 = 0 from rfl] at hx170_2); (try rw [Addr.add_zero'] at hx170_2); replace p170 := eq_true p170; replace q170 := eq_true q170))
          go_ret
          exact ⟨by first | rfl | (simp [errW_none, errW_some] <;> rfl) | (simp [*, errW_none, errW_some] <;> rfl), by repeat (first | (with_reducible first | exact HB.out | apply below_alloc | apply pw_below_drewN | apply below_drew1) | exact HB.out)⟩
      · rw [if_neg c5] at H
        exact absurd H (by simp)
    · rw [if_neg c4] at H
      have c4b0 : ((t164.length : Int) == 2) = false := beq_eq_false_iff_ne.mpr c4
      have c4b1 : ((t164.length : Int) != 2) = true := bne_iff_ne.mpr c4
      obtain rfl := Option.some.inj H
      go_enter Try.func11, Try.ntmps11
      go_wp2_with (first | ((with_reducible refine gate_callee (f := 25) rfl ?_); refine goesL_ (some 7) rfl rfl Try.func25 (by kernel_rfl) rfl #[.string a0] rfl (by (try simp only [List.map_toArray, List.map_cons, List.map_nil]); first | done | rfl | (simp only [List.length_drop, List.length_take]; rfl)) ?_; (with_reducible refine (cupelref04_Lex.calls k a0 t164 t165 _ A2.out).mono ?_); rintro e w11 ⟨v166, v168, rfl, ho0, ho1, hb⟩; refine ⟨_, rfl, ?_⟩; have n0_ := Aside0.mk (Kd.R_lower ho0 (below_size (by repeat (first | (with_reducible first | exact HB.out | apply below_alloc | apply pw_below_drewN | apply below_drew1) | exact HB.out)))); have n1_ := Aside0.mk (Kd.R_lower ho1 (below_size (by repeat (first | (with_reducible first | exact HB.out | apply below_alloc | apply pw_below_drewN | apply below_drew1) | exact HB.out)))); have n2_ := Aside0.mk (below_step (by repeat (first | (with_reducible first | exact HB.out | apply below_alloc | apply pw_below_drewN | apply below_drew1) | exact HB.out)) hb); clear HB; have HO167 := n0_; have HO169 := n1_; have HB := n2_; clear n0_ n1_ n2_; (try clear hb); (try clear hb2); (try clear hk); (try clear hi); (try clear ho0); (try clear ho1); obtain ⟨Ao12, co12, eo12⟩ := Kd.R_slice HO167.out; subst eo12))
      go_ret
      exact ⟨by first | rfl | (simp [errW_none, errW_some] <;> rfl) | (simp [*, errW_none, errW_some] <;> rfl), by repeat (first | (with_reducible first | exact HB.out | apply below_alloc | apply pw_below_drewN | apply below_drew1) | exact HB.out)⟩
  · rw [if_neg c3] at H
    have c3b0 : decide ((a0.size : Int) ≤ 32) = false := decide_eq_false c3
    have c3b1 : decide (a0.size ≤ 32) = false := decide_eq_false (by omega)
    clear c3
    obtain rfl := Option.some.inj H
    go_enter Try.func11, Try.ntmps11
    go_wp2_with (first | ((with_reducible refine gate_callee (f := 25) rfl ?_); refine goesL_ (some 7) rfl rfl Try.func25 (by kernel_rfl) rfl #[.string a0] rfl (by (try simp only [List.map_toArray, List.map_cons, List.map_nil]); first | done | rfl | (simp only [List.length_drop, List.length_take]; rfl)) ?_; (with_reducible refine (cupelref04_Lex.calls k a0 t164 t165 _ A2.out).mono ?_); rintro e w13 ⟨v166, v168, rfl, ho0, ho1, hb⟩; refine ⟨_, rfl, ?_⟩; have n0_ := Aside0.mk (Kd.R_lower ho0 (below_size (by repeat (first | (with_reducible first | exact HB.out | apply below_alloc | apply pw_below_drewN | apply below_drew1) | exact HB.out)))); have n1_ := Aside0.mk (Kd.R_lower ho1 (below_size (by repeat (first | (with_reducible first | exact HB.out | apply below_alloc | apply pw_below_drewN | apply below_drew1) | exact HB.out)))); have n2_ := Aside0.mk (below_step (by repeat (first | (with_reducible first | exact HB.out | apply below_alloc | apply pw_below_drewN | apply below_drew1) | exact HB.out)) hb); clear HB; have HO167 := n0_; have HO169 := n1_; have HB := n2_; clear n0_ n1_ n2_; (try clear hb); (try clear hb2); (try clear hk); (try clear hi); (try clear ho0); (try clear ho1)))
    go_ret
    exact ⟨by first | rfl | (simp [errW_none, errW_some] <;> rfl) | (simp [*, errW_none, errW_some] <;> rfl), by repeat (first | (with_reducible first | exact HB.out | apply below_alloc | apply pw_below_drewN | apply below_drew1) | exact HB.out)⟩

-- NOT PRINTED: function 40 (files_File_40)

-- NOT PRINTED: function 26 (files_File_26)

-- NOT PRINTED: function 27 (files_Table_files)

-- NOT PRINTED: function 12 (files_Table_All)

-- NOT PRINTED: function 3 (cupellaw13_FilesNames)

/-! ### cmp_isNaN_string: function 68 -/
def cmp_isNaN_string.f (a0 : ByteArray) : Option (Bool) := some (a0.toList != a0.toList)
set_option maxHeartbeats 8000000 in
set_option maxRecDepth 100000 in
theorem cmp_isNaN_string.calls (a0 : ByteArray) (r : Bool) (w : World) (h : cmp_isNaN_string.f a0 = some r) :
    Calls Try.prog 68 #[.string a0] w fun e w' => e = .returned (.bool r) ∧ Drawn0 w w' := by
  have H : (some (a0.toList != a0.toList)) = some r := h
  clear h
  obtain rfl := Option.some.inj H
  go_enter Try.func68, Try.ntmps68
  go_wp2
  go_ret
  exact ⟨by first | rfl | (simp; done) | (simp [*]; done), by repeat (first | exact Drawn0.refl _ | apply Drawn0.step)⟩

end Go.Proofs.Ytonhfcjldbohbaa.PA
