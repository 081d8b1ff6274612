-- Written by a program of this session (wip/xprint.py over the kit's printer). Lean checks it.
import Derived.Test.YteinhpfjlfeaaaaDoorPAx0
import Derived.Test.YteinhpfjlfeaaaaDoorPAx4
import Derived.Test.YteinhpfjlfeaaaaDoorPAx5
import Derived.Test.YteinhpfjlfeaaaaDoorExtOffset
namespace Go.Proofs.YteinhpfjlfeaaaaDoor.PA
open Go.RowKit Go.Proofs.YteinhpfjlfeaaaaDoorW.PrintWords Go.Proofs.YteinhpfjlfeaaaaDoorW.PrintLast Go.Proofs.YteinhpfjlfeaaaaDoorW.PrintMore
attribute [local go_sem] max2_int min2_int max_two min_two max_three min_three max_four min_four   -- for this text's walks alone
set_option linter.unusedVariables false
set_option linter.unusedSimpArgs false

/-! ### cupellaw19_DiagPlaces: function 5 -/
mutual
def cupellaw19_DiagPlaces.j0 : Nat → ByteArray → Int → Int → Int → Int → Int → Int → Int → Bool → Int → Option (Bool)
  | 0, _, _, _, _, _, _, _, _, _, _ => none
  | k + 1, x0, x2, x3, x9, x10, x11, x12, x13, x14, x15 => if x15 > (x0.size : Int) then (cupellaw19_DiagPlaces.j1 k x0 x2 x3 x9 x10 x11 x12 x13 x14 (x0.size : Int)) else (cupellaw19_DiagPlaces.j1 k x0 x2 x3 x9 x10 x11 x12 x13 x14 x15)
def cupellaw19_DiagPlaces.j1 : Nat → ByteArray → Int → Int → Int → Int → Int → Int → Int → Bool → Int → Option (Bool)
  | 0, _, _, _, _, _, _, _, _, _, _ => none
  | k + 1, x0, x2, x3, x9, x10, x11, x12, x13, x14, x15 => if x9 = x11 then (if x10 = x12 then (if x14 = true then (cupellaw19_DiagPlaces.j2 k x0 x2 x3 (x13 != x15)) else (cupellaw19_DiagPlaces.j2 k x0 x2 x3 true)) else (cupellaw19_DiagPlaces.j2 k x0 x2 x3 true)) else (cupellaw19_DiagPlaces.j2 k x0 x2 x3 true)
def cupellaw19_DiagPlaces.j2 : Nat → ByteArray → Int → Int → Bool → Option (Bool)
  | 0, _, _, _, _ => none
  | k + 1, x0, x2, x3, x71 => if x71 = true then (some false) else ((diag_Offset.f x0 x2 x3).bind fun bt174 => (cupellaw19_DiagPlaces.l0 k x0 x2 x3 bt174.1 bt174.2 (-1) 0))
def cupellaw19_DiagPlaces.l0 : Nat → ByteArray → Int → Int → Int → Bool → Int → Int → Option (Bool)
  | 0, _, _, _, _, _, _, _ => none
  | k + 1, x0, x2, x3, x16, x17, x18, x19 => if x19 ≤ (x0.size : Int) then ((cupelref19_Place.f k x0 x19).bind fun bt176 => (if bt176.1 = x2 then (if bt176.2 = x3 then (cupellaw19_DiagPlaces.l0 k x0 x2 x3 x16 x17 x19 (wrap64 (x19 + 1))) else (cupellaw19_DiagPlaces.l0 k x0 x2 x3 x16 x17 x18 (wrap64 (x19 + 1)))) else (cupellaw19_DiagPlaces.l0 k x0 x2 x3 x16 x17 x18 (wrap64 (x19 + 1))))) else (if (x17 == (decide (x18 ≥ 0))) = true then (if x17 = true then (some (x16 == x18)) else (if x16 = 0 then (some true) else (some (x16 == x18)))) else (some false))
end
def cupellaw19_DiagPlaces.f (k : Nat) (a0 : ByteArray) (a1 : Int) (a2 : Int) (a3 : Int) : Option (Bool) := (cupellaw19_alive.f).bind fun t167 => (if t167 = true then (if (a0.size : Int) > 600 then (some true) else ((diag_Place.f a0 a1).bind fun bt168 => ((cupelref19_Place.f k a0 a1).bind fun bt170 => ((diag_Offset.f a0 bt168.1 bt168.2).bind fun bt172 => (if a1 < 0 then (cupellaw19_DiagPlaces.j0 k a0 a2 a3 bt168.1 bt168.2 bt170.1 bt170.2 bt172.1 bt172.2 0) else (cupellaw19_DiagPlaces.j0 k a0 a2 a3 bt168.1 bt168.2 bt170.1 bt170.2 bt172.1 bt172.2 a1)))))) else (some false))
theorem cupellaw19_DiagPlaces.mono_l : ∀ k, (∀ y0 y1 y2 y3 y4 y5 y6 y7 y8 y9, LeO (cupellaw19_DiagPlaces.j0 k y0 y1 y2 y3 y4 y5 y6 y7 y8 y9) (cupellaw19_DiagPlaces.j0 (k + 1) y0 y1 y2 y3 y4 y5 y6 y7 y8 y9)) ∧ (∀ y0 y1 y2 y3 y4 y5 y6 y7 y8 y9, LeO (cupellaw19_DiagPlaces.j1 k y0 y1 y2 y3 y4 y5 y6 y7 y8 y9) (cupellaw19_DiagPlaces.j1 (k + 1) y0 y1 y2 y3 y4 y5 y6 y7 y8 y9)) ∧ (∀ y0 y1 y2 y3, LeO (cupellaw19_DiagPlaces.j2 k y0 y1 y2 y3) (cupellaw19_DiagPlaces.j2 (k + 1) y0 y1 y2 y3)) ∧ (∀ y0 y1 y2 y3 y4 y5 y6, LeO (cupellaw19_DiagPlaces.l0 k y0 y1 y2 y3 y4 y5 y6) (cupellaw19_DiagPlaces.l0 (k + 1) y0 y1 y2 y3 y4 y5 y6))
  | 0 => ⟨fun _ _ _ _ _ _ _ _ _ _ r h => by simp [cupellaw19_DiagPlaces.j0] at h, fun _ _ _ _ _ _ _ _ _ _ r h => by simp [cupellaw19_DiagPlaces.j1] at h, fun _ _ _ _ r h => by simp [cupellaw19_DiagPlaces.j2] at h, fun _ _ _ _ _ _ _ r h => by simp [cupellaw19_DiagPlaces.l0] at h⟩
  | k + 1 => by
    obtain ⟨ih0, ih1, ih2, ih3⟩ := cupellaw19_DiagPlaces.mono_l k
    refine ⟨?_, ?_, ?_, ?_⟩
    · intro y0 y1 y2 y3 y4 y5 y6 y7 y8 y9
      unfold cupellaw19_DiagPlaces.j0
      repeat' first
      | (with_reducible exact ih0 _ _ _ _ _ _ _ _ _ _)
      | (with_reducible exact ih1 _ _ _ _ _ _ _ _ _ _)
      | (with_reducible exact ih2 _ _ _ _)
      | (with_reducible exact ih3 _ _ _ _ _ _ _)
      | (with_reducible exact cupelref19_Place.mono _ _ _)
      | (with_reducible exact LeO.refl _)
      | (with_reducible exact LeO.none _)
      | (with_reducible refine LeO.ite ?_ ?_)
      | (with_reducible refine LeO.bind ?_ (fun _ => ?_))
      | exact ih0 _ _ _ _ _ _ _ _ _ _
      | exact ih1 _ _ _ _ _ _ _ _ _ _
      | exact ih2 _ _ _ _
      | exact ih3 _ _ _ _ _ _ _
      | exact cupelref19_Place.mono _ _ _
      | exact LeO.none _
      | refine LeO.ite ?_ ?_
      | refine LeO.bind ?_ (fun _ => ?_)
    · intro y0 y1 y2 y3 y4 y5 y6 y7 y8 y9
      unfold cupellaw19_DiagPlaces.j1
      repeat' first
      | (with_reducible exact ih0 _ _ _ _ _ _ _ _ _ _)
      | (with_reducible exact ih1 _ _ _ _ _ _ _ _ _ _)
      | (with_reducible exact ih2 _ _ _ _)
      | (with_reducible exact ih3 _ _ _ _ _ _ _)
      | (with_reducible exact cupelref19_Place.mono _ _ _)
      | (with_reducible exact LeO.refl _)
      | (with_reducible exact LeO.none _)
      | (with_reducible refine LeO.ite ?_ ?_)
      | (with_reducible refine LeO.bind ?_ (fun _ => ?_))
      | exact ih0 _ _ _ _ _ _ _ _ _ _
      | exact ih1 _ _ _ _ _ _ _ _ _ _
      | exact ih2 _ _ _ _
      | exact ih3 _ _ _ _ _ _ _
      | exact cupelref19_Place.mono _ _ _
      | exact LeO.none _
      | refine LeO.ite ?_ ?_
      | refine LeO.bind ?_ (fun _ => ?_)
    · intro y0 y1 y2 y3
      unfold cupellaw19_DiagPlaces.j2
      repeat' first
      | (with_reducible exact ih0 _ _ _ _ _ _ _ _ _ _)
      | (with_reducible exact ih1 _ _ _ _ _ _ _ _ _ _)
      | (with_reducible exact ih2 _ _ _ _)
      | (with_reducible exact ih3 _ _ _ _ _ _ _)
      | (with_reducible exact cupelref19_Place.mono _ _ _)
      | (with_reducible exact LeO.refl _)
      | (with_reducible exact LeO.none _)
      | (with_reducible refine LeO.ite ?_ ?_)
      | (with_reducible refine LeO.bind ?_ (fun _ => ?_))
      | exact ih0 _ _ _ _ _ _ _ _ _ _
      | exact ih1 _ _ _ _ _ _ _ _ _ _
      | exact ih2 _ _ _ _
      | exact ih3 _ _ _ _ _ _ _
      | exact cupelref19_Place.mono _ _ _
      | exact LeO.none _
      | refine LeO.ite ?_ ?_
      | refine LeO.bind ?_ (fun _ => ?_)
    · intro y0 y1 y2 y3 y4 y5 y6
      unfold cupellaw19_DiagPlaces.l0
      repeat' first
      | (with_reducible exact ih0 _ _ _ _ _ _ _ _ _ _)
      | (with_reducible exact ih1 _ _ _ _ _ _ _ _ _ _)
      | (with_reducible exact ih2 _ _ _ _)
      | (with_reducible exact ih3 _ _ _ _ _ _ _)
      | (with_reducible exact cupelref19_Place.mono _ _ _)
      | (with_reducible exact LeO.refl _)
      | (with_reducible exact LeO.none _)
      | (with_reducible refine LeO.ite ?_ ?_)
      | (with_reducible refine LeO.bind ?_ (fun _ => ?_))
      | exact ih0 _ _ _ _ _ _ _ _ _ _
      | exact ih1 _ _ _ _ _ _ _ _ _ _
      | exact ih2 _ _ _ _
      | exact ih3 _ _ _ _ _ _ _
      | exact cupelref19_Place.mono _ _ _
      | exact LeO.none _
      | refine LeO.ite ?_ ?_
      | refine LeO.bind ?_ (fun _ => ?_)
theorem cupellaw19_DiagPlaces.mono : ∀ a0 a1 a2 a3 k, LeO (cupellaw19_DiagPlaces.f k a0 a1 a2 a3) (cupellaw19_DiagPlaces.f (k + 1) a0 a1 a2 a3) := by
  intro a0 a1 a2 a3 k
  obtain ⟨ih0, ih1, ih2, ih3⟩ := cupellaw19_DiagPlaces.mono_l k
  unfold cupellaw19_DiagPlaces.f
  repeat' first
      | (with_reducible exact ih0 _ _ _ _ _ _ _ _ _ _)
      | (with_reducible exact ih1 _ _ _ _ _ _ _ _ _ _)
      | (with_reducible exact ih2 _ _ _ _)
      | (with_reducible exact ih3 _ _ _ _ _ _ _)
      | (with_reducible exact cupelref19_Place.mono _ _ _)
      | (with_reducible exact LeO.refl _)
      | (with_reducible exact LeO.none _)
      | (with_reducible refine LeO.ite ?_ ?_)
      | (with_reducible refine LeO.bind ?_ (fun _ => ?_))
      | exact ih0 _ _ _ _ _ _ _ _ _ _
      | exact ih1 _ _ _ _ _ _ _ _ _ _
      | exact ih2 _ _ _ _
      | exact ih3 _ _ _ _ _ _ _
      | exact cupelref19_Place.mono _ _ _
      | exact LeO.none _
      | refine LeO.ite ?_ ?_
      | refine LeO.bind ?_ (fun _ => ?_)
set_option maxHeartbeats 8000000 in
set_option maxRecDepth 100000 in
theorem cupellaw19_DiagPlaces.calls (k : Nat) (a0 : ByteArray) (a1 : Int) (a2 : Int) (a3 : Int) (r : Bool) (w : World) (h : cupellaw19_DiagPlaces.f k a0 a1 a2 a3 = some r) (hT : Tabs w) :
    Calls Tryd.prog 5 #[.string a0, .int .i64 a1, .int .i64 a2, .int .i64 a3] w fun e w' => e = .returned (.bool r) ∧ Below w.heap.size w w' := by
  have HT0 := Aside0.mk hT
  clear hT
  have HB := Aside0.mk (Below.refl w.heap.size w)
  have H : ((cupellaw19_alive.f).bind fun t167 => (if t167 = true then (if (a0.size : Int) > 600 then (some true) else ((diag_Place.f a0 a1).bind fun bt168 => ((cupelref19_Place.f k a0 a1).bind fun bt170 => ((diag_Offset.f a0 bt168.1 bt168.2).bind fun bt172 => (if a1 < 0 then (cupellaw19_DiagPlaces.j0 k a0 a2 a3 bt168.1 bt168.2 bt170.1 bt170.2 bt172.1 bt172.2 0) else (cupellaw19_DiagPlaces.j0 k a0 a2 a3 bt168.1 bt168.2 bt170.1 bt170.2 bt172.1 bt172.2 a1)))))) else (some false))) = some r := h
  clear h
  replace H := Option.bind_eq_some_iff.mp H
  obtain ⟨t167, A50, H⟩ := H
  replace H : (if t167 = true then (if (a0.size : Int) > 600 then (some true) else ((diag_Place.f a0 a1).bind fun bt168 => ((cupelref19_Place.f k a0 a1).bind fun bt170 => ((diag_Offset.f a0 bt168.1 bt168.2).bind fun bt172 => (if a1 < 0 then (cupellaw19_DiagPlaces.j0 k a0 a2 a3 bt168.1 bt168.2 bt170.1 bt170.2 bt172.1 bt172.2 0) else (cupellaw19_DiagPlaces.j0 k a0 a2 a3 bt168.1 bt168.2 bt170.1 bt170.2 bt172.1 bt172.2 a1)))))) else (some false)) = some r := H
  have A5 := Aside0.mk A50
  clear A50
  by_cases c6 : t167 = true
  · subst c6
    have H1 : (if (a0.size : Int) > 600 then (some true) else ((diag_Place.f a0 a1).bind fun bt168 => ((cupelref19_Place.f k a0 a1).bind fun bt170 => ((diag_Offset.f a0 bt168.1 bt168.2).bind fun bt172 => (if a1 < 0 then (cupellaw19_DiagPlaces.j0 k a0 a2 a3 bt168.1 bt168.2 bt170.1 bt170.2 bt172.1 bt172.2 0) else (cupellaw19_DiagPlaces.j0 k a0 a2 a3 bt168.1 bt168.2 bt170.1 bt170.2 bt172.1 bt172.2 a1)))))) = some r := by rw [if_pos rfl] at H; exact H
    clear H
    have H := H1
    clear H1
    by_cases c7 : (a0.size : Int) > 600
    · rw [if_pos c7] at H
      have c7b0 : decide (600 < (a0.size : Int)) = true := decide_eq_true c7
      have c7b1 : decide (600 < a0.size) = true := decide_eq_true (by omega)
      clear c7
      obtain rfl := Option.some.inj H
      go_enter Tryd.func5, Tryd.ntmps5
      go_wp2_with (first | ((with_reducible refine gate_callee (f := 8) rfl ?_); refine goesL_ (some 22) rfl rfl Tryd.func8 (by kernel_rfl) rfl #[] rfl (by (try simp only [List.map_toArray, List.map_cons, List.map_nil]); first | done | rfl | (simp only [List.length_drop, List.length_take]; rfl)) ?_; (with_reducible refine (cupellaw19_alive.calls  true _ A5.out (Tabs.below HT0.out (Nat.le_refl _) (by repeat (first | (with_reducible first | exact HB.out | apply below_alloc | apply pw_below_drewN | apply below_drew1) | exact HB.out)))).mono ?_); rintro e w8 ⟨rfl, hb⟩; refine ⟨_, rfl, ?_⟩; have n0_ := Aside0.mk (below_step (by repeat (first | (with_reducible first | exact HB.out | apply below_alloc | apply pw_below_drewN | apply below_drew1) | exact HB.out)) hb); clear HB; have HB := n0_; clear n0_; (try clear hb); (try clear hb2); (try clear hk); (try clear hi)))
      go_ret
      exact ⟨by first | rfl | (simp [errW_none, errW_some] <;> rfl) | (simp [*, errW_none, errW_some] <;> rfl), by repeat (first | (with_reducible first | exact HB.out | apply below_alloc | apply pw_below_drewN | apply below_drew1) | exact HB.out)⟩
    · rw [if_neg c7] at H
      have c7b0 : decide (600 < (a0.size : Int)) = false := decide_eq_false c7
      have c7b1 : decide (600 < a0.size) = false := decide_eq_false (by omega)
      clear c7
      replace H := Option.bind_eq_some_iff.mp H
      obtain ⟨⟨t168, t169⟩, A90, H⟩ := H
      replace H : ((cupelref19_Place.f k a0 a1).bind fun bt170 => ((diag_Offset.f a0 t168 t169).bind fun bt172 => (if a1 < 0 then (cupellaw19_DiagPlaces.j0 k a0 a2 a3 t168 t169 bt170.1 bt170.2 bt172.1 bt172.2 0) else (cupellaw19_DiagPlaces.j0 k a0 a2 a3 t168 t169 bt170.1 bt170.2 bt172.1 bt172.2 a1)))) = some r := H
      have A9 := Aside0.mk A90
      clear A90
      replace H := Option.bind_eq_some_iff.mp H
      obtain ⟨⟨t170, t171⟩, A100, H⟩ := H
      replace H : ((diag_Offset.f a0 t168 t169).bind fun bt172 => (if a1 < 0 then (cupellaw19_DiagPlaces.j0 k a0 a2 a3 t168 t169 t170 t171 bt172.1 bt172.2 0) else (cupellaw19_DiagPlaces.j0 k a0 a2 a3 t168 t169 t170 t171 bt172.1 bt172.2 a1))) = some r := H
      have A10 := Aside0.mk A100
      clear A100
      replace H := Option.bind_eq_some_iff.mp H
      obtain ⟨⟨t172, t173⟩, A110, H⟩ := H
      replace H : (if a1 < 0 then (cupellaw19_DiagPlaces.j0 k a0 a2 a3 t168 t169 t170 t171 t172 t173 0) else (cupellaw19_DiagPlaces.j0 k a0 a2 a3 t168 t169 t170 t171 t172 t173 a1)) = some r := H
      have A11 := Aside0.mk A110
      clear A110
      have HC12 := Aside0.mk H
      clear H
      go_enter Tryd.func5, Tryd.ntmps5
      go_upto_if 48 with (first | ((with_reducible refine gate_callee (f := 8) rfl ?_); refine goesL_ (some 22) rfl rfl Tryd.func8 (by kernel_rfl) rfl #[] rfl (by (try simp only [List.map_toArray, List.map_cons, List.map_nil]); first | done | rfl | (simp only [List.length_drop, List.length_take]; rfl)) ?_; (with_reducible refine (cupellaw19_alive.calls  true _ A5.out (Tabs.below HT0.out (Nat.le_refl _) (by repeat (first | (with_reducible first | exact HB.out | apply below_alloc | apply pw_below_drewN | apply below_drew1) | exact HB.out)))).mono ?_); rintro e w13 ⟨rfl, hb⟩; refine ⟨_, rfl, ?_⟩; have n0_ := Aside0.mk (below_step (by repeat (first | (with_reducible first | exact HB.out | apply below_alloc | apply pw_below_drewN | apply below_drew1) | exact HB.out)) hb); clear HB; have HB := n0_; clear n0_; (try clear hb); (try clear hb2); (try clear hk); (try clear hi)) | ((with_reducible refine gate_callee (f := 13) rfl ?_); refine goesL_ (some 30) rfl rfl Tryd.func13 (by kernel_rfl) rfl #[.string a0, .int .i64 a1] rfl (by (try simp only [List.map_toArray, List.map_cons, List.map_nil]); first | done | rfl | (simp only [List.length_drop, List.length_take]; rfl)) ?_; (with_reducible refine (diag_Place.calls a0 a1 t168 t169 _ A9.out).mono ?_); rintro e w14 ⟨rfl, hb⟩; refine ⟨_, rfl, ?_⟩; have n0_ := Aside0.mk (below_step (by repeat (first | (with_reducible first | exact HB.out | apply below_alloc | apply pw_below_drewN | apply below_drew1) | exact HB.out)) hb); clear HB; have HB := n0_; clear n0_; (try clear hb); (try clear hb2); (try clear hk); (try clear hi)) | ((with_reducible refine gate_callee (f := 14) rfl ?_); refine goesL_ (some 36) rfl rfl Tryd.func14 (by kernel_rfl) rfl #[.string a0, .int .i64 a1] rfl (by (try simp only [List.map_toArray, List.map_cons, List.map_nil]); first | done | rfl | (simp only [List.length_drop, List.length_take]; rfl)) ?_; (with_reducible refine (cupelref19_Place.calls k a0 a1 t170 t171 _ A10.out).mono ?_); rintro e w' ⟨rfl, ⟨nd, rfl⟩⟩; refine ⟨_, rfl, ?_⟩) | ((with_reducible refine gate_callee (f := 15) rfl ?_); refine goesL_ (some 43) rfl rfl Tryd.func15 (by kernel_rfl) rfl #[.string a0, .int .i64 t168, .int .i64 t169] rfl (by (try simp only [List.map_toArray, List.map_cons, List.map_nil]); first | done | rfl | (simp only [List.length_drop, List.length_take]; rfl)) ?_; (with_reducible refine (diag_Offset.calls a0 t168 t169 t172 t173 _ A11.out).mono ?_); rintro e w15 ⟨rfl, hb⟩; refine ⟨_, rfl, ?_⟩; have n0_ := Aside0.mk (below_step (by repeat (first | (with_reducible first | exact HB.out | apply below_alloc | apply pw_below_drewN | apply below_drew1) | exact HB.out)) hb); clear HB; have HB := n0_; clear n0_; (try clear hb); (try clear hb2); (try clear hk); (try clear hi)))
      (try simp only [Act.put, List.setIfInBounds_toArray, List.set_cons_zero, List.set_cons_succ])
      go_cut [15] (fun v15 wc => ∃ (kq : Nat) (x15_11 : Int), v15 = .int .i64 x15_11 ∧ Aside0 (cupellaw19_DiagPlaces.j0 kq a0 a2 a3 t168 t169 t170 t171 t172 t173 x15_11 = some r) ∧ Aside0 (kq ≤ k) ∧ Aside0 (Below w.heap.size w wc))
      case first =>
        have H := HC12.out
        clear HC12
        by_cases c16 : a1 < 0
        · rw [if_pos c16] at H
          have c16b0 : decide (a1 < 0) = true := decide_eq_true c16
          clear c16
          (first | rw [c16b0] | (simp only [i64_w, i32_w]; rw [c16b0]) | skip)
          have H' := Aside0.mk H
          clear H
          go_wp2
          go_meet
          case rel => exact ⟨_, (0), (by first | rfl | (simp; done) | (simp [*]; done)), H', ⟨by first | omega | exact Nat.le_refl _⟩, ⟨by repeat (first | (with_reducible first | exact HB.out | apply below_alloc | apply pw_below_drewN | apply below_drew1) | exact HB.out)⟩⟩
        · rw [if_neg c16] at H
          have c16b0 : decide (a1 < 0) = false := decide_eq_false c16
          clear c16
          (first | rw [c16b0] | (simp only [i64_w, i32_w]; rw [c16b0]) | skip)
          have H' := Aside0.mk H
          clear H
          go_wp2
          go_meet
          case rel => exact ⟨_, (a1), (by first | rfl | (simp; done) | (simp [*]; done)), H', ⟨by first | omega | exact Nat.le_refl _⟩, ⟨by repeat (first | (with_reducible first | exact HB.out | apply below_alloc | apply pw_below_drewN | apply below_drew1) | exact HB.out)⟩⟩
      case rest =>
        clear HC12
        try clear c1
        try clear p2
        try clear c5
        try clear c6
        try clear c7
        try clear c7b0
        try clear c7b1
        try clear c8
        try clear c13
        try clear c14
        try clear c15
        try clear c16
        try clear c16b0
        obtain ⟨kq, x15_11, rfl, HA, HJ11, HB⟩ := hcut
        cases kq with
        | zero => exact absurd HA.out (by simp [cupellaw19_DiagPlaces.j0])
        | succ kj11 =>
          have H := HA.out
          clear HA
          simp only [cupellaw19_DiagPlaces.j0] at H
          have HC17 := Aside0.mk H
          clear H
          go_upto_if 52 with (fail)
          go_cut [15] (fun v15 wc => ∃ (kq : Nat) (x15_16 : Int), v15 = .int .i64 x15_16 ∧ Aside0 (cupellaw19_DiagPlaces.j1 kq a0 a2 a3 t168 t169 t170 t171 t172 t173 x15_16 = some r) ∧ Aside0 (kq ≤ kj11) ∧ Aside0 (Below w.heap.size w wc))
          case first =>
            have H := HC17.out
            clear HC17
            by_cases c18 : x15_11 > (a0.size : Int)
            · rw [if_pos c18] at H
              have c18b0 : decide ((a0.size : Int) < x15_11) = true := decide_eq_true c18
              clear c18
              (first | rw [c18b0] | (simp only [i64_w, i32_w]; rw [c18b0]) | skip)
              have H' := Aside0.mk H
              clear H
              go_wp2
              go_meet
              case rel => exact ⟨_, ((a0.size : Int)), (by first | rfl | (simp; done) | (simp [*]; done)), H', ⟨by have := HJ11.out; first | omega | exact Nat.le_refl _⟩, ⟨by repeat (first | (with_reducible first | exact HB.out | apply below_alloc | apply pw_below_drewN | apply below_drew1) | exact HB.out)⟩⟩
            · rw [if_neg c18] at H
              have c18b0 : decide ((a0.size : Int) < x15_11) = false := decide_eq_false c18
              clear c18
              (first | rw [c18b0] | (simp only [i64_w, i32_w]; rw [c18b0]) | skip)
              have H' := Aside0.mk H
              clear H
              go_wp2
              go_meet
              case rel => exact ⟨_, (x15_11), (by first | rfl | (simp; done) | (simp [*]; done)), H', ⟨by have := HJ11.out; first | omega | exact Nat.le_refl _⟩, ⟨by repeat (first | (with_reducible first | exact HB.out | apply below_alloc | apply pw_below_drewN | apply below_drew1) | exact HB.out)⟩⟩
          case rest =>
            clear HC17
            try clear c1
            try clear p2
            try clear c5
            try clear c6
            try clear c7
            try clear c7b0
            try clear c7b1
            try clear c8
            try clear c13
            try clear c14
            try clear c15
            try clear c16
            try clear c16b0
            try clear c18
            try clear c18b0
            try clear p2
            obtain ⟨kq, x15_16, rfl, HA, HJ16, HB⟩ := hcut
            cases kq with
            | zero => exact absurd HA.out (by simp [cupellaw19_DiagPlaces.j1])
            | succ kj16 =>
              have H := HA.out
              clear HA
              simp only [cupellaw19_DiagPlaces.j1] at H
              have HC19 := Aside0.mk H
              clear H
              go_upto_region 13 with (fail)
              go_cut [71] (fun v71 wc => ∃ (kq : Nat) (x71_18 : Bool), v71 = .bool x71_18 ∧ Aside0 (cupellaw19_DiagPlaces.j2 kq a0 a2 a3 x71_18 = some r) ∧ Aside0 (kq ≤ kj16) ∧ Aside0 (Below w.heap.size w wc))
              case first =>
                have H := HC19.out
                clear HC19
                by_cases c20 : t168 = t170
                · rw [if_pos c20] at H
                  have c20b0 : (t168 == t170) = true := beq_iff_eq.mpr c20
                  have c20b1 : (t168 != t170) = false := bne_eq_false_iff_eq.mpr c20
                  clear c20
                  (first | rw [c20b0] | (simp only [i64_w, i32_w]; rw [c20b0]) | skip)
                  by_cases c21 : t169 = t171
                  · rw [if_pos c21] at H
                    have c21b0 : (t169 == t171) = true := beq_iff_eq.mpr c21
                    have c21b1 : (t169 != t171) = false := bne_eq_false_iff_eq.mpr c21
                    clear c21
                    by_cases c22 : t173 = true
                    · subst c22
                      have H1 : (cupellaw19_DiagPlaces.j2 kj16 a0 a2 a3 (t172 != x15_16)) = some r := by rw [if_pos rfl] at H; exact H
                      clear H
                      have H := H1
                      clear H1
                      have H' := Aside0.mk H
                      clear H
                      go_wp2
                      go_meet
                      case rel => exact ⟨_, ((t172 != x15_16)), (by first | rfl | (simp; done) | (simp [*]; done)), H', ⟨by have := HJ11.out; have := HJ16.out; first | omega | exact Nat.le_refl _⟩, ⟨by repeat (first | (with_reducible first | exact HB.out | apply below_alloc | apply pw_below_drewN | apply below_drew1) | exact HB.out)⟩⟩
                    · replace c22 := Bool.eq_false_iff.mpr c22
                      subst c22
                      have H1 : (cupellaw19_DiagPlaces.j2 kj16 a0 a2 a3 true) = some r := by rw [if_neg (show ¬ (false = true) by decide)] at H; exact H
                      clear H
                      have H := H1
                      clear H1
                      have H' := Aside0.mk H
                      clear H
                      go_wp2
                      go_meet
                      case rel => exact ⟨_, (true), (by first | rfl | (simp; done) | (simp [*]; done)), H', ⟨by have := HJ11.out; have := HJ16.out; first | omega | exact Nat.le_refl _⟩, ⟨by repeat (first | (with_reducible first | exact HB.out | apply below_alloc | apply pw_below_drewN | apply below_drew1) | exact HB.out)⟩⟩
                  · rw [if_neg c21] at H
                    have c21b0 : (t169 == t171) = false := beq_eq_false_iff_ne.mpr c21
                    have c21b1 : (t169 != t171) = true := bne_iff_ne.mpr c21
                    have H' := Aside0.mk H
                    clear H
                    go_wp2
                    go_meet
                    case rel => exact ⟨_, (true), (by first | rfl | (simp; done) | (simp [*]; done)), H', ⟨by have := HJ11.out; have := HJ16.out; first | omega | exact Nat.le_refl _⟩, ⟨by repeat (first | (with_reducible first | exact HB.out | apply below_alloc | apply pw_below_drewN | apply below_drew1) | exact HB.out)⟩⟩
                · rw [if_neg c20] at H
                  have c20b0 : (t168 == t170) = false := beq_eq_false_iff_ne.mpr c20
                  have c20b1 : (t168 != t170) = true := bne_iff_ne.mpr c20
                  (first | rw [c20b0] | (simp only [i64_w, i32_w]; rw [c20b0]) | skip)
                  have H' := Aside0.mk H
                  clear H
                  go_wp2
                  go_meet
                  case rel => exact ⟨_, (true), (by first | rfl | (simp; done) | (simp [*]; done)), H', ⟨by have := HJ11.out; have := HJ16.out; first | omega | exact Nat.le_refl _⟩, ⟨by repeat (first | (with_reducible first | exact HB.out | apply below_alloc | apply pw_below_drewN | apply below_drew1) | exact HB.out)⟩⟩
              case rest =>
                clear HC19
                try clear c1
                try clear c2
                try clear p2
                try clear c5
                try clear c6
                try clear c7
                try clear c7b0
                try clear c7b1
                try clear c8
                try clear c13
                try clear c14
                try clear c15
                try clear c16
                try clear c16b0
                try clear c18
                try clear c18b0
                try clear c20
                try clear c20b0
                try clear c20b1
                try clear c21
                try clear c21b0
                try clear c21b1
                try clear c22
                try clear p2
                obtain ⟨kq, x71_18, rfl, HA, HJ18, HB⟩ := hcut
                cases kq with
                | zero => exact absurd HA.out (by simp [cupellaw19_DiagPlaces.j2])
                | succ kj18 =>
                  have H := HA.out
                  clear HA
                  simp only [cupellaw19_DiagPlaces.j2] at H
                  by_cases c23 : x71_18 = true
                  · subst c23
                    have H1 : (some false) = some r := by rw [if_pos rfl] at H; exact H
                    clear H
                    have H := H1
                    clear H1
                    obtain rfl := Option.some.inj H
                    go_wp2
                    go_ret
                    exact ⟨by first | rfl | (simp [errW_none, errW_some] <;> rfl) | (simp [*, errW_none, errW_some] <;> rfl), by repeat (first | (with_reducible first | exact HB.out | apply below_alloc | apply pw_below_drewN | apply below_drew1) | exact HB.out)⟩
                  · replace c23 := Bool.eq_false_iff.mpr c23
                    subst c23
                    have H1 : ((diag_Offset.f a0 a2 a3).bind fun bt174 => (cupellaw19_DiagPlaces.l0 kj18 a0 a2 a3 bt174.1 bt174.2 (-1) 0)) = some r := by rw [if_neg (show ¬ (false = true) by decide)] at H; exact H
                    clear H
                    have H := H1
                    clear H1
                    replace H := Option.bind_eq_some_iff.mp H
                    obtain ⟨⟨t174, t175⟩, A240, H⟩ := H
                    replace H : (cupellaw19_DiagPlaces.l0 kj18 a0 a2 a3 t174 t175 (-1) 0) = some r := H
                    have A24 := Aside0.mk A240
                    clear A240
                    have H' := Aside0.mk H
                    clear H
                    go_wp2_with (first | ((with_reducible refine gate_callee (f := 15) rfl ?_); refine goesL_ (some 76) rfl rfl Tryd.func15 (by kernel_rfl) rfl #[.string a0, .int .i64 a2, .int .i64 a3] rfl (by (try simp only [List.map_toArray, List.map_cons, List.map_nil]); first | done | rfl | (simp only [List.length_drop, List.length_take]; rfl)) ?_; (with_reducible refine (diag_Offset.calls a0 a2 a3 t174 t175 _ A24.out).mono ?_); rintro e w25 ⟨rfl, hb⟩; refine ⟨_, rfl, ?_⟩; have n0_ := Aside0.mk (below_step (by repeat (first | (with_reducible first | exact HB.out | apply below_alloc | apply pw_below_drewN | apply below_drew1) | exact HB.out)) hb); clear HB; have HB := n0_; clear n0_; (try clear hb); (try clear hb2); (try clear hk); (try clear hi)))
                    go_loopg [18, 19] kj18 (fun kq v18 v19 w' => ∃ (x18_4 : Int) (x19_4 : Int), v18 = .int .i64 x18_4 ∧ v19 = .int .i64 x19_4 ∧ Aside0 (cupellaw19_DiagPlaces.l0 kq a0 a2 a3 t174 t175 x18_4 x19_4 = some r) ∧ Aside0 (kq ≤ kj18) ∧ Aside0 (Below w.heap.size w w'))
                    case atStart => exact ⟨((-1)), (0), (by first | rfl | (simp; done) | (simp [*]; done)), (by first | rfl | (simp; done) | (simp [*]; done)), H', ⟨Nat.le_refl _⟩, ⟨by repeat (first | (with_reducible first | exact HB.out | apply below_alloc | apply pw_below_drewN | apply below_drew1) | exact HB.out)⟩⟩
                    case round =>
                      clear H'
                      try clear c1
                      try clear c2
                      try clear p2
                      try clear c5
                      try clear c6
                      try clear c7
                      try clear c7b0
                      try clear c7b1
                      try clear c8
                      try clear c13
                      try clear c14
                      try clear c15
                      try clear c16
                      try clear c16b0
                      try clear c18
                      try clear c18b0
                      try clear c20
                      try clear c20b0
                      try clear c20b1
                      try clear c21
                      try clear c21b0
                      try clear c21b1
                      try clear c22
                      try clear c23
                      try clear p2
                      obtain ⟨x18_4, x19_4, rfl, rfl, HA, HK4, HB⟩ := hrel
                      cases gk with
                      | zero => exact absurd HA.out (by simp [cupellaw19_DiagPlaces.l0])
                      | succ k4 =>
                        have H := HA.out
                        clear HA
                        simp only [cupellaw19_DiagPlaces.l0] at H
                        by_cases c26 : x19_4 ≤ (a0.size : Int)
                        · rw [if_pos c26] at H
                          have c26b0 : decide (x19_4 ≤ (a0.size : Int)) = true := decide_eq_true c26
                          clear c26
                          replace H := Option.bind_eq_some_iff.mp H
                          obtain ⟨⟨t176, t177⟩, A270, H⟩ := H
                          replace H : (if t176 = a2 then (if t177 = a3 then (cupellaw19_DiagPlaces.l0 k4 a0 a2 a3 t174 t175 x19_4 (wrap64 (x19_4 + 1))) else (cupellaw19_DiagPlaces.l0 k4 a0 a2 a3 t174 t175 x18_4 (wrap64 (x19_4 + 1)))) else (cupellaw19_DiagPlaces.l0 k4 a0 a2 a3 t174 t175 x18_4 (wrap64 (x19_4 + 1)))) = some r := H
                          have A27 := Aside0.mk A270
                          clear A270
                          by_cases c28 : t176 = a2
                          · rw [if_pos c28] at H
                            have c28b0 : (t176 == a2) = true := beq_iff_eq.mpr c28
                            have c28b1 : (t176 != a2) = false := bne_eq_false_iff_eq.mpr c28
                            clear c28
                            by_cases c29 : t177 = a3
                            · rw [if_pos c29] at H
                              have c29b0 : (t177 == a3) = true := beq_iff_eq.mpr c29
                              have c29b1 : (t177 != a3) = false := bne_eq_false_iff_eq.mpr c29
                              clear c29
                              have H' := Aside0.mk H
                              clear H
                              go_wp2_with (first | ((with_reducible refine gate_callee (f := 14) rfl ?_); refine goesL_ (some 88) rfl rfl Tryd.func14 (by kernel_rfl) rfl #[.string a0, .int .i64 x19_4] rfl (by (try simp only [List.map_toArray, List.map_cons, List.map_nil]); first | done | rfl | (simp only [List.length_drop, List.length_take]; rfl)) ?_; (with_reducible refine (cupelref19_Place.calls k4 a0 x19_4 t176 t177 _ A27.out).mono ?_); rintro e w' ⟨rfl, ⟨nd, rfl⟩⟩; refine ⟨_, rfl, ?_⟩))
                              go_roundg k4
                              case measure => have := HJ11.out; have := HJ16.out; have := HJ18.out; have := HK4.out; omega
                              case rel => exact ⟨(x19_4), (wrap64 (x19_4 + 1)), (by first | rfl | (simp; done) | (simp [*]; done)), (by first | rfl | (simp; done) | (simp [*]; done)), H', ⟨by have := HJ11.out; have := HJ16.out; have := HJ18.out; have := HK4.out; omega⟩, ⟨by repeat (first | (with_reducible first | exact HB.out | apply below_alloc | apply pw_below_drewN | apply below_drew1) | exact HB.out)⟩⟩
                            · rw [if_neg c29] at H
                              have c29b0 : (t177 == a3) = false := beq_eq_false_iff_ne.mpr c29
                              have c29b1 : (t177 != a3) = true := bne_iff_ne.mpr c29
                              have H' := Aside0.mk H
                              clear H
                              go_wp2_with (first | ((with_reducible refine gate_callee (f := 14) rfl ?_); refine goesL_ (some 88) rfl rfl Tryd.func14 (by kernel_rfl) rfl #[.string a0, .int .i64 x19_4] rfl (by (try simp only [List.map_toArray, List.map_cons, List.map_nil]); first | done | rfl | (simp only [List.length_drop, List.length_take]; rfl)) ?_; (with_reducible refine (cupelref19_Place.calls k4 a0 x19_4 t176 t177 _ A27.out).mono ?_); rintro e w' ⟨rfl, ⟨nd, rfl⟩⟩; refine ⟨_, rfl, ?_⟩))
                              go_roundg k4
                              case measure => have := HJ11.out; have := HJ16.out; have := HJ18.out; have := HK4.out; omega
                              case rel => exact ⟨(x18_4), (wrap64 (x19_4 + 1)), (by first | rfl | (simp; done) | (simp [*]; done)), (by first | rfl | (simp; done) | (simp [*]; done)), H', ⟨by have := HJ11.out; have := HJ16.out; have := HJ18.out; have := HK4.out; omega⟩, ⟨by repeat (first | (with_reducible first | exact HB.out | apply below_alloc | apply pw_below_drewN | apply below_drew1) | exact HB.out)⟩⟩
                          · rw [if_neg c28] at H
                            have c28b0 : (t176 == a2) = false := beq_eq_false_iff_ne.mpr c28
                            have c28b1 : (t176 != a2) = true := bne_iff_ne.mpr c28
                            have H' := Aside0.mk H
                            clear H
                            go_wp2_with (first | ((with_reducible refine gate_callee (f := 14) rfl ?_); refine goesL_ (some 88) rfl rfl Tryd.func14 (by kernel_rfl) rfl #[.string a0, .int .i64 x19_4] rfl (by (try simp only [List.map_toArray, List.map_cons, List.map_nil]); first | done | rfl | (simp only [List.length_drop, List.length_take]; rfl)) ?_; (with_reducible refine (cupelref19_Place.calls k4 a0 x19_4 t176 t177 _ A27.out).mono ?_); rintro e w' ⟨rfl, ⟨nd, rfl⟩⟩; refine ⟨_, rfl, ?_⟩))
                            go_roundg k4
                            case measure => have := HJ11.out; have := HJ16.out; have := HJ18.out; have := HK4.out; omega
                            case rel => exact ⟨(x18_4), (wrap64 (x19_4 + 1)), (by first | rfl | (simp; done) | (simp [*]; done)), (by first | rfl | (simp; done) | (simp [*]; done)), H', ⟨by have := HJ11.out; have := HJ16.out; have := HJ18.out; have := HK4.out; omega⟩, ⟨by repeat (first | (with_reducible first | exact HB.out | apply below_alloc | apply pw_below_drewN | apply below_drew1) | exact HB.out)⟩⟩
                        · rw [if_neg c26] at H
                          have c26b0 : decide (x19_4 ≤ (a0.size : Int)) = false := decide_eq_false c26
                          clear c26
                          by_cases c30 : (t175 == (decide (x18_4 ≥ 0))) = true
                          · rw [if_pos c30] at H
                            have c30b0 : (t175 == (decide (x18_4 ≥ 0))) = true := c30
                            (try (have c30b1 : decide (t175 = (decide (x18_4 ≥ 0))) = true := by simpa using c30))
                            (try (have c30b2 : (t175 == (decide (x18_4 ≥ 0))) = true := by simpa using c30))
                            clear c30
                            by_cases c31 : t175 = true
                            · subst c31
                              have H1 : (some (t174 == x18_4)) = some r := by rw [if_pos rfl] at H; exact H
                              clear H
                              have H := H1
                              clear H1
                              obtain rfl := Option.some.inj H
                              go_wp2
                              go_ret
                              exact ⟨by first | rfl | (simp [errW_none, errW_some] <;> rfl) | (simp [*, errW_none, errW_some] <;> rfl), by repeat (first | (with_reducible first | exact HB.out | apply below_alloc | apply pw_below_drewN | apply below_drew1) | exact HB.out)⟩
                            · replace c31 := Bool.eq_false_iff.mpr c31
                              subst c31
                              have H1 : (if t174 = 0 then (some true) else (some (t174 == x18_4))) = some r := by rw [if_neg (show ¬ (false = true) by decide)] at H; exact H
                              clear H
                              have H := H1
                              clear H1
                              by_cases c32 : t174 = 0
                              · rw [if_pos c32] at H
                                have c32b0 : (t174 == 0) = true := beq_iff_eq.mpr c32
                                have c32b1 : (t174 != 0) = false := bne_eq_false_iff_eq.mpr c32
                                clear c32
                                obtain rfl := Option.some.inj H
                                go_wp2
                                go_ret
                                exact ⟨by first | rfl | (simp [errW_none, errW_some] <;> rfl) | (simp [*, errW_none, errW_some] <;> rfl), by repeat (first | (with_reducible first | exact HB.out | apply below_alloc | apply pw_below_drewN | apply below_drew1) | exact HB.out)⟩
                              · rw [if_neg c32] at H
                                have c32b0 : (t174 == 0) = false := beq_eq_false_iff_ne.mpr c32
                                have c32b1 : (t174 != 0) = true := bne_iff_ne.mpr c32
                                obtain rfl := Option.some.inj H
                                go_wp2
                                go_ret
                                exact ⟨by first | rfl | (simp [errW_none, errW_some] <;> rfl) | (simp [*, errW_none, errW_some] <;> rfl), by repeat (first | (with_reducible first | exact HB.out | apply below_alloc | apply pw_below_drewN | apply below_drew1) | exact HB.out)⟩
                          · rw [if_neg c30] at H
                            have c30b0 : (t175 == (decide (x18_4 ≥ 0))) = false := by simpa using c30
                            (try (have c30b1 : decide (t175 = (decide (x18_4 ≥ 0))) = false := by simpa using c30))
                            (try (have c30b2 : (t175 == (decide (x18_4 ≥ 0))) = false := by simpa using c30))
                            (try (have c30b3 : ¬ (t175 = (decide (x18_4 ≥ 0))) := by simpa using c30))
                            clear c30
                            obtain rfl := Option.some.inj H
                            go_wp2
                            go_ret
                            exact ⟨by first | rfl | (simp [errW_none, errW_some] <;> rfl) | (simp [*, errW_none, errW_some] <;> rfl), by repeat (first | (with_reducible first | exact HB.out | apply below_alloc | apply pw_below_drewN | apply below_drew1) | exact HB.out)⟩
  · replace c6 := Bool.eq_false_iff.mpr c6
    subst c6
    have H1 : (some false) = some r := by rw [if_neg (show ¬ (false = true) by decide)] at H; exact H
    clear H
    have H := H1
    clear H1
    obtain rfl := Option.some.inj H
    go_enter Tryd.func5, Tryd.ntmps5
    go_wp2_with (first | ((with_reducible refine gate_callee (f := 8) rfl ?_); refine goesL_ (some 22) rfl rfl Tryd.func8 (by kernel_rfl) rfl #[] rfl (by (try simp only [List.map_toArray, List.map_cons, List.map_nil]); first | done | rfl | (simp only [List.length_drop, List.length_take]; rfl)) ?_; (with_reducible refine (cupellaw19_alive.calls  false _ A5.out (Tabs.below HT0.out (Nat.le_refl _) (by repeat (first | (with_reducible first | exact HB.out | apply below_alloc | apply pw_below_drewN | apply below_drew1) | exact HB.out)))).mono ?_); rintro e w33 ⟨rfl, hb⟩; refine ⟨_, rfl, ?_⟩; have n0_ := Aside0.mk (below_step (by repeat (first | (with_reducible first | exact HB.out | apply below_alloc | apply pw_below_drewN | apply below_drew1) | exact HB.out)) hb); clear HB; have HB := n0_; clear n0_; (try clear hb); (try clear hb2); (try clear hk); (try clear hi)))
    go_ret
    exact ⟨by first | rfl | (simp [errW_none, errW_some] <;> rfl) | (simp [*, errW_none, errW_some] <;> rfl), by repeat (first | (with_reducible first | exact HB.out | apply below_alloc | apply pw_below_drewN | apply below_drew1) | exact HB.out)⟩

/-- THE ONE PURE STATEMENT of cupellaw19_DiagPlaces: yours. -/
def cupellaw19_DiagPlaces.Pure : Prop := ∀ (a0 : ByteArray) (a1 : Int) (a2 : Int) (a3 : Int), a0.size ≤ 140737488351232 → (Lit.int .i64 a1).wf = true → (Lit.int .i64 a2).wf = true → (Lit.int .i64 a3).wf = true → ∃ k, cupellaw19_DiagPlaces.f k a0 a1 a2 a3 = some true
theorem cupellaw19_DiagPlaces.walk (P : cupellaw19_DiagPlaces.Pure) (a0 : ByteArray) (a1 : Int) (a2 : Int) (a3 : Int) (w : World) (w0 : a0.size ≤ 140737488351232) (w1 : (Lit.int .i64 a1).wf = true) (w2 : (Lit.int .i64 a2).wf = true) (w3 : (Lit.int .i64 a3).wf = true) (hT : Tabs w) :
    Calls Tryd.prog 5 #[.string a0, .int .i64 a1, .int .i64 a2, .int .i64 a3] w fun e w' => e = .returned (.bool true) ∧ Below w.heap.size w w' := by
  obtain ⟨k, h⟩ := P a0 a1 a2 a3 w0 w1 w2 w3
  refine (cupellaw19_DiagPlaces.calls k a0 a1 a2 a3 true w h hT).mono ?_
  rintro e w' ⟨rfl, hd⟩
  exact ⟨rfl, hd⟩

end Go.Proofs.YteinhpfjlfeaaaaDoor.PA
