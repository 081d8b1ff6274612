-- Written by a program of this session (wip/xprint.py over the kit's printer). Lean checks it.
import Derived.Test.YteinhpfjlfeaaaaDoorPAx0
import Derived.Test.YteinhpfjlfeaaaaDoorPAx4
import Derived.Test.YteinhpfjlfeaaaaDoorPAx5
import Derived.Test.YteinhpfjlfeaaaaDoorPAx11
import Derived.Test.YteinhpfjlfeaaaaDoorExtLinesR
namespace Go.Proofs.YteinhpfjlfeaaaaDoor.PA
open Go.RowKit Go.Proofs.YteinhpfjlfeaaaaDoorW.PrintWords Go.Proofs.YteinhpfjlfeaaaaDoorW.PrintLast Go.Proofs.YteinhpfjlfeaaaaDoorW.PrintMore
attribute [local go_sem] max2_int min2_int max_two min_two max_three min_three max_four min_four   -- for this text's walks alone
set_option linter.unusedVariables false
set_option linter.unusedSimpArgs false

/-! ### cupellaw19_DiagLines: function 7 -/
mutual
def cupellaw19_DiagLines.j0 : Nat → ByteArray → List (List (S23)) → List Int → Bool → Option (Bool)
  | 0, _, _, _, _ => none
  | k + 1, x0, x1, x2, x25 => if x25 = true then (some true) else (cupellaw19_DiagLines.l0 k x0 x1 x2 ([] : List (S46)) 0 0 0)
def cupellaw19_DiagLines.l0 : Nat → ByteArray → List (List (S23)) → List Int → List (S46) → Int → Int → Int → Option (Bool)
  | 0, _, _, _, _, _, _, _ => none
  | k + 1, x0, x1, x2, x7, x8, x9, x10 => if x10 < (x1.length : Int) then (if 0 ≤ x10 then (if ((rd_L11 x1 x10).length : Int) > 20 then (some true) else (cupellaw19_DiagLines.l1 k x0 x1 x2 x7 x8 x9 x10 (⟨#[]⟩ : ByteArray) 0 (⟨#[102]⟩ : ByteArray) ([] : List (S26)))) else (none)) else ((diag_Count.f k x7).bind fun bt194 => (if bt194.1 = x8 then (some (bt194.2 == x9)) else (some false)))
def cupellaw19_DiagLines.l1 : Nat → ByteArray → List (List (S23)) → List Int → List (S46) → Int → Int → Int → ByteArray → Int → ByteArray → List (S26) → Option (Bool)
  | 0, _, _, _, _, _, _, _, _, _, _, _ => none
  | k + 1, x0, x1, x2, x7, x8, x9, x10, x12, x13, x198000, x198001 => if 0 ≤ x10 then (if x10 < (x1.length : Int) then (if x13 < ((rd_L11 x1 x10).length : Int) then (if 0 ≤ x13 then (if (((rd_T23 (rd_L11 x1 x10) x13).f2).size : Int) > 100 then (some true) else (if x198001.length < 4398046511104 then ((cupelref19_Line.f k (⟨#[102]⟩ : ByteArray) x0 ((rd_T23 (rd_L11 x1 x10) x13).f0) ((rd_T23 (rd_L11 x1 x10) x13).f1) ((rd_T23 (rd_L11 x1 x10) x13).f2)).bind fun t208 => (if x12.size + t208.size ≤ 9223372036854775807 then (cupellaw19_DiagLines.l1 k x0 x1 x2 x7 x8 x9 x10 (x12 ++ t208) (wrap64 (x13 + 1)) x198000 (x198001 ++ [(⟨(rd_T23 (rd_L11 x1 x10) x13).f0, (rd_T23 (rd_L11 x1 x10) x13).f1, (rd_T23 (rd_L11 x1 x10) x13).f2⟩ : S26)])) else (none))) else (none))) else (none)) else (if x10 < (x2.length : Int) then (if 0 ≤ (Int.tmod (wrap64 (rd x2 x10)) 9) then (if (Int.tmod (wrap64 (rd x2 x10)) 9 : Int).toNat ≤ 35184372088832 then ((some (List.replicate (Int.tmod (wrap64 (rd x2 x10)) 9 : Int).toNat 0 : List Int)).bind fun y210 => ((diag_Lines.f x0 x198000 x198001 y210 ([] : List (S104))).bind fun t213 => (if t213.toList = x12.toList then (if x7.length < 1599289640401 then (cupellaw19_DiagLines.l0 k x0 x1 x2 (x7 ++ [(⟨x198000, x198001, y210, ([] : List (S104))⟩ : S46)]) (wrap64 (x8 + (x198001.length : Int))) (wrap64 (x9 + (y210.length : Int))) (wrap64 (x10 + 1))) else (none)) else (some false)))) else (none)) else (none)) else ((diag_Lines.f x0 x198000 x198001 ([] : List Int) ([] : List (S104))).bind fun t217 => (if t217.toList = x12.toList then (if x7.length < 1599289640401 then (cupellaw19_DiagLines.l0 k x0 x1 x2 (x7 ++ [(⟨x198000, x198001, ([] : List Int), ([] : List (S104))⟩ : S46)]) (wrap64 (x8 + (x198001.length : Int))) (wrap64 (x9 + (([] : List Int).length : Int))) (wrap64 (x10 + 1))) else (none)) else (some false))))) else (none)) else (none)
end
def cupellaw19_DiagLines.f (k : Nat) (a0 : ByteArray) (l1 : List (List (S23))) (l2 : List Int) : Option (Bool) := (cupellaw19_alive.f).bind fun t193 => (if t193 = true then (if (a0.size : Int) > 300 then (cupellaw19_DiagLines.j0 k a0 l1 l2 true) else (cupellaw19_DiagLines.j0 k a0 l1 l2 (decide ((l1.length : Int) > 10)))) else (some false))
theorem cupellaw19_DiagLines.mono_l : ∀ k, (∀ y0 y1 y2 y3, LeO (cupellaw19_DiagLines.j0 k y0 y1 y2 y3) (cupellaw19_DiagLines.j0 (k + 1) y0 y1 y2 y3)) ∧ (∀ y0 y1 y2 y3 y4 y5 y6, LeO (cupellaw19_DiagLines.l0 k y0 y1 y2 y3 y4 y5 y6) (cupellaw19_DiagLines.l0 (k + 1) y0 y1 y2 y3 y4 y5 y6)) ∧ (∀ y0 y1 y2 y3 y4 y5 y6 y7 y8 y9 y10, LeO (cupellaw19_DiagLines.l1 k y0 y1 y2 y3 y4 y5 y6 y7 y8 y9 y10) (cupellaw19_DiagLines.l1 (k + 1) y0 y1 y2 y3 y4 y5 y6 y7 y8 y9 y10))
  | 0 => ⟨fun _ _ _ _ r h => by simp [cupellaw19_DiagLines.j0] at h, fun _ _ _ _ _ _ _ r h => by simp [cupellaw19_DiagLines.l0] at h, fun _ _ _ _ _ _ _ _ _ _ _ r h => by simp [cupellaw19_DiagLines.l1] at h⟩
  | k + 1 => by
    obtain ⟨ih0, ih1, ih2⟩ := cupellaw19_DiagLines.mono_l k
    refine ⟨?_, ?_, ?_⟩
    · intro y0 y1 y2 y3
      unfold cupellaw19_DiagLines.j0
      repeat' first
      | (with_reducible exact ih0 _ _ _ _)
      | (with_reducible exact ih1 _ _ _ _ _ _ _)
      | (with_reducible exact ih2 _ _ _ _ _ _ _ _ _ _ _)
      | (with_reducible exact cupelref19_Line.mono _ _ _ _ _ _)
      | (with_reducible exact diag_Count.mono _ _)
      | (with_reducible exact LeO.refl _)
      | (with_reducible exact LeO.none _)
      | (with_reducible refine LeO.ite ?_ ?_)
      | (with_reducible refine LeO.bind ?_ (fun _ => ?_))
      | exact ih0 _ _ _ _
      | exact ih1 _ _ _ _ _ _ _
      | exact ih2 _ _ _ _ _ _ _ _ _ _ _
      | exact cupelref19_Line.mono _ _ _ _ _ _
      | exact diag_Count.mono _ _
      | exact LeO.none _
      | refine LeO.ite ?_ ?_
      | refine LeO.bind ?_ (fun _ => ?_)
    · intro y0 y1 y2 y3 y4 y5 y6
      unfold cupellaw19_DiagLines.l0
      repeat' first
      | (with_reducible exact ih0 _ _ _ _)
      | (with_reducible exact ih1 _ _ _ _ _ _ _)
      | (with_reducible exact ih2 _ _ _ _ _ _ _ _ _ _ _)
      | (with_reducible exact cupelref19_Line.mono _ _ _ _ _ _)
      | (with_reducible exact diag_Count.mono _ _)
      | (with_reducible exact LeO.refl _)
      | (with_reducible exact LeO.none _)
      | (with_reducible refine LeO.ite ?_ ?_)
      | (with_reducible refine LeO.bind ?_ (fun _ => ?_))
      | exact ih0 _ _ _ _
      | exact ih1 _ _ _ _ _ _ _
      | exact ih2 _ _ _ _ _ _ _ _ _ _ _
      | exact cupelref19_Line.mono _ _ _ _ _ _
      | exact diag_Count.mono _ _
      | exact LeO.none _
      | refine LeO.ite ?_ ?_
      | refine LeO.bind ?_ (fun _ => ?_)
    · intro y0 y1 y2 y3 y4 y5 y6 y7 y8 y9 y10
      unfold cupellaw19_DiagLines.l1
      repeat' first
      | (with_reducible exact ih0 _ _ _ _)
      | (with_reducible exact ih1 _ _ _ _ _ _ _)
      | (with_reducible exact ih2 _ _ _ _ _ _ _ _ _ _ _)
      | (with_reducible exact cupelref19_Line.mono _ _ _ _ _ _)
      | (with_reducible exact diag_Count.mono _ _)
      | (with_reducible exact LeO.refl _)
      | (with_reducible exact LeO.none _)
      | (with_reducible refine LeO.ite ?_ ?_)
      | (with_reducible refine LeO.bind ?_ (fun _ => ?_))
      | exact ih0 _ _ _ _
      | exact ih1 _ _ _ _ _ _ _
      | exact ih2 _ _ _ _ _ _ _ _ _ _ _
      | exact cupelref19_Line.mono _ _ _ _ _ _
      | exact diag_Count.mono _ _
      | exact LeO.none _
      | refine LeO.ite ?_ ?_
      | refine LeO.bind ?_ (fun _ => ?_)
theorem cupellaw19_DiagLines.mono : ∀ a0 a1 a2 k, LeO (cupellaw19_DiagLines.f k a0 a1 a2) (cupellaw19_DiagLines.f (k + 1) a0 a1 a2) := by
  intro a0 a1 a2 k
  obtain ⟨ih0, ih1, ih2⟩ := cupellaw19_DiagLines.mono_l k
  unfold cupellaw19_DiagLines.f
  repeat' first
      | (with_reducible exact ih0 _ _ _ _)
      | (with_reducible exact ih1 _ _ _ _ _ _ _)
      | (with_reducible exact ih2 _ _ _ _ _ _ _ _ _ _ _)
      | (with_reducible exact cupelref19_Line.mono _ _ _ _ _ _)
      | (with_reducible exact diag_Count.mono _ _)
      | (with_reducible exact LeO.refl _)
      | (with_reducible exact LeO.none _)
      | (with_reducible refine LeO.ite ?_ ?_)
      | (with_reducible refine LeO.bind ?_ (fun _ => ?_))
      | exact ih0 _ _ _ _
      | exact ih1 _ _ _ _ _ _ _
      | exact ih2 _ _ _ _ _ _ _ _ _ _ _
      | exact cupelref19_Line.mono _ _ _ _ _ _
      | exact diag_Count.mono _ _
      | exact LeO.none _
      | refine LeO.ite ?_ ?_
      | refine LeO.bind ?_ (fun _ => ?_)
def cupellaw19_DiagLines.T19 : Bool × List (List Nat × List Nat) := (true, [([], []), ([0], [0]), ([], []), ([], []), ([2, 3], [2, 3]), ([4], [4]), ([], []), ([5, 6], [5, 6]), ([7], [7]), ([8], [8]), ([1, 9], [1, 9]), ([0, 1, 2, 3, 4, 5, 6, 7, 8, 9, 10], []), ([11, 10, 10, 0, 1, 2, 3, 4, 5, 6, 7, 8, 9, 10], [10, 11])])
def cupellaw19_DiagLines.B19 : List Nat := [0, 1, 0, 0, 12, 28, 0, 124, 252, 508, 1023, 2047, 4095]
theorem cupellaw19_DiagLines.tab19 : rtab .any (opsOf Tryd.f7 19) = cupellaw19_DiagLines.T19 := by kernel_rfl
theorem cupellaw19_DiagLines.bits19 : waitsOk cupellaw19_DiagLines.T19.2 cupellaw19_DiagLines.B19 = true := by kernel_rfl
set_option maxHeartbeats 8000000 in
set_option maxRecDepth 100000 in
theorem cupellaw19_DiagLines.calls (k : Nat) (a0 : ByteArray) (A1 : Option Addr) (c1 : Nat) (l1 : List (List (S23))) (A2 : Option Addr) (c2 : Nat) (l2 : List Int) (r : Bool) (w : World) (hr1 : Kd.C (Kd.slice 23 k23) w A1 l1.length l1) (hc1 : l1.length ≤ c1) (hr2 : Kd.C (Kd.int .u8) w A2 l2.length l2) (hc2 : l2.length ≤ c2) (h : cupellaw19_DiagLines.f k a0 l1 l2 = some r) (hT : Tabs w) :
    Calls Tryd.prog 7 #[.string a0, .slice A1 l1.length c1, .slice A2 l2.length c2] w fun e w' => e = .returned (.bool r) ∧ Below w.heap.size w w' := by
  have HT0 := Aside0.mk hT
  clear hT
  have hu46 := Tryd.underlying46
  have hu23 := Tryd.underlying23
  have HR1 := Aside0.mk hr1
  have HC1 := Aside0.mk hc1
  clear hr1 hc1
  have HR2 := Aside0.mk hr2
  have HC2 := Aside0.mk hc2
  clear hr2 hc2
  have HB := Aside0.mk (Below.refl w.heap.size w)
  have H : ((cupellaw19_alive.f).bind fun t193 => (if t193 = true then (if (a0.size : Int) > 300 then (cupellaw19_DiagLines.j0 k a0 l1 l2 true) else (cupellaw19_DiagLines.j0 k a0 l1 l2 (decide ((l1.length : Int) > 10)))) else (some false))) = some r := h
  clear h
  replace H := Option.bind_eq_some_iff.mp H
  obtain ⟨t193, A40, H⟩ := H
  replace H : (if t193 = true then (if (a0.size : Int) > 300 then (cupellaw19_DiagLines.j0 k a0 l1 l2 true) else (cupellaw19_DiagLines.j0 k a0 l1 l2 (decide ((l1.length : Int) > 10)))) else (some false)) = some r := H
  have A4 := Aside0.mk A40
  clear A40
  by_cases c5 : t193 = true
  · subst c5
    have H1 : (if (a0.size : Int) > 300 then (cupellaw19_DiagLines.j0 k a0 l1 l2 true) else (cupellaw19_DiagLines.j0 k a0 l1 l2 (decide ((l1.length : Int) > 10)))) = some r := by rw [if_pos rfl] at H; exact H
    clear H
    have H := H1
    clear H1
    have HC6 := Aside0.mk H
    clear H
    go_enter Tryd.func7, Tryd.ntmps7
    go_upto_region 3 with (first | ((with_reducible refine gate_callee (f := 8) rfl ?_); refine goesL_ (some 16) rfl rfl Tryd.func8 (by kernel_rfl) rfl #[] rfl (by (try simp only [List.map_toArray, List.map_cons, List.map_nil]); first | done | rfl | (simp only [List.length_drop, List.length_take]; rfl)) ?_; (with_reducible refine (cupellaw19_alive.calls  true _ A4.out (Tabs.below HT0.out (Nat.le_refl _) (by repeat (first | (with_reducible first | exact HB.out | apply below_alloc | apply pw_below_drewN | apply below_drew1) | exact HB.out)))).mono ?_); rintro e w7 ⟨rfl, hb⟩; refine ⟨_, rfl, ?_⟩; have n0_ := Aside0.mk (below_step (by repeat (first | (with_reducible first | exact HB.out | apply below_alloc | apply pw_below_drewN | apply below_drew1) | exact HB.out)) hb); clear HB; have HB := n0_; clear n0_; (try clear hb); (try clear hb2); (try clear hk); (try clear hi)))
    (try simp only [Act.put, List.setIfInBounds_toArray, List.set_cons_zero, List.set_cons_succ])
    go_cut [25] (fun v25 wc => ∃ (kq : Nat) (x25_5 : Bool), v25 = .bool x25_5 ∧ Aside0 (cupellaw19_DiagLines.j0 kq a0 l1 l2 x25_5 = some r) ∧ Aside0 (kq ≤ k) ∧ Aside0 (Below w.heap.size w wc))
    case first =>
      have H := HC6.out
      clear HC6
      by_cases c8 : (a0.size : Int) > 300
      · rw [if_pos c8] at H
        have c8b0 : decide (300 < (a0.size : Int)) = true := decide_eq_true c8
        have c8b1 : decide (300 < a0.size) = true := decide_eq_true (by omega)
        clear c8
        (first | rw [c8b0] | (simp only [i64_w, i32_w]; rw [c8b0]) | skip)
        have H' := Aside0.mk H
        clear H
        go_wp2
        go_meet
        case rel => exact ⟨_, (true), (by first | rfl | (simp; done) | (simp [*]; done)), H', ⟨by first | omega | exact Nat.le_refl _⟩, ⟨by repeat (first | (with_reducible first | exact HB.out | apply below_alloc | apply pw_below_drewN | apply below_drew1) | exact HB.out)⟩⟩
      · rw [if_neg c8] at H
        have c8b0 : decide (300 < (a0.size : Int)) = false := decide_eq_false c8
        have c8b1 : decide (300 < a0.size) = false := decide_eq_false (by omega)
        clear c8
        (first | rw [c8b0] | (simp only [i64_w, i32_w]; rw [c8b0]) | skip)
        have H' := Aside0.mk H
        clear H
        go_wp2
        go_meet
        case rel => exact ⟨_, (decide ((l1.length : Int) > 10)), (by first | rfl | (simp; done) | (simp [*]; done)), H', ⟨by first | omega | exact Nat.le_refl _⟩, ⟨by repeat (first | (with_reducible first | exact HB.out | apply below_alloc | apply pw_below_drewN | apply below_drew1) | exact HB.out)⟩⟩
    case rest =>
      clear HC6
      try clear c1
      try clear c2
      try clear p2
      try clear c5
      try clear c7
      try clear c8
      try clear c8b0
      try clear c8b1
      obtain ⟨kq, x25_5, rfl, HA, HJ5, HB⟩ := hcut
      cases kq with
      | zero => exact absurd HA.out (by simp [cupellaw19_DiagLines.j0])
      | succ kj5 =>
        have H := HA.out
        clear HA
        simp only [cupellaw19_DiagLines.j0] at H
        by_cases c9 : x25_5 = true
        · subst c9
          have H1 : (some true) = some r := by rw [if_pos rfl] at H; exact H
          clear H
          have H := H1
          clear H1
          obtain rfl := Option.some.inj H
          go_wp2
          go_ret
          exact ⟨by first | rfl | (simp [errW_none, errW_some] <;> rfl) | (simp [*, errW_none, errW_some] <;> rfl), by repeat (first | (with_reducible first | exact HB.out | apply below_alloc | apply pw_below_drewN | apply below_drew1) | exact HB.out)⟩
        · replace c9 := Bool.eq_false_iff.mpr c9
          subst c9
          have H1 : (cupellaw19_DiagLines.l0 kj5 a0 l1 l2 ([] : List (S46)) 0 0 0) = some r := by rw [if_neg (show ¬ (false = true) by decide)] at H; exact H
          clear H
          have H := H1
          clear H1
          have H' := Aside0.mk H
          clear H
          go_wp2
          go_loopg [7, 8, 9, 10] kj5 (fun kq v7 v8 v9 v10 w' => ∃ (x7_2 : List (S46)) (x8_2 : Int) (x9_2 : Int) (x10_2 : Int), v8 = .int .i64 x8_2 ∧ v9 = .int .i64 x9_2 ∧ v10 = .int .i64 x10_2 ∧ Aside0 (cupellaw19_DiagLines.l0 kq a0 l1 l2 x7_2 x8_2 x9_2 x10_2 = some r) ∧ Aside0 (kq ≤ kj5) ∧ Aside0 (Kd.S k46 46 w' w.heap.size (fun _ => True) v7 x7_2) ∧ Aside0 (Below w.heap.size w w'))
          case atStart => exact ⟨(([] : List (S46))), (0), (0), (0), (by first | rfl | (simp; done) | (simp [*]; done)), (by first | rfl | (simp; done) | (simp [*]; done)), (by first | rfl | (simp; done) | (simp [*]; done)), H', ⟨Nat.le_refl _⟩, ⟨by first | exact Kd.S_nil _ _ _ _ _ | exact Kd.N_nil _ _ _ _ _ | exact Kd.V_nil _ _ _ _ _ | exact Kd.Q_nil _ _ _ _ _ | exact Kd.R_nil _ _ _ _ _⟩, ⟨by repeat (first | (with_reducible first | exact HB.out | apply below_alloc | apply pw_below_drewN | apply below_drew1) | exact HB.out)⟩⟩
          case round =>
            clear H'
            try clear c1
            try clear c2
            try clear p2
            try clear c5
            try clear c7
            try clear c8
            try clear c8b0
            try clear c8b1
            try clear c9
            try clear p2
            obtain ⟨x7_2, x8_2, x9_2, x10_2, rfl, rfl, rfl, HA, HK2, HO_7, HB⟩ := hrel
            cases gk with
            | zero => exact absurd HA.out (by simp [cupellaw19_DiagLines.l0])
            | succ k2 =>
              have H := HA.out
              clear HA
              simp only [cupellaw19_DiagLines.l0] at H
              by_cases c10 : x10_2 < (l1.length : Int)
              · rw [if_pos c10] at H
                have c10b0 : decide (x10_2 < (l1.length : Int)) = true := decide_eq_true c10
                clear c10
                by_cases c11 : 0 ≤ x10_2
                · rw [if_pos c11] at H
                  have c11b0 : decide (0 ≤ x10_2) = true := decide_eq_true c11
                  clear c11
                  by_cases c12 : ((rd_L11 l1 x10_2).length : Int) > 20
                  · rw [if_pos c12] at H
                    have c12b0 : decide (20 < ((rd_L11 l1 x10_2).length : Int)) = true := decide_eq_true c12
                    have c12b1 : decide (20 < (rd_L11 l1 x10_2).length) = true := decide_eq_true (by omega)
                    clear c12
                    obtain rfl := Option.some.inj H
                    have p196 : 0 ≤ (x10_2 : Int) := of_decide_eq_true (by first | (with_reducible assumption) | assumption)
                    have q196 : x10_2 < (l1.length : Int) := of_decide_eq_true (by first | (with_reducible assumption) | assumption)
                    obtain ⟨ad196, A196_0, c196_0, e196, hx196_0, hl196_0, hi196_0⟩ := at_L11 HR1.out x10_2 p196 q196
                    cases e196
                    replace hx196_0 := (HB.out.cell (World.block_lt_of_cell? w _ hx196_0)).trans hx196_0
                    have HR196_0 := Aside0.mk hi196_0
                    have HC196_0 := Aside0.mk hl196_0
                    clear hi196_0 hl196_0
                    replace p196 := eq_true p196
                    replace q196 := eq_true q196
                    go_wp2
                    go_ret
                    exact ⟨by first | rfl | (simp [errW_none, errW_some] <;> rfl) | (simp [*, errW_none, errW_some] <;> rfl), by repeat (first | (with_reducible first | exact HB.out | apply below_alloc | apply pw_below_drewN | apply below_drew1) | exact HB.out)⟩
                  · rw [if_neg c12] at H
                    have c12b0 : decide (20 < ((rd_L11 l1 x10_2).length : Int)) = false := decide_eq_false c12
                    have c12b1 : decide (20 < (rd_L11 l1 x10_2).length) = false := decide_eq_false (by omega)
                    clear c12
                    have H' := Aside0.mk H
                    clear H
                    have p196 : 0 ≤ (x10_2 : Int) := of_decide_eq_true (by first | (with_reducible assumption) | assumption)
                    have q196 : x10_2 < (l1.length : Int) := of_decide_eq_true (by first | (with_reducible assumption) | assumption)
                    obtain ⟨ad196, A196_0, c196_0, e196, hx196_0, hl196_0, hi196_0⟩ := at_L11 HR1.out x10_2 p196 q196
                    cases e196
                    replace hx196_0 := (HB.out.cell (World.block_lt_of_cell? w _ hx196_0)).trans hx196_0
                    have HR196_0 := Aside0.mk hi196_0
                    have HC196_0 := Aside0.mk hl196_0
                    clear hi196_0 hl196_0
                    replace p196 := eq_true p196
                    replace q196 := eq_true q196
                    go_wp2_with (first | ((with_reducible refine gate_dst (N := 11) rfl ?_); (try (refine gate_guard (by rfl) ?_; dsimp only)); refine box_event ?hg (N := 11) ?hd (cs := #[.string (⟨#[]⟩ : ByteArray), .slice none 0 0, .slice none 0 0, .slice none 0 0]) (t := 46) ?hr ?_; (case hd => rfl); (case hg => rfl); (case hr => first | (go_simp; done) | (go_simp; rfl)); intro gb197 hg w13 hbox hb; have n0_ := Aside0.mk (Kd.S_below (Kd.S_elderB (by (with_reducible repeat (first | apply Kd.S_alloc | apply Kd.S_drewN | apply Kd.S_drew)); exact HO_7.out) gb197 (Nat.le_of_eq hg.symm)) hb); have n1_ := Aside0.mk (below_step (by repeat (first | (with_reducible first | exact HB.out | apply below_alloc | apply pw_below_drewN | apply below_drew1) | exact HB.out)) hb); have n2_ := Aside0.mk (hbox); have n3_ := Aside0.mk ((by rw [hg]; exact (below_size (by repeat (first | (with_reducible first | exact HB.out | apply below_alloc | apply pw_below_drewN | apply below_drew1) | exact HB.out))) : w.heap.size ≤ gb197)); have n4_ := Aside0.mk ((by rw [hg]; exact (below_size (by repeat (first | (with_reducible first | exact HB.out | apply below_alloc | apply pw_below_drewN | apply below_drew1) | exact HB.out))) : w.heap.size ≤ gb197)); clear HO_7; clear HB; have HO_7 := n0_; have HB := n1_; have BK197 := n2_; have GW197 := n3_; have GE197 := n4_; clear n0_ n1_ n2_ n3_ n4_; clear hb hbox hg; have hcz14_0 : w13.cell? ⟨gb197, 0, none⟩ = some (.string (⟨#[]⟩ : ByteArray)) := (blk_cell BK197.out 0).trans rfl; have hcz14_1 : w13.cell? ⟨gb197, 1, none⟩ = some (.slice none 0 0) := (blk_cell BK197.out 1).trans rfl; have hcz14_2 : w13.cell? ⟨gb197, 2, none⟩ = some (.slice none 0 0) := (blk_cell BK197.out 2).trans rfl; have hcz14_3 : w13.cell? ⟨gb197, 3, none⟩ = some (.slice none 0 0) := (blk_cell BK197.out 3).trans rfl; have hfz14_0 := blk_frozen BK197.out 0; have hfz14_1 := blk_frozen BK197.out 1; have hfz14_2 := blk_frozen BK197.out 2; have hfz14_3 := blk_frozen BK197.out 3))
                    go_loopg [12, 13] k2 (fun kq v12 v13 w' => ∃ (x12_3 : ByteArray) (x13_3 : Int) (x198001_3 : List (S26)) (u198001 : Value), v12 = .string x12_3 ∧ v13 = .int .i64 x13_3 ∧ Aside0 (cupellaw19_DiagLines.l1 kq a0 l1 l2 x7_2 x8_2 x9_2 x10_2 x12_3 x13_3 (⟨#[102]⟩ : ByteArray) x198001_3 = some r) ∧ Aside0 (kq ≤ k2) ∧ Aside0 (Kd.S k46 46 w' w.heap.size (fun k_ => some k_ ≠ (u198001 : Value).ownBlock ∧ k_ ≠ gb197) u7 x7_2) ∧ Aside0 (Kd.R k26 26 w' w.heap.size (fun _ => True) u198001 x198001_3) ∧ Aside0 (w'.heap[gb197]? = some (.cells #[.string (⟨#[102]⟩ : ByteArray), u198001, (.slice none 0 0), (.slice none 0 0)] 46 (0, 0))) ∧ Aside0 (Below w.heap.size w w'))
                    case atStart => exact ⟨((⟨#[]⟩ : ByteArray)), (0), (([] : List (S26))), (.slice none 0 0), (by first | rfl | (simp; done) | (simp [*]; done)), (by first | rfl | (simp; done) | (simp [*]; done)), H', ⟨Nat.le_refl _⟩, ⟨by (with_reducible repeat (first | apply Kd.S_alloc | apply Kd.S_drewN | apply Kd.S_drew)); exact Kd.S_mono (Kd.S_far (p := ⟨gb197, 3, none⟩) (Kd.S_far (p := ⟨gb197, 2, none⟩) (Kd.S_far (p := ⟨gb197, 1, none⟩) (Kd.S_far (p := ⟨gb197, 0, none⟩) (Kd.S_mono HO_7.out (fun k_ hk => (⟨hk, hk.2⟩ : _ ∧ k_ ≠ gb197))) (fun _ hk => hk.2) (.string (⟨#[102]⟩ : ByteArray))) (fun _ hk => hk.2) (.slice none 0 0)) (fun _ hk => hk.2) (.slice none 0 0)) (fun _ hk => hk.2) (.slice none 0 0)) (fun _ hk => ⟨(by simp [Value.ownBlock]), hk.1.2⟩)⟩, ⟨by first | exact Kd.R_nil _ _ _ _ _ | exact Kd.N_nil _ _ _ _ _ | exact Kd.V_nil _ _ _ _ _ | exact Kd.Q_nil _ _ _ _ _ | exact Kd.S_nil _ _ _ _ _⟩, ⟨by (with_reducible repeat (first | refine blk_drewN ?_ _ | refine blk_drew ?_ | refine blk_alloc ?_ _)); refine blk_put (cs := #[.string (⟨#[102]⟩ : ByteArray), .slice none 0 0, .slice none 0 0, .slice none 0 0]) ?_ 3 _ rfl; (with_reducible repeat (first | refine blk_drewN ?_ _ | refine blk_drew ?_ | refine blk_alloc ?_ _)); refine blk_put (cs := #[.string (⟨#[102]⟩ : ByteArray), .slice none 0 0, .slice none 0 0, .slice none 0 0]) ?_ 2 _ rfl; (with_reducible repeat (first | refine blk_drewN ?_ _ | refine blk_drew ?_ | refine blk_alloc ?_ _)); refine blk_put (cs := #[.string (⟨#[102]⟩ : ByteArray), .slice none 0 0, .slice none 0 0, .slice none 0 0]) ?_ 1 _ rfl; (with_reducible repeat (first | refine blk_drewN ?_ _ | refine blk_drew ?_ | refine blk_alloc ?_ _)); refine blk_put (cs := #[.string (⟨#[]⟩ : ByteArray), .slice none 0 0, .slice none 0 0, .slice none 0 0]) ?_ 0 _ rfl; (with_reducible repeat (first | refine blk_drewN ?_ _ | refine blk_drew ?_ | refine blk_alloc ?_ _)); exact BK197.out⟩, ⟨by repeat (first | (with_reducible first | exact HB.out | apply below_alloc | apply pw_below_drewN | apply below_drew1 | refine below_set ?_ GE197.out) | exact HB.out)⟩⟩
                    case round =>
                      clear H'
                      try clear c1
                      try clear p1
                      try clear q1
                      try clear hx1
                      try clear c2
                      try clear p2
                      try clear c5
                      try clear c7
                      try clear c8
                      try clear c8b0
                      try clear c8b1
                      try clear c9
                      try clear c10
                      try clear c10b0
                      try clear c11
                      try clear c11b0
                      try clear c12
                      try clear c12b0
                      try clear c12b1
                      try clear hcz14_0
                      try clear hcz14_1
                      try clear hcz14_2
                      try clear hcz14_3
                      try clear hfz14_0
                      try clear hfz14_1
                      try clear hfz14_2
                      try clear hfz14_3
                      try clear hx196_0
                      try clear p196
                      try clear p2
                      try clear q196
                      obtain ⟨x12_3, x13_3, x198001_3, u198001, rfl, rfl, HA, HK3, HO_7, HO_198001, BK197, HB⟩ := hrel
                      cases gk with
                      | zero => exact absurd HA.out (by simp [cupellaw19_DiagLines.l1])
                      | succ k3 =>
                        have H := HA.out
                        clear HA
                        simp only [cupellaw19_DiagLines.l1] at H
                        by_cases c15 : 0 ≤ x10_2
                        · rw [if_pos c15] at H
                          have c15b0 : decide (0 ≤ x10_2) = true := decide_eq_true c15
                          clear c15
                          by_cases c16 : x10_2 < (l1.length : Int)
                          · rw [if_pos c16] at H
                            have c16b0 : decide (x10_2 < (l1.length : Int)) = true := decide_eq_true c16
                            clear c16
                            by_cases c17 : x13_3 < ((rd_L11 l1 x10_2).length : Int)
                            · rw [if_pos c17] at H
                              have c17b0 : decide (x13_3 < ((rd_L11 l1 x10_2).length : Int)) = true := decide_eq_true c17
                              clear c17
                              by_cases c18 : 0 ≤ x13_3
                              · rw [if_pos c18] at H
                                have c18b0 : decide (0 ≤ x13_3) = true := decide_eq_true c18
                                clear c18
                                by_cases c19 : (((rd_T23 (rd_L11 l1 x10_2) x13_3).f2).size : Int) > 100
                                · rw [if_pos c19] at H
                                  have c19b0 : decide (100 < (((rd_T23 (rd_L11 l1 x10_2) x13_3).f2).size : Int)) = true := decide_eq_true c19
                                  have c19b1 : decide (100 < ((rd_T23 (rd_L11 l1 x10_2) x13_3).f2).size) = true := decide_eq_true (by omega)
                                  clear c19
                                  obtain rfl := Option.some.inj H
                                  have p198 : 0 ≤ (x10_2 : Int) := of_decide_eq_true (by first | (with_reducible assumption) | assumption)
                                  have q198 : x10_2 < (l1.length : Int) := of_decide_eq_true (by first | (with_reducible assumption) | assumption)
                                  obtain ⟨ad198, A198_0, c198_0, e198, hx198_0, hl198_0, hi198_0⟩ := at_L11 HR1.out x10_2 p198 q198
                                  obtain rfl : ad196 = ad198 := (by injection e198)
                                  replace hx198_0 := (HB.out.cell (World.block_lt_of_cell? w _ hx198_0)).trans hx198_0
                                  have HR198_0 := Aside0.mk hi198_0
                                  have HC198_0 := Aside0.mk hl198_0
                                  clear hi198_0 hl198_0
                                  replace p198 := eq_true p198
                                  replace q198 := eq_true q198
                                  have p199 : 0 ≤ (x10_2 : Int) := of_decide_eq_true (by first | (with_reducible assumption) | assumption)
                                  have q199 : x10_2 < (l1.length : Int) := of_decide_eq_true (by first | (with_reducible assumption) | assumption)
                                  obtain ⟨ad199, A199_0, c199_0, e199, hx199_0, hl199_0, hi199_0⟩ := at_L11 HR1.out x10_2 p199 q199
                                  obtain rfl : ad196 = ad199 := (by injection e199)
                                  replace hx199_0 := (HB.out.cell (World.block_lt_of_cell? w _ hx199_0)).trans hx199_0
                                  have HR199_0 := Aside0.mk hi199_0
                                  have HC199_0 := Aside0.mk hl199_0
                                  clear hi199_0 hl199_0
                                  replace p199 := eq_true p199
                                  replace q199 := eq_true q199
                                  have ea_ := Option.some.inj (hx198_0.symm.trans hx199_0)
                                  injection ea_ with ea_ en_ ec_
                                  subst ea_
                                  subst ec_
                                  clear en_
                                  have p200 : 0 ≤ (x13_3 : Int) := of_decide_eq_true (by first | (with_reducible assumption) | assumption)
                                  have q200 : x13_3 < ((rd_L11 l1 x10_2).length : Int) := of_decide_eq_true (by first | (with_reducible assumption) | assumption)
                                  obtain ⟨ad200, e200, hx200_0, hx200_1, hx200_2⟩ := at_T23 HR199_0.out x13_3 p200 q200
                                  cases e200
                                  replace hx200_0 := (HB.out.cell (World.block_lt_of_cell? w _ hx200_0)).trans hx200_0
                                  replace hx200_1 := (HB.out.cell (World.block_lt_of_cell? w _ hx200_1)).trans hx200_1
                                  replace hx200_2 := (HB.out.cell (World.block_lt_of_cell? w _ hx200_2)).trans hx200_2
                                  replace p200 := eq_true p200
                                  replace q200 := eq_true q200
                                  go_wp2
                                  go_ret
                                  exact ⟨by first | rfl | (simp [errW_none, errW_some] <;> rfl) | (simp [*, errW_none, errW_some] <;> rfl), by repeat (first | (with_reducible first | exact HB.out | apply below_alloc | apply pw_below_drewN | apply below_drew1 | refine below_set ?_ GE197.out) | exact HB.out)⟩
                                · rw [if_neg c19] at H
                                  have c19b0 : decide (100 < (((rd_T23 (rd_L11 l1 x10_2) x13_3).f2).size : Int)) = false := decide_eq_false c19
                                  have c19b1 : decide (100 < ((rd_T23 (rd_L11 l1 x10_2) x13_3).f2).size) = false := decide_eq_false (by omega)
                                  clear c19
                                  by_cases c20 : x198001_3.length < 4398046511104
                                  · rw [if_pos c20] at H
                                    have LMc20 := Aside0.mk c20
                                    clear c20
                                    obtain ⟨y203, hy203⟩ : ∃ y_ : List (S26), y_ = (x198001_3 ++ [(⟨(rd_T23 (rd_L11 l1 x10_2) x13_3).f0, (rd_T23 (rd_L11 l1 x10_2) x13_3).f1, (rd_T23 (rd_L11 l1 x10_2) x13_3).f2⟩ : S26)]) := ⟨_, rfl⟩
                                    replace H : ((cupelref19_Line.f k3 (⟨#[102]⟩ : ByteArray) a0 ((rd_T23 (rd_L11 l1 x10_2) x13_3).f0) ((rd_T23 (rd_L11 l1 x10_2) x13_3).f1) ((rd_T23 (rd_L11 l1 x10_2) x13_3).f2)).bind fun t208 => (if x12_3.size + t208.size ≤ 9223372036854775807 then (cupellaw19_DiagLines.l1 k3 a0 l1 l2 x7_2 x8_2 x9_2 x10_2 (x12_3 ++ t208) (wrap64 (x13_3 + 1)) (⟨#[102]⟩ : ByteArray) y203) else (none))) = some r := by first | (rw [hy203]; with_reducible exact H) | (have H2_ := (Option.bind_some _ _).symm.trans H; rw [hy203]; with_reducible exact H2_) | (have H2_ := (Option.bind_some _ _).symm.trans H; with_reducible exact H2_) | with_reducible exact H | (rw [hy203]; exact H) | exact H
                                    have Ny203 := Aside0.mk hy203
                                    clear hy203
                                    replace H := Option.bind_eq_some_iff.mp H
                                    obtain ⟨t208, A210, H⟩ := H
                                    replace H : (if x12_3.size + t208.size ≤ 9223372036854775807 then (cupellaw19_DiagLines.l1 k3 a0 l1 l2 x7_2 x8_2 x9_2 x10_2 (x12_3 ++ t208) (wrap64 (x13_3 + 1)) (⟨#[102]⟩ : ByteArray) y203) else (none)) = some r := H
                                    have A21 := Aside0.mk A210
                                    clear A210
                                    by_cases c22 : x12_3.size + t208.size ≤ 9223372036854775807
                                    · rw [if_pos c22] at H
                                      have c22b0 := eq_true c22
                                      have c22b9 := eq_false (Nat.not_lt.2 c22)
                                      try simp only [ByteArray.size_append] at c22b9
                                      have c22b1 : decide (x12_3.size + t208.size ≤ 9223372036854775807) = true := decide_eq_true c22
                                      try have c22b2 : (9223372036854775807 < x12_3.size + t208.size) = False := eq_false (Nat.not_lt.2 c22)
                                      have H' := Aside0.mk H
                                      clear H
                                      have p198 : 0 ≤ (x10_2 : Int) := of_decide_eq_true (by first | (with_reducible assumption) | assumption)
                                      have q198 : x10_2 < (l1.length : Int) := of_decide_eq_true (by first | (with_reducible assumption) | assumption)
                                      obtain ⟨ad198, A198_0, c198_0, e198, hx198_0, hl198_0, hi198_0⟩ := at_L11 HR1.out x10_2 p198 q198
                                      obtain rfl : ad196 = ad198 := (by injection e198)
                                      replace hx198_0 := (HB.out.cell (World.block_lt_of_cell? w _ hx198_0)).trans hx198_0
                                      have HR198_0 := Aside0.mk hi198_0
                                      have HC198_0 := Aside0.mk hl198_0
                                      clear hi198_0 hl198_0
                                      replace p198 := eq_true p198
                                      replace q198 := eq_true q198
                                      have p199 : 0 ≤ (x10_2 : Int) := of_decide_eq_true (by first | (with_reducible assumption) | assumption)
                                      have q199 : x10_2 < (l1.length : Int) := of_decide_eq_true (by first | (with_reducible assumption) | assumption)
                                      obtain ⟨ad199, A199_0, c199_0, e199, hx199_0, hl199_0, hi199_0⟩ := at_L11 HR1.out x10_2 p199 q199
                                      obtain rfl : ad196 = ad199 := (by injection e199)
                                      replace hx199_0 := (HB.out.cell (World.block_lt_of_cell? w _ hx199_0)).trans hx199_0
                                      have HR199_0 := Aside0.mk hi199_0
                                      have HC199_0 := Aside0.mk hl199_0
                                      clear hi199_0 hl199_0
                                      replace p199 := eq_true p199
                                      replace q199 := eq_true q199
                                      have ea_ := Option.some.inj (hx198_0.symm.trans hx199_0)
                                      injection ea_ with ea_ en_ ec_
                                      subst ea_
                                      subst ec_
                                      clear en_
                                      have p200 : 0 ≤ (x13_3 : Int) := of_decide_eq_true (by first | (with_reducible assumption) | assumption)
                                      have q200 : x13_3 < ((rd_L11 l1 x10_2).length : Int) := of_decide_eq_true (by first | (with_reducible assumption) | assumption)
                                      obtain ⟨ad200, e200, hx200_0, hx200_1, hx200_2⟩ := at_T23 HR199_0.out x13_3 p200 q200
                                      cases e200
                                      replace hx200_0 := (HB.out.cell (World.block_lt_of_cell? w _ hx200_0)).trans hx200_0
                                      replace hx200_1 := (HB.out.cell (World.block_lt_of_cell? w _ hx200_1)).trans hx200_1
                                      replace hx200_2 := (HB.out.cell (World.block_lt_of_cell? w _ hx200_2)).trans hx200_2
                                      replace p200 := eq_true p200
                                      replace q200 := eq_true q200
                                      try go_wp2
                                      have n0_ := Aside0.mk (Kd.S_drew HO_7.out)
                                      have n1_ := Aside0.mk (Kd.R_drew HO_198001.out)
                                      have n2_ := Aside0.mk (blk_drew BK197.out)
                                      have n3_ := Aside0.mk (below_drew1 HB.out)
                                      clear HO_7
                                      clear HO_198001
                                      clear BK197
                                      clear HB
                                      have HO_7 := n0_
                                      have HO_198001 := n1_
                                      have BK197 := n2_
                                      have HB := n3_
                                      clear n0_ n1_ n2_ n3_
                                      have p201 : 0 ≤ (x10_2 : Int) := of_decide_eq_true (by first | (with_reducible assumption) | assumption)
                                      have q201 : x10_2 < (l1.length : Int) := of_decide_eq_true (by first | (with_reducible assumption) | assumption)
                                      obtain ⟨ad201, A201_0, c201_0, e201, hx201_0, hl201_0, hi201_0⟩ := at_L11 HR1.out x10_2 p201 q201
                                      have hw201_0 := hx201_0
                                      obtain rfl : ad196 = ad201 := (by injection e201)
                                      replace hx201_0 := (HB.out.cell (World.block_lt_of_cell? w _ hx201_0)).trans hx201_0
                                      have HR201_0 := Aside0.mk hi201_0
                                      have HC201_0 := Aside0.mk hl201_0
                                      clear hi201_0 hl201_0
                                      replace p201 := eq_true p201
                                      replace q201 := eq_true q201
                                      have p202 : 0 ≤ (x13_3 : Int) := of_decide_eq_true (by first | (with_reducible assumption) | assumption)
                                      have q202 : x13_3 < ((rd_L11 l1 x10_2).length : Int) := of_decide_eq_true (by first | (with_reducible assumption) | assumption)
                                      obtain ⟨ad202, e202, hx202_0, hx202_1, hx202_2⟩ := at_T23 HR201_0.out x13_3 p202 q202
                                      have hw202_2 := hx202_2
                                      have hw202_1 := hx202_1
                                      have hw202_0 := hx202_0
                                      cases e202
                                      replace hx202_0 := (HB.out.cell (World.block_lt_of_cell? w _ hx202_0)).trans hx202_0
                                      replace hx202_1 := (HB.out.cell (World.block_lt_of_cell? w _ hx202_1)).trans hx202_1
                                      replace hx202_2 := (HB.out.cell (World.block_lt_of_cell? w _ hx202_2)).trans hx202_2
                                      replace p202 := eq_true p202
                                      replace q202 := eq_true q202
                                      refine start_ (n := 13) (S := fun w' => w'.cell? ⟨gb197, 0, none⟩ = some (.string (⟨#[102]⟩ : ByteArray)) ∧ w'.cell? ⟨gb197, 1, none⟩ = some (u198001) ∧ w'.cell? ⟨gb197, 2, none⟩ = some (.slice none 0 0) ∧ w'.cell? ⟨gb197, 3, none⟩ = some (.slice none 0 0) ∧ w'.cell? (ad196.add (x10_2).toNat) = some (.slice (some ad202) (rd_L11 l1 x10_2).length c201_0) ∧ w'.cell? (ad202.add ((x13_3).toNat * 3)) = some (.int .i64 ((rd_T23 (rd_L11 l1 x10_2) x13_3).f0)) ∧ w'.cell? ⟨(ad202.add ((x13_3).toNat * 3)).block, (ad202.add ((x13_3).toNat * 3)).off + 1, none⟩ = some (.int .i64 ((rd_T23 (rd_L11 l1 x10_2) x13_3).f1)) ∧ w'.cell? ⟨(ad202.add ((x13_3).toNat * 3)).block, (ad202.add ((x13_3).toNat * 3)).off + 2, none⟩ = some (.string ((rd_T23 (rd_L11 l1 x10_2) x13_3).f2))) (ds := [12]) #[false, false, false, false, false, false, false, false, false, false, false, false, false] (by kernel_rfl) rfl rfl ⟨(blk_cell BK197.out 0).trans rfl, (blk_cell BK197.out 1).trans rfl, (blk_cell BK197.out 2).trans rfl, (blk_cell BK197.out 3).trans rfl, ((HB.out.cell (World.block_lt_of_cell? w _ hw201_0)).trans hw201_0), ((HB.out.cell (World.block_lt_of_cell? w _ hw202_0)).trans hw202_0), ((HB.out.cell (World.block_lt_of_cell? w _ hw202_1)).trans hw202_1), ((HB.out.cell (World.block_lt_of_cell? w _ hw202_2)).trans hw202_2)⟩ (fun hHeld => ?_); refine with_tabW cupellaw19_DiagLines.tab19 cupellaw19_DiagLines.bits19 (fun HT_ HW_ => ?_)
                                      generalize wr.drew = w23 at HO_7 HO_198001 BK197 HB HR201_0 hx201_0 hx202_0 hx202_1 hx202_2 hHeld ⊢
                                      refine pure_ (i := 0) (N := some 58) (v := ?_) (a' := ?_) #[true, false, false, false, false, false, false, false, false, false, false, false, false] rfl rfl (any_of HT_.out (by kernel_rfl)) (fun _ _ _ h => h) (Or.inl ⟨by rfl, ?_⟩) ?_ ?_
                                      rotate_left
                                      · intro w'
                                        go_simp
                                        with_reducible rfl
                                      rotate_left
                                      · simp only [Act.put, List.setIfInBounds_toArray, List.set_cons_zero, List.set_cons_succ, i64_w, i32_w]
                                        rfl
                                      refine pure_ (i := 2) (N := some 60) (v := ?_) (a' := ?_) #[true, false, true, false, false, false, false, false, false, false, false, false, false] rfl rfl (any_of HT_.out (by kernel_rfl)) (fun _ _ _ h => h) (Or.inl ⟨by rfl, ?_⟩) ?_ ?_
                                      rotate_left
                                      · intro w'
                                        go_simp
                                        with_reducible rfl
                                      rotate_left
                                      · simp only [Act.put, List.setIfInBounds_toArray, List.set_cons_zero, List.set_cons_succ, i64_w, i32_w]
                                        rfl
                                      refine pure_ (i := 3) (N := some 61) (v := ?_) (a' := ?_) #[true, false, true, true, false, false, false, false, false, false, false, false, false] rfl rfl (any_of HT_.out (by kernel_rfl)) (fun _ _ _ h => h) (Or.inl ⟨by rfl, ?_⟩) ?_ ?_
                                      rotate_left
                                      · intro w'
                                        go_simp
                                        with_reducible rfl
                                      rotate_left
                                      · simp only [Act.put, List.setIfInBounds_toArray, List.set_cons_zero, List.set_cons_succ, i64_w, i32_w]
                                        rfl
                                      refine pure_ (i := 4) (N := some 62) (v := ?_) (a' := ?_) #[true, false, true, true, true, false, false, false, false, false, false, false, false] rfl rfl (any_of HT_.out (by kernel_rfl)) (fun _ _ _ h => h) (Or.inl ⟨by rfl, ?_⟩) ?_ ?_
                                      rotate_left
                                      · intro w'
                                        go_simp
                                        with_reducible rfl
                                      rotate_left
                                      · simp only [Act.put, List.setIfInBounds_toArray, List.set_cons_zero, List.set_cons_succ, i64_w, i32_w]
                                        rfl
                                      refine pure_ (i := 6) (N := some 64) (v := ?_) (a' := ?_) #[true, false, true, true, true, false, true, false, false, false, false, false, false] rfl rfl (any_of HT_.out (by kernel_rfl)) (fun _ _ _ h => h) (Or.inl ⟨by rfl, ?_⟩) ?_ ?_
                                      rotate_left
                                      · intro w'
                                        go_simp
                                        with_reducible rfl
                                      rotate_left
                                      · simp only [Act.put, List.setIfInBounds_toArray, List.set_cons_zero, List.set_cons_succ, i64_w, i32_w]
                                        rfl
                                      refine take_ (i := 1) (N := some 59) (v := ?_) (a' := ?_) #[true, true, true, true, true, false, true, false, false, false, false, false, false] rfl rfl (take_ofW HT_.out HW_.out (by kernel_rfl)) (fun _ _ _ h => h) (Or.inl ⟨by rfl, ?_⟩) hHeld ?_ ?_
                                      rotate_left
                                      · rintro w' ⟨s0, s1, s2, s3, s4, s5, s6, s7⟩
                                        go_simp
                                        with_reducible rfl
                                      rotate_left
                                      · simp only [Act.put, List.setIfInBounds_toArray, List.set_cons_zero, List.set_cons_succ, i64_w, i32_w]
                                        rfl
                                      refine take_ (i := 5) (N := some 63) (v := ?_) (a' := ?_) #[true, true, true, true, true, true, true, false, false, false, false, false, false] rfl rfl (take_ofW HT_.out HW_.out (by kernel_rfl)) (fun _ _ _ h => h) (Or.inl ⟨by rfl, ?_⟩) hHeld ?_ ?_
                                      rotate_left
                                      · rintro w' ⟨s0, s1, s2, s3, s4, s5, s6, s7⟩
                                        go_simp
                                        with_reducible rfl
                                      rotate_left
                                      · simp only [Act.put, List.setIfInBounds_toArray, List.set_cons_zero, List.set_cons_succ, i64_w, i32_w]
                                        rfl
                                      refine pure_ (i := 7) (N := some 65) (v := ?_) (a' := ?_) #[true, true, true, true, true, true, true, true, false, false, false, false, false] rfl rfl (any_of HT_.out (by kernel_rfl)) (fun _ _ _ h => h) (Or.inl ⟨by rfl, ?_⟩) ?_ ?_
                                      rotate_left
                                      · intro w'
                                        go_simp
                                        with_reducible rfl
                                      rotate_left
                                      · simp only [Act.put, List.setIfInBounds_toArray, List.set_cons_zero, List.set_cons_succ, i64_w, i32_w]
                                        rfl
                                      refine take_ (i := 8) (N := some 66) (v := ?_) (a' := ?_) #[true, true, true, true, true, true, true, true, true, false, false, false, false] rfl rfl (take_ofW HT_.out HW_.out (by kernel_rfl)) (fun _ _ _ h => h) (Or.inl ⟨by rfl, ?_⟩) hHeld ?_ ?_
                                      rotate_left
                                      · rintro w' ⟨s0, s1, s2, s3, s4, s5, s6, s7⟩
                                        go_simp
                                        with_reducible rfl
                                      rotate_left
                                      · simp only [Act.put, List.setIfInBounds_toArray, List.set_cons_zero, List.set_cons_succ, i64_w, i32_w]
                                        rfl
                                      refine one_ (i := 9) (N := some 67) #[true, true, true, true, true, true, true, true, true, true, false, false, false] rfl rfl (one_of HT_.out (by kernel_rfl)) (by decide) (fun K hK => ?_)
                                      refine value_ (w1 := ?_) (v := ?_) (by rfl) rfl ?_ ?_
                                      rotate_left 2
                                      · go_simp
                                        constructor
                                        · rfl
                                        · rfl
                                      refine hK.out _ _ ⟨(blk_cell (blk_alloc BK197.out _) 0).trans rfl, (blk_cell (blk_alloc BK197.out _) 1).trans rfl, (blk_cell (blk_alloc BK197.out _) 2).trans rfl, (blk_cell (blk_alloc BK197.out _) 3).trans rfl, (World.cell?_alloc_lt _ _ _ (World.block_lt_of_cell? _ _ (((HB.out.cell (World.block_lt_of_cell? w _ hw201_0)).trans hw201_0)))).trans (((HB.out.cell (World.block_lt_of_cell? w _ hw201_0)).trans hw201_0)), (World.cell?_alloc_lt _ _ _ (World.block_lt_of_cell? _ _ (((HB.out.cell (World.block_lt_of_cell? w _ hw202_0)).trans hw202_0)))).trans (((HB.out.cell (World.block_lt_of_cell? w _ hw202_0)).trans hw202_0)), (World.cell?_alloc_lt _ _ _ (World.block_lt_of_cell? _ _ (((HB.out.cell (World.block_lt_of_cell? w _ hw202_1)).trans hw202_1)))).trans (((HB.out.cell (World.block_lt_of_cell? w _ hw202_1)).trans hw202_1)), (World.cell?_alloc_lt _ _ _ (World.block_lt_of_cell? _ _ (((HB.out.cell (World.block_lt_of_cell? w _ hw202_2)).trans hw202_2)))).trans (((HB.out.cell (World.block_lt_of_cell? w _ hw202_2)).trans hw202_2))⟩ (fun hHeld => ?_)
                                      clear hK K
                                      refine norm_ (a' := ?_) ?_ ?_
                                      rotate_left
                                      · show Act.put _ (some 67) _ = _
                                        simp only [Act.put, List.setIfInBounds_toArray, List.set_cons_zero, List.set_cons_succ, i64_w, i32_w]
                                        rfl
                                      refine one_ (i := 10) (N := some 68) #[true, true, true, true, true, true, true, true, true, true, true, false, false] rfl rfl (one_of HT_.out (by kernel_rfl)) (by decide) (fun K hK => ?_)
                                      refine Kd.R_append_step k26 (w0 := w) w.heap.size (by rfl) (.tmp 59) (.tmp 67) 42 26 (.agg #[(.int .i64 0), (.int .i64 0), (.string ⟨#[]⟩)]) 32 rfl Tryd.underlying42 info26 rfl (by decide) (by omega) u198001 x198001_3 (⟨(rd_T23 (rd_L11 l1 x10_2) x13_3).f0, (rd_T23 (rd_L11 l1 x10_2) x13_3).f1, (rd_T23 (rd_L11 l1 x10_2) x13_3).f2⟩ : S26) [.int .i64 ((rd_T23 (rd_L11 l1 x10_2) x13_3).f0), .int .i64 ((rd_T23 (rd_L11 l1 x10_2) x13_3).f1), .string ((rd_T23 (rd_L11 l1 x10_2) x13_3).f2)] (fun _ => True) (fun _ => False) rfl rfl ?aP (fun _ hk => hk.elim) ?aF ?aO ?aB ?aS ?aL ?_
                                      (case aP => exact k26_mkM _ _ _ (⟨(rd_T23 (rd_L11 l1 x10_2) x13_3).f0, (rd_T23 (rd_L11 l1 x10_2) x13_3).f1, (rd_T23 (rd_L11 l1 x10_2) x13_3).f2⟩ : S26))
                                      (case aB => exact (by repeat (first | (with_reducible first | exact HB.out | apply below_alloc | apply pw_below_drewN | apply below_drew1 | refine below_set ?_ GE197.out) | exact HB.out)))
                                      (case aF => exact (fun _ _ => trivial))
                                      (case aO => exact (by (with_reducible repeat (first | apply Kd.R_alloc | apply Kd.R_drewN | apply Kd.R_drew)); exact HO_198001.out))
                                      (case aS => exact (below_size (by repeat (first | (with_reducible first | exact HB.out | apply below_alloc | apply pw_below_drewN | apply below_drew1 | refine below_set ?_ GE197.out) | exact HB.out))))
                                      (case aL => have := LMc20.out; omega)
                                      intro v204 w24 ho hb hg hat
                                      rw [← Ny203.out] at ho
                                      have n0_ := Aside0.mk (Kd.S_after (ok := (fun k_ => k_ ≠ gb197)) (by (with_reducible repeat (first | apply Kd.S_alloc | apply Kd.S_drewN | apply Kd.S_drew)); exact Kd.S_mono HO_7.out (fun _ hk => ⟨hk.2, hk.1⟩)) hg hat)
                                      have n1_ := Aside0.mk (blk_grown (g := gb197) (o := .cells #[.string (⟨#[102]⟩ : ByteArray), u198001, .slice none 0 0, .slice none 0 0] 46 (0, 0)) (by (with_reducible repeat (first | refine blk_drewN ?_ _ | refine blk_drew ?_ | refine blk_alloc ?_ _)); exact BK197.out) hg (Kd.R_ne HO_198001.out BK197.out (by decide)))
                                      have n2_ := Aside0.mk (hb)
                                      have n3_ := Aside0.mk (ho)
                                      clear HO_7
                                      clear BK197
                                      clear HB
                                      clear HO_198001
                                      have HO_7 := n0_
                                      have BK197 := n1_
                                      have HB := n2_
                                      have HO205 := n3_
                                      clear n0_ n1_ n2_ n3_
                                      clear ho hb hg hat
                                      obtain ⟨Ao25, co25, eo25⟩ := Kd.R_slice HO205.out
                                      (first | subst eo25 | (injection eo25 with f1_ f2_ f3_; have f4_ := f1_.symm; have f5_ := f3_.symm; clear f1_ f2_ f3_; subst f4_; subst f5_))
                                      refine hK.out _ _ ⟨(blk_cell BK197.out 0).trans rfl, (blk_cell BK197.out 1).trans rfl, (blk_cell BK197.out 2).trans rfl, (blk_cell BK197.out 3).trans rfl, ((HB.out.cell (World.block_lt_of_cell? w _ hw201_0)).trans hw201_0), ((HB.out.cell (World.block_lt_of_cell? w _ hw202_0)).trans hw202_0), ((HB.out.cell (World.block_lt_of_cell? w _ hw202_1)).trans hw202_1), ((HB.out.cell (World.block_lt_of_cell? w _ hw202_2)).trans hw202_2)⟩ (fun hHeld => ?_)
                                      clear hK K
                                      refine norm_ (a' := ?_) ?_ ?_
                                      rotate_left
                                      · show Act.put _ (some 68) _ = _
                                        simp only [Act.put, List.setIfInBounds_toArray, List.set_cons_zero, List.set_cons_succ, i64_w, i32_w]
                                        rfl
                                      refine pure_ (i := 11) (N := some 69) (v := ?_) (a' := ?_) #[true, true, true, true, true, true, true, true, true, true, true, true, false] rfl rfl (any_of HT_.out (by kernel_rfl)) (fun _ _ _ h => h) (Or.inl ⟨by rfl, ?_⟩) ?_ ?_
                                      rotate_left
                                      · intro w'
                                        go_simp
                                        with_reducible rfl
                                      rotate_left
                                      · simp only [Act.put, List.setIfInBounds_toArray, List.set_cons_zero, List.set_cons_succ, i64_w, i32_w]
                                        rfl
                                      refine last_ (i := 12) (N := none) #[true, true, true, true, true, true, true, true, true, true, true, true, true] rfl rfl (one_of HT_.out (by kernel_rfl)) (by decide) (fun K hK => ?_)
                                      have hs26 : w24.cell? ⟨gb197, 1, none⟩ = some (u198001) := (blk_cell BK197.out 1).trans rfl
                                      have hfs26 := blk_frozen BK197.out 1
                                      refine skip_ (w1 := ?_) (by rfl) rfl ?_ ?_
                                      rotate_left
                                      · go_simp
                                        rfl
                                      refine hK.out _ _ ?_
                                      clear hK K
                                      refine done_ (done_of HT_.out (by kernel_rfl)) ?_
                                      have p206 : 0 ≤ (x10_2 : Int) := of_decide_eq_true (by first | (with_reducible assumption) | assumption)
                                      have q206 : x10_2 < (l1.length : Int) := of_decide_eq_true (by first | (with_reducible assumption) | assumption)
                                      obtain ⟨ad206, A206_0, c206_0, e206, hx206_0, hl206_0, hi206_0⟩ := at_L11 HR1.out x10_2 p206 q206
                                      obtain rfl : ad196 = ad206 := (by injection e206)
                                      have hn206_0 : ad196.block ≠ gb197 := Nat.ne_of_lt (Nat.lt_of_lt_of_le (by have := World.block_lt_of_cell? _ _ hx206_0; first | rwa [add_block] at this | exact this) GW197.out)
                                      replace hx206_0 := (HB.out.cell (World.block_lt_of_cell? w _ hx206_0)).trans hx206_0
                                      have HR206_0 := Aside0.mk hi206_0
                                      have HC206_0 := Aside0.mk hl206_0
                                      clear hi206_0 hl206_0
                                      replace hx206_0 := (cell_far (p := ⟨gb197, 1, none⟩) (by first | (rw [add_block]; exact hn206_0) | (show (Addr.add _ _).block ≠ _; rw [add_block]; exact hn206_0) | exact hn206_0) (.slice Ao25 y203.length co25)).trans hx206_0
                                      clear hn206_0
                                      replace p206 := eq_true p206
                                      replace q206 := eq_true q206
                                      have p207 : 0 ≤ (x13_3 : Int) := of_decide_eq_true (by first | (with_reducible assumption) | assumption)
                                      have q207 : x13_3 < ((rd_L11 l1 x10_2).length : Int) := of_decide_eq_true (by first | (with_reducible assumption) | assumption)
                                      obtain ⟨ad207, e207, hx207_0, hx207_1, hx207_2⟩ := at_T23 HR206_0.out x13_3 p207 q207
                                      cases e207
                                      have hn207_0 : ad207.block ≠ gb197 := Nat.ne_of_lt (Nat.lt_of_lt_of_le (by have := World.block_lt_of_cell? _ _ hx207_0; first | rwa [add_block] at this | exact this) GW197.out)
                                      replace hx207_0 := (HB.out.cell (World.block_lt_of_cell? w _ hx207_0)).trans hx207_0
                                      replace hx207_1 := (HB.out.cell (World.block_lt_of_cell? w _ hx207_1)).trans hx207_1
                                      replace hx207_2 := (HB.out.cell (World.block_lt_of_cell? w _ hx207_2)).trans hx207_2
                                      replace hx207_0 := (cell_far (p := ⟨gb197, 1, none⟩) (by first | (rw [add_block]; exact hn207_0) | (show (Addr.add _ _).block ≠ _; rw [add_block]; exact hn207_0) | exact hn207_0) (.slice Ao25 y203.length co25)).trans hx207_0
                                      replace hx207_1 := (cell_far (p := ⟨gb197, 1, none⟩) (by first | (rw [add_block]; exact hn207_0) | (show (Addr.add _ _).block ≠ _; rw [add_block]; exact hn207_0) | exact hn207_0) (.slice Ao25 y203.length co25)).trans hx207_1
                                      replace hx207_2 := (cell_far (p := ⟨gb197, 1, none⟩) (by first | (rw [add_block]; exact hn207_0) | (show (Addr.add _ _).block ≠ _; rw [add_block]; exact hn207_0) | exact hn207_0) (.slice Ao25 y203.length co25)).trans hx207_2
                                      clear hn207_0
                                      replace p207 := eq_true p207
                                      replace q207 := eq_true q207
                                      try go_wp2_with (first | ((with_reducible refine gate_callee (f := 12) rfl ?_); refine goesL_ (some 79) rfl rfl Tryd.func12 (by kernel_rfl) rfl #[.string (⟨#[102]⟩ : ByteArray), .string a0, .agg #[.int .i64 ((rd_T23 (rd_L11 l1 x10_2) x13_3).f0), .int .i64 ((rd_T23 (rd_L11 l1 x10_2) x13_3).f1), .string ((rd_T23 (rd_L11 l1 x10_2) x13_3).f2)]] rfl (by (try simp only [List.map_toArray, List.map_cons, List.map_nil]); first | done | rfl | (simp only [List.length_drop, List.length_take]; rfl)) ?_; (with_reducible refine (cupelref19_Line.calls k3 (⟨#[102]⟩ : ByteArray) a0 ((rd_T23 (rd_L11 l1 x10_2) x13_3).f0) ((rd_T23 (rd_L11 l1 x10_2) x13_3).f1) ((rd_T23 (rd_L11 l1 x10_2) x13_3).f2) t208 _ A21.out).mono ?_); rintro e w27 ⟨rfl, hb⟩; refine ⟨_, rfl, ?_⟩; have n0_ := Aside0.mk (Kd.S_below (by (with_reducible repeat (first | apply Kd.S_alloc | apply Kd.S_drewN | apply Kd.S_drew)); exact (Kd.S_mono (Kd.S_far (p := ⟨gb197, 1, none⟩) (Kd.S_mono HO_7.out (fun k_ hk => (⟨hk, hk.1⟩ : _ ∧ k_ ≠ gb197))) (fun _ hk => hk.2) (.slice Ao25 y203.length co25)) (fun _ h_ => h_.1))) hb); have n1_ := Aside0.mk (Kd.R_below (by (with_reducible repeat (first | apply Kd.R_alloc | apply Kd.R_drewN | apply Kd.R_drew)); exact (Kd.R_mono (Kd.R_far (p := ⟨gb197, 1, none⟩) (Kd.R_types HO205.out BK197.out (by decide)) (fun _ hk => hk.2) (.slice Ao25 y203.length co25)) (fun _ h_ => h_.1))) hb); have n2_ := Aside0.mk (blk_below (g := gb197) (o := .cells #[.string (⟨#[102]⟩ : ByteArray), .slice Ao25 y203.length co25, .slice none 0 0, .slice none 0 0] 46 (0, 0)) (by (with_reducible repeat (first | refine blk_drewN ?_ _ | refine blk_drew ?_ | refine blk_alloc ?_ _)); refine blk_put (cs := #[.string (⟨#[102]⟩ : ByteArray), u198001, .slice none 0 0, .slice none 0 0]) ?_ 1 _ rfl; (with_reducible repeat (first | refine blk_drewN ?_ _ | refine blk_drew ?_ | refine blk_alloc ?_ _)); exact BK197.out) hb); have n3_ := Aside0.mk (below_step (by repeat (first | (with_reducible first | exact HB.out | apply below_alloc | apply pw_below_drewN | apply below_drew1 | refine below_set ?_ GE197.out) | exact HB.out)) hb); clear HO_7; clear HO205; clear BK197; clear HB; have HO_7 := n0_; have HO205 := n1_; have BK197 := n2_; have HB := n3_; clear n0_ n1_ n2_ n3_; (try clear hb); (try clear hb2); (try clear hk); (try clear hi)))
                                      go_roundg k3
                                      case measure => have := HJ5.out; have := HK2.out; have := HK3.out; omega
                                      case rel => exact ⟨(x12_3 ++ t208), (wrap64 (x13_3 + 1)), (y203), (.slice Ao25 y203.length co25), (by first | rfl | (simp; done) | (simp [*]; done)), (by first | rfl | (simp; done) | (simp [*]; done)), H', ⟨by have := HJ5.out; have := HK2.out; have := HK3.out; omega⟩, ⟨by (with_reducible repeat (first | apply Kd.S_alloc | apply Kd.S_drewN | apply Kd.S_drew)); exact Kd.S_mono HO_7.out (fun _ hk => ⟨hk.2, hk.1⟩)⟩, ⟨by (with_reducible repeat (first | apply Kd.R_alloc | apply Kd.R_drewN | apply Kd.R_drew)); exact HO205.out⟩, ⟨by (with_reducible repeat (first | refine blk_drewN ?_ _ | refine blk_drew ?_ | refine blk_alloc ?_ _)); exact BK197.out⟩, ⟨by repeat (first | (with_reducible first | exact HB.out | apply below_alloc | apply pw_below_drewN | apply below_drew1 | refine below_set ?_ GE197.out) | exact HB.out)⟩⟩
                                    · rw [if_neg c22] at H
                                      exact absurd H (by simp)
                                  · rw [if_neg c20] at H
                                    exact absurd H (by simp)
                              · rw [if_neg c18] at H
                                exact absurd H (by simp)
                            · rw [if_neg c17] at H
                              have c17b0 : decide (x13_3 < ((rd_L11 l1 x10_2).length : Int)) = false := decide_eq_false c17
                              clear c17
                              by_cases c28 : x10_2 < (l2.length : Int)
                              · rw [if_pos c28] at H
                                have c28b0 : decide (x10_2 < (l2.length : Int)) = true := decide_eq_true c28
                                clear c28
                                obtain ⟨ji29, hji29⟩ : ∃ j_ : Int, (Int.tmod (wrap64 (rd l2 x10_2)) 9) = j_ := ⟨_, rfl⟩
                                replace H : (if 0 ≤ (ji29) then (if (ji29 : Int).toNat ≤ 35184372088832 then ((some (List.replicate (ji29 : Int).toNat 0 : List Int)).bind fun y210 => ((diag_Lines.f a0 (⟨#[102]⟩ : ByteArray) x198001_3 y210 ([] : List (S104))).bind fun t213 => (if t213.toList = x12_3.toList then (if x7_2.length < 1599289640401 then (cupellaw19_DiagLines.l0 k3 a0 l1 l2 (x7_2 ++ [(⟨(⟨#[102]⟩ : ByteArray), x198001_3, y210, ([] : List (S104))⟩ : S46)]) (wrap64 (x8_2 + (x198001_3.length : Int))) (wrap64 (x9_2 + (y210.length : Int))) (wrap64 (x10_2 + 1))) else (none)) else (some false)))) else (none)) else (none)) = some r := by first | (rw [hji29] at H; exact H) | (simp only [hji29] at H ⊢; exact H)
                                by_cases c30 : 0 ≤ (ji29)
                                · rw [if_pos c30] at H
                                  have c30b0 := eq_true c30
                                  have c30b1 : decide (0 ≤ (ji29)) = true := decide_eq_true c30
                                  clear c30
                                  by_cases c31 : (ji29 : Int).toNat ≤ 35184372088832
                                  · rw [if_pos c31] at H
                                    have c31b0 := eq_true c31
                                    have c31b1 : decide ((ji29 : Int).toNat ≤ 35184372088832) = true := decide_eq_true c31
                                    clear c31
                                    obtain ⟨y210, hy210⟩ : ∃ y_ : List Int, y_ = (List.replicate (ji29 : Int).toNat 0) := ⟨_, rfl⟩
                                    replace H : ((diag_Lines.f a0 (⟨#[102]⟩ : ByteArray) x198001_3 y210 ([] : List (S104))).bind fun t213 => (if t213.toList = x12_3.toList then (if x7_2.length < 1599289640401 then (cupellaw19_DiagLines.l0 k3 a0 l1 l2 (x7_2 ++ [(⟨(⟨#[102]⟩ : ByteArray), x198001_3, y210, ([] : List (S104))⟩ : S46)]) (wrap64 (x8_2 + (x198001_3.length : Int))) (wrap64 (x9_2 + (y210.length : Int))) (wrap64 (x10_2 + 1))) else (none)) else (some false))) = some r := by first | (rw [hy210]; with_reducible exact H) | (have H2_ := (Option.bind_some _ _).symm.trans H; rw [hy210]; with_reducible exact H2_) | (have H2_ := (Option.bind_some _ _).symm.trans H; with_reducible exact H2_) | with_reducible exact H | (rw [hy210]; exact H) | exact H
                                    have Ny210 := Aside0.mk hy210
                                    clear hy210
                                    replace H := Option.bind_eq_some_iff.mp H
                                    obtain ⟨t213, A320, H⟩ := H
                                    replace H : (if t213.toList = x12_3.toList then (if x7_2.length < 1599289640401 then (cupellaw19_DiagLines.l0 k3 a0 l1 l2 (x7_2 ++ [(⟨(⟨#[102]⟩ : ByteArray), x198001_3, y210, ([] : List (S104))⟩ : S46)]) (wrap64 (x8_2 + (x198001_3.length : Int))) (wrap64 (x9_2 + (y210.length : Int))) (wrap64 (x10_2 + 1))) else (none)) else (some false)) = some r := H
                                    have A32 := Aside0.mk A320
                                    clear A320
                                    by_cases c33 : t213.toList = x12_3.toList
                                    · rw [if_pos c33] at H
                                      have c33b0 : (t213.toList == x12_3.toList) = true := beq_iff_eq.mpr c33
                                      have c33b1 : (t213.toList != x12_3.toList) = false := bne_eq_false_iff_eq.mpr c33
                                      clear c33
                                      by_cases c34 : x7_2.length < 1599289640401
                                      · rw [if_pos c34] at H
                                        have LMc34 := Aside0.mk c34
                                        clear c34
                                        obtain ⟨y214, hy214⟩ : ∃ y_ : List (S46), y_ = (x7_2 ++ [(⟨(⟨#[102]⟩ : ByteArray), x198001_3, y210, ([] : List (S104))⟩ : S46)]) := ⟨_, rfl⟩
                                        replace H : (cupellaw19_DiagLines.l0 k3 a0 l1 l2 y214 (wrap64 (x8_2 + (x198001_3.length : Int))) (wrap64 (x9_2 + (y210.length : Int))) (wrap64 (x10_2 + 1))) = some r := by first | (rw [hy214]; with_reducible exact H) | (have H2_ := (Option.bind_some _ _).symm.trans H; rw [hy214]; with_reducible exact H2_) | (have H2_ := (Option.bind_some _ _).symm.trans H; with_reducible exact H2_) | with_reducible exact H | (rw [hy214]; exact H) | exact H
                                        have Ny214 := Aside0.mk hy214
                                        clear hy214
                                        have H' := Aside0.mk H
                                        clear H
                                        have p198 : 0 ≤ (x10_2 : Int) := of_decide_eq_true (by first | (with_reducible assumption) | assumption)
                                        have q198 : x10_2 < (l1.length : Int) := of_decide_eq_true (by first | (with_reducible assumption) | assumption)
                                        obtain ⟨ad198, A198_0, c198_0, e198, hx198_0, hl198_0, hi198_0⟩ := at_L11 HR1.out x10_2 p198 q198
                                        obtain rfl : ad196 = ad198 := (by injection e198)
                                        replace hx198_0 := (HB.out.cell (World.block_lt_of_cell? w _ hx198_0)).trans hx198_0
                                        have HR198_0 := Aside0.mk hi198_0
                                        have HC198_0 := Aside0.mk hl198_0
                                        clear hi198_0 hl198_0
                                        replace p198 := eq_true p198
                                        replace q198 := eq_true q198
                                        have p209 : 0 ≤ (x10_2 : Int) := of_decide_eq_true (by first | (with_reducible assumption) | assumption)
                                        have q209 : x10_2 < (l2.length : Int) := of_decide_eq_true (by first | (with_reducible assumption) | assumption)
                                        obtain ⟨ad209, e209, hx209_0⟩ := Kd.at_int HR2.out x10_2 p209 q209
                                        cases e209
                                        replace hx209_0 := (HB.out.cell (World.block_lt_of_cell? w _ hx209_0)).trans hx209_0
                                        replace p209 := eq_true p209
                                        replace q209 := eq_true q209
                                        go_wp2_with (first | ((with_reducible refine gate_dst (N := 91) rfl ?_); (try (refine gate_guard (by rfl) ?_; dsimp only)); refine Kd.R_make (Kd.int .i64) _ 3 rfl (N := 91) rfl 43 _ _ rfl ji29 rfl rfl Tryd.underlying43 (.int .i64 0) 8 info3 rfl (by decide) (by omega) 0 (ok := fun _ => True) (okp := fun _ => True) rfl (fun _ hk => hk) trivial (of_decide_eq_true (by first | (with_reducible assumption) | assumption)) (Nat.le_trans (Nat.mul_le_mul_right _ (of_decide_eq_true (by first | (with_reducible assumption) | assumption) : ji29.toNat ≤ 35184372088832)) (by omega)) (Below.refl _ _) (Nat.le_refl _) ?_; intro v211 w35 ho36 hb hg_ hnew_; clear hg_ hnew_; (first | rw [← Ny210.out] at ho36 | (simp only [Int.reduceToNat] at ho36; rw [← Ny210.out] at ho36)); have n0_ := Aside0.mk (Kd.S_elder' (by (with_reducible repeat (first | apply Kd.S_alloc | apply Kd.S_drewN | apply Kd.S_drew)); exact HO_7.out) (Kd.R_base ho36) hb); have n1_ := Aside0.mk (Kd.R_below (by (with_reducible repeat (first | apply Kd.R_alloc | apply Kd.R_drewN | apply Kd.R_drew)); exact HO_198001.out) hb); have n2_ := Aside0.mk (Kd.R_lower ho36 (below_size (by repeat (first | (with_reducible first | exact HB.out | apply below_alloc | apply pw_below_drewN | apply below_drew1 | refine below_set ?_ GE197.out) | exact HB.out)))); have n3_ := Aside0.mk (blk_below (g := gb197) (o := .cells #[.string (⟨#[102]⟩ : ByteArray), u198001, .slice none 0 0, .slice none 0 0] 46 (0, 0)) (by (with_reducible repeat (first | refine blk_drewN ?_ _ | refine blk_drew ?_ | refine blk_alloc ?_ _)); exact BK197.out) hb); have n4_ := Aside0.mk (below_step (by repeat (first | (with_reducible first | exact HB.out | apply below_alloc | apply pw_below_drewN | apply below_drew1 | refine below_set ?_ GE197.out) | exact HB.out)) hb); clear HO_7; clear HO_198001; clear BK197; clear HB; have HO_7 := n0_; have HO_198001 := n1_; have HO212 := n2_; have BK197 := n3_; have HB := n4_; clear n0_ n1_ n2_ n3_ n4_; clear hb ho36; obtain ⟨Ao37, co37, eo37⟩ := Kd.R_slice HO212.out; subst eo37; have hcz38_0 : w35.cell? ⟨gb197, 0, none⟩ = some (.string (⟨#[102]⟩ : ByteArray)) := (blk_cell BK197.out 0).trans rfl; have hcz38_1 : w35.cell? ⟨gb197, 1, none⟩ = some (u198001) := (blk_cell BK197.out 1).trans rfl; have hcz38_2 : w35.cell? ⟨gb197, 2, none⟩ = some (.slice none 0 0) := (blk_cell BK197.out 2).trans rfl; have hcz38_3 : w35.cell? ⟨gb197, 3, none⟩ = some (.slice none 0 0) := (blk_cell BK197.out 3).trans rfl; have hfz38_0 := blk_frozen BK197.out 0; have hfz38_1 := blk_frozen BK197.out 1; have hfz38_2 := blk_frozen BK197.out 2; have hfz38_3 := blk_frozen BK197.out 3; obtain ⟨Ao39, co39, eo39⟩ := Kd.R_slice HO_198001.out; subst eo39) | ((with_reducible refine gate_callee (f := 16) rfl ?_); refine goesL_ (some 95) rfl rfl Tryd.func16 (by kernel_rfl) rfl #[.string a0, .agg #[.string (⟨#[102]⟩ : ByteArray), .slice Ao39 x198001_3.length co39, .slice Ao37 y210.length co37, .slice none 0 0]] rfl (by (try simp only [List.map_toArray, List.map_cons, List.map_nil]); first | done | rfl | (simp only [List.length_drop, List.length_take]; rfl)) ?_; (refine (diag_Lines.calls a0 (⟨#[102]⟩ : ByteArray) _ _ x198001_3 _ _ y210 _ _ ([] : List (S104)) t213 _ ?side1 ?side2 ?side3 ?side4 ?side5 ?side6 A32.out (Tabs.below HT0.out (Nat.le_refl _) (by repeat (first | (with_reducible first | exact HB.out | apply below_alloc | apply pw_below_drewN | apply below_drew1 | refine below_set ?_ GE197.out) | exact HB.out)))).mono ?_); (case side1 => refine (Kd.R_reads' (e := 26) (base := w.heap.size) (ok := fun k_ => True) (n := x198001_3.length) (c := co39) ?_).2.2; exact (by (with_reducible repeat (first | apply Kd.R_alloc | apply Kd.R_drewN | apply Kd.R_drew)); exact (Kd.R_mono (Kd.R_far (p := ⟨gb197, 2, none⟩) (Kd.R_types HO_198001.out BK197.out (by decide)) (fun _ hk => hk.2) (.slice Ao37 y210.length co37)) (fun _ h_ => h_.1)))); (case side2 => exact (Kd.R_reads' HO_198001.out).2.1); (case side3 => refine (Kd.R_reads' (e := 3) (base := w.heap.size) (ok := fun k_ => True) (n := y210.length) (c := co37) ?_).2.2; exact (by (with_reducible repeat (first | apply Kd.R_alloc | apply Kd.R_drewN | apply Kd.R_drew)); exact (Kd.R_mono (Kd.R_far (p := ⟨gb197, 2, none⟩) (Kd.R_types HO212.out BK197.out (by decide)) (fun _ hk => hk.2) (.slice Ao37 y210.length co37)) (fun _ h_ => h_.1)))); (case side4 => exact (Kd.R_reads' HO212.out).2.1); (case side5 => exact Kd.C_nil _ _); (case side6 => exact Nat.le_refl _); rintro e w40 ⟨rfl, hb⟩; refine ⟨_, rfl, ?_⟩; have n0_ := Aside0.mk (Kd.S_below (by (with_reducible repeat (first | apply Kd.S_alloc | apply Kd.S_drewN | apply Kd.S_drew)); exact (Kd.S_mono (Kd.S_far (p := ⟨gb197, 2, none⟩) (Kd.S_mono HO_7.out (fun k_ hk => (⟨hk, hk.1.2⟩ : _ ∧ k_ ≠ gb197))) (fun _ hk => hk.2) (.slice Ao37 y210.length co37)) (fun _ h_ => h_.1))) hb); have n1_ := Aside0.mk (Kd.R_below (by (with_reducible repeat (first | apply Kd.R_alloc | apply Kd.R_drewN | apply Kd.R_drew)); exact (Kd.R_mono (Kd.R_far (p := ⟨gb197, 2, none⟩) (Kd.R_types HO_198001.out BK197.out (by decide)) (fun _ hk => hk.2) (.slice Ao37 y210.length co37)) (fun _ h_ => h_.1))) hb); have n2_ := Aside0.mk (Kd.R_below (by (with_reducible repeat (first | apply Kd.R_alloc | apply Kd.R_drewN | apply Kd.R_drew)); exact (Kd.R_mono (Kd.R_far (p := ⟨gb197, 2, none⟩) (Kd.R_types HO212.out BK197.out (by decide)) (fun _ hk => hk.2) (.slice Ao37 y210.length co37)) (fun _ h_ => h_.1))) hb); have n3_ := Aside0.mk (blk_below (g := gb197) (o := .cells #[.string (⟨#[102]⟩ : ByteArray), .slice Ao39 x198001_3.length co39, .slice Ao37 y210.length co37, .slice none 0 0] 46 (0, 0)) (by (with_reducible repeat (first | refine blk_drewN ?_ _ | refine blk_drew ?_ | refine blk_alloc ?_ _)); refine blk_put (cs := #[.string (⟨#[102]⟩ : ByteArray), .slice Ao39 x198001_3.length co39, .slice none 0 0, .slice none 0 0]) ?_ 2 _ rfl; (with_reducible repeat (first | refine blk_drewN ?_ _ | refine blk_drew ?_ | refine blk_alloc ?_ _)); exact BK197.out) hb); have n4_ := Aside0.mk (below_step (by repeat (first | (with_reducible first | exact HB.out | apply below_alloc | apply pw_below_drewN | apply below_drew1 | refine below_set ?_ GE197.out) | exact HB.out)) hb); clear HO_7; clear HO_198001; clear HO212; clear BK197; clear HB; have HO_7 := n0_; have HO_198001 := n1_; have HO212 := n2_; have BK197 := n3_; have HB := n4_; clear n0_ n1_ n2_ n3_ n4_; (try clear hb); (try clear hb2); (try clear hk); (try clear hi); have hcz41_0 : w40.cell? ⟨gb197, 0, none⟩ = some (.string (⟨#[102]⟩ : ByteArray)) := (blk_cell BK197.out 0).trans rfl; have hcz41_1 : w40.cell? ⟨gb197, 1, none⟩ = some (.slice Ao39 x198001_3.length co39) := (blk_cell BK197.out 1).trans rfl; have hcz41_2 : w40.cell? ⟨gb197, 2, none⟩ = some (.slice Ao37 y210.length co37) := (blk_cell BK197.out 2).trans rfl; have hcz41_3 : w40.cell? ⟨gb197, 3, none⟩ = some (.slice none 0 0) := (blk_cell BK197.out 3).trans rfl; have hfz41_0 := blk_frozen BK197.out 0; have hfz41_1 := blk_frozen BK197.out 1; have hfz41_2 := blk_frozen BK197.out 2; have hfz41_3 := blk_frozen BK197.out 3) | ((with_reducible refine gate_builtin (b := .append) (xs := #[.tmp 108, .tmp 110]) rfl ?_); (try (refine gate_guard (by rfl) ?_; dsimp only)); at_builtin; refine Kd.S_append k46 (w0 := w) w.heap.size rfl (.tmp 108) (.tmp 110) 40 46 (.agg #[(.string ⟨#[]⟩), (.slice none 0 0), (.slice none 0 0), (.slice none 0 0)]) 88 rfl Tryd.underlying40 info46 rfl (by decide) (by omega) u7 x7_2 (⟨(⟨#[102]⟩ : ByteArray), x198001_3, y210, ([] : List (S104))⟩ : S46) [.string (⟨#[102]⟩ : ByteArray), .slice Ao39 x198001_3.length co39, .slice Ao37 y210.length co37, .slice none 0 0] (fun k_ => k_ ≠ gb197) (fun k_ => some k_ = (.slice Ao39 x198001_3.length co39 : Value).ownBlock ∨ some k_ = (.slice Ao37 y210.length co37 : Value).ownBlock) rfl rfl ?aP (fun k_ hk_ => hk_.elim (fun h_ => ((Kd.R_mono (ok' := fun k_ => ((fun k_ => k_ ≠ gb197)) k_ ∧ some k_ ≠ (u7 : Value).ownBlock) (Kd.R_types (Kd.R_apart' (HO_198001.out) (Kd.S_typed HO_7.out) (by decide)) BK197.out (by decide)) (fun k_ hk => ⟨hk.2, hk.1.2⟩))).1 k_ h_.symm) (fun h_ => ((Kd.R_mono (ok' := fun k_ => ((fun k_ => k_ ≠ gb197)) k_ ∧ some k_ ≠ (u7 : Value).ownBlock) (Kd.R_types (Kd.R_apart' (HO212.out) (Kd.S_typed HO_7.out) (by decide)) BK197.out (by decide)) (fun k_ hk => ⟨hk.2, hk.1.2⟩))).1 k_ h_.symm)) ?aF ?aO ?aB ?aS ?aL ?_; (case aP => exact k46_mkM _ _ _ (⟨(⟨#[102]⟩ : ByteArray), x198001_3, y210, ([] : List (S104))⟩ : S46) (Kd.R_mono (Kd.R_tight rfl (Kd.R_mono (ok' := fun k_ => ((fun k_ => k_ ≠ gb197)) k_ ∧ some k_ ≠ (u7 : Value).ownBlock) (Kd.R_types (Kd.R_apart' (HO_198001.out) (Kd.S_typed HO_7.out) (by decide)) BK197.out (by decide)) (fun k_ hk => ⟨hk.2, hk.1.2⟩))) (fun _ h_ => Or.inl h_)) (Kd.R_mono (Kd.R_tight rfl (Kd.R_mono (ok' := fun k_ => ((fun k_ => k_ ≠ gb197)) k_ ∧ some k_ ≠ (u7 : Value).ownBlock) (Kd.R_types (Kd.R_apart' (HO212.out) (Kd.S_typed HO_7.out) (by decide)) BK197.out (by decide)) (fun k_ hk => ⟨hk.2, hk.1.2⟩))) (fun _ h_ => Or.inr (h_))) (Kd.R_nil _ _ _ _ _)); (case aB => exact (by repeat (first | (with_reducible first | exact HB.out | apply below_alloc | apply pw_below_drewN | apply below_drew1 | refine below_set ?_ GE197.out) | exact HB.out))); (case aF => exact (fun k_ hk => Kd.freshB (g := gb197) (o := .cells #[.string (⟨#[102]⟩ : ByteArray), .slice Ao39 x198001_3.length co39, .slice Ao37 y210.length co37, .slice none 0 0] 46 (0, 0)) (by (with_reducible repeat (first | refine blk_drewN ?_ _ | refine blk_drew ?_ | refine blk_alloc ?_ _)); exact BK197.out) k_ hk)); (case aO => exact (by (with_reducible repeat (first | apply Kd.S_alloc | apply Kd.S_drewN | apply Kd.S_drew)); exact Kd.S_mono HO_7.out (fun k_ hk => ⟨hk.1.2, fun e_ => e_.elim (fun h_ => hk.1.1 h_) (fun h_ => hk.2 h_)⟩))); (case aS => exact (below_size (by repeat (first | (with_reducible first | exact HB.out | apply below_alloc | apply pw_below_drewN | apply below_drew1 | refine below_set ?_ GE197.out) | exact HB.out)))); (case aL => have := LMc34.out; omega); intro v215 w42 ho hb hg hat; rw [← Ny214.out] at ho; have n0_ := Aside0.mk (blk_grown (g := gb197) (o := .cells #[.string (⟨#[102]⟩ : ByteArray), .slice Ao39 x198001_3.length co39, .slice Ao37 y210.length co37, .slice none 0 0] 46 (0, 0)) (by (with_reducible repeat (first | refine blk_drewN ?_ _ | refine blk_drew ?_ | refine blk_alloc ?_ _)); exact BK197.out) hg (Kd.S_away HO_7.out (fun _ hk => hk.1.2))); have n1_ := Aside0.mk (hb); have n2_ := Aside0.mk (ho); clear BK197; clear HB; clear HO_7; clear HO212; clear HO_198001; have BK197 := n0_; have HB := n1_; have HO216 := n2_; clear n0_ n1_ n2_; clear ho hb hg hat))
                                        go_roundg k3
                                        case measure => have := HJ5.out; have := HK2.out; have := HK3.out; omega
                                        case rel => exact ⟨(y214), (wrap64 (x8_2 + (x198001_3.length : Int))), (wrap64 (x9_2 + (y210.length : Int))), (wrap64 (x10_2 + 1)), (by first | rfl | (simp; done) | (simp [*]; done)), (by first | rfl | (simp; done) | (simp [*]; done)), (by first | rfl | (simp; done) | (simp [*]; done)), H', ⟨by have := HJ5.out; have := HK2.out; have := HK3.out; omega⟩, ⟨by (with_reducible repeat (first | apply Kd.S_alloc | apply Kd.S_drewN | apply Kd.S_drew)); exact Kd.S_mono HO216.out (fun _ hk => trivial)⟩, ⟨by repeat (first | (with_reducible first | exact HB.out | apply below_alloc | apply pw_below_drewN | apply below_drew1 | refine below_set ?_ GE197.out) | exact HB.out)⟩⟩
                                      · rw [if_neg c34] at H
                                        exact absurd H (by simp)
                                    · rw [if_neg c33] at H
                                      have c33b0 : (t213.toList == x12_3.toList) = false := beq_eq_false_iff_ne.mpr c33
                                      have c33b1 : (t213.toList != x12_3.toList) = true := bne_iff_ne.mpr c33
                                      obtain rfl := Option.some.inj H
                                      have p198 : 0 ≤ (x10_2 : Int) := of_decide_eq_true (by first | (with_reducible assumption) | assumption)
                                      have q198 : x10_2 < (l1.length : Int) := of_decide_eq_true (by first | (with_reducible assumption) | assumption)
                                      obtain ⟨ad198, A198_0, c198_0, e198, hx198_0, hl198_0, hi198_0⟩ := at_L11 HR1.out x10_2 p198 q198
                                      obtain rfl : ad196 = ad198 := (by injection e198)
                                      replace hx198_0 := (HB.out.cell (World.block_lt_of_cell? w _ hx198_0)).trans hx198_0
                                      have HR198_0 := Aside0.mk hi198_0
                                      have HC198_0 := Aside0.mk hl198_0
                                      clear hi198_0 hl198_0
                                      replace p198 := eq_true p198
                                      replace q198 := eq_true q198
                                      have p209 : 0 ≤ (x10_2 : Int) := of_decide_eq_true (by first | (with_reducible assumption) | assumption)
                                      have q209 : x10_2 < (l2.length : Int) := of_decide_eq_true (by first | (with_reducible assumption) | assumption)
                                      obtain ⟨ad209, e209, hx209_0⟩ := Kd.at_int HR2.out x10_2 p209 q209
                                      cases e209
                                      replace hx209_0 := (HB.out.cell (World.block_lt_of_cell? w _ hx209_0)).trans hx209_0
                                      replace p209 := eq_true p209
                                      replace q209 := eq_true q209
                                      go_wp2_with (first | ((with_reducible refine gate_dst (N := 91) rfl ?_); (try (refine gate_guard (by rfl) ?_; dsimp only)); refine Kd.R_make (Kd.int .i64) _ 3 rfl (N := 91) rfl 43 _ _ rfl ji29 rfl rfl Tryd.underlying43 (.int .i64 0) 8 info3 rfl (by decide) (by omega) 0 (ok := fun _ => True) (okp := fun _ => True) rfl (fun _ hk => hk) trivial (of_decide_eq_true (by first | (with_reducible assumption) | assumption)) (Nat.le_trans (Nat.mul_le_mul_right _ (of_decide_eq_true (by first | (with_reducible assumption) | assumption) : ji29.toNat ≤ 35184372088832)) (by omega)) (Below.refl _ _) (Nat.le_refl _) ?_; intro v211 w43 ho44 hb hg_ hnew_; clear hg_ hnew_; (first | rw [← Ny210.out] at ho44 | (simp only [Int.reduceToNat] at ho44; rw [← Ny210.out] at ho44)); have n0_ := Aside0.mk (Kd.S_elder' (by (with_reducible repeat (first | apply Kd.S_alloc | apply Kd.S_drewN | apply Kd.S_drew)); exact HO_7.out) (Kd.R_base ho44) hb); have n1_ := Aside0.mk (Kd.R_below (by (with_reducible repeat (first | apply Kd.R_alloc | apply Kd.R_drewN | apply Kd.R_drew)); exact HO_198001.out) hb); have n2_ := Aside0.mk (Kd.R_lower ho44 (below_size (by repeat (first | (with_reducible first | exact HB.out | apply below_alloc | apply pw_below_drewN | apply below_drew1 | refine below_set ?_ GE197.out) | exact HB.out)))); have n3_ := Aside0.mk (blk_below (g := gb197) (o := .cells #[.string (⟨#[102]⟩ : ByteArray), u198001, .slice none 0 0, .slice none 0 0] 46 (0, 0)) (by (with_reducible repeat (first | refine blk_drewN ?_ _ | refine blk_drew ?_ | refine blk_alloc ?_ _)); exact BK197.out) hb); have n4_ := Aside0.mk (below_step (by repeat (first | (with_reducible first | exact HB.out | apply below_alloc | apply pw_below_drewN | apply below_drew1 | refine below_set ?_ GE197.out) | exact HB.out)) hb); clear HO_7; clear HO_198001; clear BK197; clear HB; have HO_7 := n0_; have HO_198001 := n1_; have HO212 := n2_; have BK197 := n3_; have HB := n4_; clear n0_ n1_ n2_ n3_ n4_; clear hb ho44; obtain ⟨Ao45, co45, eo45⟩ := Kd.R_slice HO212.out; subst eo45; have hcz46_0 : w43.cell? ⟨gb197, 0, none⟩ = some (.string (⟨#[102]⟩ : ByteArray)) := (blk_cell BK197.out 0).trans rfl; have hcz46_1 : w43.cell? ⟨gb197, 1, none⟩ = some (u198001) := (blk_cell BK197.out 1).trans rfl; have hcz46_2 : w43.cell? ⟨gb197, 2, none⟩ = some (.slice none 0 0) := (blk_cell BK197.out 2).trans rfl; have hcz46_3 : w43.cell? ⟨gb197, 3, none⟩ = some (.slice none 0 0) := (blk_cell BK197.out 3).trans rfl; have hfz46_0 := blk_frozen BK197.out 0; have hfz46_1 := blk_frozen BK197.out 1; have hfz46_2 := blk_frozen BK197.out 2; have hfz46_3 := blk_frozen BK197.out 3; obtain ⟨Ao47, co47, eo47⟩ := Kd.R_slice HO_198001.out; subst eo47) | ((with_reducible refine gate_callee (f := 16) rfl ?_); refine goesL_ (some 95) rfl rfl Tryd.func16 (by kernel_rfl) rfl #[.string a0, .agg #[.string (⟨#[102]⟩ : ByteArray), .slice Ao47 x198001_3.length co47, .slice Ao45 y210.length co45, .slice none 0 0]] rfl (by (try simp only [List.map_toArray, List.map_cons, List.map_nil]); first | done | rfl | (simp only [List.length_drop, List.length_take]; rfl)) ?_; (refine (diag_Lines.calls a0 (⟨#[102]⟩ : ByteArray) _ _ x198001_3 _ _ y210 _ _ ([] : List (S104)) t213 _ ?side1 ?side2 ?side3 ?side4 ?side5 ?side6 A32.out (Tabs.below HT0.out (Nat.le_refl _) (by repeat (first | (with_reducible first | exact HB.out | apply below_alloc | apply pw_below_drewN | apply below_drew1 | refine below_set ?_ GE197.out) | exact HB.out)))).mono ?_); (case side1 => refine (Kd.R_reads' (e := 26) (base := w.heap.size) (ok := fun k_ => True) (n := x198001_3.length) (c := co47) ?_).2.2; exact (by (with_reducible repeat (first | apply Kd.R_alloc | apply Kd.R_drewN | apply Kd.R_drew)); exact (Kd.R_mono (Kd.R_far (p := ⟨gb197, 2, none⟩) (Kd.R_types HO_198001.out BK197.out (by decide)) (fun _ hk => hk.2) (.slice Ao45 y210.length co45)) (fun _ h_ => h_.1)))); (case side2 => exact (Kd.R_reads' HO_198001.out).2.1); (case side3 => refine (Kd.R_reads' (e := 3) (base := w.heap.size) (ok := fun k_ => True) (n := y210.length) (c := co45) ?_).2.2; exact (by (with_reducible repeat (first | apply Kd.R_alloc | apply Kd.R_drewN | apply Kd.R_drew)); exact (Kd.R_mono (Kd.R_far (p := ⟨gb197, 2, none⟩) (Kd.R_types HO212.out BK197.out (by decide)) (fun _ hk => hk.2) (.slice Ao45 y210.length co45)) (fun _ h_ => h_.1)))); (case side4 => exact (Kd.R_reads' HO212.out).2.1); (case side5 => exact Kd.C_nil _ _); (case side6 => exact Nat.le_refl _); rintro e w48 ⟨rfl, hb⟩; refine ⟨_, rfl, ?_⟩; have n0_ := Aside0.mk (Kd.S_below (by (with_reducible repeat (first | apply Kd.S_alloc | apply Kd.S_drewN | apply Kd.S_drew)); exact (Kd.S_mono (Kd.S_far (p := ⟨gb197, 2, none⟩) (Kd.S_mono HO_7.out (fun k_ hk => (⟨hk, hk.1.2⟩ : _ ∧ k_ ≠ gb197))) (fun _ hk => hk.2) (.slice Ao45 y210.length co45)) (fun _ h_ => h_.1))) hb); have n1_ := Aside0.mk (Kd.R_below (by (with_reducible repeat (first | apply Kd.R_alloc | apply Kd.R_drewN | apply Kd.R_drew)); exact (Kd.R_mono (Kd.R_far (p := ⟨gb197, 2, none⟩) (Kd.R_types HO_198001.out BK197.out (by decide)) (fun _ hk => hk.2) (.slice Ao45 y210.length co45)) (fun _ h_ => h_.1))) hb); have n2_ := Aside0.mk (Kd.R_below (by (with_reducible repeat (first | apply Kd.R_alloc | apply Kd.R_drewN | apply Kd.R_drew)); exact (Kd.R_mono (Kd.R_far (p := ⟨gb197, 2, none⟩) (Kd.R_types HO212.out BK197.out (by decide)) (fun _ hk => hk.2) (.slice Ao45 y210.length co45)) (fun _ h_ => h_.1))) hb); have n3_ := Aside0.mk (blk_below (g := gb197) (o := .cells #[.string (⟨#[102]⟩ : ByteArray), .slice Ao47 x198001_3.length co47, .slice Ao45 y210.length co45, .slice none 0 0] 46 (0, 0)) (by (with_reducible repeat (first | refine blk_drewN ?_ _ | refine blk_drew ?_ | refine blk_alloc ?_ _)); refine blk_put (cs := #[.string (⟨#[102]⟩ : ByteArray), .slice Ao47 x198001_3.length co47, .slice none 0 0, .slice none 0 0]) ?_ 2 _ rfl; (with_reducible repeat (first | refine blk_drewN ?_ _ | refine blk_drew ?_ | refine blk_alloc ?_ _)); exact BK197.out) hb); have n4_ := Aside0.mk (below_step (by repeat (first | (with_reducible first | exact HB.out | apply below_alloc | apply pw_below_drewN | apply below_drew1 | refine below_set ?_ GE197.out) | exact HB.out)) hb); clear HO_7; clear HO_198001; clear HO212; clear BK197; clear HB; have HO_7 := n0_; have HO_198001 := n1_; have HO212 := n2_; have BK197 := n3_; have HB := n4_; clear n0_ n1_ n2_ n3_ n4_; (try clear hb); (try clear hb2); (try clear hk); (try clear hi)))
                                      go_ret
                                      exact ⟨by first | rfl | (simp [errW_none, errW_some] <;> rfl) | (simp only [← hji29]; first | rfl | (simp [errW_none, errW_some] <;> rfl)) | (simp [*, errW_none, errW_some] <;> rfl), by repeat (first | (with_reducible first | exact HB.out | apply below_alloc | apply pw_below_drewN | apply below_drew1 | refine below_set ?_ GE197.out) | exact HB.out)⟩
                                  · rw [if_neg c31] at H
                                    exact absurd H (by simp)
                                · rw [if_neg c30] at H
                                  exact absurd H (by simp)
                              · rw [if_neg c28] at H
                                have c28b0 : decide (x10_2 < (l2.length : Int)) = false := decide_eq_false c28
                                clear c28
                                replace H := Option.bind_eq_some_iff.mp H
                                obtain ⟨t217, A490, H⟩ := H
                                replace H : (if t217.toList = x12_3.toList then (if x7_2.length < 1599289640401 then (cupellaw19_DiagLines.l0 k3 a0 l1 l2 (x7_2 ++ [(⟨(⟨#[102]⟩ : ByteArray), x198001_3, ([] : List Int), ([] : List (S104))⟩ : S46)]) (wrap64 (x8_2 + (x198001_3.length : Int))) (wrap64 (x9_2 + (([] : List Int).length : Int))) (wrap64 (x10_2 + 1))) else (none)) else (some false)) = some r := H
                                have A49 := Aside0.mk A490
                                clear A490
                                by_cases c50 : t217.toList = x12_3.toList
                                · rw [if_pos c50] at H
                                  have c50b0 : (t217.toList == x12_3.toList) = true := beq_iff_eq.mpr c50
                                  have c50b1 : (t217.toList != x12_3.toList) = false := bne_eq_false_iff_eq.mpr c50
                                  clear c50
                                  by_cases c51 : x7_2.length < 1599289640401
                                  · rw [if_pos c51] at H
                                    have LMc51 := Aside0.mk c51
                                    clear c51
                                    obtain ⟨y218, hy218⟩ : ∃ y_ : List (S46), y_ = (x7_2 ++ [(⟨(⟨#[102]⟩ : ByteArray), x198001_3, ([] : List Int), ([] : List (S104))⟩ : S46)]) := ⟨_, rfl⟩
                                    replace H : (cupellaw19_DiagLines.l0 k3 a0 l1 l2 y218 (wrap64 (x8_2 + (x198001_3.length : Int))) (wrap64 (x9_2 + (([] : List Int).length : Int))) (wrap64 (x10_2 + 1))) = some r := by first | (rw [hy218]; with_reducible exact H) | (have H2_ := (Option.bind_some _ _).symm.trans H; rw [hy218]; with_reducible exact H2_) | (have H2_ := (Option.bind_some _ _).symm.trans H; with_reducible exact H2_) | with_reducible exact H | (rw [hy218]; exact H) | exact H
                                    have Ny218 := Aside0.mk hy218
                                    clear hy218
                                    have H' := Aside0.mk H
                                    clear H
                                    have p198 : 0 ≤ (x10_2 : Int) := of_decide_eq_true (by first | (with_reducible assumption) | assumption)
                                    have q198 : x10_2 < (l1.length : Int) := of_decide_eq_true (by first | (with_reducible assumption) | assumption)
                                    obtain ⟨ad198, A198_0, c198_0, e198, hx198_0, hl198_0, hi198_0⟩ := at_L11 HR1.out x10_2 p198 q198
                                    obtain rfl : ad196 = ad198 := (by injection e198)
                                    replace hx198_0 := (HB.out.cell (World.block_lt_of_cell? w _ hx198_0)).trans hx198_0
                                    have HR198_0 := Aside0.mk hi198_0
                                    have HC198_0 := Aside0.mk hl198_0
                                    clear hi198_0 hl198_0
                                    replace p198 := eq_true p198
                                    replace q198 := eq_true q198
                                    have hcz52_0 : wr.cell? ⟨gb197, 0, none⟩ = some (.string (⟨#[102]⟩ : ByteArray)) := (blk_cell BK197.out 0).trans rfl
                                    have hcz52_1 : wr.cell? ⟨gb197, 1, none⟩ = some (u198001) := (blk_cell BK197.out 1).trans rfl
                                    have hcz52_2 : wr.cell? ⟨gb197, 2, none⟩ = some (.slice none 0 0) := (blk_cell BK197.out 2).trans rfl
                                    have hcz52_3 : wr.cell? ⟨gb197, 3, none⟩ = some (.slice none 0 0) := (blk_cell BK197.out 3).trans rfl
                                    have hfz52_0 := blk_frozen BK197.out 0
                                    have hfz52_1 := blk_frozen BK197.out 1
                                    have hfz52_2 := blk_frozen BK197.out 2
                                    have hfz52_3 := blk_frozen BK197.out 3
                                    obtain ⟨Ao53, co53, eo53⟩ := Kd.R_slice HO_198001.out
                                    subst eo53
                                    go_wp2_with (first | ((with_reducible refine gate_callee (f := 16) rfl ?_); refine goesL_ (some 95) rfl rfl Tryd.func16 (by kernel_rfl) rfl #[.string a0, .agg #[.string (⟨#[102]⟩ : ByteArray), .slice Ao53 x198001_3.length co53, .slice none 0 0, .slice none 0 0]] rfl (by (try simp only [List.map_toArray, List.map_cons, List.map_nil]); first | done | rfl | (simp only [List.length_drop, List.length_take]; rfl)) ?_; (refine (diag_Lines.calls a0 (⟨#[102]⟩ : ByteArray) _ _ x198001_3 _ _ ([] : List Int) _ _ ([] : List (S104)) t217 _ ?side1 ?side2 ?side3 ?side4 ?side5 ?side6 A49.out (Tabs.below HT0.out (Nat.le_refl _) (by repeat (first | (with_reducible first | exact HB.out | apply below_alloc | apply pw_below_drewN | apply below_drew1 | refine below_set ?_ GE197.out) | exact HB.out)))).mono ?_); (case side1 => repeat (first | exact (Kd.R_reads' HO_198001.out).2.2 | (with_reducible refine Kd.C_alloc ?_ _) | (with_reducible refine Kd.C_drewN ?_ _) | (with_reducible refine Kd.C_drew ?_))); (case side2 => exact (Kd.R_reads' HO_198001.out).2.1); (case side3 => exact Kd.C_nil _ _); (case side4 => exact Nat.le_refl _); (case side5 => exact Kd.C_nil _ _); (case side6 => exact Nat.le_refl _); rintro e w54 ⟨rfl, hb⟩; refine ⟨_, rfl, ?_⟩; have n0_ := Aside0.mk (Kd.S_below (by (with_reducible repeat (first | apply Kd.S_alloc | apply Kd.S_drewN | apply Kd.S_drew)); exact HO_7.out) hb); have n1_ := Aside0.mk (Kd.R_below (by (with_reducible repeat (first | apply Kd.R_alloc | apply Kd.R_drewN | apply Kd.R_drew)); exact HO_198001.out) hb); have n2_ := Aside0.mk (blk_below (g := gb197) (o := .cells #[.string (⟨#[102]⟩ : ByteArray), .slice Ao53 x198001_3.length co53, .slice none 0 0, .slice none 0 0] 46 (0, 0)) (by (with_reducible repeat (first | refine blk_drewN ?_ _ | refine blk_drew ?_ | refine blk_alloc ?_ _)); exact BK197.out) hb); have n3_ := Aside0.mk (below_step (by repeat (first | (with_reducible first | exact HB.out | apply below_alloc | apply pw_below_drewN | apply below_drew1 | refine below_set ?_ GE197.out) | exact HB.out)) hb); clear HO_7; clear HO_198001; clear BK197; clear HB; have HO_7 := n0_; have HO_198001 := n1_; have BK197 := n2_; have HB := n3_; clear n0_ n1_ n2_ n3_; (try clear hb); (try clear hb2); (try clear hk); (try clear hi); have hcz55_0 : w54.cell? ⟨gb197, 0, none⟩ = some (.string (⟨#[102]⟩ : ByteArray)) := (blk_cell BK197.out 0).trans rfl; have hcz55_1 : w54.cell? ⟨gb197, 1, none⟩ = some (.slice Ao53 x198001_3.length co53) := (blk_cell BK197.out 1).trans rfl; have hcz55_2 : w54.cell? ⟨gb197, 2, none⟩ = some (.slice none 0 0) := (blk_cell BK197.out 2).trans rfl; have hcz55_3 : w54.cell? ⟨gb197, 3, none⟩ = some (.slice none 0 0) := (blk_cell BK197.out 3).trans rfl; have hfz55_0 := blk_frozen BK197.out 0; have hfz55_1 := blk_frozen BK197.out 1; have hfz55_2 := blk_frozen BK197.out 2; have hfz55_3 := blk_frozen BK197.out 3) | ((with_reducible refine gate_builtin (b := .append) (xs := #[.tmp 108, .tmp 110]) rfl ?_); (try (refine gate_guard (by rfl) ?_; dsimp only)); at_builtin; refine Kd.S_append k46 (w0 := w) w.heap.size rfl (.tmp 108) (.tmp 110) 40 46 (.agg #[(.string ⟨#[]⟩), (.slice none 0 0), (.slice none 0 0), (.slice none 0 0)]) 88 rfl Tryd.underlying40 info46 rfl (by decide) (by omega) u7 x7_2 (⟨(⟨#[102]⟩ : ByteArray), x198001_3, ([] : List Int), ([] : List (S104))⟩ : S46) [.string (⟨#[102]⟩ : ByteArray), .slice Ao53 x198001_3.length co53, .slice none 0 0, .slice none 0 0] (fun k_ => k_ ≠ gb197) (fun k_ => some k_ = (.slice Ao53 x198001_3.length co53 : Value).ownBlock) rfl rfl ?aP (fun k_ hk_ => ((Kd.R_mono (ok' := fun k_ => ((fun k_ => k_ ≠ gb197)) k_ ∧ some k_ ≠ (u7 : Value).ownBlock) (Kd.R_types (Kd.R_apart' (HO_198001.out) (Kd.S_typed HO_7.out) (by decide)) BK197.out (by decide)) (fun k_ hk => ⟨hk.2, hk.1.2⟩))).1 k_ hk_.symm) ?aF ?aO ?aB ?aS ?aL ?_; (case aP => exact k46_mkM _ _ _ (⟨(⟨#[102]⟩ : ByteArray), x198001_3, ([] : List Int), ([] : List (S104))⟩ : S46) (Kd.R_mono (Kd.R_tight rfl (Kd.R_mono (ok' := fun k_ => ((fun k_ => k_ ≠ gb197)) k_ ∧ some k_ ≠ (u7 : Value).ownBlock) (Kd.R_types (Kd.R_apart' (HO_198001.out) (Kd.S_typed HO_7.out) (by decide)) BK197.out (by decide)) (fun k_ hk => ⟨hk.2, hk.1.2⟩))) (fun _ h_ => h_)) (Kd.R_nil _ _ _ _ _) (Kd.R_nil _ _ _ _ _)); (case aB => exact (by repeat (first | (with_reducible first | exact HB.out | apply below_alloc | apply pw_below_drewN | apply below_drew1 | refine below_set ?_ GE197.out) | exact HB.out))); (case aF => exact (fun k_ hk => Kd.freshB (g := gb197) (o := .cells #[.string (⟨#[102]⟩ : ByteArray), .slice Ao53 x198001_3.length co53, .slice none 0 0, .slice none 0 0] 46 (0, 0)) (by (with_reducible repeat (first | refine blk_drewN ?_ _ | refine blk_drew ?_ | refine blk_alloc ?_ _)); exact BK197.out) k_ hk)); (case aO => exact (by (with_reducible repeat (first | apply Kd.S_alloc | apply Kd.S_drewN | apply Kd.S_drew)); exact Kd.S_mono HO_7.out (fun k_ hk => ⟨hk.2, fun e_ => hk.1 e_⟩))); (case aS => exact (below_size (by repeat (first | (with_reducible first | exact HB.out | apply below_alloc | apply pw_below_drewN | apply below_drew1 | refine below_set ?_ GE197.out) | exact HB.out)))); (case aL => have := LMc51.out; omega); intro v219 w56 ho hb hg hat; rw [← Ny218.out] at ho; have n0_ := Aside0.mk (blk_grown (g := gb197) (o := .cells #[.string (⟨#[102]⟩ : ByteArray), .slice Ao53 x198001_3.length co53, .slice none 0 0, .slice none 0 0] 46 (0, 0)) (by (with_reducible repeat (first | refine blk_drewN ?_ _ | refine blk_drew ?_ | refine blk_alloc ?_ _)); exact BK197.out) hg (Kd.S_away HO_7.out (fun _ hk => hk.2))); have n1_ := Aside0.mk (hb); have n2_ := Aside0.mk (ho); clear BK197; clear HB; clear HO_7; clear HO_198001; have BK197 := n0_; have HB := n1_; have HO220 := n2_; clear n0_ n1_ n2_; clear ho hb hg hat))
                                    go_roundg k3
                                    case measure => have := HJ5.out; have := HK2.out; have := HK3.out; omega
                                    case rel => exact ⟨(y218), (wrap64 (x8_2 + (x198001_3.length : Int))), (wrap64 (x9_2 + (([] : List Int).length : Int))), (wrap64 (x10_2 + 1)), (by first | rfl | (simp; done) | (simp [*]; done)), (by first | rfl | (simp; done) | (simp [*]; done)), (by first | rfl | (simp; done) | (simp [*]; done)), H', ⟨by have := HJ5.out; have := HK2.out; have := HK3.out; omega⟩, ⟨by (with_reducible repeat (first | apply Kd.S_alloc | apply Kd.S_drewN | apply Kd.S_drew)); exact Kd.S_mono HO220.out (fun _ hk => trivial)⟩, ⟨by repeat (first | (with_reducible first | exact HB.out | apply below_alloc | apply pw_below_drewN | apply below_drew1 | refine below_set ?_ GE197.out) | exact HB.out)⟩⟩
                                  · rw [if_neg c51] at H
                                    exact absurd H (by simp)
                                · rw [if_neg c50] at H
                                  have c50b0 : (t217.toList == x12_3.toList) = false := beq_eq_false_iff_ne.mpr c50
                                  have c50b1 : (t217.toList != x12_3.toList) = true := bne_iff_ne.mpr c50
                                  obtain rfl := Option.some.inj H
                                  have p198 : 0 ≤ (x10_2 : Int) := of_decide_eq_true (by first | (with_reducible assumption) | assumption)
                                  have q198 : x10_2 < (l1.length : Int) := of_decide_eq_true (by first | (with_reducible assumption) | assumption)
                                  obtain ⟨ad198, A198_0, c198_0, e198, hx198_0, hl198_0, hi198_0⟩ := at_L11 HR1.out x10_2 p198 q198
                                  obtain rfl : ad196 = ad198 := (by injection e198)
                                  replace hx198_0 := (HB.out.cell (World.block_lt_of_cell? w _ hx198_0)).trans hx198_0
                                  have HR198_0 := Aside0.mk hi198_0
                                  have HC198_0 := Aside0.mk hl198_0
                                  clear hi198_0 hl198_0
                                  replace p198 := eq_true p198
                                  replace q198 := eq_true q198
                                  have hcz57_0 : wr.cell? ⟨gb197, 0, none⟩ = some (.string (⟨#[102]⟩ : ByteArray)) := (blk_cell BK197.out 0).trans rfl
                                  have hcz57_1 : wr.cell? ⟨gb197, 1, none⟩ = some (u198001) := (blk_cell BK197.out 1).trans rfl
                                  have hcz57_2 : wr.cell? ⟨gb197, 2, none⟩ = some (.slice none 0 0) := (blk_cell BK197.out 2).trans rfl
                                  have hcz57_3 : wr.cell? ⟨gb197, 3, none⟩ = some (.slice none 0 0) := (blk_cell BK197.out 3).trans rfl
                                  have hfz57_0 := blk_frozen BK197.out 0
                                  have hfz57_1 := blk_frozen BK197.out 1
                                  have hfz57_2 := blk_frozen BK197.out 2
                                  have hfz57_3 := blk_frozen BK197.out 3
                                  obtain ⟨Ao58, co58, eo58⟩ := Kd.R_slice HO_198001.out
                                  subst eo58
                                  go_wp2_with (first | ((with_reducible refine gate_callee (f := 16) rfl ?_); refine goesL_ (some 95) rfl rfl Tryd.func16 (by kernel_rfl) rfl #[.string a0, .agg #[.string (⟨#[102]⟩ : ByteArray), .slice Ao58 x198001_3.length co58, .slice none 0 0, .slice none 0 0]] rfl (by (try simp only [List.map_toArray, List.map_cons, List.map_nil]); first | done | rfl | (simp only [List.length_drop, List.length_take]; rfl)) ?_; (refine (diag_Lines.calls a0 (⟨#[102]⟩ : ByteArray) _ _ x198001_3 _ _ ([] : List Int) _ _ ([] : List (S104)) t217 _ ?side1 ?side2 ?side3 ?side4 ?side5 ?side6 A49.out (Tabs.below HT0.out (Nat.le_refl _) (by repeat (first | (with_reducible first | exact HB.out | apply below_alloc | apply pw_below_drewN | apply below_drew1 | refine below_set ?_ GE197.out) | exact HB.out)))).mono ?_); (case side1 => repeat (first | exact (Kd.R_reads' HO_198001.out).2.2 | (with_reducible refine Kd.C_alloc ?_ _) | (with_reducible refine Kd.C_drewN ?_ _) | (with_reducible refine Kd.C_drew ?_))); (case side2 => exact (Kd.R_reads' HO_198001.out).2.1); (case side3 => exact Kd.C_nil _ _); (case side4 => exact Nat.le_refl _); (case side5 => exact Kd.C_nil _ _); (case side6 => exact Nat.le_refl _); rintro e w59 ⟨rfl, hb⟩; refine ⟨_, rfl, ?_⟩; have n0_ := Aside0.mk (Kd.S_below (by (with_reducible repeat (first | apply Kd.S_alloc | apply Kd.S_drewN | apply Kd.S_drew)); exact HO_7.out) hb); have n1_ := Aside0.mk (Kd.R_below (by (with_reducible repeat (first | apply Kd.R_alloc | apply Kd.R_drewN | apply Kd.R_drew)); exact HO_198001.out) hb); have n2_ := Aside0.mk (blk_below (g := gb197) (o := .cells #[.string (⟨#[102]⟩ : ByteArray), .slice Ao58 x198001_3.length co58, .slice none 0 0, .slice none 0 0] 46 (0, 0)) (by (with_reducible repeat (first | refine blk_drewN ?_ _ | refine blk_drew ?_ | refine blk_alloc ?_ _)); exact BK197.out) hb); have n3_ := Aside0.mk (below_step (by repeat (first | (with_reducible first | exact HB.out | apply below_alloc | apply pw_below_drewN | apply below_drew1 | refine below_set ?_ GE197.out) | exact HB.out)) hb); clear HO_7; clear HO_198001; clear BK197; clear HB; have HO_7 := n0_; have HO_198001 := n1_; have BK197 := n2_; have HB := n3_; clear n0_ n1_ n2_ n3_; (try clear hb); (try clear hb2); (try clear hk); (try clear hi)))
                                  go_ret
                                  exact ⟨by first | rfl | (simp [errW_none, errW_some] <;> rfl) | (simp [*, errW_none, errW_some] <;> rfl), by repeat (first | (with_reducible first | exact HB.out | apply below_alloc | apply pw_below_drewN | apply below_drew1 | refine below_set ?_ GE197.out) | exact HB.out)⟩
                          · rw [if_neg c16] at H
                            exact absurd H (by simp)
                        · rw [if_neg c15] at H
                          exact absurd H (by simp)
                · rw [if_neg c11] at H
                  exact absurd H (by simp)
              · rw [if_neg c10] at H
                have c10b0 : decide (x10_2 < (l1.length : Int)) = false := decide_eq_false c10
                clear c10
                replace H := Option.bind_eq_some_iff.mp H
                obtain ⟨⟨t194, t195⟩, A600, H⟩ := H
                replace H : (if t194 = x8_2 then (some (t195 == x9_2)) else (some false)) = some r := H
                have A60 := Aside0.mk A600
                clear A600
                by_cases c61 : t194 = x8_2
                · rw [if_pos c61] at H
                  have c61b0 : (t194 == x8_2) = true := beq_iff_eq.mpr c61
                  have c61b1 : (t194 != x8_2) = false := bne_eq_false_iff_eq.mpr c61
                  clear c61
                  obtain rfl := Option.some.inj H
                  obtain ⟨Ao62, co62, eo62⟩ := Kd.S_slice HO_7.out
                  subst eo62
                  go_wp2_with (first | ((with_reducible refine gate_callee (f := 17) rfl ?_); refine goesL_ (some 114) rfl rfl Tryd.func17 (by kernel_rfl) rfl #[.slice Ao62 x7_2.length co62] rfl (by (try simp only [List.map_toArray, List.map_cons, List.map_nil]); first | done | rfl | (simp only [List.length_drop, List.length_take]; rfl)) ?_; (with_reducible refine (diag_Count.calls k2 _ _ x7_2 t194 t195 _ ?side1 ?side2 A60.out).mono ?_); (case side1 => repeat (first | exact (Kd.S_reads' HO_7.out).2.2 | (with_reducible refine Kd.C_alloc ?_ _) | (with_reducible refine Kd.C_drewN ?_ _) | (with_reducible refine Kd.C_drew ?_))); (case side2 => exact (Kd.S_reads' HO_7.out).2.1); rintro e w63 ⟨rfl, hb⟩; refine ⟨_, rfl, ?_⟩; have n0_ := Aside0.mk (Kd.S_below (by (with_reducible repeat (first | apply Kd.S_alloc | apply Kd.S_drewN | apply Kd.S_drew)); exact HO_7.out) hb); have n1_ := Aside0.mk (below_step (by repeat (first | (with_reducible first | exact HB.out | apply below_alloc | apply pw_below_drewN | apply below_drew1) | exact HB.out)) hb); clear HO_7; clear HB; have HO_7 := n0_; have HB := n1_; clear n0_ n1_; (try clear hb); (try clear hb2); (try clear hk); (try clear hi)))
                  go_ret
                  exact ⟨by first | rfl | (simp [errW_none, errW_some] <;> rfl) | (simp [*, errW_none, errW_some] <;> rfl), by repeat (first | (with_reducible first | exact HB.out | apply below_alloc | apply pw_below_drewN | apply below_drew1) | exact HB.out)⟩
                · rw [if_neg c61] at H
                  have c61b0 : (t194 == x8_2) = false := beq_eq_false_iff_ne.mpr c61
                  have c61b1 : (t194 != x8_2) = true := bne_iff_ne.mpr c61
                  obtain rfl := Option.some.inj H
                  obtain ⟨Ao64, co64, eo64⟩ := Kd.S_slice HO_7.out
                  subst eo64
                  go_wp2_with (first | ((with_reducible refine gate_callee (f := 17) rfl ?_); refine goesL_ (some 114) rfl rfl Tryd.func17 (by kernel_rfl) rfl #[.slice Ao64 x7_2.length co64] rfl (by (try simp only [List.map_toArray, List.map_cons, List.map_nil]); first | done | rfl | (simp only [List.length_drop, List.length_take]; rfl)) ?_; (with_reducible refine (diag_Count.calls k2 _ _ x7_2 t194 t195 _ ?side1 ?side2 A60.out).mono ?_); (case side1 => repeat (first | exact (Kd.S_reads' HO_7.out).2.2 | (with_reducible refine Kd.C_alloc ?_ _) | (with_reducible refine Kd.C_drewN ?_ _) | (with_reducible refine Kd.C_drew ?_))); (case side2 => exact (Kd.S_reads' HO_7.out).2.1); rintro e w65 ⟨rfl, hb⟩; refine ⟨_, rfl, ?_⟩; have n0_ := Aside0.mk (Kd.S_below (by (with_reducible repeat (first | apply Kd.S_alloc | apply Kd.S_drewN | apply Kd.S_drew)); exact HO_7.out) hb); have n1_ := Aside0.mk (below_step (by repeat (first | (with_reducible first | exact HB.out | apply below_alloc | apply pw_below_drewN | apply below_drew1) | exact HB.out)) hb); clear HO_7; clear HB; have HO_7 := n0_; have HB := n1_; clear n0_ n1_; (try clear hb); (try clear hb2); (try clear hk); (try clear hi)))
                  go_ret
                  exact ⟨by first | rfl | (simp [errW_none, errW_some] <;> rfl) | (simp [*, errW_none, errW_some] <;> rfl), by repeat (first | (with_reducible first | exact HB.out | apply below_alloc | apply pw_below_drewN | apply below_drew1) | exact HB.out)⟩
  · replace c5 := Bool.eq_false_iff.mpr c5
    subst c5
    have H1 : (some false) = some r := by rw [if_neg (show ¬ (false = true) by decide)] at H; exact H
    clear H
    have H := H1
    clear H1
    obtain rfl := Option.some.inj H
    go_enter Tryd.func7, Tryd.ntmps7
    go_wp2_with (first | ((with_reducible refine gate_callee (f := 8) rfl ?_); refine goesL_ (some 16) rfl rfl Tryd.func8 (by kernel_rfl) rfl #[] rfl (by (try simp only [List.map_toArray, List.map_cons, List.map_nil]); first | done | rfl | (simp only [List.length_drop, List.length_take]; rfl)) ?_; (with_reducible refine (cupellaw19_alive.calls  false _ A4.out (Tabs.below HT0.out (Nat.le_refl _) (by repeat (first | (with_reducible first | exact HB.out | apply below_alloc | apply pw_below_drewN | apply below_drew1) | exact HB.out)))).mono ?_); rintro e w66 ⟨rfl, hb⟩; refine ⟨_, rfl, ?_⟩; have n0_ := Aside0.mk (below_step (by repeat (first | (with_reducible first | exact HB.out | apply below_alloc | apply pw_below_drewN | apply below_drew1) | exact HB.out)) hb); clear HB; have HB := n0_; clear n0_; (try clear hb); (try clear hb2); (try clear hk); (try clear hi)))
    go_ret
    exact ⟨by first | rfl | (simp [errW_none, errW_some] <;> rfl) | (simp [*, errW_none, errW_some] <;> rfl), by repeat (first | (with_reducible first | exact HB.out | apply below_alloc | apply pw_below_drewN | apply below_drew1) | exact HB.out)⟩

end Go.Proofs.YteinhpfjlfeaaaaDoor.PA
