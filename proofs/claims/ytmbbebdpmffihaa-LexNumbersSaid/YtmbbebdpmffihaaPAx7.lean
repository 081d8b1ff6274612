-- Written by a program of this session (wip/xprint.py over the kit's printer). Lean checks it.
import Derived.Test.YtmbbebdpmffihaaPAx0
import Derived.Test.YtmbbebdpmffihaaPAx4
import Derived.Test.YtmbbebdpmffihaaExtLex
namespace Go.Proofs.Ytmbbebdpmffihaa.PA
open Go.RowKit Go.Proofs.YtmbbebdpmffihaaW.PrintWords Go.Proofs.YtmbbebdpmffihaaW.PrintLast Go.Proofs.YtmbbebdpmffihaaW.PrintMore
attribute [local go_sem] max2_int min2_int max_two min_two max_three min_three max_four min_four   -- for this text's walks alone
set_option linter.unusedVariables false
set_option linter.unusedSimpArgs false

/-! ### cupellaw04_LexNumbers: function 4 -/
mutual
def cupellaw04_LexNumbers.l0 : Nat → Int → List Int → Int → ByteArray → Int → Option (Bool)
  | 0, _, _, _, _, _ => none
  | k + 1, x1, x2, x7, x8, x9 => if x9 < x7 then ((some (([48 + (((x1 + ((x9) % 256)) % 256) % 10)] : List Int) : List Int)).bind fun y191 => (if x8.size + (strOfNums y191).size ≤ 9223372036854775807 then (cupellaw04_LexNumbers.l0 k x1 x2 x7 (x8 ++ (strOfNums y191)) (wrap64 (x9 + 1))) else (none))) else ((lex_Lex.f x8).bind fun bt194 => (if (bt194.1.length : Int) = 2 then (if 0 < (bt194.1.length : Int) then (if ((rd_T35 bt194.1 0).f0) = 3 then (if x7 ≤ 18 then (if ((rd_T35 bt194.1 0).f2).toList = x8.toList then (if (bt194.2.length : Int) = 0 then (if x7 > 18 then (if ((rd_T35 bt194.1 0).f2).toList = ([48] : List UInt8) then (if (bt194.2.length : Int) = 1 then (if 0 < (bt194.2.length : Int) then (cupellaw04_LexNumbers.j1 k x2 (((rd_T39 bt194.2 0).f1) != 13)) else (none)) else (cupellaw04_LexNumbers.j1 k x2 true)) else (cupellaw04_LexNumbers.j1 k x2 true)) else (cupellaw04_LexNumbers.j1 k x2 false)) else (cupellaw04_LexNumbers.j1 k x2 true)) else (cupellaw04_LexNumbers.j1 k x2 true)) else (if x7 > 18 then (if ((rd_T35 bt194.1 0).f2).toList = ([48] : List UInt8) then (if (bt194.2.length : Int) = 1 then (if 0 < (bt194.2.length : Int) then (cupellaw04_LexNumbers.j1 k x2 (((rd_T39 bt194.2 0).f1) != 13)) else (none)) else (cupellaw04_LexNumbers.j1 k x2 true)) else (cupellaw04_LexNumbers.j1 k x2 true)) else (cupellaw04_LexNumbers.j1 k x2 false))) else (cupellaw04_LexNumbers.j1 k x2 true)) else (none)) else (cupellaw04_LexNumbers.j1 k x2 true)))
def cupellaw04_LexNumbers.j1 : Nat → List Int → Bool → Option (Bool)
  | 0, _, _ => none
  | k + 1, x2, x96 => if x96 = true then (some false) else (cupellaw04_LexNumbers.l1 k x2 true 0)
def cupellaw04_LexNumbers.l1 : Nat → List Int → Bool → Int → Option (Bool)
  | 0, _, _, _ => none
  | k + 1, x2, x12, x13 => if x13 < (x2.length : Int) then (if x12 = true then (if 0 ≤ x13 then (if (rd x2 x13) = 34 then (cupellaw04_LexNumbers.l1 k x2 false (wrap64 (x13 + 1))) else (cupellaw04_LexNumbers.l1 k x2 ((rd x2 x13) != 10) (wrap64 (x13 + 1)))) else (none)) else (cupellaw04_LexNumbers.l1 k x2 false (wrap64 (x13 + 1)))) else (if x12 = true then (if 1 + (strOfNums x2).size ≤ 9223372036854775807 then (if ((⟨#[34]⟩ : ByteArray) ++ (strOfNums x2)).size + 1 ≤ 9223372036854775807 then ((lex_Lex.f (((⟨#[34]⟩ : ByteArray) ++ (strOfNums x2)) ++ (⟨#[34]⟩ : ByteArray))).bind fun bt208 => ((lex_Lex.f ((⟨#[34]⟩ : ByteArray) ++ (strOfNums x2))).bind fun bt214 => (if (bt208.1.length : Int) = 2 then (if 0 < (bt208.1.length : Int) then (if ((rd_T35 bt208.1 0).f0) = 4 then (if ((rd_T35 bt208.1 0).f2).toList = (strOfNums x2).toList then (if (bt208.2.length : Int) = 0 then (if (bt214.1.length : Int) = 1 then (if (bt214.2.length : Int) = 1 then (if 0 < (bt214.2.length : Int) then (some (((rd_T39 bt214.2 0).f0) == 0)) else (none)) else (some false)) else (some false)) else (some false)) else (some false)) else (some false)) else (none)) else (some false)))) else (none)) else (none)) else (some true))
end
def cupellaw04_LexNumbers.f (k : Nat) (a0 : Int) (a1 : Int) (l2 : List Int) : Option (Bool) := (cupellaw04_alive.f).bind fun t190 => (if t190 = true then (if (l2.length : Int) > 300 then (some true) else (cupellaw04_LexNumbers.l0 k a1 l2 (wrap64 (1 + (Int.tmod (wrap64 (a0)) 30))) (⟨#[]⟩ : ByteArray) 0)) else (some false))
theorem cupellaw04_LexNumbers.mono_l : ∀ k, (∀ y0 y1 y2 y3 y4, LeO (cupellaw04_LexNumbers.l0 k y0 y1 y2 y3 y4) (cupellaw04_LexNumbers.l0 (k + 1) y0 y1 y2 y3 y4)) ∧ (∀ y0 y1, LeO (cupellaw04_LexNumbers.j1 k y0 y1) (cupellaw04_LexNumbers.j1 (k + 1) y0 y1)) ∧ (∀ y0 y1 y2, LeO (cupellaw04_LexNumbers.l1 k y0 y1 y2) (cupellaw04_LexNumbers.l1 (k + 1) y0 y1 y2))
  | 0 => ⟨fun _ _ _ _ _ r h => by simp [cupellaw04_LexNumbers.l0] at h, fun _ _ r h => by simp [cupellaw04_LexNumbers.j1] at h, fun _ _ _ r h => by simp [cupellaw04_LexNumbers.l1] at h⟩
  | k + 1 => by
    obtain ⟨ih0, ih1, ih2⟩ := cupellaw04_LexNumbers.mono_l k
    refine ⟨?_, ?_, ?_⟩
    · intro y0 y1 y2 y3 y4
      unfold cupellaw04_LexNumbers.l0
      repeat' first
      | (with_reducible exact ih0 _ _ _ _ _)
      | (with_reducible exact ih1 _ _)
      | (with_reducible exact ih2 _ _ _)
      | (with_reducible exact LeO.refl _)
      | (with_reducible exact LeO.none _)
      | (with_reducible refine LeO.ite ?_ ?_)
      | (with_reducible refine LeO.bind ?_ (fun _ => ?_))
      | exact ih0 _ _ _ _ _
      | exact ih1 _ _
      | exact ih2 _ _ _
      | exact LeO.none _
      | refine LeO.ite ?_ ?_
      | refine LeO.bind ?_ (fun _ => ?_)
    · intro y0 y1
      unfold cupellaw04_LexNumbers.j1
      repeat' first
      | (with_reducible exact ih0 _ _ _ _ _)
      | (with_reducible exact ih1 _ _)
      | (with_reducible exact ih2 _ _ _)
      | (with_reducible exact LeO.refl _)
      | (with_reducible exact LeO.none _)
      | (with_reducible refine LeO.ite ?_ ?_)
      | (with_reducible refine LeO.bind ?_ (fun _ => ?_))
      | exact ih0 _ _ _ _ _
      | exact ih1 _ _
      | exact ih2 _ _ _
      | exact LeO.none _
      | refine LeO.ite ?_ ?_
      | refine LeO.bind ?_ (fun _ => ?_)
    · intro y0 y1 y2
      unfold cupellaw04_LexNumbers.l1
      repeat' first
      | (with_reducible exact ih0 _ _ _ _ _)
      | (with_reducible exact ih1 _ _)
      | (with_reducible exact ih2 _ _ _)
      | (with_reducible exact LeO.refl _)
      | (with_reducible exact LeO.none _)
      | (with_reducible refine LeO.ite ?_ ?_)
      | (with_reducible refine LeO.bind ?_ (fun _ => ?_))
      | exact ih0 _ _ _ _ _
      | exact ih1 _ _
      | exact ih2 _ _ _
      | exact LeO.none _
      | refine LeO.ite ?_ ?_
      | refine LeO.bind ?_ (fun _ => ?_)
theorem cupellaw04_LexNumbers.mono : ∀ a0 a1 a2 k, LeO (cupellaw04_LexNumbers.f k a0 a1 a2) (cupellaw04_LexNumbers.f (k + 1) a0 a1 a2) := by
  intro a0 a1 a2 k
  obtain ⟨ih0, ih1, ih2⟩ := cupellaw04_LexNumbers.mono_l k
  unfold cupellaw04_LexNumbers.f
  repeat' first
      | (with_reducible exact ih0 _ _ _ _ _)
      | (with_reducible exact ih1 _ _)
      | (with_reducible exact ih2 _ _ _)
      | (with_reducible exact LeO.refl _)
      | (with_reducible exact LeO.none _)
      | (with_reducible refine LeO.ite ?_ ?_)
      | (with_reducible refine LeO.bind ?_ (fun _ => ?_))
      | exact ih0 _ _ _ _ _
      | exact ih1 _ _
      | exact ih2 _ _ _
      | exact LeO.none _
      | refine LeO.ite ?_ ?_
      | refine LeO.bind ?_ (fun _ => ?_)
set_option maxHeartbeats 8000000 in
set_option maxRecDepth 100000 in
theorem cupellaw04_LexNumbers.calls (k : Nat) (a0 : Int) (a1 : Int) (A2 : Option Addr) (c2 : Nat) (l2 : List Int) (r : Bool) (w : World) (hr2 : Kd.C (Kd.int .u8) w A2 l2.length l2) (hc2 : l2.length ≤ c2) (h : cupellaw04_LexNumbers.f k a0 a1 l2 = some r) :
    Calls Try.prog 4 #[.int .u8 a0, .int .u8 a1, .slice A2 l2.length c2] w fun e w' => e = .returned (.bool r) ∧ Below w.heap.size w w' := by
  have HR2 := Aside0.mk hr2
  have HC2 := Aside0.mk hc2
  clear hr2 hc2
  have HB := Aside0.mk (Below.refl w.heap.size w)
  have H : ((cupellaw04_alive.f).bind fun t190 => (if t190 = true then (if (l2.length : Int) > 300 then (some true) else (cupellaw04_LexNumbers.l0 k a1 l2 (wrap64 (1 + (Int.tmod (wrap64 (a0)) 30))) (⟨#[]⟩ : ByteArray) 0)) else (some false))) = some r := h
  clear h
  replace H := Option.bind_eq_some_iff.mp H
  obtain ⟨t190, A40, H⟩ := H
  replace H : (if t190 = true then (if (l2.length : Int) > 300 then (some true) else (cupellaw04_LexNumbers.l0 k a1 l2 (wrap64 (1 + (Int.tmod (wrap64 (a0)) 30))) (⟨#[]⟩ : ByteArray) 0)) else (some false)) = some r := H
  have A4 := Aside0.mk A40
  clear A40
  by_cases c5 : t190 = true
  · subst c5
    have H1 : (if (l2.length : Int) > 300 then (some true) else (cupellaw04_LexNumbers.l0 k a1 l2 (wrap64 (1 + (Int.tmod (wrap64 (a0)) 30))) (⟨#[]⟩ : ByteArray) 0)) = some r := by rw [if_pos rfl] at H; exact H
    clear H
    have H := H1
    clear H1
    by_cases c6 : (l2.length : Int) > 300
    · rw [if_pos c6] at H
      have c6b0 : decide (300 < (l2.length : Int)) = true := decide_eq_true c6
      have c6b1 : decide (300 < l2.length) = true := decide_eq_true (by omega)
      clear c6
      obtain rfl := Option.some.inj H
      go_enter Try.func4, Try.ntmps4
      go_wp2_with (first | (go_at_call 9; (with_reducible refine (cupellaw04_alive.calls  true _ A4.out).mono ?_); rintro e w7 ⟨rfl, hb⟩; (try clear A4); have n0_ := Aside0.mk (below_step (by repeat (first | (with_reducible first | exact HB.out | apply below_alloc | apply pw_below_drewN | apply below_drew1) | exact HB.out)) hb); clear HB; have HB := n0_; clear n0_; (try clear hb); (try clear hb2); (try clear hk); (try clear hi)))
      repeat (go_quiet (first | (go_at_call 9; (with_reducible refine (cupellaw04_alive.calls  true _ A4.out).mono ?_); rintro e w7 ⟨rfl, hb⟩; (try clear A4); have n0_ := Aside0.mk (below_step (by repeat (first | (with_reducible first | exact HB.out | apply below_alloc | apply pw_below_drewN | apply below_drew1) | exact HB.out)) hb); clear HB; have HB := n0_; clear n0_; (try clear hb); (try clear hb2); (try clear hk); (try clear hi))); try go_wp2_with (first | (go_at_call 9; (with_reducible refine (cupellaw04_alive.calls  true _ A4.out).mono ?_); rintro e w7 ⟨rfl, hb⟩; (try clear A4); have n0_ := Aside0.mk (below_step (by repeat (first | (with_reducible first | exact HB.out | apply below_alloc | apply pw_below_drewN | apply below_drew1) | exact HB.out)) hb); clear HB; have HB := n0_; clear n0_; (try clear hb); (try clear hb2); (try clear hk); (try clear hi))))
      go_ret
      exact ⟨by first | rfl | (simp [errW_none, errW_some] <;> rfl) | (simp [*, errW_none, errW_some] <;> rfl), by repeat (first | (with_reducible first | exact HB.out | apply below_alloc | apply pw_below_drewN | apply below_drew1) | exact HB.out)⟩
    · rw [if_neg c6] at H
      have c6b0 : decide (300 < (l2.length : Int)) = false := decide_eq_false c6
      have c6b1 : decide (300 < l2.length) = false := decide_eq_false (by omega)
      clear c6
      have H' := Aside0.mk H
      clear H
      go_enter Try.func4, Try.ntmps4
      go_wp2_with (first | (go_at_call 9; (with_reducible refine (cupellaw04_alive.calls  true _ A4.out).mono ?_); rintro e w8 ⟨rfl, hb⟩; (try clear A4); have n0_ := Aside0.mk (below_step (by repeat (first | (with_reducible first | exact HB.out | apply below_alloc | apply pw_below_drewN | apply below_drew1) | exact HB.out)) hb); clear HB; have HB := n0_; clear n0_; (try clear hb); (try clear hb2); (try clear hk); (try clear hi)))
      repeat (go_quiet (first | (go_at_call 9; (with_reducible refine (cupellaw04_alive.calls  true _ A4.out).mono ?_); rintro e w8 ⟨rfl, hb⟩; (try clear A4); have n0_ := Aside0.mk (below_step (by repeat (first | (with_reducible first | exact HB.out | apply below_alloc | apply pw_below_drewN | apply below_drew1) | exact HB.out)) hb); clear HB; have HB := n0_; clear n0_; (try clear hb); (try clear hb2); (try clear hk); (try clear hi))); try go_wp2_with (first | (go_at_call 9; (with_reducible refine (cupellaw04_alive.calls  true _ A4.out).mono ?_); rintro e w8 ⟨rfl, hb⟩; (try clear A4); have n0_ := Aside0.mk (below_step (by repeat (first | (with_reducible first | exact HB.out | apply below_alloc | apply pw_below_drewN | apply below_drew1) | exact HB.out)) hb); clear HB; have HB := n0_; clear n0_; (try clear hb); (try clear hb2); (try clear hk); (try clear hi))))
      go_loopg [8, 9] k (fun kq v8 v9 w' => ∃ (x8_1 : ByteArray) (x9_1 : Int), v8 = .string x8_1 ∧ v9 = .int .i64 x9_1 ∧ Aside0 (cupellaw04_LexNumbers.l0 kq a1 l2 (wrap64 (1 + (Int.tmod (wrap64 (a0)) 30))) x8_1 x9_1 = some r) ∧ Aside0 (kq ≤ k) ∧ Aside0 (Below w.heap.size w w'))
      case atStart => exact ⟨((⟨#[]⟩ : ByteArray)), (0), (by first | rfl | (simp; done) | (simp [*]; done)), (by first | rfl | (simp; done) | (simp [*]; done)), H', ⟨Nat.le_refl _⟩, ⟨by repeat (first | (with_reducible first | exact HB.out | apply below_alloc | apply pw_below_drewN | apply below_drew1) | exact HB.out)⟩⟩
      case round =>
        clear H'
        try clear c2
        try clear p2
        try clear c4
        try clear c5
        try clear c6
        try clear c6b0
        try clear c6b1
        try clear p6
        obtain ⟨x8_1, x9_1, rfl, rfl, HA, HK1, HB⟩ := hrel
        cases gk with
        | zero => exact absurd HA.out (by simp [cupellaw04_LexNumbers.l0])
        | succ k1 =>
          have H := HA.out
          clear HA
          simp only [cupellaw04_LexNumbers.l0] at H
          by_cases c9 : x9_1 < (wrap64 (1 + (Int.tmod (wrap64 (a0)) 30)))
          · rw [if_pos c9] at H
            have c9b0 : decide (x9_1 < (wrap64 (1 + (Int.tmod (wrap64 (a0)) 30)))) = true := decide_eq_true c9
            clear c9
            obtain ⟨y191, hy191⟩ : ∃ y_ : List Int, y_ = (([48 + (((a1 + ((x9_1) % 256)) % 256) % 10)] : List Int)) := ⟨_, rfl⟩
            replace H : (if x8_1.size + (strOfNums y191).size ≤ 9223372036854775807 then (cupellaw04_LexNumbers.l0 k1 a1 l2 (wrap64 (1 + (Int.tmod (wrap64 (a0)) 30))) (x8_1 ++ (strOfNums y191)) (wrap64 (x9_1 + 1))) else (none)) = some r := by first | (rw [hy191]; with_reducible exact H) | (have H2_ := (Option.bind_some _ _).symm.trans H; rw [hy191]; with_reducible exact H2_) | (have H2_ := (Option.bind_some _ _).symm.trans H; with_reducible exact H2_) | with_reducible exact H | (rw [hy191]; exact H) | exact H
            have Ny191 := Aside0.mk hy191
            clear hy191
            by_cases c10 : x8_1.size + (strOfNums y191).size ≤ 9223372036854775807
            · rw [if_pos c10] at H
              have c10b0 := eq_true c10
              have c10b9 := eq_false (Nat.not_lt.2 c10)
              try simp only [ByteArray.size_append] at c10b9
              have c10b1 : decide (x8_1.size + (strOfNums y191).size ≤ 9223372036854775807) = true := decide_eq_true c10
              try have c10b2 : (9223372036854775807 < x8_1.size + (strOfNums y191).size) = False := eq_false (Nat.not_lt.2 c10)
              have H' := Aside0.mk H
              clear H
              go_wp2_with (first | ((with_reducible refine gate_dst (N := 39) rfl ?_); (try (refine gate_guard (by rfl) ?_; dsimp only)); refine Kd.R_lit (Kd.int .u8) _ 5 ?hg (N := 39) ?hd (xs := ([48 + (((a1 + ((x9_1) % 256)) % 256) % 10)] : List Int)) (inner := [.int .u8 (48 + (((a1 + ((x9_1) % 256)) % 256) % 10))]) (ok := fun _ => True) (okp := fun _ => True) ?hr ?hp (fun _ hk => hk) trivial (Below.refl _ _) (Nat.le_refl _) (by simp) ?_; (case hd => rfl); (case hg => rfl); (case hr => first | (go_simp; done) | (go_simp; rfl)); (case hp => exact (Reps.one (show Kd.M (Kd.int .u8) _ _ _ (48 + (((a1 + ((x9_1) % 256)) % 256) % 10)) [.int .u8 (48 + (((a1 + ((x9_1) % 256)) % 256) % 10))] from rfl) (Reps.none _ _))); intro v192 w11 ho12 hb hg_ hnew_; clear hg_ hnew_; (first | rw [← Ny191.out] at ho12 | (simp only [Int.reduceToNat] at ho12; rw [← Ny191.out] at ho12)); have n0_ := Aside0.mk (Kd.R_lower ho12 (below_size (by repeat (first | (with_reducible first | exact HB.out | apply below_alloc | apply pw_below_drewN | apply below_drew1) | exact HB.out)))); have n1_ := Aside0.mk (below_step (by repeat (first | (with_reducible first | exact HB.out | apply below_alloc | apply pw_below_drewN | apply below_drew1) | exact HB.out)) hb); clear HB; have HO193 := n0_; have HB := n1_; clear n0_ n1_; clear hb ho12; have hcv13 := own_string (P := Try.prog) Try.underlying37 Try.underlying5 Try.underlying9 (Kd.own_of_R HO193.out)))
              repeat (go_quiet (first | ((with_reducible refine gate_dst (N := 39) rfl ?_); (try (refine gate_guard (by rfl) ?_; dsimp only)); refine Kd.R_lit (Kd.int .u8) _ 5 ?hg (N := 39) ?hd (xs := ([48 + (((a1 + ((x9_1) % 256)) % 256) % 10)] : List Int)) (inner := [.int .u8 (48 + (((a1 + ((x9_1) % 256)) % 256) % 10))]) (ok := fun _ => True) (okp := fun _ => True) ?hr ?hp (fun _ hk => hk) trivial (Below.refl _ _) (Nat.le_refl _) (by simp) ?_; (case hd => rfl); (case hg => rfl); (case hr => first | (go_simp; done) | (go_simp; rfl)); (case hp => exact (Reps.one (show Kd.M (Kd.int .u8) _ _ _ (48 + (((a1 + ((x9_1) % 256)) % 256) % 10)) [.int .u8 (48 + (((a1 + ((x9_1) % 256)) % 256) % 10))] from rfl) (Reps.none _ _))); intro v192 w11 ho12 hb hg_ hnew_; clear hg_ hnew_; (first | rw [← Ny191.out] at ho12 | (simp only [Int.reduceToNat] at ho12; rw [← Ny191.out] at ho12)); have n0_ := Aside0.mk (Kd.R_lower ho12 (below_size (by repeat (first | (with_reducible first | exact HB.out | apply below_alloc | apply pw_below_drewN | apply below_drew1) | exact HB.out)))); have n1_ := Aside0.mk (below_step (by repeat (first | (with_reducible first | exact HB.out | apply below_alloc | apply pw_below_drewN | apply below_drew1) | exact HB.out)) hb); clear HB; have HO193 := n0_; have HB := n1_; clear n0_ n1_; clear hb ho12; have hcv13 := own_string (P := Try.prog) Try.underlying37 Try.underlying5 Try.underlying9 (Kd.own_of_R HO193.out))); try go_wp2_with (first | ((with_reducible refine gate_dst (N := 39) rfl ?_); (try (refine gate_guard (by rfl) ?_; dsimp only)); refine Kd.R_lit (Kd.int .u8) _ 5 ?hg (N := 39) ?hd (xs := ([48 + (((a1 + ((x9_1) % 256)) % 256) % 10)] : List Int)) (inner := [.int .u8 (48 + (((a1 + ((x9_1) % 256)) % 256) % 10))]) (ok := fun _ => True) (okp := fun _ => True) ?hr ?hp (fun _ hk => hk) trivial (Below.refl _ _) (Nat.le_refl _) (by simp) ?_; (case hd => rfl); (case hg => rfl); (case hr => first | (go_simp; done) | (go_simp; rfl)); (case hp => exact (Reps.one (show Kd.M (Kd.int .u8) _ _ _ (48 + (((a1 + ((x9_1) % 256)) % 256) % 10)) [.int .u8 (48 + (((a1 + ((x9_1) % 256)) % 256) % 10))] from rfl) (Reps.none _ _))); intro v192 w11 ho12 hb hg_ hnew_; clear hg_ hnew_; (first | rw [← Ny191.out] at ho12 | (simp only [Int.reduceToNat] at ho12; rw [← Ny191.out] at ho12)); have n0_ := Aside0.mk (Kd.R_lower ho12 (below_size (by repeat (first | (with_reducible first | exact HB.out | apply below_alloc | apply pw_below_drewN | apply below_drew1) | exact HB.out)))); have n1_ := Aside0.mk (below_step (by repeat (first | (with_reducible first | exact HB.out | apply below_alloc | apply pw_below_drewN | apply below_drew1) | exact HB.out)) hb); clear HB; have HO193 := n0_; have HB := n1_; clear n0_ n1_; clear hb ho12; have hcv13 := own_string (P := Try.prog) Try.underlying37 Try.underlying5 Try.underlying9 (Kd.own_of_R HO193.out))))
              go_roundg k1
              case measure => have := HK1.out; omega
              case rel => exact ⟨(x8_1 ++ (strOfNums y191)), (wrap64 (x9_1 + 1)), (by first | rfl | (simp; done) | (simp [*]; done)), (by first | rfl | (simp; done) | (simp [*]; done)), H', ⟨by have := HK1.out; omega⟩, ⟨by repeat (first | (with_reducible first | exact HB.out | apply below_alloc | apply pw_below_drewN | apply below_drew1) | exact HB.out)⟩⟩
            · rw [if_neg c10] at H
              exact absurd H (by simp)
          · rw [if_neg c9] at H
            have c9b0 : decide (x9_1 < (wrap64 (1 + (Int.tmod (wrap64 (a0)) 30)))) = false := decide_eq_false c9
            clear c9
            replace H := Option.bind_eq_some_iff.mp H
            obtain ⟨⟨t194, t195⟩, A140, H⟩ := H
            replace H : (if (t194.length : Int) = 2 then (if 0 < (t194.length : Int) then (if ((rd_T35 t194 0).f0) = 3 then (if (wrap64 (1 + (Int.tmod (wrap64 (a0)) 30))) ≤ 18 then (if ((rd_T35 t194 0).f2).toList = x8_1.toList then (if (t195.length : Int) = 0 then (if (wrap64 (1 + (Int.tmod (wrap64 (a0)) 30))) > 18 then (if ((rd_T35 t194 0).f2).toList = ([48] : List UInt8) then (if (t195.length : Int) = 1 then (if 0 < (t195.length : Int) then (cupellaw04_LexNumbers.j1 k1 l2 (((rd_T39 t195 0).f1) != 13)) else (none)) else (cupellaw04_LexNumbers.j1 k1 l2 true)) else (cupellaw04_LexNumbers.j1 k1 l2 true)) else (cupellaw04_LexNumbers.j1 k1 l2 false)) else (cupellaw04_LexNumbers.j1 k1 l2 true)) else (cupellaw04_LexNumbers.j1 k1 l2 true)) else (if (wrap64 (1 + (Int.tmod (wrap64 (a0)) 30))) > 18 then (if ((rd_T35 t194 0).f2).toList = ([48] : List UInt8) then (if (t195.length : Int) = 1 then (if 0 < (t195.length : Int) then (cupellaw04_LexNumbers.j1 k1 l2 (((rd_T39 t195 0).f1) != 13)) else (none)) else (cupellaw04_LexNumbers.j1 k1 l2 true)) else (cupellaw04_LexNumbers.j1 k1 l2 true)) else (cupellaw04_LexNumbers.j1 k1 l2 false))) else (cupellaw04_LexNumbers.j1 k1 l2 true)) else (none)) else (cupellaw04_LexNumbers.j1 k1 l2 true)) = some r := H
            have A14 := Aside0.mk A140
            clear A140
            have HC15 := Aside0.mk H
            clear H
            go_upto_region 12 with (first | (go_at_call 10; (with_reducible refine (lex_Lex.calls x8_1 t194 t195 _ A14.out).mono ?_); rintro e w16 ⟨v196, v198, rfl, ho0, ho1, hb⟩; (try clear A14); have n0_ := Aside0.mk (Kd.R_lower ho0 (below_size (by repeat (first | (with_reducible first | exact HB.out | apply below_alloc | apply pw_below_drewN | apply below_drew1) | exact HB.out)))); have n1_ := Aside0.mk (Kd.R_lower ho1 (below_size (by repeat (first | (with_reducible first | exact HB.out | apply below_alloc | apply pw_below_drewN | apply below_drew1) | exact HB.out)))); have n2_ := Aside0.mk (below_step (by repeat (first | (with_reducible first | exact HB.out | apply below_alloc | apply pw_below_drewN | apply below_drew1) | exact HB.out)) hb); clear HB; have HO197 := n0_; have HO199 := n1_; have HB := n2_; clear n0_ n1_ n2_; (try clear hb); (try clear hb2); (try clear hk); (try clear hi); (try clear ho0); (try clear ho1)))
            repeat (go_quiet (first | (go_at_call 10; (with_reducible refine (lex_Lex.calls x8_1 t194 t195 _ A14.out).mono ?_); rintro e w16 ⟨v196, v198, rfl, ho0, ho1, hb⟩; (try clear A14); have n0_ := Aside0.mk (Kd.R_lower ho0 (below_size (by repeat (first | (with_reducible first | exact HB.out | apply below_alloc | apply pw_below_drewN | apply below_drew1) | exact HB.out)))); have n1_ := Aside0.mk (Kd.R_lower ho1 (below_size (by repeat (first | (with_reducible first | exact HB.out | apply below_alloc | apply pw_below_drewN | apply below_drew1) | exact HB.out)))); have n2_ := Aside0.mk (below_step (by repeat (first | (with_reducible first | exact HB.out | apply below_alloc | apply pw_below_drewN | apply below_drew1) | exact HB.out)) hb); clear HB; have HO197 := n0_; have HO199 := n1_; have HB := n2_; clear n0_ n1_ n2_; (try clear hb); (try clear hb2); (try clear hk); (try clear hi); (try clear ho0); (try clear ho1))); go_upto_region 12 with (first | (go_at_call 10; (with_reducible refine (lex_Lex.calls x8_1 t194 t195 _ A14.out).mono ?_); rintro e w16 ⟨v196, v198, rfl, ho0, ho1, hb⟩; (try clear A14); have n0_ := Aside0.mk (Kd.R_lower ho0 (below_size (by repeat (first | (with_reducible first | exact HB.out | apply below_alloc | apply pw_below_drewN | apply below_drew1) | exact HB.out)))); have n1_ := Aside0.mk (Kd.R_lower ho1 (below_size (by repeat (first | (with_reducible first | exact HB.out | apply below_alloc | apply pw_below_drewN | apply below_drew1) | exact HB.out)))); have n2_ := Aside0.mk (below_step (by repeat (first | (with_reducible first | exact HB.out | apply below_alloc | apply pw_below_drewN | apply below_drew1) | exact HB.out)) hb); clear HB; have HO197 := n0_; have HO199 := n1_; have HB := n2_; clear n0_ n1_ n2_; (try clear hb); (try clear hb2); (try clear hk); (try clear hi); (try clear ho0); (try clear ho1))))
            (try simp only [Act.put, List.setIfInBounds_toArray, List.set_cons_zero, List.set_cons_succ])
            go_cut [96] (fun v96 wc => ∃ (kq : Nat) (x96_14 : Bool), v96 = .bool x96_14 ∧ Aside0 (cupellaw04_LexNumbers.j1 kq l2 x96_14 = some r) ∧ Aside0 (kq ≤ k1) ∧ Aside0 (Below w.heap.size w wc))
            case first =>
              have H := HC15.out
              clear HC15
              by_cases c17 : (t194.length : Int) = 2
              · rw [if_pos c17] at H
                have c17b0 : ((t194.length : Int) == 2) = true := beq_iff_eq.mpr c17
                have c17b1 : ((t194.length : Int) != 2) = false := bne_eq_false_iff_eq.mpr c17
                clear c17
                (first | rw [c17b0] | (simp only [i64_w, i32_w]; rw [c17b0]) | skip)
                by_cases c18 : 0 < (t194.length : Int)
                · rw [if_pos c18] at H
                  have c18b0 : decide (0 < (t194.length : Int)) = true := decide_eq_true c18
                  have c18b1 : decide (0 < t194.length) = true := decide_eq_true (by omega)
                  clear c18
                  by_cases c19 : ((rd_T35 t194 0).f0) = 3
                  · rw [if_pos c19] at H
                    have c19b0 : (((rd_T35 t194 0).f0) == 3) = true := beq_iff_eq.mpr c19
                    have c19b1 : (((rd_T35 t194 0).f0) != 3) = false := bne_eq_false_iff_eq.mpr c19
                    clear c19
                    by_cases c20 : (wrap64 (1 + (Int.tmod (wrap64 (a0)) 30))) ≤ 18
                    · rw [if_pos c20] at H
                      have c20b0 : decide ((wrap64 (1 + (Int.tmod (wrap64 (a0)) 30))) ≤ 18) = true := decide_eq_true c20
                      clear c20
                      by_cases c21 : ((rd_T35 t194 0).f2).toList = x8_1.toList
                      · rw [if_pos c21] at H
                        have c21b0 : (((rd_T35 t194 0).f2).toList == x8_1.toList) = true := beq_iff_eq.mpr c21
                        have c21b1 : (((rd_T35 t194 0).f2).toList != x8_1.toList) = false := bne_eq_false_iff_eq.mpr c21
                        clear c21
                        by_cases c22 : (t195.length : Int) = 0
                        · rw [if_pos c22] at H
                          have c22b0 : ((t195.length : Int) == 0) = true := beq_iff_eq.mpr c22
                          have c22b1 : ((t195.length : Int) != 0) = false := bne_eq_false_iff_eq.mpr c22
                          clear c22
                          by_cases c23 : (wrap64 (1 + (Int.tmod (wrap64 (a0)) 30))) > 18
                          · rw [if_pos c23] at H
                            have c23b0 : decide (18 < (wrap64 (1 + (Int.tmod (wrap64 (a0)) 30)))) = true := decide_eq_true c23
                            clear c23
                            by_cases c24 : ((rd_T35 t194 0).f2).toList = ([48] : List UInt8)
                            · rw [if_pos c24] at H
                              have c24b0 : (((rd_T35 t194 0).f2).toList == ([48] : List UInt8)) = true := beq_iff_eq.mpr c24
                              have c24b1 : (((rd_T35 t194 0).f2).toList != ([48] : List UInt8)) = false := bne_eq_false_iff_eq.mpr c24
                              clear c24
                              by_cases c25 : (t195.length : Int) = 1
                              · rw [if_pos c25] at H
                                have c25b0 : ((t195.length : Int) == 1) = true := beq_iff_eq.mpr c25
                                have c25b1 : ((t195.length : Int) != 1) = false := bne_eq_false_iff_eq.mpr c25
                                clear c25
                                by_cases c26 : 0 < (t195.length : Int)
                                · rw [if_pos c26] at H
                                  have c26b0 : decide (0 < (t195.length : Int)) = true := decide_eq_true c26
                                  have c26b1 : decide (0 < t195.length) = true := decide_eq_true (by omega)
                                  clear c26
                                  have H' := Aside0.mk H
                                  clear H
                                  obtain ⟨Ao27, co27, eo27⟩ := Kd.R_slice HO197.out
                                  subst eo27
                                  have p200 : 0 ≤ (0 : Int) := (by omega)
                                  have q200 : 0 < (t194.length : Int) := of_decide_eq_true (by first | (with_reducible assumption) | assumption)
                                  obtain ⟨ad200, e200, hx200_0, hx200_1, hx200_2⟩ := at_T35 (Kd.R_reads' HO197.out).2.2 0 p200 q200
                                  cases e200
                                  have qi200 : (0 < t194.length) = True := eq_true (by omega)
                                  (try rw [show ((0 : Int)).toNat = 0 from rfl] at hx200_0)
                                  (try rw [show 0 * 3 = 0 from rfl] at hx200_0)
                                  (try rw [Addr.add_zero'] at hx200_0)
                                  (try rw [show ((0 : Int)).toNat = 0 from rfl] at hx200_1)
                                  (try rw [show 0 * 3 = 0 from rfl] at hx200_1)
                                  (try rw [Addr.add_zero'] at hx200_1)
                                  (try rw [show ((0 : Int)).toNat = 0 from rfl] at hx200_2)
                                  (try rw [show 0 * 3 = 0 from rfl] at hx200_2)
                                  (try rw [Addr.add_zero'] at hx200_2)
                                  replace p200 := eq_true p200
                                  replace q200 := eq_true q200
                                  have p201 : 0 ≤ (0 : Int) := (by omega)
                                  have q201 : 0 < (t194.length : Int) := of_decide_eq_true (by first | (with_reducible assumption) | assumption)
                                  obtain ⟨ad201, e201, hx201_0, hx201_1, hx201_2⟩ := at_T35 (Kd.R_reads' HO197.out).2.2 0 p201 q201
                                  obtain rfl : ad200 = ad201 := (by injection e201)
                                  have qi201 : (0 < t194.length) = True := eq_true (by omega)
                                  (try rw [show ((0 : Int)).toNat = 0 from rfl] at hx201_0)
                                  (try rw [show 0 * 3 = 0 from rfl] at hx201_0)
                                  (try rw [Addr.add_zero'] at hx201_0)
                                  (try rw [show ((0 : Int)).toNat = 0 from rfl] at hx201_1)
                                  (try rw [show 0 * 3 = 0 from rfl] at hx201_1)
                                  (try rw [Addr.add_zero'] at hx201_1)
                                  (try rw [show ((0 : Int)).toNat = 0 from rfl] at hx201_2)
                                  (try rw [show 0 * 3 = 0 from rfl] at hx201_2)
                                  (try rw [Addr.add_zero'] at hx201_2)
                                  replace p201 := eq_true p201
                                  replace q201 := eq_true q201
                                  obtain ⟨Ao28, co28, eo28⟩ := Kd.R_slice HO199.out
                                  subst eo28
                                  have p202 : 0 ≤ (0 : Int) := (by omega)
                                  have q202 : 0 < (t194.length : Int) := of_decide_eq_true (by first | (with_reducible assumption) | assumption)
                                  obtain ⟨ad202, e202, hx202_0, hx202_1, hx202_2⟩ := at_T35 (Kd.R_reads' HO197.out).2.2 0 p202 q202
                                  obtain rfl : ad200 = ad202 := (by injection e202)
                                  have qi202 : (0 < t194.length) = True := eq_true (by omega)
                                  (try rw [show ((0 : Int)).toNat = 0 from rfl] at hx202_0)
                                  (try rw [show 0 * 3 = 0 from rfl] at hx202_0)
                                  (try rw [Addr.add_zero'] at hx202_0)
                                  (try rw [show ((0 : Int)).toNat = 0 from rfl] at hx202_1)
                                  (try rw [show 0 * 3 = 0 from rfl] at hx202_1)
                                  (try rw [Addr.add_zero'] at hx202_1)
                                  (try rw [show ((0 : Int)).toNat = 0 from rfl] at hx202_2)
                                  (try rw [show 0 * 3 = 0 from rfl] at hx202_2)
                                  (try rw [Addr.add_zero'] at hx202_2)
                                  replace p202 := eq_true p202
                                  replace q202 := eq_true q202
                                  have p203 : 0 ≤ (0 : Int) := (by omega)
                                  have q203 : 0 < (t195.length : Int) := of_decide_eq_true (by first | (with_reducible assumption) | assumption)
                                  obtain ⟨ad203, e203, hx203_0, hx203_1, hx203_2⟩ := at_T39 (Kd.R_reads' HO199.out).2.2 0 p203 q203
                                  cases e203
                                  have qi203 : (0 < t195.length) = True := eq_true (by omega)
                                  (try rw [show ((0 : Int)).toNat = 0 from rfl] at hx203_0)
                                  (try rw [show 0 * 3 = 0 from rfl] at hx203_0)
                                  (try rw [Addr.add_zero'] at hx203_0)
                                  (try rw [show ((0 : Int)).toNat = 0 from rfl] at hx203_1)
                                  (try rw [show 0 * 3 = 0 from rfl] at hx203_1)
                                  (try rw [Addr.add_zero'] at hx203_1)
                                  (try rw [show ((0 : Int)).toNat = 0 from rfl] at hx203_2)
                                  (try rw [show 0 * 3 = 0 from rfl] at hx203_2)
                                  (try rw [Addr.add_zero'] at hx203_2)
                                  replace p203 := eq_true p203
                                  replace q203 := eq_true q203
                                  go_wp2
                                  repeat (go_quiet (fail); try go_wp2)
                                  go_meet
                                  case rel => exact ⟨_, ((((rd_T39 t195 0).f1) != 13)), (by first | rfl | (simp; done) | (simp [*]; done)), H', ⟨by have := HK1.out; first | omega | exact Nat.le_refl _⟩, ⟨by repeat (first | (with_reducible first | exact HB.out | apply below_alloc | apply pw_below_drewN | apply below_drew1) | exact HB.out)⟩⟩
                                · rw [if_neg c26] at H
                                  exact absurd H (by simp)
                              · rw [if_neg c25] at H
                                have c25b0 : ((t195.length : Int) == 1) = false := beq_eq_false_iff_ne.mpr c25
                                have c25b1 : ((t195.length : Int) != 1) = true := bne_iff_ne.mpr c25
                                have H' := Aside0.mk H
                                clear H
                                obtain ⟨Ao29, co29, eo29⟩ := Kd.R_slice HO197.out
                                subst eo29
                                have p200 : 0 ≤ (0 : Int) := (by omega)
                                have q200 : 0 < (t194.length : Int) := of_decide_eq_true (by first | (with_reducible assumption) | assumption)
                                obtain ⟨ad200, e200, hx200_0, hx200_1, hx200_2⟩ := at_T35 (Kd.R_reads' HO197.out).2.2 0 p200 q200
                                cases e200
                                have qi200 : (0 < t194.length) = True := eq_true (by omega)
                                (try rw [show ((0 : Int)).toNat = 0 from rfl] at hx200_0)
                                (try rw [show 0 * 3 = 0 from rfl] at hx200_0)
                                (try rw [Addr.add_zero'] at hx200_0)
                                (try rw [show ((0 : Int)).toNat = 0 from rfl] at hx200_1)
                                (try rw [show 0 * 3 = 0 from rfl] at hx200_1)
                                (try rw [Addr.add_zero'] at hx200_1)
                                (try rw [show ((0 : Int)).toNat = 0 from rfl] at hx200_2)
                                (try rw [show 0 * 3 = 0 from rfl] at hx200_2)
                                (try rw [Addr.add_zero'] at hx200_2)
                                replace p200 := eq_true p200
                                replace q200 := eq_true q200
                                have p201 : 0 ≤ (0 : Int) := (by omega)
                                have q201 : 0 < (t194.length : Int) := of_decide_eq_true (by first | (with_reducible assumption) | assumption)
                                obtain ⟨ad201, e201, hx201_0, hx201_1, hx201_2⟩ := at_T35 (Kd.R_reads' HO197.out).2.2 0 p201 q201
                                obtain rfl : ad200 = ad201 := (by injection e201)
                                have qi201 : (0 < t194.length) = True := eq_true (by omega)
                                (try rw [show ((0 : Int)).toNat = 0 from rfl] at hx201_0)
                                (try rw [show 0 * 3 = 0 from rfl] at hx201_0)
                                (try rw [Addr.add_zero'] at hx201_0)
                                (try rw [show ((0 : Int)).toNat = 0 from rfl] at hx201_1)
                                (try rw [show 0 * 3 = 0 from rfl] at hx201_1)
                                (try rw [Addr.add_zero'] at hx201_1)
                                (try rw [show ((0 : Int)).toNat = 0 from rfl] at hx201_2)
                                (try rw [show 0 * 3 = 0 from rfl] at hx201_2)
                                (try rw [Addr.add_zero'] at hx201_2)
                                replace p201 := eq_true p201
                                replace q201 := eq_true q201
                                obtain ⟨Ao30, co30, eo30⟩ := Kd.R_slice HO199.out
                                subst eo30
                                have p202 : 0 ≤ (0 : Int) := (by omega)
                                have q202 : 0 < (t194.length : Int) := of_decide_eq_true (by first | (with_reducible assumption) | assumption)
                                obtain ⟨ad202, e202, hx202_0, hx202_1, hx202_2⟩ := at_T35 (Kd.R_reads' HO197.out).2.2 0 p202 q202
                                obtain rfl : ad200 = ad202 := (by injection e202)
                                have qi202 : (0 < t194.length) = True := eq_true (by omega)
                                (try rw [show ((0 : Int)).toNat = 0 from rfl] at hx202_0)
                                (try rw [show 0 * 3 = 0 from rfl] at hx202_0)
                                (try rw [Addr.add_zero'] at hx202_0)
                                (try rw [show ((0 : Int)).toNat = 0 from rfl] at hx202_1)
                                (try rw [show 0 * 3 = 0 from rfl] at hx202_1)
                                (try rw [Addr.add_zero'] at hx202_1)
                                (try rw [show ((0 : Int)).toNat = 0 from rfl] at hx202_2)
                                (try rw [show 0 * 3 = 0 from rfl] at hx202_2)
                                (try rw [Addr.add_zero'] at hx202_2)
                                replace p202 := eq_true p202
                                replace q202 := eq_true q202
                                go_wp2
                                repeat (go_quiet (fail); try go_wp2)
                                go_meet
                                case rel => exact ⟨_, (true), (by first | rfl | (simp; done) | (simp [*]; done)), H', ⟨by have := HK1.out; first | omega | exact Nat.le_refl _⟩, ⟨by repeat (first | (with_reducible first | exact HB.out | apply below_alloc | apply pw_below_drewN | apply below_drew1) | exact HB.out)⟩⟩
                            · rw [if_neg c24] at H
                              have c24b0 : (((rd_T35 t194 0).f2).toList == ([48] : List UInt8)) = false := beq_eq_false_iff_ne.mpr c24
                              have c24b1 : (((rd_T35 t194 0).f2).toList != ([48] : List UInt8)) = true := bne_iff_ne.mpr c24
                              have H' := Aside0.mk H
                              clear H
                              obtain ⟨Ao31, co31, eo31⟩ := Kd.R_slice HO197.out
                              subst eo31
                              have p200 : 0 ≤ (0 : Int) := (by omega)
                              have q200 : 0 < (t194.length : Int) := of_decide_eq_true (by first | (with_reducible assumption) | assumption)
                              obtain ⟨ad200, e200, hx200_0, hx200_1, hx200_2⟩ := at_T35 (Kd.R_reads' HO197.out).2.2 0 p200 q200
                              cases e200
                              have qi200 : (0 < t194.length) = True := eq_true (by omega)
                              (try rw [show ((0 : Int)).toNat = 0 from rfl] at hx200_0)
                              (try rw [show 0 * 3 = 0 from rfl] at hx200_0)
                              (try rw [Addr.add_zero'] at hx200_0)
                              (try rw [show ((0 : Int)).toNat = 0 from rfl] at hx200_1)
                              (try rw [show 0 * 3 = 0 from rfl] at hx200_1)
                              (try rw [Addr.add_zero'] at hx200_1)
                              (try rw [show ((0 : Int)).toNat = 0 from rfl] at hx200_2)
                              (try rw [show 0 * 3 = 0 from rfl] at hx200_2)
                              (try rw [Addr.add_zero'] at hx200_2)
                              replace p200 := eq_true p200
                              replace q200 := eq_true q200
                              have p201 : 0 ≤ (0 : Int) := (by omega)
                              have q201 : 0 < (t194.length : Int) := of_decide_eq_true (by first | (with_reducible assumption) | assumption)
                              obtain ⟨ad201, e201, hx201_0, hx201_1, hx201_2⟩ := at_T35 (Kd.R_reads' HO197.out).2.2 0 p201 q201
                              obtain rfl : ad200 = ad201 := (by injection e201)
                              have qi201 : (0 < t194.length) = True := eq_true (by omega)
                              (try rw [show ((0 : Int)).toNat = 0 from rfl] at hx201_0)
                              (try rw [show 0 * 3 = 0 from rfl] at hx201_0)
                              (try rw [Addr.add_zero'] at hx201_0)
                              (try rw [show ((0 : Int)).toNat = 0 from rfl] at hx201_1)
                              (try rw [show 0 * 3 = 0 from rfl] at hx201_1)
                              (try rw [Addr.add_zero'] at hx201_1)
                              (try rw [show ((0 : Int)).toNat = 0 from rfl] at hx201_2)
                              (try rw [show 0 * 3 = 0 from rfl] at hx201_2)
                              (try rw [Addr.add_zero'] at hx201_2)
                              replace p201 := eq_true p201
                              replace q201 := eq_true q201
                              obtain ⟨Ao32, co32, eo32⟩ := Kd.R_slice HO199.out
                              subst eo32
                              have p202 : 0 ≤ (0 : Int) := (by omega)
                              have q202 : 0 < (t194.length : Int) := of_decide_eq_true (by first | (with_reducible assumption) | assumption)
                              obtain ⟨ad202, e202, hx202_0, hx202_1, hx202_2⟩ := at_T35 (Kd.R_reads' HO197.out).2.2 0 p202 q202
                              obtain rfl : ad200 = ad202 := (by injection e202)
                              have qi202 : (0 < t194.length) = True := eq_true (by omega)
                              (try rw [show ((0 : Int)).toNat = 0 from rfl] at hx202_0)
                              (try rw [show 0 * 3 = 0 from rfl] at hx202_0)
                              (try rw [Addr.add_zero'] at hx202_0)
                              (try rw [show ((0 : Int)).toNat = 0 from rfl] at hx202_1)
                              (try rw [show 0 * 3 = 0 from rfl] at hx202_1)
                              (try rw [Addr.add_zero'] at hx202_1)
                              (try rw [show ((0 : Int)).toNat = 0 from rfl] at hx202_2)
                              (try rw [show 0 * 3 = 0 from rfl] at hx202_2)
                              (try rw [Addr.add_zero'] at hx202_2)
                              replace p202 := eq_true p202
                              replace q202 := eq_true q202
                              go_wp2
                              repeat (go_quiet (fail); try go_wp2)
                              go_meet
                              case rel => exact ⟨_, (true), (by first | rfl | (simp; done) | (simp [*]; done)), H', ⟨by have := HK1.out; first | omega | exact Nat.le_refl _⟩, ⟨by repeat (first | (with_reducible first | exact HB.out | apply below_alloc | apply pw_below_drewN | apply below_drew1) | exact HB.out)⟩⟩
                          · rw [if_neg c23] at H
                            have c23b0 : decide (18 < (wrap64 (1 + (Int.tmod (wrap64 (a0)) 30)))) = false := decide_eq_false c23
                            clear c23
                            have H' := Aside0.mk H
                            clear H
                            obtain ⟨Ao33, co33, eo33⟩ := Kd.R_slice HO197.out
                            subst eo33
                            have p200 : 0 ≤ (0 : Int) := (by omega)
                            have q200 : 0 < (t194.length : Int) := of_decide_eq_true (by first | (with_reducible assumption) | assumption)
                            obtain ⟨ad200, e200, hx200_0, hx200_1, hx200_2⟩ := at_T35 (Kd.R_reads' HO197.out).2.2 0 p200 q200
                            cases e200
                            have qi200 : (0 < t194.length) = True := eq_true (by omega)
                            (try rw [show ((0 : Int)).toNat = 0 from rfl] at hx200_0)
                            (try rw [show 0 * 3 = 0 from rfl] at hx200_0)
                            (try rw [Addr.add_zero'] at hx200_0)
                            (try rw [show ((0 : Int)).toNat = 0 from rfl] at hx200_1)
                            (try rw [show 0 * 3 = 0 from rfl] at hx200_1)
                            (try rw [Addr.add_zero'] at hx200_1)
                            (try rw [show ((0 : Int)).toNat = 0 from rfl] at hx200_2)
                            (try rw [show 0 * 3 = 0 from rfl] at hx200_2)
                            (try rw [Addr.add_zero'] at hx200_2)
                            replace p200 := eq_true p200
                            replace q200 := eq_true q200
                            have p201 : 0 ≤ (0 : Int) := (by omega)
                            have q201 : 0 < (t194.length : Int) := of_decide_eq_true (by first | (with_reducible assumption) | assumption)
                            obtain ⟨ad201, e201, hx201_0, hx201_1, hx201_2⟩ := at_T35 (Kd.R_reads' HO197.out).2.2 0 p201 q201
                            obtain rfl : ad200 = ad201 := (by injection e201)
                            have qi201 : (0 < t194.length) = True := eq_true (by omega)
                            (try rw [show ((0 : Int)).toNat = 0 from rfl] at hx201_0)
                            (try rw [show 0 * 3 = 0 from rfl] at hx201_0)
                            (try rw [Addr.add_zero'] at hx201_0)
                            (try rw [show ((0 : Int)).toNat = 0 from rfl] at hx201_1)
                            (try rw [show 0 * 3 = 0 from rfl] at hx201_1)
                            (try rw [Addr.add_zero'] at hx201_1)
                            (try rw [show ((0 : Int)).toNat = 0 from rfl] at hx201_2)
                            (try rw [show 0 * 3 = 0 from rfl] at hx201_2)
                            (try rw [Addr.add_zero'] at hx201_2)
                            replace p201 := eq_true p201
                            replace q201 := eq_true q201
                            obtain ⟨Ao34, co34, eo34⟩ := Kd.R_slice HO199.out
                            subst eo34
                            go_wp2
                            repeat (go_quiet (fail); try go_wp2)
                            go_meet
                            case rel => exact ⟨_, (false), (by first | rfl | (simp; done) | (simp [*]; done)), H', ⟨by have := HK1.out; first | omega | exact Nat.le_refl _⟩, ⟨by repeat (first | (with_reducible first | exact HB.out | apply below_alloc | apply pw_below_drewN | apply below_drew1) | exact HB.out)⟩⟩
                        · rw [if_neg c22] at H
                          have c22b0 : ((t195.length : Int) == 0) = false := beq_eq_false_iff_ne.mpr c22
                          have c22b1 : ((t195.length : Int) != 0) = true := bne_iff_ne.mpr c22
                          have c22b2 : ¬ (t195 = []) := fun h_ => c22 (by rw [h_]; rfl)
                          have H' := Aside0.mk H
                          clear H
                          obtain ⟨Ao35, co35, eo35⟩ := Kd.R_slice HO197.out
                          subst eo35
                          have p200 : 0 ≤ (0 : Int) := (by omega)
                          have q200 : 0 < (t194.length : Int) := of_decide_eq_true (by first | (with_reducible assumption) | assumption)
                          obtain ⟨ad200, e200, hx200_0, hx200_1, hx200_2⟩ := at_T35 (Kd.R_reads' HO197.out).2.2 0 p200 q200
                          cases e200
                          have qi200 : (0 < t194.length) = True := eq_true (by omega)
                          (try rw [show ((0 : Int)).toNat = 0 from rfl] at hx200_0)
                          (try rw [show 0 * 3 = 0 from rfl] at hx200_0)
                          (try rw [Addr.add_zero'] at hx200_0)
                          (try rw [show ((0 : Int)).toNat = 0 from rfl] at hx200_1)
                          (try rw [show 0 * 3 = 0 from rfl] at hx200_1)
                          (try rw [Addr.add_zero'] at hx200_1)
                          (try rw [show ((0 : Int)).toNat = 0 from rfl] at hx200_2)
                          (try rw [show 0 * 3 = 0 from rfl] at hx200_2)
                          (try rw [Addr.add_zero'] at hx200_2)
                          replace p200 := eq_true p200
                          replace q200 := eq_true q200
                          have p201 : 0 ≤ (0 : Int) := (by omega)
                          have q201 : 0 < (t194.length : Int) := of_decide_eq_true (by first | (with_reducible assumption) | assumption)
                          obtain ⟨ad201, e201, hx201_0, hx201_1, hx201_2⟩ := at_T35 (Kd.R_reads' HO197.out).2.2 0 p201 q201
                          obtain rfl : ad200 = ad201 := (by injection e201)
                          have qi201 : (0 < t194.length) = True := eq_true (by omega)
                          (try rw [show ((0 : Int)).toNat = 0 from rfl] at hx201_0)
                          (try rw [show 0 * 3 = 0 from rfl] at hx201_0)
                          (try rw [Addr.add_zero'] at hx201_0)
                          (try rw [show ((0 : Int)).toNat = 0 from rfl] at hx201_1)
                          (try rw [show 0 * 3 = 0 from rfl] at hx201_1)
                          (try rw [Addr.add_zero'] at hx201_1)
                          (try rw [show ((0 : Int)).toNat = 0 from rfl] at hx201_2)
                          (try rw [show 0 * 3 = 0 from rfl] at hx201_2)
                          (try rw [Addr.add_zero'] at hx201_2)
                          replace p201 := eq_true p201
                          replace q201 := eq_true q201
                          obtain ⟨Ao36, co36, eo36⟩ := Kd.R_slice HO199.out
                          subst eo36
                          go_wp2
                          repeat (go_quiet (fail); try go_wp2)
                          go_meet
                          case rel => exact ⟨_, (true), (by first | rfl | (simp; done) | (simp [*]; done)), H', ⟨by have := HK1.out; first | omega | exact Nat.le_refl _⟩, ⟨by repeat (first | (with_reducible first | exact HB.out | apply below_alloc | apply pw_below_drewN | apply below_drew1) | exact HB.out)⟩⟩
                      · rw [if_neg c21] at H
                        have c21b0 : (((rd_T35 t194 0).f2).toList == x8_1.toList) = false := beq_eq_false_iff_ne.mpr c21
                        have c21b1 : (((rd_T35 t194 0).f2).toList != x8_1.toList) = true := bne_iff_ne.mpr c21
                        have H' := Aside0.mk H
                        clear H
                        obtain ⟨Ao37, co37, eo37⟩ := Kd.R_slice HO197.out
                        subst eo37
                        have p200 : 0 ≤ (0 : Int) := (by omega)
                        have q200 : 0 < (t194.length : Int) := of_decide_eq_true (by first | (with_reducible assumption) | assumption)
                        obtain ⟨ad200, e200, hx200_0, hx200_1, hx200_2⟩ := at_T35 (Kd.R_reads' HO197.out).2.2 0 p200 q200
                        cases e200
                        have qi200 : (0 < t194.length) = True := eq_true (by omega)
                        (try rw [show ((0 : Int)).toNat = 0 from rfl] at hx200_0)
                        (try rw [show 0 * 3 = 0 from rfl] at hx200_0)
                        (try rw [Addr.add_zero'] at hx200_0)
                        (try rw [show ((0 : Int)).toNat = 0 from rfl] at hx200_1)
                        (try rw [show 0 * 3 = 0 from rfl] at hx200_1)
                        (try rw [Addr.add_zero'] at hx200_1)
                        (try rw [show ((0 : Int)).toNat = 0 from rfl] at hx200_2)
                        (try rw [show 0 * 3 = 0 from rfl] at hx200_2)
                        (try rw [Addr.add_zero'] at hx200_2)
                        replace p200 := eq_true p200
                        replace q200 := eq_true q200
                        have p201 : 0 ≤ (0 : Int) := (by omega)
                        have q201 : 0 < (t194.length : Int) := of_decide_eq_true (by first | (with_reducible assumption) | assumption)
                        obtain ⟨ad201, e201, hx201_0, hx201_1, hx201_2⟩ := at_T35 (Kd.R_reads' HO197.out).2.2 0 p201 q201
                        obtain rfl : ad200 = ad201 := (by injection e201)
                        have qi201 : (0 < t194.length) = True := eq_true (by omega)
                        (try rw [show ((0 : Int)).toNat = 0 from rfl] at hx201_0)
                        (try rw [show 0 * 3 = 0 from rfl] at hx201_0)
                        (try rw [Addr.add_zero'] at hx201_0)
                        (try rw [show ((0 : Int)).toNat = 0 from rfl] at hx201_1)
                        (try rw [show 0 * 3 = 0 from rfl] at hx201_1)
                        (try rw [Addr.add_zero'] at hx201_1)
                        (try rw [show ((0 : Int)).toNat = 0 from rfl] at hx201_2)
                        (try rw [show 0 * 3 = 0 from rfl] at hx201_2)
                        (try rw [Addr.add_zero'] at hx201_2)
                        replace p201 := eq_true p201
                        replace q201 := eq_true q201
                        go_wp2
                        repeat (go_quiet (fail); try go_wp2)
                        go_meet
                        case rel => exact ⟨_, (true), (by first | rfl | (simp; done) | (simp [*]; done)), H', ⟨by have := HK1.out; first | omega | exact Nat.le_refl _⟩, ⟨by repeat (first | (with_reducible first | exact HB.out | apply below_alloc | apply pw_below_drewN | apply below_drew1) | exact HB.out)⟩⟩
                    · rw [if_neg c20] at H
                      have c20b0 : decide ((wrap64 (1 + (Int.tmod (wrap64 (a0)) 30))) ≤ 18) = false := decide_eq_false c20
                      clear c20
                      by_cases c38 : (wrap64 (1 + (Int.tmod (wrap64 (a0)) 30))) > 18
                      · rw [if_pos c38] at H
                        have c38b0 : decide (18 < (wrap64 (1 + (Int.tmod (wrap64 (a0)) 30)))) = true := decide_eq_true c38
                        clear c38
                        by_cases c39 : ((rd_T35 t194 0).f2).toList = ([48] : List UInt8)
                        · rw [if_pos c39] at H
                          have c39b0 : (((rd_T35 t194 0).f2).toList == ([48] : List UInt8)) = true := beq_iff_eq.mpr c39
                          have c39b1 : (((rd_T35 t194 0).f2).toList != ([48] : List UInt8)) = false := bne_eq_false_iff_eq.mpr c39
                          clear c39
                          by_cases c40 : (t195.length : Int) = 1
                          · rw [if_pos c40] at H
                            have c40b0 : ((t195.length : Int) == 1) = true := beq_iff_eq.mpr c40
                            have c40b1 : ((t195.length : Int) != 1) = false := bne_eq_false_iff_eq.mpr c40
                            clear c40
                            by_cases c41 : 0 < (t195.length : Int)
                            · rw [if_pos c41] at H
                              have c41b0 : decide (0 < (t195.length : Int)) = true := decide_eq_true c41
                              have c41b1 : decide (0 < t195.length) = true := decide_eq_true (by omega)
                              clear c41
                              have H' := Aside0.mk H
                              clear H
                              obtain ⟨Ao42, co42, eo42⟩ := Kd.R_slice HO197.out
                              subst eo42
                              have p200 : 0 ≤ (0 : Int) := (by omega)
                              have q200 : 0 < (t194.length : Int) := of_decide_eq_true (by first | (with_reducible assumption) | assumption)
                              obtain ⟨ad200, e200, hx200_0, hx200_1, hx200_2⟩ := at_T35 (Kd.R_reads' HO197.out).2.2 0 p200 q200
                              cases e200
                              have qi200 : (0 < t194.length) = True := eq_true (by omega)
                              (try rw [show ((0 : Int)).toNat = 0 from rfl] at hx200_0)
                              (try rw [show 0 * 3 = 0 from rfl] at hx200_0)
                              (try rw [Addr.add_zero'] at hx200_0)
                              (try rw [show ((0 : Int)).toNat = 0 from rfl] at hx200_1)
                              (try rw [show 0 * 3 = 0 from rfl] at hx200_1)
                              (try rw [Addr.add_zero'] at hx200_1)
                              (try rw [show ((0 : Int)).toNat = 0 from rfl] at hx200_2)
                              (try rw [show 0 * 3 = 0 from rfl] at hx200_2)
                              (try rw [Addr.add_zero'] at hx200_2)
                              replace p200 := eq_true p200
                              replace q200 := eq_true q200
                              have p204 : 0 ≤ (0 : Int) := (by omega)
                              have q204 : 0 < (t194.length : Int) := of_decide_eq_true (by first | (with_reducible assumption) | assumption)
                              obtain ⟨ad204, e204, hx204_0, hx204_1, hx204_2⟩ := at_T35 (Kd.R_reads' HO197.out).2.2 0 p204 q204
                              obtain rfl : ad200 = ad204 := (by injection e204)
                              have qi204 : (0 < t194.length) = True := eq_true (by omega)
                              (try rw [show ((0 : Int)).toNat = 0 from rfl] at hx204_0)
                              (try rw [show 0 * 3 = 0 from rfl] at hx204_0)
                              (try rw [Addr.add_zero'] at hx204_0)
                              (try rw [show ((0 : Int)).toNat = 0 from rfl] at hx204_1)
                              (try rw [show 0 * 3 = 0 from rfl] at hx204_1)
                              (try rw [Addr.add_zero'] at hx204_1)
                              (try rw [show ((0 : Int)).toNat = 0 from rfl] at hx204_2)
                              (try rw [show 0 * 3 = 0 from rfl] at hx204_2)
                              (try rw [Addr.add_zero'] at hx204_2)
                              replace p204 := eq_true p204
                              replace q204 := eq_true q204
                              obtain ⟨Ao43, co43, eo43⟩ := Kd.R_slice HO199.out
                              subst eo43
                              have p205 : 0 ≤ (0 : Int) := (by omega)
                              have q205 : 0 < (t195.length : Int) := of_decide_eq_true (by first | (with_reducible assumption) | assumption)
                              obtain ⟨ad205, e205, hx205_0, hx205_1, hx205_2⟩ := at_T39 (Kd.R_reads' HO199.out).2.2 0 p205 q205
                              cases e205
                              have qi205 : (0 < t195.length) = True := eq_true (by omega)
                              (try rw [show ((0 : Int)).toNat = 0 from rfl] at hx205_0)
                              (try rw [show 0 * 3 = 0 from rfl] at hx205_0)
                              (try rw [Addr.add_zero'] at hx205_0)
                              (try rw [show ((0 : Int)).toNat = 0 from rfl] at hx205_1)
                              (try rw [show 0 * 3 = 0 from rfl] at hx205_1)
                              (try rw [Addr.add_zero'] at hx205_1)
                              (try rw [show ((0 : Int)).toNat = 0 from rfl] at hx205_2)
                              (try rw [show 0 * 3 = 0 from rfl] at hx205_2)
                              (try rw [Addr.add_zero'] at hx205_2)
                              replace p205 := eq_true p205
                              replace q205 := eq_true q205
                              go_wp2
                              repeat (go_quiet (fail); try go_wp2)
                              go_meet
                              case rel => exact ⟨_, ((((rd_T39 t195 0).f1) != 13)), (by first | rfl | (simp; done) | (simp [*]; done)), H', ⟨by have := HK1.out; first | omega | exact Nat.le_refl _⟩, ⟨by repeat (first | (with_reducible first | exact HB.out | apply below_alloc | apply pw_below_drewN | apply below_drew1) | exact HB.out)⟩⟩
                            · rw [if_neg c41] at H
                              exact absurd H (by simp)
                          · rw [if_neg c40] at H
                            have c40b0 : ((t195.length : Int) == 1) = false := beq_eq_false_iff_ne.mpr c40
                            have c40b1 : ((t195.length : Int) != 1) = true := bne_iff_ne.mpr c40
                            have H' := Aside0.mk H
                            clear H
                            obtain ⟨Ao44, co44, eo44⟩ := Kd.R_slice HO197.out
                            subst eo44
                            have p200 : 0 ≤ (0 : Int) := (by omega)
                            have q200 : 0 < (t194.length : Int) := of_decide_eq_true (by first | (with_reducible assumption) | assumption)
                            obtain ⟨ad200, e200, hx200_0, hx200_1, hx200_2⟩ := at_T35 (Kd.R_reads' HO197.out).2.2 0 p200 q200
                            cases e200
                            have qi200 : (0 < t194.length) = True := eq_true (by omega)
                            (try rw [show ((0 : Int)).toNat = 0 from rfl] at hx200_0)
                            (try rw [show 0 * 3 = 0 from rfl] at hx200_0)
                            (try rw [Addr.add_zero'] at hx200_0)
                            (try rw [show ((0 : Int)).toNat = 0 from rfl] at hx200_1)
                            (try rw [show 0 * 3 = 0 from rfl] at hx200_1)
                            (try rw [Addr.add_zero'] at hx200_1)
                            (try rw [show ((0 : Int)).toNat = 0 from rfl] at hx200_2)
                            (try rw [show 0 * 3 = 0 from rfl] at hx200_2)
                            (try rw [Addr.add_zero'] at hx200_2)
                            replace p200 := eq_true p200
                            replace q200 := eq_true q200
                            have p204 : 0 ≤ (0 : Int) := (by omega)
                            have q204 : 0 < (t194.length : Int) := of_decide_eq_true (by first | (with_reducible assumption) | assumption)
                            obtain ⟨ad204, e204, hx204_0, hx204_1, hx204_2⟩ := at_T35 (Kd.R_reads' HO197.out).2.2 0 p204 q204
                            obtain rfl : ad200 = ad204 := (by injection e204)
                            have qi204 : (0 < t194.length) = True := eq_true (by omega)
                            (try rw [show ((0 : Int)).toNat = 0 from rfl] at hx204_0)
                            (try rw [show 0 * 3 = 0 from rfl] at hx204_0)
                            (try rw [Addr.add_zero'] at hx204_0)
                            (try rw [show ((0 : Int)).toNat = 0 from rfl] at hx204_1)
                            (try rw [show 0 * 3 = 0 from rfl] at hx204_1)
                            (try rw [Addr.add_zero'] at hx204_1)
                            (try rw [show ((0 : Int)).toNat = 0 from rfl] at hx204_2)
                            (try rw [show 0 * 3 = 0 from rfl] at hx204_2)
                            (try rw [Addr.add_zero'] at hx204_2)
                            replace p204 := eq_true p204
                            replace q204 := eq_true q204
                            obtain ⟨Ao45, co45, eo45⟩ := Kd.R_slice HO199.out
                            subst eo45
                            go_wp2
                            repeat (go_quiet (fail); try go_wp2)
                            go_meet
                            case rel => exact ⟨_, (true), (by first | rfl | (simp; done) | (simp [*]; done)), H', ⟨by have := HK1.out; first | omega | exact Nat.le_refl _⟩, ⟨by repeat (first | (with_reducible first | exact HB.out | apply below_alloc | apply pw_below_drewN | apply below_drew1) | exact HB.out)⟩⟩
                        · rw [if_neg c39] at H
                          have c39b0 : (((rd_T35 t194 0).f2).toList == ([48] : List UInt8)) = false := beq_eq_false_iff_ne.mpr c39
                          have c39b1 : (((rd_T35 t194 0).f2).toList != ([48] : List UInt8)) = true := bne_iff_ne.mpr c39
                          have H' := Aside0.mk H
                          clear H
                          obtain ⟨Ao46, co46, eo46⟩ := Kd.R_slice HO197.out
                          subst eo46
                          have p200 : 0 ≤ (0 : Int) := (by omega)
                          have q200 : 0 < (t194.length : Int) := of_decide_eq_true (by first | (with_reducible assumption) | assumption)
                          obtain ⟨ad200, e200, hx200_0, hx200_1, hx200_2⟩ := at_T35 (Kd.R_reads' HO197.out).2.2 0 p200 q200
                          cases e200
                          have qi200 : (0 < t194.length) = True := eq_true (by omega)
                          (try rw [show ((0 : Int)).toNat = 0 from rfl] at hx200_0)
                          (try rw [show 0 * 3 = 0 from rfl] at hx200_0)
                          (try rw [Addr.add_zero'] at hx200_0)
                          (try rw [show ((0 : Int)).toNat = 0 from rfl] at hx200_1)
                          (try rw [show 0 * 3 = 0 from rfl] at hx200_1)
                          (try rw [Addr.add_zero'] at hx200_1)
                          (try rw [show ((0 : Int)).toNat = 0 from rfl] at hx200_2)
                          (try rw [show 0 * 3 = 0 from rfl] at hx200_2)
                          (try rw [Addr.add_zero'] at hx200_2)
                          replace p200 := eq_true p200
                          replace q200 := eq_true q200
                          have p204 : 0 ≤ (0 : Int) := (by omega)
                          have q204 : 0 < (t194.length : Int) := of_decide_eq_true (by first | (with_reducible assumption) | assumption)
                          obtain ⟨ad204, e204, hx204_0, hx204_1, hx204_2⟩ := at_T35 (Kd.R_reads' HO197.out).2.2 0 p204 q204
                          obtain rfl : ad200 = ad204 := (by injection e204)
                          have qi204 : (0 < t194.length) = True := eq_true (by omega)
                          (try rw [show ((0 : Int)).toNat = 0 from rfl] at hx204_0)
                          (try rw [show 0 * 3 = 0 from rfl] at hx204_0)
                          (try rw [Addr.add_zero'] at hx204_0)
                          (try rw [show ((0 : Int)).toNat = 0 from rfl] at hx204_1)
                          (try rw [show 0 * 3 = 0 from rfl] at hx204_1)
                          (try rw [Addr.add_zero'] at hx204_1)
                          (try rw [show ((0 : Int)).toNat = 0 from rfl] at hx204_2)
                          (try rw [show 0 * 3 = 0 from rfl] at hx204_2)
                          (try rw [Addr.add_zero'] at hx204_2)
                          replace p204 := eq_true p204
                          replace q204 := eq_true q204
                          go_wp2
                          repeat (go_quiet (fail); try go_wp2)
                          go_meet
                          case rel => exact ⟨_, (true), (by first | rfl | (simp; done) | (simp [*]; done)), H', ⟨by have := HK1.out; first | omega | exact Nat.le_refl _⟩, ⟨by repeat (first | (with_reducible first | exact HB.out | apply below_alloc | apply pw_below_drewN | apply below_drew1) | exact HB.out)⟩⟩
                      · rw [if_neg c38] at H
                        have c38b0 : decide (18 < (wrap64 (1 + (Int.tmod (wrap64 (a0)) 30)))) = false := decide_eq_false c38
                        clear c38
                        have H' := Aside0.mk H
                        clear H
                        obtain ⟨Ao47, co47, eo47⟩ := Kd.R_slice HO197.out
                        subst eo47
                        have p200 : 0 ≤ (0 : Int) := (by omega)
                        have q200 : 0 < (t194.length : Int) := of_decide_eq_true (by first | (with_reducible assumption) | assumption)
                        obtain ⟨ad200, e200, hx200_0, hx200_1, hx200_2⟩ := at_T35 (Kd.R_reads' HO197.out).2.2 0 p200 q200
                        cases e200
                        have qi200 : (0 < t194.length) = True := eq_true (by omega)
                        (try rw [show ((0 : Int)).toNat = 0 from rfl] at hx200_0)
                        (try rw [show 0 * 3 = 0 from rfl] at hx200_0)
                        (try rw [Addr.add_zero'] at hx200_0)
                        (try rw [show ((0 : Int)).toNat = 0 from rfl] at hx200_1)
                        (try rw [show 0 * 3 = 0 from rfl] at hx200_1)
                        (try rw [Addr.add_zero'] at hx200_1)
                        (try rw [show ((0 : Int)).toNat = 0 from rfl] at hx200_2)
                        (try rw [show 0 * 3 = 0 from rfl] at hx200_2)
                        (try rw [Addr.add_zero'] at hx200_2)
                        replace p200 := eq_true p200
                        replace q200 := eq_true q200
                        go_wp2
                        repeat (go_quiet (fail); try go_wp2)
                        go_meet
                        case rel => exact ⟨_, (false), (by first | rfl | (simp; done) | (simp [*]; done)), H', ⟨by have := HK1.out; first | omega | exact Nat.le_refl _⟩, ⟨by repeat (first | (with_reducible first | exact HB.out | apply below_alloc | apply pw_below_drewN | apply below_drew1) | exact HB.out)⟩⟩
                  · rw [if_neg c19] at H
                    have c19b0 : (((rd_T35 t194 0).f0) == 3) = false := beq_eq_false_iff_ne.mpr c19
                    have c19b1 : (((rd_T35 t194 0).f0) != 3) = true := bne_iff_ne.mpr c19
                    have H' := Aside0.mk H
                    clear H
                    obtain ⟨Ao48, co48, eo48⟩ := Kd.R_slice HO197.out
                    subst eo48
                    have p200 : 0 ≤ (0 : Int) := (by omega)
                    have q200 : 0 < (t194.length : Int) := of_decide_eq_true (by first | (with_reducible assumption) | assumption)
                    obtain ⟨ad200, e200, hx200_0, hx200_1, hx200_2⟩ := at_T35 (Kd.R_reads' HO197.out).2.2 0 p200 q200
                    cases e200
                    have qi200 : (0 < t194.length) = True := eq_true (by omega)
                    (try rw [show ((0 : Int)).toNat = 0 from rfl] at hx200_0)
                    (try rw [show 0 * 3 = 0 from rfl] at hx200_0)
                    (try rw [Addr.add_zero'] at hx200_0)
                    (try rw [show ((0 : Int)).toNat = 0 from rfl] at hx200_1)
                    (try rw [show 0 * 3 = 0 from rfl] at hx200_1)
                    (try rw [Addr.add_zero'] at hx200_1)
                    (try rw [show ((0 : Int)).toNat = 0 from rfl] at hx200_2)
                    (try rw [show 0 * 3 = 0 from rfl] at hx200_2)
                    (try rw [Addr.add_zero'] at hx200_2)
                    replace p200 := eq_true p200
                    replace q200 := eq_true q200
                    go_wp2
                    repeat (go_quiet (fail); try go_wp2)
                    go_meet
                    case rel => exact ⟨_, (true), (by first | rfl | (simp; done) | (simp [*]; done)), H', ⟨by have := HK1.out; first | omega | exact Nat.le_refl _⟩, ⟨by repeat (first | (with_reducible first | exact HB.out | apply below_alloc | apply pw_below_drewN | apply below_drew1) | exact HB.out)⟩⟩
                · rw [if_neg c18] at H
                  exact absurd H (by simp)
              · rw [if_neg c17] at H
                have c17b0 : ((t194.length : Int) == 2) = false := beq_eq_false_iff_ne.mpr c17
                have c17b1 : ((t194.length : Int) != 2) = true := bne_iff_ne.mpr c17
                (first | rw [c17b0] | (simp only [i64_w, i32_w]; rw [c17b0]) | skip)
                have H' := Aside0.mk H
                clear H
                obtain ⟨Ao49, co49, eo49⟩ := Kd.R_slice HO197.out
                subst eo49
                go_wp2
                repeat (go_quiet (fail); try go_wp2)
                go_meet
                case rel => exact ⟨_, (true), (by first | rfl | (simp; done) | (simp [*]; done)), H', ⟨by have := HK1.out; first | omega | exact Nat.le_refl _⟩, ⟨by repeat (first | (with_reducible first | exact HB.out | apply below_alloc | apply pw_below_drewN | apply below_drew1) | exact HB.out)⟩⟩
            case rest =>
              clear HC15
              try clear c1
              try clear c2
              try clear p2
              try clear q2
              try clear hx2
              try clear qi2
              try clear c3
              try clear c4
              try clear p6
              try clear c17
              try clear c17b0
              try clear c17b1
              try clear c18
              try clear c19
              try clear c19b0
              try clear c19b1
              try clear c20
              try clear c20b0
              try clear p20
              try clear q20
              try clear hx20
              try clear qi20
              try clear c21
              try clear c21b0
              try clear c21b1
              try clear c22
              try clear c22b0
              try clear c22b1
              try clear c22b2
              try clear c23
              try clear c23b0
              try clear c24
              try clear c24b0
              try clear c24b1
              try clear c25
              try clear c25b0
              try clear c25b1
              try clear c26
              try clear c26b0
              try clear c26b1
              try clear c38
              try clear c38b0
              try clear c39
              try clear c39b0
              try clear c39b1
              try clear c40
              try clear c40b0
              try clear c40b1
              try clear c41
              try clear c41b0
              try clear c41b1
              try clear hx200_0
              try clear hx200_1
              try clear hx200_2
              try clear hx201_0
              try clear hx201_1
              try clear hx201_2
              try clear hx202_0
              try clear hx202_1
              try clear hx202_2
              try clear hx203_0
              try clear hx203_1
              try clear hx203_2
              try clear hx204_0
              try clear hx204_1
              try clear hx204_2
              try clear hx205_0
              try clear hx205_1
              try clear hx205_2
              try clear p200
              try clear p201
              try clear p202
              try clear p203
              try clear p204
              try clear p205
              try clear q200
              try clear q201
              try clear q202
              try clear q203
              try clear q204
              try clear q205
              obtain ⟨kq, x96_14, rfl, HA, HJ14, HB⟩ := hcut
              cases kq with
              | zero => exact absurd HA.out (by simp [cupellaw04_LexNumbers.j1])
              | succ kj14 =>
                have H := HA.out
                clear HA
                simp only [cupellaw04_LexNumbers.j1] at H
                by_cases c50 : x96_14 = true
                · subst c50
                  have H1 : (some false) = some r := by rw [if_pos rfl] at H; exact H
                  clear H
                  have H := H1
                  clear H1
                  obtain rfl := Option.some.inj H
                  go_wp2
                  repeat (go_quiet (fail); try go_wp2)
                  go_ret
                  exact ⟨by first | rfl | (simp [errW_none, errW_some] <;> rfl) | (simp [*, errW_none, errW_some] <;> rfl), by repeat (first | (with_reducible first | exact HB.out | apply below_alloc | apply pw_below_drewN | apply below_drew1) | exact HB.out)⟩
                · replace c50 := Bool.eq_false_iff.mpr c50
                  subst c50
                  have H1 : (cupellaw04_LexNumbers.l1 kj14 l2 true 0) = some r := by rw [if_neg (show ¬ (false = true) by decide)] at H; exact H
                  clear H
                  have H := H1
                  clear H1
                  have H' := Aside0.mk H
                  clear H
                  go_wp2
                  repeat (go_quiet (fail); try go_wp2)
                  go_loopg [12, 13] kj14 (fun kq v12 v13 w' => ∃ (x12_3 : Bool) (x13_3 : Int), v12 = .bool x12_3 ∧ v13 = .int .i64 x13_3 ∧ Aside0 (cupellaw04_LexNumbers.l1 kq l2 x12_3 x13_3 = some r) ∧ Aside0 (kq ≤ kj14) ∧ Aside0 (Below w.heap.size w w'))
                  case atStart => exact ⟨(true), (0), (by first | rfl | (simp; done) | (simp [*]; done)), (by first | rfl | (simp; done) | (simp [*]; done)), H', ⟨Nat.le_refl _⟩, ⟨by repeat (first | (with_reducible first | exact HB.out | apply below_alloc | apply pw_below_drewN | apply below_drew1) | exact HB.out)⟩⟩
                  case round =>
                    clear H'
                    try clear c1
                    try clear c2
                    try clear p2
                    try clear q2
                    try clear hx2
                    try clear qi2
                    try clear c3
                    try clear c4
                    try clear c5
                    try clear p6
                    try clear c17
                    try clear c17b0
                    try clear c17b1
                    try clear c18
                    try clear c19
                    try clear c19b0
                    try clear c19b1
                    try clear c20
                    try clear c20b0
                    try clear p20
                    try clear q20
                    try clear hx20
                    try clear qi20
                    try clear c21
                    try clear c21b0
                    try clear c21b1
                    try clear c22
                    try clear c22b0
                    try clear c22b1
                    try clear c22b2
                    try clear c23
                    try clear c23b0
                    try clear c24
                    try clear c24b0
                    try clear c24b1
                    try clear c25
                    try clear c25b0
                    try clear c25b1
                    try clear c26
                    try clear c26b0
                    try clear c26b1
                    try clear c38
                    try clear c38b0
                    try clear c39
                    try clear c39b0
                    try clear c39b1
                    try clear c40
                    try clear c40b0
                    try clear c40b1
                    try clear c41
                    try clear c41b0
                    try clear c41b1
                    try clear c50
                    try clear hx200_0
                    try clear hx200_1
                    try clear hx200_2
                    try clear hx201_0
                    try clear hx201_1
                    try clear hx201_2
                    try clear hx202_0
                    try clear hx202_1
                    try clear hx202_2
                    try clear hx203_0
                    try clear hx203_1
                    try clear hx203_2
                    try clear hx204_0
                    try clear hx204_1
                    try clear hx204_2
                    try clear hx205_0
                    try clear hx205_1
                    try clear hx205_2
                    try clear p2
                    try clear p20
                    try clear p200
                    try clear p201
                    try clear p202
                    try clear p203
                    try clear p204
                    try clear p205
                    try clear p6
                    try clear q2
                    try clear q20
                    try clear q200
                    try clear q201
                    try clear q202
                    try clear q203
                    try clear q204
                    try clear q205
                    obtain ⟨x12_3, x13_3, rfl, rfl, HA, HK3, HB⟩ := hrel
                    cases gk with
                    | zero => exact absurd HA.out (by simp [cupellaw04_LexNumbers.l1])
                    | succ k3 =>
                      have H := HA.out
                      clear HA
                      simp only [cupellaw04_LexNumbers.l1] at H
                      by_cases c51 : x13_3 < (l2.length : Int)
                      · rw [if_pos c51] at H
                        have c51b0 : decide (x13_3 < (l2.length : Int)) = true := decide_eq_true c51
                        clear c51
                        by_cases c52 : x12_3 = true
                        · subst c52
                          have H1 : (if 0 ≤ x13_3 then (if (rd l2 x13_3) = 34 then (cupellaw04_LexNumbers.l1 k3 l2 false (wrap64 (x13_3 + 1))) else (cupellaw04_LexNumbers.l1 k3 l2 ((rd l2 x13_3) != 10) (wrap64 (x13_3 + 1)))) else (none)) = some r := by rw [if_pos rfl] at H; exact H
                          clear H
                          have H := H1
                          clear H1
                          by_cases c53 : 0 ≤ x13_3
                          · rw [if_pos c53] at H
                            have c53b0 : decide (0 ≤ x13_3) = true := decide_eq_true c53
                            clear c53
                            by_cases c54 : (rd l2 x13_3) = 34
                            · rw [if_pos c54] at H
                              have c54b0 : ((rd l2 x13_3) == 34) = true := beq_iff_eq.mpr c54
                              have c54b1 : ((rd l2 x13_3) != 34) = false := bne_eq_false_iff_eq.mpr c54
                              clear c54
                              have H' := Aside0.mk H
                              clear H
                              have p206 : 0 ≤ (x13_3 : Int) := of_decide_eq_true (by first | (with_reducible assumption) | assumption)
                              have q206 : x13_3 < (l2.length : Int) := of_decide_eq_true (by first | (with_reducible assumption) | assumption)
                              obtain ⟨ad206, e206, hx206_0⟩ := Kd.at_int HR2.out x13_3 p206 q206
                              cases e206
                              replace hx206_0 := (HB.out.cell (World.block_lt_of_cell? w _ hx206_0)).trans hx206_0
                              replace p206 := eq_true p206
                              replace q206 := eq_true q206
                              go_wp2
                              repeat (go_quiet (fail); try go_wp2)
                              go_roundg k3
                              case measure => have := HK1.out; have := HJ14.out; have := HK3.out; omega
                              case rel => exact ⟨(false), (wrap64 (x13_3 + 1)), (by first | rfl | (simp; done) | (simp [*]; done)), (by first | rfl | (simp; done) | (simp [*]; done)), H', ⟨by have := HK1.out; have := HJ14.out; have := HK3.out; omega⟩, ⟨by repeat (first | (with_reducible first | exact HB.out | apply below_alloc | apply pw_below_drewN | apply below_drew1) | exact HB.out)⟩⟩
                            · rw [if_neg c54] at H
                              have c54b0 : ((rd l2 x13_3) == 34) = false := beq_eq_false_iff_ne.mpr c54
                              have c54b1 : ((rd l2 x13_3) != 34) = true := bne_iff_ne.mpr c54
                              have H' := Aside0.mk H
                              clear H
                              have p206 : 0 ≤ (x13_3 : Int) := of_decide_eq_true (by first | (with_reducible assumption) | assumption)
                              have q206 : x13_3 < (l2.length : Int) := of_decide_eq_true (by first | (with_reducible assumption) | assumption)
                              obtain ⟨ad206, e206, hx206_0⟩ := Kd.at_int HR2.out x13_3 p206 q206
                              cases e206
                              replace hx206_0 := (HB.out.cell (World.block_lt_of_cell? w _ hx206_0)).trans hx206_0
                              replace p206 := eq_true p206
                              replace q206 := eq_true q206
                              have p207 : 0 ≤ (x13_3 : Int) := of_decide_eq_true (by first | (with_reducible assumption) | assumption)
                              have q207 : x13_3 < (l2.length : Int) := of_decide_eq_true (by first | (with_reducible assumption) | assumption)
                              obtain ⟨ad207, e207, hx207_0⟩ := Kd.at_int HR2.out x13_3 p207 q207
                              obtain rfl : ad206 = ad207 := (by injection e207)
                              replace hx207_0 := (HB.out.cell (World.block_lt_of_cell? w _ hx207_0)).trans hx207_0
                              replace p207 := eq_true p207
                              replace q207 := eq_true q207
                              go_wp2
                              repeat (go_quiet (fail); try go_wp2)
                              go_roundg k3
                              case measure => have := HK1.out; have := HJ14.out; have := HK3.out; omega
                              case rel => exact ⟨(((rd l2 x13_3) != 10)), (wrap64 (x13_3 + 1)), (by first | rfl | (simp; done) | (simp [*]; done)), (by first | rfl | (simp; done) | (simp [*]; done)), H', ⟨by have := HK1.out; have := HJ14.out; have := HK3.out; omega⟩, ⟨by repeat (first | (with_reducible first | exact HB.out | apply below_alloc | apply pw_below_drewN | apply below_drew1) | exact HB.out)⟩⟩
                          · rw [if_neg c53] at H
                            exact absurd H (by simp)
                        · replace c52 := Bool.eq_false_iff.mpr c52
                          subst c52
                          have H1 : (cupellaw04_LexNumbers.l1 k3 l2 false (wrap64 (x13_3 + 1))) = some r := by rw [if_neg (show ¬ (false = true) by decide)] at H; exact H
                          clear H
                          have H := H1
                          clear H1
                          have H' := Aside0.mk H
                          clear H
                          go_wp2
                          repeat (go_quiet (fail); try go_wp2)
                          go_roundg k3
                          case measure => have := HK1.out; have := HJ14.out; have := HK3.out; omega
                          case rel => exact ⟨(false), (wrap64 (x13_3 + 1)), (by first | rfl | (simp; done) | (simp [*]; done)), (by first | rfl | (simp; done) | (simp [*]; done)), H', ⟨by have := HK1.out; have := HJ14.out; have := HK3.out; omega⟩, ⟨by repeat (first | (with_reducible first | exact HB.out | apply below_alloc | apply pw_below_drewN | apply below_drew1) | exact HB.out)⟩⟩
                      · rw [if_neg c51] at H
                        have c51b0 : decide (x13_3 < (l2.length : Int)) = false := decide_eq_false c51
                        clear c51
                        by_cases c55 : x12_3 = true
                        · subst c55
                          have H1 : (if 1 + (strOfNums l2).size ≤ 9223372036854775807 then (if ((⟨#[34]⟩ : ByteArray) ++ (strOfNums l2)).size + 1 ≤ 9223372036854775807 then ((lex_Lex.f (((⟨#[34]⟩ : ByteArray) ++ (strOfNums l2)) ++ (⟨#[34]⟩ : ByteArray))).bind fun bt208 => ((lex_Lex.f ((⟨#[34]⟩ : ByteArray) ++ (strOfNums l2))).bind fun bt214 => (if (bt208.1.length : Int) = 2 then (if 0 < (bt208.1.length : Int) then (if ((rd_T35 bt208.1 0).f0) = 4 then (if ((rd_T35 bt208.1 0).f2).toList = (strOfNums l2).toList then (if (bt208.2.length : Int) = 0 then (if (bt214.1.length : Int) = 1 then (if (bt214.2.length : Int) = 1 then (if 0 < (bt214.2.length : Int) then (some (((rd_T39 bt214.2 0).f0) == 0)) else (none)) else (some false)) else (some false)) else (some false)) else (some false)) else (some false)) else (none)) else (some false)))) else (none)) else (none)) = some r := by rw [if_pos rfl] at H; exact H
                          clear H
                          have H := H1
                          clear H1
                          by_cases c56 : 1 + (strOfNums l2).size ≤ 9223372036854775807
                          · rw [if_pos c56] at H
                            have c56b0 := eq_true c56
                            have c56b9 := eq_false (Nat.not_lt.2 c56)
                            try simp only [ByteArray.size_append] at c56b9
                            have c56b1 : decide (1 + (strOfNums l2).size ≤ 9223372036854775807) = true := decide_eq_true c56
                            try have c56b2 : (9223372036854775807 < 1 + (strOfNums l2).size) = False := eq_false (Nat.not_lt.2 c56)
                            by_cases c57 : ((⟨#[34]⟩ : ByteArray) ++ (strOfNums l2)).size + 1 ≤ 9223372036854775807
                            · rw [if_pos c57] at H
                              have c57b0 := eq_true c57
                              have c57b9 := eq_false (Nat.not_lt.2 c57)
                              try simp only [ByteArray.size_append, show (⟨#[34]⟩ : ByteArray).size = 1 from rfl] at c57b9
                              have c57b1 : decide (((⟨#[34]⟩ : ByteArray) ++ (strOfNums l2)).size + 1 ≤ 9223372036854775807) = true := decide_eq_true c57
                              try have c57b2 : (9223372036854775807 < ((⟨#[34]⟩ : ByteArray) ++ (strOfNums l2)).size + 1) = False := eq_false (Nat.not_lt.2 c57)
                              replace H := Option.bind_eq_some_iff.mp H
                              obtain ⟨⟨t208, t209⟩, A580, H⟩ := H
                              replace H : ((lex_Lex.f ((⟨#[34]⟩ : ByteArray) ++ (strOfNums l2))).bind fun bt214 => (if (t208.length : Int) = 2 then (if 0 < (t208.length : Int) then (if ((rd_T35 t208 0).f0) = 4 then (if ((rd_T35 t208 0).f2).toList = (strOfNums l2).toList then (if (t209.length : Int) = 0 then (if (bt214.1.length : Int) = 1 then (if (bt214.2.length : Int) = 1 then (if 0 < (bt214.2.length : Int) then (some (((rd_T39 bt214.2 0).f0) == 0)) else (none)) else (some false)) else (some false)) else (some false)) else (some false)) else (some false)) else (none)) else (some false))) = some r := H
                              have A58 := Aside0.mk A580
                              clear A580
                              replace H := Option.bind_eq_some_iff.mp H
                              obtain ⟨⟨t214, t215⟩, A590, H⟩ := H
                              replace H : (if (t208.length : Int) = 2 then (if 0 < (t208.length : Int) then (if ((rd_T35 t208 0).f0) = 4 then (if ((rd_T35 t208 0).f2).toList = (strOfNums l2).toList then (if (t209.length : Int) = 0 then (if (t214.length : Int) = 1 then (if (t215.length : Int) = 1 then (if 0 < (t215.length : Int) then (some (((rd_T39 t215 0).f0) == 0)) else (none)) else (some false)) else (some false)) else (some false)) else (some false)) else (some false)) else (none)) else (some false)) = some r := H
                              have A59 := Aside0.mk A590
                              clear A590
                              by_cases c60 : (t208.length : Int) = 2
                              · rw [if_pos c60] at H
                                have c60b0 : ((t208.length : Int) == 2) = true := beq_iff_eq.mpr c60
                                have c60b1 : ((t208.length : Int) != 2) = false := bne_eq_false_iff_eq.mpr c60
                                clear c60
                                by_cases c61 : 0 < (t208.length : Int)
                                · rw [if_pos c61] at H
                                  have c61b0 : decide (0 < (t208.length : Int)) = true := decide_eq_true c61
                                  have c61b1 : decide (0 < t208.length) = true := decide_eq_true (by omega)
                                  clear c61
                                  by_cases c62 : ((rd_T35 t208 0).f0) = 4
                                  · rw [if_pos c62] at H
                                    have c62b0 : (((rd_T35 t208 0).f0) == 4) = true := beq_iff_eq.mpr c62
                                    have c62b1 : (((rd_T35 t208 0).f0) != 4) = false := bne_eq_false_iff_eq.mpr c62
                                    clear c62
                                    by_cases c63 : ((rd_T35 t208 0).f2).toList = (strOfNums l2).toList
                                    · rw [if_pos c63] at H
                                      have c63b0 : (((rd_T35 t208 0).f2).toList == (strOfNums l2).toList) = true := beq_iff_eq.mpr c63
                                      have c63b1 : (((rd_T35 t208 0).f2).toList != (strOfNums l2).toList) = false := bne_eq_false_iff_eq.mpr c63
                                      clear c63
                                      by_cases c64 : (t209.length : Int) = 0
                                      · rw [if_pos c64] at H
                                        have c64b0 : ((t209.length : Int) == 0) = true := beq_iff_eq.mpr c64
                                        have c64b1 : ((t209.length : Int) != 0) = false := bne_eq_false_iff_eq.mpr c64
                                        clear c64
                                        by_cases c65 : (t214.length : Int) = 1
                                        · rw [if_pos c65] at H
                                          have c65b0 : ((t214.length : Int) == 1) = true := beq_iff_eq.mpr c65
                                          have c65b1 : ((t214.length : Int) != 1) = false := bne_eq_false_iff_eq.mpr c65
                                          clear c65
                                          by_cases c66 : (t215.length : Int) = 1
                                          · rw [if_pos c66] at H
                                            have c66b0 : ((t215.length : Int) == 1) = true := beq_iff_eq.mpr c66
                                            have c66b1 : ((t215.length : Int) != 1) = false := bne_eq_false_iff_eq.mpr c66
                                            clear c66
                                            by_cases c67 : 0 < (t215.length : Int)
                                            · rw [if_pos c67] at H
                                              have c67b0 : decide (0 < (t215.length : Int)) = true := decide_eq_true c67
                                              have c67b1 : decide (0 < t215.length) = true := decide_eq_true (by omega)
                                              clear c67
                                              obtain rfl := Option.some.inj H
                                              have hcv68 := Kd.C_string (P := Try.prog) (A := A2) (c := c2) Try.underlying37 Try.underlying5 Try.underlying9 (Kd.C_below HR2.out HB.out); have hcv68n := fun n_ => Kd.C_string (P := Try.prog) (A := A2) (c := c2) Try.underlying37 Try.underlying5 Try.underlying9 (Kd.C_drewN (Kd.C_below HR2.out HB.out) n_)
                                              go_wp2_with (first | (go_at_call 10; (with_reducible refine (lex_Lex.calls (((⟨#[34]⟩ : ByteArray) ++ (strOfNums l2)) ++ (⟨#[34]⟩ : ByteArray)) t208 t209 _ A58.out).mono ?_); rintro e w69 ⟨v210, v212, rfl, ho0, ho1, hb⟩; (try clear A58); have n0_ := Aside0.mk (Kd.R_lower ho0 (below_size (by repeat (first | (with_reducible first | exact HB.out | apply below_alloc | apply pw_below_drewN | apply below_drew1) | exact HB.out)))); have n1_ := Aside0.mk (Kd.R_lower ho1 (below_size (by repeat (first | (with_reducible first | exact HB.out | apply below_alloc | apply pw_below_drewN | apply below_drew1) | exact HB.out)))); have n2_ := Aside0.mk (below_step (by repeat (first | (with_reducible first | exact HB.out | apply below_alloc | apply pw_below_drewN | apply below_drew1) | exact HB.out)) hb); clear HB; have HO211 := n0_; have HO213 := n1_; have HB := n2_; clear n0_ n1_ n2_; (try clear hb); (try clear hb2); (try clear hk); (try clear hi); (try clear ho0); (try clear ho1); have hcv70 := Kd.C_string (P := Try.prog) (A := A2) (c := c2) Try.underlying37 Try.underlying5 Try.underlying9 (Kd.C_below HR2.out HB.out); have hcv70n := fun n_ => Kd.C_string (P := Try.prog) (A := A2) (c := c2) Try.underlying37 Try.underlying5 Try.underlying9 (Kd.C_drewN (Kd.C_below HR2.out HB.out) n_)) | (go_at_call 10; (with_reducible refine (lex_Lex.calls ((⟨#[34]⟩ : ByteArray) ++ (strOfNums l2)) t214 t215 _ A59.out).mono ?_); rintro e w71 ⟨v216, v218, rfl, ho0, ho1, hb⟩; (try clear A59); have n0_ := Aside0.mk (Kd.R_elder' (by (with_reducible repeat (first | apply Kd.R_alloc | apply Kd.R_drewN | apply Kd.R_drew)); exact HO211.out) (Kd.R_base ho0) hb); have n1_ := Aside0.mk (Kd.R_elder' (by (with_reducible repeat (first | apply Kd.R_alloc | apply Kd.R_drewN | apply Kd.R_drew)); exact HO213.out) (Kd.R_base ho1) hb); have n2_ := Aside0.mk (Kd.R_lower (Kd.R_new' ho0 (Kd.R_lt (by (with_reducible repeat (first | apply Kd.R_alloc | apply Kd.R_drewN | apply Kd.R_drew)); exact HO211.out))) (below_size (by repeat (first | (with_reducible first | exact HB.out | apply below_alloc | apply pw_below_drewN | apply below_drew1) | exact HB.out)))); have n3_ := Aside0.mk (Kd.R_lower (Kd.R_new' ho1 (Kd.R_lt (by (with_reducible repeat (first | apply Kd.R_alloc | apply Kd.R_drewN | apply Kd.R_drew)); exact HO213.out))) (below_size (by repeat (first | (with_reducible first | exact HB.out | apply below_alloc | apply pw_below_drewN | apply below_drew1) | exact HB.out)))); have n4_ := Aside0.mk (below_step (by repeat (first | (with_reducible first | exact HB.out | apply below_alloc | apply pw_below_drewN | apply below_drew1) | exact HB.out)) hb); clear HO211; clear HO213; clear HB; have HO211 := n0_; have HO213 := n1_; have HO217 := n2_; have HO219 := n3_; have HB := n4_; clear n0_ n1_ n2_ n3_ n4_; (try clear hb); (try clear hb2); (try clear hk); (try clear hi); (try clear ho0); (try clear ho1); obtain ⟨Ao72, co72, eo72⟩ := Kd.R_slice HO211.out; subst eo72; have p220 : 0 ≤ (0 : Int) := (by omega); have q220 : 0 < (t208.length : Int) := of_decide_eq_true (by first | (with_reducible assumption) | assumption); obtain ⟨ad220, e220, hx220_0, hx220_1, hx220_2⟩ := at_T35 (Kd.R_reads' HO211.out).2.2 0 p220 q220; cases e220; have qi220 : (0 < t208.length) = True := eq_true (by omega); (try rw [show ((0 : Int)).toNat = 0 from rfl] at hx220_0); (try rw [show 0 * 3 = 0 from rfl] at hx220_0); (try rw [Addr.add_zero'] at hx220_0); (try rw [show ((0 : Int)).toNat = 0 from rfl] at hx220_1); (try rw [show 0 * 3 = 0 from rfl] at hx220_1); (try rw [Addr.add_zero'] at hx220_1); (try rw [show ((0 : Int)).toNat = 0 from rfl] at hx220_2); (try rw [show 0 * 3 = 0 from rfl] at hx220_2); (try rw [Addr.add_zero'] at hx220_2); replace p220 := eq_true p220; replace q220 := eq_true q220; have p221 : 0 ≤ (0 : Int) := (by omega); have q221 : 0 < (t208.length : Int) := of_decide_eq_true (by first | (with_reducible assumption) | assumption); obtain ⟨ad221, e221, hx221_0, hx221_1, hx221_2⟩ := at_T35 (Kd.R_reads' HO211.out).2.2 0 p221 q221; obtain rfl : ad220 = ad221 := (by injection e221); have qi221 : (0 < t208.length) = True := eq_true (by omega); (try rw [show ((0 : Int)).toNat = 0 from rfl] at hx221_0); (try rw [show 0 * 3 = 0 from rfl] at hx221_0); (try rw [Addr.add_zero'] at hx221_0); (try rw [show ((0 : Int)).toNat = 0 from rfl] at hx221_1); (try rw [show 0 * 3 = 0 from rfl] at hx221_1); (try rw [Addr.add_zero'] at hx221_1); (try rw [show ((0 : Int)).toNat = 0 from rfl] at hx221_2); (try rw [show 0 * 3 = 0 from rfl] at hx221_2); (try rw [Addr.add_zero'] at hx221_2); replace p221 := eq_true p221; replace q221 := eq_true q221; have hcv73 := Kd.C_string (P := Try.prog) (A := A2) (c := c2) Try.underlying37 Try.underlying5 Try.underlying9 (Kd.C_below HR2.out HB.out); have hcv73n := fun n_ => Kd.C_string (P := Try.prog) (A := A2) (c := c2) Try.underlying37 Try.underlying5 Try.underlying9 (Kd.C_drewN (Kd.C_below HR2.out HB.out) n_); obtain ⟨Ao74, co74, eo74⟩ := Kd.R_slice HO213.out; subst eo74; obtain ⟨Ao75, co75, eo75⟩ := Kd.R_slice HO217.out; subst eo75; obtain ⟨Ao76, co76, eo76⟩ := Kd.R_slice HO219.out; subst eo76; have p222 : 0 ≤ (0 : Int) := (by omega); have q222 : 0 < (t215.length : Int) := of_decide_eq_true (by first | (with_reducible assumption) | assumption); obtain ⟨ad222, e222, hx222_0, hx222_1, hx222_2⟩ := at_T39 (Kd.R_reads' HO219.out).2.2 0 p222 q222; cases e222; have qi222 : (0 < t215.length) = True := eq_true (by omega); (try rw [show ((0 : Int)).toNat = 0 from rfl] at hx222_0); (try rw [show 0 * 3 = 0 from rfl] at hx222_0); (try rw [Addr.add_zero'] at hx222_0); (try rw [show ((0 : Int)).toNat = 0 from rfl] at hx222_1); (try rw [show 0 * 3 = 0 from rfl] at hx222_1); (try rw [Addr.add_zero'] at hx222_1); (try rw [show ((0 : Int)).toNat = 0 from rfl] at hx222_2); (try rw [show 0 * 3 = 0 from rfl] at hx222_2); (try rw [Addr.add_zero'] at hx222_2); replace p222 := eq_true p222; replace q222 := eq_true q222))
                                              repeat (go_quiet (first | (go_at_call 10; (with_reducible refine (lex_Lex.calls (((⟨#[34]⟩ : ByteArray) ++ (strOfNums l2)) ++ (⟨#[34]⟩ : ByteArray)) t208 t209 _ A58.out).mono ?_); rintro e w69 ⟨v210, v212, rfl, ho0, ho1, hb⟩; (try clear A58); have n0_ := Aside0.mk (Kd.R_lower ho0 (below_size (by repeat (first | (with_reducible first | exact HB.out | apply below_alloc | apply pw_below_drewN | apply below_drew1) | exact HB.out)))); have n1_ := Aside0.mk (Kd.R_lower ho1 (below_size (by repeat (first | (with_reducible first | exact HB.out | apply below_alloc | apply pw_below_drewN | apply below_drew1) | exact HB.out)))); have n2_ := Aside0.mk (below_step (by repeat (first | (with_reducible first | exact HB.out | apply below_alloc | apply pw_below_drewN | apply below_drew1) | exact HB.out)) hb); clear HB; have HO211 := n0_; have HO213 := n1_; have HB := n2_; clear n0_ n1_ n2_; (try clear hb); (try clear hb2); (try clear hk); (try clear hi); (try clear ho0); (try clear ho1); have hcv70 := Kd.C_string (P := Try.prog) (A := A2) (c := c2) Try.underlying37 Try.underlying5 Try.underlying9 (Kd.C_below HR2.out HB.out); have hcv70n := fun n_ => Kd.C_string (P := Try.prog) (A := A2) (c := c2) Try.underlying37 Try.underlying5 Try.underlying9 (Kd.C_drewN (Kd.C_below HR2.out HB.out) n_)) | (go_at_call 10; (with_reducible refine (lex_Lex.calls ((⟨#[34]⟩ : ByteArray) ++ (strOfNums l2)) t214 t215 _ A59.out).mono ?_); rintro e w71 ⟨v216, v218, rfl, ho0, ho1, hb⟩; (try clear A59); have n0_ := Aside0.mk (Kd.R_elder' (by (with_reducible repeat (first | apply Kd.R_alloc | apply Kd.R_drewN | apply Kd.R_drew)); exact HO211.out) (Kd.R_base ho0) hb); have n1_ := Aside0.mk (Kd.R_elder' (by (with_reducible repeat (first | apply Kd.R_alloc | apply Kd.R_drewN | apply Kd.R_drew)); exact HO213.out) (Kd.R_base ho1) hb); have n2_ := Aside0.mk (Kd.R_lower (Kd.R_new' ho0 (Kd.R_lt (by (with_reducible repeat (first | apply Kd.R_alloc | apply Kd.R_drewN | apply Kd.R_drew)); exact HO211.out))) (below_size (by repeat (first | (with_reducible first | exact HB.out | apply below_alloc | apply pw_below_drewN | apply below_drew1) | exact HB.out)))); have n3_ := Aside0.mk (Kd.R_lower (Kd.R_new' ho1 (Kd.R_lt (by (with_reducible repeat (first | apply Kd.R_alloc | apply Kd.R_drewN | apply Kd.R_drew)); exact HO213.out))) (below_size (by repeat (first | (with_reducible first | exact HB.out | apply below_alloc | apply pw_below_drewN | apply below_drew1) | exact HB.out)))); have n4_ := Aside0.mk (below_step (by repeat (first | (with_reducible first | exact HB.out | apply below_alloc | apply pw_below_drewN | apply below_drew1) | exact HB.out)) hb); clear HO211; clear HO213; clear HB; have HO211 := n0_; have HO213 := n1_; have HO217 := n2_; have HO219 := n3_; have HB := n4_; clear n0_ n1_ n2_ n3_ n4_; (try clear hb); (try clear hb2); (try clear hk); (try clear hi); (try clear ho0); (try clear ho1); obtain ⟨Ao72, co72, eo72⟩ := Kd.R_slice HO211.out; subst eo72; have p220 : 0 ≤ (0 : Int) := (by omega); have q220 : 0 < (t208.length : Int) := of_decide_eq_true (by first | (with_reducible assumption) | assumption); obtain ⟨ad220, e220, hx220_0, hx220_1, hx220_2⟩ := at_T35 (Kd.R_reads' HO211.out).2.2 0 p220 q220; cases e220; have qi220 : (0 < t208.length) = True := eq_true (by omega); (try rw [show ((0 : Int)).toNat = 0 from rfl] at hx220_0); (try rw [show 0 * 3 = 0 from rfl] at hx220_0); (try rw [Addr.add_zero'] at hx220_0); (try rw [show ((0 : Int)).toNat = 0 from rfl] at hx220_1); (try rw [show 0 * 3 = 0 from rfl] at hx220_1); (try rw [Addr.add_zero'] at hx220_1); (try rw [show ((0 : Int)).toNat = 0 from rfl] at hx220_2); (try rw [show 0 * 3 = 0 from rfl] at hx220_2); (try rw [Addr.add_zero'] at hx220_2); replace p220 := eq_true p220; replace q220 := eq_true q220; have p221 : 0 ≤ (0 : Int) := (by omega); have q221 : 0 < (t208.length : Int) := of_decide_eq_true (by first | (with_reducible assumption) | assumption); obtain ⟨ad221, e221, hx221_0, hx221_1, hx221_2⟩ := at_T35 (Kd.R_reads' HO211.out).2.2 0 p221 q221; obtain rfl : ad220 = ad221 := (by injection e221); have qi221 : (0 < t208.length) = True := eq_true (by omega); (try rw [show ((0 : Int)).toNat = 0 from rfl] at hx221_0); (try rw [show 0 * 3 = 0 from rfl] at hx221_0); (try rw [Addr.add_zero'] at hx221_0); (try rw [show ((0 : Int)).toNat = 0 from rfl] at hx221_1); (try rw [show 0 * 3 = 0 from rfl] at hx221_1); (try rw [Addr.add_zero'] at hx221_1); (try rw [show ((0 : Int)).toNat = 0 from rfl] at hx221_2); (try rw [show 0 * 3 = 0 from rfl] at hx221_2); (try rw [Addr.add_zero'] at hx221_2); replace p221 := eq_true p221; replace q221 := eq_true q221; have hcv73 := Kd.C_string (P := Try.prog) (A := A2) (c := c2) Try.underlying37 Try.underlying5 Try.underlying9 (Kd.C_below HR2.out HB.out); have hcv73n := fun n_ => Kd.C_string (P := Try.prog) (A := A2) (c := c2) Try.underlying37 Try.underlying5 Try.underlying9 (Kd.C_drewN (Kd.C_below HR2.out HB.out) n_); obtain ⟨Ao74, co74, eo74⟩ := Kd.R_slice HO213.out; subst eo74; obtain ⟨Ao75, co75, eo75⟩ := Kd.R_slice HO217.out; subst eo75; obtain ⟨Ao76, co76, eo76⟩ := Kd.R_slice HO219.out; subst eo76; have p222 : 0 ≤ (0 : Int) := (by omega); have q222 : 0 < (t215.length : Int) := of_decide_eq_true (by first | (with_reducible assumption) | assumption); obtain ⟨ad222, e222, hx222_0, hx222_1, hx222_2⟩ := at_T39 (Kd.R_reads' HO219.out).2.2 0 p222 q222; cases e222; have qi222 : (0 < t215.length) = True := eq_true (by omega); (try rw [show ((0 : Int)).toNat = 0 from rfl] at hx222_0); (try rw [show 0 * 3 = 0 from rfl] at hx222_0); (try rw [Addr.add_zero'] at hx222_0); (try rw [show ((0 : Int)).toNat = 0 from rfl] at hx222_1); (try rw [show 0 * 3 = 0 from rfl] at hx222_1); (try rw [Addr.add_zero'] at hx222_1); (try rw [show ((0 : Int)).toNat = 0 from rfl] at hx222_2); (try rw [show 0 * 3 = 0 from rfl] at hx222_2); (try rw [Addr.add_zero'] at hx222_2); replace p222 := eq_true p222; replace q222 := eq_true q222)); try go_wp2_with (first | (go_at_call 10; (with_reducible refine (lex_Lex.calls (((⟨#[34]⟩ : ByteArray) ++ (strOfNums l2)) ++ (⟨#[34]⟩ : ByteArray)) t208 t209 _ A58.out).mono ?_); rintro e w69 ⟨v210, v212, rfl, ho0, ho1, hb⟩; (try clear A58); have n0_ := Aside0.mk (Kd.R_lower ho0 (below_size (by repeat (first | (with_reducible first | exact HB.out | apply below_alloc | apply pw_below_drewN | apply below_drew1) | exact HB.out)))); have n1_ := Aside0.mk (Kd.R_lower ho1 (below_size (by repeat (first | (with_reducible first | exact HB.out | apply below_alloc | apply pw_below_drewN | apply below_drew1) | exact HB.out)))); have n2_ := Aside0.mk (below_step (by repeat (first | (with_reducible first | exact HB.out | apply below_alloc | apply pw_below_drewN | apply below_drew1) | exact HB.out)) hb); clear HB; have HO211 := n0_; have HO213 := n1_; have HB := n2_; clear n0_ n1_ n2_; (try clear hb); (try clear hb2); (try clear hk); (try clear hi); (try clear ho0); (try clear ho1); have hcv70 := Kd.C_string (P := Try.prog) (A := A2) (c := c2) Try.underlying37 Try.underlying5 Try.underlying9 (Kd.C_below HR2.out HB.out); have hcv70n := fun n_ => Kd.C_string (P := Try.prog) (A := A2) (c := c2) Try.underlying37 Try.underlying5 Try.underlying9 (Kd.C_drewN (Kd.C_below HR2.out HB.out) n_)) | (go_at_call 10; (with_reducible refine (lex_Lex.calls ((⟨#[34]⟩ : ByteArray) ++ (strOfNums l2)) t214 t215 _ A59.out).mono ?_); rintro e w71 ⟨v216, v218, rfl, ho0, ho1, hb⟩; (try clear A59); have n0_ := Aside0.mk (Kd.R_elder' (by (with_reducible repeat (first | apply Kd.R_alloc | apply Kd.R_drewN | apply Kd.R_drew)); exact HO211.out) (Kd.R_base ho0) hb); have n1_ := Aside0.mk (Kd.R_elder' (by (with_reducible repeat (first | apply Kd.R_alloc | apply Kd.R_drewN | apply Kd.R_drew)); exact HO213.out) (Kd.R_base ho1) hb); have n2_ := Aside0.mk (Kd.R_lower (Kd.R_new' ho0 (Kd.R_lt (by (with_reducible repeat (first | apply Kd.R_alloc | apply Kd.R_drewN | apply Kd.R_drew)); exact HO211.out))) (below_size (by repeat (first | (with_reducible first | exact HB.out | apply below_alloc | apply pw_below_drewN | apply below_drew1) | exact HB.out)))); have n3_ := Aside0.mk (Kd.R_lower (Kd.R_new' ho1 (Kd.R_lt (by (with_reducible repeat (first | apply Kd.R_alloc | apply Kd.R_drewN | apply Kd.R_drew)); exact HO213.out))) (below_size (by repeat (first | (with_reducible first | exact HB.out | apply below_alloc | apply pw_below_drewN | apply below_drew1) | exact HB.out)))); have n4_ := Aside0.mk (below_step (by repeat (first | (with_reducible first | exact HB.out | apply below_alloc | apply pw_below_drewN | apply below_drew1) | exact HB.out)) hb); clear HO211; clear HO213; clear HB; have HO211 := n0_; have HO213 := n1_; have HO217 := n2_; have HO219 := n3_; have HB := n4_; clear n0_ n1_ n2_ n3_ n4_; (try clear hb); (try clear hb2); (try clear hk); (try clear hi); (try clear ho0); (try clear ho1); obtain ⟨Ao72, co72, eo72⟩ := Kd.R_slice HO211.out; subst eo72; have p220 : 0 ≤ (0 : Int) := (by omega); have q220 : 0 < (t208.length : Int) := of_decide_eq_true (by first | (with_reducible assumption) | assumption); obtain ⟨ad220, e220, hx220_0, hx220_1, hx220_2⟩ := at_T35 (Kd.R_reads' HO211.out).2.2 0 p220 q220; cases e220; have qi220 : (0 < t208.length) = True := eq_true (by omega); (try rw [show ((0 : Int)).toNat = 0 from rfl] at hx220_0); (try rw [show 0 * 3 = 0 from rfl] at hx220_0); (try rw [Addr.add_zero'] at hx220_0); (try rw [show ((0 : Int)).toNat = 0 from rfl] at hx220_1); (try rw [show 0 * 3 = 0 from rfl] at hx220_1); (try rw [Addr.add_zero'] at hx220_1); (try rw [show ((0 : Int)).toNat = 0 from rfl] at hx220_2); (try rw [show 0 * 3 = 0 from rfl] at hx220_2); (try rw [Addr.add_zero'] at hx220_2); replace p220 := eq_true p220; replace q220 := eq_true q220; have p221 : 0 ≤ (0 : Int) := (by omega); have q221 : 0 < (t208.length : Int) := of_decide_eq_true (by first | (with_reducible assumption) | assumption); obtain ⟨ad221, e221, hx221_0, hx221_1, hx221_2⟩ := at_T35 (Kd.R_reads' HO211.out).2.2 0 p221 q221; obtain rfl : ad220 = ad221 := (by injection e221); have qi221 : (0 < t208.length) = True := eq_true (by omega); (try rw [show ((0 : Int)).toNat = 0 from rfl] at hx221_0); (try rw [show 0 * 3 = 0 from rfl] at hx221_0); (try rw [Addr.add_zero'] at hx221_0); (try rw [show ((0 : Int)).toNat = 0 from rfl] at hx221_1); (try rw [show 0 * 3 = 0 from rfl] at hx221_1); (try rw [Addr.add_zero'] at hx221_1); (try rw [show ((0 : Int)).toNat = 0 from rfl] at hx221_2); (try rw [show 0 * 3 = 0 from rfl] at hx221_2); (try rw [Addr.add_zero'] at hx221_2); replace p221 := eq_true p221; replace q221 := eq_true q221; have hcv73 := Kd.C_string (P := Try.prog) (A := A2) (c := c2) Try.underlying37 Try.underlying5 Try.underlying9 (Kd.C_below HR2.out HB.out); have hcv73n := fun n_ => Kd.C_string (P := Try.prog) (A := A2) (c := c2) Try.underlying37 Try.underlying5 Try.underlying9 (Kd.C_drewN (Kd.C_below HR2.out HB.out) n_); obtain ⟨Ao74, co74, eo74⟩ := Kd.R_slice HO213.out; subst eo74; obtain ⟨Ao75, co75, eo75⟩ := Kd.R_slice HO217.out; subst eo75; obtain ⟨Ao76, co76, eo76⟩ := Kd.R_slice HO219.out; subst eo76; have p222 : 0 ≤ (0 : Int) := (by omega); have q222 : 0 < (t215.length : Int) := of_decide_eq_true (by first | (with_reducible assumption) | assumption); obtain ⟨ad222, e222, hx222_0, hx222_1, hx222_2⟩ := at_T39 (Kd.R_reads' HO219.out).2.2 0 p222 q222; cases e222; have qi222 : (0 < t215.length) = True := eq_true (by omega); (try rw [show ((0 : Int)).toNat = 0 from rfl] at hx222_0); (try rw [show 0 * 3 = 0 from rfl] at hx222_0); (try rw [Addr.add_zero'] at hx222_0); (try rw [show ((0 : Int)).toNat = 0 from rfl] at hx222_1); (try rw [show 0 * 3 = 0 from rfl] at hx222_1); (try rw [Addr.add_zero'] at hx222_1); (try rw [show ((0 : Int)).toNat = 0 from rfl] at hx222_2); (try rw [show 0 * 3 = 0 from rfl] at hx222_2); (try rw [Addr.add_zero'] at hx222_2); replace p222 := eq_true p222; replace q222 := eq_true q222)))
                                              go_ret
                                              exact ⟨by first | rfl | (simp [errW_none, errW_some] <;> rfl) | (simp [*, errW_none, errW_some] <;> rfl), by repeat (first | (with_reducible first | exact HB.out | apply below_alloc | apply pw_below_drewN | apply below_drew1) | exact HB.out)⟩
                                            · rw [if_neg c67] at H
                                              exact absurd H (by simp)
                                          · rw [if_neg c66] at H
                                            have c66b0 : ((t215.length : Int) == 1) = false := beq_eq_false_iff_ne.mpr c66
                                            have c66b1 : ((t215.length : Int) != 1) = true := bne_iff_ne.mpr c66
                                            obtain rfl := Option.some.inj H
                                            have hcv77 := Kd.C_string (P := Try.prog) (A := A2) (c := c2) Try.underlying37 Try.underlying5 Try.underlying9 (Kd.C_below HR2.out HB.out); have hcv77n := fun n_ => Kd.C_string (P := Try.prog) (A := A2) (c := c2) Try.underlying37 Try.underlying5 Try.underlying9 (Kd.C_drewN (Kd.C_below HR2.out HB.out) n_)
                                            go_wp2_with (first | (go_at_call 10; (with_reducible refine (lex_Lex.calls (((⟨#[34]⟩ : ByteArray) ++ (strOfNums l2)) ++ (⟨#[34]⟩ : ByteArray)) t208 t209 _ A58.out).mono ?_); rintro e w78 ⟨v210, v212, rfl, ho0, ho1, hb⟩; (try clear A58); have n0_ := Aside0.mk (Kd.R_lower ho0 (below_size (by repeat (first | (with_reducible first | exact HB.out | apply below_alloc | apply pw_below_drewN | apply below_drew1) | exact HB.out)))); have n1_ := Aside0.mk (Kd.R_lower ho1 (below_size (by repeat (first | (with_reducible first | exact HB.out | apply below_alloc | apply pw_below_drewN | apply below_drew1) | exact HB.out)))); have n2_ := Aside0.mk (below_step (by repeat (first | (with_reducible first | exact HB.out | apply below_alloc | apply pw_below_drewN | apply below_drew1) | exact HB.out)) hb); clear HB; have HO211 := n0_; have HO213 := n1_; have HB := n2_; clear n0_ n1_ n2_; (try clear hb); (try clear hb2); (try clear hk); (try clear hi); (try clear ho0); (try clear ho1); have hcv79 := Kd.C_string (P := Try.prog) (A := A2) (c := c2) Try.underlying37 Try.underlying5 Try.underlying9 (Kd.C_below HR2.out HB.out); have hcv79n := fun n_ => Kd.C_string (P := Try.prog) (A := A2) (c := c2) Try.underlying37 Try.underlying5 Try.underlying9 (Kd.C_drewN (Kd.C_below HR2.out HB.out) n_)) | (go_at_call 10; (with_reducible refine (lex_Lex.calls ((⟨#[34]⟩ : ByteArray) ++ (strOfNums l2)) t214 t215 _ A59.out).mono ?_); rintro e w80 ⟨v216, v218, rfl, ho0, ho1, hb⟩; (try clear A59); have n0_ := Aside0.mk (Kd.R_elder' (by (with_reducible repeat (first | apply Kd.R_alloc | apply Kd.R_drewN | apply Kd.R_drew)); exact HO211.out) (Kd.R_base ho0) hb); have n1_ := Aside0.mk (Kd.R_elder' (by (with_reducible repeat (first | apply Kd.R_alloc | apply Kd.R_drewN | apply Kd.R_drew)); exact HO213.out) (Kd.R_base ho1) hb); have n2_ := Aside0.mk (Kd.R_lower (Kd.R_new' ho0 (Kd.R_lt (by (with_reducible repeat (first | apply Kd.R_alloc | apply Kd.R_drewN | apply Kd.R_drew)); exact HO211.out))) (below_size (by repeat (first | (with_reducible first | exact HB.out | apply below_alloc | apply pw_below_drewN | apply below_drew1) | exact HB.out)))); have n3_ := Aside0.mk (Kd.R_lower (Kd.R_new' ho1 (Kd.R_lt (by (with_reducible repeat (first | apply Kd.R_alloc | apply Kd.R_drewN | apply Kd.R_drew)); exact HO213.out))) (below_size (by repeat (first | (with_reducible first | exact HB.out | apply below_alloc | apply pw_below_drewN | apply below_drew1) | exact HB.out)))); have n4_ := Aside0.mk (below_step (by repeat (first | (with_reducible first | exact HB.out | apply below_alloc | apply pw_below_drewN | apply below_drew1) | exact HB.out)) hb); clear HO211; clear HO213; clear HB; have HO211 := n0_; have HO213 := n1_; have HO217 := n2_; have HO219 := n3_; have HB := n4_; clear n0_ n1_ n2_ n3_ n4_; (try clear hb); (try clear hb2); (try clear hk); (try clear hi); (try clear ho0); (try clear ho1); obtain ⟨Ao81, co81, eo81⟩ := Kd.R_slice HO211.out; subst eo81; have p220 : 0 ≤ (0 : Int) := (by omega); have q220 : 0 < (t208.length : Int) := of_decide_eq_true (by first | (with_reducible assumption) | assumption); obtain ⟨ad220, e220, hx220_0, hx220_1, hx220_2⟩ := at_T35 (Kd.R_reads' HO211.out).2.2 0 p220 q220; cases e220; have qi220 : (0 < t208.length) = True := eq_true (by omega); (try rw [show ((0 : Int)).toNat = 0 from rfl] at hx220_0); (try rw [show 0 * 3 = 0 from rfl] at hx220_0); (try rw [Addr.add_zero'] at hx220_0); (try rw [show ((0 : Int)).toNat = 0 from rfl] at hx220_1); (try rw [show 0 * 3 = 0 from rfl] at hx220_1); (try rw [Addr.add_zero'] at hx220_1); (try rw [show ((0 : Int)).toNat = 0 from rfl] at hx220_2); (try rw [show 0 * 3 = 0 from rfl] at hx220_2); (try rw [Addr.add_zero'] at hx220_2); replace p220 := eq_true p220; replace q220 := eq_true q220; have p221 : 0 ≤ (0 : Int) := (by omega); have q221 : 0 < (t208.length : Int) := of_decide_eq_true (by first | (with_reducible assumption) | assumption); obtain ⟨ad221, e221, hx221_0, hx221_1, hx221_2⟩ := at_T35 (Kd.R_reads' HO211.out).2.2 0 p221 q221; obtain rfl : ad220 = ad221 := (by injection e221); have qi221 : (0 < t208.length) = True := eq_true (by omega); (try rw [show ((0 : Int)).toNat = 0 from rfl] at hx221_0); (try rw [show 0 * 3 = 0 from rfl] at hx221_0); (try rw [Addr.add_zero'] at hx221_0); (try rw [show ((0 : Int)).toNat = 0 from rfl] at hx221_1); (try rw [show 0 * 3 = 0 from rfl] at hx221_1); (try rw [Addr.add_zero'] at hx221_1); (try rw [show ((0 : Int)).toNat = 0 from rfl] at hx221_2); (try rw [show 0 * 3 = 0 from rfl] at hx221_2); (try rw [Addr.add_zero'] at hx221_2); replace p221 := eq_true p221; replace q221 := eq_true q221; have hcv82 := Kd.C_string (P := Try.prog) (A := A2) (c := c2) Try.underlying37 Try.underlying5 Try.underlying9 (Kd.C_below HR2.out HB.out); have hcv82n := fun n_ => Kd.C_string (P := Try.prog) (A := A2) (c := c2) Try.underlying37 Try.underlying5 Try.underlying9 (Kd.C_drewN (Kd.C_below HR2.out HB.out) n_); obtain ⟨Ao83, co83, eo83⟩ := Kd.R_slice HO213.out; subst eo83; obtain ⟨Ao84, co84, eo84⟩ := Kd.R_slice HO217.out; subst eo84; obtain ⟨Ao85, co85, eo85⟩ := Kd.R_slice HO219.out; subst eo85))
                                            repeat (go_quiet (first | (go_at_call 10; (with_reducible refine (lex_Lex.calls (((⟨#[34]⟩ : ByteArray) ++ (strOfNums l2)) ++ (⟨#[34]⟩ : ByteArray)) t208 t209 _ A58.out).mono ?_); rintro e w78 ⟨v210, v212, rfl, ho0, ho1, hb⟩; (try clear A58); have n0_ := Aside0.mk (Kd.R_lower ho0 (below_size (by repeat (first | (with_reducible first | exact HB.out | apply below_alloc | apply pw_below_drewN | apply below_drew1) | exact HB.out)))); have n1_ := Aside0.mk (Kd.R_lower ho1 (below_size (by repeat (first | (with_reducible first | exact HB.out | apply below_alloc | apply pw_below_drewN | apply below_drew1) | exact HB.out)))); have n2_ := Aside0.mk (below_step (by repeat (first | (with_reducible first | exact HB.out | apply below_alloc | apply pw_below_drewN | apply below_drew1) | exact HB.out)) hb); clear HB; have HO211 := n0_; have HO213 := n1_; have HB := n2_; clear n0_ n1_ n2_; (try clear hb); (try clear hb2); (try clear hk); (try clear hi); (try clear ho0); (try clear ho1); have hcv79 := Kd.C_string (P := Try.prog) (A := A2) (c := c2) Try.underlying37 Try.underlying5 Try.underlying9 (Kd.C_below HR2.out HB.out); have hcv79n := fun n_ => Kd.C_string (P := Try.prog) (A := A2) (c := c2) Try.underlying37 Try.underlying5 Try.underlying9 (Kd.C_drewN (Kd.C_below HR2.out HB.out) n_)) | (go_at_call 10; (with_reducible refine (lex_Lex.calls ((⟨#[34]⟩ : ByteArray) ++ (strOfNums l2)) t214 t215 _ A59.out).mono ?_); rintro e w80 ⟨v216, v218, rfl, ho0, ho1, hb⟩; (try clear A59); have n0_ := Aside0.mk (Kd.R_elder' (by (with_reducible repeat (first | apply Kd.R_alloc | apply Kd.R_drewN | apply Kd.R_drew)); exact HO211.out) (Kd.R_base ho0) hb); have n1_ := Aside0.mk (Kd.R_elder' (by (with_reducible repeat (first | apply Kd.R_alloc | apply Kd.R_drewN | apply Kd.R_drew)); exact HO213.out) (Kd.R_base ho1) hb); have n2_ := Aside0.mk (Kd.R_lower (Kd.R_new' ho0 (Kd.R_lt (by (with_reducible repeat (first | apply Kd.R_alloc | apply Kd.R_drewN | apply Kd.R_drew)); exact HO211.out))) (below_size (by repeat (first | (with_reducible first | exact HB.out | apply below_alloc | apply pw_below_drewN | apply below_drew1) | exact HB.out)))); have n3_ := Aside0.mk (Kd.R_lower (Kd.R_new' ho1 (Kd.R_lt (by (with_reducible repeat (first | apply Kd.R_alloc | apply Kd.R_drewN | apply Kd.R_drew)); exact HO213.out))) (below_size (by repeat (first | (with_reducible first | exact HB.out | apply below_alloc | apply pw_below_drewN | apply below_drew1) | exact HB.out)))); have n4_ := Aside0.mk (below_step (by repeat (first | (with_reducible first | exact HB.out | apply below_alloc | apply pw_below_drewN | apply below_drew1) | exact HB.out)) hb); clear HO211; clear HO213; clear HB; have HO211 := n0_; have HO213 := n1_; have HO217 := n2_; have HO219 := n3_; have HB := n4_; clear n0_ n1_ n2_ n3_ n4_; (try clear hb); (try clear hb2); (try clear hk); (try clear hi); (try clear ho0); (try clear ho1); obtain ⟨Ao81, co81, eo81⟩ := Kd.R_slice HO211.out; subst eo81; have p220 : 0 ≤ (0 : Int) := (by omega); have q220 : 0 < (t208.length : Int) := of_decide_eq_true (by first | (with_reducible assumption) | assumption); obtain ⟨ad220, e220, hx220_0, hx220_1, hx220_2⟩ := at_T35 (Kd.R_reads' HO211.out).2.2 0 p220 q220; cases e220; have qi220 : (0 < t208.length) = True := eq_true (by omega); (try rw [show ((0 : Int)).toNat = 0 from rfl] at hx220_0); (try rw [show 0 * 3 = 0 from rfl] at hx220_0); (try rw [Addr.add_zero'] at hx220_0); (try rw [show ((0 : Int)).toNat = 0 from rfl] at hx220_1); (try rw [show 0 * 3 = 0 from rfl] at hx220_1); (try rw [Addr.add_zero'] at hx220_1); (try rw [show ((0 : Int)).toNat = 0 from rfl] at hx220_2); (try rw [show 0 * 3 = 0 from rfl] at hx220_2); (try rw [Addr.add_zero'] at hx220_2); replace p220 := eq_true p220; replace q220 := eq_true q220; have p221 : 0 ≤ (0 : Int) := (by omega); have q221 : 0 < (t208.length : Int) := of_decide_eq_true (by first | (with_reducible assumption) | assumption); obtain ⟨ad221, e221, hx221_0, hx221_1, hx221_2⟩ := at_T35 (Kd.R_reads' HO211.out).2.2 0 p221 q221; obtain rfl : ad220 = ad221 := (by injection e221); have qi221 : (0 < t208.length) = True := eq_true (by omega); (try rw [show ((0 : Int)).toNat = 0 from rfl] at hx221_0); (try rw [show 0 * 3 = 0 from rfl] at hx221_0); (try rw [Addr.add_zero'] at hx221_0); (try rw [show ((0 : Int)).toNat = 0 from rfl] at hx221_1); (try rw [show 0 * 3 = 0 from rfl] at hx221_1); (try rw [Addr.add_zero'] at hx221_1); (try rw [show ((0 : Int)).toNat = 0 from rfl] at hx221_2); (try rw [show 0 * 3 = 0 from rfl] at hx221_2); (try rw [Addr.add_zero'] at hx221_2); replace p221 := eq_true p221; replace q221 := eq_true q221; have hcv82 := Kd.C_string (P := Try.prog) (A := A2) (c := c2) Try.underlying37 Try.underlying5 Try.underlying9 (Kd.C_below HR2.out HB.out); have hcv82n := fun n_ => Kd.C_string (P := Try.prog) (A := A2) (c := c2) Try.underlying37 Try.underlying5 Try.underlying9 (Kd.C_drewN (Kd.C_below HR2.out HB.out) n_); obtain ⟨Ao83, co83, eo83⟩ := Kd.R_slice HO213.out; subst eo83; obtain ⟨Ao84, co84, eo84⟩ := Kd.R_slice HO217.out; subst eo84; obtain ⟨Ao85, co85, eo85⟩ := Kd.R_slice HO219.out; subst eo85)); try go_wp2_with (first | (go_at_call 10; (with_reducible refine (lex_Lex.calls (((⟨#[34]⟩ : ByteArray) ++ (strOfNums l2)) ++ (⟨#[34]⟩ : ByteArray)) t208 t209 _ A58.out).mono ?_); rintro e w78 ⟨v210, v212, rfl, ho0, ho1, hb⟩; (try clear A58); have n0_ := Aside0.mk (Kd.R_lower ho0 (below_size (by repeat (first | (with_reducible first | exact HB.out | apply below_alloc | apply pw_below_drewN | apply below_drew1) | exact HB.out)))); have n1_ := Aside0.mk (Kd.R_lower ho1 (below_size (by repeat (first | (with_reducible first | exact HB.out | apply below_alloc | apply pw_below_drewN | apply below_drew1) | exact HB.out)))); have n2_ := Aside0.mk (below_step (by repeat (first | (with_reducible first | exact HB.out | apply below_alloc | apply pw_below_drewN | apply below_drew1) | exact HB.out)) hb); clear HB; have HO211 := n0_; have HO213 := n1_; have HB := n2_; clear n0_ n1_ n2_; (try clear hb); (try clear hb2); (try clear hk); (try clear hi); (try clear ho0); (try clear ho1); have hcv79 := Kd.C_string (P := Try.prog) (A := A2) (c := c2) Try.underlying37 Try.underlying5 Try.underlying9 (Kd.C_below HR2.out HB.out); have hcv79n := fun n_ => Kd.C_string (P := Try.prog) (A := A2) (c := c2) Try.underlying37 Try.underlying5 Try.underlying9 (Kd.C_drewN (Kd.C_below HR2.out HB.out) n_)) | (go_at_call 10; (with_reducible refine (lex_Lex.calls ((⟨#[34]⟩ : ByteArray) ++ (strOfNums l2)) t214 t215 _ A59.out).mono ?_); rintro e w80 ⟨v216, v218, rfl, ho0, ho1, hb⟩; (try clear A59); have n0_ := Aside0.mk (Kd.R_elder' (by (with_reducible repeat (first | apply Kd.R_alloc | apply Kd.R_drewN | apply Kd.R_drew)); exact HO211.out) (Kd.R_base ho0) hb); have n1_ := Aside0.mk (Kd.R_elder' (by (with_reducible repeat (first | apply Kd.R_alloc | apply Kd.R_drewN | apply Kd.R_drew)); exact HO213.out) (Kd.R_base ho1) hb); have n2_ := Aside0.mk (Kd.R_lower (Kd.R_new' ho0 (Kd.R_lt (by (with_reducible repeat (first | apply Kd.R_alloc | apply Kd.R_drewN | apply Kd.R_drew)); exact HO211.out))) (below_size (by repeat (first | (with_reducible first | exact HB.out | apply below_alloc | apply pw_below_drewN | apply below_drew1) | exact HB.out)))); have n3_ := Aside0.mk (Kd.R_lower (Kd.R_new' ho1 (Kd.R_lt (by (with_reducible repeat (first | apply Kd.R_alloc | apply Kd.R_drewN | apply Kd.R_drew)); exact HO213.out))) (below_size (by repeat (first | (with_reducible first | exact HB.out | apply below_alloc | apply pw_below_drewN | apply below_drew1) | exact HB.out)))); have n4_ := Aside0.mk (below_step (by repeat (first | (with_reducible first | exact HB.out | apply below_alloc | apply pw_below_drewN | apply below_drew1) | exact HB.out)) hb); clear HO211; clear HO213; clear HB; have HO211 := n0_; have HO213 := n1_; have HO217 := n2_; have HO219 := n3_; have HB := n4_; clear n0_ n1_ n2_ n3_ n4_; (try clear hb); (try clear hb2); (try clear hk); (try clear hi); (try clear ho0); (try clear ho1); obtain ⟨Ao81, co81, eo81⟩ := Kd.R_slice HO211.out; subst eo81; have p220 : 0 ≤ (0 : Int) := (by omega); have q220 : 0 < (t208.length : Int) := of_decide_eq_true (by first | (with_reducible assumption) | assumption); obtain ⟨ad220, e220, hx220_0, hx220_1, hx220_2⟩ := at_T35 (Kd.R_reads' HO211.out).2.2 0 p220 q220; cases e220; have qi220 : (0 < t208.length) = True := eq_true (by omega); (try rw [show ((0 : Int)).toNat = 0 from rfl] at hx220_0); (try rw [show 0 * 3 = 0 from rfl] at hx220_0); (try rw [Addr.add_zero'] at hx220_0); (try rw [show ((0 : Int)).toNat = 0 from rfl] at hx220_1); (try rw [show 0 * 3 = 0 from rfl] at hx220_1); (try rw [Addr.add_zero'] at hx220_1); (try rw [show ((0 : Int)).toNat = 0 from rfl] at hx220_2); (try rw [show 0 * 3 = 0 from rfl] at hx220_2); (try rw [Addr.add_zero'] at hx220_2); replace p220 := eq_true p220; replace q220 := eq_true q220; have p221 : 0 ≤ (0 : Int) := (by omega); have q221 : 0 < (t208.length : Int) := of_decide_eq_true (by first | (with_reducible assumption) | assumption); obtain ⟨ad221, e221, hx221_0, hx221_1, hx221_2⟩ := at_T35 (Kd.R_reads' HO211.out).2.2 0 p221 q221; obtain rfl : ad220 = ad221 := (by injection e221); have qi221 : (0 < t208.length) = True := eq_true (by omega); (try rw [show ((0 : Int)).toNat = 0 from rfl] at hx221_0); (try rw [show 0 * 3 = 0 from rfl] at hx221_0); (try rw [Addr.add_zero'] at hx221_0); (try rw [show ((0 : Int)).toNat = 0 from rfl] at hx221_1); (try rw [show 0 * 3 = 0 from rfl] at hx221_1); (try rw [Addr.add_zero'] at hx221_1); (try rw [show ((0 : Int)).toNat = 0 from rfl] at hx221_2); (try rw [show 0 * 3 = 0 from rfl] at hx221_2); (try rw [Addr.add_zero'] at hx221_2); replace p221 := eq_true p221; replace q221 := eq_true q221; have hcv82 := Kd.C_string (P := Try.prog) (A := A2) (c := c2) Try.underlying37 Try.underlying5 Try.underlying9 (Kd.C_below HR2.out HB.out); have hcv82n := fun n_ => Kd.C_string (P := Try.prog) (A := A2) (c := c2) Try.underlying37 Try.underlying5 Try.underlying9 (Kd.C_drewN (Kd.C_below HR2.out HB.out) n_); obtain ⟨Ao83, co83, eo83⟩ := Kd.R_slice HO213.out; subst eo83; obtain ⟨Ao84, co84, eo84⟩ := Kd.R_slice HO217.out; subst eo84; obtain ⟨Ao85, co85, eo85⟩ := Kd.R_slice HO219.out; subst eo85)))
                                            go_ret
                                            exact ⟨by first | rfl | (simp [errW_none, errW_some] <;> rfl) | (simp [*, errW_none, errW_some] <;> rfl), by repeat (first | (with_reducible first | exact HB.out | apply below_alloc | apply pw_below_drewN | apply below_drew1) | exact HB.out)⟩
                                        · rw [if_neg c65] at H
                                          have c65b0 : ((t214.length : Int) == 1) = false := beq_eq_false_iff_ne.mpr c65
                                          have c65b1 : ((t214.length : Int) != 1) = true := bne_iff_ne.mpr c65
                                          obtain rfl := Option.some.inj H
                                          have hcv86 := Kd.C_string (P := Try.prog) (A := A2) (c := c2) Try.underlying37 Try.underlying5 Try.underlying9 (Kd.C_below HR2.out HB.out); have hcv86n := fun n_ => Kd.C_string (P := Try.prog) (A := A2) (c := c2) Try.underlying37 Try.underlying5 Try.underlying9 (Kd.C_drewN (Kd.C_below HR2.out HB.out) n_)
                                          go_wp2_with (first | (go_at_call 10; (with_reducible refine (lex_Lex.calls (((⟨#[34]⟩ : ByteArray) ++ (strOfNums l2)) ++ (⟨#[34]⟩ : ByteArray)) t208 t209 _ A58.out).mono ?_); rintro e w87 ⟨v210, v212, rfl, ho0, ho1, hb⟩; (try clear A58); have n0_ := Aside0.mk (Kd.R_lower ho0 (below_size (by repeat (first | (with_reducible first | exact HB.out | apply below_alloc | apply pw_below_drewN | apply below_drew1) | exact HB.out)))); have n1_ := Aside0.mk (Kd.R_lower ho1 (below_size (by repeat (first | (with_reducible first | exact HB.out | apply below_alloc | apply pw_below_drewN | apply below_drew1) | exact HB.out)))); have n2_ := Aside0.mk (below_step (by repeat (first | (with_reducible first | exact HB.out | apply below_alloc | apply pw_below_drewN | apply below_drew1) | exact HB.out)) hb); clear HB; have HO211 := n0_; have HO213 := n1_; have HB := n2_; clear n0_ n1_ n2_; (try clear hb); (try clear hb2); (try clear hk); (try clear hi); (try clear ho0); (try clear ho1); have hcv88 := Kd.C_string (P := Try.prog) (A := A2) (c := c2) Try.underlying37 Try.underlying5 Try.underlying9 (Kd.C_below HR2.out HB.out); have hcv88n := fun n_ => Kd.C_string (P := Try.prog) (A := A2) (c := c2) Try.underlying37 Try.underlying5 Try.underlying9 (Kd.C_drewN (Kd.C_below HR2.out HB.out) n_)) | (go_at_call 10; (with_reducible refine (lex_Lex.calls ((⟨#[34]⟩ : ByteArray) ++ (strOfNums l2)) t214 t215 _ A59.out).mono ?_); rintro e w89 ⟨v216, v218, rfl, ho0, ho1, hb⟩; (try clear A59); have n0_ := Aside0.mk (Kd.R_elder' (by (with_reducible repeat (first | apply Kd.R_alloc | apply Kd.R_drewN | apply Kd.R_drew)); exact HO211.out) (Kd.R_base ho0) hb); have n1_ := Aside0.mk (Kd.R_elder' (by (with_reducible repeat (first | apply Kd.R_alloc | apply Kd.R_drewN | apply Kd.R_drew)); exact HO213.out) (Kd.R_base ho1) hb); have n2_ := Aside0.mk (Kd.R_lower (Kd.R_new' ho0 (Kd.R_lt (by (with_reducible repeat (first | apply Kd.R_alloc | apply Kd.R_drewN | apply Kd.R_drew)); exact HO211.out))) (below_size (by repeat (first | (with_reducible first | exact HB.out | apply below_alloc | apply pw_below_drewN | apply below_drew1) | exact HB.out)))); have n3_ := Aside0.mk (Kd.R_lower (Kd.R_new' ho1 (Kd.R_lt (by (with_reducible repeat (first | apply Kd.R_alloc | apply Kd.R_drewN | apply Kd.R_drew)); exact HO213.out))) (below_size (by repeat (first | (with_reducible first | exact HB.out | apply below_alloc | apply pw_below_drewN | apply below_drew1) | exact HB.out)))); have n4_ := Aside0.mk (below_step (by repeat (first | (with_reducible first | exact HB.out | apply below_alloc | apply pw_below_drewN | apply below_drew1) | exact HB.out)) hb); clear HO211; clear HO213; clear HB; have HO211 := n0_; have HO213 := n1_; have HO217 := n2_; have HO219 := n3_; have HB := n4_; clear n0_ n1_ n2_ n3_ n4_; (try clear hb); (try clear hb2); (try clear hk); (try clear hi); (try clear ho0); (try clear ho1); obtain ⟨Ao90, co90, eo90⟩ := Kd.R_slice HO211.out; subst eo90; have p220 : 0 ≤ (0 : Int) := (by omega); have q220 : 0 < (t208.length : Int) := of_decide_eq_true (by first | (with_reducible assumption) | assumption); obtain ⟨ad220, e220, hx220_0, hx220_1, hx220_2⟩ := at_T35 (Kd.R_reads' HO211.out).2.2 0 p220 q220; cases e220; have qi220 : (0 < t208.length) = True := eq_true (by omega); (try rw [show ((0 : Int)).toNat = 0 from rfl] at hx220_0); (try rw [show 0 * 3 = 0 from rfl] at hx220_0); (try rw [Addr.add_zero'] at hx220_0); (try rw [show ((0 : Int)).toNat = 0 from rfl] at hx220_1); (try rw [show 0 * 3 = 0 from rfl] at hx220_1); (try rw [Addr.add_zero'] at hx220_1); (try rw [show ((0 : Int)).toNat = 0 from rfl] at hx220_2); (try rw [show 0 * 3 = 0 from rfl] at hx220_2); (try rw [Addr.add_zero'] at hx220_2); replace p220 := eq_true p220; replace q220 := eq_true q220; have p221 : 0 ≤ (0 : Int) := (by omega); have q221 : 0 < (t208.length : Int) := of_decide_eq_true (by first | (with_reducible assumption) | assumption); obtain ⟨ad221, e221, hx221_0, hx221_1, hx221_2⟩ := at_T35 (Kd.R_reads' HO211.out).2.2 0 p221 q221; obtain rfl : ad220 = ad221 := (by injection e221); have qi221 : (0 < t208.length) = True := eq_true (by omega); (try rw [show ((0 : Int)).toNat = 0 from rfl] at hx221_0); (try rw [show 0 * 3 = 0 from rfl] at hx221_0); (try rw [Addr.add_zero'] at hx221_0); (try rw [show ((0 : Int)).toNat = 0 from rfl] at hx221_1); (try rw [show 0 * 3 = 0 from rfl] at hx221_1); (try rw [Addr.add_zero'] at hx221_1); (try rw [show ((0 : Int)).toNat = 0 from rfl] at hx221_2); (try rw [show 0 * 3 = 0 from rfl] at hx221_2); (try rw [Addr.add_zero'] at hx221_2); replace p221 := eq_true p221; replace q221 := eq_true q221; have hcv91 := Kd.C_string (P := Try.prog) (A := A2) (c := c2) Try.underlying37 Try.underlying5 Try.underlying9 (Kd.C_below HR2.out HB.out); have hcv91n := fun n_ => Kd.C_string (P := Try.prog) (A := A2) (c := c2) Try.underlying37 Try.underlying5 Try.underlying9 (Kd.C_drewN (Kd.C_below HR2.out HB.out) n_); obtain ⟨Ao92, co92, eo92⟩ := Kd.R_slice HO213.out; subst eo92; obtain ⟨Ao93, co93, eo93⟩ := Kd.R_slice HO217.out; subst eo93))
                                          repeat (go_quiet (first | (go_at_call 10; (with_reducible refine (lex_Lex.calls (((⟨#[34]⟩ : ByteArray) ++ (strOfNums l2)) ++ (⟨#[34]⟩ : ByteArray)) t208 t209 _ A58.out).mono ?_); rintro e w87 ⟨v210, v212, rfl, ho0, ho1, hb⟩; (try clear A58); have n0_ := Aside0.mk (Kd.R_lower ho0 (below_size (by repeat (first | (with_reducible first | exact HB.out | apply below_alloc | apply pw_below_drewN | apply below_drew1) | exact HB.out)))); have n1_ := Aside0.mk (Kd.R_lower ho1 (below_size (by repeat (first | (with_reducible first | exact HB.out | apply below_alloc | apply pw_below_drewN | apply below_drew1) | exact HB.out)))); have n2_ := Aside0.mk (below_step (by repeat (first | (with_reducible first | exact HB.out | apply below_alloc | apply pw_below_drewN | apply below_drew1) | exact HB.out)) hb); clear HB; have HO211 := n0_; have HO213 := n1_; have HB := n2_; clear n0_ n1_ n2_; (try clear hb); (try clear hb2); (try clear hk); (try clear hi); (try clear ho0); (try clear ho1); have hcv88 := Kd.C_string (P := Try.prog) (A := A2) (c := c2) Try.underlying37 Try.underlying5 Try.underlying9 (Kd.C_below HR2.out HB.out); have hcv88n := fun n_ => Kd.C_string (P := Try.prog) (A := A2) (c := c2) Try.underlying37 Try.underlying5 Try.underlying9 (Kd.C_drewN (Kd.C_below HR2.out HB.out) n_)) | (go_at_call 10; (with_reducible refine (lex_Lex.calls ((⟨#[34]⟩ : ByteArray) ++ (strOfNums l2)) t214 t215 _ A59.out).mono ?_); rintro e w89 ⟨v216, v218, rfl, ho0, ho1, hb⟩; (try clear A59); have n0_ := Aside0.mk (Kd.R_elder' (by (with_reducible repeat (first | apply Kd.R_alloc | apply Kd.R_drewN | apply Kd.R_drew)); exact HO211.out) (Kd.R_base ho0) hb); have n1_ := Aside0.mk (Kd.R_elder' (by (with_reducible repeat (first | apply Kd.R_alloc | apply Kd.R_drewN | apply Kd.R_drew)); exact HO213.out) (Kd.R_base ho1) hb); have n2_ := Aside0.mk (Kd.R_lower (Kd.R_new' ho0 (Kd.R_lt (by (with_reducible repeat (first | apply Kd.R_alloc | apply Kd.R_drewN | apply Kd.R_drew)); exact HO211.out))) (below_size (by repeat (first | (with_reducible first | exact HB.out | apply below_alloc | apply pw_below_drewN | apply below_drew1) | exact HB.out)))); have n3_ := Aside0.mk (Kd.R_lower (Kd.R_new' ho1 (Kd.R_lt (by (with_reducible repeat (first | apply Kd.R_alloc | apply Kd.R_drewN | apply Kd.R_drew)); exact HO213.out))) (below_size (by repeat (first | (with_reducible first | exact HB.out | apply below_alloc | apply pw_below_drewN | apply below_drew1) | exact HB.out)))); have n4_ := Aside0.mk (below_step (by repeat (first | (with_reducible first | exact HB.out | apply below_alloc | apply pw_below_drewN | apply below_drew1) | exact HB.out)) hb); clear HO211; clear HO213; clear HB; have HO211 := n0_; have HO213 := n1_; have HO217 := n2_; have HO219 := n3_; have HB := n4_; clear n0_ n1_ n2_ n3_ n4_; (try clear hb); (try clear hb2); (try clear hk); (try clear hi); (try clear ho0); (try clear ho1); obtain ⟨Ao90, co90, eo90⟩ := Kd.R_slice HO211.out; subst eo90; have p220 : 0 ≤ (0 : Int) := (by omega); have q220 : 0 < (t208.length : Int) := of_decide_eq_true (by first | (with_reducible assumption) | assumption); obtain ⟨ad220, e220, hx220_0, hx220_1, hx220_2⟩ := at_T35 (Kd.R_reads' HO211.out).2.2 0 p220 q220; cases e220; have qi220 : (0 < t208.length) = True := eq_true (by omega); (try rw [show ((0 : Int)).toNat = 0 from rfl] at hx220_0); (try rw [show 0 * 3 = 0 from rfl] at hx220_0); (try rw [Addr.add_zero'] at hx220_0); (try rw [show ((0 : Int)).toNat = 0 from rfl] at hx220_1); (try rw [show 0 * 3 = 0 from rfl] at hx220_1); (try rw [Addr.add_zero'] at hx220_1); (try rw [show ((0 : Int)).toNat = 0 from rfl] at hx220_2); (try rw [show 0 * 3 = 0 from rfl] at hx220_2); (try rw [Addr.add_zero'] at hx220_2); replace p220 := eq_true p220; replace q220 := eq_true q220; have p221 : 0 ≤ (0 : Int) := (by omega); have q221 : 0 < (t208.length : Int) := of_decide_eq_true (by first | (with_reducible assumption) | assumption); obtain ⟨ad221, e221, hx221_0, hx221_1, hx221_2⟩ := at_T35 (Kd.R_reads' HO211.out).2.2 0 p221 q221; obtain rfl : ad220 = ad221 := (by injection e221); have qi221 : (0 < t208.length) = True := eq_true (by omega); (try rw [show ((0 : Int)).toNat = 0 from rfl] at hx221_0); (try rw [show 0 * 3 = 0 from rfl] at hx221_0); (try rw [Addr.add_zero'] at hx221_0); (try rw [show ((0 : Int)).toNat = 0 from rfl] at hx221_1); (try rw [show 0 * 3 = 0 from rfl] at hx221_1); (try rw [Addr.add_zero'] at hx221_1); (try rw [show ((0 : Int)).toNat = 0 from rfl] at hx221_2); (try rw [show 0 * 3 = 0 from rfl] at hx221_2); (try rw [Addr.add_zero'] at hx221_2); replace p221 := eq_true p221; replace q221 := eq_true q221; have hcv91 := Kd.C_string (P := Try.prog) (A := A2) (c := c2) Try.underlying37 Try.underlying5 Try.underlying9 (Kd.C_below HR2.out HB.out); have hcv91n := fun n_ => Kd.C_string (P := Try.prog) (A := A2) (c := c2) Try.underlying37 Try.underlying5 Try.underlying9 (Kd.C_drewN (Kd.C_below HR2.out HB.out) n_); obtain ⟨Ao92, co92, eo92⟩ := Kd.R_slice HO213.out; subst eo92; obtain ⟨Ao93, co93, eo93⟩ := Kd.R_slice HO217.out; subst eo93)); try go_wp2_with (first | (go_at_call 10; (with_reducible refine (lex_Lex.calls (((⟨#[34]⟩ : ByteArray) ++ (strOfNums l2)) ++ (⟨#[34]⟩ : ByteArray)) t208 t209 _ A58.out).mono ?_); rintro e w87 ⟨v210, v212, rfl, ho0, ho1, hb⟩; (try clear A58); have n0_ := Aside0.mk (Kd.R_lower ho0 (below_size (by repeat (first | (with_reducible first | exact HB.out | apply below_alloc | apply pw_below_drewN | apply below_drew1) | exact HB.out)))); have n1_ := Aside0.mk (Kd.R_lower ho1 (below_size (by repeat (first | (with_reducible first | exact HB.out | apply below_alloc | apply pw_below_drewN | apply below_drew1) | exact HB.out)))); have n2_ := Aside0.mk (below_step (by repeat (first | (with_reducible first | exact HB.out | apply below_alloc | apply pw_below_drewN | apply below_drew1) | exact HB.out)) hb); clear HB; have HO211 := n0_; have HO213 := n1_; have HB := n2_; clear n0_ n1_ n2_; (try clear hb); (try clear hb2); (try clear hk); (try clear hi); (try clear ho0); (try clear ho1); have hcv88 := Kd.C_string (P := Try.prog) (A := A2) (c := c2) Try.underlying37 Try.underlying5 Try.underlying9 (Kd.C_below HR2.out HB.out); have hcv88n := fun n_ => Kd.C_string (P := Try.prog) (A := A2) (c := c2) Try.underlying37 Try.underlying5 Try.underlying9 (Kd.C_drewN (Kd.C_below HR2.out HB.out) n_)) | (go_at_call 10; (with_reducible refine (lex_Lex.calls ((⟨#[34]⟩ : ByteArray) ++ (strOfNums l2)) t214 t215 _ A59.out).mono ?_); rintro e w89 ⟨v216, v218, rfl, ho0, ho1, hb⟩; (try clear A59); have n0_ := Aside0.mk (Kd.R_elder' (by (with_reducible repeat (first | apply Kd.R_alloc | apply Kd.R_drewN | apply Kd.R_drew)); exact HO211.out) (Kd.R_base ho0) hb); have n1_ := Aside0.mk (Kd.R_elder' (by (with_reducible repeat (first | apply Kd.R_alloc | apply Kd.R_drewN | apply Kd.R_drew)); exact HO213.out) (Kd.R_base ho1) hb); have n2_ := Aside0.mk (Kd.R_lower (Kd.R_new' ho0 (Kd.R_lt (by (with_reducible repeat (first | apply Kd.R_alloc | apply Kd.R_drewN | apply Kd.R_drew)); exact HO211.out))) (below_size (by repeat (first | (with_reducible first | exact HB.out | apply below_alloc | apply pw_below_drewN | apply below_drew1) | exact HB.out)))); have n3_ := Aside0.mk (Kd.R_lower (Kd.R_new' ho1 (Kd.R_lt (by (with_reducible repeat (first | apply Kd.R_alloc | apply Kd.R_drewN | apply Kd.R_drew)); exact HO213.out))) (below_size (by repeat (first | (with_reducible first | exact HB.out | apply below_alloc | apply pw_below_drewN | apply below_drew1) | exact HB.out)))); have n4_ := Aside0.mk (below_step (by repeat (first | (with_reducible first | exact HB.out | apply below_alloc | apply pw_below_drewN | apply below_drew1) | exact HB.out)) hb); clear HO211; clear HO213; clear HB; have HO211 := n0_; have HO213 := n1_; have HO217 := n2_; have HO219 := n3_; have HB := n4_; clear n0_ n1_ n2_ n3_ n4_; (try clear hb); (try clear hb2); (try clear hk); (try clear hi); (try clear ho0); (try clear ho1); obtain ⟨Ao90, co90, eo90⟩ := Kd.R_slice HO211.out; subst eo90; have p220 : 0 ≤ (0 : Int) := (by omega); have q220 : 0 < (t208.length : Int) := of_decide_eq_true (by first | (with_reducible assumption) | assumption); obtain ⟨ad220, e220, hx220_0, hx220_1, hx220_2⟩ := at_T35 (Kd.R_reads' HO211.out).2.2 0 p220 q220; cases e220; have qi220 : (0 < t208.length) = True := eq_true (by omega); (try rw [show ((0 : Int)).toNat = 0 from rfl] at hx220_0); (try rw [show 0 * 3 = 0 from rfl] at hx220_0); (try rw [Addr.add_zero'] at hx220_0); (try rw [show ((0 : Int)).toNat = 0 from rfl] at hx220_1); (try rw [show 0 * 3 = 0 from rfl] at hx220_1); (try rw [Addr.add_zero'] at hx220_1); (try rw [show ((0 : Int)).toNat = 0 from rfl] at hx220_2); (try rw [show 0 * 3 = 0 from rfl] at hx220_2); (try rw [Addr.add_zero'] at hx220_2); replace p220 := eq_true p220; replace q220 := eq_true q220; have p221 : 0 ≤ (0 : Int) := (by omega); have q221 : 0 < (t208.length : Int) := of_decide_eq_true (by first | (with_reducible assumption) | assumption); obtain ⟨ad221, e221, hx221_0, hx221_1, hx221_2⟩ := at_T35 (Kd.R_reads' HO211.out).2.2 0 p221 q221; obtain rfl : ad220 = ad221 := (by injection e221); have qi221 : (0 < t208.length) = True := eq_true (by omega); (try rw [show ((0 : Int)).toNat = 0 from rfl] at hx221_0); (try rw [show 0 * 3 = 0 from rfl] at hx221_0); (try rw [Addr.add_zero'] at hx221_0); (try rw [show ((0 : Int)).toNat = 0 from rfl] at hx221_1); (try rw [show 0 * 3 = 0 from rfl] at hx221_1); (try rw [Addr.add_zero'] at hx221_1); (try rw [show ((0 : Int)).toNat = 0 from rfl] at hx221_2); (try rw [show 0 * 3 = 0 from rfl] at hx221_2); (try rw [Addr.add_zero'] at hx221_2); replace p221 := eq_true p221; replace q221 := eq_true q221; have hcv91 := Kd.C_string (P := Try.prog) (A := A2) (c := c2) Try.underlying37 Try.underlying5 Try.underlying9 (Kd.C_below HR2.out HB.out); have hcv91n := fun n_ => Kd.C_string (P := Try.prog) (A := A2) (c := c2) Try.underlying37 Try.underlying5 Try.underlying9 (Kd.C_drewN (Kd.C_below HR2.out HB.out) n_); obtain ⟨Ao92, co92, eo92⟩ := Kd.R_slice HO213.out; subst eo92; obtain ⟨Ao93, co93, eo93⟩ := Kd.R_slice HO217.out; subst eo93)))
                                          go_ret
                                          exact ⟨by first | rfl | (simp [errW_none, errW_some] <;> rfl) | (simp [*, errW_none, errW_some] <;> rfl), by repeat (first | (with_reducible first | exact HB.out | apply below_alloc | apply pw_below_drewN | apply below_drew1) | exact HB.out)⟩
                                      · rw [if_neg c64] at H
                                        have c64b0 : ((t209.length : Int) == 0) = false := beq_eq_false_iff_ne.mpr c64
                                        have c64b1 : ((t209.length : Int) != 0) = true := bne_iff_ne.mpr c64
                                        have c64b2 : ¬ (t209 = []) := fun h_ => c64 (by rw [h_]; rfl)
                                        obtain rfl := Option.some.inj H
                                        have hcv94 := Kd.C_string (P := Try.prog) (A := A2) (c := c2) Try.underlying37 Try.underlying5 Try.underlying9 (Kd.C_below HR2.out HB.out); have hcv94n := fun n_ => Kd.C_string (P := Try.prog) (A := A2) (c := c2) Try.underlying37 Try.underlying5 Try.underlying9 (Kd.C_drewN (Kd.C_below HR2.out HB.out) n_)
                                        go_wp2_with (first | (go_at_call 10; (with_reducible refine (lex_Lex.calls (((⟨#[34]⟩ : ByteArray) ++ (strOfNums l2)) ++ (⟨#[34]⟩ : ByteArray)) t208 t209 _ A58.out).mono ?_); rintro e w95 ⟨v210, v212, rfl, ho0, ho1, hb⟩; (try clear A58); have n0_ := Aside0.mk (Kd.R_lower ho0 (below_size (by repeat (first | (with_reducible first | exact HB.out | apply below_alloc | apply pw_below_drewN | apply below_drew1) | exact HB.out)))); have n1_ := Aside0.mk (Kd.R_lower ho1 (below_size (by repeat (first | (with_reducible first | exact HB.out | apply below_alloc | apply pw_below_drewN | apply below_drew1) | exact HB.out)))); have n2_ := Aside0.mk (below_step (by repeat (first | (with_reducible first | exact HB.out | apply below_alloc | apply pw_below_drewN | apply below_drew1) | exact HB.out)) hb); clear HB; have HO211 := n0_; have HO213 := n1_; have HB := n2_; clear n0_ n1_ n2_; (try clear hb); (try clear hb2); (try clear hk); (try clear hi); (try clear ho0); (try clear ho1); have hcv96 := Kd.C_string (P := Try.prog) (A := A2) (c := c2) Try.underlying37 Try.underlying5 Try.underlying9 (Kd.C_below HR2.out HB.out); have hcv96n := fun n_ => Kd.C_string (P := Try.prog) (A := A2) (c := c2) Try.underlying37 Try.underlying5 Try.underlying9 (Kd.C_drewN (Kd.C_below HR2.out HB.out) n_)) | (go_at_call 10; (with_reducible refine (lex_Lex.calls ((⟨#[34]⟩ : ByteArray) ++ (strOfNums l2)) t214 t215 _ A59.out).mono ?_); rintro e w97 ⟨v216, v218, rfl, ho0, ho1, hb⟩; (try clear A59); have n0_ := Aside0.mk (Kd.R_elder' (by (with_reducible repeat (first | apply Kd.R_alloc | apply Kd.R_drewN | apply Kd.R_drew)); exact HO211.out) (Kd.R_base ho0) hb); have n1_ := Aside0.mk (Kd.R_elder' (by (with_reducible repeat (first | apply Kd.R_alloc | apply Kd.R_drewN | apply Kd.R_drew)); exact HO213.out) (Kd.R_base ho1) hb); have n2_ := Aside0.mk (Kd.R_lower (Kd.R_new' ho0 (Kd.R_lt (by (with_reducible repeat (first | apply Kd.R_alloc | apply Kd.R_drewN | apply Kd.R_drew)); exact HO211.out))) (below_size (by repeat (first | (with_reducible first | exact HB.out | apply below_alloc | apply pw_below_drewN | apply below_drew1) | exact HB.out)))); have n3_ := Aside0.mk (Kd.R_lower (Kd.R_new' ho1 (Kd.R_lt (by (with_reducible repeat (first | apply Kd.R_alloc | apply Kd.R_drewN | apply Kd.R_drew)); exact HO213.out))) (below_size (by repeat (first | (with_reducible first | exact HB.out | apply below_alloc | apply pw_below_drewN | apply below_drew1) | exact HB.out)))); have n4_ := Aside0.mk (below_step (by repeat (first | (with_reducible first | exact HB.out | apply below_alloc | apply pw_below_drewN | apply below_drew1) | exact HB.out)) hb); clear HO211; clear HO213; clear HB; have HO211 := n0_; have HO213 := n1_; have HO217 := n2_; have HO219 := n3_; have HB := n4_; clear n0_ n1_ n2_ n3_ n4_; (try clear hb); (try clear hb2); (try clear hk); (try clear hi); (try clear ho0); (try clear ho1); obtain ⟨Ao98, co98, eo98⟩ := Kd.R_slice HO211.out; subst eo98; have p220 : 0 ≤ (0 : Int) := (by omega); have q220 : 0 < (t208.length : Int) := of_decide_eq_true (by first | (with_reducible assumption) | assumption); obtain ⟨ad220, e220, hx220_0, hx220_1, hx220_2⟩ := at_T35 (Kd.R_reads' HO211.out).2.2 0 p220 q220; cases e220; have qi220 : (0 < t208.length) = True := eq_true (by omega); (try rw [show ((0 : Int)).toNat = 0 from rfl] at hx220_0); (try rw [show 0 * 3 = 0 from rfl] at hx220_0); (try rw [Addr.add_zero'] at hx220_0); (try rw [show ((0 : Int)).toNat = 0 from rfl] at hx220_1); (try rw [show 0 * 3 = 0 from rfl] at hx220_1); (try rw [Addr.add_zero'] at hx220_1); (try rw [show ((0 : Int)).toNat = 0 from rfl] at hx220_2); (try rw [show 0 * 3 = 0 from rfl] at hx220_2); (try rw [Addr.add_zero'] at hx220_2); replace p220 := eq_true p220; replace q220 := eq_true q220; have p221 : 0 ≤ (0 : Int) := (by omega); have q221 : 0 < (t208.length : Int) := of_decide_eq_true (by first | (with_reducible assumption) | assumption); obtain ⟨ad221, e221, hx221_0, hx221_1, hx221_2⟩ := at_T35 (Kd.R_reads' HO211.out).2.2 0 p221 q221; obtain rfl : ad220 = ad221 := (by injection e221); have qi221 : (0 < t208.length) = True := eq_true (by omega); (try rw [show ((0 : Int)).toNat = 0 from rfl] at hx221_0); (try rw [show 0 * 3 = 0 from rfl] at hx221_0); (try rw [Addr.add_zero'] at hx221_0); (try rw [show ((0 : Int)).toNat = 0 from rfl] at hx221_1); (try rw [show 0 * 3 = 0 from rfl] at hx221_1); (try rw [Addr.add_zero'] at hx221_1); (try rw [show ((0 : Int)).toNat = 0 from rfl] at hx221_2); (try rw [show 0 * 3 = 0 from rfl] at hx221_2); (try rw [Addr.add_zero'] at hx221_2); replace p221 := eq_true p221; replace q221 := eq_true q221; have hcv99 := Kd.C_string (P := Try.prog) (A := A2) (c := c2) Try.underlying37 Try.underlying5 Try.underlying9 (Kd.C_below HR2.out HB.out); have hcv99n := fun n_ => Kd.C_string (P := Try.prog) (A := A2) (c := c2) Try.underlying37 Try.underlying5 Try.underlying9 (Kd.C_drewN (Kd.C_below HR2.out HB.out) n_); obtain ⟨Ao100, co100, eo100⟩ := Kd.R_slice HO213.out; subst eo100))
                                        repeat (go_quiet (first | (go_at_call 10; (with_reducible refine (lex_Lex.calls (((⟨#[34]⟩ : ByteArray) ++ (strOfNums l2)) ++ (⟨#[34]⟩ : ByteArray)) t208 t209 _ A58.out).mono ?_); rintro e w95 ⟨v210, v212, rfl, ho0, ho1, hb⟩; (try clear A58); have n0_ := Aside0.mk (Kd.R_lower ho0 (below_size (by repeat (first | (with_reducible first | exact HB.out | apply below_alloc | apply pw_below_drewN | apply below_drew1) | exact HB.out)))); have n1_ := Aside0.mk (Kd.R_lower ho1 (below_size (by repeat (first | (with_reducible first | exact HB.out | apply below_alloc | apply pw_below_drewN | apply below_drew1) | exact HB.out)))); have n2_ := Aside0.mk (below_step (by repeat (first | (with_reducible first | exact HB.out | apply below_alloc | apply pw_below_drewN | apply below_drew1) | exact HB.out)) hb); clear HB; have HO211 := n0_; have HO213 := n1_; have HB := n2_; clear n0_ n1_ n2_; (try clear hb); (try clear hb2); (try clear hk); (try clear hi); (try clear ho0); (try clear ho1); have hcv96 := Kd.C_string (P := Try.prog) (A := A2) (c := c2) Try.underlying37 Try.underlying5 Try.underlying9 (Kd.C_below HR2.out HB.out); have hcv96n := fun n_ => Kd.C_string (P := Try.prog) (A := A2) (c := c2) Try.underlying37 Try.underlying5 Try.underlying9 (Kd.C_drewN (Kd.C_below HR2.out HB.out) n_)) | (go_at_call 10; (with_reducible refine (lex_Lex.calls ((⟨#[34]⟩ : ByteArray) ++ (strOfNums l2)) t214 t215 _ A59.out).mono ?_); rintro e w97 ⟨v216, v218, rfl, ho0, ho1, hb⟩; (try clear A59); have n0_ := Aside0.mk (Kd.R_elder' (by (with_reducible repeat (first | apply Kd.R_alloc | apply Kd.R_drewN | apply Kd.R_drew)); exact HO211.out) (Kd.R_base ho0) hb); have n1_ := Aside0.mk (Kd.R_elder' (by (with_reducible repeat (first | apply Kd.R_alloc | apply Kd.R_drewN | apply Kd.R_drew)); exact HO213.out) (Kd.R_base ho1) hb); have n2_ := Aside0.mk (Kd.R_lower (Kd.R_new' ho0 (Kd.R_lt (by (with_reducible repeat (first | apply Kd.R_alloc | apply Kd.R_drewN | apply Kd.R_drew)); exact HO211.out))) (below_size (by repeat (first | (with_reducible first | exact HB.out | apply below_alloc | apply pw_below_drewN | apply below_drew1) | exact HB.out)))); have n3_ := Aside0.mk (Kd.R_lower (Kd.R_new' ho1 (Kd.R_lt (by (with_reducible repeat (first | apply Kd.R_alloc | apply Kd.R_drewN | apply Kd.R_drew)); exact HO213.out))) (below_size (by repeat (first | (with_reducible first | exact HB.out | apply below_alloc | apply pw_below_drewN | apply below_drew1) | exact HB.out)))); have n4_ := Aside0.mk (below_step (by repeat (first | (with_reducible first | exact HB.out | apply below_alloc | apply pw_below_drewN | apply below_drew1) | exact HB.out)) hb); clear HO211; clear HO213; clear HB; have HO211 := n0_; have HO213 := n1_; have HO217 := n2_; have HO219 := n3_; have HB := n4_; clear n0_ n1_ n2_ n3_ n4_; (try clear hb); (try clear hb2); (try clear hk); (try clear hi); (try clear ho0); (try clear ho1); obtain ⟨Ao98, co98, eo98⟩ := Kd.R_slice HO211.out; subst eo98; have p220 : 0 ≤ (0 : Int) := (by omega); have q220 : 0 < (t208.length : Int) := of_decide_eq_true (by first | (with_reducible assumption) | assumption); obtain ⟨ad220, e220, hx220_0, hx220_1, hx220_2⟩ := at_T35 (Kd.R_reads' HO211.out).2.2 0 p220 q220; cases e220; have qi220 : (0 < t208.length) = True := eq_true (by omega); (try rw [show ((0 : Int)).toNat = 0 from rfl] at hx220_0); (try rw [show 0 * 3 = 0 from rfl] at hx220_0); (try rw [Addr.add_zero'] at hx220_0); (try rw [show ((0 : Int)).toNat = 0 from rfl] at hx220_1); (try rw [show 0 * 3 = 0 from rfl] at hx220_1); (try rw [Addr.add_zero'] at hx220_1); (try rw [show ((0 : Int)).toNat = 0 from rfl] at hx220_2); (try rw [show 0 * 3 = 0 from rfl] at hx220_2); (try rw [Addr.add_zero'] at hx220_2); replace p220 := eq_true p220; replace q220 := eq_true q220; have p221 : 0 ≤ (0 : Int) := (by omega); have q221 : 0 < (t208.length : Int) := of_decide_eq_true (by first | (with_reducible assumption) | assumption); obtain ⟨ad221, e221, hx221_0, hx221_1, hx221_2⟩ := at_T35 (Kd.R_reads' HO211.out).2.2 0 p221 q221; obtain rfl : ad220 = ad221 := (by injection e221); have qi221 : (0 < t208.length) = True := eq_true (by omega); (try rw [show ((0 : Int)).toNat = 0 from rfl] at hx221_0); (try rw [show 0 * 3 = 0 from rfl] at hx221_0); (try rw [Addr.add_zero'] at hx221_0); (try rw [show ((0 : Int)).toNat = 0 from rfl] at hx221_1); (try rw [show 0 * 3 = 0 from rfl] at hx221_1); (try rw [Addr.add_zero'] at hx221_1); (try rw [show ((0 : Int)).toNat = 0 from rfl] at hx221_2); (try rw [show 0 * 3 = 0 from rfl] at hx221_2); (try rw [Addr.add_zero'] at hx221_2); replace p221 := eq_true p221; replace q221 := eq_true q221; have hcv99 := Kd.C_string (P := Try.prog) (A := A2) (c := c2) Try.underlying37 Try.underlying5 Try.underlying9 (Kd.C_below HR2.out HB.out); have hcv99n := fun n_ => Kd.C_string (P := Try.prog) (A := A2) (c := c2) Try.underlying37 Try.underlying5 Try.underlying9 (Kd.C_drewN (Kd.C_below HR2.out HB.out) n_); obtain ⟨Ao100, co100, eo100⟩ := Kd.R_slice HO213.out; subst eo100)); try go_wp2_with (first | (go_at_call 10; (with_reducible refine (lex_Lex.calls (((⟨#[34]⟩ : ByteArray) ++ (strOfNums l2)) ++ (⟨#[34]⟩ : ByteArray)) t208 t209 _ A58.out).mono ?_); rintro e w95 ⟨v210, v212, rfl, ho0, ho1, hb⟩; (try clear A58); have n0_ := Aside0.mk (Kd.R_lower ho0 (below_size (by repeat (first | (with_reducible first | exact HB.out | apply below_alloc | apply pw_below_drewN | apply below_drew1) | exact HB.out)))); have n1_ := Aside0.mk (Kd.R_lower ho1 (below_size (by repeat (first | (with_reducible first | exact HB.out | apply below_alloc | apply pw_below_drewN | apply below_drew1) | exact HB.out)))); have n2_ := Aside0.mk (below_step (by repeat (first | (with_reducible first | exact HB.out | apply below_alloc | apply pw_below_drewN | apply below_drew1) | exact HB.out)) hb); clear HB; have HO211 := n0_; have HO213 := n1_; have HB := n2_; clear n0_ n1_ n2_; (try clear hb); (try clear hb2); (try clear hk); (try clear hi); (try clear ho0); (try clear ho1); have hcv96 := Kd.C_string (P := Try.prog) (A := A2) (c := c2) Try.underlying37 Try.underlying5 Try.underlying9 (Kd.C_below HR2.out HB.out); have hcv96n := fun n_ => Kd.C_string (P := Try.prog) (A := A2) (c := c2) Try.underlying37 Try.underlying5 Try.underlying9 (Kd.C_drewN (Kd.C_below HR2.out HB.out) n_)) | (go_at_call 10; (with_reducible refine (lex_Lex.calls ((⟨#[34]⟩ : ByteArray) ++ (strOfNums l2)) t214 t215 _ A59.out).mono ?_); rintro e w97 ⟨v216, v218, rfl, ho0, ho1, hb⟩; (try clear A59); have n0_ := Aside0.mk (Kd.R_elder' (by (with_reducible repeat (first | apply Kd.R_alloc | apply Kd.R_drewN | apply Kd.R_drew)); exact HO211.out) (Kd.R_base ho0) hb); have n1_ := Aside0.mk (Kd.R_elder' (by (with_reducible repeat (first | apply Kd.R_alloc | apply Kd.R_drewN | apply Kd.R_drew)); exact HO213.out) (Kd.R_base ho1) hb); have n2_ := Aside0.mk (Kd.R_lower (Kd.R_new' ho0 (Kd.R_lt (by (with_reducible repeat (first | apply Kd.R_alloc | apply Kd.R_drewN | apply Kd.R_drew)); exact HO211.out))) (below_size (by repeat (first | (with_reducible first | exact HB.out | apply below_alloc | apply pw_below_drewN | apply below_drew1) | exact HB.out)))); have n3_ := Aside0.mk (Kd.R_lower (Kd.R_new' ho1 (Kd.R_lt (by (with_reducible repeat (first | apply Kd.R_alloc | apply Kd.R_drewN | apply Kd.R_drew)); exact HO213.out))) (below_size (by repeat (first | (with_reducible first | exact HB.out | apply below_alloc | apply pw_below_drewN | apply below_drew1) | exact HB.out)))); have n4_ := Aside0.mk (below_step (by repeat (first | (with_reducible first | exact HB.out | apply below_alloc | apply pw_below_drewN | apply below_drew1) | exact HB.out)) hb); clear HO211; clear HO213; clear HB; have HO211 := n0_; have HO213 := n1_; have HO217 := n2_; have HO219 := n3_; have HB := n4_; clear n0_ n1_ n2_ n3_ n4_; (try clear hb); (try clear hb2); (try clear hk); (try clear hi); (try clear ho0); (try clear ho1); obtain ⟨Ao98, co98, eo98⟩ := Kd.R_slice HO211.out; subst eo98; have p220 : 0 ≤ (0 : Int) := (by omega); have q220 : 0 < (t208.length : Int) := of_decide_eq_true (by first | (with_reducible assumption) | assumption); obtain ⟨ad220, e220, hx220_0, hx220_1, hx220_2⟩ := at_T35 (Kd.R_reads' HO211.out).2.2 0 p220 q220; cases e220; have qi220 : (0 < t208.length) = True := eq_true (by omega); (try rw [show ((0 : Int)).toNat = 0 from rfl] at hx220_0); (try rw [show 0 * 3 = 0 from rfl] at hx220_0); (try rw [Addr.add_zero'] at hx220_0); (try rw [show ((0 : Int)).toNat = 0 from rfl] at hx220_1); (try rw [show 0 * 3 = 0 from rfl] at hx220_1); (try rw [Addr.add_zero'] at hx220_1); (try rw [show ((0 : Int)).toNat = 0 from rfl] at hx220_2); (try rw [show 0 * 3 = 0 from rfl] at hx220_2); (try rw [Addr.add_zero'] at hx220_2); replace p220 := eq_true p220; replace q220 := eq_true q220; have p221 : 0 ≤ (0 : Int) := (by omega); have q221 : 0 < (t208.length : Int) := of_decide_eq_true (by first | (with_reducible assumption) | assumption); obtain ⟨ad221, e221, hx221_0, hx221_1, hx221_2⟩ := at_T35 (Kd.R_reads' HO211.out).2.2 0 p221 q221; obtain rfl : ad220 = ad221 := (by injection e221); have qi221 : (0 < t208.length) = True := eq_true (by omega); (try rw [show ((0 : Int)).toNat = 0 from rfl] at hx221_0); (try rw [show 0 * 3 = 0 from rfl] at hx221_0); (try rw [Addr.add_zero'] at hx221_0); (try rw [show ((0 : Int)).toNat = 0 from rfl] at hx221_1); (try rw [show 0 * 3 = 0 from rfl] at hx221_1); (try rw [Addr.add_zero'] at hx221_1); (try rw [show ((0 : Int)).toNat = 0 from rfl] at hx221_2); (try rw [show 0 * 3 = 0 from rfl] at hx221_2); (try rw [Addr.add_zero'] at hx221_2); replace p221 := eq_true p221; replace q221 := eq_true q221; have hcv99 := Kd.C_string (P := Try.prog) (A := A2) (c := c2) Try.underlying37 Try.underlying5 Try.underlying9 (Kd.C_below HR2.out HB.out); have hcv99n := fun n_ => Kd.C_string (P := Try.prog) (A := A2) (c := c2) Try.underlying37 Try.underlying5 Try.underlying9 (Kd.C_drewN (Kd.C_below HR2.out HB.out) n_); obtain ⟨Ao100, co100, eo100⟩ := Kd.R_slice HO213.out; subst eo100)))
                                        go_ret
                                        exact ⟨by first | rfl | (simp [errW_none, errW_some] <;> rfl) | (simp [*, errW_none, errW_some] <;> rfl), by repeat (first | (with_reducible first | exact HB.out | apply below_alloc | apply pw_below_drewN | apply below_drew1) | exact HB.out)⟩
                                    · rw [if_neg c63] at H
                                      have c63b0 : (((rd_T35 t208 0).f2).toList == (strOfNums l2).toList) = false := beq_eq_false_iff_ne.mpr c63
                                      have c63b1 : (((rd_T35 t208 0).f2).toList != (strOfNums l2).toList) = true := bne_iff_ne.mpr c63
                                      obtain rfl := Option.some.inj H
                                      have hcv101 := Kd.C_string (P := Try.prog) (A := A2) (c := c2) Try.underlying37 Try.underlying5 Try.underlying9 (Kd.C_below HR2.out HB.out); have hcv101n := fun n_ => Kd.C_string (P := Try.prog) (A := A2) (c := c2) Try.underlying37 Try.underlying5 Try.underlying9 (Kd.C_drewN (Kd.C_below HR2.out HB.out) n_)
                                      go_wp2_with (first | (go_at_call 10; (with_reducible refine (lex_Lex.calls (((⟨#[34]⟩ : ByteArray) ++ (strOfNums l2)) ++ (⟨#[34]⟩ : ByteArray)) t208 t209 _ A58.out).mono ?_); rintro e w102 ⟨v210, v212, rfl, ho0, ho1, hb⟩; (try clear A58); have n0_ := Aside0.mk (Kd.R_lower ho0 (below_size (by repeat (first | (with_reducible first | exact HB.out | apply below_alloc | apply pw_below_drewN | apply below_drew1) | exact HB.out)))); have n1_ := Aside0.mk (Kd.R_lower ho1 (below_size (by repeat (first | (with_reducible first | exact HB.out | apply below_alloc | apply pw_below_drewN | apply below_drew1) | exact HB.out)))); have n2_ := Aside0.mk (below_step (by repeat (first | (with_reducible first | exact HB.out | apply below_alloc | apply pw_below_drewN | apply below_drew1) | exact HB.out)) hb); clear HB; have HO211 := n0_; have HO213 := n1_; have HB := n2_; clear n0_ n1_ n2_; (try clear hb); (try clear hb2); (try clear hk); (try clear hi); (try clear ho0); (try clear ho1); have hcv103 := Kd.C_string (P := Try.prog) (A := A2) (c := c2) Try.underlying37 Try.underlying5 Try.underlying9 (Kd.C_below HR2.out HB.out); have hcv103n := fun n_ => Kd.C_string (P := Try.prog) (A := A2) (c := c2) Try.underlying37 Try.underlying5 Try.underlying9 (Kd.C_drewN (Kd.C_below HR2.out HB.out) n_)) | (go_at_call 10; (with_reducible refine (lex_Lex.calls ((⟨#[34]⟩ : ByteArray) ++ (strOfNums l2)) t214 t215 _ A59.out).mono ?_); rintro e w104 ⟨v216, v218, rfl, ho0, ho1, hb⟩; (try clear A59); have n0_ := Aside0.mk (Kd.R_elder' (by (with_reducible repeat (first | apply Kd.R_alloc | apply Kd.R_drewN | apply Kd.R_drew)); exact HO211.out) (Kd.R_base ho0) hb); have n1_ := Aside0.mk (Kd.R_elder' (by (with_reducible repeat (first | apply Kd.R_alloc | apply Kd.R_drewN | apply Kd.R_drew)); exact HO213.out) (Kd.R_base ho1) hb); have n2_ := Aside0.mk (Kd.R_lower (Kd.R_new' ho0 (Kd.R_lt (by (with_reducible repeat (first | apply Kd.R_alloc | apply Kd.R_drewN | apply Kd.R_drew)); exact HO211.out))) (below_size (by repeat (first | (with_reducible first | exact HB.out | apply below_alloc | apply pw_below_drewN | apply below_drew1) | exact HB.out)))); have n3_ := Aside0.mk (Kd.R_lower (Kd.R_new' ho1 (Kd.R_lt (by (with_reducible repeat (first | apply Kd.R_alloc | apply Kd.R_drewN | apply Kd.R_drew)); exact HO213.out))) (below_size (by repeat (first | (with_reducible first | exact HB.out | apply below_alloc | apply pw_below_drewN | apply below_drew1) | exact HB.out)))); have n4_ := Aside0.mk (below_step (by repeat (first | (with_reducible first | exact HB.out | apply below_alloc | apply pw_below_drewN | apply below_drew1) | exact HB.out)) hb); clear HO211; clear HO213; clear HB; have HO211 := n0_; have HO213 := n1_; have HO217 := n2_; have HO219 := n3_; have HB := n4_; clear n0_ n1_ n2_ n3_ n4_; (try clear hb); (try clear hb2); (try clear hk); (try clear hi); (try clear ho0); (try clear ho1); obtain ⟨Ao105, co105, eo105⟩ := Kd.R_slice HO211.out; subst eo105; have p220 : 0 ≤ (0 : Int) := (by omega); have q220 : 0 < (t208.length : Int) := of_decide_eq_true (by first | (with_reducible assumption) | assumption); obtain ⟨ad220, e220, hx220_0, hx220_1, hx220_2⟩ := at_T35 (Kd.R_reads' HO211.out).2.2 0 p220 q220; cases e220; have qi220 : (0 < t208.length) = True := eq_true (by omega); (try rw [show ((0 : Int)).toNat = 0 from rfl] at hx220_0); (try rw [show 0 * 3 = 0 from rfl] at hx220_0); (try rw [Addr.add_zero'] at hx220_0); (try rw [show ((0 : Int)).toNat = 0 from rfl] at hx220_1); (try rw [show 0 * 3 = 0 from rfl] at hx220_1); (try rw [Addr.add_zero'] at hx220_1); (try rw [show ((0 : Int)).toNat = 0 from rfl] at hx220_2); (try rw [show 0 * 3 = 0 from rfl] at hx220_2); (try rw [Addr.add_zero'] at hx220_2); replace p220 := eq_true p220; replace q220 := eq_true q220; have p221 : 0 ≤ (0 : Int) := (by omega); have q221 : 0 < (t208.length : Int) := of_decide_eq_true (by first | (with_reducible assumption) | assumption); obtain ⟨ad221, e221, hx221_0, hx221_1, hx221_2⟩ := at_T35 (Kd.R_reads' HO211.out).2.2 0 p221 q221; obtain rfl : ad220 = ad221 := (by injection e221); have qi221 : (0 < t208.length) = True := eq_true (by omega); (try rw [show ((0 : Int)).toNat = 0 from rfl] at hx221_0); (try rw [show 0 * 3 = 0 from rfl] at hx221_0); (try rw [Addr.add_zero'] at hx221_0); (try rw [show ((0 : Int)).toNat = 0 from rfl] at hx221_1); (try rw [show 0 * 3 = 0 from rfl] at hx221_1); (try rw [Addr.add_zero'] at hx221_1); (try rw [show ((0 : Int)).toNat = 0 from rfl] at hx221_2); (try rw [show 0 * 3 = 0 from rfl] at hx221_2); (try rw [Addr.add_zero'] at hx221_2); replace p221 := eq_true p221; replace q221 := eq_true q221; have hcv106 := Kd.C_string (P := Try.prog) (A := A2) (c := c2) Try.underlying37 Try.underlying5 Try.underlying9 (Kd.C_below HR2.out HB.out); have hcv106n := fun n_ => Kd.C_string (P := Try.prog) (A := A2) (c := c2) Try.underlying37 Try.underlying5 Try.underlying9 (Kd.C_drewN (Kd.C_below HR2.out HB.out) n_)))
                                      repeat (go_quiet (first | (go_at_call 10; (with_reducible refine (lex_Lex.calls (((⟨#[34]⟩ : ByteArray) ++ (strOfNums l2)) ++ (⟨#[34]⟩ : ByteArray)) t208 t209 _ A58.out).mono ?_); rintro e w102 ⟨v210, v212, rfl, ho0, ho1, hb⟩; (try clear A58); have n0_ := Aside0.mk (Kd.R_lower ho0 (below_size (by repeat (first | (with_reducible first | exact HB.out | apply below_alloc | apply pw_below_drewN | apply below_drew1) | exact HB.out)))); have n1_ := Aside0.mk (Kd.R_lower ho1 (below_size (by repeat (first | (with_reducible first | exact HB.out | apply below_alloc | apply pw_below_drewN | apply below_drew1) | exact HB.out)))); have n2_ := Aside0.mk (below_step (by repeat (first | (with_reducible first | exact HB.out | apply below_alloc | apply pw_below_drewN | apply below_drew1) | exact HB.out)) hb); clear HB; have HO211 := n0_; have HO213 := n1_; have HB := n2_; clear n0_ n1_ n2_; (try clear hb); (try clear hb2); (try clear hk); (try clear hi); (try clear ho0); (try clear ho1); have hcv103 := Kd.C_string (P := Try.prog) (A := A2) (c := c2) Try.underlying37 Try.underlying5 Try.underlying9 (Kd.C_below HR2.out HB.out); have hcv103n := fun n_ => Kd.C_string (P := Try.prog) (A := A2) (c := c2) Try.underlying37 Try.underlying5 Try.underlying9 (Kd.C_drewN (Kd.C_below HR2.out HB.out) n_)) | (go_at_call 10; (with_reducible refine (lex_Lex.calls ((⟨#[34]⟩ : ByteArray) ++ (strOfNums l2)) t214 t215 _ A59.out).mono ?_); rintro e w104 ⟨v216, v218, rfl, ho0, ho1, hb⟩; (try clear A59); have n0_ := Aside0.mk (Kd.R_elder' (by (with_reducible repeat (first | apply Kd.R_alloc | apply Kd.R_drewN | apply Kd.R_drew)); exact HO211.out) (Kd.R_base ho0) hb); have n1_ := Aside0.mk (Kd.R_elder' (by (with_reducible repeat (first | apply Kd.R_alloc | apply Kd.R_drewN | apply Kd.R_drew)); exact HO213.out) (Kd.R_base ho1) hb); have n2_ := Aside0.mk (Kd.R_lower (Kd.R_new' ho0 (Kd.R_lt (by (with_reducible repeat (first | apply Kd.R_alloc | apply Kd.R_drewN | apply Kd.R_drew)); exact HO211.out))) (below_size (by repeat (first | (with_reducible first | exact HB.out | apply below_alloc | apply pw_below_drewN | apply below_drew1) | exact HB.out)))); have n3_ := Aside0.mk (Kd.R_lower (Kd.R_new' ho1 (Kd.R_lt (by (with_reducible repeat (first | apply Kd.R_alloc | apply Kd.R_drewN | apply Kd.R_drew)); exact HO213.out))) (below_size (by repeat (first | (with_reducible first | exact HB.out | apply below_alloc | apply pw_below_drewN | apply below_drew1) | exact HB.out)))); have n4_ := Aside0.mk (below_step (by repeat (first | (with_reducible first | exact HB.out | apply below_alloc | apply pw_below_drewN | apply below_drew1) | exact HB.out)) hb); clear HO211; clear HO213; clear HB; have HO211 := n0_; have HO213 := n1_; have HO217 := n2_; have HO219 := n3_; have HB := n4_; clear n0_ n1_ n2_ n3_ n4_; (try clear hb); (try clear hb2); (try clear hk); (try clear hi); (try clear ho0); (try clear ho1); obtain ⟨Ao105, co105, eo105⟩ := Kd.R_slice HO211.out; subst eo105; have p220 : 0 ≤ (0 : Int) := (by omega); have q220 : 0 < (t208.length : Int) := of_decide_eq_true (by first | (with_reducible assumption) | assumption); obtain ⟨ad220, e220, hx220_0, hx220_1, hx220_2⟩ := at_T35 (Kd.R_reads' HO211.out).2.2 0 p220 q220; cases e220; have qi220 : (0 < t208.length) = True := eq_true (by omega); (try rw [show ((0 : Int)).toNat = 0 from rfl] at hx220_0); (try rw [show 0 * 3 = 0 from rfl] at hx220_0); (try rw [Addr.add_zero'] at hx220_0); (try rw [show ((0 : Int)).toNat = 0 from rfl] at hx220_1); (try rw [show 0 * 3 = 0 from rfl] at hx220_1); (try rw [Addr.add_zero'] at hx220_1); (try rw [show ((0 : Int)).toNat = 0 from rfl] at hx220_2); (try rw [show 0 * 3 = 0 from rfl] at hx220_2); (try rw [Addr.add_zero'] at hx220_2); replace p220 := eq_true p220; replace q220 := eq_true q220; have p221 : 0 ≤ (0 : Int) := (by omega); have q221 : 0 < (t208.length : Int) := of_decide_eq_true (by first | (with_reducible assumption) | assumption); obtain ⟨ad221, e221, hx221_0, hx221_1, hx221_2⟩ := at_T35 (Kd.R_reads' HO211.out).2.2 0 p221 q221; obtain rfl : ad220 = ad221 := (by injection e221); have qi221 : (0 < t208.length) = True := eq_true (by omega); (try rw [show ((0 : Int)).toNat = 0 from rfl] at hx221_0); (try rw [show 0 * 3 = 0 from rfl] at hx221_0); (try rw [Addr.add_zero'] at hx221_0); (try rw [show ((0 : Int)).toNat = 0 from rfl] at hx221_1); (try rw [show 0 * 3 = 0 from rfl] at hx221_1); (try rw [Addr.add_zero'] at hx221_1); (try rw [show ((0 : Int)).toNat = 0 from rfl] at hx221_2); (try rw [show 0 * 3 = 0 from rfl] at hx221_2); (try rw [Addr.add_zero'] at hx221_2); replace p221 := eq_true p221; replace q221 := eq_true q221; have hcv106 := Kd.C_string (P := Try.prog) (A := A2) (c := c2) Try.underlying37 Try.underlying5 Try.underlying9 (Kd.C_below HR2.out HB.out); have hcv106n := fun n_ => Kd.C_string (P := Try.prog) (A := A2) (c := c2) Try.underlying37 Try.underlying5 Try.underlying9 (Kd.C_drewN (Kd.C_below HR2.out HB.out) n_))); try go_wp2_with (first | (go_at_call 10; (with_reducible refine (lex_Lex.calls (((⟨#[34]⟩ : ByteArray) ++ (strOfNums l2)) ++ (⟨#[34]⟩ : ByteArray)) t208 t209 _ A58.out).mono ?_); rintro e w102 ⟨v210, v212, rfl, ho0, ho1, hb⟩; (try clear A58); have n0_ := Aside0.mk (Kd.R_lower ho0 (below_size (by repeat (first | (with_reducible first | exact HB.out | apply below_alloc | apply pw_below_drewN | apply below_drew1) | exact HB.out)))); have n1_ := Aside0.mk (Kd.R_lower ho1 (below_size (by repeat (first | (with_reducible first | exact HB.out | apply below_alloc | apply pw_below_drewN | apply below_drew1) | exact HB.out)))); have n2_ := Aside0.mk (below_step (by repeat (first | (with_reducible first | exact HB.out | apply below_alloc | apply pw_below_drewN | apply below_drew1) | exact HB.out)) hb); clear HB; have HO211 := n0_; have HO213 := n1_; have HB := n2_; clear n0_ n1_ n2_; (try clear hb); (try clear hb2); (try clear hk); (try clear hi); (try clear ho0); (try clear ho1); have hcv103 := Kd.C_string (P := Try.prog) (A := A2) (c := c2) Try.underlying37 Try.underlying5 Try.underlying9 (Kd.C_below HR2.out HB.out); have hcv103n := fun n_ => Kd.C_string (P := Try.prog) (A := A2) (c := c2) Try.underlying37 Try.underlying5 Try.underlying9 (Kd.C_drewN (Kd.C_below HR2.out HB.out) n_)) | (go_at_call 10; (with_reducible refine (lex_Lex.calls ((⟨#[34]⟩ : ByteArray) ++ (strOfNums l2)) t214 t215 _ A59.out).mono ?_); rintro e w104 ⟨v216, v218, rfl, ho0, ho1, hb⟩; (try clear A59); have n0_ := Aside0.mk (Kd.R_elder' (by (with_reducible repeat (first | apply Kd.R_alloc | apply Kd.R_drewN | apply Kd.R_drew)); exact HO211.out) (Kd.R_base ho0) hb); have n1_ := Aside0.mk (Kd.R_elder' (by (with_reducible repeat (first | apply Kd.R_alloc | apply Kd.R_drewN | apply Kd.R_drew)); exact HO213.out) (Kd.R_base ho1) hb); have n2_ := Aside0.mk (Kd.R_lower (Kd.R_new' ho0 (Kd.R_lt (by (with_reducible repeat (first | apply Kd.R_alloc | apply Kd.R_drewN | apply Kd.R_drew)); exact HO211.out))) (below_size (by repeat (first | (with_reducible first | exact HB.out | apply below_alloc | apply pw_below_drewN | apply below_drew1) | exact HB.out)))); have n3_ := Aside0.mk (Kd.R_lower (Kd.R_new' ho1 (Kd.R_lt (by (with_reducible repeat (first | apply Kd.R_alloc | apply Kd.R_drewN | apply Kd.R_drew)); exact HO213.out))) (below_size (by repeat (first | (with_reducible first | exact HB.out | apply below_alloc | apply pw_below_drewN | apply below_drew1) | exact HB.out)))); have n4_ := Aside0.mk (below_step (by repeat (first | (with_reducible first | exact HB.out | apply below_alloc | apply pw_below_drewN | apply below_drew1) | exact HB.out)) hb); clear HO211; clear HO213; clear HB; have HO211 := n0_; have HO213 := n1_; have HO217 := n2_; have HO219 := n3_; have HB := n4_; clear n0_ n1_ n2_ n3_ n4_; (try clear hb); (try clear hb2); (try clear hk); (try clear hi); (try clear ho0); (try clear ho1); obtain ⟨Ao105, co105, eo105⟩ := Kd.R_slice HO211.out; subst eo105; have p220 : 0 ≤ (0 : Int) := (by omega); have q220 : 0 < (t208.length : Int) := of_decide_eq_true (by first | (with_reducible assumption) | assumption); obtain ⟨ad220, e220, hx220_0, hx220_1, hx220_2⟩ := at_T35 (Kd.R_reads' HO211.out).2.2 0 p220 q220; cases e220; have qi220 : (0 < t208.length) = True := eq_true (by omega); (try rw [show ((0 : Int)).toNat = 0 from rfl] at hx220_0); (try rw [show 0 * 3 = 0 from rfl] at hx220_0); (try rw [Addr.add_zero'] at hx220_0); (try rw [show ((0 : Int)).toNat = 0 from rfl] at hx220_1); (try rw [show 0 * 3 = 0 from rfl] at hx220_1); (try rw [Addr.add_zero'] at hx220_1); (try rw [show ((0 : Int)).toNat = 0 from rfl] at hx220_2); (try rw [show 0 * 3 = 0 from rfl] at hx220_2); (try rw [Addr.add_zero'] at hx220_2); replace p220 := eq_true p220; replace q220 := eq_true q220; have p221 : 0 ≤ (0 : Int) := (by omega); have q221 : 0 < (t208.length : Int) := of_decide_eq_true (by first | (with_reducible assumption) | assumption); obtain ⟨ad221, e221, hx221_0, hx221_1, hx221_2⟩ := at_T35 (Kd.R_reads' HO211.out).2.2 0 p221 q221; obtain rfl : ad220 = ad221 := (by injection e221); have qi221 : (0 < t208.length) = True := eq_true (by omega); (try rw [show ((0 : Int)).toNat = 0 from rfl] at hx221_0); (try rw [show 0 * 3 = 0 from rfl] at hx221_0); (try rw [Addr.add_zero'] at hx221_0); (try rw [show ((0 : Int)).toNat = 0 from rfl] at hx221_1); (try rw [show 0 * 3 = 0 from rfl] at hx221_1); (try rw [Addr.add_zero'] at hx221_1); (try rw [show ((0 : Int)).toNat = 0 from rfl] at hx221_2); (try rw [show 0 * 3 = 0 from rfl] at hx221_2); (try rw [Addr.add_zero'] at hx221_2); replace p221 := eq_true p221; replace q221 := eq_true q221; have hcv106 := Kd.C_string (P := Try.prog) (A := A2) (c := c2) Try.underlying37 Try.underlying5 Try.underlying9 (Kd.C_below HR2.out HB.out); have hcv106n := fun n_ => Kd.C_string (P := Try.prog) (A := A2) (c := c2) Try.underlying37 Try.underlying5 Try.underlying9 (Kd.C_drewN (Kd.C_below HR2.out HB.out) n_))))
                                      go_ret
                                      exact ⟨by first | rfl | (simp [errW_none, errW_some] <;> rfl) | (simp [*, errW_none, errW_some] <;> rfl), by repeat (first | (with_reducible first | exact HB.out | apply below_alloc | apply pw_below_drewN | apply below_drew1) | exact HB.out)⟩
                                  · rw [if_neg c62] at H
                                    have c62b0 : (((rd_T35 t208 0).f0) == 4) = false := beq_eq_false_iff_ne.mpr c62
                                    have c62b1 : (((rd_T35 t208 0).f0) != 4) = true := bne_iff_ne.mpr c62
                                    obtain rfl := Option.some.inj H
                                    have hcv107 := Kd.C_string (P := Try.prog) (A := A2) (c := c2) Try.underlying37 Try.underlying5 Try.underlying9 (Kd.C_below HR2.out HB.out); have hcv107n := fun n_ => Kd.C_string (P := Try.prog) (A := A2) (c := c2) Try.underlying37 Try.underlying5 Try.underlying9 (Kd.C_drewN (Kd.C_below HR2.out HB.out) n_)
                                    go_wp2_with (first | (go_at_call 10; (with_reducible refine (lex_Lex.calls (((⟨#[34]⟩ : ByteArray) ++ (strOfNums l2)) ++ (⟨#[34]⟩ : ByteArray)) t208 t209 _ A58.out).mono ?_); rintro e w108 ⟨v210, v212, rfl, ho0, ho1, hb⟩; (try clear A58); have n0_ := Aside0.mk (Kd.R_lower ho0 (below_size (by repeat (first | (with_reducible first | exact HB.out | apply below_alloc | apply pw_below_drewN | apply below_drew1) | exact HB.out)))); have n1_ := Aside0.mk (Kd.R_lower ho1 (below_size (by repeat (first | (with_reducible first | exact HB.out | apply below_alloc | apply pw_below_drewN | apply below_drew1) | exact HB.out)))); have n2_ := Aside0.mk (below_step (by repeat (first | (with_reducible first | exact HB.out | apply below_alloc | apply pw_below_drewN | apply below_drew1) | exact HB.out)) hb); clear HB; have HO211 := n0_; have HO213 := n1_; have HB := n2_; clear n0_ n1_ n2_; (try clear hb); (try clear hb2); (try clear hk); (try clear hi); (try clear ho0); (try clear ho1); have hcv109 := Kd.C_string (P := Try.prog) (A := A2) (c := c2) Try.underlying37 Try.underlying5 Try.underlying9 (Kd.C_below HR2.out HB.out); have hcv109n := fun n_ => Kd.C_string (P := Try.prog) (A := A2) (c := c2) Try.underlying37 Try.underlying5 Try.underlying9 (Kd.C_drewN (Kd.C_below HR2.out HB.out) n_)) | (go_at_call 10; (with_reducible refine (lex_Lex.calls ((⟨#[34]⟩ : ByteArray) ++ (strOfNums l2)) t214 t215 _ A59.out).mono ?_); rintro e w110 ⟨v216, v218, rfl, ho0, ho1, hb⟩; (try clear A59); have n0_ := Aside0.mk (Kd.R_elder' (by (with_reducible repeat (first | apply Kd.R_alloc | apply Kd.R_drewN | apply Kd.R_drew)); exact HO211.out) (Kd.R_base ho0) hb); have n1_ := Aside0.mk (Kd.R_elder' (by (with_reducible repeat (first | apply Kd.R_alloc | apply Kd.R_drewN | apply Kd.R_drew)); exact HO213.out) (Kd.R_base ho1) hb); have n2_ := Aside0.mk (Kd.R_lower (Kd.R_new' ho0 (Kd.R_lt (by (with_reducible repeat (first | apply Kd.R_alloc | apply Kd.R_drewN | apply Kd.R_drew)); exact HO211.out))) (below_size (by repeat (first | (with_reducible first | exact HB.out | apply below_alloc | apply pw_below_drewN | apply below_drew1) | exact HB.out)))); have n3_ := Aside0.mk (Kd.R_lower (Kd.R_new' ho1 (Kd.R_lt (by (with_reducible repeat (first | apply Kd.R_alloc | apply Kd.R_drewN | apply Kd.R_drew)); exact HO213.out))) (below_size (by repeat (first | (with_reducible first | exact HB.out | apply below_alloc | apply pw_below_drewN | apply below_drew1) | exact HB.out)))); have n4_ := Aside0.mk (below_step (by repeat (first | (with_reducible first | exact HB.out | apply below_alloc | apply pw_below_drewN | apply below_drew1) | exact HB.out)) hb); clear HO211; clear HO213; clear HB; have HO211 := n0_; have HO213 := n1_; have HO217 := n2_; have HO219 := n3_; have HB := n4_; clear n0_ n1_ n2_ n3_ n4_; (try clear hb); (try clear hb2); (try clear hk); (try clear hi); (try clear ho0); (try clear ho1); obtain ⟨Ao111, co111, eo111⟩ := Kd.R_slice HO211.out; subst eo111; have p220 : 0 ≤ (0 : Int) := (by omega); have q220 : 0 < (t208.length : Int) := of_decide_eq_true (by first | (with_reducible assumption) | assumption); obtain ⟨ad220, e220, hx220_0, hx220_1, hx220_2⟩ := at_T35 (Kd.R_reads' HO211.out).2.2 0 p220 q220; cases e220; have qi220 : (0 < t208.length) = True := eq_true (by omega); (try rw [show ((0 : Int)).toNat = 0 from rfl] at hx220_0); (try rw [show 0 * 3 = 0 from rfl] at hx220_0); (try rw [Addr.add_zero'] at hx220_0); (try rw [show ((0 : Int)).toNat = 0 from rfl] at hx220_1); (try rw [show 0 * 3 = 0 from rfl] at hx220_1); (try rw [Addr.add_zero'] at hx220_1); (try rw [show ((0 : Int)).toNat = 0 from rfl] at hx220_2); (try rw [show 0 * 3 = 0 from rfl] at hx220_2); (try rw [Addr.add_zero'] at hx220_2); replace p220 := eq_true p220; replace q220 := eq_true q220))
                                    repeat (go_quiet (first | (go_at_call 10; (with_reducible refine (lex_Lex.calls (((⟨#[34]⟩ : ByteArray) ++ (strOfNums l2)) ++ (⟨#[34]⟩ : ByteArray)) t208 t209 _ A58.out).mono ?_); rintro e w108 ⟨v210, v212, rfl, ho0, ho1, hb⟩; (try clear A58); have n0_ := Aside0.mk (Kd.R_lower ho0 (below_size (by repeat (first | (with_reducible first | exact HB.out | apply below_alloc | apply pw_below_drewN | apply below_drew1) | exact HB.out)))); have n1_ := Aside0.mk (Kd.R_lower ho1 (below_size (by repeat (first | (with_reducible first | exact HB.out | apply below_alloc | apply pw_below_drewN | apply below_drew1) | exact HB.out)))); have n2_ := Aside0.mk (below_step (by repeat (first | (with_reducible first | exact HB.out | apply below_alloc | apply pw_below_drewN | apply below_drew1) | exact HB.out)) hb); clear HB; have HO211 := n0_; have HO213 := n1_; have HB := n2_; clear n0_ n1_ n2_; (try clear hb); (try clear hb2); (try clear hk); (try clear hi); (try clear ho0); (try clear ho1); have hcv109 := Kd.C_string (P := Try.prog) (A := A2) (c := c2) Try.underlying37 Try.underlying5 Try.underlying9 (Kd.C_below HR2.out HB.out); have hcv109n := fun n_ => Kd.C_string (P := Try.prog) (A := A2) (c := c2) Try.underlying37 Try.underlying5 Try.underlying9 (Kd.C_drewN (Kd.C_below HR2.out HB.out) n_)) | (go_at_call 10; (with_reducible refine (lex_Lex.calls ((⟨#[34]⟩ : ByteArray) ++ (strOfNums l2)) t214 t215 _ A59.out).mono ?_); rintro e w110 ⟨v216, v218, rfl, ho0, ho1, hb⟩; (try clear A59); have n0_ := Aside0.mk (Kd.R_elder' (by (with_reducible repeat (first | apply Kd.R_alloc | apply Kd.R_drewN | apply Kd.R_drew)); exact HO211.out) (Kd.R_base ho0) hb); have n1_ := Aside0.mk (Kd.R_elder' (by (with_reducible repeat (first | apply Kd.R_alloc | apply Kd.R_drewN | apply Kd.R_drew)); exact HO213.out) (Kd.R_base ho1) hb); have n2_ := Aside0.mk (Kd.R_lower (Kd.R_new' ho0 (Kd.R_lt (by (with_reducible repeat (first | apply Kd.R_alloc | apply Kd.R_drewN | apply Kd.R_drew)); exact HO211.out))) (below_size (by repeat (first | (with_reducible first | exact HB.out | apply below_alloc | apply pw_below_drewN | apply below_drew1) | exact HB.out)))); have n3_ := Aside0.mk (Kd.R_lower (Kd.R_new' ho1 (Kd.R_lt (by (with_reducible repeat (first | apply Kd.R_alloc | apply Kd.R_drewN | apply Kd.R_drew)); exact HO213.out))) (below_size (by repeat (first | (with_reducible first | exact HB.out | apply below_alloc | apply pw_below_drewN | apply below_drew1) | exact HB.out)))); have n4_ := Aside0.mk (below_step (by repeat (first | (with_reducible first | exact HB.out | apply below_alloc | apply pw_below_drewN | apply below_drew1) | exact HB.out)) hb); clear HO211; clear HO213; clear HB; have HO211 := n0_; have HO213 := n1_; have HO217 := n2_; have HO219 := n3_; have HB := n4_; clear n0_ n1_ n2_ n3_ n4_; (try clear hb); (try clear hb2); (try clear hk); (try clear hi); (try clear ho0); (try clear ho1); obtain ⟨Ao111, co111, eo111⟩ := Kd.R_slice HO211.out; subst eo111; have p220 : 0 ≤ (0 : Int) := (by omega); have q220 : 0 < (t208.length : Int) := of_decide_eq_true (by first | (with_reducible assumption) | assumption); obtain ⟨ad220, e220, hx220_0, hx220_1, hx220_2⟩ := at_T35 (Kd.R_reads' HO211.out).2.2 0 p220 q220; cases e220; have qi220 : (0 < t208.length) = True := eq_true (by omega); (try rw [show ((0 : Int)).toNat = 0 from rfl] at hx220_0); (try rw [show 0 * 3 = 0 from rfl] at hx220_0); (try rw [Addr.add_zero'] at hx220_0); (try rw [show ((0 : Int)).toNat = 0 from rfl] at hx220_1); (try rw [show 0 * 3 = 0 from rfl] at hx220_1); (try rw [Addr.add_zero'] at hx220_1); (try rw [show ((0 : Int)).toNat = 0 from rfl] at hx220_2); (try rw [show 0 * 3 = 0 from rfl] at hx220_2); (try rw [Addr.add_zero'] at hx220_2); replace p220 := eq_true p220; replace q220 := eq_true q220)); try go_wp2_with (first | (go_at_call 10; (with_reducible refine (lex_Lex.calls (((⟨#[34]⟩ : ByteArray) ++ (strOfNums l2)) ++ (⟨#[34]⟩ : ByteArray)) t208 t209 _ A58.out).mono ?_); rintro e w108 ⟨v210, v212, rfl, ho0, ho1, hb⟩; (try clear A58); have n0_ := Aside0.mk (Kd.R_lower ho0 (below_size (by repeat (first | (with_reducible first | exact HB.out | apply below_alloc | apply pw_below_drewN | apply below_drew1) | exact HB.out)))); have n1_ := Aside0.mk (Kd.R_lower ho1 (below_size (by repeat (first | (with_reducible first | exact HB.out | apply below_alloc | apply pw_below_drewN | apply below_drew1) | exact HB.out)))); have n2_ := Aside0.mk (below_step (by repeat (first | (with_reducible first | exact HB.out | apply below_alloc | apply pw_below_drewN | apply below_drew1) | exact HB.out)) hb); clear HB; have HO211 := n0_; have HO213 := n1_; have HB := n2_; clear n0_ n1_ n2_; (try clear hb); (try clear hb2); (try clear hk); (try clear hi); (try clear ho0); (try clear ho1); have hcv109 := Kd.C_string (P := Try.prog) (A := A2) (c := c2) Try.underlying37 Try.underlying5 Try.underlying9 (Kd.C_below HR2.out HB.out); have hcv109n := fun n_ => Kd.C_string (P := Try.prog) (A := A2) (c := c2) Try.underlying37 Try.underlying5 Try.underlying9 (Kd.C_drewN (Kd.C_below HR2.out HB.out) n_)) | (go_at_call 10; (with_reducible refine (lex_Lex.calls ((⟨#[34]⟩ : ByteArray) ++ (strOfNums l2)) t214 t215 _ A59.out).mono ?_); rintro e w110 ⟨v216, v218, rfl, ho0, ho1, hb⟩; (try clear A59); have n0_ := Aside0.mk (Kd.R_elder' (by (with_reducible repeat (first | apply Kd.R_alloc | apply Kd.R_drewN | apply Kd.R_drew)); exact HO211.out) (Kd.R_base ho0) hb); have n1_ := Aside0.mk (Kd.R_elder' (by (with_reducible repeat (first | apply Kd.R_alloc | apply Kd.R_drewN | apply Kd.R_drew)); exact HO213.out) (Kd.R_base ho1) hb); have n2_ := Aside0.mk (Kd.R_lower (Kd.R_new' ho0 (Kd.R_lt (by (with_reducible repeat (first | apply Kd.R_alloc | apply Kd.R_drewN | apply Kd.R_drew)); exact HO211.out))) (below_size (by repeat (first | (with_reducible first | exact HB.out | apply below_alloc | apply pw_below_drewN | apply below_drew1) | exact HB.out)))); have n3_ := Aside0.mk (Kd.R_lower (Kd.R_new' ho1 (Kd.R_lt (by (with_reducible repeat (first | apply Kd.R_alloc | apply Kd.R_drewN | apply Kd.R_drew)); exact HO213.out))) (below_size (by repeat (first | (with_reducible first | exact HB.out | apply below_alloc | apply pw_below_drewN | apply below_drew1) | exact HB.out)))); have n4_ := Aside0.mk (below_step (by repeat (first | (with_reducible first | exact HB.out | apply below_alloc | apply pw_below_drewN | apply below_drew1) | exact HB.out)) hb); clear HO211; clear HO213; clear HB; have HO211 := n0_; have HO213 := n1_; have HO217 := n2_; have HO219 := n3_; have HB := n4_; clear n0_ n1_ n2_ n3_ n4_; (try clear hb); (try clear hb2); (try clear hk); (try clear hi); (try clear ho0); (try clear ho1); obtain ⟨Ao111, co111, eo111⟩ := Kd.R_slice HO211.out; subst eo111; have p220 : 0 ≤ (0 : Int) := (by omega); have q220 : 0 < (t208.length : Int) := of_decide_eq_true (by first | (with_reducible assumption) | assumption); obtain ⟨ad220, e220, hx220_0, hx220_1, hx220_2⟩ := at_T35 (Kd.R_reads' HO211.out).2.2 0 p220 q220; cases e220; have qi220 : (0 < t208.length) = True := eq_true (by omega); (try rw [show ((0 : Int)).toNat = 0 from rfl] at hx220_0); (try rw [show 0 * 3 = 0 from rfl] at hx220_0); (try rw [Addr.add_zero'] at hx220_0); (try rw [show ((0 : Int)).toNat = 0 from rfl] at hx220_1); (try rw [show 0 * 3 = 0 from rfl] at hx220_1); (try rw [Addr.add_zero'] at hx220_1); (try rw [show ((0 : Int)).toNat = 0 from rfl] at hx220_2); (try rw [show 0 * 3 = 0 from rfl] at hx220_2); (try rw [Addr.add_zero'] at hx220_2); replace p220 := eq_true p220; replace q220 := eq_true q220)))
                                    go_ret
                                    exact ⟨by first | rfl | (simp [errW_none, errW_some] <;> rfl) | (simp [*, errW_none, errW_some] <;> rfl), by repeat (first | (with_reducible first | exact HB.out | apply below_alloc | apply pw_below_drewN | apply below_drew1) | exact HB.out)⟩
                                · rw [if_neg c61] at H
                                  exact absurd H (by simp)
                              · rw [if_neg c60] at H
                                have c60b0 : ((t208.length : Int) == 2) = false := beq_eq_false_iff_ne.mpr c60
                                have c60b1 : ((t208.length : Int) != 2) = true := bne_iff_ne.mpr c60
                                obtain rfl := Option.some.inj H
                                have hcv112 := Kd.C_string (P := Try.prog) (A := A2) (c := c2) Try.underlying37 Try.underlying5 Try.underlying9 (Kd.C_below HR2.out HB.out); have hcv112n := fun n_ => Kd.C_string (P := Try.prog) (A := A2) (c := c2) Try.underlying37 Try.underlying5 Try.underlying9 (Kd.C_drewN (Kd.C_below HR2.out HB.out) n_)
                                go_wp2_with (first | (go_at_call 10; (with_reducible refine (lex_Lex.calls (((⟨#[34]⟩ : ByteArray) ++ (strOfNums l2)) ++ (⟨#[34]⟩ : ByteArray)) t208 t209 _ A58.out).mono ?_); rintro e w113 ⟨v210, v212, rfl, ho0, ho1, hb⟩; (try clear A58); have n0_ := Aside0.mk (Kd.R_lower ho0 (below_size (by repeat (first | (with_reducible first | exact HB.out | apply below_alloc | apply pw_below_drewN | apply below_drew1) | exact HB.out)))); have n1_ := Aside0.mk (Kd.R_lower ho1 (below_size (by repeat (first | (with_reducible first | exact HB.out | apply below_alloc | apply pw_below_drewN | apply below_drew1) | exact HB.out)))); have n2_ := Aside0.mk (below_step (by repeat (first | (with_reducible first | exact HB.out | apply below_alloc | apply pw_below_drewN | apply below_drew1) | exact HB.out)) hb); clear HB; have HO211 := n0_; have HO213 := n1_; have HB := n2_; clear n0_ n1_ n2_; (try clear hb); (try clear hb2); (try clear hk); (try clear hi); (try clear ho0); (try clear ho1); have hcv114 := Kd.C_string (P := Try.prog) (A := A2) (c := c2) Try.underlying37 Try.underlying5 Try.underlying9 (Kd.C_below HR2.out HB.out); have hcv114n := fun n_ => Kd.C_string (P := Try.prog) (A := A2) (c := c2) Try.underlying37 Try.underlying5 Try.underlying9 (Kd.C_drewN (Kd.C_below HR2.out HB.out) n_)) | (go_at_call 10; (with_reducible refine (lex_Lex.calls ((⟨#[34]⟩ : ByteArray) ++ (strOfNums l2)) t214 t215 _ A59.out).mono ?_); rintro e w115 ⟨v216, v218, rfl, ho0, ho1, hb⟩; (try clear A59); have n0_ := Aside0.mk (Kd.R_elder' (by (with_reducible repeat (first | apply Kd.R_alloc | apply Kd.R_drewN | apply Kd.R_drew)); exact HO211.out) (Kd.R_base ho0) hb); have n1_ := Aside0.mk (Kd.R_elder' (by (with_reducible repeat (first | apply Kd.R_alloc | apply Kd.R_drewN | apply Kd.R_drew)); exact HO213.out) (Kd.R_base ho1) hb); have n2_ := Aside0.mk (Kd.R_lower (Kd.R_new' ho0 (Kd.R_lt (by (with_reducible repeat (first | apply Kd.R_alloc | apply Kd.R_drewN | apply Kd.R_drew)); exact HO211.out))) (below_size (by repeat (first | (with_reducible first | exact HB.out | apply below_alloc | apply pw_below_drewN | apply below_drew1) | exact HB.out)))); have n3_ := Aside0.mk (Kd.R_lower (Kd.R_new' ho1 (Kd.R_lt (by (with_reducible repeat (first | apply Kd.R_alloc | apply Kd.R_drewN | apply Kd.R_drew)); exact HO213.out))) (below_size (by repeat (first | (with_reducible first | exact HB.out | apply below_alloc | apply pw_below_drewN | apply below_drew1) | exact HB.out)))); have n4_ := Aside0.mk (below_step (by repeat (first | (with_reducible first | exact HB.out | apply below_alloc | apply pw_below_drewN | apply below_drew1) | exact HB.out)) hb); clear HO211; clear HO213; clear HB; have HO211 := n0_; have HO213 := n1_; have HO217 := n2_; have HO219 := n3_; have HB := n4_; clear n0_ n1_ n2_ n3_ n4_; (try clear hb); (try clear hb2); (try clear hk); (try clear hi); (try clear ho0); (try clear ho1); obtain ⟨Ao116, co116, eo116⟩ := Kd.R_slice HO211.out; subst eo116))
                                repeat (go_quiet (first | (go_at_call 10; (with_reducible refine (lex_Lex.calls (((⟨#[34]⟩ : ByteArray) ++ (strOfNums l2)) ++ (⟨#[34]⟩ : ByteArray)) t208 t209 _ A58.out).mono ?_); rintro e w113 ⟨v210, v212, rfl, ho0, ho1, hb⟩; (try clear A58); have n0_ := Aside0.mk (Kd.R_lower ho0 (below_size (by repeat (first | (with_reducible first | exact HB.out | apply below_alloc | apply pw_below_drewN | apply below_drew1) | exact HB.out)))); have n1_ := Aside0.mk (Kd.R_lower ho1 (below_size (by repeat (first | (with_reducible first | exact HB.out | apply below_alloc | apply pw_below_drewN | apply below_drew1) | exact HB.out)))); have n2_ := Aside0.mk (below_step (by repeat (first | (with_reducible first | exact HB.out | apply below_alloc | apply pw_below_drewN | apply below_drew1) | exact HB.out)) hb); clear HB; have HO211 := n0_; have HO213 := n1_; have HB := n2_; clear n0_ n1_ n2_; (try clear hb); (try clear hb2); (try clear hk); (try clear hi); (try clear ho0); (try clear ho1); have hcv114 := Kd.C_string (P := Try.prog) (A := A2) (c := c2) Try.underlying37 Try.underlying5 Try.underlying9 (Kd.C_below HR2.out HB.out); have hcv114n := fun n_ => Kd.C_string (P := Try.prog) (A := A2) (c := c2) Try.underlying37 Try.underlying5 Try.underlying9 (Kd.C_drewN (Kd.C_below HR2.out HB.out) n_)) | (go_at_call 10; (with_reducible refine (lex_Lex.calls ((⟨#[34]⟩ : ByteArray) ++ (strOfNums l2)) t214 t215 _ A59.out).mono ?_); rintro e w115 ⟨v216, v218, rfl, ho0, ho1, hb⟩; (try clear A59); have n0_ := Aside0.mk (Kd.R_elder' (by (with_reducible repeat (first | apply Kd.R_alloc | apply Kd.R_drewN | apply Kd.R_drew)); exact HO211.out) (Kd.R_base ho0) hb); have n1_ := Aside0.mk (Kd.R_elder' (by (with_reducible repeat (first | apply Kd.R_alloc | apply Kd.R_drewN | apply Kd.R_drew)); exact HO213.out) (Kd.R_base ho1) hb); have n2_ := Aside0.mk (Kd.R_lower (Kd.R_new' ho0 (Kd.R_lt (by (with_reducible repeat (first | apply Kd.R_alloc | apply Kd.R_drewN | apply Kd.R_drew)); exact HO211.out))) (below_size (by repeat (first | (with_reducible first | exact HB.out | apply below_alloc | apply pw_below_drewN | apply below_drew1) | exact HB.out)))); have n3_ := Aside0.mk (Kd.R_lower (Kd.R_new' ho1 (Kd.R_lt (by (with_reducible repeat (first | apply Kd.R_alloc | apply Kd.R_drewN | apply Kd.R_drew)); exact HO213.out))) (below_size (by repeat (first | (with_reducible first | exact HB.out | apply below_alloc | apply pw_below_drewN | apply below_drew1) | exact HB.out)))); have n4_ := Aside0.mk (below_step (by repeat (first | (with_reducible first | exact HB.out | apply below_alloc | apply pw_below_drewN | apply below_drew1) | exact HB.out)) hb); clear HO211; clear HO213; clear HB; have HO211 := n0_; have HO213 := n1_; have HO217 := n2_; have HO219 := n3_; have HB := n4_; clear n0_ n1_ n2_ n3_ n4_; (try clear hb); (try clear hb2); (try clear hk); (try clear hi); (try clear ho0); (try clear ho1); obtain ⟨Ao116, co116, eo116⟩ := Kd.R_slice HO211.out; subst eo116)); try go_wp2_with (first | (go_at_call 10; (with_reducible refine (lex_Lex.calls (((⟨#[34]⟩ : ByteArray) ++ (strOfNums l2)) ++ (⟨#[34]⟩ : ByteArray)) t208 t209 _ A58.out).mono ?_); rintro e w113 ⟨v210, v212, rfl, ho0, ho1, hb⟩; (try clear A58); have n0_ := Aside0.mk (Kd.R_lower ho0 (below_size (by repeat (first | (with_reducible first | exact HB.out | apply below_alloc | apply pw_below_drewN | apply below_drew1) | exact HB.out)))); have n1_ := Aside0.mk (Kd.R_lower ho1 (below_size (by repeat (first | (with_reducible first | exact HB.out | apply below_alloc | apply pw_below_drewN | apply below_drew1) | exact HB.out)))); have n2_ := Aside0.mk (below_step (by repeat (first | (with_reducible first | exact HB.out | apply below_alloc | apply pw_below_drewN | apply below_drew1) | exact HB.out)) hb); clear HB; have HO211 := n0_; have HO213 := n1_; have HB := n2_; clear n0_ n1_ n2_; (try clear hb); (try clear hb2); (try clear hk); (try clear hi); (try clear ho0); (try clear ho1); have hcv114 := Kd.C_string (P := Try.prog) (A := A2) (c := c2) Try.underlying37 Try.underlying5 Try.underlying9 (Kd.C_below HR2.out HB.out); have hcv114n := fun n_ => Kd.C_string (P := Try.prog) (A := A2) (c := c2) Try.underlying37 Try.underlying5 Try.underlying9 (Kd.C_drewN (Kd.C_below HR2.out HB.out) n_)) | (go_at_call 10; (with_reducible refine (lex_Lex.calls ((⟨#[34]⟩ : ByteArray) ++ (strOfNums l2)) t214 t215 _ A59.out).mono ?_); rintro e w115 ⟨v216, v218, rfl, ho0, ho1, hb⟩; (try clear A59); have n0_ := Aside0.mk (Kd.R_elder' (by (with_reducible repeat (first | apply Kd.R_alloc | apply Kd.R_drewN | apply Kd.R_drew)); exact HO211.out) (Kd.R_base ho0) hb); have n1_ := Aside0.mk (Kd.R_elder' (by (with_reducible repeat (first | apply Kd.R_alloc | apply Kd.R_drewN | apply Kd.R_drew)); exact HO213.out) (Kd.R_base ho1) hb); have n2_ := Aside0.mk (Kd.R_lower (Kd.R_new' ho0 (Kd.R_lt (by (with_reducible repeat (first | apply Kd.R_alloc | apply Kd.R_drewN | apply Kd.R_drew)); exact HO211.out))) (below_size (by repeat (first | (with_reducible first | exact HB.out | apply below_alloc | apply pw_below_drewN | apply below_drew1) | exact HB.out)))); have n3_ := Aside0.mk (Kd.R_lower (Kd.R_new' ho1 (Kd.R_lt (by (with_reducible repeat (first | apply Kd.R_alloc | apply Kd.R_drewN | apply Kd.R_drew)); exact HO213.out))) (below_size (by repeat (first | (with_reducible first | exact HB.out | apply below_alloc | apply pw_below_drewN | apply below_drew1) | exact HB.out)))); have n4_ := Aside0.mk (below_step (by repeat (first | (with_reducible first | exact HB.out | apply below_alloc | apply pw_below_drewN | apply below_drew1) | exact HB.out)) hb); clear HO211; clear HO213; clear HB; have HO211 := n0_; have HO213 := n1_; have HO217 := n2_; have HO219 := n3_; have HB := n4_; clear n0_ n1_ n2_ n3_ n4_; (try clear hb); (try clear hb2); (try clear hk); (try clear hi); (try clear ho0); (try clear ho1); obtain ⟨Ao116, co116, eo116⟩ := Kd.R_slice HO211.out; subst eo116)))
                                go_ret
                                exact ⟨by first | rfl | (simp [errW_none, errW_some] <;> rfl) | (simp [*, errW_none, errW_some] <;> rfl), by repeat (first | (with_reducible first | exact HB.out | apply below_alloc | apply pw_below_drewN | apply below_drew1) | exact HB.out)⟩
                            · rw [if_neg c57] at H
                              exact absurd H (by simp)
                          · rw [if_neg c56] at H
                            exact absurd H (by simp)
                        · replace c55 := Bool.eq_false_iff.mpr c55
                          subst c55
                          have H1 : (some true) = some r := by rw [if_neg (show ¬ (false = true) by decide)] at H; exact H
                          clear H
                          have H := H1
                          clear H1
                          obtain rfl := Option.some.inj H
                          go_wp2
                          repeat (go_quiet (fail); try go_wp2)
                          go_ret
                          exact ⟨by first | rfl | (simp [errW_none, errW_some] <;> rfl) | (simp [*, errW_none, errW_some] <;> rfl), by repeat (first | (with_reducible first | exact HB.out | apply below_alloc | apply pw_below_drewN | apply below_drew1) | exact HB.out)⟩
  · replace c5 := Bool.eq_false_iff.mpr c5
    subst c5
    have H1 : (some false) = some r := by rw [if_neg (show ¬ (false = true) by decide)] at H; exact H
    clear H
    have H := H1
    clear H1
    obtain rfl := Option.some.inj H
    go_enter Try.func4, Try.ntmps4
    go_wp2_with (first | (go_at_call 9; (with_reducible refine (cupellaw04_alive.calls  false _ A4.out).mono ?_); rintro e w117 ⟨rfl, hb⟩; (try clear A4); have n0_ := Aside0.mk (below_step (by repeat (first | (with_reducible first | exact HB.out | apply below_alloc | apply pw_below_drewN | apply below_drew1) | exact HB.out)) hb); clear HB; have HB := n0_; clear n0_; (try clear hb); (try clear hb2); (try clear hk); (try clear hi)))
    repeat (go_quiet (first | (go_at_call 9; (with_reducible refine (cupellaw04_alive.calls  false _ A4.out).mono ?_); rintro e w117 ⟨rfl, hb⟩; (try clear A4); have n0_ := Aside0.mk (below_step (by repeat (first | (with_reducible first | exact HB.out | apply below_alloc | apply pw_below_drewN | apply below_drew1) | exact HB.out)) hb); clear HB; have HB := n0_; clear n0_; (try clear hb); (try clear hb2); (try clear hk); (try clear hi))); try go_wp2_with (first | (go_at_call 9; (with_reducible refine (cupellaw04_alive.calls  false _ A4.out).mono ?_); rintro e w117 ⟨rfl, hb⟩; (try clear A4); have n0_ := Aside0.mk (below_step (by repeat (first | (with_reducible first | exact HB.out | apply below_alloc | apply pw_below_drewN | apply below_drew1) | exact HB.out)) hb); clear HB; have HB := n0_; clear n0_; (try clear hb); (try clear hb2); (try clear hk); (try clear hi))))
    go_ret
    exact ⟨by first | rfl | (simp [errW_none, errW_some] <;> rfl) | (simp [*, errW_none, errW_some] <;> rfl), by repeat (first | (with_reducible first | exact HB.out | apply below_alloc | apply pw_below_drewN | apply below_drew1) | exact HB.out)⟩

/-- THE ONE PURE STATEMENT of cupellaw04_LexNumbers: yours. -/
def cupellaw04_LexNumbers.Pure : Prop := ∀ (a0 : Int) (a1 : Int) (l2 : List Int), (Lit.int .u8 a0).wf = true → (Lit.int .u8 a1).wf = true → l2.length ≤ maxLen → l2.length * 1 ≤ 140737488351232 → (∀ x ∈ l2, (Lit.int .u8 x).wf = true) → ∃ k, cupellaw04_LexNumbers.f k a0 a1 l2 = some true
theorem cupellaw04_LexNumbers.walk (P : cupellaw04_LexNumbers.Pure) (a0 : Int) (a1 : Int) (a2 : Option Addr) (len2 cap2 : Nat) (z2 : List Int) (w : World) (w0 : (Lit.int .u8 a0).wf = true) (w1 : (Lit.int .u8 a1).wf = true) (w2 : (a2 = none ∧ len2 = 0 ∧ cap2 = 0 ∧ z2 = []) ∨ ∃ x, a2 = some x ∧ len2 ≤ cap2 ∧ cap2 ≤ maxLen ∧ z2.length = cap2 ∧ (∀ i, i < z2.length → w.cell? (x.add i) = some (.int .u8 (z2.getD i 0))) ∧ ∀ n ∈ z2, (Lit.int .u8 n).wf = true) (y2 : len2 * 1 ≤ 140737488351232) :
    Calls Try.prog 4 #[.int .u8 a0, .int .u8 a1, .slice a2 len2 cap2] w fun e w' => e = .returned (.bool true) ∧ Below w.heap.size w w' := by
  obtain ⟨l2, rfl, hr2, hm2, hw2, hc2⟩ := ReadsInt.ofRowC w2
  obtain ⟨k, h⟩ := P a0 a1 l2 w0 w1 hm2 y2 hw2
  refine (cupellaw04_LexNumbers.calls k a0 a1 _ _ l2 true w (Kd.C_of_reads (d := (0 : Int)) (h1 := fun _ => rfl) hr2) hc2 h).mono ?_
  rintro e w' ⟨rfl, hd⟩
  exact ⟨rfl, hd⟩

end Go.Proofs.Ytmbbebdpmffihaa.PA
