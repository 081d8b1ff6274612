-- Written by a program of this session (wip/xprint.py over the kit's printer). Lean checks it.
import Derived.Test.YtonhfcjldbohbaaPAx0
import Derived.Laws.Cover1
namespace Go.Proofs.Ytonhfcjldbohbaa.PA
open Go.RowKit Go.Proofs.YtonhfcjldbohbaaW.PrintWords Go.Proofs.YtonhfcjldbohbaaW.PrintLast Go.Proofs.YtonhfcjldbohbaaW.PrintMore
attribute [local go_sem] max2_int min2_int max_two min_two max_three min_three max_four min_four   -- for this text's walks alone
set_option linter.unusedVariables false
set_option linter.unusedSimpArgs false

/-! ### cupelref13_set: function 30 -/
mutual
def cupelref13_set.l0 : Nat → List (S55) → Bool → Int → Int → Int → List (S55) → ByteArray → ByteArray → Int → Int → Bool → Option (Int × Int × (List (S55)))
  | 0, _, _, _, _, _, _, _, _, _, _, _ => none
  | k + 1, x5, x6, x7, x303000, x303001, x303002, x304000, x304001, x304002, x304003, x304004 => if x7 < (x303002.length : Int) then (if x6 = true then (cupelref13_set.j1 k x5 x6 x7 false x303000 x303001 x303002 x304000 x304001 x304002 x304003 x304004) else (if 0 ≤ x7 then (cupelref13_set.j1 k x5 x6 x7 (!(Op.bytesLess (((rd_T55 x303002 x7).f0).toList) x304000.toList)) x303000 x303001 x303002 x304000 x304001 x304002 x304003 x304004) else (none))) else (if x6 = true then (some (x303000, x303001, x5)) else (if x5.length < 2513169434916 then (some (x303000, x303001, (x5 ++ [(⟨x304000, x304001, x304002, x304003, x304004⟩ : S55)]))) else (none)))
def cupelref13_set.j1 : Nat → List (S55) → Bool → Int → Bool → Int → Int → List (S55) → ByteArray → ByteArray → Int → Int → Bool → Option (Int × Int × (List (S55)))
  | 0, _, _, _, _, _, _, _, _, _, _, _, _ => none
  | k + 1, x5, x6, x7, x27, x303000, x303001, x303002, x304000, x304001, x304002, x304003, x304004 => if x27 = true then (if x5.length < 2513169434916 then ((some (x5 ++ [(⟨x304000, x304001, x304002, x304003, x304004⟩ : S55)] : List (S55))).bind fun y309 => (if 0 ≤ x7 then (if x7 < (x303002.length : Int) then (if ((rd_T55 x303002 x7).f0).toList = x304000.toList then (cupelref13_set.l0 k y309 true (wrap64 (x7 + 1)) x303000 x303001 x303002 x304000 x304001 x304002 x304003 x304004) else (if y309.length < 2513169434916 then (cupelref13_set.l0 k (y309 ++ [(⟨(rd_T55 x303002 x7).f0, (rd_T55 x303002 x7).f1, (rd_T55 x303002 x7).f2, (rd_T55 x303002 x7).f3, (rd_T55 x303002 x7).f4⟩ : S55)]) true (wrap64 (x7 + 1)) x303000 x303001 x303002 x304000 x304001 x304002 x304003 x304004) else (none))) else (none)) else (none))) else (none)) else (if 0 ≤ x7 then (if x7 < (x303002.length : Int) then (if ((rd_T55 x303002 x7).f0).toList = x304000.toList then (cupelref13_set.l0 k x5 x6 (wrap64 (x7 + 1)) x303000 x303001 x303002 x304000 x304001 x304002 x304003 x304004) else (if x5.length < 2513169434916 then (cupelref13_set.l0 k (x5 ++ [(⟨(rd_T55 x303002 x7).f0, (rd_T55 x303002 x7).f1, (rd_T55 x303002 x7).f2, (rd_T55 x303002 x7).f3, (rd_T55 x303002 x7).f4⟩ : S55)]) x6 (wrap64 (x7 + 1)) x303000 x303001 x303002 x304000 x304001 x304002 x304003 x304004) else (none))) else (none)) else (none))
end
def cupelref13_set.f (k : Nat) (a0_0 : Int) (a0_1 : Int) (l0_2 : List (S55)) (a1_0 : ByteArray) (a1_1 : ByteArray) (a1_2 : Int) (a1_3 : Int) (a1_4 : Bool) : Option (Int × Int × (List (S55))) := cupelref13_set.l0 k ([] : List (S55)) false 0 a0_0 a0_1 l0_2 a1_0 a1_1 a1_2 a1_3 a1_4
theorem cupelref13_set.mono_l : ∀ k, (∀ y0 y1 y2 y3 y4 y5 y6 y7 y8 y9 y10, LeO (cupelref13_set.l0 k y0 y1 y2 y3 y4 y5 y6 y7 y8 y9 y10) (cupelref13_set.l0 (k + 1) y0 y1 y2 y3 y4 y5 y6 y7 y8 y9 y10)) ∧ (∀ y0 y1 y2 y3 y4 y5 y6 y7 y8 y9 y10 y11, LeO (cupelref13_set.j1 k y0 y1 y2 y3 y4 y5 y6 y7 y8 y9 y10 y11) (cupelref13_set.j1 (k + 1) y0 y1 y2 y3 y4 y5 y6 y7 y8 y9 y10 y11))
  | 0 => ⟨fun _ _ _ _ _ _ _ _ _ _ _ r h => by simp [cupelref13_set.l0] at h, fun _ _ _ _ _ _ _ _ _ _ _ _ r h => by simp [cupelref13_set.j1] at h⟩
  | k + 1 => by
    obtain ⟨ih0, ih1⟩ := cupelref13_set.mono_l k
    refine ⟨?_, ?_⟩
    · intro y0 y1 y2 y3 y4 y5 y6 y7 y8 y9 y10
      unfold cupelref13_set.l0
      repeat' first
      | (with_reducible exact ih0 _ _ _ _ _ _ _ _ _ _ _)
      | (with_reducible exact ih1 _ _ _ _ _ _ _ _ _ _ _ _)
      | (with_reducible exact LeO.refl _)
      | (with_reducible exact LeO.none _)
      | (with_reducible refine LeO.ite ?_ ?_)
      | (with_reducible refine LeO.bind ?_ (fun _ => ?_))
      | exact ih0 _ _ _ _ _ _ _ _ _ _ _
      | exact ih1 _ _ _ _ _ _ _ _ _ _ _ _
      | exact LeO.none _
      | refine LeO.ite ?_ ?_
      | refine LeO.bind ?_ (fun _ => ?_)
    · intro y0 y1 y2 y3 y4 y5 y6 y7 y8 y9 y10 y11
      unfold cupelref13_set.j1
      repeat' first
      | (with_reducible exact ih0 _ _ _ _ _ _ _ _ _ _ _)
      | (with_reducible exact ih1 _ _ _ _ _ _ _ _ _ _ _ _)
      | (with_reducible exact LeO.refl _)
      | (with_reducible exact LeO.none _)
      | (with_reducible refine LeO.ite ?_ ?_)
      | (with_reducible refine LeO.bind ?_ (fun _ => ?_))
      | exact ih0 _ _ _ _ _ _ _ _ _ _ _
      | exact ih1 _ _ _ _ _ _ _ _ _ _ _ _
      | exact LeO.none _
      | refine LeO.ite ?_ ?_
      | refine LeO.bind ?_ (fun _ => ?_)
theorem cupelref13_set.mono : ∀ a0 a1 a2 a3 a4 a5 a6 a7 k, LeO (cupelref13_set.f k a0 a1 a2 a3 a4 a5 a6 a7) (cupelref13_set.f (k + 1) a0 a1 a2 a3 a4 a5 a6 a7) := by
  intro a0 a1 a2 a3 a4 a5 a6 a7 k
  obtain ⟨ih0, ih1⟩ := cupelref13_set.mono_l k
  unfold cupelref13_set.f
  repeat' first
      | (with_reducible exact ih0 _ _ _ _ _ _ _ _ _ _ _)
      | (with_reducible exact ih1 _ _ _ _ _ _ _ _ _ _ _ _)
      | (with_reducible exact LeO.refl _)
      | (with_reducible exact LeO.none _)
      | (with_reducible refine LeO.ite ?_ ?_)
      | (with_reducible refine LeO.bind ?_ (fun _ => ?_))
      | exact ih0 _ _ _ _ _ _ _ _ _ _ _
      | exact ih1 _ _ _ _ _ _ _ _ _ _ _ _
      | exact LeO.none _
      | refine LeO.ite ?_ ?_
      | refine LeO.bind ?_ (fun _ => ?_)
set_option maxHeartbeats 8000000 in
set_option maxRecDepth 100000 in
theorem cupelref13_set.calls (k : Nat) (a0_0 : Int) (a0_1 : Int) (A0_2 : Option Addr) (c0_2 : Nat) (l0_2 : List (S55)) (a1_0 : ByteArray) (a1_1 : ByteArray) (a1_2 : Int) (a1_3 : Int) (a1_4 : Bool) (r1 : Int) (r2 : Int) (r3 : List (S55)) (w : World) (hr0_2 : Kd.C k55 w A0_2 l0_2.length l0_2) (hc0_2 : l0_2.length ≤ c0_2) (h : cupelref13_set.f k a0_0 a0_1 l0_2 a1_0 a1_1 a1_2 a1_3 a1_4 = some (r1, r2, r3)) :
    Calls Try.prog 30 #[.agg #[.int .i64 a0_0, .int .i64 a0_1, .slice A0_2 l0_2.length c0_2], .agg #[.string a1_0, .string a1_1, .int .i64 a1_2, .int .i64 a1_3, .bool a1_4]] w fun e w' => ∃ v2_ : Value, e = .returned (.agg #[.int .i64 r1, .int .i64 r2, v2_]) ∧ Kd.R k55 55 w' w.heap.size (fun _ => True) v2_ r3 ∧ Below w.heap.size w w' := by
  have hu49 := Try.underlying49
  have hu55 := Try.underlying55
  have HR0_2 := Aside0.mk hr0_2
  have HC0_2 := Aside0.mk hc0_2
  clear hr0_2 hc0_2
  have HB := Aside0.mk (Below.refl w.heap.size w)
  have H : (cupelref13_set.l0 k ([] : List (S55)) false 0 a0_0 a0_1 l0_2 a1_0 a1_1 a1_2 a1_3 a1_4) = some (r1, r2, r3) := h
  clear h
  have H' := Aside0.mk H
  clear H
  go_enter Try.func30, Try.ntmps30
  go_wp2_with (first | ((with_reducible refine gate_dst (N := 2) rfl ?_); refine box_event ?hg (N := 2) ?hd (cs := #[.int .i64 a0_0, .int .i64 a0_1, .slice A0_2 l0_2.length c0_2]) (t := 49) ?hr ?_; (case hd => rfl); (case hg => rfl); (case hr => first | (go_simp; done) | (go_simp; rfl)); intro gb302 hg w3 hbox hb; have n0_ := Aside0.mk (below_step (by repeat (first | (with_reducible first | exact HB.out | apply below_alloc | apply pw_below_drewN | apply below_drew1) | exact HB.out)) hb); have n1_ := Aside0.mk (hbox); have n2_ := Aside0.mk ((by rw [hg]; exact (below_size (by repeat (first | (with_reducible first | exact HB.out | apply below_alloc | apply pw_below_drewN | apply below_drew1) | exact HB.out))) : w.heap.size ≤ gb302)); have n3_ := Aside0.mk ((by rw [hg]; exact (below_size (by repeat (first | (with_reducible first | exact HB.out | apply below_alloc | apply pw_below_drewN | apply below_drew1) | exact HB.out))) : w.heap.size ≤ gb302)); clear HB; have HB := n0_; have BK302 := n1_; have GW302 := n2_; have GE302 := n3_; clear n0_ n1_ n2_ n3_; clear hb hbox hg) | ((with_reducible refine gate_dst (N := 3) rfl ?_); refine box_event ?hg (N := 3) ?hd (cs := #[.string a1_0, .string a1_1, .int .i64 a1_2, .int .i64 a1_3, .bool a1_4]) (t := 55) ?hr ?_; (case hd => rfl); (case hg => rfl); (case hr => first | (go_simp; done) | (go_simp; rfl)); intro gb303 hg w4 hbox hb; have n0_ := Aside0.mk (blk_below (g := gb302) (o := .cells #[.int .i64 a0_0, .int .i64 a0_1, .slice A0_2 l0_2.length c0_2] 49 (0, 0)) (by (with_reducible repeat (first | refine blk_drewN ?_ _ | refine blk_drew ?_ | refine blk_alloc ?_ _)); exact BK302.out) hb); have n1_ := Aside0.mk (below_step (by repeat (first | (with_reducible first | exact HB.out | apply below_alloc | apply pw_below_drewN | apply below_drew1 | refine below_set ?_ GE302.out) | exact HB.out)) hb); have n2_ := Aside0.mk (hbox); have n3_ := Aside0.mk ((by rw [hg]; exact (below_size (by repeat (first | (with_reducible first | exact HB.out | apply below_alloc | apply pw_below_drewN | apply below_drew1 | refine below_set ?_ GE302.out) | exact HB.out))) : w.heap.size ≤ gb303)); have n4_ := Aside0.mk ((by rw [hg]; exact (below_size (by repeat (first | (with_reducible first | exact HB.out | apply below_alloc | apply pw_below_drewN | apply below_drew1 | refine below_set ?_ GE302.out) | exact HB.out))) : w.heap.size ≤ gb303)); have n5_ := Aside0.mk ((by rw [hg]; exact Nat.ne_of_lt (blk_lt (g := gb302) (o := .cells #[.int .i64 a0_0, .int .i64 a0_1, .slice A0_2 l0_2.length c0_2] 49 (0, 0)) (by (with_reducible repeat (first | refine blk_drewN ?_ _ | refine blk_drew ?_ | refine blk_alloc ?_ _)); exact BK302.out)) : gb302 ≠ gb303)); have n6_ := Aside0.mk ((by rw [hg]; exact Nat.ne_of_gt (blk_lt (g := gb302) (o := .cells #[.int .i64 a0_0, .int .i64 a0_1, .slice A0_2 l0_2.length c0_2] 49 (0, 0)) (by (with_reducible repeat (first | refine blk_drewN ?_ _ | refine blk_drew ?_ | refine blk_alloc ?_ _)); exact BK302.out)) : gb303 ≠ gb302)); clear BK302; clear HB; have BK302 := n0_; have HB := n1_; have BK303 := n2_; have GW303 := n3_; have GE303 := n4_; have NB302_303 := n5_; have NB303_302 := n6_; clear n0_ n1_ n2_ n3_ n4_ n5_ n6_; clear hb hbox hg) | ((with_reducible refine gate_dst (N := 4) rfl ?_); refine box_event ?hg (N := 4) ?hd (cs := #[.int .i64 0, .int .i64 0, .slice none 0 0]) (t := 49) ?hr ?_; (case hd => rfl); (case hg => rfl); (case hr => first | (go_simp; done) | (go_simp; rfl)); intro gb304 hg w5 hbox hb; have n0_ := Aside0.mk (blk_below (g := gb302) (o := .cells #[.int .i64 a0_0, .int .i64 a0_1, .slice A0_2 l0_2.length c0_2] 49 (0, 0)) (by (with_reducible repeat (first | refine blk_drewN ?_ _ | refine blk_drew ?_ | refine blk_alloc ?_ _)); exact BK302.out) hb); have n1_ := Aside0.mk (blk_below (g := gb303) (o := .cells #[.string a1_0, .string a1_1, .int .i64 a1_2, .int .i64 a1_3, .bool a1_4] 55 (0, 0)) (by (with_reducible repeat (first | refine blk_drewN ?_ _ | refine blk_drew ?_ | refine blk_alloc ?_ _)); exact BK303.out) hb); have n2_ := Aside0.mk (below_step (by repeat (first | (with_reducible first | exact HB.out | apply below_alloc | apply pw_below_drewN | apply below_drew1 | refine below_set ?_ GE302.out | refine below_set ?_ GE303.out) | exact HB.out)) hb); have n3_ := Aside0.mk (hbox); have n4_ := Aside0.mk ((by rw [hg]; exact (below_size (by repeat (first | (with_reducible first | exact HB.out | apply below_alloc | apply pw_below_drewN | apply below_drew1 | refine below_set ?_ GE302.out | refine below_set ?_ GE303.out) | exact HB.out))) : w.heap.size ≤ gb304)); have n5_ := Aside0.mk ((by rw [hg]; exact (below_size (by repeat (first | (with_reducible first | exact HB.out | apply below_alloc | apply pw_below_drewN | apply below_drew1 | refine below_set ?_ GE302.out | refine below_set ?_ GE303.out) | exact HB.out))) : w.heap.size ≤ gb304)); have n6_ := Aside0.mk ((by rw [hg]; exact Nat.ne_of_lt (blk_lt (g := gb302) (o := .cells #[.int .i64 a0_0, .int .i64 a0_1, .slice A0_2 l0_2.length c0_2] 49 (0, 0)) (by (with_reducible repeat (first | refine blk_drewN ?_ _ | refine blk_drew ?_ | refine blk_alloc ?_ _)); exact BK302.out)) : gb302 ≠ gb304)); have n7_ := Aside0.mk ((by rw [hg]; exact Nat.ne_of_gt (blk_lt (g := gb302) (o := .cells #[.int .i64 a0_0, .int .i64 a0_1, .slice A0_2 l0_2.length c0_2] 49 (0, 0)) (by (with_reducible repeat (first | refine blk_drewN ?_ _ | refine blk_drew ?_ | refine blk_alloc ?_ _)); exact BK302.out)) : gb304 ≠ gb302)); have n8_ := Aside0.mk ((by rw [hg]; exact Nat.ne_of_lt (blk_lt (g := gb303) (o := .cells #[.string a1_0, .string a1_1, .int .i64 a1_2, .int .i64 a1_3, .bool a1_4] 55 (0, 0)) (by (with_reducible repeat (first | refine blk_drewN ?_ _ | refine blk_drew ?_ | refine blk_alloc ?_ _)); exact BK303.out)) : gb303 ≠ gb304)); have n9_ := Aside0.mk ((by rw [hg]; exact Nat.ne_of_gt (blk_lt (g := gb303) (o := .cells #[.string a1_0, .string a1_1, .int .i64 a1_2, .int .i64 a1_3, .bool a1_4] 55 (0, 0)) (by (with_reducible repeat (first | refine blk_drewN ?_ _ | refine blk_drew ?_ | refine blk_alloc ?_ _)); exact BK303.out)) : gb304 ≠ gb303)); clear BK302; clear BK303; clear HB; have BK302 := n0_; have BK303 := n1_; have HB := n2_; have BK304 := n3_; have GW304 := n4_; have GE304 := n5_; have NB302_304 := n6_; have NB304_302 := n7_; have NB303_304 := n8_; have NB304_303 := n9_; clear n0_ n1_ n2_ n3_ n4_ n5_ n6_ n7_ n8_ n9_; clear hb hbox hg))
  repeat (go_quiet (first | ((with_reducible refine gate_dst (N := 2) rfl ?_); refine box_event ?hg (N := 2) ?hd (cs := #[.int .i64 a0_0, .int .i64 a0_1, .slice A0_2 l0_2.length c0_2]) (t := 49) ?hr ?_; (case hd => rfl); (case hg => rfl); (case hr => first | (go_simp; done) | (go_simp; rfl)); intro gb302 hg w3 hbox hb; have n0_ := Aside0.mk (below_step (by repeat (first | (with_reducible first | exact HB.out | apply below_alloc | apply pw_below_drewN | apply below_drew1) | exact HB.out)) hb); have n1_ := Aside0.mk (hbox); have n2_ := Aside0.mk ((by rw [hg]; exact (below_size (by repeat (first | (with_reducible first | exact HB.out | apply below_alloc | apply pw_below_drewN | apply below_drew1) | exact HB.out))) : w.heap.size ≤ gb302)); have n3_ := Aside0.mk ((by rw [hg]; exact (below_size (by repeat (first | (with_reducible first | exact HB.out | apply below_alloc | apply pw_below_drewN | apply below_drew1) | exact HB.out))) : w.heap.size ≤ gb302)); clear HB; have HB := n0_; have BK302 := n1_; have GW302 := n2_; have GE302 := n3_; clear n0_ n1_ n2_ n3_; clear hb hbox hg) | ((with_reducible refine gate_dst (N := 3) rfl ?_); refine box_event ?hg (N := 3) ?hd (cs := #[.string a1_0, .string a1_1, .int .i64 a1_2, .int .i64 a1_3, .bool a1_4]) (t := 55) ?hr ?_; (case hd => rfl); (case hg => rfl); (case hr => first | (go_simp; done) | (go_simp; rfl)); intro gb303 hg w4 hbox hb; have n0_ := Aside0.mk (blk_below (g := gb302) (o := .cells #[.int .i64 a0_0, .int .i64 a0_1, .slice A0_2 l0_2.length c0_2] 49 (0, 0)) (by (with_reducible repeat (first | refine blk_drewN ?_ _ | refine blk_drew ?_ | refine blk_alloc ?_ _)); exact BK302.out) hb); have n1_ := Aside0.mk (below_step (by repeat (first | (with_reducible first | exact HB.out | apply below_alloc | apply pw_below_drewN | apply below_drew1 | refine below_set ?_ GE302.out) | exact HB.out)) hb); have n2_ := Aside0.mk (hbox); have n3_ := Aside0.mk ((by rw [hg]; exact (below_size (by repeat (first | (with_reducible first | exact HB.out | apply below_alloc | apply pw_below_drewN | apply below_drew1 | refine below_set ?_ GE302.out) | exact HB.out))) : w.heap.size ≤ gb303)); have n4_ := Aside0.mk ((by rw [hg]; exact (below_size (by repeat (first | (with_reducible first | exact HB.out | apply below_alloc | apply pw_below_drewN | apply below_drew1 | refine below_set ?_ GE302.out) | exact HB.out))) : w.heap.size ≤ gb303)); have n5_ := Aside0.mk ((by rw [hg]; exact Nat.ne_of_lt (blk_lt (g := gb302) (o := .cells #[.int .i64 a0_0, .int .i64 a0_1, .slice A0_2 l0_2.length c0_2] 49 (0, 0)) (by (with_reducible repeat (first | refine blk_drewN ?_ _ | refine blk_drew ?_ | refine blk_alloc ?_ _)); exact BK302.out)) : gb302 ≠ gb303)); have n6_ := Aside0.mk ((by rw [hg]; exact Nat.ne_of_gt (blk_lt (g := gb302) (o := .cells #[.int .i64 a0_0, .int .i64 a0_1, .slice A0_2 l0_2.length c0_2] 49 (0, 0)) (by (with_reducible repeat (first | refine blk_drewN ?_ _ | refine blk_drew ?_ | refine blk_alloc ?_ _)); exact BK302.out)) : gb303 ≠ gb302)); clear BK302; clear HB; have BK302 := n0_; have HB := n1_; have BK303 := n2_; have GW303 := n3_; have GE303 := n4_; have NB302_303 := n5_; have NB303_302 := n6_; clear n0_ n1_ n2_ n3_ n4_ n5_ n6_; clear hb hbox hg) | ((with_reducible refine gate_dst (N := 4) rfl ?_); refine box_event ?hg (N := 4) ?hd (cs := #[.int .i64 0, .int .i64 0, .slice none 0 0]) (t := 49) ?hr ?_; (case hd => rfl); (case hg => rfl); (case hr => first | (go_simp; done) | (go_simp; rfl)); intro gb304 hg w5 hbox hb; have n0_ := Aside0.mk (blk_below (g := gb302) (o := .cells #[.int .i64 a0_0, .int .i64 a0_1, .slice A0_2 l0_2.length c0_2] 49 (0, 0)) (by (with_reducible repeat (first | refine blk_drewN ?_ _ | refine blk_drew ?_ | refine blk_alloc ?_ _)); exact BK302.out) hb); have n1_ := Aside0.mk (blk_below (g := gb303) (o := .cells #[.string a1_0, .string a1_1, .int .i64 a1_2, .int .i64 a1_3, .bool a1_4] 55 (0, 0)) (by (with_reducible repeat (first | refine blk_drewN ?_ _ | refine blk_drew ?_ | refine blk_alloc ?_ _)); exact BK303.out) hb); have n2_ := Aside0.mk (below_step (by repeat (first | (with_reducible first | exact HB.out | apply below_alloc | apply pw_below_drewN | apply below_drew1 | refine below_set ?_ GE302.out | refine below_set ?_ GE303.out) | exact HB.out)) hb); have n3_ := Aside0.mk (hbox); have n4_ := Aside0.mk ((by rw [hg]; exact (below_size (by repeat (first | (with_reducible first | exact HB.out | apply below_alloc | apply pw_below_drewN | apply below_drew1 | refine below_set ?_ GE302.out | refine below_set ?_ GE303.out) | exact HB.out))) : w.heap.size ≤ gb304)); have n5_ := Aside0.mk ((by rw [hg]; exact (below_size (by repeat (first | (with_reducible first | exact HB.out | apply below_alloc | apply pw_below_drewN | apply below_drew1 | refine below_set ?_ GE302.out | refine below_set ?_ GE303.out) | exact HB.out))) : w.heap.size ≤ gb304)); have n6_ := Aside0.mk ((by rw [hg]; exact Nat.ne_of_lt (blk_lt (g := gb302) (o := .cells #[.int .i64 a0_0, .int .i64 a0_1, .slice A0_2 l0_2.length c0_2] 49 (0, 0)) (by (with_reducible repeat (first | refine blk_drewN ?_ _ | refine blk_drew ?_ | refine blk_alloc ?_ _)); exact BK302.out)) : gb302 ≠ gb304)); have n7_ := Aside0.mk ((by rw [hg]; exact Nat.ne_of_gt (blk_lt (g := gb302) (o := .cells #[.int .i64 a0_0, .int .i64 a0_1, .slice A0_2 l0_2.length c0_2] 49 (0, 0)) (by (with_reducible repeat (first | refine blk_drewN ?_ _ | refine blk_drew ?_ | refine blk_alloc ?_ _)); exact BK302.out)) : gb304 ≠ gb302)); have n8_ := Aside0.mk ((by rw [hg]; exact Nat.ne_of_lt (blk_lt (g := gb303) (o := .cells #[.string a1_0, .string a1_1, .int .i64 a1_2, .int .i64 a1_3, .bool a1_4] 55 (0, 0)) (by (with_reducible repeat (first | refine blk_drewN ?_ _ | refine blk_drew ?_ | refine blk_alloc ?_ _)); exact BK303.out)) : gb303 ≠ gb304)); have n9_ := Aside0.mk ((by rw [hg]; exact Nat.ne_of_gt (blk_lt (g := gb303) (o := .cells #[.string a1_0, .string a1_1, .int .i64 a1_2, .int .i64 a1_3, .bool a1_4] 55 (0, 0)) (by (with_reducible repeat (first | refine blk_drewN ?_ _ | refine blk_drew ?_ | refine blk_alloc ?_ _)); exact BK303.out)) : gb304 ≠ gb303)); clear BK302; clear BK303; clear HB; have BK302 := n0_; have BK303 := n1_; have HB := n2_; have BK304 := n3_; have GW304 := n4_; have GE304 := n5_; have NB302_304 := n6_; have NB304_302 := n7_; have NB303_304 := n8_; have NB304_303 := n9_; clear n0_ n1_ n2_ n3_ n4_ n5_ n6_ n7_ n8_ n9_; clear hb hbox hg)); try go_wp2_with (first | ((with_reducible refine gate_dst (N := 2) rfl ?_); refine box_event ?hg (N := 2) ?hd (cs := #[.int .i64 a0_0, .int .i64 a0_1, .slice A0_2 l0_2.length c0_2]) (t := 49) ?hr ?_; (case hd => rfl); (case hg => rfl); (case hr => first | (go_simp; done) | (go_simp; rfl)); intro gb302 hg w3 hbox hb; have n0_ := Aside0.mk (below_step (by repeat (first | (with_reducible first | exact HB.out | apply below_alloc | apply pw_below_drewN | apply below_drew1) | exact HB.out)) hb); have n1_ := Aside0.mk (hbox); have n2_ := Aside0.mk ((by rw [hg]; exact (below_size (by repeat (first | (with_reducible first | exact HB.out | apply below_alloc | apply pw_below_drewN | apply below_drew1) | exact HB.out))) : w.heap.size ≤ gb302)); have n3_ := Aside0.mk ((by rw [hg]; exact (below_size (by repeat (first | (with_reducible first | exact HB.out | apply below_alloc | apply pw_below_drewN | apply below_drew1) | exact HB.out))) : w.heap.size ≤ gb302)); clear HB; have HB := n0_; have BK302 := n1_; have GW302 := n2_; have GE302 := n3_; clear n0_ n1_ n2_ n3_; clear hb hbox hg) | ((with_reducible refine gate_dst (N := 3) rfl ?_); refine box_event ?hg (N := 3) ?hd (cs := #[.string a1_0, .string a1_1, .int .i64 a1_2, .int .i64 a1_3, .bool a1_4]) (t := 55) ?hr ?_; (case hd => rfl); (case hg => rfl); (case hr => first | (go_simp; done) | (go_simp; rfl)); intro gb303 hg w4 hbox hb; have n0_ := Aside0.mk (blk_below (g := gb302) (o := .cells #[.int .i64 a0_0, .int .i64 a0_1, .slice A0_2 l0_2.length c0_2] 49 (0, 0)) (by (with_reducible repeat (first | refine blk_drewN ?_ _ | refine blk_drew ?_ | refine blk_alloc ?_ _)); exact BK302.out) hb); have n1_ := Aside0.mk (below_step (by repeat (first | (with_reducible first | exact HB.out | apply below_alloc | apply pw_below_drewN | apply below_drew1 | refine below_set ?_ GE302.out) | exact HB.out)) hb); have n2_ := Aside0.mk (hbox); have n3_ := Aside0.mk ((by rw [hg]; exact (below_size (by repeat (first | (with_reducible first | exact HB.out | apply below_alloc | apply pw_below_drewN | apply below_drew1 | refine below_set ?_ GE302.out) | exact HB.out))) : w.heap.size ≤ gb303)); have n4_ := Aside0.mk ((by rw [hg]; exact (below_size (by repeat (first | (with_reducible first | exact HB.out | apply below_alloc | apply pw_below_drewN | apply below_drew1 | refine below_set ?_ GE302.out) | exact HB.out))) : w.heap.size ≤ gb303)); have n5_ := Aside0.mk ((by rw [hg]; exact Nat.ne_of_lt (blk_lt (g := gb302) (o := .cells #[.int .i64 a0_0, .int .i64 a0_1, .slice A0_2 l0_2.length c0_2] 49 (0, 0)) (by (with_reducible repeat (first | refine blk_drewN ?_ _ | refine blk_drew ?_ | refine blk_alloc ?_ _)); exact BK302.out)) : gb302 ≠ gb303)); have n6_ := Aside0.mk ((by rw [hg]; exact Nat.ne_of_gt (blk_lt (g := gb302) (o := .cells #[.int .i64 a0_0, .int .i64 a0_1, .slice A0_2 l0_2.length c0_2] 49 (0, 0)) (by (with_reducible repeat (first | refine blk_drewN ?_ _ | refine blk_drew ?_ | refine blk_alloc ?_ _)); exact BK302.out)) : gb303 ≠ gb302)); clear BK302; clear HB; have BK302 := n0_; have HB := n1_; have BK303 := n2_; have GW303 := n3_; have GE303 := n4_; have NB302_303 := n5_; have NB303_302 := n6_; clear n0_ n1_ n2_ n3_ n4_ n5_ n6_; clear hb hbox hg) | ((with_reducible refine gate_dst (N := 4) rfl ?_); refine box_event ?hg (N := 4) ?hd (cs := #[.int .i64 0, .int .i64 0, .slice none 0 0]) (t := 49) ?hr ?_; (case hd => rfl); (case hg => rfl); (case hr => first | (go_simp; done) | (go_simp; rfl)); intro gb304 hg w5 hbox hb; have n0_ := Aside0.mk (blk_below (g := gb302) (o := .cells #[.int .i64 a0_0, .int .i64 a0_1, .slice A0_2 l0_2.length c0_2] 49 (0, 0)) (by (with_reducible repeat (first | refine blk_drewN ?_ _ | refine blk_drew ?_ | refine blk_alloc ?_ _)); exact BK302.out) hb); have n1_ := Aside0.mk (blk_below (g := gb303) (o := .cells #[.string a1_0, .string a1_1, .int .i64 a1_2, .int .i64 a1_3, .bool a1_4] 55 (0, 0)) (by (with_reducible repeat (first | refine blk_drewN ?_ _ | refine blk_drew ?_ | refine blk_alloc ?_ _)); exact BK303.out) hb); have n2_ := Aside0.mk (below_step (by repeat (first | (with_reducible first | exact HB.out | apply below_alloc | apply pw_below_drewN | apply below_drew1 | refine below_set ?_ GE302.out | refine below_set ?_ GE303.out) | exact HB.out)) hb); have n3_ := Aside0.mk (hbox); have n4_ := Aside0.mk ((by rw [hg]; exact (below_size (by repeat (first | (with_reducible first | exact HB.out | apply below_alloc | apply pw_below_drewN | apply below_drew1 | refine below_set ?_ GE302.out | refine below_set ?_ GE303.out) | exact HB.out))) : w.heap.size ≤ gb304)); have n5_ := Aside0.mk ((by rw [hg]; exact (below_size (by repeat (first | (with_reducible first | exact HB.out | apply below_alloc | apply pw_below_drewN | apply below_drew1 | refine below_set ?_ GE302.out | refine below_set ?_ GE303.out) | exact HB.out))) : w.heap.size ≤ gb304)); have n6_ := Aside0.mk ((by rw [hg]; exact Nat.ne_of_lt (blk_lt (g := gb302) (o := .cells #[.int .i64 a0_0, .int .i64 a0_1, .slice A0_2 l0_2.length c0_2] 49 (0, 0)) (by (with_reducible repeat (first | refine blk_drewN ?_ _ | refine blk_drew ?_ | refine blk_alloc ?_ _)); exact BK302.out)) : gb302 ≠ gb304)); have n7_ := Aside0.mk ((by rw [hg]; exact Nat.ne_of_gt (blk_lt (g := gb302) (o := .cells #[.int .i64 a0_0, .int .i64 a0_1, .slice A0_2 l0_2.length c0_2] 49 (0, 0)) (by (with_reducible repeat (first | refine blk_drewN ?_ _ | refine blk_drew ?_ | refine blk_alloc ?_ _)); exact BK302.out)) : gb304 ≠ gb302)); have n8_ := Aside0.mk ((by rw [hg]; exact Nat.ne_of_lt (blk_lt (g := gb303) (o := .cells #[.string a1_0, .string a1_1, .int .i64 a1_2, .int .i64 a1_3, .bool a1_4] 55 (0, 0)) (by (with_reducible repeat (first | refine blk_drewN ?_ _ | refine blk_drew ?_ | refine blk_alloc ?_ _)); exact BK303.out)) : gb303 ≠ gb304)); have n9_ := Aside0.mk ((by rw [hg]; exact Nat.ne_of_gt (blk_lt (g := gb303) (o := .cells #[.string a1_0, .string a1_1, .int .i64 a1_2, .int .i64 a1_3, .bool a1_4] 55 (0, 0)) (by (with_reducible repeat (first | refine blk_drewN ?_ _ | refine blk_drew ?_ | refine blk_alloc ?_ _)); exact BK303.out)) : gb304 ≠ gb303)); clear BK302; clear BK303; clear HB; have BK302 := n0_; have BK303 := n1_; have HB := n2_; have BK304 := n3_; have GW304 := n4_; have GE304 := n5_; have NB302_304 := n6_; have NB304_302 := n7_; have NB303_304 := n8_; have NB304_303 := n9_; clear n0_ n1_ n2_ n3_ n4_ n5_ n6_ n7_ n8_ n9_; clear hb hbox hg)))
  go_loopg [5, 6, 7] k (fun kq v5 v6 v7 w' => ∃ (x5_1 : List (S55)) (x6_1 : Bool) (x7_1 : Int), v6 = .bool x6_1 ∧ v7 = .int .i64 x7_1 ∧ Aside0 (cupelref13_set.l0 kq x5_1 x6_1 x7_1 a0_0 a0_1 l0_2 a1_0 a1_1 a1_2 a1_3 a1_4 = some (r1, r2, r3)) ∧ Aside0 (kq ≤ k) ∧ Aside0 (Kd.R k55 55 w' w.heap.size (fun k_ => k_ ≠ gb303) v5 x5_1) ∧ Aside0 (w'.heap[gb302]? = some (.cells #[.int .i64 a0_0, .int .i64 a0_1, (.slice A0_2 l0_2.length c0_2)] 49 (0, 0))) ∧ Aside0 (w'.heap[gb303]? = some (.cells #[.string a1_0, .string a1_1, .int .i64 a1_2, .int .i64 a1_3, .bool a1_4] 55 (0, 0))) ∧ Aside0 (w'.heap[gb304]? = some (.cells #[.int .i64 0, .int .i64 0, (.slice none 0 0)] 49 (0, 0))) ∧ Aside0 (Below w.heap.size w w'))
  case atStart => exact ⟨(([] : List (S55))), (false), (0), (by first | rfl | (simp; done) | (simp [*]; done)), (by first | rfl | (simp; done) | (simp [*]; done)), H', ⟨Nat.le_refl _⟩, ⟨by first | exact Kd.R_nil _ _ _ _ _ | exact Kd.N_nil _ _ _ _ _ | exact Kd.V_nil _ _ _ _ _ | exact Kd.Q_nil _ _ _ _ _ | exact Kd.S_nil _ _ _ _ _⟩, ⟨by (with_reducible repeat (first | refine blk_drewN ?_ _ | refine blk_drew ?_ | refine blk_alloc ?_ _)); exact BK302.out⟩, ⟨by (with_reducible repeat (first | refine blk_drewN ?_ _ | refine blk_drew ?_ | refine blk_alloc ?_ _)); exact BK303.out⟩, ⟨by (with_reducible repeat (first | refine blk_drewN ?_ _ | refine blk_drew ?_ | refine blk_alloc ?_ _)); exact BK304.out⟩, ⟨by repeat (first | (with_reducible first | exact HB.out | apply below_alloc | apply pw_below_drewN | apply below_drew1 | refine below_set ?_ GE302.out | refine below_set ?_ GE303.out | refine below_set ?_ GE304.out) | exact HB.out)⟩⟩
  case round =>
    clear H'
    try clear p2
    try clear c3
    obtain ⟨x5_1, x6_1, x7_1, rfl, rfl, HA, HK1, HO_5, BK302, BK303, BK304, HB⟩ := hrel
    cases gk with
    | zero => exact absurd HA.out (by simp [cupelref13_set.l0])
    | succ k1 =>
      have H := HA.out
      clear HA
      simp only [cupelref13_set.l0] at H
      by_cases c6 : x7_1 < (l0_2.length : Int)
      · rw [if_pos c6] at H
        have c6b0 : decide (x7_1 < (l0_2.length : Int)) = true := decide_eq_true c6
        clear c6
        have HC7 := Aside0.mk H
        clear H
        have hnb8 := NB302_303.out
        have hnc8 := NB303_302.out
        have hnb9 := NB302_304.out
        have hnc9 := NB304_302.out
        have hcz10_0 : wr.cell? ⟨gb302, 0, none⟩ = some (.int .i64 a0_0) := (blk_cell BK302.out 0).trans rfl
        have hcz10_1 : wr.cell? ⟨gb302, 1, none⟩ = some (.int .i64 a0_1) := (blk_cell BK302.out 1).trans rfl
        have hcz10_2 : wr.cell? ⟨gb302, 2, none⟩ = some (.slice A0_2 l0_2.length c0_2) := (blk_cell BK302.out 2).trans rfl
        have hfz10_0 := blk_frozen BK302.out 0
        have hfz10_1 := blk_frozen BK302.out 1
        have hfz10_2 := blk_frozen BK302.out 2
        go_upto_region 6 with (fail)
        repeat (go_quiet (fail); go_upto_region 6 with (fail))
        go_cut [27] (fun v27 wc => ∃ (kq : Nat) (x27_6 : Bool), v27 = .bool x27_6 ∧ Aside0 (cupelref13_set.j1 kq x5_1 x6_1 x7_1 x27_6 a0_0 a0_1 l0_2 a1_0 a1_1 a1_2 a1_3 a1_4 = some (r1, r2, r3)) ∧ Aside0 (kq ≤ k1) ∧ Aside0 (Kd.R k55 55 wc w.heap.size (fun k_ => k_ ≠ gb303) u5 x5_1) ∧ Aside0 (wc.heap[gb302]? = some (.cells #[.int .i64 a0_0, .int .i64 a0_1, (.slice A0_2 l0_2.length c0_2)] 49 (0, 0))) ∧ Aside0 (wc.heap[gb303]? = some (.cells #[.string a1_0, .string a1_1, .int .i64 a1_2, .int .i64 a1_3, .bool a1_4] 55 (0, 0))) ∧ Aside0 (wc.heap[gb304]? = some (.cells #[.int .i64 0, .int .i64 0, (.slice none 0 0)] 49 (0, 0))) ∧ Aside0 (Below w.heap.size w wc))
        case first =>
          have H := HC7.out
          clear HC7
          by_cases c11 : x6_1 = true
          · subst c11
            have H1 : (cupelref13_set.j1 k1 x5_1 true x7_1 false a0_0 a0_1 l0_2 a1_0 a1_1 a1_2 a1_3 a1_4) = some (r1, r2, r3) := by rw [if_pos rfl] at H; exact H
            clear H
            have H := H1
            clear H1
            have H' := Aside0.mk H
            clear H
            go_wp2
            repeat (go_quiet (fail); try go_wp2)
            go_meet
            case rel => exact ⟨_, (false), (by first | rfl | (simp; done) | (simp [*]; done)), H', ⟨by have := HK1.out; first | omega | exact Nat.le_refl _⟩, ⟨by (with_reducible repeat (first | apply Kd.R_alloc | apply Kd.R_drewN | apply Kd.R_drew)); exact HO_5.out⟩, ⟨by (with_reducible repeat (first | refine blk_drewN ?_ _ | refine blk_drew ?_ | refine blk_alloc ?_ _)); exact BK302.out⟩, ⟨by (with_reducible repeat (first | refine blk_drewN ?_ _ | refine blk_drew ?_ | refine blk_alloc ?_ _)); exact BK303.out⟩, ⟨by (with_reducible repeat (first | refine blk_drewN ?_ _ | refine blk_drew ?_ | refine blk_alloc ?_ _)); exact BK304.out⟩, ⟨by repeat (first | (with_reducible first | exact HB.out | apply below_alloc | apply pw_below_drewN | apply below_drew1 | refine below_set ?_ GE302.out | refine below_set ?_ GE303.out | refine below_set ?_ GE304.out) | exact HB.out)⟩⟩
          · replace c11 := Bool.eq_false_iff.mpr c11
            subst c11
            have H1 : (if 0 ≤ x7_1 then (cupelref13_set.j1 k1 x5_1 false x7_1 (!(Op.bytesLess (((rd_T55 l0_2 x7_1).f0).toList) a1_0.toList)) a0_0 a0_1 l0_2 a1_0 a1_1 a1_2 a1_3 a1_4) else (none)) = some (r1, r2, r3) := by rw [if_neg (show ¬ (false = true) by decide)] at H; exact H
            clear H
            have H := H1
            clear H1
            by_cases c12 : 0 ≤ x7_1
            · rw [if_pos c12] at H
              have c12b0 : decide (0 ≤ x7_1) = true := decide_eq_true c12
              clear c12
              (first | rw [c12b0] | (simp only [i64_w, i32_w]; rw [c12b0]) | skip)
              have H' := Aside0.mk H
              clear H
              have hnb13 := NB302_303.out
              have hnc13 := NB303_302.out
              have hnb14 := NB302_304.out
              have hnc14 := NB304_302.out
              have hcz15_0 : wr.cell? ⟨gb302, 0, none⟩ = some (.int .i64 a0_0) := (blk_cell BK302.out 0).trans rfl
              have hcz15_1 : wr.cell? ⟨gb302, 1, none⟩ = some (.int .i64 a0_1) := (blk_cell BK302.out 1).trans rfl
              have hcz15_2 : wr.cell? ⟨gb302, 2, none⟩ = some (.slice A0_2 l0_2.length c0_2) := (blk_cell BK302.out 2).trans rfl
              have hfz15_0 := blk_frozen BK302.out 0
              have hfz15_1 := blk_frozen BK302.out 1
              have hfz15_2 := blk_frozen BK302.out 2
              have p308 : 0 ≤ (x7_1 : Int) := of_decide_eq_true (by first | (with_reducible assumption) | assumption)
              have q308 : x7_1 < (l0_2.length : Int) := of_decide_eq_true (by first | (with_reducible assumption) | assumption)
              obtain ⟨ad308, e308, hx308_0, hx308_1, hx308_2, hx308_3, hx308_4⟩ := at_T55 HR0_2.out x7_1 p308 q308
              cases e308
              replace hx308_0 := (HB.out.cell (World.block_lt_of_cell? w _ hx308_0)).trans hx308_0
              replace hx308_1 := (HB.out.cell (World.block_lt_of_cell? w _ hx308_1)).trans hx308_1
              replace hx308_2 := (HB.out.cell (World.block_lt_of_cell? w _ hx308_2)).trans hx308_2
              replace hx308_3 := (HB.out.cell (World.block_lt_of_cell? w _ hx308_3)).trans hx308_3
              replace hx308_4 := (HB.out.cell (World.block_lt_of_cell? w _ hx308_4)).trans hx308_4
              replace p308 := eq_true p308
              replace q308 := eq_true q308
              have hnb16 := NB303_304.out
              have hnc16 := NB304_303.out
              have hcz17_0 : wr.cell? ⟨gb303, 0, none⟩ = some (.string a1_0) := (blk_cell BK303.out 0).trans rfl
              have hcz17_1 : wr.cell? ⟨gb303, 1, none⟩ = some (.string a1_1) := (blk_cell BK303.out 1).trans rfl
              have hcz17_2 : wr.cell? ⟨gb303, 2, none⟩ = some (.int .i64 a1_2) := (blk_cell BK303.out 2).trans rfl
              have hcz17_3 : wr.cell? ⟨gb303, 3, none⟩ = some (.int .i64 a1_3) := (blk_cell BK303.out 3).trans rfl
              have hcz17_4 : wr.cell? ⟨gb303, 4, none⟩ = some (.bool a1_4) := (blk_cell BK303.out 4).trans rfl
              have hfz17_0 := blk_frozen BK303.out 0
              have hfz17_1 := blk_frozen BK303.out 1
              have hfz17_2 := blk_frozen BK303.out 2
              have hfz17_3 := blk_frozen BK303.out 3
              have hfz17_4 := blk_frozen BK303.out 4
              go_wp2
              repeat (go_quiet (fail); try go_wp2)
              go_meet
              case rel => exact ⟨_, (!(Op.bytesLess (((rd_T55 l0_2 x7_1).f0).toList) a1_0.toList)), (by first | rfl | (simp; done) | (simp [*]; done)), H', ⟨by have := HK1.out; first | omega | exact Nat.le_refl _⟩, ⟨by (with_reducible repeat (first | apply Kd.R_alloc | apply Kd.R_drewN | apply Kd.R_drew)); exact HO_5.out⟩, ⟨by (with_reducible repeat (first | refine blk_drewN ?_ _ | refine blk_drew ?_ | refine blk_alloc ?_ _)); exact BK302.out⟩, ⟨by (with_reducible repeat (first | refine blk_drewN ?_ _ | refine blk_drew ?_ | refine blk_alloc ?_ _)); exact BK303.out⟩, ⟨by (with_reducible repeat (first | refine blk_drewN ?_ _ | refine blk_drew ?_ | refine blk_alloc ?_ _)); exact BK304.out⟩, ⟨by repeat (first | (with_reducible first | exact HB.out | apply below_alloc | apply pw_below_drewN | apply below_drew1 | refine below_set ?_ GE302.out | refine below_set ?_ GE303.out | refine below_set ?_ GE304.out) | exact HB.out)⟩⟩
            · rw [if_neg c12] at H
              exact absurd H (by simp)
        case rest =>
          clear HC7
          try clear c1
          try clear p2
          try clear c3
          try clear p3
          try clear q3
          try clear hx3
          try clear c6
          try clear c6b0
          try clear c8
          try clear c9
          try clear c11
          try clear c12
          try clear c12b0
          try clear c13
          try clear c14
          try clear c16
          try clear hcz10_0
          try clear hcz10_1
          try clear hcz10_2
          try clear hcz15_0
          try clear hcz15_1
          try clear hcz15_2
          try clear hcz17_0
          try clear hcz17_1
          try clear hcz17_2
          try clear hcz17_3
          try clear hcz17_4
          try clear hfz10_0
          try clear hfz10_1
          try clear hfz10_2
          try clear hfz15_0
          try clear hfz15_1
          try clear hfz15_2
          try clear hfz17_0
          try clear hfz17_1
          try clear hfz17_2
          try clear hfz17_3
          try clear hfz17_4
          try clear hx308_0
          try clear hx308_1
          try clear hx308_2
          try clear hx308_3
          try clear hx308_4
          try clear p2
          try clear p308
          try clear q308
          obtain ⟨kq, x27_6, rfl, HA, HJ6, HO_5, BK302, BK303, BK304, HB⟩ := hcut
          cases kq with
          | zero => exact absurd HA.out (by simp [cupelref13_set.j1])
          | succ kj6 =>
            have H := HA.out
            clear HA
            simp only [cupelref13_set.j1] at H
            by_cases c18 : x27_6 = true
            · subst c18
              have H1 : (if x5_1.length < 2513169434916 then ((some (x5_1 ++ [(⟨a1_0, a1_1, a1_2, a1_3, a1_4⟩ : S55)] : List (S55))).bind fun y309 => (if 0 ≤ x7_1 then (if x7_1 < (l0_2.length : Int) then (if ((rd_T55 l0_2 x7_1).f0).toList = a1_0.toList then (cupelref13_set.l0 kj6 y309 true (wrap64 (x7_1 + 1)) a0_0 a0_1 l0_2 a1_0 a1_1 a1_2 a1_3 a1_4) else (if y309.length < 2513169434916 then (cupelref13_set.l0 kj6 (y309 ++ [(⟨(rd_T55 l0_2 x7_1).f0, (rd_T55 l0_2 x7_1).f1, (rd_T55 l0_2 x7_1).f2, (rd_T55 l0_2 x7_1).f3, (rd_T55 l0_2 x7_1).f4⟩ : S55)]) true (wrap64 (x7_1 + 1)) a0_0 a0_1 l0_2 a1_0 a1_1 a1_2 a1_3 a1_4) else (none))) else (none)) else (none))) else (none)) = some (r1, r2, r3) := by rw [if_pos rfl] at H; exact H
              clear H
              have H := H1
              clear H1
              by_cases c19 : x5_1.length < 2513169434916
              · rw [if_pos c19] at H
                have LMc19 := Aside0.mk c19
                clear c19
                obtain ⟨y309, hy309⟩ : ∃ y_ : List (S55), y_ = (x5_1 ++ [(⟨a1_0, a1_1, a1_2, a1_3, a1_4⟩ : S55)]) := ⟨_, rfl⟩
                replace H : (if 0 ≤ x7_1 then (if x7_1 < (l0_2.length : Int) then (if ((rd_T55 l0_2 x7_1).f0).toList = a1_0.toList then (cupelref13_set.l0 kj6 y309 true (wrap64 (x7_1 + 1)) a0_0 a0_1 l0_2 a1_0 a1_1 a1_2 a1_3 a1_4) else (if y309.length < 2513169434916 then (cupelref13_set.l0 kj6 (y309 ++ [(⟨(rd_T55 l0_2 x7_1).f0, (rd_T55 l0_2 x7_1).f1, (rd_T55 l0_2 x7_1).f2, (rd_T55 l0_2 x7_1).f3, (rd_T55 l0_2 x7_1).f4⟩ : S55)]) true (wrap64 (x7_1 + 1)) a0_0 a0_1 l0_2 a1_0 a1_1 a1_2 a1_3 a1_4) else (none))) else (none)) else (none)) = some (r1, r2, r3) := by first | (rw [hy309]; with_reducible exact H) | (have H2_ := (Option.bind_some _ _).symm.trans H; rw [hy309]; with_reducible exact H2_) | (have H2_ := (Option.bind_some _ _).symm.trans H; with_reducible exact H2_) | with_reducible exact H | (rw [hy309]; exact H) | exact H
                have Ny309 := Aside0.mk hy309
                clear hy309
                by_cases c20 : 0 ≤ x7_1
                · rw [if_pos c20] at H
                  have c20b0 : decide (0 ≤ x7_1) = true := decide_eq_true c20
                  clear c20
                  by_cases c21 : x7_1 < (l0_2.length : Int)
                  · rw [if_pos c21] at H
                    have c21b0 : decide (x7_1 < (l0_2.length : Int)) = true := decide_eq_true c21
                    clear c21
                    by_cases c22 : ((rd_T55 l0_2 x7_1).f0).toList = a1_0.toList
                    · rw [if_pos c22] at H
                      have c22b0 : (((rd_T55 l0_2 x7_1).f0).toList == a1_0.toList) = true := beq_iff_eq.mpr c22
                      have c22b1 : (((rd_T55 l0_2 x7_1).f0).toList != a1_0.toList) = false := bne_eq_false_iff_eq.mpr c22
                      clear c22
                      have H' := Aside0.mk H
                      clear H
                      have hnb23 := NB303_302.out
                      have hnc23 := NB302_303.out
                      have hnb24 := NB303_304.out
                      have hnc24 := NB304_303.out
                      have hcz25_0 : wc.cell? ⟨gb303, 0, none⟩ = some (.string a1_0) := (blk_cell BK303.out 0).trans rfl
                      have hcz25_1 : wc.cell? ⟨gb303, 1, none⟩ = some (.string a1_1) := (blk_cell BK303.out 1).trans rfl
                      have hcz25_2 : wc.cell? ⟨gb303, 2, none⟩ = some (.int .i64 a1_2) := (blk_cell BK303.out 2).trans rfl
                      have hcz25_3 : wc.cell? ⟨gb303, 3, none⟩ = some (.int .i64 a1_3) := (blk_cell BK303.out 3).trans rfl
                      have hcz25_4 : wc.cell? ⟨gb303, 4, none⟩ = some (.bool a1_4) := (blk_cell BK303.out 4).trans rfl
                      have hfz25_0 := blk_frozen BK303.out 0
                      have hfz25_1 := blk_frozen BK303.out 1
                      have hfz25_2 := blk_frozen BK303.out 2
                      have hfz25_3 := blk_frozen BK303.out 3
                      have hfz25_4 := blk_frozen BK303.out 4
                      go_wp2_with (first | ((with_reducible refine gate_builtin (b := .append) (xs := #[.tmp 28, .tmp 30]) rfl ?_); at_builtin; refine Kd.R_append k55 (w0 := w) w.heap.size rfl (.tmp 28) (.tmp 30) 47 55 (.agg #[(.string ⟨#[]⟩), (.string ⟨#[]⟩), (.int .i64 0), (.int .i64 0), (.bool false)]) 56 rfl Try.underlying47 info55 rfl (by decide) (by omega) u5 x5_1 (⟨a1_0, a1_1, a1_2, a1_3, a1_4⟩ : S55) [.string a1_0, .string a1_1, .int .i64 a1_2, .int .i64 a1_3, .bool a1_4] (fun k_ => k_ ≠ gb303) (fun _ => False) rfl rfl ?aP (fun _ hk => hk.elim) ?aF ?aO ?aB ?aS ?aL ?_; (case aP => exact k55_mkM _ _ _ (⟨a1_0, a1_1, a1_2, a1_3, a1_4⟩ : S55)); (case aB => exact (by repeat (first | (with_reducible first | exact HB.out | apply below_alloc | apply pw_below_drewN | apply below_drew1 | refine below_set ?_ GE302.out | refine below_set ?_ GE303.out | refine below_set ?_ GE304.out) | exact HB.out))); (case aF => exact (fun k_ hk => Kd.freshB (g := gb303) (o := .cells #[.string a1_0, .string a1_1, .int .i64 a1_2, .int .i64 a1_3, .bool a1_4] 55 (0, 0)) (by (with_reducible repeat (first | refine blk_drewN ?_ _ | refine blk_drew ?_ | refine blk_alloc ?_ _)); exact BK303.out) k_ hk)); (case aO => exact (by (with_reducible repeat (first | apply Kd.R_alloc | apply Kd.R_drewN | apply Kd.R_drew)); exact HO_5.out)); (case aS => exact (below_size (by repeat (first | (with_reducible first | exact HB.out | apply below_alloc | apply pw_below_drewN | apply below_drew1 | refine below_set ?_ GE302.out | refine below_set ?_ GE303.out | refine below_set ?_ GE304.out) | exact HB.out)))); (case aL => have := LMc19.out; omega); intro v310 w26 ho hb hg hat; rw [← Ny309.out] at ho; have n0_ := Aside0.mk (blk_grown (g := gb302) (o := .cells #[.int .i64 a0_0, .int .i64 a0_1, .slice A0_2 l0_2.length c0_2] 49 (0, 0)) (by (with_reducible repeat (first | refine blk_drewN ?_ _ | refine blk_drew ?_ | refine blk_alloc ?_ _)); exact BK302.out) hg (Kd.R_ne HO_5.out BK302.out (by decide))); have n1_ := Aside0.mk (blk_grown (g := gb303) (o := .cells #[.string a1_0, .string a1_1, .int .i64 a1_2, .int .i64 a1_3, .bool a1_4] 55 (0, 0)) (by (with_reducible repeat (first | refine blk_drewN ?_ _ | refine blk_drew ?_ | refine blk_alloc ?_ _)); exact BK303.out) hg (Kd.R_away HO_5.out (fun _ hk => hk))); have n2_ := Aside0.mk (blk_grown (g := gb304) (o := .cells #[.int .i64 0, .int .i64 0, .slice none 0 0] 49 (0, 0)) (by (with_reducible repeat (first | refine blk_drewN ?_ _ | refine blk_drew ?_ | refine blk_alloc ?_ _)); exact BK304.out) hg (Kd.R_ne HO_5.out BK304.out (by decide))); have n3_ := Aside0.mk (hb); have n4_ := Aside0.mk (ho); clear BK302; clear BK303; clear BK304; clear HB; clear HO_5; have BK302 := n0_; have BK303 := n1_; have BK304 := n2_; have HB := n3_; have HO311 := n4_; clear n0_ n1_ n2_ n3_ n4_; clear ho hb hg hat; have hnb27 := NB302_304.out; have hnc27 := NB304_302.out; have hcz28_0 : w26.cell? ⟨gb302, 0, none⟩ = some (.int .i64 a0_0) := (blk_cell BK302.out 0).trans rfl; have hcz28_1 : w26.cell? ⟨gb302, 1, none⟩ = some (.int .i64 a0_1) := (blk_cell BK302.out 1).trans rfl; have hcz28_2 : w26.cell? ⟨gb302, 2, none⟩ = some (.slice A0_2 l0_2.length c0_2) := (blk_cell BK302.out 2).trans rfl; have hfz28_0 := blk_frozen BK302.out 0; have hfz28_1 := blk_frozen BK302.out 1; have hfz28_2 := blk_frozen BK302.out 2; have p312 : 0 ≤ (x7_1 : Int) := of_decide_eq_true (by first | (with_reducible assumption) | assumption); have q312 : x7_1 < (l0_2.length : Int) := of_decide_eq_true (by first | (with_reducible assumption) | assumption); obtain ⟨ad312, e312, hx312_0, hx312_1, hx312_2, hx312_3, hx312_4⟩ := at_T55 HR0_2.out x7_1 p312 q312; cases e312; replace hx312_0 := (HB.out.cell (World.block_lt_of_cell? w _ hx312_0)).trans hx312_0; replace hx312_1 := (HB.out.cell (World.block_lt_of_cell? w _ hx312_1)).trans hx312_1; replace hx312_2 := (HB.out.cell (World.block_lt_of_cell? w _ hx312_2)).trans hx312_2; replace hx312_3 := (HB.out.cell (World.block_lt_of_cell? w _ hx312_3)).trans hx312_3; replace hx312_4 := (HB.out.cell (World.block_lt_of_cell? w _ hx312_4)).trans hx312_4; replace p312 := eq_true p312; replace q312 := eq_true q312; have hcz29_0 : w26.cell? ⟨gb303, 0, none⟩ = some (.string a1_0) := (blk_cell BK303.out 0).trans rfl; have hcz29_1 : w26.cell? ⟨gb303, 1, none⟩ = some (.string a1_1) := (blk_cell BK303.out 1).trans rfl; have hcz29_2 : w26.cell? ⟨gb303, 2, none⟩ = some (.int .i64 a1_2) := (blk_cell BK303.out 2).trans rfl; have hcz29_3 : w26.cell? ⟨gb303, 3, none⟩ = some (.int .i64 a1_3) := (blk_cell BK303.out 3).trans rfl; have hcz29_4 : w26.cell? ⟨gb303, 4, none⟩ = some (.bool a1_4) := (blk_cell BK303.out 4).trans rfl; have hfz29_0 := blk_frozen BK303.out 0; have hfz29_1 := blk_frozen BK303.out 1; have hfz29_2 := blk_frozen BK303.out 2; have hfz29_3 := blk_frozen BK303.out 3; have hfz29_4 := blk_frozen BK303.out 4))
                      repeat (go_quiet (first | ((with_reducible refine gate_builtin (b := .append) (xs := #[.tmp 28, .tmp 30]) rfl ?_); at_builtin; refine Kd.R_append k55 (w0 := w) w.heap.size rfl (.tmp 28) (.tmp 30) 47 55 (.agg #[(.string ⟨#[]⟩), (.string ⟨#[]⟩), (.int .i64 0), (.int .i64 0), (.bool false)]) 56 rfl Try.underlying47 info55 rfl (by decide) (by omega) u5 x5_1 (⟨a1_0, a1_1, a1_2, a1_3, a1_4⟩ : S55) [.string a1_0, .string a1_1, .int .i64 a1_2, .int .i64 a1_3, .bool a1_4] (fun k_ => k_ ≠ gb303) (fun _ => False) rfl rfl ?aP (fun _ hk => hk.elim) ?aF ?aO ?aB ?aS ?aL ?_; (case aP => exact k55_mkM _ _ _ (⟨a1_0, a1_1, a1_2, a1_3, a1_4⟩ : S55)); (case aB => exact (by repeat (first | (with_reducible first | exact HB.out | apply below_alloc | apply pw_below_drewN | apply below_drew1 | refine below_set ?_ GE302.out | refine below_set ?_ GE303.out | refine below_set ?_ GE304.out) | exact HB.out))); (case aF => exact (fun k_ hk => Kd.freshB (g := gb303) (o := .cells #[.string a1_0, .string a1_1, .int .i64 a1_2, .int .i64 a1_3, .bool a1_4] 55 (0, 0)) (by (with_reducible repeat (first | refine blk_drewN ?_ _ | refine blk_drew ?_ | refine blk_alloc ?_ _)); exact BK303.out) k_ hk)); (case aO => exact (by (with_reducible repeat (first | apply Kd.R_alloc | apply Kd.R_drewN | apply Kd.R_drew)); exact HO_5.out)); (case aS => exact (below_size (by repeat (first | (with_reducible first | exact HB.out | apply below_alloc | apply pw_below_drewN | apply below_drew1 | refine below_set ?_ GE302.out | refine below_set ?_ GE303.out | refine below_set ?_ GE304.out) | exact HB.out)))); (case aL => have := LMc19.out; omega); intro v310 w26 ho hb hg hat; rw [← Ny309.out] at ho; have n0_ := Aside0.mk (blk_grown (g := gb302) (o := .cells #[.int .i64 a0_0, .int .i64 a0_1, .slice A0_2 l0_2.length c0_2] 49 (0, 0)) (by (with_reducible repeat (first | refine blk_drewN ?_ _ | refine blk_drew ?_ | refine blk_alloc ?_ _)); exact BK302.out) hg (Kd.R_ne HO_5.out BK302.out (by decide))); have n1_ := Aside0.mk (blk_grown (g := gb303) (o := .cells #[.string a1_0, .string a1_1, .int .i64 a1_2, .int .i64 a1_3, .bool a1_4] 55 (0, 0)) (by (with_reducible repeat (first | refine blk_drewN ?_ _ | refine blk_drew ?_ | refine blk_alloc ?_ _)); exact BK303.out) hg (Kd.R_away HO_5.out (fun _ hk => hk))); have n2_ := Aside0.mk (blk_grown (g := gb304) (o := .cells #[.int .i64 0, .int .i64 0, .slice none 0 0] 49 (0, 0)) (by (with_reducible repeat (first | refine blk_drewN ?_ _ | refine blk_drew ?_ | refine blk_alloc ?_ _)); exact BK304.out) hg (Kd.R_ne HO_5.out BK304.out (by decide))); have n3_ := Aside0.mk (hb); have n4_ := Aside0.mk (ho); clear BK302; clear BK303; clear BK304; clear HB; clear HO_5; have BK302 := n0_; have BK303 := n1_; have BK304 := n2_; have HB := n3_; have HO311 := n4_; clear n0_ n1_ n2_ n3_ n4_; clear ho hb hg hat; have hnb27 := NB302_304.out; have hnc27 := NB304_302.out; have hcz28_0 : w26.cell? ⟨gb302, 0, none⟩ = some (.int .i64 a0_0) := (blk_cell BK302.out 0).trans rfl; have hcz28_1 : w26.cell? ⟨gb302, 1, none⟩ = some (.int .i64 a0_1) := (blk_cell BK302.out 1).trans rfl; have hcz28_2 : w26.cell? ⟨gb302, 2, none⟩ = some (.slice A0_2 l0_2.length c0_2) := (blk_cell BK302.out 2).trans rfl; have hfz28_0 := blk_frozen BK302.out 0; have hfz28_1 := blk_frozen BK302.out 1; have hfz28_2 := blk_frozen BK302.out 2; have p312 : 0 ≤ (x7_1 : Int) := of_decide_eq_true (by first | (with_reducible assumption) | assumption); have q312 : x7_1 < (l0_2.length : Int) := of_decide_eq_true (by first | (with_reducible assumption) | assumption); obtain ⟨ad312, e312, hx312_0, hx312_1, hx312_2, hx312_3, hx312_4⟩ := at_T55 HR0_2.out x7_1 p312 q312; cases e312; replace hx312_0 := (HB.out.cell (World.block_lt_of_cell? w _ hx312_0)).trans hx312_0; replace hx312_1 := (HB.out.cell (World.block_lt_of_cell? w _ hx312_1)).trans hx312_1; replace hx312_2 := (HB.out.cell (World.block_lt_of_cell? w _ hx312_2)).trans hx312_2; replace hx312_3 := (HB.out.cell (World.block_lt_of_cell? w _ hx312_3)).trans hx312_3; replace hx312_4 := (HB.out.cell (World.block_lt_of_cell? w _ hx312_4)).trans hx312_4; replace p312 := eq_true p312; replace q312 := eq_true q312; have hcz29_0 : w26.cell? ⟨gb303, 0, none⟩ = some (.string a1_0) := (blk_cell BK303.out 0).trans rfl; have hcz29_1 : w26.cell? ⟨gb303, 1, none⟩ = some (.string a1_1) := (blk_cell BK303.out 1).trans rfl; have hcz29_2 : w26.cell? ⟨gb303, 2, none⟩ = some (.int .i64 a1_2) := (blk_cell BK303.out 2).trans rfl; have hcz29_3 : w26.cell? ⟨gb303, 3, none⟩ = some (.int .i64 a1_3) := (blk_cell BK303.out 3).trans rfl; have hcz29_4 : w26.cell? ⟨gb303, 4, none⟩ = some (.bool a1_4) := (blk_cell BK303.out 4).trans rfl; have hfz29_0 := blk_frozen BK303.out 0; have hfz29_1 := blk_frozen BK303.out 1; have hfz29_2 := blk_frozen BK303.out 2; have hfz29_3 := blk_frozen BK303.out 3; have hfz29_4 := blk_frozen BK303.out 4)); try go_wp2_with (first | ((with_reducible refine gate_builtin (b := .append) (xs := #[.tmp 28, .tmp 30]) rfl ?_); at_builtin; refine Kd.R_append k55 (w0 := w) w.heap.size rfl (.tmp 28) (.tmp 30) 47 55 (.agg #[(.string ⟨#[]⟩), (.string ⟨#[]⟩), (.int .i64 0), (.int .i64 0), (.bool false)]) 56 rfl Try.underlying47 info55 rfl (by decide) (by omega) u5 x5_1 (⟨a1_0, a1_1, a1_2, a1_3, a1_4⟩ : S55) [.string a1_0, .string a1_1, .int .i64 a1_2, .int .i64 a1_3, .bool a1_4] (fun k_ => k_ ≠ gb303) (fun _ => False) rfl rfl ?aP (fun _ hk => hk.elim) ?aF ?aO ?aB ?aS ?aL ?_; (case aP => exact k55_mkM _ _ _ (⟨a1_0, a1_1, a1_2, a1_3, a1_4⟩ : S55)); (case aB => exact (by repeat (first | (with_reducible first | exact HB.out | apply below_alloc | apply pw_below_drewN | apply below_drew1 | refine below_set ?_ GE302.out | refine below_set ?_ GE303.out | refine below_set ?_ GE304.out) | exact HB.out))); (case aF => exact (fun k_ hk => Kd.freshB (g := gb303) (o := .cells #[.string a1_0, .string a1_1, .int .i64 a1_2, .int .i64 a1_3, .bool a1_4] 55 (0, 0)) (by (with_reducible repeat (first | refine blk_drewN ?_ _ | refine blk_drew ?_ | refine blk_alloc ?_ _)); exact BK303.out) k_ hk)); (case aO => exact (by (with_reducible repeat (first | apply Kd.R_alloc | apply Kd.R_drewN | apply Kd.R_drew)); exact HO_5.out)); (case aS => exact (below_size (by repeat (first | (with_reducible first | exact HB.out | apply below_alloc | apply pw_below_drewN | apply below_drew1 | refine below_set ?_ GE302.out | refine below_set ?_ GE303.out | refine below_set ?_ GE304.out) | exact HB.out)))); (case aL => have := LMc19.out; omega); intro v310 w26 ho hb hg hat; rw [← Ny309.out] at ho; have n0_ := Aside0.mk (blk_grown (g := gb302) (o := .cells #[.int .i64 a0_0, .int .i64 a0_1, .slice A0_2 l0_2.length c0_2] 49 (0, 0)) (by (with_reducible repeat (first | refine blk_drewN ?_ _ | refine blk_drew ?_ | refine blk_alloc ?_ _)); exact BK302.out) hg (Kd.R_ne HO_5.out BK302.out (by decide))); have n1_ := Aside0.mk (blk_grown (g := gb303) (o := .cells #[.string a1_0, .string a1_1, .int .i64 a1_2, .int .i64 a1_3, .bool a1_4] 55 (0, 0)) (by (with_reducible repeat (first | refine blk_drewN ?_ _ | refine blk_drew ?_ | refine blk_alloc ?_ _)); exact BK303.out) hg (Kd.R_away HO_5.out (fun _ hk => hk))); have n2_ := Aside0.mk (blk_grown (g := gb304) (o := .cells #[.int .i64 0, .int .i64 0, .slice none 0 0] 49 (0, 0)) (by (with_reducible repeat (first | refine blk_drewN ?_ _ | refine blk_drew ?_ | refine blk_alloc ?_ _)); exact BK304.out) hg (Kd.R_ne HO_5.out BK304.out (by decide))); have n3_ := Aside0.mk (hb); have n4_ := Aside0.mk (ho); clear BK302; clear BK303; clear BK304; clear HB; clear HO_5; have BK302 := n0_; have BK303 := n1_; have BK304 := n2_; have HB := n3_; have HO311 := n4_; clear n0_ n1_ n2_ n3_ n4_; clear ho hb hg hat; have hnb27 := NB302_304.out; have hnc27 := NB304_302.out; have hcz28_0 : w26.cell? ⟨gb302, 0, none⟩ = some (.int .i64 a0_0) := (blk_cell BK302.out 0).trans rfl; have hcz28_1 : w26.cell? ⟨gb302, 1, none⟩ = some (.int .i64 a0_1) := (blk_cell BK302.out 1).trans rfl; have hcz28_2 : w26.cell? ⟨gb302, 2, none⟩ = some (.slice A0_2 l0_2.length c0_2) := (blk_cell BK302.out 2).trans rfl; have hfz28_0 := blk_frozen BK302.out 0; have hfz28_1 := blk_frozen BK302.out 1; have hfz28_2 := blk_frozen BK302.out 2; have p312 : 0 ≤ (x7_1 : Int) := of_decide_eq_true (by first | (with_reducible assumption) | assumption); have q312 : x7_1 < (l0_2.length : Int) := of_decide_eq_true (by first | (with_reducible assumption) | assumption); obtain ⟨ad312, e312, hx312_0, hx312_1, hx312_2, hx312_3, hx312_4⟩ := at_T55 HR0_2.out x7_1 p312 q312; cases e312; replace hx312_0 := (HB.out.cell (World.block_lt_of_cell? w _ hx312_0)).trans hx312_0; replace hx312_1 := (HB.out.cell (World.block_lt_of_cell? w _ hx312_1)).trans hx312_1; replace hx312_2 := (HB.out.cell (World.block_lt_of_cell? w _ hx312_2)).trans hx312_2; replace hx312_3 := (HB.out.cell (World.block_lt_of_cell? w _ hx312_3)).trans hx312_3; replace hx312_4 := (HB.out.cell (World.block_lt_of_cell? w _ hx312_4)).trans hx312_4; replace p312 := eq_true p312; replace q312 := eq_true q312; have hcz29_0 : w26.cell? ⟨gb303, 0, none⟩ = some (.string a1_0) := (blk_cell BK303.out 0).trans rfl; have hcz29_1 : w26.cell? ⟨gb303, 1, none⟩ = some (.string a1_1) := (blk_cell BK303.out 1).trans rfl; have hcz29_2 : w26.cell? ⟨gb303, 2, none⟩ = some (.int .i64 a1_2) := (blk_cell BK303.out 2).trans rfl; have hcz29_3 : w26.cell? ⟨gb303, 3, none⟩ = some (.int .i64 a1_3) := (blk_cell BK303.out 3).trans rfl; have hcz29_4 : w26.cell? ⟨gb303, 4, none⟩ = some (.bool a1_4) := (blk_cell BK303.out 4).trans rfl; have hfz29_0 := blk_frozen BK303.out 0; have hfz29_1 := blk_frozen BK303.out 1; have hfz29_2 := blk_frozen BK303.out 2; have hfz29_3 := blk_frozen BK303.out 3; have hfz29_4 := blk_frozen BK303.out 4)))
                      go_roundg kj6
                      case measure => have := HK1.out; have := HJ6.out; omega
                      case rel => exact ⟨(y309), (true), (wrap64 (x7_1 + 1)), (by first | rfl | (simp; done) | (simp [*]; done)), (by first | rfl | (simp; done) | (simp [*]; done)), H', ⟨by have := HK1.out; have := HJ6.out; omega⟩, ⟨by (with_reducible repeat (first | apply Kd.R_alloc | apply Kd.R_drewN | apply Kd.R_drew)); exact HO311.out⟩, ⟨by (with_reducible repeat (first | refine blk_drewN ?_ _ | refine blk_drew ?_ | refine blk_alloc ?_ _)); exact BK302.out⟩, ⟨by (with_reducible repeat (first | refine blk_drewN ?_ _ | refine blk_drew ?_ | refine blk_alloc ?_ _)); exact BK303.out⟩, ⟨by (with_reducible repeat (first | refine blk_drewN ?_ _ | refine blk_drew ?_ | refine blk_alloc ?_ _)); exact BK304.out⟩, ⟨by repeat (first | (with_reducible first | exact HB.out | apply below_alloc | apply pw_below_drewN | apply below_drew1 | refine below_set ?_ GE302.out | refine below_set ?_ GE303.out | refine below_set ?_ GE304.out) | exact HB.out)⟩⟩
                    · rw [if_neg c22] at H
                      have c22b0 : (((rd_T55 l0_2 x7_1).f0).toList == a1_0.toList) = false := beq_eq_false_iff_ne.mpr c22
                      have c22b1 : (((rd_T55 l0_2 x7_1).f0).toList != a1_0.toList) = true := bne_iff_ne.mpr c22
                      by_cases c30 : y309.length < 2513169434916
                      · rw [if_pos c30] at H
                        have LMc30 := Aside0.mk c30
                        clear c30
                        obtain ⟨y314, hy314⟩ : ∃ y_ : List (S55), y_ = (y309 ++ [(⟨(rd_T55 l0_2 x7_1).f0, (rd_T55 l0_2 x7_1).f1, (rd_T55 l0_2 x7_1).f2, (rd_T55 l0_2 x7_1).f3, (rd_T55 l0_2 x7_1).f4⟩ : S55)]) := ⟨_, rfl⟩
                        replace H : (cupelref13_set.l0 kj6 y314 true (wrap64 (x7_1 + 1)) a0_0 a0_1 l0_2 a1_0 a1_1 a1_2 a1_3 a1_4) = some (r1, r2, r3) := by first | (rw [hy314]; with_reducible exact H) | (have H2_ := (Option.bind_some _ _).symm.trans H; rw [hy314]; with_reducible exact H2_) | (have H2_ := (Option.bind_some _ _).symm.trans H; with_reducible exact H2_) | with_reducible exact H | (rw [hy314]; exact H) | exact H
                        have Ny314 := Aside0.mk hy314
                        clear hy314
                        have H' := Aside0.mk H
                        clear H
                        have hnb31 := NB303_302.out
                        have hnc31 := NB302_303.out
                        have hnb32 := NB303_304.out
                        have hnc32 := NB304_303.out
                        have hcz33_0 : wc.cell? ⟨gb303, 0, none⟩ = some (.string a1_0) := (blk_cell BK303.out 0).trans rfl
                        have hcz33_1 : wc.cell? ⟨gb303, 1, none⟩ = some (.string a1_1) := (blk_cell BK303.out 1).trans rfl
                        have hcz33_2 : wc.cell? ⟨gb303, 2, none⟩ = some (.int .i64 a1_2) := (blk_cell BK303.out 2).trans rfl
                        have hcz33_3 : wc.cell? ⟨gb303, 3, none⟩ = some (.int .i64 a1_3) := (blk_cell BK303.out 3).trans rfl
                        have hcz33_4 : wc.cell? ⟨gb303, 4, none⟩ = some (.bool a1_4) := (blk_cell BK303.out 4).trans rfl
                        have hfz33_0 := blk_frozen BK303.out 0
                        have hfz33_1 := blk_frozen BK303.out 1
                        have hfz33_2 := blk_frozen BK303.out 2
                        have hfz33_3 := blk_frozen BK303.out 3
                        have hfz33_4 := blk_frozen BK303.out 4
                        go_wp2_with (first | ((with_reducible refine gate_builtin (b := .append) (xs := #[.tmp 28, .tmp 30]) rfl ?_); at_builtin; refine Kd.R_append k55 (w0 := w) w.heap.size rfl (.tmp 28) (.tmp 30) 47 55 (.agg #[(.string ⟨#[]⟩), (.string ⟨#[]⟩), (.int .i64 0), (.int .i64 0), (.bool false)]) 56 rfl Try.underlying47 info55 rfl (by decide) (by omega) u5 x5_1 (⟨a1_0, a1_1, a1_2, a1_3, a1_4⟩ : S55) [.string a1_0, .string a1_1, .int .i64 a1_2, .int .i64 a1_3, .bool a1_4] (fun k_ => k_ ≠ gb303) (fun _ => False) rfl rfl ?aP (fun _ hk => hk.elim) ?aF ?aO ?aB ?aS ?aL ?_; (case aP => exact k55_mkM _ _ _ (⟨a1_0, a1_1, a1_2, a1_3, a1_4⟩ : S55)); (case aB => exact (by repeat (first | (with_reducible first | exact HB.out | apply below_alloc | apply pw_below_drewN | apply below_drew1 | refine below_set ?_ GE302.out | refine below_set ?_ GE303.out | refine below_set ?_ GE304.out) | exact HB.out))); (case aF => exact (fun k_ hk => Kd.freshB (g := gb303) (o := .cells #[.string a1_0, .string a1_1, .int .i64 a1_2, .int .i64 a1_3, .bool a1_4] 55 (0, 0)) (by (with_reducible repeat (first | refine blk_drewN ?_ _ | refine blk_drew ?_ | refine blk_alloc ?_ _)); exact BK303.out) k_ hk)); (case aO => exact (by (with_reducible repeat (first | apply Kd.R_alloc | apply Kd.R_drewN | apply Kd.R_drew)); exact HO_5.out)); (case aS => exact (below_size (by repeat (first | (with_reducible first | exact HB.out | apply below_alloc | apply pw_below_drewN | apply below_drew1 | refine below_set ?_ GE302.out | refine below_set ?_ GE303.out | refine below_set ?_ GE304.out) | exact HB.out)))); (case aL => have := LMc19.out; omega); intro v310 w34 ho hb hg hat; rw [← Ny309.out] at ho; have n0_ := Aside0.mk (blk_grown (g := gb302) (o := .cells #[.int .i64 a0_0, .int .i64 a0_1, .slice A0_2 l0_2.length c0_2] 49 (0, 0)) (by (with_reducible repeat (first | refine blk_drewN ?_ _ | refine blk_drew ?_ | refine blk_alloc ?_ _)); exact BK302.out) hg (Kd.R_ne HO_5.out BK302.out (by decide))); have n1_ := Aside0.mk (blk_grown (g := gb303) (o := .cells #[.string a1_0, .string a1_1, .int .i64 a1_2, .int .i64 a1_3, .bool a1_4] 55 (0, 0)) (by (with_reducible repeat (first | refine blk_drewN ?_ _ | refine blk_drew ?_ | refine blk_alloc ?_ _)); exact BK303.out) hg (Kd.R_away HO_5.out (fun _ hk => hk))); have n2_ := Aside0.mk (blk_grown (g := gb304) (o := .cells #[.int .i64 0, .int .i64 0, .slice none 0 0] 49 (0, 0)) (by (with_reducible repeat (first | refine blk_drewN ?_ _ | refine blk_drew ?_ | refine blk_alloc ?_ _)); exact BK304.out) hg (Kd.R_ne HO_5.out BK304.out (by decide))); have n3_ := Aside0.mk (hb); have n4_ := Aside0.mk (ho); clear BK302; clear BK303; clear BK304; clear HB; clear HO_5; have BK302 := n0_; have BK303 := n1_; have BK304 := n2_; have HB := n3_; have HO311 := n4_; clear n0_ n1_ n2_ n3_ n4_; clear ho hb hg hat; have hnb35 := NB302_304.out; have hnc35 := NB304_302.out; have hcz36_0 : w34.cell? ⟨gb302, 0, none⟩ = some (.int .i64 a0_0) := (blk_cell BK302.out 0).trans rfl; have hcz36_1 : w34.cell? ⟨gb302, 1, none⟩ = some (.int .i64 a0_1) := (blk_cell BK302.out 1).trans rfl; have hcz36_2 : w34.cell? ⟨gb302, 2, none⟩ = some (.slice A0_2 l0_2.length c0_2) := (blk_cell BK302.out 2).trans rfl; have hfz36_0 := blk_frozen BK302.out 0; have hfz36_1 := blk_frozen BK302.out 1; have hfz36_2 := blk_frozen BK302.out 2; have p312 : 0 ≤ (x7_1 : Int) := of_decide_eq_true (by first | (with_reducible assumption) | assumption); have q312 : x7_1 < (l0_2.length : Int) := of_decide_eq_true (by first | (with_reducible assumption) | assumption); obtain ⟨ad312, e312, hx312_0, hx312_1, hx312_2, hx312_3, hx312_4⟩ := at_T55 HR0_2.out x7_1 p312 q312; cases e312; replace hx312_0 := (HB.out.cell (World.block_lt_of_cell? w _ hx312_0)).trans hx312_0; replace hx312_1 := (HB.out.cell (World.block_lt_of_cell? w _ hx312_1)).trans hx312_1; replace hx312_2 := (HB.out.cell (World.block_lt_of_cell? w _ hx312_2)).trans hx312_2; replace hx312_3 := (HB.out.cell (World.block_lt_of_cell? w _ hx312_3)).trans hx312_3; replace hx312_4 := (HB.out.cell (World.block_lt_of_cell? w _ hx312_4)).trans hx312_4; replace p312 := eq_true p312; replace q312 := eq_true q312; have hcz37_0 : w34.cell? ⟨gb303, 0, none⟩ = some (.string a1_0) := (blk_cell BK303.out 0).trans rfl; have hcz37_1 : w34.cell? ⟨gb303, 1, none⟩ = some (.string a1_1) := (blk_cell BK303.out 1).trans rfl; have hcz37_2 : w34.cell? ⟨gb303, 2, none⟩ = some (.int .i64 a1_2) := (blk_cell BK303.out 2).trans rfl; have hcz37_3 : w34.cell? ⟨gb303, 3, none⟩ = some (.int .i64 a1_3) := (blk_cell BK303.out 3).trans rfl; have hcz37_4 : w34.cell? ⟨gb303, 4, none⟩ = some (.bool a1_4) := (blk_cell BK303.out 4).trans rfl; have hfz37_0 := blk_frozen BK303.out 0; have hfz37_1 := blk_frozen BK303.out 1; have hfz37_2 := blk_frozen BK303.out 2; have hfz37_3 := blk_frozen BK303.out 3; have hfz37_4 := blk_frozen BK303.out 4; have p313 : 0 ≤ (x7_1 : Int) := of_decide_eq_true (by first | (with_reducible assumption) | assumption); have q313 : x7_1 < (l0_2.length : Int) := of_decide_eq_true (by first | (with_reducible assumption) | assumption); obtain ⟨ad313, e313, hx313_0, hx313_1, hx313_2, hx313_3, hx313_4⟩ := at_T55 HR0_2.out x7_1 p313 q313; obtain rfl : ad312 = ad313 := (by injection e313); replace hx313_0 := (HB.out.cell (World.block_lt_of_cell? w _ hx313_0)).trans hx313_0; replace hx313_1 := (HB.out.cell (World.block_lt_of_cell? w _ hx313_1)).trans hx313_1; replace hx313_2 := (HB.out.cell (World.block_lt_of_cell? w _ hx313_2)).trans hx313_2; replace hx313_3 := (HB.out.cell (World.block_lt_of_cell? w _ hx313_3)).trans hx313_3; replace hx313_4 := (HB.out.cell (World.block_lt_of_cell? w _ hx313_4)).trans hx313_4; replace p313 := eq_true p313; replace q313 := eq_true q313) | ((with_reducible refine gate_builtin (b := .append) (xs := #[.tmp 41, .tmp 47]) rfl ?_); at_builtin; refine Kd.R_append k55 (w0 := w) w.heap.size rfl (.tmp 41) (.tmp 47) 47 55 (.agg #[(.string ⟨#[]⟩), (.string ⟨#[]⟩), (.int .i64 0), (.int .i64 0), (.bool false)]) 56 rfl Try.underlying47 info55 rfl (by decide) (by omega) v310 y309 (⟨(rd_T55 l0_2 x7_1).f0, (rd_T55 l0_2 x7_1).f1, (rd_T55 l0_2 x7_1).f2, (rd_T55 l0_2 x7_1).f3, (rd_T55 l0_2 x7_1).f4⟩ : S55) [.string ((rd_T55 l0_2 x7_1).f0), .string ((rd_T55 l0_2 x7_1).f1), .int .i64 ((rd_T55 l0_2 x7_1).f2), .int .i64 ((rd_T55 l0_2 x7_1).f3), .bool ((rd_T55 l0_2 x7_1).f4)] (fun k_ => k_ ≠ gb303) (fun _ => False) rfl rfl ?aP (fun _ hk => hk.elim) ?aF ?aO ?aB ?aS ?aL ?_; (case aP => exact k55_mkM _ _ _ (⟨(rd_T55 l0_2 x7_1).f0, (rd_T55 l0_2 x7_1).f1, (rd_T55 l0_2 x7_1).f2, (rd_T55 l0_2 x7_1).f3, (rd_T55 l0_2 x7_1).f4⟩ : S55)); (case aB => exact (by repeat (first | (with_reducible first | exact HB.out | apply below_alloc | apply pw_below_drewN | apply below_drew1 | refine below_set ?_ GE302.out | refine below_set ?_ GE303.out | refine below_set ?_ GE304.out) | exact HB.out))); (case aF => exact (fun k_ hk => Kd.freshB (g := gb303) (o := .cells #[.string a1_0, .string a1_1, .int .i64 a1_2, .int .i64 a1_3, .bool a1_4] 55 (0, 0)) (by (with_reducible repeat (first | refine blk_drewN ?_ _ | refine blk_drew ?_ | refine blk_alloc ?_ _)); exact BK303.out) k_ hk)); (case aO => exact (by (with_reducible repeat (first | apply Kd.R_alloc | apply Kd.R_drewN | apply Kd.R_drew)); exact HO311.out)); (case aS => exact (below_size (by repeat (first | (with_reducible first | exact HB.out | apply below_alloc | apply pw_below_drewN | apply below_drew1 | refine below_set ?_ GE302.out | refine below_set ?_ GE303.out | refine below_set ?_ GE304.out) | exact HB.out)))); (case aL => have := LMc30.out; omega); intro v315 w38 ho hb hg hat; rw [← Ny314.out] at ho; have n0_ := Aside0.mk (blk_grown (g := gb302) (o := .cells #[.int .i64 a0_0, .int .i64 a0_1, .slice (some ad312) l0_2.length c0_2] 49 (0, 0)) (by (with_reducible repeat (first | refine blk_drewN ?_ _ | refine blk_drew ?_ | refine blk_alloc ?_ _)); exact BK302.out) hg (Kd.R_ne HO311.out BK302.out (by decide))); have n1_ := Aside0.mk (blk_grown (g := gb303) (o := .cells #[.string a1_0, .string a1_1, .int .i64 a1_2, .int .i64 a1_3, .bool a1_4] 55 (0, 0)) (by (with_reducible repeat (first | refine blk_drewN ?_ _ | refine blk_drew ?_ | refine blk_alloc ?_ _)); exact BK303.out) hg (Kd.R_away HO311.out (fun _ hk => hk))); have n2_ := Aside0.mk (blk_grown (g := gb304) (o := .cells #[.int .i64 0, .int .i64 0, .slice none 0 0] 49 (0, 0)) (by (with_reducible repeat (first | refine blk_drewN ?_ _ | refine blk_drew ?_ | refine blk_alloc ?_ _)); exact BK304.out) hg (Kd.R_ne HO311.out BK304.out (by decide))); have n3_ := Aside0.mk (hb); have n4_ := Aside0.mk (ho); clear BK302; clear BK303; clear BK304; clear HB; clear HO311; have BK302 := n0_; have BK303 := n1_; have BK304 := n2_; have HB := n3_; have HO316 := n4_; clear n0_ n1_ n2_ n3_ n4_; clear ho hb hg hat))
                        repeat (go_quiet (first | ((with_reducible refine gate_builtin (b := .append) (xs := #[.tmp 28, .tmp 30]) rfl ?_); at_builtin; refine Kd.R_append k55 (w0 := w) w.heap.size rfl (.tmp 28) (.tmp 30) 47 55 (.agg #[(.string ⟨#[]⟩), (.string ⟨#[]⟩), (.int .i64 0), (.int .i64 0), (.bool false)]) 56 rfl Try.underlying47 info55 rfl (by decide) (by omega) u5 x5_1 (⟨a1_0, a1_1, a1_2, a1_3, a1_4⟩ : S55) [.string a1_0, .string a1_1, .int .i64 a1_2, .int .i64 a1_3, .bool a1_4] (fun k_ => k_ ≠ gb303) (fun _ => False) rfl rfl ?aP (fun _ hk => hk.elim) ?aF ?aO ?aB ?aS ?aL ?_; (case aP => exact k55_mkM _ _ _ (⟨a1_0, a1_1, a1_2, a1_3, a1_4⟩ : S55)); (case aB => exact (by repeat (first | (with_reducible first | exact HB.out | apply below_alloc | apply pw_below_drewN | apply below_drew1 | refine below_set ?_ GE302.out | refine below_set ?_ GE303.out | refine below_set ?_ GE304.out) | exact HB.out))); (case aF => exact (fun k_ hk => Kd.freshB (g := gb303) (o := .cells #[.string a1_0, .string a1_1, .int .i64 a1_2, .int .i64 a1_3, .bool a1_4] 55 (0, 0)) (by (with_reducible repeat (first | refine blk_drewN ?_ _ | refine blk_drew ?_ | refine blk_alloc ?_ _)); exact BK303.out) k_ hk)); (case aO => exact (by (with_reducible repeat (first | apply Kd.R_alloc | apply Kd.R_drewN | apply Kd.R_drew)); exact HO_5.out)); (case aS => exact (below_size (by repeat (first | (with_reducible first | exact HB.out | apply below_alloc | apply pw_below_drewN | apply below_drew1 | refine below_set ?_ GE302.out | refine below_set ?_ GE303.out | refine below_set ?_ GE304.out) | exact HB.out)))); (case aL => have := LMc19.out; omega); intro v310 w34 ho hb hg hat; rw [← Ny309.out] at ho; have n0_ := Aside0.mk (blk_grown (g := gb302) (o := .cells #[.int .i64 a0_0, .int .i64 a0_1, .slice A0_2 l0_2.length c0_2] 49 (0, 0)) (by (with_reducible repeat (first | refine blk_drewN ?_ _ | refine blk_drew ?_ | refine blk_alloc ?_ _)); exact BK302.out) hg (Kd.R_ne HO_5.out BK302.out (by decide))); have n1_ := Aside0.mk (blk_grown (g := gb303) (o := .cells #[.string a1_0, .string a1_1, .int .i64 a1_2, .int .i64 a1_3, .bool a1_4] 55 (0, 0)) (by (with_reducible repeat (first | refine blk_drewN ?_ _ | refine blk_drew ?_ | refine blk_alloc ?_ _)); exact BK303.out) hg (Kd.R_away HO_5.out (fun _ hk => hk))); have n2_ := Aside0.mk (blk_grown (g := gb304) (o := .cells #[.int .i64 0, .int .i64 0, .slice none 0 0] 49 (0, 0)) (by (with_reducible repeat (first | refine blk_drewN ?_ _ | refine blk_drew ?_ | refine blk_alloc ?_ _)); exact BK304.out) hg (Kd.R_ne HO_5.out BK304.out (by decide))); have n3_ := Aside0.mk (hb); have n4_ := Aside0.mk (ho); clear BK302; clear BK303; clear BK304; clear HB; clear HO_5; have BK302 := n0_; have BK303 := n1_; have BK304 := n2_; have HB := n3_; have HO311 := n4_; clear n0_ n1_ n2_ n3_ n4_; clear ho hb hg hat; have hnb35 := NB302_304.out; have hnc35 := NB304_302.out; have hcz36_0 : w34.cell? ⟨gb302, 0, none⟩ = some (.int .i64 a0_0) := (blk_cell BK302.out 0).trans rfl; have hcz36_1 : w34.cell? ⟨gb302, 1, none⟩ = some (.int .i64 a0_1) := (blk_cell BK302.out 1).trans rfl; have hcz36_2 : w34.cell? ⟨gb302, 2, none⟩ = some (.slice A0_2 l0_2.length c0_2) := (blk_cell BK302.out 2).trans rfl; have hfz36_0 := blk_frozen BK302.out 0; have hfz36_1 := blk_frozen BK302.out 1; have hfz36_2 := blk_frozen BK302.out 2; have p312 : 0 ≤ (x7_1 : Int) := of_decide_eq_true (by first | (with_reducible assumption) | assumption); have q312 : x7_1 < (l0_2.length : Int) := of_decide_eq_true (by first | (with_reducible assumption) | assumption); obtain ⟨ad312, e312, hx312_0, hx312_1, hx312_2, hx312_3, hx312_4⟩ := at_T55 HR0_2.out x7_1 p312 q312; cases e312; replace hx312_0 := (HB.out.cell (World.block_lt_of_cell? w _ hx312_0)).trans hx312_0; replace hx312_1 := (HB.out.cell (World.block_lt_of_cell? w _ hx312_1)).trans hx312_1; replace hx312_2 := (HB.out.cell (World.block_lt_of_cell? w _ hx312_2)).trans hx312_2; replace hx312_3 := (HB.out.cell (World.block_lt_of_cell? w _ hx312_3)).trans hx312_3; replace hx312_4 := (HB.out.cell (World.block_lt_of_cell? w _ hx312_4)).trans hx312_4; replace p312 := eq_true p312; replace q312 := eq_true q312; have hcz37_0 : w34.cell? ⟨gb303, 0, none⟩ = some (.string a1_0) := (blk_cell BK303.out 0).trans rfl; have hcz37_1 : w34.cell? ⟨gb303, 1, none⟩ = some (.string a1_1) := (blk_cell BK303.out 1).trans rfl; have hcz37_2 : w34.cell? ⟨gb303, 2, none⟩ = some (.int .i64 a1_2) := (blk_cell BK303.out 2).trans rfl; have hcz37_3 : w34.cell? ⟨gb303, 3, none⟩ = some (.int .i64 a1_3) := (blk_cell BK303.out 3).trans rfl; have hcz37_4 : w34.cell? ⟨gb303, 4, none⟩ = some (.bool a1_4) := (blk_cell BK303.out 4).trans rfl; have hfz37_0 := blk_frozen BK303.out 0; have hfz37_1 := blk_frozen BK303.out 1; have hfz37_2 := blk_frozen BK303.out 2; have hfz37_3 := blk_frozen BK303.out 3; have hfz37_4 := blk_frozen BK303.out 4; have p313 : 0 ≤ (x7_1 : Int) := of_decide_eq_true (by first | (with_reducible assumption) | assumption); have q313 : x7_1 < (l0_2.length : Int) := of_decide_eq_true (by first | (with_reducible assumption) | assumption); obtain ⟨ad313, e313, hx313_0, hx313_1, hx313_2, hx313_3, hx313_4⟩ := at_T55 HR0_2.out x7_1 p313 q313; obtain rfl : ad312 = ad313 := (by injection e313); replace hx313_0 := (HB.out.cell (World.block_lt_of_cell? w _ hx313_0)).trans hx313_0; replace hx313_1 := (HB.out.cell (World.block_lt_of_cell? w _ hx313_1)).trans hx313_1; replace hx313_2 := (HB.out.cell (World.block_lt_of_cell? w _ hx313_2)).trans hx313_2; replace hx313_3 := (HB.out.cell (World.block_lt_of_cell? w _ hx313_3)).trans hx313_3; replace hx313_4 := (HB.out.cell (World.block_lt_of_cell? w _ hx313_4)).trans hx313_4; replace p313 := eq_true p313; replace q313 := eq_true q313) | ((with_reducible refine gate_builtin (b := .append) (xs := #[.tmp 41, .tmp 47]) rfl ?_); at_builtin; refine Kd.R_append k55 (w0 := w) w.heap.size rfl (.tmp 41) (.tmp 47) 47 55 (.agg #[(.string ⟨#[]⟩), (.string ⟨#[]⟩), (.int .i64 0), (.int .i64 0), (.bool false)]) 56 rfl Try.underlying47 info55 rfl (by decide) (by omega) v310 y309 (⟨(rd_T55 l0_2 x7_1).f0, (rd_T55 l0_2 x7_1).f1, (rd_T55 l0_2 x7_1).f2, (rd_T55 l0_2 x7_1).f3, (rd_T55 l0_2 x7_1).f4⟩ : S55) [.string ((rd_T55 l0_2 x7_1).f0), .string ((rd_T55 l0_2 x7_1).f1), .int .i64 ((rd_T55 l0_2 x7_1).f2), .int .i64 ((rd_T55 l0_2 x7_1).f3), .bool ((rd_T55 l0_2 x7_1).f4)] (fun k_ => k_ ≠ gb303) (fun _ => False) rfl rfl ?aP (fun _ hk => hk.elim) ?aF ?aO ?aB ?aS ?aL ?_; (case aP => exact k55_mkM _ _ _ (⟨(rd_T55 l0_2 x7_1).f0, (rd_T55 l0_2 x7_1).f1, (rd_T55 l0_2 x7_1).f2, (rd_T55 l0_2 x7_1).f3, (rd_T55 l0_2 x7_1).f4⟩ : S55)); (case aB => exact (by repeat (first | (with_reducible first | exact HB.out | apply below_alloc | apply pw_below_drewN | apply below_drew1 | refine below_set ?_ GE302.out | refine below_set ?_ GE303.out | refine below_set ?_ GE304.out) | exact HB.out))); (case aF => exact (fun k_ hk => Kd.freshB (g := gb303) (o := .cells #[.string a1_0, .string a1_1, .int .i64 a1_2, .int .i64 a1_3, .bool a1_4] 55 (0, 0)) (by (with_reducible repeat (first | refine blk_drewN ?_ _ | refine blk_drew ?_ | refine blk_alloc ?_ _)); exact BK303.out) k_ hk)); (case aO => exact (by (with_reducible repeat (first | apply Kd.R_alloc | apply Kd.R_drewN | apply Kd.R_drew)); exact HO311.out)); (case aS => exact (below_size (by repeat (first | (with_reducible first | exact HB.out | apply below_alloc | apply pw_below_drewN | apply below_drew1 | refine below_set ?_ GE302.out | refine below_set ?_ GE303.out | refine below_set ?_ GE304.out) | exact HB.out)))); (case aL => have := LMc30.out; omega); intro v315 w38 ho hb hg hat; rw [← Ny314.out] at ho; have n0_ := Aside0.mk (blk_grown (g := gb302) (o := .cells #[.int .i64 a0_0, .int .i64 a0_1, .slice (some ad312) l0_2.length c0_2] 49 (0, 0)) (by (with_reducible repeat (first | refine blk_drewN ?_ _ | refine blk_drew ?_ | refine blk_alloc ?_ _)); exact BK302.out) hg (Kd.R_ne HO311.out BK302.out (by decide))); have n1_ := Aside0.mk (blk_grown (g := gb303) (o := .cells #[.string a1_0, .string a1_1, .int .i64 a1_2, .int .i64 a1_3, .bool a1_4] 55 (0, 0)) (by (with_reducible repeat (first | refine blk_drewN ?_ _ | refine blk_drew ?_ | refine blk_alloc ?_ _)); exact BK303.out) hg (Kd.R_away HO311.out (fun _ hk => hk))); have n2_ := Aside0.mk (blk_grown (g := gb304) (o := .cells #[.int .i64 0, .int .i64 0, .slice none 0 0] 49 (0, 0)) (by (with_reducible repeat (first | refine blk_drewN ?_ _ | refine blk_drew ?_ | refine blk_alloc ?_ _)); exact BK304.out) hg (Kd.R_ne HO311.out BK304.out (by decide))); have n3_ := Aside0.mk (hb); have n4_ := Aside0.mk (ho); clear BK302; clear BK303; clear BK304; clear HB; clear HO311; have BK302 := n0_; have BK303 := n1_; have BK304 := n2_; have HB := n3_; have HO316 := n4_; clear n0_ n1_ n2_ n3_ n4_; clear ho hb hg hat)); try go_wp2_with (first | ((with_reducible refine gate_builtin (b := .append) (xs := #[.tmp 28, .tmp 30]) rfl ?_); at_builtin; refine Kd.R_append k55 (w0 := w) w.heap.size rfl (.tmp 28) (.tmp 30) 47 55 (.agg #[(.string ⟨#[]⟩), (.string ⟨#[]⟩), (.int .i64 0), (.int .i64 0), (.bool false)]) 56 rfl Try.underlying47 info55 rfl (by decide) (by omega) u5 x5_1 (⟨a1_0, a1_1, a1_2, a1_3, a1_4⟩ : S55) [.string a1_0, .string a1_1, .int .i64 a1_2, .int .i64 a1_3, .bool a1_4] (fun k_ => k_ ≠ gb303) (fun _ => False) rfl rfl ?aP (fun _ hk => hk.elim) ?aF ?aO ?aB ?aS ?aL ?_; (case aP => exact k55_mkM _ _ _ (⟨a1_0, a1_1, a1_2, a1_3, a1_4⟩ : S55)); (case aB => exact (by repeat (first | (with_reducible first | exact HB.out | apply below_alloc | apply pw_below_drewN | apply below_drew1 | refine below_set ?_ GE302.out | refine below_set ?_ GE303.out | refine below_set ?_ GE304.out) | exact HB.out))); (case aF => exact (fun k_ hk => Kd.freshB (g := gb303) (o := .cells #[.string a1_0, .string a1_1, .int .i64 a1_2, .int .i64 a1_3, .bool a1_4] 55 (0, 0)) (by (with_reducible repeat (first | refine blk_drewN ?_ _ | refine blk_drew ?_ | refine blk_alloc ?_ _)); exact BK303.out) k_ hk)); (case aO => exact (by (with_reducible repeat (first | apply Kd.R_alloc | apply Kd.R_drewN | apply Kd.R_drew)); exact HO_5.out)); (case aS => exact (below_size (by repeat (first | (with_reducible first | exact HB.out | apply below_alloc | apply pw_below_drewN | apply below_drew1 | refine below_set ?_ GE302.out | refine below_set ?_ GE303.out | refine below_set ?_ GE304.out) | exact HB.out)))); (case aL => have := LMc19.out; omega); intro v310 w34 ho hb hg hat; rw [← Ny309.out] at ho; have n0_ := Aside0.mk (blk_grown (g := gb302) (o := .cells #[.int .i64 a0_0, .int .i64 a0_1, .slice A0_2 l0_2.length c0_2] 49 (0, 0)) (by (with_reducible repeat (first | refine blk_drewN ?_ _ | refine blk_drew ?_ | refine blk_alloc ?_ _)); exact BK302.out) hg (Kd.R_ne HO_5.out BK302.out (by decide))); have n1_ := Aside0.mk (blk_grown (g := gb303) (o := .cells #[.string a1_0, .string a1_1, .int .i64 a1_2, .int .i64 a1_3, .bool a1_4] 55 (0, 0)) (by (with_reducible repeat (first | refine blk_drewN ?_ _ | refine blk_drew ?_ | refine blk_alloc ?_ _)); exact BK303.out) hg (Kd.R_away HO_5.out (fun _ hk => hk))); have n2_ := Aside0.mk (blk_grown (g := gb304) (o := .cells #[.int .i64 0, .int .i64 0, .slice none 0 0] 49 (0, 0)) (by (with_reducible repeat (first | refine blk_drewN ?_ _ | refine blk_drew ?_ | refine blk_alloc ?_ _)); exact BK304.out) hg (Kd.R_ne HO_5.out BK304.out (by decide))); have n3_ := Aside0.mk (hb); have n4_ := Aside0.mk (ho); clear BK302; clear BK303; clear BK304; clear HB; clear HO_5; have BK302 := n0_; have BK303 := n1_; have BK304 := n2_; have HB := n3_; have HO311 := n4_; clear n0_ n1_ n2_ n3_ n4_; clear ho hb hg hat; have hnb35 := NB302_304.out; have hnc35 := NB304_302.out; have hcz36_0 : w34.cell? ⟨gb302, 0, none⟩ = some (.int .i64 a0_0) := (blk_cell BK302.out 0).trans rfl; have hcz36_1 : w34.cell? ⟨gb302, 1, none⟩ = some (.int .i64 a0_1) := (blk_cell BK302.out 1).trans rfl; have hcz36_2 : w34.cell? ⟨gb302, 2, none⟩ = some (.slice A0_2 l0_2.length c0_2) := (blk_cell BK302.out 2).trans rfl; have hfz36_0 := blk_frozen BK302.out 0; have hfz36_1 := blk_frozen BK302.out 1; have hfz36_2 := blk_frozen BK302.out 2; have p312 : 0 ≤ (x7_1 : Int) := of_decide_eq_true (by first | (with_reducible assumption) | assumption); have q312 : x7_1 < (l0_2.length : Int) := of_decide_eq_true (by first | (with_reducible assumption) | assumption); obtain ⟨ad312, e312, hx312_0, hx312_1, hx312_2, hx312_3, hx312_4⟩ := at_T55 HR0_2.out x7_1 p312 q312; cases e312; replace hx312_0 := (HB.out.cell (World.block_lt_of_cell? w _ hx312_0)).trans hx312_0; replace hx312_1 := (HB.out.cell (World.block_lt_of_cell? w _ hx312_1)).trans hx312_1; replace hx312_2 := (HB.out.cell (World.block_lt_of_cell? w _ hx312_2)).trans hx312_2; replace hx312_3 := (HB.out.cell (World.block_lt_of_cell? w _ hx312_3)).trans hx312_3; replace hx312_4 := (HB.out.cell (World.block_lt_of_cell? w _ hx312_4)).trans hx312_4; replace p312 := eq_true p312; replace q312 := eq_true q312; have hcz37_0 : w34.cell? ⟨gb303, 0, none⟩ = some (.string a1_0) := (blk_cell BK303.out 0).trans rfl; have hcz37_1 : w34.cell? ⟨gb303, 1, none⟩ = some (.string a1_1) := (blk_cell BK303.out 1).trans rfl; have hcz37_2 : w34.cell? ⟨gb303, 2, none⟩ = some (.int .i64 a1_2) := (blk_cell BK303.out 2).trans rfl; have hcz37_3 : w34.cell? ⟨gb303, 3, none⟩ = some (.int .i64 a1_3) := (blk_cell BK303.out 3).trans rfl; have hcz37_4 : w34.cell? ⟨gb303, 4, none⟩ = some (.bool a1_4) := (blk_cell BK303.out 4).trans rfl; have hfz37_0 := blk_frozen BK303.out 0; have hfz37_1 := blk_frozen BK303.out 1; have hfz37_2 := blk_frozen BK303.out 2; have hfz37_3 := blk_frozen BK303.out 3; have hfz37_4 := blk_frozen BK303.out 4; have p313 : 0 ≤ (x7_1 : Int) := of_decide_eq_true (by first | (with_reducible assumption) | assumption); have q313 : x7_1 < (l0_2.length : Int) := of_decide_eq_true (by first | (with_reducible assumption) | assumption); obtain ⟨ad313, e313, hx313_0, hx313_1, hx313_2, hx313_3, hx313_4⟩ := at_T55 HR0_2.out x7_1 p313 q313; obtain rfl : ad312 = ad313 := (by injection e313); replace hx313_0 := (HB.out.cell (World.block_lt_of_cell? w _ hx313_0)).trans hx313_0; replace hx313_1 := (HB.out.cell (World.block_lt_of_cell? w _ hx313_1)).trans hx313_1; replace hx313_2 := (HB.out.cell (World.block_lt_of_cell? w _ hx313_2)).trans hx313_2; replace hx313_3 := (HB.out.cell (World.block_lt_of_cell? w _ hx313_3)).trans hx313_3; replace hx313_4 := (HB.out.cell (World.block_lt_of_cell? w _ hx313_4)).trans hx313_4; replace p313 := eq_true p313; replace q313 := eq_true q313) | ((with_reducible refine gate_builtin (b := .append) (xs := #[.tmp 41, .tmp 47]) rfl ?_); at_builtin; refine Kd.R_append k55 (w0 := w) w.heap.size rfl (.tmp 41) (.tmp 47) 47 55 (.agg #[(.string ⟨#[]⟩), (.string ⟨#[]⟩), (.int .i64 0), (.int .i64 0), (.bool false)]) 56 rfl Try.underlying47 info55 rfl (by decide) (by omega) v310 y309 (⟨(rd_T55 l0_2 x7_1).f0, (rd_T55 l0_2 x7_1).f1, (rd_T55 l0_2 x7_1).f2, (rd_T55 l0_2 x7_1).f3, (rd_T55 l0_2 x7_1).f4⟩ : S55) [.string ((rd_T55 l0_2 x7_1).f0), .string ((rd_T55 l0_2 x7_1).f1), .int .i64 ((rd_T55 l0_2 x7_1).f2), .int .i64 ((rd_T55 l0_2 x7_1).f3), .bool ((rd_T55 l0_2 x7_1).f4)] (fun k_ => k_ ≠ gb303) (fun _ => False) rfl rfl ?aP (fun _ hk => hk.elim) ?aF ?aO ?aB ?aS ?aL ?_; (case aP => exact k55_mkM _ _ _ (⟨(rd_T55 l0_2 x7_1).f0, (rd_T55 l0_2 x7_1).f1, (rd_T55 l0_2 x7_1).f2, (rd_T55 l0_2 x7_1).f3, (rd_T55 l0_2 x7_1).f4⟩ : S55)); (case aB => exact (by repeat (first | (with_reducible first | exact HB.out | apply below_alloc | apply pw_below_drewN | apply below_drew1 | refine below_set ?_ GE302.out | refine below_set ?_ GE303.out | refine below_set ?_ GE304.out) | exact HB.out))); (case aF => exact (fun k_ hk => Kd.freshB (g := gb303) (o := .cells #[.string a1_0, .string a1_1, .int .i64 a1_2, .int .i64 a1_3, .bool a1_4] 55 (0, 0)) (by (with_reducible repeat (first | refine blk_drewN ?_ _ | refine blk_drew ?_ | refine blk_alloc ?_ _)); exact BK303.out) k_ hk)); (case aO => exact (by (with_reducible repeat (first | apply Kd.R_alloc | apply Kd.R_drewN | apply Kd.R_drew)); exact HO311.out)); (case aS => exact (below_size (by repeat (first | (with_reducible first | exact HB.out | apply below_alloc | apply pw_below_drewN | apply below_drew1 | refine below_set ?_ GE302.out | refine below_set ?_ GE303.out | refine below_set ?_ GE304.out) | exact HB.out)))); (case aL => have := LMc30.out; omega); intro v315 w38 ho hb hg hat; rw [← Ny314.out] at ho; have n0_ := Aside0.mk (blk_grown (g := gb302) (o := .cells #[.int .i64 a0_0, .int .i64 a0_1, .slice (some ad312) l0_2.length c0_2] 49 (0, 0)) (by (with_reducible repeat (first | refine blk_drewN ?_ _ | refine blk_drew ?_ | refine blk_alloc ?_ _)); exact BK302.out) hg (Kd.R_ne HO311.out BK302.out (by decide))); have n1_ := Aside0.mk (blk_grown (g := gb303) (o := .cells #[.string a1_0, .string a1_1, .int .i64 a1_2, .int .i64 a1_3, .bool a1_4] 55 (0, 0)) (by (with_reducible repeat (first | refine blk_drewN ?_ _ | refine blk_drew ?_ | refine blk_alloc ?_ _)); exact BK303.out) hg (Kd.R_away HO311.out (fun _ hk => hk))); have n2_ := Aside0.mk (blk_grown (g := gb304) (o := .cells #[.int .i64 0, .int .i64 0, .slice none 0 0] 49 (0, 0)) (by (with_reducible repeat (first | refine blk_drewN ?_ _ | refine blk_drew ?_ | refine blk_alloc ?_ _)); exact BK304.out) hg (Kd.R_ne HO311.out BK304.out (by decide))); have n3_ := Aside0.mk (hb); have n4_ := Aside0.mk (ho); clear BK302; clear BK303; clear BK304; clear HB; clear HO311; have BK302 := n0_; have BK303 := n1_; have BK304 := n2_; have HB := n3_; have HO316 := n4_; clear n0_ n1_ n2_ n3_ n4_; clear ho hb hg hat)))
                        go_roundg kj6
                        case measure => have := HK1.out; have := HJ6.out; omega
                        case rel => exact ⟨(y314), (true), (wrap64 (x7_1 + 1)), (by first | rfl | (simp; done) | (simp [*]; done)), (by first | rfl | (simp; done) | (simp [*]; done)), H', ⟨by have := HK1.out; have := HJ6.out; omega⟩, ⟨by (with_reducible repeat (first | apply Kd.R_alloc | apply Kd.R_drewN | apply Kd.R_drew)); exact HO316.out⟩, ⟨by (with_reducible repeat (first | refine blk_drewN ?_ _ | refine blk_drew ?_ | refine blk_alloc ?_ _)); exact BK302.out⟩, ⟨by (with_reducible repeat (first | refine blk_drewN ?_ _ | refine blk_drew ?_ | refine blk_alloc ?_ _)); exact BK303.out⟩, ⟨by (with_reducible repeat (first | refine blk_drewN ?_ _ | refine blk_drew ?_ | refine blk_alloc ?_ _)); exact BK304.out⟩, ⟨by repeat (first | (with_reducible first | exact HB.out | apply below_alloc | apply pw_below_drewN | apply below_drew1 | refine below_set ?_ GE302.out | refine below_set ?_ GE303.out | refine below_set ?_ GE304.out) | exact HB.out)⟩⟩
                      · rw [if_neg c30] at H
                        exact absurd H (by simp)
                  · rw [if_neg c21] at H
                    exact absurd H (by simp)
                · rw [if_neg c20] at H
                  exact absurd H (by simp)
              · rw [if_neg c19] at H
                exact absurd H (by simp)
            · replace c18 := Bool.eq_false_iff.mpr c18
              subst c18
              have H1 : (if 0 ≤ x7_1 then (if x7_1 < (l0_2.length : Int) then (if ((rd_T55 l0_2 x7_1).f0).toList = a1_0.toList then (cupelref13_set.l0 kj6 x5_1 x6_1 (wrap64 (x7_1 + 1)) a0_0 a0_1 l0_2 a1_0 a1_1 a1_2 a1_3 a1_4) else (if x5_1.length < 2513169434916 then (cupelref13_set.l0 kj6 (x5_1 ++ [(⟨(rd_T55 l0_2 x7_1).f0, (rd_T55 l0_2 x7_1).f1, (rd_T55 l0_2 x7_1).f2, (rd_T55 l0_2 x7_1).f3, (rd_T55 l0_2 x7_1).f4⟩ : S55)]) x6_1 (wrap64 (x7_1 + 1)) a0_0 a0_1 l0_2 a1_0 a1_1 a1_2 a1_3 a1_4) else (none))) else (none)) else (none)) = some (r1, r2, r3) := by rw [if_neg (show ¬ (false = true) by decide)] at H; exact H
              clear H
              have H := H1
              clear H1
              by_cases c39 : 0 ≤ x7_1
              · rw [if_pos c39] at H
                have c39b0 : decide (0 ≤ x7_1) = true := decide_eq_true c39
                clear c39
                by_cases c40 : x7_1 < (l0_2.length : Int)
                · rw [if_pos c40] at H
                  have c40b0 : decide (x7_1 < (l0_2.length : Int)) = true := decide_eq_true c40
                  clear c40
                  by_cases c41 : ((rd_T55 l0_2 x7_1).f0).toList = a1_0.toList
                  · rw [if_pos c41] at H
                    have c41b0 : (((rd_T55 l0_2 x7_1).f0).toList == a1_0.toList) = true := beq_iff_eq.mpr c41
                    have c41b1 : (((rd_T55 l0_2 x7_1).f0).toList != a1_0.toList) = false := bne_eq_false_iff_eq.mpr c41
                    clear c41
                    have H' := Aside0.mk H
                    clear H
                    have hnb42 := NB302_303.out
                    have hnc42 := NB303_302.out
                    have hnb43 := NB302_304.out
                    have hnc43 := NB304_302.out
                    have hcz44_0 : wc.cell? ⟨gb302, 0, none⟩ = some (.int .i64 a0_0) := (blk_cell BK302.out 0).trans rfl
                    have hcz44_1 : wc.cell? ⟨gb302, 1, none⟩ = some (.int .i64 a0_1) := (blk_cell BK302.out 1).trans rfl
                    have hcz44_2 : wc.cell? ⟨gb302, 2, none⟩ = some (.slice A0_2 l0_2.length c0_2) := (blk_cell BK302.out 2).trans rfl
                    have hfz44_0 := blk_frozen BK302.out 0
                    have hfz44_1 := blk_frozen BK302.out 1
                    have hfz44_2 := blk_frozen BK302.out 2
                    have p317 : 0 ≤ (x7_1 : Int) := of_decide_eq_true (by first | (with_reducible assumption) | assumption)
                    have q317 : x7_1 < (l0_2.length : Int) := of_decide_eq_true (by first | (with_reducible assumption) | assumption)
                    obtain ⟨ad317, e317, hx317_0, hx317_1, hx317_2, hx317_3, hx317_4⟩ := at_T55 HR0_2.out x7_1 p317 q317
                    cases e317
                    replace hx317_0 := (HB.out.cell (World.block_lt_of_cell? w _ hx317_0)).trans hx317_0
                    replace hx317_1 := (HB.out.cell (World.block_lt_of_cell? w _ hx317_1)).trans hx317_1
                    replace hx317_2 := (HB.out.cell (World.block_lt_of_cell? w _ hx317_2)).trans hx317_2
                    replace hx317_3 := (HB.out.cell (World.block_lt_of_cell? w _ hx317_3)).trans hx317_3
                    replace hx317_4 := (HB.out.cell (World.block_lt_of_cell? w _ hx317_4)).trans hx317_4
                    replace p317 := eq_true p317
                    replace q317 := eq_true q317
                    have hnb45 := NB303_304.out
                    have hnc45 := NB304_303.out
                    have hcz46_0 : wc.cell? ⟨gb303, 0, none⟩ = some (.string a1_0) := (blk_cell BK303.out 0).trans rfl
                    have hcz46_1 : wc.cell? ⟨gb303, 1, none⟩ = some (.string a1_1) := (blk_cell BK303.out 1).trans rfl
                    have hcz46_2 : wc.cell? ⟨gb303, 2, none⟩ = some (.int .i64 a1_2) := (blk_cell BK303.out 2).trans rfl
                    have hcz46_3 : wc.cell? ⟨gb303, 3, none⟩ = some (.int .i64 a1_3) := (blk_cell BK303.out 3).trans rfl
                    have hcz46_4 : wc.cell? ⟨gb303, 4, none⟩ = some (.bool a1_4) := (blk_cell BK303.out 4).trans rfl
                    have hfz46_0 := blk_frozen BK303.out 0
                    have hfz46_1 := blk_frozen BK303.out 1
                    have hfz46_2 := blk_frozen BK303.out 2
                    have hfz46_3 := blk_frozen BK303.out 3
                    have hfz46_4 := blk_frozen BK303.out 4
                    go_wp2
                    repeat (go_quiet (fail); try go_wp2)
                    go_roundg kj6
                    case measure => have := HK1.out; have := HJ6.out; omega
                    case rel => exact ⟨(x5_1), (x6_1), (wrap64 (x7_1 + 1)), (by first | rfl | (simp; done) | (simp [*]; done)), (by first | rfl | (simp; done) | (simp [*]; done)), H', ⟨by have := HK1.out; have := HJ6.out; omega⟩, ⟨by (with_reducible repeat (first | apply Kd.R_alloc | apply Kd.R_drewN | apply Kd.R_drew)); exact HO_5.out⟩, ⟨by (with_reducible repeat (first | refine blk_drewN ?_ _ | refine blk_drew ?_ | refine blk_alloc ?_ _)); exact BK302.out⟩, ⟨by (with_reducible repeat (first | refine blk_drewN ?_ _ | refine blk_drew ?_ | refine blk_alloc ?_ _)); exact BK303.out⟩, ⟨by (with_reducible repeat (first | refine blk_drewN ?_ _ | refine blk_drew ?_ | refine blk_alloc ?_ _)); exact BK304.out⟩, ⟨by repeat (first | (with_reducible first | exact HB.out | apply below_alloc | apply pw_below_drewN | apply below_drew1 | refine below_set ?_ GE302.out | refine below_set ?_ GE303.out | refine below_set ?_ GE304.out) | exact HB.out)⟩⟩
                  · rw [if_neg c41] at H
                    have c41b0 : (((rd_T55 l0_2 x7_1).f0).toList == a1_0.toList) = false := beq_eq_false_iff_ne.mpr c41
                    have c41b1 : (((rd_T55 l0_2 x7_1).f0).toList != a1_0.toList) = true := bne_iff_ne.mpr c41
                    by_cases c47 : x5_1.length < 2513169434916
                    · rw [if_pos c47] at H
                      have LMc47 := Aside0.mk c47
                      clear c47
                      obtain ⟨y319, hy319⟩ : ∃ y_ : List (S55), y_ = (x5_1 ++ [(⟨(rd_T55 l0_2 x7_1).f0, (rd_T55 l0_2 x7_1).f1, (rd_T55 l0_2 x7_1).f2, (rd_T55 l0_2 x7_1).f3, (rd_T55 l0_2 x7_1).f4⟩ : S55)]) := ⟨_, rfl⟩
                      replace H : (cupelref13_set.l0 kj6 y319 x6_1 (wrap64 (x7_1 + 1)) a0_0 a0_1 l0_2 a1_0 a1_1 a1_2 a1_3 a1_4) = some (r1, r2, r3) := by first | (rw [hy319]; with_reducible exact H) | (have H2_ := (Option.bind_some _ _).symm.trans H; rw [hy319]; with_reducible exact H2_) | (have H2_ := (Option.bind_some _ _).symm.trans H; with_reducible exact H2_) | with_reducible exact H | (rw [hy319]; exact H) | exact H
                      have Ny319 := Aside0.mk hy319
                      clear hy319
                      have H' := Aside0.mk H
                      clear H
                      have hnb48 := NB302_303.out
                      have hnc48 := NB303_302.out
                      have hnb49 := NB302_304.out
                      have hnc49 := NB304_302.out
                      have hcz50_0 : wc.cell? ⟨gb302, 0, none⟩ = some (.int .i64 a0_0) := (blk_cell BK302.out 0).trans rfl
                      have hcz50_1 : wc.cell? ⟨gb302, 1, none⟩ = some (.int .i64 a0_1) := (blk_cell BK302.out 1).trans rfl
                      have hcz50_2 : wc.cell? ⟨gb302, 2, none⟩ = some (.slice A0_2 l0_2.length c0_2) := (blk_cell BK302.out 2).trans rfl
                      have hfz50_0 := blk_frozen BK302.out 0
                      have hfz50_1 := blk_frozen BK302.out 1
                      have hfz50_2 := blk_frozen BK302.out 2
                      have p317 : 0 ≤ (x7_1 : Int) := of_decide_eq_true (by first | (with_reducible assumption) | assumption)
                      have q317 : x7_1 < (l0_2.length : Int) := of_decide_eq_true (by first | (with_reducible assumption) | assumption)
                      obtain ⟨ad317, e317, hx317_0, hx317_1, hx317_2, hx317_3, hx317_4⟩ := at_T55 HR0_2.out x7_1 p317 q317
                      cases e317
                      replace hx317_0 := (HB.out.cell (World.block_lt_of_cell? w _ hx317_0)).trans hx317_0
                      replace hx317_1 := (HB.out.cell (World.block_lt_of_cell? w _ hx317_1)).trans hx317_1
                      replace hx317_2 := (HB.out.cell (World.block_lt_of_cell? w _ hx317_2)).trans hx317_2
                      replace hx317_3 := (HB.out.cell (World.block_lt_of_cell? w _ hx317_3)).trans hx317_3
                      replace hx317_4 := (HB.out.cell (World.block_lt_of_cell? w _ hx317_4)).trans hx317_4
                      replace p317 := eq_true p317
                      replace q317 := eq_true q317
                      have hnb51 := NB303_304.out
                      have hnc51 := NB304_303.out
                      have hcz52_0 : wc.cell? ⟨gb303, 0, none⟩ = some (.string a1_0) := (blk_cell BK303.out 0).trans rfl
                      have hcz52_1 : wc.cell? ⟨gb303, 1, none⟩ = some (.string a1_1) := (blk_cell BK303.out 1).trans rfl
                      have hcz52_2 : wc.cell? ⟨gb303, 2, none⟩ = some (.int .i64 a1_2) := (blk_cell BK303.out 2).trans rfl
                      have hcz52_3 : wc.cell? ⟨gb303, 3, none⟩ = some (.int .i64 a1_3) := (blk_cell BK303.out 3).trans rfl
                      have hcz52_4 : wc.cell? ⟨gb303, 4, none⟩ = some (.bool a1_4) := (blk_cell BK303.out 4).trans rfl
                      have hfz52_0 := blk_frozen BK303.out 0
                      have hfz52_1 := blk_frozen BK303.out 1
                      have hfz52_2 := blk_frozen BK303.out 2
                      have hfz52_3 := blk_frozen BK303.out 3
                      have hfz52_4 := blk_frozen BK303.out 4
                      have p318 : 0 ≤ (x7_1 : Int) := of_decide_eq_true (by first | (with_reducible assumption) | assumption)
                      have q318 : x7_1 < (l0_2.length : Int) := of_decide_eq_true (by first | (with_reducible assumption) | assumption)
                      obtain ⟨ad318, e318, hx318_0, hx318_1, hx318_2, hx318_3, hx318_4⟩ := at_T55 HR0_2.out x7_1 p318 q318
                      obtain rfl : ad317 = ad318 := (by injection e318)
                      replace hx318_0 := (HB.out.cell (World.block_lt_of_cell? w _ hx318_0)).trans hx318_0
                      replace hx318_1 := (HB.out.cell (World.block_lt_of_cell? w _ hx318_1)).trans hx318_1
                      replace hx318_2 := (HB.out.cell (World.block_lt_of_cell? w _ hx318_2)).trans hx318_2
                      replace hx318_3 := (HB.out.cell (World.block_lt_of_cell? w _ hx318_3)).trans hx318_3
                      replace hx318_4 := (HB.out.cell (World.block_lt_of_cell? w _ hx318_4)).trans hx318_4
                      replace p318 := eq_true p318
                      replace q318 := eq_true q318
                      go_wp2_with (first | ((with_reducible refine gate_builtin (b := .append) (xs := #[.tmp 41, .tmp 47]) rfl ?_); at_builtin; refine Kd.R_append k55 (w0 := w) w.heap.size rfl (.tmp 41) (.tmp 47) 47 55 (.agg #[(.string ⟨#[]⟩), (.string ⟨#[]⟩), (.int .i64 0), (.int .i64 0), (.bool false)]) 56 rfl Try.underlying47 info55 rfl (by decide) (by omega) u5 x5_1 (⟨(rd_T55 l0_2 x7_1).f0, (rd_T55 l0_2 x7_1).f1, (rd_T55 l0_2 x7_1).f2, (rd_T55 l0_2 x7_1).f3, (rd_T55 l0_2 x7_1).f4⟩ : S55) [.string ((rd_T55 l0_2 x7_1).f0), .string ((rd_T55 l0_2 x7_1).f1), .int .i64 ((rd_T55 l0_2 x7_1).f2), .int .i64 ((rd_T55 l0_2 x7_1).f3), .bool ((rd_T55 l0_2 x7_1).f4)] (fun k_ => k_ ≠ gb303) (fun _ => False) rfl rfl ?aP (fun _ hk => hk.elim) ?aF ?aO ?aB ?aS ?aL ?_; (case aP => exact k55_mkM _ _ _ (⟨(rd_T55 l0_2 x7_1).f0, (rd_T55 l0_2 x7_1).f1, (rd_T55 l0_2 x7_1).f2, (rd_T55 l0_2 x7_1).f3, (rd_T55 l0_2 x7_1).f4⟩ : S55)); (case aB => exact (by repeat (first | (with_reducible first | exact HB.out | apply below_alloc | apply pw_below_drewN | apply below_drew1 | refine below_set ?_ GE302.out | refine below_set ?_ GE303.out | refine below_set ?_ GE304.out) | exact HB.out))); (case aF => exact (fun k_ hk => Kd.freshB (g := gb303) (o := .cells #[.string a1_0, .string a1_1, .int .i64 a1_2, .int .i64 a1_3, .bool a1_4] 55 (0, 0)) (by (with_reducible repeat (first | refine blk_drewN ?_ _ | refine blk_drew ?_ | refine blk_alloc ?_ _)); exact BK303.out) k_ hk)); (case aO => exact (by (with_reducible repeat (first | apply Kd.R_alloc | apply Kd.R_drewN | apply Kd.R_drew)); exact HO_5.out)); (case aS => exact (below_size (by repeat (first | (with_reducible first | exact HB.out | apply below_alloc | apply pw_below_drewN | apply below_drew1 | refine below_set ?_ GE302.out | refine below_set ?_ GE303.out | refine below_set ?_ GE304.out) | exact HB.out)))); (case aL => have := LMc47.out; omega); intro v320 w53 ho hb hg hat; rw [← Ny319.out] at ho; have n0_ := Aside0.mk (blk_grown (g := gb302) (o := .cells #[.int .i64 a0_0, .int .i64 a0_1, .slice (some ad317) l0_2.length c0_2] 49 (0, 0)) (by (with_reducible repeat (first | refine blk_drewN ?_ _ | refine blk_drew ?_ | refine blk_alloc ?_ _)); exact BK302.out) hg (Kd.R_ne HO_5.out BK302.out (by decide))); have n1_ := Aside0.mk (blk_grown (g := gb303) (o := .cells #[.string a1_0, .string a1_1, .int .i64 a1_2, .int .i64 a1_3, .bool a1_4] 55 (0, 0)) (by (with_reducible repeat (first | refine blk_drewN ?_ _ | refine blk_drew ?_ | refine blk_alloc ?_ _)); exact BK303.out) hg (Kd.R_away HO_5.out (fun _ hk => hk))); have n2_ := Aside0.mk (blk_grown (g := gb304) (o := .cells #[.int .i64 0, .int .i64 0, .slice none 0 0] 49 (0, 0)) (by (with_reducible repeat (first | refine blk_drewN ?_ _ | refine blk_drew ?_ | refine blk_alloc ?_ _)); exact BK304.out) hg (Kd.R_ne HO_5.out BK304.out (by decide))); have n3_ := Aside0.mk (hb); have n4_ := Aside0.mk (ho); clear BK302; clear BK303; clear BK304; clear HB; clear HO_5; have BK302 := n0_; have BK303 := n1_; have BK304 := n2_; have HB := n3_; have HO321 := n4_; clear n0_ n1_ n2_ n3_ n4_; clear ho hb hg hat))
                      repeat (go_quiet (first | ((with_reducible refine gate_builtin (b := .append) (xs := #[.tmp 41, .tmp 47]) rfl ?_); at_builtin; refine Kd.R_append k55 (w0 := w) w.heap.size rfl (.tmp 41) (.tmp 47) 47 55 (.agg #[(.string ⟨#[]⟩), (.string ⟨#[]⟩), (.int .i64 0), (.int .i64 0), (.bool false)]) 56 rfl Try.underlying47 info55 rfl (by decide) (by omega) u5 x5_1 (⟨(rd_T55 l0_2 x7_1).f0, (rd_T55 l0_2 x7_1).f1, (rd_T55 l0_2 x7_1).f2, (rd_T55 l0_2 x7_1).f3, (rd_T55 l0_2 x7_1).f4⟩ : S55) [.string ((rd_T55 l0_2 x7_1).f0), .string ((rd_T55 l0_2 x7_1).f1), .int .i64 ((rd_T55 l0_2 x7_1).f2), .int .i64 ((rd_T55 l0_2 x7_1).f3), .bool ((rd_T55 l0_2 x7_1).f4)] (fun k_ => k_ ≠ gb303) (fun _ => False) rfl rfl ?aP (fun _ hk => hk.elim) ?aF ?aO ?aB ?aS ?aL ?_; (case aP => exact k55_mkM _ _ _ (⟨(rd_T55 l0_2 x7_1).f0, (rd_T55 l0_2 x7_1).f1, (rd_T55 l0_2 x7_1).f2, (rd_T55 l0_2 x7_1).f3, (rd_T55 l0_2 x7_1).f4⟩ : S55)); (case aB => exact (by repeat (first | (with_reducible first | exact HB.out | apply below_alloc | apply pw_below_drewN | apply below_drew1 | refine below_set ?_ GE302.out | refine below_set ?_ GE303.out | refine below_set ?_ GE304.out) | exact HB.out))); (case aF => exact (fun k_ hk => Kd.freshB (g := gb303) (o := .cells #[.string a1_0, .string a1_1, .int .i64 a1_2, .int .i64 a1_3, .bool a1_4] 55 (0, 0)) (by (with_reducible repeat (first | refine blk_drewN ?_ _ | refine blk_drew ?_ | refine blk_alloc ?_ _)); exact BK303.out) k_ hk)); (case aO => exact (by (with_reducible repeat (first | apply Kd.R_alloc | apply Kd.R_drewN | apply Kd.R_drew)); exact HO_5.out)); (case aS => exact (below_size (by repeat (first | (with_reducible first | exact HB.out | apply below_alloc | apply pw_below_drewN | apply below_drew1 | refine below_set ?_ GE302.out | refine below_set ?_ GE303.out | refine below_set ?_ GE304.out) | exact HB.out)))); (case aL => have := LMc47.out; omega); intro v320 w53 ho hb hg hat; rw [← Ny319.out] at ho; have n0_ := Aside0.mk (blk_grown (g := gb302) (o := .cells #[.int .i64 a0_0, .int .i64 a0_1, .slice (some ad317) l0_2.length c0_2] 49 (0, 0)) (by (with_reducible repeat (first | refine blk_drewN ?_ _ | refine blk_drew ?_ | refine blk_alloc ?_ _)); exact BK302.out) hg (Kd.R_ne HO_5.out BK302.out (by decide))); have n1_ := Aside0.mk (blk_grown (g := gb303) (o := .cells #[.string a1_0, .string a1_1, .int .i64 a1_2, .int .i64 a1_3, .bool a1_4] 55 (0, 0)) (by (with_reducible repeat (first | refine blk_drewN ?_ _ | refine blk_drew ?_ | refine blk_alloc ?_ _)); exact BK303.out) hg (Kd.R_away HO_5.out (fun _ hk => hk))); have n2_ := Aside0.mk (blk_grown (g := gb304) (o := .cells #[.int .i64 0, .int .i64 0, .slice none 0 0] 49 (0, 0)) (by (with_reducible repeat (first | refine blk_drewN ?_ _ | refine blk_drew ?_ | refine blk_alloc ?_ _)); exact BK304.out) hg (Kd.R_ne HO_5.out BK304.out (by decide))); have n3_ := Aside0.mk (hb); have n4_ := Aside0.mk (ho); clear BK302; clear BK303; clear BK304; clear HB; clear HO_5; have BK302 := n0_; have BK303 := n1_; have BK304 := n2_; have HB := n3_; have HO321 := n4_; clear n0_ n1_ n2_ n3_ n4_; clear ho hb hg hat)); try go_wp2_with (first | ((with_reducible refine gate_builtin (b := .append) (xs := #[.tmp 41, .tmp 47]) rfl ?_); at_builtin; refine Kd.R_append k55 (w0 := w) w.heap.size rfl (.tmp 41) (.tmp 47) 47 55 (.agg #[(.string ⟨#[]⟩), (.string ⟨#[]⟩), (.int .i64 0), (.int .i64 0), (.bool false)]) 56 rfl Try.underlying47 info55 rfl (by decide) (by omega) u5 x5_1 (⟨(rd_T55 l0_2 x7_1).f0, (rd_T55 l0_2 x7_1).f1, (rd_T55 l0_2 x7_1).f2, (rd_T55 l0_2 x7_1).f3, (rd_T55 l0_2 x7_1).f4⟩ : S55) [.string ((rd_T55 l0_2 x7_1).f0), .string ((rd_T55 l0_2 x7_1).f1), .int .i64 ((rd_T55 l0_2 x7_1).f2), .int .i64 ((rd_T55 l0_2 x7_1).f3), .bool ((rd_T55 l0_2 x7_1).f4)] (fun k_ => k_ ≠ gb303) (fun _ => False) rfl rfl ?aP (fun _ hk => hk.elim) ?aF ?aO ?aB ?aS ?aL ?_; (case aP => exact k55_mkM _ _ _ (⟨(rd_T55 l0_2 x7_1).f0, (rd_T55 l0_2 x7_1).f1, (rd_T55 l0_2 x7_1).f2, (rd_T55 l0_2 x7_1).f3, (rd_T55 l0_2 x7_1).f4⟩ : S55)); (case aB => exact (by repeat (first | (with_reducible first | exact HB.out | apply below_alloc | apply pw_below_drewN | apply below_drew1 | refine below_set ?_ GE302.out | refine below_set ?_ GE303.out | refine below_set ?_ GE304.out) | exact HB.out))); (case aF => exact (fun k_ hk => Kd.freshB (g := gb303) (o := .cells #[.string a1_0, .string a1_1, .int .i64 a1_2, .int .i64 a1_3, .bool a1_4] 55 (0, 0)) (by (with_reducible repeat (first | refine blk_drewN ?_ _ | refine blk_drew ?_ | refine blk_alloc ?_ _)); exact BK303.out) k_ hk)); (case aO => exact (by (with_reducible repeat (first | apply Kd.R_alloc | apply Kd.R_drewN | apply Kd.R_drew)); exact HO_5.out)); (case aS => exact (below_size (by repeat (first | (with_reducible first | exact HB.out | apply below_alloc | apply pw_below_drewN | apply below_drew1 | refine below_set ?_ GE302.out | refine below_set ?_ GE303.out | refine below_set ?_ GE304.out) | exact HB.out)))); (case aL => have := LMc47.out; omega); intro v320 w53 ho hb hg hat; rw [← Ny319.out] at ho; have n0_ := Aside0.mk (blk_grown (g := gb302) (o := .cells #[.int .i64 a0_0, .int .i64 a0_1, .slice (some ad317) l0_2.length c0_2] 49 (0, 0)) (by (with_reducible repeat (first | refine blk_drewN ?_ _ | refine blk_drew ?_ | refine blk_alloc ?_ _)); exact BK302.out) hg (Kd.R_ne HO_5.out BK302.out (by decide))); have n1_ := Aside0.mk (blk_grown (g := gb303) (o := .cells #[.string a1_0, .string a1_1, .int .i64 a1_2, .int .i64 a1_3, .bool a1_4] 55 (0, 0)) (by (with_reducible repeat (first | refine blk_drewN ?_ _ | refine blk_drew ?_ | refine blk_alloc ?_ _)); exact BK303.out) hg (Kd.R_away HO_5.out (fun _ hk => hk))); have n2_ := Aside0.mk (blk_grown (g := gb304) (o := .cells #[.int .i64 0, .int .i64 0, .slice none 0 0] 49 (0, 0)) (by (with_reducible repeat (first | refine blk_drewN ?_ _ | refine blk_drew ?_ | refine blk_alloc ?_ _)); exact BK304.out) hg (Kd.R_ne HO_5.out BK304.out (by decide))); have n3_ := Aside0.mk (hb); have n4_ := Aside0.mk (ho); clear BK302; clear BK303; clear BK304; clear HB; clear HO_5; have BK302 := n0_; have BK303 := n1_; have BK304 := n2_; have HB := n3_; have HO321 := n4_; clear n0_ n1_ n2_ n3_ n4_; clear ho hb hg hat)))
                      go_roundg kj6
                      case measure => have := HK1.out; have := HJ6.out; omega
                      case rel => exact ⟨(y319), (x6_1), (wrap64 (x7_1 + 1)), (by first | rfl | (simp; done) | (simp [*]; done)), (by first | rfl | (simp; done) | (simp [*]; done)), H', ⟨by have := HK1.out; have := HJ6.out; omega⟩, ⟨by (with_reducible repeat (first | apply Kd.R_alloc | apply Kd.R_drewN | apply Kd.R_drew)); exact HO321.out⟩, ⟨by (with_reducible repeat (first | refine blk_drewN ?_ _ | refine blk_drew ?_ | refine blk_alloc ?_ _)); exact BK302.out⟩, ⟨by (with_reducible repeat (first | refine blk_drewN ?_ _ | refine blk_drew ?_ | refine blk_alloc ?_ _)); exact BK303.out⟩, ⟨by (with_reducible repeat (first | refine blk_drewN ?_ _ | refine blk_drew ?_ | refine blk_alloc ?_ _)); exact BK304.out⟩, ⟨by repeat (first | (with_reducible first | exact HB.out | apply below_alloc | apply pw_below_drewN | apply below_drew1 | refine below_set ?_ GE302.out | refine below_set ?_ GE303.out | refine below_set ?_ GE304.out) | exact HB.out)⟩⟩
                    · rw [if_neg c47] at H
                      exact absurd H (by simp)
                · rw [if_neg c40] at H
                  exact absurd H (by simp)
              · rw [if_neg c39] at H
                exact absurd H (by simp)
      · rw [if_neg c6] at H
        have c6b0 : decide (x7_1 < (l0_2.length : Int)) = false := decide_eq_false c6
        clear c6
        by_cases c54 : x6_1 = true
        · subst c54
          have H1 : (some (a0_0, a0_1, x5_1)) = some (r1, r2, r3) := by rw [if_pos rfl] at H; exact H
          clear H
          have H := H1
          clear H1
          simp only [Option.some.injEq, Prod.mk.injEq] at H
          obtain ⟨rfl, rfl, rfl⟩ := H
          have hnb55 := NB302_303.out
          have hnc55 := NB303_302.out
          have hnb56 := NB302_304.out
          have hnc56 := NB304_302.out
          have hcz57_0 : wr.cell? ⟨gb302, 0, none⟩ = some (.int .i64 a0_0) := (blk_cell BK302.out 0).trans rfl
          have hcz57_1 : wr.cell? ⟨gb302, 1, none⟩ = some (.int .i64 a0_1) := (blk_cell BK302.out 1).trans rfl
          have hcz57_2 : wr.cell? ⟨gb302, 2, none⟩ = some (.slice A0_2 l0_2.length c0_2) := (blk_cell BK302.out 2).trans rfl
          have hfz57_0 := blk_frozen BK302.out 0
          have hfz57_1 := blk_frozen BK302.out 1
          have hfz57_2 := blk_frozen BK302.out 2
          obtain ⟨Ao58, co58, eo58⟩ := Kd.R_slice HO_5.out
          subst eo58
          have hnb59 := NB304_303.out
          have hnc59 := NB303_304.out
          have hcz60_0 : wr.cell? ⟨gb304, 0, none⟩ = some (.int .i64 0) := (blk_cell BK304.out 0).trans rfl
          have hcz60_1 : wr.cell? ⟨gb304, 1, none⟩ = some (.int .i64 0) := (blk_cell BK304.out 1).trans rfl
          have hcz60_2 : wr.cell? ⟨gb304, 2, none⟩ = some (.slice none 0 0) := (blk_cell BK304.out 2).trans rfl
          have hfz60_0 := blk_frozen BK304.out 0
          have hfz60_1 := blk_frozen BK304.out 1
          have hfz60_2 := blk_frozen BK304.out 2
          go_wp2
          repeat (go_quiet (fail); try go_wp2)
          refine bodyPost_ret (results_cell_row rfl _ _ gb304 49 #[.int .i64 a0_0, .int .i64 a0_1, .slice Ao58 x5_1.length co58] (0, 0) _ rfl (by (with_reducible repeat (first | refine blk_drewN ?_ _ | refine blk_drew ?_ | refine blk_alloc ?_ _)); refine blk_put (cs := #[.int .i64 a0_0, .int .i64 a0_1, .slice none 0 0]) ?_ 2 _ rfl; (with_reducible repeat (first | refine blk_drewN ?_ _ | refine blk_drew ?_ | refine blk_alloc ?_ _)); refine blk_put (cs := #[.int .i64 a0_0, .int .i64 0, .slice none 0 0]) ?_ 1 _ rfl; (with_reducible repeat (first | refine blk_drewN ?_ _ | refine blk_drew ?_ | refine blk_alloc ?_ _)); refine blk_put (cs := #[.int .i64 0, .int .i64 0, .slice none 0 0]) ?_ 0 _ rfl; (with_reducible repeat (first | refine blk_drewN ?_ _ | refine blk_drew ?_ | refine blk_alloc ?_ _)); refine blk_far ?_ NB304_302.out _; (with_reducible repeat (first | refine blk_drewN ?_ _ | refine blk_drew ?_ | refine blk_alloc ?_ _)); exact BK304.out) Try.underlying49 rfl (by kernel_rfl)) rfl ?_
          exact ⟨_, by first | rfl | (simp [errW_none, errW_some] <;> rfl) | (simp [*, errW_none, errW_some] <;> rfl), by (with_reducible repeat (first | apply Kd.R_alloc | apply Kd.R_drewN | apply Kd.R_drew)); exact Kd.R_mono (Kd.R_far (p := ⟨gb304, 2, none⟩) (Kd.R_far (p := ⟨gb304, 1, none⟩) (Kd.R_far (p := ⟨gb304, 0, none⟩) (Kd.R_far (p := ⟨gb302, 2, none⟩) (Kd.R_types (Kd.R_types HO_5.out BK302.out (by decide)) BK304.out (by decide)) (fun _ hk => hk.1.2) (.slice Ao58 x5_1.length co58)) (fun _ hk => hk.2) (.int .i64 a0_0)) (fun _ hk => hk.2) (.int .i64 a0_1)) (fun _ hk => hk.2) (.slice Ao58 x5_1.length co58)) (fun _ hk => trivial), by repeat (first | (with_reducible first | exact HB.out | apply below_alloc | apply pw_below_drewN | apply below_drew1 | refine below_set ?_ GE302.out | refine below_set ?_ GE303.out | refine below_set ?_ GE304.out) | exact HB.out)⟩
        · replace c54 := Bool.eq_false_iff.mpr c54
          subst c54
          have H1 : (if x5_1.length < 2513169434916 then (some (a0_0, a0_1, (x5_1 ++ [(⟨a1_0, a1_1, a1_2, a1_3, a1_4⟩ : S55)]))) else (none)) = some (r1, r2, r3) := by rw [if_neg (show ¬ (false = true) by decide)] at H; exact H
          clear H
          have H := H1
          clear H1
          by_cases c61 : x5_1.length < 2513169434916
          · rw [if_pos c61] at H
            have LMc61 := Aside0.mk c61
            clear c61
            obtain ⟨y305, hy305⟩ : ∃ y_ : List (S55), y_ = (x5_1 ++ [(⟨a1_0, a1_1, a1_2, a1_3, a1_4⟩ : S55)]) := ⟨_, rfl⟩
            replace H : (some (a0_0, a0_1, y305)) = some (r1, r2, r3) := by first | (rw [hy305]; with_reducible exact H) | (have H2_ := (Option.bind_some _ _).symm.trans H; rw [hy305]; with_reducible exact H2_) | (have H2_ := (Option.bind_some _ _).symm.trans H; with_reducible exact H2_) | with_reducible exact H | (rw [hy305]; exact H) | exact H
            have Ny305 := Aside0.mk hy305
            clear hy305
            simp only [Option.some.injEq, Prod.mk.injEq] at H
            obtain ⟨rfl, rfl, rfl⟩ := H
            have hnb62 := NB302_303.out
            have hnc62 := NB303_302.out
            have hnb63 := NB302_304.out
            have hnc63 := NB304_302.out
            have hcz64_0 : wr.cell? ⟨gb302, 0, none⟩ = some (.int .i64 a0_0) := (blk_cell BK302.out 0).trans rfl
            have hcz64_1 : wr.cell? ⟨gb302, 1, none⟩ = some (.int .i64 a0_1) := (blk_cell BK302.out 1).trans rfl
            have hcz64_2 : wr.cell? ⟨gb302, 2, none⟩ = some (.slice A0_2 l0_2.length c0_2) := (blk_cell BK302.out 2).trans rfl
            have hfz64_0 := blk_frozen BK302.out 0
            have hfz64_1 := blk_frozen BK302.out 1
            have hfz64_2 := blk_frozen BK302.out 2
            have hnb65 := NB303_304.out
            have hnc65 := NB304_303.out
            have hcz66_0 : wr.cell? ⟨gb303, 0, none⟩ = some (.string a1_0) := (blk_cell BK303.out 0).trans rfl
            have hcz66_1 : wr.cell? ⟨gb303, 1, none⟩ = some (.string a1_1) := (blk_cell BK303.out 1).trans rfl
            have hcz66_2 : wr.cell? ⟨gb303, 2, none⟩ = some (.int .i64 a1_2) := (blk_cell BK303.out 2).trans rfl
            have hcz66_3 : wr.cell? ⟨gb303, 3, none⟩ = some (.int .i64 a1_3) := (blk_cell BK303.out 3).trans rfl
            have hcz66_4 : wr.cell? ⟨gb303, 4, none⟩ = some (.bool a1_4) := (blk_cell BK303.out 4).trans rfl
            have hfz66_0 := blk_frozen BK303.out 0
            have hfz66_1 := blk_frozen BK303.out 1
            have hfz66_2 := blk_frozen BK303.out 2
            have hfz66_3 := blk_frozen BK303.out 3
            have hfz66_4 := blk_frozen BK303.out 4
            go_wp2_with (first | ((with_reducible refine gate_builtin (b := .append) (xs := #[.tmp 51, .tmp 53]) rfl ?_); at_builtin; refine Kd.R_append k55 (w0 := w) w.heap.size rfl (.tmp 51) (.tmp 53) 47 55 (.agg #[(.string ⟨#[]⟩), (.string ⟨#[]⟩), (.int .i64 0), (.int .i64 0), (.bool false)]) 56 rfl Try.underlying47 info55 rfl (by decide) (by omega) u5 x5_1 (⟨a1_0, a1_1, a1_2, a1_3, a1_4⟩ : S55) [.string a1_0, .string a1_1, .int .i64 a1_2, .int .i64 a1_3, .bool a1_4] (fun k_ => k_ ≠ gb303) (fun _ => False) rfl rfl ?aP (fun _ hk => hk.elim) ?aF ?aO ?aB ?aS ?aL ?_; (case aP => exact k55_mkM _ _ _ (⟨a1_0, a1_1, a1_2, a1_3, a1_4⟩ : S55)); (case aB => exact (by repeat (first | (with_reducible first | exact HB.out | apply below_alloc | apply pw_below_drewN | apply below_drew1 | refine below_set ?_ GE302.out | refine below_set ?_ GE303.out | refine below_set ?_ GE304.out) | exact HB.out))); (case aF => exact (fun k_ hk => Kd.freshB (g := gb303) (o := .cells #[.string a1_0, .string a1_1, .int .i64 a1_2, .int .i64 a1_3, .bool a1_4] 55 (0, 0)) (by (with_reducible repeat (first | refine blk_drewN ?_ _ | refine blk_drew ?_ | refine blk_alloc ?_ _)); exact BK303.out) k_ hk)); (case aO => exact (by (with_reducible repeat (first | apply Kd.R_alloc | apply Kd.R_drewN | apply Kd.R_drew)); exact HO_5.out)); (case aS => exact (below_size (by repeat (first | (with_reducible first | exact HB.out | apply below_alloc | apply pw_below_drewN | apply below_drew1 | refine below_set ?_ GE302.out | refine below_set ?_ GE303.out | refine below_set ?_ GE304.out) | exact HB.out)))); (case aL => have := LMc61.out; omega); intro v306 w67 ho hb hg hat; rw [← Ny305.out] at ho; have n0_ := Aside0.mk (blk_grown (g := gb302) (o := .cells #[.int .i64 a0_0, .int .i64 a0_1, .slice A0_2 l0_2.length c0_2] 49 (0, 0)) (by (with_reducible repeat (first | refine blk_drewN ?_ _ | refine blk_drew ?_ | refine blk_alloc ?_ _)); exact BK302.out) hg (Kd.R_ne HO_5.out BK302.out (by decide))); have n1_ := Aside0.mk (blk_grown (g := gb303) (o := .cells #[.string a1_0, .string a1_1, .int .i64 a1_2, .int .i64 a1_3, .bool a1_4] 55 (0, 0)) (by (with_reducible repeat (first | refine blk_drewN ?_ _ | refine blk_drew ?_ | refine blk_alloc ?_ _)); exact BK303.out) hg (Kd.R_away HO_5.out (fun _ hk => hk))); have n2_ := Aside0.mk (blk_grown (g := gb304) (o := .cells #[.int .i64 0, .int .i64 0, .slice none 0 0] 49 (0, 0)) (by (with_reducible repeat (first | refine blk_drewN ?_ _ | refine blk_drew ?_ | refine blk_alloc ?_ _)); exact BK304.out) hg (Kd.R_ne HO_5.out BK304.out (by decide))); have n3_ := Aside0.mk (hb); have n4_ := Aside0.mk (ho); clear BK302; clear BK303; clear BK304; clear HB; clear HO_5; have BK302 := n0_; have BK303 := n1_; have BK304 := n2_; have HB := n3_; have HO307 := n4_; clear n0_ n1_ n2_ n3_ n4_; clear ho hb hg hat; obtain ⟨Ao68, co68, eo68⟩ := Kd.R_slice HO307.out; subst eo68; have hcz69_0 : w67.cell? ⟨gb302, 0, none⟩ = some (.int .i64 a0_0) := (blk_cell BK302.out 0).trans rfl; have hcz69_1 : w67.cell? ⟨gb302, 1, none⟩ = some (.int .i64 a0_1) := (blk_cell BK302.out 1).trans rfl; have hcz69_2 : w67.cell? ⟨gb302, 2, none⟩ = some (.slice A0_2 l0_2.length c0_2) := (blk_cell BK302.out 2).trans rfl; have hfz69_0 := blk_frozen BK302.out 0; have hfz69_1 := blk_frozen BK302.out 1; have hfz69_2 := blk_frozen BK302.out 2; have hcz70_0 : w67.cell? ⟨gb304, 0, none⟩ = some (.int .i64 0) := (blk_cell BK304.out 0).trans rfl; have hcz70_1 : w67.cell? ⟨gb304, 1, none⟩ = some (.int .i64 0) := (blk_cell BK304.out 1).trans rfl; have hcz70_2 : w67.cell? ⟨gb304, 2, none⟩ = some (.slice none 0 0) := (blk_cell BK304.out 2).trans rfl; have hfz70_0 := blk_frozen BK304.out 0; have hfz70_1 := blk_frozen BK304.out 1; have hfz70_2 := blk_frozen BK304.out 2))
            repeat (go_quiet (first | ((with_reducible refine gate_builtin (b := .append) (xs := #[.tmp 51, .tmp 53]) rfl ?_); at_builtin; refine Kd.R_append k55 (w0 := w) w.heap.size rfl (.tmp 51) (.tmp 53) 47 55 (.agg #[(.string ⟨#[]⟩), (.string ⟨#[]⟩), (.int .i64 0), (.int .i64 0), (.bool false)]) 56 rfl Try.underlying47 info55 rfl (by decide) (by omega) u5 x5_1 (⟨a1_0, a1_1, a1_2, a1_3, a1_4⟩ : S55) [.string a1_0, .string a1_1, .int .i64 a1_2, .int .i64 a1_3, .bool a1_4] (fun k_ => k_ ≠ gb303) (fun _ => False) rfl rfl ?aP (fun _ hk => hk.elim) ?aF ?aO ?aB ?aS ?aL ?_; (case aP => exact k55_mkM _ _ _ (⟨a1_0, a1_1, a1_2, a1_3, a1_4⟩ : S55)); (case aB => exact (by repeat (first | (with_reducible first | exact HB.out | apply below_alloc | apply pw_below_drewN | apply below_drew1 | refine below_set ?_ GE302.out | refine below_set ?_ GE303.out | refine below_set ?_ GE304.out) | exact HB.out))); (case aF => exact (fun k_ hk => Kd.freshB (g := gb303) (o := .cells #[.string a1_0, .string a1_1, .int .i64 a1_2, .int .i64 a1_3, .bool a1_4] 55 (0, 0)) (by (with_reducible repeat (first | refine blk_drewN ?_ _ | refine blk_drew ?_ | refine blk_alloc ?_ _)); exact BK303.out) k_ hk)); (case aO => exact (by (with_reducible repeat (first | apply Kd.R_alloc | apply Kd.R_drewN | apply Kd.R_drew)); exact HO_5.out)); (case aS => exact (below_size (by repeat (first | (with_reducible first | exact HB.out | apply below_alloc | apply pw_below_drewN | apply below_drew1 | refine below_set ?_ GE302.out | refine below_set ?_ GE303.out | refine below_set ?_ GE304.out) | exact HB.out)))); (case aL => have := LMc61.out; omega); intro v306 w67 ho hb hg hat; rw [← Ny305.out] at ho; have n0_ := Aside0.mk (blk_grown (g := gb302) (o := .cells #[.int .i64 a0_0, .int .i64 a0_1, .slice A0_2 l0_2.length c0_2] 49 (0, 0)) (by (with_reducible repeat (first | refine blk_drewN ?_ _ | refine blk_drew ?_ | refine blk_alloc ?_ _)); exact BK302.out) hg (Kd.R_ne HO_5.out BK302.out (by decide))); have n1_ := Aside0.mk (blk_grown (g := gb303) (o := .cells #[.string a1_0, .string a1_1, .int .i64 a1_2, .int .i64 a1_3, .bool a1_4] 55 (0, 0)) (by (with_reducible repeat (first | refine blk_drewN ?_ _ | refine blk_drew ?_ | refine blk_alloc ?_ _)); exact BK303.out) hg (Kd.R_away HO_5.out (fun _ hk => hk))); have n2_ := Aside0.mk (blk_grown (g := gb304) (o := .cells #[.int .i64 0, .int .i64 0, .slice none 0 0] 49 (0, 0)) (by (with_reducible repeat (first | refine blk_drewN ?_ _ | refine blk_drew ?_ | refine blk_alloc ?_ _)); exact BK304.out) hg (Kd.R_ne HO_5.out BK304.out (by decide))); have n3_ := Aside0.mk (hb); have n4_ := Aside0.mk (ho); clear BK302; clear BK303; clear BK304; clear HB; clear HO_5; have BK302 := n0_; have BK303 := n1_; have BK304 := n2_; have HB := n3_; have HO307 := n4_; clear n0_ n1_ n2_ n3_ n4_; clear ho hb hg hat; obtain ⟨Ao68, co68, eo68⟩ := Kd.R_slice HO307.out; subst eo68; have hcz69_0 : w67.cell? ⟨gb302, 0, none⟩ = some (.int .i64 a0_0) := (blk_cell BK302.out 0).trans rfl; have hcz69_1 : w67.cell? ⟨gb302, 1, none⟩ = some (.int .i64 a0_1) := (blk_cell BK302.out 1).trans rfl; have hcz69_2 : w67.cell? ⟨gb302, 2, none⟩ = some (.slice A0_2 l0_2.length c0_2) := (blk_cell BK302.out 2).trans rfl; have hfz69_0 := blk_frozen BK302.out 0; have hfz69_1 := blk_frozen BK302.out 1; have hfz69_2 := blk_frozen BK302.out 2; have hcz70_0 : w67.cell? ⟨gb304, 0, none⟩ = some (.int .i64 0) := (blk_cell BK304.out 0).trans rfl; have hcz70_1 : w67.cell? ⟨gb304, 1, none⟩ = some (.int .i64 0) := (blk_cell BK304.out 1).trans rfl; have hcz70_2 : w67.cell? ⟨gb304, 2, none⟩ = some (.slice none 0 0) := (blk_cell BK304.out 2).trans rfl; have hfz70_0 := blk_frozen BK304.out 0; have hfz70_1 := blk_frozen BK304.out 1; have hfz70_2 := blk_frozen BK304.out 2)); try go_wp2_with (first | ((with_reducible refine gate_builtin (b := .append) (xs := #[.tmp 51, .tmp 53]) rfl ?_); at_builtin; refine Kd.R_append k55 (w0 := w) w.heap.size rfl (.tmp 51) (.tmp 53) 47 55 (.agg #[(.string ⟨#[]⟩), (.string ⟨#[]⟩), (.int .i64 0), (.int .i64 0), (.bool false)]) 56 rfl Try.underlying47 info55 rfl (by decide) (by omega) u5 x5_1 (⟨a1_0, a1_1, a1_2, a1_3, a1_4⟩ : S55) [.string a1_0, .string a1_1, .int .i64 a1_2, .int .i64 a1_3, .bool a1_4] (fun k_ => k_ ≠ gb303) (fun _ => False) rfl rfl ?aP (fun _ hk => hk.elim) ?aF ?aO ?aB ?aS ?aL ?_; (case aP => exact k55_mkM _ _ _ (⟨a1_0, a1_1, a1_2, a1_3, a1_4⟩ : S55)); (case aB => exact (by repeat (first | (with_reducible first | exact HB.out | apply below_alloc | apply pw_below_drewN | apply below_drew1 | refine below_set ?_ GE302.out | refine below_set ?_ GE303.out | refine below_set ?_ GE304.out) | exact HB.out))); (case aF => exact (fun k_ hk => Kd.freshB (g := gb303) (o := .cells #[.string a1_0, .string a1_1, .int .i64 a1_2, .int .i64 a1_3, .bool a1_4] 55 (0, 0)) (by (with_reducible repeat (first | refine blk_drewN ?_ _ | refine blk_drew ?_ | refine blk_alloc ?_ _)); exact BK303.out) k_ hk)); (case aO => exact (by (with_reducible repeat (first | apply Kd.R_alloc | apply Kd.R_drewN | apply Kd.R_drew)); exact HO_5.out)); (case aS => exact (below_size (by repeat (first | (with_reducible first | exact HB.out | apply below_alloc | apply pw_below_drewN | apply below_drew1 | refine below_set ?_ GE302.out | refine below_set ?_ GE303.out | refine below_set ?_ GE304.out) | exact HB.out)))); (case aL => have := LMc61.out; omega); intro v306 w67 ho hb hg hat; rw [← Ny305.out] at ho; have n0_ := Aside0.mk (blk_grown (g := gb302) (o := .cells #[.int .i64 a0_0, .int .i64 a0_1, .slice A0_2 l0_2.length c0_2] 49 (0, 0)) (by (with_reducible repeat (first | refine blk_drewN ?_ _ | refine blk_drew ?_ | refine blk_alloc ?_ _)); exact BK302.out) hg (Kd.R_ne HO_5.out BK302.out (by decide))); have n1_ := Aside0.mk (blk_grown (g := gb303) (o := .cells #[.string a1_0, .string a1_1, .int .i64 a1_2, .int .i64 a1_3, .bool a1_4] 55 (0, 0)) (by (with_reducible repeat (first | refine blk_drewN ?_ _ | refine blk_drew ?_ | refine blk_alloc ?_ _)); exact BK303.out) hg (Kd.R_away HO_5.out (fun _ hk => hk))); have n2_ := Aside0.mk (blk_grown (g := gb304) (o := .cells #[.int .i64 0, .int .i64 0, .slice none 0 0] 49 (0, 0)) (by (with_reducible repeat (first | refine blk_drewN ?_ _ | refine blk_drew ?_ | refine blk_alloc ?_ _)); exact BK304.out) hg (Kd.R_ne HO_5.out BK304.out (by decide))); have n3_ := Aside0.mk (hb); have n4_ := Aside0.mk (ho); clear BK302; clear BK303; clear BK304; clear HB; clear HO_5; have BK302 := n0_; have BK303 := n1_; have BK304 := n2_; have HB := n3_; have HO307 := n4_; clear n0_ n1_ n2_ n3_ n4_; clear ho hb hg hat; obtain ⟨Ao68, co68, eo68⟩ := Kd.R_slice HO307.out; subst eo68; have hcz69_0 : w67.cell? ⟨gb302, 0, none⟩ = some (.int .i64 a0_0) := (blk_cell BK302.out 0).trans rfl; have hcz69_1 : w67.cell? ⟨gb302, 1, none⟩ = some (.int .i64 a0_1) := (blk_cell BK302.out 1).trans rfl; have hcz69_2 : w67.cell? ⟨gb302, 2, none⟩ = some (.slice A0_2 l0_2.length c0_2) := (blk_cell BK302.out 2).trans rfl; have hfz69_0 := blk_frozen BK302.out 0; have hfz69_1 := blk_frozen BK302.out 1; have hfz69_2 := blk_frozen BK302.out 2; have hcz70_0 : w67.cell? ⟨gb304, 0, none⟩ = some (.int .i64 0) := (blk_cell BK304.out 0).trans rfl; have hcz70_1 : w67.cell? ⟨gb304, 1, none⟩ = some (.int .i64 0) := (blk_cell BK304.out 1).trans rfl; have hcz70_2 : w67.cell? ⟨gb304, 2, none⟩ = some (.slice none 0 0) := (blk_cell BK304.out 2).trans rfl; have hfz70_0 := blk_frozen BK304.out 0; have hfz70_1 := blk_frozen BK304.out 1; have hfz70_2 := blk_frozen BK304.out 2)))
            refine bodyPost_ret (results_cell_row rfl _ _ gb304 49 #[.int .i64 a0_0, .int .i64 a0_1, .slice Ao68 y305.length co68] (0, 0) _ rfl (by (with_reducible repeat (first | refine blk_drewN ?_ _ | refine blk_drew ?_ | refine blk_alloc ?_ _)); refine blk_put (cs := #[.int .i64 a0_0, .int .i64 a0_1, .slice none 0 0]) ?_ 2 _ rfl; (with_reducible repeat (first | refine blk_drewN ?_ _ | refine blk_drew ?_ | refine blk_alloc ?_ _)); refine blk_put (cs := #[.int .i64 a0_0, .int .i64 0, .slice none 0 0]) ?_ 1 _ rfl; (with_reducible repeat (first | refine blk_drewN ?_ _ | refine blk_drew ?_ | refine blk_alloc ?_ _)); refine blk_put (cs := #[.int .i64 0, .int .i64 0, .slice none 0 0]) ?_ 0 _ rfl; (with_reducible repeat (first | refine blk_drewN ?_ _ | refine blk_drew ?_ | refine blk_alloc ?_ _)); refine blk_far ?_ NB304_302.out _; (with_reducible repeat (first | refine blk_drewN ?_ _ | refine blk_drew ?_ | refine blk_alloc ?_ _)); exact BK304.out) Try.underlying49 rfl (by kernel_rfl)) rfl ?_
            exact ⟨_, by first | rfl | (simp [errW_none, errW_some] <;> rfl) | (simp [*, errW_none, errW_some] <;> rfl), by (with_reducible repeat (first | apply Kd.R_alloc | apply Kd.R_drewN | apply Kd.R_drew)); exact Kd.R_mono (Kd.R_far (p := ⟨gb304, 2, none⟩) (Kd.R_far (p := ⟨gb304, 1, none⟩) (Kd.R_far (p := ⟨gb304, 0, none⟩) (Kd.R_far (p := ⟨gb302, 2, none⟩) (Kd.R_types (Kd.R_types HO307.out BK302.out (by decide)) BK304.out (by decide)) (fun _ hk => hk.1.2) (.slice Ao68 y305.length co68)) (fun _ hk => hk.2) (.int .i64 a0_0)) (fun _ hk => hk.2) (.int .i64 a0_1)) (fun _ hk => hk.2) (.slice Ao68 y305.length co68)) (fun _ hk => trivial), by repeat (first | (with_reducible first | exact HB.out | apply below_alloc | apply pw_below_drewN | apply below_drew1 | refine below_set ?_ GE302.out | refine below_set ?_ GE303.out | refine below_set ?_ GE304.out) | exact HB.out)⟩
          · rw [if_neg c61] at H
            exact absurd H (by simp)

/-! ### cupelref13_Count: function 31 -/
def cupelref13_Count.l0 : Nat → Int → Int → Int → Int → List (S55) → Option (Int)
  | 0, _, _, _, _, _ => none
  | k + 1, x3, x4, x323000, x323001, x323002 => if x4 < (x323002.length : Int) then (if 0 ≤ x4 then (if ((rd_T55 x323002 x4).f4 = true) then (cupelref13_Count.l0 k x3 (wrap64 (x4 + 1)) x323000 x323001 x323002) else (cupelref13_Count.l0 k (wrap64 (x3 + 1)) (wrap64 (x4 + 1)) x323000 x323001 x323002)) else (none)) else (some x3)
def cupelref13_Count.f (k : Nat) (a0_0 : Int) (a0_1 : Int) (l0_2 : List (S55)) : Option (Int) := cupelref13_Count.l0 k 0 0 a0_0 a0_1 l0_2
theorem cupelref13_Count.mono_l : ∀ k, (∀ y0 y1 y2 y3 y4, LeO (cupelref13_Count.l0 k y0 y1 y2 y3 y4) (cupelref13_Count.l0 (k + 1) y0 y1 y2 y3 y4))
  | 0 => fun _ _ _ _ _ r h => by simp [cupelref13_Count.l0] at h
  | k + 1 => by
    have ih0 := cupelref13_Count.mono_l k
    · intro y0 y1 y2 y3 y4
      unfold cupelref13_Count.l0
      repeat' first
      | (with_reducible exact ih0 _ _ _ _ _)
      | (with_reducible exact LeO.refl _)
      | (with_reducible exact LeO.none _)
      | (with_reducible refine LeO.ite ?_ ?_)
      | (with_reducible refine LeO.bind ?_ (fun _ => ?_))
      | exact ih0 _ _ _ _ _
      | exact LeO.none _
      | refine LeO.ite ?_ ?_
      | refine LeO.bind ?_ (fun _ => ?_)
theorem cupelref13_Count.mono : ∀ a0 a1 a2 k, LeO (cupelref13_Count.f k a0 a1 a2) (cupelref13_Count.f (k + 1) a0 a1 a2) := by
  intro a0 a1 a2 k
  have ih0 := cupelref13_Count.mono_l k
  unfold cupelref13_Count.f
  repeat' first
      | (with_reducible exact ih0 _ _ _ _ _)
      | (with_reducible exact LeO.refl _)
      | (with_reducible exact LeO.none _)
      | (with_reducible refine LeO.ite ?_ ?_)
      | (with_reducible refine LeO.bind ?_ (fun _ => ?_))
      | exact ih0 _ _ _ _ _
      | exact LeO.none _
      | refine LeO.ite ?_ ?_
      | refine LeO.bind ?_ (fun _ => ?_)
set_option maxHeartbeats 8000000 in
set_option maxRecDepth 100000 in
theorem cupelref13_Count.calls (k : Nat) (a0_0 : Int) (a0_1 : Int) (A0_2 : Option Addr) (c0_2 : Nat) (l0_2 : List (S55)) (r : Int) (w : World) (hr0_2 : Kd.C k55 w A0_2 l0_2.length l0_2) (hc0_2 : l0_2.length ≤ c0_2) (h : cupelref13_Count.f k a0_0 a0_1 l0_2 = some r) :
    Calls Try.prog 31 #[.agg #[.int .i64 a0_0, .int .i64 a0_1, .slice A0_2 l0_2.length c0_2]] w fun e w' => e = .returned (.int .i64 r) ∧ Below w.heap.size w w' := by
  have hu49 := Try.underlying49
  have HR0_2 := Aside0.mk hr0_2
  have HC0_2 := Aside0.mk hc0_2
  clear hr0_2 hc0_2
  have HB := Aside0.mk (Below.refl w.heap.size w)
  have H : (cupelref13_Count.l0 k 0 0 a0_0 a0_1 l0_2) = some r := h
  clear h
  have H' := Aside0.mk H
  clear H
  go_enter Try.func31, Try.ntmps31
  go_wp2_with (first | ((with_reducible refine gate_dst (N := 1) rfl ?_); refine box_event ?hg (N := 1) ?hd (cs := #[.int .i64 a0_0, .int .i64 a0_1, .slice A0_2 l0_2.length c0_2]) (t := 49) ?hr ?_; (case hd => rfl); (case hg => rfl); (case hr => first | (go_simp; done) | (go_simp; rfl)); intro gb322 hg w2 hbox hb; have n0_ := Aside0.mk (below_step (by repeat (first | (with_reducible first | exact HB.out | apply below_alloc | apply pw_below_drewN | apply below_drew1) | exact HB.out)) hb); have n1_ := Aside0.mk (hbox); have n2_ := Aside0.mk ((by rw [hg]; exact (below_size (by repeat (first | (with_reducible first | exact HB.out | apply below_alloc | apply pw_below_drewN | apply below_drew1) | exact HB.out))) : w.heap.size ≤ gb322)); have n3_ := Aside0.mk ((by rw [hg]; exact (below_size (by repeat (first | (with_reducible first | exact HB.out | apply below_alloc | apply pw_below_drewN | apply below_drew1) | exact HB.out))) : w.heap.size ≤ gb322)); clear HB; have HB := n0_; have BK322 := n1_; have GW322 := n2_; have GE322 := n3_; clear n0_ n1_ n2_ n3_; clear hb hbox hg))
  go_loopg [3, 4] k (fun kq v3 v4 w' => ∃ (x3_1 : Int) (x4_1 : Int), v3 = .int .i64 x3_1 ∧ v4 = .int .i64 x4_1 ∧ Aside0 (cupelref13_Count.l0 kq x3_1 x4_1 a0_0 a0_1 l0_2 = some r) ∧ Aside0 (kq ≤ k) ∧ Aside0 (w'.heap[gb322]? = some (.cells #[.int .i64 a0_0, .int .i64 a0_1, (.slice A0_2 l0_2.length c0_2)] 49 (0, 0))) ∧ Aside0 (Below w.heap.size w w'))
  case atStart => exact ⟨(0), (0), (by first | rfl | (simp; done) | (simp [*]; done)), (by first | rfl | (simp; done) | (simp [*]; done)), H', ⟨Nat.le_refl _⟩, ⟨by (with_reducible repeat (first | refine blk_drewN ?_ _ | refine blk_drew ?_ | refine blk_alloc ?_ _)); exact BK322.out⟩, ⟨by repeat (first | (with_reducible first | exact HB.out | apply below_alloc | apply pw_below_drewN | apply below_drew1 | refine below_set ?_ GE322.out) | exact HB.out)⟩⟩
  case round =>
    clear H'
    try clear p2
    obtain ⟨x3_1, x4_1, rfl, rfl, HA, HK1, BK322, HB⟩ := hrel
    cases gk with
    | zero => exact absurd HA.out (by simp [cupelref13_Count.l0])
    | succ k1 =>
      have H := HA.out
      clear HA
      simp only [cupelref13_Count.l0] at H
      by_cases c3 : x4_1 < (l0_2.length : Int)
      · rw [if_pos c3] at H
        have c3b0 : decide (x4_1 < (l0_2.length : Int)) = true := decide_eq_true c3
        clear c3
        by_cases c4 : 0 ≤ x4_1
        · rw [if_pos c4] at H
          have c4b0 : decide (0 ≤ x4_1) = true := decide_eq_true c4
          clear c4
          obtain ⟨bq5, hbq5⟩ : ∃ b_ : Bool, b_ = ((rd_T55 l0_2 x4_1).f4) := ⟨_, rfl⟩
          replace H : (if (bq5 = true) then (cupelref13_Count.l0 k1 x3_1 (wrap64 (x4_1 + 1)) a0_0 a0_1 l0_2) else (cupelref13_Count.l0 k1 (wrap64 (x3_1 + 1)) (wrap64 (x4_1 + 1)) a0_0 a0_1 l0_2)) = some r := by rw [← hbq5] at H; exact H
          have Nbq5 := Aside0.mk hbq5
          clear hbq5
          by_cases c6 : (bq5 = true)
          · subst c6
            have H1 : (cupelref13_Count.l0 k1 x3_1 (wrap64 (x4_1 + 1)) a0_0 a0_1 l0_2) = some r := by rw [if_pos rfl] at H; exact H
            clear H
            have H := H1
            clear H1
            have H' := Aside0.mk H
            clear H
            have hcz7_0 : wr.cell? ⟨gb322, 0, none⟩ = some (.int .i64 a0_0) := (blk_cell BK322.out 0).trans rfl
            have hcz7_1 : wr.cell? ⟨gb322, 1, none⟩ = some (.int .i64 a0_1) := (blk_cell BK322.out 1).trans rfl
            have hcz7_2 : wr.cell? ⟨gb322, 2, none⟩ = some (.slice A0_2 l0_2.length c0_2) := (blk_cell BK322.out 2).trans rfl
            have hfz7_0 := blk_frozen BK322.out 0
            have hfz7_1 := blk_frozen BK322.out 1
            have hfz7_2 := blk_frozen BK322.out 2
            have p323 : 0 ≤ (x4_1 : Int) := of_decide_eq_true (by first | (with_reducible assumption) | assumption)
            have q323 : x4_1 < (l0_2.length : Int) := of_decide_eq_true (by first | (with_reducible assumption) | assumption)
            obtain ⟨ad323, e323, hx323_0, hx323_1, hx323_2, hx323_3, hx323_4⟩ := at_T55 HR0_2.out x4_1 p323 q323
            (try rw [← Nbq5.out] at hx323_4)
            cases e323
            replace hx323_0 := (HB.out.cell (World.block_lt_of_cell? w _ hx323_0)).trans hx323_0
            replace hx323_1 := (HB.out.cell (World.block_lt_of_cell? w _ hx323_1)).trans hx323_1
            replace hx323_2 := (HB.out.cell (World.block_lt_of_cell? w _ hx323_2)).trans hx323_2
            replace hx323_3 := (HB.out.cell (World.block_lt_of_cell? w _ hx323_3)).trans hx323_3
            replace hx323_4 := (HB.out.cell (World.block_lt_of_cell? w _ hx323_4)).trans hx323_4
            replace p323 := eq_true p323
            replace q323 := eq_true q323
            go_wp2
            go_roundg k1
            case measure => have := HK1.out; omega
            case rel => exact ⟨(x3_1), (wrap64 (x4_1 + 1)), (by first | rfl | (simp; done) | (simp [*]; done)), (by first | rfl | (simp; done) | (simp [*]; done)), H', ⟨by have := HK1.out; omega⟩, ⟨by (with_reducible repeat (first | refine blk_drewN ?_ _ | refine blk_drew ?_ | refine blk_alloc ?_ _)); exact BK322.out⟩, ⟨by repeat (first | (with_reducible first | exact HB.out | apply below_alloc | apply pw_below_drewN | apply below_drew1 | refine below_set ?_ GE322.out) | exact HB.out)⟩⟩
          · replace c6 := Bool.eq_false_iff.mpr c6
            subst c6
            have H1 : (cupelref13_Count.l0 k1 (wrap64 (x3_1 + 1)) (wrap64 (x4_1 + 1)) a0_0 a0_1 l0_2) = some r := by rw [if_neg (show ¬ (false = true) by decide)] at H; exact H
            clear H
            have H := H1
            clear H1
            have H' := Aside0.mk H
            clear H
            have hcz8_0 : wr.cell? ⟨gb322, 0, none⟩ = some (.int .i64 a0_0) := (blk_cell BK322.out 0).trans rfl
            have hcz8_1 : wr.cell? ⟨gb322, 1, none⟩ = some (.int .i64 a0_1) := (blk_cell BK322.out 1).trans rfl
            have hcz8_2 : wr.cell? ⟨gb322, 2, none⟩ = some (.slice A0_2 l0_2.length c0_2) := (blk_cell BK322.out 2).trans rfl
            have hfz8_0 := blk_frozen BK322.out 0
            have hfz8_1 := blk_frozen BK322.out 1
            have hfz8_2 := blk_frozen BK322.out 2
            have p323 : 0 ≤ (x4_1 : Int) := of_decide_eq_true (by first | (with_reducible assumption) | assumption)
            have q323 : x4_1 < (l0_2.length : Int) := of_decide_eq_true (by first | (with_reducible assumption) | assumption)
            obtain ⟨ad323, e323, hx323_0, hx323_1, hx323_2, hx323_3, hx323_4⟩ := at_T55 HR0_2.out x4_1 p323 q323
            (try rw [← Nbq5.out] at hx323_4)
            cases e323
            replace hx323_0 := (HB.out.cell (World.block_lt_of_cell? w _ hx323_0)).trans hx323_0
            replace hx323_1 := (HB.out.cell (World.block_lt_of_cell? w _ hx323_1)).trans hx323_1
            replace hx323_2 := (HB.out.cell (World.block_lt_of_cell? w _ hx323_2)).trans hx323_2
            replace hx323_3 := (HB.out.cell (World.block_lt_of_cell? w _ hx323_3)).trans hx323_3
            replace hx323_4 := (HB.out.cell (World.block_lt_of_cell? w _ hx323_4)).trans hx323_4
            replace p323 := eq_true p323
            replace q323 := eq_true q323
            go_wp2
            go_roundg k1
            case measure => have := HK1.out; omega
            case rel => exact ⟨(wrap64 (x3_1 + 1)), (wrap64 (x4_1 + 1)), (by first | rfl | (simp; done) | (simp [*]; done)), (by first | rfl | (simp; done) | (simp [*]; done)), H', ⟨by have := HK1.out; omega⟩, ⟨by (with_reducible repeat (first | refine blk_drewN ?_ _ | refine blk_drew ?_ | refine blk_alloc ?_ _)); exact BK322.out⟩, ⟨by repeat (first | (with_reducible first | exact HB.out | apply below_alloc | apply pw_below_drewN | apply below_drew1 | refine below_set ?_ GE322.out) | exact HB.out)⟩⟩
        · rw [if_neg c4] at H
          exact absurd H (by simp)
      · rw [if_neg c3] at H
        have c3b0 : decide (x4_1 < (l0_2.length : Int)) = false := decide_eq_false c3
        clear c3
        obtain rfl := Option.some.inj H
        have hcz9_0 : wr.cell? ⟨gb322, 0, none⟩ = some (.int .i64 a0_0) := (blk_cell BK322.out 0).trans rfl
        have hcz9_1 : wr.cell? ⟨gb322, 1, none⟩ = some (.int .i64 a0_1) := (blk_cell BK322.out 1).trans rfl
        have hcz9_2 : wr.cell? ⟨gb322, 2, none⟩ = some (.slice A0_2 l0_2.length c0_2) := (blk_cell BK322.out 2).trans rfl
        have hfz9_0 := blk_frozen BK322.out 0
        have hfz9_1 := blk_frozen BK322.out 1
        have hfz9_2 := blk_frozen BK322.out 2
        go_wp2
        go_ret
        exact ⟨by first | rfl | (simp [errW_none, errW_some] <;> rfl) | (simp [*, errW_none, errW_some] <;> rfl), by repeat (first | (with_reducible first | exact HB.out | apply below_alloc | apply pw_below_drewN | apply below_drew1 | refine below_set ?_ GE322.out) | exact HB.out)⟩

-- NOT PRINTED: function 19 (cupelref13_Do)

/-! ### cupellaw13_same: function 20 -/
def cupellaw13_same.l0 : Nat → List ByteArray → List ByteArray → Int → Option (Bool)
  | 0, _, _, _ => none
  | k + 1, x0, x1, x5 => if x5 < (x0.length : Int) then (if 0 ≤ x5 then (if x5 < (x1.length : Int) then (if (rdOf ByteArray.empty x0 x5).toList = (rdOf ByteArray.empty x1 x5).toList then (cupellaw13_same.l0 k x0 x1 (wrap64 (x5 + 1))) else (some false)) else (none)) else (none)) else (some true)
def cupellaw13_same.f (k : Nat) (l0 : List ByteArray) (l1 : List ByteArray) : Option (Bool) := if (l0.length : Int) = (l1.length : Int) then (cupellaw13_same.l0 k l0 l1 0) else (some false)
theorem cupellaw13_same.mono_l : ∀ k, (∀ y0 y1 y2, LeO (cupellaw13_same.l0 k y0 y1 y2) (cupellaw13_same.l0 (k + 1) y0 y1 y2))
  | 0 => fun _ _ _ r h => by simp [cupellaw13_same.l0] at h
  | k + 1 => by
    have ih0 := cupellaw13_same.mono_l k
    · intro y0 y1 y2
      unfold cupellaw13_same.l0
      repeat' first
      | (with_reducible exact ih0 _ _ _)
      | (with_reducible exact LeO.refl _)
      | (with_reducible exact LeO.none _)
      | (with_reducible refine LeO.ite ?_ ?_)
      | (with_reducible refine LeO.bind ?_ (fun _ => ?_))
      | exact ih0 _ _ _
      | exact LeO.none _
      | refine LeO.ite ?_ ?_
      | refine LeO.bind ?_ (fun _ => ?_)
theorem cupellaw13_same.mono : ∀ a0 a1 k, LeO (cupellaw13_same.f k a0 a1) (cupellaw13_same.f (k + 1) a0 a1) := by
  intro a0 a1 k
  have ih0 := cupellaw13_same.mono_l k
  unfold cupellaw13_same.f
  repeat' first
      | (with_reducible exact ih0 _ _ _)
      | (with_reducible exact LeO.refl _)
      | (with_reducible exact LeO.none _)
      | (with_reducible refine LeO.ite ?_ ?_)
      | (with_reducible refine LeO.bind ?_ (fun _ => ?_))
      | exact ih0 _ _ _
      | exact LeO.none _
      | refine LeO.ite ?_ ?_
      | refine LeO.bind ?_ (fun _ => ?_)
set_option maxHeartbeats 8000000 in
set_option maxRecDepth 100000 in
theorem cupellaw13_same.calls (k : Nat) (A0 : Option Addr) (c0 : Nat) (l0 : List ByteArray) (A1 : Option Addr) (c1 : Nat) (l1 : List ByteArray) (r : Bool) (w : World) (hr0 : Kd.C Kd.string w A0 l0.length l0) (hc0 : l0.length ≤ c0) (hr1 : Kd.C Kd.string w A1 l1.length l1) (hc1 : l1.length ≤ c1) (h : cupellaw13_same.f k l0 l1 = some r) :
    Calls Try.prog 20 #[.slice A0 l0.length c0, .slice A1 l1.length c1] w fun e w' => e = .returned (.bool r) ∧ Drawn0 w w' := by
  have HR0 := Aside0.mk hr0
  have HC0 := Aside0.mk hc0
  clear hr0 hc0
  have HR1 := Aside0.mk hr1
  have HC1 := Aside0.mk hc1
  clear hr1 hc1
  have H : (if (l0.length : Int) = (l1.length : Int) then (cupellaw13_same.l0 k l0 l1 0) else (some false)) = some r := h
  clear h
  by_cases c3 : (l0.length : Int) = (l1.length : Int)
  · rw [if_pos c3] at H
    have c3b0 : ((l0.length : Int) == (l1.length : Int)) = true := beq_iff_eq.mpr c3
    have c3b1 : ((l0.length : Int) != (l1.length : Int)) = false := bne_eq_false_iff_eq.mpr c3
    have c3b2 : (l0.length == l1.length) = true := by first | simpa using c3 | (simp at c3 ⊢; omega)
    clear c3
    have H' := Aside0.mk H
    clear H
    go_enter Try.func20, Try.ntmps20
    go_wp2
    repeat (go_quiet (fail); try go_wp2)
    go_loopg [5] k (fun kq v5 w' => ∃ (x5_1 : Int), v5 = .int .i64 x5_1 ∧ Aside0 (cupellaw13_same.l0 kq l0 l1 x5_1 = some r) ∧ Aside0 (kq ≤ k) ∧ Drawn0 w w')
    case atStart => exact ⟨(0), (by first | rfl | (simp; done) | (simp [*]; done)), H', ⟨Nat.le_refl _⟩, by repeat (first | exact Drawn0.refl _ | apply Drawn0.step)⟩
    case round =>
      clear H'
      try clear c1
      try clear c2
      try clear p2
      try clear c3
      try clear c3b0
      try clear c3b1
      try clear c3b2
      obtain ⟨x5_1, rfl, HA, HK1, ⟨m1, rfl⟩⟩ := hrel
      cases gk with
      | zero => exact absurd HA.out (by simp [cupellaw13_same.l0])
      | succ k1 =>
        have H := HA.out
        clear HA
        simp only [cupellaw13_same.l0] at H
        by_cases c4 : x5_1 < (l0.length : Int)
        · rw [if_pos c4] at H
          have c4b0 : decide (x5_1 < (l0.length : Int)) = true := decide_eq_true c4
          clear c4
          by_cases c5 : 0 ≤ x5_1
          · rw [if_pos c5] at H
            have c5b0 : decide (0 ≤ x5_1) = true := decide_eq_true c5
            clear c5
            by_cases c6 : x5_1 < (l1.length : Int)
            · rw [if_pos c6] at H
              have c6b0 : decide (x5_1 < (l1.length : Int)) = true := decide_eq_true c6
              clear c6
              by_cases c7 : (rdOf ByteArray.empty l0 x5_1).toList = (rdOf ByteArray.empty l1 x5_1).toList
              · rw [if_pos c7] at H
                have c7b0 : ((rdOf ByteArray.empty l0 x5_1).toList == (rdOf ByteArray.empty l1 x5_1).toList) = true := beq_iff_eq.mpr c7
                have c7b1 : ((rdOf ByteArray.empty l0 x5_1).toList != (rdOf ByteArray.empty l1 x5_1).toList) = false := bne_eq_false_iff_eq.mpr c7
                clear c7
                have H' := Aside0.mk H
                clear H
                have p356 : 0 ≤ (x5_1 : Int) := of_decide_eq_true (by first | (with_reducible assumption) | assumption)
                have q356 : x5_1 < (l0.length : Int) := of_decide_eq_true (by first | (with_reducible assumption) | assumption)
                obtain ⟨ad356, e356, hx356_0⟩ := Kd.at_string HR0.out x5_1 p356 q356
                cases e356
                replace p356 := eq_true p356
                replace q356 := eq_true q356
                have p357 : 0 ≤ (x5_1 : Int) := of_decide_eq_true (by first | (with_reducible assumption) | assumption)
                have q357 : x5_1 < (l1.length : Int) := of_decide_eq_true (by first | (with_reducible assumption) | assumption)
                obtain ⟨ad357, e357, hx357_0⟩ := Kd.at_string HR1.out x5_1 p357 q357
                cases e357
                replace p357 := eq_true p357
                replace q357 := eq_true q357
                go_wp2
                repeat (go_quiet (fail); try go_wp2)
                go_roundg k1
                case measure => have := HK1.out; omega
                case rel => exact ⟨(wrap64 (x5_1 + 1)), (by first | rfl | (simp; done) | (simp [*]; done)), H', ⟨by have := HK1.out; omega⟩, by repeat (first | exact Drawn0.refl _ | apply Drawn0.step)⟩
              · rw [if_neg c7] at H
                have c7b0 : ((rdOf ByteArray.empty l0 x5_1).toList == (rdOf ByteArray.empty l1 x5_1).toList) = false := beq_eq_false_iff_ne.mpr c7
                have c7b1 : ((rdOf ByteArray.empty l0 x5_1).toList != (rdOf ByteArray.empty l1 x5_1).toList) = true := bne_iff_ne.mpr c7
                obtain rfl := Option.some.inj H
                have p356 : 0 ≤ (x5_1 : Int) := of_decide_eq_true (by first | (with_reducible assumption) | assumption)
                have q356 : x5_1 < (l0.length : Int) := of_decide_eq_true (by first | (with_reducible assumption) | assumption)
                obtain ⟨ad356, e356, hx356_0⟩ := Kd.at_string HR0.out x5_1 p356 q356
                cases e356
                replace p356 := eq_true p356
                replace q356 := eq_true q356
                have p357 : 0 ≤ (x5_1 : Int) := of_decide_eq_true (by first | (with_reducible assumption) | assumption)
                have q357 : x5_1 < (l1.length : Int) := of_decide_eq_true (by first | (with_reducible assumption) | assumption)
                obtain ⟨ad357, e357, hx357_0⟩ := Kd.at_string HR1.out x5_1 p357 q357
                cases e357
                replace p357 := eq_true p357
                replace q357 := eq_true q357
                go_wp2
                repeat (go_quiet (fail); try go_wp2)
                go_ret
                exact ⟨by first | rfl | (simp; done) | (simp [*]; done), by repeat (first | exact Drawn0.refl _ | apply Drawn0.step)⟩
            · rw [if_neg c6] at H
              exact absurd H (by simp)
          · rw [if_neg c5] at H
            exact absurd H (by simp)
        · rw [if_neg c4] at H
          have c4b0 : decide (x5_1 < (l0.length : Int)) = false := decide_eq_false c4
          clear c4
          obtain rfl := Option.some.inj H
          go_wp2
          repeat (go_quiet (fail); try go_wp2)
          go_ret
          exact ⟨by first | rfl | (simp; done) | (simp [*]; done), by repeat (first | exact Drawn0.refl _ | apply Drawn0.step)⟩
  · rw [if_neg c3] at H
    have c3b0 : ((l0.length : Int) == (l1.length : Int)) = false := beq_eq_false_iff_ne.mpr c3
    have c3b1 : ((l0.length : Int) != (l1.length : Int)) = true := bne_iff_ne.mpr c3
    have c3b2 : (l0.length == l1.length) = false := by first | simpa using c3 | (simp at c3 ⊢; omega)
    obtain rfl := Option.some.inj H
    go_enter Try.func20, Try.ntmps20
    go_wp2
    repeat (go_quiet (fail); try go_wp2)
    go_ret
    exact ⟨by first | rfl | (simp; done) | (simp [*]; done), by repeat (first | exact Drawn0.refl _ | apply Drawn0.step)⟩

end Go.Proofs.Ytonhfcjldbohbaa.PA
