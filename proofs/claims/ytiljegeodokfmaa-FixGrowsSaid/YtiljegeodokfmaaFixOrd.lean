/- fix: FixOrder's walk. -/
import Derived.Test.YtiljegeodokfmaaGrX
namespace Go.Proofs.Ytiljegeodokfmaa.Fx
open Go Go.RowKit Go.Proofs.YtiljegeodokfmaaW.PrintWords Go.Proofs.YtiljegeodokfmaaW.PrintLast Go.Proofs.YtiljegeodokfmaaW.PrintMore Go.Proofs.Ytiljegeodokfmaa.PA
attribute [local go_sem] Oper.semAt_some
set_option linter.unusedVariables false
set_option linter.unusedSimpArgs false

theorem C_below {α : Type} {d : Kd α} {w w' : World} {A : Option Addr} {n : Nat} {xs : List α} (h : Kd.C d w A n xs) (hb : Below w.heap.size w w') : Kd.C d w' A n xs := by
  first | exact Kd.C_below h hb | exact h.below hb | exact Kd.C.below h hb

theorem tqOnce_len (ns : List Int) (l : List S30) : ∀ i, (tqOnce ns l i).length ≤ l.length := by
  refine snocRec (P := fun l => ∀ i, (tqOnce ns l i).length ≤ l.length) (fun i => by simp [tqOnce]) (fun l e ih i => ?_) l
  rw [tqOnce_snoc]
  have := leadG_len (x := e.f0) (l := [e.f1]) (ns := ns) ih i
  simpa using this
theorem tqTwice_len (ns : List Int) (l : List S30) : ∀ i, (tqTwice ns l i).length ≤ 2 * l.length := by
  refine snocRec (P := fun l => ∀ i, (tqTwice ns l i).length ≤ 2 * l.length) (fun i => by simp [tqTwice]) (fun l e ih i => ?_) l
  rw [tqTwice_snoc]
  have := leadG_len (x := e.f0) (l := []) (ns := ns) (leadG_len (x := e.f0) (l := [e.f1, e.f1]) (ns := ns) ih) i
  simp at this ⊢
  omega
theorem order_same (ns : List Int) (l1 : List S30) (x : Int) (w4 w5 : World) (Aa : Option Addr) (ca : Nat) (Ab : Option Addr) (cb : Nat) (Ka : Nat → Prop) (hca : (setR ns (tqOnce ns l1) x).length ≤ ca) (hcb : (setR ns (tqTwice ns l1.reverse) x).length ≤ cb)
    (hra : ∀ W : World, (∀ k, Ka k → W.heap[k]? = w4.heap[k]?) → ReadsInt W .i64 Aa (setR ns (tqOnce ns l1) x).length (setR ns (tqOnce ns l1) x)) (hrb : ReadsInt w5 .i64 Ab (setR ns (tqTwice ns l1.reverse) x).length (setR ns (tqTwice ns l1.reverse) x)) (hk : ∀ k, Ka k → w5.heap[k]? = w4.heap[k]?) (hl : (setR ns (tqOnce ns l1) x).length ≤ 1000) :
    Calls Try.prog 12 #[.slice Aa (setR ns (tqOnce ns l1) x).length ca, .slice Ab (setR ns (tqTwice ns l1.reverse) x).length cb] w5 fun e w' => e = .returned (.bool true) ∧ Drawn0 w5 w' :=
  cupelref03_Same.calls _ Aa ca _ Ab cb _ true w5 (C_of_reads_ (hra w5 hk)) hca (C_of_reads_ hrb) hcb (by rw [← order_set]; exact same_f _ (by omega))
set_option maxRecDepth 100000 in
set_option maxHeartbeats 4000000 in
theorem FixOrder_any (A0 : Option Addr) (c0 : Nat) (l0 : List Int) (A1 : Option Addr) (c1 : Nat) (l1 : List S30) (w : World) (hr0 : Kd.C (Kd.int .i64) w A0 l0.length l0) (hc0 : l0.length ≤ c0) (hr1 : Kd.C k30 w A1 l1.length l1) (hc1 : l1.length ≤ c1) (hw0 : ∀ x ∈ l0, (Lit.int .i64 x).wf = true) (hw1 : ∀ e ∈ l1, (Lit.int .i64 e.f0).wf = true ∧ (Lit.int .i64 e.f1).wf = true) :
    Calls Try.prog 3 #[.slice A0 l0.length c0, .slice A1 l1.length c1] w fun e w' => e = .returned (.bool true) ∧ Below w.heap.size w w' := by
  have HR0 := Aside0.mk hr0
  have HR1 := Aside0.mk hr1
  have HW0 := Aside0.mk hw0
  have HW1 := Aside0.mk hw1
  clear hr0 hr1 hw0 hw1
  by_cases hlen : l0.length ≤ 16 ∧ l1.length ≤ 40
  · obtain ⟨hl0, hl1⟩ := hlen
    have d0 : decide ((16 : Int) < (l0.length : Int)) = false := decide_eq_false (by omega)
    have d1 : decide ((40 : Int) < (l1.length : Int)) = false := decide_eq_false (by omega)
    go_enter Try.func3, Try.ntmps3
    go_wp2_with fail
    refine (alive_any w).mono ?_
    rintro e w1 ⟨rfl, hb1⟩
    have HB1 := Aside0.mk hb1
    clear hb1
    go_wp2_with fail
    refine (new_gs A0 c0 l0 w1 w.heap.size HB1.out.size (reads_of_C (C_below HR0.out HB1.out)) (by omega) HW0.out).mono ?_
    rintro e w2 ⟨ga, Sa, rfl, hGa, hMa⟩
    have hb2 := HB1.out.trans hMa.2.below
    have HGA := Aside0.mk hGa
    have HSA := Aside0.mk hMa.1
    have HB2 := Aside0.mk hb2
    have hz12 := hMa.2.below.size
    clear hGa hMa hb2
    go_wp2_with fail
    refine (new_gs A0 c0 l0 w2 w.heap.size HB2.out.size (reads_of_C (C_below HR0.out HB2.out)) (by omega) HW0.out).mono ?_
    rintro e w3 ⟨gb, Sb, rfl, hGb, hMb⟩
    have hb3 := HB2.out.trans hMb.2.below
    have hGa3 := HGA.out.other hMb.2 (fun _ _ h => h)
    have hdis : ∀ k, Sa k → ¬ Sb k := fun k h1 h2 => by
      have := (HGA.out.sB k h1).2
      rcases hMb.1 k h2 with h | h
      · exact h
      · omega
    have HGB := Aside0.mk hGb
    have HGA3 := Aside0.mk hGa3
    have HDIS := Aside0.mk hdis
    have HB3 := Aside0.mk hb3
    clear hGb hMb hb3 hGa3 hdis HGA HSA HB2 HB1
    have hns : (onceF l0).length ≤ 16 := Nat.le_trans (onceF_len l0) hl0
    go_wp2_with fail
    go_loopg [7] l1.length (fun kq v7 wr => ∃ (j : Nat) (Sa Sb : Nat → Prop), v7 = .int .i64 j ∧ Aside0 (j ≤ l1.length ∧ kq = l1.length - j) ∧ Aside0 (GS w.heap.size Sa ga (onceF l0) (tqOnce (onceF l0) (l1.take j)) wr) ∧ Aside0 (GS w.heap.size Sb gb (onceF l0) (tqTwice (onceF l0) (l1.reverse.take j)) wr) ∧ Aside0 (∀ k, Sa k → ¬ Sb k) ∧ Aside0 (Below w.heap.size w wr))
    case atStart => exact ⟨0, Sa, Sb, rfl, ⟨by omega⟩, by simpa [tqOnce] using HGA3, by simpa [tqTwice] using HGB, HDIS, HB3⟩
    case round =>
      obtain ⟨j, Sa, Sb, rfl, HJ, HGA, HGB, HDIS, HB⟩ := hrel
      obtain ⟨hj, hk⟩ := HJ.out
      by_cases hlt : j < l1.length
      · obtain ⟨ad, rfl, cf0, cf1⟩ := at_T30 (C_below HR1.out HB.out) (j : Int) (by omega) (by omega)
        rw [Int.toNat_natCast] at cf0 cf1
        have hmem : rd_T30 l1 (j : Int) ∈ l1 := by unfold rd_T30; rw [Int.toNat_natCast, List.getD_eq_getElem?_getD, List.getElem?_eq_getElem hlt]; exact List.getElem_mem _
        have htk : l1.take (j + 1) = l1.take j ++ [rd_T30 l1 (j : Int)] := by
          rw [List.take_add_one]; unfold rd_T30; rw [Int.toNat_natCast, List.getD_eq_getElem?_getD, List.getElem?_eq_getElem hlt]; rfl
        have hwE := HW1.out _ hmem
        obtain ⟨E, HE⟩ : ∃ E, Aside0 (rd_T30 l1 (j : Int) = E) := ⟨_, ⟨rfl⟩⟩
        rw [HE.out] at cf0 cf1 htk hwE
        obtain ⟨x, HX⟩ : ∃ x, Aside0 (E.f0 = x) := ⟨_, ⟨rfl⟩⟩
        obtain ⟨y, HY⟩ : ∃ y, Aside0 (E.f1 = y) := ⟨_, ⟨rfl⟩⟩
        rw [HX.out] at cf0 hwE
        rw [HY.out] at cf1 hwE
        have HTK := Aside0.mk htk
        have HWE := Aside0.mk hwE
        have HMEM := Aside0.mk hmem
        clear htk hwE hmem
        have hadl : (ad.add (j * 2)).block < wr.heap.size := World.block_lt_of_cell? wr (ad.add (j * 2)) cf0
        have hzw := HB.out.size
        have hdj : decide ((j : Int) < (l1.length : Int)) = true := decide_eq_true (by omega)
        have hL : Calls Try.prog 10 #[.pointer (some ⟨ga, 0, none⟩), .int .i64 x, .slice (some ⟨wr.heap.size, 0, none⟩) 1 1] ((wr.alloc (.cells #[.int .i64 y] 3)).drew) fun e w' => e = .returned (.int .i64 (if x ∈ onceF l0 then 0 else 3)) ∧ ∃ S', GS w.heap.size S' ga (onceF l0) (leadG (onceF l0) (tqOnce (onceF l0) (l1.take j)) x [y]) w' ∧ Mv w.heap.size Sa S' wr.drew w' :=
          lead_built (w := wr.drew) x [y] (HGA.out.heap (w' := wr.drew) (Nat.le_refl _) (fun _ _ => rfl)) HWE.out.1 hzw (by simp) (by simpa using HWE.out.2) (fun i => by have := tqOnce_len (onceF l0) (l1.take j) i; rw [List.length_take] at this; simp; omega) _ rfl 1 1 rfl
        have HL := Aside0.mk hL
        clear hL
        go_wp2_with fail
        refine start_ (n := 13) (S := fun w' => w'.cell? (ad.add (j * 2)) = some (.int .i64 x) ∧ w'.cell? ⟨(ad.add (j * 2)).block, (ad.add (j * 2)).off + 1, none⟩ = some (.int .i64 y)) (ds := [12]) #[false, false, false, false, false, false, false, false, false, false, false, false, false] (by kernel_rfl) rfl rfl ⟨cf0, cf1⟩ (fun hHeld => ?_)
        refine pure_ (i := 0) (N := some 31) (v := ?_) (a' := ?_) #[true, false, false, false, false, false, false, false, false, false, false, false, false] rfl rfl (by kernel_rfl) (fun _ _ _ h => h) (Or.inl ⟨by rfl, ?_⟩) ?_ ?_
        rotate_left
        · intro w'
          go_simp
          with_reducible rfl
        rotate_left
        · simp only [Act.put, List.setIfInBounds_toArray, List.set_cons_zero, List.set_cons_succ, i64_w, i32_w]
          rfl
        refine pure_ (i := 1) (N := some 32) (v := ?_) (a' := ?_) #[true, true, false, false, false, false, false, false, false, false, false, false, false] rfl rfl (by kernel_rfl) (fun _ _ _ h => h) (Or.inl ⟨by rfl, ?_⟩) ?_ ?_
        rotate_left
        · intro w'
          go_simp
          with_reducible rfl
        rotate_left
        · simp only [Act.put, List.setIfInBounds_toArray, List.set_cons_zero, List.set_cons_succ, i64_w, i32_w]
          rfl
        refine pure_ (i := 2) (N := some 33) (v := ?_) (a' := ?_) #[true, true, true, false, false, false, false, false, false, false, false, false, false] rfl rfl (by kernel_rfl) (fun _ _ _ h => h) (Or.inl ⟨by rfl, ?_⟩) ?_ ?_
        rotate_left
        · intro w'
          go_simp
          with_reducible rfl
        rotate_left
        · simp only [Act.put, List.setIfInBounds_toArray, List.set_cons_zero, List.set_cons_succ, i64_w, i32_w]
          rfl
        refine pure_ (i := 3) (N := some 34) (v := ?_) (a' := ?_) #[true, true, true, true, false, false, false, false, false, false, false, false, false] rfl rfl (by kernel_rfl) (fun _ _ _ h => h) (Or.inl ⟨by rfl, ?_⟩) ?_ ?_
        rotate_left
        · intro w'
          go_simp
          with_reducible rfl
        rotate_left
        · simp only [Act.put, List.setIfInBounds_toArray, List.set_cons_zero, List.set_cons_succ, i64_w, i32_w]
          rfl
        refine pure_ (i := 4) (N := some 35) (v := ?_) (a' := ?_) #[true, true, true, true, true, false, false, false, false, false, false, false, false] rfl rfl (by kernel_rfl) (fun _ _ _ h => h) (Or.inl ⟨by rfl, ?_⟩) ?_ ?_
        rotate_left
        · intro w'
          go_simp
          with_reducible rfl
        rotate_left
        · simp only [Act.put, List.setIfInBounds_toArray, List.set_cons_zero, List.set_cons_succ, i64_w, i32_w]
          rfl
        refine pure_ (i := 6) (N := some 37) (v := ?_) (a' := ?_) #[true, true, true, true, true, false, true, false, false, false, false, false, false] rfl rfl (by kernel_rfl) (fun _ _ _ h => h) (Or.inl ⟨by rfl, ?_⟩) ?_ ?_
        rotate_left
        · intro w'
          go_simp
          with_reducible rfl
        rotate_left
        · simp only [Act.put, List.setIfInBounds_toArray, List.set_cons_zero, List.set_cons_succ, i64_w, i32_w]
          rfl
        refine pure_ (i := 7) (N := some 38) (v := ?_) (a' := ?_) #[true, true, true, true, true, false, true, true, false, false, false, false, false] rfl rfl (by kernel_rfl) (fun _ _ _ h => h) (Or.inl ⟨by rfl, ?_⟩) ?_ ?_
        rotate_left
        · intro w'
          go_simp
          with_reducible rfl
        rotate_left
        · simp only [Act.put, List.setIfInBounds_toArray, List.set_cons_zero, List.set_cons_succ, i64_w, i32_w]
          rfl
        refine pure_ (i := 8) (N := some 39) (v := ?_) (a' := ?_) #[true, true, true, true, true, false, true, true, true, false, false, false, false] rfl rfl (by kernel_rfl) (fun _ _ _ h => h) (Or.inl ⟨by rfl, ?_⟩) ?_ ?_
        rotate_left
        · intro w'
          go_simp
          with_reducible rfl
        rotate_left
        · simp only [Act.put, List.setIfInBounds_toArray, List.set_cons_zero, List.set_cons_succ, i64_w, i32_w]
          rfl
        refine pure_ (i := 9) (N := some 40) (v := ?_) (a' := ?_) #[true, true, true, true, true, false, true, true, true, true, false, false, false] rfl rfl (by kernel_rfl) (fun _ _ _ h => h) (Or.inl ⟨by rfl, ?_⟩) ?_ ?_
        rotate_left
        · intro w'
          go_simp
          with_reducible rfl
        rotate_left
        · simp only [Act.put, List.setIfInBounds_toArray, List.set_cons_zero, List.set_cons_succ, i64_w, i32_w]
          rfl
        refine take_ (i := 5) (N := some 36) (v := ?_) (a' := ?_) #[true, true, true, true, true, true, true, true, true, true, false, false, false] rfl rfl (by kernel_rfl) (fun _ _ _ h => h) (Or.inl ⟨by rfl, ?_⟩) hHeld ?_ ?_
        rotate_left
        · rintro w' ⟨s0, s1⟩
          go_simp
          with_reducible rfl
        rotate_left
        · simp only [Act.put, List.setIfInBounds_toArray, List.set_cons_zero, List.set_cons_succ, i64_w, i32_w]
          rfl
        refine take_ (i := 10) (N := some 41) (v := ?_) (a' := ?_) #[true, true, true, true, true, true, true, true, true, true, true, false, false] rfl rfl (by kernel_rfl) (fun _ _ _ h => h) (Or.inl ⟨by rfl, ?_⟩) hHeld ?_ ?_
        rotate_left
        · rintro w' ⟨s0, s1⟩
          go_simp
          with_reducible rfl
        rotate_left
        · simp only [Act.put, List.setIfInBounds_toArray, List.set_cons_zero, List.set_cons_succ, i64_w, i32_w]
          rfl
        refine one_ (i := 11) (N := some 42) #[true, true, true, true, true, true, true, true, true, true, true, true, false] rfl rfl (by kernel_rfl) (by decide) (fun K hK => ?_)
        refine value_ (w1 := ?_) (v := ?_) (by rfl) rfl ?_ ?_
        rotate_left 2
        · go_simp
          constructor
          · rfl
          · rfl
        refine hK.out _ _ ⟨(World.cell?_of_block (Below.heap_alloc wr _ _ hadl)).trans cf0, cel_alloc hadl cf1 _⟩ (fun hHeld => ?_)
        clear hK K
        refine norm_ (a' := ?_) ?_ ?_
        rotate_left
        · show Act.put _ (some 42) _ = _
          simp only [Act.put, List.setIfInBounds_toArray, List.set_cons_zero, List.set_cons_succ, i64_w, i32_w]
          rfl
        refine last_ (i := 12) (N := some 43) #[true, true, true, true, true, true, true, true, true, true, true, true, true] rfl rfl (by kernel_rfl) (by decide) (fun K hK => ?_)
        refine goes_ Try.func10 (by kernel_rfl) rfl #[.pointer (some ⟨ga, 0, none⟩), .int .i64 x, .slice (some ⟨wr.heap.size, 0, none⟩) 1 1] (by rfl) rfl rfl (by simp only [List.map_toArray, List.map_cons, List.map_nil]; rfl) ?_
        with_reducible refine (HL.out).mono ?_
        rintro e w4 ⟨rfl, S4, hG4, hM4⟩
        refine ⟨_, rfl, ?_⟩
        refine hK.out _ _ ?_
        clear hK K
        refine norm_ (a' := ?_) ?_ ?_
        rotate_left
        · show Act.put _ (some 43) _ = _
          simp only [Act.put, List.setIfInBounds_toArray, List.set_cons_zero, List.set_cons_succ, i64_w, i32_w]
          rfl
        refine done_ (by kernel_rfl) ?_
        have hba : Below w.heap.size wr w4 := ((Below.refl w.heap.size wr).drew).trans hM4.2.below
        have hGB4 := (HGB.out.heap (w' := wr.drew) (Nat.le_refl _) (fun _ _ => rfl)).other hM4.2 (fun k h1 h2 => HDIS.out k h2 h1)
        have hD4 : ∀ k, S4 k → ¬ Sb k := fun k h1 h2 => by
          rcases hM4.1 k h1 with h | h
          · exact HDIS.out k h h2
          · have := (HGB.out.sB k h2).2
            have h' : wr.heap.size ≤ k := h
            omega
        have HGA4 : Aside0 (GS w.heap.size S4 ga (onceF l0) (tqOnce (onceF l0) (l1.take (j + 1))) w4) := ⟨by rw [HTK.out, tqOnce_snoc, HX.out, HY.out]; exact hG4⟩
        have HGB4 := Aside0.mk hGB4
        have HD4 := Aside0.mk hD4
        have HB4 := Aside0.mk (HB.out.trans hba)
        clear hba hGB4 hD4 hG4 hM4 HGA HGB HDIS HL hHeld HTK HX HY HWE HMEM cf0 cf1 hadl hzw HE
        generalize (if x ∈ onceF l0 then (0 : Int) else 3) = r4
        obtain ⟨ad2, e2, ch0, ch1⟩ := at_T30 (C_below HR1.out HB4.out) ((l1.length - 1 - j : Nat) : Int) (by omega) (by omega)
        injection e2 with e2
        subst e2
        rw [Int.toNat_natCast] at ch0 ch1
        have hmem : rd_T30 l1 ((l1.length - 1 - j : Nat) : Int) ∈ l1 := by unfold rd_T30; rw [Int.toNat_natCast, List.getD_eq_getElem?_getD, List.getElem?_eq_getElem (by omega)]; exact List.getElem_mem _
        have htk : l1.reverse.take (j + 1) = l1.reverse.take j ++ [rd_T30 l1 ((l1.length - 1 - j : Nat) : Int)] := by
          rw [List.take_add_one]; unfold rd_T30
          rw [Int.toNat_natCast, List.getD_eq_getElem?_getD, List.getElem?_reverse (by omega), List.getElem?_eq_getElem (by omega)]; rfl
        have hwE := HW1.out _ hmem
        obtain ⟨E, HE⟩ : ∃ E, Aside0 (rd_T30 l1 ((l1.length - 1 - j : Nat) : Int) = E) := ⟨_, ⟨rfl⟩⟩
        rw [HE.out] at ch0 ch1 htk hwE
        obtain ⟨p, HX⟩ : ∃ p, Aside0 (E.f0 = p) := ⟨_, ⟨rfl⟩⟩
        obtain ⟨q, HY⟩ : ∃ q, Aside0 (E.f1 = q) := ⟨_, ⟨rfl⟩⟩
        rw [HX.out] at ch0 hwE
        rw [HY.out] at ch1 hwE
        have HTK := Aside0.mk htk
        have HWE := Aside0.mk hwE
        clear htk hwE hmem HE
        go_wp2_with fail
        obtain ⟨w5, hw5⟩ : ∃ w5, w4.alloc (.cells #[.int .i64 p, .int .i64 q] 30) = w5 := ⟨_, rfl⟩
        have hz5 : w5.heap.size = w4.heap.size + 1 := by rw [← hw5]; simp
        have hbx : w5.heap[w4.heap.size]? = some (.cells #[.int .i64 p, .int .i64 q] 30 (0, 0)) := by rw [← hw5]; exact World.alloc_heap_new w4 _
        have hGB5 : GS w.heap.size Sb gb (onceF l0) (tqTwice (onceF l0) (l1.reverse.take j)) w5 := by rw [← hw5]; exact HGB4.out.alloc _
        have hGA5 : GS w.heap.size S4 ga (onceF l0) (tqOnce (onceF l0) (l1.take (j + 1))) w5 := by rw [← hw5]; exact HGA4.out.alloc _
        have hB5 : Below w.heap.size w w5 := by rw [← hw5]; exact HB4.out.alloc HB4.out.size _
        have hnb : ¬ Sb w4.heap.size := fun h => by have := (HGB4.out.sB _ h).2; omega
        rw [hw5, ← hz5]
        have hlb : ∀ i, (tqTwice (onceF l0) (l1.reverse.take j) i).length ≤ 80 := fun i => by have := tqTwice_len (onceF l0) (l1.reverse.take j) i; rw [List.length_take, List.length_reverse] at this; omega
        refine (lead_built (w := w5) p [q, q] hGB5 HWE.out.1 hB5.size (by simp) (by simpa using HWE.out.2) (fun i => by have := hlb i; simp; omega) _ rfl 2 2 rfl).mono ?_
        rintro e w6 ⟨rfl, S6, hG6, hM6⟩
        have hlb6 : ∀ i, (leadG (onceF l0) (tqTwice (onceF l0) (l1.reverse.take j)) p [q, q] i).length ≤ 80 + 2 := leadG_len hlb
        have hGA6 := hGA5.other hM6.2 (fun k h1 h2 => HD4.out k h1 h2)
        have hD6 : ∀ k, S4 k → ¬ S6 k := fun k h1 h2 => by
          rcases hM6.1 k h2 with h | h
          · exact HD4.out k h1 h
          · have := (hGA5.sB k h1).2; omega
        have hb6 := hM6.2.keep w4.heap.size (by omega) hnb
        have hB6 := hB5.trans hM6.2.below
        have cp : w6.cell? ⟨w4.heap.size, 0, none⟩ = some (.int .i64 p) := by rw [Lib.cell_of_heap (hb6.trans hbx)]; rfl
        have HG6 := Aside0.mk hG6
        have HGA6 := Aside0.mk hGA6
        have HD6 := Aside0.mk hD6
        have HB6 := Aside0.mk hB6
        have HLB6 := Aside0.mk hlb6
        clear hbx hGB5 hGA5 hB5 hnb hlb hG6 hM6 hlb6 hGA6 hD6 hb6 hB6 hw5 ch0 ch1
        generalize (if p ∈ onceF l0 then (0 : Int) else 3) = r6
        go_wp2_with fail
        refine (lead_gs w.heap.size S6 gb (onceF l0) _ p HWE.out.1 none 0 [] w6 HG6.out HB6.out.size (fun W' _ => nil_reads W') (by simp) (fun i => by have := HLB6.out i; simp; omega)).mono ?_
        rintro e w7 ⟨rfl, S7, hG7, hM7⟩
        have hGA7 := HGA6.out.other hM7.2 (fun k h1 h2 => HD6.out k h1 h2)
        have hD7 : ∀ k, S4 k → ¬ S7 k := fun k h1 h2 => by
          rcases hM7.1 k h2 with h | h
          · exact HD6.out k h1 h
          · have := (HGA6.out.sB k h1).2; omega
        have HGB7 : Aside0 (GS w.heap.size S7 gb (onceF l0) (tqTwice (onceF l0) (l1.reverse.take (j + 1))) w7) := ⟨by rw [HTK.out, tqTwice_snoc, HX.out, HY.out]; exact hG7⟩
        have HGA7 := Aside0.mk hGA7
        have HD7 := Aside0.mk hD7
        have HB7 := Aside0.mk (HB6.out.trans hM7.2.below)
        clear hGA7 hD7 hG7 hM7
        generalize (if p ∈ onceF l0 then (0 : Int) else 3) = r7
        go_wp2_with fail
        go_roundg (l1.length - (j + 1))
        case measure => omega
        case rel => exact ⟨j + 1, S4, S7, by simp, ⟨by omega⟩, HGA7, HGB7, HD7, HB7⟩
      · obtain rfl : j = l1.length := by omega
        have hdj : decide ((l1.length : Int) < (l1.length : Int)) = false := decide_eq_false (by omega)
        rw [List.take_length] at HGA
        rw [show l1.reverse.take l1.length = l1.reverse from List.take_of_length_le (by simp)] at HGB
        go_wp2_with fail
        obtain ⟨kf, hkf⟩ := once_f l0 (by omega)
        refine (cupelref12_Once.calls kf A0 c0 l0 (onceF l0) wr (C_below HR0.out HB.out) hc0 hkf).mono ?_
        rintro e w8 ⟨v0, rfl, hR, hbl⟩
        obtain ⟨A8, c8, rfl, hc8, K8, hK8, hrd8⟩ := Lst.of_R hR
        have HGA8 := Aside0.mk (HGA.out.heap hbl.size (fun k hk => hbl.block k (HGA.out.sB k hk).2))
        have HGB8 := Aside0.mk (HGB.out.heap hbl.size (fun k hk => hbl.block k (HGB.out.sB k hk).2))
        have HB8 := Aside0.mk (HB.out.trans (hbl.mono HB.out.size))
        have HK8 : Aside0 (∀ k, K8 k → ¬ Sa k ∧ ¬ Sb k) := ⟨fun k hk => ⟨fun h => by have := (HGA.out.sB k h).2; have := (hK8 k hk).1; omega, fun h => by have := (HGB.out.sB k h).2; have := (hK8 k hk).1; omega⟩⟩
        have HKZ : Aside0 (∀ k, K8 k → k < w8.heap.size) := ⟨fun k hk => (hK8 k hk).2.1⟩
        have HRD8 := Aside0.mk hrd8
        clear hR hbl hrd8 hK8 hkf HGA HGB HB
        go_wp2_with fail
        go_loopg [10] (onceF l0).length (fun kq v10 wx => ∃ (j : Nat) (Sa Sb : Nat → Prop), v10 = .int .i64 j ∧ Aside0 (j ≤ (onceF l0).length ∧ kq = (onceF l0).length - j) ∧ Aside0 (GS w.heap.size Sa ga (onceF l0) (tqOnce (onceF l0) l1) wx) ∧ Aside0 (GS w.heap.size Sb gb (onceF l0) (tqTwice (onceF l0) l1.reverse) wx) ∧ Aside0 (∀ k, Sa k → ¬ Sb k) ∧ Aside0 (Below w.heap.size w wx) ∧ Aside0 (∀ k, K8 k → ¬ Sa k ∧ ¬ Sb k) ∧ Aside0 (∀ k, K8 k → k < wx.heap.size ∧ wx.heap[k]? = w8.heap[k]?))
        case atStart => exact ⟨0, Sa, Sb, rfl, ⟨by omega⟩, HGA8, HGB8, HDIS, HB8, HK8, ⟨fun k hk => ⟨HKZ.out k hk, rfl⟩⟩⟩
        case round =>
          obtain ⟨j, Sa, Sb, rfl, HJ, HGA, HGB, HDIS, HB, HK, HKK⟩ := hrel
          obtain ⟨hj, hk⟩ := HJ.out
          by_cases hlt : j < (onceF l0).length
          · have hdj2 : decide ((j : Int) < ((onceF l0).length : Int)) = true := decide_eq_true (by omega)
            obtain ⟨ad8, rfl, c8x⟩ := (HRD8.out wr (fun k hk => (HKK.out k hk).2)).at_ (j : Int) (by omega) (by omega)
            rw [Int.toNat_natCast] at c8x
            obtain ⟨x, HX⟩ : ∃ x, Aside0 (rd (onceF l0) (j : Int) = x) := ⟨_, ⟨rfl⟩⟩
            rw [HX.out] at c8x
            have hwx : (Lit.int .i64 x).wf = true := by rw [← HX.out]; exact HW0.out _ (onceF_mem (by rw [rd_nat]; exact getD_mem hlt))
            have HWX := Aside0.mk hwx
            clear hwx
            have hcell : ∀ W : World, (∀ k, K8 k → W.heap[k]? = w8.heap[k]?) → W.cell? (ad8.add j) = some (.int .i64 x) := fun W hW => by
              obtain ⟨ad9, e9, h9⟩ := (HRD8.out W hW).at_ (j : Int) (by omega) (by omega)
              injection e9 with e9
              subst e9
              rw [Int.toNat_natCast, HX.out] at h9; exact h9
            have HC := Aside0.mk hcell
            clear hcell
            have hsa := set_gs w.heap.size Sa ga (onceF l0) (tqOnce (onceF l0) l1) x HWX.out wr.drew HB.out.size (HGA.out.heap (w' := wr.drew) (Nat.le_refl _) (fun _ _ => rfl))
            have HSA := Aside0.mk hsa
            clear hsa
            have hsl : ∀ tq, (setR (onceF l0) tq x).length ≤ 1000 := fun tq => by
              unfold setR
              split
              · rw [List.length_map]; have := List.length_filter_le (fun n => RB (onceF l0).length tq ((onceF l0).idxOf x) n) (List.range (onceF l0).length); rw [List.length_range] at this; omega
              · simp
            have HSL := Aside0.mk hsl
            clear hsl
            go_wp2_with fail
            refine start_ (n := 14) (S := fun w' => w'.cell? (ad8.add j) = some (.int .i64 x)) (ds := [12]) #[false, false, false, false, false, false, false, false, false, false, false, false, false, false] (by kernel_rfl) rfl rfl (c8x) (fun hHeld => ?_)
            refine pure_ (i := 0) (N := some 73) (v := ?_) (a' := ?_) #[true, false, false, false, false, false, false, false, false, false, false, false, false, false] rfl rfl (by kernel_rfl) (fun _ _ _ h => h) (Or.inl ⟨by rfl, ?_⟩) ?_ ?_
            rotate_left
            · intro w'
              go_simp
              with_reducible rfl
            rotate_left
            · simp only [Act.put, List.setIfInBounds_toArray, List.set_cons_zero, List.set_cons_succ, i64_w, i32_w]
              rfl
            refine pure_ (i := 1) (N := some 74) (v := ?_) (a' := ?_) #[true, true, false, false, false, false, false, false, false, false, false, false, false, false] rfl rfl (by kernel_rfl) (fun _ _ _ h => h) (Or.inl ⟨by rfl, ?_⟩) ?_ ?_
            rotate_left
            · intro w'
              go_simp
              with_reducible rfl
            rotate_left
            · simp only [Act.put, List.setIfInBounds_toArray, List.set_cons_zero, List.set_cons_succ, i64_w, i32_w]
              rfl
            refine pure_ (i := 2) (N := some 75) (v := ?_) (a' := ?_) #[true, true, true, false, false, false, false, false, false, false, false, false, false, false] rfl rfl (by kernel_rfl) (fun _ _ _ h => h) (Or.inl ⟨by rfl, ?_⟩) ?_ ?_
            rotate_left
            · intro w'
              go_simp
              with_reducible rfl
            rotate_left
            · simp only [Act.put, List.setIfInBounds_toArray, List.set_cons_zero, List.set_cons_succ, i64_w, i32_w]
              rfl
            refine pure_ (i := 3) (N := some 76) (v := ?_) (a' := ?_) #[true, true, true, true, false, false, false, false, false, false, false, false, false, false] rfl rfl (by kernel_rfl) (fun _ _ _ h => h) (Or.inl ⟨by rfl, ?_⟩) ?_ ?_
            rotate_left
            · intro w'
              go_simp
              with_reducible rfl
            rotate_left
            · simp only [Act.put, List.setIfInBounds_toArray, List.set_cons_zero, List.set_cons_succ, i64_w, i32_w]
              rfl
            refine pure_ (i := 6) (N := some 79) (v := ?_) (a' := ?_) #[true, true, true, true, false, false, true, false, false, false, false, false, false, false] rfl rfl (by kernel_rfl) (fun _ _ _ h => h) (Or.inl ⟨by rfl, ?_⟩) ?_ ?_
            rotate_left
            · intro w'
              go_simp
              with_reducible rfl
            rotate_left
            · simp only [Act.put, List.setIfInBounds_toArray, List.set_cons_zero, List.set_cons_succ, i64_w, i32_w]
              rfl
            refine pure_ (i := 7) (N := some 80) (v := ?_) (a' := ?_) #[true, true, true, true, false, false, true, true, false, false, false, false, false, false] rfl rfl (by kernel_rfl) (fun _ _ _ h => h) (Or.inl ⟨by rfl, ?_⟩) ?_ ?_
            rotate_left
            · intro w'
              go_simp
              with_reducible rfl
            rotate_left
            · simp only [Act.put, List.setIfInBounds_toArray, List.set_cons_zero, List.set_cons_succ, i64_w, i32_w]
              rfl
            refine pure_ (i := 8) (N := some 81) (v := ?_) (a' := ?_) #[true, true, true, true, false, false, true, true, true, false, false, false, false, false] rfl rfl (by kernel_rfl) (fun _ _ _ h => h) (Or.inl ⟨by rfl, ?_⟩) ?_ ?_
            rotate_left
            · intro w'
              go_simp
              with_reducible rfl
            rotate_left
            · simp only [Act.put, List.setIfInBounds_toArray, List.set_cons_zero, List.set_cons_succ, i64_w, i32_w]
              rfl
            refine pure_ (i := 9) (N := some 82) (v := ?_) (a' := ?_) #[true, true, true, true, false, false, true, true, true, true, false, false, false, false] rfl rfl (by kernel_rfl) (fun _ _ _ h => h) (Or.inl ⟨by rfl, ?_⟩) ?_ ?_
            rotate_left
            · intro w'
              go_simp
              with_reducible rfl
            rotate_left
            · simp only [Act.put, List.setIfInBounds_toArray, List.set_cons_zero, List.set_cons_succ, i64_w, i32_w]
              rfl
            refine take_ (i := 4) (N := some 77) (v := ?_) (a' := ?_) #[true, true, true, true, true, false, true, true, true, true, false, false, false, false] rfl rfl (by kernel_rfl) (fun _ _ _ h => h) (Or.inl ⟨by rfl, ?_⟩) hHeld ?_ ?_
            rotate_left
            · intro w' s0
              go_simp
              with_reducible rfl
            rotate_left
            · simp only [Act.put, List.setIfInBounds_toArray, List.set_cons_zero, List.set_cons_succ, i64_w, i32_w]
              rfl
            refine take_ (i := 10) (N := some 83) (v := ?_) (a' := ?_) #[true, true, true, true, true, false, true, true, true, true, true, false, false, false] rfl rfl (by kernel_rfl) (fun _ _ _ h => h) (Or.inl ⟨by rfl, ?_⟩) hHeld ?_ ?_
            rotate_left
            · intro w' s0
              go_simp
              with_reducible rfl
            rotate_left
            · simp only [Act.put, List.setIfInBounds_toArray, List.set_cons_zero, List.set_cons_succ, i64_w, i32_w]
              rfl
            refine one_ (i := 5) (N := some 78) #[true, true, true, true, true, true, true, true, true, true, true, false, false, false] rfl rfl (by kernel_rfl) (by decide) (fun K hK => ?_)
            refine goes_ Try.func13 (by kernel_rfl) rfl #[.pointer (some ⟨ga, 0, none⟩), .int .i64 x] (by rfl) rfl rfl (by simp only [List.map_toArray, List.map_cons, List.map_nil]; rfl) ?_
            with_reducible refine (HSA.out).mono ?_
            rintro e w4 ⟨va, S4, rfl, hG4, hM4, hO4, hN4⟩
            refine ⟨_, rfl, ?_⟩
            have hz4 : wr.heap.size ≤ w4.heap.size := hM4.2.below.size
            have hGB4 := (HGB.out.heap (w' := wr.drew) (Nat.le_refl _) (fun _ _ => rfl)).other hM4.2 (fun k h1 h2 => HDIS.out k h2 h1)
            have hk4 : ∀ k, K8 k → w4.heap[k]? = w8.heap[k]? := fun k hk => (hM4.2.keep k (HKK.out k hk).1 (HK.out k hk).1).trans (HKK.out k hk).2
            have hsb := set_gs w.heap.size Sb gb (onceF l0) (tqTwice (onceF l0) l1.reverse) x HWX.out w4 (Nat.le_trans HB.out.size hz4) hGB4
            obtain ⟨Aa, ca, rfl, hca, Ka, hKa, hra⟩ := Lst.of_own (by exact hz4) hO4 (HSL.out _)
            refine hK.out _ _ (HC.out w4 hk4) (fun hHeld => ?_)
            clear hK K
            refine norm_ (a' := ?_) ?_ ?_
            rotate_left
            · show Act.put _ (some 78) _ = _
              simp only [Act.put, List.setIfInBounds_toArray, List.set_cons_zero, List.set_cons_succ, i64_w, i32_w]
              rfl
            refine one_ (i := 11) (N := some 84) #[true, true, true, true, true, true, true, true, true, true, true, true, false, false] rfl rfl (by kernel_rfl) (by decide) (fun K hK => ?_)
            refine goes_ Try.func13 (by kernel_rfl) rfl #[.pointer (some ⟨gb, 0, none⟩), .int .i64 x] (by rfl) rfl rfl (by simp only [List.map_toArray, List.map_cons, List.map_nil]; rfl) ?_
            with_reducible refine (hsb).mono ?_
            rintro e w5 ⟨vb, S5, rfl, hG5, hM5, hO5, hN5⟩
            refine ⟨_, rfl, ?_⟩
            have hz5 : w4.heap.size ≤ w5.heap.size := hM5.2.below.size
            obtain ⟨Ab, cb, rfl, hcb, Kb, hKb, hrb⟩ := Lst.of_own hz5 hO5 (HSL.out _)
            have hk5 : ∀ k, K8 k → w5.heap[k]? = w8.heap[k]? := fun k hk => (hM5.2.keep k (Nat.lt_of_lt_of_le (HKK.out k hk).1 hz4) (HK.out k hk).2).trans (hk4 k hk)
            have hsame := order_same (onceF l0) l1 x w4 w5 Aa ca Ab cb Ka hca hcb hra (hrb w5 (fun _ _ => rfl)) (fun k hk => hM5.2.keep k (hKa k hk).2.1 (fun h => by have h1 := (HGB.out.sB k h).2; have h2 : wr.heap.size ≤ k := (hKa k hk).1; omega)) (HSL.out _)
            refine hK.out _ _ (HC.out w5 hk5) (fun hHeld => ?_)
            clear hK K
            refine norm_ (a' := ?_) ?_ ?_
            rotate_left
            · show Act.put _ (some 84) _ = _
              simp only [Act.put, List.setIfInBounds_toArray, List.set_cons_zero, List.set_cons_succ, i64_w, i32_w]
              rfl
            refine last_ (i := 12) (N := some 85) #[true, true, true, true, true, true, true, true, true, true, true, true, true, false] rfl rfl (by kernel_rfl) (by decide) (fun K hK => ?_)
            refine goes_ Try.func12 (by kernel_rfl) rfl #[.slice Aa (setR (onceF l0) (tqOnce (onceF l0) l1) x).length ca, .slice Ab (setR (onceF l0) (tqTwice (onceF l0) l1.reverse) x).length cb] (by rfl) rfl rfl (by simp only [List.map_toArray, List.map_cons, List.map_nil]; rfl) ?_
            with_reducible refine (hsame).mono ?_
            rintro e w6 ⟨rfl, hd6⟩
            refine ⟨_, rfl, ?_⟩
            refine hK.out _ _ ?_
            clear hK K
            refine norm_ (a' := ?_) ?_ ?_
            rotate_left
            · show Act.put _ (some 85) _ = _
              simp only [Act.put, List.setIfInBounds_toArray, List.set_cons_zero, List.set_cons_succ, i64_w, i32_w]
              rfl
            refine pure_ (i := 13) (N := some 86) (v := ?_) (a' := ?_) #[true, true, true, true, true, true, true, true, true, true, true, true, true, true] rfl rfl (by kernel_rfl) (fun _ _ _ h => h) (Or.inl ⟨by rfl, ?_⟩) ?_ ?_
            rotate_left
            · intro w'
              go_simp
              with_reducible rfl
            rotate_left
            · simp only [Act.put, List.setIfInBounds_toArray, List.set_cons_zero, List.set_cons_succ, i64_w, i32_w]
              rfl
            refine done_ (by kernel_rfl) ?_
            obtain ⟨n6, rfl⟩ := hd6
            have hs4b : ∀ k, S4 k → ¬ Sb k := fun k h1 h2 => by
              rcases hM4.1 k h1 with h | h
              · exact HDIS.out k h h2
              · have := (HGB.out.sB k h2).2
                have h' : wr.heap.size ≤ k := h
                omega
            have hGA5 := (hG4.other hM5.2 hs4b).heap (w' := w5.drewN n6) (Nat.le_refl _) (fun _ _ => rfl)
            have hGB5 := hG5.heap (w' := w5.drewN n6) (Nat.le_refl _) (fun _ _ => rfl)
            have hD5 : ∀ k, S4 k → ¬ S5 k := fun k h1 h2 => by
              rcases hM5.1 k h2 with h | h
              · exact hs4b k h1 h
              · have := (hG4.sB k h1).2; omega
            have hK5 : ∀ k, K8 k → ¬ S4 k ∧ ¬ S5 k := fun k hk => by
              have h0 := (HKK.out k hk).1
              refine ⟨fun h => ?_, fun h => ?_⟩
              · rcases hM4.1 k h with h | h
                · exact (HK.out k hk).1 h
                · have h' : wr.heap.size ≤ k := h
                  omega
              · rcases hM5.1 k h with h | h
                · exact (HK.out k hk).2 h
                · omega
            have HGA5 := Aside0.mk hGA5
            have HGB5 := Aside0.mk hGB5
            have HD5 := Aside0.mk hD5
            have HK5 := Aside0.mk hK5
            have HB5 : Aside0 (Below w.heap.size w (w5.drewN n6)) := ⟨pw_below_drewN (((HB.out.drew).trans hM4.2.below).trans hM5.2.below) n6⟩
            have HKK5 : Aside0 (∀ k, K8 k → k < (w5.drewN n6).heap.size ∧ (w5.drewN n6).heap[k]? = w8.heap[k]?) := ⟨fun k hk => ⟨Nat.lt_of_lt_of_le (HKK.out k hk).1 (Nat.le_trans hz4 hz5), hk5 k hk⟩⟩
            clear hs4b hGA5 hGB5 hD5 hK5 hk5 hk4 hsb hsame hra hrb hG4 hG5 hM4 hM5 hO4 hO5 hN4 hN5 hKa hKb hGB4 c8x
            go_wp2_with fail
            go_roundg ((onceF l0).length - (j + 1))
            case measure => omega
            case rel => exact ⟨j + 1, S4, S5, by simp, ⟨by omega⟩, HGA5, HGB5, HD5, HB5, HK5, HKK5⟩
          · obtain rfl : j = (onceF l0).length := by omega
            have hdj2 : decide (((onceF l0).length : Int) < ((onceF l0).length : Int)) = false := decide_eq_false (by omega)
            have hwf : ∀ y ∈ onceF l0, (Lit.int .i64 y).wf = true := fun y hy => HW0.out y (onceF_mem hy)
            have HWF := Aside0.mk hwf
            clear hwf
            have hcl : ∀ tq, (circsR (onceF l0) tq).length ≤ 1000 := fun tq => by
              have : (circsR (onceF l0) tq).length ≤ (onceF l0).length := List.length_filter_le _ _
              omega
            have HCL := Aside0.mk hcl
            clear hcl
            go_wp2_with fail
            refine (circles_gs w.heap.size Sa ga (onceF l0) _ wr HWF.out HB.out.size HGA.out).mono ?_
            rintro e w4 ⟨va, S4, rfl, hG4, hM4, hO4, hN4⟩
            have hz4 := hM4.2.below.size
            have hGB4 := HGB.out.other hM4.2 (fun k h1 h2 => HDIS.out k h2 h1)
            obtain ⟨Aa, ca, rfl, hca, Ka, hKa, hra⟩ := Lst.of_own hz4 hO4 (HCL.out _)
            have hzw := HB.out.size
            have HB4 := Aside0.mk (HB.out.trans hM4.2.below)
            have HSB := Aside0.mk (circles_gs w.heap.size Sb gb (onceF l0) _ w4 HWF.out (by omega) hGB4)
            have HKA : Aside0 (∀ k, Ka k → ¬ Sb k ∧ k < w4.heap.size) := ⟨fun k hk => ⟨fun h => by have h1 := (HGB.out.sB k h).2; have h2 := (hKa k hk).1; omega, (hKa k hk).2.1⟩⟩
            have HRA := Aside0.mk hra
            clear hG4 hM4 hO4 hN4 hGB4 hra hKa
            go_wp2_with fail
            refine HSB.out.mono ?_
            rintro e w5 ⟨vb, S5, rfl, hG5, hM5, hO5, hN5⟩
            have hz5 := hM5.2.below.size
            obtain ⟨Ab, cb, rfl, hcb, Kb, hKb, hrb⟩ := Lst.of_own hz5 hO5 (HCL.out _)
            have hsame : Calls Try.prog 12 #[.slice Aa (circsR (onceF l0) (tqOnce (onceF l0) l1)).length ca, .slice Ab (circsR (onceF l0) (tqTwice (onceF l0) l1.reverse)).length cb] w5 fun e w' => e = .returned (.bool true) ∧ Drawn0 w5 w' :=
              cupelref03_Same.calls _ Aa ca _ Ab cb _ true w5 (C_of_reads_ (HRA.out w5 (fun k hk => hM5.2.keep k (HKA.out k hk).2 (HKA.out k hk).1))) hca (C_of_reads_ (hrb w5 (fun _ _ => rfl))) hcb (by rw [← order_circs]; exact same_f _ (by have := HCL.out (tqOnce (onceF l0) l1); omega))
            have HSAME := Aside0.mk hsame
            have HB5 := Aside0.mk (HB4.out.trans hM5.2.below)
            clear hG5 hM5 hO5 hN5 hrb hKb hsame
            go_wp2_with fail
            refine HSAME.out.mono ?_
            rintro e w6 ⟨rfl, n6, rfl⟩
            go_wp2
            go_ret
            exact ⟨rfl, pw_below_drewN HB5.out n6⟩
  · by_cases h0 : l0.length ≤ 16
    · have d0 : decide ((16 : Int) < (l0.length : Int)) = false := decide_eq_false (by omega)
      have d1 : decide ((40 : Int) < (l1.length : Int)) = true := decide_eq_true (by omega)
      go_enter Try.func3, Try.ntmps3
      go_wp2_with fail
      refine (alive_any w).mono ?_
      rintro e w1 ⟨rfl, hb1⟩
      go_wp2
      go_ret
      exact ⟨rfl, hb1⟩
    · have d0 : decide ((16 : Int) < (l0.length : Int)) = true := decide_eq_true (by omega)
      go_enter Try.func3, Try.ntmps3
      go_wp2_with fail
      refine (alive_any w).mono ?_
      rintro e w1 ⟨rfl, hb1⟩
      go_wp2
      go_ret
      exact ⟨rfl, hb1⟩
end Go.Proofs.Ytiljegeodokfmaa.Fx
