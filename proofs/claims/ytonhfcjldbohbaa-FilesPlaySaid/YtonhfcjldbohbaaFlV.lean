/- files: the reference's Do, where the file is there. -/
import Derived.Test.YtonhfcjldbohbaaFlTU
namespace Go.Proofs.Ytonhfcjldbohbaa.Fi
open Go Go.RowKit Go.ChangeMaps Go.MapKept Go.Proofs.Ytonhfcjldbohbaa.PA Go.Proofs.YtonhfcjldbohbaaW.PrintWords Go.Proofs.YtonhfcjldbohbaaW.PrintLast Go.Proofs.YtonhfcjldbohbaaW.PrintMore Go.Proofs.Ytonhfcjldbohbaa.Lx Go.Proofs.Ytonhfcjldbohbaa.M04 Go.Proofs.Ytonhfcjldbohbaa.Pl
attribute [local go_sem] Oper.semAt_some
set_option linter.unusedVariables false
set_option linter.unusedSimpArgs false

theorem DoB.setrev {n0 n1 n2 : Nat} {w0 w : World} {most rev : Int} {V : Value} {a : Act13} (h : DoB n0 n1 n2 w0 w most rev V a) (r' : Int) :
    ∃ W, w.setCell ⟨n0, 1, none⟩ (.int .i64 r') = W ∧ DoB n0 n1 n2 w0 W most r' V a := by
  have hz := h.hz
  refine ⟨_, rfl, ⟨?_, ?_, ?_, ?_, ?_⟩⟩
  · rw [blk_set h.ht]; rfl
  · exact (Below.heap_setCell w ⟨n0, 1, none⟩ _ n1 (by show n1 ≠ n0; omega)).trans h.ha
  · exact (Below.heap_setCell w ⟨n0, 1, none⟩ _ n2 (by show n2 ≠ n0; omega)).trans h.hr
  · exact h.hb.setCell (p := ⟨n0, 1, none⟩) (by show w0.heap.size ≤ n0; omega) _
  · refine ⟨hz.1, hz.2.1, hz.2.2.1, ?_⟩
    simpa using hz.2.2.2
def Turn (T : Tb) (a : Act13) (f : Fl) : Prop := a.f0 = 0 ∧ (a.f1.size ≤ 32 ∧ nameOk a.f1 = true ∧ 0 ≤ a.f3 ∧ a.f3 ≤ 2) ∧ ¬ a.f2.size > 65536 ∧ (f.f1.toList == a.f2.toList) = true ∧ (f.f2 == a.f3) = false ∧ ¬ T.most ≤ T.rev
set_option maxHeartbeats 4000000 in
set_option maxRecDepth 100000 in
theorem refdo_there (T : Tb) (ok : TOk T) (A : Option Addr) (c : Nat) (a : Act13) (w : World) (hc : T.l.length ≤ c) (hr : Kd.C k55 w A T.l.length T.l) (hn : a.f1.size ≤ 300) (hkind : a.f0 = 0 ∨ a.f0 = 1) (j : Nat) (hj : j < T.l.length) (hi : idxF a.f1 T.l 0 = (j : Int)) (h4 : T.l[j].f4 = false) (hg : get here T.l a.f1.data.toList = some T.l[j]) (hno : ¬ Turn T a T.l[j]) :
    Calls Try.prog 19 #[.agg #[.int .i64 T.most, .int .i64 T.rev, .slice A T.l.length c], vA a] w (RD w A T.l (doT T a).1 (doT T a).2) := by
  obtain ⟨R, hR⟩ : ∃ R, doT T a = R := ⟨_, rfl⟩
  rw [hR]
  have HRR := Aside0.mk hR
  clear hR
  unfold vA
  have hnm : idxF a.f1 T.l 0 = idxF a.f1 (T.l.drop 0) 0 := rfl
  obtain ⟨kf, hkf'⟩ := find_ev T.most T.rev a.f1 T.l ok.len _ 0 rfl (Nat.zero_le _)
  have hkf := hkf' kf (Nat.le_refl _)
  rw [← hnm, hi] at hkf
  have HKF := Aside0.mk hkf
  have HR := Aside0.mk hr
  have OK := Aside0.mk ok
  have HG := Aside0.mk hg
  clear hnm hkf hkf' hr ok hg hi
  go_enter Try.func19, Try.ntmps19
  go_wp2_with fail
  have hD := DoB.new w T.most T.rev (.slice A T.l.length c) a
  obtain ⟨W0, hW0⟩ : ∃ W, ((w.alloc (.cells #[.int .i64 T.most, .int .i64 T.rev, .slice A T.l.length c] 49)).alloc (.cells #[.int .i64 a.f0, .string a.f1, .string a.f2, .int .i64 a.f3] 43)).alloc (.cells #[.int .i64 0, .int .i64 0, .slice none 0 0] 49) = W := ⟨_, rfl⟩
  rw [hW0] at hD ⊢
  have HD := Aside0.mk hD
  have HR0 := Aside0.mk (C_below HR.out hD.hb)
  clear hD hW0
  obtain ⟨n0, hn0⟩ : ∃ n, w.heap.size = n := ⟨_, rfl⟩
  rw [hn0] at HD ⊢
  obtain ⟨n1, hn1⟩ : ∃ n, n0 + 1 = n := ⟨_, rfl⟩
  rw [hn1] at HD ⊢
  obtain ⟨n2, hn2⟩ : ∃ n, n1 + 1 = n := ⟨_, rfl⟩
  rw [hn2] at HD ⊢
  clear hn0 hn1 hn2
  refine (cupelref13_Find.calls kf T.most T.rev A c T.l a.f1 _ W0 HR0.out hc HKF.out).mono ?_
  rintro e w1 ⟨rfl, hb⟩
  have HD1 := Aside0.mk (HD.out.below hb)
  have HR1 := Aside0.mk (C_below HR0.out hb)
  clear HD HR0 HKF hb
  have k0 := HD1.out.k0
  have k1 := HD1.out.k1
  have k2 := HD1.out.k2
  have a0 := HD1.out.a0
  have a1 := HD1.out.a1
  have a2 := HD1.out.a2
  have a3 := HD1.out.a3
  have r0 := HD1.out.r0
  have r1 := HD1.out.r1
  have r2 := HD1.out.r2
  have f1 := HD1.out.f1
  have g0 := HD1.out.g0
  have g1 := HD1.out.g1
  have g2 := HD1.out.g2
  obtain ⟨ad, hA, x0, x1, x2, x3, x4⟩ := at_T55 HR1.out (j : Int) (by omega) (by omega)
  subst hA
  rw [rdF T.l j hj, Int.toNat_natCast] at x0 x1 x2 x3 x4
  have hd0 : decide ((0 : Int) ≤ (j : Int)) = true := decide_eq_true (by omega)
  have hd1 : decide ((j : Int) < (T.l.length : Int)) = true := decide_eq_true (by omega)
  have hd2 : decide (j < T.l.length) = true := decide_eq_true hj
  rw [h4] at x4
  obtain ⟨f, hf⟩ : ∃ f, T.l[j] = f := ⟨_, rfl⟩
  rw [hf] at x0 x1 x2 x3 HG
  have HF := Aside0.mk hf
  clear hf h4
  rcases hkind with hk | hk
  · have hkd : (a.f0 == 1) = false := by rw [hk]; rfl
    have hput : doT T a = putT T a.f1 a.f2 a.f3 := by rw [doT, if_pos hk]
    have HPUT := Aside0.mk hput
    have HK := Aside0.mk hk
    clear hk hput
    go_wp2_with fail
    obtain ⟨kn, hkn⟩ := ref_name a.f1 (by omega)
    refine (cupelref13_Name.calls kn a.f1 _ w1 hkn).mono ?_
    rintro e w2 ⟨rfl, hb⟩
    have HD2 := Aside0.mk (HD1.out.below hb)
    have HR2 := Aside0.mk (C_below HR1.out hb)
    clear hb hkn
    clear k0 k1 k2 a0 a1 a2 a3 r0 r1 r2 f1 g0 g1 g2 HD1 HR1 x0 x1 x2 x3 x4
    have k0 := HD2.out.k0
    have k1 := HD2.out.k1
    have k2 := HD2.out.k2
    have a0 := HD2.out.a0
    have a1 := HD2.out.a1
    have a2 := HD2.out.a2
    have a3 := HD2.out.a3
    have r0 := HD2.out.r0
    have r1 := HD2.out.r1
    have r2 := HD2.out.r2
    have f1 := HD2.out.f1
    have g0 := HD2.out.g0
    have g1 := HD2.out.g1
    have g2 := HD2.out.g2
    by_cases hq : a.f1.size ≤ 32 ∧ nameOk a.f1 = true ∧ 0 ≤ a.f3 ∧ a.f3 ≤ 2
    · obtain ⟨q1, q2, q3, q4⟩ := hq
      have hnm : (decide (a.f1.size ≤ 32) && nameOk a.f1) = true := by rw [decide_eq_true q1, q2]; rfl
      have ht0 : decide (a.f3 < 0) = false := decide_eq_false (by omega)
      have ht2 : decide (2 < a.f3) = false := decide_eq_false (by omega)
      rw [hnm]
      have HQ := Aside0.mk (show a.f1.size ≤ 32 ∧ nameOk a.f1 = true ∧ 0 ≤ a.f3 ∧ a.f3 ≤ 2 from ⟨q1, q2, q3, q4⟩)
      clear q1 q2 q3 q4 hnm
      by_cases hsz : a.f2.size > 65536
      · have hs1 : decide ((65536 : Int) < (a.f2.size : Int)) = true := decide_eq_true (by omega)
        have hs2 : decide (65536 < a.f2.size) = true := decide_eq_true hsz
        have hpost : doT T a = (T, 5) := by
          rw [HPUT.out]
          unfold putT rightV
          rw [if_pos HQ.out, if_pos hsz, if_pos (by decide)]
        obtain rfl : R = (T, 5) := by rw [← HRR.out]; exact hpost
        clear hpost HRR HPUT
        go_wp2_with fail
        obtain ⟨W, hW, q0, q1, q2, hBW, _, _⟩ := HD2.out.res (.int .i64 T.most) (.int .i64 T.rev) (.slice (some ad) T.l.length c)
        rw [hW]
        have HBW := Aside0.mk hBW
        clear hW hBW k0 k1 k2 a0 a1 a2 a3 r0 r1 r2 f1 g0 g1 g2
        try simp only [Exit.inBlock, Exit.then]
        refine bodyPost_ret (by simp [results, Try.results19, go_sem, q0, q1, q2]; try rfl) rfl ?_
        exact ⟨(some ad), c, rfl, hc, C_below HR.out (by first | exact HBW.out | exact HBW.out.drew), .inl ⟨rfl, rfl⟩, by first | exact HBW.out | exact HBW.out.drew⟩
      have hs1 : decide ((65536 : Int) < (a.f2.size : Int)) = false := decide_eq_false (by omega)
      have hs2 : decide (65536 < a.f2.size) = false := decide_eq_false hsz
      have hrt : rightV a.f1 a.f2 a.f3 = 0 := by unfold rightV; rw [if_pos HQ.out, if_neg hsz]
      have HRT := Aside0.mk hrt
      have HSZ := Aside0.mk hsz
      clear hrt hsz
      obtain ⟨ad2, hA2, x0, x1, x2, x3, x4⟩ := at_T55 HR2.out (j : Int) (by omega) (by omega)
      obtain rfl := Option.some.inj hA2
      rw [rdF T.l j hj, Int.toNat_natCast, HF.out] at x0 x1 x2 x3
      clear x4 hA2
      have hwr : wrap64 (T.rev + 1) = T.rev + 1 := by have := OK.out.rev0; have := OK.out.rev; have := OK.out.most; unfold wrap64; omega
      have hzz := HD2.out.hz
      have n10 : ¬ n1 = n0 := by omega
      have n01 : ¬ n0 = n1 := by omega
      have n20 : ¬ n2 = n0 := by omega
      have n02 : ¬ n0 = n2 := by omega
      clear hzz
      cases hsd : (f.f1.toList == a.f2.toList) with
      | true =>
        cases htd : (f.f2 == a.f3) with
        | true =>
          obtain rfl : R = (T, 0) := by
            rw [← HRR.out, HPUT.out]; unfold putT; rw [if_neg (by rw [HRT.out]; decide), HG.out]; dsimp only
            rw [if_pos (by rw [hsd, htd]; rfl)]
          clear HRR HPUT
          go_wp2_with fail
          go_region
          go_wp2_with fail
          clear x0 x1 x2 x3
          obtain ⟨W, hW, q0, q1, q2, hBW, _, _⟩ := HD2.out.res (.int .i64 T.most) (.int .i64 T.rev) (.slice (some ad) T.l.length c)
          rw [hW]
          have HBW := Aside0.mk hBW
          clear hW hBW k0 k1 k2 a0 a1 a2 a3 r0 r1 r2 f1 g0 g1 g2
          try simp only [Exit.inBlock, Exit.then]
          refine bodyPost_ret (by simp [results, Try.results19, go_sem, q0, q1, q2]; try rfl) rfl ?_
          exact ⟨(some ad), c, rfl, hc, C_below HR.out (by first | exact HBW.out | exact HBW.out.drew), .inl ⟨rfl, rfl⟩, by first | exact HBW.out | exact HBW.out.drew⟩
        | false =>
          by_cases hrev : T.most ≤ T.rev
          · have hs5 : decide (T.most ≤ T.rev) = true := decide_eq_true hrev
            obtain rfl : R = (T, 6) := by
              rw [← HRR.out, HPUT.out]; unfold putT; rw [if_neg (by rw [HRT.out]; decide), HG.out]; dsimp only
              rw [if_neg (by rw [hsd, htd]; decide), if_pos hrev]
            clear HRR HPUT
            go_wp2_with fail
            go_region
            go_wp2_with fail
            clear x0 x1 x2 x3
            obtain ⟨W, hW, q0, q1, q2, hBW, _, _⟩ := HD2.out.res (.int .i64 T.most) (.int .i64 T.rev) (.slice (some ad) T.l.length c)
            rw [hW]
            have HBW := Aside0.mk hBW
            clear hW hBW k0 k1 k2 a0 a1 a2 a3 r0 r1 r2 f1 g0 g1 g2
            try simp only [Exit.inBlock, Exit.then]
            refine bodyPost_ret (by simp [results, Try.results19, go_sem, q0, q1, q2]; try rfl) rfl ?_
            exact ⟨(some ad), c, rfl, hc, C_below HR.out (by first | exact HBW.out | exact HBW.out.drew), .inl ⟨rfl, rfl⟩, by first | exact HBW.out | exact HBW.out.drew⟩
          have hs5 : decide (T.most ≤ T.rev) = false := decide_eq_false hrev
          exact absurd ⟨HK.out, HQ.out, HSZ.out, by rw [HF.out]; exact hsd, by rw [HF.out]; exact htd, hrev⟩ hno
      | false =>
        by_cases hrev : T.most ≤ T.rev
        · have hs5 : decide (T.most ≤ T.rev) = true := decide_eq_true hrev
          obtain rfl : R = (T, 6) := by
            rw [← HRR.out, HPUT.out]; unfold putT; rw [if_neg (by rw [HRT.out]; decide), HG.out]; dsimp only
            rw [if_neg (by rw [hsd]; simp), if_pos hrev]
          clear HRR HPUT
          go_wp2_with fail
          go_region
          go_wp2_with fail
          clear x0 x1 x2 x3
          obtain ⟨W, hW, q0, q1, q2, hBW, _, _⟩ := HD2.out.res (.int .i64 T.most) (.int .i64 T.rev) (.slice (some ad) T.l.length c)
          rw [hW]
          have HBW := Aside0.mk hBW
          clear hW hBW k0 k1 k2 a0 a1 a2 a3 r0 r1 r2 f1 g0 g1 g2
          try simp only [Exit.inBlock, Exit.then]
          refine bodyPost_ret (by simp [results, Try.results19, go_sem, q0, q1, q2]; try rfl) rfl ?_
          exact ⟨(some ad), c, rfl, hc, C_below HR.out (by first | exact HBW.out | exact HBW.out.drew), .inl ⟨rfl, rfl⟩, by first | exact HBW.out | exact HBW.out.drew⟩
        have hs5 : decide (T.most ≤ T.rev) = false := decide_eq_false hrev
        obtain rfl : R = (⟨T.most, T.rev + 1, setL ⟨a.f1, a.f2, a.f3, T.rev + 1, false⟩ T.l⟩, 0) := by
          rw [← HRR.out, HPUT.out]; unfold putT; rw [if_neg (by rw [HRT.out]; decide), HG.out]; dsimp only
          rw [if_neg (by rw [hsd]; simp), if_neg hrev, if_neg (by rw [hsd]; decide)]
        clear HRR HPUT hrev
        go_wp2_with fail
        go_region
        go_wp2_with fail
        obtain ⟨W3, hW3, hD, hfb, hzf⟩ := HD2.out.fbox (T.rev + 1) ⟨a.f1, a.f2, a.f3, T.rev + 1, false⟩
        rw [hW3]
        have HDf := Aside0.mk hD.drew
        have hfb2 : W3.drew.heap[w2.heap.size]? = _ := hfb
        have hz2 := HD2.out.hz
        clear hW3 hD hfb hzf
        clear k0 k1 k2 a0 a1 a2 a3 r0 r1 r2 f1 g0 g1 g2 x0 x1 x2 x3
        obtain ⟨W4, hW4⟩ : ∃ W, W3.drew = W := ⟨_, rfl⟩
        rw [hW4] at HDf hfb2 ⊢
        clear hW4
        obtain ⟨nf, hnf⟩ : ∃ n, w2.heap.size = n := ⟨_, rfl⟩
        rw [hnf] at hfb2 hz2 ⊢
        clear hnf
        have k2 := HDf.out.k2
        have a2 := HDf.out.a2
        obtain ⟨ad3, hA3, y0, y1, y2, y3, y4⟩ := at_T55 (C_below HR.out HDf.out.hb) (j : Int) (by omega) (by omega)
        obtain rfl := Option.some.inj hA3
        rw [rdF T.l j hj, Int.toNat_natCast, HF.out] at y0 y1 y2 y3
        clear y4 hA3
        clear hz2
        go_region
        clear k2 a2 y0 y1 y2 y3
        obtain ⟨W5, hW5⟩ : ∃ W, W4.drew = W := ⟨_, rfl⟩
        have HDg := Aside0.mk HDf.out.drew
        have hfb3 : W4.drew.heap[nf]? = _ := hfb2
        rw [hW5] at HDg hfb3 ⊢
        clear hW5 HDf hfb2
        have k0 := HDg.out.k0
        have k1 := HDg.out.k1
        have k2 := HDg.out.k2
        have a0 := HDg.out.a0
        have a1 := HDg.out.a1
        have a2 := HDg.out.a2
        have a3 := HDg.out.a3
        have r0 := HDg.out.r0
        have r1 := HDg.out.r1
        have r2 := HDg.out.r2
        have f1 := HDg.out.f1
        have g0 := HDg.out.g0
        have g1 := HDg.out.g1
        have g2 := HDg.out.g2
        have b0 : W5.cell? ⟨nf, 0, none⟩ = some (.string a.f1) := by rw [Lib.cell_of_heap hfb3]; rfl
        have b1 : W5.cell? ⟨nf, 1, none⟩ = some (.string a.f2) := by rw [Lib.cell_of_heap hfb3]; rfl
        have b2 : W5.cell? ⟨nf, 2, none⟩ = some (.int .i64 a.f3) := by rw [Lib.cell_of_heap hfb3]; rfl
        have b3 : W5.cell? ⟨nf, 3, none⟩ = some (.int .i64 (T.rev + 1)) := by rw [Lib.cell_of_heap hfb3]; rfl
        have b4 : W5.cell? ⟨nf, 4, none⟩ = some (.bool false) := by rw [Lib.cell_of_heap hfb3]; rfl
        go_wp2_with fail
        clear hfb3 b0 b1 b2 b3 b4
        obtain ⟨ks, hks⟩ := set_ex T OK.out ⟨a.f1, a.f2, a.f3, T.rev + 1, false⟩ (T.rev + 1)
        refine (cupelref13_set.calls ks T.most (T.rev + 1) (some ad) c T.l _ _ _ _ _ _ _ _ W5 (C_below HR.out HDg.out.hb) hc hks).mono ?_
        rintro e w5 ⟨v2, rfl, ho, hb⟩
        have HD5 := Aside0.mk (HDg.out.below hb)
        obtain ⟨A', n', c', rfl⟩ : ∃ A' n' c', v2 = .slice A' n' c' := by
          obtain ⟨A', c', h, _⟩ := Kd.R_reads ho
          exact ⟨A', _, c', h⟩
        have HO := Aside0.mk ho
        have hlt2 : n2 < W5.heap.size := HDg.out.hz.2.2.2
        clear ho hb hks
        clear k0 k1 k2 a0 a1 a2 a3 r0 r1 r2 f1 g0 g1 g2
        have k0 := HD5.out.k0
        have k1 := HD5.out.k1
        have k2 := HD5.out.k2
        have a0 := HD5.out.a0
        have a1 := HD5.out.a1
        have a2 := HD5.out.a2
        have a3 := HD5.out.a3
        have r0 := HD5.out.r0
        have r1 := HD5.out.r1
        have r2 := HD5.out.r2
        have f1 := HD5.out.f1
        have g0 := HD5.out.g0
        have g1 := HD5.out.g1
        have g2 := HD5.out.g2
        go_wp2_with fail
        obtain ⟨W, hW, q0, q1, q2, hBW, hoW, _⟩ := HD5.out.res (.int .i64 T.most) (.int .i64 (T.rev + 1)) (.slice A' n' c')
        rw [hW]
        have HBW := Aside0.mk hBW
        have hC := set_C HO.out hlt2 hoW
        clear hW hBW k0 k1 k2 a0 a1 a2 a3 r0 r1 r2 f1 g0 g1 g2 hoW
        try simp only [Exit.inBlock, Exit.then]
        refine bodyPost_ret (by simp [results, Try.results19, go_sem, q0, q1, q2]; try rfl) rfl ?_
        have hnew : ∀ ad, A' = some ad → w.heap.size ≤ ad.block := fun ad e => Nat.le_trans HDg.out.hb.size (Kd.R_base HO.out ad.block (by rw [e]; rfl))
        obtain ⟨rfl, hc2, hC⟩ := hC
        exact ⟨A', c', rfl, hc2, hC, .inr hnew, HBW.out⟩
    · have hpost : doT T a = (T, 1) := by
        rw [HPUT.out]
        unfold putT rightV
        rw [if_neg hq, if_pos (by decide)]
      obtain rfl : R = (T, 1) := by rw [← HRR.out]; exact hpost
      clear hpost HRR HPUT
      by_cases hnm : (decide (a.f1.size ≤ 32) && nameOk a.f1) = true
      · by_cases ht0 : a.f3 < 0
        · have ht0 : decide (a.f3 < 0) = true := decide_eq_true ht0
          rw [hnm]
          go_wp2_with fail
          obtain ⟨W, hW, q0, q1, q2, hBW, _, _⟩ := HD2.out.res (.int .i64 T.most) (.int .i64 T.rev) (.slice (some ad) T.l.length c)
          rw [hW]
          have HBW := Aside0.mk hBW
          clear hW hBW k0 k1 k2 a0 a1 a2 a3 r0 r1 r2 f1 g0 g1 g2
          try simp only [Exit.inBlock, Exit.then]
          refine bodyPost_ret (by simp [results, Try.results19, go_sem, q0, q1, q2]; try rfl) rfl ?_
          exact ⟨(some ad), c, rfl, hc, C_below HR.out (by first | exact HBW.out | exact HBW.out.drew), .inl ⟨rfl, rfl⟩, by first | exact HBW.out | exact HBW.out.drew⟩
        · have ht0' : decide (a.f3 < 0) = false := decide_eq_false ht0
          have ht2 : decide (2 < a.f3) = true := decide_eq_true (Decidable.byContradiction fun ht2 => hq (by
            rw [Bool.and_eq_true] at hnm
            exact ⟨of_decide_eq_true hnm.1, hnm.2, by omega, by omega⟩))
          rw [hnm]
          go_wp2_with fail
          obtain ⟨W, hW, q0, q1, q2, hBW, _, _⟩ := HD2.out.res (.int .i64 T.most) (.int .i64 T.rev) (.slice (some ad) T.l.length c)
          rw [hW]
          have HBW := Aside0.mk hBW
          clear hW hBW k0 k1 k2 a0 a1 a2 a3 r0 r1 r2 f1 g0 g1 g2
          try simp only [Exit.inBlock, Exit.then]
          refine bodyPost_ret (by simp [results, Try.results19, go_sem, q0, q1, q2]; try rfl) rfl ?_
          exact ⟨(some ad), c, rfl, hc, C_below HR.out (by first | exact HBW.out | exact HBW.out.drew), .inl ⟨rfl, rfl⟩, by first | exact HBW.out | exact HBW.out.drew⟩
      · have hnm := Bool.eq_false_iff.2 hnm
        rw [hnm]
        go_wp2_with fail
        obtain ⟨W, hW, q0, q1, q2, hBW, _, _⟩ := HD2.out.res (.int .i64 T.most) (.int .i64 T.rev) (.slice (some ad) T.l.length c)
        rw [hW]
        have HBW := Aside0.mk hBW
        clear hW hBW k0 k1 k2 a0 a1 a2 a3 r0 r1 r2 f1 g0 g1 g2
        try simp only [Exit.inBlock, Exit.then]
        refine bodyPost_ret (by simp [results, Try.results19, go_sem, q0, q1, q2]; try rfl) rfl ?_
        exact ⟨(some ad), c, rfl, hc, C_below HR.out (by first | exact HBW.out | exact HBW.out.drew), .inl ⟨rfl, rfl⟩, by first | exact HBW.out | exact HBW.out.drew⟩
  · have hkd : (a.f0 == 1) = true := by rw [hk]; rfl
    by_cases hrev : T.most ≤ T.rev
    · have hs5 : decide (T.most ≤ T.rev) = true := decide_eq_true hrev
      obtain rfl : R = (T, 6) := by
        rw [← HRR.out, doT, if_neg (by omega), dropT, HG.out]
        dsimp only
        rw [if_pos hrev]
      clear hk HRR
      go_wp2_with fail
      clear x0 x1 x2 x3 x4
      obtain ⟨W, hW, q0, q1, q2, hBW, _, _⟩ := HD1.out.res (.int .i64 T.most) (.int .i64 T.rev) (.slice (some ad) T.l.length c)
      rw [hW]
      have HBW := Aside0.mk hBW
      clear hW hBW k0 k1 k2 a0 a1 a2 a3 r0 r1 r2 f1 g0 g1 g2
      try simp only [Exit.inBlock, Exit.then]
      refine bodyPost_ret (by simp [results, Try.results19, go_sem, q0, q1, q2]; try rfl) rfl ?_
      exact ⟨(some ad), c, rfl, hc, C_below HR.out (by first | exact HBW.out | exact HBW.out.drew), .inl ⟨rfl, rfl⟩, by first | exact HBW.out | exact HBW.out.drew⟩
    have hs5 : decide (T.most ≤ T.rev) = false := decide_eq_false hrev
    obtain rfl : R = (⟨T.most, T.rev + 1, setL ⟨a.f1, nil0, 0, T.rev + 1, true⟩ T.l⟩, 0) := by
      rw [← HRR.out, doT, if_neg (by omega), dropT, HG.out]
      dsimp only
      rw [if_neg hrev]
    have hwr : wrap64 (T.rev + 1) = T.rev + 1 := by have := OK.out.rev0; have := OK.out.most; unfold wrap64; omega
    have hzz := HD1.out.hz
    have n10 : ¬ n1 = n0 := by omega
    have n01 : ¬ n0 = n1 := by omega
    have n20 : ¬ n2 = n0 := by omega
    have n02 : ¬ n0 = n2 := by omega
    clear HRR hk hrev hzz
    go_wp2_with fail
    clear x0 x1 x2 x3 x4
    obtain ⟨W4, hW4, hD⟩ := HD1.out.setrev (T.rev + 1)
    rw [hW4]
    have HDf := Aside0.mk hD
    clear hW4 hD
    obtain ⟨ks, hks⟩ := set_ex T OK.out ⟨a.f1, nil0, 0, T.rev + 1, true⟩ (T.rev + 1)
    refine (cupelref13_set.calls ks T.most (T.rev + 1) (some ad) c T.l _ _ _ _ _ _ _ _ W4 (C_below HR.out HDf.out.hb) hc hks).mono ?_
    rintro e w5 ⟨v2, rfl, ho, hb⟩
    have HD5 := Aside0.mk (HDf.out.below hb)
    obtain ⟨A', n', c', rfl⟩ : ∃ A' n' c', v2 = .slice A' n' c' := by
      obtain ⟨A', c', h, _⟩ := Kd.R_reads ho
      exact ⟨A', _, c', h⟩
    have HO := Aside0.mk ho
    have hlt2 : n2 < W4.heap.size := HDf.out.hz.2.2.2
    clear ho hb hks
    clear k0 k1 k2 a0 a1 a2 a3 r0 r1 r2 f1 g0 g1 g2
    have k0 := HD5.out.k0
    have k1 := HD5.out.k1
    have k2 := HD5.out.k2
    have a0 := HD5.out.a0
    have a1 := HD5.out.a1
    have a2 := HD5.out.a2
    have a3 := HD5.out.a3
    have r0 := HD5.out.r0
    have r1 := HD5.out.r1
    have r2 := HD5.out.r2
    have f1 := HD5.out.f1
    have g0 := HD5.out.g0
    have g1 := HD5.out.g1
    have g2 := HD5.out.g2
    go_wp2_with fail
    obtain ⟨W, hW, q0, q1, q2, hBW, hoW, _⟩ := HD5.out.res (.int .i64 T.most) (.int .i64 (T.rev + 1)) (.slice A' n' c')
    rw [hW]
    have HBW := Aside0.mk hBW
    have hC := set_C HO.out hlt2 hoW
    clear hW hBW k0 k1 k2 a0 a1 a2 a3 r0 r1 r2 f1 g0 g1 g2 hoW
    try simp only [Exit.inBlock, Exit.then]
    refine bodyPost_ret (by simp [results, Try.results19, go_sem, q0, q1, q2]; try rfl) rfl ?_
    have hnew : ∀ ad, A' = some ad → w.heap.size ≤ ad.block := fun ad e => Nat.le_trans HDf.out.hb.size (Kd.R_base HO.out ad.block (by rw [e]; rfl))
    obtain ⟨rfl, hc2, hC⟩ := hC
    exact ⟨A', c', rfl, hc2, hC, .inr hnew, HBW.out⟩
end Go.Proofs.Ytonhfcjldbohbaa.Fi
