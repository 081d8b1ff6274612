/- files: the reference's Do, where its tier is turned. -/
import Derived.Test.YtonhfcjldbohbaaFlV
namespace Go.Proofs.Ytonhfcjldbohbaa.Fi
open Go Go.RowKit Go.ChangeMaps Go.MapKept Go.Proofs.Ytonhfcjldbohbaa.PA Go.Proofs.YtonhfcjldbohbaaW.PrintWords Go.Proofs.YtonhfcjldbohbaaW.PrintLast Go.Proofs.YtonhfcjldbohbaaW.PrintMore Go.Proofs.Ytonhfcjldbohbaa.Lx Go.Proofs.Ytonhfcjldbohbaa.M04 Go.Proofs.Ytonhfcjldbohbaa.Pl
attribute [local go_sem] Oper.semAt_some
set_option linter.unusedVariables false
set_option linter.unusedSimpArgs false

theorem DoB.far {n0 n1 n2 : Nat} {w0 w : World} {most rev : Int} {V : Value} {a : Act13} (h : DoB n0 n1 n2 w0 w most rev V a) (nf i : Nat) (hn : n2 < nf) (v : Value) :
    ∃ W, w.setCell ⟨nf, i, none⟩ v = W ∧ DoB n0 n1 n2 w0 W most rev V a := by
  have hz := h.hz
  refine ⟨_, rfl, ⟨?_, ?_, ?_, ?_, ?_⟩⟩
  · exact (Below.heap_setCell w ⟨nf, i, none⟩ _ n0 (by show n0 ≠ nf; omega)).trans h.ht
  · exact (Below.heap_setCell w ⟨nf, i, none⟩ _ n1 (by show n1 ≠ nf; omega)).trans h.ha
  · exact (Below.heap_setCell w ⟨nf, i, none⟩ _ n2 (by show n2 ≠ nf; omega)).trans h.hr
  · exact h.hb.setCell (p := ⟨nf, i, none⟩) (by show w0.heap.size ≤ nf; omega) _
  · refine ⟨hz.1, hz.2.1, hz.2.2.1, ?_⟩
    simpa using hz.2.2.2
set_option maxHeartbeats 4000000 in
set_option maxRecDepth 100000 in
theorem refdo_turn (T : Tb) (ok : TOk T) (A : Option Addr) (c : Nat) (a : Act13) (w : World) (hc : T.l.length ≤ c) (hr : Kd.C k55 w A T.l.length T.l) (hn : a.f1.size ≤ 300) (j : Nat) (hj : j < T.l.length) (hi : idxF a.f1 T.l 0 = (j : Int)) (h4 : T.l[j].f4 = false) (hg : get here T.l a.f1.data.toList = some T.l[j]) (ht : Turn T a T.l[j]) :
    Calls Try.prog 19 #[.agg #[.int .i64 T.most, .int .i64 T.rev, .slice A T.l.length c], vA a] w (RD w A T.l (doT T a).1 (doT T a).2) := by
  obtain ⟨R, hR⟩ : ∃ R, doT T a = R := ⟨_, rfl⟩
  rw [hR]
  have HRR := Aside0.mk hR
  clear hR
  unfold vA
  obtain ⟨hk, hq, hsz, hsd, htd, hrev⟩ := ht
  have HQ0 := Aside0.mk hq
  have HSZ0 := Aside0.mk hsz
  have HRV0 := Aside0.mk hrev
  clear hq hsz hrev
  have hkd : (a.f0 == 1) = false := by rw [hk]; rfl
  have HK := Aside0.mk hk
  clear hk
  have hnm : idxF a.f1 T.l 0 = idxF a.f1 (T.l.drop 0) 0 := rfl
  obtain ⟨kf, hkf'⟩ := find_ev T.most T.rev a.f1 T.l ok.len _ 0 rfl (Nat.zero_le _)
  have hkf := hkf' kf (Nat.le_refl _)
  rw [← hnm, hi] at hkf
  have HKF := Aside0.mk hkf
  have HR := Aside0.mk hr
  have OK := Aside0.mk ok
  have HG := Aside0.mk hg
  clear hnm hkf hkf' hr ok hg hi
  go_enter Try.func19, Try.ntmps19
  go_wp2_with fail
  have hD := DoB.new w T.most T.rev (.slice A T.l.length c) a
  obtain ⟨W0, hW0⟩ : ∃ W, ((w.alloc (.cells #[.int .i64 T.most, .int .i64 T.rev, .slice A T.l.length c] 49)).alloc (.cells #[.int .i64 a.f0, .string a.f1, .string a.f2, .int .i64 a.f3] 43)).alloc (.cells #[.int .i64 0, .int .i64 0, .slice none 0 0] 49) = W := ⟨_, rfl⟩
  rw [hW0] at hD ⊢
  have HD := Aside0.mk hD
  have HR0 := Aside0.mk (C_below HR.out hD.hb)
  clear hD hW0
  obtain ⟨n0, hn0⟩ : ∃ n, w.heap.size = n := ⟨_, rfl⟩
  rw [hn0] at HD ⊢
  obtain ⟨n1, hn1⟩ : ∃ n, n0 + 1 = n := ⟨_, rfl⟩
  rw [hn1] at HD ⊢
  obtain ⟨n2, hn2⟩ : ∃ n, n1 + 1 = n := ⟨_, rfl⟩
  rw [hn2] at HD ⊢
  clear hn0 hn1 hn2
  refine (cupelref13_Find.calls kf T.most T.rev A c T.l a.f1 _ W0 HR0.out hc HKF.out).mono ?_
  rintro e w1 ⟨rfl, hb⟩
  have HD1 := Aside0.mk (HD.out.below hb)
  have HR1 := Aside0.mk (C_below HR0.out hb)
  clear HD HR0 HKF hb
  have k0 := HD1.out.k0
  have k1 := HD1.out.k1
  have k2 := HD1.out.k2
  have a0 := HD1.out.a0
  have a1 := HD1.out.a1
  have a2 := HD1.out.a2
  have a3 := HD1.out.a3
  have r0 := HD1.out.r0
  have r1 := HD1.out.r1
  have r2 := HD1.out.r2
  have f1 := HD1.out.f1
  have g0 := HD1.out.g0
  have g1 := HD1.out.g1
  have g2 := HD1.out.g2
  obtain ⟨ad, hA, x0, x1, x2, x3, x4⟩ := at_T55 HR1.out (j : Int) (by omega) (by omega)
  subst hA
  rw [rdF T.l j hj, Int.toNat_natCast] at x0 x1 x2 x3 x4
  have hd0 : decide ((0 : Int) ≤ (j : Int)) = true := decide_eq_true (by omega)
  have hd1 : decide ((j : Int) < (T.l.length : Int)) = true := decide_eq_true (by omega)
  have hd2 : decide (j < T.l.length) = true := decide_eq_true hj
  rw [h4] at x4
  obtain ⟨f, hf⟩ : ∃ f, T.l[j] = f := ⟨_, rfl⟩
  rw [hf] at x0 x1 x2 x3 HG
  rw [hf] at hsd htd
  have HF := Aside0.mk hf
  clear hf h4
  have hput : doT T a = putT T a.f1 a.f2 a.f3 := by rw [doT, if_pos HK.out]
  have HPUT := Aside0.mk hput
  clear hput
  go_wp2_with fail
  obtain ⟨kn, hkn⟩ := ref_name a.f1 (by omega)
  refine (cupelref13_Name.calls kn a.f1 _ w1 hkn).mono ?_
  rintro e w2 ⟨rfl, hb⟩
  have HD2 := Aside0.mk (HD1.out.below hb)
  have HR2 := Aside0.mk (C_below HR1.out hb)
  clear hb hkn
  clear k0 k1 k2 a0 a1 a2 a3 r0 r1 r2 f1 g0 g1 g2 HD1 HR1 x0 x1 x2 x3 x4
  have k0 := HD2.out.k0
  have k1 := HD2.out.k1
  have k2 := HD2.out.k2
  have a0 := HD2.out.a0
  have a1 := HD2.out.a1
  have a2 := HD2.out.a2
  have a3 := HD2.out.a3
  have r0 := HD2.out.r0
  have r1 := HD2.out.r1
  have r2 := HD2.out.r2
  have f1 := HD2.out.f1
  have g0 := HD2.out.g0
  have g1 := HD2.out.g1
  have g2 := HD2.out.g2
  obtain ⟨q1, q2, q3, q4⟩ := HQ0.out
  have hsz := HSZ0.out
  have hnm : (decide (a.f1.size ≤ 32) && nameOk a.f1) = true := by rw [decide_eq_true q1, q2]; rfl
  have ht0 : decide (a.f3 < 0) = false := decide_eq_false (by omega)
  have ht2 : decide (2 < a.f3) = false := decide_eq_false (by omega)
  rw [hnm]
  have HQ := Aside0.mk (show a.f1.size ≤ 32 ∧ nameOk a.f1 = true ∧ 0 ≤ a.f3 ∧ a.f3 ≤ 2 from ⟨q1, q2, q3, q4⟩)
  clear hnm q1 q2 q3 q4
  have hs1 : decide ((65536 : Int) < (a.f2.size : Int)) = false := decide_eq_false (by omega)
  have hs2 : decide (65536 < a.f2.size) = false := decide_eq_false hsz
  have hrt : rightV a.f1 a.f2 a.f3 = 0 := by unfold rightV; rw [if_pos HQ.out, if_neg hsz]
  have HRT := Aside0.mk hrt
  have HSZ := Aside0.mk hsz
  clear hrt hsz
  obtain ⟨ad2, hA2, x0, x1, x2, x3, x4⟩ := at_T55 HR2.out (j : Int) (by omega) (by omega)
  obtain rfl := Option.some.inj hA2
  rw [rdF T.l j hj, Int.toNat_natCast, HF.out] at x0 x1 x2 x3
  clear x4 hA2
  have hwr : wrap64 (T.rev + 1) = T.rev + 1 := by have := OK.out.rev0; have := OK.out.rev; have := OK.out.most; unfold wrap64; omega
  have hzz := HD2.out.hz
  have n10 : ¬ n1 = n0 := by omega
  have n01 : ¬ n0 = n1 := by omega
  have n20 : ¬ n2 = n0 := by omega
  have n02 : ¬ n0 = n2 := by omega
  clear hzz
  have hrev : ¬ T.most ≤ T.rev := by have := HRV0.out; omega
  have hs5 : decide (T.most ≤ T.rev) = false := decide_eq_false hrev
  obtain rfl : R = (⟨T.most, T.rev + 1, setL ⟨a.f1, a.f2, a.f3, f.f3, false⟩ T.l⟩, 0) := by
    rw [← HRR.out, HPUT.out]; unfold putT; rw [if_neg (by rw [HRT.out]; decide), HG.out]; dsimp only
    rw [if_neg (by rw [hsd, htd]; decide), if_neg hrev, if_pos hsd]
  clear HRR HPUT hrev
  go_wp2_with fail
  go_region
  go_wp2_with fail
  obtain ⟨W3, hW3, hD, hfb, hzf⟩ := HD2.out.fbox (T.rev + 1) ⟨a.f1, a.f2, a.f3, T.rev + 1, false⟩
  rw [hW3]
  have HDf := Aside0.mk hD.drew
  have hfb2 : W3.drew.heap[w2.heap.size]? = _ := hfb
  have hz2 := HD2.out.hz
  clear hW3 hD hfb hzf
  clear k0 k1 k2 a0 a1 a2 a3 r0 r1 r2 f1 g0 g1 g2 x0 x1 x2 x3
  obtain ⟨W4, hW4⟩ : ∃ W, W3.drew = W := ⟨_, rfl⟩
  rw [hW4] at HDf hfb2 ⊢
  clear hW4
  obtain ⟨nf, hnf⟩ : ∃ n, w2.heap.size = n := ⟨_, rfl⟩
  rw [hnf] at hfb2 hz2 ⊢
  clear hnf
  have k2 := HDf.out.k2
  have a2 := HDf.out.a2
  obtain ⟨ad3, hA3, y0, y1, y2, y3, y4⟩ := at_T55 (C_below HR.out HDf.out.hb) (j : Int) (by omega) (by omega)
  obtain rfl := Option.some.inj hA3
  rw [rdF T.l j hj, Int.toNat_natCast, HF.out] at y0 y1 y2 y3
  clear y4 hA3
  have nf0 : ¬ nf = n0 := by omega
  have n0f : ¬ n0 = nf := by omega
  have HZ2 := Aside0.mk hz2
  clear hz2
  go_region
  clear k2 a2 y0 y1 y2 y3
  obtain ⟨W5, hW5⟩ : ∃ W, W4.drew = W := ⟨_, rfl⟩
  have HDg := Aside0.mk HDf.out.drew
  have hfb3 : W4.drew.heap[nf]? = _ := hfb2
  rw [hW5] at HDg hfb3 ⊢
  clear hW5 HDf hfb2
  have k0 := HDg.out.k0
  have k1 := HDg.out.k1
  have k2 := HDg.out.k2
  have a0 := HDg.out.a0
  have a1 := HDg.out.a1
  have a2 := HDg.out.a2
  have a3 := HDg.out.a3
  have r0 := HDg.out.r0
  have r1 := HDg.out.r1
  have r2 := HDg.out.r2
  have f1 := HDg.out.f1
  have g0 := HDg.out.g0
  have g1 := HDg.out.g1
  have g2 := HDg.out.g2
  have b0 : W5.cell? ⟨nf, 0, none⟩ = some (.string a.f1) := by rw [Lib.cell_of_heap hfb3]; rfl
  have b1 : W5.cell? ⟨nf, 1, none⟩ = some (.string a.f2) := by rw [Lib.cell_of_heap hfb3]; rfl
  have b2 : W5.cell? ⟨nf, 2, none⟩ = some (.int .i64 a.f3) := by rw [Lib.cell_of_heap hfb3]; rfl
  have b3 : W5.cell? ⟨nf, 3, none⟩ = some (.int .i64 (T.rev + 1)) := by rw [Lib.cell_of_heap hfb3]; rfl
  have b4 : W5.cell? ⟨nf, 4, none⟩ = some (.bool false) := by rw [Lib.cell_of_heap hfb3]; rfl
  have e3 : W5.frozen? ⟨nf, 3, none⟩ = false := Lib.frozen_of_heap hfb3 3
  obtain ⟨ad4, hA4, y0, y1, y2, y3, y4⟩ := at_T55 (C_below HR.out HDg.out.hb) (j : Int) (by omega) (by omega)
  obtain rfl := Option.some.inj hA4
  rw [rdF T.l j hj, Int.toNat_natCast, HF.out] at y0 y1 y2 y3
  clear y0 y1 y2 y4 hA4
  clear r0 r1 r2 f1 g0 g1 g2 a0 a1 a2 a3
  go_wp2_with fail
  obtain ⟨W6, hW6, hD⟩ := HDg.out.far nf 3 HZ2.out.2.2.2 (.int .i64 f.f3)
  rw [hW6]
  have HDh := Aside0.mk hD
  clear hW6 HDg hD hfb3 b0 b1 b2 b3 b4 e3 y3 k0 k1 k2
  have k0 := HDh.out.k0
  have k1 := HDh.out.k1
  have k2 := HDh.out.k2
  have a0 := HDh.out.a0
  have a1 := HDh.out.a1
  have a2 := HDh.out.a2
  have a3 := HDh.out.a3
  have r0 := HDh.out.r0
  have r1 := HDh.out.r1
  have r2 := HDh.out.r2
  have f1 := HDh.out.f1
  have g0 := HDh.out.g0
  have g1 := HDh.out.g1
  have g2 := HDh.out.g2
  obtain ⟨ks, hks⟩ := set_ex T OK.out ⟨a.f1, a.f2, a.f3, f.f3, false⟩ (T.rev + 1)
  refine (cupelref13_set.calls ks T.most (T.rev + 1) (some ad) c T.l _ _ _ _ _ _ _ _ W6 (C_below HR.out HDh.out.hb) hc hks).mono ?_
  rintro e w5 ⟨v2, rfl, ho, hb⟩
  have HD5 := Aside0.mk (HDh.out.below hb)
  obtain ⟨A', n', c', rfl⟩ : ∃ A' n' c', v2 = .slice A' n' c' := by
    obtain ⟨A', c', h, _⟩ := Kd.R_reads ho
    exact ⟨A', _, c', h⟩
  have HO := Aside0.mk ho
  have hlt2 : n2 < W6.heap.size := HDh.out.hz.2.2.2
  clear ho hb hks
  clear k0 k1 k2 a0 a1 a2 a3 r0 r1 r2 f1 g0 g1 g2
  have k0 := HD5.out.k0
  have k1 := HD5.out.k1
  have k2 := HD5.out.k2
  have a0 := HD5.out.a0
  have a1 := HD5.out.a1
  have a2 := HD5.out.a2
  have a3 := HD5.out.a3
  have r0 := HD5.out.r0
  have r1 := HD5.out.r1
  have r2 := HD5.out.r2
  have f1 := HD5.out.f1
  have g0 := HD5.out.g0
  have g1 := HD5.out.g1
  have g2 := HD5.out.g2
  go_wp2_with fail
  obtain ⟨W, hW, q0, q1, q2, hBW, hoW, _⟩ := HD5.out.res (.int .i64 T.most) (.int .i64 (T.rev + 1)) (.slice A' n' c')
  rw [hW]
  have HBW := Aside0.mk hBW
  have hC := set_C HO.out hlt2 hoW
  clear hW hBW k0 k1 k2 a0 a1 a2 a3 r0 r1 r2 f1 g0 g1 g2 hoW
  try simp only [Exit.inBlock, Exit.then]
  refine bodyPost_ret (by simp [results, Try.results19, go_sem, q0, q1, q2]; try rfl) rfl ?_
  have hnew : ∀ ad, A' = some ad → w.heap.size ≤ ad.block := fun ad e => Nat.le_trans HDh.out.hb.size (Kd.R_base HO.out ad.block (by rw [e]; rfl))
  obtain ⟨rfl, hc2, hC⟩ := hC
  exact ⟨A', c', rfl, hc2, hC, .inr hnew, HBW.out⟩
theorem refdo_any (T : Tb) (ok : TOk T) (A : Option Addr) (c : Nat) (a : Act13) (w : World) (hc : T.l.length ≤ c) (hr : Kd.C k55 w A T.l.length T.l) (hn : a.f1.size ≤ 300) (h0 : 0 ≤ a.f0) (h1 : a.f0 ≤ 1) :
    Calls Try.prog 19 #[.agg #[.int .i64 T.most, .int .i64 T.rev, .slice A T.l.length c], vA a] w (RD w A T.l (doT T a).1 (doT T a).2) := by
  have hk : a.f0 = 0 ∨ a.f0 = 1 := by omega
  rcases idx_cases ok.sorted a.f1 with ⟨hi, hg⟩ | ⟨j, hj, hi, ⟨h4, hg⟩ | ⟨h4, hg⟩⟩
  · exact refdo_none T ok A c a w hc hr hn hk hi hg
  · exact refdo_gone T ok A c a w hc hr hn hk j hj hi h4 hg
  · by_cases ht : Turn T a T.l[j]
    · exact refdo_turn T ok A c a w hc hr hn j hj hi h4 hg ht
    · exact refdo_there T ok A c a w hc hr hn hk j hj hi h4 hg ht
end Go.Proofs.Ytonhfcjldbohbaa.Fi
