/- fix: FixRing's walk. -/
import Derived.Test.YtiljegeodokfmaaGrN
namespace Go.Proofs.Ytiljegeodokfmaa.Fx
open Go Go.RowKit Go.Proofs.YtiljegeodokfmaaW.PrintWords Go.Proofs.YtiljegeodokfmaaW.PrintLast Go.Proofs.YtiljegeodokfmaaW.PrintMore Go.Proofs.Ytiljegeodokfmaa.PA
attribute [local go_sem] Oper.semAt_some
set_option linter.unusedVariables false
set_option linter.unusedSimpArgs false

noncomputable def ringReg20 : Code := ((Try.f6.body.bind (findReg 20)).getD .skip)
set_option maxRecDepth 100000 in
set_option maxHeartbeats 4000000 in
theorem ring_reg20 {B : Nat} {wl wr : World} {ga gb c i n cut : Nat} {ad : Addr} {x : Int} (K : Exit → Act → World → Prop) (hP : ∀ (c : List PanicEntry) (a : Act) (t : Tmp) (v : Value) (w : World), K (.panic c) (Act.put a (some t) v) w → K (.panic c) a w) (HMx : Aside0 (Many B wl [(ga, tens i, tqRing i i), (gb, tens i, tqCut i cut i)] [(some ad, c, tens i)] wr))
    (HC : Aside0 (∀ W : World, Many B wl [(ga, tens i, tqRing i i), (gb, tens i, tqCut i cut i)] [(some ad, c, tens i)] W → W.cell? (ad.add n) = some (.int .i64 x) ∧ W.cell? ad = some (.int .i64 0)))
    (HSUB : Aside0 (∀ (W : World) (A : Option Addr) (c2 : Nat) (l : List Int), Many B wl [(ga, tens i, tqRing i i), (gb, tens i, tqCut i cut i)] [(A, c2, l), (some ad, c, tens i)] W → Many B wl [(ga, tens i, tqRing i i), (gb, tens i, tqCut i cut i)] [(some ad, c, tens i)] W))
    (HWX : Aside0 ((Lit.int .i64 x).wf = true)) (hlen2 : (n : Int) < ((tens i).length : Int)) (hlen3 : 0 < (tens i).length)
    (HR1 : Aside0 (circR (tens i) (tqRing i i) x = true)) (HR2 : Aside0 ((setR (tens i) (tqRing i i) x).length = i)) (HR3 : Aside0 (circR (tens i) (tqCut i cut i) x = false))
    (HR4 : Aside0 (sameR (tens i) (tqRing i i) x 0 = true)) (HR5 : Aside0 (sameR (tens i) (tqCut i cut i) x 0 = false))
    (s0 s1 s2 s3 s4 s7 s10 s11 s13 s14 s15 s16 s17 s18 s19 s20 s21 s22 s23 s24 s25 s26 s27 s28 s29 s30 s31 s32 s33 s34 s35 s36 s37 s38 s39 s40 s41 s42 s43 s44 s45 s46 s47 s48 s49 s50 s51 s52 s53 s54 s55 s56 s57 s58 s59 s60 s61 s62 s63 s64 s65 s66 s67 s68 s69 s70 s71 s72 s73 s74 s75 s76 s77 s78 s79 s80 s81 s82 s83 s84 s85 s86 s87 s88 s89 s90 s91 s92 s93 s94 s95 s96 s97 s98 s99 s100 s101 s102 s103 s104 s105 s106 s107 s108 s109 s110 s111 s112 s113 s114 s115 s116 s117 s118 s119 s120 s121 s122 s123 s124 s125 s126 s127 s128 s129 s130 s131 s132 s133 s134 s135 s136 s137 s138 s139 s140 s141 s142 s143 s144 s145 s146 s147 s148 s149 s150 s151 s152 s153 s154 s155 s156 s157 s158 s159 s160 s161 s162 : Value)
    (hK : ∀ (u78 u79 u80 u81 u82 u83 u84 u85 u86 u87 u88 u89 u90 u91 u92 u93 u94 u95 u96 u97 u98 u99 u100 u101 u102 u103 u104 u105 u106 u107 u108 u109 u110 u111 u112 u113 u114 u115 u116 u117 u118 u119 u120 u121 u122 u123 u124 u125 : Value) (w8 : World), Many B wl [(ga, tens i, tqRing i i), (gb, tens i, tqCut i cut i)] [(some ad, c, tens i)] w8 → K .normal ⟨#[s0, s1, s2, s3, s4, .int .i64 i, .slice (some ad) (tens i).length c, s7, .pointer (some ⟨ga, 0, none⟩), .pointer (some ⟨gb, 0, none⟩), s10, s11, .int .i64 n, s13, s14, s15, s16, s17, s18, s19, s20, s21, s22, s23, s24, s25, s26, s27, s28, s29, s30, s31, s32, s33, s34, s35, s36, s37, s38, s39, s40, s41, s42, s43, s44, s45, s46, s47, s48, s49, s50, s51, s52, s53, s54, s55, s56, s57, s58, s59, s60, s61, s62, s63, s64, s65, s66, s67, s68, s69, s70, s71, s72, s73, s74, s75, s76, s77, u78, u79, u80, u81, u82, u83, u84, u85, u86, u87, u88, u89, u90, u91, u92, u93, u94, u95, u96, u97, u98, u99, u100, u101, u102, u103, u104, u105, u106, u107, u108, u109, u110, u111, u112, u113, u114, u115, u116, u117, u118, u119, u120, u121, u122, u123, u124, u125, .bool false, s127, s128, s129, s130, s131, s132, s133, s134, s135, s136, s137, s138, s139, s140, s141, s142, s143, s144, s145, s146, s147, s148, s149, s150, s151, s152, s153, s154, s155, s156, s157, s158, s159, s160, s161, s162], []⟩ w8) :
    Code.wp Try.prog ringReg20 K ⟨#[s0, s1, s2, s3, s4, .int .i64 i, .slice (some ad) (tens i).length c, s7, .pointer (some ⟨ga, 0, none⟩), .pointer (some ⟨gb, 0, none⟩), s10, s11, .int .i64 n, s13, s14, s15, s16, s17, s18, s19, s20, s21, s22, s23, s24, s25, s26, s27, s28, s29, s30, s31, s32, s33, s34, s35, s36, s37, s38, s39, s40, s41, s42, s43, s44, s45, s46, s47, s48, s49, s50, s51, s52, s53, s54, s55, s56, s57, s58, s59, s60, s61, s62, s63, s64, s65, s66, s67, s68, s69, s70, s71, s72, s73, s74, s75, s76, s77, s78, s79, s80, s81, s82, s83, s84, s85, s86, s87, s88, s89, s90, s91, s92, s93, s94, s95, s96, s97, s98, s99, s100, s101, s102, s103, s104, s105, s106, s107, s108, s109, s110, s111, s112, s113, s114, s115, s116, s117, s118, s119, s120, s121, s122, s123, s124, s125, s126, s127, s128, s129, s130, s131, s132, s133, s134, s135, s136, s137, s138, s139, s140, s141, s142, s143, s144, s145, s146, s147, s148, s149, s150, s151, s152, s153, s154, s155, s156, s157, s158, s159, s160, s161, s162], []⟩ wr := by
  have cf := HC.out wr HMx.out
  have hM := HMx.out
  obtain ⟨cf1, cf2⟩ := cf
  conv => arg 2; whnf
  refine start_ (n := 49) (S := fun w' => w'.cell? (ad.add n) = some (.int .i64 x) ∧ w'.cell? ad = some (.int .i64 0)) (ds := []) #[false, false, false, false, false, false, false, false, false, false, false, false, false, false, false, false, false, false, false, false, false, false, false, false, false, false, false, false, false, false, false, false, false, false, false, false, false, false, false, false, false, false, false, false, false, false, false, false, false] (by kernel_rfl) rfl rfl ⟨cf1, cf2⟩ (fun hHeld => ?_)
  refine pure_ (i := 0) (N := some 78) (v := ?_) (a' := ?_) #[true, false, false, false, false, false, false, false, false, false, false, false, false, false, false, false, false, false, false, false, false, false, false, false, false, false, false, false, false, false, false, false, false, false, false, false, false, false, false, false, false, false, false, false, false, false, false, false, false] rfl rfl (by kernel_rfl) (fun _ _ _ h => hP _ _ _ _ _ h) (Or.inl ⟨by rfl, ?_⟩) ?_ ?_
  rotate_left
  · intro w'
    go_simp
    with_reducible rfl
  rotate_left
  · simp only [Act.put, List.setIfInBounds_toArray, List.set_cons_zero, List.set_cons_succ, i64_w, i32_w]
    rfl
  refine pure_ (i := 1) (N := some 79) (v := ?_) (a' := ?_) #[true, true, false, false, false, false, false, false, false, false, false, false, false, false, false, false, false, false, false, false, false, false, false, false, false, false, false, false, false, false, false, false, false, false, false, false, false, false, false, false, false, false, false, false, false, false, false, false, false] rfl rfl (by kernel_rfl) (fun _ _ _ h => hP _ _ _ _ _ h) (Or.inl ⟨by rfl, ?_⟩) ?_ ?_
  rotate_left
  · intro w'
    go_simp
    with_reducible rfl
  rotate_left
  · simp only [Act.put, List.setIfInBounds_toArray, List.set_cons_zero, List.set_cons_succ, i64_w, i32_w]
    rfl
  refine pure_ (i := 2) (N := some 80) (v := ?_) (a' := ?_) #[true, true, true, false, false, false, false, false, false, false, false, false, false, false, false, false, false, false, false, false, false, false, false, false, false, false, false, false, false, false, false, false, false, false, false, false, false, false, false, false, false, false, false, false, false, false, false, false, false] rfl rfl (by kernel_rfl) (fun _ _ _ h => hP _ _ _ _ _ h) (Or.inl ⟨by rfl, ?_⟩) ?_ ?_
  rotate_left
  · intro w'
    go_simp
    with_reducible rfl
  rotate_left
  · simp only [Act.put, List.setIfInBounds_toArray, List.set_cons_zero, List.set_cons_succ, i64_w, i32_w]
    rfl
  refine pure_ (i := 3) (N := some 81) (v := ?_) (a' := ?_) #[true, true, true, true, false, false, false, false, false, false, false, false, false, false, false, false, false, false, false, false, false, false, false, false, false, false, false, false, false, false, false, false, false, false, false, false, false, false, false, false, false, false, false, false, false, false, false, false, false] rfl rfl (by kernel_rfl) (fun _ _ _ h => hP _ _ _ _ _ h) (Or.inl ⟨by rfl, ?_⟩) ?_ ?_
  rotate_left
  · intro w'
    go_simp
    with_reducible rfl
  rotate_left
  · simp only [Act.put, List.setIfInBounds_toArray, List.set_cons_zero, List.set_cons_succ, i64_w, i32_w]
    rfl
  refine take_ (i := 4) (N := some 82) (v := ?_) (a' := ?_) #[true, true, true, true, true, false, false, false, false, false, false, false, false, false, false, false, false, false, false, false, false, false, false, false, false, false, false, false, false, false, false, false, false, false, false, false, false, false, false, false, false, false, false, false, false, false, false, false, false] rfl rfl (by kernel_rfl) (fun _ _ _ h => hP _ _ _ _ _ h) (Or.inl ⟨by rfl, ?_⟩) hHeld ?_ ?_
  rotate_left
  · rintro w' ⟨s0, s1⟩
    go_simp
    with_reducible rfl
  rotate_left
  · simp only [Act.put, List.setIfInBounds_toArray, List.set_cons_zero, List.set_cons_succ, i64_w, i32_w]
    rfl
  refine one_ (i := 5) (N := some 83) #[true, true, true, true, true, true, false, false, false, false, false, false, false, false, false, false, false, false, false, false, false, false, false, false, false, false, false, false, false, false, false, false, false, false, false, false, false, false, false, false, false, false, false, false, false, false, false, false, false] rfl rfl (by kernel_rfl) (by decide) (fun K hK => ?_)
  refine goes_ Try.func18 (by kernel_rfl) rfl #[.pointer (some ⟨ga, 0, none⟩), .int .i64 x] (by rfl) rfl rfl (by simp only [List.map_toArray, List.map_cons, List.map_nil]; rfl) ?_
  with_reducible refine (many_circle HMx.out.drew 0 rfl x HWX.out).mono ?_
  rintro e w4 ⟨rfl, hm⟩
  refine ⟨_, rfl, ?_⟩
  have HM4 := Aside0.mk hm
  clear hm
  rw [HR1.out]
  refine hK.out _ _ ⟨(HC.out _ HM4.out).1, (HC.out _ HM4.out).2⟩ (fun hHeld => ?_)
  clear hK K
  refine norm_ (a' := ?_) ?_ ?_
  rotate_left
  · show Act.put _ (some 83) _ = _
    simp only [Act.put, List.setIfInBounds_toArray, List.set_cons_zero, List.set_cons_succ, i64_w, i32_w]
    rfl
  refine pure_ (i := 6) (N := some 84) (v := ?_) (a' := ?_) #[true, true, true, true, true, true, true, false, false, false, false, false, false, false, false, false, false, false, false, false, false, false, false, false, false, false, false, false, false, false, false, false, false, false, false, false, false, false, false, false, false, false, false, false, false, false, false, false, false] rfl rfl (by kernel_rfl) (fun _ _ _ h => hP _ _ _ _ _ h) (Or.inl ⟨by rfl, ?_⟩) ?_ ?_
  rotate_left
  · intro w'
    go_simp
    with_reducible rfl
  rotate_left
  · simp only [Act.put, List.setIfInBounds_toArray, List.set_cons_zero, List.set_cons_succ, i64_w, i32_w]
    rfl
  refine pure_ (i := 7) (N := some 85) (v := ?_) (a' := ?_) #[true, true, true, true, true, true, true, true, false, false, false, false, false, false, false, false, false, false, false, false, false, false, false, false, false, false, false, false, false, false, false, false, false, false, false, false, false, false, false, false, false, false, false, false, false, false, false, false, false] rfl rfl (by kernel_rfl) (fun _ _ _ h => hP _ _ _ _ _ h) (Or.inl ⟨by rfl, ?_⟩) ?_ ?_
  rotate_left
  · intro w'
    go_simp
    with_reducible rfl
  rotate_left
  · simp only [Act.put, List.setIfInBounds_toArray, List.set_cons_zero, List.set_cons_succ, i64_w, i32_w]
    rfl
  refine pure_ (i := 8) (N := some 86) (v := ?_) (a' := ?_) #[true, true, true, true, true, true, true, true, true, false, false, false, false, false, false, false, false, false, false, false, false, false, false, false, false, false, false, false, false, false, false, false, false, false, false, false, false, false, false, false, false, false, false, false, false, false, false, false, false] rfl rfl (by kernel_rfl) (fun _ _ _ h => hP _ _ _ _ _ h) (Or.inl ⟨by rfl, ?_⟩) ?_ ?_
  rotate_left
  · intro w'
    go_simp
    with_reducible rfl
  rotate_left
  · simp only [Act.put, List.setIfInBounds_toArray, List.set_cons_zero, List.set_cons_succ, i64_w, i32_w]
    rfl
  refine pure_ (i := 9) (N := some 87) (v := ?_) (a' := ?_) #[true, true, true, true, true, true, true, true, true, true, false, false, false, false, false, false, false, false, false, false, false, false, false, false, false, false, false, false, false, false, false, false, false, false, false, false, false, false, false, false, false, false, false, false, false, false, false, false, false] rfl rfl (by kernel_rfl) (fun _ _ _ h => hP _ _ _ _ _ h) (Or.inl ⟨by rfl, ?_⟩) ?_ ?_
  rotate_left
  · intro w'
    go_simp
    with_reducible rfl
  rotate_left
  · simp only [Act.put, List.setIfInBounds_toArray, List.set_cons_zero, List.set_cons_succ, i64_w, i32_w]
    rfl
  refine pure_ (i := 10) (N := some 88) (v := ?_) (a' := ?_) #[true, true, true, true, true, true, true, true, true, true, true, false, false, false, false, false, false, false, false, false, false, false, false, false, false, false, false, false, false, false, false, false, false, false, false, false, false, false, false, false, false, false, false, false, false, false, false, false, false] rfl rfl (by kernel_rfl) (fun _ _ _ h => hP _ _ _ _ _ h) (Or.inl ⟨by rfl, ?_⟩) ?_ ?_
  rotate_left
  · intro w'
    go_simp
    with_reducible rfl
  rotate_left
  · simp only [Act.put, List.setIfInBounds_toArray, List.set_cons_zero, List.set_cons_succ, i64_w, i32_w]
    rfl
  refine pure_ (i := 11) (N := some 89) (v := ?_) (a' := ?_) #[true, true, true, true, true, true, true, true, true, true, true, true, false, false, false, false, false, false, false, false, false, false, false, false, false, false, false, false, false, false, false, false, false, false, false, false, false, false, false, false, false, false, false, false, false, false, false, false, false] rfl rfl (by kernel_rfl) (fun _ _ _ h => hP _ _ _ _ _ h) (Or.inl ⟨by rfl, ?_⟩) ?_ ?_
  rotate_left
  · intro w'
    go_simp
    with_reducible rfl
  rotate_left
  · simp only [Act.put, List.setIfInBounds_toArray, List.set_cons_zero, List.set_cons_succ, i64_w, i32_w]
    rfl
  refine pure_ (i := 15) (N := some 93) (v := ?_) (a' := ?_) #[true, true, true, true, true, true, true, true, true, true, true, true, false, false, false, true, false, false, false, false, false, false, false, false, false, false, false, false, false, false, false, false, false, false, false, false, false, false, false, false, false, false, false, false, false, false, false, false, false] rfl rfl (by kernel_rfl) (fun _ _ _ h => hP _ _ _ _ _ h) (Or.inl ⟨by rfl, ?_⟩) ?_ ?_
  rotate_left
  · intro w'
    go_simp
    with_reducible rfl
  rotate_left
  · simp only [Act.put, List.setIfInBounds_toArray, List.set_cons_zero, List.set_cons_succ, i64_w, i32_w]
    rfl
  refine take_ (i := 12) (N := some 90) (v := ?_) (a' := ?_) #[true, true, true, true, true, true, true, true, true, true, true, true, true, false, false, true, false, false, false, false, false, false, false, false, false, false, false, false, false, false, false, false, false, false, false, false, false, false, false, false, false, false, false, false, false, false, false, false, false] rfl rfl (by kernel_rfl) (fun _ _ _ h => hP _ _ _ _ _ h) (Or.inl ⟨by rfl, ?_⟩) hHeld ?_ ?_
  rotate_left
  · rintro w' ⟨s0, s1⟩
    go_simp
    with_reducible rfl
  rotate_left
  · simp only [Act.put, List.setIfInBounds_toArray, List.set_cons_zero, List.set_cons_succ, i64_w, i32_w]
    rfl
  refine one_ (i := 13) (N := some 91) #[true, true, true, true, true, true, true, true, true, true, true, true, true, true, false, true, false, false, false, false, false, false, false, false, false, false, false, false, false, false, false, false, false, false, false, false, false, false, false, false, false, false, false, false, false, false, false, false, false] rfl rfl (by kernel_rfl) (by decide) (fun K hK => ?_)
  refine goes_ Try.func13 (by kernel_rfl) rfl #[.pointer (some ⟨ga, 0, none⟩), .int .i64 x] (by rfl) rfl rfl (by simp only [List.map_toArray, List.map_cons, List.map_nil]; rfl) ?_
  with_reducible refine (many_set HM4.out 0 rfl x HWX.out).mono ?_
  rintro e w5 ⟨A5, c5, rfl, hm⟩
  refine ⟨_, rfl, ?_⟩
  have HM5 := Aside0.mk (HSUB.out _ _ _ _ hm)
  clear hm
  rw [HR2.out]
  refine hK.out _ _ ⟨(HC.out _ HM5.out).1, (HC.out _ HM5.out).2⟩ (fun hHeld => ?_)
  clear hK K
  refine norm_ (a' := ?_) ?_ ?_
  rotate_left
  · show Act.put _ (some 91) _ = _
    simp only [Act.put, List.setIfInBounds_toArray, List.set_cons_zero, List.set_cons_succ, i64_w, i32_w]
    rfl
  refine pure_ (i := 14) (N := some 92) (v := ?_) (a' := ?_) #[true, true, true, true, true, true, true, true, true, true, true, true, true, true, true, true, false, false, false, false, false, false, false, false, false, false, false, false, false, false, false, false, false, false, false, false, false, false, false, false, false, false, false, false, false, false, false, false, false] rfl rfl (by kernel_rfl) (fun _ _ _ h => hP _ _ _ _ _ h) (Or.inl ⟨by rfl, ?_⟩) ?_ ?_
  rotate_left
  · intro w'
    go_simp
    with_reducible rfl
  rotate_left
  · simp only [Act.put, List.setIfInBounds_toArray, List.set_cons_zero, List.set_cons_succ, i64_w, i32_w]
    rfl
  refine pure_ (i := 16) (N := some 94) (v := ?_) (a' := ?_) #[true, true, true, true, true, true, true, true, true, true, true, true, true, true, true, true, true, false, false, false, false, false, false, false, false, false, false, false, false, false, false, false, false, false, false, false, false, false, false, false, false, false, false, false, false, false, false, false, false] rfl rfl (by kernel_rfl) (fun _ _ _ h => hP _ _ _ _ _ h) (Or.inl ⟨by rfl, ?_⟩) ?_ ?_
  rotate_left
  · intro w'
    go_simp
    with_reducible rfl
  rotate_left
  · simp only [Act.put, List.setIfInBounds_toArray, List.set_cons_zero, List.set_cons_succ, i64_w, i32_w]
    rfl
  refine pure_ (i := 17) (N := some 95) (v := ?_) (a' := ?_) #[true, true, true, true, true, true, true, true, true, true, true, true, true, true, true, true, true, true, false, false, false, false, false, false, false, false, false, false, false, false, false, false, false, false, false, false, false, false, false, false, false, false, false, false, false, false, false, false, false] rfl rfl (by kernel_rfl) (fun _ _ _ h => hP _ _ _ _ _ h) (Or.inl ⟨by rfl, ?_⟩) ?_ ?_
  rotate_left
  · intro w'
    go_simp
    with_reducible rfl
  rotate_left
  · simp only [Act.put, List.setIfInBounds_toArray, List.set_cons_zero, List.set_cons_succ, i64_w, i32_w]
    rfl
  refine pure_ (i := 18) (N := some 96) (v := ?_) (a' := ?_) #[true, true, true, true, true, true, true, true, true, true, true, true, true, true, true, true, true, true, true, false, false, false, false, false, false, false, false, false, false, false, false, false, false, false, false, false, false, false, false, false, false, false, false, false, false, false, false, false, false] rfl rfl (by kernel_rfl) (fun _ _ _ h => hP _ _ _ _ _ h) (Or.inl ⟨by rfl, ?_⟩) ?_ ?_
  rotate_left
  · intro w'
    go_simp
    with_reducible rfl
  rotate_left
  · simp only [Act.put, List.setIfInBounds_toArray, List.set_cons_zero, List.set_cons_succ, i64_w, i32_w]
    rfl
  refine pure_ (i := 19) (N := some 97) (v := ?_) (a' := ?_) #[true, true, true, true, true, true, true, true, true, true, true, true, true, true, true, true, true, true, true, true, false, false, false, false, false, false, false, false, false, false, false, false, false, false, false, false, false, false, false, false, false, false, false, false, false, false, false, false, false] rfl rfl (by kernel_rfl) (fun _ _ _ h => hP _ _ _ _ _ h) (Or.inl ⟨by rfl, ?_⟩) ?_ ?_
  rotate_left
  · intro w'
    go_simp
    with_reducible rfl
  rotate_left
  · simp only [Act.put, List.setIfInBounds_toArray, List.set_cons_zero, List.set_cons_succ, i64_w, i32_w]
    rfl
  refine pure_ (i := 20) (N := some 98) (v := ?_) (a' := ?_) #[true, true, true, true, true, true, true, true, true, true, true, true, true, true, true, true, true, true, true, true, true, false, false, false, false, false, false, false, false, false, false, false, false, false, false, false, false, false, false, false, false, false, false, false, false, false, false, false, false] rfl rfl (by kernel_rfl) (fun _ _ _ h => hP _ _ _ _ _ h) (Or.inl ⟨by rfl, ?_⟩) ?_ ?_
  rotate_left
  · intro w'
    go_simp
    with_reducible rfl
  rotate_left
  · simp only [Act.put, List.setIfInBounds_toArray, List.set_cons_zero, List.set_cons_succ, i64_w, i32_w]
    rfl
  refine pure_ (i := 21) (N := some 99) (v := ?_) (a' := ?_) #[true, true, true, true, true, true, true, true, true, true, true, true, true, true, true, true, true, true, true, true, true, true, false, false, false, false, false, false, false, false, false, false, false, false, false, false, false, false, false, false, false, false, false, false, false, false, false, false, false] rfl rfl (by kernel_rfl) (fun _ _ _ h => hP _ _ _ _ _ h) (Or.inl ⟨by rfl, ?_⟩) ?_ ?_
  rotate_left
  · intro w'
    go_simp
    with_reducible rfl
  rotate_left
  · simp only [Act.put, List.setIfInBounds_toArray, List.set_cons_zero, List.set_cons_succ, i64_w, i32_w]
    rfl
  refine pure_ (i := 22) (N := some 100) (v := ?_) (a' := ?_) #[true, true, true, true, true, true, true, true, true, true, true, true, true, true, true, true, true, true, true, true, true, true, true, false, false, false, false, false, false, false, false, false, false, false, false, false, false, false, false, false, false, false, false, false, false, false, false, false, false] rfl rfl (by kernel_rfl) (fun _ _ _ h => hP _ _ _ _ _ h) (Or.inl ⟨by rfl, ?_⟩) ?_ ?_
  rotate_left
  · intro w'
    go_simp
    with_reducible rfl
  rotate_left
  · simp only [Act.put, List.setIfInBounds_toArray, List.set_cons_zero, List.set_cons_succ, i64_w, i32_w]
    rfl
  refine take_ (i := 23) (N := some 101) (v := ?_) (a' := ?_) #[true, true, true, true, true, true, true, true, true, true, true, true, true, true, true, true, true, true, true, true, true, true, true, true, false, false, false, false, false, false, false, false, false, false, false, false, false, false, false, false, false, false, false, false, false, false, false, false, false] rfl rfl (by kernel_rfl) (fun _ _ _ h => hP _ _ _ _ _ h) (Or.inl ⟨by rfl, ?_⟩) hHeld ?_ ?_
  rotate_left
  · rintro w' ⟨s0, s1⟩
    go_simp
    with_reducible rfl
  rotate_left
  · simp only [Act.put, List.setIfInBounds_toArray, List.set_cons_zero, List.set_cons_succ, i64_w, i32_w]
    rfl
  refine one_ (i := 24) (N := some 102) #[true, true, true, true, true, true, true, true, true, true, true, true, true, true, true, true, true, true, true, true, true, true, true, true, true, false, false, false, false, false, false, false, false, false, false, false, false, false, false, false, false, false, false, false, false, false, false, false, false] rfl rfl (by kernel_rfl) (by decide) (fun K hK => ?_)
  refine goes_ Try.func18 (by kernel_rfl) rfl #[.pointer (some ⟨gb, 0, none⟩), .int .i64 x] (by rfl) rfl rfl (by simp only [List.map_toArray, List.map_cons, List.map_nil]; rfl) ?_
  with_reducible refine (many_circle HM5.out 1 rfl x HWX.out).mono ?_
  rintro e w6 ⟨rfl, hm⟩
  refine ⟨_, rfl, ?_⟩
  have HM6 := Aside0.mk hm
  clear hm
  rw [HR3.out]
  refine hK.out _ _ ⟨(HC.out _ HM6.out).1, (HC.out _ HM6.out).2⟩ (fun hHeld => ?_)
  clear hK K
  refine norm_ (a' := ?_) ?_ ?_
  rotate_left
  · show Act.put _ (some 102) _ = _
    simp only [Act.put, List.setIfInBounds_toArray, List.set_cons_zero, List.set_cons_succ, i64_w, i32_w]
    rfl
  refine pure_ (i := 25) (N := some 103) (v := ?_) (a' := ?_) #[true, true, true, true, true, true, true, true, true, true, true, true, true, true, true, true, true, true, true, true, true, true, true, true, true, true, false, false, false, false, false, false, false, false, false, false, false, false, false, false, false, false, false, false, false, false, false, false, false] rfl rfl (by kernel_rfl) (fun _ _ _ h => hP _ _ _ _ _ h) (Or.inl ⟨by rfl, ?_⟩) ?_ ?_
  rotate_left
  · intro w'
    go_simp
    with_reducible rfl
  rotate_left
  · simp only [Act.put, List.setIfInBounds_toArray, List.set_cons_zero, List.set_cons_succ, i64_w, i32_w]
    rfl
  refine pure_ (i := 26) (N := some 104) (v := ?_) (a' := ?_) #[true, true, true, true, true, true, true, true, true, true, true, true, true, true, true, true, true, true, true, true, true, true, true, true, true, true, true, false, false, false, false, false, false, false, false, false, false, false, false, false, false, false, false, false, false, false, false, false, false] rfl rfl (by kernel_rfl) (fun _ _ _ h => hP _ _ _ _ _ h) (Or.inl ⟨by rfl, ?_⟩) ?_ ?_
  rotate_left
  · intro w'
    go_simp
    with_reducible rfl
  rotate_left
  · simp only [Act.put, List.setIfInBounds_toArray, List.set_cons_zero, List.set_cons_succ, i64_w, i32_w]
    rfl
  refine pure_ (i := 27) (N := some 105) (v := ?_) (a' := ?_) #[true, true, true, true, true, true, true, true, true, true, true, true, true, true, true, true, true, true, true, true, true, true, true, true, true, true, true, true, false, false, false, false, false, false, false, false, false, false, false, false, false, false, false, false, false, false, false, false, false] rfl rfl (by kernel_rfl) (fun _ _ _ h => hP _ _ _ _ _ h) (Or.inl ⟨by rfl, ?_⟩) ?_ ?_
  rotate_left
  · intro w'
    go_simp
    with_reducible rfl
  rotate_left
  · simp only [Act.put, List.setIfInBounds_toArray, List.set_cons_zero, List.set_cons_succ, i64_w, i32_w]
    rfl
  refine pure_ (i := 28) (N := some 106) (v := ?_) (a' := ?_) #[true, true, true, true, true, true, true, true, true, true, true, true, true, true, true, true, true, true, true, true, true, true, true, true, true, true, true, true, true, false, false, false, false, false, false, false, false, false, false, false, false, false, false, false, false, false, false, false, false] rfl rfl (by kernel_rfl) (fun _ _ _ h => hP _ _ _ _ _ h) (Or.inl ⟨by rfl, ?_⟩) ?_ ?_
  rotate_left
  · intro w'
    go_simp
    with_reducible rfl
  rotate_left
  · simp only [Act.put, List.setIfInBounds_toArray, List.set_cons_zero, List.set_cons_succ, i64_w, i32_w]
    rfl
  refine pure_ (i := 29) (N := some 107) (v := ?_) (a' := ?_) #[true, true, true, true, true, true, true, true, true, true, true, true, true, true, true, true, true, true, true, true, true, true, true, true, true, true, true, true, true, true, false, false, false, false, false, false, false, false, false, false, false, false, false, false, false, false, false, false, false] rfl rfl (by kernel_rfl) (fun _ _ _ h => hP _ _ _ _ _ h) (Or.inl ⟨by rfl, ?_⟩) ?_ ?_
  rotate_left
  · intro w'
    go_simp
    with_reducible rfl
  rotate_left
  · simp only [Act.put, List.setIfInBounds_toArray, List.set_cons_zero, List.set_cons_succ, i64_w, i32_w]
    rfl
  refine pure_ (i := 30) (N := some 108) (v := ?_) (a' := ?_) #[true, true, true, true, true, true, true, true, true, true, true, true, true, true, true, true, true, true, true, true, true, true, true, true, true, true, true, true, true, true, true, false, false, false, false, false, false, false, false, false, false, false, false, false, false, false, false, false, false] rfl rfl (by kernel_rfl) (fun _ _ _ h => hP _ _ _ _ _ h) (Or.inl ⟨by rfl, ?_⟩) ?_ ?_
  rotate_left
  · intro w'
    go_simp
    with_reducible rfl
  rotate_left
  · simp only [Act.put, List.setIfInBounds_toArray, List.set_cons_zero, List.set_cons_succ, i64_w, i32_w]
    rfl
  refine pure_ (i := 32) (N := some 110) (v := ?_) (a' := ?_) #[true, true, true, true, true, true, true, true, true, true, true, true, true, true, true, true, true, true, true, true, true, true, true, true, true, true, true, true, true, true, true, false, true, false, false, false, false, false, false, false, false, false, false, false, false, false, false, false, false] rfl rfl (by kernel_rfl) (fun _ _ _ h => hP _ _ _ _ _ h) (Or.inl ⟨by rfl, ?_⟩) ?_ ?_
  rotate_left
  · intro w'
    go_simp
    with_reducible rfl
  rotate_left
  · simp only [Act.put, List.setIfInBounds_toArray, List.set_cons_zero, List.set_cons_succ, i64_w, i32_w]
    rfl
  refine pure_ (i := 33) (N := some 111) (v := ?_) (a' := ?_) #[true, true, true, true, true, true, true, true, true, true, true, true, true, true, true, true, true, true, true, true, true, true, true, true, true, true, true, true, true, true, true, false, true, true, false, false, false, false, false, false, false, false, false, false, false, false, false, false, false] rfl rfl (by kernel_rfl) (fun _ _ _ h => hP _ _ _ _ _ h) (Or.inl ⟨by rfl, ?_⟩) ?_ ?_
  rotate_left
  · intro w'
    go_simp
    with_reducible rfl
  rotate_left
  · simp only [Act.put, List.setIfInBounds_toArray, List.set_cons_zero, List.set_cons_succ, i64_w, i32_w]
    rfl
  refine take_ (i := 31) (N := some 109) (v := ?_) (a' := ?_) #[true, true, true, true, true, true, true, true, true, true, true, true, true, true, true, true, true, true, true, true, true, true, true, true, true, true, true, true, true, true, true, true, true, true, false, false, false, false, false, false, false, false, false, false, false, false, false, false, false] rfl rfl (by kernel_rfl) (fun _ _ _ h => hP _ _ _ _ _ h) (Or.inl ⟨by rfl, ?_⟩) hHeld ?_ ?_
  rotate_left
  · rintro w' ⟨s0, s1⟩
    go_simp
    with_reducible rfl
  rotate_left
  · simp only [Act.put, List.setIfInBounds_toArray, List.set_cons_zero, List.set_cons_succ, i64_w, i32_w]
    rfl
  refine take_ (i := 34) (N := some 112) (v := ?_) (a' := ?_) #[true, true, true, true, true, true, true, true, true, true, true, true, true, true, true, true, true, true, true, true, true, true, true, true, true, true, true, true, true, true, true, true, true, true, true, false, false, false, false, false, false, false, false, false, false, false, false, false, false] rfl rfl (by kernel_rfl) (fun _ _ _ h => hP _ _ _ _ _ h) (Or.inl ⟨by rfl, ?_⟩) hHeld ?_ ?_
  rotate_left
  · rintro w' ⟨s0, s1⟩
    go_simp
    with_reducible rfl
  rotate_left
  · simp only [Act.put, List.setIfInBounds_toArray, List.set_cons_zero, List.set_cons_succ, i64_w, i32_w]
    rfl
  refine one_ (i := 35) (N := some 113) #[true, true, true, true, true, true, true, true, true, true, true, true, true, true, true, true, true, true, true, true, true, true, true, true, true, true, true, true, true, true, true, true, true, true, true, true, false, false, false, false, false, false, false, false, false, false, false, false, false] rfl rfl (by kernel_rfl) (by decide) (fun K hK => ?_)
  refine goes_ Try.func19 (by kernel_rfl) rfl #[.pointer (some ⟨ga, 0, none⟩), .int .i64 x, .int .i64 0] (by rfl) rfl rfl (by simp only [List.map_toArray, List.map_cons, List.map_nil]; rfl) ?_
  with_reducible refine (many_same HM6.out 0 rfl x 0 HWX.out (by decide)).mono ?_
  rintro e w7 ⟨rfl, hm⟩
  refine ⟨_, rfl, ?_⟩
  have HM7 := Aside0.mk hm
  clear hm
  rw [HR4.out]
  refine hK.out _ _ ⟨(HC.out _ HM7.out).1, (HC.out _ HM7.out).2⟩ (fun hHeld => ?_)
  clear hK K
  refine norm_ (a' := ?_) ?_ ?_
  rotate_left
  · show Act.put _ (some 113) _ = _
    simp only [Act.put, List.setIfInBounds_toArray, List.set_cons_zero, List.set_cons_succ, i64_w, i32_w]
    rfl
  refine pure_ (i := 36) (N := some 114) (v := ?_) (a' := ?_) #[true, true, true, true, true, true, true, true, true, true, true, true, true, true, true, true, true, true, true, true, true, true, true, true, true, true, true, true, true, true, true, true, true, true, true, true, true, false, false, false, false, false, false, false, false, false, false, false, false] rfl rfl (by kernel_rfl) (fun _ _ _ h => hP _ _ _ _ _ h) (Or.inl ⟨by rfl, ?_⟩) ?_ ?_
  rotate_left
  · intro w'
    go_simp
    with_reducible rfl
  rotate_left
  · simp only [Act.put, List.setIfInBounds_toArray, List.set_cons_zero, List.set_cons_succ, i64_w, i32_w]
    rfl
  refine pure_ (i := 37) (N := some 115) (v := ?_) (a' := ?_) #[true, true, true, true, true, true, true, true, true, true, true, true, true, true, true, true, true, true, true, true, true, true, true, true, true, true, true, true, true, true, true, true, true, true, true, true, true, true, false, false, false, false, false, false, false, false, false, false, false] rfl rfl (by kernel_rfl) (fun _ _ _ h => hP _ _ _ _ _ h) (Or.inl ⟨by rfl, ?_⟩) ?_ ?_
  rotate_left
  · intro w'
    go_simp
    with_reducible rfl
  rotate_left
  · simp only [Act.put, List.setIfInBounds_toArray, List.set_cons_zero, List.set_cons_succ, i64_w, i32_w]
    rfl
  refine pure_ (i := 38) (N := some 116) (v := ?_) (a' := ?_) #[true, true, true, true, true, true, true, true, true, true, true, true, true, true, true, true, true, true, true, true, true, true, true, true, true, true, true, true, true, true, true, true, true, true, true, true, true, true, true, false, false, false, false, false, false, false, false, false, false] rfl rfl (by kernel_rfl) (fun _ _ _ h => hP _ _ _ _ _ h) (Or.inl ⟨by rfl, ?_⟩) ?_ ?_
  rotate_left
  · intro w'
    go_simp
    with_reducible rfl
  rotate_left
  · simp only [Act.put, List.setIfInBounds_toArray, List.set_cons_zero, List.set_cons_succ, i64_w, i32_w]
    rfl
  refine pure_ (i := 39) (N := some 117) (v := ?_) (a' := ?_) #[true, true, true, true, true, true, true, true, true, true, true, true, true, true, true, true, true, true, true, true, true, true, true, true, true, true, true, true, true, true, true, true, true, true, true, true, true, true, true, true, false, false, false, false, false, false, false, false, false] rfl rfl (by kernel_rfl) (fun _ _ _ h => hP _ _ _ _ _ h) (Or.inl ⟨by rfl, ?_⟩) ?_ ?_
  rotate_left
  · intro w'
    go_simp
    with_reducible rfl
  rotate_left
  · simp only [Act.put, List.setIfInBounds_toArray, List.set_cons_zero, List.set_cons_succ, i64_w, i32_w]
    rfl
  refine pure_ (i := 40) (N := some 118) (v := ?_) (a' := ?_) #[true, true, true, true, true, true, true, true, true, true, true, true, true, true, true, true, true, true, true, true, true, true, true, true, true, true, true, true, true, true, true, true, true, true, true, true, true, true, true, true, true, false, false, false, false, false, false, false, false] rfl rfl (by kernel_rfl) (fun _ _ _ h => hP _ _ _ _ _ h) (Or.inl ⟨by rfl, ?_⟩) ?_ ?_
  rotate_left
  · intro w'
    go_simp
    with_reducible rfl
  rotate_left
  · simp only [Act.put, List.setIfInBounds_toArray, List.set_cons_zero, List.set_cons_succ, i64_w, i32_w]
    rfl
  refine pure_ (i := 41) (N := some 119) (v := ?_) (a' := ?_) #[true, true, true, true, true, true, true, true, true, true, true, true, true, true, true, true, true, true, true, true, true, true, true, true, true, true, true, true, true, true, true, true, true, true, true, true, true, true, true, true, true, true, false, false, false, false, false, false, false] rfl rfl (by kernel_rfl) (fun _ _ _ h => hP _ _ _ _ _ h) (Or.inl ⟨by rfl, ?_⟩) ?_ ?_
  rotate_left
  · intro w'
    go_simp
    with_reducible rfl
  rotate_left
  · simp only [Act.put, List.setIfInBounds_toArray, List.set_cons_zero, List.set_cons_succ, i64_w, i32_w]
    rfl
  refine pure_ (i := 42) (N := some 120) (v := ?_) (a' := ?_) #[true, true, true, true, true, true, true, true, true, true, true, true, true, true, true, true, true, true, true, true, true, true, true, true, true, true, true, true, true, true, true, true, true, true, true, true, true, true, true, true, true, true, true, false, false, false, false, false, false] rfl rfl (by kernel_rfl) (fun _ _ _ h => hP _ _ _ _ _ h) (Or.inl ⟨by rfl, ?_⟩) ?_ ?_
  rotate_left
  · intro w'
    go_simp
    with_reducible rfl
  rotate_left
  · simp only [Act.put, List.setIfInBounds_toArray, List.set_cons_zero, List.set_cons_succ, i64_w, i32_w]
    rfl
  refine pure_ (i := 44) (N := some 122) (v := ?_) (a' := ?_) #[true, true, true, true, true, true, true, true, true, true, true, true, true, true, true, true, true, true, true, true, true, true, true, true, true, true, true, true, true, true, true, true, true, true, true, true, true, true, true, true, true, true, true, false, true, false, false, false, false] rfl rfl (by kernel_rfl) (fun _ _ _ h => hP _ _ _ _ _ h) (Or.inl ⟨by rfl, ?_⟩) ?_ ?_
  rotate_left
  · intro w'
    go_simp
    with_reducible rfl
  rotate_left
  · simp only [Act.put, List.setIfInBounds_toArray, List.set_cons_zero, List.set_cons_succ, i64_w, i32_w]
    rfl
  refine pure_ (i := 45) (N := some 123) (v := ?_) (a' := ?_) #[true, true, true, true, true, true, true, true, true, true, true, true, true, true, true, true, true, true, true, true, true, true, true, true, true, true, true, true, true, true, true, true, true, true, true, true, true, true, true, true, true, true, true, false, true, true, false, false, false] rfl rfl (by kernel_rfl) (fun _ _ _ h => hP _ _ _ _ _ h) (Or.inl ⟨by rfl, ?_⟩) ?_ ?_
  rotate_left
  · intro w'
    go_simp
    with_reducible rfl
  rotate_left
  · simp only [Act.put, List.setIfInBounds_toArray, List.set_cons_zero, List.set_cons_succ, i64_w, i32_w]
    rfl
  refine take_ (i := 43) (N := some 121) (v := ?_) (a' := ?_) #[true, true, true, true, true, true, true, true, true, true, true, true, true, true, true, true, true, true, true, true, true, true, true, true, true, true, true, true, true, true, true, true, true, true, true, true, true, true, true, true, true, true, true, true, true, true, false, false, false] rfl rfl (by kernel_rfl) (fun _ _ _ h => hP _ _ _ _ _ h) (Or.inl ⟨by rfl, ?_⟩) hHeld ?_ ?_
  rotate_left
  · rintro w' ⟨s0, s1⟩
    go_simp
    with_reducible rfl
  rotate_left
  · simp only [Act.put, List.setIfInBounds_toArray, List.set_cons_zero, List.set_cons_succ, i64_w, i32_w]
    rfl
  refine take_ (i := 46) (N := some 124) (v := ?_) (a' := ?_) #[true, true, true, true, true, true, true, true, true, true, true, true, true, true, true, true, true, true, true, true, true, true, true, true, true, true, true, true, true, true, true, true, true, true, true, true, true, true, true, true, true, true, true, true, true, true, true, false, false] rfl rfl (by kernel_rfl) (fun _ _ _ h => hP _ _ _ _ _ h) (Or.inl ⟨by rfl, ?_⟩) hHeld ?_ ?_
  rotate_left
  · rintro w' ⟨s0, s1⟩
    go_simp
    with_reducible rfl
  rotate_left
  · simp only [Act.put, List.setIfInBounds_toArray, List.set_cons_zero, List.set_cons_succ, i64_w, i32_w]
    rfl
  refine one_ (i := 47) (N := some 125) #[true, true, true, true, true, true, true, true, true, true, true, true, true, true, true, true, true, true, true, true, true, true, true, true, true, true, true, true, true, true, true, true, true, true, true, true, true, true, true, true, true, true, true, true, true, true, true, true, false] rfl rfl (by kernel_rfl) (by decide) (fun K hK => ?_)
  refine goes_ Try.func19 (by kernel_rfl) rfl #[.pointer (some ⟨gb, 0, none⟩), .int .i64 x, .int .i64 0] (by rfl) rfl rfl (by simp only [List.map_toArray, List.map_cons, List.map_nil]; rfl) ?_
  with_reducible refine (many_same HM7.out 1 rfl x 0 HWX.out (by decide)).mono ?_
  rintro e w8 ⟨rfl, hm⟩
  refine ⟨_, rfl, ?_⟩
  have HM8 := Aside0.mk hm
  clear hm
  rw [HR5.out]
  refine hK.out _ _ ⟨(HC.out _ HM8.out).1, (HC.out _ HM8.out).2⟩ (fun hHeld => ?_)
  clear hK K
  refine norm_ (a' := ?_) ?_ ?_
  rotate_left
  · show Act.put _ (some 125) _ = _
    simp only [Act.put, List.setIfInBounds_toArray, List.set_cons_zero, List.set_cons_succ, i64_w, i32_w]
    rfl
  refine pure_ (i := 48) (N := some 126) (v := ?_) (a' := ?_) #[true, true, true, true, true, true, true, true, true, true, true, true, true, true, true, true, true, true, true, true, true, true, true, true, true, true, true, true, true, true, true, true, true, true, true, true, true, true, true, true, true, true, true, true, true, true, true, true, true] rfl rfl (by kernel_rfl) (fun _ _ _ h => hP _ _ _ _ _ h) (Or.inl ⟨by rfl, ?_⟩) ?_ ?_
  rotate_left
  · intro w'
    go_simp
    with_reducible rfl
  rotate_left
  · simp only [Act.put, List.setIfInBounds_toArray, List.set_cons_zero, List.set_cons_succ, i64_w, i32_w]
    rfl
  refine done_ (by kernel_rfl) ?_
  exact hK _ _ _ _ _ _ _ _ _ _ _ _ _ _ _ _ _ _ _ _ _ _ _ _ _ _ _ _ _ _ _ _ _ _ _ _ _ _ _ _ _ _ _ _ _ _ _ _ _ HM8.out
set_option maxRecDepth 100000 in
set_option maxHeartbeats 4000000 in
theorem FixRing_any (x0 x1 : Int) (w : World) (h0 : 0 ≤ x0) (h0' : x0 < 256) (h1 : 0 ≤ x1) (h1' : x1 < 256) :
    Calls Try.prog 6 #[.int .u8 x0, .int .u8 x1] w fun e w' => e = .returned (.bool true) ∧ Below w.heap.size w w' := by
  obtain ⟨k, hk0, hk⟩ : ∃ k : Nat, 1 ≤ k ∧ k ≤ 15 ∧ ((1 + x0 % 15 : Int) = k) := ⟨(1 + x0 % 15).toNat, by omega, by omega, by omega⟩
  obtain ⟨hk1, hk⟩ := hk
  obtain ⟨cut, hc1, hc⟩ : ∃ c : Nat, c < k ∧ (x1 % k : Int) = c := ⟨(x1 % k).toNat, by have := Int.emod_lt_of_pos x1 (show (0 : Int) < k by omega); have := Int.emod_nonneg x1 (show (k : Int) ≠ 0 by omega); omega, by have := Int.emod_nonneg x1 (show (k : Int) ≠ 0 by omega); omega⟩
  go_enter Try.func6, Try.ntmps6
  go_wp2_with fail
  refine (alive_any w).mono ?_
  rintro e w1 ⟨rfl, hb1⟩
  have HB1 := Aside0.mk hb1
  clear hb1
  go_wp2_with fail
  go_loopg [6, 7] k (fun kq v6 v7 wr => ∃ (j : Nat), v7 = .int .i64 j ∧ Aside0 (j ≤ k ∧ kq = k - j) ∧ Aside0 (Kd.R (Kd.int .i64) 3 wr w.heap.size (fun _ => True) v6 (tens j)) ∧ Aside0 (Below w.heap.size w wr))
  case atStart => exact ⟨0, rfl, ⟨by omega⟩, ⟨Kd.R_nil _ _ _ _ _⟩, HB1⟩
  case round =>
    obtain ⟨j, rfl, HJ, HO, HB⟩ := hrel
    obtain ⟨hj, hkq⟩ := HJ.out
    by_cases hlt : j < k
    · have hdj : decide ((j : Int) < (k : Int)) = true := decide_eq_true (by omega)
      obtain ⟨A6, c6, e6⟩ := Kd.R_slice HO.out
      subst e6
      have hten : tens j ++ [10 * (j : Int)] = tens (j + 1) := by unfold tens; rw [List.range_succ, List.map_append]; rfl
      have hlen : (tens j).length = j := by simp [tens]
      go_wp2_with (first | ((with_reducible refine gate_builtin (b := .append) (xs := #[.tmp 24, .tmp 27]) rfl ?_); at_builtin; refine Kd.R_append (Kd.int .i64) (w0 := w) w.heap.size rfl (.tmp 24) (.tmp 27) 22 3 (.int .i64 0) 8 rfl Try.underlying22 info3 rfl (by decide) (by omega) (.slice A6 (tens j).length c6) (tens j) (10 * (j : Int)) [.int .i64 (10 * (j : Int))] (fun _ => True) (fun _ => False) rfl rfl ?aP (fun _ hk => hk.elim) ?aF ?aO ?aB ?aS ?aL ?_; (case aP => exact rfl); (case aB => exact HB.out); (case aF => exact (fun _ _ => trivial)); (case aO => exact HO.out); (case aS => exact (below_size HB.out)); (case aL => rw [hlen]; omega); intro v108 w16 ho hb hg hat; rw [hten] at ho; have HO2 := Aside0.mk ho; have HB2 := Aside0.mk hb; clear ho hb hg hat HO HB))
      go_roundg (k - (j + 1))
      case measure => omega
      case rel => exact ⟨j + 1, by simp, ⟨by omega⟩, HO2, HB2⟩
    · obtain rfl : j = k := by omega
      have hdj : decide ((j : Int) < (j : Int)) = false := decide_eq_false (by omega)
      go_wp2_with fail
      obtain ⟨wl, rfl⟩ : ∃ wl, wl = wr := ⟨_, rfl⟩
      obtain ⟨A, c, rfl, hc6, Kl, hKl, hrd⟩ := Lst.of_R HO.out
      have HLEN : Aside0 ((tens j).length = j) := ⟨by simp [tens]⟩
      obtain ⟨B, hB⟩ : ∃ B, B = wl.heap.size := ⟨_, rfl⟩
      have HM : Aside0 (Many B wl [] [(A, c, tens j)] wl) := ⟨(Many.none_ (Below.refl _ _) (by omega)).more (Below.refl _ _) hc6 (hrd wl (fun _ _ => rfl)) (fun ad e hn => .inl (by rw [hB]; exact reads_lt (hrd wl (fun _ _ => rfl)) e hn))⟩
      clear hKl hrd
      refine (many_new HM.out A c (tens j) (HM.out.reads (List.mem_cons_self ..)).2 (by rw [HLEN.out]; omega) (tens_wf hk1)).mono ?_
      rintro e w2 ⟨ga, rfl, hm⟩
      rw [onceF_tens j hk1] at hm
      replace HM := Aside0.mk hm
      clear hm
      go_wp2_with fail
      refine (many_new HM.out A c (tens j) (HM.out.reads (List.mem_cons_self ..)).2 (by rw [HLEN.out]; omega) (tens_wf hk1)).mono ?_
      rintro e w3 ⟨gb, rfl, hm⟩
      rw [onceF_tens j hk1] at hm
      replace HM : Aside0 (Many B wl [(ga, tens j, tqRing j 0), (gb, tens j, tqCut j cut 0)] [(A, c, tens j)] w3) := Aside0.mk hm
      clear hm
      go_wp2_with fail
      rw [hc]
      go_loopg [11] j (fun kq v11 wx => ∃ (i : Nat), v11 = .int .i64 i ∧ Aside0 (i ≤ j ∧ kq = j - i) ∧ Aside0 (Many B wl [(ga, tens j, tqRing j i), (gb, tens j, tqCut j cut i)] [(A, c, tens j)] wx))
      case atStart => exact ⟨0, rfl, ⟨by omega⟩, HM⟩
      case round =>
        clear HM
        obtain ⟨i, rfl, HI, HM⟩ := hrel
        obtain ⟨hi, hiq⟩ := HI.out
        by_cases hlt2 : i < j
        · have hdi : decide ((i : Int) < (j : Int)) = true := decide_eq_true (by omega)
          obtain ⟨q, hq0⟩ : ∃ q, q = (i + 1) % j := ⟨_, rfl⟩
          have hqj : q < j := by rw [hq0]; exact Nat.mod_lt _ (by omega)
          have HQ : Aside0 ((wrap64 ((i : Int) + 1)).tmod (j : Int) = (q : Int)) := ⟨by rw [hq0, wr1 (by omega), Int.tmod_eq_emod_of_nonneg (by omega)]; push_cast; rfl⟩
          have hj0 : ¬ (j = 0) := by omega
          have HQ0 := Aside0.mk hq0
          clear hq0
          have hrd := (HM.out.reads (List.mem_cons_self ..)).2
          obtain ⟨ad, rfl, cf0⟩ := hrd.at_ (i : Int) (by omega) (by rw [HLEN.out]; omega)
          obtain ⟨ad', e', cf1⟩ := hrd.at_ (q : Int) (by omega) (by rw [HLEN.out]; omega)
          injection e' with e'
          subst e'
          rw [Int.toNat_natCast, tens_rd (by omega)] at cf0 cf1
          obtain ⟨x, HX⟩ : ∃ x, Aside0 (10 * (i : Int) = x) := ⟨_, ⟨rfl⟩⟩
          obtain ⟨y, HY⟩ : ∃ y, Aside0 (10 * (q : Int) = y) := ⟨_, ⟨rfl⟩⟩
          rw [HX.out] at cf0
          rw [HY.out] at cf1
          have hadi := World.block_lt_of_cell? wr (ad.add i) cf0
          have hadq := World.block_lt_of_cell? wr (ad.add q) cf1
          have HWX : Aside0 ((Lit.int .i64 x).wf = true) := ⟨by rw [← HX.out]; exact ten_wf (by omega)⟩
          have HWY : Aside0 ((Lit.int .i64 y).wf = true) := ⟨by rw [← HY.out]; exact ten_wf (by omega)⟩
          have HL := Aside0.mk (many_lead_d HM.out 0 rfl x [y] HWX.out (by simp) (by simpa using HWY.out) (fun n => by have := tqRing_len j i n; simp; omega) #[.int .i64 y] rfl 1 1 rfl)
          have hlen2 : (i : Int) < ((tens j).length : Int) := by rw [HLEN.out]; omega
          have hlen3 : (q : Int) < ((tens j).length : Int) := by rw [HLEN.out]; omega
          clear hrd
          go_wp2_with fail
          have hq := HQ.out
          refine start_ (n := 14) (S := fun w' => w'.cell? (ad.add i) = some (.int .i64 x) ∧ w'.cell? (ad.add q) = some (.int .i64 y)) (ds := [13]) #[false, false, false, false, false, false, false, false, false, false, false, false, false, false] (by kernel_rfl) rfl rfl ⟨cf0, cf1⟩ (fun hHeld => ?_)
          refine pure_ (i := 0) (N := some 42) (v := ?_) (a' := ?_) #[true, false, false, false, false, false, false, false, false, false, false, false, false, false] rfl rfl (by kernel_rfl) (fun _ _ _ h => h) (Or.inl ⟨by rfl, ?_⟩) ?_ ?_
          rotate_left
          · intro w'
            go_simp
            with_reducible rfl
          rotate_left
          · simp only [Act.put, List.setIfInBounds_toArray, List.set_cons_zero, List.set_cons_succ, i64_w, i32_w]
            rfl
          refine pure_ (i := 1) (N := some 43) (v := ?_) (a' := ?_) #[true, true, false, false, false, false, false, false, false, false, false, false, false, false] rfl rfl (by kernel_rfl) (fun _ _ _ h => h) (Or.inl ⟨by rfl, ?_⟩) ?_ ?_
          rotate_left
          · intro w'
            go_simp
            with_reducible rfl
          rotate_left
          · simp only [Act.put, List.setIfInBounds_toArray, List.set_cons_zero, List.set_cons_succ, i64_w, i32_w]
            rfl
          refine pure_ (i := 2) (N := some 44) (v := ?_) (a' := ?_) #[true, true, true, false, false, false, false, false, false, false, false, false, false, false] rfl rfl (by kernel_rfl) (fun _ _ _ h => h) (Or.inl ⟨by rfl, ?_⟩) ?_ ?_
          rotate_left
          · intro w'
            go_simp
            with_reducible rfl
          rotate_left
          · simp only [Act.put, List.setIfInBounds_toArray, List.set_cons_zero, List.set_cons_succ, i64_w, i32_w]
            rfl
          refine pure_ (i := 3) (N := some 45) (v := ?_) (a' := ?_) #[true, true, true, true, false, false, false, false, false, false, false, false, false, false] rfl rfl (by kernel_rfl) (fun _ _ _ h => h) (Or.inl ⟨by rfl, ?_⟩) ?_ ?_
          rotate_left
          · intro w'
            go_simp
            with_reducible rfl
          rotate_left
          · simp only [Act.put, List.setIfInBounds_toArray, List.set_cons_zero, List.set_cons_succ, i64_w, i32_w]
            rfl
          refine pure_ (i := 5) (N := some 47) (v := ?_) (a' := ?_) #[true, true, true, true, false, true, false, false, false, false, false, false, false, false] rfl rfl (by kernel_rfl) (fun _ _ _ h => h) (Or.inl ⟨by rfl, ?_⟩) ?_ ?_
          rotate_left
          · intro w'
            go_simp
            with_reducible rfl
          rotate_left
          · simp only [Act.put, List.setIfInBounds_toArray, List.set_cons_zero, List.set_cons_succ, i64_w, i32_w]
            rfl
          refine pure_ (i := 6) (N := some 48) (v := ?_) (a' := ?_) #[true, true, true, true, false, true, true, false, false, false, false, false, false, false] rfl rfl (by kernel_rfl) (fun _ _ _ h => h) (Or.inl ⟨by rfl, ?_⟩) ?_ ?_
          rotate_left
          · intro w'
            go_simp
            with_reducible rfl
          rotate_left
          · simp only [Act.put, List.setIfInBounds_toArray, List.set_cons_zero, List.set_cons_succ, i64_w, i32_w]
            rfl
          refine pure_ (i := 7) (N := some 49) (v := ?_) (a' := ?_) #[true, true, true, true, false, true, true, true, false, false, false, false, false, false] rfl rfl (by kernel_rfl) (fun _ _ _ h => h) (Or.inl ⟨by rfl, ?_⟩) ?_ ?_
          rotate_left
          · intro w'
            go_simp
            with_reducible rfl
          rotate_left
          · simp only [Act.put, List.setIfInBounds_toArray, List.set_cons_zero, List.set_cons_succ, i64_w, i32_w]
            rfl
          refine pure_ (i := 8) (N := some 50) (v := ?_) (a' := ?_) #[true, true, true, true, false, true, true, true, true, false, false, false, false, false] rfl rfl (by kernel_rfl) (fun _ _ _ h => h) (Or.inl ⟨by rfl, ?_⟩) ?_ ?_
          rotate_left
          · intro w'
            go_simp
            with_reducible rfl
          rotate_left
          · simp only [Act.put, List.setIfInBounds_toArray, List.set_cons_zero, List.set_cons_succ, i64_w, i32_w]
            rfl
          refine pure_ (i := 9) (N := some 51) (v := ?_) (a' := ?_) #[true, true, true, true, false, true, true, true, true, true, false, false, false, false] rfl rfl (by kernel_rfl) (fun _ _ _ h => h) (Or.inl ⟨by rfl, ?_⟩) ?_ ?_
          rotate_left
          · intro w'
            go_simp
            with_reducible rfl
          rotate_left
          · simp only [Act.put, List.setIfInBounds_toArray, List.set_cons_zero, List.set_cons_succ, i64_w, i32_w]
            rfl
          refine pure_ (i := 10) (N := some 52) (v := ?_) (a' := ?_) #[true, true, true, true, false, true, true, true, true, true, true, false, false, false] rfl rfl (by kernel_rfl) (fun _ _ _ h => h) (Or.inl ⟨by rfl, ?_⟩) ?_ ?_
          rotate_left
          · intro w'
            go_simp
            with_reducible rfl
          rotate_left
          · simp only [Act.put, List.setIfInBounds_toArray, List.set_cons_zero, List.set_cons_succ, i64_w, i32_w]
            rfl
          refine take_ (i := 4) (N := some 46) (v := ?_) (a' := ?_) #[true, true, true, true, true, true, true, true, true, true, true, false, false, false] rfl rfl (by kernel_rfl) (fun _ _ _ h => h) (Or.inl ⟨by rfl, ?_⟩) hHeld ?_ ?_
          rotate_left
          · rintro w' ⟨s0, s1⟩
            go_simp
            with_reducible rfl
          rotate_left
          · simp only [Act.put, List.setIfInBounds_toArray, List.set_cons_zero, List.set_cons_succ, i64_w, i32_w]
            rfl
          refine take_ (i := 11) (N := some 53) (v := ?_) (a' := ?_) #[true, true, true, true, true, true, true, true, true, true, true, true, false, false] rfl rfl (by kernel_rfl) (fun _ _ _ h => h) (Or.inl ⟨by rfl, ?_⟩) hHeld ?_ ?_
          rotate_left
          · rintro w' ⟨s0, s1⟩
            go_simp
            with_reducible rfl
          rotate_left
          · simp only [Act.put, List.setIfInBounds_toArray, List.set_cons_zero, List.set_cons_succ, i64_w, i32_w]
            rfl
          refine one_ (i := 12) (N := some 54) #[true, true, true, true, true, true, true, true, true, true, true, true, true, false] rfl rfl (by kernel_rfl) (by decide) (fun K hK => ?_)
          refine value_ (w1 := ?_) (v := ?_) (by rfl) rfl ?_ ?_
          rotate_left 2
          · go_simp
            constructor
            · rfl
            · rfl
          refine hK.out _ _ ⟨(World.cell?_of_block (Below.heap_alloc wr _ _ hadi)).trans cf0, (World.cell?_of_block (Below.heap_alloc wr _ _ hadq)).trans cf1⟩ (fun hHeld => ?_)
          clear hK K
          refine norm_ (a' := ?_) ?_ ?_
          rotate_left
          · show Act.put _ (some 54) _ = _
            simp only [Act.put, List.setIfInBounds_toArray, List.set_cons_zero, List.set_cons_succ, i64_w, i32_w]
            rfl
          refine last_ (i := 13) (N := some 55) #[true, true, true, true, true, true, true, true, true, true, true, true, true, true] rfl rfl (by kernel_rfl) (by decide) (fun K hK => ?_)
          refine goes_ Try.func10 (by kernel_rfl) rfl #[.pointer (some ⟨ga, 0, none⟩), .int .i64 x, .slice (some ⟨wr.heap.size, 0, none⟩) 1 1] (by rfl) rfl rfl (by simp only [List.map_toArray, List.map_cons, List.map_nil]; rfl) ?_
          with_reducible refine (HL.out).mono ?_
          rintro e w4 ⟨rfl, hm⟩
          refine ⟨_, rfl, ?_⟩
          refine hK.out _ _ ?_
          clear hK K
          refine norm_ (a' := ?_) ?_ ?_
          rotate_left
          · show Act.put _ (some 55) _ = _
            simp only [Act.put, List.setIfInBounds_toArray, List.set_cons_zero, List.set_cons_succ, i64_w, i32_w]
            rfl
          refine done_ (by kernel_rfl) ?_
          clear hq
          have hm4 : Many B wl [(ga, tens j, tqRing j (i + 1)), (gb, tens j, tqCut j cut i)] [(some ad, c, tens j)] w4 := by unfold tqRing; rw [HX.out, ← HQ0.out, HY.out]; exact hm
          have HM4 := Aside0.mk hm4
          clear hm hm4 HM HL hHeld cf0 cf1 hadi hadq
          generalize (if x ∈ tens j then (0 : Int) else 3) = r4
          by_cases hcut : i = cut
          · have HM5 : Aside0 (Many B wl [(ga, tens j, tqRing j (i + 1)), (gb, tens j, tqCut j cut (i + 1))] [(some ad, c, tens j)] w4) := ⟨by have := HM4.out; unfold tqCut; rw [if_pos hcut]; exact this⟩
            subst hcut
            go_wp2_with fail
            go_roundg (j - (i + 1))
            case measure => omega
            case rel => exact ⟨i + 1, by simp, ⟨by omega⟩, HM5⟩
          · have hci : ¬ ((i : Int) = (cut : Int)) := by omega
            go_wp2_with fail
            have hrd := (HM4.out.reads (List.mem_cons_self ..)).2
            obtain ⟨ad2, e2, ch0⟩ := hrd.at_ (i : Int) (by omega) (by rw [HLEN.out]; omega)
            injection e2 with e2
            subst e2
            obtain ⟨ad2, e2, ch1⟩ := hrd.at_ (q : Int) (by omega) (by rw [HLEN.out]; omega)
            injection e2 with e2
            subst e2
            rw [Int.toNat_natCast, tens_rd (by omega)] at ch0 ch1
            rw [HX.out] at ch0
            rw [HY.out] at ch1
            have hadi := World.block_lt_of_cell? w4 (ad.add i) ch0
            have hadq := World.block_lt_of_cell? w4 (ad.add q) ch1
            have HL := Aside0.mk (many_lead_d HM4.out 1 rfl x [y] HWX.out (by simp) (by simpa using HWY.out) (fun n => by have := tqCut_len j cut i n; simp; omega) #[.int .i64 y] rfl 1 1 rfl)
            clear hHeld hrd
            have hq := HQ.out
            refine start_ (n := 14) (S := fun w' => w'.cell? (ad.add i) = some (.int .i64 x) ∧ w'.cell? (ad.add q) = some (.int .i64 y)) (ds := [13]) #[false, false, false, false, false, false, false, false, false, false, false, false, false, false] (by kernel_rfl) rfl rfl ⟨ch0, ch1⟩ (fun hHeld => ?_)
            refine pure_ (i := 0) (N := some 59) (v := ?_) (a' := ?_) #[true, false, false, false, false, false, false, false, false, false, false, false, false, false] rfl rfl (by kernel_rfl) (fun _ _ _ h => h) (Or.inl ⟨by rfl, ?_⟩) ?_ ?_
            rotate_left
            · intro w'
              go_simp
              with_reducible rfl
            rotate_left
            · simp only [Act.put, List.setIfInBounds_toArray, List.set_cons_zero, List.set_cons_succ, i64_w, i32_w]
              rfl
            refine pure_ (i := 1) (N := some 60) (v := ?_) (a' := ?_) #[true, true, false, false, false, false, false, false, false, false, false, false, false, false] rfl rfl (by kernel_rfl) (fun _ _ _ h => h) (Or.inl ⟨by rfl, ?_⟩) ?_ ?_
            rotate_left
            · intro w'
              go_simp
              with_reducible rfl
            rotate_left
            · simp only [Act.put, List.setIfInBounds_toArray, List.set_cons_zero, List.set_cons_succ, i64_w, i32_w]
              rfl
            refine pure_ (i := 2) (N := some 61) (v := ?_) (a' := ?_) #[true, true, true, false, false, false, false, false, false, false, false, false, false, false] rfl rfl (by kernel_rfl) (fun _ _ _ h => h) (Or.inl ⟨by rfl, ?_⟩) ?_ ?_
            rotate_left
            · intro w'
              go_simp
              with_reducible rfl
            rotate_left
            · simp only [Act.put, List.setIfInBounds_toArray, List.set_cons_zero, List.set_cons_succ, i64_w, i32_w]
              rfl
            refine pure_ (i := 3) (N := some 62) (v := ?_) (a' := ?_) #[true, true, true, true, false, false, false, false, false, false, false, false, false, false] rfl rfl (by kernel_rfl) (fun _ _ _ h => h) (Or.inl ⟨by rfl, ?_⟩) ?_ ?_
            rotate_left
            · intro w'
              go_simp
              with_reducible rfl
            rotate_left
            · simp only [Act.put, List.setIfInBounds_toArray, List.set_cons_zero, List.set_cons_succ, i64_w, i32_w]
              rfl
            refine pure_ (i := 5) (N := some 64) (v := ?_) (a' := ?_) #[true, true, true, true, false, true, false, false, false, false, false, false, false, false] rfl rfl (by kernel_rfl) (fun _ _ _ h => h) (Or.inl ⟨by rfl, ?_⟩) ?_ ?_
            rotate_left
            · intro w'
              go_simp
              with_reducible rfl
            rotate_left
            · simp only [Act.put, List.setIfInBounds_toArray, List.set_cons_zero, List.set_cons_succ, i64_w, i32_w]
              rfl
            refine pure_ (i := 6) (N := some 65) (v := ?_) (a' := ?_) #[true, true, true, true, false, true, true, false, false, false, false, false, false, false] rfl rfl (by kernel_rfl) (fun _ _ _ h => h) (Or.inl ⟨by rfl, ?_⟩) ?_ ?_
            rotate_left
            · intro w'
              go_simp
              with_reducible rfl
            rotate_left
            · simp only [Act.put, List.setIfInBounds_toArray, List.set_cons_zero, List.set_cons_succ, i64_w, i32_w]
              rfl
            refine pure_ (i := 7) (N := some 66) (v := ?_) (a' := ?_) #[true, true, true, true, false, true, true, true, false, false, false, false, false, false] rfl rfl (by kernel_rfl) (fun _ _ _ h => h) (Or.inl ⟨by rfl, ?_⟩) ?_ ?_
            rotate_left
            · intro w'
              go_simp
              with_reducible rfl
            rotate_left
            · simp only [Act.put, List.setIfInBounds_toArray, List.set_cons_zero, List.set_cons_succ, i64_w, i32_w]
              rfl
            refine pure_ (i := 8) (N := some 67) (v := ?_) (a' := ?_) #[true, true, true, true, false, true, true, true, true, false, false, false, false, false] rfl rfl (by kernel_rfl) (fun _ _ _ h => h) (Or.inl ⟨by rfl, ?_⟩) ?_ ?_
            rotate_left
            · intro w'
              go_simp
              with_reducible rfl
            rotate_left
            · simp only [Act.put, List.setIfInBounds_toArray, List.set_cons_zero, List.set_cons_succ, i64_w, i32_w]
              rfl
            refine pure_ (i := 9) (N := some 68) (v := ?_) (a' := ?_) #[true, true, true, true, false, true, true, true, true, true, false, false, false, false] rfl rfl (by kernel_rfl) (fun _ _ _ h => h) (Or.inl ⟨by rfl, ?_⟩) ?_ ?_
            rotate_left
            · intro w'
              go_simp
              with_reducible rfl
            rotate_left
            · simp only [Act.put, List.setIfInBounds_toArray, List.set_cons_zero, List.set_cons_succ, i64_w, i32_w]
              rfl
            refine pure_ (i := 10) (N := some 69) (v := ?_) (a' := ?_) #[true, true, true, true, false, true, true, true, true, true, true, false, false, false] rfl rfl (by kernel_rfl) (fun _ _ _ h => h) (Or.inl ⟨by rfl, ?_⟩) ?_ ?_
            rotate_left
            · intro w'
              go_simp
              with_reducible rfl
            rotate_left
            · simp only [Act.put, List.setIfInBounds_toArray, List.set_cons_zero, List.set_cons_succ, i64_w, i32_w]
              rfl
            refine take_ (i := 4) (N := some 63) (v := ?_) (a' := ?_) #[true, true, true, true, true, true, true, true, true, true, true, false, false, false] rfl rfl (by kernel_rfl) (fun _ _ _ h => h) (Or.inl ⟨by rfl, ?_⟩) hHeld ?_ ?_
            rotate_left
            · rintro w' ⟨s0, s1⟩
              go_simp
              with_reducible rfl
            rotate_left
            · simp only [Act.put, List.setIfInBounds_toArray, List.set_cons_zero, List.set_cons_succ, i64_w, i32_w]
              rfl
            refine take_ (i := 11) (N := some 70) (v := ?_) (a' := ?_) #[true, true, true, true, true, true, true, true, true, true, true, true, false, false] rfl rfl (by kernel_rfl) (fun _ _ _ h => h) (Or.inl ⟨by rfl, ?_⟩) hHeld ?_ ?_
            rotate_left
            · rintro w' ⟨s0, s1⟩
              go_simp
              with_reducible rfl
            rotate_left
            · simp only [Act.put, List.setIfInBounds_toArray, List.set_cons_zero, List.set_cons_succ, i64_w, i32_w]
              rfl
            refine one_ (i := 12) (N := some 71) #[true, true, true, true, true, true, true, true, true, true, true, true, true, false] rfl rfl (by kernel_rfl) (by decide) (fun K hK => ?_)
            refine value_ (w1 := ?_) (v := ?_) (by rfl) rfl ?_ ?_
            rotate_left 2
            · go_simp
              constructor
              · rfl
              · rfl
            refine hK.out _ _ ⟨(World.cell?_of_block (Below.heap_alloc w4 _ _ hadi)).trans ch0, (World.cell?_of_block (Below.heap_alloc w4 _ _ hadq)).trans ch1⟩ (fun hHeld => ?_)
            clear hK K
            refine norm_ (a' := ?_) ?_ ?_
            rotate_left
            · show Act.put _ (some 71) _ = _
              simp only [Act.put, List.setIfInBounds_toArray, List.set_cons_zero, List.set_cons_succ, i64_w, i32_w]
              rfl
            refine last_ (i := 13) (N := some 72) #[true, true, true, true, true, true, true, true, true, true, true, true, true, true] rfl rfl (by kernel_rfl) (by decide) (fun K hK => ?_)
            refine goes_ Try.func10 (by kernel_rfl) rfl #[.pointer (some ⟨gb, 0, none⟩), .int .i64 x, .slice (some ⟨w4.heap.size, 0, none⟩) 1 1] (by rfl) rfl rfl (by simp only [List.map_toArray, List.map_cons, List.map_nil]; rfl) ?_
            with_reducible refine (HL.out).mono ?_
            rintro e w5 ⟨rfl, hm⟩
            refine ⟨_, rfl, ?_⟩
            refine hK.out _ _ ?_
            clear hK K
            refine norm_ (a' := ?_) ?_ ?_
            rotate_left
            · show Act.put _ (some 72) _ = _
              simp only [Act.put, List.setIfInBounds_toArray, List.set_cons_zero, List.set_cons_succ, i64_w, i32_w]
              rfl
            refine done_ (by kernel_rfl) ?_
            clear hq
            have HM5 : Aside0 (Many B wl [(ga, tens j, tqRing j (i + 1)), (gb, tens j, tqCut j cut (i + 1))] [(some ad, c, tens j)] w5) := ⟨by rw [show tqCut j cut (i + 1) = leadG (tens j) (tqCut j cut i) (10 * (i : Int)) [10 * (((i + 1) % j : Nat) : Int)] from if_neg hcut, HX.out, ← HQ0.out, HY.out]; exact hm⟩
            clear hm HM4 HL hHeld ch0 ch1 hadi hadq
            generalize (if x ∈ tens j then (0 : Int) else 3) = r5
            go_wp2_with fail
            go_roundg (j - (i + 1))
            case measure => omega
            case rel => exact ⟨i + 1, by simp, ⟨by omega⟩, HM5⟩
        · obtain rfl : i = j := by omega
          have hdi : decide ((i : Int) < (i : Int)) = false := decide_eq_false (by omega)
          go_wp2_with fail
          clear HO
          obtain ⟨z, hz⟩ : ∃ z : Int, z = 0 := ⟨_, rfl⟩
          go_loopg [12] i (fun kq v12 wx => ∃ (n : Nat), v12 = .int .i64 n ∧ Aside0 (n ≤ i ∧ kq = i - n) ∧ Aside0 (Many B wl [(ga, tens i, tqRing i i), (gb, tens i, tqCut i cut i)] [(A, c, tens i)] wx))
          case atStart => exact ⟨0, rfl, ⟨by omega⟩, HM⟩
          case round =>
            clear HM
            obtain ⟨n, rfl, HI, HM⟩ := hrel
            obtain ⟨hn, hnq⟩ := HI.out
            by_cases hlt3 : n < i
            · have hdn : decide ((n : Int) < (i : Int)) = true := decide_eq_true (by omega)
              have hrd := (HM.out.reads (List.mem_cons_self ..)).2
              obtain ⟨ad, rfl, cf0⟩ := hrd.at_ (n : Int) (by omega) (by rw [HLEN.out]; omega)
              clear hrd
              obtain ⟨x, HX⟩ : ∃ x, Aside0 (10 * (n : Int) = x) := ⟨_, ⟨rfl⟩⟩
              have HC : Aside0 (∀ W : World, Many B wl [(ga, tens i, tqRing i i), (gb, tens i, tqCut i cut i)] [(some ad, c, tens i)] W → W.cell? (ad.add n) = some (.int .i64 x) ∧ W.cell? ad = some (.int .i64 0)) := ⟨fun W hW => by
                have hrd := (hW.reads (List.mem_cons_self ..)).2
                obtain ⟨ad2, e2, ch0⟩ := hrd.at_ (n : Int) (by omega) (by rw [HLEN.out]; omega)
                injection e2 with e2
                subst e2
                obtain ⟨ad2, e2, ch1⟩ := hrd.at_ ((0 : Nat) : Int) (by omega) (by rw [HLEN.out]; omega)
                injection e2 with e2
                subst e2
                rw [Int.toNat_natCast, tens_rd (by omega)] at ch0 ch1
                rw [HX.out] at ch0
                exact ⟨ch0, ch1⟩⟩
              have HSUB : Aside0 (∀ (W : World) (A : Option Addr) (c2 : Nat) (l : List Int), Many B wl [(ga, tens i, tqRing i i), (gb, tens i, tqCut i cut i)] [(A, c2, l), (some ad, c, tens i)] W → Many B wl [(ga, tens i, tqRing i i), (gb, tens i, tqCut i cut i)] [(some ad, c, tens i)] W) := ⟨fun W A c2 l h => h.sub (fun x hx => List.mem_cons_of_mem _ hx)⟩
              have HWX : Aside0 ((Lit.int .i64 x).wf = true) := ⟨by rw [← HX.out]; exact ten_wf (by omega)⟩
              have hlen2 : (n : Int) < ((tens i).length : Int) := by rw [HLEN.out]; omega
              have hlen3 : 0 < (tens i).length := by rw [HLEN.out]; omega
              have HR1 : Aside0 (circR (tens i) (tqRing i i) x = true) := ⟨by rw [← HX.out]; exact ring1 hk1 hlt3⟩
              have HR2 : Aside0 ((setR (tens i) (tqRing i i) x).length = i) := ⟨by rw [← HX.out]; exact ring2 hk1 hlt3⟩
              have HR3 : Aside0 (circR (tens i) (tqCut i cut i) x = false) := ⟨by rw [← HX.out]; exact ring3 hk1 hc1 hlt3⟩
              have HR4 : Aside0 (sameR (tens i) (tqRing i i) x 0 = true) := ⟨by rw [← HX.out]; exact ring4 hk1 hlt3⟩
              have HR5 : Aside0 (sameR (tens i) (tqCut i cut i) x 0 = false) := ⟨by rw [← HX.out]; exact ring5 hk1 hc1 hlt3⟩
              clear cf0
              go_wp2_with fail
              refine ring_reg20 _ (fun _ _ _ _ _ h => h) HM HC HSUB HWX hlen2 hlen3 HR1 HR2 HR3 HR4 HR5 _ _ _ _ _ _ _ _ _ _ _ _ _ _ _ _ _ _ _ _ _ _ _ _ _ _ _ _ _ _ _ _ _ _ _ _ _ _ _ _ _ _ _ _ _ _ _ _ _ _ _ _ _ _ _ _ _ _ _ _ _ _ _ _ _ _ _ _ _ _ _ _ _ _ _ _ _ _ _ _ _ _ _ _ _ _ _ _ _ _ _ _ _ _ _ _ _ _ _ _ _ _ _ _ _ _ _ _ _ _ _ _ _ _ _ _ _ _ _ _ _ _ _ _ _ _ _ _ _ _ _ _ _ _ _ _ _ _ _ _ _ _ _ _ _ _ _ _ _ _ _ _ _ _ _ _ _ _ ?_
              clear HM
              intro u78 u79 u80 u81 u82 u83 u84 u85 u86 u87 u88 u89 u90 u91 u92 u93 u94 u95 u96 u97 u98 u99 u100 u101 u102 u103 u104 u105 u106 u107 u108 u109 u110 u111 u112 u113 u114 u115 u116 u117 u118 u119 u120 u121 u122 u123 u124 u125 w8 HM8
              replace HM8 := Aside0.mk HM8
              go_wp2_with fail
              go_roundg (i - (n + 1))
              case measure => omega
              case rel => exact ⟨n + 1, by simp, ⟨by omega⟩, HM8⟩
            · obtain rfl : n = i := by omega
              have hdn : decide ((n : Int) < (n : Int)) = false := decide_eq_false (by omega)
              obtain ⟨q, hq0⟩ : ∃ q, q = (cut + 1) % n := ⟨_, rfl⟩
              have hqj : q < n := by rw [hq0]; exact Nat.mod_lt _ (by omega)
              have HQ : Aside0 ((wrap64 ((cut : Int) + 1)).tmod (n : Int) = (q : Int)) := ⟨by rw [hq0, wr1 (by omega), Int.tmod_eq_emod_of_nonneg (by omega)]; push_cast; rfl⟩
              have hj0 : ¬ (n = 0) := by omega
              have HQ0 := Aside0.mk hq0
              clear hq0
              have HR6 : Aside0 ((circsR (tens n) (tqRing n n)).length = n) := ⟨ring6 hk1⟩
              have HR7 : Aside0 ((circsR (tens n) (tqCut n cut n)).length = 0) := ⟨ring7 hk1 hc1⟩
              have HR8 : Aside0 ((setR (tens n) (tqCut n cut n) (10 * (cut : Int))).length = 0) := ⟨ring8 hk1 hc1⟩
              have HR9 : Aside0 ((setR (tens n) (tqCut n cut n) (10 * (q : Int))).length + 1 = n) := ⟨by rw [HQ0.out]; exact ring9 hk1 hc1⟩
              go_wp2_with fail
              refine (many_circles HM.out 0 rfl (tens_wf hk1)).mono ?_
              rintro e w4 ⟨A4, c4, rfl, hm⟩
              replace HM := Aside0.mk (hm.sub (ls' := [(A, c, tens n)]) (fun x hx => List.mem_cons_of_mem _ hx))
              clear hm
              rw [HR6.out]
              go_wp2_with fail
              refine (many_circles HM.out 1 rfl (tens_wf hk1)).mono ?_
              rintro e w5 ⟨A5, c5, rfl, hm⟩
              replace HM := Aside0.mk (hm.sub (ls' := [(A, c, tens n)]) (fun x hx => List.mem_cons_of_mem _ hx))
              clear hm
              rw [HR7.out]
              have hlc : (cut : Int) < ((tens n).length : Int) := by rw [HLEN.out]; omega
              have hlq : (q : Int) < ((tens n).length : Int) := by rw [HLEN.out]; omega
              have hrd := (HM.out.reads (List.mem_cons_self ..)).2
              obtain ⟨ad, rfl, cf0⟩ := hrd.at_ (cut : Int) (by omega) (by omega)
              clear hrd
              rw [Int.toNat_natCast, tens_rd hc1] at cf0
              obtain ⟨x, HX⟩ : ∃ x, Aside0 (10 * (cut : Int) = x) := ⟨_, ⟨rfl⟩⟩
              obtain ⟨y, HY⟩ : ∃ y, Aside0 (10 * (q : Int) = y) := ⟨_, ⟨rfl⟩⟩
              rw [HX.out] at cf0
              have HWX : Aside0 ((Lit.int .i64 x).wf = true) := ⟨by rw [← HX.out]; exact ten_wf (by omega)⟩
              have HWY : Aside0 ((Lit.int .i64 y).wf = true) := ⟨by rw [← HY.out]; exact ten_wf (by omega)⟩
              go_wp2_with fail
              refine (many_set HM.out 1 rfl x HWX.out).mono ?_
              rintro e w6 ⟨A6, c6, rfl, hm⟩
              replace HM := Aside0.mk (hm.sub (ls' := [(some ad, c, tens n)]) (fun x hx => List.mem_cons_of_mem _ hx))
              clear hm cf0
              have HR8' : Aside0 ((setR (tens n) (tqCut n cut n) x).length = 0) := ⟨by rw [← HX.out]; exact HR8.out⟩
              have HR9' : Aside0 ((setR (tens n) (tqCut n cut n) y).length + 1 = n) := ⟨by rw [← HY.out]; exact HR9.out⟩
              rw [HR8'.out]
              have hrd := (HM.out.reads (List.mem_cons_self ..)).2
              obtain ⟨ad2, e2, cf1⟩ := hrd.at_ (q : Int) (by omega) (by omega)
              injection e2 with e2
              subst e2
              clear hrd
              rw [Int.toNat_natCast, tens_rd hqj, HY.out] at cf1
              have hq := HQ.out
              have hq2 : ((cut : Int) + 1).tmod (n : Int) = (q : Int) := by have := hq; rwa [wr1 (by omega)] at this
              have hq3 : ((cut : Int) + 1) % (n : Int) = (q : Int) := by rw [Int.tmod_eq_emod_of_nonneg (by omega)] at hq2; exact hq2
              go_wp2_with fail
              refine (many_set HM.out 1 rfl y HWY.out).mono ?_
              rintro e w7 ⟨A7, c7, rfl, hm⟩
              have hb7 : Below w.heap.size w w7 := HB.out.trans ((hB ▸ hm.below).mono HB.out.size)
              have HB7 := Aside0.mk hb7
              clear hb7 hq hq2 hq3
              have hln : (setR (tens n) (tqCut n cut n) y).length = n - 1 := by have := HR9'.out; omega
              rw [hln]
              have hw : wrap64 ((n : Int) - 1) = ((n - 1 : Nat) : Int) := by unfold wrap64; omega
              have hw2 : ((n : Int) - 1) = ((n - 1 : Nat) : Int) := by omega
              go_wp2
              go_ret
              exact ⟨by simp, HB7.out⟩
end Go.Proofs.Ytiljegeodokfmaa.Fx
