/- fix: FixSets' walk. -/
import Derived.Test.YtiljegeodokfmaaGrR
import Derived.Test.YtiljegeodokfmaaFixOrd
namespace Go.Proofs.Ytiljegeodokfmaa.Fx
open Go Go.RowKit Go.Proofs.YtiljegeodokfmaaW.PrintWords Go.Proofs.YtiljegeodokfmaaW.PrintLast Go.Proofs.YtiljegeodokfmaaW.PrintMore Go.Proofs.Ytiljegeodokfmaa.PA
attribute [local go_sem] Oper.semAt_some
set_option linter.unusedVariables false
set_option linter.unusedSimpArgs false

/-- Who is in a node's set, up to some node. -/
def sel (ns : List Int) (tq : Nat → List Nat) (i n : Nat) : List Int := ((List.range n).filter fun m => RB ns.length tq i m).map fun m => ns.getD m 0
theorem sel_succ (ns : List Int) (tq : Nat → List Nat) (i n : Nat) : sel ns tq i (n + 1) = if RB ns.length tq i n = true then sel ns tq i n ++ [ns.getD n 0] else sel ns tq i n := by
  unfold sel
  rw [List.range_succ, List.filter_append, List.map_append]
  cases h : RB ns.length tq i n <;> simp [h]
theorem sel_len (ns : List Int) (tq : Nat → List Nat) (i n : Nat) : (sel ns tq i n).length ≤ n := by
  unfold sel
  rw [List.length_map]
  have := List.length_filter_le (fun m => RB ns.length tq i m) (List.range n)
  rwa [List.length_range] at this
theorem setR_at {ns : List Int} (tq : Nat → List Nat) (hd : ns.Nodup) {i : Nat} (hi : i < ns.length) : setR ns tq (ns.getD i 0) = sel ns tq i ns.length := by
  unfold setR sel
  rw [if_pos (getD_mem' hi), idx_getD hd hi]
theorem mem_sel {ns : List Int} (tq : Nat → List Nat) (hd : ns.Nodup) {i m : Nat} (hm : m < ns.length) : ns.getD m 0 ∈ sel ns tq i ns.length ↔ RB ns.length tq i m = true := by
  unfold sel
  rw [List.mem_map]
  constructor
  · rintro ⟨n, hn, e⟩
    obtain ⟨h1, h2⟩ := List.mem_filter.1 hn
    have hnl := List.mem_range.1 h1
    have : n = m := by rw [← idx_getD hd hnl, e, idx_getD hd hm]
    rw [← this]; exact h2
  · intro h
    exact ⟨m, List.mem_filter.2 ⟨List.mem_range.2 hm, h⟩, rfl⟩
theorem circ_at {ns : List Int} (tq : Nat → List Nat) (hd : ns.Nodup) {i : Nat} (hi : i < ns.length) : circR ns tq (ns.getD i 0) = RB ns.length tq i i := by
  unfold circR
  rw [setR_at tq hd hi]
  exact bool_iff' (by rw [decide_eq_true_iff]; exact mem_sel tq hd hi)
where
  bool_iff' {a b : Bool} (h : a = true ↔ b = true) : a = b := by cases a <;> cases b <;> simp_all
theorem setR_mem' {ns : List Int} {tq : Nat → List Nat} {x y : Int} (h : y ∈ setR ns tq x) : y ∈ ns := by
  unfold setR at h
  split at h
  · obtain ⟨n, hn, rfl⟩ := List.mem_map.1 h
    exact getD_mem' (List.mem_range.1 (List.mem_filter.1 hn).1)
  · cases h
theorem take_snoc {ns : List Int} {i : Nat} (hi : i < ns.length) : ns.take (i + 1) = ns.take i ++ [ns.getD i 0] := take_succ_getD hi
noncomputable def setsReg31 : Code := ((Try.f4.body.bind (findReg 31)).getD .skip)
noncomputable def setsReg33 : Code := ((Try.f4.body.bind (findReg 33)).getD .skip)
set_option maxRecDepth 100000 in
set_option maxHeartbeats 4000000 in
theorem sets_reg31 {B : Nat} {w1 wr : World} {g c8 c14 c15 i n14 n15 : Nat} {A15 : Option Addr} {ns l15 : List Int} {tq : Nat → List Nat} {ad sd : Addr} {rs : List Rw} {ks : List Kp} {x : Int} {cb : Bool} (K : Exit → Act → World → Prop) (hP : ∀ (c : List PanicEntry) (a : Act) (t : Tmp) (v : Value) (w : World), K (.panic c) (Act.put a (some t) v) w → K (.panic c) a w)
    (HM : Aside0 (ManyK B w1 [(g, ns, tq)] [(A15, c15, l15), (some ad, c8, ns)] rs ks wr))
    (HC : Aside0 (∀ W : World, ManyK B w1 [(g, ns, tq)] [(A15, c15, l15), (some ad, c8, ns)] rs ks W → W.cell? (ad.add i) = some (.int .i64 x) ∧ W.cell? (sd.add i) = some (.bool cb)))
    (HWX : Aside0 ((Lit.int .i64 x).wf = true)) (HS : Aside0 (setR ns tq x = l15)) (HN : Aside0 (l15.length ≤ 1000)) (HCR : Aside0 (circR ns tq x = cb)) (hlen1 : (i : Int) < (ns.length : Int)) (hlen2 : (i : Int) < (n14 : Int)) (hn15 : n15 = l15.length)
    (s0 s1 s2 s3 s4 s5 s6 s9 s10 s11 s12 s16 s17 s18 s19 s20 s21 s22 s23 s24 s25 s26 s27 s28 s29 s30 s31 s32 s33 s34 s35 s36 s37 s38 s39 s40 s41 s42 s43 s44 s45 s46 s47 s48 s49 s50 s51 s52 s53 s54 s55 s56 s57 s58 s59 s60 s61 s62 s63 s64 s65 s66 s67 s68 s69 s70 s71 s72 s73 s74 s75 s76 s77 s78 s79 s80 s81 s82 s83 s84 s85 s86 s87 s88 s89 s90 s91 s92 s93 s94 s95 s96 s97 s98 s99 s100 s101 s102 s103 s104 s105 s106 s107 s108 s109 s110 s111 s112 s113 s114 s115 s116 s117 s118 s119 s120 s121 s122 s123 s124 s125 s126 s127 s128 s129 s130 s131 s132 s133 s134 s135 s136 s137 s138 s139 s140 s141 s142 s143 s144 s145 s146 s147 s148 s149 s150 s151 s152 s153 s154 s155 s156 s157 s158 s159 s160 s161 s162 s163 s164 s165 s166 s167 s168 s169 s170 s171 s172 s173 s174 s175 s176 s177 s178 s179 s180 s181 : Value)
    (hK : ∀ (u117 u118 u119 u120 u121 u122 u123 u124 u125 u126 u127 u128 u129 u130 u131 u132 u133 u134 u135 u136 u137 : Value) (w8 : World), ManyK B w1 [(g, ns, tq)] [(A15, c15, l15), (some ad, c8, ns)] rs ks w8 → K .normal ⟨#[s0, s1, s2, s3, s4, s5, s6, .pointer (some ⟨g, 0, none⟩), .slice (some ad) ns.length c8, s9, s10, s11, s12, .int .i64 i, .slice (some sd) n14 c14, .slice A15 n15 c15, s16, s17, s18, s19, s20, s21, s22, s23, s24, s25, s26, s27, s28, s29, s30, s31, s32, s33, s34, s35, s36, s37, s38, s39, s40, s41, s42, s43, s44, s45, s46, s47, s48, s49, s50, s51, s52, s53, s54, s55, s56, s57, s58, s59, s60, s61, s62, s63, s64, s65, s66, s67, s68, s69, s70, s71, s72, s73, s74, s75, s76, s77, s78, s79, s80, s81, s82, s83, s84, s85, s86, s87, s88, s89, s90, s91, s92, s93, s94, s95, s96, s97, s98, s99, s100, s101, s102, s103, s104, s105, s106, s107, s108, s109, s110, s111, s112, s113, s114, s115, s116, u117, u118, u119, u120, u121, u122, u123, u124, u125, u126, u127, u128, u129, u130, u131, u132, u133, u134, u135, u136, u137, .bool false, s139, s140, s141, s142, s143, s144, s145, s146, s147, s148, s149, s150, s151, s152, s153, s154, s155, s156, s157, s158, s159, s160, s161, s162, s163, s164, s165, s166, s167, s168, s169, s170, s171, s172, s173, s174, s175, s176, s177, s178, s179, s180, s181], []⟩ w8) :
    Code.wp Try.prog setsReg31 K ⟨#[s0, s1, s2, s3, s4, s5, s6, .pointer (some ⟨g, 0, none⟩), .slice (some ad) ns.length c8, s9, s10, s11, s12, .int .i64 i, .slice (some sd) n14 c14, .slice A15 n15 c15, s16, s17, s18, s19, s20, s21, s22, s23, s24, s25, s26, s27, s28, s29, s30, s31, s32, s33, s34, s35, s36, s37, s38, s39, s40, s41, s42, s43, s44, s45, s46, s47, s48, s49, s50, s51, s52, s53, s54, s55, s56, s57, s58, s59, s60, s61, s62, s63, s64, s65, s66, s67, s68, s69, s70, s71, s72, s73, s74, s75, s76, s77, s78, s79, s80, s81, s82, s83, s84, s85, s86, s87, s88, s89, s90, s91, s92, s93, s94, s95, s96, s97, s98, s99, s100, s101, s102, s103, s104, s105, s106, s107, s108, s109, s110, s111, s112, s113, s114, s115, s116, s117, s118, s119, s120, s121, s122, s123, s124, s125, s126, s127, s128, s129, s130, s131, s132, s133, s134, s135, s136, s137, s138, s139, s140, s141, s142, s143, s144, s145, s146, s147, s148, s149, s150, s151, s152, s153, s154, s155, s156, s157, s158, s159, s160, s161, s162, s163, s164, s165, s166, s167, s168, s169, s170, s171, s172, s173, s174, s175, s176, s177, s178, s179, s180, s181], []⟩ wr := by
  have cf := HC.out wr HM.out
  obtain ⟨cf1, cf2⟩ := cf
  have HSUB : Aside0 (∀ (W : World) (A : Option Addr) (c2 : Nat) (l : List Int), ManyK B w1 [(g, ns, tq)] [(A, c2, l), (A15, c15, l15), (some ad, c8, ns)] rs ks W → ManyK B w1 [(g, ns, tq)] [(A15, c15, l15), (some ad, c8, ns)] rs ks W) := ⟨fun W A c2 l h => h.sub (fun x hx => List.mem_cons_of_mem _ hx) (fun x hx => hx)⟩
  subst hn15
  conv => arg 2; whnf
  refine start_ (n := 22) (S := fun w' => w'.cell? (ad.add i) = some (.int .i64 x) ∧ w'.cell? (sd.add i) = some (.bool cb)) (ds := []) #[false, false, false, false, false, false, false, false, false, false, false, false, false, false, false, false, false, false, false, false, false, false] (by kernel_rfl) rfl rfl ⟨cf1, cf2⟩ (fun hHeld => ?_)
  refine pure_ (i := 0) (N := some 117) (v := ?_) (a' := ?_) #[true, false, false, false, false, false, false, false, false, false, false, false, false, false, false, false, false, false, false, false, false, false] rfl rfl (by kernel_rfl) (fun _ _ _ h => hP _ _ _ _ _ h) (Or.inl ⟨by rfl, ?_⟩) ?_ ?_
  rotate_left
  · intro w'
    go_simp
    with_reducible rfl
  rotate_left
  · simp only [Act.put, List.setIfInBounds_toArray, List.set_cons_zero, List.set_cons_succ, i64_w, i32_w]
    rfl
  refine pure_ (i := 1) (N := some 118) (v := ?_) (a' := ?_) #[true, true, false, false, false, false, false, false, false, false, false, false, false, false, false, false, false, false, false, false, false, false] rfl rfl (by kernel_rfl) (fun _ _ _ h => hP _ _ _ _ _ h) (Or.inl ⟨by rfl, ?_⟩) ?_ ?_
  rotate_left
  · intro w'
    go_simp
    with_reducible rfl
  rotate_left
  · simp only [Act.put, List.setIfInBounds_toArray, List.set_cons_zero, List.set_cons_succ, i64_w, i32_w]
    rfl
  refine pure_ (i := 2) (N := some 119) (v := ?_) (a' := ?_) #[true, true, true, false, false, false, false, false, false, false, false, false, false, false, false, false, false, false, false, false, false, false] rfl rfl (by kernel_rfl) (fun _ _ _ h => hP _ _ _ _ _ h) (Or.inl ⟨by rfl, ?_⟩) ?_ ?_
  rotate_left
  · intro w'
    go_simp
    with_reducible rfl
  rotate_left
  · simp only [Act.put, List.setIfInBounds_toArray, List.set_cons_zero, List.set_cons_succ, i64_w, i32_w]
    rfl
  refine pure_ (i := 3) (N := some 120) (v := ?_) (a' := ?_) #[true, true, true, true, false, false, false, false, false, false, false, false, false, false, false, false, false, false, false, false, false, false] rfl rfl (by kernel_rfl) (fun _ _ _ h => hP _ _ _ _ _ h) (Or.inl ⟨by rfl, ?_⟩) ?_ ?_
  rotate_left
  · intro w'
    go_simp
    with_reducible rfl
  rotate_left
  · simp only [Act.put, List.setIfInBounds_toArray, List.set_cons_zero, List.set_cons_succ, i64_w, i32_w]
    rfl
  refine pure_ (i := 6) (N := some 123) (v := ?_) (a' := ?_) #[true, true, true, true, false, false, true, false, false, false, false, false, false, false, false, false, false, false, false, false, false, false] rfl rfl (by kernel_rfl) (fun _ _ _ h => hP _ _ _ _ _ h) (Or.inl ⟨by rfl, ?_⟩) ?_ ?_
  rotate_left
  · intro w'
    go_simp
    with_reducible rfl
  rotate_left
  · simp only [Act.put, List.setIfInBounds_toArray, List.set_cons_zero, List.set_cons_succ, i64_w, i32_w]
    rfl
  refine take_ (i := 4) (N := some 121) (v := ?_) (a' := ?_) #[true, true, true, true, true, false, true, false, false, false, false, false, false, false, false, false, false, false, false, false, false, false] rfl rfl (by kernel_rfl) (fun _ _ _ h => hP _ _ _ _ _ h) (Or.inl ⟨by rfl, ?_⟩) hHeld ?_ ?_
  rotate_left
  · rintro w' ⟨s0, s1⟩
    go_simp
    with_reducible rfl
  rotate_left
  · simp only [Act.put, List.setIfInBounds_toArray, List.set_cons_zero, List.set_cons_succ, i64_w, i32_w]
    rfl
  refine one_ (i := 5) (N := some 122) #[true, true, true, true, true, true, true, false, false, false, false, false, false, false, false, false, false, false, false, false, false, false] rfl rfl (by kernel_rfl) (by decide) (fun K hK => ?_)
  refine goes_ Try.func13 (by kernel_rfl) rfl #[.pointer (some ⟨g, 0, none⟩), .int .i64 x] (by rfl) rfl rfl (by simp only [List.map_toArray, List.map_cons, List.map_nil]; rfl) ?_
  with_reducible refine (mk_set HM.out.drew 0 rfl x HWX.out).mono ?_
  rintro e w5 ⟨A5, c5, rfl, hm⟩
  refine ⟨_, rfl, ?_⟩
  rw [HS.out] at hm ⊢
  have HM5 := Aside0.mk hm
  have HM5' := Aside0.mk (HSUB.out _ _ _ _ hm)
  clear hm
  refine hK.out _ _ ⟨(HC.out _ HM5'.out).1, (HC.out _ HM5'.out).2⟩ (fun hHeld => ?_)
  clear hK K
  refine norm_ (a' := ?_) ?_ ?_
  rotate_left
  · show Act.put _ (some 122) _ = _
    simp only [Act.put, List.setIfInBounds_toArray, List.set_cons_zero, List.set_cons_succ, i64_w, i32_w]
    rfl
  refine one_ (i := 7) (N := some 124) #[true, true, true, true, true, true, true, true, false, false, false, false, false, false, false, false, false, false, false, false, false, false] rfl rfl (by kernel_rfl) (by decide) (fun K hK => ?_)
  refine goes_ Try.func12 (by kernel_rfl) rfl #[.slice A5 l15.length c5, .slice A15 l15.length c15] (by rfl) rfl rfl (by simp only [List.map_toArray, List.map_cons, List.map_nil]; rfl) ?_
  with_reducible refine (mk_same3 HM5.out (A1 := A5) (c1 := c5) (A2 := A15) (c2 := c15) (by simp) (by simp) (k := l15.length + 1) (r := true) (same_f _ (by have := HN.out; omega))).mono ?_
  rintro e w6 ⟨rfl, hm⟩
  refine ⟨_, rfl, ?_⟩
  have HM6 := Aside0.mk (HSUB.out _ _ _ _ hm)
  clear hm
  refine hK.out _ _ ⟨(HC.out _ HM6.out).1, (HC.out _ HM6.out).2⟩ (fun hHeld => ?_)
  clear hK K
  refine norm_ (a' := ?_) ?_ ?_
  rotate_left
  · show Act.put _ (some 124) _ = _
    simp only [Act.put, List.setIfInBounds_toArray, List.set_cons_zero, List.set_cons_succ, i64_w, i32_w]
    rfl
  refine pure_ (i := 8) (N := some 125) (v := ?_) (a' := ?_) #[true, true, true, true, true, true, true, true, true, false, false, false, false, false, false, false, false, false, false, false, false, false] rfl rfl (by kernel_rfl) (fun _ _ _ h => hP _ _ _ _ _ h) (Or.inl ⟨by rfl, ?_⟩) ?_ ?_
  rotate_left
  · intro w'
    go_simp
    with_reducible rfl
  rotate_left
  · simp only [Act.put, List.setIfInBounds_toArray, List.set_cons_zero, List.set_cons_succ, i64_w, i32_w]
    rfl
  refine pure_ (i := 9) (N := some 126) (v := ?_) (a' := ?_) #[true, true, true, true, true, true, true, true, true, true, false, false, false, false, false, false, false, false, false, false, false, false] rfl rfl (by kernel_rfl) (fun _ _ _ h => hP _ _ _ _ _ h) (Or.inl ⟨by rfl, ?_⟩) ?_ ?_
  rotate_left
  · intro w'
    go_simp
    with_reducible rfl
  rotate_left
  · simp only [Act.put, List.setIfInBounds_toArray, List.set_cons_zero, List.set_cons_succ, i64_w, i32_w]
    rfl
  refine pure_ (i := 10) (N := some 127) (v := ?_) (a' := ?_) #[true, true, true, true, true, true, true, true, true, true, true, false, false, false, false, false, false, false, false, false, false, false] rfl rfl (by kernel_rfl) (fun _ _ _ h => hP _ _ _ _ _ h) (Or.inl ⟨by rfl, ?_⟩) ?_ ?_
  rotate_left
  · intro w'
    go_simp
    with_reducible rfl
  rotate_left
  · simp only [Act.put, List.setIfInBounds_toArray, List.set_cons_zero, List.set_cons_succ, i64_w, i32_w]
    rfl
  refine pure_ (i := 11) (N := some 128) (v := ?_) (a' := ?_) #[true, true, true, true, true, true, true, true, true, true, true, true, false, false, false, false, false, false, false, false, false, false] rfl rfl (by kernel_rfl) (fun _ _ _ h => hP _ _ _ _ _ h) (Or.inl ⟨by rfl, ?_⟩) ?_ ?_
  rotate_left
  · intro w'
    go_simp
    with_reducible rfl
  rotate_left
  · simp only [Act.put, List.setIfInBounds_toArray, List.set_cons_zero, List.set_cons_succ, i64_w, i32_w]
    rfl
  refine pure_ (i := 12) (N := some 129) (v := ?_) (a' := ?_) #[true, true, true, true, true, true, true, true, true, true, true, true, true, false, false, false, false, false, false, false, false, false] rfl rfl (by kernel_rfl) (fun _ _ _ h => hP _ _ _ _ _ h) (Or.inl ⟨by rfl, ?_⟩) ?_ ?_
  rotate_left
  · intro w'
    go_simp
    with_reducible rfl
  rotate_left
  · simp only [Act.put, List.setIfInBounds_toArray, List.set_cons_zero, List.set_cons_succ, i64_w, i32_w]
    rfl
  refine pure_ (i := 13) (N := some 130) (v := ?_) (a' := ?_) #[true, true, true, true, true, true, true, true, true, true, true, true, true, true, false, false, false, false, false, false, false, false] rfl rfl (by kernel_rfl) (fun _ _ _ h => hP _ _ _ _ _ h) (Or.inl ⟨by rfl, ?_⟩) ?_ ?_
  rotate_left
  · intro w'
    go_simp
    with_reducible rfl
  rotate_left
  · simp only [Act.put, List.setIfInBounds_toArray, List.set_cons_zero, List.set_cons_succ, i64_w, i32_w]
    rfl
  refine pure_ (i := 16) (N := some 133) (v := ?_) (a' := ?_) #[true, true, true, true, true, true, true, true, true, true, true, true, true, true, false, false, true, false, false, false, false, false] rfl rfl (by kernel_rfl) (fun _ _ _ h => hP _ _ _ _ _ h) (Or.inl ⟨by rfl, ?_⟩) ?_ ?_
  rotate_left
  · intro w'
    go_simp
    with_reducible rfl
  rotate_left
  · simp only [Act.put, List.setIfInBounds_toArray, List.set_cons_zero, List.set_cons_succ, i64_w, i32_w]
    rfl
  refine pure_ (i := 17) (N := some 134) (v := ?_) (a' := ?_) #[true, true, true, true, true, true, true, true, true, true, true, true, true, true, false, false, true, true, false, false, false, false] rfl rfl (by kernel_rfl) (fun _ _ _ h => hP _ _ _ _ _ h) (Or.inl ⟨by rfl, ?_⟩) ?_ ?_
  rotate_left
  · intro w'
    go_simp
    with_reducible rfl
  rotate_left
  · simp only [Act.put, List.setIfInBounds_toArray, List.set_cons_zero, List.set_cons_succ, i64_w, i32_w]
    rfl
  refine pure_ (i := 18) (N := some 135) (v := ?_) (a' := ?_) #[true, true, true, true, true, true, true, true, true, true, true, true, true, true, false, false, true, true, true, false, false, false] rfl rfl (by kernel_rfl) (fun _ _ _ h => hP _ _ _ _ _ h) (Or.inl ⟨by rfl, ?_⟩) ?_ ?_
  rotate_left
  · intro w'
    go_simp
    with_reducible rfl
  rotate_left
  · simp only [Act.put, List.setIfInBounds_toArray, List.set_cons_zero, List.set_cons_succ, i64_w, i32_w]
    rfl
  refine take_ (i := 14) (N := some 131) (v := ?_) (a' := ?_) #[true, true, true, true, true, true, true, true, true, true, true, true, true, true, true, false, true, true, true, false, false, false] rfl rfl (by kernel_rfl) (fun _ _ _ h => hP _ _ _ _ _ h) (Or.inl ⟨by rfl, ?_⟩) hHeld ?_ ?_
  rotate_left
  · rintro w' ⟨s0, s1⟩
    go_simp
    with_reducible rfl
  rotate_left
  · simp only [Act.put, List.setIfInBounds_toArray, List.set_cons_zero, List.set_cons_succ, i64_w, i32_w]
    rfl
  refine take_ (i := 19) (N := some 136) (v := ?_) (a' := ?_) #[true, true, true, true, true, true, true, true, true, true, true, true, true, true, true, false, true, true, true, true, false, false] rfl rfl (by kernel_rfl) (fun _ _ _ h => hP _ _ _ _ _ h) (Or.inl ⟨by rfl, ?_⟩) hHeld ?_ ?_
  rotate_left
  · rintro w' ⟨s0, s1⟩
    go_simp
    with_reducible rfl
  rotate_left
  · simp only [Act.put, List.setIfInBounds_toArray, List.set_cons_zero, List.set_cons_succ, i64_w, i32_w]
    rfl
  refine one_ (i := 15) (N := some 132) #[true, true, true, true, true, true, true, true, true, true, true, true, true, true, true, true, true, true, true, true, false, false] rfl rfl (by kernel_rfl) (by decide) (fun K hK => ?_)
  refine goes_ Try.func18 (by kernel_rfl) rfl #[.pointer (some ⟨g, 0, none⟩), .int .i64 x] (by rfl) rfl rfl (by simp only [List.map_toArray, List.map_cons, List.map_nil]; rfl) ?_
  with_reducible refine (mk_circle HM6.out 0 rfl x HWX.out).mono ?_
  rintro e w7 ⟨rfl, hm⟩
  refine ⟨_, rfl, ?_⟩
  have HM7 := Aside0.mk hm
  clear hm
  rw [HCR.out]
  refine hK.out _ _ ⟨(HC.out _ HM7.out).1, (HC.out _ HM7.out).2⟩ (fun hHeld => ?_)
  clear hK K
  refine norm_ (a' := ?_) ?_ ?_
  rotate_left
  · show Act.put _ (some 132) _ = _
    simp only [Act.put, List.setIfInBounds_toArray, List.set_cons_zero, List.set_cons_succ, i64_w, i32_w]
    rfl
  refine pure_ (i := 20) (N := some 137) (v := ?_) (a' := ?_) #[true, true, true, true, true, true, true, true, true, true, true, true, true, true, true, true, true, true, true, true, true, false] rfl rfl (by kernel_rfl) (fun _ _ _ h => hP _ _ _ _ _ h) (Or.inl ⟨by rfl, ?_⟩) ?_ ?_
  rotate_left
  · intro w'
    go_simp
    with_reducible rfl
  rotate_left
  · simp only [Act.put, List.setIfInBounds_toArray, List.set_cons_zero, List.set_cons_succ, i64_w, i32_w]
    rfl
  refine pure_ (i := 21) (N := some 138) (v := ?_) (a' := ?_) #[true, true, true, true, true, true, true, true, true, true, true, true, true, true, true, true, true, true, true, true, true, true] rfl rfl (by kernel_rfl) (fun _ _ _ h => hP _ _ _ _ _ h) (Or.inl ⟨by rfl, ?_⟩) ?_ ?_
  rotate_left
  · intro w'
    go_simp
    with_reducible rfl
  rotate_left
  · simp only [Act.put, List.setIfInBounds_toArray, List.set_cons_zero, List.set_cons_succ, i64_w, i32_w]
    rfl
  refine done_ (by kernel_rfl) ?_
  exact hK _ _ _ _ _ _ _ _ _ _ _ _ _ _ _ _ _ _ _ _ _ _ HM7.out
set_option maxRecDepth 100000 in
set_option maxHeartbeats 4000000 in
theorem sets_reg33 {B : Nat} {w1 wr : World} {g c8 c15 i n15 : Nat} {A15 : Option Addr} {ns l15 : List Int} {tq : Nat → List Nat} {ad : Addr} {rs : List Rw} {ks : List Kp} {x y : Int} {both : Bool} (K : Exit → Act → World → Prop) (hP : ∀ (c : List PanicEntry) (a : Act) (t : Tmp) (v : Value) (w : World), K (.panic c) (Act.put a (some t) v) w → K (.panic c) a w)
    (HM : Aside0 (ManyK B w1 [(g, ns, tq)] [(A15, c15, l15), (some ad, c8, ns)] rs ks wr))
    (HC : Aside0 (∀ W : World, ManyK B w1 [(g, ns, tq)] [(A15, c15, l15), (some ad, c8, ns)] rs ks W → W.cell? (ad.add i) = some (.int .i64 x)))
    (HWY : Aside0 ((Lit.int .i64 y).wf = true)) (HN : Aside0 (l15.length ≤ 1000)) (HNL : Aside0 (ns.length ≤ 1000)) (HNS2 : Aside0 ((setR ns tq y).length ≤ 1000)) (hlen1 : (i : Int) < (ns.length : Int)) (hn15 : n15 = l15.length)
    (HBO : Aside0 (both = (decide (y ∈ ns) && decide (y ∈ l15) && decide (x ∈ setR ns tq y))))
    (s0 s1 s3 s4 s5 s6 s9 s10 s11 s12 s14 s16 s17 s18 s19 s20 s21 s22 s23 s24 s25 s26 s27 s28 s29 s30 s31 s32 s33 s34 s35 s36 s37 s38 s39 s40 s41 s42 s43 s44 s45 s46 s47 s48 s49 s50 s51 s52 s53 s54 s55 s56 s57 s58 s59 s60 s61 s62 s63 s64 s65 s66 s67 s68 s69 s70 s71 s72 s73 s74 s75 s76 s77 s78 s79 s80 s81 s82 s83 s84 s85 s86 s87 s88 s89 s90 s91 s92 s93 s94 s95 s96 s97 s98 s99 s100 s101 s102 s103 s104 s105 s106 s107 s108 s109 s110 s111 s112 s113 s114 s115 s116 s117 s118 s119 s120 s121 s122 s123 s124 s125 s126 s127 s128 s129 s130 s131 s132 s133 s134 s135 s136 s137 s138 s139 s140 s141 s142 s143 s144 s145 s146 s147 s148 s149 s150 s151 s152 s153 s154 s155 s156 s157 s158 s159 s160 s161 s162 s163 s164 s165 s166 s167 s168 s169 s170 s171 s172 s173 s174 s175 s176 s177 s178 s179 s180 s181 : Value)
    (hK : ∀ (u139 u140 u141 u142 u143 u144 u145 u146 u147 u148 u149 u150 u151 u152 u153 u154 u155 u156 : Value) (w8 : World), ManyK B w1 [(g, ns, tq)] [(A15, c15, l15), (some ad, c8, ns)] rs ks w8 → K .normal ⟨#[s0, s1, .int .i64 y, s3, s4, s5, s6, .pointer (some ⟨g, 0, none⟩), .slice (some ad) ns.length c8, s9, s10, s11, s12, .int .i64 i, s14, .slice A15 n15 c15, s16, .bool both, s18, s19, s20, s21, s22, s23, s24, s25, s26, s27, s28, s29, s30, s31, s32, s33, s34, s35, s36, s37, s38, s39, s40, s41, s42, s43, s44, s45, s46, s47, s48, s49, s50, s51, s52, s53, s54, s55, s56, s57, s58, s59, s60, s61, s62, s63, s64, s65, s66, s67, s68, s69, s70, s71, s72, s73, s74, s75, s76, s77, s78, s79, s80, s81, s82, s83, s84, s85, s86, s87, s88, s89, s90, s91, s92, s93, s94, s95, s96, s97, s98, s99, s100, s101, s102, s103, s104, s105, s106, s107, s108, s109, s110, s111, s112, s113, s114, s115, s116, s117, s118, s119, s120, s121, s122, s123, s124, s125, s126, s127, s128, s129, s130, s131, s132, s133, s134, s135, s136, s137, s138, u139, u140, u141, u142, u143, u144, u145, u146, u147, u148, u149, u150, u151, u152, u153, u154, u155, u156, s157, s158, s159, s160, s161, s162, s163, s164, s165, s166, s167, s168, s169, s170, s171, s172, s173, s174, s175, s176, s177, s178, s179, s180, s181], []⟩ w8) :
    Code.wp Try.prog setsReg33 K ⟨#[s0, s1, .int .i64 y, s3, s4, s5, s6, .pointer (some ⟨g, 0, none⟩), .slice (some ad) ns.length c8, s9, s10, s11, s12, .int .i64 i, s14, .slice A15 n15 c15, s16, s17, s18, s19, s20, s21, s22, s23, s24, s25, s26, s27, s28, s29, s30, s31, s32, s33, s34, s35, s36, s37, s38, s39, s40, s41, s42, s43, s44, s45, s46, s47, s48, s49, s50, s51, s52, s53, s54, s55, s56, s57, s58, s59, s60, s61, s62, s63, s64, s65, s66, s67, s68, s69, s70, s71, s72, s73, s74, s75, s76, s77, s78, s79, s80, s81, s82, s83, s84, s85, s86, s87, s88, s89, s90, s91, s92, s93, s94, s95, s96, s97, s98, s99, s100, s101, s102, s103, s104, s105, s106, s107, s108, s109, s110, s111, s112, s113, s114, s115, s116, s117, s118, s119, s120, s121, s122, s123, s124, s125, s126, s127, s128, s129, s130, s131, s132, s133, s134, s135, s136, s137, s138, s139, s140, s141, s142, s143, s144, s145, s146, s147, s148, s149, s150, s151, s152, s153, s154, s155, s156, s157, s158, s159, s160, s161, s162, s163, s164, s165, s166, s167, s168, s169, s170, s171, s172, s173, s174, s175, s176, s177, s178, s179, s180, s181], []⟩ wr := by
  have cf1 := HC.out wr HM.out
  have HSUB : Aside0 (∀ (W : World) (A : Option Addr) (c2 : Nat) (l : List Int), ManyK B w1 [(g, ns, tq)] [(A, c2, l), (A15, c15, l15), (some ad, c8, ns)] rs ks W → ManyK B w1 [(g, ns, tq)] [(A15, c15, l15), (some ad, c8, ns)] rs ks W) := ⟨fun W A c2 l h => h.sub (fun x hx => List.mem_cons_of_mem _ hx) (fun x hx => hx)⟩
  subst hn15
  conv => arg 2; whnf
  by_cases h1 : y ∈ ns
  · by_cases h2 : y ∈ l15
    · obtain ⟨b3, HB3⟩ : ∃ b3, Aside0 (decide (x ∈ setR ns tq y) = b3) := ⟨_, ⟨rfl⟩⟩
      have hb : both = b3 := by rw [HBO.out, decide_eq_true h1, decide_eq_true h2, HB3.out]; rfl
      subst hb
      refine start_ (n := 19) (S := fun w' => w'.cell? (ad.add i) = some (.int .i64 x)) (ds := []) #[false, false, false, false, false, false, false, false, false, false, false, false, false, false, false, false, false, false, false] (by kernel_rfl) rfl rfl (cf1) (fun hHeld => ?_)
      refine pure_ (i := 0) (N := some 139) (v := ?_) (a' := ?_) #[true, false, false, false, false, false, false, false, false, false, false, false, false, false, false, false, false, false, false] rfl rfl (by kernel_rfl) (fun _ _ _ h => hP _ _ _ _ _ h) (Or.inl ⟨by rfl, ?_⟩) ?_ ?_
      rotate_left
      · intro w'
        go_simp
        with_reducible rfl
      rotate_left
      · simp only [Act.put, List.setIfInBounds_toArray, List.set_cons_zero, List.set_cons_succ, i64_w, i32_w]
        rfl
      refine pure_ (i := 1) (N := some 140) (v := ?_) (a' := ?_) #[true, true, false, false, false, false, false, false, false, false, false, false, false, false, false, false, false, false, false] rfl rfl (by kernel_rfl) (fun _ _ _ h => hP _ _ _ _ _ h) (Or.inl ⟨by rfl, ?_⟩) ?_ ?_
      rotate_left
      · intro w'
        go_simp
        with_reducible rfl
      rotate_left
      · simp only [Act.put, List.setIfInBounds_toArray, List.set_cons_zero, List.set_cons_succ, i64_w, i32_w]
        rfl
      refine one_ (i := 2) (N := some 141) #[true, true, true, false, false, false, false, false, false, false, false, false, false, false, false, false, false, false, false] rfl rfl (by kernel_rfl) (by decide) (fun K hK => ?_)
      refine goes_ Try.func15 (by kernel_rfl) rfl #[.slice (some ad) ns.length c8, .int .i64 y] (by rfl) rfl rfl (by simp only [List.map_toArray, List.map_cons, List.map_nil]; rfl) ?_
      with_reducible refine (mk_in HM.out.drew (A1 := some ad) (c1 := c8) (by simp) y (by have := HNL.out; omega)).mono ?_
      rintro e w5 ⟨rfl, hm⟩
      refine ⟨_, rfl, ?_⟩
      rw [decide_eq_true h1]
      have HM5 := Aside0.mk hm
      clear hm
      refine hK.out _ _ (HC.out _ HM5.out) (fun hHeld => ?_)
      clear hK K
      refine norm_ (a' := ?_) ?_ ?_
      rotate_left
      · show Act.put _ (some 141) _ = _
        simp only [Act.put, List.setIfInBounds_toArray, List.set_cons_zero, List.set_cons_succ, i64_w, i32_w]
        rfl
      refine pure_ (i := 3) (N := some 142) (v := ?_) (a' := ?_) #[true, true, true, true, false, false, false, false, false, false, false, false, false, false, false, false, false, false, false] rfl rfl (by kernel_rfl) (fun _ _ _ h => hP _ _ _ _ _ h) (Or.inl ⟨by rfl, ?_⟩) ?_ ?_
      rotate_left
      · intro w'
        go_simp
        with_reducible rfl
      rotate_left
      · simp only [Act.put, List.setIfInBounds_toArray, List.set_cons_zero, List.set_cons_succ, i64_w, i32_w]
        rfl
      refine pure_ (i := 4) (N := some 143) (v := ?_) (a' := ?_) #[true, true, true, true, true, false, false, false, false, false, false, false, false, false, false, false, false, false, false] rfl rfl (by kernel_rfl) (fun _ _ _ h => hP _ _ _ _ _ h) (Or.inl ⟨by rfl, ?_⟩) ?_ ?_
      rotate_left
      · intro w'
        go_simp
        with_reducible rfl
      rotate_left
      · simp only [Act.put, List.setIfInBounds_toArray, List.set_cons_zero, List.set_cons_succ, i64_w, i32_w]
        rfl
      refine pure_ (i := 5) (N := some 144) (v := ?_) (a' := ?_) #[true, true, true, true, true, true, false, false, false, false, false, false, false, false, false, false, false, false, false] rfl rfl (by kernel_rfl) (fun _ _ _ h => hP _ _ _ _ _ h) (Or.inl ⟨by rfl, ?_⟩) ?_ ?_
      rotate_left
      · intro w'
        go_simp
        with_reducible rfl
      rotate_left
      · simp only [Act.put, List.setIfInBounds_toArray, List.set_cons_zero, List.set_cons_succ, i64_w, i32_w]
        rfl
      refine one_ (i := 6) (N := some 145) #[true, true, true, true, true, true, true, false, false, false, false, false, false, false, false, false, false, false, false] rfl rfl (by kernel_rfl) (by decide) (fun K hK => ?_)
      refine goes_ Try.func15 (by kernel_rfl) rfl #[.slice A15 l15.length c15, .int .i64 y] (by rfl) rfl rfl (by simp only [List.map_toArray, List.map_cons, List.map_nil]; rfl) ?_
      with_reducible refine (mk_in HM5.out (A1 := A15) (c1 := c15) (by simp) y (by have := HN.out; omega)).mono ?_
      rintro e w6 ⟨rfl, hm⟩
      refine ⟨_, rfl, ?_⟩
      rw [decide_eq_true h2]
      have HM6 := Aside0.mk hm
      clear hm
      refine hK.out _ _ (HC.out _ HM6.out) (fun hHeld => ?_)
      clear hK K
      refine norm_ (a' := ?_) ?_ ?_
      rotate_left
      · show Act.put _ (some 145) _ = _
        simp only [Act.put, List.setIfInBounds_toArray, List.set_cons_zero, List.set_cons_succ, i64_w, i32_w]
        rfl
      refine pure_ (i := 7) (N := some 146) (v := ?_) (a' := ?_) #[true, true, true, true, true, true, true, true, false, false, false, false, false, false, false, false, false, false, false] rfl rfl (by kernel_rfl) (fun _ _ _ h => hP _ _ _ _ _ h) (Or.inl ⟨by rfl, ?_⟩) ?_ ?_
      rotate_left
      · intro w'
        go_simp
        with_reducible rfl
      rotate_left
      · simp only [Act.put, List.setIfInBounds_toArray, List.set_cons_zero, List.set_cons_succ, i64_w, i32_w]
        rfl
      refine pure_ (i := 8) (N := some 147) (v := ?_) (a' := ?_) #[true, true, true, true, true, true, true, true, true, false, false, false, false, false, false, false, false, false, false] rfl rfl (by kernel_rfl) (fun _ _ _ h => hP _ _ _ _ _ h) (Or.inl ⟨by rfl, ?_⟩) ?_ ?_
      rotate_left
      · intro w'
        go_simp
        with_reducible rfl
      rotate_left
      · simp only [Act.put, List.setIfInBounds_toArray, List.set_cons_zero, List.set_cons_succ, i64_w, i32_w]
        rfl
      refine pure_ (i := 9) (N := some 148) (v := ?_) (a' := ?_) #[true, true, true, true, true, true, true, true, true, true, false, false, false, false, false, false, false, false, false] rfl rfl (by kernel_rfl) (fun _ _ _ h => hP _ _ _ _ _ h) (Or.inl ⟨by rfl, ?_⟩) ?_ ?_
      rotate_left
      · intro w'
        go_simp
        with_reducible rfl
      rotate_left
      · simp only [Act.put, List.setIfInBounds_toArray, List.set_cons_zero, List.set_cons_succ, i64_w, i32_w]
        rfl
      refine pure_ (i := 10) (N := some 149) (v := ?_) (a' := ?_) #[true, true, true, true, true, true, true, true, true, true, true, false, false, false, false, false, false, false, false] rfl rfl (by kernel_rfl) (fun _ _ _ h => hP _ _ _ _ _ h) (Or.inl ⟨by rfl, ?_⟩) ?_ ?_
      rotate_left
      · intro w'
        go_simp
        with_reducible rfl
      rotate_left
      · simp only [Act.put, List.setIfInBounds_toArray, List.set_cons_zero, List.set_cons_succ, i64_w, i32_w]
        rfl
      refine pure_ (i := 12) (N := some 151) (v := ?_) (a' := ?_) #[true, true, true, true, true, true, true, true, true, true, true, false, true, false, false, false, false, false, false] rfl rfl (by kernel_rfl) (fun _ _ _ h => hP _ _ _ _ _ h) (Or.inl ⟨by rfl, ?_⟩) ?_ ?_
      rotate_left
      · intro w'
        go_simp
        with_reducible rfl
      rotate_left
      · simp only [Act.put, List.setIfInBounds_toArray, List.set_cons_zero, List.set_cons_succ, i64_w, i32_w]
        rfl
      refine pure_ (i := 13) (N := some 152) (v := ?_) (a' := ?_) #[true, true, true, true, true, true, true, true, true, true, true, false, true, true, false, false, false, false, false] rfl rfl (by kernel_rfl) (fun _ _ _ h => hP _ _ _ _ _ h) (Or.inl ⟨by rfl, ?_⟩) ?_ ?_
      rotate_left
      · intro w'
        go_simp
        with_reducible rfl
      rotate_left
      · simp only [Act.put, List.setIfInBounds_toArray, List.set_cons_zero, List.set_cons_succ, i64_w, i32_w]
        rfl
      refine pure_ (i := 14) (N := some 153) (v := ?_) (a' := ?_) #[true, true, true, true, true, true, true, true, true, true, true, false, true, true, true, false, false, false, false] rfl rfl (by kernel_rfl) (fun _ _ _ h => hP _ _ _ _ _ h) (Or.inl ⟨by rfl, ?_⟩) ?_ ?_
      rotate_left
      · intro w'
        go_simp
        with_reducible rfl
      rotate_left
      · simp only [Act.put, List.setIfInBounds_toArray, List.set_cons_zero, List.set_cons_succ, i64_w, i32_w]
        rfl
      refine take_ (i := 15) (N := some 154) (v := ?_) (a' := ?_) #[true, true, true, true, true, true, true, true, true, true, true, false, true, true, true, true, false, false, false] rfl rfl (by kernel_rfl) (fun _ _ _ h => hP _ _ _ _ _ h) (Or.inl ⟨by rfl, ?_⟩) hHeld ?_ ?_
      rotate_left
      · intro w' s0
        go_simp
        with_reducible rfl
      rotate_left
      · simp only [Act.put, List.setIfInBounds_toArray, List.set_cons_zero, List.set_cons_succ, i64_w, i32_w]
        rfl
      refine one_ (i := 11) (N := some 150) #[true, true, true, true, true, true, true, true, true, true, true, true, true, true, true, true, false, false, false] rfl rfl (by kernel_rfl) (by decide) (fun K hK => ?_)
      refine goes_ Try.func13 (by kernel_rfl) rfl #[.pointer (some ⟨g, 0, none⟩), .int .i64 y] (by rfl) rfl rfl (by simp only [List.map_toArray, List.map_cons, List.map_nil]; rfl) ?_
      with_reducible refine (mk_set HM6.out 0 rfl y HWY.out).mono ?_
      rintro e w7 ⟨A7, c7, rfl, hm⟩
      refine ⟨_, rfl, ?_⟩
      have HM7 := Aside0.mk hm
      have HM7' := Aside0.mk (HSUB.out _ _ _ _ hm)
      clear hm
      refine hK.out _ _ (HC.out _ HM7'.out) (fun hHeld => ?_)
      clear hK K
      refine norm_ (a' := ?_) ?_ ?_
      rotate_left
      · show Act.put _ (some 150) _ = _
        simp only [Act.put, List.setIfInBounds_toArray, List.set_cons_zero, List.set_cons_succ, i64_w, i32_w]
        rfl
      refine one_ (i := 16) (N := some 155) #[true, true, true, true, true, true, true, true, true, true, true, true, true, true, true, true, true, false, false] rfl rfl (by kernel_rfl) (by decide) (fun K hK => ?_)
      refine goes_ Try.func15 (by kernel_rfl) rfl #[.slice A7 (setR ns tq y).length c7, .int .i64 x] (by rfl) rfl rfl (by simp only [List.map_toArray, List.map_cons, List.map_nil]; rfl) ?_
      with_reducible refine (mk_in HM7.out (A1 := A7) (c1 := c7) (by simp) x (by have := HNS2.out; omega)).mono ?_
      rintro e w8 ⟨rfl, hm⟩
      refine ⟨_, rfl, ?_⟩
      rw [HB3.out]
      have HM8 := Aside0.mk (HSUB.out _ _ _ _ hm)
      clear hm
      refine hK.out _ _ (HC.out _ HM8.out) (fun hHeld => ?_)
      clear hK K
      refine norm_ (a' := ?_) ?_ ?_
      rotate_left
      · show Act.put _ (some 155) _ = _
        simp only [Act.put, List.setIfInBounds_toArray, List.set_cons_zero, List.set_cons_succ, i64_w, i32_w]
        rfl
      refine pure_ (i := 17) (N := some 156) (v := ?_) (a' := ?_) #[true, true, true, true, true, true, true, true, true, true, true, true, true, true, true, true, true, true, false] rfl rfl (by kernel_rfl) (fun _ _ _ h => hP _ _ _ _ _ h) (Or.inl ⟨by rfl, ?_⟩) ?_ ?_
      rotate_left
      · intro w'
        go_simp
        with_reducible rfl
      rotate_left
      · simp only [Act.put, List.setIfInBounds_toArray, List.set_cons_zero, List.set_cons_succ, i64_w, i32_w]
        rfl
      refine pure_ (i := 18) (N := some 17) (v := ?_) (a' := ?_) #[true, true, true, true, true, true, true, true, true, true, true, true, true, true, true, true, true, true, true] rfl rfl (by kernel_rfl) (fun _ _ _ h => hP _ _ _ _ _ h) (Or.inl ⟨by rfl, ?_⟩) ?_ ?_
      rotate_left
      · intro w'
        go_simp
        with_reducible rfl
      rotate_left
      · simp only [Act.put, List.setIfInBounds_toArray, List.set_cons_zero, List.set_cons_succ, i64_w, i32_w]
        rfl
      refine done_ (by kernel_rfl) ?_
      exact hK _ _ _ _ _ _ _ _ _ _ _ _ _ _ _ _ _ _ _ HM8.out
    · have hb : both = false := by rw [HBO.out, decide_eq_true h1, decide_eq_false h2]; rfl
      subst hb
      refine start_ (n := 19) (S := fun w' => w'.cell? (ad.add i) = some (.int .i64 x)) (ds := []) #[false, false, false, false, false, false, false, false, false, false, false, false, false, false, false, false, false, false, false] (by kernel_rfl) rfl rfl (cf1) (fun hHeld => ?_)
      refine pure_ (i := 0) (N := some 139) (v := ?_) (a' := ?_) #[true, false, false, false, false, false, false, false, false, false, false, false, false, false, false, false, false, false, false] rfl rfl (by kernel_rfl) (fun _ _ _ h => hP _ _ _ _ _ h) (Or.inl ⟨by rfl, ?_⟩) ?_ ?_
      rotate_left
      · intro w'
        go_simp
        with_reducible rfl
      rotate_left
      · simp only [Act.put, List.setIfInBounds_toArray, List.set_cons_zero, List.set_cons_succ, i64_w, i32_w]
        rfl
      refine pure_ (i := 1) (N := some 140) (v := ?_) (a' := ?_) #[true, true, false, false, false, false, false, false, false, false, false, false, false, false, false, false, false, false, false] rfl rfl (by kernel_rfl) (fun _ _ _ h => hP _ _ _ _ _ h) (Or.inl ⟨by rfl, ?_⟩) ?_ ?_
      rotate_left
      · intro w'
        go_simp
        with_reducible rfl
      rotate_left
      · simp only [Act.put, List.setIfInBounds_toArray, List.set_cons_zero, List.set_cons_succ, i64_w, i32_w]
        rfl
      refine one_ (i := 2) (N := some 141) #[true, true, true, false, false, false, false, false, false, false, false, false, false, false, false, false, false, false, false] rfl rfl (by kernel_rfl) (by decide) (fun K hK => ?_)
      refine goes_ Try.func15 (by kernel_rfl) rfl #[.slice (some ad) ns.length c8, .int .i64 y] (by rfl) rfl rfl (by simp only [List.map_toArray, List.map_cons, List.map_nil]; rfl) ?_
      with_reducible refine (mk_in HM.out.drew (A1 := some ad) (c1 := c8) (by simp) y (by have := HNL.out; omega)).mono ?_
      rintro e w5 ⟨rfl, hm⟩
      refine ⟨_, rfl, ?_⟩
      rw [decide_eq_true h1]
      have HM5 := Aside0.mk hm
      clear hm
      refine hK.out _ _ (HC.out _ HM5.out) (fun hHeld => ?_)
      clear hK K
      refine norm_ (a' := ?_) ?_ ?_
      rotate_left
      · show Act.put _ (some 141) _ = _
        simp only [Act.put, List.setIfInBounds_toArray, List.set_cons_zero, List.set_cons_succ, i64_w, i32_w]
        rfl
      refine pure_ (i := 3) (N := some 142) (v := ?_) (a' := ?_) #[true, true, true, true, false, false, false, false, false, false, false, false, false, false, false, false, false, false, false] rfl rfl (by kernel_rfl) (fun _ _ _ h => hP _ _ _ _ _ h) (Or.inl ⟨by rfl, ?_⟩) ?_ ?_
      rotate_left
      · intro w'
        go_simp
        with_reducible rfl
      rotate_left
      · simp only [Act.put, List.setIfInBounds_toArray, List.set_cons_zero, List.set_cons_succ, i64_w, i32_w]
        rfl
      refine pure_ (i := 4) (N := some 143) (v := ?_) (a' := ?_) #[true, true, true, true, true, false, false, false, false, false, false, false, false, false, false, false, false, false, false] rfl rfl (by kernel_rfl) (fun _ _ _ h => hP _ _ _ _ _ h) (Or.inl ⟨by rfl, ?_⟩) ?_ ?_
      rotate_left
      · intro w'
        go_simp
        with_reducible rfl
      rotate_left
      · simp only [Act.put, List.setIfInBounds_toArray, List.set_cons_zero, List.set_cons_succ, i64_w, i32_w]
        rfl
      refine pure_ (i := 5) (N := some 144) (v := ?_) (a' := ?_) #[true, true, true, true, true, true, false, false, false, false, false, false, false, false, false, false, false, false, false] rfl rfl (by kernel_rfl) (fun _ _ _ h => hP _ _ _ _ _ h) (Or.inl ⟨by rfl, ?_⟩) ?_ ?_
      rotate_left
      · intro w'
        go_simp
        with_reducible rfl
      rotate_left
      · simp only [Act.put, List.setIfInBounds_toArray, List.set_cons_zero, List.set_cons_succ, i64_w, i32_w]
        rfl
      refine one_ (i := 6) (N := some 145) #[true, true, true, true, true, true, true, false, false, false, false, false, false, false, false, false, false, false, false] rfl rfl (by kernel_rfl) (by decide) (fun K hK => ?_)
      refine goes_ Try.func15 (by kernel_rfl) rfl #[.slice A15 l15.length c15, .int .i64 y] (by rfl) rfl rfl (by simp only [List.map_toArray, List.map_cons, List.map_nil]; rfl) ?_
      with_reducible refine (mk_in HM5.out (A1 := A15) (c1 := c15) (by simp) y (by have := HN.out; omega)).mono ?_
      rintro e w6 ⟨rfl, hm⟩
      refine ⟨_, rfl, ?_⟩
      rw [decide_eq_false h2]
      have HM6 := Aside0.mk hm
      clear hm
      refine hK.out _ _ (HC.out _ HM6.out) (fun hHeld => ?_)
      clear hK K
      refine norm_ (a' := ?_) ?_ ?_
      rotate_left
      · show Act.put _ (some 145) _ = _
        simp only [Act.put, List.setIfInBounds_toArray, List.set_cons_zero, List.set_cons_succ, i64_w, i32_w]
        rfl
      refine pure_ (i := 7) (N := some 146) (v := ?_) (a' := ?_) #[true, true, true, true, true, true, true, true, false, false, false, false, false, false, false, false, false, false, false] rfl rfl (by kernel_rfl) (fun _ _ _ h => hP _ _ _ _ _ h) (Or.inl ⟨by rfl, ?_⟩) ?_ ?_
      rotate_left
      · intro w'
        go_simp
        with_reducible rfl
      rotate_left
      · simp only [Act.put, List.setIfInBounds_toArray, List.set_cons_zero, List.set_cons_succ, i64_w, i32_w]
        rfl
      refine pure_ (i := 8) (N := some 147) (v := ?_) (a' := ?_) #[true, true, true, true, true, true, true, true, true, false, false, false, false, false, false, false, false, false, false] rfl rfl (by kernel_rfl) (fun _ _ _ h => hP _ _ _ _ _ h) (Or.inl ⟨by rfl, ?_⟩) ?_ ?_
      rotate_left
      · intro w'
        go_simp
        with_reducible rfl
      rotate_left
      · simp only [Act.put, List.setIfInBounds_toArray, List.set_cons_zero, List.set_cons_succ, i64_w, i32_w]
        rfl
      refine pure_ (i := 9) (N := some 148) (v := undef) (a' := ?_) #[true, true, true, true, true, true, true, true, true, true, false, false, false, false, false, false, false, false, false] rfl rfl (by kernel_rfl) (fun _ _ _ h => hP _ _ _ _ _ h) (Or.inr ⟨by rfl, rfl⟩) ?_ ?_
      rotate_left
      · simp only [Act.put, List.setIfInBounds_toArray, List.set_cons_zero, List.set_cons_succ, i64_w, i32_w]
        rfl
      refine pure_ (i := 10) (N := some 149) (v := undef) (a' := ?_) #[true, true, true, true, true, true, true, true, true, true, true, false, false, false, false, false, false, false, false] rfl rfl (by kernel_rfl) (fun _ _ _ h => hP _ _ _ _ _ h) (Or.inr ⟨by rfl, rfl⟩) ?_ ?_
      rotate_left
      · simp only [Act.put, List.setIfInBounds_toArray, List.set_cons_zero, List.set_cons_succ, i64_w, i32_w]
        rfl
      refine pure_ (i := 11) (N := some 150) (v := undef) (a' := ?_) #[true, true, true, true, true, true, true, true, true, true, true, true, false, false, false, false, false, false, false] rfl rfl (by kernel_rfl) (fun _ _ _ h => hP _ _ _ _ _ h) (Or.inr ⟨by rfl, rfl⟩) ?_ ?_
      rotate_left
      · simp only [Act.put, List.setIfInBounds_toArray, List.set_cons_zero, List.set_cons_succ, i64_w, i32_w]
        rfl
      refine pure_ (i := 12) (N := some 151) (v := undef) (a' := ?_) #[true, true, true, true, true, true, true, true, true, true, true, true, true, false, false, false, false, false, false] rfl rfl (by kernel_rfl) (fun _ _ _ h => hP _ _ _ _ _ h) (Or.inr ⟨by rfl, rfl⟩) ?_ ?_
      rotate_left
      · simp only [Act.put, List.setIfInBounds_toArray, List.set_cons_zero, List.set_cons_succ, i64_w, i32_w]
        rfl
      refine pure_ (i := 13) (N := some 152) (v := undef) (a' := ?_) #[true, true, true, true, true, true, true, true, true, true, true, true, true, true, false, false, false, false, false] rfl rfl (by kernel_rfl) (fun _ _ _ h => hP _ _ _ _ _ h) (Or.inr ⟨by rfl, rfl⟩) ?_ ?_
      rotate_left
      · simp only [Act.put, List.setIfInBounds_toArray, List.set_cons_zero, List.set_cons_succ, i64_w, i32_w]
        rfl
      refine pure_ (i := 14) (N := some 153) (v := undef) (a' := ?_) #[true, true, true, true, true, true, true, true, true, true, true, true, true, true, true, false, false, false, false] rfl rfl (by kernel_rfl) (fun _ _ _ h => hP _ _ _ _ _ h) (Or.inr ⟨by rfl, rfl⟩) ?_ ?_
      rotate_left
      · simp only [Act.put, List.setIfInBounds_toArray, List.set_cons_zero, List.set_cons_succ, i64_w, i32_w]
        rfl
      refine pure_ (i := 15) (N := some 154) (v := undef) (a' := ?_) #[true, true, true, true, true, true, true, true, true, true, true, true, true, true, true, true, false, false, false] rfl rfl (by kernel_rfl) (fun _ _ _ h => hP _ _ _ _ _ h) (Or.inr ⟨by rfl, rfl⟩) ?_ ?_
      rotate_left
      · simp only [Act.put, List.setIfInBounds_toArray, List.set_cons_zero, List.set_cons_succ, i64_w, i32_w]
        rfl
      refine pure_ (i := 16) (N := some 155) (v := undef) (a' := ?_) #[true, true, true, true, true, true, true, true, true, true, true, true, true, true, true, true, true, false, false] rfl rfl (by kernel_rfl) (fun _ _ _ h => hP _ _ _ _ _ h) (Or.inr ⟨by rfl, rfl⟩) ?_ ?_
      rotate_left
      · simp only [Act.put, List.setIfInBounds_toArray, List.set_cons_zero, List.set_cons_succ, i64_w, i32_w]
        rfl
      refine pure_ (i := 17) (N := some 156) (v := ?_) (a' := ?_) #[true, true, true, true, true, true, true, true, true, true, true, true, true, true, true, true, true, true, false] rfl rfl (by kernel_rfl) (fun _ _ _ h => hP _ _ _ _ _ h) (Or.inl ⟨by rfl, ?_⟩) ?_ ?_
      rotate_left
      · intro w'
        go_simp
        with_reducible rfl
      rotate_left
      · simp only [Act.put, List.setIfInBounds_toArray, List.set_cons_zero, List.set_cons_succ, i64_w, i32_w]
        rfl
      refine pure_ (i := 18) (N := some 17) (v := ?_) (a' := ?_) #[true, true, true, true, true, true, true, true, true, true, true, true, true, true, true, true, true, true, true] rfl rfl (by kernel_rfl) (fun _ _ _ h => hP _ _ _ _ _ h) (Or.inl ⟨by rfl, ?_⟩) ?_ ?_
      rotate_left
      · intro w'
        go_simp
        with_reducible rfl
      rotate_left
      · simp only [Act.put, List.setIfInBounds_toArray, List.set_cons_zero, List.set_cons_succ, i64_w, i32_w]
        rfl
      refine done_ (by kernel_rfl) ?_
      exact hK _ _ _ _ _ _ _ _ _ _ _ _ _ _ _ _ _ _ _ HM6.out
  · have hb : both = false := by rw [HBO.out, decide_eq_false h1]; rfl
    subst hb
    refine start_ (n := 19) (S := fun w' => w'.cell? (ad.add i) = some (.int .i64 x)) (ds := []) #[false, false, false, false, false, false, false, false, false, false, false, false, false, false, false, false, false, false, false] (by kernel_rfl) rfl rfl (cf1) (fun hHeld => ?_)
    refine pure_ (i := 0) (N := some 139) (v := ?_) (a' := ?_) #[true, false, false, false, false, false, false, false, false, false, false, false, false, false, false, false, false, false, false] rfl rfl (by kernel_rfl) (fun _ _ _ h => hP _ _ _ _ _ h) (Or.inl ⟨by rfl, ?_⟩) ?_ ?_
    rotate_left
    · intro w'
      go_simp
      with_reducible rfl
    rotate_left
    · simp only [Act.put, List.setIfInBounds_toArray, List.set_cons_zero, List.set_cons_succ, i64_w, i32_w]
      rfl
    refine pure_ (i := 1) (N := some 140) (v := ?_) (a' := ?_) #[true, true, false, false, false, false, false, false, false, false, false, false, false, false, false, false, false, false, false] rfl rfl (by kernel_rfl) (fun _ _ _ h => hP _ _ _ _ _ h) (Or.inl ⟨by rfl, ?_⟩) ?_ ?_
    rotate_left
    · intro w'
      go_simp
      with_reducible rfl
    rotate_left
    · simp only [Act.put, List.setIfInBounds_toArray, List.set_cons_zero, List.set_cons_succ, i64_w, i32_w]
      rfl
    refine one_ (i := 2) (N := some 141) #[true, true, true, false, false, false, false, false, false, false, false, false, false, false, false, false, false, false, false] rfl rfl (by kernel_rfl) (by decide) (fun K hK => ?_)
    refine goes_ Try.func15 (by kernel_rfl) rfl #[.slice (some ad) ns.length c8, .int .i64 y] (by rfl) rfl rfl (by simp only [List.map_toArray, List.map_cons, List.map_nil]; rfl) ?_
    with_reducible refine (mk_in HM.out.drew (A1 := some ad) (c1 := c8) (by simp) y (by have := HNL.out; omega)).mono ?_
    rintro e w5 ⟨rfl, hm⟩
    refine ⟨_, rfl, ?_⟩
    rw [decide_eq_false h1]
    have HM5 := Aside0.mk hm
    clear hm
    refine hK.out _ _ (HC.out _ HM5.out) (fun hHeld => ?_)
    clear hK K
    refine norm_ (a' := ?_) ?_ ?_
    rotate_left
    · show Act.put _ (some 141) _ = _
      simp only [Act.put, List.setIfInBounds_toArray, List.set_cons_zero, List.set_cons_succ, i64_w, i32_w]
      rfl
    refine pure_ (i := 3) (N := some 142) (v := ?_) (a' := ?_) #[true, true, true, true, false, false, false, false, false, false, false, false, false, false, false, false, false, false, false] rfl rfl (by kernel_rfl) (fun _ _ _ h => hP _ _ _ _ _ h) (Or.inl ⟨by rfl, ?_⟩) ?_ ?_
    rotate_left
    · intro w'
      go_simp
      with_reducible rfl
    rotate_left
    · simp only [Act.put, List.setIfInBounds_toArray, List.set_cons_zero, List.set_cons_succ, i64_w, i32_w]
      rfl
    refine pure_ (i := 4) (N := some 143) (v := undef) (a' := ?_) #[true, true, true, true, true, false, false, false, false, false, false, false, false, false, false, false, false, false, false] rfl rfl (by kernel_rfl) (fun _ _ _ h => hP _ _ _ _ _ h) (Or.inr ⟨by rfl, rfl⟩) ?_ ?_
    rotate_left
    · simp only [Act.put, List.setIfInBounds_toArray, List.set_cons_zero, List.set_cons_succ, i64_w, i32_w]
      rfl
    refine pure_ (i := 5) (N := some 144) (v := undef) (a' := ?_) #[true, true, true, true, true, true, false, false, false, false, false, false, false, false, false, false, false, false, false] rfl rfl (by kernel_rfl) (fun _ _ _ h => hP _ _ _ _ _ h) (Or.inr ⟨by rfl, rfl⟩) ?_ ?_
    rotate_left
    · simp only [Act.put, List.setIfInBounds_toArray, List.set_cons_zero, List.set_cons_succ, i64_w, i32_w]
      rfl
    refine pure_ (i := 6) (N := some 145) (v := undef) (a' := ?_) #[true, true, true, true, true, true, true, false, false, false, false, false, false, false, false, false, false, false, false] rfl rfl (by kernel_rfl) (fun _ _ _ h => hP _ _ _ _ _ h) (Or.inr ⟨by rfl, rfl⟩) ?_ ?_
    rotate_left
    · simp only [Act.put, List.setIfInBounds_toArray, List.set_cons_zero, List.set_cons_succ, i64_w, i32_w]
      rfl
    refine pure_ (i := 7) (N := some 146) (v := ?_) (a' := ?_) #[true, true, true, true, true, true, true, true, false, false, false, false, false, false, false, false, false, false, false] rfl rfl (by kernel_rfl) (fun _ _ _ h => hP _ _ _ _ _ h) (Or.inl ⟨by rfl, ?_⟩) ?_ ?_
    rotate_left
    · intro w'
      go_simp
      with_reducible rfl
    rotate_left
    · simp only [Act.put, List.setIfInBounds_toArray, List.set_cons_zero, List.set_cons_succ, i64_w, i32_w]
      rfl
    refine pure_ (i := 8) (N := some 147) (v := ?_) (a' := ?_) #[true, true, true, true, true, true, true, true, true, false, false, false, false, false, false, false, false, false, false] rfl rfl (by kernel_rfl) (fun _ _ _ h => hP _ _ _ _ _ h) (Or.inl ⟨by rfl, ?_⟩) ?_ ?_
    rotate_left
    · intro w'
      go_simp
      with_reducible rfl
    rotate_left
    · simp only [Act.put, List.setIfInBounds_toArray, List.set_cons_zero, List.set_cons_succ, i64_w, i32_w]
      rfl
    refine pure_ (i := 9) (N := some 148) (v := undef) (a' := ?_) #[true, true, true, true, true, true, true, true, true, true, false, false, false, false, false, false, false, false, false] rfl rfl (by kernel_rfl) (fun _ _ _ h => hP _ _ _ _ _ h) (Or.inr ⟨by rfl, rfl⟩) ?_ ?_
    rotate_left
    · simp only [Act.put, List.setIfInBounds_toArray, List.set_cons_zero, List.set_cons_succ, i64_w, i32_w]
      rfl
    refine pure_ (i := 10) (N := some 149) (v := undef) (a' := ?_) #[true, true, true, true, true, true, true, true, true, true, true, false, false, false, false, false, false, false, false] rfl rfl (by kernel_rfl) (fun _ _ _ h => hP _ _ _ _ _ h) (Or.inr ⟨by rfl, rfl⟩) ?_ ?_
    rotate_left
    · simp only [Act.put, List.setIfInBounds_toArray, List.set_cons_zero, List.set_cons_succ, i64_w, i32_w]
      rfl
    refine pure_ (i := 11) (N := some 150) (v := undef) (a' := ?_) #[true, true, true, true, true, true, true, true, true, true, true, true, false, false, false, false, false, false, false] rfl rfl (by kernel_rfl) (fun _ _ _ h => hP _ _ _ _ _ h) (Or.inr ⟨by rfl, rfl⟩) ?_ ?_
    rotate_left
    · simp only [Act.put, List.setIfInBounds_toArray, List.set_cons_zero, List.set_cons_succ, i64_w, i32_w]
      rfl
    refine pure_ (i := 12) (N := some 151) (v := undef) (a' := ?_) #[true, true, true, true, true, true, true, true, true, true, true, true, true, false, false, false, false, false, false] rfl rfl (by kernel_rfl) (fun _ _ _ h => hP _ _ _ _ _ h) (Or.inr ⟨by rfl, rfl⟩) ?_ ?_
    rotate_left
    · simp only [Act.put, List.setIfInBounds_toArray, List.set_cons_zero, List.set_cons_succ, i64_w, i32_w]
      rfl
    refine pure_ (i := 13) (N := some 152) (v := undef) (a' := ?_) #[true, true, true, true, true, true, true, true, true, true, true, true, true, true, false, false, false, false, false] rfl rfl (by kernel_rfl) (fun _ _ _ h => hP _ _ _ _ _ h) (Or.inr ⟨by rfl, rfl⟩) ?_ ?_
    rotate_left
    · simp only [Act.put, List.setIfInBounds_toArray, List.set_cons_zero, List.set_cons_succ, i64_w, i32_w]
      rfl
    refine pure_ (i := 14) (N := some 153) (v := undef) (a' := ?_) #[true, true, true, true, true, true, true, true, true, true, true, true, true, true, true, false, false, false, false] rfl rfl (by kernel_rfl) (fun _ _ _ h => hP _ _ _ _ _ h) (Or.inr ⟨by rfl, rfl⟩) ?_ ?_
    rotate_left
    · simp only [Act.put, List.setIfInBounds_toArray, List.set_cons_zero, List.set_cons_succ, i64_w, i32_w]
      rfl
    refine pure_ (i := 15) (N := some 154) (v := undef) (a' := ?_) #[true, true, true, true, true, true, true, true, true, true, true, true, true, true, true, true, false, false, false] rfl rfl (by kernel_rfl) (fun _ _ _ h => hP _ _ _ _ _ h) (Or.inr ⟨by rfl, rfl⟩) ?_ ?_
    rotate_left
    · simp only [Act.put, List.setIfInBounds_toArray, List.set_cons_zero, List.set_cons_succ, i64_w, i32_w]
      rfl
    refine pure_ (i := 16) (N := some 155) (v := undef) (a' := ?_) #[true, true, true, true, true, true, true, true, true, true, true, true, true, true, true, true, true, false, false] rfl rfl (by kernel_rfl) (fun _ _ _ h => hP _ _ _ _ _ h) (Or.inr ⟨by rfl, rfl⟩) ?_ ?_
    rotate_left
    · simp only [Act.put, List.setIfInBounds_toArray, List.set_cons_zero, List.set_cons_succ, i64_w, i32_w]
      rfl
    refine pure_ (i := 17) (N := some 156) (v := ?_) (a' := ?_) #[true, true, true, true, true, true, true, true, true, true, true, true, true, true, true, true, true, true, false] rfl rfl (by kernel_rfl) (fun _ _ _ h => hP _ _ _ _ _ h) (Or.inl ⟨by rfl, ?_⟩) ?_ ?_
    rotate_left
    · intro w'
      go_simp
      with_reducible rfl
    rotate_left
    · simp only [Act.put, List.setIfInBounds_toArray, List.set_cons_zero, List.set_cons_succ, i64_w, i32_w]
      rfl
    refine pure_ (i := 18) (N := some 17) (v := ?_) (a' := ?_) #[true, true, true, true, true, true, true, true, true, true, true, true, true, true, true, true, true, true, true] rfl rfl (by kernel_rfl) (fun _ _ _ h => hP _ _ _ _ _ h) (Or.inl ⟨by rfl, ?_⟩) ?_ ?_
    rotate_left
    · intro w'
      go_simp
      with_reducible rfl
    rotate_left
    · simp only [Act.put, List.setIfInBounds_toArray, List.set_cons_zero, List.set_cons_succ, i64_w, i32_w]
      rfl
    refine done_ (by kernel_rfl) ?_
    exact hK _ _ _ _ _ _ _ _ _ _ _ _ _ _ _ _ _ _ _ HM5.out
set_option maxRecDepth 100000 in
set_option maxHeartbeats 4000000 in
theorem FixSets_any (A0 : Option Addr) (c0 : Nat) (l0 : List Int) (A1 : Option Addr) (c1 : Nat) (l1 : List S30) (a2 : Int) (w : World) (hr0 : Kd.C (Kd.int .i64) w A0 l0.length l0) (hc0 : l0.length ≤ c0) (hr1 : Kd.C k30 w A1 l1.length l1) (hc1 : l1.length ≤ c1) (hw0 : ∀ x ∈ l0, (Lit.int .i64 x).wf = true) (hw1 : ∀ e ∈ l1, (Lit.int .i64 e.f0).wf = true ∧ (Lit.int .i64 e.f1).wf = true) (hw2 : (Lit.int .i64 a2).wf = true) :
    Calls Try.prog 4 #[.slice A0 l0.length c0, .slice A1 l1.length c1, .int .i64 a2] w fun e w' => e = .returned (.bool true) ∧ Below w.heap.size w w' := by
  have HR0 := Aside0.mk hr0
  have HR1 := Aside0.mk hr1
  have HW0 := Aside0.mk hw0
  have HW1 := Aside0.mk hw1
  have HW2 := Aside0.mk hw2
  clear hr0 hr1 hw0 hw1 hw2
  by_cases hlen : l0.length ≤ 20 ∧ l1.length ≤ 60
  · obtain ⟨hl0, hl1⟩ := hlen
    have d0 : decide ((20 : Int) < (l0.length : Int)) = false := decide_eq_false (by omega)
    have d1 : decide ((60 : Int) < (l1.length : Int)) = false := decide_eq_false (by omega)
    go_enter Try.func4, Try.ntmps4
    go_wp2_with fail
    refine (alive_any w).mono ?_
    rintro e w1 ⟨rfl, hb1⟩
    obtain ⟨B, hB⟩ : ∃ B, B = w1.heap.size := ⟨_, rfl⟩
    have HB1 := Aside0.mk hb1
    clear hb1
    go_wp2_with fail
    refine (new_gn A0 c0 l0 w1 B (by omega) (reads_of_C (C_below HR0.out HB1.out)) (by omega) HW0.out).mono ?_
    rintro e w2 ⟨g, S, rfl, hG, hM⟩
    obtain ⟨ns, hns⟩ : ∃ ns, ns = onceF l0 := ⟨_, rfl⟩
    rw [← hns] at hG
    have HNS : Aside0 (ns.Nodup ∧ ns.length ≤ 20 ∧ ∀ y ∈ ns, (Lit.int .i64 y).wf = true) := ⟨by rw [hns]; exact ⟨onceF_nodup l0, Nat.le_trans (onceF_len l0) hl0, fun y hy => HW0.out y (onceF_mem hy)⟩⟩
    have hz2 := hM.2.below.size
    have HG := Aside0.mk hG
    have HB2 := Aside0.mk hM.2.below
    have HSG : Aside0 (∀ k, S k → k < w2.heap.size) := ⟨fun k hk => (G.sB hG k hk).2⟩
    clear hG hM
    go_wp2_with fail
    obtain ⟨kf, hkf⟩ := once_f l0 (by omega)
    refine (cupelref12_Once.calls kf A0 c0 l0 (onceF l0) w2 (C_below HR0.out (HB1.out.trans (HB2.out.mono (by rw [hB]; exact HB1.out.size)))) hc0 hkf).mono ?_
    rintro e w3 ⟨v0, rfl, hR, hbl⟩
    rw [← hns] at hR
    obtain ⟨A8, c8, rfl, hc8, K7, hK7, hrd8⟩ := Lst.of_R hR
    obtain ⟨K8, hK8⟩ : ∃ K : Nat → Prop, ∀ k, K k ↔ w2.heap.size ≤ k ∧ k < w3.heap.size := ⟨_, fun _ => Iff.rfl⟩
    have HK8 : Aside0 (∀ k, K8 k → w2.heap.size ≤ k ∧ k < w3.heap.size) := ⟨fun k hk => (hK8 k).1 hk⟩
    have HAD : Aside0 (∀ ad, A8 = some ad → 0 < ns.length → K8 ad.block) := ⟨fun ad e hn => by
      obtain ⟨g8, cap8, e8, hb8, hg8, _⟩ := Kd.R_form hR hn
      injection e8 with e1 e2 e3
      rw [e] at e1
      injection e1 with e1
      exact (hK8 _).2 ⟨by rw [e1]; exact hb8, by rw [e1]; exact hg8⟩⟩
    have HRD8 : Aside0 (∀ W : World, (∀ k, K8 k → W.heap[k]? = w3.heap[k]?) → ReadsInt W .i64 A8 ns.length ns) := ⟨fun W hW => hrd8 W (fun k hk => hW k ((hK8 k).2 ⟨(hK7 k hk).1, (hK7 k hk).2.1⟩))⟩
    have HG3 : Aside0 (G B S g ns (tqOnce ns (l1.take 0)) none w3) := ⟨by have := HG.out.heap hbl.size (fun k hk => hbl.block k (HSG.out k hk)); simpa [tqOnce] using this⟩
    have HKS : Aside0 (∀ k, K8 k → ¬ S k) := ⟨fun k hk h => by have := HSG.out k h; have := (HK8.out k hk).1; omega⟩
    have HB3 : Aside0 (Below B w1 w3) := ⟨HB2.out.trans (hbl.mono (by omega))⟩
    clear hR hbl hrd8 hK8 hK7 hkf HG HSG HB2 hns
    go_wp2_with fail
    have HKK3 : Aside0 (∀ k, K8 k → w3.heap[k]? = w3.heap[k]?) := ⟨fun _ _ => rfl⟩
    have HKL3 : Aside0 (∀ k, K8 k → k < w3.heap.size) := ⟨fun k hk => (HK8.out k hk).2⟩
    go_loopg [9, 10] l1.length (fun kq v9 v10 wx => ∃ (i : Nat) (S : Nat → Prop), v9 = .int .i64 i ∧ Aside0 (i ≤ l1.length ∧ kq = l1.length - i) ∧ Aside0 (G B S g ns (tqOnce ns (l1.take i)) none wx) ∧ Aside0 (Below B w1 wx) ∧ Aside0 (∀ k, K8 k → ¬ S k) ∧ Aside0 (∀ k, K8 k → wx.heap[k]? = w3.heap[k]?) ∧ Aside0 (∀ k, K8 k → k < wx.heap.size))
    case atStart => exact ⟨0, S, rfl, ⟨by omega⟩, HG3, HB3, HKS, HKK3, HKL3⟩
    case round =>
      clear HG3 HB3 HKS HKK3 HKL3
      obtain ⟨i, S, rfl, HI, HG, HBX, HKS, HKK, HKL⟩ := hrel
      obtain ⟨hi, hiq⟩ := HI.out
      by_cases hlt : i < l1.length
      · have hdi : decide ((i : Int) < (l1.length : Int)) = true := decide_eq_true (by omega)
        obtain ⟨ad, rfl, cf0, cf1⟩ := at_T30 (C_below HR1.out (HB1.out.trans (HBX.out.mono (by rw [hB]; exact HB1.out.size)))) (i : Int) (by omega) (by omega)
        rw [Int.toNat_natCast] at cf0 cf1
        have hmem : rd_T30 l1 (i : Int) ∈ l1 := by unfold rd_T30; rw [Int.toNat_natCast, List.getD_eq_getElem?_getD, List.getElem?_eq_getElem hlt]; exact List.getElem_mem _
        have HTK := Aside0.mk (show l1.take (i + 1) = l1.take i ++ [rd_T30 l1 (i : Int)] by rw [List.take_add_one]; unfold rd_T30; rw [Int.toNat_natCast, List.getD_eq_getElem?_getD, List.getElem?_eq_getElem hlt]; rfl)
        have hwE := HW1.out _ hmem
        obtain ⟨E, HE⟩ : ∃ E, Aside0 (rd_T30 l1 (i : Int) = E) := ⟨_, ⟨rfl⟩⟩
        rw [HE.out] at cf0 cf1 HTK hwE
        obtain ⟨x, HX⟩ : ∃ x, Aside0 (E.f0 = x) := ⟨_, ⟨rfl⟩⟩
        obtain ⟨y, HY⟩ : ∃ y, Aside0 (E.f1 = y) := ⟨_, ⟨rfl⟩⟩
        rw [HX.out] at cf0 hwE
        rw [HY.out] at cf1 hwE
        have HWX := Aside0.mk hwE
        clear hwE hmem
        go_wp2_with fail
        refine (cupelref12_In.calls _ A8 c8 ns x _ wr (C_of_reads_ (HRD8.out wr HKK.out)) hc8 (in_f ns x (by have := HNS.out.2.1; omega))).mono ?_
        rintro e w4 ⟨rfl, n4, hn4⟩
        have hbx4 : Below wr.heap.size wr w4 := by rw [hn4]; exact pw_below_drewN (Below.refl _ wr) n4
        clear hn4
        replace HG := Aside0.mk (HG.out.heap hbx4.size (fun k hk => hbx4.block k (G.sB HG.out k hk).2))
        replace HKK : Aside0 (∀ k, K8 k → w4.heap[k]? = w3.heap[k]?) := ⟨fun k hk => (hbx4.block k (HKL.out k hk)).trans (HKK.out k hk)⟩
        replace HKL : Aside0 (∀ k, K8 k → k < w4.heap.size) := ⟨fun k hk => Nat.lt_of_lt_of_le (HKL.out k hk) hbx4.size⟩
        replace HBX : Aside0 (Below B w1 w4) := ⟨HBX.out.trans (hbx4.mono (by rw [hB]; exact HBX.out.size))⟩
        replace cf0 := (World.cell?_of_block (hbx4.block _ (World.block_lt_of_cell? wr _ cf0))).trans cf0
        replace cf1 := (World.cell?_of_block (hbx4.block _ (World.block_lt_of_cell? wr _ cf1))).trans cf1
        clear hbx4
        by_cases hx : x ∈ ns
        · have hmd : decide (x ∈ ns) = true := decide_eq_true hx
          rw [hmd]
          go_wp2_with fail
          have HL := Aside0.mk (lead_gn x [y] HG.out HWX.out.1 (by rw [hB]; exact HBX.out.size) (by simp) (by simpa using HWX.out.2) (fun n => by have := tqOnce_len ns (l1.take i) n; rw [List.length_take] at this; simp; omega) #[.int .i64 y] rfl 1 1 rfl)
          have hadi := World.block_lt_of_cell? w4 _ cf0
          have hadq := World.block_lt_of_cell? w4 _ cf1
          refine start_ (n := 15) (S := fun w' => w'.cell? (ad.add (i * 2)) = some (.int .i64 x) ∧ w'.cell? ⟨(ad.add (i * 2)).block, (ad.add (i * 2)).off + 1, none⟩ = some (.int .i64 y)) (ds := [12]) #[false, false, false, false, false, false, false, false, false, false, false, false, false, false, false] (by kernel_rfl) rfl rfl ⟨cf0, cf1⟩ (fun hHeld => ?_)
          refine pure_ (i := 0) (N := some 45) (v := ?_) (a' := ?_) #[true, false, false, false, false, false, false, false, false, false, false, false, false, false, false] rfl rfl (by kernel_rfl) (fun _ _ _ h => h) (Or.inl ⟨by rfl, ?_⟩) ?_ ?_
          rotate_left
          · intro w'
            go_simp
            with_reducible rfl
          rotate_left
          · simp only [Act.put, List.setIfInBounds_toArray, List.set_cons_zero, List.set_cons_succ, i64_w, i32_w]
            rfl
          refine pure_ (i := 1) (N := some 46) (v := ?_) (a' := ?_) #[true, true, false, false, false, false, false, false, false, false, false, false, false, false, false] rfl rfl (by kernel_rfl) (fun _ _ _ h => h) (Or.inl ⟨by rfl, ?_⟩) ?_ ?_
          rotate_left
          · intro w'
            go_simp
            with_reducible rfl
          rotate_left
          · simp only [Act.put, List.setIfInBounds_toArray, List.set_cons_zero, List.set_cons_succ, i64_w, i32_w]
            rfl
          refine pure_ (i := 2) (N := some 47) (v := ?_) (a' := ?_) #[true, true, true, false, false, false, false, false, false, false, false, false, false, false, false] rfl rfl (by kernel_rfl) (fun _ _ _ h => h) (Or.inl ⟨by rfl, ?_⟩) ?_ ?_
          rotate_left
          · intro w'
            go_simp
            with_reducible rfl
          rotate_left
          · simp only [Act.put, List.setIfInBounds_toArray, List.set_cons_zero, List.set_cons_succ, i64_w, i32_w]
            rfl
          refine pure_ (i := 3) (N := some 48) (v := ?_) (a' := ?_) #[true, true, true, true, false, false, false, false, false, false, false, false, false, false, false] rfl rfl (by kernel_rfl) (fun _ _ _ h => h) (Or.inl ⟨by rfl, ?_⟩) ?_ ?_
          rotate_left
          · intro w'
            go_simp
            with_reducible rfl
          rotate_left
          · simp only [Act.put, List.setIfInBounds_toArray, List.set_cons_zero, List.set_cons_succ, i64_w, i32_w]
            rfl
          refine pure_ (i := 4) (N := some 49) (v := ?_) (a' := ?_) #[true, true, true, true, true, false, false, false, false, false, false, false, false, false, false] rfl rfl (by kernel_rfl) (fun _ _ _ h => h) (Or.inl ⟨by rfl, ?_⟩) ?_ ?_
          rotate_left
          · intro w'
            go_simp
            with_reducible rfl
          rotate_left
          · simp only [Act.put, List.setIfInBounds_toArray, List.set_cons_zero, List.set_cons_succ, i64_w, i32_w]
            rfl
          refine pure_ (i := 6) (N := some 51) (v := ?_) (a' := ?_) #[true, true, true, true, true, false, true, false, false, false, false, false, false, false, false] rfl rfl (by kernel_rfl) (fun _ _ _ h => h) (Or.inl ⟨by rfl, ?_⟩) ?_ ?_
          rotate_left
          · intro w'
            go_simp
            with_reducible rfl
          rotate_left
          · simp only [Act.put, List.setIfInBounds_toArray, List.set_cons_zero, List.set_cons_succ, i64_w, i32_w]
            rfl
          refine pure_ (i := 7) (N := some 52) (v := ?_) (a' := ?_) #[true, true, true, true, true, false, true, true, false, false, false, false, false, false, false] rfl rfl (by kernel_rfl) (fun _ _ _ h => h) (Or.inl ⟨by rfl, ?_⟩) ?_ ?_
          rotate_left
          · intro w'
            go_simp
            with_reducible rfl
          rotate_left
          · simp only [Act.put, List.setIfInBounds_toArray, List.set_cons_zero, List.set_cons_succ, i64_w, i32_w]
            rfl
          refine pure_ (i := 8) (N := some 53) (v := ?_) (a' := ?_) #[true, true, true, true, true, false, true, true, true, false, false, false, false, false, false] rfl rfl (by kernel_rfl) (fun _ _ _ h => h) (Or.inl ⟨by rfl, ?_⟩) ?_ ?_
          rotate_left
          · intro w'
            go_simp
            with_reducible rfl
          rotate_left
          · simp only [Act.put, List.setIfInBounds_toArray, List.set_cons_zero, List.set_cons_succ, i64_w, i32_w]
            rfl
          refine pure_ (i := 9) (N := some 54) (v := ?_) (a' := ?_) #[true, true, true, true, true, false, true, true, true, true, false, false, false, false, false] rfl rfl (by kernel_rfl) (fun _ _ _ h => h) (Or.inl ⟨by rfl, ?_⟩) ?_ ?_
          rotate_left
          · intro w'
            go_simp
            with_reducible rfl
          rotate_left
          · simp only [Act.put, List.setIfInBounds_toArray, List.set_cons_zero, List.set_cons_succ, i64_w, i32_w]
            rfl
          refine pure_ (i := 13) (N := some 58) (v := ?_) (a' := ?_) #[true, true, true, true, true, false, true, true, true, true, false, false, false, true, false] rfl rfl (by kernel_rfl) (fun _ _ _ h => h) (Or.inl ⟨by rfl, ?_⟩) ?_ ?_
          rotate_left
          · intro w'
            go_simp
            with_reducible rfl
          rotate_left
          · simp only [Act.put, List.setIfInBounds_toArray, List.set_cons_zero, List.set_cons_succ, i64_w, i32_w]
            rfl
          refine take_ (i := 5) (N := some 50) (v := ?_) (a' := ?_) #[true, true, true, true, true, true, true, true, true, true, false, false, false, true, false] rfl rfl (by kernel_rfl) (fun _ _ _ h => h) (Or.inl ⟨by rfl, ?_⟩) hHeld ?_ ?_
          rotate_left
          · rintro w' ⟨s0, s1⟩
            go_simp
            with_reducible rfl
          rotate_left
          · simp only [Act.put, List.setIfInBounds_toArray, List.set_cons_zero, List.set_cons_succ, i64_w, i32_w]
            rfl
          refine take_ (i := 10) (N := some 55) (v := ?_) (a' := ?_) #[true, true, true, true, true, true, true, true, true, true, true, false, false, true, false] rfl rfl (by kernel_rfl) (fun _ _ _ h => h) (Or.inl ⟨by rfl, ?_⟩) hHeld ?_ ?_
          rotate_left
          · rintro w' ⟨s0, s1⟩
            go_simp
            with_reducible rfl
          rotate_left
          · simp only [Act.put, List.setIfInBounds_toArray, List.set_cons_zero, List.set_cons_succ, i64_w, i32_w]
            rfl
          refine one_ (i := 11) (N := some 56) #[true, true, true, true, true, true, true, true, true, true, true, true, false, true, false] rfl rfl (by kernel_rfl) (by decide) (fun K hK => ?_)
          refine value_ (w1 := ?_) (v := ?_) (by rfl) rfl ?_ ?_
          rotate_left 2
          · go_simp
            constructor
            · rfl
            · rfl
          refine hK.out _ _ ⟨(World.cell?_of_block (Below.heap_alloc w4 _ _ hadi)).trans cf0, (World.cell?_of_block (Below.heap_alloc w4 _ _ hadq)).trans cf1⟩ (fun hHeld => ?_)
          clear hK K
          refine norm_ (a' := ?_) ?_ ?_
          rotate_left
          · show Act.put _ (some 56) _ = _
            simp only [Act.put, List.setIfInBounds_toArray, List.set_cons_zero, List.set_cons_succ, i64_w, i32_w]
            rfl
          refine last_ (i := 12) (N := some 57) #[true, true, true, true, true, true, true, true, true, true, true, true, true, true, false] rfl rfl (by kernel_rfl) (by decide) (fun K hK => ?_)
          refine goes_ Try.func10 (by kernel_rfl) rfl #[.pointer (some ⟨g, 0, none⟩), .int .i64 x, .slice (some ⟨w4.heap.size, 0, none⟩) 1 1] (by rfl) rfl rfl (by simp only [List.map_toArray, List.map_cons, List.map_nil]; rfl) ?_
          with_reducible refine (HL.out).mono ?_
          rintro e w5 ⟨rfl, S5, hG5, hM5⟩
          refine ⟨_, rfl, ?_⟩
          rw [if_pos hx]
          refine hK.out _ _ ?_
          clear hK K
          refine norm_ (a' := ?_) ?_ ?_
          rotate_left
          · show Act.put _ (some 57) _ = _
            simp only [Act.put, List.setIfInBounds_toArray, List.set_cons_zero, List.set_cons_succ, i64_w, i32_w]
            rfl
          refine pure_ (i := 14) (N := some 59) (v := ?_) (a' := ?_) #[true, true, true, true, true, true, true, true, true, true, true, true, true, true, true] rfl rfl (by kernel_rfl) (fun _ _ _ h => h) (Or.inl ⟨by rfl, ?_⟩) ?_ ?_
          rotate_left
          · intro w'
            go_simp
            with_reducible rfl
          rotate_left
          · simp only [Act.put, List.setIfInBounds_toArray, List.set_cons_zero, List.set_cons_succ, i64_w, i32_w]
            rfl
          refine done_ (by kernel_rfl) ?_
          have hz5 : w4.heap.size ≤ w5.heap.size := hM5.2.below.size
          have HG5 : Aside0 (G B S5 g ns (tqOnce ns (l1.take (i + 1))) none w5) := ⟨by rw [HTK.out, tqOnce_snoc, HX.out, HY.out]; exact hG5⟩
          have HK5 : Aside0 (∀ k, K8 k → ¬ S5 k) := ⟨fun k hk h => by
            rcases hM5.1 k h with h | h
            · exact HKS.out k hk h
            · have := HKL.out k hk
              have h' : w4.heap.size ≤ k := h
              omega⟩
          have HKK5 : Aside0 (∀ k, K8 k → w5.heap[k]? = w3.heap[k]?) := ⟨fun k hk => (hM5.2.keep k (HKL.out k hk) (HKS.out k hk)).trans (HKK.out k hk)⟩
          have HKL5 : Aside0 (∀ k, K8 k → k < w5.heap.size) := ⟨fun k hk => Nat.lt_of_lt_of_le (HKL.out k hk) hz5⟩
          have HB5 : Aside0 (Below B w1 w5) := ⟨HBX.out.trans hM5.2.below⟩
          clear hG5 hM5 HG HKS HKK HKL HBX HL hHeld cf0 cf1 hadi hadq hmd
          go_wp2_with fail
          go_roundg (l1.length - (i + 1))
          case measure => omega
          case rel => exact ⟨i + 1, S5, by simp, ⟨by omega⟩, HG5, HB5, HK5, HKK5, HKL5⟩
        · have hmd : decide (x ∈ ns) = false := decide_eq_false hx
          rw [hmd]
          go_wp2_with fail
          have HL := Aside0.mk (lead_gn x [y] HG.out HWX.out.1 (by rw [hB]; exact HBX.out.size) (by simp) (by simpa using HWX.out.2) (fun n => by have := tqOnce_len ns (l1.take i) n; rw [List.length_take] at this; simp; omega) #[.int .i64 y] rfl 1 1 rfl)
          have hadi := World.block_lt_of_cell? w4 _ cf0
          have hadq := World.block_lt_of_cell? w4 _ cf1
          refine start_ (n := 15) (S := fun w' => w'.cell? (ad.add (i * 2)) = some (.int .i64 x) ∧ w'.cell? ⟨(ad.add (i * 2)).block, (ad.add (i * 2)).off + 1, none⟩ = some (.int .i64 y)) (ds := [12]) #[false, false, false, false, false, false, false, false, false, false, false, false, false, false, false] (by kernel_rfl) rfl rfl ⟨cf0, cf1⟩ (fun hHeld => ?_)
          refine pure_ (i := 0) (N := some 45) (v := ?_) (a' := ?_) #[true, false, false, false, false, false, false, false, false, false, false, false, false, false, false] rfl rfl (by kernel_rfl) (fun _ _ _ h => h) (Or.inl ⟨by rfl, ?_⟩) ?_ ?_
          rotate_left
          · intro w'
            go_simp
            with_reducible rfl
          rotate_left
          · simp only [Act.put, List.setIfInBounds_toArray, List.set_cons_zero, List.set_cons_succ, i64_w, i32_w]
            rfl
          refine pure_ (i := 1) (N := some 46) (v := ?_) (a' := ?_) #[true, true, false, false, false, false, false, false, false, false, false, false, false, false, false] rfl rfl (by kernel_rfl) (fun _ _ _ h => h) (Or.inl ⟨by rfl, ?_⟩) ?_ ?_
          rotate_left
          · intro w'
            go_simp
            with_reducible rfl
          rotate_left
          · simp only [Act.put, List.setIfInBounds_toArray, List.set_cons_zero, List.set_cons_succ, i64_w, i32_w]
            rfl
          refine pure_ (i := 2) (N := some 47) (v := ?_) (a' := ?_) #[true, true, true, false, false, false, false, false, false, false, false, false, false, false, false] rfl rfl (by kernel_rfl) (fun _ _ _ h => h) (Or.inl ⟨by rfl, ?_⟩) ?_ ?_
          rotate_left
          · intro w'
            go_simp
            with_reducible rfl
          rotate_left
          · simp only [Act.put, List.setIfInBounds_toArray, List.set_cons_zero, List.set_cons_succ, i64_w, i32_w]
            rfl
          refine pure_ (i := 3) (N := some 48) (v := ?_) (a' := ?_) #[true, true, true, true, false, false, false, false, false, false, false, false, false, false, false] rfl rfl (by kernel_rfl) (fun _ _ _ h => h) (Or.inl ⟨by rfl, ?_⟩) ?_ ?_
          rotate_left
          · intro w'
            go_simp
            with_reducible rfl
          rotate_left
          · simp only [Act.put, List.setIfInBounds_toArray, List.set_cons_zero, List.set_cons_succ, i64_w, i32_w]
            rfl
          refine pure_ (i := 4) (N := some 49) (v := ?_) (a' := ?_) #[true, true, true, true, true, false, false, false, false, false, false, false, false, false, false] rfl rfl (by kernel_rfl) (fun _ _ _ h => h) (Or.inl ⟨by rfl, ?_⟩) ?_ ?_
          rotate_left
          · intro w'
            go_simp
            with_reducible rfl
          rotate_left
          · simp only [Act.put, List.setIfInBounds_toArray, List.set_cons_zero, List.set_cons_succ, i64_w, i32_w]
            rfl
          refine pure_ (i := 6) (N := some 51) (v := ?_) (a' := ?_) #[true, true, true, true, true, false, true, false, false, false, false, false, false, false, false] rfl rfl (by kernel_rfl) (fun _ _ _ h => h) (Or.inl ⟨by rfl, ?_⟩) ?_ ?_
          rotate_left
          · intro w'
            go_simp
            with_reducible rfl
          rotate_left
          · simp only [Act.put, List.setIfInBounds_toArray, List.set_cons_zero, List.set_cons_succ, i64_w, i32_w]
            rfl
          refine pure_ (i := 7) (N := some 52) (v := ?_) (a' := ?_) #[true, true, true, true, true, false, true, true, false, false, false, false, false, false, false] rfl rfl (by kernel_rfl) (fun _ _ _ h => h) (Or.inl ⟨by rfl, ?_⟩) ?_ ?_
          rotate_left
          · intro w'
            go_simp
            with_reducible rfl
          rotate_left
          · simp only [Act.put, List.setIfInBounds_toArray, List.set_cons_zero, List.set_cons_succ, i64_w, i32_w]
            rfl
          refine pure_ (i := 8) (N := some 53) (v := ?_) (a' := ?_) #[true, true, true, true, true, false, true, true, true, false, false, false, false, false, false] rfl rfl (by kernel_rfl) (fun _ _ _ h => h) (Or.inl ⟨by rfl, ?_⟩) ?_ ?_
          rotate_left
          · intro w'
            go_simp
            with_reducible rfl
          rotate_left
          · simp only [Act.put, List.setIfInBounds_toArray, List.set_cons_zero, List.set_cons_succ, i64_w, i32_w]
            rfl
          refine pure_ (i := 9) (N := some 54) (v := ?_) (a' := ?_) #[true, true, true, true, true, false, true, true, true, true, false, false, false, false, false] rfl rfl (by kernel_rfl) (fun _ _ _ h => h) (Or.inl ⟨by rfl, ?_⟩) ?_ ?_
          rotate_left
          · intro w'
            go_simp
            with_reducible rfl
          rotate_left
          · simp only [Act.put, List.setIfInBounds_toArray, List.set_cons_zero, List.set_cons_succ, i64_w, i32_w]
            rfl
          refine pure_ (i := 13) (N := some 58) (v := ?_) (a' := ?_) #[true, true, true, true, true, false, true, true, true, true, false, false, false, true, false] rfl rfl (by kernel_rfl) (fun _ _ _ h => h) (Or.inl ⟨by rfl, ?_⟩) ?_ ?_
          rotate_left
          · intro w'
            go_simp
            with_reducible rfl
          rotate_left
          · simp only [Act.put, List.setIfInBounds_toArray, List.set_cons_zero, List.set_cons_succ, i64_w, i32_w]
            rfl
          refine take_ (i := 5) (N := some 50) (v := ?_) (a' := ?_) #[true, true, true, true, true, true, true, true, true, true, false, false, false, true, false] rfl rfl (by kernel_rfl) (fun _ _ _ h => h) (Or.inl ⟨by rfl, ?_⟩) hHeld ?_ ?_
          rotate_left
          · rintro w' ⟨s0, s1⟩
            go_simp
            with_reducible rfl
          rotate_left
          · simp only [Act.put, List.setIfInBounds_toArray, List.set_cons_zero, List.set_cons_succ, i64_w, i32_w]
            rfl
          refine take_ (i := 10) (N := some 55) (v := ?_) (a' := ?_) #[true, true, true, true, true, true, true, true, true, true, true, false, false, true, false] rfl rfl (by kernel_rfl) (fun _ _ _ h => h) (Or.inl ⟨by rfl, ?_⟩) hHeld ?_ ?_
          rotate_left
          · rintro w' ⟨s0, s1⟩
            go_simp
            with_reducible rfl
          rotate_left
          · simp only [Act.put, List.setIfInBounds_toArray, List.set_cons_zero, List.set_cons_succ, i64_w, i32_w]
            rfl
          refine one_ (i := 11) (N := some 56) #[true, true, true, true, true, true, true, true, true, true, true, true, false, true, false] rfl rfl (by kernel_rfl) (by decide) (fun K hK => ?_)
          refine value_ (w1 := ?_) (v := ?_) (by rfl) rfl ?_ ?_
          rotate_left 2
          · go_simp
            constructor
            · rfl
            · rfl
          refine hK.out _ _ ⟨(World.cell?_of_block (Below.heap_alloc w4 _ _ hadi)).trans cf0, (World.cell?_of_block (Below.heap_alloc w4 _ _ hadq)).trans cf1⟩ (fun hHeld => ?_)
          clear hK K
          refine norm_ (a' := ?_) ?_ ?_
          rotate_left
          · show Act.put _ (some 56) _ = _
            simp only [Act.put, List.setIfInBounds_toArray, List.set_cons_zero, List.set_cons_succ, i64_w, i32_w]
            rfl
          refine last_ (i := 12) (N := some 57) #[true, true, true, true, true, true, true, true, true, true, true, true, true, true, false] rfl rfl (by kernel_rfl) (by decide) (fun K hK => ?_)
          refine goes_ Try.func10 (by kernel_rfl) rfl #[.pointer (some ⟨g, 0, none⟩), .int .i64 x, .slice (some ⟨w4.heap.size, 0, none⟩) 1 1] (by rfl) rfl rfl (by simp only [List.map_toArray, List.map_cons, List.map_nil]; rfl) ?_
          with_reducible refine (HL.out).mono ?_
          rintro e w5 ⟨rfl, S5, hG5, hM5⟩
          refine ⟨_, rfl, ?_⟩
          rw [if_neg hx]
          refine hK.out _ _ ?_
          clear hK K
          refine norm_ (a' := ?_) ?_ ?_
          rotate_left
          · show Act.put _ (some 57) _ = _
            simp only [Act.put, List.setIfInBounds_toArray, List.set_cons_zero, List.set_cons_succ, i64_w, i32_w]
            rfl
          refine pure_ (i := 14) (N := some 59) (v := ?_) (a' := ?_) #[true, true, true, true, true, true, true, true, true, true, true, true, true, true, true] rfl rfl (by kernel_rfl) (fun _ _ _ h => h) (Or.inl ⟨by rfl, ?_⟩) ?_ ?_
          rotate_left
          · intro w'
            go_simp
            with_reducible rfl
          rotate_left
          · simp only [Act.put, List.setIfInBounds_toArray, List.set_cons_zero, List.set_cons_succ, i64_w, i32_w]
            rfl
          refine done_ (by kernel_rfl) ?_
          have hz5 : w4.heap.size ≤ w5.heap.size := hM5.2.below.size
          have HG5 : Aside0 (G B S5 g ns (tqOnce ns (l1.take (i + 1))) none w5) := ⟨by rw [HTK.out, tqOnce_snoc, HX.out, HY.out]; exact hG5⟩
          have HK5 : Aside0 (∀ k, K8 k → ¬ S5 k) := ⟨fun k hk h => by
            rcases hM5.1 k h with h | h
            · exact HKS.out k hk h
            · have := HKL.out k hk
              have h' : w4.heap.size ≤ k := h
              omega⟩
          have HKK5 : Aside0 (∀ k, K8 k → w5.heap[k]? = w3.heap[k]?) := ⟨fun k hk => (hM5.2.keep k (HKL.out k hk) (HKS.out k hk)).trans (HKK.out k hk)⟩
          have HKL5 : Aside0 (∀ k, K8 k → k < w5.heap.size) := ⟨fun k hk => Nat.lt_of_lt_of_le (HKL.out k hk) hz5⟩
          have HB5 : Aside0 (Below B w1 w5) := ⟨HBX.out.trans hM5.2.below⟩
          clear hG5 hM5 HG HKS HKK HKL HBX HL hHeld cf0 cf1 hadi hadq hmd
          go_wp2_with fail
          go_roundg (l1.length - (i + 1))
          case measure => omega
          case rel => exact ⟨i + 1, S5, by simp, ⟨by omega⟩, HG5, HB5, HK5, HKK5, HKL5⟩
      · obtain rfl : i = l1.length := by omega
        have hdi : decide ((l1.length : Int) < (l1.length : Int)) = false := decide_eq_false (by omega)
        rw [List.take_length] at HG
        go_wp2_with fail
        refine (solve_gs B S g ns (tqOnce ns l1) wr (by rw [hB]; exact HBX.out.size) HG.out).mono ?_
        rintro e w4 ⟨r, m, S4, rfl, hr1, hr2, hG4, hM4, hRB⟩
        have HGS : Aside0 (GS B S4 g ns (tqOnce ns l1) w4) := ⟨⟨some m, m, hG4, .inl rfl, hRB⟩⟩
        have HG4 := Aside0.mk hG4
        have HB4 := Aside0.mk (HBX.out.trans hM4.2.below)
        have hzr : wr.heap.size ≤ w4.heap.size := hM4.2.below.size
        have HKK4 : Aside0 (∀ k, K8 k → w4.heap[k]? = w3.heap[k]?) := ⟨fun k hk => (hM4.2.keep k (HKL.out k hk) (HKS.out k hk)).trans (HKK.out k hk)⟩
        have HKS4 : Aside0 (∀ k, K8 k → ¬ S4 k) := ⟨fun k hk h => by
          rcases hM4.1 k h with h | h
          · exact HKS.out k hk h
          · have := HKL.out k hk
            have h' : wr.heap.size ≤ k := h
            omega⟩
        have dr1 : decide (r < 1) = false := decide_eq_false (by omega)
        have dr2 : decide ((ns.length : Int) + 1 < r) = false := decide_eq_false (by omega)
        clear hG4 hM4 hRB HG HKS HKK HKL HBX
        have hn20 : ns.length ≤ 20 := HNS.out.2.1
        go_wp2_with fail
        refine (solve_done B S4 g ns (tqOnce ns l1) m w4 HG4.out).mono ?_
        rintro e w5 ⟨rfl, rfl⟩
        have HM : Aside0 (ManyK B w1 [(g, ns, tqOnce ns l1)] [(A8, c8, ns)] [nilRw, nilRw] [] w5) := ⟨ManyK.one HGS.out HB4.out (by rw [hB]; exact HB4.out.size) hc8 (HRD8.out w5 HKK4.out) (fun ad e hn => HKS4.out _ (HAD.out ad e hn))⟩
        clear HGS HG4 HB4 HKK4 HKS4 HRD8 HAD
        obtain ⟨tq, HTQ⟩ : ∃ tq, Aside0 (tq = tqOnce ns l1) := ⟨_, ⟨rfl⟩⟩
        rw [← HTQ.out] at HM
        go_wp2_with fail
        obtain ⟨ws, rfl⟩ : ∃ ws, ws = wr := ⟨_, rfl⟩
        go_loopg [12, 13] ns.length (fun kq v12 v13 wx => ∃ (i : Nat), v13 = .int .i64 i ∧ Aside0 (i ≤ ns.length ∧ kq = ns.length - i) ∧ Aside0 (ManyK B w1 [(g, ns, tq)] [(A8, c8, ns)] [(v12, (ns.take i).filter (circR ns tq)), nilRw] [] wx))
        case atStart => exact ⟨0, rfl, ⟨by omega⟩, HM⟩
        case round =>
          clear HM
          obtain ⟨i, rfl, HI, HM⟩ := hrel
          obtain ⟨hi, hiq⟩ := HI.out
          by_cases hlt2 : i < ns.length
          · have hdi : decide ((i : Int) < (ns.length : Int)) = true := decide_eq_true (by omega)
            have hrd := (HM.out.reads (List.mem_cons_self ..)).2
            obtain ⟨ad, rfl, cf0⟩ := hrd.at_ (i : Int) (by omega) (by omega)
            rw [Int.toNat_natCast, rd_nat] at cf0
            have HRDW := Aside0.mk hrd
            obtain ⟨x, HXE⟩ : ∃ x, Aside0 (ns.getD i 0 = x) := ⟨_, ⟨rfl⟩⟩
            rw [HXE.out] at cf0
            have HWX : Aside0 ((Lit.int .i64 x).wf = true) := ⟨by rw [← HXE.out]; exact HNS.out.2.2 _ (getD_mem' hlt2)⟩
            have HCX : Aside0 (∀ W : World, ReadsInt W .i64 (some ad) ns.length ns → W.cell? (ad.add i) = some (.int .i64 x)) := ⟨fun W hW => by
              obtain ⟨ad2, e2, ch0⟩ := hW.at_ (i : Int) (by omega) (by omega)
              injection e2 with e2
              subst e2
              rw [Int.toNat_natCast, rd_nat, HXE.out] at ch0
              exact ch0⟩
            have HBELW : Aside0 (Below w.heap.size w wr) := ⟨HB1.out.trans (HM.out.below.mono (by rw [hB]; exact HB1.out.size))⟩
            clear hrd
            go_wp2_with fail
            obtain ⟨kR, bl, hkR, hbl, hRB⟩ := reach_f (ns := ns) (l := l1) (i := i) HNS.out.1 hlt2 (by omega) (by omega)
            rw [HXE.out] at hkR
            rw [← HTQ.out] at hRB
            refine (cupelref12_Reach.calls kR (some ad) c8 ns A1 c1 l1 x bl wr (C_of_reads_ HRDW.out) hc8 (C_below HR1.out HBELW.out) hc1 hkR).mono ?_
            rintro e w4 ⟨v14, rfl, hR14, hbl4⟩
            obtain ⟨b, cap, rfl, hbb, hbs, cells, ho⟩ := Kd.R_form hR14 (by omega)
            obtain ⟨o, HO⟩ : ∃ o : Obj, Aside0 (o = .cells cells 4 (0, 0)) := ⟨_, ⟨rfl⟩⟩
            rw [← HO.out] at ho
            obtain ⟨sd, hsd⟩ : ∃ sd : Addr, sd = ⟨b, 0, none⟩ := ⟨_, rfl⟩
            have HSB : Aside0 (∀ W : World, W.heap[b]? = some o → ∀ n, n < ns.length → W.cell? (sd.add n) = some (.bool (RB ns.length tq i n))) := ⟨fun W hW n hn => by
              have hc := (Kd.R_reads' hR14).2.2
              obtain ⟨ad2, e2, ch⟩ := Kd.at_bool hc (n : Int) (by omega) (by omega)
              injection e2 with e2
              subst e2
              rw [Int.toNat_natCast] at ch
              have e3 : rdOf false bl (n : Int) = RB ns.length tq i n := by unfold rdOf; rw [Int.toNat_natCast]; exact hRB n hn
              rw [e3] at ch
              rw [hsd]
              refine (World.cell?_of_block ?_).trans ch
              rw [add_block]
              exact hW.trans ho.symm⟩
            have HM4 : Aside0 (ManyK B w1 [(g, ns, tq)] [(some ad, c8, ns)] [(u12, (ns.take i).filter (circR ns tq)), nilRw] [(b, o)] w4) := ⟨HM.out.keep hbl4 hbb ho⟩
            rw [← hsd]
            clear hsd hR14 hbl4 hbb hbs ho HM hkR HO cf0 HRDW
            obtain ⟨cb, HCBE⟩ : ∃ cb, Aside0 (RB ns.length tq i i = cb) := ⟨_, ⟨rfl⟩⟩
            have HCB : Aside0 (∀ W : World, W.heap[b]? = some o → W.cell? (sd.add i) = some (.bool cb)) := ⟨fun W hW => by rw [← HCBE.out]; exact HSB.out W hW i hlt2⟩
            have HCR : Aside0 (circR ns tq x = cb) := ⟨by rw [← HXE.out, circ_at tq HNS.out.1 hlt2, HCBE.out]⟩
            obtain ⟨both, HBO⟩ : ∃ both, Aside0 (both = (decide (a2 ∈ ns) && decide (a2 ∈ sel ns tq i ns.length) && decide (x ∈ setR ns tq a2))) := ⟨_, ⟨rfl⟩⟩
            have HSM : Aside0 (sameR ns tq x a2 = both) := ⟨by
              rw [HBO.out, ← setR_at tq HNS.out.1 hlt2, HXE.out]
              unfold sameR
              by_cases h1 : a2 ∈ setR ns tq x
              · have h2 : a2 ∈ ns := setR_mem' h1
                rw [decide_eq_true h1, decide_eq_true h2]; simp
              · rw [decide_eq_false h1]; simp⟩
            have hblc : (bl.length : Int) = (ns.length : Int) := by omega
            go_wp2_with fail
            obtain ⟨wo, rfl⟩ : ∃ wo, wo = wr := ⟨_, rfl⟩
            obtain ⟨v12o, rfl⟩ : ∃ v, v = u12 := ⟨_, rfl⟩
            go_loopg [15, 16] ns.length (fun kq v15 v16 wx => ∃ (n : Nat), v16 = .int .i64 n ∧ Aside0 (n ≤ ns.length ∧ kq = ns.length - n) ∧ Aside0 (ManyK B w1 [(g, ns, tq)] [(some ad, c8, ns)] [(v12o, (ns.take i).filter (circR ns tq)), (v15, sel ns tq i n)] [(b, o)] wx))
            case atStart => exact ⟨0, rfl, ⟨by omega⟩, HM4⟩
            case round =>
              clear HM4
              obtain ⟨n, rfl, HI2, HM⟩ := hrel
              obtain ⟨hn, hnq⟩ := HI2.out
              by_cases hlt3 : n < ns.length
              · have hdn : decide ((n : Int) < (ns.length : Int)) = true := decide_eq_true (by omega)
                have hdn2 : decide ((n : Int) < (bl.length : Int)) = true := decide_eq_true (by omega)
                have hlb : (n : Int) < (bl.length : Int) := by omega
                have cfs := HSB.out wr (HM.out.kept (List.mem_cons_self ..)) n hlt3
                obtain ⟨A15, c15, e15⟩ := own_slice (HM.out.own (i := 1) rfl)
                subst e15
                have hsl : (sel ns tq i n).length ≤ 1000 := by have := sel_len ns tq i n; omega
                by_cases hrb : RB ns.length tq i n = true
                · rw [hrb] at cfs
                  obtain ⟨yn, HYN⟩ : ∃ y, Aside0 (ns.getD n 0 = y) := ⟨_, ⟨rfl⟩⟩
                  have hsel : sel ns tq i n ++ [yn] = sel ns tq i (n + 1) := by rw [sel_succ, if_pos hrb, HYN.out]
                  obtain ⟨ad2, e2, ch0⟩ := (HM.out.reads (List.mem_cons_self ..)).2.at_ (n : Int) (by omega) (by omega)
                  injection e2 with e2
                  subst e2
                  rw [Int.toNat_natCast, rd_nat, HYN.out] at ch0
                  have HSL := Aside0.mk hsl
                  clear hsl
                  go_wp2_with (first
                    | ((with_reducible refine gate_builtin (b := .append) (xs := #[.tmp 99, .tmp 104]) rfl ?_); at_builtin; refine mk_append HM.out 1 yn rfl rfl (.tmp 99) (.tmp 104) rfl rfl rfl HSL.out ?_; intro v15 w15 h15; rw [hsel] at h15; have HM15 := Aside0.mk h15; clear h15 HM))
                  go_roundg (ns.length - (n + 1))
                  case measure => omega
                  case rel => exact ⟨n + 1, by simp, ⟨by omega⟩, HM15⟩
                · have hrb' : RB ns.length tq i n = false := Bool.eq_false_iff.2 hrb
                  rw [hrb'] at cfs
                  have hsel : sel ns tq i n = sel ns tq i (n + 1) := by rw [sel_succ, if_neg hrb]
                  have HSEL := Aside0.mk hsel
                  clear hsel
                  go_wp2_with fail
                  go_roundg (ns.length - (n + 1))
                  case measure => omega
                  case rel => exact ⟨n + 1, by simp, ⟨by omega⟩, ⟨by rw [← HSEL.out]; exact HM.out⟩⟩
              · obtain rfl : n = ns.length := by omega
                have hdn : decide ((ns.length : Int) < (ns.length : Int)) = false := decide_eq_false (by omega)
                have cfi := HCB.out wr (HM.out.kept (List.mem_cons_self ..))
                have hlb : (i : Int) < (bl.length : Int) := by omega
                obtain ⟨A12, c12, e12⟩ := own_slice (HM.out.own (i := 0) rfl)
                subst e12
                have HTN := Aside0.mk (take_snoc hlt2)
                by_cases hcb : cb = true
                · rw [hcb] at cfi
                  have hci : (ns.take i).filter (circR ns tq) ++ [x] = (ns.take (i + 1)).filter (circR ns tq) := by rw [HTN.out, List.filter_append, HXE.out]; simp [HCR.out, hcb]
                  have HCI := Aside0.mk hci
                  clear hci
                  have ch0 := HCX.out wr (HM.out.reads (List.mem_cons_self ..)).2
                  go_wp2_with (first
                    | ((with_reducible refine gate_builtin (b := .append) (xs := #[.tmp 110, .tmp 115]) rfl ?_); at_builtin; refine mk_append HM.out 0 x rfl rfl (.tmp 110) (.tmp 115) rfl rfl rfl (by have := List.length_filter_le (circR ns tq) (ns.take i); rw [List.length_take] at this; omega) ?_; intro v12x WW h9; rw [HCI.out] at h9; have HM9 := Aside0.mk h9; clear h9 HM))
                  obtain ⟨A15, c15, e15, hm⟩ := HM9.out.freeze 1 rfl (by have := sel_len ns tq i ns.length; omega)
                  subst e15
                  obtain ⟨L15, HL15⟩ : ∃ L, Aside0 (sel ns tq i ns.length = L) := ⟨_, ⟨rfl⟩⟩
                  rw [HL15.out] at hm
                  have HM10 : Aside0 (ManyK B w1 [(g, ns, tq)] [(A15, c15, L15), (some ad, c8, ns)] [(v12x, (ns.take (i + 1)).filter (circR ns tq)), nilRw] [(b, o)] WW) := ⟨hm⟩
                  clear hm HM9
                  have hln : (sel ns tq i ns.length).length = L15.length := by rw [HL15.out]
                  have HC1 : Aside0 (∀ W : World, ManyK B w1 [(g, ns, tq)] [(A15, c15, L15), (some ad, c8, ns)] [(v12x, (ns.take (i + 1)).filter (circR ns tq)), nilRw] [(b, o)] W → W.cell? (ad.add i) = some (.int .i64 x) ∧ W.cell? (sd.add i) = some (.bool cb)) := ⟨fun W hW => ⟨HCX.out W (hW.reads (List.mem_cons_of_mem _ (List.mem_cons_self ..))).2, HCB.out W (hW.kept (List.mem_cons_self ..))⟩⟩
                  refine sets_reg31 _ (fun _ _ _ _ _ h => h) HM10 HC1 HWX ⟨by rw [← HXE.out, setR_at tq HNS.out.1 hlt2]; exact HL15.out⟩ ⟨by rw [← hln]; have := sel_len ns tq i ns.length; omega⟩ HCR (by omega) (by omega) hln _ _ _ _ _ _ _ _ _ _ _ _ _ _ _ _ _ _ _ _ _ _ _ _ _ _ _ _ _ _ _ _ _ _ _ _ _ _ _ _ _ _ _ _ _ _ _ _ _ _ _ _ _ _ _ _ _ _ _ _ _ _ _ _ _ _ _ _ _ _ _ _ _ _ _ _ _ _ _ _ _ _ _ _ _ _ _ _ _ _ _ _ _ _ _ _ _ _ _ _ _ _ _ _ _ _ _ _ _ _ _ _ _ _ _ _ _ _ _ _ _ _ _ _ _ _ _ _ _ _ _ _ _ _ _ _ _ _ _ _ _ _ _ _ _ _ _ _ _ _ _ _ _ _ _ _ _ _ _ _ _ _ _ _ _ _ _ _ _ _ _ _ _ _ _ _ _ ?_
                  clear HM10
                  intro u117 u118 u119 u120 u121 u122 u123 u124 u125 u126 u127 u128 u129 u130 u131 u132 u133 u134 u135 u136 u137 w8 hm
                  have HM11 := Aside0.mk hm
                  clear hm
                  go_wp2_with fail
                  refine sets_reg33 (both := both) _ (fun _ _ _ _ _ h => h) HM11 ⟨fun W hW => (HC1.out W hW).1⟩ HW2 ⟨by rw [← hln]; have := sel_len ns tq i ns.length; omega⟩ ⟨by omega⟩ ⟨by have := setR_len (ns := ns) (tq := tq) (x := a2); omega⟩ (by omega) hln ⟨by rw [HBO.out, HL15.out]⟩ _ _ _ _ _ _ _ _ _ _ _ _ _ _ _ _ _ _ _ _ _ _ _ _ _ _ _ _ _ _ _ _ _ _ _ _ _ _ _ _ _ _ _ _ _ _ _ _ _ _ _ _ _ _ _ _ _ _ _ _ _ _ _ _ _ _ _ _ _ _ _ _ _ _ _ _ _ _ _ _ _ _ _ _ _ _ _ _ _ _ _ _ _ _ _ _ _ _ _ _ _ _ _ _ _ _ _ _ _ _ _ _ _ _ _ _ _ _ _ _ _ _ _ _ _ _ _ _ _ _ _ _ _ _ _ _ _ _ _ _ _ _ _ _ _ _ _ _ _ _ _ _ _ _ _ _ _ _ _ _ _ _ _ _ _ _ _ _ _ _ _ _ _ _ _ _ _ ?_
                  clear HM11
                  intro u139 u140 u141 u142 u143 u144 u145 u146 u147 u148 u149 u150 u151 u152 u153 u154 u155 u156 w9 hm
                  have HM12 := Aside0.mk hm
                  clear hm
                  have cfx := (HC1.out w9 HM12.out).1
                  go_wp2_with fail
                  refine (mk_same HM12.out 0 rfl x a2 HWX.out HW2.out).mono ?_
                  rintro e w10 ⟨rfl, hm⟩
                  rw [HSM.out]
                  have HM13 : Aside0 (ManyK B w1 [(g, ns, tq)] [(some ad, c8, ns)] [(v12x, (ns.take (i + 1)).filter (circR ns tq)), nilRw] [] w10) := ⟨hm.sub (fun x hx => List.mem_cons_of_mem _ hx) (fun x hx => by cases hx)⟩
                  clear hm HM12 cfx
                  go_wp2_with fail
                  go_roundg (ns.length - (i + 1))
                  case measure => omega
                  case rel => exact ⟨i + 1, by simp, ⟨by omega⟩, HM13⟩
                · have hcb' : cb = false := Bool.eq_false_iff.2 hcb
                  rw [hcb'] at cfi
                  have hci : (ns.take i).filter (circR ns tq) = (ns.take (i + 1)).filter (circR ns tq) := by rw [HTN.out, List.filter_append, HXE.out]; simp [HCR.out, hcb']
                  have HCI := Aside0.mk hci
                  clear hci
                  go_wp2_with fail
                  obtain ⟨v12x, hv12⟩ : ∃ v, v = Value.slice A12 ((ns.take i).filter (circR ns tq)).length c12 := ⟨_, rfl⟩
                  obtain ⟨WW, rfl⟩ : ∃ W, W = wr := ⟨_, rfl⟩
                  have HM9 : Aside0 (ManyK B w1 [(g, ns, tq)] [(some ad, c8, ns)] [(v12x, (ns.take (i + 1)).filter (circR ns tq)), (u15, sel ns tq i ns.length)] [(b, o)] WW) := ⟨by rw [← HCI.out, hv12]; exact HM.out⟩
                  rw [← hv12]
                  clear HM hv12
                  obtain ⟨A15, c15, e15, hm⟩ := HM9.out.freeze 1 rfl (by have := sel_len ns tq i ns.length; omega)
                  subst e15
                  obtain ⟨L15, HL15⟩ : ∃ L, Aside0 (sel ns tq i ns.length = L) := ⟨_, ⟨rfl⟩⟩
                  rw [HL15.out] at hm
                  have HM10 : Aside0 (ManyK B w1 [(g, ns, tq)] [(A15, c15, L15), (some ad, c8, ns)] [(v12x, (ns.take (i + 1)).filter (circR ns tq)), nilRw] [(b, o)] WW) := ⟨hm⟩
                  clear hm HM9
                  have hln : (sel ns tq i ns.length).length = L15.length := by rw [HL15.out]
                  have HC1 : Aside0 (∀ W : World, ManyK B w1 [(g, ns, tq)] [(A15, c15, L15), (some ad, c8, ns)] [(v12x, (ns.take (i + 1)).filter (circR ns tq)), nilRw] [(b, o)] W → W.cell? (ad.add i) = some (.int .i64 x) ∧ W.cell? (sd.add i) = some (.bool cb)) := ⟨fun W hW => ⟨HCX.out W (hW.reads (List.mem_cons_of_mem _ (List.mem_cons_self ..))).2, HCB.out W (hW.kept (List.mem_cons_self ..))⟩⟩
                  refine sets_reg31 _ (fun _ _ _ _ _ h => h) HM10 HC1 HWX ⟨by rw [← HXE.out, setR_at tq HNS.out.1 hlt2]; exact HL15.out⟩ ⟨by rw [← hln]; have := sel_len ns tq i ns.length; omega⟩ HCR (by omega) (by omega) hln _ _ _ _ _ _ _ _ _ _ _ _ _ _ _ _ _ _ _ _ _ _ _ _ _ _ _ _ _ _ _ _ _ _ _ _ _ _ _ _ _ _ _ _ _ _ _ _ _ _ _ _ _ _ _ _ _ _ _ _ _ _ _ _ _ _ _ _ _ _ _ _ _ _ _ _ _ _ _ _ _ _ _ _ _ _ _ _ _ _ _ _ _ _ _ _ _ _ _ _ _ _ _ _ _ _ _ _ _ _ _ _ _ _ _ _ _ _ _ _ _ _ _ _ _ _ _ _ _ _ _ _ _ _ _ _ _ _ _ _ _ _ _ _ _ _ _ _ _ _ _ _ _ _ _ _ _ _ _ _ _ _ _ _ _ _ _ _ _ _ _ _ _ _ _ _ _ ?_
                  clear HM10
                  intro u117 u118 u119 u120 u121 u122 u123 u124 u125 u126 u127 u128 u129 u130 u131 u132 u133 u134 u135 u136 u137 w8 hm
                  have HM11 := Aside0.mk hm
                  clear hm
                  go_wp2_with fail
                  refine sets_reg33 (both := both) _ (fun _ _ _ _ _ h => h) HM11 ⟨fun W hW => (HC1.out W hW).1⟩ HW2 ⟨by rw [← hln]; have := sel_len ns tq i ns.length; omega⟩ ⟨by omega⟩ ⟨by have := setR_len (ns := ns) (tq := tq) (x := a2); omega⟩ (by omega) hln ⟨by rw [HBO.out, HL15.out]⟩ _ _ _ _ _ _ _ _ _ _ _ _ _ _ _ _ _ _ _ _ _ _ _ _ _ _ _ _ _ _ _ _ _ _ _ _ _ _ _ _ _ _ _ _ _ _ _ _ _ _ _ _ _ _ _ _ _ _ _ _ _ _ _ _ _ _ _ _ _ _ _ _ _ _ _ _ _ _ _ _ _ _ _ _ _ _ _ _ _ _ _ _ _ _ _ _ _ _ _ _ _ _ _ _ _ _ _ _ _ _ _ _ _ _ _ _ _ _ _ _ _ _ _ _ _ _ _ _ _ _ _ _ _ _ _ _ _ _ _ _ _ _ _ _ _ _ _ _ _ _ _ _ _ _ _ _ _ _ _ _ _ _ _ _ _ _ _ _ _ _ _ _ _ _ _ _ _ ?_
                  clear HM11
                  intro u139 u140 u141 u142 u143 u144 u145 u146 u147 u148 u149 u150 u151 u152 u153 u154 u155 u156 w9 hm
                  have HM12 := Aside0.mk hm
                  clear hm
                  have cfx := (HC1.out w9 HM12.out).1
                  go_wp2_with fail
                  refine (mk_same HM12.out 0 rfl x a2 HWX.out HW2.out).mono ?_
                  rintro e w10 ⟨rfl, hm⟩
                  rw [HSM.out]
                  have HM13 : Aside0 (ManyK B w1 [(g, ns, tq)] [(some ad, c8, ns)] [(v12x, (ns.take (i + 1)).filter (circR ns tq)), nilRw] [] w10) := ⟨hm.sub (fun x hx => List.mem_cons_of_mem _ hx) (fun x hx => by cases hx)⟩
                  clear hm HM12 cfx
                  go_wp2_with fail
                  go_roundg (ns.length - (i + 1))
                  case measure => omega
                  case rel => exact ⟨i + 1, by simp, ⟨by omega⟩, HM13⟩
          · obtain rfl : i = ns.length := by omega
            have hdi : decide ((ns.length : Int) < (ns.length : Int)) = false := decide_eq_false (by omega)
            rw [List.take_length] at HM
            go_wp2_with fail
            refine (mk_circles HM.out 0 rfl HNS.out.2.2).mono ?_
            rintro e w4 ⟨A9, c9, rfl, hm⟩
            obtain ⟨A12, c12, e12, hm⟩ := hm.freeze 0 rfl (by have := List.length_filter_le (circR ns tq) ns; omega)
            obtain ⟨C9, HC9⟩ : ∃ C, Aside0 (circsR ns tq = C) := ⟨_, ⟨rfl⟩⟩
            have e9 : ns.filter (circR ns tq) = C9 := HC9.out
            rw [e9] at hm e12
            rw [HC9.out] at hm ⊢
            have HM4 := Aside0.mk hm
            have hC9 : C9.length ≤ 20 := by rw [← e9]; have := List.length_filter_le (circR ns tq) ns; omega
            clear hm HM e9
            subst e12
            go_wp2_with fail
            refine (mk_same3 HM4.out (A1 := A9) (c1 := c9) (A2 := A12) (c2 := c12) (by simp) (by simp) (k := C9.length + 1) (r := true) (same_f _ (by omega))).mono ?_
            rintro e w5 ⟨rfl, hm⟩
            have HM5 := Aside0.mk hm
            clear hm HM4
            go_wp2_with fail
            refine (mk_in HM5.out (A1 := A8) (c1 := c8) (by simp) a2 (by omega)).mono ?_
            rintro e w6 ⟨rfl, hm⟩
            have HM6 := Aside0.mk hm
            clear hm HM5
            have HB6 := Aside0.mk (HB1.out.trans (HM6.out.below.mono (by rw [hB]; exact HB1.out.size)))
            by_cases h2 : a2 ∈ ns
            · rw [decide_eq_true h2]
              go_wp2
              go_ret
              exact ⟨rfl, HB6.out⟩
            · rw [decide_eq_false h2]
              go_wp2_with fail
              refine (mk_set HM6.out 0 rfl a2 HW2.out).mono ?_
              rintro e w7 ⟨A7, c7, rfl, hm⟩
              have hz0 : setR ns tq a2 = [] := by unfold setR; rw [if_neg h2]
              have HB7 := Aside0.mk (HB1.out.trans (hm.below.mono (by rw [hB]; exact HB1.out.size)))
              rw [hz0]
              clear hm HM6
              go_wp2
              go_ret
              exact ⟨rfl, HB7.out⟩
  · by_cases h0 : l0.length ≤ 20
    · have d0 : decide ((20 : Int) < (l0.length : Int)) = false := decide_eq_false (by omega)
      have d1 : decide ((60 : Int) < (l1.length : Int)) = true := decide_eq_true (by omega)
      go_enter Try.func4, Try.ntmps4
      go_wp2_with fail
      refine (alive_any w).mono ?_
      rintro e w1 ⟨rfl, hb1⟩
      go_wp2
      go_ret
      exact ⟨rfl, hb1⟩
    · have d0 : decide ((20 : Int) < (l0.length : Int)) = true := decide_eq_true (by omega)
      go_enter Try.func4, Try.ntmps4
      go_wp2_with fail
      refine (alive_any w).mono ?_
      rintro e w1 ⟨rfl, hb1⟩
      go_wp2
      go_ret
      exact ⟨rfl, hb1⟩
end Go.Proofs.Ytiljegeodokfmaa.Fx
