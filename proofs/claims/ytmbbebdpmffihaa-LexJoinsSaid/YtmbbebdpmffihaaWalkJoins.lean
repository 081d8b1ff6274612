/- LexJoins: the law's own body, on its one way. -/
import Derived.Test.YtmbbebdpmffihaaJoin04
import Derived.Test.YtmbbebdpmffihaaWEqStruct
namespace Go.Proofs.Ytmbbebdpmffihaa.PA
open Go.RowKit Go.Proofs.Ytmbbebdpmffihaa.Lx Go.Proofs.Ytmbbebdpmffihaa.M04 Go.Proofs.Ytmbbebdpmffihaa.Pl Go.Proofs.YtmbbebdpmffihaaW.PrintWords Go.Proofs.YtmbbebdpmffihaaW.PrintLast Go.Proofs.YtmbbebdpmffihaaW.PrintMore
set_option linter.unusedVariables false
set_option linter.unusedSimpArgs false

theorem eqA39 (d : Nat) (w : World) (x0 y0 : Int) (x1 y1 : Int) (x2 y2 : ByteArray) :
    (Op.equalIn (d + 2) 39 (.agg #[.int .i64 x0, .int .i64 x1, .string x2]) (.agg #[.int .i64 y0, .int .i64 y1, .string y2])).run Try.prog w = .ok (x0 == y0 && (x1 == y1 && (x2.toList == y2.toList))) w := by
  refine eqA_of Try.underlying39 (by kernel_rfl) ?_
  refine eqf_cons (by rfl) (by go_simp; rfl) (by go_simp; rfl) (by go_simp) ?_
  refine eqf_cons (by rfl) (by go_simp; rfl) (by go_simp; rfl) (by go_simp) ?_
  exact eqf_last (by rfl) (by go_simp; rfl) (by go_simp; rfl) (by go_simp)
attribute [local go_sem high] eqA39
theorem below_drawn {B : Nat} {w0 w w' : World} (h : Below B w0 w) (h' : Drawn0 w w') : Below B w0 w' := by
  obtain ⟨⟨n, rfl⟩⟩ := h'
  exact h.trans (dra B w n)
set_option maxHeartbeats 6400000 in
set_option maxRecDepth 100000 in
theorem cupellaw04_LexJoins.walk (a0 : ByteArray) (a1 : ByteArray) (w : World) (w0 : a0.size ≤ 140737488351232) (w1 : a1.size ≤ 140737488351232) :
    Calls Try.prog 7 #[.string a0, .string a1] w fun e w' => e = .returned (.bool true) ∧ Below w.heap.size w w' := by
  have hA := fun w => cupellaw04_alive.calls true w alive_t
  by_cases h0 : (a0.size : Int) > 600
  · have b0 : decide ((a0.size : Int) > 600) = true := decide_eq_true h0
    have b1 : decide (a0.size > 600) = true := decide_eq_true (by omega)
    have b2 : decide (600 < a0.size) = true := decide_eq_true (by omega)
    go_enter Try.func7, Try.ntmps7
    go_wp2_with fail
    refine (hA _).mono ?_
    rintro e wA ⟨rfl, hb⟩
    have HB := Lib.hid hb
    clear hb hA
    go_wp2
    go_returns
    exact ⟨rfl, HB.out⟩
  have b0 : decide ((a0.size : Int) > 600) = false := decide_eq_false h0
  have b1 : decide (600 < a0.size) = false := decide_eq_false (by omega)
  by_cases h1 : (a1.size : Int) > 600
  · have b2 : decide ((a1.size : Int) > 600) = true := decide_eq_true h1
    have b3 : decide (600 < a1.size) = true := decide_eq_true (by omega)
    go_enter Try.func7, Try.ntmps7
    go_wp2_with fail
    refine (hA _).mono ?_
    rintro e wA ⟨rfl, hb⟩
    have HB := Lib.hid hb
    clear hb hA
    go_wp2
    go_returns
    exact ⟨rfl, HB.out⟩
  have b2 : decide ((a1.size : Int) > 600) = false := decide_eq_false h1
  have b3 : decide (600 < a1.size) = false := decide_eq_false (by omega)
  have hn : a0.size ≤ 600 := by omega
  have hn1 : a1.size ≤ 600 := by omega
  have hz : (a0 ++ (⟨#[10]⟩ : ByteArray) ++ a1).size = a0.size + 1 + a1.size := by rw [ByteArray.size_append, ByteArray.size_append]; rfl
  have hd : (a0 ++ (⟨#[10]⟩ : ByteArray) ++ a1).data.toList = a0.data.toList ++ 10 :: a1.data.toList := by rw [app_data, app_data]; simp
  have hL := fun w => lex_Lex.calls a0 (lexA (a0).data.toList).1 (lexA (a0).data.toList).2 w (lex_f a0 (by omega))
  have hM := fun w => lex_Lex.calls a1 (lexA (a1).data.toList).1 (lexA (a1).data.toList).2 w (lex_f a1 (by omega))
  have hB := fun w => lex_Lex.calls (a0 ++ (⟨#[10]⟩ : ByteArray) ++ a1) (lexA ((a0 ++ (⟨#[10]⟩ : ByteArray) ++ a1)).data.toList).1 (lexA ((a0 ++ (⟨#[10]⟩ : ByteArray) ++ a1)).data.toList).2 w (lex_f (a0 ++ (⟨#[10]⟩ : ByteArray) ++ a1) (by omega))
  rw [hd, lexA_join] at hB
  have hmf := (lexA_facts a1.data.toList).1
  have hef := lexA_low a1.data.toList
  rw [size_data] at hmf hef
  have hl1 := lexA_len a0.data.toList
  have hl2 := lexA_len a1.data.toList
  rw [size_data] at hl1 hl2 hB
  have hM1 : 1 ≤ (lexA a1.data.toList).1.length := by simp [lexA]
  have hTl : (lexA a0.data.toList).1 = (lexR 0 a0.data.toList).1 ++ [⟨6, (a0.data.toList.length : Int), ⟨#[]⟩⟩] := rfl
  generalize (lexA a0.data.toList).1 = L at *
  generalize (lexA a0.data.toList).2 = D at *
  generalize (lexA a1.data.toList).1 = M at *
  generalize (lexA a1.data.toList).2 = E at *
  generalize (lexR 0 a0.data.toList).1 = T at *
  have hLT : L.length = T.length + 1 := by rw [hTl, List.length_append]; rfl
  generalize hBO : T ++ M.map (shT ((a0.size : Int) + 1)) = BO at *
  generalize hF : D ++ E.map (shD ((a0.size : Int) + 1)) = F at *
  have hBl : BO.length = T.length + M.length := by rw [← hBO, List.length_append, List.length_map]
  have hFl : F.length = D.length + E.length := by rw [← hF, List.length_append, List.length_map]
  have s1 : (9223372036854775807 < a0.size + 1) = False := eq_false (by omega)
  have s2 : (9223372036854775807 < a0.size + 1 + a1.size) = False := eq_false (by omega)
  clear h0 h1 hz hd
  have HX := Lib.hid (And.intro hLT (And.intro hBl (And.intro hFl (And.intro hBO (And.intro hF hTl)))))
  have HY := Lib.hid (And.intro hl1 hl2)
  clear hLT hBl hFl hBO hF hTl hl1 hl2
  go_enter Try.func7, Try.ntmps7
  go_wp2_with fail
  refine (hA _).mono ?_
  rintro e wA ⟨rfl, hb⟩
  have HB0 := Lib.hid hb
  clear hb hA
  go_wp2_with fail
  refine (hL _).mono ?_
  rintro e w2 ⟨vL, vD, rfl, rL, rD, hb⟩
  obtain ⟨AL, cL, rfl, kL, rL⟩ := Kd.R_reads rL
  obtain ⟨AD, cD, rfl, kD, rD⟩ := Kd.R_reads rD
  have HB2 := Lib.hid (below_step HB0.out hb)
  have RL2 := Lib.hid rL
  have RD2 := Lib.hid rD
  clear hb hL rL rD HB0
  go_wp2_with fail
  refine (hM _).mono ?_
  rintro e w3 ⟨vM, vE, rfl, rM, rE, hb⟩
  obtain ⟨AM, cM, rfl, kM, rM⟩ := Kd.R_reads rM
  obtain ⟨AE, cE, rfl, kE, rE⟩ := Kd.R_reads rE
  have HB3 := Lib.hid (below_step HB2.out hb)
  have RL3 := Lib.hid (Kd.C_below RL2.out hb)
  have RD3 := Lib.hid (Kd.C_below RD2.out hb)
  have RM3 := Lib.hid rM
  have RE3 := Lib.hid rE
  clear hb hM rM rE HB2 RL2 RD2
  go_wp2_with fail
  refine (hB _).mono ?_
  rintro e w4 ⟨vB, vF, rfl, rB, rF, hb⟩
  obtain ⟨AB, cB, rfl, kB, rB⟩ := Kd.R_reads rB
  obtain ⟨AF, cF, rfl, kF, rF⟩ := Kd.R_reads rF
  have HB4 := Lib.hid (below_step HB3.out hb)
  have RL := Lib.hid (Kd.C_below RL3.out hb)
  have RD := Lib.hid (Kd.C_below RD3.out hb)
  have RM := Lib.hid (Kd.C_below RM3.out hb)
  have RE := Lib.hid (Kd.C_below RE3.out hb)
  have RB := Lib.hid rB
  have RF := Lib.hid rF
  clear hb hB rB rF HB3 RL3 RD3 RM3 RE3
  go_wp2_with fail
  obtain ⟨hLT, hBl, hFl, hBO, hF, hTl⟩ := HX.out
  obtain ⟨hl1, hl2⟩ := HY.out
  obtain ⟨z1, hz1⟩ : ∃ z, wrap64 ((L.length : Int) + (M.length : Int)) = z := ⟨_, rfl⟩
  have hz1w : IntKind.i64.wrap ((L.length : Int) + (M.length : Int)) = z1 := (i64_w _).trans hz1
  have e1 : z1 = (L.length : Int) + M.length := by rw [← hz1, wrap_id (by omega) (by omega)]
  obtain ⟨z2, hz2⟩ : ∃ z, wrap64 (z1 - 1) = z := ⟨_, rfl⟩
  have hz2w : IntKind.i64.wrap (z1 - 1) = z2 := (i64_w _).trans hz2
  have e2 : z2 = (BO.length : Int) := by rw [← hz2, wrap_id (by omega) (by omega)]; omega
  obtain ⟨z4, hz4⟩ : ∃ z, wrap64 ((D.length : Int) + (E.length : Int)) = z := ⟨_, rfl⟩
  have hz4w : IntKind.i64.wrap ((D.length : Int) + (E.length : Int)) = z4 := (i64_w _).trans hz4
  have e4 : z4 = (F.length : Int) := by rw [← hz4, wrap_id (by omega) (by omega)]; omega
  obtain ⟨z3, hz3⟩ : ∃ z, wrap64 ((L.length : Int) - 1) = z := ⟨_, rfl⟩
  have hz3w : IntKind.i64.wrap ((L.length : Int) - 1) = z3 := (i64_w _).trans hz3
  have e3 : z3 = (T.length : Int) := by rw [← hz3, wrap_id (by omega) (by omega)]; omega
  have g1 : ((BO.length : Int) == z2) = true := beq_iff_eq.2 e2.symm
  have g1' : ((BO.length : Int) != z2) = false := bne_eq_false_iff_eq.2 e2.symm
  have g2 : ((F.length : Int) == z4) = true := beq_iff_eq.2 e4.symm
  have g2' : ((F.length : Int) != z4) = false := bne_eq_false_iff_eq.2 e4.symm
  have p1 : 0 ≤ z3 := by omega
  have p2 : z3 ≤ (cB : Int) := by omega
  have p3 : z3 ≤ (cL : Int) := by omega
  have p4 : z3 ≤ (BO.length : Int) := by omega
  have ez : z3.toNat = T.length := by omega
  have tB : BO.take T.length = T := by rw [← hBO, List.take_left]
  have tL : L.take T.length = T := by rw [hTl, List.take_left]
  have dB : BO.drop T.length = M.map (shT ((a0.size : Int) + 1)) := by rw [← hBO, List.drop_left]
  have hS1 := lex_Same.calls AB cB T AL cL T true w4.drew (by have h := Kd.C_take RB.out (m := T.length) (by omega); rw [tB] at h; exact Kd.C_drew h) (by omega) (by have h := Kd.C_take RL.out (m := T.length) (by omega); rw [tL] at h; exact Kd.C_drew h) (by omega) (by rw [lex_Same.f, sameL_self])
  have hS2 := fun w' (hb : Below w4.heap.size w4 w') => lex_Same.calls _ (cB - T.length) _ AM cM M true w' (Kd.C_below (Kd.C_drop RB.out (m := T.length) (by omega) kB) hb) (by rw [List.length_drop]; omega) (Kd.C_below RM.out hb) kM (by rw [dB, lex_Same.f, sameL_shift])
  rw [List.length_drop] at hS2
  rw [show k35.sz = 3 from rfl] at hS2
  rw [← ez] at hS1 hS2
  have hcne : ¬ cB = z3.toNat := by omega
  rw [if_neg hcne] at hS2
  obtain ⟨adB, qB, _⟩ := at_T35 RB.out 0 (by omega) (by omega)
  subst qB
  simp only [Option.map_some] at hS2
  have HE := Lib.hid (And.intro e1 (And.intro e2 (And.intro e3 (And.intro e4 ez))))
  clear hLT hBl hFl hBO hF hTl hl1 hl2 e1 e2 e3 e4 tB tL dB ez hz1 hz2 hz3 hz4
  refine start_ (n := 43) (S := fun w' => True) (ds := []) #[false, false, false, false, false, false, false, false, false, false, false, false, false, false, false, false, false, false, false, false, false, false, false, false, false, false, false, false, false, false, false, false, false, false, false, false, false, false, false, false, false, false, false] (by kernel_rfl) rfl rfl trivial (fun hHeld => ?_)
  refine pure_ (i := 0) (N := some 41) (v := ?_) (a' := ?_) #[true, false, false, false, false, false, false, false, false, false, false, false, false, false, false, false, false, false, false, false, false, false, false, false, false, false, false, false, false, false, false, false, false, false, false, false, false, false, false, false, false, false, false] rfl rfl (by kernel_rfl) (fun _ _ _ h => h) (Or.inl ⟨by rfl, ?_⟩) ?_ ?_
  rotate_left
  · intro w'
    go_simp
    with_reducible rfl
  rotate_left
  · simp only [Act.put, List.setIfInBounds_toArray, List.set_cons_zero, List.set_cons_succ, i64_w, i32_w]
    rfl
  refine pure_ (i := 1) (N := some 42) (v := ?_) (a' := ?_) #[true, true, false, false, false, false, false, false, false, false, false, false, false, false, false, false, false, false, false, false, false, false, false, false, false, false, false, false, false, false, false, false, false, false, false, false, false, false, false, false, false, false, false] rfl rfl (by kernel_rfl) (fun _ _ _ h => h) (Or.inl ⟨by rfl, ?_⟩) ?_ ?_
  rotate_left
  · intro w'
    go_simp
    with_reducible rfl
  rotate_left
  · simp only [Act.put, List.setIfInBounds_toArray, List.set_cons_zero, List.set_cons_succ, i64_w, i32_w]
    rfl
  refine pure_ (i := 2) (N := some 43) (v := ?_) (a' := ?_) #[true, true, true, false, false, false, false, false, false, false, false, false, false, false, false, false, false, false, false, false, false, false, false, false, false, false, false, false, false, false, false, false, false, false, false, false, false, false, false, false, false, false, false] rfl rfl (by kernel_rfl) (fun _ _ _ h => h) (Or.inl ⟨by rfl, ?_⟩) ?_ ?_
  rotate_left
  · intro w'
    go_simp
    with_reducible rfl
  rotate_left
  · simp only [Act.put, List.setIfInBounds_toArray, List.set_cons_zero, List.set_cons_succ, i64_w, i32_w]
    rfl
  refine pure_ (i := 3) (N := some 44) (v := ?_) (a' := ?_) #[true, true, true, true, false, false, false, false, false, false, false, false, false, false, false, false, false, false, false, false, false, false, false, false, false, false, false, false, false, false, false, false, false, false, false, false, false, false, false, false, false, false, false] rfl rfl (by kernel_rfl) (fun _ _ _ h => h) (Or.inl ⟨by rfl, ?_⟩) ?_ ?_
  rotate_left
  · intro w'
    go_simp
    with_reducible rfl
  rotate_left
  · simp only [Act.put, List.setIfInBounds_toArray, List.set_cons_zero, List.set_cons_succ, i64_w, i32_w]
    rfl
  refine pure_ (i := 4) (N := some 45) (v := ?_) (a' := ?_) #[true, true, true, true, true, false, false, false, false, false, false, false, false, false, false, false, false, false, false, false, false, false, false, false, false, false, false, false, false, false, false, false, false, false, false, false, false, false, false, false, false, false, false] rfl rfl (by kernel_rfl) (fun _ _ _ h => h) (Or.inl ⟨by rfl, ?_⟩) ?_ ?_
  rotate_left
  · intro w'
    go_simp
    with_reducible rfl
  rotate_left
  · simp only [Act.put, List.setIfInBounds_toArray, List.set_cons_zero, List.set_cons_succ, i64_w, i32_w]
    rfl
  refine pure_ (i := 5) (N := some 46) (v := ?_) (a' := ?_) #[true, true, true, true, true, true, false, false, false, false, false, false, false, false, false, false, false, false, false, false, false, false, false, false, false, false, false, false, false, false, false, false, false, false, false, false, false, false, false, false, false, false, false] rfl rfl (by kernel_rfl) (fun _ _ _ h => h) (Or.inl ⟨by rfl, ?_⟩) ?_ ?_
  rotate_left
  · intro w'
    go_simp
    with_reducible rfl
  rotate_left
  · simp only [Act.put, List.setIfInBounds_toArray, List.set_cons_zero, List.set_cons_succ, i64_w, i32_w]
    rfl
  refine pure_ (i := 6) (N := some 47) (v := ?_) (a' := ?_) #[true, true, true, true, true, true, true, false, false, false, false, false, false, false, false, false, false, false, false, false, false, false, false, false, false, false, false, false, false, false, false, false, false, false, false, false, false, false, false, false, false, false, false] rfl rfl (by kernel_rfl) (fun _ _ _ h => h) (Or.inl ⟨by rfl, ?_⟩) ?_ ?_
  rotate_left
  · intro w'
    go_simp
    with_reducible rfl
  rotate_left
  · simp only [Act.put, List.setIfInBounds_toArray, List.set_cons_zero, List.set_cons_succ, i64_w, i32_w]
    rfl
  refine pure_ (i := 7) (N := some 48) (v := ?_) (a' := ?_) #[true, true, true, true, true, true, true, true, false, false, false, false, false, false, false, false, false, false, false, false, false, false, false, false, false, false, false, false, false, false, false, false, false, false, false, false, false, false, false, false, false, false, false] rfl rfl (by kernel_rfl) (fun _ _ _ h => h) (Or.inl ⟨by rfl, ?_⟩) ?_ ?_
  rotate_left
  · intro w'
    go_simp
    with_reducible rfl
  rotate_left
  · simp only [Act.put, List.setIfInBounds_toArray, List.set_cons_zero, List.set_cons_succ, i64_w, i32_w]
    rfl
  refine pure_ (i := 8) (N := some 49) (v := ?_) (a' := ?_) #[true, true, true, true, true, true, true, true, true, false, false, false, false, false, false, false, false, false, false, false, false, false, false, false, false, false, false, false, false, false, false, false, false, false, false, false, false, false, false, false, false, false, false] rfl rfl (by kernel_rfl) (fun _ _ _ h => h) (Or.inl ⟨by rfl, ?_⟩) ?_ ?_
  rotate_left
  · intro w'
    go_simp
    with_reducible rfl
  rotate_left
  · simp only [Act.put, List.setIfInBounds_toArray, List.set_cons_zero, List.set_cons_succ, i64_w, i32_w]
    rfl
  refine pure_ (i := 9) (N := some 50) (v := ?_) (a' := ?_) #[true, true, true, true, true, true, true, true, true, true, false, false, false, false, false, false, false, false, false, false, false, false, false, false, false, false, false, false, false, false, false, false, false, false, false, false, false, false, false, false, false, false, false] rfl rfl (by kernel_rfl) (fun _ _ _ h => h) (Or.inl ⟨by rfl, ?_⟩) ?_ ?_
  rotate_left
  · intro w'
    go_simp
    with_reducible rfl
  rotate_left
  · simp only [Act.put, List.setIfInBounds_toArray, List.set_cons_zero, List.set_cons_succ, i64_w, i32_w]
    rfl
  refine pure_ (i := 10) (N := some 51) (v := ?_) (a' := ?_) #[true, true, true, true, true, true, true, true, true, true, true, false, false, false, false, false, false, false, false, false, false, false, false, false, false, false, false, false, false, false, false, false, false, false, false, false, false, false, false, false, false, false, false] rfl rfl (by kernel_rfl) (fun _ _ _ h => h) (Or.inl ⟨by rfl, ?_⟩) ?_ ?_
  rotate_left
  · intro w'
    go_simp
    with_reducible rfl
  rotate_left
  · simp only [Act.put, List.setIfInBounds_toArray, List.set_cons_zero, List.set_cons_succ, i64_w, i32_w]
    rfl
  refine pure_ (i := 11) (N := some 52) (v := ?_) (a' := ?_) #[true, true, true, true, true, true, true, true, true, true, true, true, false, false, false, false, false, false, false, false, false, false, false, false, false, false, false, false, false, false, false, false, false, false, false, false, false, false, false, false, false, false, false] rfl rfl (by kernel_rfl) (fun _ _ _ h => h) (Or.inl ⟨by rfl, ?_⟩) ?_ ?_
  rotate_left
  · intro w'
    go_simp
    with_reducible rfl
  rotate_left
  · simp only [Act.put, List.setIfInBounds_toArray, List.set_cons_zero, List.set_cons_succ, i64_w, i32_w]
    rfl
  refine pure_ (i := 12) (N := some 53) (v := ?_) (a' := ?_) #[true, true, true, true, true, true, true, true, true, true, true, true, true, false, false, false, false, false, false, false, false, false, false, false, false, false, false, false, false, false, false, false, false, false, false, false, false, false, false, false, false, false, false] rfl rfl (by kernel_rfl) (fun _ _ _ h => h) (Or.inl ⟨by rfl, ?_⟩) ?_ ?_
  rotate_left
  · intro w'
    go_simp
    with_reducible rfl
  rotate_left
  · simp only [Act.put, List.setIfInBounds_toArray, List.set_cons_zero, List.set_cons_succ, i64_w, i32_w]
    rfl
  refine pure_ (i := 13) (N := some 54) (v := ?_) (a' := ?_) #[true, true, true, true, true, true, true, true, true, true, true, true, true, true, false, false, false, false, false, false, false, false, false, false, false, false, false, false, false, false, false, false, false, false, false, false, false, false, false, false, false, false, false] rfl rfl (by kernel_rfl) (fun _ _ _ h => h) (Or.inl ⟨by rfl, ?_⟩) ?_ ?_
  rotate_left
  · intro w'
    go_simp
    with_reducible rfl
  rotate_left
  · simp only [Act.put, List.setIfInBounds_toArray, List.set_cons_zero, List.set_cons_succ, i64_w, i32_w]
    rfl
  refine pure_ (i := 14) (N := some 55) (v := ?_) (a' := ?_) #[true, true, true, true, true, true, true, true, true, true, true, true, true, true, true, false, false, false, false, false, false, false, false, false, false, false, false, false, false, false, false, false, false, false, false, false, false, false, false, false, false, false, false] rfl rfl (by kernel_rfl) (fun _ _ _ h => h) (Or.inl ⟨by rfl, ?_⟩) ?_ ?_
  rotate_left
  · intro w'
    go_simp
    with_reducible rfl
  rotate_left
  · simp only [Act.put, List.setIfInBounds_toArray, List.set_cons_zero, List.set_cons_succ, i64_w, i32_w]
    rfl
  refine pure_ (i := 15) (N := some 56) (v := ?_) (a' := ?_) #[true, true, true, true, true, true, true, true, true, true, true, true, true, true, true, true, false, false, false, false, false, false, false, false, false, false, false, false, false, false, false, false, false, false, false, false, false, false, false, false, false, false, false] rfl rfl (by kernel_rfl) (fun _ _ _ h => h) (Or.inl ⟨by rfl, ?_⟩) ?_ ?_
  rotate_left
  · intro w'
    go_simp
    with_reducible rfl
  rotate_left
  · simp only [Act.put, List.setIfInBounds_toArray, List.set_cons_zero, List.set_cons_succ, i64_w, i32_w]
    rfl
  refine pure_ (i := 16) (N := some 57) (v := ?_) (a' := ?_) #[true, true, true, true, true, true, true, true, true, true, true, true, true, true, true, true, true, false, false, false, false, false, false, false, false, false, false, false, false, false, false, false, false, false, false, false, false, false, false, false, false, false, false] rfl rfl (by kernel_rfl) (fun _ _ _ h => h) (Or.inl ⟨by rfl, ?_⟩) ?_ ?_
  rotate_left
  · intro w'
    go_simp
    with_reducible rfl
  rotate_left
  · simp only [Act.put, List.setIfInBounds_toArray, List.set_cons_zero, List.set_cons_succ, i64_w, i32_w]
    rfl
  refine pure_ (i := 17) (N := some 58) (v := ?_) (a' := ?_) #[true, true, true, true, true, true, true, true, true, true, true, true, true, true, true, true, true, true, false, false, false, false, false, false, false, false, false, false, false, false, false, false, false, false, false, false, false, false, false, false, false, false, false] rfl rfl (by kernel_rfl) (fun _ _ _ h => h) (Or.inl ⟨by rfl, ?_⟩) ?_ ?_
  rotate_left
  · intro w'
    go_simp
    with_reducible rfl
  rotate_left
  · simp only [Act.put, List.setIfInBounds_toArray, List.set_cons_zero, List.set_cons_succ, i64_w, i32_w]
    rfl
  refine pure_ (i := 18) (N := some 59) (v := ?_) (a' := ?_) #[true, true, true, true, true, true, true, true, true, true, true, true, true, true, true, true, true, true, true, false, false, false, false, false, false, false, false, false, false, false, false, false, false, false, false, false, false, false, false, false, false, false, false] rfl rfl (by kernel_rfl) (fun _ _ _ h => h) (Or.inl ⟨by rfl, ?_⟩) ?_ ?_
  rotate_left
  · intro w'
    go_simp
    with_reducible rfl
  rotate_left
  · simp only [Act.put, List.setIfInBounds_toArray, List.set_cons_zero, List.set_cons_succ, i64_w, i32_w]
    rfl
  refine pure_ (i := 19) (N := some 60) (v := ?_) (a' := ?_) #[true, true, true, true, true, true, true, true, true, true, true, true, true, true, true, true, true, true, true, true, false, false, false, false, false, false, false, false, false, false, false, false, false, false, false, false, false, false, false, false, false, false, false] rfl rfl (by kernel_rfl) (fun _ _ _ h => h) (Or.inl ⟨by rfl, ?_⟩) ?_ ?_
  rotate_left
  · intro w'
    go_simp
    with_reducible rfl
  rotate_left
  · simp only [Act.put, List.setIfInBounds_toArray, List.set_cons_zero, List.set_cons_succ, i64_w, i32_w]
    rfl
  refine pure_ (i := 20) (N := some 61) (v := ?_) (a' := ?_) #[true, true, true, true, true, true, true, true, true, true, true, true, true, true, true, true, true, true, true, true, true, false, false, false, false, false, false, false, false, false, false, false, false, false, false, false, false, false, false, false, false, false, false] rfl rfl (by kernel_rfl) (fun _ _ _ h => h) (Or.inl ⟨by rfl, ?_⟩) ?_ ?_
  rotate_left
  · intro w'
    go_simp
    with_reducible rfl
  rotate_left
  · simp only [Act.put, List.setIfInBounds_toArray, List.set_cons_zero, List.set_cons_succ, i64_w, i32_w]
    rfl
  refine pure_ (i := 21) (N := some 62) (v := ?_) (a' := ?_) #[true, true, true, true, true, true, true, true, true, true, true, true, true, true, true, true, true, true, true, true, true, true, false, false, false, false, false, false, false, false, false, false, false, false, false, false, false, false, false, false, false, false, false] rfl rfl (by kernel_rfl) (fun _ _ _ h => h) (Or.inl ⟨by rfl, ?_⟩) ?_ ?_
  rotate_left
  · intro w'
    go_simp
    with_reducible rfl
  rotate_left
  · simp only [Act.put, List.setIfInBounds_toArray, List.set_cons_zero, List.set_cons_succ, i64_w, i32_w]
    rfl
  refine pure_ (i := 22) (N := some 63) (v := ?_) (a' := ?_) #[true, true, true, true, true, true, true, true, true, true, true, true, true, true, true, true, true, true, true, true, true, true, true, false, false, false, false, false, false, false, false, false, false, false, false, false, false, false, false, false, false, false, false] rfl rfl (by kernel_rfl) (fun _ _ _ h => h) (Or.inl ⟨by rfl, ?_⟩) ?_ ?_
  rotate_left
  · intro w'
    go_simp
    with_reducible rfl
  rotate_left
  · simp only [Act.put, List.setIfInBounds_toArray, List.set_cons_zero, List.set_cons_succ, i64_w, i32_w]
    rfl
  refine pure_ (i := 23) (N := some 64) (v := ?_) (a' := ?_) #[true, true, true, true, true, true, true, true, true, true, true, true, true, true, true, true, true, true, true, true, true, true, true, true, false, false, false, false, false, false, false, false, false, false, false, false, false, false, false, false, false, false, false] rfl rfl (by kernel_rfl) (fun _ _ _ h => h) (Or.inl ⟨by rfl, ?_⟩) ?_ ?_
  rotate_left
  · intro w'
    go_simp
    with_reducible rfl
  rotate_left
  · simp only [Act.put, List.setIfInBounds_toArray, List.set_cons_zero, List.set_cons_succ, i64_w, i32_w]
    rfl
  refine pure_ (i := 24) (N := some 65) (v := ?_) (a' := ?_) #[true, true, true, true, true, true, true, true, true, true, true, true, true, true, true, true, true, true, true, true, true, true, true, true, true, false, false, false, false, false, false, false, false, false, false, false, false, false, false, false, false, false, false] rfl rfl (by kernel_rfl) (fun _ _ _ h => h) (Or.inl ⟨by rfl, ?_⟩) ?_ ?_
  rotate_left
  · intro w'
    go_simp
    with_reducible rfl
  rotate_left
  · simp only [Act.put, List.setIfInBounds_toArray, List.set_cons_zero, List.set_cons_succ, i64_w, i32_w]
    rfl
  refine pure_ (i := 25) (N := some 66) (v := ?_) (a' := ?_) #[true, true, true, true, true, true, true, true, true, true, true, true, true, true, true, true, true, true, true, true, true, true, true, true, true, true, false, false, false, false, false, false, false, false, false, false, false, false, false, false, false, false, false] rfl rfl (by kernel_rfl) (fun _ _ _ h => h) (Or.inl ⟨by rfl, ?_⟩) ?_ ?_
  rotate_left
  · intro w'
    go_simp
    with_reducible rfl
  rotate_left
  · simp only [Act.put, List.setIfInBounds_toArray, List.set_cons_zero, List.set_cons_succ, i64_w, i32_w]
    rfl
  refine pure_ (i := 26) (N := some 67) (v := ?_) (a' := ?_) #[true, true, true, true, true, true, true, true, true, true, true, true, true, true, true, true, true, true, true, true, true, true, true, true, true, true, true, false, false, false, false, false, false, false, false, false, false, false, false, false, false, false, false] rfl rfl (by kernel_rfl) (fun _ _ _ h => h) (Or.inl ⟨by rfl, ?_⟩) ?_ ?_
  rotate_left
  · intro w'
    go_simp
    with_reducible rfl
  rotate_left
  · simp only [Act.put, List.setIfInBounds_toArray, List.set_cons_zero, List.set_cons_succ, i64_w, i32_w]
    rfl
  refine pure_ (i := 27) (N := some 68) (v := ?_) (a' := ?_) #[true, true, true, true, true, true, true, true, true, true, true, true, true, true, true, true, true, true, true, true, true, true, true, true, true, true, true, true, false, false, false, false, false, false, false, false, false, false, false, false, false, false, false] rfl rfl (by kernel_rfl) (fun _ _ _ h => h) (Or.inl ⟨by rfl, ?_⟩) ?_ ?_
  rotate_left
  · intro w'
    go_simp
    with_reducible rfl
  rotate_left
  · simp only [Act.put, List.setIfInBounds_toArray, List.set_cons_zero, List.set_cons_succ, i64_w, i32_w]
    rfl
  refine pure_ (i := 28) (N := some 69) (v := ?_) (a' := ?_) #[true, true, true, true, true, true, true, true, true, true, true, true, true, true, true, true, true, true, true, true, true, true, true, true, true, true, true, true, true, false, false, false, false, false, false, false, false, false, false, false, false, false, false] rfl rfl (by kernel_rfl) (fun _ _ _ h => h) (Or.inl ⟨by rfl, ?_⟩) ?_ ?_
  rotate_left
  · intro w'
    go_simp
    with_reducible rfl
  rotate_left
  · simp only [Act.put, List.setIfInBounds_toArray, List.set_cons_zero, List.set_cons_succ, i64_w, i32_w]
    rfl
  refine pure_ (i := 29) (N := some 70) (v := ?_) (a' := ?_) #[true, true, true, true, true, true, true, true, true, true, true, true, true, true, true, true, true, true, true, true, true, true, true, true, true, true, true, true, true, true, false, false, false, false, false, false, false, false, false, false, false, false, false] rfl rfl (by kernel_rfl) (fun _ _ _ h => h) (Or.inl ⟨by rfl, ?_⟩) ?_ ?_
  rotate_left
  · intro w'
    go_simp
    with_reducible rfl
  rotate_left
  · simp only [Act.put, List.setIfInBounds_toArray, List.set_cons_zero, List.set_cons_succ, i64_w, i32_w]
    rfl
  refine one_ (i := 30) (N := some 71) #[true, true, true, true, true, true, true, true, true, true, true, true, true, true, true, true, true, true, true, true, true, true, true, true, true, true, true, true, true, true, true, false, false, false, false, false, false, false, false, false, false, false, false] rfl rfl (by kernel_rfl) (by decide) (fun K hK => ?_)
  refine goes_ Try.func15 (by kernel_rfl) rfl #[.slice (some adB) z3.toNat cB, .slice AL z3.toNat cL] (by rfl) rfl rfl (by simp only [List.map_toArray, List.map_cons, List.map_nil]; rfl) ?_
  with_reducible refine (hS1).mono ?_
  rintro e w5 ⟨rfl, hb⟩
  refine ⟨_, rfl, ?_⟩
  have hb5 := below_step (below_drew1 (Below.refl w4.heap.size w4)) hb
  refine hK.out _ _ trivial (fun hHeld => ?_)
  clear hK K
  refine norm_ (a' := ?_) ?_ ?_
  rotate_left
  · show Act.put _ (some 71) _ = _
    simp only [Act.put, List.setIfInBounds_toArray, List.set_cons_zero, List.set_cons_succ, i64_w, i32_w]
    rfl
  refine pure_ (i := 31) (N := some 72) (v := ?_) (a' := ?_) #[true, true, true, true, true, true, true, true, true, true, true, true, true, true, true, true, true, true, true, true, true, true, true, true, true, true, true, true, true, true, true, true, false, false, false, false, false, false, false, false, false, false, false] rfl rfl (by kernel_rfl) (fun _ _ _ h => h) (Or.inl ⟨by rfl, ?_⟩) ?_ ?_
  rotate_left
  · intro w'
    go_simp
    with_reducible rfl
  rotate_left
  · simp only [Act.put, List.setIfInBounds_toArray, List.set_cons_zero, List.set_cons_succ, i64_w, i32_w]
    rfl
  refine pure_ (i := 32) (N := some 73) (v := ?_) (a' := ?_) #[true, true, true, true, true, true, true, true, true, true, true, true, true, true, true, true, true, true, true, true, true, true, true, true, true, true, true, true, true, true, true, true, true, false, false, false, false, false, false, false, false, false, false] rfl rfl (by kernel_rfl) (fun _ _ _ h => h) (Or.inl ⟨by rfl, ?_⟩) ?_ ?_
  rotate_left
  · intro w'
    go_simp
    with_reducible rfl
  rotate_left
  · simp only [Act.put, List.setIfInBounds_toArray, List.set_cons_zero, List.set_cons_succ, i64_w, i32_w]
    rfl
  refine pure_ (i := 33) (N := some 74) (v := ?_) (a' := ?_) #[true, true, true, true, true, true, true, true, true, true, true, true, true, true, true, true, true, true, true, true, true, true, true, true, true, true, true, true, true, true, true, true, true, true, false, false, false, false, false, false, false, false, false] rfl rfl (by kernel_rfl) (fun _ _ _ h => h) (Or.inl ⟨by rfl, ?_⟩) ?_ ?_
  rotate_left
  · intro w'
    go_simp
    with_reducible rfl
  rotate_left
  · simp only [Act.put, List.setIfInBounds_toArray, List.set_cons_zero, List.set_cons_succ, i64_w, i32_w]
    rfl
  refine pure_ (i := 34) (N := some 75) (v := ?_) (a' := ?_) #[true, true, true, true, true, true, true, true, true, true, true, true, true, true, true, true, true, true, true, true, true, true, true, true, true, true, true, true, true, true, true, true, true, true, true, false, false, false, false, false, false, false, false] rfl rfl (by kernel_rfl) (fun _ _ _ h => h) (Or.inl ⟨by rfl, ?_⟩) ?_ ?_
  rotate_left
  · intro w'
    go_simp
    with_reducible rfl
  rotate_left
  · simp only [Act.put, List.setIfInBounds_toArray, List.set_cons_zero, List.set_cons_succ, i64_w, i32_w]
    rfl
  refine pure_ (i := 35) (N := some 76) (v := ?_) (a' := ?_) #[true, true, true, true, true, true, true, true, true, true, true, true, true, true, true, true, true, true, true, true, true, true, true, true, true, true, true, true, true, true, true, true, true, true, true, true, false, false, false, false, false, false, false] rfl rfl (by kernel_rfl) (fun _ _ _ h => h) (Or.inl ⟨by rfl, ?_⟩) ?_ ?_
  rotate_left
  · intro w'
    go_simp
    with_reducible rfl
  rotate_left
  · simp only [Act.put, List.setIfInBounds_toArray, List.set_cons_zero, List.set_cons_succ, i64_w, i32_w]
    rfl
  refine pure_ (i := 36) (N := some 77) (v := ?_) (a' := ?_) #[true, true, true, true, true, true, true, true, true, true, true, true, true, true, true, true, true, true, true, true, true, true, true, true, true, true, true, true, true, true, true, true, true, true, true, true, true, false, false, false, false, false, false] rfl rfl (by kernel_rfl) (fun _ _ _ h => h) (Or.inl ⟨by rfl, ?_⟩) ?_ ?_
  rotate_left
  · intro w'
    go_simp
    with_reducible rfl
  rotate_left
  · simp only [Act.put, List.setIfInBounds_toArray, List.set_cons_zero, List.set_cons_succ, i64_w, i32_w]
    rfl
  refine pure_ (i := 37) (N := some 78) (v := ?_) (a' := ?_) #[true, true, true, true, true, true, true, true, true, true, true, true, true, true, true, true, true, true, true, true, true, true, true, true, true, true, true, true, true, true, true, true, true, true, true, true, true, true, false, false, false, false, false] rfl rfl (by kernel_rfl) (fun _ _ _ h => h) (Or.inl ⟨by rfl, ?_⟩) ?_ ?_
  rotate_left
  · intro w'
    go_simp
    with_reducible rfl
  rotate_left
  · simp only [Act.put, List.setIfInBounds_toArray, List.set_cons_zero, List.set_cons_succ, i64_w, i32_w]
    rfl
  refine pure_ (i := 38) (N := some 79) (v := ?_) (a' := ?_) #[true, true, true, true, true, true, true, true, true, true, true, true, true, true, true, true, true, true, true, true, true, true, true, true, true, true, true, true, true, true, true, true, true, true, true, true, true, true, true, false, false, false, false] rfl rfl (by kernel_rfl) (fun _ _ _ h => h) (Or.inl ⟨by rfl, ?_⟩) ?_ ?_
  rotate_left
  · intro w'
    go_simp
    with_reducible rfl
  rotate_left
  · simp only [Act.put, List.setIfInBounds_toArray, List.set_cons_zero, List.set_cons_succ, i64_w, i32_w]
    rfl
  refine pure_ (i := 39) (N := some 80) (v := ?_) (a' := ?_) #[true, true, true, true, true, true, true, true, true, true, true, true, true, true, true, true, true, true, true, true, true, true, true, true, true, true, true, true, true, true, true, true, true, true, true, true, true, true, true, true, false, false, false] rfl rfl (by kernel_rfl) (fun _ _ _ h => h) (Or.inl ⟨by rfl, ?_⟩) ?_ ?_
  rotate_left
  · intro w'
    go_simp
    with_reducible rfl
  rotate_left
  · simp only [Act.put, List.setIfInBounds_toArray, List.set_cons_zero, List.set_cons_succ, i64_w, i32_w]
    rfl
  refine one_ (i := 40) (N := some 81) #[true, true, true, true, true, true, true, true, true, true, true, true, true, true, true, true, true, true, true, true, true, true, true, true, true, true, true, true, true, true, true, true, true, true, true, true, true, true, true, true, true, false, false] rfl rfl (by kernel_rfl) (by decide) (fun K hK => ?_)
  refine goes_ Try.func15 (by kernel_rfl) rfl #[.slice (some (adB.add (z3.toNat * 3))) (BO.length - z3.toNat) (cB - z3.toNat), .slice AM M.length cM] (by rfl) rfl rfl (by simp only [List.map_toArray, List.map_cons, List.map_nil]; rfl) ?_
  with_reducible refine (hS2 _ hb5).mono ?_
  rintro e w6 ⟨rfl, hb6⟩
  refine ⟨_, rfl, ?_⟩
  refine hK.out _ _ trivial (fun hHeld => ?_)
  clear hK K
  refine norm_ (a' := ?_) ?_ ?_
  rotate_left
  · show Act.put _ (some 81) _ = _
    simp only [Act.put, List.setIfInBounds_toArray, List.set_cons_zero, List.set_cons_succ, i64_w, i32_w]
    rfl
  refine pure_ (i := 41) (N := some 82) (v := ?_) (a' := ?_) #[true, true, true, true, true, true, true, true, true, true, true, true, true, true, true, true, true, true, true, true, true, true, true, true, true, true, true, true, true, true, true, true, true, true, true, true, true, true, true, true, true, true, false] rfl rfl (by kernel_rfl) (fun _ _ _ h => h) (Or.inl ⟨by rfl, ?_⟩) ?_ ?_
  rotate_left
  · intro w'
    go_simp
    with_reducible rfl
  rotate_left
  · simp only [Act.put, List.setIfInBounds_toArray, List.set_cons_zero, List.set_cons_succ, i64_w, i32_w]
    rfl
  refine pure_ (i := 42) (N := some 83) (v := ?_) (a' := ?_) #[true, true, true, true, true, true, true, true, true, true, true, true, true, true, true, true, true, true, true, true, true, true, true, true, true, true, true, true, true, true, true, true, true, true, true, true, true, true, true, true, true, true, true] rfl rfl (by kernel_rfl) (fun _ _ _ h => h) (Or.inl ⟨by rfl, ?_⟩) ?_ ?_
  rotate_left
  · intro w'
    go_simp
    with_reducible rfl
  rotate_left
  · simp only [Act.put, List.setIfInBounds_toArray, List.set_cons_zero, List.set_cons_succ, i64_w, i32_w]
    rfl
  refine done_ (by kernel_rfl) ?_
  have HB6 := Lib.hid (below_step HB4.out (below_step hb5 hb6))
  have h46 := below_step hb5 hb6
  have QB := Lib.hid (Kd.C_below RB.out h46)
  have QM := Lib.hid (Kd.C_below RM.out h46)
  have QF := Lib.hid (Kd.C_below RF.out h46)
  have QD := Lib.hid (Kd.C_below RD.out h46)
  have QE := Lib.hid (Kd.C_below RE.out h46)
  have HMF := Lib.hid hmf
  have HEF := Lib.hid hef
  clear hb hb5 hb6 h46 RB RM RF RD RE RL hS1 hS2 HB4 hmf hef
  go_wp2_with fail
  go_loopg [11] (M.length + 1) (fun kq v11 w' => ∃ j : Nat, v11 = .int .i64 (j : Int) ∧ Aside0 (j ≤ M.length ∧ j + kq = M.length + 1) ∧ Drawn0 w6 w')
  case atStart => exact ⟨0, rfl, ⟨by omega, by omega⟩, by repeat (first | exact Drawn0.refl _ | apply Drawn0.step)⟩
  case round =>
    obtain ⟨j, rfl, HJ, hD⟩ := hrel
    obtain ⟨hj1, hj2⟩ := HJ.out
    have HDr := Lib.hid hD
    clear hD
    by_cases hj : j < M.length
    · obtain ⟨hLT, hBl, hFl, hBO, hF, hTl⟩ := HX.out
      obtain ⟨hl1, hl2⟩ := HY.out
      obtain ⟨e1, e2, e3, e4, ez⟩ := HE.out
      have hcc : decide ((j : Int) < (M.length : Int)) = true := decide_eq_true (by omega)
      have hccn : decide (j < M.length) = true := decide_eq_true hj
      obtain ⟨z5, hz5⟩ : ∃ z, wrap64 (z3 + (j : Int)) = z := ⟨_, rfl⟩
      have hz5w : IntKind.i64.wrap (z3 + (j : Int)) = z5 := (i64_w _).trans hz5
      have e5 : z5 = ((T.length + j : Nat) : Int) := by rw [← hz5, wrap_id (by omega) (by omega)]; omega
      obtain ⟨adB', q1, hx0, hx1, hx2⟩ := at_T35 QB.out z5 (by omega) (by omega)
      obtain ⟨adM, q2, hy0, hy1, hy2⟩ := at_T35 QM.out (j : Int) (by omega) (by omega)
      obtain rfl : adB = adB' := by injection q1
      subst q2
      have hxy : (rd_T35 BO z5).f1 = (rd_T35 M (j : Int)).f1 + ((a0.size : Int) + 1) := by
        have hlt : T.length + j < BO.length := by omega
        rw [e5, rdK BO _ hlt, rdK M j hj]
        subst hBO
        rw [List.getElem_append_right (by omega)]
        simp [shT]
      have hmj := HMF.out (rd_T35 M (j : Int)) (by rw [rdK M j hj]; exact List.getElem_mem hj)
      generalize (rd_T35 BO z5).f1 = u1 at *
      generalize hrm : (rd_T35 M (j : Int)).f1 = u2 at *
      replace hx1 := ((HDr.out.below).cell (World.block_lt_of_cell? w6 _ hx1)).trans hx1
      replace hy1 := ((HDr.out.below).cell (World.block_lt_of_cell? w6 _ hy1)).trans hy1
      simp only [Int.toNat_natCast] at hy1
      obtain ⟨z6, hz6⟩ : ∃ z, wrap64 (u2 + (a0.size : Int)) = z := ⟨_, rfl⟩
      have hz6w : IntKind.i64.wrap (u2 + (a0.size : Int)) = z6 := (i64_w _).trans hz6
      have e6 : z6 = u2 + (a0.size : Int) := by rw [← hz6, wrap_id (by omega) (by omega)]
      obtain ⟨z7, hz7⟩ : ∃ z, wrap64 (z6 + 1) = z := ⟨_, rfl⟩
      have hz7w : IntKind.i64.wrap (z6 + 1) = z7 := (i64_w _).trans hz7
      have e7 : z7 = u1 := by rw [← hz7, wrap_id (by omega) (by omega)]; omega
      have n1 : (u1 == z7) = true := beq_iff_eq.2 e7.symm
      have n2 : (u1 != z7) = false := bne_eq_false_iff_eq.2 e7.symm
      have m1 : (0 ≤ z5) = True := eq_true (by omega)
      have m2 : (z5 < (BO.length : Int)) = True := eq_true (by omega)
      have m3 : (0 ≤ (j : Int)) = True := eq_true (by omega)
      have m4 : ((j : Int) < (M.length : Int)) = True := eq_true (by omega)
      have m5 : (j < M.length) = True := eq_true hj
      clear hx0 hx2 hy0 hy2 hLT hBl hFl hBO hF hTl hl1 hl2 e1 e2 e3 e4 ez e5 e6 e7 hz5 hz6 hz7 hxy hmj hrm
      have HJ2 := Lib.hid hj
      clear hj hj2
      go_wp2_with fail
      repeat (go_quiet (fail); try go_wp2)
      go_roundg (gk - 1)
      case measure => have := HJ.out; omega
      case rel => exact ⟨j + 1, by have := HJ2.out; have := HY.out.2.1; rw [← i64_w, IntWalk.i64_in _ ⟨by omega, by omega⟩]; rfl, ⟨by have := HJ2.out; omega, by have := HJ.out; have := HJ2.out; omega⟩, by obtain ⟨⟨n, hn⟩⟩ := HDr.out; subst hn; repeat (first | exact Drawn0.refl _ | apply Drawn0.step)⟩
    · have hcc : decide ((j : Int) < (M.length : Int)) = false := decide_eq_false (by omega)
      have hccn : decide (j < M.length) = false := decide_eq_false hj
      clear hj hj2
      go_wp2_with fail
      go_loopg [12] (F.length + 1) (fun kq v12 w' => ∃ i : Nat, v12 = .int .i64 (i : Int) ∧ Aside0 (i ≤ F.length ∧ i + kq = F.length + 1) ∧ Drawn0 w6 w')
      case atStart => exact ⟨0, rfl, ⟨by omega, by omega⟩, HDr.out⟩
      case round =>
        obtain ⟨i, rfl, HI, hD⟩ := hrel
        obtain ⟨hi1, hi2⟩ := HI.out
        have HDs := Lib.hid hD
        clear hD
        by_cases hi : i < F.length
        · obtain ⟨hLT, hBl, hFl, hBO, hF, hTl⟩ := HX.out
          obtain ⟨hl1, hl2⟩ := HY.out
          have fcc : decide ((i : Int) < (F.length : Int)) = true := decide_eq_true (by omega)
          have fccn : decide (i < F.length) = true := decide_eq_true hi
          obtain ⟨adF, q1, hx0, hx1, hx2⟩ := at_T39 QF.out (i : Int) (by omega) (by omega)
          subst q1
          have k3 : (0 ≤ (i : Int)) = True := eq_true (by omega)
          have k4 : ((i : Int) < (F.length : Int)) = True := eq_true (by omega)
          have k5 : (i < F.length) = True := eq_true hi
          replace hx0 := ((HDs.out.below).cell (World.block_lt_of_cell? w6 _ hx0)).trans hx0
          replace hx1 := ((HDs.out.below).cell (World.block_lt_of_cell? w6 _ hx1)).trans hx1
          replace hx2 := ((HDs.out.below).cell (World.block_lt_of_cell? w6 _ hx2)).trans hx2
          simp only [Int.toNat_natCast] at hx0 hx1 hx2
          by_cases hd : i < D.length
          · obtain ⟨adD, q2, hy0, hy1, hy2⟩ := at_T39 QD.out (i : Int) (by omega) (by omega)
            subst q2
            have hxy : rd_T39 F (i : Int) = rd_T39 D (i : Int) := by
              rw [rdG F i hi, rdG D i hd]
              subst hF
              rw [List.getElem_append_left hd]
            rw [hxy] at hx0 hx1 hx2
            replace hy0 := ((HDs.out.below).cell (World.block_lt_of_cell? w6 _ hy0)).trans hy0
            replace hy1 := ((HDs.out.below).cell (World.block_lt_of_cell? w6 _ hy1)).trans hy1
            replace hy2 := ((HDs.out.below).cell (World.block_lt_of_cell? w6 _ hy2)).trans hy2
            simp only [Int.toNat_natCast] at hy0 hy1 hy2
            generalize rd_T39 D (i : Int) = x at *
            have d1 : decide ((i : Int) < (D.length : Int)) = true := decide_eq_true (by omega)
            have d2 : decide (i < D.length) = true := decide_eq_true hd
            have d3 : decide ((i : Int) ≥ (D.length : Int)) = false := decide_eq_false (by omega)
            have d4 : decide (D.length ≤ i) = false := decide_eq_false (by omega)
            have d5 : ((i : Int) < (D.length : Int)) = True := eq_true (by omega)
            have d6 : (i < D.length) = True := eq_true hd
            have d7 : (D.length ≤ i) = False := eq_false (by omega)
            clear hLT hBl hFl hBO hF hTl hl1 hl2 hxy hi2
            have HI2 := Lib.hid hi
            clear hi hd
            go_wp2_with fail
            repeat (go_quiet (fail); try go_wp2)
            go_roundg (gk - 1)
            case measure => have := HI.out; omega
            case rel => exact ⟨i + 1, by have := HI2.out; have := HY.out.1.2; have := HY.out.2.2; have := HX.out.2.2.1; rw [← i64_w, IntWalk.i64_in _ ⟨by omega, by omega⟩]; rfl, ⟨by have := HI2.out; omega, by have := HI.out; have := HI2.out; omega⟩, by obtain ⟨⟨n, hn⟩⟩ := HDs.out; subst hn; repeat (first | exact Drawn0.refl _ | apply Drawn0.step)⟩
          · obtain ⟨z8, hz8⟩ : ∃ z, wrap64 ((i : Int) - (D.length : Int)) = z := ⟨_, rfl⟩
            have hz8w : IntKind.i64.wrap ((i : Int) - (D.length : Int)) = z8 := (i64_w _).trans hz8
            have e8 : z8 = ((i - D.length : Nat) : Int) := by rw [← hz8, wrap_id (by omega) (by omega)]; omega
            obtain ⟨adE, q2, hy0, hy1, hy2⟩ := at_T39 QE.out z8 (by omega) (by omega)
            subst q2
            have hlt : i - D.length < E.length := by omega
            have hxy : (rd_T39 F (i : Int)).f0 = (rd_T39 E z8).f0 + ((a0.size : Int) + 1) := by
              rw [rdG F i hi, e8, rdG E _ hlt]
              subst hF
              rw [List.getElem_append_right (by omega)]
              simp [shD]
            have hmj := HEF.out (rd_T39 E z8) (by rw [e8, rdG E _ hlt]; exact List.getElem_mem hlt)
            replace hy0 := ((HDs.out.below).cell (World.block_lt_of_cell? w6 _ hy0)).trans hy0
            generalize (rd_T39 F (i : Int)).f0 = u1 at *
            generalize (rd_T39 E z8).f0 = u2 at *
            obtain ⟨z6, hz6⟩ : ∃ z, wrap64 (u2 + (a0.size : Int)) = z := ⟨_, rfl⟩
            have hz6w : IntKind.i64.wrap (u2 + (a0.size : Int)) = z6 := (i64_w _).trans hz6
            have e6 : z6 = u2 + (a0.size : Int) := by rw [← hz6, wrap_id (by omega) (by omega)]
            obtain ⟨z7, hz7⟩ : ∃ z, wrap64 (z6 + 1) = z := ⟨_, rfl⟩
            have hz7w : IntKind.i64.wrap (z6 + 1) = z7 := (i64_w _).trans hz7
            have e7 : z7 = u1 := by rw [← hz7, wrap_id (by omega) (by omega)]; omega
            have n1 : (u1 == z7) = true := beq_iff_eq.2 e7.symm
            have n2 : (u1 != z7) = false := bne_eq_false_iff_eq.2 e7.symm
            have m1 : (0 ≤ z8) = True := eq_true (by omega)
            have m2 : (z8 < (E.length : Int)) = True := eq_true (by omega)
            have d1 : decide ((i : Int) < (D.length : Int)) = false := decide_eq_false (by omega)
            have d2 : decide (i < D.length) = false := decide_eq_false hd
            have d3 : decide ((i : Int) ≥ (D.length : Int)) = true := decide_eq_true (by omega)
            have d4 : decide (D.length ≤ i) = true := decide_eq_true (by omega)
            have d6 : (i < D.length) = False := eq_false hd
            have d7 : (D.length ≤ i) = True := eq_true (by omega)
            clear hLT hBl hFl hBO hF hTl hl1 hl2 hxy hi2 e8 e6 e7 hz8 hz6 hz7 hmj hlt hy1 hy2
            have HI2 := Lib.hid hi
            clear hi hd
            go_wp2_with fail
            repeat (go_quiet (fail); try go_wp2)
            go_roundg (gk - 1)
            case measure => have := HI.out; omega
            case rel => exact ⟨i + 1, by have := HI2.out; have := HY.out.1.2; have := HY.out.2.2; have := HX.out.2.2.1; rw [← i64_w, IntWalk.i64_in _ ⟨by omega, by omega⟩]; rfl, ⟨by have := HI2.out; omega, by have := HI.out; have := HI2.out; omega⟩, by obtain ⟨⟨n, hn⟩⟩ := HDs.out; subst hn; repeat (first | exact Drawn0.refl _ | apply Drawn0.step)⟩
        · have fcc : decide ((i : Int) < (F.length : Int)) = false := decide_eq_false (by omega)
          have fccn : decide (i < F.length) = false := decide_eq_false hi
          clear hi hi2
          go_wp2_with fail
          go_returns
          exact ⟨rfl, below_drawn HB6.out HDs.out⟩

end Go.Proofs.Ytmbbebdpmffihaa.PA
