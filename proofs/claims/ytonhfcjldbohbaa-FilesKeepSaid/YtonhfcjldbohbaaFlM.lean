/- files: FilesNames' walk. -/
import Derived.Test.YtonhfcjldbohbaaFlL
namespace Go.Proofs.Ytonhfcjldbohbaa.Fi
open Go Go.RowKit Go.ChangeMaps Go.MapKept Go.Proofs.Ytonhfcjldbohbaa.PA Go.Proofs.YtonhfcjldbohbaaW.PrintWords Go.Proofs.YtonhfcjldbohbaaW.PrintLast Go.Proofs.YtonhfcjldbohbaaW.PrintMore
attribute [local go_sem] Oper.semAt_some
set_option linter.unusedVariables false
set_option linter.unusedSimpArgs false

theorem putT_len (T : Tb) (n s : ByteArray) (tier : Int) : (putT T n s tier).1.l.length ≤ T.l.length + 1 := by
  unfold putT
  split
  · exact Nat.le_succ _
  · split
    · split
      · exact Nat.le_succ _
      · split
        · exact Nat.le_succ _
        · exact len_setL _
    · split
      · exact Nat.le_succ _
      · split
        · exact Nat.le_succ _
        · exact len_setL _
theorem dropT_len (T : Tb) (n : ByteArray) : (dropT T n).1.l.length ≤ T.l.length + 1 := by
  unfold dropT
  split
  · exact Nat.le_succ _
  · split
    · exact Nat.le_succ _
    · exact len_setL _
theorem TB.src {B : Nat} {S : Nat → Prop} {t : Nat} {T : Tb} {w : World} (h : TB B S t T w) : SrcOf B S (some ⟨t, 0, none⟩) (allF T) w := .inr ⟨t, T, rfl, h, rfl⟩
/-- All, of a table. -/
theorem all_any {B : Nat} {S : Nat → Prop} {t : Nat} {T : Tb} {w : World} (hB : B ≤ w.heap.size) (h : TB B S t T w) :
    Calls Try.prog 12 #[.pointer (some ⟨t, 0, none⟩)] w fun e w' => ∃ A c, e = .returned (.slice A (allF T).length c) ∧ w'.ownsRow w.heap.size 32 4 (.slice A (allF T).length c) (allF T).length (fcs (allF T)) ∧ Below w.heap.size w w' ∧ TB B S t T w' := by
  refine (all_src B S (some ⟨t, 0, none⟩) (allF T) w h.src).mono ?_
  rintro e w' ⟨v, rfl, h1, h2⟩
  obtain ⟨A, c, rfl⟩ := own_slice h1
  exact ⟨A, c, rfl, h1, h2, h.below h2⟩
theorem all_eq {B : Nat} {S : Nat → Prop} {t : Nat} {T : Tb} {w w0 : World} {L : List Fl} (n : Nat) (hL : allF T = L) (hn : L.length = n) (hB : B ≤ w.heap.size) (h : TB B S t T w) (hb : Below w0.heap.size w0 w) :
    Calls Try.prog 12 #[.pointer (some ⟨t, 0, none⟩)] w fun e w' => ∃ A c, e = .returned (.slice A n c) ∧ w'.ownsRow w.heap.size 32 4 (.slice A n c) n (fcs L) ∧ Below w0.heap.size w0 w' ∧ TB B S t T w' ∧ B ≤ w'.heap.size := by
  subst hL
  subst hn
  refine (all_any hB h).mono ?_
  rintro e w' ⟨A, c, rfl, h1, h2, h3⟩
  exact ⟨A, c, rfl, h1, hb.trans (h2.mono hb.size), h3, Nat.le_trans hB h2.size⟩
theorem row_at {w : World} {B n c j i : Nat} {A : Option Addr} {ys : List Fl} {u : Value} (h : w.ownsRow B 32 4 (.slice A n c) n (fcs ys)) (hj : j < ys.length) (hi : i < 4) (hu : (fc ys[j])[i]? = some u) : ∃ g, A = some ⟨g, 0, none⟩ ∧ w.cell? ⟨g, j * 4 + i, none⟩ = some u := by
  have hl := h.1
  rw [fcs_len] at hl
  obtain ⟨g, cap, e, _⟩ := h.form (by omega)
  injection e with e1 e2 e3
  subst e1
  subst e3
  exact ⟨g, rfl, (h.cellAt (j * 4 + i) (by omega)).trans ((fcs_get ys j hj i hi).trans hu)⟩
set_option maxHeartbeats 4000000 in
set_option maxRecDepth 100000 in
theorem names_far (name : ByteArray) (x1 : Int) (w : World) (hs : 300 < name.size) :
    Calls Try.prog 3 #[.string name, .int .u8 x1] w fun e w' => e = .returned (.bool true) ∧ Below w.heap.size w w' := by
  have d1 : decide (300 < (name.size : Int)) = true := decide_eq_true (by omega)
  have d2 : decide (300 < name.size) = true := decide_eq_true hs
  clear hs
  go_enter Try.func3, Try.ntmps3
  go_wp2_with fail
  refine (alive_any w).mono ?_
  rintro e w1 ⟨rfl, hb1⟩
  have HB1 := Aside0.mk hb1
  clear hb1
  go_wp2
  go_ret
  exact ⟨rfl, HB1.out⟩
set_option maxHeartbeats 4000000 in
set_option maxRecDepth 100000 in
theorem names_near (name : ByteArray) (x1 : Int) (w : World) (hs : name.size ≤ 300) (h0 : 0 ≤ x1) (h1 : x1 < 256) :
    Calls Try.prog 3 #[.string name, .int .u8 x1] w fun e w' => e = .returned (.bool true) ∧ Below w.heap.size w w' := by
  obtain ⟨k, hk40, hk⟩ : ∃ k : Nat, k < 40 ∧ x1.tmod 40 = k := ⟨(x1 % 40).toNat, by omega, by rw [Int.tmod_eq_emod_of_nonneg h0]; omega⟩
  have hk2 : x1 % 40 = k := by rw [← hk, Int.tmod_eq_emod_of_nonneg h0]
  have d1 : decide (300 < (name.size : Int)) = false := decide_eq_false (by omega)
  have d2 : decide (300 < name.size) = false := decide_eq_false (by omega)
  have HS := Aside0.mk hs
  clear hs
  go_enter Try.func3, Try.ntmps3
  go_wp2_with fail
  refine (alive_any w).mono ?_
  rintro e w1 ⟨rfl, hb1⟩
  have HB1 := Aside0.mk hb1
  clear hb1
  go_wp2_with fail
  refine (new_any 10 (by decide) w1).mono ?_
  rintro e w2 ⟨rfl, hT, hb⟩
  have hz := hb.size
  have HT2 := Aside0.mk hT
  have HB2 : Aside0 (Below w1.heap.size w1 w2) := ⟨hb⟩
  clear hT hb
  obtain ⟨t, ht⟩ : ∃ t, w1.heap.size + 2 = t := ⟨_, rfl⟩
  rw [ht] at HT2 ⊢
  go_wp2_with fail
  refine (put_any hz HT2.out (by decide) name bX 0 (by have := HS.out; omega)).mono ?_
  rintro e w3 ⟨rfl, hT, hb⟩
  change TB _ _ _ (nmT1 name).1 _ at hT
  rw [show (putT ⟨10, 0, []⟩ name bX 0).2 = (nmT1 name).2 from rfl]
  have HT3 := Aside0.mk hT
  have HB3 : Aside0 (Below w.heap.size w w3) := ⟨HB1.out.trans ((HB2.out.trans hb.below).mono HB1.out.size)⟩
  have hz3 : w1.heap.size ≤ w3.heap.size := Nat.le_trans hz hb.below.size
  clear hT hb HT2 HB2 hz d1 d2
  have HE := Aside0.mk (nm_out name (longB k))
  obtain ⟨R1, hR1⟩ : ∃ R, nmT1 name = R := ⟨_, rfl⟩
  have hl1 : R1.1.l.length ≤ 1 := by rw [← hR1]; exact putT_len _ _ _ _
  have h2 : ∀ l, nmT2 name l = putT R1.1 l bY 0 := fun l => by unfold nmT2; rw [hR1]
  rw [hR1, h2] at HE
  rw [hR1] at HT3 ⊢
  clear hR1 h2
  go_wp2_with fail
  go_loopg [8, 9] k (fun kq v8 v9 wr => ∃ (j : Nat), v9 = .int .i64 j ∧ v8 = .string (longB j) ∧ wr = w3 ∧ Aside0 (j ≤ k ∧ kq = k - j))
  case atStart => exact ⟨0, rfl, rfl, rfl, ⟨by omega⟩⟩
  case round =>
    obtain ⟨j, rfl, rfl, rfl, HJ⟩ := hrel
    obtain ⟨hj, hkq⟩ := HJ.out
    by_cases hlt : j < k
    · have hdj : decide ((j : Int) < (k : Int)) = true := decide_eq_true (by omega)
      have hdj2 : decide (j < k) = true := decide_eq_true hlt
      have hsz := longB_size j
      have hcat := longB_succ j
      go_wp2
      go_roundg (k - (j + 1))
      case measure => omega
      case rel => exact ⟨j + 1, by go_num, rfl, rfl, ⟨by omega⟩⟩
    · obtain rfl : j = k := by omega
      have hdj : decide ((j : Int) < (j : Int)) = false := decide_eq_false (by omega)
      have hdj2 : decide (j < j) = false := decide_eq_false (by omega)
      obtain ⟨w3, hw3⟩ : ∃ x, wr = x := ⟨_, rfl⟩
      subst hw3
      have hsz := longB_size j
      have HSZ := Aside0.mk hsz
      clear hsz
      go_wp2_with fail
      refine (put_any hz3 HT3.out (by omega) (longB j) bY 0 (by rw [HSZ.out]; omega)).mono ?_
      rintro e w4 ⟨rfl, hT, hb⟩
      have hz4 : w1.heap.size ≤ w4.heap.size := Nat.le_trans hz3 hb.below.size
      have HB4 : Aside0 (Below w.heap.size w w4) := ⟨HB3.out.trans (hb.below.mono HB1.out.size)⟩
      obtain ⟨R2, hR2⟩ : ∃ R, putT R1.1 (longB j) bY 0 = R := ⟨_, rfl⟩
      rw [hR2] at hT HE ⊢
      have HT4 := Aside0.mk hT
      clear hR2 hT hb HT3 HB3 hz3 hdj hdj2
      obtain ⟨kr, hkr⟩ := ref_name name (by have := HS.out; omega)
      have hRN := cupelref13_Name.calls kr name _ w4 hkr
      change Calls _ _ _ _ (fun e w' => e = .returned (.bool (okN name)) ∧ _) at hRN
      have HRN := Aside0.mk hRN
      obtain ⟨HE1, hf⟩ := HE.out
      have HE2 := Aside0.mk HE1
      have HF := Aside0.mk hf
      have hok : okN (longB j) = decide (1 ≤ j ∧ j ≤ 32) := by
        unfold okN
        rw [HSZ.out, nameOk_long j hk40]
        by_cases q1 : 1 ≤ j <;> by_cases q2 : j ≤ 32 <;> simp [q1, q2]
      have HOK := Aside0.mk hok
      have hF2 : (R2.2 = 0 ∧ 1 ≤ j ∧ j ≤ 32) ∨ (R2.2 = 1 ∧ j < 1) ∨ (R2.2 = 1 ∧ 1 ≤ j ∧ 32 < j) := by
        rw [hok] at hf
        by_cases q1 : 1 ≤ j
        · by_cases q2 : j ≤ 32
          · rw [decide_eq_true ⟨q1, q2⟩] at hf; exact .inl ⟨hf, q1, q2⟩
          · rw [decide_eq_false (fun e => q2 e.2)] at hf; exact .inr (.inr ⟨hf, q1, by omega⟩)
        · rw [decide_eq_false (fun e => q1 e.1)] at hf; exact .inr (.inl ⟨hf, by omega⟩)
      clear HE HE1 hf hok hkr hRN HF HOK
      have hsz := HSZ.out
      clear HSZ hk hk2 h0 h1 HJ hj hkq
      generalize hr1 : R1.2 = e1 at HE2 hF2 ⊢
      generalize hr2 : R2.2 = f1 at HE2 hF2 ⊢
      generalize okN name = okn at HE2 HRN ⊢
      generalize R2.1 = T2 at HE2 HT4
      clear hr1 hr2 hl1
      rcases hF2 with ⟨rfl, q1, q2⟩ | ⟨rfl, q1⟩ | ⟨rfl, q1, q2⟩ <;> rcases HE2.out with ⟨rfl, rfl, a, (⟨a3, a4⟩ | ⟨b, a3, (a4 | ⟨a4, a5⟩)⟩)⟩ | ⟨rfl, rfl, (a3 | ⟨a, a3, a4⟩)⟩
      · have d1 : decide (1 ≤ (j : Int)) = true := decide_eq_true (by omega)
        have d2 : decide ((j : Int) ≤ 32) = true := decide_eq_true (by omega)
        have d3 : decide (1 ≤ j) = true := decide_eq_true (by omega)
        have d4 : decide (j ≤ 32) = true := decide_eq_true (by omega)
        have hqa : (a.f0.toList == name.toList) = true := by rw [toList_eq]; simpa using a4
        have A3 := Aside0.mk a3
        clear HE2 a3 q1 q2 a4
        go_wp2_with fail
        refine HRN.out.mono ?_
        rintro e w5 ⟨rfl, hb5⟩
        have HT5 := Aside0.mk (HT4.out.below hb5)
        have HB5 : Aside0 (Below w.heap.size w w5) := ⟨HB4.out.trans (hb5.mono HB4.out.size)⟩
        have hz5 : w1.heap.size ≤ w5.heap.size := Nat.le_trans hz4 hb5.size
        clear hb5 HT4 HB4 HRN hz4
        go_wp2_with fail
        refine (all_eq 1 A3.out rfl hz5 HT5.out HB5.out).mono ?_
        rintro e w6 ⟨A6, c6, rfl, hrow, hb, hT, hz6⟩
        have HT6 := Aside0.mk hT
        have HB6 := Aside0.mk hb
        clear hrow hb hT HT5 HB5 hz5
        go_wp2_with fail
        refine (all_eq 1 A3.out rfl hz6 HT6.out HB6.out).mono ?_
        rintro e w7 ⟨A7, c7, rfl, hrow, hb, hT, hz7⟩
        have HT7 := Aside0.mk hT
        have HB7 := Aside0.mk hb
        obtain ⟨g7, rfl, hc7⟩ := row_at hrow (j := 0) (i := 0) (by simp) (by decide) rfl
        simp only [Nat.zero_mul, Nat.one_mul, Nat.zero_add, Nat.add_zero] at hc7
        change w7.cell? _ = some (.string a.f0) at hc7
        clear hrow hb hT HT6 HB6 hz6
        go_wp2
        go_ret
        exact ⟨rfl, HB7.out⟩
      · have d1 : decide (1 ≤ (j : Int)) = true := decide_eq_true (by omega)
        have d2 : decide ((j : Int) ≤ 32) = true := decide_eq_true (by omega)
        have d3 : decide (1 ≤ j) = true := decide_eq_true (by omega)
        have d4 : decide (j ≤ 32) = true := decide_eq_true (by omega)
        have hqa : (a.f0.toList == name.toList) = true := by rw [toList_eq]; simpa using a4
        have A3 := Aside0.mk a3
        clear HE2 a3 q1 q2 a4
        go_wp2_with fail
        refine HRN.out.mono ?_
        rintro e w5 ⟨rfl, hb5⟩
        have HT5 := Aside0.mk (HT4.out.below hb5)
        have HB5 : Aside0 (Below w.heap.size w w5) := ⟨HB4.out.trans (hb5.mono HB4.out.size)⟩
        have hz5 : w1.heap.size ≤ w5.heap.size := Nat.le_trans hz4 hb5.size
        clear hb5 HT4 HB4 HRN hz4
        go_wp2_with fail
        refine (all_eq 2 A3.out rfl hz5 HT5.out HB5.out).mono ?_
        rintro e w6 ⟨A6, c6, rfl, hrow, hb, hT, hz6⟩
        have HT6 := Aside0.mk hT
        have HB6 := Aside0.mk hb
        clear hrow hb hT HT5 HB5 hz5
        go_wp2_with fail
        refine (all_eq 2 A3.out rfl hz6 HT6.out HB6.out).mono ?_
        rintro e w7 ⟨A7, c7, rfl, hrow, hb, hT, hz7⟩
        have HT7 := Aside0.mk hT
        have HB7 := Aside0.mk hb
        obtain ⟨g7, rfl, hc7⟩ := row_at hrow (j := 0) (i := 0) (by simp) (by decide) rfl
        simp only [Nat.zero_mul, Nat.one_mul, Nat.zero_add, Nat.add_zero] at hc7
        change w7.cell? _ = some (.string a.f0) at hc7
        clear hrow hb hT HT6 HB6 hz6
        go_wp2
        go_ret
        exact ⟨rfl, HB7.out⟩
      · have d1 : decide (1 ≤ (j : Int)) = true := decide_eq_true (by omega)
        have d2 : decide ((j : Int) ≤ 32) = true := decide_eq_true (by omega)
        have d3 : decide (1 ≤ j) = true := decide_eq_true (by omega)
        have d4 : decide (j ≤ 32) = true := decide_eq_true (by omega)
        have hqa : (a.f0.toList == name.toList) = false := by rw [toList_eq]; simpa using a4
        have hqb : (b.f0.toList == name.toList) = true := by rw [toList_eq]; simpa using a5
        have A3 := Aside0.mk a3
        clear HE2 a3 q1 q2 a4 a5
        go_wp2_with fail
        refine HRN.out.mono ?_
        rintro e w5 ⟨rfl, hb5⟩
        have HT5 := Aside0.mk (HT4.out.below hb5)
        have HB5 : Aside0 (Below w.heap.size w w5) := ⟨HB4.out.trans (hb5.mono HB4.out.size)⟩
        have hz5 : w1.heap.size ≤ w5.heap.size := Nat.le_trans hz4 hb5.size
        clear hb5 HT4 HB4 HRN hz4
        go_wp2_with fail
        refine (all_eq 2 A3.out rfl hz5 HT5.out HB5.out).mono ?_
        rintro e w6 ⟨A6, c6, rfl, hrow, hb, hT, hz6⟩
        have HT6 := Aside0.mk hT
        have HB6 := Aside0.mk hb
        clear hrow hb hT HT5 HB5 hz5
        go_wp2_with fail
        refine (all_eq 2 A3.out rfl hz6 HT6.out HB6.out).mono ?_
        rintro e w7 ⟨A7, c7, rfl, hrow, hb, hT, hz7⟩
        have HT7 := Aside0.mk hT
        have HB7 := Aside0.mk hb
        obtain ⟨g7, rfl, hc7⟩ := row_at hrow (j := 0) (i := 0) (by simp) (by decide) rfl
        simp only [Nat.zero_mul, Nat.one_mul, Nat.zero_add, Nat.add_zero] at hc7
        change w7.cell? _ = some (.string a.f0) at hc7
        clear hrow hb hT HT6 HB6 hz6
        go_wp2_with fail
        refine (all_eq 2 A3.out rfl hz7 HT7.out HB7.out).mono ?_
        rintro e w8 ⟨A8, c8, rfl, hrow, hb, hT, hz8⟩
        have HT8 := Aside0.mk hT
        have HB8 := Aside0.mk hb
        clear hrow hb hT HT7 HB7 hz7
        go_wp2_with fail
        refine (all_eq 2 A3.out rfl hz8 HT8.out HB8.out).mono ?_
        rintro e w9 ⟨A9, c9, rfl, hrow, hb, hT, hz9⟩
        have HT9 := Aside0.mk hT
        have HB9 := Aside0.mk hb
        obtain ⟨g9, rfl, hc9⟩ := row_at hrow (j := 1) (i := 0) (by simp) (by decide) rfl
        simp only [Nat.zero_mul, Nat.one_mul, Nat.zero_add, Nat.add_zero] at hc9
        change w9.cell? _ = some (.string b.f0) at hc9
        clear hrow hb hT HT8 HB8 hz8
        go_wp2
        go_ret
        exact ⟨rfl, HB9.out⟩
      · have d1 : decide (1 ≤ (j : Int)) = true := decide_eq_true (by omega)
        have d2 : decide ((j : Int) ≤ 32) = true := decide_eq_true (by omega)
        have d3 : decide (1 ≤ j) = true := decide_eq_true (by omega)
        have d4 : decide (j ≤ 32) = true := decide_eq_true (by omega)
        have A3 := Aside0.mk a3
        clear HE2 a3 q1 q2 
        go_wp2_with fail
        refine HRN.out.mono ?_
        rintro e w5 ⟨rfl, hb5⟩
        have HT5 := Aside0.mk (HT4.out.below hb5)
        have HB5 : Aside0 (Below w.heap.size w w5) := ⟨HB4.out.trans (hb5.mono HB4.out.size)⟩
        have hz5 : w1.heap.size ≤ w5.heap.size := Nat.le_trans hz4 hb5.size
        clear hb5 HT4 HB4 HRN hz4
        go_wp2_with fail
        refine (all_eq 0 A3.out rfl hz5 HT5.out HB5.out).mono ?_
        rintro e w6 ⟨A6, c6, rfl, hrow, hb, hT, hz6⟩
        have HT6 := Aside0.mk hT
        have HB6 := Aside0.mk hb
        clear hrow hb hT HT5 HB5 hz5
        go_wp2
        go_ret
        exact ⟨rfl, HB6.out⟩
      · have d1 : decide (1 ≤ (j : Int)) = true := decide_eq_true (by omega)
        have d2 : decide ((j : Int) ≤ 32) = true := decide_eq_true (by omega)
        have d3 : decide (1 ≤ j) = true := decide_eq_true (by omega)
        have d4 : decide (j ≤ 32) = true := decide_eq_true (by omega)
        have hqa : (a.f0.toList == name.toList) = false := by rw [toList_eq]; simpa using a4
        have A3 := Aside0.mk a3
        clear HE2 a3 q1 q2 a4
        go_wp2_with fail
        refine HRN.out.mono ?_
        rintro e w5 ⟨rfl, hb5⟩
        have HT5 := Aside0.mk (HT4.out.below hb5)
        have HB5 : Aside0 (Below w.heap.size w w5) := ⟨HB4.out.trans (hb5.mono HB4.out.size)⟩
        have hz5 : w1.heap.size ≤ w5.heap.size := Nat.le_trans hz4 hb5.size
        clear hb5 HT4 HB4 HRN hz4
        go_wp2_with fail
        refine (all_eq 1 A3.out rfl hz5 HT5.out HB5.out).mono ?_
        rintro e w6 ⟨A6, c6, rfl, hrow, hb, hT, hz6⟩
        have HT6 := Aside0.mk hT
        have HB6 := Aside0.mk hb
        clear hrow hb hT HT5 HB5 hz5
        go_wp2_with fail
        refine (all_eq 1 A3.out rfl hz6 HT6.out HB6.out).mono ?_
        rintro e w7 ⟨A7, c7, rfl, hrow, hb, hT, hz7⟩
        have HT7 := Aside0.mk hT
        have HB7 := Aside0.mk hb
        obtain ⟨g7, rfl, hc7⟩ := row_at hrow (j := 0) (i := 0) (by simp) (by decide) rfl
        simp only [Nat.zero_mul, Nat.one_mul, Nat.zero_add, Nat.add_zero] at hc7
        change w7.cell? _ = some (.string a.f0) at hc7
        clear hrow hb hT HT6 HB6 hz6
        go_wp2_with fail
        refine (all_eq 1 A3.out rfl hz7 HT7.out HB7.out).mono ?_
        rintro e w8 ⟨A8, c8, rfl, hrow, hb, hT, hz8⟩
        have HT8 := Aside0.mk hT
        have HB8 := Aside0.mk hb
        clear hrow hb hT HT7 HB7 hz7
        go_wp2
        go_ret
        exact ⟨rfl, HB8.out⟩
      · have d1 : decide (1 ≤ (j : Int)) = false := decide_eq_false (by omega)
        have d3 : decide (1 ≤ j) = false := decide_eq_false (by omega)
        have hqa : (a.f0.toList == name.toList) = true := by rw [toList_eq]; simpa using a4
        have A3 := Aside0.mk a3
        clear HE2 a3 q1 a4
        go_wp2_with fail
        refine HRN.out.mono ?_
        rintro e w5 ⟨rfl, hb5⟩
        have HT5 := Aside0.mk (HT4.out.below hb5)
        have HB5 : Aside0 (Below w.heap.size w w5) := ⟨HB4.out.trans (hb5.mono HB4.out.size)⟩
        have hz5 : w1.heap.size ≤ w5.heap.size := Nat.le_trans hz4 hb5.size
        clear hb5 HT4 HB4 HRN hz4
        go_wp2_with fail
        refine (all_eq 1 A3.out rfl hz5 HT5.out HB5.out).mono ?_
        rintro e w6 ⟨A6, c6, rfl, hrow, hb, hT, hz6⟩
        have HT6 := Aside0.mk hT
        have HB6 := Aside0.mk hb
        clear hrow hb hT HT5 HB5 hz5
        go_wp2_with fail
        refine (all_eq 1 A3.out rfl hz6 HT6.out HB6.out).mono ?_
        rintro e w7 ⟨A7, c7, rfl, hrow, hb, hT, hz7⟩
        have HT7 := Aside0.mk hT
        have HB7 := Aside0.mk hb
        obtain ⟨g7, rfl, hc7⟩ := row_at hrow (j := 0) (i := 0) (by simp) (by decide) rfl
        simp only [Nat.zero_mul, Nat.one_mul, Nat.zero_add, Nat.add_zero] at hc7
        change w7.cell? _ = some (.string a.f0) at hc7
        clear hrow hb hT HT6 HB6 hz6
        go_wp2
        go_ret
        exact ⟨rfl, HB7.out⟩
      · have d1 : decide (1 ≤ (j : Int)) = false := decide_eq_false (by omega)
        have d3 : decide (1 ≤ j) = false := decide_eq_false (by omega)
        have hqa : (a.f0.toList == name.toList) = true := by rw [toList_eq]; simpa using a4
        have A3 := Aside0.mk a3
        clear HE2 a3 q1 a4
        go_wp2_with fail
        refine HRN.out.mono ?_
        rintro e w5 ⟨rfl, hb5⟩
        have HT5 := Aside0.mk (HT4.out.below hb5)
        have HB5 : Aside0 (Below w.heap.size w w5) := ⟨HB4.out.trans (hb5.mono HB4.out.size)⟩
        have hz5 : w1.heap.size ≤ w5.heap.size := Nat.le_trans hz4 hb5.size
        clear hb5 HT4 HB4 HRN hz4
        go_wp2_with fail
        refine (all_eq 2 A3.out rfl hz5 HT5.out HB5.out).mono ?_
        rintro e w6 ⟨A6, c6, rfl, hrow, hb, hT, hz6⟩
        have HT6 := Aside0.mk hT
        have HB6 := Aside0.mk hb
        clear hrow hb hT HT5 HB5 hz5
        go_wp2_with fail
        refine (all_eq 2 A3.out rfl hz6 HT6.out HB6.out).mono ?_
        rintro e w7 ⟨A7, c7, rfl, hrow, hb, hT, hz7⟩
        have HT7 := Aside0.mk hT
        have HB7 := Aside0.mk hb
        obtain ⟨g7, rfl, hc7⟩ := row_at hrow (j := 0) (i := 0) (by simp) (by decide) rfl
        simp only [Nat.zero_mul, Nat.one_mul, Nat.zero_add, Nat.add_zero] at hc7
        change w7.cell? _ = some (.string a.f0) at hc7
        clear hrow hb hT HT6 HB6 hz6
        go_wp2
        go_ret
        exact ⟨rfl, HB7.out⟩
      · have d1 : decide (1 ≤ (j : Int)) = false := decide_eq_false (by omega)
        have d3 : decide (1 ≤ j) = false := decide_eq_false (by omega)
        have hqa : (a.f0.toList == name.toList) = false := by rw [toList_eq]; simpa using a4
        have hqb : (b.f0.toList == name.toList) = true := by rw [toList_eq]; simpa using a5
        have A3 := Aside0.mk a3
        clear HE2 a3 q1 a4 a5
        go_wp2_with fail
        refine HRN.out.mono ?_
        rintro e w5 ⟨rfl, hb5⟩
        have HT5 := Aside0.mk (HT4.out.below hb5)
        have HB5 : Aside0 (Below w.heap.size w w5) := ⟨HB4.out.trans (hb5.mono HB4.out.size)⟩
        have hz5 : w1.heap.size ≤ w5.heap.size := Nat.le_trans hz4 hb5.size
        clear hb5 HT4 HB4 HRN hz4
        go_wp2_with fail
        refine (all_eq 2 A3.out rfl hz5 HT5.out HB5.out).mono ?_
        rintro e w6 ⟨A6, c6, rfl, hrow, hb, hT, hz6⟩
        have HT6 := Aside0.mk hT
        have HB6 := Aside0.mk hb
        clear hrow hb hT HT5 HB5 hz5
        go_wp2_with fail
        refine (all_eq 2 A3.out rfl hz6 HT6.out HB6.out).mono ?_
        rintro e w7 ⟨A7, c7, rfl, hrow, hb, hT, hz7⟩
        have HT7 := Aside0.mk hT
        have HB7 := Aside0.mk hb
        obtain ⟨g7, rfl, hc7⟩ := row_at hrow (j := 0) (i := 0) (by simp) (by decide) rfl
        simp only [Nat.zero_mul, Nat.one_mul, Nat.zero_add, Nat.add_zero] at hc7
        change w7.cell? _ = some (.string a.f0) at hc7
        clear hrow hb hT HT6 HB6 hz6
        go_wp2_with fail
        refine (all_eq 2 A3.out rfl hz7 HT7.out HB7.out).mono ?_
        rintro e w8 ⟨A8, c8, rfl, hrow, hb, hT, hz8⟩
        have HT8 := Aside0.mk hT
        have HB8 := Aside0.mk hb
        clear hrow hb hT HT7 HB7 hz7
        go_wp2_with fail
        refine (all_eq 2 A3.out rfl hz8 HT8.out HB8.out).mono ?_
        rintro e w9 ⟨A9, c9, rfl, hrow, hb, hT, hz9⟩
        have HT9 := Aside0.mk hT
        have HB9 := Aside0.mk hb
        obtain ⟨g9, rfl, hc9⟩ := row_at hrow (j := 1) (i := 0) (by simp) (by decide) rfl
        simp only [Nat.zero_mul, Nat.one_mul, Nat.zero_add, Nat.add_zero] at hc9
        change w9.cell? _ = some (.string b.f0) at hc9
        clear hrow hb hT HT8 HB8 hz8
        go_wp2
        go_ret
        exact ⟨rfl, HB9.out⟩
      · have d1 : decide (1 ≤ (j : Int)) = false := decide_eq_false (by omega)
        have d3 : decide (1 ≤ j) = false := decide_eq_false (by omega)
        have A3 := Aside0.mk a3
        clear HE2 a3 q1 
        go_wp2_with fail
        refine HRN.out.mono ?_
        rintro e w5 ⟨rfl, hb5⟩
        have HT5 := Aside0.mk (HT4.out.below hb5)
        have HB5 : Aside0 (Below w.heap.size w w5) := ⟨HB4.out.trans (hb5.mono HB4.out.size)⟩
        have hz5 : w1.heap.size ≤ w5.heap.size := Nat.le_trans hz4 hb5.size
        clear hb5 HT4 HB4 HRN hz4
        go_wp2_with fail
        refine (all_eq 0 A3.out rfl hz5 HT5.out HB5.out).mono ?_
        rintro e w6 ⟨A6, c6, rfl, hrow, hb, hT, hz6⟩
        have HT6 := Aside0.mk hT
        have HB6 := Aside0.mk hb
        clear hrow hb hT HT5 HB5 hz5
        go_wp2
        go_ret
        exact ⟨rfl, HB6.out⟩
      · have d1 : decide (1 ≤ (j : Int)) = false := decide_eq_false (by omega)
        have d3 : decide (1 ≤ j) = false := decide_eq_false (by omega)
        have hqa : (a.f0.toList == name.toList) = false := by rw [toList_eq]; simpa using a4
        have A3 := Aside0.mk a3
        clear HE2 a3 q1 a4
        go_wp2_with fail
        refine HRN.out.mono ?_
        rintro e w5 ⟨rfl, hb5⟩
        have HT5 := Aside0.mk (HT4.out.below hb5)
        have HB5 : Aside0 (Below w.heap.size w w5) := ⟨HB4.out.trans (hb5.mono HB4.out.size)⟩
        have hz5 : w1.heap.size ≤ w5.heap.size := Nat.le_trans hz4 hb5.size
        clear hb5 HT4 HB4 HRN hz4
        go_wp2_with fail
        refine (all_eq 1 A3.out rfl hz5 HT5.out HB5.out).mono ?_
        rintro e w6 ⟨A6, c6, rfl, hrow, hb, hT, hz6⟩
        have HT6 := Aside0.mk hT
        have HB6 := Aside0.mk hb
        clear hrow hb hT HT5 HB5 hz5
        go_wp2_with fail
        refine (all_eq 1 A3.out rfl hz6 HT6.out HB6.out).mono ?_
        rintro e w7 ⟨A7, c7, rfl, hrow, hb, hT, hz7⟩
        have HT7 := Aside0.mk hT
        have HB7 := Aside0.mk hb
        obtain ⟨g7, rfl, hc7⟩ := row_at hrow (j := 0) (i := 0) (by simp) (by decide) rfl
        simp only [Nat.zero_mul, Nat.one_mul, Nat.zero_add, Nat.add_zero] at hc7
        change w7.cell? _ = some (.string a.f0) at hc7
        clear hrow hb hT HT6 HB6 hz6
        go_wp2_with fail
        refine (all_eq 1 A3.out rfl hz7 HT7.out HB7.out).mono ?_
        rintro e w8 ⟨A8, c8, rfl, hrow, hb, hT, hz8⟩
        have HT8 := Aside0.mk hT
        have HB8 := Aside0.mk hb
        clear hrow hb hT HT7 HB7 hz7
        go_wp2
        go_ret
        exact ⟨rfl, HB8.out⟩
      · have d1 : decide (1 ≤ (j : Int)) = true := decide_eq_true (by omega)
        have d2 : decide ((j : Int) ≤ 32) = false := decide_eq_false (by omega)
        have d3 : decide (1 ≤ j) = true := decide_eq_true (by omega)
        have d4 : decide (j ≤ 32) = false := decide_eq_false (by omega)
        have hqa : (a.f0.toList == name.toList) = true := by rw [toList_eq]; simpa using a4
        have A3 := Aside0.mk a3
        clear HE2 a3 q1 q2 a4
        go_wp2_with fail
        refine HRN.out.mono ?_
        rintro e w5 ⟨rfl, hb5⟩
        have HT5 := Aside0.mk (HT4.out.below hb5)
        have HB5 : Aside0 (Below w.heap.size w w5) := ⟨HB4.out.trans (hb5.mono HB4.out.size)⟩
        have hz5 : w1.heap.size ≤ w5.heap.size := Nat.le_trans hz4 hb5.size
        clear hb5 HT4 HB4 HRN hz4
        go_wp2_with fail
        refine (all_eq 1 A3.out rfl hz5 HT5.out HB5.out).mono ?_
        rintro e w6 ⟨A6, c6, rfl, hrow, hb, hT, hz6⟩
        have HT6 := Aside0.mk hT
        have HB6 := Aside0.mk hb
        clear hrow hb hT HT5 HB5 hz5
        go_wp2_with fail
        refine (all_eq 1 A3.out rfl hz6 HT6.out HB6.out).mono ?_
        rintro e w7 ⟨A7, c7, rfl, hrow, hb, hT, hz7⟩
        have HT7 := Aside0.mk hT
        have HB7 := Aside0.mk hb
        obtain ⟨g7, rfl, hc7⟩ := row_at hrow (j := 0) (i := 0) (by simp) (by decide) rfl
        simp only [Nat.zero_mul, Nat.one_mul, Nat.zero_add, Nat.add_zero] at hc7
        change w7.cell? _ = some (.string a.f0) at hc7
        clear hrow hb hT HT6 HB6 hz6
        go_wp2
        go_ret
        exact ⟨rfl, HB7.out⟩
      · have d1 : decide (1 ≤ (j : Int)) = true := decide_eq_true (by omega)
        have d2 : decide ((j : Int) ≤ 32) = false := decide_eq_false (by omega)
        have d3 : decide (1 ≤ j) = true := decide_eq_true (by omega)
        have d4 : decide (j ≤ 32) = false := decide_eq_false (by omega)
        have hqa : (a.f0.toList == name.toList) = true := by rw [toList_eq]; simpa using a4
        have A3 := Aside0.mk a3
        clear HE2 a3 q1 q2 a4
        go_wp2_with fail
        refine HRN.out.mono ?_
        rintro e w5 ⟨rfl, hb5⟩
        have HT5 := Aside0.mk (HT4.out.below hb5)
        have HB5 : Aside0 (Below w.heap.size w w5) := ⟨HB4.out.trans (hb5.mono HB4.out.size)⟩
        have hz5 : w1.heap.size ≤ w5.heap.size := Nat.le_trans hz4 hb5.size
        clear hb5 HT4 HB4 HRN hz4
        go_wp2_with fail
        refine (all_eq 2 A3.out rfl hz5 HT5.out HB5.out).mono ?_
        rintro e w6 ⟨A6, c6, rfl, hrow, hb, hT, hz6⟩
        have HT6 := Aside0.mk hT
        have HB6 := Aside0.mk hb
        clear hrow hb hT HT5 HB5 hz5
        go_wp2_with fail
        refine (all_eq 2 A3.out rfl hz6 HT6.out HB6.out).mono ?_
        rintro e w7 ⟨A7, c7, rfl, hrow, hb, hT, hz7⟩
        have HT7 := Aside0.mk hT
        have HB7 := Aside0.mk hb
        obtain ⟨g7, rfl, hc7⟩ := row_at hrow (j := 0) (i := 0) (by simp) (by decide) rfl
        simp only [Nat.zero_mul, Nat.one_mul, Nat.zero_add, Nat.add_zero] at hc7
        change w7.cell? _ = some (.string a.f0) at hc7
        clear hrow hb hT HT6 HB6 hz6
        go_wp2
        go_ret
        exact ⟨rfl, HB7.out⟩
      · have d1 : decide (1 ≤ (j : Int)) = true := decide_eq_true (by omega)
        have d2 : decide ((j : Int) ≤ 32) = false := decide_eq_false (by omega)
        have d3 : decide (1 ≤ j) = true := decide_eq_true (by omega)
        have d4 : decide (j ≤ 32) = false := decide_eq_false (by omega)
        have hqa : (a.f0.toList == name.toList) = false := by rw [toList_eq]; simpa using a4
        have hqb : (b.f0.toList == name.toList) = true := by rw [toList_eq]; simpa using a5
        have A3 := Aside0.mk a3
        clear HE2 a3 q1 q2 a4 a5
        go_wp2_with fail
        refine HRN.out.mono ?_
        rintro e w5 ⟨rfl, hb5⟩
        have HT5 := Aside0.mk (HT4.out.below hb5)
        have HB5 : Aside0 (Below w.heap.size w w5) := ⟨HB4.out.trans (hb5.mono HB4.out.size)⟩
        have hz5 : w1.heap.size ≤ w5.heap.size := Nat.le_trans hz4 hb5.size
        clear hb5 HT4 HB4 HRN hz4
        go_wp2_with fail
        refine (all_eq 2 A3.out rfl hz5 HT5.out HB5.out).mono ?_
        rintro e w6 ⟨A6, c6, rfl, hrow, hb, hT, hz6⟩
        have HT6 := Aside0.mk hT
        have HB6 := Aside0.mk hb
        clear hrow hb hT HT5 HB5 hz5
        go_wp2_with fail
        refine (all_eq 2 A3.out rfl hz6 HT6.out HB6.out).mono ?_
        rintro e w7 ⟨A7, c7, rfl, hrow, hb, hT, hz7⟩
        have HT7 := Aside0.mk hT
        have HB7 := Aside0.mk hb
        obtain ⟨g7, rfl, hc7⟩ := row_at hrow (j := 0) (i := 0) (by simp) (by decide) rfl
        simp only [Nat.zero_mul, Nat.one_mul, Nat.zero_add, Nat.add_zero] at hc7
        change w7.cell? _ = some (.string a.f0) at hc7
        clear hrow hb hT HT6 HB6 hz6
        go_wp2_with fail
        refine (all_eq 2 A3.out rfl hz7 HT7.out HB7.out).mono ?_
        rintro e w8 ⟨A8, c8, rfl, hrow, hb, hT, hz8⟩
        have HT8 := Aside0.mk hT
        have HB8 := Aside0.mk hb
        clear hrow hb hT HT7 HB7 hz7
        go_wp2_with fail
        refine (all_eq 2 A3.out rfl hz8 HT8.out HB8.out).mono ?_
        rintro e w9 ⟨A9, c9, rfl, hrow, hb, hT, hz9⟩
        have HT9 := Aside0.mk hT
        have HB9 := Aside0.mk hb
        obtain ⟨g9, rfl, hc9⟩ := row_at hrow (j := 1) (i := 0) (by simp) (by decide) rfl
        simp only [Nat.zero_mul, Nat.one_mul, Nat.zero_add, Nat.add_zero] at hc9
        change w9.cell? _ = some (.string b.f0) at hc9
        clear hrow hb hT HT8 HB8 hz8
        go_wp2
        go_ret
        exact ⟨rfl, HB9.out⟩
      · have d1 : decide (1 ≤ (j : Int)) = true := decide_eq_true (by omega)
        have d2 : decide ((j : Int) ≤ 32) = false := decide_eq_false (by omega)
        have d3 : decide (1 ≤ j) = true := decide_eq_true (by omega)
        have d4 : decide (j ≤ 32) = false := decide_eq_false (by omega)
        have A3 := Aside0.mk a3
        clear HE2 a3 q1 q2 
        go_wp2_with fail
        refine HRN.out.mono ?_
        rintro e w5 ⟨rfl, hb5⟩
        have HT5 := Aside0.mk (HT4.out.below hb5)
        have HB5 : Aside0 (Below w.heap.size w w5) := ⟨HB4.out.trans (hb5.mono HB4.out.size)⟩
        have hz5 : w1.heap.size ≤ w5.heap.size := Nat.le_trans hz4 hb5.size
        clear hb5 HT4 HB4 HRN hz4
        go_wp2_with fail
        refine (all_eq 0 A3.out rfl hz5 HT5.out HB5.out).mono ?_
        rintro e w6 ⟨A6, c6, rfl, hrow, hb, hT, hz6⟩
        have HT6 := Aside0.mk hT
        have HB6 := Aside0.mk hb
        clear hrow hb hT HT5 HB5 hz5
        go_wp2
        go_ret
        exact ⟨rfl, HB6.out⟩
      · have d1 : decide (1 ≤ (j : Int)) = true := decide_eq_true (by omega)
        have d2 : decide ((j : Int) ≤ 32) = false := decide_eq_false (by omega)
        have d3 : decide (1 ≤ j) = true := decide_eq_true (by omega)
        have d4 : decide (j ≤ 32) = false := decide_eq_false (by omega)
        have hqa : (a.f0.toList == name.toList) = false := by rw [toList_eq]; simpa using a4
        have A3 := Aside0.mk a3
        clear HE2 a3 q1 q2 a4
        go_wp2_with fail
        refine HRN.out.mono ?_
        rintro e w5 ⟨rfl, hb5⟩
        have HT5 := Aside0.mk (HT4.out.below hb5)
        have HB5 : Aside0 (Below w.heap.size w w5) := ⟨HB4.out.trans (hb5.mono HB4.out.size)⟩
        have hz5 : w1.heap.size ≤ w5.heap.size := Nat.le_trans hz4 hb5.size
        clear hb5 HT4 HB4 HRN hz4
        go_wp2_with fail
        refine (all_eq 1 A3.out rfl hz5 HT5.out HB5.out).mono ?_
        rintro e w6 ⟨A6, c6, rfl, hrow, hb, hT, hz6⟩
        have HT6 := Aside0.mk hT
        have HB6 := Aside0.mk hb
        clear hrow hb hT HT5 HB5 hz5
        go_wp2_with fail
        refine (all_eq 1 A3.out rfl hz6 HT6.out HB6.out).mono ?_
        rintro e w7 ⟨A7, c7, rfl, hrow, hb, hT, hz7⟩
        have HT7 := Aside0.mk hT
        have HB7 := Aside0.mk hb
        obtain ⟨g7, rfl, hc7⟩ := row_at hrow (j := 0) (i := 0) (by simp) (by decide) rfl
        simp only [Nat.zero_mul, Nat.one_mul, Nat.zero_add, Nat.add_zero] at hc7
        change w7.cell? _ = some (.string a.f0) at hc7
        clear hrow hb hT HT6 HB6 hz6
        go_wp2_with fail
        refine (all_eq 1 A3.out rfl hz7 HT7.out HB7.out).mono ?_
        rintro e w8 ⟨A8, c8, rfl, hrow, hb, hT, hz8⟩
        have HT8 := Aside0.mk hT
        have HB8 := Aside0.mk hb
        clear hrow hb hT HT7 HB7 hz7
        go_wp2
        go_ret
        exact ⟨rfl, HB8.out⟩
theorem FilesNames_any (name : ByteArray) (x1 : Int) (w : World) (h0 : 0 ≤ x1) (h1 : x1 < 256) :
    Calls Try.prog 3 #[.string name, .int .u8 x1] w fun e w' => e = .returned (.bool true) ∧ Below w.heap.size w w' := by
  by_cases hs : name.size ≤ 300
  · exact names_near name x1 w hs h0 h1
  · exact names_far name x1 w (by omega)
end Go.Proofs.Ytonhfcjldbohbaa.Fi
