/- files: FilesKeep's walk. -/
import Derived.Test.YtonhfcjldbohbaaFlR
namespace Go.Proofs.Ytonhfcjldbohbaa.Fi
open Go Go.RowKit Go.ChangeMaps Go.MapKept Go.Proofs.Ytonhfcjldbohbaa.PA Go.Proofs.YtonhfcjldbohbaaW.PrintWords Go.Proofs.YtonhfcjldbohbaaW.PrintLast Go.Proofs.YtonhfcjldbohbaaW.PrintMore
attribute [local go_sem] Oper.semAt_some
set_option linter.unusedVariables false
set_option linter.unusedSimpArgs false

theorem beq_len (a b : Nat) : ((a : Int) == (b : Int)) = (a == b) := by
  by_cases h : a = b
  · subst h
    rw [beq_self_eq_true, beq_self_eq_true]
  · have h2 : ¬ (a : Int) = (b : Int) := by omega
    rw [beq_eq_false_iff_ne.2 h2, beq_eq_false_iff_ne.2 h]
/-- A list of files, read. -/
def Rf (w : World) (A : Option Addr) (c : Nat) (ys : List Fl) : Prop := w.ownsRow 0 32 4 (.slice A ys.length c) ys.length (fcs ys)
theorem Rf.below {w w' : World} {A : Option Addr} {c : Nat} {ys : List Fl} (h : Rf w A c ys) (hb : Below w.heap.size w w') : Rf w' A c ys := own_heap h (fun k e => hb.block k (h.lt k e).2)
theorem Rf.at_ {w : World} {A : Option Addr} {c : Nat} {ys : List Fl} (h : Rf w A c ys) (j : Nat) (hj : j < ys.length) : ∃ ad, A = some ad ∧ w.cell? (ad.add (j * 4)) = some (.string ys[j].f0) ∧ w.cell? ⟨(ad.add (j * 4)).block, (ad.add (j * 4)).off + 1, none⟩ = some (.string ys[j].f1) ∧
    w.cell? ⟨(ad.add (j * 4)).block, (ad.add (j * 4)).off + 2, none⟩ = some (.int .i64 ys[j].f2) ∧ w.cell? ⟨(ad.add (j * 4)).block, (ad.add (j * 4)).off + 3, none⟩ = some (.int .i64 ys[j].f3) := by
  obtain ⟨g, rfl, h0⟩ := row_at (i := 0) h hj (by decide) rfl
  obtain ⟨g1, e1, h1⟩ := row_at (i := 1) h hj (by decide) rfl
  obtain ⟨g2, e2, h2⟩ := row_at (i := 2) h hj (by decide) rfl
  obtain ⟨g3, e3, h3⟩ := row_at (i := 3) h hj (by decide) rfl
  simp at e1 e2 e3
  subst e1 e2 e3
  have ha : (⟨g, 0, none⟩ : Addr).add (j * 4) = ⟨g, j * 4, none⟩ := by unfold Addr.add; split <;> simp [*]
  refine ⟨_, rfl, ?_, ?_, ?_, ?_⟩ <;> rw [ha]
  · exact h0
  · exact h1
  · exact h2
  · exact h3
theorem all_rf {B : Nat} {S : Nat → Prop} {t : Nat} {T : Tb} {w : World} (h : TB B S t T w) :
    Calls Try.prog 12 #[.pointer (some ⟨t, 0, none⟩)] w fun e w' => ∃ A c, e = .returned (.slice A (allF T).length c) ∧ Rf w' A c (allF T) ∧ Below w.heap.size w w' := by
  refine (all_src B S (some ⟨t, 0, none⟩) (allF T) w h.src).mono ?_
  rintro e w' ⟨v, rfl, h1, h2⟩
  obtain ⟨A, c, rfl⟩ := own_slice h1
  exact ⟨A, c, rfl, own_base h1 (Nat.zero_le _), h2⟩
theorem all_nil (w : World) : Calls Try.prog 12 #[.pointer none] w fun e w' => ∃ A c, e = .returned (.slice A 0 c) ∧ Below w.heap.size w w' := by
  refine (all_src 0 (fun _ => False) none [] w (.inl ⟨rfl, rfl⟩)).mono ?_
  rintro e w' ⟨v, rfl, h1, h2⟩
  obtain ⟨A, c, rfl⟩ := own_slice h1
  exact ⟨A, c, rfl, h2⟩
theorem bytes_nil (w : World) : Calls Try.prog 15 #[.pointer none] w fun e w' => e = .returned (.int .i64 0) ∧ Below w.heap.size w w' := by
  refine (bytes_src 0 (fun _ => False) none [] w (.inl ⟨rfl, rfl⟩)).mono ?_
  rintro e w' ⟨rfl, h2⟩
  exact ⟨rfl, h2⟩
theorem put_6 : putT ⟨0, 0, []⟩ bA nil0 0 = (⟨0, 0, []⟩, 6) := by
  have hr : rightV bA nil0 0 = 0 := by
    unfold rightV
    rw [if_pos (show bA.size ≤ 32 ∧ nameOk bA = true ∧ (0 : Int) ≤ 0 ∧ (0 : Int) ≤ 2 from ⟨by decide, ok_a, by decide, by decide⟩), if_neg (by decide)]
  unfold putT
  rw [if_neg (by rw [hr]; decide)]
  rfl
attribute [local go_sem high] eqA32

set_option maxHeartbeats 4000000 in
set_option maxRecDepth 100000 in
theorem FilesKeep_any (x0 : Int) (A0 : Option Addr) (c0 : Nat) (l0 : List Act13) (w : World) (hr0 : Kd.C k43 w A0 l0.length l0) (hc0 : l0.length ≤ c0) (h0 : 0 ≤ x0) (h0' : x0 < 256) :
    Calls Try.prog 7 #[.int .u8 x0, .slice A0 l0.length c0] w fun e w' => e = .returned (.bool true) ∧ Below w.heap.size w w' := by
  have HR0 := Aside0.mk hr0
  clear hr0
  obtain ⟨kf, bf, hkf, hfar⟩ := far_ex l0
  have HKF := Aside0.mk hkf
  have HFAR := Aside0.mk hfar
  clear hkf hfar
  go_enter Try.func7, Try.ntmps7
  go_wp2_with fail
  refine (alive_any w).mono ?_
  rintro e w1 ⟨rfl, hb1⟩
  have HB1 := Aside0.mk hb1
  clear hb1
  go_wp2_with fail
  refine (cupellaw13_Far.calls kf A0 c0 l0 bf w1 (C_below HR0.out HB1.out) hc0 HKF.out).mono ?_
  rintro e w2 ⟨rfl, hb2⟩
  have HB2 : Aside0 (Below w.heap.size w w2) := ⟨HB1.out.trans (hb2.below.mono HB1.out.size)⟩
  clear hb2 HB1
  cases bf with
  | true =>
    go_wp2
    go_ret
    exact ⟨rfl, HB2.out⟩
  | false =>
  obtain ⟨hlen, hacts⟩ := HFAR.out rfl
  have HACT := Aside0.mk hacts
  clear hacts HFAR HKF
  go_wp2_with fail
  refine (new_any x0 (by omega) w2).mono ?_
  rintro e w3 ⟨rfl, hT, hb⟩
  obtain ⟨Bz, hBz⟩ : ∃ B, w2.heap.size = B := ⟨_, rfl⟩
  have hz3 : Bz ≤ w3.heap.size := by rw [← hBz]; exact hb.size
  have HT3 := Aside0.mk hT
  have HB3 : Aside0 (Below w.heap.size w w3) := ⟨HB2.out.trans (hb.mono HB2.out.size)⟩
  have hwB : w.heap.size ≤ Bz := by rw [← hBz]; exact HB2.out.size
  rw [hBz] at HT3 ⊢
  clear hT hb HB2 hBz
  obtain ⟨t, ht⟩ : ∃ t, Bz + 2 = t := ⟨_, rfl⟩
  rw [ht] at HT3 ⊢
  clear ht
  generalize NewS w2 = S at HT3
  go_wp2_with fail
  go_loopg [7] l0.length (fun kq v7 wr => ∃ (j : Nat) (T : Tb), v7 = .int .i64 j ∧ Aside0 (j ≤ l0.length ∧ kq = l0.length - j) ∧ Aside0 (T.most = x0 ∧ T.l.length ≤ j) ∧ Aside0 (TB Bz S t T wr) ∧ Aside0 (Below w.heap.size w wr))
  case atStart => exact ⟨0, _, rfl, ⟨by omega⟩, ⟨rfl, Nat.le_refl _⟩, HT3, HB3⟩
  case round =>
    obtain ⟨j, T, rfl, HJ, HM, HT, HB⟩ := hrel
    obtain ⟨hj, hkq⟩ := HJ.out
    by_cases hlt : j < l0.length
    · have hdj : decide ((j : Int) < (l0.length : Int)) = true := decide_eq_true (by omega)
      have hdj2 : decide (j < l0.length) = true := decide_eq_true hlt
      go_wp2_with fail
      refine (clone_any HT.out).mono ?_
      rintro e w4 ⟨rfl, hC, hb4⟩
      have HT4 := Aside0.mk (HT.out.below hb4)
      have HB4 : Aside0 (Below w.heap.size w w4) := ⟨HB.out.trans (hb4.mono HB.out.size)⟩
      have hzr : ∀ k, S k → k < wr.heap.size := by
        obtain ⟨bm, bd, hT0⟩ := HT.out
        exact fun k hk => (hT0.sB k hk).2
      have hBr : Bz ≤ wr.heap.size := by
        obtain ⟨bm, bd, hT0⟩ := HT.out
        have := hT0.sB _ hT0.st
        omega
      obtain ⟨Bc, hBc⟩ : ∃ B, wr.heap.size = B := ⟨_, rfl⟩
      have hnS : ∀ k, NewS wr k → ¬ S k := fun k h1 h2 => by have := h1.1; have := hzr k h2; omega
      generalize NewS wr = Sc at hC hnS
      rw [hBc] at hC hBr hb4 ⊢
      obtain ⟨tc, htc⟩ : ∃ t, Bc + 2 = t := ⟨_, rfl⟩
      rw [htc] at hC ⊢
      have HC4 := Aside0.mk hC
      have HNS := Aside0.mk hnS
      have hz4 : Bz ≤ w4.heap.size := by have := hb4.size; omega
      clear hC hb4 hzr hnS HT HB htc hBc
      obtain ⟨ad, hA, q0, q1, q2, q3⟩ := at_T43 (C_below HR0.out HB4.out) (j : Int) (by omega) (by omega)
      subst hA
      rw [act_mem l0 j hlt, Int.toNat_natCast] at q0 q1 q2 q3
      have hmem := List.getElem_mem hlt
      generalize l0[j] = a at q0 q1 q2 q3 hmem
      have hna := (HACT.out a hmem).1
      clear hmem
      have hml := HM.out
      go_wp2_with fail
      refine (do_any hz4 HT4.out (by omega) a hna).mono ?_
      rintro e w5 ⟨rfl, hT, hb⟩
      have hC5 : TB Bc Sc tc T w5 := HC4.out.heap hb.below.size (fun k hk => by
        obtain ⟨bm, bd, hT0⟩ := HC4.out
        exact hb.keep k (hT0.sB k hk).2 (HNS.out k hk))
      obtain ⟨R, hR⟩ : ∃ R, doT T a = R := ⟨_, rfl⟩
      rw [hR] at hT ⊢
      obtain ⟨R, er⟩ := R
      have hTok : TOk T := by
        obtain ⟨bm, bd, hT0⟩ := HT4.out
        exact hT0.ok
      obtain ⟨r1, r2, r3, r4, r5, r6⟩ := keep_law hTok a R er hR
      have hRl : R.l.length ≤ T.l.length + 1 := by have := doT_len T a; rw [hR] at this; exact this
      have hRt : TOk R := by
        obtain ⟨bm, bd, hT0⟩ := hT
        exact hT0.ok
      have hrm := hRt.rev
      have hrb := hRt.most
      have hr0 := hTok.rev0
      have HT5 := Aside0.mk (show TB Bz S t R w5 from hT)
      have HC5 := Aside0.mk hC5
      have HB5 : Aside0 (Below w.heap.size w w5) := ⟨HB4.out.trans (hb.below.mono hwB)⟩
      have H5 := Aside0.mk r5
      have H6 := Aside0.mk r6
      have HTOK := Aside0.mk hTok
      clear hT hb hC5 HT4 HC4 HB4 hR q0 q1 q2 q3 hRt r5 r6 hTok HNS
      have d1 : decide (R.rev < T.rev) = false := decide_eq_false (by omega)
      have d2 : decide (T.rev + 1 < R.rev) = false := decide_eq_false (by omega)
      have d3 : decide (x0 < R.rev) = false := decide_eq_false (by omega)
      have hcase : ((er != 0) = false ∧ True) ∨ ((er != 0) = true ∧ (R.rev != T.rev) = false) := by
        by_cases he : er = 0
        · exact .inl ⟨by simp [he], trivial⟩
        · exact .inr ⟨by simpa using he, by have := r4 he; simp [this]⟩
      have HR := Aside0.mk (show R.most = x0 ∧ R.l.length ≤ j + 1 from ⟨by omega, by omega⟩)
      have hra : 0 ≤ R.rev ∧ R.rev ≤ 1099511627776 := by omega
      have hrb2 : 0 ≤ T.rev ∧ T.rev ≤ 1099511627776 := by omega
      clear r1 r2 r3 r4 hRl hrm hrb hr0 hml hz4 hBr
      rcases hcase with ⟨d4, d5⟩ | ⟨d4, d5⟩ <;>
      (
       go_wp2_with fail
       refine (rev_any HT5.out).mono ?_
       rintro e w6 ⟨rfl, rfl⟩
       go_wp2_with fail
       refine (rev_any HC5.out).mono ?_
       rintro e w6 ⟨rfl, rfl⟩
       go_wp2_with fail
       refine (all_rf HT5.out).mono ?_
       rintro e w7 ⟨A7, c7, rfl, hX, hb7⟩
       have HT7 := Aside0.mk (HT5.out.below hb7)
       have HC7 := Aside0.mk (HC5.out.below hb7)
       have HB7 : Aside0 (Below w.heap.size w w7) := ⟨HB5.out.trans (hb7.mono HB5.out.size)⟩
       have HX7 := Aside0.mk hX
       clear hX hb7 HT5 HC5 HB5
       go_wp2_with fail
       refine (all_rf HC7.out).mono ?_
       rintro e w8 ⟨A8, c8, rfl, hY, hb8⟩
       have HT8 := Aside0.mk (HT7.out.below hb8)
       have HC8 := Aside0.mk (HC7.out.below hb8)
       have HB8 : Aside0 (Below w.heap.size w w8) := ⟨HB7.out.trans (hb8.mono HB7.out.size)⟩
       have HX8 := Aside0.mk (HX7.out.below hb8)
       have HY8 := Aside0.mk hY
       clear hY hb8 HT7 HC7 HB7 HX7
       have hXl : (allF R).length ≤ 64 := by
         obtain ⟨bm, bd, hT0⟩ := HT8.out
         exact hT0.ok.cnt
       have hYl : (allF T).length ≤ 64 := HTOK.out.cnt
       obtain ⟨X, hX⟩ : ∃ X, allF R = X := ⟨_, rfl⟩
       obtain ⟨Y, hY⟩ : ∃ Y, allF T = Y := ⟨_, rfl⟩
       rw [hX] at H5 HX8 hXl ⊢
       rw [hY] at H5 HY8 hYl ⊢
       clear hX hY
       go_wp2_with fail
       have hst : aL X Y 0 = (X.length == Y.length) := by unfold aL; simp
       obtain ⟨wl, hwl⟩ : ∃ x, x = wr := ⟨_, rfl⟩
       clear hwl
       go_loopg [14, 15] X.length (fun kq v14 v15 wx => ∃ (k : Nat), v15 = .int .i64 k ∧ v14 = .bool (aL X Y k) ∧ Aside0 (Below w8.heap.size w8 wx) ∧ Aside0 (k ≤ X.length ∧ kq = X.length - k))
       case atStart => exact ⟨0, rfl, by rw [hst]; first | rfl | exact congrArg Value.bool (beq_len X.length Y.length), ⟨Below.refl _ _⟩, ⟨by omega⟩⟩
       case round =>
         obtain ⟨k, rfl, rfl, HW, HK⟩ := hrel
         obtain ⟨hk, hkkq⟩ := HK.out
         by_cases hgo : aL X Y k = true ∧ k < X.length
         · obtain ⟨hb, hlk⟩ := hgo
           have f1 : decide ((k : Int) < (X.length : Int)) = true := decide_eq_true (by omega)
           have f2 : decide (k < X.length) = true := decide_eq_true hlk
           have hly : X.length = Y.length := by unfold aL at hb; simp at hb; exact hb.1
           have hlk2 : k < Y.length := by omega
           have f3 : decide ((k : Int) < (Y.length : Int)) = true := decide_eq_true (by omega)
           have f4 : decide (k < Y.length) = true := decide_eq_true hlk2
           obtain ⟨ax, hax, x0', x1', x2', x3'⟩ := (HX8.out.below HW.out).at_ k hlk
           obtain ⟨ay, hay, y0', y1', y2', y3'⟩ := (HY8.out.below HW.out).at_ k hlk2
           subst hax
           subst hay
           have hsn := aL_succ X Y k
           rw [hb, show X.getD k zF = X[k] by rw [List.getD_eq_getElem?_getD, List.getElem?_eq_getElem hlk]; rfl, show Y.getD k zF = Y[k] by rw [List.getD_eq_getElem?_getD, List.getElem?_eq_getElem hlk2]; rfl] at hsn
           rw [hb]
           generalize X[k] = xk at x0' x1' x2' x3' hsn
           generalize Y[k] = yk at y0' y1' y2' y3' hsn
           have HSN := Aside0.mk hsn
           have HLY := Aside0.mk hly
           clear hsn hb hst hly
           go_wp2_with fail
           refine start_ (n := 10) (S := fun w' => w'.cell? (ax.add (k * 4)) = some (.string xk.f0) ∧ w'.cell? ⟨(ax.add (k * 4)).block, (ax.add (k * 4)).off + 1, none⟩ = some (.string xk.f1) ∧ w'.cell? ⟨(ax.add (k * 4)).block, (ax.add (k * 4)).off + 2, none⟩ = some (.int .i64 xk.f2) ∧ w'.cell? ⟨(ax.add (k * 4)).block, (ax.add (k * 4)).off + 3, none⟩ = some (.int .i64 xk.f3) ∧ w'.cell? (ay.add (k * 4)) = some (.string yk.f0) ∧ w'.cell? ⟨(ay.add (k * 4)).block, (ay.add (k * 4)).off + 1, none⟩ = some (.string yk.f1) ∧ w'.cell? ⟨(ay.add (k * 4)).block, (ay.add (k * 4)).off + 2, none⟩ = some (.int .i64 yk.f2) ∧ w'.cell? ⟨(ay.add (k * 4)).block, (ay.add (k * 4)).off + 3, none⟩ = some (.int .i64 yk.f3)) (ds := []) #[false, false, false, false, false, false, false, false, false, false] (by kernel_rfl) rfl rfl ⟨x0', x1', x2', x3', y0', y1', y2', y3'⟩ (fun hHeld => ?_)
           refine pure_ (i := 0) (N := some 89) (v := ?_) (a' := ?_) #[true, false, false, false, false, false, false, false, false, false] rfl rfl (by kernel_rfl) (fun _ _ _ h => h) (Or.inl ⟨by rfl, ?_⟩) ?_ ?_
           rotate_left
           · intro w'
             go_simp
             with_reducible rfl
           rotate_left
           · simp only [Act.put, List.setIfInBounds_toArray, List.set_cons_zero, List.set_cons_succ, i64_w, i32_w]
             rfl
           refine pure_ (i := 1) (N := some 90) (v := ?_) (a' := ?_) #[true, true, false, false, false, false, false, false, false, false] rfl rfl (by kernel_rfl) (fun _ _ _ h => h) (Or.inl ⟨by rfl, ?_⟩) ?_ ?_
           rotate_left
           · intro w'
             go_simp
             with_reducible rfl
           rotate_left
           · simp only [Act.put, List.setIfInBounds_toArray, List.set_cons_zero, List.set_cons_succ, i64_w, i32_w]
             rfl
           refine pure_ (i := 2) (N := some 91) (v := ?_) (a' := ?_) #[true, true, true, false, false, false, false, false, false, false] rfl rfl (by kernel_rfl) (fun _ _ _ h => h) (Or.inl ⟨by rfl, ?_⟩) ?_ ?_
           rotate_left
           · intro w'
             go_simp
             with_reducible rfl
           rotate_left
           · simp only [Act.put, List.setIfInBounds_toArray, List.set_cons_zero, List.set_cons_succ, i64_w, i32_w]
             rfl
           refine pure_ (i := 4) (N := some 93) (v := ?_) (a' := ?_) #[true, true, true, false, true, false, false, false, false, false] rfl rfl (by kernel_rfl) (fun _ _ _ h => h) (Or.inl ⟨by rfl, ?_⟩) ?_ ?_
           rotate_left
           · intro w'
             go_simp
             with_reducible rfl
           rotate_left
           · simp only [Act.put, List.setIfInBounds_toArray, List.set_cons_zero, List.set_cons_succ, i64_w, i32_w]
             rfl
           refine pure_ (i := 5) (N := some 94) (v := ?_) (a' := ?_) #[true, true, true, false, true, true, false, false, false, false] rfl rfl (by kernel_rfl) (fun _ _ _ h => h) (Or.inl ⟨by rfl, ?_⟩) ?_ ?_
           rotate_left
           · intro w'
             go_simp
             with_reducible rfl
           rotate_left
           · simp only [Act.put, List.setIfInBounds_toArray, List.set_cons_zero, List.set_cons_succ, i64_w, i32_w]
             rfl
           refine pure_ (i := 6) (N := some 95) (v := ?_) (a' := ?_) #[true, true, true, false, true, true, true, false, false, false] rfl rfl (by kernel_rfl) (fun _ _ _ h => h) (Or.inl ⟨by rfl, ?_⟩) ?_ ?_
           rotate_left
           · intro w'
             go_simp
             with_reducible rfl
           rotate_left
           · simp only [Act.put, List.setIfInBounds_toArray, List.set_cons_zero, List.set_cons_succ, i64_w, i32_w]
             rfl
           refine take_ (i := 3) (N := some 92) (v := ?_) (a' := ?_) #[true, true, true, true, true, true, true, false, false, false] rfl rfl (by kernel_rfl) (fun _ _ _ h => h) (Or.inl ⟨by rfl, ?_⟩) hHeld ?_ ?_
           rotate_left
           · rintro w' ⟨s0, s1, s2, s3, s4, s5, s6, s7⟩
             go_simp
             with_reducible rfl
           rotate_left
           · simp only [Act.put, List.setIfInBounds_toArray, List.set_cons_zero, List.set_cons_succ, i64_w, i32_w]
             rfl
           refine take_ (i := 7) (N := some 96) (v := ?_) (a' := ?_) #[true, true, true, true, true, true, true, true, false, false] rfl rfl (by kernel_rfl) (fun _ _ _ h => h) (Or.inl ⟨by rfl, ?_⟩) hHeld ?_ ?_
           rotate_left
           · rintro w' ⟨s0, s1, s2, s3, s4, s5, s6, s7⟩
             go_simp
             with_reducible rfl
           rotate_left
           · simp only [Act.put, List.setIfInBounds_toArray, List.set_cons_zero, List.set_cons_succ, i64_w, i32_w]
             rfl
           refine pure_ (i := 8) (N := some 97) (v := ?_) (a' := ?_) #[true, true, true, true, true, true, true, true, true, false] rfl rfl (by kernel_rfl) (fun _ _ _ h => h) (Or.inl ⟨by rfl, ?_⟩) ?_ ?_
           rotate_left
           · intro w'
             go_simp
             with_reducible rfl
           rotate_left
           · simp only [Act.put, List.setIfInBounds_toArray, List.set_cons_zero, List.set_cons_succ, i64_w, i32_w]
             rfl
           refine pure_ (i := 9) (N := some 14) (v := ?_) (a' := ?_) #[true, true, true, true, true, true, true, true, true, true] rfl rfl (by kernel_rfl) (fun _ _ _ h => h) (Or.inl ⟨by rfl, ?_⟩) ?_ ?_
           rotate_left
           · intro w'
             go_simp
             with_reducible rfl
           rotate_left
           · simp only [Act.put, List.setIfInBounds_toArray, List.set_cons_zero, List.set_cons_succ, i64_w, i32_w]
             rfl
           refine done_ (by kernel_rfl) ?_
           go_wp2
           go_roundg (X.length - (k + 1))
           case measure => omega
           case rel => exact ⟨k + 1, by go_num, by rw [HSN.out]; rfl, ⟨HW.out.drew⟩, ⟨by omega⟩⟩
         · have hex : (aL X Y k = true ∧ (R.rev == T.rev) = true ∧ k = X.length) ∨ (aL X Y k = false ∧ (R.rev == T.rev) = false ∧ True) := by
             cases hb : aL X Y k with
             | true =>
               obtain rfl : k = X.length := by
                 rcases Nat.lt_or_ge k X.length with h | h
                 · exact absurd ⟨hb, h⟩ hgo
                 · omega
               have := H5.out
               rw [hb] at this
               exact .inl ⟨rfl, by simpa using this.symm, rfl⟩
             | false =>
               have := H5.out
               rw [aL_stop hb _ hk] at this
               exact .inr ⟨rfl, by simpa using this.symm, trivial⟩
           have HT9 := Aside0.mk (HT8.out.below HW.out)
           have HC9 := Aside0.mk (HC8.out.below HW.out)
           have HB9 : Aside0 (Below w.heap.size w wr) := ⟨HB8.out.trans (HW.out.mono HB8.out.size)⟩
           have f1 : decide ((X.length : Int) < (X.length : Int)) = false := decide_eq_false (by omega)
           have f2 : decide (X.length < X.length) = false := decide_eq_false (by omega)
           clear hgo HK hk hkkq HW HT8 HC8 HB8 HX8 HY8 H5 hst
           rcases hex with ⟨g1, g2, rfl⟩ | ⟨g1, g2, g3⟩ <;>
           (
            rw [g1]
            clear g1
            go_wp2_with fail
            refine (since_ro HT9.out T.rev).mono ?_
            rintro e w10 ⟨A10, c10, rfl, _, hb10⟩
            have HT10 := Aside0.mk (HT9.out.below hb10)
            have HC10 := Aside0.mk (HC9.out.below hb10)
            have HB10 : Aside0 (Below w.heap.size w w10) := ⟨HB9.out.trans (hb10.mono HB9.out.size)⟩
            obtain ⟨ns, hns⟩ : ∃ n, (sinceF R T.rev).length = n := ⟨_, rfl⟩
            have h6 := H6.out
            rw [hns] at h6 ⊢
            have d6 : decide ((1 : Int) < (ns : Int)) = false := decide_eq_false (by omega)
            have d7 : decide (1 < ns) = false := decide_eq_false (by omega)
            clear hb10 HT9 HC9 HB9 hns h6
            go_wp2_with fail
            refine (since_ro HC10.out T.rev).mono ?_
            rintro e w11 ⟨A11, c11, rfl, _, hb11⟩
            rw [show (sinceF T T.rev).length = 0 by rw [since_now HTOK.out]; rfl]
            have HT11 := Aside0.mk (HT10.out.below hb11)
            have HB11 : Aside0 (Below w.heap.size w w11) := ⟨HB10.out.trans (hb11.mono HB10.out.size)⟩
            clear hb11 HT10 HC10 HB10
            go_wp2
            go_roundg (l0.length - (j + 1))
            case measure => omega
            case rel => exact ⟨j + 1, R, by go_num, ⟨by omega⟩, HR, HT11, HB11⟩
           )
      )
    · obtain rfl : j = l0.length := by omega
      have hdj : decide ((l0.length : Int) < (l0.length : Int)) = false := decide_eq_false (by omega)
      have hdj2 : decide (l0.length < l0.length) = false := decide_eq_false (by omega)
      clear HT HM HJ hj hkq hlt HT3 HB3 HACT HR0
      have HB5 := HB
      clear HB
      obtain ⟨w5, hw5⟩ : ∃ x, wr = x := ⟨_, rfl⟩
      subst hw5
      go_wp2_with fail
      refine (find_nil bA wr).mono ?_
      rintro e w6 ⟨rfl, hb6⟩
      have HB6 : Aside0 (Below w.heap.size w w6) := ⟨HB5.out.trans (hb6.mono HB5.out.size)⟩
      simp only [vF]
      clear hb6 HB5
      go_wp2_with fail
      obtain ⟨w7, hw7⟩ : ∃ x, w6.alloc (.cells #[.string nil0, .string nil0, .int .i64 0, .int .i64 0] 32) = x := ⟨_, rfl⟩
      have HB7 : Aside0 (Below w.heap.size w w7) := ⟨by rw [← hw7]; exact HB6.out.alloc HB6.out.size _⟩
      rw [hw7]
      clear hw7 HB6
      refine (put_nil bA nil0 0 w7).mono ?_
      rintro e w8 ⟨rfl, rfl⟩
      go_wp2_with fail
      refine (drop_nil bA _).mono ?_
      rintro e w8 ⟨rfl, rfl⟩
      go_wp2_with fail
      refine (rev_nil _).mono ?_
      rintro e w8 ⟨rfl, rfl⟩
      go_wp2_with fail
      refine (bytes_nil _).mono ?_
      rintro e w9 ⟨rfl, hb9⟩
      have HB9 : Aside0 (Below w.heap.size w w9) := ⟨HB7.out.trans (hb9.mono HB7.out.size)⟩
      clear hb9 HB7
      go_wp2_with fail
      refine (all_nil _).mono ?_
      rintro e w10 ⟨A10, c10, rfl, hb10⟩
      have HB10 : Aside0 (Below w.heap.size w w10) := ⟨HB9.out.trans (hb10.mono HB9.out.size)⟩
      clear hb10 HB9
      go_wp2_with fail
      refine (since_nil 0 _).mono ?_
      rintro e w11 ⟨rfl, hb11⟩
      have HB11 : Aside0 (Below w.heap.size w w11) := ⟨HB10.out.trans (hb11.mono HB10.out.size)⟩
      clear hb11 HB10
      go_wp2_with fail
      refine (clone_nil _).mono ?_
      rintro e w12 ⟨rfl, hT12, hb12⟩
      have HB12 : Aside0 (Below w.heap.size w w12) := ⟨HB11.out.trans (hb12.mono HB11.out.size)⟩
      have HT12 := Aside0.mk hT12
      clear hb12 hT12
      go_wp2_with fail
      refine (rev_any HT12.out).mono ?_
      rintro e w13 ⟨rfl, rfl⟩
      go_wp2_with fail
      refine (clone_nil _).mono ?_
      rintro e w14 ⟨rfl, hT14, hb14⟩
      have HB14 : Aside0 (Below w.heap.size w w14) := ⟨HB12.out.trans (hb14.mono HB12.out.size)⟩
      have HZ14 := Aside0.mk hb14.size
      have HT14 := Aside0.mk hT14
      clear hb14 hT14 HT12 HB11
      go_wp2_with fail
      refine (put_any HZ14.out HT14.out (by decide) bA nil0 0 (by decide)).mono ?_
      rintro e w15 ⟨rfl, _, hb15⟩
      rw [put_6]
      have HB15 : Aside0 (Below w.heap.size w w15) := ⟨HB14.out.trans (hb15.below.mono HB12.out.size)⟩
      clear hb15 HT14
      go_wp2
      go_ret
      exact ⟨rfl, HB15.out⟩
end Go.Proofs.Ytonhfcjldbohbaa.Fi
