/- files: FilesSince's walk. -/
import Derived.Test.YtonhfcjldbohbaaFlP
import Derived.Laws.Cover1
namespace Go.Proofs.Ytonhfcjldbohbaa.Fi
open Go Go.RowKit Go.ChangeMaps Go.MapKept Go.Proofs.Ytonhfcjldbohbaa.PA Go.Proofs.YtonhfcjldbohbaaW.PrintWords Go.Proofs.YtonhfcjldbohbaaW.PrintLast Go.Proofs.YtonhfcjldbohbaaW.PrintMore
attribute [local go_sem] Oper.semAt_some
set_option linter.unusedVariables false
set_option linter.unusedSimpArgs false

theorem C_below {α : Type} {d : Kd α} {w w' : World} {A : Option Addr} {n : Nat} {xs : List α} (h : Kd.C d w A n xs) (hb : Below w.heap.size w w') : Kd.C d w' A n xs := by
  first | exact Kd.C_below h hb | exact h.below hb | exact Kd.C.below h hb
/-- A list of strings, read. -/
def Ro (w : World) (A : Option Addr) (c : Nat) (xs : List ByteArray) : Prop := w.ownsRow 0 9 1 (.slice A xs.length c) xs.length (encs Value.string xs)
theorem Ro.below {w w' : World} {A : Option Addr} {c : Nat} {xs : List ByteArray} (h : Ro w A c xs) (hb : Below w.heap.size w w') : Ro w' A c xs := own_heap h (fun k e => hb.block k (h.lt k e).2)
theorem Ro.at_ {w : World} {A : Option Addr} {c : Nat} {xs : List ByteArray} (h : Ro w A c xs) (i : Nat) (hi : i < xs.length) : ∃ ad, A = some ad ∧ w.cell? (ad.add i) = some (.string xs[i]) := by
  obtain ⟨ad, e, hc⟩ := (own_reads_of' (d := ByteArray.empty) h).at_ (i : Int) (by omega) (by omega)
  rw [Int.toNat_natCast] at hc
  have : rdOf ByteArray.empty xs (i : Int) = xs[i] := by simp [rdOf, List.getD_eq_getElem?_getD, List.getElem?_eq_getElem hi]
  rw [this] at hc
  exact ⟨ad, e, hc⟩
theorem since_ro {B : Nat} {S : Nat → Prop} {t : Nat} {T : Tb} {w : World} (h : TB B S t T w) (rev : Int) :
    Calls Try.prog 14 #[.pointer (some ⟨t, 0, none⟩), .int .i64 rev] w fun e w' => ∃ A c, e = .returned (.slice A (sinceF T rev).length c) ∧ Ro w' A c (sinceF T rev) ∧ Below w.heap.size w w' := by
  refine (since_any h rev).mono ?_
  rintro e w' ⟨A, c, rfl, h1, h2⟩
  exact ⟨A, c, rfl, own_base h1 (Nat.zero_le _), h2⟩
theorem act_mem (l : List Act13) (j : Nat) (h : j < l.length) : rd_T43 l (j : Int) = l[j] := by simp [rd_T43, List.getD_eq_getElem?_getD, List.getElem?_eq_getElem h]

set_option maxHeartbeats 4000000 in
set_option maxRecDepth 100000 in
theorem FilesSince_any (A0 : Option Addr) (c0 : Nat) (l0 : List Act13) (x1 x2 : Int) (w : World) (hr0 : Kd.C k43 w A0 l0.length l0) (hc0 : l0.length ≤ c0) (h1 : 0 ≤ x1) (h1' : x1 < 256) (h2 : 0 ≤ x2) (h2' : x2 < 256) :
    Calls Try.prog 5 #[.slice A0 l0.length c0, .int .u8 x1, .int .u8 x2] w fun e w' => e = .returned (.bool true) ∧ Below w.heap.size w w' := by
  have HR0 := Aside0.mk hr0
  clear hr0
  obtain ⟨kf, bf, hkf, hfar⟩ := far_ex l0
  have HKF := Aside0.mk hkf
  have HFAR := Aside0.mk hfar
  clear hkf hfar
  go_enter Try.func5, Try.ntmps5
  go_wp2_with fail
  refine (alive_any w).mono ?_
  rintro e w1 ⟨rfl, hb1⟩
  have HB1 := Aside0.mk hb1
  clear hb1
  go_wp2_with fail
  refine (cupellaw13_Far.calls kf A0 c0 l0 bf w1 (C_below HR0.out HB1.out) hc0 HKF.out).mono ?_
  rintro e w2 ⟨rfl, hb2⟩
  have HB2 : Aside0 (Below w.heap.size w w2) := ⟨HB1.out.trans (hb2.below.mono HB1.out.size)⟩
  clear hb2 HB1
  cases bf with
  | true =>
    go_wp2
    go_ret
    exact ⟨rfl, HB2.out⟩
  | false =>
  obtain ⟨hlen, hacts⟩ := HFAR.out rfl
  have HACT := Aside0.mk hacts
  clear hacts HFAR HKF
  go_wp2_with fail
  refine (new_any 1000 (by decide) w2).mono ?_
  rintro e w3 ⟨rfl, hT, hb⟩
  obtain ⟨Bz, hBz⟩ : ∃ B, w2.heap.size = B := ⟨_, rfl⟩
  have hz3 : Bz ≤ w3.heap.size := by rw [← hBz]; exact hb.size
  have HT3 := Aside0.mk hT
  have HB3 : Aside0 (Below w.heap.size w w3) := ⟨HB2.out.trans (hb.mono HB2.out.size)⟩
  have hwB : w.heap.size ≤ Bz := by rw [← hBz]; exact HB2.out.size
  rw [hBz] at HT3 ⊢
  clear hT hb HB2 hBz
  obtain ⟨t, ht⟩ : ∃ t, Bz + 2 = t := ⟨_, rfl⟩
  rw [ht] at HT3 ⊢
  clear ht
  generalize NewS w2 = S at HT3
  go_wp2_with fail
  go_loopg [9] l0.length (fun kq v9 wr => ∃ (j : Nat), v9 = .int .i64 j ∧ Aside0 (j ≤ l0.length ∧ kq = l0.length - j) ∧ Aside0 (TB Bz S t (actsT ⟨1000, 0, []⟩ (l0.take j)) wr) ∧ Aside0 (Below w.heap.size w wr) ∧ Aside0 (Bz ≤ wr.heap.size))
  case atStart => exact ⟨0, rfl, ⟨by omega⟩, HT3, HB3, ⟨hz3⟩⟩
  case round =>
    obtain ⟨j, rfl, HJ, HT, HB, HZ⟩ := hrel
    obtain ⟨hj, hkq⟩ := HJ.out
    by_cases hlt : j < l0.length
    · have hdj : decide ((j : Int) < (l0.length : Int)) = true := decide_eq_true (by omega)
      have hdj2 : decide (j < l0.length) = true := decide_eq_true hlt
      obtain ⟨ad, hA, q0, q1, q2, q3⟩ := at_T43 (C_below HR0.out HB.out) (j : Int) (by omega) (by omega)
      subst hA
      rw [act_mem l0 j hlt, Int.toNat_natCast] at q0 q1 q2 q3
      have hsn : l0.take (j + 1) = l0.take j ++ [l0[j]] := List.take_succ_eq_append_getElem hlt
      have hmem := List.getElem_mem hlt
      have hTl := actsT_len (l0.take j) ⟨1000, 0, []⟩
      have hTl2 : (l0.take j).length ≤ 100 := by rw [List.length_take]; omega
      generalize l0[j] = a at q0 q1 q2 q3 hsn hmem
      have hna := (HACT.out a hmem).1
      have HSN := Aside0.mk hsn
      clear hsn hmem
      go_wp2_with fail
      refine (do_any HZ.out HT.out (by have e : ([] : List Fl).length = 0 := rfl; omega) a hna).mono ?_
      rintro e w4 ⟨rfl, hT, hb⟩
      have HT4 : Aside0 (TB Bz S t (actsT ⟨1000, 0, []⟩ (l0.take (j + 1))) w4) := ⟨by rw [HSN.out, actsT_snoc]; exact hT⟩
      have HB4 : Aside0 (Below w.heap.size w w4) := ⟨HB.out.trans (hb.below.mono hwB)⟩
      have HZ4 : Aside0 (Bz ≤ w4.heap.size) := ⟨Nat.le_trans HZ.out hb.below.size⟩
      clear hT hb q0 q1 q2 q3 HT HB HZ hTl hTl2
      go_wp2
      go_roundg (l0.length - (j + 1))
      case measure => omega
      case rel => exact ⟨j + 1, by go_num, ⟨by omega⟩, HT4, HB4, HZ4⟩
    · obtain rfl : j = l0.length := by omega
      have hdj : decide ((l0.length : Int) < (l0.length : Int)) = false := decide_eq_false (by omega)
      have hdj2 : decide (l0.length < l0.length) = false := decide_eq_false (by omega)
      rw [List.take_length] at HT
      have hpos : Pos (actsT ⟨1000, 0, []⟩ l0) := pos_acts l0 ⟨Int.le_refl _, by simp⟩
      have HPOS := Aside0.mk hpos
      have hTl := actsT_len l0 ⟨1000, 0, []⟩
      clear hpos HJ hj hkq hlt HT3 HB3 hz3 HACT HR0
      obtain ⟨T, hTT⟩ : ∃ T, actsT ⟨1000, 0, []⟩ l0 = T := ⟨_, rfl⟩
      rw [hTT] at HT HPOS hTl
      have hTl2 : T.l.length ≤ 100 := Nat.le_trans hTl (by show 0 + _ ≤ 100; omega)
      clear hTT hTl
      obtain ⟨wq, hwq⟩ : ∃ x, wr = x := ⟨_, rfl⟩
      subst hwq
      go_wp2_with fail
      obtain ⟨p, hp⟩ : ∃ p, min x1 x2 = p := ⟨_, rfl⟩
      obtain ⟨q, hq⟩ : ∃ q, max x1 x2 = q := ⟨_, rfl⟩
      have hpq : p ≤ q := by omega
      rw [hp, hq]
      clear hp hq
      refine (since_ro HT.out p).mono ?_
      rintro e w5 ⟨A5, c5, rfl, hE, hb5⟩
      have HT5 := Aside0.mk (HT.out.below hb5)
      have HB5 : Aside0 (Below w.heap.size w w5) := ⟨HB.out.trans (hb5.mono HB.out.size)⟩
      have HE5 := Aside0.mk hE
      clear hE hb5 HT HB HZ
      go_wp2_with fail
      refine (since_ro HT5.out q).mono ?_
      rintro e w6 ⟨A6, c6, rfl, hL, hb6⟩
      have HT6 := Aside0.mk (HT5.out.below hb6)
      have HB6 : Aside0 (Below w.heap.size w w6) := ⟨HB5.out.trans (hb6.mono HB5.out.size)⟩
      have HE6 := Aside0.mk (HE5.out.below hb6)
      have HL6 := Aside0.mk hL
      clear hL hb6 HT5 HB5 HE5
      obtain ⟨E, hEE⟩ : ∃ E, sinceF T p = E := ⟨_, rfl⟩
      obtain ⟨L, hLL⟩ : ∃ L, sinceF T q = L := ⟨_, rfl⟩
      have hsub : ∀ x ∈ L, x ∈ E := by rw [← hEE, ← hLL]; exact since_sub (T := T) hpq
      have hstep : ∀ i (hi : i + 1 < L.length), Op.bytesLess (L[i].toList) (L[i + 1].toList) = true := by
        subst hLL
        obtain ⟨bm, bd, hT0⟩ := HT6.out
        exact fun i hi => since_step hT0.ok.sorted q i hi
      have hEl : E.length ≤ 100 := by rw [← hEE]; unfold sinceF; rw [List.length_map]; exact Nat.le_trans (List.length_filter_le _ _) hTl2
      have hLl : L.length ≤ 100 := by rw [← hLL]; unfold sinceF; rw [List.length_map]; exact Nat.le_trans (List.length_filter_le _ _) hTl2
      rw [hEE] at HE6 ⊢
      rw [hLL] at HL6 ⊢
      clear hEE hLL
      have HSUB := Aside0.mk hsub
      have HSTEP := Aside0.mk hstep
      clear hsub hstep hpq
      go_wp2_with fail
      go_loopg [14] L.length (fun kq v14 wx => ∃ (i : Nat), v14 = .int .i64 i ∧ Aside0 (Below w6.heap.size w6 wx) ∧ Aside0 (i ≤ L.length ∧ kq = L.length - i))
      case atStart => exact ⟨0, rfl, ⟨Below.refl _ _⟩, ⟨by omega⟩⟩
      case round =>
        obtain ⟨i, rfl, HW, HI⟩ := hrel
        obtain ⟨hi, hikq⟩ := HI.out
        by_cases hlt : i < L.length
        · have e1 : decide ((i : Int) < (L.length : Int)) = true := decide_eq_true (by omega)
          have e2 : decide (i < L.length) = true := decide_eq_true hlt
          obtain ⟨ad6, hA6, cL⟩ := (HL6.out.below HW.out).at_ i hlt
          subst hA6
          have CL := Aside0.mk cL
          clear cL
          have hmem : L[i] ∈ E := HSUB.out _ (List.getElem_mem hlt)
          obtain ⟨y, hy⟩ : ∃ y, L[i] = y := ⟨_, rfl⟩
          rw [hy] at CL hmem
          have HY := Aside0.mk hy
          have HMEM := Aside0.mk hmem
          clear hy hmem
          go_wp2_with fail
          obtain ⟨wl, rfl⟩ : ∃ x, x = wr := ⟨_, rfl⟩
          go_loopg [15, 16] E.length (fun kq v15 v16 wx => ∃ (k : Nat), v16 = .int .i64 k ∧ v15 = .bool (decide (y ∈ E.take k)) ∧ Aside0 (Below w6.heap.size w6 wx) ∧ Aside0 (k ≤ E.length ∧ kq = E.length - k))
          case atStart => exact ⟨0, rfl, by simp, HW, ⟨by omega⟩⟩
          case round =>
            obtain ⟨k, rfl, rfl, HW2, HK⟩ := hrel
            obtain ⟨hk, hkkq⟩ := HK.out
            by_cases hlk : k < E.length
            · have f1 : decide ((k : Int) < (E.length : Int)) = true := decide_eq_true (by omega)
              have f2 : decide (k < E.length) = true := decide_eq_true hlk
              obtain ⟨ad5, hA5, cE⟩ := (HE6.out.below HW2.out).at_ k hlk
              subst hA5
              have hsn : E.take (k + 1) = E.take k ++ [E[k]] := List.take_succ_eq_append_getElem hlk
              have cL := (HL6.out.below HW2.out).at_ i hlt
              obtain ⟨ad7, hA7, cL⟩ := cL
              obtain rfl := Option.some.inj hA7
              rw [HY.out] at cL
              generalize E[k] = z at cE hsn
              have hsn2 : decide (y ∈ E.take (k + 1)) = (decide (y ∈ E.take k) || (z.toList == y.toList)) := by
                rw [hsn, toList_eq]
                by_cases g1 : y ∈ E.take k
                · simp [g1]
                · by_cases g2 : y = z
                  · simp [g2]
                  · have g3 : ¬ z = y := fun e => g2 e.symm
                    simp [g1, g2, g3]
              have HSN := Aside0.mk hsn2
              clear hsn hsn2
              cases hb : decide (y ∈ E.take k)
              · rw [hb] at HSN
                clear hb
                go_wp2_with fail
                go_region
                go_wp2
                go_roundg (E.length - (k + 1))
                case measure => omega
                case rel => exact ⟨k + 1, by go_num, by rw [HSN.out]; simp, ⟨HW2.out.drew⟩, ⟨by omega⟩⟩
              · rw [hb] at HSN
                clear hb
                go_wp2_with fail
                go_region
                go_wp2
                go_roundg (E.length - (k + 1))
                case measure => omega
                case rel => exact ⟨k + 1, by go_num, by rw [HSN.out]; simp, ⟨HW2.out.drew⟩, ⟨by omega⟩⟩
            · obtain rfl : k = E.length := by omega
              have f1 : decide ((E.length : Int) < (E.length : Int)) = false := decide_eq_false (by omega)
              have f2 : decide (E.length < E.length) = false := decide_eq_false (by omega)
              rw [List.take_length, decide_eq_true HMEM.out]
              clear HK hk hkkq hlk
              have hlt' := hlt
              obtain ⟨ad7, hA7, cL⟩ := (HL6.out.below HW2.out).at_ i hlt'
              obtain rfl := Option.some.inj hA7
              rw [HY.out] at cL
              rcases Nat.eq_zero_or_pos i with rfl | hi0
              · have g1 : decide ((0 : Int) < ((0 : Nat) : Int)) = false := by decide
                go_wp2_with fail
                go_region
                go_wp2
                go_roundg (L.length - (0 + 1))
                case measure => omega
                case rel => exact ⟨0 + 1, by go_num, ⟨HW2.out.drew⟩, ⟨by omega⟩⟩
              · obtain ⟨k, hk⟩ : ∃ k, i = k + 1 := ⟨i - 1, by omega⟩
                have g1 : decide ((0 : Int) < (i : Int)) = true := decide_eq_true (by omega)
                have g2 : decide (0 < i) = true := decide_eq_true hi0
                obtain ⟨ad8, hA8, cM⟩ := (HL6.out.below HW2.out).at_ k (by omega)
                obtain rfl := Option.some.inj hA8
                have hless : Op.bytesLess (L[k].toList) (y.toList) = true := by
                  have h := HSTEP.out k (by omega)
                  have e : L[k + 1] = y := by rw [← HY.out]; congr 1; exact hk.symm
                  rw [e] at h
                  exact h
                generalize L[k] = y0 at cM hless
                have hw1 : wrap64 ((i : Int) - 1) = (k : Int) := by unfold wrap64; omega
                have hb1 : decide ((k : Int) < (L.length : Int)) = true := decide_eq_true (by omega)
                have hb2 : decide (k < L.length) = true := decide_eq_true (by omega)
                have hb3 : k < L.length := by omega
                have HK := Aside0.mk hk
                clear hA7 hA8 hk
                go_wp2_with fail
                refine start_ (n := 18) (S := fun w' => w'.cell? (ad6.add k) = some (.string y0) ∧ w'.cell? (ad6.add i) = some (.string y)) (ds := []) #[false, false, false, false, false, false, false, false, false, false, false, false, false, false, false, false, false, false] (by kernel_rfl) rfl rfl ⟨cM, cL⟩ (fun hHeld => ?_)
                refine pure_ (i := 0) (N := some 80) (v := ?_) (a' := ?_) #[true, false, false, false, false, false, false, false, false, false, false, false, false, false, false, false, false, false] rfl rfl (by kernel_rfl) (fun _ _ _ h => h) (Or.inl ⟨by rfl, ?_⟩) ?_ ?_
                rotate_left
                · intro w'
                  go_simp
                  with_reducible rfl
                rotate_left
                · simp only [Act.put, List.setIfInBounds_toArray, List.set_cons_zero, List.set_cons_succ, i64_w, i32_w]
                  rfl
                refine pure_ (i := 1) (N := some 81) (v := ?_) (a' := ?_) #[true, true, false, false, false, false, false, false, false, false, false, false, false, false, false, false, false, false] rfl rfl (by kernel_rfl) (fun _ _ _ h => h) (Or.inl ⟨by rfl, ?_⟩) ?_ ?_
                rotate_left
                · intro w'
                  go_simp
                  with_reducible rfl
                rotate_left
                · simp only [Act.put, List.setIfInBounds_toArray, List.set_cons_zero, List.set_cons_succ, i64_w, i32_w]
                  rfl
                refine pure_ (i := 2) (N := some 82) (v := ?_) (a' := ?_) #[true, true, true, false, false, false, false, false, false, false, false, false, false, false, false, false, false, false] rfl rfl (by kernel_rfl) (fun _ _ _ h => h) (Or.inl ⟨by rfl, ?_⟩) ?_ ?_
                rotate_left
                · intro w'
                  go_simp
                  with_reducible rfl
                rotate_left
                · simp only [Act.put, List.setIfInBounds_toArray, List.set_cons_zero, List.set_cons_succ, i64_w, i32_w]
                  rfl
                refine pure_ (i := 3) (N := some 83) (v := ?_) (a' := ?_) #[true, true, true, true, false, false, false, false, false, false, false, false, false, false, false, false, false, false] rfl rfl (by kernel_rfl) (fun _ _ _ h => h) (Or.inl ⟨by rfl, ?_⟩) ?_ ?_
                rotate_left
                · intro w'
                  go_simp
                  with_reducible rfl
                rotate_left
                · simp only [Act.put, List.setIfInBounds_toArray, List.set_cons_zero, List.set_cons_succ, i64_w, i32_w]
                  rfl
                refine pure_ (i := 4) (N := some 84) (v := ?_) (a' := ?_) #[true, true, true, true, true, false, false, false, false, false, false, false, false, false, false, false, false, false] rfl rfl (by kernel_rfl) (fun _ _ _ h => h) (Or.inl ⟨by rfl, ?_⟩) ?_ ?_
                rotate_left
                · intro w'
                  go_simp
                  with_reducible rfl
                rotate_left
                · simp only [Act.put, List.setIfInBounds_toArray, List.set_cons_zero, List.set_cons_succ, i64_w, i32_w]
                  rfl
                refine pure_ (i := 5) (N := some 85) (v := ?_) (a' := ?_) #[true, true, true, true, true, true, false, false, false, false, false, false, false, false, false, false, false, false] rfl rfl (by kernel_rfl) (fun _ _ _ h => h) (Or.inl ⟨by rfl, ?_⟩) ?_ ?_
                rotate_left
                · intro w'
                  go_simp
                  with_reducible rfl
                rotate_left
                · simp only [Act.put, List.setIfInBounds_toArray, List.set_cons_zero, List.set_cons_succ, i64_w, i32_w]
                  rfl
                refine pure_ (i := 6) (N := some 86) (v := ?_) (a' := ?_) #[true, true, true, true, true, true, true, false, false, false, false, false, false, false, false, false, false, false] rfl rfl (by kernel_rfl) (fun _ _ _ h => h) (Or.inl ⟨by rfl, ?_⟩) ?_ ?_
                rotate_left
                · intro w'
                  go_simp
                  with_reducible rfl
                rotate_left
                · simp only [Act.put, List.setIfInBounds_toArray, List.set_cons_zero, List.set_cons_succ, i64_w, i32_w]
                  rfl
                refine pure_ (i := 7) (N := some 87) (v := ?_) (a' := ?_) #[true, true, true, true, true, true, true, true, false, false, false, false, false, false, false, false, false, false] rfl rfl (by kernel_rfl) (fun _ _ _ h => h) (Or.inl ⟨by rfl, ?_⟩) ?_ ?_
                rotate_left
                · intro w'
                  go_simp
                  with_reducible rfl
                rotate_left
                · simp only [Act.put, List.setIfInBounds_toArray, List.set_cons_zero, List.set_cons_succ, i64_w, i32_w]
                  rfl
                refine pure_ (i := 8) (N := some 88) (v := ?_) (a' := ?_) #[true, true, true, true, true, true, true, true, true, false, false, false, false, false, false, false, false, false] rfl rfl (by kernel_rfl) (fun _ _ _ h => h) (Or.inl ⟨by rfl, ?_⟩) ?_ ?_
                rotate_left
                · intro w'
                  go_simp
                  with_reducible rfl
                rotate_left
                · simp only [Act.put, List.setIfInBounds_toArray, List.set_cons_zero, List.set_cons_succ, i64_w, i32_w]
                  rfl
                refine pure_ (i := 9) (N := some 89) (v := ?_) (a' := ?_) #[true, true, true, true, true, true, true, true, true, true, false, false, false, false, false, false, false, false] rfl rfl (by kernel_rfl) (fun _ _ _ h => h) (Or.inl ⟨by rfl, ?_⟩) ?_ ?_
                rotate_left
                · intro w'
                  go_simp
                  with_reducible rfl
                rotate_left
                · simp only [Act.put, List.setIfInBounds_toArray, List.set_cons_zero, List.set_cons_succ, i64_w, i32_w]
                  rfl
                refine pure_ (i := 11) (N := some 91) (v := ?_) (a' := ?_) #[true, true, true, true, true, true, true, true, true, true, false, true, false, false, false, false, false, false] rfl rfl (by kernel_rfl) (fun _ _ _ h => h) (Or.inl ⟨by rfl, ?_⟩) ?_ ?_
                rotate_left
                · intro w'
                  go_simp
                  with_reducible rfl
                rotate_left
                · simp only [Act.put, List.setIfInBounds_toArray, List.set_cons_zero, List.set_cons_succ, i64_w, i32_w]
                  rfl
                refine pure_ (i := 12) (N := some 92) (v := ?_) (a' := ?_) #[true, true, true, true, true, true, true, true, true, true, false, true, true, false, false, false, false, false] rfl rfl (by kernel_rfl) (fun _ _ _ h => h) (Or.inl ⟨by rfl, ?_⟩) ?_ ?_
                rotate_left
                · intro w'
                  go_simp
                  with_reducible rfl
                rotate_left
                · simp only [Act.put, List.setIfInBounds_toArray, List.set_cons_zero, List.set_cons_succ, i64_w, i32_w]
                  rfl
                refine pure_ (i := 13) (N := some 93) (v := ?_) (a' := ?_) #[true, true, true, true, true, true, true, true, true, true, false, true, true, true, false, false, false, false] rfl rfl (by kernel_rfl) (fun _ _ _ h => h) (Or.inl ⟨by rfl, ?_⟩) ?_ ?_
                rotate_left
                · intro w'
                  go_simp
                  with_reducible rfl
                rotate_left
                · simp only [Act.put, List.setIfInBounds_toArray, List.set_cons_zero, List.set_cons_succ, i64_w, i32_w]
                  rfl
                refine take_ (i := 10) (N := some 90) (v := ?_) (a' := ?_) #[true, true, true, true, true, true, true, true, true, true, true, true, true, true, false, false, false, false] rfl rfl (by kernel_rfl) (fun _ _ _ h => h) (Or.inl ⟨by rfl, ?_⟩) hHeld ?_ ?_
                rotate_left
                · rintro w' ⟨s0, s1⟩
                  go_simp
                  with_reducible rfl
                rotate_left
                · simp only [Act.put, List.setIfInBounds_toArray, List.set_cons_zero, List.set_cons_succ, i64_w, i32_w]
                  rfl
                refine take_ (i := 14) (N := some 94) (v := ?_) (a' := ?_) #[true, true, true, true, true, true, true, true, true, true, true, true, true, true, true, false, false, false] rfl rfl (by kernel_rfl) (fun _ _ _ h => h) (Or.inl ⟨by rfl, ?_⟩) hHeld ?_ ?_
                rotate_left
                · rintro w' ⟨s0, s1⟩
                  go_simp
                  with_reducible rfl
                rotate_left
                · simp only [Act.put, List.setIfInBounds_toArray, List.set_cons_zero, List.set_cons_succ, i64_w, i32_w]
                  rfl
                refine pure_ (i := 15) (N := some 95) (v := ?_) (a' := ?_) #[true, true, true, true, true, true, true, true, true, true, true, true, true, true, true, true, false, false] rfl rfl (by kernel_rfl) (fun _ _ _ h => h) (Or.inl ⟨by rfl, ?_⟩) ?_ ?_
                rotate_left
                · intro w'
                  go_simp
                  with_reducible rfl
                rotate_left
                · simp only [Act.put, List.setIfInBounds_toArray, List.set_cons_zero, List.set_cons_succ, i64_w, i32_w]
                  rfl
                refine pure_ (i := 16) (N := some 96) (v := ?_) (a' := ?_) #[true, true, true, true, true, true, true, true, true, true, true, true, true, true, true, true, true, false] rfl rfl (by kernel_rfl) (fun _ _ _ h => h) (Or.inl ⟨by rfl, ?_⟩) ?_ ?_
                rotate_left
                · intro w'
                  go_simp
                  with_reducible rfl
                rotate_left
                · simp only [Act.put, List.setIfInBounds_toArray, List.set_cons_zero, List.set_cons_succ, i64_w, i32_w]
                  rfl
                refine pure_ (i := 17) (N := some 97) (v := ?_) (a' := ?_) #[true, true, true, true, true, true, true, true, true, true, true, true, true, true, true, true, true, true] rfl rfl (by kernel_rfl) (fun _ _ _ h => h) (Or.inl ⟨by rfl, ?_⟩) ?_ ?_
                rotate_left
                · intro w'
                  go_simp
                  with_reducible rfl
                rotate_left
                · simp only [Act.put, List.setIfInBounds_toArray, List.set_cons_zero, List.set_cons_succ, i64_w, i32_w]
                  rfl
                refine done_ (by kernel_rfl) ?_
                go_wp2
                go_roundg (L.length - (i + 1))
                case measure => omega
                case rel => exact ⟨i + 1, by go_num, ⟨HW2.out.drew⟩, ⟨by omega⟩⟩
        · obtain rfl : i = L.length := by omega
          have e1 : decide ((L.length : Int) < (L.length : Int)) = false := decide_eq_false (by omega)
          have e2 : decide (L.length < L.length) = false := decide_eq_false (by omega)
          have HT7 := Aside0.mk (HT6.out.below HW.out)
          have HB7 : Aside0 (Below w.heap.size w wr) := ⟨HB6.out.trans (HW.out.mono HB6.out.size)⟩
          clear HI hi hikq hlt HL6 HE6 HT6 HB6 HSUB HSTEP
          obtain ⟨w7, hw7⟩ : ∃ x, wr = x := ⟨_, rfl⟩
          subst hw7
          go_wp2_with fail
          refine (since_ro HT7.out 0).mono ?_
          rintro e w8 ⟨A8, c8, rfl, hN, hb8⟩
          have HT8 := Aside0.mk (HT7.out.below hb8)
          have HB8 : Aside0 (Below w.heap.size w w8) := ⟨HB7.out.trans (hb8.mono HB7.out.size)⟩
          rw [since_all HPOS.out 0 (Int.le_refl _)] at hN ⊢
          rw [List.length_map]
          have HN8 := Aside0.mk hN
          clear hN hb8 HT7 HB7 HW
          go_wp2_with fail
          go_loopg [18, 19] T.l.length (fun kq v18 v19 wx => ∃ (i : Nat), v19 = .int .i64 i ∧ v18 = .int .i64 (cntF T i) ∧ Aside0 (Below w8.heap.size w8 wx) ∧ Aside0 (i ≤ T.l.length ∧ kq = T.l.length - i))
          case atStart => exact ⟨0, rfl, by simp [cntF], ⟨Below.refl _ _⟩, ⟨by omega⟩⟩
          case round =>
            obtain ⟨i, rfl, rfl, HW, HI⟩ := hrel
            obtain ⟨hi, hikq⟩ := HI.out
            by_cases hlt : i < T.l.length
            · have e1 : decide ((i : Int) < (T.l.length : Int)) = true := decide_eq_true (by omega)
              have e2 : decide (i < T.l.length) = true := decide_eq_true hlt
              obtain ⟨ad8, hA8, cN⟩ := (HN8.out.below HW.out).at_ i (by rw [List.length_map]; exact hlt)
              subst hA8
              rw [List.getElem_map] at cN
              have hcnt := cntF_succ T i hlt
              have hTo : Sorted T.l := by
                obtain ⟨bm, bd, hT0⟩ := HT8.out
                exact hT0.ok.sorted
              have hfm := find_mem hTo (List.getElem_mem hlt)
              have hnz : (T.l[i].f0).size ≤ 1000000 := by
                obtain ⟨bm, bd, hT0⟩ := HT8.out
                exact (hT0.ok.el _ (List.getElem_mem hlt)).1
              have hcb : cntF T i ≤ 100 := by
                unfold cntF
                refine Nat.le_trans (List.length_filter_le _ _) ?_
                rw [List.length_take]; omega
              generalize T.l[i] = f at cN hcnt hfm hnz
              have HCN := Aside0.mk hcnt
              have HFM := Aside0.mk hfm
              clear hcnt hfm
              go_wp2_with fail
              refine (find_any (HT8.out.below HW.out) f.f0 (by omega)).mono ?_
              rintro e w9 ⟨rfl, hb9⟩
              have HW9 : Aside0 (Below w8.heap.size w8 w9) := ⟨HW.out.trans (hb9.mono HW.out.size)⟩
              unfold findV
              have hfe := HFM.out
              generalize findT T f.f0 = fe at hfe ⊢
              obtain ⟨fx, ex⟩ := fe
              have hfe2 : ex = if here f = true then 0 else 3 := hfe
              simp only [vF]
              clear hfe hb9 HW cN HFM
              by_cases hh : here f = true
              · rw [if_pos hh] at hfe2
                subst hfe2
                rw [if_pos hh] at HCN
                clear hh
                go_wp2
                go_roundg (T.l.length - (i + 1))
                case measure => omega
                case rel => exact ⟨i + 1, by go_num, by rw [HCN.out]; go_num, ⟨HW9.out.alloc (HW9.out.size) _⟩, ⟨by omega⟩⟩
              · rw [if_neg hh] at hfe2
                subst hfe2
                rw [if_neg hh] at HCN
                clear hh
                go_wp2
                go_roundg (T.l.length - (i + 1))
                case measure => omega
                case rel => exact ⟨i + 1, by go_num, by rw [HCN.out]; first | rfl | go_num, ⟨HW9.out.alloc (HW9.out.size) _⟩, ⟨by omega⟩⟩
            · obtain rfl : i = T.l.length := by omega
              have e1 : decide ((T.l.length : Int) < (T.l.length : Int)) = false := decide_eq_false (by omega)
              have e2 : decide (T.l.length < T.l.length) = false := decide_eq_false (by omega)
              have hcf : cntF T T.l.length = (allF T).length := by unfold cntF allF; rw [List.take_length]
              rw [hcf]
              obtain ⟨m, hm⟩ : ∃ m, (allF T).length = m := ⟨_, rfl⟩
              rw [hm]
              have HT9 := Aside0.mk (HT8.out.below HW.out)
              have HB9 : Aside0 (Below w.heap.size w wr) := ⟨HB8.out.trans (HW.out.mono HB8.out.size)⟩
              have hBz : ∀ W : World, TB Bz S t T W → Bz ≤ W.heap.size := fun W h => by
                obtain ⟨bm, bd, hT0⟩ := h
                have := hT0.sB _ hT0.st
                omega
              have hz9 := hBz wr HT9.out
              clear hcf HI hi hikq hlt HT8 HB8 HW HN8
              obtain ⟨w9, hw9⟩ : ∃ x, wr = x := ⟨_, rfl⟩
              subst hw9
              go_wp2_with fail
              refine (all_eq (w0 := w) m rfl hm hz9 HT9.out HB9.out).mono ?_
              rintro e w10 ⟨A10, c10, rfl, _, hb, hT, hz10⟩
              have HT10 := Aside0.mk hT
              have HB10 := Aside0.mk hb
              clear hb hT HT9 HB9 hz9
              go_wp2_with fail
              refine (rev_any HT10.out).mono ?_
              rintro e w11 ⟨rfl, rfl⟩
              go_wp2_with fail
              refine (since_ro HT10.out T.rev).mono ?_
              rintro e w12 ⟨A12, c12, rfl, _, hb⟩
              rw [show (sinceF T T.rev).length = 0 by
                obtain ⟨bm, bd, hT0⟩ := HT10.out
                rw [since_now hT0.ok]; rfl]
              have HT12 := Aside0.mk (HT10.out.below hb)
              have HB12 : Aside0 (Below w.heap.size w w12) := ⟨HB10.out.trans (hb.mono HB10.out.size)⟩
              clear hb HT10 HB10 hz10
              go_wp2_with fail
              refine (since_ro HT12.out (-1)).mono ?_
              rintro e w13 ⟨A13, c13, rfl, _, hb⟩
              rw [since_all HPOS.out (-1) (by decide), List.length_map]
              have HB13 : Aside0 (Below w.heap.size w w13) := ⟨HB12.out.trans (hb.mono HB12.out.size)⟩
              clear hb HT12 HB12
              go_wp2
              go_ret
              exact ⟨rfl, HB13.out⟩
end Go.Proofs.Ytonhfcjldbohbaa.Fi
