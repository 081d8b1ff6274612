/- fix: FixParts' walk. -/
import Derived.Test.YtiljegeodokfmaaGrP
namespace Go.Proofs.Ytiljegeodokfmaa.Fx
open Go Go.RowKit Go.Proofs.YtiljegeodokfmaaW.PrintWords Go.Proofs.YtiljegeodokfmaaW.PrintLast Go.Proofs.YtiljegeodokfmaaW.PrintMore Go.Proofs.Ytiljegeodokfmaa.PA
attribute [local go_sem] Oper.semAt_some
set_option linter.unusedVariables false
set_option linter.unusedSimpArgs false

set_option maxRecDepth 100000 in
set_option maxHeartbeats 4000000 in
theorem FixParts_any (A0 : Option Addr) (c0 : Nat) (l0 : List S30) (A1 : Option Addr) (c1 : Nat) (l1 : List S30) (w : World) (hr0 : Kd.C k30 w A0 l0.length l0) (hc0 : l0.length ≤ c0) (hr1 : Kd.C k30 w A1 l1.length l1) (hc1 : l1.length ≤ c1)
    (HP1 : Aside0 (∀ i : Nat, i < 6 → setR (nodesF 6) (tgP l0 l1) (i : Int) = setR (leftF 6) (thP l0) (i : Int))) (HP2 : Aside0 (∀ i : Nat, i < 6 → setR (nodesF 6) (tgP l0 l1) (100 + (i : Int)) = setR (rightF 6) (tkP l1) (100 + (i : Int))))
    (HP3 : Aside0 (∀ i : Nat, i < 6 → sameR (nodesF 6) (tgP l0 l1) (i : Int) (100 + (i : Int)) = false)) (HP4 : Aside0 ((circsR (nodesF 6) (tgP l0 l1)).length = (circsR (leftF 6) (thP l0)).length + (circsR (rightF 6) (tkP l1)).length)) :
    Calls Try.prog 7 #[.slice A0 l0.length c0, .slice A1 l1.length c1] w fun e w' => e = .returned (.bool true) ∧ Below w.heap.size w w' := by
  have HR0 := Aside0.mk hr0
  have HR1 := Aside0.mk hr1
  clear hr0 hr1
  by_cases hlen : l0.length ≤ 30 ∧ l1.length ≤ 30
  · obtain ⟨hl0, hl1⟩ := hlen
    have d0 : decide ((30 : Int) < (l0.length : Int)) = false := decide_eq_false (by omega)
    have d1 : decide ((30 : Int) < (l1.length : Int)) = false := decide_eq_false (by omega)
    go_enter Try.func7, Try.ntmps7
    go_wp2_with fail
    refine (alive_any w).mono ?_
    rintro e w1 ⟨rfl, hb1⟩
    obtain ⟨B, hB⟩ : ∃ B, B = w1.heap.size := ⟨_, rfl⟩
    have HB1 := Aside0.mk hb1
    have HM : Aside0 (ManyR B w1 [] [] [nilRw, nilRw, nilRw] w1) := ⟨((Many.none_ (Below.refl _ _) (by omega)).norows).rows (fun i r hr => by
      rcases i with _ | _ | _ | i <;> simp at hr <;> exact .inr hr.symm)⟩
    clear hb1
    go_wp2_with fail
    go_loopg [5, 6, 7, 8] 6 (fun kq v5 v6 v7 v8 wx => ∃ (i : Nat), v8 = .int .i64 i ∧ Aside0 (i ≤ 6 ∧ kq = 6 - i) ∧ Aside0 (ManyR B w1 [] [] [(v5, nodesF i), (v6, leftF i), (v7, rightF i)] wx))
    case atStart => exact ⟨0, rfl, ⟨by omega⟩, HM⟩
    case round =>
      clear HM
      obtain ⟨i, rfl, HI, HM⟩ := hrel
      obtain ⟨hi, hiq⟩ := HI.out
      by_cases hlt : i < 6
      · have hdi : decide ((i : Int) < 6) = true := decide_eq_true (by omega)
        obtain ⟨A5, c5, e5⟩ := own_slice (HM.out.own (i := 0) rfl)
        obtain ⟨A6, c6, e6⟩ := own_slice (HM.out.own (i := 1) rfl)
        obtain ⟨A7, c7, e7⟩ := own_slice (HM.out.own (i := 2) rfl)
        subst e5 e6 e7
        go_wp2_with (first
          | ((with_reducible refine gate_builtin (b := .append) (xs := #[.tmp 33, .tmp 37]) rfl ?_); at_builtin; refine mr_append_row HM.out 0 [(i : Int), 100 + (i : Int)] #[.int .i64 (i : Int), .int .i64 (100 + (i : Int))] rfl rfl rfl (.tmp 33) (.tmp 37) 2 2 rfl rfl rfl rfl (by rw [nodesF_len]; omega) (by simp) ?_; intro v5 w5 h5; rw [nodesF_succ] at h5; have HM5 := Aside0.mk h5; clear h5 HM)
          | ((with_reducible refine gate_builtin (b := .append) (xs := #[.tmp 39, .tmp 41]) rfl ?_); at_builtin; refine mr_append HM5.out 1 (i : Int) rfl rfl (.tmp 39) (.tmp 41) rfl rfl rfl (by rw [leftF_len]; omega) ?_; intro v6 w6 h6; rw [leftF_succ] at h6; have HM6 := Aside0.mk h6; clear h6 HM5)
          | ((with_reducible refine gate_builtin (b := .append) (xs := #[.tmp 43, .tmp 46]) rfl ?_); at_builtin; refine mr_append HM6.out 2 (100 + (i : Int)) rfl rfl (.tmp 43) (.tmp 46) rfl rfl rfl (by rw [rightF_len]; omega) ?_; intro v7 w7 h7; rw [rightF_succ] at h7; have HM7 := Aside0.mk h7; clear h7 HM6))
        go_roundg (6 - (i + 1))
        case measure => omega
        case rel => exact ⟨i + 1, by simp, ⟨by omega⟩, HM7⟩
      · obtain rfl : i = 6 := by omega
        have hdi : decide (((6 : Nat) : Int) < 6) = false := by decide
        go_wp2_with fail
        obtain ⟨A5, c5, rfl, hm⟩ := HM.out.freeze 0 rfl (by decide)
        obtain ⟨A6, c6, rfl, hm⟩ := hm.freeze 1 rfl (by decide)
        obtain ⟨A7, c7, rfl, hm⟩ := hm.freeze 2 rfl (by decide)
        replace HM : Aside0 (ManyR B w1 [] [(A7, c7, rightF 6), (A6, c6, leftF 6), (A5, c5, nodesF 6)] [] wr) := ⟨hm.rows (fun i r hr => by simp at hr)⟩
        clear hm
        refine (mr_new HM.out A5 c5 (nodesF 6) (HM.out.reads (c := c5) (by simp)).2 (by decide) (by decide)).mono ?_
        rintro e w2 ⟨ga, rfl, hm⟩
        rw [show onceF (nodesF 6) = nodesF 6 by decide] at hm
        replace HM := Aside0.mk hm
        clear hm
        go_wp2_with fail
        refine (mr_new HM.out A6 c6 (leftF 6) (HM.out.reads (c := c6) (by simp)).2 (by decide) (by decide)).mono ?_
        rintro e w3 ⟨gb, rfl, hm⟩
        rw [show onceF (leftF 6) = leftF 6 by decide] at hm
        replace HM := Aside0.mk hm
        clear hm
        go_wp2_with fail
        refine (mr_new HM.out A7 c7 (rightF 6) (HM.out.reads (c := c7) (by simp)).2 (by decide) (by decide)).mono ?_
        rintro e w4 ⟨gc, rfl, hm⟩
        rw [show onceF (rightF 6) = rightF 6 by decide] at hm
        replace HM : Aside0 (ManyR B w1 [(ga, nodesF 6, fun _ => []), (gb, leftF 6, fun _ => []), (gc, rightF 6, fun _ => [])] [] [] w4) := ⟨hm.sub (by simp)⟩
        clear hm
        go_wp2_with fail
        obtain ⟨wl, rfl⟩ : ∃ wl, wl = wr := ⟨_, rfl⟩
        go_loopg [12] l0.length (fun kq v12 wx => ∃ (i : Nat), v12 = .int .i64 i ∧ Aside0 (i ≤ l0.length ∧ kq = l0.length - i) ∧ Aside0 (ManyR B w1 [(ga, nodesF 6, tqE (nodesF 6) 0 (fun _ => []) (l0.take i)), (gb, leftF 6, tqE (leftF 6) 0 (fun _ => []) (l0.take i)), (gc, rightF 6, fun _ => [])] [] [] wx))
        case atStart => exact ⟨0, rfl, ⟨by omega⟩, HM⟩
        case round =>
          clear HM
          obtain ⟨i, rfl, HI, HM⟩ := hrel
          obtain ⟨hi, hiq⟩ := HI.out
          by_cases hlt : i < l0.length
          · have hdi : decide ((i : Int) < (l0.length : Int)) = true := decide_eq_true (by omega)
            obtain ⟨ad, rfl, cf0, cf1⟩ := at_T30 (C_below HR0.out (HB1.out.trans (HM.out.below.mono (by rw [hB]; exact HB1.out.size)))) (i : Int) (by omega) (by omega)
            rw [Int.toNat_natCast] at cf0 cf1
            have HTK := Aside0.mk (rd30_take hlt)
            obtain ⟨E, HE⟩ : ∃ E, Aside0 (rd_T30 l0 (i : Int) = E) := ⟨_, ⟨rfl⟩⟩
            rw [HE.out] at cf0 cf1 HTK
            obtain ⟨x, HX⟩ : ∃ x, Aside0 (E.f0 = x) := ⟨_, ⟨rfl⟩⟩
            obtain ⟨y, HY⟩ : ∃ y, Aside0 (E.f1 = y) := ⟨_, ⟨rfl⟩⟩
            rw [HX.out] at cf0
            rw [HY.out] at cf1
            go_wp2_with fail
            refine start_ (n := 14) (S := fun w' => w'.cell? (ad.add (i * 2)) = some (.int .i64 x) ∧ w'.cell? ⟨(ad.add (i * 2)).block, (ad.add (i * 2)).off + 1, none⟩ = some (.int .i64 y)) (ds := []) #[false, false, false, false, false, false, false, false, false, false, false, false, false, false] (by kernel_rfl) rfl rfl ⟨cf0, cf1⟩ (fun hHeld => ?_)
            refine pure_ (i := 0) (N := some 60) (v := ?_) (a' := ?_) #[true, false, false, false, false, false, false, false, false, false, false, false, false, false] rfl rfl (by kernel_rfl) (fun _ _ _ h => h) (Or.inl ⟨by rfl, ?_⟩) ?_ ?_
            rotate_left
            · intro w'
              go_simp
              with_reducible rfl
            rotate_left
            · simp only [Act.put, List.setIfInBounds_toArray, List.set_cons_zero, List.set_cons_succ, i64_w, i32_w]
              rfl
            refine pure_ (i := 1) (N := some 61) (v := ?_) (a' := ?_) #[true, true, false, false, false, false, false, false, false, false, false, false, false, false] rfl rfl (by kernel_rfl) (fun _ _ _ h => h) (Or.inl ⟨by rfl, ?_⟩) ?_ ?_
            rotate_left
            · intro w'
              go_simp
              with_reducible rfl
            rotate_left
            · simp only [Act.put, List.setIfInBounds_toArray, List.set_cons_zero, List.set_cons_succ, i64_w, i32_w]
              rfl
            refine pure_ (i := 2) (N := some 62) (v := ?_) (a' := ?_) #[true, true, true, false, false, false, false, false, false, false, false, false, false, false] rfl rfl (by kernel_rfl) (fun _ _ _ h => h) (Or.inl ⟨by rfl, ?_⟩) ?_ ?_
            rotate_left
            · intro w'
              go_simp
              with_reducible rfl
            rotate_left
            · simp only [Act.put, List.setIfInBounds_toArray, List.set_cons_zero, List.set_cons_succ, i64_w, i32_w]
              rfl
            refine pure_ (i := 3) (N := some 63) (v := ?_) (a' := ?_) #[true, true, true, true, false, false, false, false, false, false, false, false, false, false] rfl rfl (by kernel_rfl) (fun _ _ _ h => h) (Or.inl ⟨by rfl, ?_⟩) ?_ ?_
            rotate_left
            · intro w'
              go_simp
              with_reducible rfl
            rotate_left
            · simp only [Act.put, List.setIfInBounds_toArray, List.set_cons_zero, List.set_cons_succ, i64_w, i32_w]
              rfl
            refine pure_ (i := 6) (N := some 66) (v := ?_) (a' := ?_) #[true, true, true, true, false, false, true, false, false, false, false, false, false, false] rfl rfl (by kernel_rfl) (fun _ _ _ h => h) (Or.inl ⟨by rfl, ?_⟩) ?_ ?_
            rotate_left
            · intro w'
              go_simp
              with_reducible rfl
            rotate_left
            · simp only [Act.put, List.setIfInBounds_toArray, List.set_cons_zero, List.set_cons_succ, i64_w, i32_w]
              rfl
            refine pure_ (i := 7) (N := some 67) (v := ?_) (a' := ?_) #[true, true, true, true, false, false, true, true, false, false, false, false, false, false] rfl rfl (by kernel_rfl) (fun _ _ _ h => h) (Or.inl ⟨by rfl, ?_⟩) ?_ ?_
            rotate_left
            · intro w'
              go_simp
              with_reducible rfl
            rotate_left
            · simp only [Act.put, List.setIfInBounds_toArray, List.set_cons_zero, List.set_cons_succ, i64_w, i32_w]
              rfl
            refine pure_ (i := 8) (N := some 68) (v := ?_) (a' := ?_) #[true, true, true, true, false, false, true, true, true, false, false, false, false, false] rfl rfl (by kernel_rfl) (fun _ _ _ h => h) (Or.inl ⟨by rfl, ?_⟩) ?_ ?_
            rotate_left
            · intro w'
              go_simp
              with_reducible rfl
            rotate_left
            · simp only [Act.put, List.setIfInBounds_toArray, List.set_cons_zero, List.set_cons_succ, i64_w, i32_w]
              rfl
            refine pure_ (i := 9) (N := some 69) (v := ?_) (a' := ?_) #[true, true, true, true, false, false, true, true, true, true, false, false, false, false] rfl rfl (by kernel_rfl) (fun _ _ _ h => h) (Or.inl ⟨by rfl, ?_⟩) ?_ ?_
            rotate_left
            · intro w'
              go_simp
              with_reducible rfl
            rotate_left
            · simp only [Act.put, List.setIfInBounds_toArray, List.set_cons_zero, List.set_cons_succ, i64_w, i32_w]
              rfl
            refine take_ (i := 4) (N := some 64) (v := ?_) (a' := ?_) #[true, true, true, true, true, false, true, true, true, true, false, false, false, false] rfl rfl (by kernel_rfl) (fun _ _ _ h => h) (Or.inl ⟨by rfl, ?_⟩) hHeld ?_ ?_
            rotate_left
            · rintro w' ⟨s0, s1⟩
              go_simp
              with_reducible rfl
            rotate_left
            · simp only [Act.put, List.setIfInBounds_toArray, List.set_cons_zero, List.set_cons_succ, i64_w, i32_w]
              rfl
            refine pure_ (i := 5) (N := some 65) (v := ?_) (a' := ?_) #[true, true, true, true, true, true, true, true, true, true, false, false, false, false] rfl rfl (by kernel_rfl) (fun _ _ _ h => h) (Or.inl ⟨by rfl, ?_⟩) ?_ ?_
            rotate_left
            · intro w'
              go_simp
              with_reducible rfl
            rotate_left
            · simp only [Act.put, List.setIfInBounds_toArray, List.set_cons_zero, List.set_cons_succ, i64_w, i32_w]
              rfl
            refine pure_ (i := 12) (N := some 13) (v := ?_) (a' := ?_) #[true, true, true, true, true, true, true, true, true, true, false, false, true, false] rfl rfl (by kernel_rfl) (fun _ _ _ h => h) (Or.inl ⟨by rfl, ?_⟩) ?_ ?_
            rotate_left
            · intro w'
              go_simp
              with_reducible rfl
            rotate_left
            · simp only [Act.put, List.setIfInBounds_toArray, List.set_cons_zero, List.set_cons_succ, i64_w, i32_w]
              rfl
            refine take_ (i := 10) (N := some 70) (v := ?_) (a' := ?_) #[true, true, true, true, true, true, true, true, true, true, true, false, true, false] rfl rfl (by kernel_rfl) (fun _ _ _ h => h) (Or.inl ⟨by rfl, ?_⟩) hHeld ?_ ?_
            rotate_left
            · rintro w' ⟨s0, s1⟩
              go_simp
              with_reducible rfl
            rotate_left
            · simp only [Act.put, List.setIfInBounds_toArray, List.set_cons_zero, List.set_cons_succ, i64_w, i32_w]
              rfl
            refine pure_ (i := 11) (N := some 71) (v := ?_) (a' := ?_) #[true, true, true, true, true, true, true, true, true, true, true, true, true, false] rfl rfl (by kernel_rfl) (fun _ _ _ h => h) (Or.inl ⟨by rfl, ?_⟩) ?_ ?_
            rotate_left
            · intro w'
              go_simp
              with_reducible rfl
            rotate_left
            · simp only [Act.put, List.setIfInBounds_toArray, List.set_cons_zero, List.set_cons_succ, i64_w, i32_w]
              rfl
            refine pure_ (i := 13) (N := some 14) (v := ?_) (a' := ?_) #[true, true, true, true, true, true, true, true, true, true, true, true, true, true] rfl rfl (by kernel_rfl) (fun _ _ _ h => h) (Or.inl ⟨by rfl, ?_⟩) ?_ ?_
            rotate_left
            · intro w'
              go_simp
              with_reducible rfl
            rotate_left
            · simp only [Act.put, List.setIfInBounds_toArray, List.set_cons_zero, List.set_cons_succ, i64_w, i32_w]
              rfl
            refine done_ (by kernel_rfl) ?_
            rw [bits7 x, bits7 y]
            obtain ⟨p, HP⟩ : ∃ p, Aside0 (m7 x = p) := ⟨_, ⟨rfl⟩⟩
            obtain ⟨q, HQ⟩ : ∃ q, Aside0 (m7 y = q) := ⟨_, ⟨rfl⟩⟩
            rw [HP.out, HQ.out]
            have hp7 : p ≤ 7 := by rw [← HP.out]; exact m7_le x
            have hq7 : q ≤ 7 := by rw [← HQ.out]; exact m7_le y
            have HWP := Aside0.mk (small_wf hp7).1
            have HWQ := Aside0.mk (small_wf hq7).1
            clear hHeld cf0 cf1
            go_wp2_with fail
            refine (mr_lead_d HM.out 0 rfl (p : Int) [(q : Int)] HWP.out (by simp) (by simpa using HWQ.out) (fun n => by have := tqE_len (nodesF 6) 0 (fun _ => []) 0 (by simp) (l0.take i) n; rw [List.length_take] at this; simp; omega) _ rfl 1 1 rfl).mono ?_
            rintro e w5 ⟨rfl, hm⟩
            have HM5 : Aside0 (ManyR B w1 [(ga, nodesF 6, tqE (nodesF 6) 0 (fun _ => []) (l0.take (i + 1))), (gb, leftF 6, tqE (leftF 6) 0 (fun _ => []) (l0.take i)), (gc, rightF 6, fun _ => [])] [] [] w5) := ⟨by
              have e : tqE (nodesF 6) 0 (fun _ => []) (l0.take (i + 1)) = leadG (nodesF 6) (tqE (nodesF 6) 0 (fun _ => []) (l0.take i)) (p : Int) [(q : Int)] := by rw [HTK.out, tqE_snoc, HX.out, HY.out, HP.out, HQ.out, Int.zero_add, Int.zero_add]
              rw [e]; exact hm⟩
            clear hm HM
            generalize (if (p : Int) ∈ nodesF 6 then (0 : Int) else 3) = r5
            go_wp2_with fail
            refine (mr_lead HM5.out 1 rfl (p : Int) [(q : Int)] HWP.out (by simp) (by simpa using HWQ.out) (fun n => by have := tqE_len (leftF 6) 0 (fun _ => []) 0 (by simp) (l0.take i) n; rw [List.length_take] at this; simp; omega) _ rfl 1 1 rfl).mono ?_
            rintro e w6 ⟨rfl, hm⟩
            have HM6 : Aside0 (ManyR B w1 [(ga, nodesF 6, tqE (nodesF 6) 0 (fun _ => []) (l0.take (i + 1))), (gb, leftF 6, tqE (leftF 6) 0 (fun _ => []) (l0.take (i + 1))), (gc, rightF 6, fun _ => [])] [] [] w6) := ⟨by
              have e : tqE (leftF 6) 0 (fun _ => []) (l0.take (i + 1)) = leadG (leftF 6) (tqE (leftF 6) 0 (fun _ => []) (l0.take i)) (p : Int) [(q : Int)] := by rw [HTK.out, tqE_snoc, HX.out, HY.out, HP.out, HQ.out, Int.zero_add, Int.zero_add]
              rw [e]; exact hm⟩
            clear hm HM5
            generalize (if (p : Int) ∈ leftF 6 then (0 : Int) else 3) = r6
            go_wp2_with fail
            go_roundg (l0.length - (i + 1))
            case measure => omega
            case rel => exact ⟨i + 1, by simp, ⟨by omega⟩, HM6⟩
          · obtain rfl : i = l0.length := by omega
            have hdi : decide ((l0.length : Int) < (l0.length : Int)) = false := decide_eq_false (by omega)
            rw [List.take_length] at HM
            go_wp2_with fail
            obtain ⟨wm, rfl⟩ : ∃ wm, wm = wr := ⟨_, rfl⟩
            go_loopg [15] l1.length (fun kq v15 wx => ∃ (i : Nat), v15 = .int .i64 i ∧ Aside0 (i ≤ l1.length ∧ kq = l1.length - i) ∧ Aside0 (ManyR B w1 [(ga, nodesF 6, tqE (nodesF 6) 100 (tqE (nodesF 6) 0 (fun _ => []) l0) (l1.take i)), (gb, leftF 6, thP l0), (gc, rightF 6, tqE (rightF 6) 100 (fun _ => []) (l1.take i))] [] [] wx))
            case atStart => exact ⟨0, rfl, ⟨by omega⟩, HM⟩
            case round =>
              clear HM
              obtain ⟨i, rfl, HI, HM⟩ := hrel
              obtain ⟨hi, hiq⟩ := HI.out
              by_cases hlt : i < l1.length
              · have hdi : decide ((i : Int) < (l1.length : Int)) = true := decide_eq_true (by omega)
                obtain ⟨ad, rfl, cf0, cf1⟩ := at_T30 (C_below HR1.out (HB1.out.trans (HM.out.below.mono (by rw [hB]; exact HB1.out.size)))) (i : Int) (by omega) (by omega)
                rw [Int.toNat_natCast] at cf0 cf1
                have HTK := Aside0.mk (rd30_take hlt)
                obtain ⟨E, HE⟩ : ∃ E, Aside0 (rd_T30 l1 (i : Int) = E) := ⟨_, ⟨rfl⟩⟩
                rw [HE.out] at cf0 cf1 HTK
                obtain ⟨x, HX⟩ : ∃ x, Aside0 (E.f0 = x) := ⟨_, ⟨rfl⟩⟩
                obtain ⟨y, HY⟩ : ∃ y, Aside0 (E.f1 = y) := ⟨_, ⟨rfl⟩⟩
                rw [HX.out] at cf0
                rw [HY.out] at cf1
                obtain ⟨p, HP⟩ : ∃ p, Aside0 (m7 x = p) := ⟨_, ⟨rfl⟩⟩
                obtain ⟨q, HQ⟩ : ∃ q, Aside0 (m7 y = q) := ⟨_, ⟨rfl⟩⟩
                have hp7 : p ≤ 7 := by rw [← HP.out]; exact m7_le x
                have hq7 : q ≤ 7 := by rw [← HQ.out]; exact m7_le y
                have hbx : bits .and .i64 x 7 = (p : Int) := by rw [bits7, HP.out]
                have hby : bits .and .i64 y 7 = (q : Int) := by rw [bits7, HQ.out]
                have hwp : wrap64 (100 + (p : Int)) = 100 + (p : Int) := by unfold wrap64; omega
                have hwq : wrap64 (100 + (q : Int)) = 100 + (q : Int) := by unfold wrap64; omega
                go_wp2_with fail
                refine start_ (n := 16) (S := fun w' => w'.cell? (ad.add (i * 2)) = some (.int .i64 x) ∧ w'.cell? ⟨(ad.add (i * 2)).block, (ad.add (i * 2)).off + 1, none⟩ = some (.int .i64 y)) (ds := []) #[false, false, false, false, false, false, false, false, false, false, false, false, false, false, false, false] (by kernel_rfl) rfl rfl ⟨cf0, cf1⟩ (fun hHeld => ?_)
                refine pure_ (i := 0) (N := some 88) (v := ?_) (a' := ?_) #[true, false, false, false, false, false, false, false, false, false, false, false, false, false, false, false] rfl rfl (by kernel_rfl) (fun _ _ _ h => h) (Or.inl ⟨by rfl, ?_⟩) ?_ ?_
                rotate_left
                · intro w'
                  go_simp
                  with_reducible rfl
                rotate_left
                · simp only [Act.put, List.setIfInBounds_toArray, List.set_cons_zero, List.set_cons_succ, i64_w, i32_w]
                  rfl
                refine pure_ (i := 1) (N := some 89) (v := ?_) (a' := ?_) #[true, true, false, false, false, false, false, false, false, false, false, false, false, false, false, false] rfl rfl (by kernel_rfl) (fun _ _ _ h => h) (Or.inl ⟨by rfl, ?_⟩) ?_ ?_
                rotate_left
                · intro w'
                  go_simp
                  with_reducible rfl
                rotate_left
                · simp only [Act.put, List.setIfInBounds_toArray, List.set_cons_zero, List.set_cons_succ, i64_w, i32_w]
                  rfl
                refine pure_ (i := 2) (N := some 90) (v := ?_) (a' := ?_) #[true, true, true, false, false, false, false, false, false, false, false, false, false, false, false, false] rfl rfl (by kernel_rfl) (fun _ _ _ h => h) (Or.inl ⟨by rfl, ?_⟩) ?_ ?_
                rotate_left
                · intro w'
                  go_simp
                  with_reducible rfl
                rotate_left
                · simp only [Act.put, List.setIfInBounds_toArray, List.set_cons_zero, List.set_cons_succ, i64_w, i32_w]
                  rfl
                refine pure_ (i := 3) (N := some 91) (v := ?_) (a' := ?_) #[true, true, true, true, false, false, false, false, false, false, false, false, false, false, false, false] rfl rfl (by kernel_rfl) (fun _ _ _ h => h) (Or.inl ⟨by rfl, ?_⟩) ?_ ?_
                rotate_left
                · intro w'
                  go_simp
                  with_reducible rfl
                rotate_left
                · simp only [Act.put, List.setIfInBounds_toArray, List.set_cons_zero, List.set_cons_succ, i64_w, i32_w]
                  rfl
                refine pure_ (i := 7) (N := some 95) (v := ?_) (a' := ?_) #[true, true, true, true, false, false, false, true, false, false, false, false, false, false, false, false] rfl rfl (by kernel_rfl) (fun _ _ _ h => h) (Or.inl ⟨by rfl, ?_⟩) ?_ ?_
                rotate_left
                · intro w'
                  go_simp
                  with_reducible rfl
                rotate_left
                · simp only [Act.put, List.setIfInBounds_toArray, List.set_cons_zero, List.set_cons_succ, i64_w, i32_w]
                  rfl
                refine pure_ (i := 8) (N := some 96) (v := ?_) (a' := ?_) #[true, true, true, true, false, false, false, true, true, false, false, false, false, false, false, false] rfl rfl (by kernel_rfl) (fun _ _ _ h => h) (Or.inl ⟨by rfl, ?_⟩) ?_ ?_
                rotate_left
                · intro w'
                  go_simp
                  with_reducible rfl
                rotate_left
                · simp only [Act.put, List.setIfInBounds_toArray, List.set_cons_zero, List.set_cons_succ, i64_w, i32_w]
                  rfl
                refine pure_ (i := 9) (N := some 97) (v := ?_) (a' := ?_) #[true, true, true, true, false, false, false, true, true, true, false, false, false, false, false, false] rfl rfl (by kernel_rfl) (fun _ _ _ h => h) (Or.inl ⟨by rfl, ?_⟩) ?_ ?_
                rotate_left
                · intro w'
                  go_simp
                  with_reducible rfl
                rotate_left
                · simp only [Act.put, List.setIfInBounds_toArray, List.set_cons_zero, List.set_cons_succ, i64_w, i32_w]
                  rfl
                refine pure_ (i := 10) (N := some 98) (v := ?_) (a' := ?_) #[true, true, true, true, false, false, false, true, true, true, true, false, false, false, false, false] rfl rfl (by kernel_rfl) (fun _ _ _ h => h) (Or.inl ⟨by rfl, ?_⟩) ?_ ?_
                rotate_left
                · intro w'
                  go_simp
                  with_reducible rfl
                rotate_left
                · simp only [Act.put, List.setIfInBounds_toArray, List.set_cons_zero, List.set_cons_succ, i64_w, i32_w]
                  rfl
                refine take_ (i := 4) (N := some 92) (v := ?_) (a' := ?_) #[true, true, true, true, true, false, false, true, true, true, true, false, false, false, false, false] rfl rfl (by kernel_rfl) (fun _ _ _ h => h) (Or.inl ⟨by rfl, ?_⟩) hHeld ?_ ?_
                rotate_left
                · rintro w' ⟨s0, s1⟩
                  go_simp
                  with_reducible rfl
                rotate_left
                · simp only [Act.put, List.setIfInBounds_toArray, List.set_cons_zero, List.set_cons_succ, i64_w, i32_w]
                  rfl
                refine pure_ (i := 5) (N := some 93) (v := ?_) (a' := ?_) #[true, true, true, true, true, true, false, true, true, true, true, false, false, false, false, false] rfl rfl (by kernel_rfl) (fun _ _ _ h => h) (Or.inl ⟨by rfl, ?_⟩) ?_ ?_
                rotate_left
                · intro w'
                  go_simp
                  with_reducible rfl
                rotate_left
                · simp only [Act.put, List.setIfInBounds_toArray, List.set_cons_zero, List.set_cons_succ, i64_w, i32_w]
                  rfl
                refine pure_ (i := 6) (N := some 94) (v := ?_) (a' := ?_) #[true, true, true, true, true, true, true, true, true, true, true, false, false, false, false, false] rfl rfl (by kernel_rfl) (fun _ _ _ h => h) (Or.inl ⟨by rfl, ?_⟩) ?_ ?_
                rotate_left
                · intro w'
                  go_simp
                  with_reducible rfl
                rotate_left
                · simp only [Act.put, List.setIfInBounds_toArray, List.set_cons_zero, List.set_cons_succ, i64_w, i32_w]
                  rfl
                refine pure_ (i := 14) (N := some 16) (v := ?_) (a' := ?_) #[true, true, true, true, true, true, true, true, true, true, true, false, false, false, true, false] rfl rfl (by kernel_rfl) (fun _ _ _ h => h) (Or.inl ⟨by rfl, ?_⟩) ?_ ?_
                rotate_left
                · intro w'
                  go_simp
                  with_reducible rfl
                rotate_left
                · simp only [Act.put, List.setIfInBounds_toArray, List.set_cons_zero, List.set_cons_succ, i64_w, i32_w]
                  rfl
                refine take_ (i := 11) (N := some 99) (v := ?_) (a' := ?_) #[true, true, true, true, true, true, true, true, true, true, true, true, false, false, true, false] rfl rfl (by kernel_rfl) (fun _ _ _ h => h) (Or.inl ⟨by rfl, ?_⟩) hHeld ?_ ?_
                rotate_left
                · rintro w' ⟨s0, s1⟩
                  go_simp
                  with_reducible rfl
                rotate_left
                · simp only [Act.put, List.setIfInBounds_toArray, List.set_cons_zero, List.set_cons_succ, i64_w, i32_w]
                  rfl
                refine pure_ (i := 12) (N := some 100) (v := ?_) (a' := ?_) #[true, true, true, true, true, true, true, true, true, true, true, true, true, false, true, false] rfl rfl (by kernel_rfl) (fun _ _ _ h => h) (Or.inl ⟨by rfl, ?_⟩) ?_ ?_
                rotate_left
                · intro w'
                  go_simp
                  with_reducible rfl
                rotate_left
                · simp only [Act.put, List.setIfInBounds_toArray, List.set_cons_zero, List.set_cons_succ, i64_w, i32_w]
                  rfl
                refine pure_ (i := 13) (N := some 101) (v := ?_) (a' := ?_) #[true, true, true, true, true, true, true, true, true, true, true, true, true, true, true, false] rfl rfl (by kernel_rfl) (fun _ _ _ h => h) (Or.inl ⟨by rfl, ?_⟩) ?_ ?_
                rotate_left
                · intro w'
                  go_simp
                  with_reducible rfl
                rotate_left
                · simp only [Act.put, List.setIfInBounds_toArray, List.set_cons_zero, List.set_cons_succ, i64_w, i32_w]
                  rfl
                refine pure_ (i := 15) (N := some 17) (v := ?_) (a' := ?_) #[true, true, true, true, true, true, true, true, true, true, true, true, true, true, true, true] rfl rfl (by kernel_rfl) (fun _ _ _ h => h) (Or.inl ⟨by rfl, ?_⟩) ?_ ?_
                rotate_left
                · intro w'
                  go_simp
                  with_reducible rfl
                rotate_left
                · simp only [Act.put, List.setIfInBounds_toArray, List.set_cons_zero, List.set_cons_succ, i64_w, i32_w]
                  rfl
                refine done_ (by kernel_rfl) ?_
                have HWP := Aside0.mk (small_wf hp7).2
                have HWQ := Aside0.mk (small_wf hq7).2
                clear hHeld cf0 cf1 hbx hby hwp hwq
                go_wp2_with fail
                refine (mr_lead_d HM.out 0 rfl (100 + (p : Int)) [100 + (q : Int)] HWP.out (by simp) (by simpa using HWQ.out) (fun n => by have := tqE_len (nodesF 6) 100 (tqE (nodesF 6) 0 (fun _ => []) l0) 30 (fun n => by have := tqE_len (nodesF 6) 0 (fun _ => []) 0 (by simp) l0 n; omega) (l1.take i) n; rw [List.length_take] at this; simp; omega) _ rfl 1 1 rfl).mono ?_
                rintro e w5 ⟨rfl, hm⟩
                have HM5 : Aside0 (ManyR B w1 [(ga, nodesF 6, tqE (nodesF 6) 100 (tqE (nodesF 6) 0 (fun _ => []) l0) (l1.take (i + 1))), (gb, leftF 6, thP l0), (gc, rightF 6, tqE (rightF 6) 100 (fun _ => []) (l1.take i))] [] [] w5) := ⟨by
                  have e : tqE (nodesF 6) 100 (tqE (nodesF 6) 0 (fun _ => []) l0) (l1.take (i + 1)) = leadG (nodesF 6) (tqE (nodesF 6) 100 (tqE (nodesF 6) 0 (fun _ => []) l0) (l1.take i)) (100 + (p : Int)) [100 + (q : Int)] := by rw [HTK.out, tqE_snoc, HX.out, HY.out, HP.out, HQ.out]
                  rw [e]; exact hm⟩
                clear hm HM
                generalize (if (100 + (p : Int)) ∈ nodesF 6 then (0 : Int) else 3) = r5
                go_wp2_with fail
                refine (mr_lead HM5.out 2 rfl (100 + (p : Int)) [100 + (q : Int)] HWP.out (by simp) (by simpa using HWQ.out) (fun n => by have := tqE_len (rightF 6) 100 (fun _ => []) 0 (by simp) (l1.take i) n; rw [List.length_take] at this; simp; omega) _ rfl 1 1 rfl).mono ?_
                rintro e w6 ⟨rfl, hm⟩
                have HM6 : Aside0 (ManyR B w1 [(ga, nodesF 6, tqE (nodesF 6) 100 (tqE (nodesF 6) 0 (fun _ => []) l0) (l1.take (i + 1))), (gb, leftF 6, thP l0), (gc, rightF 6, tqE (rightF 6) 100 (fun _ => []) (l1.take (i + 1)))] [] [] w6) := ⟨by
                  have e : tqE (rightF 6) 100 (fun _ => []) (l1.take (i + 1)) = leadG (rightF 6) (tqE (rightF 6) 100 (fun _ => []) (l1.take i)) (100 + (p : Int)) [100 + (q : Int)] := by rw [HTK.out, tqE_snoc, HX.out, HY.out, HP.out, HQ.out]
                  rw [e]; exact hm⟩
                clear hm HM5
                generalize (if (100 + (p : Int)) ∈ rightF 6 then (0 : Int) else 3) = r6
                go_wp2_with fail
                go_roundg (l1.length - (i + 1))
                case measure => omega
                case rel => exact ⟨i + 1, by simp, ⟨by omega⟩, HM6⟩
              · obtain rfl : i = l1.length := by omega
                have hdi : decide ((l1.length : Int) < (l1.length : Int)) = false := decide_eq_false (by omega)
                rw [List.take_length] at HM
                replace HM : Aside0 (ManyR B w1 [(ga, nodesF 6, tgP l0 l1), (gb, leftF 6, thP l0), (gc, rightF 6, tkP l1)] [] [] wr) := HM
                go_wp2_with fail
                obtain ⟨wn, rfl⟩ : ∃ wn, wn = wr := ⟨_, rfl⟩
                go_loopg [18] 6 (fun kq v18 wx => ∃ (i : Nat), v18 = .int .i64 i ∧ Aside0 (i ≤ 6 ∧ kq = 6 - i) ∧ Aside0 (ManyR B w1 [(ga, nodesF 6, tgP l0 l1), (gb, leftF 6, thP l0), (gc, rightF 6, tkP l1)] [] [] wx))
                case atStart => exact ⟨0, rfl, ⟨by omega⟩, HM⟩
                case round =>
                  clear HM
                  obtain ⟨i, rfl, HI, HM⟩ := hrel
                  obtain ⟨hi, hiq⟩ := HI.out
                  by_cases hlt : i < 6
                  · have hdi : decide ((i : Int) < 6) = true := decide_eq_true (by omega)
                    have HWP := Aside0.mk (small_wf (n := i) (by omega)).1
                    have HWQ := Aside0.mk (small_wf (n := i) (by omega)).2
                    go_wp2_with fail
                    refine (mr_set HM.out 0 rfl (i : Int) HWP.out).mono ?_
                    rintro e w5 ⟨A5, c5, rfl, hm⟩
                    have HM5 := Aside0.mk hm
                    clear hm HM
                    go_wp2_with fail
                    refine (mr_set HM5.out 1 rfl (i : Int) HWP.out).mono ?_
                    rintro e w6 ⟨A6, c6, rfl, hm⟩
                    have HM6 := Aside0.mk hm
                    clear hm HM5
                    go_wp2_with fail
                    refine (mr_same3 HM6.out (A1 := A5) (c1 := c5) (A2 := A6) (c2 := c6) (by simp) (by simp) (k := (setR (nodesF 6) (tgP l0 l1) (i : Int)).length + 1) (r := true) (by rw [← HP1.out i hlt]; exact same_f _ (by have : (setR (nodesF 6) (tgP l0 l1) (i : Int)).length ≤ (nodesF 6).length := setR_len; rw [nodesF_len] at this; omega))).mono ?_
                    rintro e w7 ⟨rfl, hm⟩
                    have HM7 := Aside0.mk (hm.sub (ls' := []) (by simp))
                    clear hm HM6
                    go_wp2_with fail
                    refine (mr_set HM7.out 0 rfl (100 + (i : Int)) HWQ.out).mono ?_
                    rintro e w8 ⟨A8, c8, rfl, hm⟩
                    have HM8 := Aside0.mk hm
                    clear hm HM7
                    go_wp2_with fail
                    refine (mr_set HM8.out 2 rfl (100 + (i : Int)) HWQ.out).mono ?_
                    rintro e w9 ⟨A9, c9, rfl, hm⟩
                    have HM9 := Aside0.mk hm
                    clear hm HM8
                    go_wp2_with fail
                    refine (mr_same3 HM9.out (A1 := A8) (c1 := c8) (A2 := A9) (c2 := c9) (by simp) (by simp) (k := (setR (nodesF 6) (tgP l0 l1) (100 + (i : Int))).length + 1) (r := true) (by rw [← HP2.out i hlt]; exact same_f _ (by have : (setR (nodesF 6) (tgP l0 l1) (100 + (i : Int))).length ≤ (nodesF 6).length := setR_len; rw [nodesF_len] at this; omega))).mono ?_
                    rintro e w10 ⟨rfl, hm⟩
                    have HM10 := Aside0.mk (hm.sub (ls' := []) (by simp))
                    clear hm HM9
                    go_wp2_with fail
                    refine (mr_same HM10.out 0 rfl (i : Int) (100 + (i : Int)) HWP.out HWQ.out).mono ?_
                    rintro e w11 ⟨rfl, hm⟩
                    rw [HP3.out i hlt]
                    have HM11 := Aside0.mk hm
                    clear hm HM10
                    go_wp2_with fail
                    go_roundg (6 - (i + 1))
                    case measure => omega
                    case rel => exact ⟨i + 1, by simp, ⟨by omega⟩, HM11⟩
                  · obtain rfl : i = 6 := by omega
                    have hdi : decide (((6 : Nat) : Int) < 6) = false := by decide
                    go_wp2_with fail
                    refine (mr_circles HM.out 0 rfl (by decide)).mono ?_
                    rintro e w5 ⟨A5, c5, rfl, hm⟩
                    have HM5 := Aside0.mk (hm.sub (ls' := []) (by simp))
                    clear hm HM
                    go_wp2_with fail
                    refine (mr_circles HM5.out 1 rfl (by decide)).mono ?_
                    rintro e w6 ⟨A6, c6, rfl, hm⟩
                    have HM6 := Aside0.mk (hm.sub (ls' := []) (by simp))
                    clear hm HM5
                    go_wp2_with fail
                    refine (mr_circles HM6.out 2 rfl (by decide)).mono ?_
                    rintro e w7 ⟨A7, c7, rfl, hm⟩
                    have HB7 := Aside0.mk (HB1.out.trans (hm.below.mono (by rw [hB]; exact HB1.out.size)))
                    clear hm HM6
                    obtain ⟨n1, HN1⟩ : ∃ n, Aside0 ((circsR (leftF 6) (thP l0)).length = n) := ⟨_, ⟨rfl⟩⟩
                    obtain ⟨n2, HN2⟩ : ∃ n, Aside0 ((circsR (rightF 6) (tkP l1)).length = n) := ⟨_, ⟨rfl⟩⟩
                    have hn1 : n1 ≤ 6 := by rw [← HN1.out]; exact List.length_filter_le _ _
                    have hn2 : n2 ≤ 6 := by rw [← HN2.out]; exact List.length_filter_le _ _
                    have hP := HP4.out
                    rw [HN1.out, HN2.out] at hP
                    rw [hP, HN1.out, HN2.out]
                    go_wp2
                    go_ret
                    exact ⟨by simp, HB7.out⟩
  · by_cases h0 : l0.length ≤ 30
    · have d0 : decide ((30 : Int) < (l0.length : Int)) = false := decide_eq_false (by omega)
      have d1 : decide ((30 : Int) < (l1.length : Int)) = true := decide_eq_true (by omega)
      go_enter Try.func7, Try.ntmps7
      go_wp2_with fail
      refine (alive_any w).mono ?_
      rintro e w1 ⟨rfl, hb1⟩
      go_wp2
      go_ret
      exact ⟨rfl, hb1⟩
    · have d0 : decide ((30 : Int) < (l0.length : Int)) = true := decide_eq_true (by omega)
      go_enter Try.func7, Try.ntmps7
      go_wp2_with fail
      refine (alive_any w).mono ?_
      rintro e w1 ⟨rfl, hb1⟩
      go_wp2
      go_ret
      exact ⟨rfl, hb1⟩
end Go.Proofs.Ytiljegeodokfmaa.Fx
