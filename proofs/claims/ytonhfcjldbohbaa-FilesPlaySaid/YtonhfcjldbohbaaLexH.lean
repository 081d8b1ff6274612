/- lex: Lex. -/
import Derived.Test.YtonhfcjldbohbaaLexE
namespace Go.Proofs.Ytonhfcjldbohbaa.Lx
open Go.RowKit Go.Proofs.Ytonhfcjldbohbaa.PA Go.Proofs.YtonhfcjldbohbaaW.PrintWords Go.Proofs.YtonhfcjldbohbaaW.PrintLast Go.Proofs.YtonhfcjldbohbaaW.PrintMore
set_option linter.unusedVariables false
set_option linter.unusedSimpArgs false

theorem lex_start (w : World) (s : ByteArray) : Sc w.heap.size w.heap.size s 0 [] [] (w.alloc (.cells #[.string s, .int .i64 0, .slice none 0 0, .slice none 0 0] 116)) := by
  refine ⟨.slice none 0 0, .slice none 0 0, heap_alloc_new w _, ?_, ?_, Nat.le_refl _⟩
  · exact own_nil _ _ _ _
  · exact own_nil _ _ _ _

set_option maxHeartbeats 3200000 in
set_option maxRecDepth 100000 in
theorem lex_any (s : ByteArray) (w : World) (hs : s.size ≤ 1000000000) :
    Calls Try.prog 47 #[.string s] w fun e w' => ∃ v1 v2, e = .returned (.tuple #[v1, v2]) ∧ w'.ownsRow w.heap.size 100 3 v1 (lexA s.data.toList).1.length (tks (lexA s.data.toList).1) ∧ w'.ownsRow w.heap.size 134 3 v2 (lexA s.data.toList).2.length (dgs (lexA s.data.toList).2) ∧ Below w.heap.size w w' := by
  obtain ⟨i0, hi0, hz0, hz1, hz2⟩ := info_parts infoTok
  have hst := lex_start w s
  go_enter Try.func47, Try.ntmps47
  go_wp2_with fail
  have HS := Lib.hid hst
  clear hst
  go_loopg [] (s.size + 1) (fun kq w' => ∃ (a : Nat) (tk : List Tk) (dg : List Dg), Aside0 (Sc w.heap.size w.heap.size s (a : Int) tk dg w') ∧ Aside0 (Below w.heap.size w w') ∧ Aside0 (a ≤ s.size ∧ s.size + 1 ≤ a + kq ∧ tk.length ≤ a ∧ dg.length ≤ a) ∧
    Aside0 (tk ++ (lexR a (s.data.toList.drop a)).1 = (lexR 0 s.data.toList).1 ∧ dg ++ (lexR a (s.data.toList.drop a)).2 = (lexR 0 s.data.toList).2))
  case atStart => exact ⟨0, [], [], ⟨HS.out⟩, ⟨(Below.refl _ _).alloc (Nat.le_refl _) _⟩, ⟨by omega, by omega, Nat.le_refl _, Nat.le_refl _⟩, ⟨by simp, by simp⟩⟩
  case round =>
    obtain ⟨a, tk, dg, HA, HW, HK, HL⟩ := hrel
    have hk := HK.out
    have c1 := HA.out.cell1
    have hsz := HW.out.size
    by_cases ha : a < s.size
    · have hb : decide ((a : Int) < (s.size : Int)) = true := decide_eq_true (by omega)
      have hnx := fun w' hD => next_any w.heap.size w.heap.size s a tk dg w' (HA.out.drawn hD) ha (by omega) (Nat.le_trans hsz hD.below.size) (by omega) (by omega)
      obtain ⟨b, hb1, _⟩ := bt_cons s a ha
      have hbd := one_bounds b (s.data.toList.drop (a + 1))
      have hl := HL.out
      have hlen : (b :: s.data.toList.drop (a + 1)).length = s.size - a := by rw [← hb1]; simp
      rw [hb1, lexR_cons, ← hb1, List.drop_drop] at hl
      rw [← hb1] at hbd hlen
      have HL2 := Lib.hid hl
      clear hl HL HS hb1
      go_wp2_with fail
      refine (hnx wr (Drawn0.refl _)).mono ?_
      rintro e w2 ⟨rfl, r1, r2⟩
      have R1 := Aside0.mk r1
      have R2 := Aside0.mk (HW.out.trans r2)
      clear r1 r2 hnx
      go_wp2
      have ht := toks_le (one (s.data.toList.drop a)) a
      have hd := diags_le (one (s.data.toList.drop a)) a
      go_roundg (gk - 1)
      case measure => omega
      case rel => exact ⟨a + (one (s.data.toList.drop a)).n, _, _, R1, R2, ⟨by omega, by omega, by rw [List.length_append]; omega, by rw [List.length_append]; omega⟩, ⟨by rw [List.append_assoc]; exact_mod_cast HL2.out.1, by rw [List.append_assoc]; exact_mod_cast HL2.out.2⟩⟩
    · have hb : decide ((a : Int) < (s.size : Int)) = false := decide_eq_false (by omega)
      obtain rfl : a = s.size := by omega
      have hl := HL.out
      rw [List.drop_eq_nil_of_le (by simp), lexR_nil, List.append_nil, List.append_nil] at hl
      have HL2 := Lib.hid hl
      obtain ⟨vt, vd, hbk, ht, hd, hBg⟩ := HA.out
      have cc : wr.cell? ⟨w.heap.size, 2, none⟩ = some vt := by rw [Lib.cell_of_heap hbk]; rfl
      have c3 : wr.cell? ⟨w.heap.size, 3, none⟩ = some vd := by rw [Lib.cell_of_heap hbk]; rfl
      have cf : wr.frozen? ⟨w.heap.size, 2, none⟩ = false := Lib.frozen_of_heap hbk 2
      have hlt : w.heap.size < wr.heap.size := (Array.getElem?_eq_some_iff.1 hbk).1
      have hne := Lib.hid (own_ne ht hbk (show 100 ≠ 116 by decide))
      have hoo := Lib.hid (own_own hd ht (show 134 ≠ 100 by decide))
      have hl1 : tk.length + 1 ≤ 4398046511104 := by omega
      have hm : tk.length + 1 ≤ maxLen := by unfold maxLen; omega
      have HB := Lib.hid hbk
      have HT := Lib.hid ht
      have HD := Lib.hid hd
      clear hbk ht hd hl HL HA hk
      go_wp2_with fail
      refine start_ (n := 15) (S := fun w' => w'.cell? ⟨w.heap.size, 2, none⟩ = some vt ∧ w'.cell? ⟨w.heap.size, 3, none⟩ = some vd) (ds := []) #[false, false, false, false, false, false, false, false, false, false, false, false, false, false, false] (by kernel_rfl) rfl rfl ⟨cc, c3⟩ (fun hHeld => ?_)
      refine pure_ (i := 0) (N := some 17) (v := ?_) (a' := ?_) #[true, false, false, false, false, false, false, false, false, false, false, false, false, false, false] rfl rfl (by kernel_rfl) (fun _ _ _ h => h) (Or.inl ⟨by rfl, ?_⟩) ?_ ?_
      rotate_left
      · intro w'
        go_simp
        with_reducible rfl
      rotate_left
      · simp only [Act.put, List.setIfInBounds_toArray, List.set_cons_zero, List.set_cons_succ, i64_w, i32_w]
        rfl
      refine pure_ (i := 1) (N := some 18) (v := ?_) (a' := ?_) #[true, true, false, false, false, false, false, false, false, false, false, false, false, false, false] rfl rfl (by kernel_rfl) (fun _ _ _ h => h) (Or.inl ⟨by rfl, ?_⟩) ?_ ?_
      rotate_left
      · intro w'
        go_simp
        with_reducible rfl
      rotate_left
      · simp only [Act.put, List.setIfInBounds_toArray, List.set_cons_zero, List.set_cons_succ, i64_w, i32_w]
        rfl
      refine pure_ (i := 2) (N := some 19) (v := ?_) (a' := ?_) #[true, true, true, false, false, false, false, false, false, false, false, false, false, false, false] rfl rfl (by kernel_rfl) (fun _ _ _ h => h) (Or.inl ⟨by rfl, ?_⟩) ?_ ?_
      rotate_left
      · intro w'
        go_simp
        with_reducible rfl
      rotate_left
      · simp only [Act.put, List.setIfInBounds_toArray, List.set_cons_zero, List.set_cons_succ, i64_w, i32_w]
        rfl
      refine pure_ (i := 4) (N := some 21) (v := ?_) (a' := ?_) #[true, true, true, false, true, false, false, false, false, false, false, false, false, false, false] rfl rfl (by kernel_rfl) (fun _ _ _ h => h) (Or.inl ⟨by rfl, ?_⟩) ?_ ?_
      rotate_left
      · intro w'
        go_simp
        with_reducible rfl
      rotate_left
      · simp only [Act.put, List.setIfInBounds_toArray, List.set_cons_zero, List.set_cons_succ, i64_w, i32_w]
        rfl
      refine pure_ (i := 5) (N := some 22) (v := ?_) (a' := ?_) #[true, true, true, false, true, true, false, false, false, false, false, false, false, false, false] rfl rfl (by kernel_rfl) (fun _ _ _ h => h) (Or.inl ⟨by rfl, ?_⟩) ?_ ?_
      rotate_left
      · intro w'
        go_simp
        with_reducible rfl
      rotate_left
      · simp only [Act.put, List.setIfInBounds_toArray, List.set_cons_zero, List.set_cons_succ, i64_w, i32_w]
        rfl
      refine pure_ (i := 6) (N := some 23) (v := ?_) (a' := ?_) #[true, true, true, false, true, true, true, false, false, false, false, false, false, false, false] rfl rfl (by kernel_rfl) (fun _ _ _ h => h) (Or.inl ⟨by rfl, ?_⟩) ?_ ?_
      rotate_left
      · intro w'
        go_simp
        with_reducible rfl
      rotate_left
      · simp only [Act.put, List.setIfInBounds_toArray, List.set_cons_zero, List.set_cons_succ, i64_w, i32_w]
        rfl
      refine pure_ (i := 9) (N := some 26) (v := ?_) (a' := ?_) #[true, true, true, false, true, true, true, false, false, true, false, false, false, false, false] rfl rfl (by kernel_rfl) (fun _ _ _ h => h) (Or.inl ⟨by rfl, ?_⟩) ?_ ?_
      rotate_left
      · intro w'
        go_simp
        with_reducible rfl
      rotate_left
      · simp only [Act.put, List.setIfInBounds_toArray, List.set_cons_zero, List.set_cons_succ, i64_w, i32_w]
        rfl
      refine pure_ (i := 10) (N := some 27) (v := ?_) (a' := ?_) #[true, true, true, false, true, true, true, false, false, true, true, false, false, false, false] rfl rfl (by kernel_rfl) (fun _ _ _ h => h) (Or.inl ⟨by rfl, ?_⟩) ?_ ?_
      rotate_left
      · intro w'
        go_simp
        with_reducible rfl
      rotate_left
      · simp only [Act.put, List.setIfInBounds_toArray, List.set_cons_zero, List.set_cons_succ, i64_w, i32_w]
        rfl
      refine pure_ (i := 11) (N := some 28) (v := ?_) (a' := ?_) #[true, true, true, false, true, true, true, false, false, true, true, true, false, false, false] rfl rfl (by kernel_rfl) (fun _ _ _ h => h) (Or.inl ⟨by rfl, ?_⟩) ?_ ?_
      rotate_left
      · intro w'
        go_simp
        with_reducible rfl
      rotate_left
      · simp only [Act.put, List.setIfInBounds_toArray, List.set_cons_zero, List.set_cons_succ, i64_w, i32_w]
        rfl
      refine take_ (i := 3) (N := some 20) (v := ?_) (a' := ?_) #[true, true, true, true, true, true, true, false, false, true, true, true, false, false, false] rfl rfl (by kernel_rfl) (fun _ _ _ h => h) (Or.inl ⟨by rfl, ?_⟩) hHeld ?_ ?_
      rotate_left
      · rintro w' ⟨s0, s1⟩
        go_simp
        with_reducible rfl
      rotate_left
      · simp only [Act.put, List.setIfInBounds_toArray, List.set_cons_zero, List.set_cons_succ, i64_w, i32_w]
        rfl
      refine take_ (i := 12) (N := some 29) (v := ?_) (a' := ?_) #[true, true, true, true, true, true, true, false, false, true, true, true, true, false, false] rfl rfl (by kernel_rfl) (fun _ _ _ h => h) (Or.inl ⟨by rfl, ?_⟩) hHeld ?_ ?_
      rotate_left
      · rintro w' ⟨s0, s1⟩
        go_simp
        with_reducible rfl
      rotate_left
      · simp only [Act.put, List.setIfInBounds_toArray, List.set_cons_zero, List.set_cons_succ, i64_w, i32_w]
        rfl
      refine one_ (i := 7) (N := some 24) #[true, true, true, true, true, true, true, true, false, true, true, true, true, false, false] rfl rfl (by kernel_rfl) (by decide) (fun K hK => ?_)
      refine value_ (w1 := ?_) (v := ?_) (by rfl) rfl ?_ ?_
      rotate_left 2
      · go_simp
        constructor
        · rfl
        · rfl
      refine hK.out _ _ ⟨cel_alloc hlt cc _, cel_alloc hlt c3 _⟩ (fun hHeld => ?_)
      clear hK K
      refine norm_ (a' := ?_) ?_ ?_
      rotate_left
      · show Act.put _ (some 24) _ = _
        simp only [Act.put, List.setIfInBounds_toArray, List.set_cons_zero, List.set_cons_succ, i64_w, i32_w]
        rfl
      refine one_ (i := 8) (N := some 25) #[true, true, true, true, true, true, true, true, true, true, true, true, true, false, false] rfl rfl (by kernel_rfl) (by decide) (fun K hK => ?_)
      refine step_append_lies _ (by rfl) _ _ _ (by rfl) w.heap.size 100 i0 _ 3 32 Try.underlying96 hi0 hz0 hz1 hz2 rfl (by omega) vt tk.length (tks tk) (by rfl) (HT.out.alloc _) ⟨wr.heap.size, 0, none⟩ 1 1 [.int .i64 6, .int .i64 (s.size : Int), .string ⟨#[]⟩] (by rfl) (by rfl) (World.news_of_block (cs := #[.int .i64 6, .int .i64 (s.size : Int), .string ⟨#[]⟩]) (t := 100) (fr := (0, 0)) (heap_alloc_new wr _)) (by simp [Value.oneCell']) (by omega) hm (by omega) (by simp; omega) (wr.heap.size + 1) (by simp) ?_
      intro gg cap w1 hown1 hgrow hat hlt1
      have hf1 : w1.frozen? ⟨w.heap.size, 2, none⟩ = false := (hgrow.frozen_far _ (by simp; omega) hne.out).trans (frz_alloc hlt cf _)
      have hd3 : w1.cell? ⟨w.heap.size, 2, none⟩ = some vt := (hgrow.cell_far _ (by simp; omega) hne.out).trans (cel_alloc hlt cc _)
      refine hK.out _ _ ⟨hd3, (hgrow.cell_far _ (by simp; omega) hne.out).trans (cel_alloc hlt c3 _)⟩ (fun hHeld => ?_)
      clear hK K
      refine norm_ (a' := ?_) ?_ ?_
      rotate_left
      · show Act.put _ (some 25) _ = _
        simp only [Act.put, List.setIfInBounds_toArray, List.set_cons_zero, List.set_cons_succ, i64_w, i32_w]
        rfl
      refine pure_ (i := 13) (N := some 2) (v := ?_) (a' := ?_) #[true, true, true, true, true, true, true, true, true, true, true, true, true, true, false] rfl rfl (by kernel_rfl) (fun _ _ _ h => h) (Or.inl ⟨by rfl, ?_⟩) ?_ ?_
      rotate_left
      · intro w'
        go_simp
        with_reducible rfl
      rotate_left
      · simp only [Act.put, List.setIfInBounds_toArray, List.set_cons_zero, List.set_cons_succ, i64_w, i32_w]
        rfl
      refine pure_ (i := 14) (N := some 3) (v := ?_) (a' := ?_) #[true, true, true, true, true, true, true, true, true, true, true, true, true, true, true] rfl rfl (by kernel_rfl) (fun _ _ _ h => h) (Or.inl ⟨by rfl, ?_⟩) ?_ ?_
      rotate_left
      · intro w'
        go_simp
        with_reducible rfl
      rotate_left
      · simp only [Act.put, List.setIfInBounds_toArray, List.set_cons_zero, List.set_cons_succ, i64_w, i32_w]
        rfl
      refine done_ (by kernel_rfl) ?_
      go_wp2
      go_returns
      refine ⟨_, _, rfl, ?_, ?_, ?_⟩
      · rw [show (lexA s.data.toList).1 = tk ++ [(⟨6, (s.size : Int), ⟨#[]⟩⟩ : Tk)] from by rw [HL2.out.1]; simp only [lexA, Array.length_toList]; rfl, tks_snoc, List.length_append]
        exact hown1
      · rw [show (lexA s.data.toList).2 = dg from HL2.out.2.symm]
        exact (HD.out.alloc _).kept (grown_plain hgrow) hoo.out
      · exact (HW.out.alloc hsz _).grown (grown_plain hgrow) (by simp; omega) (fun k hk => (HT.out.lt k hk).1)

theorem tks_reps (w : World) (base : Nat) (ok : Nat → Prop) : ∀ l : List Tk, Reps (k100.M w base ok) 3 l (tks l)
  | [] => Reps.none _ _
  | t :: l => Reps.c3 (k100_mkM w base ok t) (tks_reps w base ok l)
theorem dgs_reps (w : World) (base : Nat) (ok : Nat → Prop) : ∀ l : List Dg, Reps (k134.M w base ok) 3 l (dgs l)
  | [] => Reps.none _ _
  | t :: l => Reps.c3 (k134_mkM w base ok t) (dgs_reps w base ok l)
theorem tks_R {w : World} {base : Nat} {v : Value} {l : List Tk} (h : w.ownsRow base 100 3 v l.length (tks l)) : Kd.R k100 100 w base (fun _ => True) v l := ⟨fun _ _ => trivial, tks l, h, tks_reps _ _ _ _⟩
theorem dgs_R {w : World} {base : Nat} {v : Value} {l : List Dg} (h : w.ownsRow base 134 3 v l.length (dgs l)) : Kd.R k134 134 w base (fun _ => True) v l := ⟨fun _ _ => trivial, dgs l, h, dgs_reps _ _ _ _⟩
end Go.Proofs.Ytonhfcjldbohbaa.Lx
