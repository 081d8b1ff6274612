/- lex: Lex. -/
import Derived.Test.YtmbbebdpmffihaaLexE
namespace Go.Proofs.Ytmbbebdpmffihaa.Lx
open Go.RowKit Go.Proofs.Ytmbbebdpmffihaa.PA Go.Proofs.YtmbbebdpmffihaaW.PrintWords Go.Proofs.YtmbbebdpmffihaaW.PrintLast Go.Proofs.YtmbbebdpmffihaaW.PrintMore
set_option linter.unusedVariables false
set_option linter.unusedSimpArgs false

theorem lex_start (w : World) (s : ByteArray) : Sc w.heap.size w.heap.size s 0 [] [] (w.alloc (.cells #[.string s, .int .i64 0, .slice none 0 0, .slice none 0 0] 48)) := by
  refine ⟨.slice none 0 0, .slice none 0 0, heap_alloc_new w _, ?_, ?_, Nat.le_refl _⟩
  · exact own_nil _ _ _ _
  · exact own_nil _ _ _ _

set_option maxHeartbeats 3200000 in
set_option maxRecDepth 100000 in
theorem lex_any (s : ByteArray) (w : World) (hs : s.size ≤ 1000000000) :
    Calls Try.prog 10 #[.string s] w fun e w' => ∃ v1 v2, e = .returned (.tuple #[v1, v2]) ∧ w'.ownsRow w.heap.size 35 3 v1 (lexA s.data.toList).1.length (tks (lexA s.data.toList).1) ∧ w'.ownsRow w.heap.size 39 3 v2 (lexA s.data.toList).2.length (dgs (lexA s.data.toList).2) ∧ Below w.heap.size w w' := by
  obtain ⟨i0, hi0, hz0, hz1, hz2⟩ := info_parts infoTok
  have hst := lex_start w s
  go_enter Try.func10, Try.ntmps10
  go_wp2_with fail
  have HS := Lib.hid hst
  clear hst
  go_loopg [] (s.size + 1) (fun kq w' => ∃ (a : Nat) (tk : List Tk) (dg : List Dg), Aside0 (Sc w.heap.size w.heap.size s (a : Int) tk dg w') ∧ Aside0 (Below w.heap.size w w') ∧ Aside0 (a ≤ s.size ∧ s.size + 1 ≤ a + kq ∧ tk.length ≤ a ∧ dg.length ≤ a) ∧
    Aside0 (tk ++ (lexR a (s.data.toList.drop a)).1 = (lexR 0 s.data.toList).1 ∧ dg ++ (lexR a (s.data.toList.drop a)).2 = (lexR 0 s.data.toList).2))
  case atStart => exact ⟨0, [], [], ⟨HS.out⟩, ⟨(Below.refl _ _).alloc (Nat.le_refl _) _⟩, ⟨by omega, by omega, Nat.le_refl _, Nat.le_refl _⟩, ⟨by simp, by simp⟩⟩
  case round =>
    obtain ⟨a, tk, dg, HA, HW, HK, HL⟩ := hrel
    have hk := HK.out
    have c1 := HA.out.cell1
    have hsz := HW.out.size
    by_cases ha : a < s.size
    · have hb : decide ((a : Int) < (s.size : Int)) = true := decide_eq_true (by omega)
      have hnx := fun w' hD => next_any w.heap.size w.heap.size s a tk dg w' (HA.out.drawn hD) ha (by omega) (Nat.le_trans hsz hD.below.size) (by omega) (by omega)
      obtain ⟨b, hb1, _⟩ := bt_cons s a ha
      have hbd := one_bounds b (s.data.toList.drop (a + 1))
      have hl := HL.out
      have hlen : (b :: s.data.toList.drop (a + 1)).length = s.size - a := by rw [← hb1]; simp
      rw [hb1, lexR_cons, ← hb1, List.drop_drop] at hl
      rw [← hb1] at hbd hlen
      have HL2 := Lib.hid hl
      clear hl HL HS hb1
      go_wp2_with fail
      refine (hnx wr (Drawn0.refl _)).mono ?_
      rintro e w2 ⟨rfl, r1, r2⟩
      have R1 := Aside0.mk r1
      have R2 := Aside0.mk (HW.out.trans r2)
      clear r1 r2 hnx
      go_wp2
      have ht := toks_le (one (s.data.toList.drop a)) a
      have hd := diags_le (one (s.data.toList.drop a)) a
      go_roundg (gk - 1)
      case measure => omega
      case rel => exact ⟨a + (one (s.data.toList.drop a)).n, _, _, R1, R2, ⟨by omega, by omega, by rw [List.length_append]; omega, by rw [List.length_append]; omega⟩, ⟨by rw [List.append_assoc]; exact_mod_cast HL2.out.1, by rw [List.append_assoc]; exact_mod_cast HL2.out.2⟩⟩
    · have hb : decide ((a : Int) < (s.size : Int)) = false := decide_eq_false (by omega)
      obtain rfl : a = s.size := by omega
      have hl := HL.out
      rw [List.drop_eq_nil_of_le (by simp), lexR_nil, List.append_nil, List.append_nil] at hl
      have HL2 := Lib.hid hl
      obtain ⟨vt, vd, hbk, ht, hd, hBg⟩ := HA.out
      have cc : wr.cell? ⟨w.heap.size, 2, none⟩ = some vt := by rw [Lib.cell_of_heap hbk]; rfl
      have c3 : wr.cell? ⟨w.heap.size, 3, none⟩ = some vd := by rw [Lib.cell_of_heap hbk]; rfl
      have cf : wr.frozen? ⟨w.heap.size, 2, none⟩ = false := Lib.frozen_of_heap hbk 2
      have hlt : w.heap.size < wr.heap.size := (Array.getElem?_eq_some_iff.1 hbk).1
      have hne := Lib.hid (own_ne ht hbk (show 35 ≠ 48 by decide))
      have hoo := Lib.hid (own_own hd ht (show 39 ≠ 35 by decide))
      have hl1 : tk.length + 1 ≤ 4398046511104 := by omega
      have hm : tk.length + 1 ≤ maxLen := by unfold maxLen; omega
      have HB := Lib.hid hbk
      have HT := Lib.hid ht
      have HD := Lib.hid hd
      clear hbk ht hd hl HL HA hk
      go_wp2_with fail
      refine start_ (n := 15) (S := fun w' => w'.cell? ⟨w.heap.size, 2, none⟩ = some vt ∧ w'.cell? ⟨w.heap.size, 3, none⟩ = some vd) (ds := []) #[false, false, false, false, false, false, false, false, false, false, false, false, false, false, false] (by kernel_rfl) rfl rfl ⟨cc, c3⟩ (fun hHeld => ?_)
      refine pure_ (i := 0) (N := some 17) (v := ?_) (a' := ?_) #[true, false, false, false, false, false, false, false, false, false, false, false, false, false, false] rfl rfl (by kernel_rfl) (fun _ _ _ h => h) (Or.inl ⟨by rfl, ?_⟩) ?_ ?_
      rotate_left
      · intro w'
        go_simp
        with_reducible rfl
      rotate_left
      · simp only [Act.put, List.setIfInBounds_toArray, List.set_cons_zero, List.set_cons_succ, i64_w, i32_w]
        rfl
      refine pure_ (i := 1) (N := some 18) (v := ?_) (a' := ?_) #[true, true, false, false, false, false, false, false, false, false, false, false, false, false, false] rfl rfl (by kernel_rfl) (fun _ _ _ h => h) (Or.inl ⟨by rfl, ?_⟩) ?_ ?_
      rotate_left
      · intro w'
        go_simp
        with_reducible rfl
      rotate_left
      · simp only [Act.put, List.setIfInBounds_toArray, List.set_cons_zero, List.set_cons_succ, i64_w, i32_w]
        rfl
      refine pure_ (i := 2) (N := some 19) (v := ?_) (a' := ?_) #[true, true, true, false, false, false, false, false, false, false, false, false, false, false, false] rfl rfl (by kernel_rfl) (fun _ _ _ h => h) (Or.inl ⟨by rfl, ?_⟩) ?_ ?_
      rotate_left
      · intro w'
        go_simp
        with_reducible rfl
      rotate_left
      · simp only [Act.put, List.setIfInBounds_toArray, List.set_cons_zero, List.set_cons_succ, i64_w, i32_w]
        rfl
      refine pure_ (i := 4) (N := some 21) (v := ?_) (a' := ?_) #[true, true, true, false, true, false, false, false, false, false, false, false, false, false, false] rfl rfl (by kernel_rfl) (fun _ _ _ h => h) (Or.inl ⟨by rfl, ?_⟩) ?_ ?_
      rotate_left
      · intro w'
        go_simp
        with_reducible rfl
      rotate_left
      · simp only [Act.put, List.setIfInBounds_toArray, List.set_cons_zero, List.set_cons_succ, i64_w, i32_w]
        rfl
      refine pure_ (i := 5) (N := some 22) (v := ?_) (a' := ?_) #[true, true, true, false, true, true, false, false, false, false, false, false, false, false, false] rfl rfl (by kernel_rfl) (fun _ _ _ h => h) (Or.inl ⟨by rfl, ?_⟩) ?_ ?_
      rotate_left
      · intro w'
        go_simp
        with_reducible rfl
      rotate_left
      · simp only [Act.put, List.setIfInBounds_toArray, List.set_cons_zero, List.set_cons_succ, i64_w, i32_w]
        rfl
      refine pure_ (i := 6) (N := some 23) (v := ?_) (a' := ?_) #[true, true, true, false, true, true, true, false, false, false, false, false, false, false, false] rfl rfl (by kernel_rfl) (fun _ _ _ h => h) (Or.inl ⟨by rfl, ?_⟩) ?_ ?_
      rotate_left
      · intro w'
        go_simp
        with_reducible rfl
      rotate_left
      · simp only [Act.put, List.setIfInBounds_toArray, List.set_cons_zero, List.set_cons_succ, i64_w, i32_w]
        rfl
      refine pure_ (i := 9) (N := some 26) (v := ?_) (a' := ?_) #[true, true, true, false, true, true, true, false, false, true, false, false, false, false, false] rfl rfl (by kernel_rfl) (fun _ _ _ h => h) (Or.inl ⟨by rfl, ?_⟩) ?_ ?_
      rotate_left
      · intro w'
        go_simp
        with_reducible rfl
      rotate_left
      · simp only [Act.put, List.setIfInBounds_toArray, List.set_cons_zero, List.set_cons_succ, i64_w, i32_w]
        rfl
      refine pure_ (i := 10) (N := some 27) (v := ?_) (a' := ?_) #[true, true, true, false, true, true, true, false, false, true, true, false, false, false, false] rfl rfl (by kernel_rfl) (fun _ _ _ h => h) (Or.inl ⟨by rfl, ?_⟩) ?_ ?_
      rotate_left
      · intro w'
        go_simp
        with_reducible rfl
      rotate_left
      · simp only [Act.put, List.setIfInBounds_toArray, List.set_cons_zero, List.set_cons_succ, i64_w, i32_w]
        rfl
      refine pure_ (i := 11) (N := some 28) (v := ?_) (a' := ?_) #[true, true, true, false, true, true, true, false, false, true, true, true, false, false, false] rfl rfl (by kernel_rfl) (fun _ _ _ h => h) (Or.inl ⟨by rfl, ?_⟩) ?_ ?_
      rotate_left
      · intro w'
        go_simp
        with_reducible rfl
      rotate_left
      · simp only [Act.put, List.setIfInBounds_toArray, List.set_cons_zero, List.set_cons_succ, i64_w, i32_w]
        rfl
      refine take_ (i := 3) (N := some 20) (v := ?_) (a' := ?_) #[true, true, true, true, true, true, true, false, false, true, true, true, false, false, false] rfl rfl (by kernel_rfl) (fun _ _ _ h => h) (Or.inl ⟨by rfl, ?_⟩) hHeld ?_ ?_
      rotate_left
      · rintro w' ⟨s0, s1⟩
        go_simp
        with_reducible rfl
      rotate_left
      · simp only [Act.put, List.setIfInBounds_toArray, List.set_cons_zero, List.set_cons_succ, i64_w, i32_w]
        rfl
      refine take_ (i := 12) (N := some 29) (v := ?_) (a' := ?_) #[true, true, true, true, true, true, true, false, false, true, true, true, true, false, false] rfl rfl (by kernel_rfl) (fun _ _ _ h => h) (Or.inl ⟨by rfl, ?_⟩) hHeld ?_ ?_
      rotate_left
      · rintro w' ⟨s0, s1⟩
        go_simp
        with_reducible rfl
      rotate_left
      · simp only [Act.put, List.setIfInBounds_toArray, List.set_cons_zero, List.set_cons_succ, i64_w, i32_w]
        rfl
      refine one_ (i := 7) (N := some 24) #[true, true, true, true, true, true, true, true, false, true, true, true, true, false, false] rfl rfl (by kernel_rfl) (by decide) (fun K hK => ?_)
      refine value_ (w1 := ?_) (v := ?_) (by rfl) rfl ?_ ?_
      rotate_left 2
      · go_simp
        constructor
        · rfl
        · rfl
      refine hK.out _ _ ⟨cel_alloc hlt cc _, cel_alloc hlt c3 _⟩ (fun hHeld => ?_)
      clear hK K
      refine norm_ (a' := ?_) ?_ ?_
      rotate_left
      · show Act.put _ (some 24) _ = _
        simp only [Act.put, List.setIfInBounds_toArray, List.set_cons_zero, List.set_cons_succ, i64_w, i32_w]
        rfl
      refine one_ (i := 8) (N := some 25) #[true, true, true, true, true, true, true, true, true, true, true, true, true, false, false] rfl rfl (by kernel_rfl) (by decide) (fun K hK => ?_)
      refine step_append_lies _ (by rfl) _ _ _ (by rfl) w.heap.size 35 i0 _ 3 32 Try.underlying23 hi0 hz0 hz1 hz2 rfl (by omega) vt tk.length (tks tk) (by rfl) (HT.out.alloc _) ⟨wr.heap.size, 0, none⟩ 1 1 [.int .i64 6, .int .i64 (s.size : Int), .string ⟨#[]⟩] (by rfl) (by rfl) (World.news_of_block (cs := #[.int .i64 6, .int .i64 (s.size : Int), .string ⟨#[]⟩]) (t := 35) (fr := (0, 0)) (heap_alloc_new wr _)) (by simp [Value.oneCell']) (by omega) hm (by omega) (by simp; omega) (wr.heap.size + 1) (by simp) ?_
      intro gg cap w1 hown1 hgrow hat hlt1
      have hf1 : w1.frozen? ⟨w.heap.size, 2, none⟩ = false := (hgrow.frozen_far _ (by simp; omega) hne.out).trans (frz_alloc hlt cf _)
      have hd3 : w1.cell? ⟨w.heap.size, 2, none⟩ = some vt := (hgrow.cell_far _ (by simp; omega) hne.out).trans (cel_alloc hlt cc _)
      refine hK.out _ _ ⟨hd3, (hgrow.cell_far _ (by simp; omega) hne.out).trans (cel_alloc hlt c3 _)⟩ (fun hHeld => ?_)
      clear hK K
      refine norm_ (a' := ?_) ?_ ?_
      rotate_left
      · show Act.put _ (some 25) _ = _
        simp only [Act.put, List.setIfInBounds_toArray, List.set_cons_zero, List.set_cons_succ, i64_w, i32_w]
        rfl
      refine pure_ (i := 13) (N := some 2) (v := ?_) (a' := ?_) #[true, true, true, true, true, true, true, true, true, true, true, true, true, true, false] rfl rfl (by kernel_rfl) (fun _ _ _ h => h) (Or.inl ⟨by rfl, ?_⟩) ?_ ?_
      rotate_left
      · intro w'
        go_simp
        with_reducible rfl
      rotate_left
      · simp only [Act.put, List.setIfInBounds_toArray, List.set_cons_zero, List.set_cons_succ, i64_w, i32_w]
        rfl
      refine pure_ (i := 14) (N := some 3) (v := ?_) (a' := ?_) #[true, true, true, true, true, true, true, true, true, true, true, true, true, true, true] rfl rfl (by kernel_rfl) (fun _ _ _ h => h) (Or.inl ⟨by rfl, ?_⟩) ?_ ?_
      rotate_left
      · intro w'
        go_simp
        with_reducible rfl
      rotate_left
      · simp only [Act.put, List.setIfInBounds_toArray, List.set_cons_zero, List.set_cons_succ, i64_w, i32_w]
        rfl
      refine done_ (by kernel_rfl) ?_
      go_wp2
      go_returns
      refine ⟨_, _, rfl, ?_, ?_, ?_⟩
      · rw [show (lexA s.data.toList).1 = tk ++ [(⟨6, (s.size : Int), ⟨#[]⟩⟩ : Tk)] from by rw [HL2.out.1]; simp only [lexA, Array.length_toList]; rfl, tks_snoc, List.length_append]
        exact hown1
      · rw [show (lexA s.data.toList).2 = dg from HL2.out.2.symm]
        exact (HD.out.alloc _).kept (grown_plain hgrow) hoo.out
      · exact (HW.out.alloc hsz _).grown (grown_plain hgrow) (by simp; omega) (fun k hk => (HT.out.lt k hk).1)

theorem tks_reps (w : World) (base : Nat) (ok : Nat → Prop) : ∀ l : List Tk, Reps (k35.M w base ok) 3 l (tks l)
  | [] => Reps.none _ _
  | t :: l => Reps.c3 (k35_mkM w base ok t) (tks_reps w base ok l)
theorem dgs_reps (w : World) (base : Nat) (ok : Nat → Prop) : ∀ l : List Dg, Reps (k39.M w base ok) 3 l (dgs l)
  | [] => Reps.none _ _
  | t :: l => Reps.c3 (k39_mkM w base ok t) (dgs_reps w base ok l)
theorem tks_R {w : World} {base : Nat} {v : Value} {l : List Tk} (h : w.ownsRow base 35 3 v l.length (tks l)) : Kd.R k35 35 w base (fun _ => True) v l := ⟨fun _ _ => trivial, tks l, h, tks_reps _ _ _ _⟩
theorem dgs_R {w : World} {base : Nat} {v : Value} {l : List Dg} (h : w.ownsRow base 39 3 v l.length (dgs l)) : Kd.R k39 39 w base (fun _ => True) v l := ⟨fun _ _ => trivial, dgs l, h, dgs_reps _ _ _ _⟩

def sameT (a b : Tk) : Bool := a.f0 == b.f0 && a.f2.toList == b.f2.toList
set_option maxHeartbeats 3200000 in
set_option maxRecDepth 100000 in
theorem same1_any (a b : Tk) (w : World) : Calls Try.prog 22 #[.agg #[.int .i64 a.f0, .int .i64 a.f1, .string a.f2], .agg #[.int .i64 b.f0, .int .i64 b.f1, .string b.f2]] w fun e w' => e = .returned (.bool (sameT a b)) ∧ Below w.heap.size w w' := by
  cases hc : (a.f0 == b.f0)
  · go_enter Try.func22, Try.ntmps22
    go_wp2
    go_ret
    exact ⟨by simp only [sameT, hc]; rfl, (((Below.refl _ w).alloc (Nat.le_refl _) _).alloc (by simp) _)⟩
  · go_enter Try.func22, Try.ntmps22
    go_wp2
    go_ret
    exact ⟨by simp only [sameT, hc]; rfl, (((Below.refl _ w).alloc (Nat.le_refl _) _).alloc (by simp) _)⟩

def sameL : List Tk → List Tk → Bool
  | [], [] => true
  | a :: l, b :: m => sameT a b && sameL l m
  | _, _ => false
theorem sameL_len : ∀ {l m : List Tk}, l.length ≠ m.length → sameL l m = false
  | [], [], h => absurd rfl h
  | [], _ :: _, _ => rfl
  | _ :: _, [], _ => rfl
  | a :: l, b :: m, h => by
    have := sameL_len (l := l) (m := m) (by simpa using h)
    simp [sameL, this]

theorem sameL_step (l m : List Tk) (j : Nat) (x y : Tk) (h1 : j < l.length) (h2 : j < m.length) (hx : rd_T35 l (j : Int) = x) (hy : rd_T35 m (j : Int) = y) : sameL (l.drop j) (m.drop j) = (sameT x y && sameL (l.drop (j + 1)) (m.drop (j + 1))) := by
  have e1 : l[j] = x := by rw [← hx]; simp [rd_T35, List.getD_eq_getElem?_getD, List.getElem?_eq_getElem h1]
  have e2 : m[j] = y := by rw [← hy]; simp [rd_T35, List.getD_eq_getElem?_getD, List.getElem?_eq_getElem h2]
  rw [List.drop_eq_getElem_cons h1, List.drop_eq_getElem_cons h2, sameL, e1, e2]

set_option maxHeartbeats 3200000 in
set_option maxRecDepth 100000 in
theorem equal_any (A1 : Option Addr) (c1 : Nat) (l1 : List Tk) (A2 : Option Addr) (c2 : Nat) (l2 : List Tk) (w : World) (hr1 : Kd.C k35 w A1 l1.length l1) (hc1 : l1.length ≤ c1) (hr2 : Kd.C k35 w A2 l2.length l2) (hc2 : l2.length ≤ c2) :
    Calls Try.prog 21 #[.slice A1 l1.length c1, .slice A2 l2.length c2, .func (.func 22) #[] #[]] w fun e w' => e = .returned (.bool (sameL l1 l2)) ∧ Below w.heap.size w w' := by
  have hen := enters_fn Try.func22 (by kernel_rfl) rfl
  have HR1 := Lib.hid hr1
  have HR2 := Lib.hid hr2
  have hm1 : l1.length ≤ 9223372036854775807 := hr1.2.1
  have hm2 : l2.length ≤ 9223372036854775807 := hr2.2.1
  clear hr1 hr2
  by_cases hl : l1.length = l2.length
  · have hb : ((l1.length : Int) == (l2.length : Int)) = true := beq_iff_eq.mpr (by omega)
    have hb2 : ((l1.length : Int) != (l2.length : Int)) = false := bne_eq_false_iff_eq.mpr (by omega)
    have HLn := Lib.hid hl
    clear hl
    go_enter Try.func21, Try.ntmps21
    go_wp2
    go_loopg [17] (l1.length + 1) (fun kq v17 w' => ∃ j : Nat, v17 = .int .i64 (j : Int) ∧ Aside0 (j ≤ l1.length ∧ j + kq = l1.length + 1) ∧ Aside0 (sameL (l1.drop j) (l2.drop j) = sameL l1 l2) ∧ Aside0 (Below w.heap.size w w'))
    case atStart => exact ⟨0, rfl, ⟨by omega, by omega⟩, ⟨rfl⟩, ⟨Below.refl _ _⟩⟩
    case round =>
      obtain ⟨j, rfl, HJ, HS, HW⟩ := hrel
      obtain ⟨hj1, hj2⟩ := HJ.out
      have hln := HLn.out
      by_cases hj : j < l1.length
      · have hcc : decide ((j : Int) < (l1.length : Int)) = true := decide_eq_true (by omega)
        obtain ⟨ad1, e1, hx0, hx1, hx2⟩ := at_T35 HR1.out (j : Int) (by omega) (by omega)
        obtain ⟨ad2, e2, hy0, hy1, hy2⟩ := at_T35 HR2.out (j : Int) (by omega) (by omega)
        subst e1 e2
        replace hx0 := (HW.out.cell (World.block_lt_of_cell? w _ hx0)).trans hx0
        replace hx1 := (HW.out.cell (World.block_lt_of_cell? w _ hx1)).trans hx1
        replace hx2 := (HW.out.cell (World.block_lt_of_cell? w _ hx2)).trans hx2
        replace hy0 := (HW.out.cell (World.block_lt_of_cell? w _ hy0)).trans hy0
        replace hy1 := (HW.out.cell (World.block_lt_of_cell? w _ hy1)).trans hy1
        replace hy2 := (HW.out.cell (World.block_lt_of_cell? w _ hy2)).trans hy2
        simp only [Int.toNat_natCast] at hx0 hx1 hx2 hy0 hy1 hy2
        obtain ⟨x, hx⟩ : ∃ x, rd_T35 l1 (j : Int) = x := ⟨_, rfl⟩
        obtain ⟨y, hy⟩ : ∃ y, rd_T35 l2 (j : Int) = y := ⟨_, rfl⟩
        rw [hx] at hx0 hx1 hx2
        rw [hy] at hy0 hy1 hy2
        have hbel : Below wr.heap.size wr (wr.alloc (.cells #[.int .i64 x.f0, .int .i64 x.f1, .string x.f2] 35)) := (Below.refl _ wr).alloc (Nat.le_refl _) _
        replace hy0 := (hbel.cell (World.block_lt_of_cell? wr _ hy0)).trans hy0
        replace hy1 := (hbel.cell (World.block_lt_of_cell? wr _ hy1)).trans hy1
        replace hy2 := (hbel.cell (World.block_lt_of_cell? wr _ hy2)).trans hy2
        have HBL := Lib.hid (HW.out.trans ((hbel.mono HW.out.size).alloc (by simp; have := HW.out.size; omega) (.cells #[.int .i64 y.f0, .int .i64 y.f1, .string y.f2] 35)))
        clear hbel
        have HSS := Lib.hid (sameL_step l1 l2 j x y hj (by omega) hx hy)
        have hp1 : (0 ≤ (j : Int)) = True := eq_true (by omega)
        have hp2 : ((j : Int) < (l1.length : Int)) = True := eq_true (by omega)
        have hp3 : ((j : Int) < (l2.length : Int)) = True := eq_true (by omega)
        have hp4 : (j < l1.length) = True := eq_true hj
        have hp5 : (j < l2.length) = True := eq_true (by omega)
        have HJ2 := Lib.hid hj
        clear hln hx hy hj2 hj
        cases hst : sameT x y
        · go_wp2_with fail
          refine (same1_any x y _).mono ?_
          rw [hst]
          rintro e w3 ⟨rfl, hb3⟩
          have HB3 := Lib.hid hb3
          clear hb3
          go_wp2
          go_returns
          exact ⟨by rw [← HS.out, HSS.out, hst]; rfl, HBL.out.trans (HB3.out.mono HBL.out.size)⟩
        · go_wp2_with fail
          refine (same1_any x y _).mono ?_
          rw [hst]
          rintro e w3 ⟨rfl, hb3⟩
          have HB3 := Lib.hid hb3
          clear hb3
          go_wp2
          go_roundg (gk - 1)
          case measure => have := HJ.out; omega
          case rel => exact ⟨j + 1, by have := HJ2.out; rw [← i64_w, IntWalk.i64_in _ ⟨by omega, by omega⟩]; rfl, ⟨by have := HJ2.out; omega, by have := HJ.out; omega⟩, ⟨by rw [← HS.out, HSS.out, hst]; rfl⟩, ⟨by exact HBL.out.trans (HB3.out.mono HBL.out.size)⟩⟩
      · have hcc : decide ((j : Int) < (l1.length : Int)) = false := decide_eq_false (by omega)
        have hccn : decide (j < l1.length) = false := decide_eq_false hj
        have hend := HS.out
        rw [List.drop_eq_nil_of_le (by omega), List.drop_eq_nil_of_le (by omega)] at hend
        have HE := Lib.hid hend
        clear hend hj hln
        go_wp2
        go_returns
        exact ⟨by rw [← HE.out]; rfl, HW.out⟩
  · have hb : ((l1.length : Int) == (l2.length : Int)) = false := beq_eq_false_iff_ne.mpr (by omega)
    have hb2 : ((l1.length : Int) != (l2.length : Int)) = true := bne_iff_ne.mpr (by omega)
    go_enter Try.func21, Try.ntmps21
    go_wp2
    go_returns
    exact ⟨by rw [sameL_len hl]; rfl, Below.refl _ _⟩

end Go.Proofs.Ytmbbebdpmffihaa.Lx
