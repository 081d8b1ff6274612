/- lex: text. -/
import Derived.Test.YtonhfcjldbohbaaLexB
namespace Go.Proofs.Ytonhfcjldbohbaa.Lx
open Go.RowKit Go.Proofs.Ytonhfcjldbohbaa.PA Go.Proofs.YtonhfcjldbohbaaW.PrintWords Go.Proofs.YtonhfcjldbohbaaW.PrintLast Go.Proofs.YtonhfcjldbohbaaW.PrintMore
set_option linter.unusedVariables false
set_option linter.unusedSimpArgs false

theorem dra0 (w : World) (n : Nat) : Drawn0 w (w.drewN n) := ⟨⟨n, rfl⟩⟩
theorem _root_.Go.Proofs.YtonhfcjldbohbaaW.PrintWords.Drawn0.drawn {w w' w'' : World} (h : Drawn0 w w') (h' : Drawn0 w' w'') : Drawn0 w w'' := by
  obtain ⟨⟨n, rfl⟩⟩ := h'
  exact h.step n
theorem Sc.drawn {B g : Nat} {src : ByteArray} {at_ : Int} {tk : List Tk} {dg : List Dg} {w w' : World} (h : Sc B g src at_ tk dg w) (h' : Drawn0 w w') : Sc B g src at_ tk dg w' := by
  obtain ⟨⟨n, rfl⟩⟩ := h'
  exact h.drewN n
/-- What text() finds: how far the text goes. -/
def inB (c : Int) : Bool := c != 34 && c != 10

set_option maxHeartbeats 3200000 in
set_option maxRecDepth 100000 in
theorem text_shut (B g : Nat) (src line inn r2 r3 : ByteArray) (b : Bool) (at_ : Int) (tk : List Tk) (dg : List Dg) (w : World) (h : Sc B g src at_ tk dg w) (h0 : 0 ≤ at_) (h1 : at_ + 1 ≤ (src.size : Int)) (h3 : src.size ≤ 140737488351232) (hB : B ≤ w.heap.size) (hl : tk.length + 1 ≤ 4398046511104)
    (hx1 : cutOf (src.extract (at_ + 1).toNat src.size) 10 = (line, r2, b)) (hx2 : cutOf line 34 = (inn, r3, true)) (hx3 : line.size ≤ src.size) (hx4 : at_ + inn.size + 2 ≤ src.size) :
    Calls Try.prog 77 #[.pointer (some ⟨g, 0, none⟩)] w fun e w' => e = .returned (.tuple #[]) ∧ Sc B g src (at_ + inn.size + 2) (tk ++ [⟨4, at_, inn⟩]) dg w' ∧ Below B w w' := by
  obtain ⟨i0, hi0, hz0, hz1, hz2⟩ := info_parts infoTok
  have c0 := h.cell0
  have hwr : wrap64 (at_ + 1) = at_ + 1 := (i64_w _).symm.trans (IntWalk.i64_in (at_ + 1) ⟨by omega, by omega⟩)
  have hcut1 := fun w => cut_any (src.extract (at_ + 1).toNat src.size) 10 w (by rw [ByteArray.size_extract]; omega)
  rw [← hwr] at hcut1 hx1
  simp only [hx1] at hcut1
  have hcut2 := fun w => cut_any line 34 w (by omega)
  simp only [hx2] at hcut2
  have b1 : 0 ≤ wrap64 (at_ + 1) := by rw [hwr]; omega
  have b3 : wrap64 (at_ + 1) ≤ (src.size : Int) := by rw [hwr]; omega
  have hm : tk.length + 1 ≤ maxLen := by unfold maxLen; omega
  clear hwr hx1 hx2
  have c1 := h.cell1
  have HH := Lib.hid h
  clear h
  go_enter Try.func77, Try.ntmps77
  go_wp2_with fail
  refine start_ (n := 11) (S := fun w' => w'.cell? ⟨g, 0, none⟩ = some (.string src) ∧ w'.cell? ⟨g, 1, none⟩ = some (.int .i64 at_)) (ds := []) #[false, false, false, false, false, false, false, false, false, false, false] (by kernel_rfl) rfl rfl ⟨c0, c1⟩ (fun hHeld => ?_)
  refine pure_ (i := 0) (N := some 9) (v := ?_) (a' := ?_) #[true, false, false, false, false, false, false, false, false, false, false] rfl rfl (by kernel_rfl) (fun _ _ _ h => h) (Or.inl ⟨by rfl, ?_⟩) ?_ ?_
  rotate_left
  · intro w'
    go_simp
    with_reducible rfl
  rotate_left
  · simp only [Act.put, List.setIfInBounds_toArray, List.set_cons_zero, List.set_cons_succ, i64_w, i32_w]
    rfl
  refine pure_ (i := 1) (N := some 10) (v := ?_) (a' := ?_) #[true, true, false, false, false, false, false, false, false, false, false] rfl rfl (by kernel_rfl) (fun _ _ _ h => h) (Or.inl ⟨by rfl, ?_⟩) ?_ ?_
  rotate_left
  · intro w'
    go_simp
    with_reducible rfl
  rotate_left
  · simp only [Act.put, List.setIfInBounds_toArray, List.set_cons_zero, List.set_cons_succ, i64_w, i32_w]
    rfl
  refine pure_ (i := 2) (N := some 11) (v := ?_) (a' := ?_) #[true, true, true, false, false, false, false, false, false, false, false] rfl rfl (by kernel_rfl) (fun _ _ _ h => h) (Or.inl ⟨by rfl, ?_⟩) ?_ ?_
  rotate_left
  · intro w'
    go_simp
    with_reducible rfl
  rotate_left
  · simp only [Act.put, List.setIfInBounds_toArray, List.set_cons_zero, List.set_cons_succ, i64_w, i32_w]
    rfl
  refine pure_ (i := 4) (N := some 13) (v := ?_) (a' := ?_) #[true, true, true, false, true, false, false, false, false, false, false] rfl rfl (by kernel_rfl) (fun _ _ _ h => h) (Or.inl ⟨by rfl, ?_⟩) ?_ ?_
  rotate_left
  · intro w'
    go_simp
    with_reducible rfl
  rotate_left
  · simp only [Act.put, List.setIfInBounds_toArray, List.set_cons_zero, List.set_cons_succ, i64_w, i32_w]
    rfl
  refine pure_ (i := 5) (N := some 14) (v := ?_) (a' := ?_) #[true, true, true, false, true, true, false, false, false, false, false] rfl rfl (by kernel_rfl) (fun _ _ _ h => h) (Or.inl ⟨by rfl, ?_⟩) ?_ ?_
  rotate_left
  · intro w'
    go_simp
    with_reducible rfl
  rotate_left
  · simp only [Act.put, List.setIfInBounds_toArray, List.set_cons_zero, List.set_cons_succ, i64_w, i32_w]
    rfl
  refine pure_ (i := 6) (N := some 15) (v := ?_) (a' := ?_) #[true, true, true, false, true, true, true, false, false, false, false] rfl rfl (by kernel_rfl) (fun _ _ _ h => h) (Or.inl ⟨by rfl, ?_⟩) ?_ ?_
  rotate_left
  · intro w'
    go_simp
    with_reducible rfl
  rotate_left
  · simp only [Act.put, List.setIfInBounds_toArray, List.set_cons_zero, List.set_cons_succ, i64_w, i32_w]
    rfl
  refine take_ (i := 3) (N := some 12) (v := ?_) (a' := ?_) #[true, true, true, true, true, true, true, false, false, false, false] rfl rfl (by kernel_rfl) (fun _ _ _ h => h) (Or.inl ⟨by rfl, ?_⟩) hHeld ?_ ?_
  rotate_left
  · rintro w' ⟨s0, s1⟩
    go_simp
    with_reducible rfl
  rotate_left
  · simp only [Act.put, List.setIfInBounds_toArray, List.set_cons_zero, List.set_cons_succ, i64_w, i32_w]
    rfl
  refine take_ (i := 7) (N := some 16) (v := ?_) (a' := ?_) #[true, true, true, true, true, true, true, true, false, false, false] rfl rfl (by kernel_rfl) (fun _ _ _ h => h) (Or.inl ⟨by rfl, ?_⟩) hHeld ?_ ?_
  rotate_left
  · rintro w' ⟨s0, s1⟩
    go_simp
    with_reducible rfl
  rotate_left
  · simp only [Act.put, List.setIfInBounds_toArray, List.set_cons_zero, List.set_cons_succ, i64_w, i32_w]
    rfl
  refine pure_ (i := 8) (N := some 17) (v := ?_) (a' := ?_) #[true, true, true, true, true, true, true, true, true, false, false] rfl rfl (by kernel_rfl) (fun _ _ _ h => h) (Or.inl ⟨by rfl, ?_⟩) ?_ ?_
  rotate_left
  · intro w'
    go_simp
    with_reducible rfl
  rotate_left
  · simp only [Act.put, List.setIfInBounds_toArray, List.set_cons_zero, List.set_cons_succ, i64_w, i32_w]
    rfl
  refine pure_ (i := 9) (N := some 18) (v := ?_) (a' := ?_) #[true, true, true, true, true, true, true, true, true, true, false] rfl rfl (by kernel_rfl) (fun _ _ _ h => h) (Or.inl ⟨by rfl, ?_⟩) ?_ ?_
  rotate_left
  · intro w'
    go_simp
    with_reducible rfl
  rotate_left
  · simp only [Act.put, List.setIfInBounds_toArray, List.set_cons_zero, List.set_cons_succ, i64_w, i32_w]
    rfl
  refine pure_ (i := 10) (N := some 2) (v := ?_) (a' := ?_) #[true, true, true, true, true, true, true, true, true, true, true] rfl rfl (by kernel_rfl) (fun _ _ _ h => h) (Or.inl ⟨by rfl, ?_⟩) ?_ ?_
  rotate_left
  · intro w'
    go_simp
    with_reducible rfl
  rotate_left
  · simp only [Act.put, List.setIfInBounds_toArray, List.set_cons_zero, List.set_cons_succ, i64_w, i32_w]
    rfl
  refine done_ (by kernel_rfl) ?_
  go_wp2_with fail
  refine (hcut1 _).mono ?_
  rintro e w1 ⟨rfl, hD1⟩
  have hD1' := Lib.hid ((dra0 w 1).drawn hD1)
  clear hD1
  go_wp2_with fail
  refine (hcut2 _).mono ?_
  rintro e w2 ⟨rfl, hD2⟩
  have hD := Lib.hid (hD1'.out.drawn hD2)
  have h := HH.out.drawn hD.out
  have hB2 : B ≤ w2.heap.size := by have := hD.out.below.size; omega
  clear hcut1 hcut2 hD2 hD1' HH c0 c1
  obtain ⟨vt, vd, hb, ht, hd, hBg⟩ := h
  have c1 : w2.cell? ⟨g, 1, none⟩ = some (.int .i64 at_) := by rw [Lib.cell_of_heap hb]; rfl
  have cc : w2.cell? ⟨g, 2, none⟩ = some vt := by rw [Lib.cell_of_heap hb]; rfl
  have cf : w2.frozen? ⟨g, 2, none⟩ = false := Lib.frozen_of_heap hb 2
  have hlt : g < w2.heap.size := (Array.getElem?_eq_some_iff.1 hb).1
  have hne := Lib.hid (own_ne ht hb (show 100 ≠ 116 by decide))
  have HBk := Lib.hid hb
  have HT := Lib.hid ht
  have HD := Lib.hid hd
  clear hb ht hd
  go_wp2_with fail
  refine start_ (n := 16) (S := fun w' => w'.cell? ⟨g, 1, none⟩ = some (.int .i64 at_) ∧ w'.cell? ⟨g, 2, none⟩ = some vt) (ds := [15]) #[false, false, false, false, false, false, false, false, false, false, false, false, false, false, false, false] (by kernel_rfl) rfl rfl ⟨c1, cc⟩ (fun hHeld => ?_)
  refine pure_ (i := 0) (N := some 45) (v := ?_) (a' := ?_) #[true, false, false, false, false, false, false, false, false, false, false, false, false, false, false, false] rfl rfl (by kernel_rfl) (fun _ _ _ h => h) (Or.inl ⟨by rfl, ?_⟩) ?_ ?_
  rotate_left
  · intro w'
    go_simp
    with_reducible rfl
  rotate_left
  · simp only [Act.put, List.setIfInBounds_toArray, List.set_cons_zero, List.set_cons_succ, i64_w, i32_w]
    rfl
  refine pure_ (i := 1) (N := some 46) (v := ?_) (a' := ?_) #[true, true, false, false, false, false, false, false, false, false, false, false, false, false, false, false] rfl rfl (by kernel_rfl) (fun _ _ _ h => h) (Or.inl ⟨by rfl, ?_⟩) ?_ ?_
  rotate_left
  · intro w'
    go_simp
    with_reducible rfl
  rotate_left
  · simp only [Act.put, List.setIfInBounds_toArray, List.set_cons_zero, List.set_cons_succ, i64_w, i32_w]
    rfl
  refine pure_ (i := 2) (N := some 47) (v := ?_) (a' := ?_) #[true, true, true, false, false, false, false, false, false, false, false, false, false, false, false, false] rfl rfl (by kernel_rfl) (fun _ _ _ h => h) (Or.inl ⟨by rfl, ?_⟩) ?_ ?_
  rotate_left
  · intro w'
    go_simp
    with_reducible rfl
  rotate_left
  · simp only [Act.put, List.setIfInBounds_toArray, List.set_cons_zero, List.set_cons_succ, i64_w, i32_w]
    rfl
  refine pure_ (i := 3) (N := some 48) (v := ?_) (a' := ?_) #[true, true, true, true, false, false, false, false, false, false, false, false, false, false, false, false] rfl rfl (by kernel_rfl) (fun _ _ _ h => h) (Or.inl ⟨by rfl, ?_⟩) ?_ ?_
  rotate_left
  · intro w'
    go_simp
    with_reducible rfl
  rotate_left
  · simp only [Act.put, List.setIfInBounds_toArray, List.set_cons_zero, List.set_cons_succ, i64_w, i32_w]
    rfl
  refine pure_ (i := 5) (N := some 50) (v := ?_) (a' := ?_) #[true, true, true, true, false, true, false, false, false, false, false, false, false, false, false, false] rfl rfl (by kernel_rfl) (fun _ _ _ h => h) (Or.inl ⟨by rfl, ?_⟩) ?_ ?_
  rotate_left
  · intro w'
    go_simp
    with_reducible rfl
  rotate_left
  · simp only [Act.put, List.setIfInBounds_toArray, List.set_cons_zero, List.set_cons_succ, i64_w, i32_w]
    rfl
  refine pure_ (i := 6) (N := some 51) (v := ?_) (a' := ?_) #[true, true, true, true, false, true, true, false, false, false, false, false, false, false, false, false] rfl rfl (by kernel_rfl) (fun _ _ _ h => h) (Or.inl ⟨by rfl, ?_⟩) ?_ ?_
  rotate_left
  · intro w'
    go_simp
    with_reducible rfl
  rotate_left
  · simp only [Act.put, List.setIfInBounds_toArray, List.set_cons_zero, List.set_cons_succ, i64_w, i32_w]
    rfl
  refine pure_ (i := 7) (N := some 52) (v := ?_) (a' := ?_) #[true, true, true, true, false, true, true, true, false, false, false, false, false, false, false, false] rfl rfl (by kernel_rfl) (fun _ _ _ h => h) (Or.inl ⟨by rfl, ?_⟩) ?_ ?_
  rotate_left
  · intro w'
    go_simp
    with_reducible rfl
  rotate_left
  · simp only [Act.put, List.setIfInBounds_toArray, List.set_cons_zero, List.set_cons_succ, i64_w, i32_w]
    rfl
  refine pure_ (i := 9) (N := some 54) (v := ?_) (a' := ?_) #[true, true, true, true, false, true, true, true, false, true, false, false, false, false, false, false] rfl rfl (by kernel_rfl) (fun _ _ _ h => h) (Or.inl ⟨by rfl, ?_⟩) ?_ ?_
  rotate_left
  · intro w'
    go_simp
    with_reducible rfl
  rotate_left
  · simp only [Act.put, List.setIfInBounds_toArray, List.set_cons_zero, List.set_cons_succ, i64_w, i32_w]
    rfl
  refine take_ (i := 4) (N := some 49) (v := ?_) (a' := ?_) #[true, true, true, true, true, true, true, true, false, true, false, false, false, false, false, false] rfl rfl (by kernel_rfl) (fun _ _ _ h => h) (Or.inl ⟨by rfl, ?_⟩) hHeld ?_ ?_
  rotate_left
  · rintro w' ⟨s0, s1⟩
    go_simp
    with_reducible rfl
  rotate_left
  · simp only [Act.put, List.setIfInBounds_toArray, List.set_cons_zero, List.set_cons_succ, i64_w, i32_w]
    rfl
  refine take_ (i := 8) (N := some 53) (v := ?_) (a' := ?_) #[true, true, true, true, true, true, true, true, true, true, false, false, false, false, false, false] rfl rfl (by kernel_rfl) (fun _ _ _ h => h) (Or.inl ⟨by rfl, ?_⟩) hHeld ?_ ?_
  rotate_left
  · rintro w' ⟨s0, s1⟩
    go_simp
    with_reducible rfl
  rotate_left
  · simp only [Act.put, List.setIfInBounds_toArray, List.set_cons_zero, List.set_cons_succ, i64_w, i32_w]
    rfl
  refine pure_ (i := 10) (N := some 55) (v := ?_) (a' := ?_) #[true, true, true, true, true, true, true, true, true, true, true, false, false, false, false, false] rfl rfl (by kernel_rfl) (fun _ _ _ h => h) (Or.inl ⟨by rfl, ?_⟩) ?_ ?_
  rotate_left
  · intro w'
    go_simp
    with_reducible rfl
  rotate_left
  · simp only [Act.put, List.setIfInBounds_toArray, List.set_cons_zero, List.set_cons_succ, i64_w, i32_w]
    rfl
  refine one_ (i := 11) (N := some 56) #[true, true, true, true, true, true, true, true, true, true, true, true, false, false, false, false] rfl rfl (by kernel_rfl) (by decide) (fun K hK => ?_)
  refine value_ (w1 := ?_) (v := ?_) (by rfl) rfl ?_ ?_
  rotate_left 2
  · go_simp
    constructor
    · rfl
    · rfl
  refine hK.out _ _ ⟨cel_alloc hlt c1 _, cel_alloc hlt cc _⟩ (fun hHeld => ?_)
  clear hK K
  refine norm_ (a' := ?_) ?_ ?_
  rotate_left
  · show Act.put _ (some 56) _ = _
    simp only [Act.put, List.setIfInBounds_toArray, List.set_cons_zero, List.set_cons_succ, i64_w, i32_w]
    rfl
  refine one_ (i := 12) (N := some 57) #[true, true, true, true, true, true, true, true, true, true, true, true, true, false, false, false] rfl rfl (by kernel_rfl) (by decide) (fun K hK => ?_)
  refine step_append_lies _ (by rfl) _ _ _ (by rfl) B 100 i0 _ 3 32 Try.underlying96 hi0 hz0 hz1 hz2 rfl (by omega) vt tk.length (tks tk) (by rfl) (HT.out.alloc _) ⟨w2.heap.size, 0, none⟩ 1 1 [.int .i64 4, .int .i64 at_, .string inn] (by rfl) (by rfl) (World.news_of_block (cs := #[.int .i64 4, .int .i64 at_, .string inn]) (t := 100) (fr := (0, 0)) (heap_alloc_new w2 _)) (by simp [Value.oneCell']) (by omega) hm (by omega) (by simp; omega) (w2.heap.size + 1) (by simp) ?_
  intro gg cap w1 hown1 hgrow hat hlt1
  have hf1 : w1.frozen? ⟨g, 2, none⟩ = false := (hgrow.frozen_far _ (by simp; omega) hne.out).trans (frz_alloc hlt cf _)
  have hd3 : w1.cell? ⟨g, 2, none⟩ = some vt := (hgrow.cell_far _ (by simp; omega) hne.out).trans (cel_alloc hlt cc _)
  refine hK.out _ _ ⟨(hgrow.cell_far _ (by simp; omega) hne.out).trans (cel_alloc hlt c1 _), hd3⟩ (fun hHeld => ?_)
  clear hK K
  refine norm_ (a' := ?_) ?_ ?_
  rotate_left
  · show Act.put _ (some 57) _ = _
    simp only [Act.put, List.setIfInBounds_toArray, List.set_cons_zero, List.set_cons_succ, i64_w, i32_w]
    rfl
  refine pure_ (i := 13) (N := some 58) (v := ?_) (a' := ?_) #[true, true, true, true, true, true, true, true, true, true, true, true, true, true, false, false] rfl rfl (by kernel_rfl) (fun _ _ _ h => h) (Or.inl ⟨by rfl, ?_⟩) ?_ ?_
  rotate_left
  · intro w'
    go_simp
    with_reducible rfl
  rotate_left
  · simp only [Act.put, List.setIfInBounds_toArray, List.set_cons_zero, List.set_cons_succ, i64_w, i32_w]
    rfl
  refine pure_ (i := 14) (N := some 59) (v := ?_) (a' := ?_) #[true, true, true, true, true, true, true, true, true, true, true, true, true, true, true, false] rfl rfl (by kernel_rfl) (fun _ _ _ h => h) (Or.inl ⟨by rfl, ?_⟩) ?_ ?_
  rotate_left
  · intro w'
    go_simp
    with_reducible rfl
  rotate_left
  · simp only [Act.put, List.setIfInBounds_toArray, List.set_cons_zero, List.set_cons_succ, i64_w, i32_w]
    rfl
  refine last_ (i := 15) (N := none) #[true, true, true, true, true, true, true, true, true, true, true, true, true, true, true, true] rfl rfl (by kernel_rfl) (by decide) (fun K hK => ?_)
  refine skip_ (w1 := ?_) (by rfl) rfl ?_ ?_
  rotate_left
  · go_simp
    rfl
  refine hK.out _ _ ?_
  clear hK K
  refine done_ (by kernel_rfl) ?_
  obtain ⟨r1, r2⟩ := sc_add HBk.out HT.out HD.out hBg (grown_plain hgrow) (d := ⟨4, at_, inn⟩) hown1 hB2
  have e1 := r1.cell1
  have e2 := r1.free 1
  have R1 := Lib.hid r1
  have R2 := Lib.hid r2
  clear r1 r2
  have hw1 := Lib.hid ((i64_w _).symm.trans (IntWalk.i64_in ((inn.size : Int) + 2) ⟨by omega, by omega⟩) : wrap64 ((inn.size : Int) + 2) = (inn.size : Int) + 2)
  have hw := Lib.hid ((i64_w _).symm.trans (IntWalk.i64_in (at_ + ((inn.size : Int) + 2)) ⟨by omega, by omega⟩) : wrap64 (at_ + ((inn.size : Int) + 2)) = at_ + ((inn.size : Int) + 2))
  go_wp2
  go_end0
  rw [show at_ + (inn.size : Int) + 2 = at_ + ((inn.size : Int) + 2) from by omega]
  exact ⟨by first | rfl | trivial, R1.out.move _, ((hD.out.below.mono hB).trans R2.out).setCell (p := ⟨g, 1, none⟩) hBg _⟩

set_option maxHeartbeats 3200000 in
set_option maxRecDepth 100000 in
theorem text_open (B g : Nat) (src line inn r2 r3 : ByteArray) (b : Bool) (at_ : Int) (tk : List Tk) (dg : List Dg) (w : World) (h : Sc B g src at_ tk dg w) (h0 : 0 ≤ at_) (h1 : at_ + 1 ≤ (src.size : Int)) (h3 : src.size ≤ 140737488351232) (hB : B ≤ w.heap.size) (hl : dg.length + 1 ≤ 4398046511104)
    (hx1 : cutOf (src.extract (at_ + 1).toNat src.size) 10 = (line, r2, b)) (hx2 : cutOf line 34 = (inn, r3, false)) (hx3 : line.size ≤ src.size) (hx4 : at_ + line.size + 1 ≤ src.size) :
    Calls Try.prog 77 #[.pointer (some ⟨g, 0, none⟩)] w fun e w' => e = .returned (.tuple #[]) ∧ Sc B g src (at_ + line.size + 1) tk (dg ++ [⟨at_, 1, ⟨#[]⟩⟩]) w' ∧ Below B w w' := by
  have c0 := h.cell0
  have hwr : wrap64 (at_ + 1) = at_ + 1 := (i64_w _).symm.trans (IntWalk.i64_in (at_ + 1) ⟨by omega, by omega⟩)
  have hcut1 := fun w => cut_any (src.extract (at_ + 1).toNat src.size) 10 w (by rw [ByteArray.size_extract]; omega)
  rw [← hwr] at hcut1 hx1
  simp only [hx1] at hcut1
  have hcut2 := fun w => cut_any line 34 w (by omega)
  simp only [hx2] at hcut2
  have b1 : 0 ≤ wrap64 (at_ + 1) := by rw [hwr]; omega
  have b3 : wrap64 (at_ + 1) ≤ (src.size : Int) := by rw [hwr]; omega
  clear hwr hx1 hx2
  have c1 := h.cell1
  have HH := Lib.hid h
  clear h
  go_enter Try.func77, Try.ntmps77
  go_wp2_with fail
  refine start_ (n := 11) (S := fun w' => w'.cell? ⟨g, 0, none⟩ = some (.string src) ∧ w'.cell? ⟨g, 1, none⟩ = some (.int .i64 at_)) (ds := []) #[false, false, false, false, false, false, false, false, false, false, false] (by kernel_rfl) rfl rfl ⟨c0, c1⟩ (fun hHeld => ?_)
  refine pure_ (i := 0) (N := some 9) (v := ?_) (a' := ?_) #[true, false, false, false, false, false, false, false, false, false, false] rfl rfl (by kernel_rfl) (fun _ _ _ h => h) (Or.inl ⟨by rfl, ?_⟩) ?_ ?_
  rotate_left
  · intro w'
    go_simp
    with_reducible rfl
  rotate_left
  · simp only [Act.put, List.setIfInBounds_toArray, List.set_cons_zero, List.set_cons_succ, i64_w, i32_w]
    rfl
  refine pure_ (i := 1) (N := some 10) (v := ?_) (a' := ?_) #[true, true, false, false, false, false, false, false, false, false, false] rfl rfl (by kernel_rfl) (fun _ _ _ h => h) (Or.inl ⟨by rfl, ?_⟩) ?_ ?_
  rotate_left
  · intro w'
    go_simp
    with_reducible rfl
  rotate_left
  · simp only [Act.put, List.setIfInBounds_toArray, List.set_cons_zero, List.set_cons_succ, i64_w, i32_w]
    rfl
  refine pure_ (i := 2) (N := some 11) (v := ?_) (a' := ?_) #[true, true, true, false, false, false, false, false, false, false, false] rfl rfl (by kernel_rfl) (fun _ _ _ h => h) (Or.inl ⟨by rfl, ?_⟩) ?_ ?_
  rotate_left
  · intro w'
    go_simp
    with_reducible rfl
  rotate_left
  · simp only [Act.put, List.setIfInBounds_toArray, List.set_cons_zero, List.set_cons_succ, i64_w, i32_w]
    rfl
  refine pure_ (i := 4) (N := some 13) (v := ?_) (a' := ?_) #[true, true, true, false, true, false, false, false, false, false, false] rfl rfl (by kernel_rfl) (fun _ _ _ h => h) (Or.inl ⟨by rfl, ?_⟩) ?_ ?_
  rotate_left
  · intro w'
    go_simp
    with_reducible rfl
  rotate_left
  · simp only [Act.put, List.setIfInBounds_toArray, List.set_cons_zero, List.set_cons_succ, i64_w, i32_w]
    rfl
  refine pure_ (i := 5) (N := some 14) (v := ?_) (a' := ?_) #[true, true, true, false, true, true, false, false, false, false, false] rfl rfl (by kernel_rfl) (fun _ _ _ h => h) (Or.inl ⟨by rfl, ?_⟩) ?_ ?_
  rotate_left
  · intro w'
    go_simp
    with_reducible rfl
  rotate_left
  · simp only [Act.put, List.setIfInBounds_toArray, List.set_cons_zero, List.set_cons_succ, i64_w, i32_w]
    rfl
  refine pure_ (i := 6) (N := some 15) (v := ?_) (a' := ?_) #[true, true, true, false, true, true, true, false, false, false, false] rfl rfl (by kernel_rfl) (fun _ _ _ h => h) (Or.inl ⟨by rfl, ?_⟩) ?_ ?_
  rotate_left
  · intro w'
    go_simp
    with_reducible rfl
  rotate_left
  · simp only [Act.put, List.setIfInBounds_toArray, List.set_cons_zero, List.set_cons_succ, i64_w, i32_w]
    rfl
  refine take_ (i := 3) (N := some 12) (v := ?_) (a' := ?_) #[true, true, true, true, true, true, true, false, false, false, false] rfl rfl (by kernel_rfl) (fun _ _ _ h => h) (Or.inl ⟨by rfl, ?_⟩) hHeld ?_ ?_
  rotate_left
  · rintro w' ⟨s0, s1⟩
    go_simp
    with_reducible rfl
  rotate_left
  · simp only [Act.put, List.setIfInBounds_toArray, List.set_cons_zero, List.set_cons_succ, i64_w, i32_w]
    rfl
  refine take_ (i := 7) (N := some 16) (v := ?_) (a' := ?_) #[true, true, true, true, true, true, true, true, false, false, false] rfl rfl (by kernel_rfl) (fun _ _ _ h => h) (Or.inl ⟨by rfl, ?_⟩) hHeld ?_ ?_
  rotate_left
  · rintro w' ⟨s0, s1⟩
    go_simp
    with_reducible rfl
  rotate_left
  · simp only [Act.put, List.setIfInBounds_toArray, List.set_cons_zero, List.set_cons_succ, i64_w, i32_w]
    rfl
  refine pure_ (i := 8) (N := some 17) (v := ?_) (a' := ?_) #[true, true, true, true, true, true, true, true, true, false, false] rfl rfl (by kernel_rfl) (fun _ _ _ h => h) (Or.inl ⟨by rfl, ?_⟩) ?_ ?_
  rotate_left
  · intro w'
    go_simp
    with_reducible rfl
  rotate_left
  · simp only [Act.put, List.setIfInBounds_toArray, List.set_cons_zero, List.set_cons_succ, i64_w, i32_w]
    rfl
  refine pure_ (i := 9) (N := some 18) (v := ?_) (a' := ?_) #[true, true, true, true, true, true, true, true, true, true, false] rfl rfl (by kernel_rfl) (fun _ _ _ h => h) (Or.inl ⟨by rfl, ?_⟩) ?_ ?_
  rotate_left
  · intro w'
    go_simp
    with_reducible rfl
  rotate_left
  · simp only [Act.put, List.setIfInBounds_toArray, List.set_cons_zero, List.set_cons_succ, i64_w, i32_w]
    rfl
  refine pure_ (i := 10) (N := some 2) (v := ?_) (a' := ?_) #[true, true, true, true, true, true, true, true, true, true, true] rfl rfl (by kernel_rfl) (fun _ _ _ h => h) (Or.inl ⟨by rfl, ?_⟩) ?_ ?_
  rotate_left
  · intro w'
    go_simp
    with_reducible rfl
  rotate_left
  · simp only [Act.put, List.setIfInBounds_toArray, List.set_cons_zero, List.set_cons_succ, i64_w, i32_w]
    rfl
  refine done_ (by kernel_rfl) ?_
  go_wp2_with fail
  refine (hcut1 _).mono ?_
  rintro e w1 ⟨rfl, hD1⟩
  have hD1' := Lib.hid ((dra0 w 1).drawn hD1)
  clear hD1
  go_wp2_with fail
  refine (hcut2 _).mono ?_
  rintro e w2 ⟨rfl, hD2⟩
  have hD := Lib.hid (hD1'.out.drawn hD2)
  have h := HH.out.drawn hD.out
  have hB2 : B ≤ w2.heap.size := by have := hD.out.below.size; omega
  clear hcut1 hcut2 hD2 hD1' HH c0 c1
  go_wp2_with fail
  refine (tell_any B g src at_ 1 tk dg _ h hB2 hl).mono ?_
  rintro e w3 ⟨rfl, r1, r2⟩
  have e1 := r1.cell1
  have e2 := r1.free 1
  have hBg := r1.ge
  have R1 := Lib.hid r1
  have R2 := Lib.hid r2
  clear r1 r2 h
  have hw1 := Lib.hid ((i64_w _).symm.trans (IntWalk.i64_in (1 + (line.size : Int)) ⟨by omega, by omega⟩) : wrap64 (1 + (line.size : Int)) = 1 + (line.size : Int))
  have hw := Lib.hid ((i64_w _).symm.trans (IntWalk.i64_in (at_ + (1 + (line.size : Int))) ⟨by omega, by omega⟩) : wrap64 (at_ + (1 + (line.size : Int))) = at_ + (1 + (line.size : Int)))
  go_wp2
  go_returns
  rw [show at_ + (line.size : Int) + 1 = at_ + (1 + (line.size : Int)) from by omega]
  exact ⟨by first | rfl | trivial, R1.out.move _, ((hD.out.below.mono hB).trans R2.out).setCell (p := ⟨g, 1, none⟩) hBg _⟩

end Go.Proofs.Ytonhfcjldbohbaa.Lx
