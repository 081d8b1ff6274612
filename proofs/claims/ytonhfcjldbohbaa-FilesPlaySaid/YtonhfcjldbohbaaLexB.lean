/- lex: Cut at one byte; number, text. -/
import Derived.Test.YtonhfcjldbohbaaLexA
import Derived.Test.YtonhfcjldbohbaaShelf
import Derived.Handy
namespace Go.Proofs.Ytonhfcjldbohbaa.Lx
open Go.RowKit Go.Proofs.Ytonhfcjldbohbaa.PA Go.Proofs.YtonhfcjldbohbaaW.PrintWords Go.Proofs.YtonhfcjldbohbaaW.PrintLast Go.Proofs.YtonhfcjldbohbaaW.PrintMore
set_option linter.unusedVariables false
set_option linter.unusedSimpArgs false

theorem dra (B : Nat) (w : World) (n : Nat) : Below B w (w.drewN n) := ⟨rfl, rfl, rfl, Nat.le_refl _, fun _ _ => rfl⟩
def digB (c : Int) : Bool := decide (48 ≤ c) && decide (c ≤ 57)
def begB (c : Int) : Bool := (decide (97 ≤ c) && decide (c ≤ 122)) || (c == 95)
def goB (c : Int) : Bool := begB c || digB c
theorem digit_f (c : Int) : lex_digit.f c = some (digB c) := by
  unfold lex_digit.f digB
  by_cases h : (48 : Int) ≤ c
  · simp [h]
  · simp [h]
theorem begins_f (c : Int) : lex_begins.f c = some (begB c) := by
  unfold lex_begins.f begB
  by_cases h : (97 : Int) ≤ c
  · by_cases h' : c ≤ 122
    · simp [h, h']
    · simp [h, h']
  · simp [h]
theorem goes_f (c : Int) : lex_goes.f c = some (goB c) := by
  unfold lex_goes.f goB
  rw [begins_f, digit_f]
  cases begB c <;> simp
theorem digit_any (c : Int) (w : World) (h0 : 0 ≤ c) (h1 : c ≤ 255) : Calls Try.prog 75 #[.int .u8 c] w fun e w' => e = .returned (.bool (digB c)) ∧ Drawn0 w w' := lex_digit.calls c _ w (digit_f c)
theorem begins_any (c : Int) (w : World) (h0 : 0 ≤ c) (h1 : c ≤ 255) : Calls Try.prog 71 #[.int .u8 c] w fun e w' => e = .returned (.bool (begB c)) ∧ Drawn0 w w' := lex_begins.calls c _ w (begins_f c)
theorem goes_any (c : Int) (w : World) (h0 : 0 ≤ c) (h1 : c ≤ 255) : Calls Try.prog 72 #[.int .u8 c] w fun e w' => e = .returned (.bool (goB c)) ∧ Drawn0 w w' := lex_goes.calls c _ w (goes_f c)
theorem enters_fn {f : FuncId} {fn : Func} (hf : Try.prog.funcs[f]? = some fn) (hname : (fn.name == "runtime.NumGoroutine") = false) (hb : fn.body.isSome = true) (args : Array Value) (w : World) : (callFunc f args).run Try.prog w = .ok (.enter f args) w := enters_ hf hname hb args w

theorem ix_lt (l : List UInt8) (c : UInt8) (h : 0 ≤ Lib.indexByte l c) : (Lib.indexByte l c).toNat < l.length := by
  have := (Lib.indexByte_some (l := l) (c := c) (o := (Lib.indexByte l c).toNat) (by omega)).1
  exact (List.getElem?_eq_some_iff.1 this).1

/-- What Cut at one byte hands back. -/
def cutOf (s : ByteArray) (c : UInt8) : ByteArray × ByteArray × Bool :=
  if 0 ≤ Lib.indexByte s.data.toList c then (s.extract 0 (Lib.indexByte s.data.toList c).toNat, s.extract ((Lib.indexByte s.data.toList c).toNat + 1) s.size, true) else (s, ⟨#[]⟩, false)

set_option maxHeartbeats 3200000 in
set_option maxRecDepth 100000 in
theorem cutS_any (s : ByteArray) (c : UInt8) (w : World) (hs : s.size ≤ 140737488351232) :
    Calls Try.prog 85 #[.string s, .string ⟨#[c]⟩] w fun e w' => e = .returned (.tuple #[.string (cutOf s c).1, .string (cutOf s c).2.1, .bool (cutOf s c).2.2]) ∧ Drawn0 w w' := by
  have hlt := ix_lt s.data.toList c
  have hge := Lib.indexByte_ge s.data.toList c
  simp only [ByteArray.size, Array.length_toList] at hs hlt
  have hcall := Try.stringslite_Index_one s c w
  rw [cutOf]
  generalize Lib.indexByte s.data.toList c = ix at hlt hge hcall ⊢
  by_cases hi : 0 ≤ ix
  · have hlt' := hlt hi
    have hw : wrap64 (ix + 1) = ix + 1 := (i64_w _).symm.trans (IntWalk.i64_in _ ⟨by omega, by omega⟩)
    obtain ⟨z, hz⟩ : ∃ z : Int, wrap64 (ix + 1) = z := ⟨_, rfl⟩
    have hzw : IntKind.i64.wrap (ix + 1) = z := (i64_w _).trans hz
    have hi' : decide (0 ≤ ix) = true := decide_eq_true hi
    have hii : decide (ix ≥ 0) = true := decide_eq_true hi
    have b1 : ix ≤ (s.size : Int) := by simp only [ByteArray.size]; omega
    have b2 : 0 ≤ z := by omega
    have b3 : z ≤ (s.size : Int) := by simp only [ByteArray.size]; omega
    have hzz : z.toNat = ix.toNat + 1 := by omega
    have HZ := Lib.hid hzz
    rw [if_pos hi]
    clear hlt hge hlt' hw hzz
    go_enter Try.func85, Try.ntmps85
    go_wp2_with fail
    refine hcall.mono ?_
    rintro e w1 ⟨rfl, rfl⟩
    go_wp2_with fail
    refine start_ (n := 12) (S := fun w' => True) (ds := []) #[false, false, false, false, false, false, false, false, false, false, false, false] (by kernel_rfl) rfl rfl trivial (fun hHeld => ?_)
    refine pure_ (i := 0) (N := some 13) (v := ?_) (a' := ?_) #[true, false, false, false, false, false, false, false, false, false, false, false] rfl rfl (by kernel_rfl) (fun _ _ _ h => h) (Or.inl ⟨by rfl, ?_⟩) ?_ ?_
    rotate_left
    · intro w'
      go_simp
      with_reducible rfl
    rotate_left
    · simp only [Act.put, List.setIfInBounds_toArray, List.set_cons_zero, List.set_cons_succ, i64_w, i32_w]
      rfl
    refine pure_ (i := 1) (N := some 14) (v := ?_) (a' := ?_) #[true, true, false, false, false, false, false, false, false, false, false, false] rfl rfl (by kernel_rfl) (fun _ _ _ h => h) (Or.inl ⟨by rfl, ?_⟩) ?_ ?_
    rotate_left
    · intro w'
      go_simp
      with_reducible rfl
    rotate_left
    · simp only [Act.put, List.setIfInBounds_toArray, List.set_cons_zero, List.set_cons_succ, i64_w, i32_w]
      rfl
    refine pure_ (i := 2) (N := some 15) (v := ?_) (a' := ?_) #[true, true, true, false, false, false, false, false, false, false, false, false] rfl rfl (by kernel_rfl) (fun _ _ _ h => h) (Or.inl ⟨by rfl, ?_⟩) ?_ ?_
    rotate_left
    · intro w'
      go_simp
      with_reducible rfl
    rotate_left
    · simp only [Act.put, List.setIfInBounds_toArray, List.set_cons_zero, List.set_cons_succ, i64_w, i32_w]
      rfl
    refine pure_ (i := 3) (N := some 16) (v := ?_) (a' := ?_) #[true, true, true, true, false, false, false, false, false, false, false, false] rfl rfl (by kernel_rfl) (fun _ _ _ h => h) (Or.inl ⟨by rfl, ?_⟩) ?_ ?_
    rotate_left
    · intro w'
      go_simp
      with_reducible rfl
    rotate_left
    · simp only [Act.put, List.setIfInBounds_toArray, List.set_cons_zero, List.set_cons_succ, i64_w, i32_w]
      rfl
    refine pure_ (i := 4) (N := some 17) (v := ?_) (a' := ?_) #[true, true, true, true, true, false, false, false, false, false, false, false] rfl rfl (by kernel_rfl) (fun _ _ _ h => h) (Or.inl ⟨by rfl, ?_⟩) ?_ ?_
    rotate_left
    · intro w'
      go_simp
      with_reducible rfl
    rotate_left
    · simp only [Act.put, List.setIfInBounds_toArray, List.set_cons_zero, List.set_cons_succ, i64_w, i32_w]
      rfl
    refine pure_ (i := 5) (N := some 18) (v := ?_) (a' := ?_) #[true, true, true, true, true, true, false, false, false, false, false, false] rfl rfl (by kernel_rfl) (fun _ _ _ h => h) (Or.inl ⟨by rfl, ?_⟩) ?_ ?_
    rotate_left
    · intro w'
      go_simp
      with_reducible rfl
    rotate_left
    · simp only [Act.put, List.setIfInBounds_toArray, List.set_cons_zero, List.set_cons_succ, i64_w, i32_w]
      rfl
    refine pure_ (i := 6) (N := some 19) (v := ?_) (a' := ?_) #[true, true, true, true, true, true, true, false, false, false, false, false] rfl rfl (by kernel_rfl) (fun _ _ _ h => h) (Or.inl ⟨by rfl, ?_⟩) ?_ ?_
    rotate_left
    · intro w'
      go_simp
      with_reducible rfl
    rotate_left
    · simp only [Act.put, List.setIfInBounds_toArray, List.set_cons_zero, List.set_cons_succ, i64_w, i32_w]
      rfl
    refine pure_ (i := 7) (N := some 20) (v := ?_) (a' := ?_) #[true, true, true, true, true, true, true, true, false, false, false, false] rfl rfl (by kernel_rfl) (fun _ _ _ h => h) (Or.inl ⟨by rfl, ?_⟩) ?_ ?_
    rotate_left
    · intro w'
      go_simp
      with_reducible rfl
    rotate_left
    · simp only [Act.put, List.setIfInBounds_toArray, List.set_cons_zero, List.set_cons_succ, i64_w, i32_w]
      rfl
    refine pure_ (i := 8) (N := some 21) (v := ?_) (a' := ?_) #[true, true, true, true, true, true, true, true, true, false, false, false] rfl rfl (by kernel_rfl) (fun _ _ _ h => h) (Or.inl ⟨by rfl, ?_⟩) ?_ ?_
    rotate_left
    · intro w'
      go_simp
      with_reducible rfl
    rotate_left
    · simp only [Act.put, List.setIfInBounds_toArray, List.set_cons_zero, List.set_cons_succ, i64_w, i32_w]
      rfl
    refine pure_ (i := 9) (N := some 4) (v := ?_) (a' := ?_) #[true, true, true, true, true, true, true, true, true, true, false, false] rfl rfl (by kernel_rfl) (fun _ _ _ h => h) (Or.inl ⟨by rfl, ?_⟩) ?_ ?_
    rotate_left
    · intro w'
      go_simp
      with_reducible rfl
    rotate_left
    · simp only [Act.put, List.setIfInBounds_toArray, List.set_cons_zero, List.set_cons_succ, i64_w, i32_w]
      rfl
    refine pure_ (i := 10) (N := some 5) (v := ?_) (a' := ?_) #[true, true, true, true, true, true, true, true, true, true, true, false] rfl rfl (by kernel_rfl) (fun _ _ _ h => h) (Or.inl ⟨by rfl, ?_⟩) ?_ ?_
    rotate_left
    · intro w'
      go_simp
      with_reducible rfl
    rotate_left
    · simp only [Act.put, List.setIfInBounds_toArray, List.set_cons_zero, List.set_cons_succ, i64_w, i32_w]
      rfl
    refine pure_ (i := 11) (N := some 6) (v := ?_) (a' := ?_) #[true, true, true, true, true, true, true, true, true, true, true, true] rfl rfl (by kernel_rfl) (fun _ _ _ h => h) (Or.inl ⟨by rfl, ?_⟩) ?_ ?_
    rotate_left
    · intro w'
      go_simp
      with_reducible rfl
    rotate_left
    · simp only [Act.put, List.setIfInBounds_toArray, List.set_cons_zero, List.set_cons_succ, i64_w, i32_w]
      rfl
    refine done_ (by kernel_rfl) ?_
    go_wp2
    go_ret3
    exact ⟨by rw [HZ.out]; rfl, by repeat (first | exact Drawn0.refl _ | apply Drawn0.step)⟩
  · have hi' : decide (0 ≤ ix) = false := decide_eq_false hi
    have hii : decide (ix ≥ 0) = false := decide_eq_false hi
    rw [if_neg hi]
    clear hlt hge
    go_enter Try.func85, Try.ntmps85
    go_wp2_with fail
    refine hcall.mono ?_
    rintro e w1 ⟨rfl, rfl⟩
    go_wp2
    go_ret3
    exact ⟨rfl, by repeat (first | exact Drawn0.refl _ | apply Drawn0.step)⟩

set_option maxHeartbeats 3200000 in
set_option maxRecDepth 100000 in
theorem cut_any (s : ByteArray) (c : UInt8) (w : World) (hs : s.size ≤ 140737488351232) :
    Calls Try.prog 82 #[.string s, .string ⟨#[c]⟩] w fun e w' => e = .returned (.tuple #[.string (cutOf s c).1, .string (cutOf s c).2.1, .bool (cutOf s c).2.2]) ∧ Drawn0 w w' := by
  have hc := cutS_any s c w hs
  generalize cutOf s c = r at hc ⊢
  obtain ⟨r1, r2, r3⟩ := r
  go_enter Try.func82, Try.ntmps82
  go_wp2_with fail
  refine hc.mono ?_
  rintro e w1 ⟨rfl, ⟨q, rfl⟩⟩
  go_wp2
  go_ret3
  exact ⟨rfl, by repeat (first | exact Drawn0.refl _ | apply Drawn0.step)⟩

set_option maxHeartbeats 3200000 in
set_option maxRecDepth 100000 in
theorem number_small (B g n : Nat) (src : ByteArray) (at_ : Int) (tk : List Tk) (dg : List Dg) (w : World) (h : Sc B g src at_ tk dg w) (h0 : 0 ≤ at_) (h1 : at_ ≤ (src.size : Int)) (h3 : src.size ≤ 140737488351232) (hB : B ≤ w.heap.size) (hl : tk.length + 1 ≤ 4398046511104)
    (hn : runLen digB (src.data.toList.drop at_.toNat) = n) (hn18 : (n : Int) ≤ 18) :
    Calls Try.prog 76 #[.pointer (some ⟨g, 0, none⟩)] w fun e w' => e = .returned (.tuple #[]) ∧ Sc B g src (at_ + n) (tk ++ [⟨3, at_, src.extract at_.toNat (at_ + n).toNat⟩]) dg w' ∧ Below B w w' := by
  have c1 := h.cell1
  have hle := runLen_le digB (src.data.toList.drop at_.toNat)
  have HH := Lib.hid h
  have hrun := run_any B g 75 digB (enters_fn Try.func75 (by kernel_rfl) rfl) digit_any src at_ at_ tk dg w h h0 h1 h3
  rw [hn] at hrun hle
  have hle : (n : Int) + at_ ≤ src.size := by
    have : (src.data.toList.drop at_.toNat).length = src.size - at_.toNat := by simp
    omega
  clear h
  have hb : decide ((n : Int) ≤ 18) = true := decide_eq_true hn18
  go_enter Try.func76, Try.ntmps76
  go_wp2_with fail
  refine hrun.mono ?_
  rintro e w1 ⟨rfl, ⟨q, rfl⟩⟩
  go_wp2_with fail
  refine (add_any B g src at_ 3 n tk dg _ ((HH.out.drewN q)) hB hl h0 (by omega) (by omega) h3).mono ?_
  rintro e w2 ⟨rfl, hs2, hb2⟩
  have HS := Lib.hid hs2
  have HB := Lib.hid hb2
  clear hs2 hb2
  go_wp2
  go_returns
  exact ⟨rfl, HS.out, (dra B w q).trans HB.out⟩

set_option maxHeartbeats 3200000 in
set_option maxRecDepth 100000 in
theorem number_big (B g n : Nat) (src : ByteArray) (at_ : Int) (tk : List Tk) (dg : List Dg) (w : World) (h : Sc B g src at_ tk dg w) (h0 : 0 ≤ at_) (h1 : at_ ≤ (src.size : Int)) (h3 : src.size ≤ 140737488351232) (hB : B ≤ w.heap.size) (hl : tk.length + 1 ≤ 4398046511104) (hl2 : dg.length + 1 ≤ 4398046511104)
    (hn : runLen digB (src.data.toList.drop at_.toNat) = n) (hn18 : ¬ (n : Int) ≤ 18) :
    Calls Try.prog 76 #[.pointer (some ⟨g, 0, none⟩)] w fun e w' => e = .returned (.tuple #[]) ∧ Sc B g src (at_ + n) (tk ++ [⟨3, at_, ⟨#[48]⟩⟩]) (dg ++ [⟨at_, 13, ⟨#[]⟩⟩]) w' ∧ Below B w w' := by
  obtain ⟨i0, hi0, hz0, hz1, hz2⟩ := info_parts infoTok
  have c1 := h.cell1
  have hle := runLen_le digB (src.data.toList.drop at_.toNat)
  have HH := Lib.hid h
  have hrun := run_any B g 75 digB (enters_fn Try.func75 (by kernel_rfl) rfl) digit_any src at_ at_ tk dg w h h0 h1 h3
  rw [hn] at hrun hle
  have hle : (n : Int) + at_ ≤ src.size := by
    have : (src.data.toList.drop at_.toNat).length = src.size - at_.toNat := by simp
    omega
  clear h
  have hb : decide ((n : Int) ≤ 18) = false := decide_eq_false hn18
  have hm : tk.length + 1 ≤ maxLen := by unfold maxLen; omega
  go_enter Try.func76, Try.ntmps76
  go_wp2_with fail
  refine hrun.mono ?_
  rintro e w1 ⟨rfl, ⟨q, rfl⟩⟩
  go_wp2_with fail
  refine (tell_any B g src at_ 13 tk dg _ ((HH.out.drewN q)) hB hl2).mono ?_
  rintro e w2 ⟨rfl, hs2, hb2⟩
  have hB2 : B ≤ w2.heap.size := Nat.le_trans hB hb2.size
  have HB := Lib.hid hb2
  have HS := Lib.hid hs2
  obtain ⟨vt, vd, hb, ht, hd, hBg⟩ := hs2
  have c1 : w2.cell? ⟨g, 1, none⟩ = some (.int .i64 at_) := by rw [Lib.cell_of_heap hb]; rfl
  have cc : w2.cell? ⟨g, 2, none⟩ = some vt := by rw [Lib.cell_of_heap hb]; rfl
  have cf : w2.frozen? ⟨g, 2, none⟩ = false := Lib.frozen_of_heap hb 2
  have hlt : g < w2.heap.size := (Array.getElem?_eq_some_iff.1 hb).1
  have hne := Lib.hid (own_ne ht hb (show 100 ≠ 116 by decide))
  have HBk := Lib.hid hb
  have HT := Lib.hid ht
  have HD := Lib.hid hd
  clear hb ht hd hb2
  go_wp2_with fail
  refine start_ (n := 15) (S := fun w' => w'.cell? ⟨g, 1, none⟩ = some (.int .i64 at_) ∧ w'.cell? ⟨g, 2, none⟩ = some vt) (ds := [14]) #[false, false, false, false, false, false, false, false, false, false, false, false, false, false, false] (by kernel_rfl) rfl rfl ⟨c1, cc⟩ (fun hHeld => ?_)
  refine pure_ (i := 0) (N := some 16) (v := ?_) (a' := ?_) #[true, false, false, false, false, false, false, false, false, false, false, false, false, false, false] rfl rfl (by kernel_rfl) (fun _ _ _ h => h) (Or.inl ⟨by rfl, ?_⟩) ?_ ?_
  rotate_left
  · intro w'
    go_simp
    with_reducible rfl
  rotate_left
  · simp only [Act.put, List.setIfInBounds_toArray, List.set_cons_zero, List.set_cons_succ, i64_w, i32_w]
    rfl
  refine pure_ (i := 1) (N := some 17) (v := ?_) (a' := ?_) #[true, true, false, false, false, false, false, false, false, false, false, false, false, false, false] rfl rfl (by kernel_rfl) (fun _ _ _ h => h) (Or.inl ⟨by rfl, ?_⟩) ?_ ?_
  rotate_left
  · intro w'
    go_simp
    with_reducible rfl
  rotate_left
  · simp only [Act.put, List.setIfInBounds_toArray, List.set_cons_zero, List.set_cons_succ, i64_w, i32_w]
    rfl
  refine pure_ (i := 2) (N := some 18) (v := ?_) (a' := ?_) #[true, true, true, false, false, false, false, false, false, false, false, false, false, false, false] rfl rfl (by kernel_rfl) (fun _ _ _ h => h) (Or.inl ⟨by rfl, ?_⟩) ?_ ?_
  rotate_left
  · intro w'
    go_simp
    with_reducible rfl
  rotate_left
  · simp only [Act.put, List.setIfInBounds_toArray, List.set_cons_zero, List.set_cons_succ, i64_w, i32_w]
    rfl
  refine pure_ (i := 3) (N := some 19) (v := ?_) (a' := ?_) #[true, true, true, true, false, false, false, false, false, false, false, false, false, false, false] rfl rfl (by kernel_rfl) (fun _ _ _ h => h) (Or.inl ⟨by rfl, ?_⟩) ?_ ?_
  rotate_left
  · intro w'
    go_simp
    with_reducible rfl
  rotate_left
  · simp only [Act.put, List.setIfInBounds_toArray, List.set_cons_zero, List.set_cons_succ, i64_w, i32_w]
    rfl
  refine pure_ (i := 5) (N := some 21) (v := ?_) (a' := ?_) #[true, true, true, true, false, true, false, false, false, false, false, false, false, false, false] rfl rfl (by kernel_rfl) (fun _ _ _ h => h) (Or.inl ⟨by rfl, ?_⟩) ?_ ?_
  rotate_left
  · intro w'
    go_simp
    with_reducible rfl
  rotate_left
  · simp only [Act.put, List.setIfInBounds_toArray, List.set_cons_zero, List.set_cons_succ, i64_w, i32_w]
    rfl
  refine pure_ (i := 6) (N := some 22) (v := ?_) (a' := ?_) #[true, true, true, true, false, true, true, false, false, false, false, false, false, false, false] rfl rfl (by kernel_rfl) (fun _ _ _ h => h) (Or.inl ⟨by rfl, ?_⟩) ?_ ?_
  rotate_left
  · intro w'
    go_simp
    with_reducible rfl
  rotate_left
  · simp only [Act.put, List.setIfInBounds_toArray, List.set_cons_zero, List.set_cons_succ, i64_w, i32_w]
    rfl
  refine pure_ (i := 7) (N := some 23) (v := ?_) (a' := ?_) #[true, true, true, true, false, true, true, true, false, false, false, false, false, false, false] rfl rfl (by kernel_rfl) (fun _ _ _ h => h) (Or.inl ⟨by rfl, ?_⟩) ?_ ?_
  rotate_left
  · intro w'
    go_simp
    with_reducible rfl
  rotate_left
  · simp only [Act.put, List.setIfInBounds_toArray, List.set_cons_zero, List.set_cons_succ, i64_w, i32_w]
    rfl
  refine take_ (i := 4) (N := some 20) (v := ?_) (a' := ?_) #[true, true, true, true, true, true, true, true, false, false, false, false, false, false, false] rfl rfl (by kernel_rfl) (fun _ _ _ h => h) (Or.inl ⟨by rfl, ?_⟩) hHeld ?_ ?_
  rotate_left
  · rintro w' ⟨s0, s1⟩
    go_simp
    with_reducible rfl
  rotate_left
  · simp only [Act.put, List.setIfInBounds_toArray, List.set_cons_zero, List.set_cons_succ, i64_w, i32_w]
    rfl
  refine take_ (i := 8) (N := some 24) (v := ?_) (a' := ?_) #[true, true, true, true, true, true, true, true, true, false, false, false, false, false, false] rfl rfl (by kernel_rfl) (fun _ _ _ h => h) (Or.inl ⟨by rfl, ?_⟩) hHeld ?_ ?_
  rotate_left
  · rintro w' ⟨s0, s1⟩
    go_simp
    with_reducible rfl
  rotate_left
  · simp only [Act.put, List.setIfInBounds_toArray, List.set_cons_zero, List.set_cons_succ, i64_w, i32_w]
    rfl
  refine pure_ (i := 9) (N := some 25) (v := ?_) (a' := ?_) #[true, true, true, true, true, true, true, true, true, true, false, false, false, false, false] rfl rfl (by kernel_rfl) (fun _ _ _ h => h) (Or.inl ⟨by rfl, ?_⟩) ?_ ?_
  rotate_left
  · intro w'
    go_simp
    with_reducible rfl
  rotate_left
  · simp only [Act.put, List.setIfInBounds_toArray, List.set_cons_zero, List.set_cons_succ, i64_w, i32_w]
    rfl
  refine one_ (i := 10) (N := some 26) #[true, true, true, true, true, true, true, true, true, true, true, false, false, false, false] rfl rfl (by kernel_rfl) (by decide) (fun K hK => ?_)
  refine value_ (w1 := ?_) (v := ?_) (by rfl) rfl ?_ ?_
  rotate_left 2
  · go_simp
    constructor
    · rfl
    · rfl
  refine hK.out _ _ ⟨cel_alloc hlt c1 _, cel_alloc hlt cc _⟩ (fun hHeld => ?_)
  clear hK K
  refine norm_ (a' := ?_) ?_ ?_
  rotate_left
  · show Act.put _ (some 26) _ = _
    simp only [Act.put, List.setIfInBounds_toArray, List.set_cons_zero, List.set_cons_succ, i64_w, i32_w]
    rfl
  refine one_ (i := 11) (N := some 27) #[true, true, true, true, true, true, true, true, true, true, true, true, false, false, false] rfl rfl (by kernel_rfl) (by decide) (fun K hK => ?_)
  refine step_append_lies _ (by rfl) _ _ _ (by rfl) B 100 i0 _ 3 32 Try.underlying96 hi0 hz0 hz1 hz2 rfl (by omega) vt tk.length (tks tk) (by rfl) (HT.out.alloc _) ⟨w2.heap.size, 0, none⟩ 1 1 [.int .i64 3, .int .i64 at_, .string ⟨#[48]⟩] (by rfl) (by rfl) (World.news_of_block (cs := #[.int .i64 3, .int .i64 at_, .string ⟨#[48]⟩]) (t := 100) (fr := (0, 0)) (heap_alloc_new w2 _)) (by simp [Value.oneCell']) (by omega) hm (by omega) (by simp; omega) (w2.heap.size + 1) (by simp) ?_
  intro gg cap w1 hown1 hgrow hat hlt1
  have hf1 : w1.frozen? ⟨g, 2, none⟩ = false := (hgrow.frozen_far _ (by simp; omega) hne.out).trans (frz_alloc hlt cf _)
  have hd3 : w1.cell? ⟨g, 2, none⟩ = some vt := (hgrow.cell_far _ (by simp; omega) hne.out).trans (cel_alloc hlt cc _)
  refine hK.out _ _ ⟨(hgrow.cell_far _ (by simp; omega) hne.out).trans (cel_alloc hlt c1 _), hd3⟩ (fun hHeld => ?_)
  clear hK K
  refine norm_ (a' := ?_) ?_ ?_
  rotate_left
  · show Act.put _ (some 27) _ = _
    simp only [Act.put, List.setIfInBounds_toArray, List.set_cons_zero, List.set_cons_succ, i64_w, i32_w]
    rfl
  refine pure_ (i := 12) (N := some 28) (v := ?_) (a' := ?_) #[true, true, true, true, true, true, true, true, true, true, true, true, true, false, false] rfl rfl (by kernel_rfl) (fun _ _ _ h => h) (Or.inl ⟨by rfl, ?_⟩) ?_ ?_
  rotate_left
  · intro w'
    go_simp
    with_reducible rfl
  rotate_left
  · simp only [Act.put, List.setIfInBounds_toArray, List.set_cons_zero, List.set_cons_succ, i64_w, i32_w]
    rfl
  refine pure_ (i := 13) (N := some 29) (v := ?_) (a' := ?_) #[true, true, true, true, true, true, true, true, true, true, true, true, true, true, false] rfl rfl (by kernel_rfl) (fun _ _ _ h => h) (Or.inl ⟨by rfl, ?_⟩) ?_ ?_
  rotate_left
  · intro w'
    go_simp
    with_reducible rfl
  rotate_left
  · simp only [Act.put, List.setIfInBounds_toArray, List.set_cons_zero, List.set_cons_succ, i64_w, i32_w]
    rfl
  refine last_ (i := 14) (N := none) #[true, true, true, true, true, true, true, true, true, true, true, true, true, true, true] rfl rfl (by kernel_rfl) (by decide) (fun K hK => ?_)
  refine skip_ (w1 := ?_) (by rfl) rfl ?_ ?_
  rotate_left
  · go_simp
    rfl
  refine hK.out _ _ ?_
  clear hK K
  refine done_ (by kernel_rfl) ?_
  obtain ⟨r1, r2⟩ := sc_add HBk.out HT.out HD.out hBg (grown_plain hgrow) (d := ⟨3, at_, ⟨#[48]⟩⟩) hown1 hB2
  have e1 := r1.cell1
  have e2 := r1.free 1
  have R1 := Lib.hid r1
  have R2 := Lib.hid r2
  clear r1 r2
  have hw := Lib.hid ((i64_w _).symm.trans (IntWalk.i64_in (at_ + n) ⟨by omega, by omega⟩) : wrap64 (at_ + n) = at_ + n)
  go_wp2
  go_end0
  exact ⟨by first | rfl | trivial, R1.out.move _, ((dra B w q).trans (HB.out.trans R2.out)).setCell (p := ⟨g, 1, none⟩) hBg _⟩


end Go.Proofs.Ytonhfcjldbohbaa.Lx
