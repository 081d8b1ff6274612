/- lex: what the scanner's step is, in bytes; plain lemmas. -/
import Derived.Test.YtonhfcjldbohbaaLexD
namespace Go.Proofs.Ytonhfcjldbohbaa.Lx
open Go.RowKit Go.Proofs.Ytonhfcjldbohbaa.PA Go.Proofs.YtonhfcjldbohbaaW.PrintWords Go.Proofs.YtonhfcjldbohbaaW.PrintLast Go.Proofs.YtonhfcjldbohbaaW.PrintMore
set_option linter.unusedVariables false
set_option linter.unusedSimpArgs false

/-- A string of bytes. -/
def ofL (l : List UInt8) : ByteArray := ⟨l.toArray⟩
theorem ofL_list (s : ByteArray) : ofL s.data.toList = s := by cases s; rfl
theorem ofL_data (l : List UInt8) : (ofL l).data.toList = l := rfl
theorem ofL_size (l : List UInt8) : (ofL l).size = l.length := by simp [ofL, ByteArray.size]
theorem ext_of (src : ByteArray) (n m : Nat) : src.extract n m = ofL ((src.data.toList.drop n).take (m - n)) := by
  rw [← sub_list]; exact (ofL_list _).symm
theorem ext_cut (src : ByteArray) (a n : Nat) : src.extract ((a : Int)).toNat ((a : Int) + (n : Int)).toNat = ofL ((src.data.toList.drop a).take n) := by
  rw [ext_of]
  congr 2
  omega

def wordL (l : List UInt8) : Bool :=
  if l = [117, 115, 101] then true else if l = [116, 121, 112, 101] then true else if l = [108, 101, 116] then true else if l = [105, 110] then true else if l = [105, 102] then true else if l = [116, 104, 101, 110] then true else if l = [101, 108, 115, 101] then true else if l = [102, 117, 110] then true else if l = [116, 114, 117, 101] then true else if l = [102, 97, 108, 115, 101] then true else if l = [105, 110, 116] then true else if l = [98, 111, 111, 108] then true else if l = [116, 101, 120, 116] then true else false
theorem word_L (l : List UInt8) : wordB (ofL l) = wordL l := by
  unfold wordB lex_word.f wordL
  rw [Lib.toList_data, ofL_data]
  simp only [apply_ite (fun o : Option Bool => Option.getD o false), Option.getD_some]
structure Step where
  n : Nat
  tk : Option (Int × ByteArray)
  dg : Option Int

def signs : List UInt8 := [61, 58, 59, 44, 46, 40, 41, 123, 125, 124, 63]
/-- What stands at the head of the bytes: how many of them, which token, what is wrong. -/
def one : List UInt8 → Step
  | [] => ⟨0, none, none⟩
  | b :: r =>
    if blB b.toNat = true then ⟨1, none, none⟩
    else if ((b.toNat : Int) == 35) = true then ⟨runLen nlB (b :: r), none, none⟩
    else if begB b.toNat = true then ⟨runLen goB (b :: r), some (if wordL ((b :: r).take (runLen goB (b :: r))) = true then 2 else 1, ofL ((b :: r).take (runLen goB (b :: r)))), none⟩
    else if digB b.toNat = true then
      if runLen digB (b :: r) ≤ 18 then ⟨runLen digB (b :: r), some (3, ofL ((b :: r).take (runLen digB (b :: r)))), none⟩ else ⟨runLen digB (b :: r), some (3, ofL [48]), some 13⟩
    else if ((b.toNat : Int) == 34) = true then
      if (r.drop (runLen inB r)).head? = some 34 then ⟨runLen inB r + 2, some (4, ofL (r.take (runLen inB r))), none⟩ else ⟨runLen inB r + 1, none, some 1⟩
    else if Lib.hasPrefix (b :: r) [45, 62] = true then ⟨2, some (5, ofL [45, 62]), none⟩
    else if 0 ≤ Lib.indexByte signs b then ⟨1, some (5, ofL [b]), none⟩
    else ⟨1, none, some 1⟩
def toks (s : Step) (a : Int) : List Tk := match s.tk with | some (k, t) => [⟨k, a, t⟩] | none => []
def diags (s : Step) (a : Int) : List Dg := match s.dg with | some c => [⟨a, c, ⟨#[]⟩⟩] | none => []
theorem toks_le (s : Step) (a : Int) : (toks s a).length ≤ 1 := by unfold toks; split <;> simp
theorem diags_le (s : Step) (a : Int) : (diags s a).length ≤ 1 := by unfold diags; split <;> simp

theorem beg_go {c : Int} (h : begB c = true) : goB c = true := by simp [goB, h]
theorem run_pos {p : Int → Bool} {b : UInt8} {r : List UInt8} (h : p (b.toNat : Int) = true) : 1 ≤ runLen p (b :: r) := by rw [runLen_cons, if_pos h]; omega
theorem nl_hash {b : UInt8} (h : ((b.toNat : Int) == 35) = true) : nlB (b.toNat : Int) = true := by
  have : (b.toNat : Int) = 35 := by simpa using h
  rw [this]; rfl
theorem pre_two {l : List UInt8} (h : Lib.hasPrefix l [45, 62] = true) : ∃ r, l = 45 :: 62 :: r := by
  unfold Lib.hasPrefix at h
  obtain ⟨t, ht⟩ := List.isPrefixOf_iff_prefix.1 h
  exact ⟨t, ht.symm⟩
theorem one_bounds (b : UInt8) (r : List UInt8) : 1 ≤ (one (b :: r)).n ∧ (one (b :: r)).n ≤ (b :: r).length := by
  rw [one]
  split
  · simp
  split
  · rename_i h; exact ⟨run_pos (nl_hash h), runLen_le _ _⟩
  split
  · rename_i h; exact ⟨run_pos (beg_go h), runLen_le _ _⟩
  split
  · rename_i h
    split
    · exact ⟨run_pos h, runLen_le _ _⟩
    · exact ⟨run_pos h, runLen_le _ _⟩
  split
  · split
    · rename_i h
      have := runLen_le inB r
      have h2 : runLen inB r < r.length := by
        rcases Nat.lt_or_ge (runLen inB r) r.length with h' | h'
        · exact h'
        · rw [List.drop_eq_nil_of_le h'] at h; simp at h
      simp; omega
    · have := runLen_le inB r
      simp; omega
  split
  · rename_i h
    obtain ⟨t, ht⟩ := pre_two h
    rw [ht]; simp
  split
  · simp
  · simp

/-- The tokens and what is wrong, from a place on. -/
def lexL : Nat → Int → List UInt8 → List Tk × List Dg
  | 0, _, _ => ([], [])
  | _ + 1, _, [] => ([], [])
  | k + 1, a, b :: r => (toks (one (b :: r)) a ++ (lexL k (a + (one (b :: r)).n) ((b :: r).drop (one (b :: r)).n)).1, diags (one (b :: r)) a ++ (lexL k (a + (one (b :: r)).n) ((b :: r).drop (one (b :: r)).n)).2)
/-- Once there is fuel enough, more of it changes nothing. -/
theorem lexL_fuel : ∀ (k k' : Nat) (a : Int) (l : List UInt8), l.length ≤ k → l.length ≤ k' → lexL k a l = lexL k' a l
  | 0, k', a, l, h, _ => by
    have : l = [] := List.length_eq_zero_iff.1 (by omega)
    subst this
    cases k' <;> rfl
  | k + 1, 0, a, l, _, h => by
    have : l = [] := List.length_eq_zero_iff.1 (by omega)
    subst this
    rfl
  | k + 1, k' + 1, a, [], _, _ => rfl
  | k + 1, k' + 1, a, b :: r, h, h' => by
    have hb := one_bounds b r
    have hd : ((b :: r).drop (one (b :: r)).n).length = (b :: r).length - (one (b :: r)).n := List.length_drop
    have ih := lexL_fuel k k' (a + (one (b :: r)).n) ((b :: r).drop (one (b :: r)).n) (by omega) (by omega)
    simp only [lexL, ih]
def lexR (a : Int) (l : List UInt8) : List Tk × List Dg := lexL l.length a l
theorem lexR_nil (a : Int) : lexR a [] = ([], []) := rfl
theorem lexR_cons (a : Int) (b : UInt8) (r : List UInt8) : lexR a (b :: r) = (toks (one (b :: r)) a ++ (lexR (a + (one (b :: r)).n) ((b :: r).drop (one (b :: r)).n)).1, diags (one (b :: r)) a ++ (lexR (a + (one (b :: r)).n) ((b :: r).drop (one (b :: r)).n)).2) := by
  have hb := one_bounds b r
  have hd : ((b :: r).drop (one (b :: r)).n).length = (b :: r).length - (one (b :: r)).n := List.length_drop
  have e := lexL_fuel r.length ((b :: r).drop (one (b :: r)).n).length (a + (one (b :: r)).n) ((b :: r).drop (one (b :: r)).n) (by simp only [List.length_cons] at hd; omega) (Nat.le_refl _)
  show lexL (r.length + 1) a (b :: r) = _
  simp only [lexL, e, lexR]
/-- All of it. -/
def lexA (l : List UInt8) : List Tk × List Dg := ((lexR 0 l).1 ++ [⟨6, (l.length : Int), ⟨#[]⟩⟩], (lexR 0 l).2)

/-! texts -/
theorem ix_run (c : UInt8) (p : Int → Bool) (hp : ∀ b : UInt8, p (b.toNat : Int) = !(b == c)) : ∀ l : List UInt8, Lib.indexByte l c = if runLen p l < l.length then (runLen p l : Int) else -1
  | [] => rfl
  | b :: l => by
    have ih := ix_run c p hp l
    rw [Lib.indexByte, runLen_cons, hp b]
    by_cases h : (b == c) = true
    · simp [h]
    · have h' : (b == c) = false := by simpa using h
      simp only [h', Bool.not_false, if_true, Bool.false_eq_true, if_false, ih, List.length_cons]
      by_cases h2 : runLen p l < l.length
      · have e1 : ((runLen p l : Int) == -1) = false := by simp only [beq_eq_false_iff_ne, ne_eq]; omega
        have e2 : runLen p l + 1 < l.length + 1 := by omega
        simp only [h2, if_true, e1, e2, Bool.false_eq_true, if_false]
        omega
      · have e2 : ¬ runLen p l + 1 < l.length + 1 := by omega
        simp only [h2, e2, if_false]
        rfl
theorem cut_run (s : ByteArray) (c : UInt8) (p : Int → Bool) (hp : ∀ b : UInt8, p (b.toNat : Int) = !(b == c)) : (cutOf s c).1 = ofL (s.data.toList.take (runLen p s.data.toList)) ∧ (cutOf s c).2.2 = decide (runLen p s.data.toList < s.data.toList.length) := by
  have hle := runLen_le p s.data.toList
  unfold cutOf
  rw [ix_run c p hp]
  by_cases h : runLen p s.data.toList < s.data.toList.length
  · rw [if_pos h, if_pos (by omega)]
    refine ⟨?_, by simp only [h]; rfl⟩
    show s.extract 0 _ = _
    rw [ext_of, List.drop_zero, Nat.sub_zero, Int.toNat_natCast]
  · rw [if_neg h, if_neg (by decide)]
    refine ⟨?_, by simp only [h]; rfl⟩
    rw [List.take_of_length_le (by omega), ofL_list]
def qtB (c : Int) : Bool := c != 34
theorem byte_ne (b c : UInt8) : ((b.toNat : Int) != (c.toNat : Int)) = !(b == c) := by
  by_cases h : b = c
  · subst h; simp
  · have : (b.toNat : Int) ≠ (c.toNat : Int) := fun e => h (UInt8.toNat_inj.1 (by omega))
    have h1 : ((b.toNat : Int) != (c.toNat : Int)) = true := bne_iff_ne.mpr this
    have h2 : (b == c) = false := beq_eq_false_iff_ne.mpr h
    rw [h1, h2]; rfl
theorem nl_p (b : UInt8) : nlB (b.toNat : Int) = !(b == 10) := byte_ne b 10
theorem qt_p (b : UInt8) : qtB (b.toNat : Int) = !(b == 34) := byte_ne b 34
theorem in_p (b : UInt8) : inB (b.toNat : Int) = (!(b == 34) && !(b == 10)) := by unfold inB; rw [← byte_ne b 34, ← byte_ne b 10]; rfl
/-- The line, and what of it is the text. -/
theorem text_run : ∀ r : List UInt8, runLen qtB (r.take (runLen nlB r)) = runLen inB r ∧ (runLen inB r < (r.take (runLen nlB r)).length ↔ (r.drop (runLen inB r)).head? = some 34) ∧ (¬ runLen inB r < (r.take (runLen nlB r)).length → (r.take (runLen nlB r)).length = runLen inB r)
  | [] => by simp [runLen_nil]
  | b :: r => by
    obtain ⟨i1, i2, i3⟩ := text_run r
    by_cases h10 : b = 10
    · subst h10
      have e1 : runLen nlB (10 :: r) = 0 := by rw [runLen_cons, nl_p]; rfl
      have e2 : runLen inB (10 :: r) = 0 := by rw [runLen_cons, in_p]; rfl
      rw [e1, e2]
      simp [runLen_nil]
    · have n1 : (b == 10) = false := by simpa using h10
      have e1 : runLen nlB (b :: r) = runLen nlB r + 1 := by rw [runLen_cons, nl_p, n1]; rfl
      rw [e1, List.take_succ_cons]
      by_cases h34 : b = 34
      · subst h34
        have e2 : runLen inB (34 :: r) = 0 := by rw [runLen_cons, in_p]; rfl
        have e3 : runLen qtB (34 :: r.take (runLen nlB r)) = 0 := by rw [runLen_cons, qt_p]; rfl
        rw [e2, e3]
        simp
      · have n2 : (b == 34) = false := by simpa using h34
        have e2 : runLen inB (b :: r) = runLen inB r + 1 := by rw [runLen_cons, in_p, n1, n2]; rfl
        have e3 : runLen qtB (b :: r.take (runLen nlB r)) = runLen qtB (r.take (runLen nlB r)) + 1 := by rw [runLen_cons, qt_p, n2]; rfl
        rw [e2, e3, i1, List.drop_succ_cons, List.length_cons]
        refine ⟨rfl, ?_, ?_⟩
        · rw [← i2]; omega
        · intro h; have := i3 (by omega); omega

end Go.Proofs.Ytonhfcjldbohbaa.Lx
