/- Plain laws of the scanner's step. -/
import Derived.Test.YtonhfcjldbohbaaMathA04
set_option linter.unusedVariables false
set_option linter.unusedSimpArgs false
namespace Go.Proofs.Ytonhfcjldbohbaa.M04
open Go.RowKit Go.Proofs.Ytonhfcjldbohbaa.PA Go.Proofs.YtonhfcjldbohbaaW.PrintWords Go.Proofs.YtonhfcjldbohbaaW.PrintLast Go.Proofs.Ytonhfcjldbohbaa.Pl Go.Proofs.Ytonhfcjldbohbaa.Lx

/-! what is lexed -/
theorem dig_flags {c : Int} (h : digB c = true) : blB c = false ∧ (c == 35) = false ∧ begB c = false := by
  have : 48 ≤ c ∧ c ≤ 57 := by simpa [digB] using h
  refine ⟨?_, beq_eq_false_iff_ne.2 (by omega), ?_⟩
  · unfold blB
    rw [beq_eq_false_iff_ne.2 (by omega), beq_eq_false_iff_ne.2 (by omega), beq_eq_false_iff_ne.2 (by omega), beq_eq_false_iff_ne.2 (by omega)]
    rfl
  · unfold begB
    rw [decide_eq_false (by omega), beq_eq_false_iff_ne.2 (by omega)]
    rfl
theorem runLen_all (p : Int → Bool) : ∀ l : List UInt8, (∀ b ∈ l, p (b.toNat : Int) = true) → runLen p l = l.length
  | [], _ => rfl
  | b :: l, h => by rw [runLen_cons, if_pos (h b (by simp)), runLen_all p l (fun x hx => h x (by simp [hx]))]; rfl
theorem runLen_until (p : Int → Bool) (x : UInt8) (r : List UInt8) (hx : p (x.toNat : Int) = false) : ∀ l : List UInt8, (∀ b ∈ l, p (b.toNat : Int) = true) → runLen p (l ++ x :: r) = l.length
  | [], _ => by rw [List.nil_append, runLen_cons, hx]; rfl
  | b :: l, h => by rw [List.cons_append, runLen_cons, if_pos (h b (by simp)), runLen_until p x r hx l (fun x hx => h x (by simp [hx]))]; rfl
theorem one_quote (r : List UInt8) : Lx.one (34 :: r) = if (r.drop (runLen inB r)).head? = some 34 then ⟨runLen inB r + 2, some (4, ofL (r.take (runLen inB r))), none⟩ else ⟨runLen inB r + 1, none, some 1⟩ := rfl
/-- Words and names: how they begin and go on. -/
def nameL (t : List UInt8) : Bool := (t.head?.map fun b => begB (b.toNat : Int)) == some true && t.all fun b => goB (b.toNat : Int)
theorem beg_flags {c : Int} (h : begB c = true) : blB c = false ∧ (c == 35) = false := by
  have : (97 ≤ c ∧ c ≤ 122) ∨ c = 95 := by simpa [begB] using h
  refine ⟨?_, beq_eq_false_iff_ne.2 (by omega)⟩
  unfold blB
  rw [beq_eq_false_iff_ne.2 (by omega), beq_eq_false_iff_ne.2 (by omega), beq_eq_false_iff_ne.2 (by omega), beq_eq_false_iff_ne.2 (by omega)]
  rfl
theorem go_run : ∀ (t r : List UInt8), (t.all fun b => goB (b.toNat : Int)) = true → (∀ b ∈ r.head?, goB (b.toNat : Int) = false) → runLen goB (t ++ r) = t.length
  | [], [], _, _ => rfl
  | [], x :: r, _, h => by rw [List.nil_append, runLen_cons, h x (by simp)]; rfl
  | b :: t, r, h, h2 => by
    rw [List.all_cons, Bool.and_eq_true] at h
    rw [List.cons_append, runLen_cons, if_pos h.1, go_run t r h.2 h2]; rfl
theorem one_name (t r : List UInt8) (h : nameL t = true) (h2 : ∀ b ∈ r.head?, goB (b.toNat : Int) = false) : Lx.one (t ++ r) = ⟨t.length, some (if wordL t = true then 2 else 1, ofL t), none⟩ := by
  obtain ⟨g1, g2⟩ := Bool.and_eq_true_iff.1 h
  cases t with
  | nil => simp at g1
  | cons b t =>
    have hb : begB (b.toNat : Int) = true := by simpa using g1
    obtain ⟨f1, f2⟩ := beg_flags hb
    have hr := go_run (b :: t) r g2 h2
    rw [List.cons_append] at hr ⊢
    rw [Lx.one]
    simp only [f1, f2, hb, hr, if_true, if_false, Bool.false_eq_true]
    rw [← List.cons_append, List.take_left]
theorem nameL_ne {t : List UInt8} (h : nameL t = true) : t ≠ [] := by rintro rfl; simp [nameL] at h
theorem lexR_app (a : Int) (t r : List UInt8) (s : Step) (hs : Lx.one (t ++ r) = s) (hn : s.n = t.length) (ht : t ≠ []) : lexR a (t ++ r) = (toks s a ++ (lexR (a + t.length) r).1, diags s a ++ (lexR (a + t.length) r).2) := by
  subst hs
  cases t with
  | nil => exact absurd rfl ht
  | cons b t =>
    rw [List.cons_append] at hn ⊢
    rw [lexR_cons, hn, ← List.cons_append, List.drop_left]

theorem u8w {x : Int} (h : (Lit.int .u8 x).wf = true) : 0 ≤ x ∧ x ≤ 255 := by
  simp only [Lit.wf, Bool.and_eq_true, decide_eq_true_eq] at h
  have e1 : IntKind.u8.min = 0 := by decide
  have e2 : IntKind.u8.max = 255 := by decide
  rw [e1, e2] at h
  exact h
/-! which tokens there are -/
def TokOK (k : Int) (t : List UInt8) : Prop :=
  (k = (if wordL t = true then 2 else 1) ∧ nameL t = true) ∨ (k = 3 ∧ t ≠ [] ∧ (∀ x ∈ t, digB (x.toNat : Int) = true) ∧ t.length ≤ 18) ∨ (k = 4 ∧ ∀ x ∈ t, inB (x.toNat : Int) = true) ∨ (k = 5 ∧ (t = [45, 62] ∨ ∃ x ∈ signs, t = [x]))
theorem sign_one : ∀ x ∈ signs, ∀ r, Lx.one (x :: r) = ⟨1, some (5, ofL [x]), none⟩ := by
  intro x hx r
  simp only [signs, List.mem_cons, List.not_mem_nil, or_false] at hx
  rcases hx with rfl | rfl | rfl | rfl | rfl | rfl | rfl | rfl | rfl | rfl | rfl <;> rfl
theorem run_take (p : Int → Bool) : ∀ l : List UInt8, ∀ x ∈ l.take (runLen p l), p (x.toNat : Int) = true
  | [], x, h => by simp at h
  | b :: l, x, h => by
    rw [runLen_cons] at h
    by_cases hb : p (b.toNat : Int) = true
    · rw [if_pos hb, List.take_succ_cons, List.mem_cons] at h
      rcases h with rfl | h
      · exact hb
      · exact run_take p l x h
    · rw [if_neg hb] at h
      simp at h
theorem ix_mem : ∀ (l : List UInt8) (c : UInt8), 0 ≤ Lib.indexByte l c → c ∈ l
  | [], c, h => by simp [Lib.indexByte] at h
  | b :: l, c, h => by
    rw [Lib.indexByte] at h
    by_cases hb : (b == c) = true
    · rw [beq_iff_eq.1 hb]; simp
    · rw [if_neg hb] at h
      by_cases h1 : (Lib.indexByte l c == -1) = true
      · rw [if_pos h1] at h; exact absurd h (by decide)
      · have hge := Lib.indexByte_ge l c
        have : Lib.indexByte l c ≠ -1 := fun e => h1 (beq_iff_eq.2 e)
        exact List.mem_cons_of_mem _ (ix_mem l c (by omega))
theorem one_facts (b : UInt8) (r : List UInt8) : ∀ k t, (Lx.one (b :: r)).tk = some (k, t) → TokOK k t.data.toList ∧ t.size ≤ (Lx.one (b :: r)).n := by
  intro k t h
  by_cases c1 : blB b.toNat = true
  · simp only [Lx.one, c1] at h; simp at h
  by_cases c2 : ((b.toNat : Int) == 35) = true
  · simp only [Lx.one, c1, c2] at h; simp at h
  by_cases c3 : begB b.toNat = true
  · have e : Lx.one (b :: r) = ⟨runLen goB (b :: r), some (if wordL ((b :: r).take (runLen goB (b :: r))) = true then 2 else 1, ofL ((b :: r).take (runLen goB (b :: r)))), none⟩ := by simp only [Lx.one, c1, c2, c3]; rfl
    rw [e] at h ⊢
    have h := Option.some.inj h
    have h1 := (Prod.mk.inj h).1
    have h2 := (Prod.mk.inj h).2
    subst h1 h2
    rw [ofL_data, ofL_size]
    refine ⟨.inl ⟨rfl, ?_⟩, by rw [List.length_take]; dsimp only; omega⟩
    have hp : 1 ≤ runLen goB (b :: r) := run_pos (beg_go c3)
    have ht := run_take goB (b :: r)
    generalize runLen goB (b :: r) = n at hp ht
    obtain ⟨m, rfl⟩ : ∃ m, n = m + 1 := ⟨n - 1, by omega⟩
    rw [nameL, Bool.and_eq_true]
    refine ⟨by simp [c3], List.all_eq_true.2 (fun x hx => ht x hx)⟩
  by_cases c5 : digB b.toNat = true
  · by_cases c6 : runLen digB (b :: r) ≤ 18
    · have e : Lx.one (b :: r) = ⟨runLen digB (b :: r), some (3, ofL ((b :: r).take (runLen digB (b :: r)))), none⟩ := by simp only [Lx.one, c1, c2, c3, c5, c6]; rfl
      rw [e] at h ⊢
      have h := Option.some.inj h
      have h1 := (Prod.mk.inj h).1
      have h2 := (Prod.mk.inj h).2
      subst h1 h2
      rw [ofL_data, ofL_size]
      have hp : 1 ≤ runLen digB (b :: r) := run_pos c5
      refine ⟨.inr (.inl ⟨rfl, ?_, run_take digB (b :: r), by rw [List.length_take]; omega⟩), by rw [List.length_take]; dsimp only; omega⟩
      intro h0
      have := congrArg List.length h0
      rw [List.length_take] at this
      simp at this
      omega
    · have e : Lx.one (b :: r) = ⟨runLen digB (b :: r), some (3, ofL [48]), some 13⟩ := by simp only [Lx.one, c1, c2, c3, c5, c6]; rfl
      rw [e] at h ⊢
      have h := Option.some.inj h
      have h1 := (Prod.mk.inj h).1
      have h2 := (Prod.mk.inj h).2
      subst h1 h2
      rw [ofL_data, ofL_size]
      have hp : 1 ≤ runLen digB (b :: r) := run_pos c5
      exact ⟨.inr (.inl ⟨rfl, by simp, by simp; decide, by decide⟩), by simpa using hp⟩
  by_cases c7 : ((b.toNat : Int) == 34) = true
  · by_cases c8 : (r.drop (runLen inB r)).head? = some 34
    · have e : Lx.one (b :: r) = ⟨runLen inB r + 2, some (4, ofL (r.take (runLen inB r))), none⟩ := by simp only [Lx.one, c1, c2, c3, c5, c7, c8]; rfl
      rw [e] at h ⊢
      have h := Option.some.inj h
      have h1 := (Prod.mk.inj h).1
      have h2 := (Prod.mk.inj h).2
      subst h1 h2
      rw [ofL_data, ofL_size]
      exact ⟨.inr (.inr (.inl ⟨rfl, run_take inB r⟩)), by rw [List.length_take]; dsimp only; omega⟩
    · have e : Lx.one (b :: r) = ⟨runLen inB r + 1, none, some 1⟩ := by simp only [Lx.one, c1, c2, c3, c5, c7, c8]; rfl
      rw [e] at h; simp at h
  by_cases c9 : Lib.hasPrefix (b :: r) [45, 62] = true
  · have e : Lx.one (b :: r) = ⟨2, some (5, ofL [45, 62]), none⟩ := by simp only [Lx.one, c1, c2, c3, c5, c7, c9]; rfl
    rw [e] at h ⊢
    have h := Option.some.inj h
    have h1 := (Prod.mk.inj h).1
    have h2 := (Prod.mk.inj h).2
    subst h1 h2
    exact ⟨.inr (.inr (.inr ⟨rfl, .inl rfl⟩)), by decide⟩
  by_cases c10 : 0 ≤ Lib.indexByte signs b
  · have e : Lx.one (b :: r) = ⟨1, some (5, ofL [b]), none⟩ := by simp only [Lx.one, c1, c2, c3, c5, c7, c9, c10]; rfl
    rw [e] at h ⊢
    have h := Option.some.inj h
    have h1 := (Prod.mk.inj h).1
    have h2 := (Prod.mk.inj h).2
    subst h1 h2
    exact ⟨.inr (.inr (.inr ⟨rfl, .inr ⟨b, ix_mem _ _ c10, rfl⟩⟩)), by rw [ofL_size]; exact Nat.le_refl _⟩
  · have e : Lx.one (b :: r) = ⟨1, none, some 1⟩ := by simp only [Lx.one, c1, c2, c3, c5, c7, c9, c10]; rfl
    rw [e] at h; simp at h

theorem toks_mem {s : Step} {a : Int} {t : Tk} (h : t ∈ toks s a) : t.f1 = a ∧ s.tk = some (t.f0, t.f2) := by
  unfold toks at h
  split at h
  · rename_i k x e
    rw [List.mem_singleton] at h
    subst h
    exact ⟨rfl, e⟩
  · simp at h
theorem diags_mem {s : Step} {a : Int} {t : Dg} (h : t ∈ diags s a) : t.f0 = a := by
  unfold diags at h
  split at h
  · rw [List.mem_singleton] at h
    subst h; rfl
  · simp at h
theorem toks_pair (s : Step) (a : Int) : (toks s a).Pairwise (fun x y => x.f1 < y.f1) := by unfold toks; split <;> simp
theorem diags_pair (s : Step) (a : Int) : (diags s a).Pairwise (fun x y => x.f0 < y.f0) := by unfold diags; split <;> simp
theorem lexR_facts : ∀ (n : Nat) (a : Int) (l : List UInt8), l.length ≤ n →
    (∀ t ∈ (lexR a l).1, a ≤ t.f1 ∧ t.f1 < a + l.length ∧ t.f2.size ≤ l.length ∧ TokOK t.f0 t.f2.data.toList) ∧ (lexR a l).1.Pairwise (fun x y => x.f1 < y.f1) ∧ (∀ t ∈ (lexR a l).2, a ≤ t.f0 ∧ t.f0 < a + l.length) ∧ (lexR a l).2.Pairwise (fun x y => x.f0 < y.f0)
  | 0, a, l, h => by
    have : l = [] := List.length_eq_zero_iff.1 (by omega)
    subst this
    simp [lexR_nil]
  | n + 1, a, [], h => by simp [lexR_nil]
  | n + 1, a, b :: r, h => by
    have hb := one_bounds b r
    have hd : ((b :: r).drop (Lx.one (b :: r)).n).length = (b :: r).length - (Lx.one (b :: r)).n := List.length_drop
    obtain ⟨i1, i2, i3, i4⟩ := lexR_facts n (a + (Lx.one (b :: r)).n) ((b :: r).drop (Lx.one (b :: r)).n) (by omega)
    rw [hd] at i1 i3
    rw [lexR_cons]
    refine ⟨fun t ht => ?_, List.pairwise_append.2 ⟨toks_pair _ _, i2, fun x hx y hy => ?_⟩, fun t ht => ?_, List.pairwise_append.2 ⟨diags_pair _ _, i4, fun x hx y hy => ?_⟩⟩
    · rcases List.mem_append.1 ht with ht | ht
      · obtain ⟨e1, e2⟩ := toks_mem ht
        obtain ⟨f1, f2⟩ := one_facts b r _ _ e2
        exact ⟨by omega, by omega, by omega, f1⟩
      · obtain ⟨e1, e2, e3, e4⟩ := i1 t ht
        exact ⟨by omega, by omega, by omega, e4⟩
    · have := (toks_mem hx).1
      have := (i1 y hy).1
      omega
    · rcases List.mem_append.1 ht with ht | ht
      · have := diags_mem ht
        exact ⟨by omega, by omega⟩
      · have := i3 t ht
        exact ⟨by omega, by omega⟩
    · have := diags_mem hx
      have := (i3 y hy).1
      omega
theorem lexA_facts (l : List UInt8) : (∀ t ∈ (lexA l).1, 0 ≤ t.f1 ∧ t.f1 ≤ (l.length : Int) ∧ t.f2.size ≤ l.length) ∧ (∀ i j (hi : i < (lexA l).1.length) (hj : j < (lexA l).1.length), i < j → (lexA l).1[i].f1 < (lexA l).1[j].f1) ∧ (lexA l).2.length ≤ l.length ∧
    (∀ i j (hi : i < (lexA l).2.length) (hj : j < (lexA l).2.length), i < j → (lexA l).2[i].f0 < (lexA l).2[j].f0) ∧ ∃ ts, (lexA l).1 = ts ++ [⟨6, (l.length : Int), ⟨#[]⟩⟩] ∧ ∀ t ∈ ts, TokOK t.f0 t.f2.data.toList := by
  obtain ⟨i1, i2, i3, i4⟩ := lexR_facts l.length 0 l (Nat.le_refl _)
  have hp : (lexA l).1.Pairwise (fun x y => x.f1 < y.f1) := by
    refine List.pairwise_append.2 ⟨i2, by simp, fun x hx y hy => ?_⟩
    have := (i1 x hx).2.1
    rw [List.mem_singleton] at hy
    subst hy
    show x.f1 < (l.length : Int)
    omega
  refine ⟨fun t ht => ?_, fun i j hi hj hij => List.pairwise_iff_getElem.1 hp i j hi hj hij, (lexA_len l).2, fun i j hi hj hij => List.pairwise_iff_getElem.1 i4 i j hi hj hij, _, rfl, fun t ht => (i1 t ht).2.2.2⟩
  rcases List.mem_append.1 ht with ht | ht
  · have := i1 t ht
    exact ⟨by omega, by omega, by omega⟩
  · rw [List.mem_singleton] at ht
    subst ht
    exact ⟨by show (0 : Int) ≤ (l.length : Int); omega, Int.le_refl _, by show 0 ≤ l.length; omega⟩
end Go.Proofs.Ytonhfcjldbohbaa.M04
