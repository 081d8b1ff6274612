/- The pure statement of LexBlanks. -/
import Derived.Test.YtmbbebdpmffihaaPAx9
import Derived.Test.YtmbbebdpmffihaaLexLaws
set_option linter.unusedVariables false
set_option linter.unusedSimpArgs false
namespace Go.Proofs.Ytmbbebdpmffihaa.Pure
open Go.RowKit Go.Proofs.Ytmbbebdpmffihaa.PA Go.Proofs.YtmbbebdpmffihaaW.PrintWords Go.Proofs.YtmbbebdpmffihaaW.PrintLast Go.Proofs.Ytmbbebdpmffihaa.Pl Go.Proofs.Ytmbbebdpmffihaa.Lx Go.Proofs.Ytmbbebdpmffihaa.M04

def gaps5 : List ByteArray := [(⟨#[32]⟩ : ByteArray), (⟨#[10]⟩ : ByteArray), (⟨#[9, 32, 13]⟩ : ByteArray), (⟨#[35, 32, 108, 101, 116, 32, 34, 10]⟩ : ByteArray), (⟨#[32, 32, 35, 10, 32]⟩ : ByteArray)]
/-- A gap: what begins no token's rest, and is lexed to nothing. -/
def Gap (g : List UInt8) : Prop := (∃ b r, g = b :: r ∧ goB (b.toNat : Int) = false ∧ digB (b.toNat : Int) = false) ∧ (∀ a r, lexR a (g ++ r) = lexR (a + g.length) r) ∧ g.length ≤ 8
theorem lexR_skip (a : Int) (t r : List UInt8) (ht : t ≠ []) (hs : one (t ++ r) = ⟨t.length, none, none⟩) : lexR a (t ++ r) = lexR (a + t.length) r := by
  rw [lexR_app a t r _ hs rfl ht]; rfl
theorem gaps_ok : ∀ i, i < 5 → Gap (rdOf ByteArray.empty gaps5 ((i : Nat) : Int)).data.toList := by
  intro i hi
  have s1 : ∀ (x : UInt8) a r, blB (x.toNat : Int) = true → lexR a (x :: r) = lexR (a + 1) r := fun x a r h => by
    have := lexR_skip a [x] r (by simp) (by simp only [one, List.singleton_append, h]; rfl)
    simpa using this
  have s2 : ∀ a r, lexR a (35 :: 32 :: 108 :: 101 :: 116 :: 32 :: 34 :: 10 :: r) = lexR (a + 7) (10 :: r) := fun a r => lexR_skip a [35, 32, 108, 101, 116, 32, 34] (10 :: r) (by simp) rfl
  have s3 : ∀ a r, lexR a (35 :: 10 :: r) = lexR (a + 1) (10 :: r) := fun a r => lexR_skip a [35] (10 :: r) (by simp) rfl
  match i, hi with
  | 0, _ => exact ⟨⟨32, [], rfl, rfl, rfl⟩, fun a r => s1 32 a r rfl, by decide⟩
  | 1, _ => exact ⟨⟨10, [], rfl, rfl, rfl⟩, fun a r => s1 10 a r rfl, by decide⟩
  | 2, _ =>
    refine ⟨⟨9, [32, 13], rfl, rfl, rfl⟩, fun a r => ?_, by decide⟩
    show lexR a (9 :: 32 :: 13 :: r) = lexR (a + 3) r
    rw [s1 9 _ _ rfl, s1 32 _ _ rfl, s1 13 _ _ rfl]
    congr 1; omega
  | 3, _ =>
    refine ⟨⟨35, [32, 108, 101, 116, 32, 34, 10], rfl, rfl, rfl⟩, fun a r => ?_, by decide⟩
    show lexR a (35 :: 32 :: 108 :: 101 :: 116 :: 32 :: 34 :: 10 :: r) = lexR (a + 8) r
    rw [s2, s1 10 _ _ rfl]
    congr 1; omega
  | 4, _ =>
    refine ⟨⟨32, [32, 35, 10, 32], rfl, rfl, rfl⟩, fun a r => ?_, by decide⟩
    show lexR a (32 :: 32 :: 35 :: 10 :: 32 :: r) = lexR (a + 5) r
    rw [s1 32 _ _ rfl, s1 32 _ _ rfl, s3, s1 10 _ _ rfl, s1 32 _ _ rfl]
    congr 1; omega

/-- A token as it is written. -/
def ren (t : Tk) : List UInt8 := if t.f0 = 4 then 34 :: (t.f2.data.toList ++ [34]) else t.f2.data.toList
def body (g : List UInt8) (l : List Tk) : List UInt8 := l.flatMap fun t => ren t ++ g
theorem relex (g : List UInt8) (hg : Gap g) (t : Tk) (ht : TokOK t.f0 t.f2.data.toList) (r : List UInt8) : one (ren t ++ (g ++ r)) = ⟨(ren t).length, some (t.f0, t.f2), none⟩ ∧ ren t ≠ [] := by
  obtain ⟨b, g', rfl, hb1, hb2⟩ := hg.1
  rw [List.cons_append]
  rcases ht with ⟨h1, h2⟩ | ⟨h1, h2, h3, h4⟩ | ⟨h1, h2⟩ | ⟨h1, h2⟩
  · have hn : t.f0 ≠ 4 := by rw [h1]; split <;> decide
    simp only [ren, if_neg hn]
    refine ⟨?_, nameL_ne h2⟩
    rw [one_name _ _ h2 (by simpa using hb1), ofL_list, ← h1]
  · have hn : t.f0 ≠ 4 := by rw [h1]; decide
    simp only [ren, if_neg hn]
    refine ⟨?_, h2⟩
    cases hl : t.f2.data.toList with
    | nil => exact absurd hl h2
    | cons x xs =>
      rw [hl] at h3 h4
      obtain ⟨f1, f2, f3⟩ := dig_flags (h3 x (by simp))
      have hr := runLen_until digB b (g' ++ r) hb2 (x :: xs) h3
      rw [List.cons_append] at hr ⊢
      rw [one]
      simp only [f1, f2, f3, h3 x (by simp), hr, h4, if_true, if_false, Bool.false_eq_true]
      rw [← List.cons_append, List.take_left, ← hl, ofL_list, h1]
  · simp only [ren, if_pos h1]
    refine ⟨?_, by simp⟩
    have hr := runLen_until inB 34 (b :: (g' ++ r)) (by decide) _ h2
    rw [List.cons_append, one_quote, List.append_assoc, List.singleton_append, hr]
    rw [List.drop_left, List.take_left, ofL_list, h1]
    simp
  · have hn : t.f0 ≠ 4 := by rw [h1]; decide
    simp only [ren, if_neg hn]
    have e : t.f2 = ofL t.f2.data.toList := (ofL_list _).symm
    rcases h2 with h2 | ⟨x, hx, h2⟩
    · rw [h2] at e ⊢
      refine ⟨?_, by simp⟩
      rw [e, h1]; rfl
    · rw [h2] at e ⊢
      refine ⟨?_, by simp⟩
      rw [e, h1, List.singleton_append]
      exact sign_one x hx _
theorem relex_all (g : List UInt8) (hg : Gap g) : ∀ (l : List Tk) (a : Int), (∀ t ∈ l, TokOK t.f0 t.f2.data.toList) → ∃ ms, lexR a (body g l ++ g) = (ms, []) ∧ ∀ e e' : Tk, sameT e e' = true → sameL (l ++ [e]) (ms ++ [e']) = true
  | [], a, _ => by
    refine ⟨[], ?_, fun e e' h => ?_⟩
    · have := hg.2.1 a []
      rw [List.append_nil, lexR_nil] at this
      exact this
    · simp [sameL, h]
  | t :: l, a, h => by
    obtain ⟨ms, i1, i2⟩ := relex_all g hg l (a + (ren t).length + g.length) (fun x hx => h x (by simp [hx]))
    obtain ⟨r1, r2⟩ := relex g hg t (h t (by simp)) (body g l ++ g)
    refine ⟨⟨t.f0, a, t.f2⟩ :: ms, ?_, fun e e' he => ?_⟩
    · show lexR a ((ren t ++ g ++ body g l) ++ g) = _
      rw [List.append_assoc, List.append_assoc, lexR_app a (ren t) _ _ r1 rfl r2, hg.2.1, i1]
      rfl
    · rw [List.cons_append, List.cons_append, sameL, i2 e e' he]
      simp [sameT]

theorem blanks_end (l : List Tk) (d : List Dg) (m : List Tk) (hsame : sameL l m = true) (hd : ∀ i j (hi : i < d.length) (hj : j < d.length), i < j → d[i].f0 < d[j].f0) (hl : d.length ≤ 100000) : ∀ (n i : Nat), d.length - i = n → 1 ≤ i → Ev (fun k => cupellaw04_LexBlanks.l1 k l d m [] (i : Int)) true := by
  intro n
  induction n with
  | zero =>
    intro i hn hi
    refine Ev.step (fun k => by rw [cupellaw04_LexBlanks.l1]) (neg (by omega) ?_)
    simp only [lex_Same.f, hsame]
    exact smb (pos rfl (now rfl))
  | succ n ih =>
    intro i hn hi
    have hlt : i < d.length := by omega
    have hlt2 : i - 1 < d.length := by omega
    refine Ev.step (fun k => by rw [cupellaw04_LexBlanks.l1]) ?_
    rw [wrap_id (x := (i : Int) - 1) (by omega) (by omega), wrap_id (x := (i : Int) + 1) (by omega) (by omega), show (i : Int) - 1 = ((i - 1 : Nat) : Int) by omega, rdG d i hlt, rdG d (i - 1) hlt2]
    have := hd (i - 1) i hlt2 hlt (by omega)
    exact pos (by omega) (pos (by omega) (pos (by omega) (pos (by omega) (neg (by omega) (ih (i + 1) (by omega) (by omega))))))

theorem blanks_ev (x0 gb : ByteArray) (hx : x0.size ≤ 600) (hg : Gap gb.data.toList) (l : List Tk) (d : List Dg) (hl : l.length ≤ 601) (ht : ∀ t ∈ l, 0 ≤ t.f1 ∧ t.f1 ≤ (x0.size : Int) ∧ t.f2.size ≤ 600)
    (hasc : ∀ i j (hi : i < l.length) (hj : j < l.length), i < j → l[i].f1 < l[j].f1) (hfin : ∀ s : ByteArray, s.data.toList = gb.data.toList ++ body gb.data.toList l → s.size ≤ 1000000 → Ev (fun k => (lex_Lex.f s).bind fun bt279 => (cupellaw04_LexBlanks.l1 k l d bt279.1 bt279.2 1)) true) :
    ∀ (n i : Nat) (s : ByteArray) (last : Int), l.length - i = n → i ≤ l.length → s.data.toList = gb.data.toList ++ body gb.data.toList (l.take i) → s.size ≤ 700 * (i + 1) → (∀ h : i < l.length, last < l[i].f1) →
    Ev (fun k => cupellaw04_LexBlanks.l0 k x0 l d gb s last (i : Int)) true := by
  have hgs : gb.size ≤ 8 := by rw [← size_data]; exact hg.2.2
  intro n
  induction n with
  | zero =>
    intro i s last hn hi hs hz hlast
    obtain rfl : i = l.length := by omega
    refine Ev.step (fun k => by rw [cupellaw04_LexBlanks.l0]) (neg (by omega) (hfin s (by rw [hs, List.take_length]) (by omega)))
  | succ n ih =>
    intro i s last hn hi hs hz hlast
    have hlt : i < l.length := by omega
    obtain ⟨t1, t2, t3⟩ := ht l[i] (List.getElem_mem hlt)
    have h1 := hlast hlt
    have hnext : ∀ h : i + 1 < l.length, l[i].f1 < l[i + 1].f1 := fun h => hasc i (i + 1) hlt h (by omega)
    have hbody : body gb.data.toList (l.take (i + 1)) = body gb.data.toList (l.take i) ++ (ren l[i] ++ gb.data.toList) := by
      rw [List.take_succ_eq_append_getElem hlt, body, List.flatMap_append]; simp [body]
    refine Ev.step (fun k => by rw [cupellaw04_LexBlanks.l0]) ?_
    rw [rdK l i hlt]
    refine pos (by omega) (pos (by omega) (neg (by omega) ?_))
    rw [decide_eq_false (by omega : ¬ l[i].f1 > (x0.size : Int))]
    refine Ev.step (fun k => by rw [cupellaw04_LexBlanks.j1]) ?_
    rw [rdK l i hlt, wrap_id (x := (i : Int) + 1) (by omega) (by omega)]
    refine neg (by decide) (pos (by omega) (pos (by omega) ?_))
    by_cases h4 : l[i].f0 = 4
    · refine pos h4 (pos (by omega) (pos (by rw [ByteArray.size_append, show (⟨#[34]⟩ : ByteArray).size = 1 from rfl]; omega) (pos (by rw [ByteArray.size_append, ByteArray.size_append, show (⟨#[34]⟩ : ByteArray).size = 1 from rfl]; omega) (pos (by rw [ByteArray.size_append, ByteArray.size_append, ByteArray.size_append, show (⟨#[34]⟩ : ByteArray).size = 1 from rfl]; omega) (ih (i + 1) _ _ (by omega) (by omega) ?_ ?_ hnext)))))
      · rw [hbody, app_data, app_data, app_data, app_data, hs, ren, if_pos h4]
        simp
      · simp only [ByteArray.size_append, show (⟨#[34]⟩ : ByteArray).size = 1 from rfl]; omega
    · refine neg h4 (pos (by omega) (pos (by rw [ByteArray.size_append]; omega) (ih (i + 1) _ _ (by omega) (by omega) ?_ ?_ hnext)))
      · rw [hbody, app_data, app_data, hs, ren, if_neg h4]
        simp
      · simp only [ByteArray.size_append]; omega

theorem LexBlanks : cupellaw04_LexBlanks.Pure := by
  intro a0 a1 h0 h1
  refine Ev.rounds ?_
  have b1 := u8w h1
  unfold cupellaw04_LexBlanks.f
  simp only [alive_t]
  refine smb (pos rfl ?_)
  by_cases hs : (a0.size : Int) > 600
  · exact pos hs (now rfl)
  refine neg hs ?_
  have hlen := lexA_len a0.data.toList
  rw [size_data] at hlen
  simp only [lex_f a0 (show a0.size ≤ 1000000000 by omega)]
  rw [show ([(⟨#[32]⟩ : ByteArray), (⟨#[10]⟩ : ByteArray), (⟨#[9, 32, 13]⟩ : ByteArray), (⟨#[35, 32, 108, 101, 116, 32, 34, 10]⟩ : ByteArray), (⟨#[32, 32, 35, 10, 32]⟩ : ByteArray)] : List ByteArray) = gaps5 from rfl]
  refine smb (smb ?_)
  rw [Int.tmod_eq_emod_of_nonneg b1.1]
  obtain ⟨i, hi⟩ : ∃ i : Nat, a1 % 5 = (i : Int) := ⟨(a1 % 5).toNat, by omega⟩
  rw [hi, show ((gaps5.length : Nat) : Int) = 5 from rfl]
  refine pos (by omega) (pos (by omega) ?_)
  have hg := gaps_ok i (by omega)
  generalize rdOf ByteArray.empty gaps5 (i : Int) = gb at hg ⊢
  obtain ⟨p1, p2, p3, p4, p5⟩ := lexA_facts a0.data.toList
  rw [size_data] at p1 p3
  refine blanks_ev a0 gb (by omega) hg _ _ (by omega) (fun t h => ?_) p2 ?_ _ 0 gb (-1) rfl (by omega) (by simp [body]) (by have := hg.2.2; rw [size_data] at this; omega) (fun h => by have := p1 _ (List.getElem_mem h); omega)
  · have := p1 t h
    exact ⟨this.1, this.2.1, by omega⟩
  · intro s hsd hsz
    simp only [lex_f s (by omega)]
    refine smb ?_
    obtain ⟨ts, hts, hok⟩ := p5
    obtain ⟨ms, m1, m2⟩ := relex_all gb.data.toList hg ts (0 + gb.data.toList.length) hok
    have hlx : lexA s.data.toList = (ms ++ [⟨6, (s.data.toList.length : Int), ⟨#[]⟩⟩], []) := by
      have hb : body gb.data.toList (lexA a0.data.toList).1 = body gb.data.toList ts ++ gb.data.toList := by
        rw [hts, body, List.flatMap_append]
        simp only [List.flatMap_cons, List.flatMap_nil, List.append_nil]
        rfl
      rw [lexA, hsd, hb, hg.2.1, m1]
    rw [hlx]
    exact blanks_end _ _ _ (by rw [hts]; exact m2 _ _ (by simp [sameT])) p4 (by omega) _ 1 rfl (by omega)
end Go.Proofs.Ytmbbebdpmffihaa.Pure
