/- The reference lexes as the scanner does. -/
import Derived.Test.YtonhfcjldbohbaaPAx3
import Derived.Test.YtonhfcjldbohbaaMath04
set_option linter.unusedVariables false
set_option linter.unusedSimpArgs false
namespace Go.Proofs.Ytonhfcjldbohbaa.M04
open Go.RowKit Go.Proofs.Ytonhfcjldbohbaa.PA Go.Proofs.YtonhfcjldbohbaaW.PrintWords Go.Proofs.YtonhfcjldbohbaaW.PrintLast Go.Proofs.Ytonhfcjldbohbaa.Pl Go.Proofs.Ytonhfcjldbohbaa.Lx

theorem drop2 {l : List UInt8} {a n : Nat} {b : UInt8} {r : List UInt8} (h : l.drop a = b :: r) : (b :: r).drop n = l.drop (a + n) := by rw [← h, List.drop_drop]
def lexX (src : ByteArray) (a : Nat) : List Tk × List Dg := lexR a (src.data.toList.drop a)
theorem lexX_end (src : ByteArray) : lexX src src.size = ([], []) := by rw [lexX, drop_end src _ (Nat.le_refl _)]; rfl
theorem lexX_step (src : ByteArray) (a : Nat) (b : UInt8) (r : List UInt8) (h : src.data.toList.drop a = b :: r) (s : Step) (hs : Lx.one (b :: r) = s) : lexX src a = (toks s a ++ (lexX src (a + s.n)).1, diags s a ++ (lexX src (a + s.n)).2) := by
  subst hs
  unfold lexX
  rw [h, lexR_cons, drop2 h]
  norm_cast

def outT (src : ByteArray) (x4 : List Tr) (l : List Tk) : List Tr := x4 ++ (l.map cvT ++ [⟨6, src.size, ⟨#[]⟩⟩])
def outD (x5 : List Dr) (l : List Dg) : List Dr := x5 ++ l.map cvD

theorem ref_lex (src : ByteArray) (hs : src.size ≤ 100000) : ∀ (d a : Nat) (x4 : List Tr) (x5 : List Dr), src.size - a = d → a ≤ src.size → x4.length ≤ a → x5.length ≤ a →
    Ev (fun k => cupelref04_Lex.l0 k src x4 x5 (a : Int)) (outT src x4 (lexX src a).1, outD x5 (lexX src a).2) := by
  intro d
  induction d using Nat.strongRecOn with
  | ind d ih =>
  intro a x4 x5 hd ha h4 h5
  refine Ev.step (fun k => by rw [cupelref04_Lex.l0]) ?_
  by_cases hlt : a < src.size
  case neg =>
    obtain rfl : a = src.size := by omega
    rw [lexX_end]
    exact neg (by omega) (pos (by omega) (now (by simp [outT, outD])))
  obtain ⟨b, hb1, hb2⟩ := bt_cons src a hlt
  have hbr := bt_range src (a : Int)
  have hlen : (src.data.toList.drop (a + 1)).length = src.size - (a + 1) := by simp
  have hbd := one_bounds b (src.data.toList.drop (a + 1))
  have hext : ∀ n : Nat, src.extract (a : Int).toNat (((a + n : Nat) : Int)).toNat = ofL ((b :: src.data.toList.drop (a + 1)).take n) := fun n => by rw [show (((a + n : Nat) : Int)) = (a : Int) + (n : Int) from by omega, ext_cut, hb1]
  have hext1 : ∀ n : Nat, src.extract ((a + 1 : Nat) : Int).toNat (((a + 1 + n : Nat) : Int)).toNat = ofL ((src.data.toList.drop (a + 1)).take n) := fun n => by rw [show (((a + 1 + n : Nat) : Int)) = ((a + 1 : Nat) : Int) + (n : Int) from by omega, ext_cut]
  have hat : ∀ n : Nat, a + 1 + n < src.size → (bt src ((a + 1 + n : Nat) : Int) = 34 ↔ ((src.data.toList.drop (a + 1)).drop n).head? = some 34) := fun n hn => by
    obtain ⟨b', e1, e2⟩ := bt_cons src (a + 1 + n) hn
    rw [List.drop_drop, e1, e2, List.head?_cons]
    constructor
    · intro h
      rw [show b' = 34 from UInt8.toNat_inj.1 (by rw [show (34 : UInt8).toNat = 34 from rfl]; omega)]
    · intro h
      rw [Option.some.inj h]; rfl
  generalize hr : src.data.toList.drop (a + 1) = r at *
  have go : ∀ (s : Step) (y4 : List Tr) (y5 : List Dr), Lx.one (b :: r) = s → y4 = x4 ++ (toks s a).map cvT → y5 = x5 ++ (diags s a).map cvD → Ev (fun k => cupelref04_Lex.l0 k src y4 y5 ((a + s.n : Nat) : Int)) (outT src x4 (lexX src a).1, outD x5 (lexX src a).2) := by
    intro s y4 y5 hs e4 e5
    have ht := toks_le s a
    have hdg := diags_le s a
    have hb := hs ▸ hbd
    rw [List.length_cons] at hb
    refine val (ih (src.size - (a + s.n)) (by omega) (a + s.n) y4 y5 rfl (by omega) (by rw [e4, List.length_append, List.length_map]; omega) (by rw [e5, List.length_append, List.length_map]; omega)) ?_
    rw [lexX_step src a b r hb1 s hs, e4, e5]
    simp [outT, outD, List.append_assoc]
  rw [wrap_id (x := (a : Int) + 1) (by omega) (by omega)]
  refine pos (by omega) (pos (by omega) (bnd (in_set _ _ blB (by decide) (set_bl _ hbr.1 hbr.2)) ?_))
  by_cases c1 : blB b.toNat = true
  · refine pos (by rw [hb2]; exact c1) ?_
    exact go ⟨1, none, none⟩ _ _ (by simp only [Lx.one, c1]; rfl) (by simp [toks]) (by simp [diags])
  refine neg (by rw [hb2]; exact c1) ?_
  by_cases c2 : ((b.toNat : Int) == 35) = true
  · refine pos (by rw [hb2]; exact beq_iff_eq.1 c2) (bnd (until_ev src _ nlB (by decide) set_nl (by omega) _ a rfl ha) ?_)
    rw [hb1]
    exact go ⟨runLen nlB (b :: r), none, none⟩ _ _ (by simp only [Lx.one, c1, c2]; rfl) (by simp [toks]) (by simp [diags])
  refine neg (by rw [hb2]; exact fun h => c2 (beq_iff_eq.2 h)) ?_
  refine bnd (in_set _ _ begB (by decide) (set_beg _ hbr.1 hbr.2)) ?_
  by_cases c3 : begB b.toNat = true
  · have hrl := runLen_le goB (b :: r)
    rw [List.length_cons] at hrl
    refine pos (by rw [hb2]; exact c3) (bnd (while_ev src _ goB (by decide) set_go (by omega) _ a rfl ha) ?_)
    rw [hb1, hext]
    refine pos (by omega) (pos (by omega) (bnd (word_ev _) ?_))
    rw [ofL_data]
    by_cases c4 : wordL ((b :: r).take (runLen goB (b :: r))) = true
    · refine pos c4 (pos (by omega) ?_)
      exact go ⟨runLen goB (b :: r), some (2, ofL ((b :: r).take (runLen goB (b :: r)))), none⟩ _ _ (by simp only [Lx.one, c1, c2, c3, c4]; rfl) (by simp [toks, cvT]) (by simp [diags])
    · refine neg c4 (pos (by omega) ?_)
      exact go ⟨runLen goB (b :: r), some (1, ofL ((b :: r).take (runLen goB (b :: r)))), none⟩ _ _ (by simp only [Lx.one, c1, c2, c3, c4]; rfl) (by simp [toks, cvT]) (by simp [diags])
  refine neg (by rw [hb2]; exact c3) (bnd (in_set _ _ digB (by decide) (set_dig _ hbr.1 hbr.2)) ?_)
  by_cases c5 : digB b.toNat = true
  · have hrl := runLen_le digB (b :: r)
    rw [List.length_cons] at hrl
    refine pos (by rw [hb2]; exact c5) (bnd (while_ev src _ digB (by decide) set_dig (by omega) _ a rfl ha) ?_)
    rw [hb1, hext, wrap_id (by omega) (by omega)]
    refine pos (by omega) (pos (by omega) ?_)
    by_cases c6 : runLen digB (b :: r) ≤ 18
    · refine neg (by omega) (pos (by omega) ?_)
      exact go ⟨runLen digB (b :: r), some (3, ofL ((b :: r).take (runLen digB (b :: r)))), none⟩ _ _ (by simp only [Lx.one, c1, c2, c3, c5, c6]; rfl) (by simp [toks, cvT]) (by simp [diags])
    · refine pos (by omega) (pos (by omega) (pos (by omega) ?_))
      exact go ⟨runLen digB (b :: r), some (3, ofL [48]), some 13⟩ _ _ (by simp only [Lx.one, c1, c2, c3, c5, c6]; rfl) (by simp [toks, cvT, ofL]) (by simp [diags, cvD])
  refine neg (by rw [hb2]; exact c5) ?_
  by_cases c7 : ((b.toNat : Int) == 34) = true
  · have hrl := runLen_le inB r
    have hu := until_ev src ⟨#[34, 10]⟩ inB (by decide) set_in (by omega) _ (a + 1) rfl (by omega)
    rw [hr] at hu
    refine pos (by rw [hb2]; exact beq_iff_eq.1 c7) (bnd (a := ((a + 1 + runLen inB r : Nat) : Int)) (by exact_mod_cast hu) ?_)
    rw [show (a : Int) + 1 = ((a + 1 : Nat) : Int) from by omega, hext1, wrap_id (by omega) (by omega)]
    by_cases c8 : (r.drop (runLen inB r)).head? = some 34
    · have hlt2 : runLen inB r < r.length := by
        rcases Nat.lt_or_ge (runLen inB r) r.length with h' | h'
        · exact h'
        · rw [List.drop_eq_nil_of_le h'] at c8; simp at c8
      refine pos (by omega) (pos (by omega) (pos ((hat _ (by omega)).2 c8) (pos (by omega) (pos (by omega) (pos (by omega) (pos (by omega) ?_))))))
      have := go ⟨runLen inB r + 2, some (4, ofL (r.take (runLen inB r))), none⟩ (x4 ++ [⟨4, a, ofL (r.take (runLen inB r))⟩]) x5 (by simp only [Lx.one, c1, c2, c3, c5, c7, c8]; rfl) (by simp [toks, cvT]) (by simp [diags])
      rw [show ((a + (runLen inB r + 2) : Nat) : Int) = ((a + 1 + runLen inB r : Nat) : Int) + 1 from by omega] at this
      exact this
    · have hg := go ⟨runLen inB r + 1, none, some 1⟩ x4 (x5 ++ [⟨a, 1, ⟨#[]⟩⟩]) (by simp only [Lx.one, c1, c2, c3, c5, c7, c8]; rfl) (by simp [toks]) (by simp [diags, cvD])
      rw [show ((a + (runLen inB r + 1) : Nat) : Int) = ((a + 1 + runLen inB r : Nat) : Int) from by omega] at hg
      by_cases hlt2 : a + 1 + runLen inB r < src.size
      · exact pos (by omega) (pos (by omega) (neg (fun h => c8 ((hat _ hlt2).1 h)) (pos (by omega) hg)))
      · exact neg (by omega) (pos (by omega) hg)
  refine neg (by rw [hb2]; exact fun h => c7 (beq_iff_eq.2 h)) ?_
  have late : ∀ q : Bool, Lib.hasPrefix (b :: r) [45, 62] = q → Ev (fun k => cupelref04_Lex.j1 k src x4 x5 (a : Int) (bt src a) ((a : Int) + 1) q) (outT src x4 (lexX src a).1, outD x5 (lexX src a).2) := by
    intro q hq
    refine Ev.step (fun k => by rw [cupelref04_Lex.j1]) ?_
    rw [wrap_id (x := (a : Int) + 1 + 1) (by omega) (by omega)]
    by_cases c9 : q = true
    · subst c9
      refine pos rfl (pos (by omega) ?_)
      have hg := go ⟨2, some (5, ofL [45, 62]), none⟩ (x4 ++ [⟨5, a, ⟨#[45, 62]⟩⟩]) x5 (by simp only [Lx.one, c1, c2, c3, c5, c7, hq]; rfl) (by simp [toks, cvT, ofL]) (by simp [diags])
      rw [show ((a + 2 : Nat) : Int) = (a : Int) + 1 + 1 from by omega] at hg
      exact hg
    · have c9' : q = false := by simpa using c9
      subst c9'
      refine neg c9 (bnd (in_set _ _ signB (by decide) (set_sign _ hbr.1 hbr.2)) ?_)
      have hbb : (bt src a).toNat.toUInt8 = b := by rw [hb2, Int.toNat_natCast]; simp
      have e1 := hext 1
      rw [show ((a + 1 : Nat) : Int) = (a : Int) + 1 from by omega] at e1
      rw [e1]
      by_cases c10 : 0 ≤ Lib.indexByte signs b
      · refine pos (by unfold signB; rw [hbb]; exact decide_eq_true c10) (pos (by omega) (pos (by omega) (pos (by omega) (pos (by omega) ?_))))
        have hg := go ⟨1, some (5, ofL [b]), none⟩ (x4 ++ [⟨5, a, ofL ((b :: r).take 1)⟩]) x5 (by simp only [Lx.one, c1, c2, c3, c5, c7, hq, c10]; rfl) (by simp [toks, cvT]) (by simp [diags])
        rw [show ((a + 1 : Nat) : Int) = (a : Int) + 1 from by omega] at hg
        exact hg
      · refine neg (by unfold signB; rw [hbb, decide_eq_false c10]; decide) (pos (by omega) ?_)
        have hg := go ⟨1, none, some 1⟩ x4 (x5 ++ [⟨a, 1, ⟨#[]⟩⟩]) (by simp only [Lx.one, c1, c2, c3, c5, c7, hq, c10]; rfl) (by simp [toks]) (by simp [diags, cvD])
        rw [show ((a + 1 : Nat) : Int) = (a : Int) + 1 from by omega] at hg
        exact hg
  have npre : ¬ (b = 45 ∧ r.head? = some 62) → Lib.hasPrefix (b :: r) [45, 62] = false := by
    intro h
    cases hq : Lib.hasPrefix (b :: r) [45, 62] with
    | false => rfl
    | true =>
      obtain ⟨t, ht⟩ := pre_two hq
      injection ht with h1 h2
      exact absurd ⟨h1, by rw [h2]; rfl⟩ h
  by_cases c11 : bt src a = 45
  · refine pos c11 ?_
    have hb45 : b = 45 := UInt8.toNat_inj.1 (by rw [show (45 : UInt8).toNat = 45 from rfl]; omega)
    by_cases c12 : a + 1 < src.size
    · refine pos (by omega) (pos (by omega) ?_)
      obtain ⟨b', e1, e2⟩ := bt_cons src (a + 1) c12
      rw [hr] at e1
      have e3 : bt src ((a : Int) + 1) = (b'.toNat : Int) := e2
      refine late _ ?_
      rw [e3]
      by_cases c13 : b' = 62
      · rw [c13] at e1 ⊢
        rw [e1, hb45]; rfl
      · rw [npre (by rintro ⟨_, h⟩; rw [e1] at h; exact c13 (Option.some.inj h))]
        exact (beq_eq_false_iff_ne.2 (fun h => c13 (UInt8.toNat_inj.1 (by rw [show (62 : UInt8).toNat = 62 from rfl]; omega)))).symm
    · refine neg (by omega) (late false (npre ?_))
      rintro ⟨_, h⟩
      rw [← hr, drop_end src (a + 1) (by omega)] at h
      simp at h
  · refine neg c11 (late false (npre ?_))
    rintro ⟨h, _⟩
    exact c11 (by rw [hb2, h]; rfl)

theorem ref_f (s : ByteArray) (hs : s.size ≤ 100000) : Ev (fun k => cupelref04_Lex.f k s) ((lexA s.data.toList).1.map cvT, (lexA s.data.toList).2.map cvD) := by
  refine val (ref_lex s hs _ 0 [] [] rfl (by omega) (by simp) (by simp)) ?_
  have hl : s.data.toList.length = s.size := size_data s
  simp only [outT, outD, lexX, List.drop_zero, lexA, List.nil_append, List.map_append, List.map_cons, List.map_nil, hl, cvT]
  rfl
end Go.Proofs.Ytonhfcjldbohbaa.M04
