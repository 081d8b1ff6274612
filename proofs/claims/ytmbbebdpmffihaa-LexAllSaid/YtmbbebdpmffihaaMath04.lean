/- Plain lemmas of chapter 04: the reference's loops; that it lexes as the scanner does. -/
import Derived.Test.YtmbbebdpmffihaaPAx5
import Derived.Test.YtmbbebdpmffihaaEv
set_option linter.unusedVariables false
set_option linter.unusedSimpArgs false
namespace Go.Proofs.Ytmbbebdpmffihaa.M04
open Go.RowKit Go.Proofs.Ytmbbebdpmffihaa.PA Go.Proofs.YtmbbebdpmffihaaW.PrintWords Go.Proofs.YtmbbebdpmffihaaW.PrintLast Go.Proofs.Ytmbbebdpmffihaa.Pl Go.Proofs.Ytmbbebdpmffihaa.Lx

abbrev Tr := S34
abbrev Dr := S51
def cvT (t : Tk) : Tr := ⟨t.f0, t.f1, t.f2⟩
def cvD (t : Dg) : Dr := ⟨t.f0, t.f1, t.f2⟩

theorem alive_t : cupellaw04_alive.f = some true := by
  have h : lex_Lex.f ⟨#[108, 101, 116, 32, 120, 61, 49, 59]⟩ = some (lexA [108, 101, 116, 32, 120, 61, 49, 59]) := rfl
  unfold cupellaw04_alive.f
  rw [h]
  decide +kernel

/-! In, While, Until, Word -/
def hasB (s : ByteArray) (c : Int) : Bool := s.data.toList.any fun b => (b.toNat : Int) == c
theorem in_ev (c : Int) (s : ByteArray) (hs : s.size ≤ 100000) : ∀ (d i : Nat), s.size - i = d → i ≤ s.size → Ev (fun k => cupelref04_In.l0 k c s (i : Int)) ((s.data.toList.drop i).any fun b => (b.toNat : Int) == c) := by
  intro d
  induction d with
  | zero =>
    intro i hd hi
    refine Ev.step (fun k => by rw [cupelref04_In.l0]) ?_
    rw [drop_end s i (by omega)]
    exact neg (by omega) (now rfl)
  | succ d ih =>
    intro i hd hi
    obtain ⟨b, hb1, hb2⟩ := bt_cons s i (by omega)
    refine Ev.step (fun k => by rw [cupelref04_In.l0]) ?_
    rw [hb1, hb2, wrap_id (x := (i : Int) + 1) (by omega) (by omega), List.any_cons]
    refine pos (by omega) (pos (by omega) ?_)
    by_cases h : (b.toNat : Int) = c
    · rw [show ((b.toNat : Int) == c) = true from beq_iff_eq.2 h]
      exact pos h (now rfl)
    · rw [show ((b.toNat : Int) == c) = false from beq_eq_false_iff_ne.2 h]
      exact neg h (ih (i + 1) (by omega) (by omega))
theorem in_set (c : Int) (s : ByteArray) (p : Int → Bool) (hs : s.size ≤ 100000) (hc : hasB s c = p c) : Ev (fun k => cupelref04_In.f k c s) (p c) := by
  rw [← hc]
  exact in_ev c s hs _ 0 rfl (by omega)
theorem while_ev (src s : ByteArray) (p : Int → Bool) (hs : s.size ≤ 100000) (hp : ∀ c, 0 ≤ c → c ≤ 255 → hasB s c = p c) (h2 : src.size ≤ 140737488351232) : ∀ (d i : Nat), src.size - i = d → i ≤ src.size → Ev (fun k => cupelref04_While.f k src (i : Int) s) ((i + runLen p (src.data.toList.drop i) : Nat) : Int) := by
  intro d
  induction d with
  | zero =>
    intro i hd hi
    refine Ev.step (fun k => by unfold cupelref04_While.f; rw [cupelref04_While.l0]) ?_
    rw [drop_end src i (by omega)]
    exact neg (by omega) (now rfl)
  | succ d ih =>
    intro i hd hi
    obtain ⟨b, hb1, hb2⟩ := bt_cons src i (by omega)
    have hr := bt_range src i
    refine Ev.step (fun k => by unfold cupelref04_While.f; rw [cupelref04_While.l0]) ?_
    rw [wrap_id (x := (i : Int) + 1) (by omega) (by omega), hb1, runLen_cons]
    refine pos (by omega) (pos (by omega) (bnd (in_set _ s p hs (hp _ hr.1 hr.2)) ?_))
    rw [hb2]
    by_cases h : p (b.toNat : Int) = true
    · rw [if_pos h]
      exact pos h (val (ih (i + 1) (by omega) (by omega)) (by congr 1; omega))
    · rw [if_neg h]
      exact neg h (now rfl)
theorem until_ev (src s : ByteArray) (p : Int → Bool) (hs : s.size ≤ 100000) (hp : ∀ c, 0 ≤ c → c ≤ 255 → hasB s c = !p c) (h2 : src.size ≤ 140737488351232) : ∀ (d i : Nat), src.size - i = d → i ≤ src.size → Ev (fun k => cupelref04_Until.f k src (i : Int) s) ((i + runLen p (src.data.toList.drop i) : Nat) : Int) := by
  intro d
  induction d with
  | zero =>
    intro i hd hi
    refine Ev.step (fun k => by unfold cupelref04_Until.f; rw [cupelref04_Until.l0]) ?_
    rw [drop_end src i (by omega)]
    exact neg (by omega) (now rfl)
  | succ d ih =>
    intro i hd hi
    obtain ⟨b, hb1, hb2⟩ := bt_cons src i (by omega)
    have hr := bt_range src i
    refine Ev.step (fun k => by unfold cupelref04_Until.f; rw [cupelref04_Until.l0]) ?_
    rw [wrap_id (x := (i : Int) + 1) (by omega) (by omega), hb1, runLen_cons]
    refine pos (by omega) (pos (by omega) (bnd (in_set _ s (fun c => !p c) hs (hp _ hr.1 hr.2)) ?_))
    rw [hb2]
    by_cases h : p (b.toNat : Int) = true
    · rw [if_pos h]
      exact neg (by rw [h]; decide) (val (ih (i + 1) (by omega) (by omega)) (by congr 1; omega))
    · rw [if_neg h]
      exact pos (by simpa using h) (now rfl)
theorem word_ev (x : ByteArray) : Ev (fun k => cupelref04_Word.f k x) (wordL x.data.toList) := by
  have key : ∀ (l : List ByteArray), l.length ≤ 100 → ∀ (d i : Nat), l.length - i = d → i ≤ l.length → Ev (fun k => cupelref04_Word.l0 k x l (i : Int)) ((l.drop i).any fun w => w.toList = x.toList) := by
    intro l hl d
    induction d with
    | zero =>
      intro i hd hi
      refine Ev.step (fun k => by rw [cupelref04_Word.l0]) ?_
      rw [List.drop_eq_nil_of_le (by omega)]
      exact neg (by omega) (now rfl)
    | succ d ih =>
      intro i hd hi
      have hlt : i < l.length := by omega
      refine Ev.step (fun k => by rw [cupelref04_Word.l0]) ?_
      have e : rdOf ByteArray.empty l (i : Int) = l[i] := by simp [rdOf, List.getD_eq_getElem?_getD, List.getElem?_eq_getElem hlt]
      rw [List.drop_eq_getElem_cons hlt, List.any_cons, e, wrap_id (x := (i : Int) + 1) (by omega) (by omega)]
      refine pos (by omega) (pos (by omega) ?_)
      by_cases h : l[i].toList = x.toList
      · rw [show decide (l[i].toList = x.toList) = true from decide_eq_true h]
        exact pos h (now rfl)
      · rw [show decide (l[i].toList = x.toList) = false from decide_eq_false h]
        exact neg h (ih (i + 1) (by omega) (by omega))
  refine val (key _ (by decide) _ 0 rfl (by decide)) ?_
  rw [List.drop_zero]
  simp only [Lib.toList_data]
  generalize x.data.toList = l
  unfold wordL
  simp only [List.any_cons, List.any_nil, Bool.or_false]
  have f : ∀ (m : List UInt8) (b : Bool), ((if l = m then true else false) || b) = if l = m then true else b := fun m b => by
    by_cases h : l = m
    · simp [h]
    · simp [h]
  have g : ∀ (m : List UInt8), decide (m = l) = if l = m then true else false := fun m => by
    by_cases h : l = m
    · simp [h]
    · simp [h, Ne.symm h]
  simp only [g]
  simp only [f]

/-! the sets of bytes -/
theorem byte_of {P : Int → Prop} (h : ∀ n, n < 256 → P (n : Nat)) : ∀ c, 0 ≤ c → c ≤ 255 → P c := fun c h0 h1 => by
  have := h c.toNat (by omega)
  rwa [show ((c.toNat : Nat) : Int) = c by omega] at this
theorem set_bl : ∀ c, 0 ≤ c → c ≤ 255 → hasB ⟨#[32, 9, 10, 13]⟩ c = blB c := byte_of (by decide +kernel)
theorem set_nl : ∀ c, 0 ≤ c → c ≤ 255 → hasB ⟨#[10]⟩ c = !nlB c := byte_of (by decide +kernel)
theorem set_beg : ∀ c, 0 ≤ c → c ≤ 255 → hasB ⟨#[97, 98, 99, 100, 101, 102, 103, 104, 105, 106, 107, 108, 109, 110, 111, 112, 113, 114, 115, 116, 117, 118, 119, 120, 121, 122, 95]⟩ c = begB c := byte_of (by decide +kernel)
theorem set_go : ∀ c, 0 ≤ c → c ≤ 255 → hasB ⟨#[97, 98, 99, 100, 101, 102, 103, 104, 105, 106, 107, 108, 109, 110, 111, 112, 113, 114, 115, 116, 117, 118, 119, 120, 121, 122, 95, 48, 49, 50, 51, 52, 53, 54, 55, 56, 57]⟩ c = goB c := byte_of (by decide +kernel)
theorem set_dig : ∀ c, 0 ≤ c → c ≤ 255 → hasB ⟨#[48, 49, 50, 51, 52, 53, 54, 55, 56, 57]⟩ c = digB c := byte_of (by decide +kernel)
theorem set_in : ∀ c, 0 ≤ c → c ≤ 255 → hasB ⟨#[34, 10]⟩ c = !inB c := byte_of (by decide +kernel)
def signB (c : Int) : Bool := decide (0 ≤ Lib.indexByte signs c.toNat.toUInt8)
theorem set_sign : ∀ c, 0 ≤ c → c ≤ 255 → hasB ⟨#[61, 58, 59, 44, 46, 40, 41, 123, 125, 124, 63]⟩ c = signB c := byte_of (by decide +kernel)

theorem drop2 {l : List UInt8} {a n : Nat} {b : UInt8} {r : List UInt8} (h : l.drop a = b :: r) : (b :: r).drop n = l.drop (a + n) := by rw [← h, List.drop_drop]
def lexX (src : ByteArray) (a : Nat) : List Tk × List Dg := lexR a (src.data.toList.drop a)
theorem lexX_end (src : ByteArray) : lexX src src.size = ([], []) := by rw [lexX, drop_end src _ (Nat.le_refl _)]; rfl
theorem lexX_step (src : ByteArray) (a : Nat) (b : UInt8) (r : List UInt8) (h : src.data.toList.drop a = b :: r) (s : Step) (hs : one (b :: r) = s) : lexX src a = (toks s a ++ (lexX src (a + s.n)).1, diags s a ++ (lexX src (a + s.n)).2) := by
  subst hs
  unfold lexX
  rw [h, lexR_cons, drop2 h]
  norm_cast

def outT (src : ByteArray) (x4 : List Tr) (l : List Tk) : List Tr := x4 ++ (l.map cvT ++ [⟨6, src.size, ⟨#[]⟩⟩])
def outD (x5 : List Dr) (l : List Dg) : List Dr := x5 ++ l.map cvD

theorem ref_lex (src : ByteArray) (hs : src.size ≤ 100000) : ∀ (d a : Nat) (x4 : List Tr) (x5 : List Dr), src.size - a = d → a ≤ src.size → x4.length ≤ a → x5.length ≤ a →
    Ev (fun k => cupelref04_Lex.l0 k src x4 x5 (a : Int)) (outT src x4 (lexX src a).1, outD x5 (lexX src a).2) := by
  intro d
  induction d using Nat.strongRecOn with
  | ind d ih =>
  intro a x4 x5 hd ha h4 h5
  refine Ev.step (fun k => by rw [cupelref04_Lex.l0]) ?_
  by_cases hlt : a < src.size
  case neg =>
    obtain rfl : a = src.size := by omega
    rw [lexX_end]
    exact neg (by omega) (pos (by omega) (now (by simp [outT, outD])))
  obtain ⟨b, hb1, hb2⟩ := bt_cons src a hlt
  have hbr := bt_range src (a : Int)
  have hlen : (src.data.toList.drop (a + 1)).length = src.size - (a + 1) := by simp
  have hbd := one_bounds b (src.data.toList.drop (a + 1))
  have hext : ∀ n : Nat, src.extract (a : Int).toNat (((a + n : Nat) : Int)).toNat = ofL ((b :: src.data.toList.drop (a + 1)).take n) := fun n => by rw [show (((a + n : Nat) : Int)) = (a : Int) + (n : Int) from by omega, ext_cut, hb1]
  have hext1 : ∀ n : Nat, src.extract ((a + 1 : Nat) : Int).toNat (((a + 1 + n : Nat) : Int)).toNat = ofL ((src.data.toList.drop (a + 1)).take n) := fun n => by rw [show (((a + 1 + n : Nat) : Int)) = ((a + 1 : Nat) : Int) + (n : Int) from by omega, ext_cut]
  have hat : ∀ n : Nat, a + 1 + n < src.size → (bt src ((a + 1 + n : Nat) : Int) = 34 ↔ ((src.data.toList.drop (a + 1)).drop n).head? = some 34) := fun n hn => by
    obtain ⟨b', e1, e2⟩ := bt_cons src (a + 1 + n) hn
    rw [List.drop_drop, e1, e2, List.head?_cons]
    constructor
    · intro h
      rw [show b' = 34 from UInt8.toNat_inj.1 (by rw [show (34 : UInt8).toNat = 34 from rfl]; omega)]
    · intro h
      rw [Option.some.inj h]; rfl
  generalize hr : src.data.toList.drop (a + 1) = r at *
  have go : ∀ (s : Step) (y4 : List Tr) (y5 : List Dr), one (b :: r) = s → y4 = x4 ++ (toks s a).map cvT → y5 = x5 ++ (diags s a).map cvD → Ev (fun k => cupelref04_Lex.l0 k src y4 y5 ((a + s.n : Nat) : Int)) (outT src x4 (lexX src a).1, outD x5 (lexX src a).2) := by
    intro s y4 y5 hs e4 e5
    have ht := toks_le s a
    have hdg := diags_le s a
    have hb := hs ▸ hbd
    rw [List.length_cons] at hb
    refine val (ih (src.size - (a + s.n)) (by omega) (a + s.n) y4 y5 rfl (by omega) (by rw [e4, List.length_append, List.length_map]; omega) (by rw [e5, List.length_append, List.length_map]; omega)) ?_
    rw [lexX_step src a b r hb1 s hs, e4, e5]
    simp [outT, outD, List.append_assoc]
  rw [wrap_id (x := (a : Int) + 1) (by omega) (by omega)]
  refine pos (by omega) (pos (by omega) (bnd (in_set _ _ blB (by decide) (set_bl _ hbr.1 hbr.2)) ?_))
  by_cases c1 : blB b.toNat = true
  · refine pos (by rw [hb2]; exact c1) ?_
    exact go ⟨1, none, none⟩ _ _ (by simp only [one, c1]; rfl) (by simp [toks]) (by simp [diags])
  refine neg (by rw [hb2]; exact c1) ?_
  by_cases c2 : ((b.toNat : Int) == 35) = true
  · refine pos (by rw [hb2]; exact beq_iff_eq.1 c2) (bnd (until_ev src _ nlB (by decide) set_nl (by omega) _ a rfl ha) ?_)
    rw [hb1]
    exact go ⟨runLen nlB (b :: r), none, none⟩ _ _ (by simp only [one, c1, c2]; rfl) (by simp [toks]) (by simp [diags])
  refine neg (by rw [hb2]; exact fun h => c2 (beq_iff_eq.2 h)) ?_
  refine bnd (in_set _ _ begB (by decide) (set_beg _ hbr.1 hbr.2)) ?_
  by_cases c3 : begB b.toNat = true
  · have hrl := runLen_le goB (b :: r)
    rw [List.length_cons] at hrl
    refine pos (by rw [hb2]; exact c3) (bnd (while_ev src _ goB (by decide) set_go (by omega) _ a rfl ha) ?_)
    rw [hb1, hext]
    refine pos (by omega) (pos (by omega) (bnd (word_ev _) ?_))
    rw [ofL_data]
    by_cases c4 : wordL ((b :: r).take (runLen goB (b :: r))) = true
    · refine pos c4 (pos (by omega) ?_)
      exact go ⟨runLen goB (b :: r), some (2, ofL ((b :: r).take (runLen goB (b :: r)))), none⟩ _ _ (by simp only [one, c1, c2, c3, c4]; rfl) (by simp [toks, cvT]) (by simp [diags])
    · refine neg c4 (pos (by omega) ?_)
      exact go ⟨runLen goB (b :: r), some (1, ofL ((b :: r).take (runLen goB (b :: r)))), none⟩ _ _ (by simp only [one, c1, c2, c3, c4]; rfl) (by simp [toks, cvT]) (by simp [diags])
  refine neg (by rw [hb2]; exact c3) (bnd (in_set _ _ digB (by decide) (set_dig _ hbr.1 hbr.2)) ?_)
  by_cases c5 : digB b.toNat = true
  · have hrl := runLen_le digB (b :: r)
    rw [List.length_cons] at hrl
    refine pos (by rw [hb2]; exact c5) (bnd (while_ev src _ digB (by decide) set_dig (by omega) _ a rfl ha) ?_)
    rw [hb1, hext, wrap_id (by omega) (by omega)]
    refine pos (by omega) (pos (by omega) ?_)
    by_cases c6 : runLen digB (b :: r) ≤ 18
    · refine neg (by omega) (pos (by omega) ?_)
      exact go ⟨runLen digB (b :: r), some (3, ofL ((b :: r).take (runLen digB (b :: r)))), none⟩ _ _ (by simp only [one, c1, c2, c3, c5, c6]; rfl) (by simp [toks, cvT]) (by simp [diags])
    · refine pos (by omega) (pos (by omega) (pos (by omega) ?_))
      exact go ⟨runLen digB (b :: r), some (3, ofL [48]), some 13⟩ _ _ (by simp only [one, c1, c2, c3, c5, c6]; rfl) (by simp [toks, cvT, ofL]) (by simp [diags, cvD])
  refine neg (by rw [hb2]; exact c5) ?_
  by_cases c7 : ((b.toNat : Int) == 34) = true
  · have hrl := runLen_le inB r
    have hu := until_ev src ⟨#[34, 10]⟩ inB (by decide) set_in (by omega) _ (a + 1) rfl (by omega)
    rw [hr] at hu
    refine pos (by rw [hb2]; exact beq_iff_eq.1 c7) (bnd (a := ((a + 1 + runLen inB r : Nat) : Int)) (by exact_mod_cast hu) ?_)
    rw [show (a : Int) + 1 = ((a + 1 : Nat) : Int) from by omega, hext1, wrap_id (by omega) (by omega)]
    by_cases c8 : (r.drop (runLen inB r)).head? = some 34
    · have hlt2 : runLen inB r < r.length := by
        rcases Nat.lt_or_ge (runLen inB r) r.length with h' | h'
        · exact h'
        · rw [List.drop_eq_nil_of_le h'] at c8; simp at c8
      refine pos (by omega) (pos (by omega) (pos ((hat _ (by omega)).2 c8) (pos (by omega) (pos (by omega) (pos (by omega) (pos (by omega) ?_))))))
      have := go ⟨runLen inB r + 2, some (4, ofL (r.take (runLen inB r))), none⟩ (x4 ++ [⟨4, a, ofL (r.take (runLen inB r))⟩]) x5 (by simp only [one, c1, c2, c3, c5, c7, c8]; rfl) (by simp [toks, cvT]) (by simp [diags])
      rw [show ((a + (runLen inB r + 2) : Nat) : Int) = ((a + 1 + runLen inB r : Nat) : Int) + 1 from by omega] at this
      exact this
    · have hg := go ⟨runLen inB r + 1, none, some 1⟩ x4 (x5 ++ [⟨a, 1, ⟨#[]⟩⟩]) (by simp only [one, c1, c2, c3, c5, c7, c8]; rfl) (by simp [toks]) (by simp [diags, cvD])
      rw [show ((a + (runLen inB r + 1) : Nat) : Int) = ((a + 1 + runLen inB r : Nat) : Int) from by omega] at hg
      by_cases hlt2 : a + 1 + runLen inB r < src.size
      · exact pos (by omega) (pos (by omega) (neg (fun h => c8 ((hat _ hlt2).1 h)) (pos (by omega) hg)))
      · exact neg (by omega) (pos (by omega) hg)
  refine neg (by rw [hb2]; exact fun h => c7 (beq_iff_eq.2 h)) ?_
  have late : ∀ q : Bool, Lib.hasPrefix (b :: r) [45, 62] = q → Ev (fun k => cupelref04_Lex.j1 k src x4 x5 (a : Int) (bt src a) ((a : Int) + 1) q) (outT src x4 (lexX src a).1, outD x5 (lexX src a).2) := by
    intro q hq
    refine Ev.step (fun k => by rw [cupelref04_Lex.j1]) ?_
    rw [wrap_id (x := (a : Int) + 1 + 1) (by omega) (by omega)]
    by_cases c9 : q = true
    · subst c9
      refine pos rfl (pos (by omega) ?_)
      have hg := go ⟨2, some (5, ofL [45, 62]), none⟩ (x4 ++ [⟨5, a, ⟨#[45, 62]⟩⟩]) x5 (by simp only [one, c1, c2, c3, c5, c7, hq]; rfl) (by simp [toks, cvT, ofL]) (by simp [diags])
      rw [show ((a + 2 : Nat) : Int) = (a : Int) + 1 + 1 from by omega] at hg
      exact hg
    · have c9' : q = false := by simpa using c9
      subst c9'
      refine neg c9 (bnd (in_set _ _ signB (by decide) (set_sign _ hbr.1 hbr.2)) ?_)
      have hbb : (bt src a).toNat.toUInt8 = b := by rw [hb2, Int.toNat_natCast]; simp
      have e1 := hext 1
      rw [show ((a + 1 : Nat) : Int) = (a : Int) + 1 from by omega] at e1
      rw [e1]
      by_cases c10 : 0 ≤ Lib.indexByte signs b
      · refine pos (by unfold signB; rw [hbb]; exact decide_eq_true c10) (pos (by omega) (pos (by omega) (pos (by omega) (pos (by omega) ?_))))
        have hg := go ⟨1, some (5, ofL [b]), none⟩ (x4 ++ [⟨5, a, ofL ((b :: r).take 1)⟩]) x5 (by simp only [one, c1, c2, c3, c5, c7, hq, c10]; rfl) (by simp [toks, cvT]) (by simp [diags])
        rw [show ((a + 1 : Nat) : Int) = (a : Int) + 1 from by omega] at hg
        exact hg
      · refine neg (by unfold signB; rw [hbb, decide_eq_false c10]; decide) (pos (by omega) ?_)
        have hg := go ⟨1, none, some 1⟩ x4 (x5 ++ [⟨a, 1, ⟨#[]⟩⟩]) (by simp only [one, c1, c2, c3, c5, c7, hq, c10]; rfl) (by simp [toks]) (by simp [diags, cvD])
        rw [show ((a + 1 : Nat) : Int) = (a : Int) + 1 from by omega] at hg
        exact hg
  have npre : ¬ (b = 45 ∧ r.head? = some 62) → Lib.hasPrefix (b :: r) [45, 62] = false := by
    intro h
    cases hq : Lib.hasPrefix (b :: r) [45, 62] with
    | false => rfl
    | true =>
      obtain ⟨t, ht⟩ := pre_two hq
      injection ht with h1 h2
      exact absurd ⟨h1, by rw [h2]; rfl⟩ h
  by_cases c11 : bt src a = 45
  · refine pos c11 ?_
    have hb45 : b = 45 := UInt8.toNat_inj.1 (by rw [show (45 : UInt8).toNat = 45 from rfl]; omega)
    by_cases c12 : a + 1 < src.size
    · refine pos (by omega) (pos (by omega) ?_)
      obtain ⟨b', e1, e2⟩ := bt_cons src (a + 1) c12
      rw [hr] at e1
      have e3 : bt src ((a : Int) + 1) = (b'.toNat : Int) := e2
      refine late _ ?_
      rw [e3]
      by_cases c13 : b' = 62
      · rw [c13] at e1 ⊢
        rw [e1, hb45]; rfl
      · rw [npre (by rintro ⟨_, h⟩; rw [e1] at h; exact c13 (Option.some.inj h))]
        exact (beq_eq_false_iff_ne.2 (fun h => c13 (UInt8.toNat_inj.1 (by rw [show (62 : UInt8).toNat = 62 from rfl]; omega)))).symm
    · refine neg (by omega) (late false (npre ?_))
      rintro ⟨_, h⟩
      rw [← hr, drop_end src (a + 1) (by omega)] at h
      simp at h
  · refine neg c11 (late false (npre ?_))
    rintro ⟨h, _⟩
    exact c11 (by rw [hb2, h]; rfl)

end Go.Proofs.Ytmbbebdpmffihaa.M04
