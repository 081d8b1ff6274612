/- Plain lemmas of chapter 04: the reference's loops. -/
import Derived.Test.YtonhfcjldbohbaaPAx2
import Derived.Test.YtonhfcjldbohbaaEv
set_option linter.unusedVariables false
set_option linter.unusedSimpArgs false
namespace Go.Proofs.Ytonhfcjldbohbaa.M04
open Go.RowKit Go.Proofs.Ytonhfcjldbohbaa.PA Go.Proofs.YtonhfcjldbohbaaW.PrintWords Go.Proofs.YtonhfcjldbohbaaW.PrintLast Go.Proofs.Ytonhfcjldbohbaa.Pl Go.Proofs.Ytonhfcjldbohbaa.Lx

abbrev Tr := S70
abbrev Dr := S85
def cvT (t : Tk) : Tr := ⟨t.f0, t.f1, t.f2⟩
def cvD (t : Dg) : Dr := ⟨t.f0, t.f1, t.f2⟩

def hasB (s : ByteArray) (c : Int) : Bool := s.data.toList.any fun b => (b.toNat : Int) == c
theorem in_ev (c : Int) (s : ByteArray) (hs : s.size ≤ 100000) : ∀ (d i : Nat), s.size - i = d → i ≤ s.size → Ev (fun k => cupelref04_In.l0 k c s (i : Int)) ((s.data.toList.drop i).any fun b => (b.toNat : Int) == c) := by
  intro d
  induction d with
  | zero =>
    intro i hd hi
    refine Ev.step (fun k => by rw [cupelref04_In.l0]) ?_
    rw [drop_end s i (by omega)]
    exact neg (by omega) (now rfl)
  | succ d ih =>
    intro i hd hi
    obtain ⟨b, hb1, hb2⟩ := bt_cons s i (by omega)
    refine Ev.step (fun k => by rw [cupelref04_In.l0]) ?_
    rw [hb1, hb2, wrap_id (x := (i : Int) + 1) (by omega) (by omega), List.any_cons]
    refine pos (by omega) (pos (by omega) ?_)
    by_cases h : (b.toNat : Int) = c
    · rw [show ((b.toNat : Int) == c) = true from beq_iff_eq.2 h]
      exact pos h (now rfl)
    · rw [show ((b.toNat : Int) == c) = false from beq_eq_false_iff_ne.2 h]
      exact neg h (ih (i + 1) (by omega) (by omega))
theorem in_set (c : Int) (s : ByteArray) (p : Int → Bool) (hs : s.size ≤ 100000) (hc : hasB s c = p c) : Ev (fun k => cupelref04_In.f k c s) (p c) := by
  rw [← hc]
  exact in_ev c s hs _ 0 rfl (by omega)
theorem while_ev (src s : ByteArray) (p : Int → Bool) (hs : s.size ≤ 100000) (hp : ∀ c, 0 ≤ c → c ≤ 255 → hasB s c = p c) (h2 : src.size ≤ 140737488351232) : ∀ (d i : Nat), src.size - i = d → i ≤ src.size → Ev (fun k => cupelref04_While.f k src (i : Int) s) ((i + runLen p (src.data.toList.drop i) : Nat) : Int) := by
  intro d
  induction d with
  | zero =>
    intro i hd hi
    refine Ev.step (fun k => by unfold cupelref04_While.f; rw [cupelref04_While.l0]) ?_
    rw [drop_end src i (by omega)]
    exact neg (by omega) (now rfl)
  | succ d ih =>
    intro i hd hi
    obtain ⟨b, hb1, hb2⟩ := bt_cons src i (by omega)
    have hr := bt_range src i
    refine Ev.step (fun k => by unfold cupelref04_While.f; rw [cupelref04_While.l0]) ?_
    rw [wrap_id (x := (i : Int) + 1) (by omega) (by omega), hb1, runLen_cons]
    refine pos (by omega) (pos (by omega) (bnd (in_set _ s p hs (hp _ hr.1 hr.2)) ?_))
    rw [hb2]
    by_cases h : p (b.toNat : Int) = true
    · rw [if_pos h]
      exact pos h (val (ih (i + 1) (by omega) (by omega)) (by congr 1; omega))
    · rw [if_neg h]
      exact neg h (now rfl)
theorem until_ev (src s : ByteArray) (p : Int → Bool) (hs : s.size ≤ 100000) (hp : ∀ c, 0 ≤ c → c ≤ 255 → hasB s c = !p c) (h2 : src.size ≤ 140737488351232) : ∀ (d i : Nat), src.size - i = d → i ≤ src.size → Ev (fun k => cupelref04_Until.f k src (i : Int) s) ((i + runLen p (src.data.toList.drop i) : Nat) : Int) := by
  intro d
  induction d with
  | zero =>
    intro i hd hi
    refine Ev.step (fun k => by unfold cupelref04_Until.f; rw [cupelref04_Until.l0]) ?_
    rw [drop_end src i (by omega)]
    exact neg (by omega) (now rfl)
  | succ d ih =>
    intro i hd hi
    obtain ⟨b, hb1, hb2⟩ := bt_cons src i (by omega)
    have hr := bt_range src i
    refine Ev.step (fun k => by unfold cupelref04_Until.f; rw [cupelref04_Until.l0]) ?_
    rw [wrap_id (x := (i : Int) + 1) (by omega) (by omega), hb1, runLen_cons]
    refine pos (by omega) (pos (by omega) (bnd (in_set _ s (fun c => !p c) hs (hp _ hr.1 hr.2)) ?_))
    rw [hb2]
    by_cases h : p (b.toNat : Int) = true
    · rw [if_pos h]
      exact neg (by rw [h]; decide) (val (ih (i + 1) (by omega) (by omega)) (by congr 1; omega))
    · rw [if_neg h]
      exact pos (by simpa using h) (now rfl)
theorem word_ev (x : ByteArray) : Ev (fun k => cupelref04_Word.f k x) (wordL x.data.toList) := by
  have key : ∀ (l : List ByteArray), l.length ≤ 100 → ∀ (d i : Nat), l.length - i = d → i ≤ l.length → Ev (fun k => cupelref04_Word.l0 k x l (i : Int)) ((l.drop i).any fun w => w.toList = x.toList) := by
    intro l hl d
    induction d with
    | zero =>
      intro i hd hi
      refine Ev.step (fun k => by rw [cupelref04_Word.l0]) ?_
      rw [List.drop_eq_nil_of_le (by omega)]
      exact neg (by omega) (now rfl)
    | succ d ih =>
      intro i hd hi
      have hlt : i < l.length := by omega
      refine Ev.step (fun k => by rw [cupelref04_Word.l0]) ?_
      have e : rdOf ByteArray.empty l (i : Int) = l[i] := by simp [rdOf, List.getD_eq_getElem?_getD, List.getElem?_eq_getElem hlt]
      rw [List.drop_eq_getElem_cons hlt, List.any_cons, e, wrap_id (x := (i : Int) + 1) (by omega) (by omega)]
      refine pos (by omega) (pos (by omega) ?_)
      by_cases h : l[i].toList = x.toList
      · rw [show decide (l[i].toList = x.toList) = true from decide_eq_true h]
        exact pos h (now rfl)
      · rw [show decide (l[i].toList = x.toList) = false from decide_eq_false h]
        exact neg h (ih (i + 1) (by omega) (by omega))
  refine val (key _ (by decide) _ 0 rfl (by decide)) ?_
  rw [List.drop_zero]
  simp only [Lib.toList_data]
  generalize x.data.toList = l
  unfold wordL
  simp only [List.any_cons, List.any_nil, Bool.or_false]
  have f : ∀ (m : List UInt8) (b : Bool), ((if l = m then true else false) || b) = if l = m then true else b := fun m b => by
    by_cases h : l = m
    · simp [h]
    · simp [h]
  have g : ∀ (m : List UInt8), decide (m = l) = if l = m then true else false := fun m => by
    by_cases h : l = m
    · simp [h]
    · simp [h, Ne.symm h]
  simp only [g]
  simp only [f]

/-! the sets of bytes -/
theorem byte_of {P : Int → Prop} (h : ∀ n, n < 256 → P (n : Nat)) : ∀ c, 0 ≤ c → c ≤ 255 → P c := fun c h0 h1 => by
  have := h c.toNat (by omega)
  rwa [show ((c.toNat : Nat) : Int) = c by omega] at this
theorem set_bl : ∀ c, 0 ≤ c → c ≤ 255 → hasB ⟨#[32, 9, 10, 13]⟩ c = blB c := byte_of (by decide +kernel)
theorem set_nl : ∀ c, 0 ≤ c → c ≤ 255 → hasB ⟨#[10]⟩ c = !nlB c := byte_of (by decide +kernel)
theorem set_beg : ∀ c, 0 ≤ c → c ≤ 255 → hasB ⟨#[97, 98, 99, 100, 101, 102, 103, 104, 105, 106, 107, 108, 109, 110, 111, 112, 113, 114, 115, 116, 117, 118, 119, 120, 121, 122, 95]⟩ c = begB c := byte_of (by decide +kernel)
theorem set_go : ∀ c, 0 ≤ c → c ≤ 255 → hasB ⟨#[97, 98, 99, 100, 101, 102, 103, 104, 105, 106, 107, 108, 109, 110, 111, 112, 113, 114, 115, 116, 117, 118, 119, 120, 121, 122, 95, 48, 49, 50, 51, 52, 53, 54, 55, 56, 57]⟩ c = goB c := byte_of (by decide +kernel)
theorem set_dig : ∀ c, 0 ≤ c → c ≤ 255 → hasB ⟨#[48, 49, 50, 51, 52, 53, 54, 55, 56, 57]⟩ c = digB c := byte_of (by decide +kernel)
theorem set_in : ∀ c, 0 ≤ c → c ≤ 255 → hasB ⟨#[34, 10]⟩ c = !inB c := byte_of (by decide +kernel)
def signB (c : Int) : Bool := decide (0 ≤ Lib.indexByte signs c.toNat.toUInt8)
theorem set_sign : ∀ c, 0 ≤ c → c ≤ 255 → hasB ⟨#[61, 58, 59, 44, 46, 40, 41, 123, 125, 124, 63]⟩ c = signB c := byte_of (by decide +kernel)

end Go.Proofs.Ytonhfcjldbohbaa.M04
