/- Several texts of this claim in one: FlA, FlB, FlC, FlD, FlE, FlF, FlG, FlH, FlI, FlJ. -/
import Derived.Test.YtonhfcjldbohbaaPAx2
import Derived.Maps.OwnSet
import Derived.Maps.Views
import Derived.Sort.KeysCollected
import Derived.Laws.MakeOwn
import Derived.Deep.OwnRows
import Derived.RegionTactic
import Derived.StillTactics
import Derived.StillTailTactics
import Derived.RangeFuncBox
import Derived.WalkSpells
import Derived.Test.YtonhfcjldbohbaaLay
import Derived.Test.YtonhfcjldbohbaaRng
import Derived.RegionIn
import Derived.Maps.AppendAt
import Derived.Sort.MapsRangeIn
import Derived.Sort.OwnSorted
namespace Go.Proofs.Ytonhfcjldbohbaa.Fi
open Go Go.RowKit Go.ChangeMaps Go.MapKept Go.Proofs.Ytonhfcjldbohbaa.PA Go.Proofs.YtonhfcjldbohbaaW.PrintWords
set_option linter.unusedVariables false
set_option linter.unusedSimpArgs false

abbrev Fl := S55
instance lawfulBytes : LawfulBEq ByteArray where
  eq_of_beq {a b} h := by
    have h1 : (a.data == b.data) = true := h
    have h2 := eq_of_beq h1
    cases a; cases b
    exact congrArg _ h2
  rfl {a} := by
    show (a.data == a.data) = true
    simp
theorem ba_ext {a b : ByteArray} (h : a.data.toList = b.data.toList) : a = b := by
  cases a; cases b; simp at h; simp [h]
/-- A name's bytes. -/
def nmL (f : Fl) : List UInt8 := f.f0.data.toList
structure Tb where
  most : Int
  rev : Int
  l : List Fl
def here (f : Fl) : Bool := !f.f4
def gone (f : Fl) : Bool := f.f4
def get (sel : Fl → Bool) (l : List Fl) (k : List UInt8) : Option Fl := l.find? (fun f => decide (nmL f = k) && sel f)
def setL (f : Fl) : List Fl → List Fl
  | [] => [f]
  | x :: l => if nmL x < nmL f then x :: setL f l else if nmL x = nmL f then f :: l else f :: x :: l
def Sorted (l : List Fl) : Prop := l.Pairwise (fun a b => nmL a < nmL b)
theorem lt_irr (a : List UInt8) : ¬ a < a := List.lt_irrefl a
theorem lt_tr {a b c : List UInt8} (h : a < b) (k : b < c) : a < c := List.lt_trans h k
theorem lt_ne {a b : List UInt8} (h : a < b) : a ≠ b := fun e => lt_irr b (e ▸ h)
theorem lt_of_not {a b : List UInt8} (h : ¬ a < b) (k : a ≠ b) : b < a := by
  have h1 : b ≤ a := h
  rcases Decidable.em (b < a) with h2 | h2
  · exact h2
  · exact absurd (List.le_antisymm (show a ≤ b from h2) h1) k
theorem mem_setL {f : Fl} : ∀ {l : List Fl} {x : Fl}, x ∈ setL f l → x = f ∨ x ∈ l
  | [], x, h => by simp [setL] at h; exact .inl h
  | y :: l, x, h => by
    unfold setL at h
    split at h
    · rcases List.mem_cons.1 h with h | h
      · exact .inr (by simp [h])
      · rcases mem_setL h with h | h
        · exact .inl h
        · exact .inr (by simp [h])
    · split at h
      · rcases List.mem_cons.1 h with h | h
        · exact .inl h
        · exact .inr (by simp [h])
      · rcases List.mem_cons.1 h with h | h
        · exact .inl h
        · exact .inr h
theorem sorted_setL {f : Fl} : ∀ {l : List Fl}, Sorted l → Sorted (setL f l)
  | [], _ => by simp [setL, Sorted]
  | y :: l, h => by
    have h' : (∀ z ∈ l, nmL y < nmL z) ∧ Sorted l := List.pairwise_cons.1 h
    unfold setL
    split
    · rename_i h1
      refine List.pairwise_cons.2 ⟨fun z hz => ?_, sorted_setL h'.2⟩
      rcases mem_setL hz with rfl | hz
      · exact h1
      · exact h'.1 z hz
    · split
      · rename_i h1 h2
        exact List.pairwise_cons.2 ⟨fun z hz => h2 ▸ h'.1 z hz, h'.2⟩
      · rename_i h1 h2
        have h3 := lt_of_not h1 h2
        refine List.pairwise_cons.2 ⟨fun z hz => ?_, h⟩
        rcases List.mem_cons.1 hz with rfl | hz
        · exact h3
        · exact lt_tr h3 (h'.1 z hz)
theorem get_none_of_lt {sel : Fl → Bool} {l : List Fl} {k : List UInt8} (h : ∀ x ∈ l, k < nmL x) : get sel l k = none := by
  unfold get
  rw [List.find?_eq_none]
  intro x hx
  have hne : ¬ nmL x = k := fun e => lt_irr k (by have := h x hx; rw [e] at this; exact this)
  simp [hne]
theorem get_cons (sel : Fl → Bool) (x : Fl) (l : List Fl) (k : List UInt8) : get sel (x :: l) k = if nmL x = k ∧ sel x = true then some x else get sel l k := by
  unfold get
  rw [List.find?_cons]
  by_cases h : nmL x = k ∧ sel x = true
  · simp [h]
  · rw [if_neg h]
    have : (decide (nmL x = k) && sel x) = false := by
      rcases Decidable.em (nmL x = k) with h1 | h1
      · have : sel x = false := by simpa [h1] using h
        simp [this]
      · simp [h1]
    rw [this]
theorem get_setL {sel : Fl → Bool} {f : Fl} : ∀ {l : List Fl}, Sorted l → ∀ k, get sel (setL f l) k = if nmL f = k then (if sel f = true then some f else none) else get sel l k
  | [], _, k => by
    rw [setL, get_cons]
    by_cases h : nmL f = k <;> by_cases hs : sel f = true <;> simp [h, hs, get]
  | y :: l, h, k => by
    have h' : (∀ z ∈ l, nmL y < nmL z) ∧ Sorted l := List.pairwise_cons.1 h
    unfold setL
    split
    · rename_i h1
      rw [get_cons, get_setL h'.2 k, get_cons]
      by_cases hk : nmL f = k
      · rw [if_neg (fun e => lt_ne h1 (e.1.trans hk.symm)), if_pos hk, if_pos hk]
      · rw [if_neg hk, if_neg hk]
    · split
      · rename_i h1 h2
        rw [get_cons, get_cons]
        by_cases hk : nmL f = k
        · rw [if_pos hk]
          have hn : get sel l k = none := get_none_of_lt (fun x hx => by rw [← hk, ← h2]; exact h'.1 x hx)
          by_cases hs : sel f = true
          · simp [hk, hs]
          · simp [hk, hs, hn]
        · rw [if_neg hk, if_neg (fun e => hk e.1), if_neg (fun e => hk (h2.symm.trans e.1))]
      · rename_i h1 h2
        have h3 := lt_of_not h1 h2
        have hn : ∀ z ∈ y :: l, nmL f < nmL z := fun z hz => by
          rcases List.mem_cons.1 hz with rfl | hz
          · exact h3
          · exact lt_tr h3 (h'.1 z hz)
        rw [get_cons]
        by_cases hk : nmL f = k
        · have hn2 : get sel (y :: l) k = none := get_none_of_lt (fun x hx => by rw [← hk]; exact hn x hx)
          by_cases hs : sel f = true
          · simp [hk, hs]
          · simp [hk, hs, hn2]
        · rw [if_neg hk, if_neg (fun e => hk e.1)]
theorem get_some {sel : Fl → Bool} {l : List Fl} {k : List UInt8} {f : Fl} (h : get sel l k = some f) : f ∈ l ∧ nmL f = k ∧ sel f = true := by
  unfold get at h
  have h1 := List.mem_of_find?_eq_some h
  have h2 := List.find?_some h
  simp at h2
  exact ⟨h1, h2.1, h2.2⟩
/-- In a sorted list a name stands once. -/
theorem get_of_mem {sel : Fl → Bool} {l : List Fl} (hs : Sorted l) {f : Fl} (h : f ∈ l) (hf : sel f = true) : get sel l (nmL f) = some f := by
  induction l with
  | nil => simp at h
  | cons y l ih =>
    have h' : (∀ z ∈ l, nmL y < nmL z) ∧ Sorted l := List.pairwise_cons.1 hs
    rw [get_cons]
    rcases List.mem_cons.1 h with rfl | h
    · simp [hf]
    · rw [if_neg (fun e => lt_ne (h'.1 f h) e.1)]
      exact ih h'.2 h
def names (sel : Fl → Bool) (l : List Fl) : List (List UInt8) := (l.filter sel).map nmL
theorem names_sorted {sel : Fl → Bool} {l : List Fl} (h : Sorted l) : (names sel l).Pairwise (fun a b => a < b) :=
  List.pairwise_map.2 (h.sublist List.filter_sublist)
theorem names_nodup {sel : Fl → Bool} {l : List Fl} (h : Sorted l) : (names sel l).Nodup :=
  (names_sorted h).imp (fun {a b} h e => lt_ne h e)
theorem mem_names {sel : Fl → Bool} {l : List Fl} (hs : Sorted l) (k : List UInt8) : k ∈ names sel l ↔ (get sel l k).isSome = true := by
  unfold names
  rw [List.mem_map]
  constructor
  · rintro ⟨f, hf, rfl⟩
    obtain ⟨h1, h2⟩ := List.mem_filter.1 hf
    rw [get_of_mem hs h1 h2]; rfl
  · intro h
    obtain ⟨f, hf⟩ := Option.isSome_iff_exists.1 h
    obtain ⟨h1, h2, h3⟩ := get_some hf
    exact ⟨f, List.mem_filter.2 ⟨h1, h3⟩, h2⟩
theorem names_merge {sel : Fl → Bool} {l : List Fl} (hs : Sorted l) {ss : List (List UInt8)} (h : ss.Perm (names sel l)) : ss.mergeSort leB = names sel l := by
  rw [mergeSort_of_perm h]
  exact List.mergeSort_of_pairwise ((names_sorted hs).imp (fun {a b} h => by simp [leB]; exact fun e => lt_irr _ (lt_tr h e)))

/-! ### maps -/
/-- How a file reads. -/
def elemF : Value → Option (DataW Unit × List MemPlace)
  | .agg cs => match cs.toList with
    | [.string n, .string s, .int .i64 t, .int .i64 u] => some (.agg [.lit (.string n.data.toList), .lit (.string s.data.toList), .lit (.int .i64 t), .lit (.int .i64 u)], [])
    | _ => none
  | _ => none
def vF (f : Fl) : Value := .agg #[.string f.f0, .string f.f1, .int .i64 f.f2, .int .i64 f.f3]
def dF (f : Fl) : DataW Unit := .agg [.lit (.string f.f0.data.toList), .lit (.string f.f1.data.toList), .lit (.int .i64 f.f2), .lit (.int .i64 f.f3)]
theorem elemF_mk (f : Fl) : elemF (vF f) = some (dF f, []) := rfl
theorem elemF_inv {v : Value} {f : Fl} {ps : List MemPlace} (h : elemF v = some (dF f, ps)) : v = vF f := by
  unfold elemF at h
  split at h
  · rename_i cs
    split at h
    · rename_i n s t u hcs
      simp only [dF, Option.some.injEq, Prod.mk.injEq, DataW.agg.injEq, List.cons.injEq, DataW.lit.injEq, Lit.string.injEq, Lit.int.injEq] at h
      obtain ⟨⟨h1, h2, h3, h4, _⟩, _⟩ := h
      have hc : cs = #[.string n, .string s, .int .i64 t, .int .i64 u] := by
        have := congrArg List.toArray hcs
        simpa using this
      rw [hc]
      unfold vF
      rw [ba_ext h1, ba_ext h2, h3.2, h4.2]
    · exact absurd h (by simp)
  · exact absurd h (by simp)

/-- A map shows what a function tells. -/
def MapV (R : Value → Option (DataW Unit × List MemPlace)) (dat : Fl → DataW Unit) (w : World) (b : Nat) (g : List UInt8 → Option Fl) : Prop :=
  ∃ (D : DataW Unit) (n : Nat), w.ownsMap Try.prog 9 R b n D ∧ ∀ k, (∀ f, g k = some f → Maps.has D (.string k) = true ∧ ∀ z, D.atKey (.string k) z = dat f) ∧ (g k = none → Maps.has D (.string k) = false)
section
variable {R : Value → Option (DataW Unit × List MemPlace)} {dat : Fl → DataW Unit} {w : World} {b : Nat} {g : List UInt8 → Option Fl}
theorem MapV.heap (h : MapV R dat w b g) {w' : World} (hk : w'.heap[b]? = w.heap[b]?) : MapV R dat w' b g := by
  obtain ⟨D, n, ⟨es, clock, hb, r⟩, hx⟩ := h
  exact ⟨D, n, ⟨es, clock, hk.trans hb, r⟩, hx⟩
theorem MapV.lt (h : MapV R dat w b g) : b < w.heap.size := by
  obtain ⟨D, n, ho, _⟩ := h
  exact ho.lt
theorem MapV.obj (h : MapV R dat w b g) : ∃ es clock, w.heap[b]? = some (.map es clock) := by
  obtain ⟨D, n, ⟨es, clock, hb, r⟩, hx⟩ := h
  exact ⟨es, clock, hb⟩
theorem MapV.new (R : Value → Option (DataW Unit × List MemPlace)) (dat : Fl → DataW Unit) (w : World) : MapV R dat (w.alloc (.map #[] 0)) w.heap.size (fun _ => none) :=
  ⟨.map [], 0, World.ownsMap_made w Try.prog 9 R, fun k => ⟨fun f h => by simp at h, fun _ => rfl⟩⟩
/-- n bounds as tight as may be. -/
theorem tight {D : DataW Unit} {n : Nat} (h : w.ownsMap Try.prog 9 R b n D) : w.ownsMap Try.prog 9 R b (Maps.size D) D := by
  obtain ⟨es, clock, hb, F, hs, rfl⟩ := h
  exact ⟨es, clock, hb, F, by simp [Maps.size, length_sorted], rfl⟩
theorem MapV.has {D : DataW Unit} (hx : ∀ k, (∀ f, g k = some f → Maps.has D (.string k) = true ∧ ∀ z, D.atKey (.string k) z = dat f) ∧ (g k = none → Maps.has D (.string k) = false)) (k : List UInt8) : Maps.has D (.string k) = (g k).isSome := by
  cases h : g k with
  | none => exact (hx k).2 h
  | some f => exact ((hx k).1 f h).1
theorem keys_perm {D : DataW Unit} {n : Nat} (ho : w.ownsMap Try.prog 9 R b n D) {ss : List (List UInt8)} (hnd : ss.Nodup) (hm : ∀ k, k ∈ ss ↔ Maps.has D (.string k) = true) : ss.Perm (strKeys D) := by
  obtain ⟨es, hD, hpw, _⟩ := ho.entries (Maps.string_keyed Try.underlying9)
  obtain ⟨es', hD', hko⟩ := ho.keysOf
  obtain rfl : es = es' := by rw [hD] at hD'; simpa using hD'
  subst hD
  exact perm_strKeys hpw (fun p hp => by obtain ⟨v, hv⟩ := hko p hp; obtain ⟨x, _, hx, _⟩ := Maps.keyOf_str Try.underlying9 hv; exact ⟨x, hx⟩) hnd hm
theorem size_strKeys (D : DataW Unit) : (strKeys D).length = Maps.size D := by
  unfold strKeys Maps.size
  split <;> simp
theorem MapV.size {D : DataW Unit} {n : Nat} {sel : Fl → Bool} {l : List Fl} (hs : Sorted l) (ho : w.ownsMap Try.prog 9 R b n D) (hx : ∀ k, (∀ f, get sel l k = some f → Maps.has D (.string k) = true ∧ ∀ z, D.atKey (.string k) z = dat f) ∧ (get sel l k = none → Maps.has D (.string k) = false)) : Maps.size D = (l.filter sel).length := by
  have := (keys_perm ho (names_nodup (sel := sel) hs) (fun k => by rw [MapV.has hx k, mem_names hs])).length_eq
  rw [size_strKeys] at this
  rw [← this]; simp [names]
end
theorem ne_str {a b : List UInt8} (h : ¬ a = b) : Lit.string b ≠ Lit.string a := fun e => h (Lit.string.inj e).symm
/-- A function, turned at one key. -/
def upd (g : List UInt8 → Option Fl) (k : List UInt8) (o : Option Fl) : List UInt8 → Option Fl := fun x => if k = x then o else g x
theorem MapV.look {w : World} {b : Nat} {g : List UInt8 → Option Fl} (h : MapV elemF dF w b g) (n : ByteArray) (hn : n.size ≤ 9223372036854775807) :
    (Instr.lookup 60 (.map (some b)) (.string n) true).run Try.prog w = .ok (.tuple #[vF ((g n.data.toList).getD ⟨⟨#[]⟩, ⟨#[]⟩, 0, 0, false⟩), .bool (g n.data.toList).isSome]) w := by
  obtain ⟨D, m, ho, hx⟩ := h
  obtain ⟨v, ps, hrun, hv⟩ := ho.look_ok (Maps.string_keyed Try.underlying9) Try.underlying60 (Try.zeroValue32 w) (elemF_mk ⟨⟨#[]⟩, ⟨#[]⟩, 0, 0, false⟩) (WideMaps.keyOf_string_mk Try.underlying9 (by unfold maxLen; omega))
  rw [hrun, MapV.has hx]
  cases hg : g n.data.toList with
  | none =>
    have hh := (hx n.data.toList).2 hg
    rw [Maps.atKey_of_not_has hh] at hv
    rw [elemF_inv hv]; rfl
  | some f =>
    rw [((hx n.data.toList).1 f hg).2] at hv
    rw [elemF_inv hv]; rfl
theorem MapV.look1 {w : World} {b : Nat} {g : List UInt8 → Option Fl} (h : MapV elemF dF w b g) (n : ByteArray) (hn : n.size ≤ 9223372036854775807) (f : Fl) (hg : g n.data.toList = some f) :
    (Instr.lookup 60 (.map (some b)) (.string n) false).run Try.prog w = .ok (vF f) w := by
  obtain ⟨D, m, ho, hx⟩ := h
  obtain ⟨v, ps, hrun, hv⟩ := ho.lookup (Maps.string_keyed Try.underlying9) Try.underlying60 (Try.zeroValue32 w) (elemF_mk ⟨⟨#[]⟩, ⟨#[]⟩, 0, 0, false⟩) (WideMaps.keyOf_string_mk Try.underlying9 (by unfold maxLen; omega))
  rw [((hx n.data.toList).1 f hg).2] at hv
  rw [hrun, elemF_inv hv]
/-- Only one block has turned. -/
structure One (b : Nat) (w w' : World) : Prop where
  os : w'.os = w.os
  tape : w'.tape = w.tape
  output : w'.output = w.output
  size : w'.heap.size = w.heap.size
  block : ∀ k, k ≠ b → w'.heap[k]? = w.heap[k]?
theorem turned_one {w w' : World} {b : Nat} (h : w.mapTurned w' b) : One b w w' := by
  obtain ⟨es, clock, es', clock', hb, rfl⟩ := h
  refine ⟨rfl, rfl, rfl, by simp [ChangeMaps.setBlock], fun k hk => ?_⟩
  exact heap_setBlock_other hb _ hk
theorem MapV.store {R : Value → Option (DataW Unit × List MemPlace)} {dat : Fl → DataW Unit} {w : World} {b : Nat} {l : List Fl} {sel : Fl → Bool} (hs : Sorted l) (hl : l.length ≤ 1000000) (h : MapV R dat w b (get sel l)) {t e : TypeId} (ht : (Try.prog).underlying t = some (.map 9 e)) (f : Fl) (hn : f.f0.size ≤ 9223372036854775807) (v : Value) (hv : R v = some (dat f, [])) :
    ∃ w', (Instr.mapUpdate t (.map (some b)) (.string f.f0) v).run Try.prog w = .ok () w' ∧ One b w w' ∧ MapV R dat w' b (upd (get sel l) (nmL f) (some f)) := by
  obtain ⟨D, m, ho, hx⟩ := h
  have hsz := MapV.size hs ho hx
  have hle := List.length_filter_le sel l
  obtain ⟨w', hrun, ho', ht'⟩ := (tight ho).store (Maps.string_keyed Try.underlying9) ht (by unfold maxLen; omega) (WideMaps.keyOf_string_mk Try.underlying9 (s := f.f0) (by unfold maxLen; omega)) hv
  refine ⟨w', hrun, turned_one ht', _, _, ho', fun k => ?_⟩
  have hkey : WideAt.IsKeyLit (.string f.f0.data.toList) := (Maps.string_keyed Try.underlying9).key (WideMaps.keyOf_string_mk Try.underlying9 (s := f.f0) (by unfold maxLen; omega))
  unfold upd
  by_cases hk : nmL f = k
  · subst hk
    rw [if_pos rfl]
    refine ⟨fun f' e => ?_, fun e => by simp at e⟩
    obtain rfl := Option.some.inj e
    exact ⟨Maps.has_put_same ho.isMap hkey _, fun z => Maps.atKey_put_same ho.isMap hkey _ z⟩
  · rw [if_neg hk]
    have hne : (Lit.string k) ≠ .string f.f0.data.toList := ne_str hk
    exact ⟨fun f' e => ⟨(Maps.has_put_other hne _).trans ((hx k).1 f' e).1, fun z => (Maps.atKey_put_other hne _ z).trans (((hx k).1 f' e).2 z)⟩, fun e => (Maps.has_put_other hne _).trans ((hx k).2 e)⟩
theorem MapV.drop {R : Value → Option (DataW Unit × List MemPlace)} {dat : Fl → DataW Unit} {w : World} {b : Nat} {g : List UInt8 → Option Fl} (h : MapV R dat w b g) {t e : TypeId} (ht : (Try.prog).underlying t = some (.map 9 e)) (n : ByteArray) (hn : n.size ≤ 9223372036854775807) (ty : TypeId) :
    ∃ w', (Builtin.delete_ #[t, 9] ty #[.map (some b), .string n]).run Try.prog w = .ok (.tuple #[]) w' ∧ One b w w' ∧ MapV R dat w' b (upd g n.data.toList none) := by
  obtain ⟨D, m, ho, hx⟩ := h
  obtain ⟨w', hrun, ho', ht'⟩ := ho.drop (Maps.string_keyed Try.underlying9) ht (WideMaps.keyOf_string_mk Try.underlying9 (s := n) (by unfold maxLen; omega)) ty
  refine ⟨w', hrun, turned_one ht', _, _, ho', fun k => ?_⟩
  unfold upd
  by_cases hk : n.data.toList = k
  · subst hk
    rw [if_pos rfl]
    exact ⟨fun f' e => by simp at e, fun _ => Maps.has_del_same⟩
  · rw [if_neg hk]
    have hne : (Lit.string k) ≠ .string n.data.toList := ne_str hk
    exact ⟨fun f' e => ⟨(Maps.has_del_other hne).trans ((hx k).1 f' e).1, fun z => (Maps.atKey_del_other hne z).trans (((hx k).1 f' e).2 z)⟩, fun e => (Maps.has_del_other hne).trans ((hx k).2 e)⟩
theorem MapV.len {w : World} {b : Nat} {l : List Fl} {sel : Fl → Bool} {R : Value → Option (DataW Unit × List MemPlace)} {dat : Fl → DataW Unit} (hs : Sorted l) (h : MapV R dat w b (get sel l)) {t e : TypeId} (ht : (Try.prog).underlying t = some (.map 9 e)) (ty : TypeId) :
    (Builtin.len_ #[t] ty #[.map (some b)]).run Try.prog w = .ok (.int .i64 (l.filter sel).length) w := by
  obtain ⟨D, m, ho, hx⟩ := h
  rw [ho.len ht ty, MapV.size hs ho hx]
theorem MapV.congr {R : Value → Option (DataW Unit × List MemPlace)} {dat : Fl → DataW Unit} {w : World} {b : Nat} {g g' : List UInt8 → Option Fl} (h : MapV R dat w b g) (e : ∀ k, g' k = g k) : MapV R dat w b g' := by
  obtain ⟨D, m, ho, hx⟩ := h
  exact ⟨D, m, ho, fun k => by rw [e k]; exact hx k⟩
end Go.Proofs.Ytonhfcjldbohbaa.Fi

namespace Go.Proofs.Ytonhfcjldbohbaa.Fi
open Go Go.RowKit Go.ChangeMaps Go.MapKept Go.Proofs.Ytonhfcjldbohbaa.PA Go.Proofs.YtonhfcjldbohbaaW.PrintWords Go.Proofs.YtonhfcjldbohbaaW.PrintLast Go.Proofs.YtonhfcjldbohbaaW.PrintMore
set_option linter.unusedVariables false
set_option linter.unusedSimpArgs false

/-- Only the blocks of S, and new ones, are others. -/
structure Ch (B : Nat) (S : Nat → Prop) (w w' : World) : Prop where
  below : Below B w w'
  keep : ∀ k, k < w.heap.size → ¬ S k → w'.heap[k]? = w.heap[k]?
theorem Ch.refl (B : Nat) (S : Nat → Prop) (w : World) : Ch B S w w := ⟨Below.refl _ _, fun _ _ _ => rfl⟩
theorem Ch.trans {B : Nat} {S S' : Nat → Prop} {a b c : World} (h : Ch B S a b) (k : Ch B S' b c) (hs : ∀ x, S' x → S x ∨ a.heap.size ≤ x) : Ch B S a c :=
  ⟨h.below.trans k.below, fun x hx hn => (k.keep x (Nat.lt_of_lt_of_le hx h.below.size) (fun e => (hs x e).elim hn (fun e' => by omega))).trans (h.keep x hx hn)⟩
theorem Ch.alloc {B : Nat} {S : Nat → Prop} {a b : World} (h : Ch B S a b) (hB : B ≤ b.heap.size) (o : Obj) : Ch B S a (b.alloc o) :=
  ⟨h.below.alloc hB o, fun x hx hn => (Below.heap_alloc b o x (Nat.lt_of_lt_of_le hx h.below.size)).trans (h.keep x hx hn)⟩
theorem Ch.setCell {B : Nat} {S : Nat → Prop} {a b : World} (h : Ch B S a b) {p : Addr} (hB : B ≤ p.block) (hp : S p.block ∨ a.heap.size ≤ p.block) (u : Value) : Ch B S a (b.setCell p u) :=
  ⟨h.below.setCell hB u, fun x hx hn => (Below.heap_setCell b p u x (fun e => by subst e; exact hp.elim hn (fun e' => by omega))).trans (h.keep x hx hn)⟩
theorem Ch.drew {B : Nat} {S : Nat → Prop} {a b : World} (h : Ch B S a b) : Ch B S a b.drew := ⟨h.below.drew, h.keep⟩
theorem Ch.drewN {B : Nat} {S : Nat → Prop} {a b : World} (h : Ch B S a b) (n : Nat) : Ch B S a (b.drewN n) := ⟨pw_below_drewN h.below n, h.keep⟩
theorem Ch.one {B : Nat} {S : Nat → Prop} {a b c : World} {m : Nat} (h : Ch B S a b) (k : One m b c) (hB : B ≤ m) (hs : S m ∨ a.heap.size ≤ m) : Ch B S a c :=
  ⟨⟨k.os.trans h.below.os, k.tape.trans h.below.tape, k.output.trans h.below.output, by rw [k.size]; exact h.below.size, fun x hx => (k.block x (by omega)).trans (h.below.block x hx)⟩, fun x hx hn => (k.block x (fun e => by subst e; exact hs.elim hn (fun e => by omega))).trans (h.keep x hx hn)⟩
theorem Ch.of_below {B : Nat} {a b : World} (S : Nat → Prop) (h : Below a.heap.size a b) (hB : B ≤ a.heap.size) : Ch B S a b := ⟨h.mono hB, fun x hx _ => h.block x hx⟩
theorem Ch.mono {B : Nat} {S S' : Nat → Prop} {a b : World} (h : Ch B S a b) (hs : ∀ x, S x → S' x ∨ a.heap.size ≤ x) : Ch B S' a b :=
  ⟨h.below, fun x hx hn => h.keep x hx (fun e => (hs x e).elim hn (fun e' => by omega))⟩
theorem blk_set {w : World} {g t : Nat} {cs : Array Value} (h : w.heap[g]? = some (.cells cs t (0, 0))) (i : Nat) (u : Value) : (w.setCell ⟨g, i, none⟩ u).heap[g]? = some (.cells (cs.setIfInBounds i u) t (0, 0)) := by
  simp [World.setCell, Array.getElem?_modify, h]

/-! ### what may be a file -/
def nameOk (n : ByteArray) : Bool := (lex_Name.f n).getD false
def rightV (n s : ByteArray) (tier : Int) : Int := if n.size ≤ 32 ∧ nameOk n = true ∧ 0 ≤ tier ∧ tier ≤ 2 then (if s.size > 65536 then 5 else 0) else 1
theorem lex_Name_some (n : ByteArray) (h : n.size ≤ 1000000000) : lex_Name.f n = some (nameOk n) := by
  have : ∃ b, lex_Name.f n = some b := by
    unfold lex_Name.f lex_Lex.f
    rw [if_pos h]
    simp only [Option.bind_some]
    split
    · split
      · split
        · exact ⟨_, rfl⟩
        · exact ⟨_, rfl⟩
      · rename_i h1 h2; exact absurd (by omega) h2
    · exact ⟨_, rfl⟩
  obtain ⟨b, hb⟩ := this
  unfold nameOk
  rw [hb]; rfl
theorem right_f (n s : ByteArray) (tier : Int) : files_right.f 1 n s tier = some (rightV n s tier) := by
  unfold files_right.f rightV
  have j1 : files_right.j0 1 s true = some 1 := rfl
  have j0 : files_right.j0 1 s false = if s.size > 65536 then some 5 else some 0 := by
    show (if false = true then (some 1) else (if (s.size : Int) > 65536 then (some 5) else (some 0))) = _
    rw [if_neg Bool.false_ne_true]
    by_cases h : s.size > 65536
    · rw [if_pos h, if_pos (by omega)]
    · rw [if_neg h, if_neg (by omega)]
  by_cases h : n.size ≤ 32
  · rw [if_neg (by omega), lex_Name_some n (by omega)]
    simp only [Option.bind_some]
    by_cases h1 : nameOk n = true
    · rw [if_pos h1]
      by_cases h2 : tier < 0
      · rw [if_pos h2, j1, if_neg (by omega)]
      · rw [if_neg h2]
        by_cases h3 : tier ≤ 2
        · rw [decide_eq_false (by omega), j0]
          have e : (n.size ≤ 32 ∧ nameOk n = true ∧ 0 ≤ tier ∧ tier ≤ 2) := ⟨h, h1, by omega, h3⟩
          rw [if_pos e]
          split <;> rfl
        · rw [decide_eq_true (by omega), j1, if_neg (by omega)]
    · rw [if_neg h1, j1, if_neg (fun e => h1 e.2.1)]
  · rw [if_pos (by omega), j1, if_neg (by omega)]
theorem right_any (n s : ByteArray) (tier : Int) (w : World) :
    Calls Try.prog 24 #[.string n, .string s, .int .i64 tier] w fun e w' => e = .returned (.int .i64 (rightV n s tier)) ∧ Below w.heap.size w w' :=
  files_right.calls 1 n s tier _ w (right_f n s tier)

/-! ### the table -/
structure TOk (T : Tb) : Prop where
  sorted : Sorted T.l
  most0 : 0 ≤ T.most
  most : T.most ≤ 1099511627776
  rev0 : 0 ≤ T.rev
  rev : T.rev ≤ T.most
  cnt : (T.l.filter here).length ≤ 64
  len : T.l.length ≤ 1000000
  el : ∀ f ∈ T.l, f.f0.size ≤ 1000000 ∧ f.f1.size ≤ 65536 ∧ 0 ≤ f.f2 ∧ f.f2 ≤ 2 ∧ 0 ≤ f.f3 ∧ f.f3 ≤ T.rev
def dI (f : Fl) : DataW Unit := .lit (.int .i64 f.f3)
structure TS (B : Nat) (S : Nat → Prop) (t bm bd : Nat) (T : Tb) (w : World) : Prop where
  ok : TOk T
  sB : ∀ k, S k → B ≤ k ∧ k < w.heap.size
  st : S t
  sm : S bm
  sd : S bd
  ne : bm ≠ bd
  ht : w.heap[t]? = some (.cells #[.int .i64 T.most, .int .i64 T.rev, .map (some bm), .map (some bd)] 63 (0, 0))
  hm : MapV elemF dF w bm (get here T.l)
  hd : MapV (plainElem Try.prog 3) dI w bd (get gone T.l)
/-- A table in its state. -/
def TB (B : Nat) (S : Nat → Prop) (t : Nat) (T : Tb) (w : World) : Prop := ∃ bm bd, TS B S t bm bd T w
theorem TS.heap {B : Nat} {S : Nat → Prop} {t bm bd : Nat} {T : Tb} {w w' : World} (h : TS B S t bm bd T w) (hz : w.heap.size ≤ w'.heap.size) (hk : ∀ k, S k → w'.heap[k]? = w.heap[k]?) : TS B S t bm bd T w' :=
  { h with
    sB := fun k hk' => ⟨(h.sB k hk').1, Nat.lt_of_lt_of_le (h.sB k hk').2 hz⟩
    ht := (hk t h.st).trans h.ht
    hm := h.hm.heap (hk bm h.sm)
    hd := h.hd.heap (hk bd h.sd) }
theorem TB.heap {B : Nat} {S : Nat → Prop} {t : Nat} {T : Tb} {w w' : World} (h : TB B S t T w) (hz : w.heap.size ≤ w'.heap.size) (hk : ∀ k, S k → w'.heap[k]? = w.heap[k]?) : TB B S t T w' := by
  obtain ⟨bm, bd, h⟩ := h
  exact ⟨bm, bd, h.heap hz hk⟩
theorem TS.nm {B : Nat} {S : Nat → Prop} {t bm bd : Nat} {T : Tb} {w : World} (h : TS B S t bm bd T w) : t ≠ bm := fun e => by
  obtain ⟨es, c, hb⟩ := h.hm.obj
  rw [← e, h.ht] at hb
  cases hb
theorem TS.nd {B : Nat} {S : Nat → Prop} {t bm bd : Nat} {T : Tb} {w : World} (h : TS B S t bm bd T w) : t ≠ bd := fun e => by
  obtain ⟨es, c, hb⟩ := h.hd.obj
  rw [← e, h.ht] at hb
  cases hb
theorem TB.below {B : Nat} {S : Nat → Prop} {t : Nat} {T : Tb} {w w' : World} (h : TB B S t T w) (hb : Below w.heap.size w w') : TB B S t T w' := by
  obtain ⟨bm, bd, h⟩ := h
  exact ⟨bm, bd, h.heap hb.size (fun k hk => hb.block k (h.sB k hk).2)⟩

set_option maxHeartbeats 4000000 in
set_option maxRecDepth 100000 in
theorem new_bad (most : Int) (hm : most < 0 ∨ 1099511627776 < most) (w : World) :
    Calls Try.prog 9 #[.int .i64 most] w fun e w' => e = .returned (.tuple #[.pointer none, .int .i64 1]) ∧ w' = w := by
  by_cases h : most < 0
  · have c1 : decide (most < 0) = true := decide_eq_true h
    clear h hm
    go_enter Try.func9, Try.ntmps9
    go_wp2
    go_returns
    exact ⟨rfl, rfl⟩
  · have c1 : decide (most < 0) = false := decide_eq_false h
    have c2 : decide (1099511627776 < most) = true := decide_eq_true (hm.resolve_left h)
    clear h hm
    go_enter Try.func9, Try.ntmps9
    go_wp2
    go_returns
    exact ⟨rfl, rfl⟩
def NewS (w : World) (k : Nat) : Prop := w.heap.size ≤ k ∧ k < w.heap.size + 3
set_option maxHeartbeats 4000000 in
set_option maxRecDepth 100000 in
theorem new_any (most : Int) (hm : 0 ≤ most ∧ most ≤ 1099511627776) (w : World) :
    Calls Try.prog 9 #[.int .i64 most] w fun e w' => e = .returned (.tuple #[.pointer (some ⟨w.heap.size + 2, 0, none⟩), .int .i64 0]) ∧ TB w.heap.size (NewS w) (w.heap.size + 2) ⟨most, 0, []⟩ w' ∧ Below w.heap.size w w' := by
  have c1 : decide (most < 0) = false := decide_eq_false (by omega)
  have c2 : decide (1099511627776 < most) = false := decide_eq_false (by omega)
  have hmm := @run_makeMap Try.prog
  go_enter Try.func9, Try.ntmps9
  go_wp2
  go_returns
  have hb1 : Below w.heap.size w (((w.alloc (.map #[] 0)).alloc (.map #[] 0)).alloc (.cells #[.int .i64 most, .int .i64 0, .map (some w.heap.size), .map (some (w.heap.size + 1))] 63)) := (((Below.refl _ w).alloc (Nat.le_refl _) _).alloc (by simp) _).alloc (by simp; omega) _
  refine ⟨rfl, ⟨w.heap.size, w.heap.size + 1, ?_⟩, hb1⟩
  refine { ok := ⟨List.Pairwise.nil, hm.1, hm.2, Int.le_refl _, hm.1, by simp, by simp, by simp⟩, sB := fun k hk => ⟨hk.1, by have := hk.2; simp; omega⟩, st := ⟨by omega, by omega⟩, sm := ⟨by omega, by omega⟩, sd := ⟨by omega, by omega⟩, ne := by omega, ht := ?_, hm := ?_, hd := ?_ }
  · have := heap_alloc_new ((w.alloc (.map #[] 0)).alloc (.map #[] 0)) (.cells #[.int .i64 most, .int .i64 0, .map (some w.heap.size), .map (some (w.heap.size + 1))] 63)
    simpa using this
  · exact ((MapV.new elemF dF w).heap ((Below.heap_alloc _ _ _ (by simp; omega)).trans (Below.heap_alloc _ _ _ (by simp)))).congr (fun k => rfl)
  · have := MapV.new (plainElem Try.prog 3) dI (w.alloc (.map #[] 0))
    rw [World.size_alloc] at this
    exact (this.heap (Below.heap_alloc _ _ _ (by simp))).congr (fun k => rfl)
theorem rev_any {B : Nat} {S : Nat → Prop} {t : Nat} {T : Tb} {w : World} (h : TB B S t T w) :
    Calls Try.prog 13 #[.pointer (some ⟨t, 0, none⟩)] w fun e w' => e = .returned (.int .i64 T.rev) ∧ w' = w := by
  obtain ⟨bm, bd, h⟩ := h
  have c1 : w.cell? ⟨t, 1, none⟩ = some (.int .i64 T.rev) := by rw [Lib.cell_of_heap h.ht]; rfl
  clear h
  go_enter Try.func13, Try.ntmps13
  go_wp2
  go_ret
  exact ⟨rfl, rfl⟩
end Go.Proofs.Ytonhfcjldbohbaa.Fi

namespace Go.Proofs.Ytonhfcjldbohbaa.Fi
open Go Go.RowKit Go.ChangeMaps Go.MapKept Go.Proofs.Ytonhfcjldbohbaa.PA Go.Proofs.YtonhfcjldbohbaaW.PrintWords Go.Proofs.YtonhfcjldbohbaaW.PrintLast Go.Proofs.YtonhfcjldbohbaaW.PrintMore
set_option linter.unusedVariables false
set_option linter.unusedSimpArgs false

abbrev nil0 : ByteArray := ⟨#[]⟩
def findT (T : Tb) (n : ByteArray) : Fl × Int := match get here T.l n.data.toList with
  | some f => (f, 0)
  | none => (⟨nil0, nil0, 0, 0, false⟩, 3)
def findV (T : Tb) (n : ByteArray) : Value := .tuple #[vF (findT T n).1, .int .i64 (findT T n).2]
set_option maxHeartbeats 4000000 in
set_option maxRecDepth 100000 in
theorem find_any {B : Nat} {S : Nat → Prop} {t : Nat} {T : Tb} {w : World} (h : TB B S t T w) (n : ByteArray) (hn : n.size ≤ 9223372036854775807) :
    Calls Try.prog 18 #[.pointer (some ⟨t, 0, none⟩), .string n] w fun e w' => e = .returned (findV T n) ∧ Below w.heap.size w w' := by
  obtain ⟨bm, bd, h⟩ := h
  have hlt := (h.sB t h.st).2
  have hlm := (h.sB bm h.sm).2
  have hm2 : ∀ o, MapV elemF dF (w.alloc o) bm (get here T.l) := fun o => h.hm.heap (Below.heap_alloc _ _ _ hlm)
  have c1 : ∀ o, (w.alloc o).cell? ⟨t, 2, none⟩ = some (.map (some bm)) := fun o => by rw [World.cell?_of_block (Below.heap_alloc w o t hlt), Lib.cell_of_heap h.ht]; rfl
  have c1 := c1 (.cells #[.string ⟨#[]⟩, .string ⟨#[]⟩, .int .i64 0, .int .i64 0] 32)
  have hlook := (hm2 (.cells #[.string ⟨#[]⟩, .string ⟨#[]⟩, .int .i64 0, .int .i64 0] 32)).look n hn
  clear hm2 h
  unfold findV findT
  cases hg : get here T.l n.data.toList with
  | none =>
    rw [hg] at hlook
    simp only [vF, Option.getD, Option.isSome] at hlook
    have HG := Aside0.mk hg
    clear hg
    go_enter Try.func18, Try.ntmps18
    go_wp2
    go_returns
    exact ⟨rfl, by repeat (first | exact Below.refl _ _ | (refine Below.alloc ?_ (by simp) _) | (refine Below.setCell ?_ (by simp) _) | apply Below.drew)⟩
  | some f =>
    rw [hg] at hlook
    simp only [vF, Option.getD, Option.isSome] at hlook
    have HG := Aside0.mk hg
    clear hg
    go_enter Try.func18, Try.ntmps18
    go_wp2
    go_returns
    exact ⟨rfl, by repeat (first | exact Below.refl _ _ | (refine Below.alloc ?_ (by simp) _) | (refine Below.setCell ?_ (by simp) _) | apply Below.drew)⟩

def putT (T : Tb) (n s : ByteArray) (tier : Int) : Tb × Int :=
  if rightV n s tier ≠ 0 then (T, rightV n s tier)
  else match get here T.l n.data.toList with
    | none => if 64 ≤ (T.l.filter here).length then (T, 4) else if T.most ≤ T.rev then (T, 6) else (⟨T.most, T.rev + 1, setL ⟨n, s, tier, T.rev + 1, false⟩ T.l⟩, 0)
    | some f => if (f.f1.toList == s.toList && f.f2 == tier) = true then (T, 0) else if T.most ≤ T.rev then (T, 6) else (⟨T.most, T.rev + 1, setL ⟨n, s, tier, if (f.f1.toList == s.toList) = true then f.f3 else T.rev + 1, false⟩ T.l⟩, 0)
def PutPost (B : Nat) (S : Nat → Prop) (t : Nat) (w : World) (r : Tb × Int) (e : Ending) (w' : World) : Prop := e = .returned (.int .i64 r.2) ∧ TB B S t r.1 w' ∧ Ch B S w w'
set_option maxHeartbeats 4000000 in
set_option maxRecDepth 100000 in
theorem put_bad {B : Nat} {S : Nat → Prop} {t : Nat} {T : Tb} {w : World} (hB : B ≤ w.heap.size) (h : TB B S t T w) (n s : ByteArray) (tier : Int) (hr : rightV n s tier ≠ 0) :
    Calls Try.prog 10 #[.pointer (some ⟨t, 0, none⟩), .string n, .string s, .int .i64 tier] w (PutPost B S t w (T, rightV n s tier)) := by
  have hd : (rightV n s tier != 0) = true := by simpa using hr
  have H := Aside0.mk h
  clear h hr
  go_enter Try.func10, Try.ntmps10
  go_wp2_with fail
  refine (right_any n s tier w).mono ?_
  rintro e w1 ⟨rfl, hb⟩
  have HB := Aside0.mk hb
  clear hb
  go_wp2
  go_ret
  exact ⟨rfl, H.out.below HB.out, Ch.of_below S HB.out hB⟩
set_option maxHeartbeats 4000000 in
set_option maxRecDepth 100000 in
theorem put_none {B : Nat} {S : Nat → Prop} {t : Nat} {T : Tb} {w : World} (hB : B ≤ w.heap.size) (h : TB B S t T w) (n s : ByteArray) (tier : Int) (hn : n.size ≤ 9223372036854775807) (hr : rightV n s tier = 0) (hg : get here T.l n.data.toList = none) (hc : 64 ≤ (T.l.filter here).length) :
    Calls Try.prog 10 #[.pointer (some ⟨t, 0, none⟩), .string n, .string s, .int .i64 tier] w (PutPost B S t w (T, 4)) := by
  have hd : (rightV n s tier != 0) = false := by simpa using hr
  have H := Aside0.mk h
  clear h hr
  go_enter Try.func10, Try.ntmps10
  go_wp2_with fail
  refine (right_any n s tier w).mono ?_
  rintro e w1 ⟨rfl, hb⟩
  have ht := H.out.below hb
  have HB := Aside0.mk hb
  have HT := Aside0.mk ht
  obtain ⟨bm, bd, ht⟩ := ht
  have hlook := ht.hm.look n hn
  have hc1 : w1.cell? ⟨t, 2, none⟩ = some (.map (some bm)) := by rw [Lib.cell_of_heap ht.ht]; rfl
  have hlt := (ht.sB t ht.st).2
  have hc2 : ∀ o, (w1.alloc o).cell? ⟨t, 2, none⟩ = some (.map (some bm)) := fun o => (World.cell?_of_block (Below.heap_alloc w1 o t hlt)).trans hc1
  have hc2 := hc2 (.cells #[.string ⟨#[]⟩, .string ⟨#[]⟩, .int .i64 0, .int .i64 0] 32)
  have hle := (ht.heap (w' := w1.alloc (.cells #[.string ⟨#[]⟩, .string ⟨#[]⟩, .int .i64 0, .int .i64 0] 32)) (by simp) (fun k hk => Below.heap_alloc _ _ _ (ht.sB k hk).2)).hm.len ht.ok.sorted Try.underlying60 3
  rw [hg] at hlook
  simp only [vF, Option.getD, Option.isSome] at hlook
  have hd2 : decide (64 ≤ ((T.l.filter here).length : Int)) = true := decide_eq_true (by omega)
  have hd3 : decide (64 ≤ (T.l.filter here).length) = true := decide_eq_true hc
  clear hb ht hg hc
  go_wp2
  go_ret
  exact ⟨rfl, HT.out.below (by repeat (first | exact Below.refl _ _ | (refine Below.alloc ?_ (by simp) _) | (refine Below.setCell ?_ (by simp) _) | apply Below.drew)), (Ch.of_below S HB.out hB).trans (S' := S) (Ch.of_below S (by repeat (first | exact Below.refl _ _ | (refine Below.alloc ?_ (by simp) _) | (refine Below.setCell ?_ (by simp) _) | apply Below.drew)) (by have := HB.out.size; omega)) (fun x h => .inl h)⟩

theorem len_setL {f : Fl} : ∀ l : List Fl, (setL f l).length ≤ l.length + 1
  | [] => by simp [setL]
  | x :: l => by
    have := len_setL (f := f) l
    unfold setL
    split
    · simp; omega
    · split <;> simp
theorem cnt_setL {sel : Fl → Bool} {f : Fl} : ∀ {l : List Fl}, Sorted l → ((setL f l).filter sel).length + (if (get sel l (nmL f)).isSome = true then 1 else 0) = (l.filter sel).length + (if sel f = true then 1 else 0)
  | [], _ => by by_cases h : sel f = true <;> simp [setL, get, h]
  | x :: l, h => by
    have h' : (∀ z ∈ l, nmL x < nmL z) ∧ Sorted l := List.pairwise_cons.1 h
    have ih := cnt_setL (sel := sel) (f := f) h'.2
    unfold setL
    rw [get_cons]
    split
    · rename_i h1
      rw [if_neg (show ¬ (nmL x = nmL f ∧ sel x = true) from fun e => lt_ne h1 e.1)]
      by_cases hx : sel x = true
      · simp only [List.filter_cons, hx, if_true, List.length_cons]; omega
      · simp only [List.filter_cons, if_neg hx]; exact ih
    · split
      · rename_i h1 h2
        have hn : get sel l (nmL f) = none := get_none_of_lt (fun z hz => by rw [← h2]; exact h'.1 z hz)
        rw [hn]
        by_cases hx : sel x = true <;> by_cases hf : sel f = true <;> simp [List.filter_cons, hx, hf, h2]
      · rename_i h1 h2
        have h3 := lt_of_not h1 h2
        have hn : get sel l (nmL f) = none := get_none_of_lt (fun z hz => lt_tr h3 (h'.1 z hz))
        rw [if_neg (show ¬ (nmL x = nmL f ∧ sel x = true) from fun e => h2 e.1), hn]
        by_cases hx : sel x = true <;> by_cases hf : sel f = true <;> simp [List.filter_cons, hx, hf]
/-- A table with one more entry is one. -/
theorem tok_set {T : Tb} (h : TOk T) (f : Fl) (hlen : T.l.length < 1000000) (hrev : T.rev < T.most) (he : f.f0.size ≤ 1000000 ∧ f.f1.size ≤ 65536 ∧ 0 ≤ f.f2 ∧ f.f2 ≤ 2 ∧ 0 ≤ f.f3 ∧ f.f3 ≤ T.rev + 1) (hc : here f = true → (get here T.l (nmL f)).isSome = true ∨ (T.l.filter here).length < 64) : TOk ⟨T.most, T.rev + 1, setL f T.l⟩ := {
  sorted := sorted_setL h.sorted
  most0 := h.most0
  most := h.most
  rev0 := by have := h.rev0; show 0 ≤ T.rev + 1; omega
  rev := by show T.rev + 1 ≤ T.most; omega
  cnt := by
    have h1 := cnt_setL (sel := here) (f := f) h.sorted
    have h2 := h.cnt
    show ((setL f T.l).filter here).length ≤ 64
    by_cases hf : here f = true
    · rw [if_pos hf] at h1
      rcases hc hf with h3 | h3
      · rw [if_pos h3] at h1; omega
      · split at h1 <;> omega
    · rw [if_neg hf] at h1; split at h1 <;> omega
  len := by have := len_setL (f := f) T.l; show (setL f T.l).length ≤ 1000000; omega
  el := fun x hx => by
    rcases mem_setL hx with rfl | hx
    · exact he
    · obtain ⟨a1, a2, a3, a4, a5, a6⟩ := h.el x hx
      exact ⟨a1, a2, a3, a4, a5, by show x.f3 ≤ T.rev + 1; omega⟩ }
theorem rightV_ok {n s : ByteArray} {tier : Int} (h : rightV n s tier = 0) : n.size ≤ 32 ∧ nameOk n = true ∧ 0 ≤ tier ∧ tier ≤ 2 ∧ s.size ≤ 65536 := by
  unfold rightV at h
  split at h
  · rename_i h1
    split at h
    · exact absurd h (by decide)
    · exact ⟨h1.1, h1.2.1, h1.2.2.1, h1.2.2.2, by omega⟩
  · exact absurd h (by decide)
theorem ts_put {B : Nat} {S : Nat → Prop} {t bm bd : Nat} {T : Tb} {w w' : World} (h : TS B S t bm bd T w) {f : Fl} (hf : here f = true) (ok : TOk ⟨T.most, T.rev + 1, setL f T.l⟩) (hz : w.heap.size ≤ w'.heap.size) (ht : w'.heap[t]? = some (.cells #[.int .i64 T.most, .int .i64 (T.rev + 1), .map (some bm), .map (some bd)] 63 (0, 0)))
    (hm : MapV elemF dF w' bm (upd (get here T.l) (nmL f) (some f))) (hd : MapV (plainElem Try.prog 3) dI w' bd (upd (get gone T.l) (nmL f) none)) : TB B S t ⟨T.most, T.rev + 1, setL f T.l⟩ w' :=
  ⟨bm, bd, { ok := ok, sB := fun k hk => ⟨(h.sB k hk).1, Nat.lt_of_lt_of_le (h.sB k hk).2 hz⟩, st := h.st, sm := h.sm, sd := h.sd, ne := h.ne, ht := ht
             hm := hm.congr (fun k => by rw [get_setL h.ok.sorted, if_pos hf]; rfl)
             hd := hd.congr (fun k => by rw [get_setL h.ok.sorted, if_neg (show ¬ gone f = true from by simpa [gone, here] using hf)]; rfl) }⟩
theorem ts_drop {B : Nat} {S : Nat → Prop} {t bm bd : Nat} {T : Tb} {w w' : World} (h : TS B S t bm bd T w) {f : Fl} (hf : gone f = true) (ok : TOk ⟨T.most, T.rev + 1, setL f T.l⟩) (hz : w.heap.size ≤ w'.heap.size) (ht : w'.heap[t]? = some (.cells #[.int .i64 T.most, .int .i64 (T.rev + 1), .map (some bm), .map (some bd)] 63 (0, 0)))
    (hm : MapV elemF dF w' bm (upd (get here T.l) (nmL f) none)) (hd : MapV (plainElem Try.prog 3) dI w' bd (upd (get gone T.l) (nmL f) (some f))) : TB B S t ⟨T.most, T.rev + 1, setL f T.l⟩ w' :=
  ⟨bm, bd, { ok := ok, sB := fun k hk => ⟨(h.sB k hk).1, Nat.lt_of_lt_of_le (h.sB k hk).2 hz⟩, st := h.st, sm := h.sm, sd := h.sd, ne := h.ne, ht := ht
             hm := hm.congr (fun k => by rw [get_setL h.ok.sorted, if_neg (show ¬ here f = true from by simpa [gone, here] using hf)]; rfl)
             hd := hd.congr (fun k => by rw [get_setL h.ok.sorted, if_pos hf]; rfl) }⟩

set_option maxHeartbeats 4000000 in
set_option maxRecDepth 100000 in
theorem put_new {B : Nat} {S : Nat → Prop} {t : Nat} {T : Tb} {w : World} (hB : B ≤ w.heap.size) (h : TB B S t T w) (n s : ByteArray) (tier : Int) (hn : n.size ≤ 9223372036854775807) (hlen : T.l.length < 1000000) (hr : rightV n s tier = 0) (hg : get here T.l n.data.toList = none) (hc : (T.l.filter here).length < 64) (hrev : T.rev < T.most) :
    Calls Try.prog 10 #[.pointer (some ⟨t, 0, none⟩), .string n, .string s, .int .i64 tier] w (PutPost B S t w (⟨T.most, T.rev + 1, setL ⟨n, s, tier, T.rev + 1, false⟩ T.l⟩, 0)) := by
  have hd : (rightV n s tier != 0) = false := by simpa using hr
  have H := Aside0.mk h
  clear h
  go_enter Try.func10, Try.ntmps10
  go_wp2_with fail
  refine (right_any n s tier w).mono ?_
  rintro e w1 ⟨rfl, hb⟩
  have ht := H.out.below hb
  have HB := Aside0.mk hb
  obtain ⟨bm, bd, ht⟩ := ht
  have HT := Aside0.mk ht
  have hlook := ht.hm.look n hn
  have hc0 : w1.cell? ⟨t, 0, none⟩ = some (.int .i64 T.most) := by rw [Lib.cell_of_heap ht.ht]; rfl
  have hc1 : w1.cell? ⟨t, 1, none⟩ = some (.int .i64 T.rev) := by rw [Lib.cell_of_heap ht.ht]; rfl
  have hc2 : w1.cell? ⟨t, 2, none⟩ = some (.map (some bm)) := by rw [Lib.cell_of_heap ht.ht]; rfl
  have hc3 : w1.cell? ⟨t, 3, none⟩ = some (.map (some bd)) := by rw [Lib.cell_of_heap ht.ht]; rfl
  have hlt := (ht.sB t ht.st).2
  have hct : ∀ i u, w1.cell? ⟨t, i, none⟩ = some u → (w1.alloc (.cells #[.string ⟨#[]⟩, .string ⟨#[]⟩, .int .i64 0, .int .i64 0] 32)).cell? ⟨t, i, none⟩ = some u := fun i u hu => (World.cell?_of_block (Below.heap_alloc w1 _ t hlt)).trans hu
  have hk0 := hct 0 _ hc0
  have hk1 := hct 1 _ hc1
  have hk2 := hct 2 _ hc2
  have hk3 := hct 3 _ hc3
  have hle := (ht.heap (w' := w1.alloc (.cells #[.string ⟨#[]⟩, .string ⟨#[]⟩, .int .i64 0, .int .i64 0] 32)) (by simp) (fun k hk => Below.heap_alloc _ _ _ (ht.sB k hk).2)).hm.len ht.ok.sorted Try.underlying60 3
  have hft : (w1.alloc (.cells #[.string ⟨#[]⟩, .string ⟨#[]⟩, .int .i64 0, .int .i64 0] 32)).frozen? ⟨t, 1, none⟩ = false := (World.frozen?_of_block (Below.heap_alloc w1 _ t hlt)).trans (Lib.frozen_of_heap ht.ht 1)
  rw [hg] at hlook
  simp only [vF, Option.getD, Option.isSome] at hlook
  have hd2 : decide (64 ≤ ((T.l.filter here).length : Int)) = false := decide_eq_false (by omega)
  have hd3 : decide (64 ≤ (T.l.filter here).length) = false := decide_eq_false (by omega)
  have hd4 : decide (T.most ≤ T.rev) = false := decide_eq_false (by omega)
  have hrb := ht.ok.rev0
  have hrb2 := ht.ok.most
  have hw : wrap64 (T.rev + 1) = T.rev + 1 := by unfold wrap64; omega
  have HW := Aside0.mk hw
  have HG := Aside0.mk hg
  have HCN := Aside0.mk hc
  clear hb ht hg hc hct hc0 hc1 hc3 hw
  go_wp2_with fail
  go_region
  obtain ⟨W2, hW2⟩ : ∃ W2, (w1.alloc (.cells #[.string ⟨#[]⟩, .string ⟨#[]⟩, .int .i64 0, .int .i64 0] 32)).drew = W2 := ⟨_, rfl⟩
  rw [hW2]
  obtain ⟨x, hx⟩ : ∃ x, w1.heap.size = x := ⟨_, rfl⟩
  have hbx : W2.heap[x]? = some (.cells #[.string ⟨#[]⟩, .string ⟨#[]⟩, .int .i64 0, .int .i64 0] 32 (0, 0)) := by rw [← hW2, ← hx]; exact heap_alloc_new w1 _
  have hT2 : TS B S t bm bd T W2 := by rw [← hW2]; exact HT.out.heap (w' := (w1.alloc (.cells #[.string ⟨#[]⟩, .string ⟨#[]⟩, .int .i64 0, .int .i64 0] 32)).drew) (by simp) (fun k hk => Below.heap_alloc _ _ _ (HT.out.sB k hk).2)
  have hC2 : Ch B S w W2 := by
    rw [← hW2]
    exact (Ch.of_below S HB.out hB).trans (S' := S) (Ch.of_below S (by repeat (first | exact Below.refl _ _ | (refine Below.alloc ?_ (by simp) _) | (refine Below.setCell ?_ (by simp) _) | apply Below.drew)) (by have := HB.out.size; omega)) (fun x h => .inl h)
  have hxt : w.heap.size ≤ x := by rw [← hx]; exact HB.out.size
  have hSx : ¬ S x := fun e => by have := (HT.out.sB x e).2; omega
  rw [hx]
  have HBX := Aside0.mk hbx
  have HT2 := Aside0.mk hT2
  have HC2 := Aside0.mk hC2
  clear hk0 hk1 hk2 hk3 hlook hle hft hc2 hbx hT2 hC2 hW2 HT HB hlt hx
  have n1 : ¬ x = t := fun e => hSx (e ▸ HT2.out.st)
  have n2 : ¬ t = x := fun e => n1 e.symm
  have k0 : W2.cell? ⟨t, 0, none⟩ = some (.int .i64 T.most) := by rw [Lib.cell_of_heap HT2.out.ht]; rfl
  have k1 : W2.cell? ⟨t, 1, none⟩ = some (.int .i64 T.rev) := by rw [Lib.cell_of_heap HT2.out.ht]; rfl
  have k2 : W2.cell? ⟨t, 2, none⟩ = some (.map (some bm)) := by rw [Lib.cell_of_heap HT2.out.ht]; rfl
  have k3 : W2.cell? ⟨t, 3, none⟩ = some (.map (some bd)) := by rw [Lib.cell_of_heap HT2.out.ht]; rfl
  have b0 : W2.cell? ⟨x, 0, none⟩ = some (.string ⟨#[]⟩) := by rw [Lib.cell_of_heap HBX.out]; rfl
  have b1 : W2.cell? ⟨x, 1, none⟩ = some (.string ⟨#[]⟩) := by rw [Lib.cell_of_heap HBX.out]; rfl
  have b2 : W2.cell? ⟨x, 2, none⟩ = some (.int .i64 0) := by rw [Lib.cell_of_heap HBX.out]; rfl
  have b3 : W2.cell? ⟨x, 3, none⟩ = some (.int .i64 0) := by rw [Lib.cell_of_heap HBX.out]; rfl
  have g0 : W2.frozen? ⟨x, 0, none⟩ = false := Lib.frozen_of_heap HBX.out 0
  have g1 : W2.frozen? ⟨x, 1, none⟩ = false := Lib.frozen_of_heap HBX.out 1
  have g2 : W2.frozen? ⟨x, 2, none⟩ = false := Lib.frozen_of_heap HBX.out 2
  have g3 : W2.frozen? ⟨x, 3, none⟩ = false := Lib.frozen_of_heap HBX.out 3
  have gt : W2.frozen? ⟨t, 1, none⟩ = false := Lib.frozen_of_heap HT2.out.ht 1
  go_wp2_with fail
  obtain ⟨W3, hW3⟩ : ∃ W3, ((((W2.setCell ⟨t, 1, none⟩ (.int .i64 (T.rev + 1))).setCell ⟨x, 3, none⟩ (.int .i64 (T.rev + 1))).setCell ⟨x, 0, none⟩ (.string n)).setCell ⟨x, 1, none⟩ (.string s)).setCell ⟨x, 2, none⟩ (.int .i64 tier) = W3 := ⟨_, rfl⟩
  rw [hW3]
  have hx3 : W3.heap[x]? = some (.cells #[.string n, .string s, .int .i64 tier, .int .i64 (T.rev + 1)] 32 (0, 0)) := by
    rw [← hW3]
    rw [blk_set (blk_set (blk_set (blk_set ((Below.heap_setCell W2 ⟨t, 1, none⟩ _ x n1).trans HBX.out) 3 _) 0 _) 1 _) 2 _]
    rfl
  have ho3 : ∀ k, k ≠ x → k ≠ t → W3.heap[k]? = W2.heap[k]? := fun k h1 h2 => by
    rw [← hW3]
    exact (Below.heap_setCell _ ⟨x, 2, none⟩ _ k h1).trans ((Below.heap_setCell _ ⟨x, 1, none⟩ _ k h1).trans ((Below.heap_setCell _ ⟨x, 0, none⟩ _ k h1).trans ((Below.heap_setCell _ ⟨x, 3, none⟩ _ k h1).trans (Below.heap_setCell _ ⟨t, 1, none⟩ _ k h2))))
  have ht3 : W3.heap[t]? = some (.cells #[.int .i64 T.most, .int .i64 (T.rev + 1), .map (some bm), .map (some bd)] 63 (0, 0)) := by
    rw [← hW3]
    exact (Below.heap_setCell _ ⟨x, 2, none⟩ _ t n2).trans ((Below.heap_setCell _ ⟨x, 1, none⟩ _ t n2).trans ((Below.heap_setCell _ ⟨x, 0, none⟩ _ t n2).trans ((Below.heap_setCell _ ⟨x, 3, none⟩ _ t n2).trans (by rw [blk_set HT2.out.ht]; rfl))))
  have hC3 : Ch B S w W3 := by
    rw [← hW3]
    exact ((((HC2.out.setCell (p := ⟨t, 1, none⟩) (HT2.out.sB t HT2.out.st).1 (.inl HT2.out.st) _).setCell (p := ⟨x, 3, none⟩) (by show B ≤ x; omega) (.inr hxt) _).setCell (p := ⟨x, 0, none⟩) (by show B ≤ x; omega) (.inr hxt) _).setCell (p := ⟨x, 1, none⟩) (by show B ≤ x; omega) (.inr hxt) _).setCell (p := ⟨x, 2, none⟩) (by show B ≤ x; omega) (.inr hxt) _
  have hz3 : W3.heap.size = W2.heap.size := by rw [← hW3]; simp
  clear k0 k1 k2 k3 b0 b1 b2 b3 g0 g1 g2 g3 gt hW3
  have HX3 := Aside0.mk hx3
  have HT3 := Aside0.mk ht3
  have HO3 := Aside0.mk ho3
  have HC3 := Aside0.mk hC3
  have k2 : W3.cell? ⟨t, 2, none⟩ = some (.map (some bm)) := by rw [Lib.cell_of_heap HT3.out]; rfl
  have b0 : W3.cell? ⟨x, 0, none⟩ = some (.string n) := by rw [Lib.cell_of_heap HX3.out]; rfl
  have b1 : W3.cell? ⟨x, 1, none⟩ = some (.string s) := by rw [Lib.cell_of_heap HX3.out]; rfl
  have b2 : W3.cell? ⟨x, 2, none⟩ = some (.int .i64 tier) := by rw [Lib.cell_of_heap HX3.out]; rfl
  have b3 : W3.cell? ⟨x, 3, none⟩ = some (.int .i64 (T.rev + 1)) := by rw [Lib.cell_of_heap HX3.out]; rfl
  have hm3 : MapV elemF dF W3 bm (get here T.l) := HT2.out.hm.heap (HO3.out bm (fun e => hSx (e ▸ HT2.out.sm)) (fun e => HT2.out.nm e.symm))
  obtain ⟨W4, hrun, hone, hmap⟩ := MapV.store (w := W3.drew) HT2.out.ok.sorted HT2.out.ok.len hm3 Try.underlying60 ⟨n, s, tier, T.rev + 1, false⟩ hn _ (elemF_mk _)
  have HONE : Aside0 (One bm W3 W4) := ⟨⟨hone.os, hone.tape, hone.output, hone.size, hone.block⟩⟩
  have HMAP := Aside0.mk hmap
  clear hx3 ht3 ho3 hC3 hm3 hone hmap
  simp only [vF] at hrun
  go_still_tail 6, (by kernel_rfl)
  change wpList _ _ _ _ _ W3.drew
  generalize W3.drew = W3d at hrun ⊢
  have ht4 : W4.heap[t]? = some (.cells #[.int .i64 T.most, .int .i64 (T.rev + 1), .map (some bm), .map (some bd)] 63 (0, 0)) := (HONE.out.block t HT2.out.nm).trans HT3.out
  have hd4' : MapV (plainElem Try.prog 3) dI W4 bd (get gone T.l) := HT2.out.hd.heap ((HONE.out.block bd HT2.out.ne.symm).trans (HO3.out bd (fun e => hSx (e ▸ HT2.out.sd)) (fun e => HT2.out.nd e.symm)))
  obtain ⟨W5, hdel, hone5, hmap5⟩ := MapV.drop hd4' Try.underlying61 n hn 0
  have c3 : W4.cell? ⟨t, 3, none⟩ = some (.map (some bd)) := by rw [Lib.cell_of_heap ht4]; rfl
  have HONE5 := Aside0.mk hone5
  have HMAP5 := Aside0.mk hmap5
  have HT4 := Aside0.mk ht4
  clear hone5 hmap5 ht4 hd4' k2 b0 b1 b2 b3
  go_wp2
  go_ret
  refine ⟨rfl, ts_put HT2.out rfl ?_ ?_ ((HONE5.out.block t HT2.out.nd).trans HT4.out) (HMAP.out.heap (HONE5.out.block bm HT2.out.ne)) HMAP5.out, (HC3.out.one HONE.out (HT2.out.sB bm HT2.out.sm).1 (.inl HT2.out.sm)).one HONE5.out (HT2.out.sB bd HT2.out.sd).1 (.inl HT2.out.sd)⟩
  · obtain ⟨q1, q2, q3, q4, q5⟩ := rightV_ok hr
    exact tok_set HT2.out.ok _ hlen hrev ⟨by show n.size ≤ 1000000; omega, q5, q3, q4, by show 0 ≤ T.rev + 1; omega, Int.le_refl _⟩ (fun _ => .inr HCN.out)
  · rw [HONE5.out.size, HONE.out.size]; exact Nat.le_of_eq hz3.symm

set_option maxHeartbeats 4000000 in
set_option maxRecDepth 100000 in
theorem put_src {B : Nat} {S : Nat → Prop} {t : Nat} {T : Tb} {w : World} {f : Fl} (hB : B ≤ w.heap.size) (h : TB B S t T w) (n s : ByteArray) (tier : Int) (hn : n.size ≤ 9223372036854775807) (hlen : T.l.length < 1000000) (hr : rightV n s tier = 0) (hg : get here T.l n.data.toList = some f) (hs : (f.f1.toList == s.toList) = false) (hrev : T.rev < T.most) :
    Calls Try.prog 10 #[.pointer (some ⟨t, 0, none⟩), .string n, .string s, .int .i64 tier] w (PutPost B S t w (⟨T.most, T.rev + 1, setL ⟨n, s, tier, T.rev + 1, false⟩ T.l⟩, 0)) := by
  have hd : (rightV n s tier != 0) = false := by simpa using hr
  have H := Aside0.mk h
  clear h
  go_enter Try.func10, Try.ntmps10
  go_wp2_with fail
  refine (right_any n s tier w).mono ?_
  rintro e w1 ⟨rfl, hb⟩
  have ht := H.out.below hb
  have HB := Aside0.mk hb
  obtain ⟨bm, bd, ht⟩ := ht
  have HT := Aside0.mk ht
  have hlook := ht.hm.look n hn
  have hc0 : w1.cell? ⟨t, 0, none⟩ = some (.int .i64 T.most) := by rw [Lib.cell_of_heap ht.ht]; rfl
  have hc1 : w1.cell? ⟨t, 1, none⟩ = some (.int .i64 T.rev) := by rw [Lib.cell_of_heap ht.ht]; rfl
  have hc2 : w1.cell? ⟨t, 2, none⟩ = some (.map (some bm)) := by rw [Lib.cell_of_heap ht.ht]; rfl
  have hc3 : w1.cell? ⟨t, 3, none⟩ = some (.map (some bd)) := by rw [Lib.cell_of_heap ht.ht]; rfl
  have hlt := (ht.sB t ht.st).2
  have hct : ∀ i u, w1.cell? ⟨t, i, none⟩ = some u → (w1.alloc (.cells #[.string f.f0, .string f.f1, .int .i64 f.f2, .int .i64 f.f3] 32)).cell? ⟨t, i, none⟩ = some u := fun i u hu => (World.cell?_of_block (Below.heap_alloc w1 _ t hlt)).trans hu
  have hk0 := hct 0 _ hc0
  have hk1 := hct 1 _ hc1
  have hk2 := hct 2 _ hc2
  have hk3 := hct 3 _ hc3
  have hft : (w1.alloc (.cells #[.string f.f0, .string f.f1, .int .i64 f.f2, .int .i64 f.f3] 32)).frozen? ⟨t, 1, none⟩ = false := (World.frozen?_of_block (Below.heap_alloc w1 _ t hlt)).trans (Lib.frozen_of_heap ht.ht 1)
  rw [hg] at hlook
  simp only [vF, Option.getD, Option.isSome] at hlook
  have hs2 : (f.f1.toList != s.toList) = true := by simpa using hs
  have hd4 : decide (T.most ≤ T.rev) = false := decide_eq_false (by omega)
  have hrb := ht.ok.rev0
  have hrb2 := ht.ok.most
  have hw : wrap64 (T.rev + 1) = T.rev + 1 := by unfold wrap64; omega
  have HW := Aside0.mk hw
  have HG := Aside0.mk hg
  clear hb ht hg hct hc0 hc1 hc3 hw
  go_wp2_with fail
  go_region
  obtain ⟨W2, hW2⟩ : ∃ W2, (w1.alloc (.cells #[.string f.f0, .string f.f1, .int .i64 f.f2, .int .i64 f.f3] 32)).drew = W2 := ⟨_, rfl⟩
  rw [hW2]
  obtain ⟨x, hx⟩ : ∃ x, w1.heap.size = x := ⟨_, rfl⟩
  have hbx : W2.heap[x]? = some (.cells #[.string f.f0, .string f.f1, .int .i64 f.f2, .int .i64 f.f3] 32 (0, 0)) := by rw [← hW2, ← hx]; exact heap_alloc_new w1 _
  have hT2 : TS B S t bm bd T W2 := by rw [← hW2]; exact HT.out.heap (w' := (w1.alloc (.cells #[.string f.f0, .string f.f1, .int .i64 f.f2, .int .i64 f.f3] 32)).drew) (by simp) (fun k hk => Below.heap_alloc _ _ _ (HT.out.sB k hk).2)
  have hC2 : Ch B S w W2 := by
    rw [← hW2]
    exact (Ch.of_below S HB.out hB).trans (S' := S) (Ch.of_below S (by repeat (first | exact Below.refl _ _ | (refine Below.alloc ?_ (by simp) _) | (refine Below.setCell ?_ (by simp) _) | apply Below.drew)) (by have := HB.out.size; omega)) (fun x h => .inl h)
  have hxt : w.heap.size ≤ x := by rw [← hx]; exact HB.out.size
  have hSx : ¬ S x := fun e => by have := (HT.out.sB x e).2; omega
  rw [hx]
  have HBX := Aside0.mk hbx
  have HT2 := Aside0.mk hT2
  have HC2 := Aside0.mk hC2
  clear hk0 hk1 hk2 hk3 hlook hft hc2 hbx hT2 hC2 hW2 HT HB hlt hx
  have n1 : ¬ x = t := fun e => hSx (e ▸ HT2.out.st)
  have n2 : ¬ t = x := fun e => n1 e.symm
  have k0 : W2.cell? ⟨t, 0, none⟩ = some (.int .i64 T.most) := by rw [Lib.cell_of_heap HT2.out.ht]; rfl
  have k1 : W2.cell? ⟨t, 1, none⟩ = some (.int .i64 T.rev) := by rw [Lib.cell_of_heap HT2.out.ht]; rfl
  have k2 : W2.cell? ⟨t, 2, none⟩ = some (.map (some bm)) := by rw [Lib.cell_of_heap HT2.out.ht]; rfl
  have k3 : W2.cell? ⟨t, 3, none⟩ = some (.map (some bd)) := by rw [Lib.cell_of_heap HT2.out.ht]; rfl
  have b0 : W2.cell? ⟨x, 0, none⟩ = some (.string f.f0) := by rw [Lib.cell_of_heap HBX.out]; rfl
  have b1 : W2.cell? ⟨x, 1, none⟩ = some (.string f.f1) := by rw [Lib.cell_of_heap HBX.out]; rfl
  have b2 : W2.cell? ⟨x, 2, none⟩ = some (.int .i64 f.f2) := by rw [Lib.cell_of_heap HBX.out]; rfl
  have b3 : W2.cell? ⟨x, 3, none⟩ = some (.int .i64 f.f3) := by rw [Lib.cell_of_heap HBX.out]; rfl
  have g0 : W2.frozen? ⟨x, 0, none⟩ = false := Lib.frozen_of_heap HBX.out 0
  have g1 : W2.frozen? ⟨x, 1, none⟩ = false := Lib.frozen_of_heap HBX.out 1
  have g2 : W2.frozen? ⟨x, 2, none⟩ = false := Lib.frozen_of_heap HBX.out 2
  have g3 : W2.frozen? ⟨x, 3, none⟩ = false := Lib.frozen_of_heap HBX.out 3
  have gt : W2.frozen? ⟨t, 1, none⟩ = false := Lib.frozen_of_heap HT2.out.ht 1
  go_wp2_with fail
  obtain ⟨W3, hW3⟩ : ∃ W3, ((((W2.setCell ⟨t, 1, none⟩ (.int .i64 (T.rev + 1))).setCell ⟨x, 3, none⟩ (.int .i64 (T.rev + 1))).setCell ⟨x, 0, none⟩ (.string n)).setCell ⟨x, 1, none⟩ (.string s)).setCell ⟨x, 2, none⟩ (.int .i64 tier) = W3 := ⟨_, rfl⟩
  rw [hW3]
  have hx3 : W3.heap[x]? = some (.cells #[.string n, .string s, .int .i64 tier, .int .i64 (T.rev + 1)] 32 (0, 0)) := by
    rw [← hW3]
    rw [blk_set (blk_set (blk_set (blk_set ((Below.heap_setCell W2 ⟨t, 1, none⟩ _ x n1).trans HBX.out) 3 _) 0 _) 1 _) 2 _]
    rfl
  have ho3 : ∀ k, k ≠ x → k ≠ t → W3.heap[k]? = W2.heap[k]? := fun k h1 h2 => by
    rw [← hW3]
    exact (Below.heap_setCell _ ⟨x, 2, none⟩ _ k h1).trans ((Below.heap_setCell _ ⟨x, 1, none⟩ _ k h1).trans ((Below.heap_setCell _ ⟨x, 0, none⟩ _ k h1).trans ((Below.heap_setCell _ ⟨x, 3, none⟩ _ k h1).trans (Below.heap_setCell _ ⟨t, 1, none⟩ _ k h2))))
  have ht3 : W3.heap[t]? = some (.cells #[.int .i64 T.most, .int .i64 (T.rev + 1), .map (some bm), .map (some bd)] 63 (0, 0)) := by
    rw [← hW3]
    exact (Below.heap_setCell _ ⟨x, 2, none⟩ _ t n2).trans ((Below.heap_setCell _ ⟨x, 1, none⟩ _ t n2).trans ((Below.heap_setCell _ ⟨x, 0, none⟩ _ t n2).trans ((Below.heap_setCell _ ⟨x, 3, none⟩ _ t n2).trans (by rw [blk_set HT2.out.ht]; rfl))))
  have hC3 : Ch B S w W3 := by
    rw [← hW3]
    exact ((((HC2.out.setCell (p := ⟨t, 1, none⟩) (HT2.out.sB t HT2.out.st).1 (.inl HT2.out.st) _).setCell (p := ⟨x, 3, none⟩) (by show B ≤ x; omega) (.inr hxt) _).setCell (p := ⟨x, 0, none⟩) (by show B ≤ x; omega) (.inr hxt) _).setCell (p := ⟨x, 1, none⟩) (by show B ≤ x; omega) (.inr hxt) _).setCell (p := ⟨x, 2, none⟩) (by show B ≤ x; omega) (.inr hxt) _
  have hz3 : W3.heap.size = W2.heap.size := by rw [← hW3]; simp
  clear k0 k1 k2 k3 b0 b1 b2 b3 g0 g1 g2 g3 gt hW3
  have HX3 := Aside0.mk hx3
  have HT3 := Aside0.mk ht3
  have HO3 := Aside0.mk ho3
  have HC3 := Aside0.mk hC3
  have k2 : W3.cell? ⟨t, 2, none⟩ = some (.map (some bm)) := by rw [Lib.cell_of_heap HT3.out]; rfl
  have b0 : W3.cell? ⟨x, 0, none⟩ = some (.string n) := by rw [Lib.cell_of_heap HX3.out]; rfl
  have b1 : W3.cell? ⟨x, 1, none⟩ = some (.string s) := by rw [Lib.cell_of_heap HX3.out]; rfl
  have b2 : W3.cell? ⟨x, 2, none⟩ = some (.int .i64 tier) := by rw [Lib.cell_of_heap HX3.out]; rfl
  have b3 : W3.cell? ⟨x, 3, none⟩ = some (.int .i64 (T.rev + 1)) := by rw [Lib.cell_of_heap HX3.out]; rfl
  have hm3 : MapV elemF dF W3 bm (get here T.l) := HT2.out.hm.heap (HO3.out bm (fun e => hSx (e ▸ HT2.out.sm)) (fun e => HT2.out.nm e.symm))
  obtain ⟨W4, hrun, hone, hmap⟩ := MapV.store (w := W3.drew) HT2.out.ok.sorted HT2.out.ok.len hm3 Try.underlying60 ⟨n, s, tier, T.rev + 1, false⟩ hn _ (elemF_mk _)
  have HONE : Aside0 (One bm W3 W4) := ⟨⟨hone.os, hone.tape, hone.output, hone.size, hone.block⟩⟩
  have HMAP := Aside0.mk hmap
  clear hx3 ht3 ho3 hC3 hm3 hone hmap
  simp only [vF] at hrun
  go_still_tail 6, (by kernel_rfl)
  change wpList _ _ _ _ _ W3.drew
  generalize W3.drew = W3d at hrun ⊢
  have ht4 : W4.heap[t]? = some (.cells #[.int .i64 T.most, .int .i64 (T.rev + 1), .map (some bm), .map (some bd)] 63 (0, 0)) := (HONE.out.block t HT2.out.nm).trans HT3.out
  have hd4' : MapV (plainElem Try.prog 3) dI W4 bd (get gone T.l) := HT2.out.hd.heap ((HONE.out.block bd HT2.out.ne.symm).trans (HO3.out bd (fun e => hSx (e ▸ HT2.out.sd)) (fun e => HT2.out.nd e.symm)))
  obtain ⟨W5, hdel, hone5, hmap5⟩ := MapV.drop hd4' Try.underlying61 n hn 0
  have c3 : W4.cell? ⟨t, 3, none⟩ = some (.map (some bd)) := by rw [Lib.cell_of_heap ht4]; rfl
  have HONE5 := Aside0.mk hone5
  have HMAP5 := Aside0.mk hmap5
  have HT4 := Aside0.mk ht4
  clear hone5 hmap5 ht4 hd4' k2 b0 b1 b2 b3
  go_wp2
  go_ret
  refine ⟨rfl, ts_put HT2.out rfl ?_ ?_ ((HONE5.out.block t HT2.out.nd).trans HT4.out) (HMAP.out.heap (HONE5.out.block bm HT2.out.ne)) HMAP5.out, (HC3.out.one HONE.out (HT2.out.sB bm HT2.out.sm).1 (.inl HT2.out.sm)).one HONE5.out (HT2.out.sB bd HT2.out.sd).1 (.inl HT2.out.sd)⟩
  · obtain ⟨q1, q2, q3, q4, q5⟩ := rightV_ok hr
    exact tok_set HT2.out.ok _ hlen hrev ⟨by show n.size ≤ 1000000; omega, q5, q3, q4, by show 0 ≤ T.rev + 1; omega, Int.le_refl _⟩ (fun _ => .inl (by show (get here T.l n.data.toList).isSome = true; rw [HG.out]; rfl))
  · rw [HONE5.out.size, HONE.out.size]; exact Nat.le_of_eq hz3.symm

set_option maxHeartbeats 4000000 in
set_option maxRecDepth 100000 in
theorem put_tier {B : Nat} {S : Nat → Prop} {t : Nat} {T : Tb} {w : World} {f : Fl} (hB : B ≤ w.heap.size) (h : TB B S t T w) (n s : ByteArray) (tier : Int) (hn : n.size ≤ 9223372036854775807) (hlen : T.l.length < 1000000) (hr : rightV n s tier = 0) (hg : get here T.l n.data.toList = some f) (hs : (f.f1.toList == s.toList) = true) (hti : (f.f2 == tier) = false) (hrev : T.rev < T.most) :
    Calls Try.prog 10 #[.pointer (some ⟨t, 0, none⟩), .string n, .string s, .int .i64 tier] w (PutPost B S t w (⟨T.most, T.rev + 1, setL ⟨n, s, tier, f.f3, false⟩ T.l⟩, 0)) := by
  have hd : (rightV n s tier != 0) = false := by simpa using hr
  have H := Aside0.mk h
  clear h
  go_enter Try.func10, Try.ntmps10
  go_wp2_with fail
  refine (right_any n s tier w).mono ?_
  rintro e w1 ⟨rfl, hb⟩
  have ht := H.out.below hb
  have HB := Aside0.mk hb
  obtain ⟨bm, bd, ht⟩ := ht
  have HT := Aside0.mk ht
  have hlook := ht.hm.look n hn
  have hc0 : w1.cell? ⟨t, 0, none⟩ = some (.int .i64 T.most) := by rw [Lib.cell_of_heap ht.ht]; rfl
  have hc1 : w1.cell? ⟨t, 1, none⟩ = some (.int .i64 T.rev) := by rw [Lib.cell_of_heap ht.ht]; rfl
  have hc2 : w1.cell? ⟨t, 2, none⟩ = some (.map (some bm)) := by rw [Lib.cell_of_heap ht.ht]; rfl
  have hc3 : w1.cell? ⟨t, 3, none⟩ = some (.map (some bd)) := by rw [Lib.cell_of_heap ht.ht]; rfl
  have hlt := (ht.sB t ht.st).2
  have hct : ∀ i u, w1.cell? ⟨t, i, none⟩ = some u → (w1.alloc (.cells #[.string f.f0, .string f.f1, .int .i64 f.f2, .int .i64 f.f3] 32)).cell? ⟨t, i, none⟩ = some u := fun i u hu => (World.cell?_of_block (Below.heap_alloc w1 _ t hlt)).trans hu
  have hk0 := hct 0 _ hc0
  have hk1 := hct 1 _ hc1
  have hk2 := hct 2 _ hc2
  have hk3 := hct 3 _ hc3
  have hft : (w1.alloc (.cells #[.string f.f0, .string f.f1, .int .i64 f.f2, .int .i64 f.f3] 32)).frozen? ⟨t, 1, none⟩ = false := (World.frozen?_of_block (Below.heap_alloc w1 _ t hlt)).trans (Lib.frozen_of_heap ht.ht 1)
  rw [hg] at hlook
  simp only [vF, Option.getD, Option.isSome] at hlook
  have hs2 : (f.f1.toList != s.toList) = false := by simpa using hs
  have hd4 : decide (T.most ≤ T.rev) = false := decide_eq_false (by omega)
  have hrb := ht.ok.rev0
  have hrb2 := ht.ok.most
  have hw : wrap64 (T.rev + 1) = T.rev + 1 := by unfold wrap64; omega
  have HW := Aside0.mk hw
  have HG := Aside0.mk hg
  clear hb ht hg hct hc0 hc1 hc3 hw
  go_wp2_with fail
  go_region
  obtain ⟨W2, hW2⟩ : ∃ W2, (w1.alloc (.cells #[.string f.f0, .string f.f1, .int .i64 f.f2, .int .i64 f.f3] 32)).drew = W2 := ⟨_, rfl⟩
  rw [hW2]
  obtain ⟨x, hx⟩ : ∃ x, w1.heap.size = x := ⟨_, rfl⟩
  have hbx : W2.heap[x]? = some (.cells #[.string f.f0, .string f.f1, .int .i64 f.f2, .int .i64 f.f3] 32 (0, 0)) := by rw [← hW2, ← hx]; exact heap_alloc_new w1 _
  have hT2 : TS B S t bm bd T W2 := by rw [← hW2]; exact HT.out.heap (w' := (w1.alloc (.cells #[.string f.f0, .string f.f1, .int .i64 f.f2, .int .i64 f.f3] 32)).drew) (by simp) (fun k hk => Below.heap_alloc _ _ _ (HT.out.sB k hk).2)
  have hC2 : Ch B S w W2 := by
    rw [← hW2]
    exact (Ch.of_below S HB.out hB).trans (S' := S) (Ch.of_below S (by repeat (first | exact Below.refl _ _ | (refine Below.alloc ?_ (by simp) _) | (refine Below.setCell ?_ (by simp) _) | apply Below.drew)) (by have := HB.out.size; omega)) (fun x h => .inl h)
  have hxt : w.heap.size ≤ x := by rw [← hx]; exact HB.out.size
  have hSx : ¬ S x := fun e => by have := (HT.out.sB x e).2; omega
  rw [hx]
  have HBX := Aside0.mk hbx
  have HT2 := Aside0.mk hT2
  have HC2 := Aside0.mk hC2
  clear hk0 hk1 hk2 hk3 hlook hft hc2 hbx hT2 hC2 hW2 HT HB hlt hx
  have n1 : ¬ x = t := fun e => hSx (e ▸ HT2.out.st)
  have n2 : ¬ t = x := fun e => n1 e.symm
  have k0 : W2.cell? ⟨t, 0, none⟩ = some (.int .i64 T.most) := by rw [Lib.cell_of_heap HT2.out.ht]; rfl
  have k1 : W2.cell? ⟨t, 1, none⟩ = some (.int .i64 T.rev) := by rw [Lib.cell_of_heap HT2.out.ht]; rfl
  have k2 : W2.cell? ⟨t, 2, none⟩ = some (.map (some bm)) := by rw [Lib.cell_of_heap HT2.out.ht]; rfl
  have k3 : W2.cell? ⟨t, 3, none⟩ = some (.map (some bd)) := by rw [Lib.cell_of_heap HT2.out.ht]; rfl
  have b0 : W2.cell? ⟨x, 0, none⟩ = some (.string f.f0) := by rw [Lib.cell_of_heap HBX.out]; rfl
  have b1 : W2.cell? ⟨x, 1, none⟩ = some (.string f.f1) := by rw [Lib.cell_of_heap HBX.out]; rfl
  have b2 : W2.cell? ⟨x, 2, none⟩ = some (.int .i64 f.f2) := by rw [Lib.cell_of_heap HBX.out]; rfl
  have b3 : W2.cell? ⟨x, 3, none⟩ = some (.int .i64 f.f3) := by rw [Lib.cell_of_heap HBX.out]; rfl
  have g0 : W2.frozen? ⟨x, 0, none⟩ = false := Lib.frozen_of_heap HBX.out 0
  have g1 : W2.frozen? ⟨x, 1, none⟩ = false := Lib.frozen_of_heap HBX.out 1
  have g2 : W2.frozen? ⟨x, 2, none⟩ = false := Lib.frozen_of_heap HBX.out 2
  have g3 : W2.frozen? ⟨x, 3, none⟩ = false := Lib.frozen_of_heap HBX.out 3
  have gt : W2.frozen? ⟨t, 1, none⟩ = false := Lib.frozen_of_heap HT2.out.ht 1
  go_wp2_with fail
  obtain ⟨W3, hW3⟩ : ∃ W3, (((W2.setCell ⟨t, 1, none⟩ (.int .i64 (T.rev + 1))).setCell ⟨x, 0, none⟩ (.string n)).setCell ⟨x, 1, none⟩ (.string s)).setCell ⟨x, 2, none⟩ (.int .i64 tier) = W3 := ⟨_, rfl⟩
  rw [hW3]
  have hx3 : W3.heap[x]? = some (.cells #[.string n, .string s, .int .i64 tier, .int .i64 f.f3] 32 (0, 0)) := by
    rw [← hW3]
    rw [blk_set (blk_set (blk_set ((Below.heap_setCell W2 ⟨t, 1, none⟩ _ x n1).trans HBX.out) 0 _) 1 _) 2 _]
    rfl
  have ho3 : ∀ k, k ≠ x → k ≠ t → W3.heap[k]? = W2.heap[k]? := fun k h1 h2 => by
    rw [← hW3]
    exact (Below.heap_setCell _ ⟨x, 2, none⟩ _ k h1).trans ((Below.heap_setCell _ ⟨x, 1, none⟩ _ k h1).trans ((Below.heap_setCell _ ⟨x, 0, none⟩ _ k h1).trans (Below.heap_setCell _ ⟨t, 1, none⟩ _ k h2)))
  have ht3 : W3.heap[t]? = some (.cells #[.int .i64 T.most, .int .i64 (T.rev + 1), .map (some bm), .map (some bd)] 63 (0, 0)) := by
    rw [← hW3]
    exact (Below.heap_setCell _ ⟨x, 2, none⟩ _ t n2).trans ((Below.heap_setCell _ ⟨x, 1, none⟩ _ t n2).trans ((Below.heap_setCell _ ⟨x, 0, none⟩ _ t n2).trans (by rw [blk_set HT2.out.ht]; rfl)))
  have hC3 : Ch B S w W3 := by
    rw [← hW3]
    exact (((HC2.out.setCell (p := ⟨t, 1, none⟩) (HT2.out.sB t HT2.out.st).1 (.inl HT2.out.st) _).setCell (p := ⟨x, 0, none⟩) (by show B ≤ x; omega) (.inr hxt) _).setCell (p := ⟨x, 1, none⟩) (by show B ≤ x; omega) (.inr hxt) _).setCell (p := ⟨x, 2, none⟩) (by show B ≤ x; omega) (.inr hxt) _
  have hz3 : W3.heap.size = W2.heap.size := by rw [← hW3]; simp
  clear k0 k1 k2 k3 b0 b1 b2 b3 g0 g1 g2 g3 gt hW3
  have HX3 := Aside0.mk hx3
  have HT3 := Aside0.mk ht3
  have HO3 := Aside0.mk ho3
  have HC3 := Aside0.mk hC3
  have k2 : W3.cell? ⟨t, 2, none⟩ = some (.map (some bm)) := by rw [Lib.cell_of_heap HT3.out]; rfl
  have b0 : W3.cell? ⟨x, 0, none⟩ = some (.string n) := by rw [Lib.cell_of_heap HX3.out]; rfl
  have b1 : W3.cell? ⟨x, 1, none⟩ = some (.string s) := by rw [Lib.cell_of_heap HX3.out]; rfl
  have b2 : W3.cell? ⟨x, 2, none⟩ = some (.int .i64 tier) := by rw [Lib.cell_of_heap HX3.out]; rfl
  have b3 : W3.cell? ⟨x, 3, none⟩ = some (.int .i64 f.f3) := by rw [Lib.cell_of_heap HX3.out]; rfl
  have hm3 : MapV elemF dF W3 bm (get here T.l) := HT2.out.hm.heap (HO3.out bm (fun e => hSx (e ▸ HT2.out.sm)) (fun e => HT2.out.nm e.symm))
  obtain ⟨W4, hrun, hone, hmap⟩ := MapV.store (w := W3.drew) HT2.out.ok.sorted HT2.out.ok.len hm3 Try.underlying60 ⟨n, s, tier, f.f3, false⟩ hn _ (elemF_mk _)
  have HONE : Aside0 (One bm W3 W4) := ⟨⟨hone.os, hone.tape, hone.output, hone.size, hone.block⟩⟩
  have HMAP := Aside0.mk hmap
  clear hx3 ht3 ho3 hC3 hm3 hone hmap
  simp only [vF] at hrun
  go_still_tail 6, (by kernel_rfl)
  change wpList _ _ _ _ _ W3.drew
  generalize W3.drew = W3d at hrun ⊢
  have ht4 : W4.heap[t]? = some (.cells #[.int .i64 T.most, .int .i64 (T.rev + 1), .map (some bm), .map (some bd)] 63 (0, 0)) := (HONE.out.block t HT2.out.nm).trans HT3.out
  have hd4' : MapV (plainElem Try.prog 3) dI W4 bd (get gone T.l) := HT2.out.hd.heap ((HONE.out.block bd HT2.out.ne.symm).trans (HO3.out bd (fun e => hSx (e ▸ HT2.out.sd)) (fun e => HT2.out.nd e.symm)))
  obtain ⟨W5, hdel, hone5, hmap5⟩ := MapV.drop hd4' Try.underlying61 n hn 0
  have c3 : W4.cell? ⟨t, 3, none⟩ = some (.map (some bd)) := by rw [Lib.cell_of_heap ht4]; rfl
  have HONE5 := Aside0.mk hone5
  have HMAP5 := Aside0.mk hmap5
  have HT4 := Aside0.mk ht4
  clear hone5 hmap5 ht4 hd4' k2 b0 b1 b2 b3
  go_wp2
  go_ret
  refine ⟨rfl, ts_put HT2.out rfl ?_ ?_ ((HONE5.out.block t HT2.out.nd).trans HT4.out) (HMAP.out.heap (HONE5.out.block bm HT2.out.ne)) HMAP5.out, (HC3.out.one HONE.out (HT2.out.sB bm HT2.out.sm).1 (.inl HT2.out.sm)).one HONE5.out (HT2.out.sB bd HT2.out.sd).1 (.inl HT2.out.sd)⟩
  · obtain ⟨q1, q2, q3, q4, q5⟩ := rightV_ok hr
    exact tok_set HT2.out.ok _ hlen hrev ⟨by show n.size ≤ 1000000; omega, q5, q3, q4, (HT2.out.ok.el f (get_some HG.out).1).2.2.2.2.1, by have := (HT2.out.ok.el f (get_some HG.out).1).2.2.2.2.2; show f.f3 ≤ T.rev + 1; omega⟩ (fun _ => .inl (by show (get here T.l n.data.toList).isSome = true; rw [HG.out]; rfl))
  · rw [HONE5.out.size, HONE.out.size]; exact Nat.le_of_eq hz3.symm
end Go.Proofs.Ytonhfcjldbohbaa.Fi

namespace Go.Proofs.Ytonhfcjldbohbaa.Fi
open Go Go.RowKit Go.ChangeMaps Go.MapKept Go.Proofs.Ytonhfcjldbohbaa.PA Go.Proofs.YtonhfcjldbohbaaW.PrintWords Go.Proofs.YtonhfcjldbohbaaW.PrintLast Go.Proofs.YtonhfcjldbohbaaW.PrintMore
set_option linter.unusedVariables false
set_option linter.unusedSimpArgs false

set_option maxHeartbeats 4000000 in
set_option maxRecDepth 100000 in
theorem put_full {B : Nat} {S : Nat → Prop} {t : Nat} {T : Tb} {w : World} (hB : B ≤ w.heap.size) (h : TB B S t T w) (n s : ByteArray) (tier : Int) (hn : n.size ≤ 9223372036854775807) (hr : rightV n s tier = 0) (hg : get here T.l n.data.toList = none) (hc : (T.l.filter here).length < 64) (hrev : T.most ≤ T.rev) :
    Calls Try.prog 10 #[.pointer (some ⟨t, 0, none⟩), .string n, .string s, .int .i64 tier] w (PutPost B S t w (T, 6)) := by
  have hd : (rightV n s tier != 0) = false := by simpa using hr
  have H := Aside0.mk h
  clear h
  go_enter Try.func10, Try.ntmps10
  go_wp2_with fail
  refine (right_any n s tier w).mono ?_
  rintro e w1 ⟨rfl, hb⟩
  have ht := H.out.below hb
  have HB := Aside0.mk hb
  have HT := Aside0.mk ht
  obtain ⟨bm, bd, ht⟩ := ht
  have hlook := ht.hm.look n hn
  have hc0 : w1.cell? ⟨t, 0, none⟩ = some (.int .i64 T.most) := by rw [Lib.cell_of_heap ht.ht]; rfl
  have hc1 : w1.cell? ⟨t, 1, none⟩ = some (.int .i64 T.rev) := by rw [Lib.cell_of_heap ht.ht]; rfl
  have hc2 : w1.cell? ⟨t, 2, none⟩ = some (.map (some bm)) := by rw [Lib.cell_of_heap ht.ht]; rfl
  have hlt := (ht.sB t ht.st).2
  have hct : ∀ i u, w1.cell? ⟨t, i, none⟩ = some u → (w1.alloc (.cells #[.string ⟨#[]⟩, .string ⟨#[]⟩, .int .i64 0, .int .i64 0] 32)).cell? ⟨t, i, none⟩ = some u := fun i u hu => (World.cell?_of_block (Below.heap_alloc w1 _ t hlt)).trans hu
  have hk0 := hct 0 _ hc0
  have hk1 := hct 1 _ hc1
  have hk2 := hct 2 _ hc2
  have hle := (ht.heap (w' := w1.alloc (.cells #[.string ⟨#[]⟩, .string ⟨#[]⟩, .int .i64 0, .int .i64 0] 32)) (by simp) (fun k hk => Below.heap_alloc _ _ _ (ht.sB k hk).2)).hm.len ht.ok.sorted Try.underlying60 3
  rw [hg] at hlook
  simp only [vF, Option.getD, Option.isSome] at hlook
  have hd2 : decide (64 ≤ ((T.l.filter here).length : Int)) = false := decide_eq_false (by omega)
  have hd3 : decide (64 ≤ (T.l.filter here).length) = false := decide_eq_false (by omega)
  have hd4 : decide (T.most ≤ T.rev) = true := decide_eq_true hrev
  clear hb ht hg hct hc0 hc1
  go_wp2_with fail
  go_region
  go_wp2_with fail
  go_ret
  exact ⟨rfl, HT.out.below (by repeat (first | exact Below.refl _ _ | (refine Below.alloc ?_ (by simp) _) | (refine Below.setCell ?_ (by simp) _) | apply Below.drew)), (Ch.of_below S HB.out hB).trans (S' := S) (Ch.of_below S (by repeat (first | exact Below.refl _ _ | (refine Below.alloc ?_ (by simp) _) | (refine Below.setCell ?_ (by simp) _) | apply Below.drew)) (by have := HB.out.size; omega)) (fun x h => .inl h)⟩
set_option maxHeartbeats 4000000 in
set_option maxRecDepth 100000 in
theorem put_same {B : Nat} {S : Nat → Prop} {t : Nat} {T : Tb} {w : World} {f : Fl} (hB : B ≤ w.heap.size) (h : TB B S t T w) (n s : ByteArray) (tier : Int) (hn : n.size ≤ 9223372036854775807) (hr : rightV n s tier = 0) (hg : get here T.l n.data.toList = some f) (hs : (f.f1.toList == s.toList) = true) (hti : (f.f2 == tier) = true) :
    Calls Try.prog 10 #[.pointer (some ⟨t, 0, none⟩), .string n, .string s, .int .i64 tier] w (PutPost B S t w (T, 0)) := by
  have hd : (rightV n s tier != 0) = false := by simpa using hr
  have H := Aside0.mk h
  clear h
  go_enter Try.func10, Try.ntmps10
  go_wp2_with fail
  refine (right_any n s tier w).mono ?_
  rintro e w1 ⟨rfl, hb⟩
  have ht := H.out.below hb
  have HB := Aside0.mk hb
  have HT := Aside0.mk ht
  obtain ⟨bm, bd, ht⟩ := ht
  have hlook := ht.hm.look n hn
  have hc0 : w1.cell? ⟨t, 0, none⟩ = some (.int .i64 T.most) := by rw [Lib.cell_of_heap ht.ht]; rfl
  have hc1 : w1.cell? ⟨t, 1, none⟩ = some (.int .i64 T.rev) := by rw [Lib.cell_of_heap ht.ht]; rfl
  have hc2 : w1.cell? ⟨t, 2, none⟩ = some (.map (some bm)) := by rw [Lib.cell_of_heap ht.ht]; rfl
  have hlt := (ht.sB t ht.st).2
  have hct : ∀ i u, w1.cell? ⟨t, i, none⟩ = some u → (w1.alloc (.cells #[.string f.f0, .string f.f1, .int .i64 f.f2, .int .i64 f.f3] 32)).cell? ⟨t, i, none⟩ = some u := fun i u hu => (World.cell?_of_block (Below.heap_alloc w1 _ t hlt)).trans hu
  have hk0 := hct 0 _ hc0
  have hk1 := hct 1 _ hc1
  have hk2 := hct 2 _ hc2
  rw [hg] at hlook
  simp only [vF, Option.getD, Option.isSome] at hlook
  clear hb ht hg hct hc0 hc1
  go_wp2_with fail
  go_ret
  exact ⟨rfl, HT.out.below (by repeat (first | exact Below.refl _ _ | (refine Below.alloc ?_ (by simp) _) | (refine Below.setCell ?_ (by simp) _) | apply Below.drew)), (Ch.of_below S HB.out hB).trans (S' := S) (Ch.of_below S (by repeat (first | exact Below.refl _ _ | (refine Below.alloc ?_ (by simp) _) | (refine Below.setCell ?_ (by simp) _) | apply Below.drew)) (by have := HB.out.size; omega)) (fun x h => .inl h)⟩
set_option maxHeartbeats 4000000 in
set_option maxRecDepth 100000 in
theorem put_stop1 {B : Nat} {S : Nat → Prop} {t : Nat} {T : Tb} {w : World} {f : Fl} (hB : B ≤ w.heap.size) (h : TB B S t T w) (n s : ByteArray) (tier : Int) (hn : n.size ≤ 9223372036854775807) (hr : rightV n s tier = 0) (hg : get here T.l n.data.toList = some f) (hs : (f.f1.toList == s.toList) = false) (hrev : T.most ≤ T.rev) :
    Calls Try.prog 10 #[.pointer (some ⟨t, 0, none⟩), .string n, .string s, .int .i64 tier] w (PutPost B S t w (T, 6)) := by
  have hd : (rightV n s tier != 0) = false := by simpa using hr
  have H := Aside0.mk h
  clear h
  go_enter Try.func10, Try.ntmps10
  go_wp2_with fail
  refine (right_any n s tier w).mono ?_
  rintro e w1 ⟨rfl, hb⟩
  have ht := H.out.below hb
  have HB := Aside0.mk hb
  have HT := Aside0.mk ht
  obtain ⟨bm, bd, ht⟩ := ht
  have hlook := ht.hm.look n hn
  have hc0 : w1.cell? ⟨t, 0, none⟩ = some (.int .i64 T.most) := by rw [Lib.cell_of_heap ht.ht]; rfl
  have hc1 : w1.cell? ⟨t, 1, none⟩ = some (.int .i64 T.rev) := by rw [Lib.cell_of_heap ht.ht]; rfl
  have hc2 : w1.cell? ⟨t, 2, none⟩ = some (.map (some bm)) := by rw [Lib.cell_of_heap ht.ht]; rfl
  have hlt := (ht.sB t ht.st).2
  have hct : ∀ i u, w1.cell? ⟨t, i, none⟩ = some u → (w1.alloc (.cells #[.string f.f0, .string f.f1, .int .i64 f.f2, .int .i64 f.f3] 32)).cell? ⟨t, i, none⟩ = some u := fun i u hu => (World.cell?_of_block (Below.heap_alloc w1 _ t hlt)).trans hu
  have hk0 := hct 0 _ hc0
  have hk1 := hct 1 _ hc1
  have hk2 := hct 2 _ hc2
  rw [hg] at hlook
  simp only [vF, Option.getD, Option.isSome] at hlook
  have hd4 : decide (T.most ≤ T.rev) = true := decide_eq_true hrev
  clear hb ht hg hct hc0 hc1
  go_wp2_with fail
  go_region
  go_wp2_with fail
  go_ret
  exact ⟨rfl, HT.out.below (by repeat (first | exact Below.refl _ _ | (refine Below.alloc ?_ (by simp) _) | (refine Below.setCell ?_ (by simp) _) | apply Below.drew)), (Ch.of_below S HB.out hB).trans (S' := S) (Ch.of_below S (by repeat (first | exact Below.refl _ _ | (refine Below.alloc ?_ (by simp) _) | (refine Below.setCell ?_ (by simp) _) | apply Below.drew)) (by have := HB.out.size; omega)) (fun x h => .inl h)⟩
set_option maxHeartbeats 4000000 in
set_option maxRecDepth 100000 in
theorem put_stop2 {B : Nat} {S : Nat → Prop} {t : Nat} {T : Tb} {w : World} {f : Fl} (hB : B ≤ w.heap.size) (h : TB B S t T w) (n s : ByteArray) (tier : Int) (hn : n.size ≤ 9223372036854775807) (hr : rightV n s tier = 0) (hg : get here T.l n.data.toList = some f) (hs : (f.f1.toList == s.toList) = true) (hti : (f.f2 == tier) = false) (hrev : T.most ≤ T.rev) :
    Calls Try.prog 10 #[.pointer (some ⟨t, 0, none⟩), .string n, .string s, .int .i64 tier] w (PutPost B S t w (T, 6)) := by
  have hd : (rightV n s tier != 0) = false := by simpa using hr
  have H := Aside0.mk h
  clear h
  go_enter Try.func10, Try.ntmps10
  go_wp2_with fail
  refine (right_any n s tier w).mono ?_
  rintro e w1 ⟨rfl, hb⟩
  have ht := H.out.below hb
  have HB := Aside0.mk hb
  have HT := Aside0.mk ht
  obtain ⟨bm, bd, ht⟩ := ht
  have hlook := ht.hm.look n hn
  have hc0 : w1.cell? ⟨t, 0, none⟩ = some (.int .i64 T.most) := by rw [Lib.cell_of_heap ht.ht]; rfl
  have hc1 : w1.cell? ⟨t, 1, none⟩ = some (.int .i64 T.rev) := by rw [Lib.cell_of_heap ht.ht]; rfl
  have hc2 : w1.cell? ⟨t, 2, none⟩ = some (.map (some bm)) := by rw [Lib.cell_of_heap ht.ht]; rfl
  have hlt := (ht.sB t ht.st).2
  have hct : ∀ i u, w1.cell? ⟨t, i, none⟩ = some u → (w1.alloc (.cells #[.string f.f0, .string f.f1, .int .i64 f.f2, .int .i64 f.f3] 32)).cell? ⟨t, i, none⟩ = some u := fun i u hu => (World.cell?_of_block (Below.heap_alloc w1 _ t hlt)).trans hu
  have hk0 := hct 0 _ hc0
  have hk1 := hct 1 _ hc1
  have hk2 := hct 2 _ hc2
  rw [hg] at hlook
  simp only [vF, Option.getD, Option.isSome] at hlook
  have hd4 : decide (T.most ≤ T.rev) = true := decide_eq_true hrev
  clear hb ht hg hct hc0 hc1
  go_wp2_with fail
  go_region
  go_wp2_with fail
  go_ret
  exact ⟨rfl, HT.out.below (by repeat (first | exact Below.refl _ _ | (refine Below.alloc ?_ (by simp) _) | (refine Below.setCell ?_ (by simp) _) | apply Below.drew)), (Ch.of_below S HB.out hB).trans (S' := S) (Ch.of_below S (by repeat (first | exact Below.refl _ _ | (refine Below.alloc ?_ (by simp) _) | (refine Below.setCell ?_ (by simp) _) | apply Below.drew)) (by have := HB.out.size; omega)) (fun x h => .inl h)⟩
theorem put_any {B : Nat} {S : Nat → Prop} {t : Nat} {T : Tb} {w : World} (hB : B ≤ w.heap.size) (h : TB B S t T w) (hlen : T.l.length < 1000000) (n s : ByteArray) (tier : Int) (hn : n.size ≤ 9223372036854775807) :
    Calls Try.prog 10 #[.pointer (some ⟨t, 0, none⟩), .string n, .string s, .int .i64 tier] w (PutPost B S t w (putT T n s tier)) := by
  unfold putT
  by_cases hr : rightV n s tier = 0
  · rw [if_neg (by simpa using hr)]
    cases hg : get here T.l n.data.toList with
    | none =>
      by_cases hc : 64 ≤ (T.l.filter here).length
      · simp only [if_pos hc]; exact put_none hB h n s tier hn hr hg hc
      · simp only [if_neg hc]
        by_cases hrev : T.most ≤ T.rev
        · rw [if_pos hrev]; exact put_full hB h n s tier hn hr hg (by omega) hrev
        · rw [if_neg hrev]; exact put_new hB h n s tier hn hlen hr hg (by omega) (by omega)
    | some f =>
      by_cases hs : (f.f1.toList == s.toList) = true
      · by_cases hti : (f.f2 == tier) = true
        · simp only [hs, hti, Bool.and_self, if_true]; exact put_same hB h n s tier hn hr hg hs hti
        · simp only [hs, Bool.true_and, if_neg hti, if_true]
          have hti' : (f.f2 == tier) = false := by simpa using hti
          by_cases hrev : T.most ≤ T.rev
          · rw [if_pos hrev]; exact put_stop2 hB h n s tier hn hr hg hs hti' hrev
          · rw [if_neg hrev]; exact put_tier hB h n s tier hn hlen hr hg hs hti' (by omega)
      · have hs' : (f.f1.toList == s.toList) = false := by simpa using hs
        simp only [hs', Bool.false_and, Bool.false_eq_true, if_false]
        by_cases hrev : T.most ≤ T.rev
        · rw [if_pos hrev]; exact put_stop1 hB h n s tier hn hr hg hs' hrev
        · rw [if_neg hrev]; exact put_src hB h n s tier hn hlen hr hg hs' (by omega)
  · rw [if_pos hr]; exact put_bad hB h n s tier hr

/-! ### Drop -/
def dropT (T : Tb) (n : ByteArray) : Tb × Int := match get here T.l n.data.toList with
  | none => (T, 3)
  | some f => if T.most ≤ T.rev then (T, 6) else (⟨T.most, T.rev + 1, setL ⟨n, nil0, 0, T.rev + 1, true⟩ T.l⟩, 0)
set_option maxHeartbeats 4000000 in
set_option maxRecDepth 100000 in
theorem drop_none {B : Nat} {S : Nat → Prop} {t : Nat} {T : Tb} {w : World} (hB : B ≤ w.heap.size) (h : TB B S t T w) (n : ByteArray) (hn : n.size ≤ 9223372036854775807) (hg : get here T.l n.data.toList = none) :
    Calls Try.prog 23 #[.pointer (some ⟨t, 0, none⟩), .string n] w (PutPost B S t w (T, 3)) := by
  have H := Aside0.mk h
  obtain ⟨bm, bd, ht⟩ := h
  have hlook := ht.hm.look n hn
  have hc2 : w.cell? ⟨t, 2, none⟩ = some (.map (some bm)) := by rw [Lib.cell_of_heap ht.ht]; rfl
  rw [hg] at hlook
  simp only [vF, Option.getD, Option.isSome] at hlook
  clear ht hg
  go_enter Try.func23, Try.ntmps23
  go_wp2
  go_ret
  exact ⟨rfl, H.out.below (by repeat (first | exact Below.refl _ _ | (refine Below.alloc ?_ (by simp) _) | (refine Below.setCell ?_ (by simp) _) | apply Below.drew)), Ch.of_below S (by repeat (first | exact Below.refl _ _ | (refine Below.alloc ?_ (by simp) _) | (refine Below.setCell ?_ (by simp) _) | apply Below.drew)) hB⟩
set_option maxHeartbeats 4000000 in
set_option maxRecDepth 100000 in
theorem drop_stop {B : Nat} {S : Nat → Prop} {t : Nat} {T : Tb} {w : World} {f : Fl} (hB : B ≤ w.heap.size) (h : TB B S t T w) (n : ByteArray) (hn : n.size ≤ 9223372036854775807) (hg : get here T.l n.data.toList = some f) (hrev : T.most ≤ T.rev) :
    Calls Try.prog 23 #[.pointer (some ⟨t, 0, none⟩), .string n] w (PutPost B S t w (T, 6)) := by
  have H := Aside0.mk h
  obtain ⟨bm, bd, ht⟩ := h
  have hlook := ht.hm.look n hn
  have hc0 : w.cell? ⟨t, 0, none⟩ = some (.int .i64 T.most) := by rw [Lib.cell_of_heap ht.ht]; rfl
  have hc1 : w.cell? ⟨t, 1, none⟩ = some (.int .i64 T.rev) := by rw [Lib.cell_of_heap ht.ht]; rfl
  have hc2 : w.cell? ⟨t, 2, none⟩ = some (.map (some bm)) := by rw [Lib.cell_of_heap ht.ht]; rfl
  have hlt := (ht.sB t ht.st).2
  have hct : ∀ i u, w.cell? ⟨t, i, none⟩ = some u → (w.alloc (.cells #[.string f.f0, .string f.f1, .int .i64 f.f2, .int .i64 f.f3] 32)).cell? ⟨t, i, none⟩ = some u := fun i u hu => (World.cell?_of_block (Below.heap_alloc w _ t hlt)).trans hu
  have hk0 := hct 0 _ hc0
  have hk1 := hct 1 _ hc1
  have hd4 : decide (T.most ≤ T.rev) = true := decide_eq_true hrev
  rw [hg] at hlook
  simp only [vF, Option.getD, Option.isSome] at hlook
  clear ht hg hct hc0 hc1
  go_enter Try.func23, Try.ntmps23
  go_wp2_with fail
  go_region
  go_wp2
  go_ret
  exact ⟨rfl, H.out.below (by repeat (first | exact Below.refl _ _ | (refine Below.alloc ?_ (by simp) _) | (refine Below.setCell ?_ (by simp) _) | apply Below.drew)), Ch.of_below S (by repeat (first | exact Below.refl _ _ | (refine Below.alloc ?_ (by simp) _) | (refine Below.setCell ?_ (by simp) _) | apply Below.drew)) hB⟩
set_option maxHeartbeats 4000000 in
set_option maxRecDepth 100000 in
theorem drop_do {B : Nat} {S : Nat → Prop} {t : Nat} {T : Tb} {w : World} {f : Fl} (hB : B ≤ w.heap.size) (h : TB B S t T w) (n : ByteArray) (hn : n.size ≤ 9223372036854775807) (hlen : T.l.length < 1000000) (hg : get here T.l n.data.toList = some f) (hrev : T.rev < T.most) :
    Calls Try.prog 23 #[.pointer (some ⟨t, 0, none⟩), .string n] w (PutPost B S t w (⟨T.most, T.rev + 1, setL ⟨n, nil0, 0, T.rev + 1, true⟩ T.l⟩, 0)) := by
  obtain ⟨bm, bd, ht⟩ := h
  have HT := Aside0.mk ht
  have hlook := ht.hm.look n hn
  have hc0 : w.cell? ⟨t, 0, none⟩ = some (.int .i64 T.most) := by rw [Lib.cell_of_heap ht.ht]; rfl
  have hc1 : w.cell? ⟨t, 1, none⟩ = some (.int .i64 T.rev) := by rw [Lib.cell_of_heap ht.ht]; rfl
  have hc2 : w.cell? ⟨t, 2, none⟩ = some (.map (some bm)) := by rw [Lib.cell_of_heap ht.ht]; rfl
  have hlt := (ht.sB t ht.st).2
  have hct : ∀ i u, w.cell? ⟨t, i, none⟩ = some u → (w.alloc (.cells #[.string f.f0, .string f.f1, .int .i64 f.f2, .int .i64 f.f3] 32)).cell? ⟨t, i, none⟩ = some u := fun i u hu => (World.cell?_of_block (Below.heap_alloc w _ t hlt)).trans hu
  have hk0 := hct 0 _ hc0
  have hk1 := hct 1 _ hc1
  have hd4 : decide (T.most ≤ T.rev) = false := decide_eq_false (by omega)
  rw [hg] at hlook
  simp only [vF, Option.getD, Option.isSome] at hlook
  have HG := Aside0.mk hg
  have hrb := ht.ok.rev0
  have hrb2 := ht.ok.most
  have hw : wrap64 (T.rev + 1) = T.rev + 1 := by unfold wrap64; omega
  have HW := Aside0.mk hw
  clear ht hg hct hc0 hc1 hw
  go_enter Try.func23, Try.ntmps23
  go_wp2_with fail
  go_region
  obtain ⟨W2, hW2⟩ : ∃ W2, (w.alloc (.cells #[.string f.f0, .string f.f1, .int .i64 f.f2, .int .i64 f.f3] 32)).drew = W2 := ⟨_, rfl⟩
  rw [hW2]
  have hT2 : TS B S t bm bd T W2 := by rw [← hW2]; exact HT.out.heap (w' := (w.alloc (.cells #[.string f.f0, .string f.f1, .int .i64 f.f2, .int .i64 f.f3] 32)).drew) (by simp) (fun k hk => Below.heap_alloc _ _ _ (HT.out.sB k hk).2)
  have hC2 : Ch B S w W2 := by
    rw [← hW2]
    exact Ch.of_below S (by repeat (first | exact Below.refl _ _ | (refine Below.alloc ?_ (by simp) _) | (refine Below.setCell ?_ (by simp) _) | apply Below.drew)) hB
  have HT2 := Aside0.mk hT2
  have HC2 := Aside0.mk hC2
  clear hk0 hk1 hlook hc2 hT2 hC2 hW2 HT hlt
  have k1 : W2.cell? ⟨t, 1, none⟩ = some (.int .i64 T.rev) := by rw [Lib.cell_of_heap HT2.out.ht]; rfl
  have k2 : W2.cell? ⟨t, 2, none⟩ = some (.map (some bm)) := by rw [Lib.cell_of_heap HT2.out.ht]; rfl
  have gt : W2.frozen? ⟨t, 1, none⟩ = false := Lib.frozen_of_heap HT2.out.ht 1
  have ht3 : (W2.setCell ⟨t, 1, none⟩ (.int .i64 (T.rev + 1))).heap[t]? = some (.cells #[.int .i64 T.most, .int .i64 (T.rev + 1), .map (some bm), .map (some bd)] 63 (0, 0)) := by rw [blk_set HT2.out.ht]; rfl
  have hm3 : MapV elemF dF (W2.setCell ⟨t, 1, none⟩ (.int .i64 (T.rev + 1))) bm (get here T.l) := HT2.out.hm.heap (Below.heap_setCell _ ⟨t, 1, none⟩ _ bm HT2.out.nm.symm)
  obtain ⟨W4, hdel, hone, hmap⟩ := MapV.drop hm3 Try.underlying60 n hn 0
  have ht4 : W4.heap[t]? = some (.cells #[.int .i64 T.most, .int .i64 (T.rev + 1), .map (some bm), .map (some bd)] 63 (0, 0)) := (hone.block t HT2.out.nm).trans ht3
  have hd4' : MapV (plainElem Try.prog 3) dI W4 bd (get gone T.l) := HT2.out.hd.heap ((hone.block bd HT2.out.ne.symm).trans (Below.heap_setCell _ ⟨t, 1, none⟩ _ bd HT2.out.nd.symm))
  obtain ⟨W5, hrun, hone5, hmap5⟩ := MapV.store (w := W4.drew) (v := .int .i64 (T.rev + 1)) HT2.out.ok.sorted HT2.out.ok.len hd4' Try.underlying61 ⟨n, nil0, 0, T.rev + 1, true⟩ hn (plainElem_int Try.underlying3 (by simp [Lit.wf, IntKind.min, IntKind.max, IntKind.signed, IntKind.bits]; omega))
  have c1 : W4.cell? ⟨t, 1, none⟩ = some (.int .i64 (T.rev + 1)) := by rw [Lib.cell_of_heap ht4]; rfl
  have c3 : W4.cell? ⟨t, 3, none⟩ = some (.map (some bd)) := by rw [Lib.cell_of_heap ht4]; rfl
  have HONE := Aside0.mk hone
  have HMAP := Aside0.mk hmap
  have HONE5 : Aside0 (One bd W4 W5) := ⟨⟨hone5.os, hone5.tape, hone5.output, hone5.size, hone5.block⟩⟩
  have HMAP5 := Aside0.mk hmap5
  have HT4 := Aside0.mk ht4
  clear hone hmap hone5 hmap5 ht3 ht4 hm3 hd4'
  go_wp2_with fail
  go_still_tail 9, (by kernel_rfl)
  change wpList _ _ _ _ _ W4.drew
  generalize W4.drew = W4d at hrun ⊢
  go_wp2
  go_ret
  refine ⟨rfl, ts_drop HT2.out rfl ?_ ?_ ((HONE5.out.block t HT2.out.nd).trans HT4.out) (HMAP.out.heap (HONE5.out.block bm HT2.out.ne)) HMAP5.out, ((HC2.out.setCell (p := ⟨t, 1, none⟩) (HT2.out.sB t HT2.out.st).1 (.inl HT2.out.st) _).one HONE.out (HT2.out.sB bm HT2.out.sm).1 (.inl HT2.out.sm)).one HONE5.out (HT2.out.sB bd HT2.out.sd).1 (.inl HT2.out.sd)⟩
  · obtain ⟨q1, q2, q3⟩ := get_some HG.out
    have h1 := (HT2.out.ok.el f q1).1
    have h2 : n.size = f.f0.size := by
      have := congrArg List.length q2
      simpa [nmL] using this.symm
    exact tok_set HT2.out.ok _ hlen hrev ⟨by show n.size ≤ 1000000; omega, Nat.zero_le _, Int.le_refl _, by show (0 : Int) ≤ 2; decide, by show 0 ≤ T.rev + 1; omega, Int.le_refl _⟩ (fun e => by simp [here] at e)
  · rw [HONE5.out.size, HONE.out.size]; simp
theorem drop_any {B : Nat} {S : Nat → Prop} {t : Nat} {T : Tb} {w : World} (hB : B ≤ w.heap.size) (h : TB B S t T w) (hlen : T.l.length < 1000000) (n : ByteArray) (hn : n.size ≤ 9223372036854775807) :
    Calls Try.prog 23 #[.pointer (some ⟨t, 0, none⟩), .string n] w (PutPost B S t w (dropT T n)) := by
  unfold dropT
  cases hg : get here T.l n.data.toList with
  | none => exact drop_none hB h n hn hg
  | some f =>
    by_cases hrev : T.most ≤ T.rev
    · simp only [if_pos hrev]; exact drop_stop hB h n hn hg hrev
    · simp only [if_neg hrev]; exact drop_do hB h n hn hlen hg (by omega)
end Go.Proofs.Ytonhfcjldbohbaa.Fi

namespace Go.Proofs
open Go.RowKit Go.Maps Go.Sort Go.Shelf
/-- slices.Sort's two contracts at this dump, at the fence that asks nothing. -/
theorem Try.sortsF (m : Nat) : AnyZ.SortsIn Try.prog Try.sortedF_ren Fence.wide m :=
  ⟨fun blk off cap ss W hH hblk hsz => callsIn_wide.2 (AnyM.slices_Sort_string Try.sortF blk off cap ss W hH hblk hsz),
   fun p cap W => callsIn_wide.2 (AnyM.slices_Sort_string_none Try.sortF p cap W)⟩
theorem Try.maps_KeysF (mb : Option Nat) (W : World) : CallsIn Fence.wide 5 Try.prog 43 #[.map mb] W fun e w' => e = .returned (.func (.func 49) #[] #[.pointer (some ⟨W.heap.size, 0, none⟩)]) ∧ w' = W.alloc (.cells #[.map mb] 60) :=
  AnyZ.keys_in Try.keysF Fence.wide 5 trivial rfl mb W
set_option maxHeartbeats 1000000 in
theorem Try.slices_SortedF {H : Type} (b nn : Nat) (D0 : DataW H) (R : Value → Option (DataW H × List MemPlace)) (w : World) (hown : w.ownsMap Try.prog 9 R b nn D0) (hmax : Maps.size D0 ≤ maxLen) (hbytes : Maps.size D0 * 16 ≤ 140737488355328) :
    CallsIn Fence.wide 5 Try.prog 42 #[.func (.func 49) #[] #[.pointer (some ⟨w.heap.size, 0, none⟩)]] (w.alloc (.cells #[.map (some b)] 60)) fun e w' => ∃ (v : Value) (ss : List (List UInt8)), e = .returned v ∧ ss.Perm (strKeys D0) ∧
      w'.ownsRow (w.alloc (.cells #[.map (some b)] 60)).heap.size 9 1 v ss.length ((ss.mergeSort (fun x y => decide (x ≤ y))).map encStr) ∧ (v = .slice none 0 0 ↔ ss = []) ∧ Below (w.alloc (.cells #[.map (some b)] 60)).heap.size (w.alloc (.cells #[.map (some b)] 60)) w' := by
  have hbl := hown.lt
  have hseq : SeqGives Fence.wide 2 Try.prog 49 #[.pointer (some ⟨w.heap.size, 0, none⟩)] encStr (fun ss => ss.Perm (strKeys D0)) (Maps.size D0) (w.alloc (.cells #[.map (some b)] 60)) :=
    AnyZ.keys_gives (ρ := Try.keysF_ren) { Try.keysF with } Fence.wide _ trivial rfl (by omega) w.heap.size b nn D0 _ (by simp) (by simp) (by
      obtain ⟨es, clock, hb, Ft, hs, hD⟩ := hown
      exact ⟨es, clock, (Below.heap_alloc _ _ b hbl).trans hb, Ft, hs, hD⟩)
  exact AnyZ.sorted_in Try.sortedF Fence.wide 5 trivial trivial trivial trivial rfl (by omega) (Try.sortsF _) (enters_of Try.func28 (by kernel_rfl) rfl) 49 #[.pointer (some ⟨w.heap.size, 0, none⟩)] trivial (enters_of Try.func49 (by kernel_rfl) rfl) _ _ hmax hbytes _ hseq
end Go.Proofs
namespace Go.Proofs.Ytonhfcjldbohbaa.Fi
open Go Go.RowKit Go.ChangeMaps Go.MapKept Go.Proofs.Ytonhfcjldbohbaa.PA Go.Proofs.YtonhfcjldbohbaaW.PrintWords Go.Proofs.YtonhfcjldbohbaaW.PrintLast Go.Proofs.YtonhfcjldbohbaaW.PrintMore Go.Proofs.Ytonhfcjldbohbaa.Rg
attribute [local go_sem] Oper.semAt_some
set_option linter.unusedVariables false
set_option linter.unusedSimpArgs false

/-- A row stays where its block does. -/
theorem own_heap {w w' : World} {base : Nat} {e : TypeId} {size n : Nat} {v : Value} {xs : List Value} (h : w.ownsRow base e size v n xs) (hk : ∀ k, v.ownBlock = some k → w'.heap[k]? = w.heap[k]?) : w'.ownsRow base e size v n xs := by
  refine ⟨h.1, ?_⟩
  rcases h.2 with h2 | ⟨g, cap, cur, rfl, hb, hh, r⟩
  · exact .inl h2
  · exact .inr ⟨g, cap, cur, rfl, hb, (hk g rfl).trans hh, r⟩
/-- What stood stands, but for C. -/
def Keep (C : Nat → Prop) (W1 W2 : World) : Prop := W1.heap.size ≤ W2.heap.size ∧ ∀ k, k < W1.heap.size → ¬ C k → W2.heap[k]? = W1.heap[k]?
theorem Keep.refl (C : Nat → Prop) (W : World) : Keep C W W := ⟨Nat.le_refl _, fun _ _ _ => rfl⟩
/-- What stood stands. -/
def Old (w W : World) : Prop := Keep (fun _ => False) w W
theorem Old.refl (w : World) : Old w w := Keep.refl _ w
theorem Old.alloc {w W : World} (h : Old w W) (o : Obj) : Old w (W.alloc o) :=
  ⟨by have := h.1; simp; omega, fun k hk hc => (Below.heap_alloc W o k (Nat.lt_of_lt_of_le hk h.1)).trans (h.2 k hk hc)⟩
/-- The files that are there. -/
def allF (T : Tb) : List Fl := T.l.filter here
/-- An iterator's closure that gives ys. -/
def Src (N : Nat → Prop) (w : World) (lb : Array Value) (ys : List Fl) : Prop :=
  ∀ (n : Nat), 3 ≤ n → ∀ (W : World), Old w W → ∀ (l : Nat) (C : Nat → Prop), (∀ k, C k → k < W.heap.size ∧ ¬ N k) → ∀ (I Ix : World → List Fl → World → Prop),
    (∀ W1, Below W.heap.size W W1 → I W1 [] W1) →
    (∀ W1 pre y W2, Below W.heap.size W W1 → I W1 pre W2 → Keep C W1 W2 → pre.length < 64 → y ∈ ys → YieldAt Fence.wide (n - 1) Try.prog l #[vF y] W2 fun e W' => (e = .returned (.bool true) ∧ I W1 (pre ++ [y]) W' ∧ Keep C W1 W') ∨ (e = .returned (.bool false) ∧ Ix W1 (pre ++ [y]) W' ∧ Keep C W1 W')) →
    CallsIn Fence.wide n Try.prog 41 (#[.func (.yield l) #[] #[]] ++ lb) W fun e W' => (∃ v, e = .returned v) ∧ ∃ W1, Below W.heap.size W W1 ∧ Keep C W1 W' ∧ (I W1 ys W' ∨ ∃ pre, pre <+: ys ∧ Ix W1 pre W')

theorem files_nil_src (w : World) : Src (fun k => k = w.heap.size) (w.alloc (.cells #[.pointer none] 23)) #[.pointer (some ⟨w.heap.size, 0, none⟩)] [] := by
  intro n hn W hW l C hC I Ix hI hY
  have c0 : W.cell? ⟨w.heap.size, 0, none⟩ = some (.pointer none) := by
    rw [World.cell?_of_block (hW.2 w.heap.size (by simp) (fun h => h))]
    exact (Boxed.new w _ _).cell
  have HI := Aside0.mk (hI W (Below.refl _ _))
  clear hI hY
  refine callsIn_of_wp Try.func41 rfl trivial ?_ rfl
  simp only [Try.ntmps41, List.size_toArray, List.length_cons, List.length_nil, Nat.reduceAdd, Nat.reduceSub, Array.replicate_succ, Array.replicate_zero, List.push_toArray, List.append_toArray, List.nil_append, List.cons_append]
  gi_wp2
  refine bodyPost_ret (results_none rfl _ _ _) rfl ?_
  exact ⟨⟨_, rfl⟩, W, Below.refl _ _, Keep.refl _ _, .inl HI.out⟩
set_option maxHeartbeats 4000000 in
set_option maxRecDepth 100000 in
theorem files_src {B : Nat} {S : Nat → Prop} {t : Nat} {T : Tb} {w : World} (h : TB B S t T w) : Src (fun k => S k ∨ k = w.heap.size) (w.alloc (.cells #[.pointer (some ⟨t, 0, none⟩)] 23)) #[.pointer (some ⟨w.heap.size, 0, none⟩)] (allF T) := by
  obtain ⟨bm, bd, h⟩ := h
  intro n hn W hW l C hC I Ix hI hY
  have hzW : w.heap.size < W.heap.size := by have := hW.1; simp at this; omega
  have hold : ∀ k, k < w.heap.size → W.heap[k]? = w.heap[k]? := fun k hk => (hW.2 k (by simp; omega) (fun h => h)).trans (Below.heap_alloc _ _ k hk)
  have hT : TS B S t bm bd T W := h.heap (by omega) (fun k hk => hold k (h.sB k hk).2)
  have c0 : W.cell? ⟨w.heap.size, 0, none⟩ = some (.pointer (some ⟨t, 0, none⟩)) := by
    rw [World.cell?_of_block (hW.2 w.heap.size (by simp) (fun h => h))]
    exact (Boxed.new w _ _).cell
  have HSB := Aside0.mk (fun k hk => (h.sB k hk).2 : ∀ k, S k → k < w.heap.size)
  obtain ⟨Bt, hBt⟩ : ∃ Bt, w.heap.size = Bt := ⟨_, rfl⟩
  rw [hBt] at c0 hzW HSB hC ⊢
  have hc1 : W.cell? ⟨t, 2, none⟩ = some (.map (some bm)) := by rw [Lib.cell_of_heap hT.ht]; rfl
  obtain ⟨D, nn, hown, hx⟩ := hT.hm
  have hsz := MapV.size hT.ok.sorted hown hx
  have hcnt := hT.ok.cnt
  have hkeys : (names here T.l).Perm (strKeys D) := keys_perm hown (names_nodup hT.ok.sorted) (fun k => by rw [MapV.has hx k, mem_names hT.ok.sorted])
  have hC' : ∀ k, C k → k < W.heap.size ∧ ¬ S k ∧ k ≠ Bt := fun k hk => ⟨(hC k hk).1, fun e => (hC k hk).2 (.inl e), fun e => (hC k hk).2 (.inr e)⟩
  have HC := Aside0.mk hC'
  have C0 := Aside0.mk c0
  have HY := Aside0.mk hY
  have HI := Aside0.mk hI
  have HT := Aside0.mk hT
  have HK := Aside0.mk hkeys
  have HX := Aside0.mk hx
  have HSZ := Aside0.mk hsz
  have hmax : Maps.size D ≤ maxLen := by rw [hsz]; unfold maxLen; omega
  have hbytes : Maps.size D * 16 ≤ 140737488355328 := by rw [hsz]; omega
  have hBS : ¬ S Bt := fun e => by have := HSB.out Bt e; omega
  clear h hC hC' hY hI hT hkeys hx hsz hold hW hBt
  refine callsIn_of_wp Try.func41 rfl trivial ?_ rfl
  simp only [Try.ntmps41, List.size_toArray, List.length_cons, List.length_nil, Nat.reduceAdd, Nat.reduceSub, Array.replicate_succ, Array.replicate_zero, List.push_toArray, List.append_toArray, List.nil_append, List.cons_append]
  gi_wp2_with (first
    | (refine ⟨trivial, fun _ => by omega, ?_⟩; gi_at_call 43; refine (callsIn_wide.2 (callsIn_wide.1 (Try.maps_KeysF _ _))).mono ?_; rintro e w' ⟨rfl, rfl⟩)
    | (refine ⟨trivial, fun _ => by omega, ?_⟩; gi_at_call 42; refine (callsIn_wide.2 (callsIn_wide.1 (Try.slices_SortedF bm nn D elemF W hown hmax hbytes))).mono ?_; rintro e w' ⟨v, ss, rfl, hS, hrow, hnil, hb⟩; obtain ⟨A, c, e'⟩ := own_slice hrow; subst e'))
  have hzw : (W.alloc (.cells #[.map (some bm)] 60)).heap.size = W.heap.size + 1 := by simp
  have hB1 : Below W.heap.size W w' := ((Below.refl W.heap.size W).alloc (Nat.le_refl _) _).trans (hb.mono (by omega))
  have hmg : (ss.mergeSort (fun x y => decide (x ≤ y))) = names here T.l := names_merge HT.out.ok.sorted (hS.trans HK.out.symm)
  rw [hmg] at hrow
  have hlen : ss.length = (allF T).length := by rw [(hS.trans HK.out.symm).length_eq]; simp [names, allF]
  rw [hlen] at hrow ⊢
  have HROW := Aside0.mk hrow
  have hrd : ∀ j : Nat, j < (allF T).length → rdOf ([] : List UInt8) (names here T.l) (j : Int) = nmL ((allF T).getD j ⟨nil0, nil0, 0, 0, false⟩) := fun j hj => by
    simp only [rdOf, names, Int.toNat_natCast, List.getD_eq_getElem?_getD, List.getElem?_map]
    rw [List.getElem?_eq_getElem (show j < (List.filter here T.l).length from hj), List.getElem?_eq_getElem hj]; rfl
  have HB1 := Aside0.mk hB1
  have HR2 := Aside0.mk hrd
  have hii := HI.out w' hB1
  have HII := Aside0.mk hii
  have hzz := hB1.size
  have hln : (allF T).length ≤ 64 := hcnt
  have hlt2 : decide ((allF T).length ≤ 9223372036854775807) = true := decide_eq_true (by omega)
  clear hS hrow hnil hb hzw hB1 hmg hlen hrd hii HK HX HSZ hown hmax hbytes hcnt hc1 c0 hlt2
  generalize w' = Wd at HB1 HROW HII hzz ⊢
  gi_loopw [14] (fun v14 wr => ∃ j : Nat, j ≤ (allF T).length ∧ v14 = .int .i64 j ∧ I Wd ((allF T).take j) wr ∧ Keep C Wd wr) (fun v14 _ => (allF T).length - (intOf v14).toNat)
  case atStart => exact ⟨0, Nat.zero_le _, rfl, HII.out, Keep.refl _ _⟩
  case round =>
    obtain ⟨j, hj, rfl, hIj, hK⟩ := hrel
    by_cases hlt : j < (allF T).length
    · have hfix : ∀ k, k < W.heap.size → ¬ C k → wr.heap[k]? = W.heap[k]? := fun k h1 h2 => (hK.2 k (by omega) h2).trans (HB1.out.block k h1)
      have hTr : TS B S t bm bd T wr := HT.out.heap (by have := hK.1; omega) (fun k hk => hfix k (by have := HSB.out k hk; omega) (fun e => (HC.out k e).2.1 hk))
      have c0 : wr.cell? ⟨Bt, 0, none⟩ = some (.pointer (some ⟨t, 0, none⟩)) := (World.cell?_of_block (hfix Bt hzW (fun e => (HC.out Bt e).2.2 rfl))).trans C0.out
      have c2 : wr.cell? ⟨t, 2, none⟩ = some (.map (some bm)) := by rw [Lib.cell_of_heap hTr.ht]; rfl
      have hrowr : wr.ownsRow (W.alloc (.cells #[.map (some bm)] 60)).heap.size 9 1 (.slice A (allF T).length c) (allF T).length ((names here T.l).map encStr) := own_heap HROW.out (fun k e => hK.2 k (HROW.out.lt k e).2 (fun hc => by have h1 := (HROW.out.lt k e).1; have h2 := (HC.out k hc).1; simp at h1; omega))
      obtain ⟨ad, hA, hcx⟩ := (own_reads_of' (d := ([] : List UInt8)) hrowr).at_ (j : Int) (by omega) (by omega)
      subst hA
      rw [HR2.out j hlt, Int.toNat_natCast] at hcx
      have hmem : (allF T).getD j ⟨nil0, nil0, 0, 0, false⟩ ∈ allF T := by rw [List.getD_eq_getElem?_getD, List.getElem?_eq_getElem hlt]; exact List.getElem_mem _
      have htk : (allF T).take (j + 1) = (allF T).take j ++ [(allF T).getD j ⟨nil0, nil0, 0, 0, false⟩] := by rw [List.take_succ_eq_append_getElem hlt, List.getD_eq_getElem?_getD, List.getElem?_eq_getElem hlt]; rfl
      have hpl : ((allF T).take j).length < 64 := by rw [List.length_take]; omega
      generalize (allF T).getD j ⟨nil0, nil0, 0, 0, false⟩ = y at hcx hmem htk
      obtain ⟨hm1, hm2⟩ := List.mem_filter.1 hmem
      have hgy := get_of_mem HT.out.ok.sorted hm1 hm2
      have hny : y.f0.size ≤ 1000000 := (HT.out.ok.el y hm1).1
      have hlook := hTr.hm.look1 y.f0 (by omega) y hgy
      have henc : encStr (nmL y) = .string y.f0 := by simp [encStr, nmL]
      rw [henc] at hcx
      obtain ⟨fn, tmps, assign, body, hy, hR⟩ := HY.out Wd _ y wr HB1.out hIj hK hpl hmem
      have h1n : 1 ≤ n := by omega
      have hdep : (Fence.wide.depth.isSome = true → 1 ≤ n) := fun _ => h1n
      simp only [vF] at hy hlook
      have HTK := Aside0.mk htk
      clear htk hpl hmem hm1 hm2 hgy hny henc hrowr hTr hfix
      gi_wp2
      refine hR.mono ?_
      rintro e W3 (⟨rfl, hI3, hk3⟩ | ⟨rfl, hI3, hk3⟩)
      · gi_wp2
        go_roundw
        case rel => exact ⟨j + 1, by omega, by simp, by rw [HTK.out]; exact hI3, hk3⟩
        case measure => simp [intOf]; omega
      · gi_wp2
        refine bodyPost_ret (results_none rfl _ _ _) rfl ?_
        exact ⟨⟨_, rfl⟩, Wd, HB1.out, hk3, .inr ⟨_, by rw [← HTK.out]; exact List.take_prefix _ _, hI3⟩⟩
    · obtain rfl : j = (allF T).length := by omega
      gi_wp2
      go_end0
      rw [List.take_length] at hIj
      exact ⟨⟨_, rfl⟩, Wd, HB1.out, hK, .inl hIj⟩
end Go.Proofs.Ytonhfcjldbohbaa.Fi

namespace Go.Proofs.Ytonhfcjldbohbaa.Fi
open Go Go.RowKit Go.ChangeMaps Go.MapKept Go.Proofs.Ytonhfcjldbohbaa.PA Go.Proofs.YtonhfcjldbohbaaW.PrintWords Go.Proofs.YtonhfcjldbohbaaW.PrintLast Go.Proofs.YtonhfcjldbohbaaW.PrintMore Go.Proofs.Ytonhfcjldbohbaa.Rg
attribute [local go_sem] Oper.semAt_some
set_option linter.unusedVariables false
set_option linter.unusedSimpArgs false

/-- A file's block. -/
def vC (y : Fl) : Obj := .cells #[.string y.f0, .string y.f1, .int .i64 y.f2, .int .i64 y.f3] 32 (0, 0)
section
variable {F : Fence} {P : Program}
theorem yield_atA {m : Nat} {fn : FuncId} (hfn : F.fn fn) {tmps : Array Value} {ps : Array Tmp} {assign body : Code} {d l : Nat} (hdl : d ≠ l) (args : Array Value) (hps : args.size = ps.size) (V W : World)
    (hV : V.heap[l]? = some (.loop (rec_ fn tmps ps assign body d .ready none))) (hl : W.heap[l]? = some (.loop (rec_ fn tmps ps assign body d .ready none))) (hd : W.heap[d]? = some (.deferred (some []))) (a1 : Act)
    (hassign : ∀ K : Act → World → Prop, K a1 W → assign.wpIn (F.inRound l) m P (Exit.then K (fun _ _ _ => False)) { tmps := (ps.zip args).foldl (fun t (p, v) => t.setIfInBounds p v) tmps, defers := [] } V)
    (Go : World → Prop) (Stop : Code → World → Prop)
    (hbody : body.wpIn (F.inRound l) m P (Rg.Left (W.putObj l (.loop (rec_ fn tmps ps assign body d .busy none))) Go Stop) a1 (W.putObj l (.loop (rec_ fn tmps ps assign body d .busy none)))) :
    YieldAt F m P l args V fun e W' =>
      (e = .returned (.bool true) ∧ ∃ W3, Go W3 ∧ W' = W3.putObj l (.loop (rec_ fn tmps ps assign body d .ready none)) ∧ W3.heap[l]? = some (.loop (rec_ fn tmps ps assign body d .busy none)) ∧ W3.heap[d]? = some (.deferred (some []))) ∨
      (e = .returned (.bool false) ∧ ∃ c W3, Stop c W3 ∧ W' = W3.putObj l (.loop (rec_ fn tmps ps assign body d .done (some c))) ∧ W3.heap[l]? = some (.loop (rec_ fn tmps ps assign body d .busy none)) ∧ W3.heap[d]? = some (.deferred (some []))) := by
  have hlt : l < W.heap.size := (Array.getElem?_eq_some_iff.1 hl).1
  refine ⟨fn, _, assign, body, run_yield (r := rec_ fn tmps ps assign body d .ready none) hV hps, roundIn_of_wpIn hfn (hassign _ ⟨_, run_beginRound hl rfl, ?_⟩)⟩
  have hb : (W.putObj l (.loop (rec_ fn tmps ps assign body d .busy none))).heap[l]? = some (.loop (rec_ fn tmps ps assign body d .busy none)) := World.putObj_heap_same hlt
  have hdd : (W.putObj l (.loop (rec_ fn tmps ps assign body d .busy none))).heap[d]? = some (.deferred (some [])) := (World.putObj_heap_other hdl).trans hd
  have fin : ∀ (j : Option Code) (W3 : World), KeepsOthers (W.putObj l (.loop (rec_ fn tmps ps assign body d .busy none))) W3 →
      (Instr.endRound l j).run P W3 = .ok (.bool j.isNone) (W3.putObj l (.loop (rec_ fn tmps ps assign body d (if j.isNone then .ready else .done) j))) ∧ W3.heap[l]? = some (.loop (rec_ fn tmps ps assign body d .busy none)) ∧ W3.heap[d]? = some (.deferred (some [])) :=
    fun j W3 hk => ⟨run_endRound j (hk.same _ _ hb rfl), hk.same _ _ hb rfl, hk.same _ _ hdd rfl⟩
  refine wpIn_mono hbody ?_
  rintro e a3 W3 hp
  cases e with
  | normal =>
    obtain ⟨hk, hg⟩ := hp
    obtain ⟨r1, r2, r3⟩ := fin none W3 hk
    exact ⟨_, _, r1, .inl ⟨rfl, W3, hg, rfl, r2, r3⟩⟩
  | ret =>
    obtain ⟨hk, hg⟩ := hp
    obtain ⟨r1, r2, r3⟩ := fin (some .ret) W3 hk
    exact ⟨_, _, r1, .inr ⟨rfl, .ret, W3, hg, rfl, r2, r3⟩⟩
  | exit id =>
    obtain ⟨hk, hg⟩ := hp
    obtain ⟨r1, r2, r3⟩ := fin (some (.exit id)) W3 hk
    exact ⟨_, _, r1, .inr ⟨rfl, .exit id, W3, hg, rfl, r2, r3⟩⟩
  | goto t =>
    obtain ⟨hk, hg⟩ := hp
    obtain ⟨r1, r2, r3⟩ := fin (some (.goto t)) W3 hk
    exact ⟨_, _, r1, .inr ⟨rfl, .goto t, W3, hg, rfl, r2, r3⟩⟩
  | panic ch => exact hp.elim
  | outgrown => exact hp.elim
end
theorem Keep.trans {C : Nat → Prop} {a b c : World} (h : Keep C a b) (k : Keep C b c) : Keep C a c :=
  ⟨Nat.le_trans h.1 k.1, fun x hx hc => (k.2 x (Nat.lt_of_lt_of_le hx h.1) hc).trans (h.2 x hx hc)⟩
theorem Keep.putObj {C : Nat → Prop} {a b : World} (h : Keep C a b) {l : Nat} (hl : C l) (o : Obj) : Keep C a (b.putObj l o) :=
  ⟨by simpa [World.putObj] using h.1, fun x hx hc => (World.putObj_heap_other (fun e => by subst e; exact hc hl)).trans (h.2 x hx hc)⟩
theorem foldl_one (t : Array Value) (p : Tmp) (v : Value) : Array.foldl (fun t (x : Tmp × Value) => match x with | (p, v) => t.setIfInBounds p v) t (#[p].zip #[v]) = t.setIfInBounds p v := by simp
/-- How the body may leave a round. -/
def BPost (Cu : Nat → Prop) (W1 W2 : World) (Go : World → Prop) (Stop : Code → World → Prop) : Exit → Act → World → Prop
  | .normal, _, W3 => KeepsOthers W2 W3 ∧ (∀ k, k < W1.heap.size → ¬ Cu k → W3.heap[k]? = W2.heap[k]?) ∧ Go W3
  | .ret, _, W3 => KeepsOthers W2 W3 ∧ (∀ k, k < W1.heap.size → ¬ Cu k → W3.heap[k]? = W2.heap[k]?) ∧ Stop .ret W3
  | _, _, _ => False
theorem src_run {n : Nat} (hn : 4 ≤ n) {N : Nat → Prop} {w0 : World} {lb : Array Value} {ys : List Fl} (hsrc : Src N w0 lb ys) {g : Operand} {p : Tmp} {assign body : Code} {Q : Exit → Act → World → Prop} {a : Act} {w : World} (hw : Old w0 w)
    (hg : a.eval g = .func (.func 41) #[] lb) (Cu : Nat → Prop) (hCu : ∀ k, Cu k → k < w.heap.size ∧ ¬ N k) (hN : ∀ k, N k → k < w0.heap.size) (U : World → List Fl → World → Prop) (Ux : Code → World → List Fl → World → Prop)
    (hU : ∀ W1 pre A l o o', w.heap.size ≤ l → A.heap[l]? = some o → o.isCells = false → U W1 pre A → U W1 pre (A.putObj l o'))
    (hUx : ∀ c W1 pre A l o o', w.heap.size ≤ l → A.heap[l]? = some o → o.isCells = false → Ux c W1 pre A → Ux c W1 pre (A.putObj l o'))
    (h0 : ∀ W1, Below w.heap.size w W1 → w.heap.size + 2 ≤ W1.heap.size → U W1 [] W1)
    (hUa : ∀ W1 pre A o, W1.heap.size ≤ A.heap.size → U W1 pre A → U W1 pre (A.alloc o))
    (a1 : Nat → Fl → Act) (hassign : ∀ y l W (K : Act → World → Prop), K (a1 W.heap.size y) (W.alloc (vC y)) → assign.wpIn (Fence.wide.inRound l) (n - 1 - 1) Try.prog (Exit.then K (fun _ _ _ => False)) { tmps := a.tmps.setIfInBounds p (vF y), defers := [] } W)
    (hbody : ∀ l x W1 pre y W2, w.heap.size + 2 ≤ W1.heap.size → W1.heap.size ≤ x → W2.heap[x]? = some (vC y) → pre.length < 64 → y ∈ ys → U W1 pre W2 → body.wpIn (Fence.wide.inRound l) (n - 1 - 1) Try.prog (BPost Cu W1 W2 (U W1 (pre ++ [y])) (fun c => Ux c W1 (pre ++ [y]))) (a1 x y) W2)
    (done : ∀ W1 W', Below w.heap.size w W1 → w.heap.size + 2 ≤ W1.heap.size → Keep (fun k => Cu k ∨ k = w.heap.size ∨ k = w.heap.size + 1) W1 W' → U W1 ys W' → W'.heap[w.heap.size]? = some (.deferred (some [])) → Q .normal { a with defers := { target := .collected w.heap.size, args := #[] } :: a.defers } W')
    (stop : ∀ c W1 W' pre, Below w.heap.size w W1 → w.heap.size + 2 ≤ W1.heap.size → Keep (fun k => Cu k ∨ k = w.heap.size ∨ k = w.heap.size + 1) W1 W' → pre <+: ys → Ux c W1 pre W' → W'.heap[w.heap.size]? = some (.deferred (some [])) → c.wpIn Fence.wide n Try.prog Q { a with defers := { target := .collected w.heap.size, args := #[] } :: a.defers } W') :
    (Code.rangeFunc g #[p] assign body).wpIn Fence.wide n Try.prog Q a w := by
  refine range_run rfl (by omega) hg trivial (enters_of Try.func41 (by kernel_rfl) rfl) ?_
  intro fn hfn
  obtain ⟨W, hW⟩ : ∃ W, (w.alloc (.deferred (some []))).alloc (.loop (rec_ fn a.tmps #[p] assign body w.heap.size .ready none)) = W := ⟨_, rfl⟩
  have hsz : W.heap.size = w.heap.size + 2 := by rw [← hW]; simp
  have hL : W.heap[w.heap.size + 1]? = some (.loop (rec_ fn a.tmps #[p] assign body w.heap.size .ready none)) := by
    rw [← hW]
    have := World.alloc_heap_new (w.alloc (.deferred (some []))) (.loop (rec_ fn a.tmps #[p] assign body w.heap.size .ready none))
    rwa [World.size_alloc] at this
  have hD : W.heap[w.heap.size]? = some (.deferred (some [])) := by rw [← hW]; exact (Below.heap_alloc _ _ _ (by simp)).trans (World.alloc_heap_new w _)
  have hOld : Old w0 W := by rw [← hW]; exact (hw.alloc _).alloc _
  have hCh : Below w.heap.size w W := by rw [← hW]; exact ((Below.refl _ w).alloc (Nat.le_refl _) _).alloc (by simp) _
  have hw1 := hw.1
  rw [hW]
  refine (hsrc (n - 1) (by omega) W hOld (w.heap.size + 1) (fun k => Cu k ∨ k = w.heap.size ∨ k = w.heap.size + 1) (fun k hk => ?_)
    (fun W1 pre A => U W1 pre A ∧ A.heap[w.heap.size + 1]? = some (.loop (rec_ fn a.tmps #[p] assign body w.heap.size .ready none)) ∧ A.heap[w.heap.size]? = some (.deferred (some [])))
    (fun W1 pre A => ∃ c, Ux c W1 pre A ∧ A.heap[w.heap.size + 1]? = some (.loop (rec_ fn a.tmps #[p] assign body w.heap.size .done (some c))) ∧ A.heap[w.heap.size]? = some (.deferred (some []))) ?_ ?_).mono ?_
  · rcases hk with h | rfl | rfl
    · have := hCu k h; exact ⟨by omega, this.2⟩
    · exact ⟨by omega, fun e => by have := hN _ e; omega⟩
    · exact ⟨by omega, fun e => by have := hN _ e; omega⟩
  · intro W1 h1
    have := h1.size
    exact ⟨h0 W1 (hCh.trans (h1.mono (by omega))) (by omega), (h1.block _ (by omega)).trans hL, (h1.block _ (by omega)).trans hD⟩
  · rintro W1 pre y V h1 ⟨hu, hV, hdV⟩ hk hlen hmem
    have hs1 := h1.size
    have hlt : w.heap.size + 1 < V.heap.size := (Array.getElem?_eq_some_iff.1 hV).1
    obtain ⟨W2, hW2⟩ : ∃ W2, V.alloc (vC y) = W2 := ⟨_, rfl⟩
    have hzV : W2.heap.size = V.heap.size + 1 := by rw [← hW2]; simp
    have hl : W2.heap[w.heap.size + 1]? = some (.loop (rec_ fn a.tmps #[p] assign body w.heap.size .ready none)) := by rw [← hW2]; exact (Below.heap_alloc _ _ _ hlt).trans hV
    have hd : W2.heap[w.heap.size]? = some (.deferred (some [])) := by rw [← hW2]; exact (Below.heap_alloc _ _ _ (by omega)).trans hdV
    have hk2 : Keep (fun k => Cu k ∨ k = w.heap.size ∨ k = w.heap.size + 1) W1 W2 := by rw [← hW2]; exact ⟨by have := hk.1; simp; omega, fun k h1 h2 => (Below.heap_alloc _ _ _ (Nat.lt_of_lt_of_le h1 hk.1)).trans (hk.2 k h1 h2)⟩
    have hu2 : U W1 pre W2 := by rw [← hW2]; exact hUa _ _ _ _ hk.1 hu
    have hnew : W2.heap[V.heap.size]? = some (vC y) := by rw [← hW2]; exact heap_alloc_new V _
    obtain ⟨Wb, hWb⟩ : ∃ Wb, W2.putObj (w.heap.size + 1) (.loop (rec_ fn a.tmps #[p] assign body w.heap.size .busy none)) = Wb := ⟨_, rfl⟩
    have hkb : Keep (fun k => Cu k ∨ k = w.heap.size ∨ k = w.heap.size + 1) W1 Wb := by rw [← hWb]; exact hk2.putObj (.inr (.inr rfl)) _
    have hub : U W1 pre Wb := by rw [← hWb]; exact hU _ _ _ _ _ _ (by omega) hl rfl hu2
    refine (yield_atA hfn (by omega) #[vF y] rfl V W2 hV hl hd (a1 V.heap.size y) (fun K hK => by have := hassign y (w.heap.size + 1) V K (by rw [hW2]; exact hK); rwa [← foldl_one a.tmps p (vF y)] at this) (fun W3 => (W1.heap.size ≤ W3.heap.size ∧ ∀ k, k < W1.heap.size → ¬ Cu k → W3.heap[k]? = Wb.heap[k]?) ∧ U W1 (pre ++ [y]) W3) (fun c W3 => (W1.heap.size ≤ W3.heap.size ∧ ∀ k, k < W1.heap.size → ¬ Cu k → W3.heap[k]? = Wb.heap[k]?) ∧ Ux c W1 (pre ++ [y]) W3) ?_).mono ?_
    · rw [hWb]
      refine wpIn_mono (hbody _ V.heap.size W1 pre y Wb (by omega) hk.1 (by rw [← hWb]; exact (World.putObj_heap_other (by omega)).trans hnew) hlen hmem hub) ?_
      rintro e a3 W3 hp
      cases e with
      | normal => exact ⟨hp.1, ⟨Nat.le_trans hkb.1 hp.1.size, hp.2.1⟩, hp.2.2⟩
      | ret => exact ⟨hp.1, ⟨Nat.le_trans hkb.1 hp.1.size, hp.2.1⟩, hp.2.2⟩
      | exit id => exact hp.elim
      | goto t => exact hp.elim
      | panic ch => exact hp.elim
      | outgrown => exact hp.elim
    · have fin : ∀ (W3 : World) (o : Obj), (W1.heap.size ≤ W3.heap.size ∧ ∀ k, k < W1.heap.size → ¬ Cu k → W3.heap[k]? = Wb.heap[k]?) → W3.heap[w.heap.size + 1]? = some (.loop (rec_ fn a.tmps #[p] assign body w.heap.size .busy none)) → Keep (fun k => Cu k ∨ k = w.heap.size ∨ k = w.heap.size + 1) W1 (W3.putObj (w.heap.size + 1) o) := by
        intro W3 o hk3 hl3
        exact Keep.putObj ⟨hk3.1, fun k h1 h2 => (hk3.2 k h1 (fun h => h2 (.inl h))).trans (hkb.2 k h1 h2)⟩ (.inr (.inr rfl)) _
      rintro e W' (⟨rfl, W3, ⟨hk3, hu3⟩, rfl, hl3, hd3⟩ | ⟨rfl, c, W3, ⟨hk3, hu3⟩, rfl, hl3, hd3⟩)
      · exact .inl ⟨rfl, ⟨hU _ _ _ _ _ _ (by omega) hl3 rfl hu3, World.putObj_heap_same (Array.getElem?_eq_some_iff.1 hl3).1, (World.putObj_heap_other (by omega)).trans hd3⟩, fin _ _ hk3 hl3⟩
      · exact .inr ⟨rfl, ⟨c, hUx _ _ _ _ _ _ _ (by omega) hl3 rfl hu3, World.putObj_heap_same (Array.getElem?_eq_some_iff.1 hl3).1, (World.putObj_heap_other (by omega)).trans hd3⟩, fin _ _ hk3 hl3⟩
  · rintro e W' ⟨hv, W1, h1, hk, (⟨hu, hl, hd⟩ | ⟨pre, hpre, c, hu, hl, hd⟩)⟩
    · have hs1 := h1.size
      refine ⟨hv, .inl ⟨hl, fun o => done W1 _ (hCh.trans (h1.mono (by omega))) (by omega) (hk.putObj (.inr (.inr rfl)) _) (hU _ _ _ _ _ _ (by omega) hl rfl hu) ((World.putObj_heap_other (by omega)).trans hd)⟩⟩
    · have hs1 := h1.size
      refine ⟨hv, .inr ⟨c, hl, fun o => stop c W1 _ pre (hCh.trans (h1.mono (by omega))) (by omega) (hk.putObj (.inr (.inr rfl)) _) hpre (hUx _ _ _ _ _ _ _ (by omega) hl rfl hu) ((World.putObj_heap_other (by omega)).trans hd)⟩⟩

theorem own_base {W : World} {base base' : Nat} {e : TypeId} {size : Nat} {v : Value} {k : Nat} {xs : List Value} (h : W.ownsRow base e size v k xs) (hb : base' ≤ base) : W.ownsRow base' e size v k xs := by
  refine ⟨h.1, ?_⟩
  rcases h.2 with hn | ⟨g, cap, cur, hv, hbg, rest⟩
  · exact .inl hn
  · exact .inr ⟨g, cap, cur, hv, Nat.le_trans hb hbg, rest⟩

theorem files_any (n : Nat) (v : Option Addr) (w : World) :
    CallsIn Fence.wide n Try.prog 27 #[.pointer v] w fun e w' => e = .returned (.func (.func 41) #[] #[.pointer (some ⟨w.heap.size, 0, none⟩)]) ∧ w' = w.alloc (.cells #[.pointer v] 23) := by
  refine callsIn_of_wp Try.func27 rfl trivial ?_ rfl
  simp only [Try.ntmps27, List.size_toArray, List.length_cons, List.length_nil, Nat.reduceAdd, Nat.reduceSub, Array.replicate_succ, Array.replicate_zero, List.push_toArray, List.append_toArray, List.nil_append, List.cons_append]
  gi_wp2
  go_ret
  exact ⟨rfl, rfl⟩
end Go.Proofs.Ytonhfcjldbohbaa.Fi

namespace Go.Proofs.Ytonhfcjldbohbaa.Fi
open Go Go.RowKit Go.ChangeMaps Go.MapKept Go.Proofs.Ytonhfcjldbohbaa.PA Go.Proofs.YtonhfcjldbohbaaW.PrintWords Go.Proofs.YtonhfcjldbohbaaW.PrintLast Go.Proofs.YtonhfcjldbohbaaW.PrintMore Go.Proofs.Ytonhfcjldbohbaa.Rg
attribute [local go_sem] Oper.semAt_some
set_option linter.unusedVariables false
set_option linter.unusedSimpArgs false

def fc (y : Fl) : List Value := [.string y.f0, .string y.f1, .int .i64 y.f2, .int .i64 y.f3]
def fcs (ys : List Fl) : List Value := ys.flatMap fc
theorem fcs_snoc (ys : List Fl) (y : Fl) : fcs (ys ++ [y]) = fcs ys ++ fc y := by simp [fcs]
theorem fcs_len (ys : List Fl) : (fcs ys).length = ys.length * 4 := by
  induction ys with
  | nil => rfl
  | cons y ys ih =>
    have : fcs (y :: ys) = fc y ++ fcs ys := rfl
    rw [this, List.length_append, ih]
    simp [fc]; omega
theorem fcs_get : ∀ (ys : List Fl) (j : Nat) (hj : j < ys.length) (i : Nat), i < 4 → (fcs ys)[j * 4 + i]? = (fc ys[j])[i]?
  | y :: ys, 0, _, i, hi => by
    show (fc y ++ fcs ys)[0 * 4 + i]? = _
    rw [Nat.zero_mul, Nat.zero_add, List.getElem?_append_left (by simp [fc]; omega)]; rfl
  | y :: ys, j + 1, hj, i, hi => by
    show (fc y ++ fcs ys)[(j + 1) * 4 + i]? = _
    rw [List.getElem?_append_right (by simp [fc]; omega)]
    rw [show (j + 1) * 4 + i - (fc y).length = j * 4 + i by simp [fc]; omega]
    exact fcs_get ys j (by simpa using hj) i hi
theorem cell_fc_new (w : World) (y : Fl) (t : TypeId) : ∀ j u, (fc y)[j]? = some u → (w.alloc (.cells #[.string y.f0, .string y.f1, .int .i64 y.f2, .int .i64 y.f3] t)).cell? ((⟨w.heap.size, 0, none⟩ : Addr).add j) = some u := by
  intro j u h
  have hh := heap_alloc_new w (.cells #[.string y.f0, .string y.f1, .int .i64 y.f2, .int .i64 y.f3] t)
  have : (⟨w.heap.size, 0, none⟩ : Addr).add j = ⟨w.heap.size, 0 + j, none⟩ := by unfold Addr.add; split <;> simp [*]
  rw [this, Nat.zero_add, Lib.cell_of_heap hh]
  simpa [fc] using h
theorem infoFile : (Try.prog.info? 32).map (fun i => (i.zero, i.size, i.bytes)) = some (some (.agg #[.string ⟨#[]⟩, .string ⟨#[]⟩, .int .i64 0, .int .i64 0]), 4, 48) := by kernel_rfl
/-- What an AppendSeq has gathered. -/
def Gath (Bs n0 : Nat) (W1 : World) (ys : List Fl) (W : World) : Prop := ∃ v, Boxed W Bs 29 v ∧ W.ownsRow W1.heap.size 32 4 v ys.length (fcs ys) ∧ Below n0 W1 W ∧ ys.length ≤ 64
set_option maxRecDepth 100000 in
set_option maxHeartbeats 4000000 in
theorem append_any (n : Nat) (hn : 5 ≤ n) (N : Nat → Prop) (w : World) (lb : Array Value) (ys : List Fl) (hN : ∀ k, N k → k < w.heap.size) (hsrc : Src N w lb ys) :
    CallsIn Fence.wide n Try.prog 40 #[.slice none 0 0, .func (.func 41) #[] lb] w fun e w' => ∃ v, e = .returned v ∧ w'.ownsRow w.heap.size 32 4 v ys.length (fcs ys) ∧ Below w.heap.size w w' := by
  refine callsIn_of_wp_marks Try.func40 rfl trivial ?_ rfl
  simp only [Try.ntmps40, List.size_toArray, List.length_cons, List.length_nil, Nat.reduceAdd, Nat.reduceSub, Array.replicate_succ, Array.replicate_zero, List.push_toArray, List.append_toArray, List.nil_append, List.cons_append]
  gi_wp2
  obtain ⟨W0, hW0⟩ : ∃ W0, w.alloc (.cells #[.slice none 0 0] 29) = W0 := ⟨_, rfl⟩
  have hs0 : W0.heap.size = w.heap.size + 1 := by rw [← hW0]; simp
  have hv0 : Boxed W0 w.heap.size 29 (.slice none 0 0) := by rw [← hW0]; exact Boxed.new w _ _
  have hOld0 : Old w W0 := by rw [← hW0]; exact (Old.refl w).alloc _
  have hB0 : Below w.heap.size w W0 := by rw [← hW0]; exact (Below.refl _ w).alloc (Nat.le_refl _) _
  rw [hW0]
  clear hW0
  have HV0 := Aside0.mk hv0
  have HSRC := Aside0.mk hsrc
  clear hv0 hsrc
  refine src_run (by omega) HSRC.out hOld0 rfl (fun k => k = w.heap.size) (fun k hk => ⟨by omega, fun e => by have := hN _ e; omega⟩) hN (Gath w.heap.size w.heap.size) (fun _ _ _ _ => False) ?hU (fun c W1 pre A l o o' _ _ _ h => h) ?h0 ?hUa
    (fun x y => { tmps := #[.slice none 0 0, .func (.func 41) #[] lb, .pointer (some ⟨w.heap.size, 0, none⟩), undef, .slice none 0 0, .pointer (some ⟨x, 0, none⟩), .func (.func 41) #[] lb, vF y, undef, undef, undef, undef, undef], defers := [] }) ?assign ?body ?done ?stop
  case hU =>
    rintro W1 pre A l o o' hl ho hoc ⟨v, hv, hrow, hb, hlen⟩
    refine ⟨v, (World.putObj_heap_other (by omega)).trans hv, ownsRow_putObj hrow o' ho hoc, hb.grown (grownBy_putObj' _ _ _) ?_ (fun k e => by cases e; omega), hlen⟩
    have := hv.lt; omega
  case h0 =>
    intro W1 h1 _
    exact ⟨_, (h1.block _ (by omega)).trans HV0.out, ⟨rfl, .inl ⟨rfl, rfl⟩⟩, Below.refl _ _, Nat.zero_le _⟩
  case hUa =>
    rintro W1 pre A o hA ⟨v, hv, hrow, hb, hlen⟩
    have := hv.lt
    exact ⟨v, hv.alloc o, hrow.alloc o, hb.alloc (by omega) o, hlen⟩
  case assign =>
    intro y l W K hK
    simp only [vF]
    gi_wp2
    exact hK
  case body =>
    rintro l x W1 pre y W2 hz1 hz2 hbx0 hlen hmem ⟨v, hv, hrow, hb, hlen2⟩
    obtain ⟨i0, hi0, hiz, hi1, hi2⟩ := info_parts infoFile
    have hcv := hv.cell
    have hfv := hv.frozen
    have b0 : W2.cell? ⟨x, 0, none⟩ = some (.string y.f0) := by rw [Lib.cell_of_heap hbx0]; rfl
    have b1 : W2.cell? ⟨x, 1, none⟩ = some (.string y.f1) := by rw [Lib.cell_of_heap hbx0]; rfl
    have b2 : W2.cell? ⟨x, 2, none⟩ = some (.int .i64 y.f2) := by rw [Lib.cell_of_heap hbx0]; rfl
    have b3 : W2.cell? ⟨x, 3, none⟩ = some (.int .i64 y.f3) := by rw [Lib.cell_of_heap hbx0]; rfl
    have hltv := hv.lt
    have hxl := (Array.getElem?_eq_some_iff.1 hbx0).1
    clear hbx0
    simp only [vF]
    gi_wp2_with (gi_at_builtin; refine wpListIn_append_own _ rfl _ _ 29 rfl W1.heap.size 32 i0 (.agg #[.string ⟨#[]⟩, .string ⟨#[]⟩, .int .i64 0, .int .i64 0]) 4 48 Try.underlying29 hi0 hiz hi1 hi2 rfl (by decide) _ _ _ rfl (hrow.alloc _) ⟨W2.heap.size, 0, none⟩ 1 1 (fc y) rfl rfl (cell_fc_new _ _ _) (by simp [fc, Value.oneCell']) (by unfold maxLen; omega) (by omega) (by simp; omega) ?_; intro v' w3 hown' hgrow hnil; obtain ⟨hbx, hbx2, hown2, hko, hbl⟩ := hv.appended (n₀ := w.heap.size) (e := 32) (by decide) (own_base hrow (by omega)) (by omega) (Nat.le_refl _) (own_base hown' (by omega)) hgrow; have hcv3 := hbx.cell; have hfv3 := hbx.frozen; obtain ⟨A', c', e'⟩ := own_slice hown'; subst e')
    have hK3 : ∀ k, k < W1.heap.size → ¬ k = w.heap.size → (w3.setCell ⟨w.heap.size, 0, none⟩ (.slice A' (pre.length + 1) c')).heap[k]? = W2.heap[k]? := fun k h1 h2 =>
      (Below.heap_setCell w3 ⟨w.heap.size, 0, none⟩ _ k h2).trans ((hgrow.block k (by simp; omega) (fun e => by have := (hrow.lt k e.symm).1; omega)).trans (Below.heap_alloc _ _ k (by omega)))
    refine ⟨hko, hK3, _, hbx2, ?_, hb.trans hbl, by rw [List.length_append, List.length_singleton]; omega⟩
    rw [List.length_append, List.length_singleton, fcs_snoc]
    exact hown'.kept (grownBy_setCell' w3 w.heap.size _) (.inr (hbx.not_row (by decide) hown').symm)
  case done =>
    rintro W1 W' h1 hz1 hk ⟨v, hv, hrow, hb, hlen⟩ hD
    have hcv := hv.cell
    have hfv := hv.frozen
    have HK := Aside0.mk hk
    gi_wp2
    refine ⟨by simp, .inl ⟨_, _, rfl, run_takeDeferred hD, ?_⟩⟩
    have hg := grownBy_putObj' W' W0.heap.size (.deferred none)
    refine ⟨_, results_tmp rfl _ _ _, v, rfl, own_base (ownsRow_putObj hrow _ hD rfl) (by omega), ?_⟩
    have hbb : Below w.heap.size W1 (W'.putObj W0.heap.size (.deferred none)) := hb.grown hg (by have := hk.1; omega) (fun k e => by cases e; omega)
    exact (hB0.trans (h1.mono (by omega))).trans hbb
  case stop => exact fun c W1 W' pre _ _ _ _ h _ => h.elim

theorem collect_any (n : Nat) (hn : 6 ≤ n) (N : Nat → Prop) (w : World) (lb : Array Value) (ys : List Fl) (hN : ∀ k, N k → k < w.heap.size) (hsrc : Src N w lb ys) :
    CallsIn Fence.wide n Try.prog 26 #[.func (.func 41) #[] lb] w fun e w' => ∃ v, e = .returned v ∧ w'.ownsRow w.heap.size 32 4 v ys.length (fcs ys) ∧ Below w.heap.size w w' := by
  refine callsIn_of_wp Try.func26 rfl trivial ?_ rfl
  simp only [Try.ntmps26, List.size_toArray, List.length_cons, List.length_nil, Nat.reduceAdd, Nat.reduceSub, Array.replicate_succ, Array.replicate_zero, List.push_toArray, List.append_toArray, List.nil_append, List.cons_append]
  gi_wp2_with (refine ⟨trivial, fun _ => by omega, ?_⟩; refine (append_any (n - 1) (by omega) N w lb ys hN hsrc).mono ?_; rintro e w' ⟨v, rfl, h1, h2⟩)
  go_ret
  exact ⟨v, rfl, h1, h2⟩
/-- What a table that may be nil has. -/
def SrcOf (B : Nat) (S : Nat → Prop) (v : Option Addr) (ys : List Fl) (w : World) : Prop := (v = none ∧ ys = []) ∨ ∃ t T, v = some ⟨t, 0, none⟩ ∧ TB B S t T w ∧ ys = allF T
theorem SrcOf.src {B : Nat} {S : Nat → Prop} {v : Option Addr} {ys : List Fl} {w : World} (h : SrcOf B S v ys w) : ∃ N : Nat → Prop, (∀ k, N k → k < w.heap.size + 1) ∧ Src N (w.alloc (.cells #[.pointer v] 23)) #[.pointer (some ⟨w.heap.size, 0, none⟩)] ys := by
  rcases h with ⟨rfl, rfl⟩ | ⟨t, T, rfl, hT, rfl⟩
  · exact ⟨_, fun k hk => by omega, files_nil_src w⟩
  · refine ⟨_, fun k hk => ?_, files_src hT⟩
    obtain ⟨bm, bd, hT⟩ := hT
    rcases hk with hk | hk
    · have := (hT.sB k hk).2; omega
    · omega
theorem all_src (B : Nat) (S : Nat → Prop) (v : Option Addr) (ys : List Fl) (w : World) (h : SrcOf B S v ys w) :
    Calls Try.prog 12 #[.pointer v] w fun e w' => ∃ v, e = .returned v ∧ w'.ownsRow w.heap.size 32 4 v ys.length (fcs ys) ∧ Below w.heap.size w w' := by
  obtain ⟨N, hN, hsrc⟩ := h.src
  refine (callsIn_wide (n := 8)).1 ?_
  refine callsIn_of_wp Try.func12 rfl trivial ?_ rfl
  simp only [Try.ntmps12, List.size_toArray, List.length_cons, List.length_nil, Nat.reduceAdd, Nat.reduceSub, Array.replicate_succ, Array.replicate_zero, List.push_toArray, List.append_toArray, List.nil_append, List.cons_append]
  have HS := Aside0.mk hsrc
  have HN := Aside0.mk hN
  clear hsrc h hN
  gi_wp2_with (first
    | (refine ⟨trivial, ?_⟩; gi_at_call 27; refine (files_any _ _ _).mono ?_; rintro e w' ⟨rfl, rfl⟩)
    | (refine ⟨trivial, ?_⟩; gi_at_call 26; refine (collect_any _ (by omega) N _ _ _ (fun k hk => by have := HN.out k hk; simp; omega) HS.out).mono ?_; rintro e w' ⟨v, rfl, h1, h2⟩))
  go_ret
  exact ⟨v, rfl, own_base h1 (by simp), ((Below.refl _ w).alloc (Nat.le_refl _) _).trans (h2.mono (by simp))⟩
end Go.Proofs.Ytonhfcjldbohbaa.Fi

namespace Go.Proofs.Ytonhfcjldbohbaa.Fi
open Go Go.RowKit Go.ChangeMaps Go.MapKept Go.Proofs.Ytonhfcjldbohbaa.PA Go.Proofs.YtonhfcjldbohbaaW.PrintWords Go.Proofs.YtonhfcjldbohbaaW.PrintLast Go.Proofs.YtonhfcjldbohbaaW.PrintMore Go.Proofs.Ytonhfcjldbohbaa.Rg
attribute [local go_sem] Oper.semAt_some
set_option linter.unusedVariables false
set_option linter.unusedSimpArgs false

def bytesF (ys : List Fl) : Int := ys.foldl (fun n y => n + (y.f1.size : Int)) 0
theorem bytesF_snoc (ys : List Fl) (y : Fl) : bytesF (ys ++ [y]) = bytesF ys + y.f1.size := by simp [bytesF]
/-- Bytes, while they are counted. -/
def Cnt (Bs n0 : Nat) (W1 : World) (ys : List Fl) (W : World) : Prop := ∃ n : Int, Boxed W Bs 3 (.int .i64 n) ∧ n = bytesF ys ∧ (0 ≤ n ∧ n ≤ 65536 * ys.length) ∧ Below n0 W1 W ∧ ys.length ≤ 64
theorem SrcOf.src2 {B : Nat} {S : Nat → Prop} {v : Option Addr} {ys : List Fl} {w W : World} (h : SrcOf B S v ys w) (hb : Below w.heap.size w W) : ∃ N : Nat → Prop, (∀ k, N k → k < w.heap.size ∨ k = W.heap.size) ∧ Src N (W.alloc (.cells #[.pointer v] 23)) #[.pointer (some ⟨W.heap.size, 0, none⟩)] ys := by
  rcases h with ⟨rfl, rfl⟩ | ⟨t, T, rfl, hT, rfl⟩
  · exact ⟨_, fun k hk => .inr hk, files_nil_src W⟩
  · refine ⟨_, fun k hk => ?_, files_src (hT.below hb)⟩
    obtain ⟨bm, bd, hT⟩ := hT
    exact hk.imp (fun hk => (hT.sB k hk).2) id
set_option maxRecDepth 100000 in
set_option maxHeartbeats 4000000 in
theorem bytes_src (B : Nat) (S : Nat → Prop) (v : Option Addr) (ys : List Fl) (w : World) (h : SrcOf B S v ys w) :
    Calls Try.prog 15 #[.pointer v] w fun e w' => e = .returned (.int .i64 (bytesF ys)) ∧ Below w.heap.size w w' := by
  refine (callsIn_wide (n := 8)).1 ?_
  obtain ⟨W0, hW0⟩ : ∃ W0, w.alloc (.cells #[.int .i64 0] 3) = W0 := ⟨_, rfl⟩
  have hs0 : W0.heap.size = w.heap.size + 1 := by rw [← hW0]; simp
  have hv0 : Boxed W0 w.heap.size 3 (.int .i64 0) := by rw [← hW0]; exact Boxed.new w _ _
  have hB0 : Below w.heap.size w W0 := by rw [← hW0]; exact (Below.refl _ w).alloc (Nat.le_refl _) _
  have hel : ∀ y ∈ ys, y.f1.size ≤ 65536 := by
    rcases h with ⟨rfl, rfl⟩ | ⟨t, T, rfl, hT, rfl⟩
    · simp
    · obtain ⟨bm, bd, hT⟩ := hT
      exact fun y hy => (hT.ok.el y (List.mem_filter.1 hy).1).2.1
  obtain ⟨N, hN, hsrc⟩ := h.src2 hB0
  rw [hs0] at hN hsrc
  refine callsIn_of_wp_marks Try.func15 rfl trivial ?_ rfl
  simp only [Try.ntmps15, List.size_toArray, List.length_cons, List.length_nil, Nat.reduceAdd, Nat.reduceSub, Array.replicate_succ, Array.replicate_zero, List.push_toArray, List.append_toArray, List.nil_append, List.cons_append]
  have HS := Aside0.mk hsrc
  have HN := Aside0.mk hN
  have HV0 := Aside0.mk hv0
  have HB0 := Aside0.mk hB0
  have HEL := Aside0.mk hel
  have HW0 := Aside0.mk hW0
  clear hsrc h hN hv0 hB0 hel hW0
  gi_wp2_with (refine ⟨trivial, ?_⟩; gi_at_call 27; refine (files_any _ _ _).mono ?_; rintro e w' ⟨rfl, rfl⟩)
  rw [HW0.out]
  have hz0 : (W0.alloc (.cells #[.pointer v] 23)).heap.size = w.heap.size + 2 := by simp; omega
  have hN2 : ∀ k, N k → k < (W0.alloc (.cells #[.pointer v] 23)).heap.size := fun k hk => by have := HN.out k hk; omega
  have hNb : ¬ N w.heap.size := fun e => by have := HN.out _ e; omega
  refine src_run (by omega) HS.out (Old.refl _) rfl (fun k => k = w.heap.size) (fun k hk => ⟨by omega, fun e => hNb (hk ▸ e)⟩) hN2 (Cnt w.heap.size w.heap.size) (fun _ _ _ _ => False) ?hU (fun c W1 pre A l o o' _ _ _ h => h) ?h0 ?hUa
    (fun x y => { tmps := #[.pointer v, undef, .int .i64 0, .pointer (some ⟨w.heap.size, 0, none⟩), .pointer (some ⟨x, 0, none⟩), .pointer v, .func (.func 41) #[] #[.pointer (some ⟨w.heap.size + 1, 0, none⟩)], vF y, undef, undef, undef, undef, undef, undef], defers := [] }) ?assign ?body ?done ?stop
  case hU =>
    rintro W1 pre A l o o' hl ho hoc ⟨n, hv, hn, hnb, hb, hlen⟩
    refine ⟨n, (World.putObj_heap_other (by omega)).trans hv, hn, hnb, hb.grown (grownBy_putObj' _ _ _) ?_ (fun k e => by cases e; omega), hlen⟩
    have := hv.lt; omega
  case h0 =>
    intro W1 h1 _
    exact ⟨0, (h1.block _ (by omega)).trans (HV0.out.alloc _), rfl, ⟨by omega, by omega⟩, Below.refl _ _, Nat.zero_le _⟩
  case hUa =>
    rintro W1 pre A o hA ⟨n, hv, hn, hnb, hb, hlen⟩
    have := hv.lt
    exact ⟨n, hv.alloc o, hn, hnb, hb.alloc (by omega) o, hlen⟩
  case assign =>
    intro y l W K hK
    simp only [vF]
    gi_wp2
    exact hK
  case body =>
    rintro l x W1 pre y W2 hz1 hz2 hbx0 hlen hmem ⟨n, hv, rfl, ⟨hn0, hn1⟩, hb, hlen2⟩
    have hcv := hv.cell
    have hfv := hv.frozen
    have b1 : W2.cell? ⟨x, 1, none⟩ = some (.string y.f1) := by rw [Lib.cell_of_heap hbx0]; rfl
    have hys := HEL.out y hmem
    have hwr : wrap64 (bytesF pre + (y.f1.size : Int)) = bytesF pre + (y.f1.size : Int) := by unfold wrap64; omega
    have hsn := bytesF_snoc pre y
    have HWR := Aside0.mk hwr
    have HSN := Aside0.mk hsn
    clear hbx0 hwr hsn
    simp only [vF]
    generalize hbf : bytesF pre = bf at *
    gi_wp2
    refine ⟨KeepsOthers.setCell _ _ _, fun j _ hj => Below.heap_setCell _ _ _ j hj, ?_⟩
    exact ⟨_, hv.set _, by rw [HSN.out], ⟨by omega, by rw [List.length_append, List.length_singleton]; omega⟩, hb.setCell (p := ⟨w.heap.size, 0, none⟩) (by simp) _, by rw [List.length_append, List.length_singleton]; omega⟩
  case done =>
    rintro W1 W' h1 hz1 hk ⟨n, hv, rfl, hnb, hb, hlen⟩ hD
    have hcv := hv.cell
    have hfv := hv.frozen
    have HK := Aside0.mk hk
    gi_wp2
    refine ⟨by simp, .inl ⟨_, _, rfl, run_takeDeferred hD, ?_⟩⟩
    have hg := grownBy_putObj' W' (W0.alloc (.cells #[.pointer v] 23)).heap.size (.deferred none)
    refine ⟨_, results_tmp rfl _ _ _, rfl, ?_⟩
    have hbb : Below w.heap.size W1 (W'.putObj (W0.alloc (.cells #[.pointer v] 23)).heap.size (.deferred none)) := hb.grown hg (by have := hk.1; omega) (fun k e => by cases e; omega)
    exact ((HB0.out.alloc (by omega) _).trans (h1.mono (by omega))).trans hbb
  case stop => exact fun c W1 W' pre _ _ _ _ h _ => h.elim
end Go.Proofs.Ytonhfcjldbohbaa.Fi

namespace Go.Proofs.Ytonhfcjldbohbaa.Fi
open Go Go.RowKit Go.ChangeMaps Go.MapKept Go.Proofs.Ytonhfcjldbohbaa.PA Go.Proofs.YtonhfcjldbohbaaW.PrintWords Go.Proofs.YtonhfcjldbohbaaW.PrintLast Go.Proofs.YtonhfcjldbohbaaW.PrintMore Go.Proofs.Ytonhfcjldbohbaa.Rg
attribute [local go_sem] Oper.semAt_some
set_option linter.unusedVariables false
set_option linter.unusedSimpArgs false

theorem sort_any (W : World) (base : Nat) (A : Option Addr) (c : Nat) (ss : List (List UInt8)) (hlen : ss.length ≤ 100000000) (hrow : W.ownsRow base 9 1 (.slice A ss.length c) ss.length (ss.map encStr)) :
    Calls Try.prog 28 #[.slice A ss.length c] W fun e w' => e = .returned (.tuple #[]) ∧ w'.ownsRow base 9 1 (.slice A ss.length c) ss.length ((ss.mergeSort leB).map encStr) ∧ W.grownBy w' (Value.slice A ss.length c).ownBlock := by
  rcases hrow.2 with ⟨e, hz⟩ | ⟨gb, cap, cur, e, hbase, hgb, r1, r2, r3, r4⟩
  · have hss : ss = [] := List.eq_nil_of_length_eq_zero hz
    subst hss
    refine (AnyM.slices_Sort_string_none Try.sortF A c W).mono ?_
    rintro e' w' ⟨rfl, rfl⟩
    exact ⟨rfl, by simpa using hrow, ⟨rfl, rfl, rfl, Nat.le_refl _, fun _ _ _ => rfl⟩⟩
  · injection e with e1 e2 e3
    subst e1
    subst e3
    have hH : Sort.Holds encStr W gb 0 ss.toArray := holds_of_block hgb (by simpa using r4)
    have hgl : gb < W.heap.size := (Array.getElem?_eq_some_iff.1 hgb).1
    have hsz : ss.length < 4611686018427387904 := by omega
    refine (AnyM.slices_Sort_string Try.sortF gb 0 c ss W hH hgl hsz).mono ?_
    rintro e' w' ⟨rfl, nn, os, rfl⟩
    exact ⟨rfl, ownsRow_sorted (by simp) hbase hgb r1 r2 r3, grownBy_sorted _⟩
/-- What was turned, or dropped, behind a revision. -/
def sinceF (T : Tb) (rev : Int) : List ByteArray := (T.l.filter fun f => decide (rev < f.f3)).map fun f => f.f0
def accF (rev : Int) (ys : List Fl) : List (List UInt8) := (ys.filter fun f => decide (rev < f.f3)).map nmL
theorem accF_snoc (rev : Int) (ys : List Fl) (y : Fl) : accF rev (ys ++ [y]) = if rev < y.f3 then accF rev ys ++ [nmL y] else accF rev ys := by
  unfold accF
  rw [List.filter_append]
  by_cases h : rev < y.f3 <;> simp [h]
theorem accF_len (rev : Int) (ys : List Fl) : (accF rev ys).length ≤ ys.length := by
  unfold accF
  rw [List.length_map]
  exact List.length_filter_le _ _
/-- When it was dropped. -/
def atF (T : Tb) (x : List UInt8) : Int := match get gone T.l x with | some f => f.f3 | none => 0
def accD (T : Tb) (rev : Int) (ss : List (List UInt8)) : List (List UInt8) := ss.filter fun x => decide (rev < atF T x)
theorem accD_snoc (T : Tb) (rev : Int) (ss : List (List UInt8)) (x : List UInt8) : accD T rev (ss ++ [x]) = if rev < atF T x then accD T rev ss ++ [x] else accD T rev ss := by
  unfold accD
  rw [List.filter_append]
  by_cases h : rev < atF T x <;> simp [h]
/-- All that is told, sorted. -/
theorem since_sorted {T : Tb} (hs : Sorted T.l) (rev : Int) {ss : List (List UInt8)} (hp : ss.Perm (names gone T.l)) : (accF rev (allF T) ++ accD T rev ss).mergeSort leB = (sinceF T rev).map fun n => n.data.toList := by
  have hsub : (T.l.filter fun f => decide (rev < f.f3)).Sublist T.l := List.filter_sublist
  have hs2 : Sorted (T.l.filter fun f => decide (rev < f.f3)) := hs.sublist hsub
  have e1 : (sinceF T rev).map (fun n => n.data.toList) = names (fun _ => true) (T.l.filter fun f => decide (rev < f.f3)) := by simp [sinceF, names, nmL]
  rw [e1]
  refine names_merge hs2 ?_
  have hd : (accD T rev ss).Perm (accF rev (T.l.filter gone)) := by
    have h1 : (accD T rev ss).Perm (accD T rev (names gone T.l)) := hp.filter _
    refine h1.trans (List.Perm.of_eq ?_)
    unfold accD names accF
    rw [List.filter_map]
    congr 1
    refine List.filter_congr (fun f hf => ?_)
    obtain ⟨h2, h3⟩ := List.mem_filter.1 hf
    have : atF T (nmL f) = f.f3 := by unfold atF; rw [get_of_mem hs h2 h3]
    simp [this]
  refine (List.Perm.append_left _ hd).trans ?_
  unfold accF allF names
  rw [← List.map_append, List.filter_eq_self.2 (fun _ _ => rfl)]
  refine List.Perm.map _ ?_
  rw [← List.filter_append]
  refine List.Perm.filter _ ?_
  have : T.l.filter gone = T.l.filter (fun f => !here f) := List.filter_congr (fun f _ => by simp [gone, here])
  rw [this]
  exact List.filter_append_perm here T.l

theorem infoStr : (Try.prog.info? 9).map (fun i => (i.zero, i.size, i.bytes)) = some (some (.string ByteArray.empty), 1, 16) := by kernel_rfl
theorem own_ne_iter {w : World} {B e size n r : Nat} {v : Value} {xs : List Value} {m : Option Nat} {s : Nat} {seen : Array Nat} {c : Nat} (h : w.ownsRow B e size v n xs) (hb : w.heap[r]? = some (.mapIter m s seen c)) : v.ownBlock ≠ some r := by
  rcases h.2 with ⟨rfl, _⟩ | ⟨g', cap, cur, rfl, _, hh, _⟩
  · simp [Value.ownBlock]
  · intro he
    have : g' = r := by simpa [Value.ownBlock] using he
    subst this
    rw [hb] at hh
    injection hh with hh
    cases hh
theorem ranges_iter {H : Type} {P : Program} {k : TypeId} {R : Value → Option (DataW H × List MemPlace)} {w : World} {b r n : Nat} {D : DataW H} {left : Lit → Bool} {cnt : Nat} (h : w.ranges P k R b r n D left cnt) : ∃ m s seen c, w.heap[r]? = some (.mapIter m s seen c) := by
  obtain ⟨es, clock, since, seen, c0, hb, _, _, _, hr, _⟩ := h
  exact ⟨_, _, _, _, hr⟩
/-- Since, while the files are looked at. -/
def Sn (bl br n0 : Nat) (rev : Int) (W1 : World) (ys : List Fl) (W : World) : Prop := ∃ A c, Boxed W bl 36 (.slice A (accF rev ys).length c) ∧ W.ownsRow W1.heap.size 9 1 (.slice A (accF rev ys).length c) (accF rev ys).length ((accF rev ys).map encStr) ∧ Boxed W br 3 (.int .i64 rev) ∧ Below n0 W1 W ∧ ys.length ≤ 64
set_option maxRecDepth 100000 in
set_option maxHeartbeats 4000000 in
theorem since_any {B : Nat} {S : Nat → Prop} {t : Nat} {T : Tb} {w : World} (h : TB B S t T w) (rev : Int) :
    Calls Try.prog 14 #[.pointer (some ⟨t, 0, none⟩), .int .i64 rev] w fun e w' => ∃ A c, e = .returned (.slice A (sinceF T rev).length c) ∧ w'.ownsRow w.heap.size 9 1 (.slice A (sinceF T rev).length c) (sinceF T rev).length (encs Value.string (sinceF T rev)) ∧ Below w.heap.size w w' := by
  refine (callsIn_wide (n := 8)).1 ?_
  obtain ⟨W0, hW0⟩ : ∃ W0, (w.alloc (.cells #[.int .i64 rev] 3)).alloc (.cells #[.slice none 0 0] 36) = W0 := ⟨_, rfl⟩
  have hs0 : W0.heap.size = w.heap.size + 2 := by rw [← hW0]; simp
  have hvr : Boxed W0 w.heap.size 3 (.int .i64 rev) := by rw [← hW0]; exact (Boxed.new w _ _).alloc _
  have hvl : Boxed W0 (w.heap.size + 1) 36 (.slice none 0 0) := by
    rw [← hW0]
    have := Boxed.new (w.alloc (.cells #[.int .i64 rev] 3)) 36 (.slice none 0 0)
    rwa [World.size_alloc] at this
  have hB0 : Below w.heap.size w W0 := by rw [← hW0]; exact ((Below.refl _ w).alloc (Nat.le_refl _) _).alloc (by simp) _
  have hso : SrcOf B S (some ⟨t, 0, none⟩) (allF T) w := .inr ⟨t, T, rfl, h, rfl⟩
  obtain ⟨N, hN, hsrc⟩ := hso.src2 hB0
  clear hso
  rw [hs0] at hN hsrc
  refine callsIn_of_wp_marks Try.func14 rfl trivial ?_ rfl
  simp only [Try.ntmps14, List.size_toArray, List.length_cons, List.length_nil, Nat.reduceAdd, Nat.reduceSub, Array.replicate_succ, Array.replicate_zero, List.push_toArray, List.append_toArray, List.nil_append, List.cons_append]
  have HS := Aside0.mk hsrc
  have HN := Aside0.mk hN
  have HVR := Aside0.mk hvr
  have HVL := Aside0.mk hvl
  have HB0 := Aside0.mk hB0
  have HT := Aside0.mk h
  have HW0 := Aside0.mk hW0
  clear hsrc h hN hvr hvl hB0 hW0
  gi_wp2_with (refine ⟨trivial, ?_⟩; gi_at_call 27; refine (files_any _ _ _).mono ?_; rintro e w' ⟨rfl, rfl⟩)
  rw [HW0.out]
  have hz0 : (W0.alloc (.cells #[.pointer (some ⟨t, 0, none⟩)] 23)).heap.size = w.heap.size + 3 := by simp; omega
  have hN2 : ∀ k, N k → k < (W0.alloc (.cells #[.pointer (some ⟨t, 0, none⟩)] 23)).heap.size := fun k hk => by have := HN.out k hk; omega
  have hNb : ∀ k, (k = w.heap.size ∨ k = w.heap.size + 1) → ¬ N k := fun k hk e => by have := HN.out _ e; omega
  refine src_run (by omega) HS.out (Old.refl _) rfl (fun k => k = w.heap.size ∨ k = w.heap.size + 1) (fun k hk => ⟨by omega, hNb k hk⟩) hN2 (Sn (w.heap.size + 1) w.heap.size w.heap.size rev) (fun _ _ _ _ => False) ?hU (fun c W1 pre A l o o' _ _ _ h => h) ?h0 ?hUa
    (fun x y => { tmps := #[.pointer (some ⟨t, 0, none⟩), .int .i64 rev, undef, .pointer (some ⟨w.heap.size, 0, none⟩), .slice none 0 0, .pointer (some ⟨w.heap.size + 1, 0, none⟩), .pointer (some ⟨x, 0, none⟩), undef, undef, .pointer (some ⟨t, 0, none⟩), .bool false, .pointer (some ⟨t, 0, none⟩), .func (.func 41) #[] #[.pointer (some ⟨w.heap.size + 2, 0, none⟩)], vF y, undef, undef, undef, undef, undef, undef, undef, undef, undef, undef, undef, undef, undef, undef, undef, undef, undef, undef, undef, undef, undef, undef, undef, undef, undef, undef, undef, undef, undef], defers := [] }) ?assign ?body ?done ?stop
  case hU =>
    rintro W1 pre A l o o' hl ho hoc ⟨A5, c5, hv, hrow, hr, hb, hlen⟩
    have h1 := hv.lt
    exact ⟨A5, c5, (World.putObj_heap_other (by omega)).trans hv, ownsRow_putObj hrow o' ho hoc, (World.putObj_heap_other (by omega)).trans hr, hb.grown (grownBy_putObj' _ _ _) (by omega) (fun k e => by cases e; omega), hlen⟩
  case h0 =>
    intro W1 h1 _
    exact ⟨none, 0, (h1.block _ (by omega)).trans (HVL.out.alloc _), ⟨rfl, .inl ⟨rfl, rfl⟩⟩, (h1.block _ (by omega)).trans (HVR.out.alloc _), Below.refl _ _, Nat.zero_le _⟩
  case hUa =>
    rintro W1 pre A o hA ⟨A5, c5, hv, hrow, hr, hb, hlen⟩
    have := hv.lt
    exact ⟨A5, c5, hv.alloc o, hrow.alloc o, hr.alloc o, hb.alloc (by omega) o, hlen⟩
  case assign =>
    intro y l W K hK
    simp only [vF]
    gi_wp2
    exact hK
  case body =>
    rintro l x W1 pre y W2 hz1 hz2 hbx0 hlen hmem ⟨A5, c5, hv, hrow, hr, hb, hlen2⟩
    have hcv := hv.cell
    have hfv := hv.frozen
    have hcr := hr.cell
    have b0 : W2.cell? ⟨x, 0, none⟩ = some (.string y.f0) := by rw [Lib.cell_of_heap hbx0]; rfl
    have b3 : W2.cell? ⟨x, 3, none⟩ = some (.int .i64 y.f3) := by rw [Lib.cell_of_heap hbx0]; rfl
    have hsn := accF_snoc rev pre y
    have hal := accF_len rev pre
    have hltv := hv.lt
    have hxl := (Array.getElem?_eq_some_iff.1 hbx0).1
    have HSN := Aside0.mk hsn
    clear hbx0 hsn
    generalize hacc : accF rev pre = acc at *
    simp only [vF]
    by_cases hy : rev < y.f3
    · rw [if_pos hy] at HSN
      have hd : decide (rev < y.f3) = true := decide_eq_true hy
      have henc : encStr (nmL y) = .string y.f0 := by simp [encStr, nmL]
      obtain ⟨i0, hi0, hiz, hi1, hi2⟩ := info_parts infoStr
      have HR := Aside0.mk hr
      clear hy hr
      gi_wp2_with (gi_at_builtin; refine wpListIn_append_own _ rfl _ _ 36 rfl W1.heap.size 9 i0 (.string ByteArray.empty) 1 16 Try.underlying36 hi0 hiz hi1 hi2 rfl (by decide) _ _ _ rfl (hrow.alloc _) ⟨W2.heap.size, 0, none⟩ 1 1 [.string y.f0] rfl rfl (cell_one_new _ _ _) (by simp [Value.oneCell']) (by unfold maxLen; omega) (by omega) (by simp; omega) ?_; intro v' w3 hown' hgrow hnil; obtain ⟨hbx, hbx2, hown2, hko, hbl⟩ := hv.appended (n₀ := w.heap.size) (e := 9) (by decide) (own_base hrow (by omega)) (by omega) (by omega) (own_base hown' (by omega)) hgrow; have hcv3 := hbx.cell; have hfv3 := hbx.frozen; obtain ⟨A', c', e'⟩ := own_slice hown'; subst e')
      have hK3 : ∀ k, k < W1.heap.size → ¬ (k = w.heap.size ∨ k = w.heap.size + 1) → (w3.setCell ⟨w.heap.size + 1, 0, none⟩ (.slice A' (acc.length + 1) c')).heap[k]? = W2.heap[k]? := fun k h1 h2 =>
        (Below.heap_setCell w3 ⟨w.heap.size + 1, 0, none⟩ _ k (fun e => h2 (.inr e))).trans ((hgrow.block k (by simp; omega) (fun e => by have := (hrow.lt k e.symm).1; omega)).trans (Below.heap_alloc _ _ k (by omega)))
      have hr3 : Boxed (w3.setCell ⟨w.heap.size + 1, 0, none⟩ (.slice A' (acc.length + 1) c')) w.heap.size 3 (.int .i64 rev) :=
        (Below.heap_setCell w3 ⟨w.heap.size + 1, 0, none⟩ _ w.heap.size (by show w.heap.size ≠ w.heap.size + 1; omega)).trans ((hgrow.block w.heap.size (by simp; omega) (fun e => by have := (hrow.lt _ e.symm).1; omega)).trans ((Below.heap_alloc _ _ w.heap.size (by omega)).trans HR.out))
      refine ⟨hko, hK3, A', c', ?_, ?_, hr3, hb.trans hbl, by rw [List.length_append, List.length_singleton]; omega⟩
      · rw [HSN.out, List.length_append, List.length_singleton]; exact hbx2
      · rw [HSN.out, List.length_append, List.length_singleton, List.map_append, List.map_singleton, henc]
        exact hown'.kept (grownBy_setCell' w3 (w.heap.size + 1) _) (.inr (hbx.not_row (by decide) hown').symm)
    · rw [if_neg hy] at HSN
      have hd : decide (rev < y.f3) = false := decide_eq_false hy
      have HR := Aside0.mk hr
      have HV := Aside0.mk hv
      clear hy hr hv
      gi_wp2
      refine ⟨KeepsOthers.refl _, fun k _ _ => rfl, A5, c5, ?_, ?_, HR.out, hb, by rw [List.length_append, List.length_singleton]; omega⟩
      · rw [HSN.out]; exact HV.out
      · rw [HSN.out]; exact hrow
  case done =>
    rintro W1 W' h1 hz1 hk ⟨A5, c5, hv, hrow, hr, hb, hlen⟩ hD
    have hBW : Below w.heap.size w W' := ((HB0.out.alloc (by omega) _).trans (h1.mono (by omega))).trans hb
    have hTW := HT.out.below hBW
    obtain ⟨bm, bd, hTW⟩ := hTW
    have hbdl := (HT.out.below (Below.refl _ w))
    have hSw : bd < w.heap.size := by
      obtain ⟨bm', bd', hT0⟩ := HT.out
      have e := (hBW.block t (hT0.sB t hT0.st).2).symm.trans hTW.ht
      rw [hT0.ht] at e
      have e2 : bd' = bd := by
        injection e with e; injection e with e _ _
        have := congrArg (fun a : Array Value => a.toList) e
        simp at this
        exact this.2
      rw [← e2]; exact (hT0.sB bd' hT0.sd).2
    have c3 : W'.cell? ⟨t, 3, none⟩ = some (.map (some bd)) := by rw [Lib.cell_of_heap hTW.ht]; rfl
    obtain ⟨D, nn, hown, hx⟩ := hTW.hd
    have hsrt := hTW.ok.sorted
    have hsz := MapV.size hsrt hown hx
    have hnm : (names gone T.l).Perm (strKeys D) := keys_perm hown (names_nodup hsrt) (fun k => by rw [MapV.has hx k, mem_names hsrt])
    have hcnt : (T.l.filter gone).length ≤ 1000000 := Nat.le_trans (List.length_filter_le _ _) hTW.ok.len
    have hat : ∀ x y, (∀ zd, D.atKey (.string x) zd = .lit (.int .i64 y)) → atF T x = y := fun x y hy => by
      have hh : Maps.has D (.string x) = true := Maps.has_true_of_atKey hy
      rw [MapV.has hx x] at hh
      obtain ⟨f, hf⟩ := Option.isSome_iff_exists.1 hh
      have := (((hx x).1 f hf).2 .nil).symm.trans (hy .nil)
      unfold atF
      rw [hf]
      simpa [dI] using this
    have hz3 : W'.heap.size ≥ w.heap.size + 5 := by have := hk.1; omega
    obtain ⟨acc, hacc⟩ : ∃ a, accF rev (allF T) = a := ⟨_, rfl⟩
    rw [hacc] at hv hrow
    have hal : acc.length ≤ 64 := by rw [← hacc]; exact Nat.le_trans (accF_len _ _) hlen
    obtain ⟨n1, hn1, hn1'⟩ : ∃ n1, n1 = W1.heap.size ∧ w.heap.size + 5 ≤ n1 := ⟨_, rfl, by omega⟩
    rw [← hn1] at hrow
    have hnl : n1 ≤ W'.heap.size := by rw [hn1]; exact hk.1
    rw [hz0] at hD ⊢
    have HTW := Aside0.mk hTW
    have HBW := Aside0.mk hBW
    have HNM := Aside0.mk hnm
    have HAT := Aside0.mk hat
    have HACC := Aside0.mk hacc
    have HD := Aside0.mk hD
    have HV := Aside0.mk hv
    have HROW := Aside0.mk hrow
    have HR := Aside0.mk hr
    have HSZ := Aside0.mk hsz
    have HX := Aside0.mk hx
    have HOWN := Aside0.mk hown
    have K := Maps.string_keyed Try.underlying9
    clear hTW hBW hnm hat hacc hD hv hrow hr hsz hx hk h1 hb hz1 HS HN HVR HVL HB0 HW0 hN2 hNb hz0 hs0 hsrt hlen hbdl
    gi_wp2_with (gi_at_range; refine wpListIn_range_own _ rfl _ 61 rfl 9 3 K Try.underlying61 _ bd nn _ rfl hown ?_; intro w0 hrg0 hg0 hs0)
    obtain ⟨r, hr0⟩ : ∃ r, W'.heap.size = r := ⟨_, rfl⟩
    rw [hr0] at hrg0 hs0 hnl hz3 ⊢
    have hB0 : Below w.heap.size w w0 := HBW.out.grown hg0 (by omega) (fun k e => by cases e)
    have hV0 : Boxed w0 (w.heap.size + 1) 36 (.slice A5 acc.length c5) := HV.out.kept hg0 (by simp)
    have hR0 : Boxed w0 w.heap.size 3 (.int .i64 rev) := HR.out.kept hg0 (by simp)
    have hO0 : w0.ownsRow n1 9 1 (.slice A5 acc.length c5) acc.length (acc.map encStr) := own_heap HROW.out (fun k e => hg0.block k (HROW.out.lt k e).2 (by simp))
    have hD0 : w0.heap[w.heap.size + 3]? = some (.deferred (some [])) := (hg0.block _ (by omega) (by simp)).trans HD.out
    have H0 := Aside0.mk (And.intro hB0 (And.intro hV0 (And.intro hR0 (And.intro hO0 hD0))))
    have HRG := Aside0.mk hrg0
    clear hB0 hV0 hR0 hO0 hD0 hg0 HV HR HROW HD HBW hown HOWN hrg0 HX c3 HTW
    go_frame
    gi_loopw [7, 8] (fun _ _ wr => ∃ (left : Lit → Bool) (cnt : Nat) (ss : List (List UInt8)) (A : Option Addr) (c : Nat), wr.ranges Try.prog 9 (plainElem Try.prog 3) bd r nn D left cnt ∧ (ss.length + cnt ≤ Maps.size D ∧ r < wr.heap.size) ∧ Collected D left ss ∧
      Boxed wr (w.heap.size + 1) 36 (.slice A (acc ++ accD T rev ss).length c) ∧ wr.ownsRow n1 9 1 (.slice A (acc ++ accD T rev ss).length c) (acc ++ accD T rev ss).length ((acc ++ accD T rev ss).map encStr) ∧ Boxed wr w.heap.size 3 (.int .i64 rev) ∧ Below w.heap.size w wr ∧ wr.heap[w.heap.size + 3]? = some (.deferred (some [])))
      (fun _ _ wr => wr.rangeLeft bd r)
    case atStart =>
      obtain ⟨hB0, hV0, hR0, hO0, hD0⟩ := H0.out
      exact ⟨_, _, [], A5, c5, HRG.out, ⟨by simp, by omega⟩, Collected.start D, by simpa [accD] using hV0, by simpa [accD] using hO0, hR0, hB0, hD0⟩
    case round =>
      obtain ⟨left, cnt, ss, A, c, hrg, ⟨hcs, hrl⟩, hC, hV, hO, hR, hB, hD⟩ := hrel
      obtain ⟨L, hL⟩ : ∃ L, acc ++ accD T rev ss = L := ⟨_, rfl⟩
      have hLl : L.length = acc.length + (accD T rev ss).length := by rw [← hL, List.length_append]
      rw [hL] at hV hO
      have HL := Aside0.mk hL
      have HC := Aside0.mk hC
      have HV := Aside0.mk hV
      have HO := Aside0.mk hO
      have HR := Aside0.mk hR
      have HB := Aside0.mk hB
      have HD := Aside0.mk hD
      have hsz := HSZ.out
      have hdl : (accD T rev ss).length ≤ ss.length := List.length_filter_le _ _
      have HRG2 := Aside0.mk hrg
      have hLb : L.length ≤ 1000064 := by omega
      clear hC hV hO hR hB hD hL hLl
      gi_wp2_with (gi_at_next; refine wpListIn_next_ranges _ rfl _ rfl 9 K (plainElem Try.prog 3) encStr (Value.int .i64) (fun key kl hk => by obtain ⟨x, hx, _⟩ := Maps.keyOf_str Try.underlying9 hk; exact ⟨x, hx⟩) (fun v y hv => by obtain ⟨c, rfl, _⟩ := plainElem_int_inv Try.underlying3 hv; exact ⟨c, rfl⟩) bd r nn _ _ _ rfl hrg ?_ ?_)
      · intro hc0 hl0
        have HL0 := Aside0.mk hl0
        clear hl0 hrg
        have hcv := HV.out.cell
        gi_wp2_with fail
        refine ⟨trivial, (callsIn_wide.2 (sort_any wr n1 A c L (by omega) HO.out)).mono ?_⟩
        rintro e w5 ⟨rfl, hO5, hg5⟩
        have hV5 := HV.out.kept hg5 (HV.out.not_row (by decide) HO.out)
        have hcv5 := hV5.cell
        have hD5 : w5.heap[w.heap.size + 3]? = some (.deferred (some [])) := (hg5.block _ (by omega) (fun e => by have := (HO.out.lt _ e.symm).1; omega)).trans HD.out
        have hB5 : Below w.heap.size w w5 := HB.out.grown hg5 (by omega) (fun k e => by have := (HO.out.lt _ e).1; omega)
        have hp : ss.Perm (names gone T.l) := (HC.out.perm HRG2.out.owns K Try.underlying9 HL0.out).trans HNM.out.symm
        obtain ⟨bm', bd', hT0⟩ := HT.out
        have hss := since_sorted hT0.ok.sorted rev hp
        rw [HACC.out, HL.out] at hss
        rw [hss] at hO5
        have hll : L.length = (sinceF T rev).length := by
          have := congrArg List.length hss
          simpa using this
        have HO5 := Aside0.mk hO5
        have HD5 := Aside0.mk hD5
        have HB5 := Aside0.mk hB5
        have HLL := Aside0.mk hll
        clear hO5 hD5 hB5 hp hss hV5 hg5 hcv hll hT0
        gi_wp2
        refine ⟨by simp, .inl ⟨_, _, rfl, run_takeDeferred HD5.out, ?_⟩⟩
        refine ⟨_, results_tmp rfl _ _ _, A, c, by rw [← HLL.out]; rfl, ?_, HB5.out.grown (grownBy_putObj' _ _ _) (by have := HB5.out.size; omega) (fun k e => by cases e; omega)⟩
        have hO6 := ownsRow_putObj HO5.out (.deferred none) HD5.out rfl
        rw [HLL.out, List.map_map] at hO6
        refine own_base (base := n1) (base' := w.heap.size) ?_ (by omega)
        have e1 : (encStr ∘ fun n : ByteArray => n.data.toList) = Value.string := by funext n; simp [encStr]
        rw [e1] at hO6
        exact hO6
      · intro x cv kl yd yp w2 cnt2 hkey hlk hv hat hrg2 hlt hg2 hs2 hen
        obtain ⟨x', ex, rfl, _⟩ := Maps.keyOf_str Try.underlying9 hkey
        obtain rfl : x = x' := encStr_inj ex
        obtain ⟨c', ec, ez, _⟩ := plainElem_int_inv Try.underlying3 hv
        obtain rfl : cv = c' := by simpa using ec
        obtain rfl : yd = .lit (.int .i64 cv) := (Prod.mk.inj ez).1
        have hav := HAT.out x cv hat
        have hC2 := HC.out.step hlk hat
        have hsn := accD_snoc T rev ss x
        rw [hav] at hsn
        obtain ⟨m, si, sn, cc, hit⟩ := ranges_iter HRG2.out
        have hV2 : Boxed w2 (w.heap.size + 1) 36 (.slice A L.length c) := HV.out.kept hg2 (by simp; omega)
        have hR2 : Boxed w2 w.heap.size 3 (.int .i64 rev) := HR.out.kept hg2 (by simp; omega)
        have hO2 : w2.ownsRow n1 9 1 (.slice A L.length c) L.length (L.map encStr) := own_heap HO.out (fun k e => hg2.block k (HO.out.lt k e).2 (fun e' => own_ne_iter HO.out hit (by rw [e]; exact e')))
        have hB2 : Below w.heap.size w w2 := HB.out.grown hg2 (by omega) (fun k e => by cases e; omega)
        have hD2 : w2.heap[w.heap.size + 3]? = some (.deferred (some [])) := (hg2.block _ (by omega) (by simp; omega)).trans HD.out
        have hcv2 := hV2.cell
        have hfv2 := hV2.frozen
        have hcr2 := hR2.cell
        have HC2 := Aside0.mk hC2
        have HSN := Aside0.mk hsn
        have HR2 := Aside0.mk hR2
        have HB2 := Aside0.mk hB2
        have HD2 := Aside0.mk hD2
        have HRG3 := Aside0.mk hrg2
        have hrl2 : r < w2.heap.size := by omega
        have HLT := Aside0.mk hlt
        have HLE := Aside0.mk (HRG2.out.left_eq)
        clear hs2
        clear HC HV HO HR HB HD HRG2 hC2 hsn hR2 hB2 hD2 hrg2 hlt hkey hlk hv hat hav ez ec ex hg2 hit hrg
        by_cases hy : rev < cv
        · rw [if_pos hy] at HSN
          have hd : decide (rev < cv) = true := decide_eq_true hy
          obtain ⟨i0, hi0, hiz, hi1, hi2⟩ := info_parts infoStr
          clear hy
          simp only [encStr] at hen
          gi_wp2_with (gi_at_builtin; refine wpListIn_append_own _ rfl _ _ 36 rfl n1 9 i0 (.string ByteArray.empty) 1 16 Try.underlying36 hi0 hiz hi1 hi2 rfl (by decide) _ _ _ rfl (hO2.alloc _) ⟨w2.heap.size, 0, none⟩ 1 1 [.string ⟨x.toArray⟩] rfl rfl (cell_one_new _ _ _) (by simp [Value.oneCell']) (by unfold maxLen; omega) (by omega) (by simp; omega) ?_; intro v' w3 hown' hgrow hnil; obtain ⟨hbx, hbx2, hown2, hko, hbl⟩ := hV2.appended (n₀ := w.heap.size) (e := 9) (by decide) (own_base hO2 (by omega)) (by omega) (by omega) (own_base hown' (by omega)) hgrow; have hcv3 := hbx.cell; have hfv3 := hbx.frozen; obtain ⟨A', c', e'⟩ := own_slice hown'; subst e')
          have hxs : L.map encStr ++ [.string ⟨x.toArray⟩] = (L ++ [x]).map encStr := by simp [encStr]
          have hlt4 : w2.heap.size ≤ w3.heap.size := by have := hgrow.size; simp at this; omega
          have hkp : ∀ k, k < w2.heap.size → k < n1 → k ≠ w.heap.size + 1 → (w3.setCell ⟨w.heap.size + 1, 0, none⟩ (.slice A' (L.length + 1) c')).heap[k]? = w2.heap[k]? := fun k h1 h2 h3 =>
            (Below.heap_setCell w3 ⟨w.heap.size + 1, 0, none⟩ _ k h3).trans ((hgrow.block k (by simp; omega) (fun e => by have := (hO2.lt k e.symm).1; omega)).trans (Below.heap_alloc _ _ k h1))
          have hrg4 := HRG3.out.of_walks hko.walks
          have hO4 : (w3.setCell ⟨w.heap.size + 1, 0, none⟩ (.slice A' (L.length + 1) c')).ownsRow n1 9 1 (.slice A' (L.length + 1) c') (L.length + 1) (L.map encStr ++ [.string ⟨x.toArray⟩]) := hown'.kept (grownBy_setCell' w3 (w.heap.size + 1) _) (.inr (hbx.not_row (by decide) hown').symm)
          rw [hxs] at hO4
          have HO4 := Aside0.mk hO4
          have HV4 := Aside0.mk hbx2
          have HRG4 := Aside0.mk hrg4
          have HKP := Aside0.mk hkp
          have HB4 := Aside0.mk hbl
          clear hown' hgrow hnil hbx hbx2 hown2 hko hbl hcv3 hfv3 hxs hkp hrg4 hO4 hV2 hO2
          go_roundw
          case rel =>
            refine ⟨_, cnt2, ss ++ [x], A', c', HRG4.out, ⟨by rw [List.length_append, List.length_singleton]; have := HLT.out; omega, by rw [World.size_setCell]; omega⟩, HC2.out, ?_, ?_, (HKP.out _ (by omega) (by omega) (by omega)).trans HR2.out, HB2.out.trans HB4.out, (HKP.out _ (by omega) (by omega) (by omega)).trans HD2.out⟩
            · rw [HSN.out, ← List.append_assoc, HL.out, List.length_append, List.length_singleton]; exact HV4.out
            · rw [HSN.out, ← List.append_assoc, HL.out, List.length_append, List.length_singleton]; exact HO4.out
          case measure => rw [HRG4.out.left_eq, HLE.out]; exact HLT.out
        · rw [if_neg hy] at HSN
          have hd : decide (rev < cv) = false := decide_eq_false hy
          have HV2 := Aside0.mk hV2
          have HO2 := Aside0.mk hO2
          clear hy hV2 hO2
          simp only [encStr] at hen
          gi_wp2
          go_roundw
          case rel => exact ⟨_, cnt2, ss ++ [x], A, c, HRG3.out, ⟨by rw [List.length_append, List.length_singleton]; have := HLT.out; omega, hrl2⟩, HC2.out, by rw [HSN.out, HL.out]; exact HV2.out, by rw [HSN.out, HL.out]; exact HO2.out, HR2.out, HB2.out, HD2.out⟩
          case measure => rw [HRG3.out.left_eq, HLE.out]; exact HLT.out
  case stop => exact fun c W1 W' pre _ _ _ _ h _ => h.elim
end Go.Proofs.Ytonhfcjldbohbaa.Fi

namespace Go.Proofs.Ytonhfcjldbohbaa.Fi
open Go Go.RowKit Go.ChangeMaps Go.MapKept Go.Proofs.Ytonhfcjldbohbaa.PA Go.Proofs.YtonhfcjldbohbaaW.PrintWords Go.Proofs.YtonhfcjldbohbaaW.PrintLast Go.Proofs.YtonhfcjldbohbaaW.PrintMore
set_option linter.unusedVariables false
set_option linter.unusedSimpArgs false

theorem MapV.copy {R : Value → Option (DataW Unit × List MemPlace)} {dat : Fl → DataW Unit} {w w' : World} {b b' : Nat} {g : List UInt8 → Option Fl} (h : MapV R dat w b g) {es : Array MapEntry} {clock : Nat} (hb : w.heap[b]? = some (.map es clock)) (hb' : w'.heap[b']? = some (.map es clock)) : MapV R dat w' b' g := by
  obtain ⟨D, n, ⟨es', clock', hb2, r⟩, hx⟩ := h
  rw [hb] at hb2
  injection hb2 with hb2
  injection hb2 with e1 e2
  subst e1
  subst e2
  exact ⟨D, n, ⟨es, clock, hb', r⟩, hx⟩
end Go.Proofs.Ytonhfcjldbohbaa.Fi
