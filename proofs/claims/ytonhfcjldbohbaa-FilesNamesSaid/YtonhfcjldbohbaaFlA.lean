/- files, first part: no program: a table, its maps. -/
import Derived.Test.YtonhfcjldbohbaaPAx2
import Derived.Maps.OwnSet
import Derived.Maps.Views
import Derived.Sort.KeysCollected
namespace Go.Proofs.Ytonhfcjldbohbaa.Fi
open Go Go.RowKit Go.ChangeMaps Go.MapKept Go.Proofs.Ytonhfcjldbohbaa.PA Go.Proofs.YtonhfcjldbohbaaW.PrintWords
set_option linter.unusedVariables false
set_option linter.unusedSimpArgs false

abbrev Fl := S55
instance lawfulBytes : LawfulBEq ByteArray where
  eq_of_beq {a b} h := by
    have h1 : (a.data == b.data) = true := h
    have h2 := eq_of_beq h1
    cases a; cases b
    exact congrArg _ h2
  rfl {a} := by
    show (a.data == a.data) = true
    simp
theorem ba_ext {a b : ByteArray} (h : a.data.toList = b.data.toList) : a = b := by
  cases a; cases b; simp at h; simp [h]
/-- A name's bytes. -/
def nmL (f : Fl) : List UInt8 := f.f0.data.toList
structure Tb where
  most : Int
  rev : Int
  l : List Fl
def here (f : Fl) : Bool := !f.f4
def gone (f : Fl) : Bool := f.f4
def get (sel : Fl → Bool) (l : List Fl) (k : List UInt8) : Option Fl := l.find? (fun f => decide (nmL f = k) && sel f)
def setL (f : Fl) : List Fl → List Fl
  | [] => [f]
  | x :: l => if nmL x < nmL f then x :: setL f l else if nmL x = nmL f then f :: l else f :: x :: l
def Sorted (l : List Fl) : Prop := l.Pairwise (fun a b => nmL a < nmL b)
theorem lt_irr (a : List UInt8) : ¬ a < a := List.lt_irrefl a
theorem lt_tr {a b c : List UInt8} (h : a < b) (k : b < c) : a < c := List.lt_trans h k
theorem lt_ne {a b : List UInt8} (h : a < b) : a ≠ b := fun e => lt_irr b (e ▸ h)
theorem lt_of_not {a b : List UInt8} (h : ¬ a < b) (k : a ≠ b) : b < a := by
  have h1 : b ≤ a := h
  rcases Decidable.em (b < a) with h2 | h2
  · exact h2
  · exact absurd (List.le_antisymm (show a ≤ b from h2) h1) k
theorem mem_setL {f : Fl} : ∀ {l : List Fl} {x : Fl}, x ∈ setL f l → x = f ∨ x ∈ l
  | [], x, h => by simp [setL] at h; exact .inl h
  | y :: l, x, h => by
    unfold setL at h
    split at h
    · rcases List.mem_cons.1 h with h | h
      · exact .inr (by simp [h])
      · rcases mem_setL h with h | h
        · exact .inl h
        · exact .inr (by simp [h])
    · split at h
      · rcases List.mem_cons.1 h with h | h
        · exact .inl h
        · exact .inr (by simp [h])
      · rcases List.mem_cons.1 h with h | h
        · exact .inl h
        · exact .inr h
theorem sorted_setL {f : Fl} : ∀ {l : List Fl}, Sorted l → Sorted (setL f l)
  | [], _ => by simp [setL, Sorted]
  | y :: l, h => by
    have h' : (∀ z ∈ l, nmL y < nmL z) ∧ Sorted l := List.pairwise_cons.1 h
    unfold setL
    split
    · rename_i h1
      refine List.pairwise_cons.2 ⟨fun z hz => ?_, sorted_setL h'.2⟩
      rcases mem_setL hz with rfl | hz
      · exact h1
      · exact h'.1 z hz
    · split
      · rename_i h1 h2
        exact List.pairwise_cons.2 ⟨fun z hz => h2 ▸ h'.1 z hz, h'.2⟩
      · rename_i h1 h2
        have h3 := lt_of_not h1 h2
        refine List.pairwise_cons.2 ⟨fun z hz => ?_, h⟩
        rcases List.mem_cons.1 hz with rfl | hz
        · exact h3
        · exact lt_tr h3 (h'.1 z hz)
theorem get_none_of_lt {sel : Fl → Bool} {l : List Fl} {k : List UInt8} (h : ∀ x ∈ l, k < nmL x) : get sel l k = none := by
  unfold get
  rw [List.find?_eq_none]
  intro x hx
  have hne : ¬ nmL x = k := fun e => lt_irr k (by have := h x hx; rw [e] at this; exact this)
  simp [hne]
theorem get_cons (sel : Fl → Bool) (x : Fl) (l : List Fl) (k : List UInt8) : get sel (x :: l) k = if nmL x = k ∧ sel x = true then some x else get sel l k := by
  unfold get
  rw [List.find?_cons]
  by_cases h : nmL x = k ∧ sel x = true
  · simp [h]
  · rw [if_neg h]
    have : (decide (nmL x = k) && sel x) = false := by
      rcases Decidable.em (nmL x = k) with h1 | h1
      · have : sel x = false := by simpa [h1] using h
        simp [this]
      · simp [h1]
    rw [this]
theorem get_setL {sel : Fl → Bool} {f : Fl} : ∀ {l : List Fl}, Sorted l → ∀ k, get sel (setL f l) k = if nmL f = k then (if sel f = true then some f else none) else get sel l k
  | [], _, k => by
    rw [setL, get_cons]
    by_cases h : nmL f = k <;> by_cases hs : sel f = true <;> simp [h, hs, get]
  | y :: l, h, k => by
    have h' : (∀ z ∈ l, nmL y < nmL z) ∧ Sorted l := List.pairwise_cons.1 h
    unfold setL
    split
    · rename_i h1
      rw [get_cons, get_setL h'.2 k, get_cons]
      by_cases hk : nmL f = k
      · rw [if_neg (fun e => lt_ne h1 (e.1.trans hk.symm)), if_pos hk, if_pos hk]
      · rw [if_neg hk, if_neg hk]
    · split
      · rename_i h1 h2
        rw [get_cons, get_cons]
        by_cases hk : nmL f = k
        · rw [if_pos hk]
          have hn : get sel l k = none := get_none_of_lt (fun x hx => by rw [← hk, ← h2]; exact h'.1 x hx)
          by_cases hs : sel f = true
          · simp [hk, hs]
          · simp [hk, hs, hn]
        · rw [if_neg hk, if_neg (fun e => hk e.1), if_neg (fun e => hk (h2.symm.trans e.1))]
      · rename_i h1 h2
        have h3 := lt_of_not h1 h2
        have hn : ∀ z ∈ y :: l, nmL f < nmL z := fun z hz => by
          rcases List.mem_cons.1 hz with rfl | hz
          · exact h3
          · exact lt_tr h3 (h'.1 z hz)
        rw [get_cons]
        by_cases hk : nmL f = k
        · have hn2 : get sel (y :: l) k = none := get_none_of_lt (fun x hx => by rw [← hk]; exact hn x hx)
          by_cases hs : sel f = true
          · simp [hk, hs]
          · simp [hk, hs, hn2]
        · rw [if_neg hk, if_neg (fun e => hk e.1)]
theorem get_some {sel : Fl → Bool} {l : List Fl} {k : List UInt8} {f : Fl} (h : get sel l k = some f) : f ∈ l ∧ nmL f = k ∧ sel f = true := by
  unfold get at h
  have h1 := List.mem_of_find?_eq_some h
  have h2 := List.find?_some h
  simp at h2
  exact ⟨h1, h2.1, h2.2⟩
/-- In a sorted list a name stands once. -/
theorem get_of_mem {sel : Fl → Bool} {l : List Fl} (hs : Sorted l) {f : Fl} (h : f ∈ l) (hf : sel f = true) : get sel l (nmL f) = some f := by
  induction l with
  | nil => simp at h
  | cons y l ih =>
    have h' : (∀ z ∈ l, nmL y < nmL z) ∧ Sorted l := List.pairwise_cons.1 hs
    rw [get_cons]
    rcases List.mem_cons.1 h with rfl | h
    · simp [hf]
    · rw [if_neg (fun e => lt_ne (h'.1 f h) e.1)]
      exact ih h'.2 h
def names (sel : Fl → Bool) (l : List Fl) : List (List UInt8) := (l.filter sel).map nmL
theorem names_sorted {sel : Fl → Bool} {l : List Fl} (h : Sorted l) : (names sel l).Pairwise (fun a b => a < b) :=
  List.pairwise_map.2 (h.sublist List.filter_sublist)
theorem names_nodup {sel : Fl → Bool} {l : List Fl} (h : Sorted l) : (names sel l).Nodup :=
  (names_sorted h).imp (fun {a b} h e => lt_ne h e)
theorem mem_names {sel : Fl → Bool} {l : List Fl} (hs : Sorted l) (k : List UInt8) : k ∈ names sel l ↔ (get sel l k).isSome = true := by
  unfold names
  rw [List.mem_map]
  constructor
  · rintro ⟨f, hf, rfl⟩
    obtain ⟨h1, h2⟩ := List.mem_filter.1 hf
    rw [get_of_mem hs h1 h2]; rfl
  · intro h
    obtain ⟨f, hf⟩ := Option.isSome_iff_exists.1 h
    obtain ⟨h1, h2, h3⟩ := get_some hf
    exact ⟨f, List.mem_filter.2 ⟨h1, h3⟩, h2⟩
theorem names_merge {sel : Fl → Bool} {l : List Fl} (hs : Sorted l) {ss : List (List UInt8)} (h : ss.Perm (names sel l)) : ss.mergeSort leB = names sel l := by
  rw [mergeSort_of_perm h]
  exact List.mergeSort_of_pairwise ((names_sorted hs).imp (fun {a b} h => by simp [leB]; exact fun e => lt_irr _ (lt_tr h e)))

/-! ### maps -/
/-- How a file reads. -/
def elemF : Value → Option (DataW Unit × List MemPlace)
  | .agg cs => match cs.toList with
    | [.string n, .string s, .int .i64 t, .int .i64 u] => some (.agg [.lit (.string n.data.toList), .lit (.string s.data.toList), .lit (.int .i64 t), .lit (.int .i64 u)], [])
    | _ => none
  | _ => none
def vF (f : Fl) : Value := .agg #[.string f.f0, .string f.f1, .int .i64 f.f2, .int .i64 f.f3]
def dF (f : Fl) : DataW Unit := .agg [.lit (.string f.f0.data.toList), .lit (.string f.f1.data.toList), .lit (.int .i64 f.f2), .lit (.int .i64 f.f3)]
theorem elemF_mk (f : Fl) : elemF (vF f) = some (dF f, []) := rfl
theorem elemF_inv {v : Value} {f : Fl} {ps : List MemPlace} (h : elemF v = some (dF f, ps)) : v = vF f := by
  unfold elemF at h
  split at h
  · rename_i cs
    split at h
    · rename_i n s t u hcs
      simp only [dF, Option.some.injEq, Prod.mk.injEq, DataW.agg.injEq, List.cons.injEq, DataW.lit.injEq, Lit.string.injEq, Lit.int.injEq] at h
      obtain ⟨⟨h1, h2, h3, h4, _⟩, _⟩ := h
      have hc : cs = #[.string n, .string s, .int .i64 t, .int .i64 u] := by
        have := congrArg List.toArray hcs
        simpa using this
      rw [hc]
      unfold vF
      rw [ba_ext h1, ba_ext h2, h3.2, h4.2]
    · exact absurd h (by simp)
  · exact absurd h (by simp)

/-- A map shows what a function tells. -/
def MapV (R : Value → Option (DataW Unit × List MemPlace)) (dat : Fl → DataW Unit) (w : World) (b : Nat) (g : List UInt8 → Option Fl) : Prop :=
  ∃ (D : DataW Unit) (n : Nat), w.ownsMap Try.prog 9 R b n D ∧ ∀ k, (∀ f, g k = some f → Maps.has D (.string k) = true ∧ ∀ z, D.atKey (.string k) z = dat f) ∧ (g k = none → Maps.has D (.string k) = false)
section
variable {R : Value → Option (DataW Unit × List MemPlace)} {dat : Fl → DataW Unit} {w : World} {b : Nat} {g : List UInt8 → Option Fl}
theorem MapV.heap (h : MapV R dat w b g) {w' : World} (hk : w'.heap[b]? = w.heap[b]?) : MapV R dat w' b g := by
  obtain ⟨D, n, ⟨es, clock, hb, r⟩, hx⟩ := h
  exact ⟨D, n, ⟨es, clock, hk.trans hb, r⟩, hx⟩
theorem MapV.lt (h : MapV R dat w b g) : b < w.heap.size := by
  obtain ⟨D, n, ho, _⟩ := h
  exact ho.lt
theorem MapV.obj (h : MapV R dat w b g) : ∃ es clock, w.heap[b]? = some (.map es clock) := by
  obtain ⟨D, n, ⟨es, clock, hb, r⟩, hx⟩ := h
  exact ⟨es, clock, hb⟩
theorem MapV.new (R : Value → Option (DataW Unit × List MemPlace)) (dat : Fl → DataW Unit) (w : World) : MapV R dat (w.alloc (.map #[] 0)) w.heap.size (fun _ => none) :=
  ⟨.map [], 0, World.ownsMap_made w Try.prog 9 R, fun k => ⟨fun f h => by simp at h, fun _ => rfl⟩⟩
/-- n bounds as tight as may be. -/
theorem tight {D : DataW Unit} {n : Nat} (h : w.ownsMap Try.prog 9 R b n D) : w.ownsMap Try.prog 9 R b (Maps.size D) D := by
  obtain ⟨es, clock, hb, F, hs, rfl⟩ := h
  exact ⟨es, clock, hb, F, by simp [Maps.size, length_sorted], rfl⟩
theorem MapV.has {D : DataW Unit} (hx : ∀ k, (∀ f, g k = some f → Maps.has D (.string k) = true ∧ ∀ z, D.atKey (.string k) z = dat f) ∧ (g k = none → Maps.has D (.string k) = false)) (k : List UInt8) : Maps.has D (.string k) = (g k).isSome := by
  cases h : g k with
  | none => exact (hx k).2 h
  | some f => exact ((hx k).1 f h).1
theorem keys_perm {D : DataW Unit} {n : Nat} (ho : w.ownsMap Try.prog 9 R b n D) {ss : List (List UInt8)} (hnd : ss.Nodup) (hm : ∀ k, k ∈ ss ↔ Maps.has D (.string k) = true) : ss.Perm (strKeys D) := by
  obtain ⟨es, hD, hpw, _⟩ := ho.entries (Maps.string_keyed Try.underlying9)
  obtain ⟨es', hD', hko⟩ := ho.keysOf
  obtain rfl : es = es' := by rw [hD] at hD'; simpa using hD'
  subst hD
  exact perm_strKeys hpw (fun p hp => by obtain ⟨v, hv⟩ := hko p hp; obtain ⟨x, _, hx, _⟩ := Maps.keyOf_str Try.underlying9 hv; exact ⟨x, hx⟩) hnd hm
theorem size_strKeys (D : DataW Unit) : (strKeys D).length = Maps.size D := by
  unfold strKeys Maps.size
  split <;> simp
theorem MapV.size {D : DataW Unit} {n : Nat} {sel : Fl → Bool} {l : List Fl} (hs : Sorted l) (ho : w.ownsMap Try.prog 9 R b n D) (hx : ∀ k, (∀ f, get sel l k = some f → Maps.has D (.string k) = true ∧ ∀ z, D.atKey (.string k) z = dat f) ∧ (get sel l k = none → Maps.has D (.string k) = false)) : Maps.size D = (l.filter sel).length := by
  have := (keys_perm ho (names_nodup (sel := sel) hs) (fun k => by rw [MapV.has hx k, mem_names hs])).length_eq
  rw [size_strKeys] at this
  rw [← this]; simp [names]
end
theorem ne_str {a b : List UInt8} (h : ¬ a = b) : Lit.string b ≠ Lit.string a := fun e => h (Lit.string.inj e).symm
/-- A function, turned at one key. -/
def upd (g : List UInt8 → Option Fl) (k : List UInt8) (o : Option Fl) : List UInt8 → Option Fl := fun x => if k = x then o else g x
theorem MapV.look {w : World} {b : Nat} {g : List UInt8 → Option Fl} (h : MapV elemF dF w b g) (n : ByteArray) (hn : n.size ≤ 9223372036854775807) :
    (Instr.lookup 60 (.map (some b)) (.string n) true).run Try.prog w = .ok (.tuple #[vF ((g n.data.toList).getD ⟨⟨#[]⟩, ⟨#[]⟩, 0, 0, false⟩), .bool (g n.data.toList).isSome]) w := by
  obtain ⟨D, m, ho, hx⟩ := h
  obtain ⟨v, ps, hrun, hv⟩ := ho.look_ok (Maps.string_keyed Try.underlying9) Try.underlying60 (Try.zeroValue32 w) (elemF_mk ⟨⟨#[]⟩, ⟨#[]⟩, 0, 0, false⟩) (WideMaps.keyOf_string_mk Try.underlying9 (by unfold maxLen; omega))
  rw [hrun, MapV.has hx]
  cases hg : g n.data.toList with
  | none =>
    have hh := (hx n.data.toList).2 hg
    rw [Maps.atKey_of_not_has hh] at hv
    rw [elemF_inv hv]; rfl
  | some f =>
    rw [((hx n.data.toList).1 f hg).2] at hv
    rw [elemF_inv hv]; rfl
theorem MapV.look1 {w : World} {b : Nat} {g : List UInt8 → Option Fl} (h : MapV elemF dF w b g) (n : ByteArray) (hn : n.size ≤ 9223372036854775807) (f : Fl) (hg : g n.data.toList = some f) :
    (Instr.lookup 60 (.map (some b)) (.string n) false).run Try.prog w = .ok (vF f) w := by
  obtain ⟨D, m, ho, hx⟩ := h
  obtain ⟨v, ps, hrun, hv⟩ := ho.lookup (Maps.string_keyed Try.underlying9) Try.underlying60 (Try.zeroValue32 w) (elemF_mk ⟨⟨#[]⟩, ⟨#[]⟩, 0, 0, false⟩) (WideMaps.keyOf_string_mk Try.underlying9 (by unfold maxLen; omega))
  rw [((hx n.data.toList).1 f hg).2] at hv
  rw [hrun, elemF_inv hv]
/-- Only one block has turned. -/
structure One (b : Nat) (w w' : World) : Prop where
  os : w'.os = w.os
  tape : w'.tape = w.tape
  output : w'.output = w.output
  size : w'.heap.size = w.heap.size
  block : ∀ k, k ≠ b → w'.heap[k]? = w.heap[k]?
theorem turned_one {w w' : World} {b : Nat} (h : w.mapTurned w' b) : One b w w' := by
  obtain ⟨es, clock, es', clock', hb, rfl⟩ := h
  refine ⟨rfl, rfl, rfl, by simp [ChangeMaps.setBlock], fun k hk => ?_⟩
  exact heap_setBlock_other hb _ hk
theorem MapV.store {R : Value → Option (DataW Unit × List MemPlace)} {dat : Fl → DataW Unit} {w : World} {b : Nat} {l : List Fl} {sel : Fl → Bool} (hs : Sorted l) (hl : l.length ≤ 1000000) (h : MapV R dat w b (get sel l)) {t e : TypeId} (ht : (Try.prog).underlying t = some (.map 9 e)) (f : Fl) (hn : f.f0.size ≤ 9223372036854775807) (v : Value) (hv : R v = some (dat f, [])) :
    ∃ w', (Instr.mapUpdate t (.map (some b)) (.string f.f0) v).run Try.prog w = .ok () w' ∧ One b w w' ∧ MapV R dat w' b (upd (get sel l) (nmL f) (some f)) := by
  obtain ⟨D, m, ho, hx⟩ := h
  have hsz := MapV.size hs ho hx
  have hle := List.length_filter_le sel l
  obtain ⟨w', hrun, ho', ht'⟩ := (tight ho).store (Maps.string_keyed Try.underlying9) ht (by unfold maxLen; omega) (WideMaps.keyOf_string_mk Try.underlying9 (s := f.f0) (by unfold maxLen; omega)) hv
  refine ⟨w', hrun, turned_one ht', _, _, ho', fun k => ?_⟩
  have hkey : WideAt.IsKeyLit (.string f.f0.data.toList) := (Maps.string_keyed Try.underlying9).key (WideMaps.keyOf_string_mk Try.underlying9 (s := f.f0) (by unfold maxLen; omega))
  unfold upd
  by_cases hk : nmL f = k
  · subst hk
    rw [if_pos rfl]
    refine ⟨fun f' e => ?_, fun e => by simp at e⟩
    obtain rfl := Option.some.inj e
    exact ⟨Maps.has_put_same ho.isMap hkey _, fun z => Maps.atKey_put_same ho.isMap hkey _ z⟩
  · rw [if_neg hk]
    have hne : (Lit.string k) ≠ .string f.f0.data.toList := ne_str hk
    exact ⟨fun f' e => ⟨(Maps.has_put_other hne _).trans ((hx k).1 f' e).1, fun z => (Maps.atKey_put_other hne _ z).trans (((hx k).1 f' e).2 z)⟩, fun e => (Maps.has_put_other hne _).trans ((hx k).2 e)⟩
theorem MapV.drop {R : Value → Option (DataW Unit × List MemPlace)} {dat : Fl → DataW Unit} {w : World} {b : Nat} {g : List UInt8 → Option Fl} (h : MapV R dat w b g) {t e : TypeId} (ht : (Try.prog).underlying t = some (.map 9 e)) (n : ByteArray) (hn : n.size ≤ 9223372036854775807) (ty : TypeId) :
    ∃ w', (Builtin.delete_ #[t, 9] ty #[.map (some b), .string n]).run Try.prog w = .ok (.tuple #[]) w' ∧ One b w w' ∧ MapV R dat w' b (upd g n.data.toList none) := by
  obtain ⟨D, m, ho, hx⟩ := h
  obtain ⟨w', hrun, ho', ht'⟩ := ho.drop (Maps.string_keyed Try.underlying9) ht (WideMaps.keyOf_string_mk Try.underlying9 (s := n) (by unfold maxLen; omega)) ty
  refine ⟨w', hrun, turned_one ht', _, _, ho', fun k => ?_⟩
  unfold upd
  by_cases hk : n.data.toList = k
  · subst hk
    rw [if_pos rfl]
    exact ⟨fun f' e => by simp at e, fun _ => Maps.has_del_same⟩
  · rw [if_neg hk]
    have hne : (Lit.string k) ≠ .string n.data.toList := ne_str hk
    exact ⟨fun f' e => ⟨(Maps.has_del_other hne).trans ((hx k).1 f' e).1, fun z => (Maps.atKey_del_other hne z).trans (((hx k).1 f' e).2 z)⟩, fun e => (Maps.has_del_other hne).trans ((hx k).2 e)⟩
theorem MapV.len {w : World} {b : Nat} {l : List Fl} {sel : Fl → Bool} {R : Value → Option (DataW Unit × List MemPlace)} {dat : Fl → DataW Unit} (hs : Sorted l) (h : MapV R dat w b (get sel l)) {t e : TypeId} (ht : (Try.prog).underlying t = some (.map 9 e)) (ty : TypeId) :
    (Builtin.len_ #[t] ty #[.map (some b)]).run Try.prog w = .ok (.int .i64 (l.filter sel).length) w := by
  obtain ⟨D, m, ho, hx⟩ := h
  rw [ho.len ht ty, MapV.size hs ho hx]
theorem MapV.congr {R : Value → Option (DataW Unit × List MemPlace)} {dat : Fl → DataW Unit} {w : World} {b : Nat} {g g' : List UInt8 → Option Fl} (h : MapV R dat w b g) (e : ∀ k, g' k = g k) : MapV R dat w b g' := by
  obtain ⟨D, m, ho, hx⟩ := h
  exact ⟨D, m, ho, fun k => by rw [e k]; exact hx k⟩
end Go.Proofs.Ytonhfcjldbohbaa.Fi
