/- From an argument's reading to the printed kinds: each kind's cells out of 'DataW.trod', with what the reading says of its numbers and texts. -/
import Derived.Test.YtonhfcjldbohbaaWWords
import Derived.Deep.Slices
import Derived.ChangeArms
import Derived.ChangeSame
import Derived.SizedLaws
import Derived.ChangeSlices
set_option linter.unusedVariables false
namespace Go.Proofs.YtonhfcjldbohbaaW.PrintWords
open Go.ChangeShapes Go.WideShapes Go.Deep

/-- Whatever reads as a datum of type t holds the cells of kind d, of a value of which G holds. -/
def Opens {α : Type} (P : Program) (t : TypeId) (d : Kd α) (G : α → Prop) : Prop :=
  ∀ (H : Type) (enc : TypeId × Value → H) (w : World) (base : Nat) (spare : Nat → Bool) (held : Bool) (fuel : Nat) (cs : List Value) (x : DataW H × List MemPlace),
    DataW.trod enc P w base spare held fuel t cs = some x → ∃ a, d.K w a cs ∧ G a

theorem opens_int {P : Program} {t : TypeId} {k : IntKind} (ht : P.underlying t = some (.int k)) : Opens P t (Kd.int k) (fun n => (Lit.int k n).wf = true) := by
  intro H enc w base spare held fuel cs x h
  obtain ⟨n, rfl, _, hw⟩ := DataW.trod_int ht h
  exact ⟨n, rfl, hw⟩
theorem opens_string {P : Program} {t : TypeId} (ht : P.underlying t = some .string) : Opens P t Kd.string (fun s => s.size ≤ 9223372036854775807) := by
  intro H enc w base spare held fuel cs x h
  obtain ⟨s, rfl, _, hw⟩ := DataW.trod_string ht h
  exact ⟨s, rfl, by simpa only [maxLen] using hw⟩
theorem opens_slice {α : Type} {P : Program} {t e : TypeId} {d : Kd α} {G : α → Prop} (ht : P.underlying t = some (.slice e)) (hs : P.cellsOf e = d.sz) (hd : Opens P e d G) :
    Opens P t (Kd.slice e d) (fun l => ∀ x ∈ l, G x) := by
  intro H enc w base spare held fuel cs x h
  rcases open_slice ht h with ⟨rfl, _⟩ | ⟨a, len, cap, m, n, D, Pl, rfl, _, hl, hm, hmm, _, hi⟩
  · exact ⟨[], ⟨none, 0, rfl, Nat.le_refl _, Kd.C_nil d w⟩, by simp⟩
  · have hlm : len ≤ m := by rw [hmm]; split <;> omega
    have hx : ∀ i, i < len → ∃ y, G y ∧ ∃ c, c.length = d.sz ∧ d.K w y c ∧ ∀ j u, c[j]? = some u → w.cell? (a.add (i * d.sz + j)) = some u := by
      intro i hlt
      obtain ⟨cs', hc, ht'⟩ := hi i (by omega)
      obtain ⟨y, hK, hG⟩ := hd H enc w base spare held n cs' _ ht'
      obtain ⟨_, hcl, hat⟩ := World.cells?_some hc
      refine ⟨y, hG, cs', d.K_len hK, hK, fun j u hu => ?_⟩
      have hjl : j < cs'.length := (List.getElem?_eq_some_iff.1 hu).1
      have := hat j (by omega)
      rw [add_add, hs] at this
      rw [this, hu]
    rcases Nat.eq_zero_or_pos len with h0 | h0
    · subst h0
      exact ⟨[], ⟨some a, cap, rfl, Nat.zero_le _, ⟨rfl, by simp, fun hp => absurd hp (by simp)⟩⟩, by simp⟩
    have : Inhabited α := ⟨(hx 0 h0).choose⟩
    obtain ⟨f, hf⟩ := choose_lt hx
    refine ⟨(List.range len).map f, ⟨some a, cap, by simp, by simpa using hl, by simp, ?_, fun _ => ⟨a, rfl, fun j p hp => ?_⟩⟩, ?_⟩
    · simp only [maxLen] at hm; simp; omega
    · obtain ⟨hj, hp'⟩ := List.getElem?_eq_some_iff.1 hp
      simp at hj hp'
      obtain ⟨_, c, h1, h2, h3⟩ := hf j hj
      rw [hp'] at h2
      exact ⟨c, h1, h2, h3⟩
    · intro y hy
      obtain ⟨i, hi1, rfl⟩ := List.mem_map.1 hy
      exact (hf i (List.mem_range.1 hi1)).1

/-- The same for a struct's fields from an offset on. -/
def FOpens {α : Type} (P : Program) (off : Nat) (fs : List Field) (d : Kd α) (G : α → Prop) : Prop :=
  ∀ (H : Type) (enc : TypeId × Value → H) (w : World) (base : Nat) (spare : Nat → Bool) (held : Bool) (n : Nat) (cs : List Value) (xs : List (DataW H × List MemPlace)),
    xs.length = fs.length → (∀ (i : Nat) (f : Field), fs[i]? = some f → DataW.trod enc P w base spare held n f.type ((cs.drop f.offset).take (P.cellsOf f.type)) = xs[i]?) →
    cs.length = off + d.sz → ∃ a, d.K w a (cs.drop off) ∧ G a
theorem fopens_last {α : Type} {P : Program} {off : Nat} {f : Field} {d : Kd α} {G : α → Prop} (ho : f.offset = off) (hs : P.cellsOf f.type = d.sz) (hd : Opens P f.type d G) : FOpens P off [f] d G := by
  intro H enc w base spare held n cs xs hl hx hc
  have h := hx 0 f rfl
  obtain ⟨y, hy⟩ : ∃ y, xs[0]? = some y := ⟨_, List.getElem?_eq_getElem (by rw [hl]; simp)⟩
  rw [hy, ho, hs, List.take_of_length_le (by rw [List.length_drop]; omega)] at h
  exact hd H enc w base spare held n _ _ h
theorem fopens_cons {α β : Type} {P : Program} {off : Nat} {f : Field} {r : List Field} {d : Kd α} {d' : Kd β} {G : α → Prop} {G' : β → Prop} (ho : f.offset = off) (hs : P.cellsOf f.type = d.sz) (hd : Opens P f.type d G)
    (hr : FOpens P (off + d.sz) r d' G') : FOpens P off (f :: r) (Kd.pair d d') (fun x => G x.1 ∧ G' x.2) := by
  intro H enc w base spare held n cs xs hl hx hc
  have h := hx 0 f rfl
  match xs, hl with
  | y :: ys, hl =>
    simp only [List.getElem?_cons_zero] at h
    rw [ho, hs] at h
    obtain ⟨a, hK, hG⟩ := hd H enc w base spare held n _ _ h
    have hc' : cs.length = off + d.sz + d'.sz := by rw [hc]; exact (Nat.add_assoc _ _ _).symm
    obtain ⟨b, hK', hG'⟩ := hr H enc w base spare held n cs ys (by simpa using hl) (fun i g hg => by have := hx (i + 1) g (by simpa using hg); simpa using this) hc'
    refine ⟨(a, b), ⟨_, _, ?_, hK, hK'⟩, hG, hG'⟩
    rw [← List.drop_drop, List.take_append_drop]
theorem opens_struct {α β : Type} {P : Program} {t : TypeId} {fs : Array Field} {d : Kd α} {G : α → Prop} (f : β → α) (g : α → β) (hfg : ∀ a, f (g a) = a) (ht : P.underlying t = some (.struct fs)) (hs : P.cellsOf t = d.sz)
    (hd : FOpens P 0 fs.toList d G) : Opens P t (Kd.iso d f) (fun b => G (f b)) := by
  intro H enc w base spare held fuel cs x h
  obtain ⟨xs, n, _, _, hc, hl, hf⟩ := DataW.trod_struct ht h
  obtain ⟨a, hK, hG⟩ := hd H enc w base spare held n cs xs (by simpa using hl) (fun i g hg => hf i g (by simpa using hg)) (by rw [hc, hs]; omega)
  refine ⟨g a, ?_, by show G (f (g a)); rw [hfg]; exact hG⟩
  show d.K w (f (g a)) cs
  rw [hfg]
  simpa using hK

/-- A slice argument, opened. -/
theorem open_arg_slice {α : Type} {H : Type} {enc : TypeId × Value → H} {P : Program} {w : World} {base : Nat} {spare : Nat → Bool} {held : Bool} {t e : TypeId} {d : Kd α} {G : α → Prop} {A : Option Addr} {len cap : Nat} {x : DataW H} {ps : List MemPlace}
    (ho : Opens P t (Kd.slice e d) (fun l => ∀ x ∈ l, G x)) (h : DataW.Trod enc P w base spare held t (.slice A len cap) x ps) :
    ∃ l : List α, len = l.length ∧ d.C w A l.length l ∧ l.length ≤ cap ∧ ∀ x ∈ l, G x := by
  obtain ⟨fuel, hf⟩ := h
  obtain ⟨l, ⟨A', c, he, hl, hC⟩, hG⟩ := ho H enc w base spare held fuel _ _ hf
  simp [Value.cells] at he
  obtain ⟨rfl, rfl, rfl⟩ := he
  exact ⟨l, rfl, hC, hl, hG⟩
/-- A slice argument is no longer than its weight allows. -/
theorem sized_len {H : Type} {enc : TypeId × Value → H} {P : Program} {W : World} {base : Nat} {spare : Nat → Bool} {held : Bool} {t e : TypeId} {a : Option Addr} {len cap : Nat} {d : DataW H} {ps : List MemPlace} {ts : List TypeId} {ds : List (DataW H)} {j : Nat}
    (hsz : (DataW.weightsEach P ts ds).all (· ≤ reachBytes) = true) (ht : ts[j]? = some t) (hd : ds[j]? = some d) (hu : P.underlying t = some (.slice e)) {B : Nat} (hB : P.bytesOf e = B)
    (h : DataW.Trod enc P W base spare held t (.slice a len cap) d ps) : len * B ≤ 140737488351232 := by
  obtain ⟨fuel, hf⟩ := h
  rcases open_slice hu hf with ⟨hcs, _⟩ | ⟨x, l, c, m, n, D, Pl, hcs, _, hl, _, hm, hx, _⟩
  · simp [Value.cells] at hcs
    obtain ⟨rfl, rfl, rfl⟩ := hcs
    simp
  · simp [Value.cells] at hcs
    obtain ⟨rfl, rfl, rfl⟩ := hcs
    obtain ⟨hx, _⟩ := Prod.mk.inj hx
    subst hx
    have z := sized_slice hsz ht hd hu
    rw [hB] at z
    simp only [List.length_map, List.length_range] at z
    exact Nat.le_trans (Nat.mul_le_mul_right _ (Nat.le_add_right _ _)) z
end Go.Proofs.YtonhfcjldbohbaaW.PrintWords
