/- files, second part: the table behind its pointer; New, right, Rev, Find, Put, Drop. -/
import Derived.Test.YtonhfcjldbohbaaFlA
import Derived.Laws.MakeOwn
import Derived.Deep.OwnRows
import Derived.RegionTactic
import Derived.StillTactics
import Derived.StillTailTactics
import Derived.RangeFuncBox
import Derived.WalkSpells
namespace Go.Proofs.Ytonhfcjldbohbaa.Fi
open Go Go.RowKit Go.ChangeMaps Go.MapKept Go.Proofs.Ytonhfcjldbohbaa.PA Go.Proofs.YtonhfcjldbohbaaW.PrintWords Go.Proofs.YtonhfcjldbohbaaW.PrintLast Go.Proofs.YtonhfcjldbohbaaW.PrintMore
set_option linter.unusedVariables false
set_option linter.unusedSimpArgs false

/-- Only the blocks of S, and new ones, are others. -/
structure Ch (B : Nat) (S : Nat → Prop) (w w' : World) : Prop where
  below : Below B w w'
  keep : ∀ k, k < w.heap.size → ¬ S k → w'.heap[k]? = w.heap[k]?
theorem Ch.refl (B : Nat) (S : Nat → Prop) (w : World) : Ch B S w w := ⟨Below.refl _ _, fun _ _ _ => rfl⟩
theorem Ch.trans {B : Nat} {S S' : Nat → Prop} {a b c : World} (h : Ch B S a b) (k : Ch B S' b c) (hs : ∀ x, S' x → S x ∨ a.heap.size ≤ x) : Ch B S a c :=
  ⟨h.below.trans k.below, fun x hx hn => (k.keep x (Nat.lt_of_lt_of_le hx h.below.size) (fun e => (hs x e).elim hn (fun e' => by omega))).trans (h.keep x hx hn)⟩
theorem Ch.alloc {B : Nat} {S : Nat → Prop} {a b : World} (h : Ch B S a b) (hB : B ≤ b.heap.size) (o : Obj) : Ch B S a (b.alloc o) :=
  ⟨h.below.alloc hB o, fun x hx hn => (Below.heap_alloc b o x (Nat.lt_of_lt_of_le hx h.below.size)).trans (h.keep x hx hn)⟩
theorem Ch.setCell {B : Nat} {S : Nat → Prop} {a b : World} (h : Ch B S a b) {p : Addr} (hB : B ≤ p.block) (hp : S p.block ∨ a.heap.size ≤ p.block) (u : Value) : Ch B S a (b.setCell p u) :=
  ⟨h.below.setCell hB u, fun x hx hn => (Below.heap_setCell b p u x (fun e => by subst e; exact hp.elim hn (fun e' => by omega))).trans (h.keep x hx hn)⟩
theorem Ch.drew {B : Nat} {S : Nat → Prop} {a b : World} (h : Ch B S a b) : Ch B S a b.drew := ⟨h.below.drew, h.keep⟩
theorem Ch.drewN {B : Nat} {S : Nat → Prop} {a b : World} (h : Ch B S a b) (n : Nat) : Ch B S a (b.drewN n) := ⟨pw_below_drewN h.below n, h.keep⟩
theorem Ch.one {B : Nat} {S : Nat → Prop} {a b c : World} {m : Nat} (h : Ch B S a b) (k : One m b c) (hB : B ≤ m) (hs : S m ∨ a.heap.size ≤ m) : Ch B S a c :=
  ⟨⟨k.os.trans h.below.os, k.tape.trans h.below.tape, k.output.trans h.below.output, by rw [k.size]; exact h.below.size, fun x hx => (k.block x (by omega)).trans (h.below.block x hx)⟩, fun x hx hn => (k.block x (fun e => by subst e; exact hs.elim hn (fun e => by omega))).trans (h.keep x hx hn)⟩
theorem Ch.of_below {B : Nat} {a b : World} (S : Nat → Prop) (h : Below a.heap.size a b) (hB : B ≤ a.heap.size) : Ch B S a b := ⟨h.mono hB, fun x hx _ => h.block x hx⟩
theorem Ch.mono {B : Nat} {S S' : Nat → Prop} {a b : World} (h : Ch B S a b) (hs : ∀ x, S x → S' x ∨ a.heap.size ≤ x) : Ch B S' a b :=
  ⟨h.below, fun x hx hn => h.keep x hx (fun e => (hs x e).elim hn (fun e' => by omega))⟩
theorem blk_set {w : World} {g t : Nat} {cs : Array Value} (h : w.heap[g]? = some (.cells cs t (0, 0))) (i : Nat) (u : Value) : (w.setCell ⟨g, i, none⟩ u).heap[g]? = some (.cells (cs.setIfInBounds i u) t (0, 0)) := by
  simp [World.setCell, Array.getElem?_modify, h]

/-! ### what may be a file -/
def nameOk (n : ByteArray) : Bool := (lex_Name.f n).getD false
def rightV (n s : ByteArray) (tier : Int) : Int := if n.size ≤ 32 ∧ nameOk n = true ∧ 0 ≤ tier ∧ tier ≤ 2 then (if s.size > 65536 then 5 else 0) else 1
theorem lex_Name_some (n : ByteArray) (h : n.size ≤ 1000000000) : lex_Name.f n = some (nameOk n) := by
  have : ∃ b, lex_Name.f n = some b := by
    unfold lex_Name.f lex_Lex.f
    rw [if_pos h]
    simp only [Option.bind_some]
    split
    · split
      · split
        · exact ⟨_, rfl⟩
        · exact ⟨_, rfl⟩
      · rename_i h1 h2; exact absurd (by omega) h2
    · exact ⟨_, rfl⟩
  obtain ⟨b, hb⟩ := this
  unfold nameOk
  rw [hb]; rfl
theorem right_f (n s : ByteArray) (tier : Int) : files_right.f 1 n s tier = some (rightV n s tier) := by
  unfold files_right.f rightV
  have j1 : files_right.j0 1 s true = some 1 := rfl
  have j0 : files_right.j0 1 s false = if s.size > 65536 then some 5 else some 0 := by
    show (if false = true then (some 1) else (if (s.size : Int) > 65536 then (some 5) else (some 0))) = _
    rw [if_neg Bool.false_ne_true]
    by_cases h : s.size > 65536
    · rw [if_pos h, if_pos (by omega)]
    · rw [if_neg h, if_neg (by omega)]
  by_cases h : n.size ≤ 32
  · rw [if_neg (by omega), lex_Name_some n (by omega)]
    simp only [Option.bind_some]
    by_cases h1 : nameOk n = true
    · rw [if_pos h1]
      by_cases h2 : tier < 0
      · rw [if_pos h2, j1, if_neg (by omega)]
      · rw [if_neg h2]
        by_cases h3 : tier ≤ 2
        · rw [decide_eq_false (by omega), j0]
          have e : (n.size ≤ 32 ∧ nameOk n = true ∧ 0 ≤ tier ∧ tier ≤ 2) := ⟨h, h1, by omega, h3⟩
          rw [if_pos e]
          split <;> rfl
        · rw [decide_eq_true (by omega), j1, if_neg (by omega)]
    · rw [if_neg h1, j1, if_neg (fun e => h1 e.2.1)]
  · rw [if_pos (by omega), j1, if_neg (by omega)]
theorem right_any (n s : ByteArray) (tier : Int) (w : World) :
    Calls Try.prog 24 #[.string n, .string s, .int .i64 tier] w fun e w' => e = .returned (.int .i64 (rightV n s tier)) ∧ Below w.heap.size w w' :=
  files_right.calls 1 n s tier _ w (right_f n s tier)

/-! ### the table -/
structure TOk (T : Tb) : Prop where
  sorted : Sorted T.l
  most0 : 0 ≤ T.most
  most : T.most ≤ 1099511627776
  rev0 : 0 ≤ T.rev
  rev : T.rev ≤ T.most
  cnt : (T.l.filter here).length ≤ 64
  len : T.l.length ≤ 1000000
  el : ∀ f ∈ T.l, f.f0.size ≤ 1000000 ∧ f.f1.size ≤ 65536 ∧ 0 ≤ f.f2 ∧ f.f2 ≤ 2 ∧ 0 ≤ f.f3 ∧ f.f3 ≤ T.rev
def dI (f : Fl) : DataW Unit := .lit (.int .i64 f.f3)
structure TS (B : Nat) (S : Nat → Prop) (t bm bd : Nat) (T : Tb) (w : World) : Prop where
  ok : TOk T
  sB : ∀ k, S k → B ≤ k ∧ k < w.heap.size
  st : S t
  sm : S bm
  sd : S bd
  ne : bm ≠ bd
  ht : w.heap[t]? = some (.cells #[.int .i64 T.most, .int .i64 T.rev, .map (some bm), .map (some bd)] 63 (0, 0))
  hm : MapV elemF dF w bm (get here T.l)
  hd : MapV (plainElem Try.prog 3) dI w bd (get gone T.l)
/-- A table in its state. -/
def TB (B : Nat) (S : Nat → Prop) (t : Nat) (T : Tb) (w : World) : Prop := ∃ bm bd, TS B S t bm bd T w
theorem TS.heap {B : Nat} {S : Nat → Prop} {t bm bd : Nat} {T : Tb} {w w' : World} (h : TS B S t bm bd T w) (hz : w.heap.size ≤ w'.heap.size) (hk : ∀ k, S k → w'.heap[k]? = w.heap[k]?) : TS B S t bm bd T w' :=
  { h with
    sB := fun k hk' => ⟨(h.sB k hk').1, Nat.lt_of_lt_of_le (h.sB k hk').2 hz⟩
    ht := (hk t h.st).trans h.ht
    hm := h.hm.heap (hk bm h.sm)
    hd := h.hd.heap (hk bd h.sd) }
theorem TB.heap {B : Nat} {S : Nat → Prop} {t : Nat} {T : Tb} {w w' : World} (h : TB B S t T w) (hz : w.heap.size ≤ w'.heap.size) (hk : ∀ k, S k → w'.heap[k]? = w.heap[k]?) : TB B S t T w' := by
  obtain ⟨bm, bd, h⟩ := h
  exact ⟨bm, bd, h.heap hz hk⟩
theorem TS.nm {B : Nat} {S : Nat → Prop} {t bm bd : Nat} {T : Tb} {w : World} (h : TS B S t bm bd T w) : t ≠ bm := fun e => by
  obtain ⟨es, c, hb⟩ := h.hm.obj
  rw [← e, h.ht] at hb
  cases hb
theorem TS.nd {B : Nat} {S : Nat → Prop} {t bm bd : Nat} {T : Tb} {w : World} (h : TS B S t bm bd T w) : t ≠ bd := fun e => by
  obtain ⟨es, c, hb⟩ := h.hd.obj
  rw [← e, h.ht] at hb
  cases hb
theorem TB.below {B : Nat} {S : Nat → Prop} {t : Nat} {T : Tb} {w w' : World} (h : TB B S t T w) (hb : Below w.heap.size w w') : TB B S t T w' := by
  obtain ⟨bm, bd, h⟩ := h
  exact ⟨bm, bd, h.heap hb.size (fun k hk => hb.block k (h.sB k hk).2)⟩

set_option maxHeartbeats 4000000 in
set_option maxRecDepth 100000 in
theorem new_bad (most : Int) (hm : most < 0 ∨ 1099511627776 < most) (w : World) :
    Calls Try.prog 9 #[.int .i64 most] w fun e w' => e = .returned (.tuple #[.pointer none, .int .i64 1]) ∧ w' = w := by
  by_cases h : most < 0
  · have c1 : decide (most < 0) = true := decide_eq_true h
    clear h hm
    go_enter Try.func9, Try.ntmps9
    go_wp2
    go_returns
    exact ⟨rfl, rfl⟩
  · have c1 : decide (most < 0) = false := decide_eq_false h
    have c2 : decide (1099511627776 < most) = true := decide_eq_true (hm.resolve_left h)
    clear h hm
    go_enter Try.func9, Try.ntmps9
    go_wp2
    go_returns
    exact ⟨rfl, rfl⟩
def NewS (w : World) (k : Nat) : Prop := w.heap.size ≤ k ∧ k < w.heap.size + 3
set_option maxHeartbeats 4000000 in
set_option maxRecDepth 100000 in
theorem new_any (most : Int) (hm : 0 ≤ most ∧ most ≤ 1099511627776) (w : World) :
    Calls Try.prog 9 #[.int .i64 most] w fun e w' => e = .returned (.tuple #[.pointer (some ⟨w.heap.size + 2, 0, none⟩), .int .i64 0]) ∧ TB w.heap.size (NewS w) (w.heap.size + 2) ⟨most, 0, []⟩ w' ∧ Below w.heap.size w w' := by
  have c1 : decide (most < 0) = false := decide_eq_false (by omega)
  have c2 : decide (1099511627776 < most) = false := decide_eq_false (by omega)
  have hmm := @run_makeMap Try.prog
  go_enter Try.func9, Try.ntmps9
  go_wp2
  go_returns
  have hb1 : Below w.heap.size w (((w.alloc (.map #[] 0)).alloc (.map #[] 0)).alloc (.cells #[.int .i64 most, .int .i64 0, .map (some w.heap.size), .map (some (w.heap.size + 1))] 63)) := (((Below.refl _ w).alloc (Nat.le_refl _) _).alloc (by simp) _).alloc (by simp; omega) _
  refine ⟨rfl, ⟨w.heap.size, w.heap.size + 1, ?_⟩, hb1⟩
  refine { ok := ⟨List.Pairwise.nil, hm.1, hm.2, Int.le_refl _, hm.1, by simp, by simp, by simp⟩, sB := fun k hk => ⟨hk.1, by have := hk.2; simp; omega⟩, st := ⟨by omega, by omega⟩, sm := ⟨by omega, by omega⟩, sd := ⟨by omega, by omega⟩, ne := by omega, ht := ?_, hm := ?_, hd := ?_ }
  · have := heap_alloc_new ((w.alloc (.map #[] 0)).alloc (.map #[] 0)) (.cells #[.int .i64 most, .int .i64 0, .map (some w.heap.size), .map (some (w.heap.size + 1))] 63)
    simpa using this
  · exact ((MapV.new elemF dF w).heap ((Below.heap_alloc _ _ _ (by simp; omega)).trans (Below.heap_alloc _ _ _ (by simp)))).congr (fun k => rfl)
  · have := MapV.new (plainElem Try.prog 3) dI (w.alloc (.map #[] 0))
    rw [World.size_alloc] at this
    exact (this.heap (Below.heap_alloc _ _ _ (by simp))).congr (fun k => rfl)
theorem rev_any {B : Nat} {S : Nat → Prop} {t : Nat} {T : Tb} {w : World} (h : TB B S t T w) :
    Calls Try.prog 13 #[.pointer (some ⟨t, 0, none⟩)] w fun e w' => e = .returned (.int .i64 T.rev) ∧ w' = w := by
  obtain ⟨bm, bd, h⟩ := h
  have c1 : w.cell? ⟨t, 1, none⟩ = some (.int .i64 T.rev) := by rw [Lib.cell_of_heap h.ht]; rfl
  clear h
  go_enter Try.func13, Try.ntmps13
  go_wp2
  go_ret
  exact ⟨rfl, rfl⟩
theorem rev_nil (w : World) : Calls Try.prog 13 #[.pointer none] w fun e w' => e = .returned (.int .i64 0) ∧ w' = w := by
  go_enter Try.func13, Try.ntmps13
  go_wp2
  go_ret
  exact ⟨rfl, rfl⟩
end Go.Proofs.Ytonhfcjldbohbaa.Fi
