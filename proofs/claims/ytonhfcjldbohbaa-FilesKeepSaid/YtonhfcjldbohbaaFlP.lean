/- files: Do, Far; any calls, plain. -/
import Derived.Test.YtonhfcjldbohbaaFlN
import Derived.Test.YtonhfcjldbohbaaPAx10
import Derived.Sort.Walk0
namespace Go.Proofs.Ytonhfcjldbohbaa.Fi
open Go Go.RowKit Go.ChangeMaps Go.MapKept Go.Proofs.Ytonhfcjldbohbaa.PA Go.Proofs.YtonhfcjldbohbaaW.PrintWords Go.Proofs.YtonhfcjldbohbaaW.PrintLast Go.Proofs.YtonhfcjldbohbaaW.PrintMore Go.Proofs.Ytonhfcjldbohbaa.Lx Go.Proofs.Ytonhfcjldbohbaa.M04 Go.Proofs.Ytonhfcjldbohbaa.Pl
set_option linter.unusedVariables false
set_option linter.unusedSimpArgs false

abbrev Act13 := S43
/-! ### Far -/
def FarOk (l : List Act13) : Prop := l.length ≤ 100 ∧ ∀ a ∈ l, a.f1.size ≤ 300 ∧ 0 ≤ a.f0 ∧ a.f0 ≤ 1
theorem far_loop (l : List Act13) : ∀ (d i : Nat), l.length - i = d → i ≤ l.length → l.length ≤ 100 → ∃ k b, cupellaw13_Far.l0 k l (i : Int) = some b ∧ (b = false → ∀ a ∈ l.drop i, a.f1.size ≤ 300 ∧ 0 ≤ a.f0 ∧ a.f0 ≤ 1) := by
  intro d
  induction d with
  | zero =>
    intro i hd hi hl
    refine ⟨1, false, ?_, fun _ a ha => ?_⟩
    · rw [cupellaw13_Far.l0, if_neg (by omega)]
    · rw [List.drop_eq_nil_of_le (by omega)] at ha
      simp at ha
  | succ d ih =>
    intro i hd hi hl
    have hlt : i < l.length := by omega
    obtain ⟨k, b, hk, hb⟩ := ih (i + 1) (by omega) (by omega) hl
    have hw : wrap64 ((i : Int) + 1) = ((i + 1 : Nat) : Int) := by unfold wrap64; omega
    have hrd : rd_T43 l (i : Int) = l[i] := by simp [rd_T43, List.getD_eq_getElem?_getD, List.getElem?_eq_getElem hlt]
    have hdrop : l.drop i = l[i] :: l.drop (i + 1) := List.drop_eq_getElem_cons hlt
    have key : (if (l[i].f1.size : Int) > 300 then (some true) else (if l[i].f0 < 0 then (some true) else (if l[i].f0 > 1 then (some true) else (cupellaw13_Far.l0 k l (wrap64 ((i : Int) + 1)))))) = some (if (l[i].f1.size : Int) > 300 then true else if l[i].f0 < 0 then true else if l[i].f0 > 1 then true else b) := by
      rw [hw, hk]
      split
      · rfl
      · split
        · rfl
        · split <;> rfl
    by_cases h1 : (l[i].f2.size : Int) > 300 ∧ (l[i].f2.size : Int) ≤ 65536
    · refine ⟨k + 1, true, ?_, fun e => by cases e⟩
      rw [cupellaw13_Far.l0, if_pos (by omega), if_pos (by omega), hrd, if_pos h1.1, if_pos h1.2]
    · refine ⟨k + 1, (if (l[i].f1.size : Int) > 300 then true else if l[i].f0 < 0 then true else if l[i].f0 > 1 then true else b), ?_, ?_⟩
      · rw [cupellaw13_Far.l0, if_pos (by omega), if_pos (by omega), hrd]
        by_cases h2 : (l[i].f2.size : Int) > 300
        · rw [if_pos h2, if_neg (fun e => h1 ⟨h2, e⟩)]; exact key
        · rw [if_neg h2]; exact key
      · intro e a ha
        rw [hdrop] at ha
        split at e
        · cases e
        · split at e
          · cases e
          · split at e
            · cases e
            · rcases List.mem_cons.1 ha with rfl | ha
              · exact ⟨by omega, by omega, by omega⟩
              · exact hb e a ha
theorem far_ex (l : List Act13) : ∃ k b, cupellaw13_Far.f k l = some b ∧ (b = false → FarOk l) := by
  by_cases h : l.length ≤ 100
  · obtain ⟨k, b, hk, hb⟩ := far_loop l _ 0 rfl (by omega) h
    refine ⟨k, b, ?_, fun e => ⟨h, fun a ha => hb e a (by simpa using ha)⟩⟩
    unfold cupellaw13_Far.f
    rw [if_neg (by omega)]; exact hk
  · refine ⟨0, true, ?_, fun e => by cases e⟩
    unfold cupellaw13_Far.f
    rw [if_pos (by omega)]

/-! ### Do -/
def doT (T : Tb) (a : Act13) : Tb × Int := if a.f0 = 0 then putT T a.f1 a.f2 a.f3 else dropT T a.f1
def vA (a : Act13) : Value := .agg #[.int .i64 a.f0, .string a.f1, .string a.f2, .int .i64 a.f3]
set_option maxHeartbeats 4000000 in
set_option maxRecDepth 100000 in
theorem do_any {B : Nat} {S : Nat → Prop} {t : Nat} {T : Tb} {w : World} (hB : B ≤ w.heap.size) (h : TB B S t T w) (hlen : T.l.length < 1000000) (a : Act13) (hn : a.f1.size ≤ 300) :
    Calls Try.prog 17 #[.pointer (some ⟨t, 0, none⟩), vA a] w (PutPost B S t w (doT T a)) := by
  unfold vA doT
  have H := Aside0.mk h
  have hbw : Below w.heap.size w (w.alloc (.cells #[.int .i64 a.f0, .string a.f1, .string a.f2, .int .i64 a.f3] 43)) := (Below.refl _ w).alloc (Nat.le_refl _) _
  have HBW := Aside0.mk hbw
  have hzB : B ≤ (w.alloc (.cells #[.int .i64 a.f0, .string a.f1, .string a.f2, .int .i64 a.f3] 43)).heap.size := Nat.le_trans hB hbw.size
  have HZB := Aside0.mk hzB
  have hch : ∀ w', Ch B S (w.alloc (.cells #[.int .i64 a.f0, .string a.f1, .string a.f2, .int .i64 a.f3] 43)) w' → Ch B S w w' := fun w' h => (Ch.of_below S hbw hB).trans h (fun x hx => .inl hx)
  have HCH := Aside0.mk hch
  clear h hbw hzB hch
  by_cases h0 : a.f0 = 0
  · rw [if_pos h0]
    have d0 : (a.f0 == 0) = true := by simpa using h0
    clear h0
    go_enter Try.func17, Try.ntmps17
    go_wp2_with fail
    refine (put_any HZB.out (H.out.below HBW.out) hlen a.f1 a.f2 a.f3 (by omega)).mono ?_
    rintro e w3 ⟨rfl, hT, hb⟩
    have HT := Aside0.mk hT
    have HB := Aside0.mk hb
    clear hT hb
    go_wp2
    go_ret
    exact ⟨rfl, HT.out, HCH.out _ HB.out⟩
  · rw [if_neg h0]
    have d0 : (a.f0 == 0) = false := by simpa using h0
    clear h0
    go_enter Try.func17, Try.ntmps17
    go_wp2_with fail
    refine (drop_any HZB.out (H.out.below HBW.out) hlen a.f1 (by omega)).mono ?_
    rintro e w3 ⟨rfl, hT, hb⟩
    have HT := Aside0.mk hT
    have HB := Aside0.mk hb
    clear hT hb
    go_wp2
    go_ret
    exact ⟨rfl, HT.out, HCH.out _ HB.out⟩
/-- Behind any calls. -/
def actsT (T : Tb) (l : List Act13) : Tb := l.foldl (fun T a => (doT T a).1) T
theorem actsT_snoc (T : Tb) (l : List Act13) (a : Act13) : actsT T (l ++ [a]) = (doT (actsT T l) a).1 := by simp [actsT]
theorem doT_len (T : Tb) (a : Act13) : (doT T a).1.l.length ≤ T.l.length + 1 := by
  unfold doT
  split
  · exact putT_len _ _ _ _
  · exact dropT_len _ _
theorem actsT_len : ∀ (l : List Act13) (T : Tb), (actsT T l).l.length ≤ T.l.length + l.length
  | [], _ => Nat.le_refl _
  | a :: l, T => by
    have h1 := actsT_len l (doT T a).1
    have h2 := doT_len T a
    have e : actsT T (a :: l) = actsT (doT T a).1 l := rfl
    rw [e, List.length_cons]
    omega
/-- Each has been turned. -/
def Pos (T : Tb) : Prop := 0 ≤ T.rev ∧ ∀ f ∈ T.l, 1 ≤ f.f3
theorem pos_set {T : Tb} (h : Pos T) {f : Fl} (hf : 1 ≤ f.f3) (most : Int) : Pos ⟨most, T.rev + 1, setL f T.l⟩ := ⟨by have := h.1; show 0 ≤ T.rev + 1; omega, fun x hx => (mem_setL hx).elim (fun e => e ▸ hf) (h.2 x)⟩
theorem pos_put {T : Tb} (h : Pos T) (n s : ByteArray) (tier : Int) : Pos (putT T n s tier).1 := by
  have h0 := h.1
  unfold putT
  split
  · exact h
  · split
    · split
      · exact h
      · split
        · exact h
        · exact pos_set h (by show 1 ≤ T.rev + 1; omega) _
    · rename_i f hf
      split
      · exact h
      · split
        · exact h
        · refine pos_set h ?_ _
          show 1 ≤ (if (f.f1.toList == s.toList) = true then f.f3 else T.rev + 1)
          have := h.2 f (get_some hf).1
          split <;> omega
theorem pos_drop {T : Tb} (h : Pos T) (n : ByteArray) : Pos (dropT T n).1 := by
  have h0 := h.1
  unfold dropT
  split
  · exact h
  · split
    · exact h
    · exact pos_set h (by show 1 ≤ T.rev + 1; omega) _
theorem pos_do {T : Tb} (h : Pos T) (a : Act13) : Pos (doT T a).1 := by
  unfold doT
  split
  · exact pos_put h _ _ _
  · exact pos_drop h _
theorem pos_acts : ∀ (l : List Act13) {T : Tb}, Pos T → Pos (actsT T l)
  | [], _, h => h
  | a :: l, T, h => pos_acts l (pos_do h a)
theorem since_sub {T : Tb} {p q : Int} (h : p ≤ q) : ∀ x ∈ sinceF T q, x ∈ sinceF T p := fun x hx => by
  unfold sinceF at hx ⊢
  obtain ⟨f, hf, rfl⟩ := List.mem_map.1 hx
  obtain ⟨h1, h2⟩ := List.mem_filter.1 hf
  refine List.mem_map.2 ⟨f, List.mem_filter.2 ⟨h1, ?_⟩, rfl⟩
  simp at h2 ⊢
  omega
theorem since_inc {T : Tb} (h : Sorted T.l) (q : Int) : (sinceF T q).Pairwise (fun a b => a.data.toList < b.data.toList) :=
  List.pairwise_map.2 (List.Pairwise.sublist List.filter_sublist h)
theorem since_step {T : Tb} (h : Sorted T.l) (q : Int) (i : Nat) (hi : i + 1 < (sinceF T q).length) : Op.bytesLess ((sinceF T q)[i].toList) ((sinceF T q)[i + 1].toList) = true := by
  rw [bytesLess_eq, Lib.toList_data, Lib.toList_data]
  exact decide_eq_true (List.pairwise_iff_getElem.1 (since_inc h q) i (i + 1) (by omega) hi (by omega))
theorem since_all {T : Tb} (h : Pos T) (q : Int) (hq : q ≤ 0) : sinceF T q = T.l.map fun f => f.f0 := by
  unfold sinceF
  rw [List.filter_eq_self.2]
  intro f hf
  have := h.2 f hf
  simp; omega
theorem since_now {T : Tb} (h : TOk T) : sinceF T T.rev = [] := by
  unfold sinceF
  rw [List.filter_eq_nil_iff.2]
  · rfl
  · intro f hf
    have := (h.el f hf).2.2.2.2.2
    simp; omega
theorem find_mem {T : Tb} (h : Sorted T.l) {f : Fl} (hf : f ∈ T.l) : (findT T f.f0).2 = if here f = true then 0 else 3 := by
  unfold findT
  by_cases hh : here f = true
  · have : get here T.l f.f0.data.toList = some f := get_of_mem h hf hh
    rw [this, if_pos hh]
  · have : get here T.l f.f0.data.toList = none := by
      cases hg : get here T.l f.f0.data.toList with
      | none => rfl
      | some g =>
        obtain ⟨g1, g2, g3⟩ := get_some hg
        have e1 := get_of_mem (sel := fun _ => true) h hf rfl
        have e2 := get_of_mem (sel := fun _ => true) h g1 rfl
        rw [show nmL g = nmL f from g2] at e2
        rw [e1] at e2
        obtain rfl := Option.some.inj e2
        exact absurd g3 hh
    rw [this, if_neg hh]
def cntF (T : Tb) (i : Nat) : Nat := ((T.l.take i).filter here).length
theorem cntF_succ (T : Tb) (i : Nat) (hi : i < T.l.length) : cntF T (i + 1) = cntF T i + if here T.l[i] = true then 1 else 0 := by
  unfold cntF
  rw [List.take_succ_eq_append_getElem hi, List.filter_append, List.length_append]
  by_cases h : here T.l[i] = true <;> simp [h]
end Go.Proofs.Ytonhfcjldbohbaa.Fi
