/- files, third part: Find, Put, Drop. -/
import Derived.Test.YtonhfcjldbohbaaFlB
namespace Go.Proofs.Ytonhfcjldbohbaa.Fi
open Go Go.RowKit Go.ChangeMaps Go.MapKept Go.Proofs.Ytonhfcjldbohbaa.PA Go.Proofs.YtonhfcjldbohbaaW.PrintWords Go.Proofs.YtonhfcjldbohbaaW.PrintLast Go.Proofs.YtonhfcjldbohbaaW.PrintMore
set_option linter.unusedVariables false
set_option linter.unusedSimpArgs false

abbrev nil0 : ByteArray := ⟨#[]⟩
def findT (T : Tb) (n : ByteArray) : Fl × Int := match get here T.l n.data.toList with
  | some f => (f, 0)
  | none => (⟨nil0, nil0, 0, 0, false⟩, 3)
def findV (T : Tb) (n : ByteArray) : Value := .tuple #[vF (findT T n).1, .int .i64 (findT T n).2]
set_option maxHeartbeats 4000000 in
set_option maxRecDepth 100000 in
theorem find_any {B : Nat} {S : Nat → Prop} {t : Nat} {T : Tb} {w : World} (h : TB B S t T w) (n : ByteArray) (hn : n.size ≤ 9223372036854775807) :
    Calls Try.prog 18 #[.pointer (some ⟨t, 0, none⟩), .string n] w fun e w' => e = .returned (findV T n) ∧ Below w.heap.size w w' := by
  obtain ⟨bm, bd, h⟩ := h
  have hlt := (h.sB t h.st).2
  have hlm := (h.sB bm h.sm).2
  have hm2 : ∀ o, MapV elemF dF (w.alloc o) bm (get here T.l) := fun o => h.hm.heap (Below.heap_alloc _ _ _ hlm)
  have c1 : ∀ o, (w.alloc o).cell? ⟨t, 2, none⟩ = some (.map (some bm)) := fun o => by rw [World.cell?_of_block (Below.heap_alloc w o t hlt), Lib.cell_of_heap h.ht]; rfl
  have c1 := c1 (.cells #[.string ⟨#[]⟩, .string ⟨#[]⟩, .int .i64 0, .int .i64 0] 32)
  have hlook := (hm2 (.cells #[.string ⟨#[]⟩, .string ⟨#[]⟩, .int .i64 0, .int .i64 0] 32)).look n hn
  clear hm2 h
  unfold findV findT
  cases hg : get here T.l n.data.toList with
  | none =>
    rw [hg] at hlook
    simp only [vF, Option.getD, Option.isSome] at hlook
    have HG := Aside0.mk hg
    clear hg
    go_enter Try.func18, Try.ntmps18
    go_wp2
    go_returns
    exact ⟨rfl, by repeat (first | exact Below.refl _ _ | (refine Below.alloc ?_ (by simp) _) | (refine Below.setCell ?_ (by simp) _) | apply Below.drew)⟩
  | some f =>
    rw [hg] at hlook
    simp only [vF, Option.getD, Option.isSome] at hlook
    have HG := Aside0.mk hg
    clear hg
    go_enter Try.func18, Try.ntmps18
    go_wp2
    go_returns
    exact ⟨rfl, by repeat (first | exact Below.refl _ _ | (refine Below.alloc ?_ (by simp) _) | (refine Below.setCell ?_ (by simp) _) | apply Below.drew)⟩

def putT (T : Tb) (n s : ByteArray) (tier : Int) : Tb × Int :=
  if rightV n s tier ≠ 0 then (T, rightV n s tier)
  else match get here T.l n.data.toList with
    | none => if 64 ≤ (T.l.filter here).length then (T, 4) else if T.most ≤ T.rev then (T, 6) else (⟨T.most, T.rev + 1, setL ⟨n, s, tier, T.rev + 1, false⟩ T.l⟩, 0)
    | some f => if (f.f1.toList == s.toList && f.f2 == tier) = true then (T, 0) else if T.most ≤ T.rev then (T, 6) else (⟨T.most, T.rev + 1, setL ⟨n, s, tier, if (f.f1.toList == s.toList) = true then f.f3 else T.rev + 1, false⟩ T.l⟩, 0)
def PutPost (B : Nat) (S : Nat → Prop) (t : Nat) (w : World) (r : Tb × Int) (e : Ending) (w' : World) : Prop := e = .returned (.int .i64 r.2) ∧ TB B S t r.1 w' ∧ Ch B S w w'
theorem put_nil (n s : ByteArray) (tier : Int) (w : World) : Calls Try.prog 10 #[.pointer none, .string n, .string s, .int .i64 tier] w fun e w' => e = .returned (.int .i64 2) ∧ w' = w := by
  go_enter Try.func10, Try.ntmps10
  go_wp2
  go_ret
  exact ⟨rfl, rfl⟩
set_option maxHeartbeats 4000000 in
set_option maxRecDepth 100000 in
theorem put_bad {B : Nat} {S : Nat → Prop} {t : Nat} {T : Tb} {w : World} (hB : B ≤ w.heap.size) (h : TB B S t T w) (n s : ByteArray) (tier : Int) (hr : rightV n s tier ≠ 0) :
    Calls Try.prog 10 #[.pointer (some ⟨t, 0, none⟩), .string n, .string s, .int .i64 tier] w (PutPost B S t w (T, rightV n s tier)) := by
  have hd : (rightV n s tier != 0) = true := by simpa using hr
  have H := Aside0.mk h
  clear h hr
  go_enter Try.func10, Try.ntmps10
  go_wp2_with fail
  refine (right_any n s tier w).mono ?_
  rintro e w1 ⟨rfl, hb⟩
  have HB := Aside0.mk hb
  clear hb
  go_wp2
  go_ret
  exact ⟨rfl, H.out.below HB.out, Ch.of_below S HB.out hB⟩
set_option maxHeartbeats 4000000 in
set_option maxRecDepth 100000 in
theorem put_none {B : Nat} {S : Nat → Prop} {t : Nat} {T : Tb} {w : World} (hB : B ≤ w.heap.size) (h : TB B S t T w) (n s : ByteArray) (tier : Int) (hn : n.size ≤ 9223372036854775807) (hr : rightV n s tier = 0) (hg : get here T.l n.data.toList = none) (hc : 64 ≤ (T.l.filter here).length) :
    Calls Try.prog 10 #[.pointer (some ⟨t, 0, none⟩), .string n, .string s, .int .i64 tier] w (PutPost B S t w (T, 4)) := by
  have hd : (rightV n s tier != 0) = false := by simpa using hr
  have H := Aside0.mk h
  clear h hr
  go_enter Try.func10, Try.ntmps10
  go_wp2_with fail
  refine (right_any n s tier w).mono ?_
  rintro e w1 ⟨rfl, hb⟩
  have ht := H.out.below hb
  have HB := Aside0.mk hb
  have HT := Aside0.mk ht
  obtain ⟨bm, bd, ht⟩ := ht
  have hlook := ht.hm.look n hn
  have hc1 : w1.cell? ⟨t, 2, none⟩ = some (.map (some bm)) := by rw [Lib.cell_of_heap ht.ht]; rfl
  have hlt := (ht.sB t ht.st).2
  have hc2 : ∀ o, (w1.alloc o).cell? ⟨t, 2, none⟩ = some (.map (some bm)) := fun o => (World.cell?_of_block (Below.heap_alloc w1 o t hlt)).trans hc1
  have hc2 := hc2 (.cells #[.string ⟨#[]⟩, .string ⟨#[]⟩, .int .i64 0, .int .i64 0] 32)
  have hle := (ht.heap (w' := w1.alloc (.cells #[.string ⟨#[]⟩, .string ⟨#[]⟩, .int .i64 0, .int .i64 0] 32)) (by simp) (fun k hk => Below.heap_alloc _ _ _ (ht.sB k hk).2)).hm.len ht.ok.sorted Try.underlying60 3
  rw [hg] at hlook
  simp only [vF, Option.getD, Option.isSome] at hlook
  have hd2 : decide (64 ≤ ((T.l.filter here).length : Int)) = true := decide_eq_true (by omega)
  have hd3 : decide (64 ≤ (T.l.filter here).length) = true := decide_eq_true hc
  clear hb ht hg hc
  go_wp2
  go_ret
  exact ⟨rfl, HT.out.below (by repeat (first | exact Below.refl _ _ | (refine Below.alloc ?_ (by simp) _) | (refine Below.setCell ?_ (by simp) _) | apply Below.drew)), (Ch.of_below S HB.out hB).trans (S' := S) (Ch.of_below S (by repeat (first | exact Below.refl _ _ | (refine Below.alloc ?_ (by simp) _) | (refine Below.setCell ?_ (by simp) _) | apply Below.drew)) (by have := HB.out.size; omega)) (fun x h => .inl h)⟩

theorem len_setL {f : Fl} : ∀ l : List Fl, (setL f l).length ≤ l.length + 1
  | [] => by simp [setL]
  | x :: l => by
    have := len_setL (f := f) l
    unfold setL
    split
    · simp; omega
    · split <;> simp
theorem cnt_setL {sel : Fl → Bool} {f : Fl} : ∀ {l : List Fl}, Sorted l → ((setL f l).filter sel).length + (if (get sel l (nmL f)).isSome = true then 1 else 0) = (l.filter sel).length + (if sel f = true then 1 else 0)
  | [], _ => by by_cases h : sel f = true <;> simp [setL, get, h]
  | x :: l, h => by
    have h' : (∀ z ∈ l, nmL x < nmL z) ∧ Sorted l := List.pairwise_cons.1 h
    have ih := cnt_setL (sel := sel) (f := f) h'.2
    unfold setL
    rw [get_cons]
    split
    · rename_i h1
      rw [if_neg (show ¬ (nmL x = nmL f ∧ sel x = true) from fun e => lt_ne h1 e.1)]
      by_cases hx : sel x = true
      · simp only [List.filter_cons, hx, if_true, List.length_cons]; omega
      · simp only [List.filter_cons, if_neg hx]; exact ih
    · split
      · rename_i h1 h2
        have hn : get sel l (nmL f) = none := get_none_of_lt (fun z hz => by rw [← h2]; exact h'.1 z hz)
        rw [hn]
        by_cases hx : sel x = true <;> by_cases hf : sel f = true <;> simp [List.filter_cons, hx, hf, h2]
      · rename_i h1 h2
        have h3 := lt_of_not h1 h2
        have hn : get sel l (nmL f) = none := get_none_of_lt (fun z hz => lt_tr h3 (h'.1 z hz))
        rw [if_neg (show ¬ (nmL x = nmL f ∧ sel x = true) from fun e => h2 e.1), hn]
        by_cases hx : sel x = true <;> by_cases hf : sel f = true <;> simp [List.filter_cons, hx, hf]
/-- A table with one more entry is one. -/
theorem tok_set {T : Tb} (h : TOk T) (f : Fl) (hlen : T.l.length < 1000000) (hrev : T.rev < T.most) (he : f.f0.size ≤ 1000000 ∧ f.f1.size ≤ 65536 ∧ 0 ≤ f.f2 ∧ f.f2 ≤ 2 ∧ 0 ≤ f.f3 ∧ f.f3 ≤ T.rev + 1) (hc : here f = true → (get here T.l (nmL f)).isSome = true ∨ (T.l.filter here).length < 64) : TOk ⟨T.most, T.rev + 1, setL f T.l⟩ := {
  sorted := sorted_setL h.sorted
  most0 := h.most0
  most := h.most
  rev0 := by have := h.rev0; show 0 ≤ T.rev + 1; omega
  rev := by show T.rev + 1 ≤ T.most; omega
  cnt := by
    have h1 := cnt_setL (sel := here) (f := f) h.sorted
    have h2 := h.cnt
    show ((setL f T.l).filter here).length ≤ 64
    by_cases hf : here f = true
    · rw [if_pos hf] at h1
      rcases hc hf with h3 | h3
      · rw [if_pos h3] at h1; omega
      · split at h1 <;> omega
    · rw [if_neg hf] at h1; split at h1 <;> omega
  len := by have := len_setL (f := f) T.l; show (setL f T.l).length ≤ 1000000; omega
  el := fun x hx => by
    rcases mem_setL hx with rfl | hx
    · exact he
    · obtain ⟨a1, a2, a3, a4, a5, a6⟩ := h.el x hx
      exact ⟨a1, a2, a3, a4, a5, by show x.f3 ≤ T.rev + 1; omega⟩ }
theorem rightV_ok {n s : ByteArray} {tier : Int} (h : rightV n s tier = 0) : n.size ≤ 32 ∧ nameOk n = true ∧ 0 ≤ tier ∧ tier ≤ 2 ∧ s.size ≤ 65536 := by
  unfold rightV at h
  split at h
  · rename_i h1
    split at h
    · exact absurd h (by decide)
    · exact ⟨h1.1, h1.2.1, h1.2.2.1, h1.2.2.2, by omega⟩
  · exact absurd h (by decide)
theorem ts_put {B : Nat} {S : Nat → Prop} {t bm bd : Nat} {T : Tb} {w w' : World} (h : TS B S t bm bd T w) {f : Fl} (hf : here f = true) (ok : TOk ⟨T.most, T.rev + 1, setL f T.l⟩) (hz : w.heap.size ≤ w'.heap.size) (ht : w'.heap[t]? = some (.cells #[.int .i64 T.most, .int .i64 (T.rev + 1), .map (some bm), .map (some bd)] 63 (0, 0)))
    (hm : MapV elemF dF w' bm (upd (get here T.l) (nmL f) (some f))) (hd : MapV (plainElem Try.prog 3) dI w' bd (upd (get gone T.l) (nmL f) none)) : TB B S t ⟨T.most, T.rev + 1, setL f T.l⟩ w' :=
  ⟨bm, bd, { ok := ok, sB := fun k hk => ⟨(h.sB k hk).1, Nat.lt_of_lt_of_le (h.sB k hk).2 hz⟩, st := h.st, sm := h.sm, sd := h.sd, ne := h.ne, ht := ht
             hm := hm.congr (fun k => by rw [get_setL h.ok.sorted, if_pos hf]; rfl)
             hd := hd.congr (fun k => by rw [get_setL h.ok.sorted, if_neg (show ¬ gone f = true from by simpa [gone, here] using hf)]; rfl) }⟩
theorem ts_drop {B : Nat} {S : Nat → Prop} {t bm bd : Nat} {T : Tb} {w w' : World} (h : TS B S t bm bd T w) {f : Fl} (hf : gone f = true) (ok : TOk ⟨T.most, T.rev + 1, setL f T.l⟩) (hz : w.heap.size ≤ w'.heap.size) (ht : w'.heap[t]? = some (.cells #[.int .i64 T.most, .int .i64 (T.rev + 1), .map (some bm), .map (some bd)] 63 (0, 0)))
    (hm : MapV elemF dF w' bm (upd (get here T.l) (nmL f) none)) (hd : MapV (plainElem Try.prog 3) dI w' bd (upd (get gone T.l) (nmL f) (some f))) : TB B S t ⟨T.most, T.rev + 1, setL f T.l⟩ w' :=
  ⟨bm, bd, { ok := ok, sB := fun k hk => ⟨(h.sB k hk).1, Nat.lt_of_lt_of_le (h.sB k hk).2 hz⟩, st := h.st, sm := h.sm, sd := h.sd, ne := h.ne, ht := ht
             hm := hm.congr (fun k => by rw [get_setL h.ok.sorted, if_neg (show ¬ here f = true from by simpa [gone, here] using hf)]; rfl)
             hd := hd.congr (fun k => by rw [get_setL h.ok.sorted, if_pos hf]; rfl) }⟩

set_option maxHeartbeats 4000000 in
set_option maxRecDepth 100000 in
theorem put_new {B : Nat} {S : Nat → Prop} {t : Nat} {T : Tb} {w : World} (hB : B ≤ w.heap.size) (h : TB B S t T w) (n s : ByteArray) (tier : Int) (hn : n.size ≤ 9223372036854775807) (hlen : T.l.length < 1000000) (hr : rightV n s tier = 0) (hg : get here T.l n.data.toList = none) (hc : (T.l.filter here).length < 64) (hrev : T.rev < T.most) :
    Calls Try.prog 10 #[.pointer (some ⟨t, 0, none⟩), .string n, .string s, .int .i64 tier] w (PutPost B S t w (⟨T.most, T.rev + 1, setL ⟨n, s, tier, T.rev + 1, false⟩ T.l⟩, 0)) := by
  have hd : (rightV n s tier != 0) = false := by simpa using hr
  have H := Aside0.mk h
  clear h
  go_enter Try.func10, Try.ntmps10
  go_wp2_with fail
  refine (right_any n s tier w).mono ?_
  rintro e w1 ⟨rfl, hb⟩
  have ht := H.out.below hb
  have HB := Aside0.mk hb
  obtain ⟨bm, bd, ht⟩ := ht
  have HT := Aside0.mk ht
  have hlook := ht.hm.look n hn
  have hc0 : w1.cell? ⟨t, 0, none⟩ = some (.int .i64 T.most) := by rw [Lib.cell_of_heap ht.ht]; rfl
  have hc1 : w1.cell? ⟨t, 1, none⟩ = some (.int .i64 T.rev) := by rw [Lib.cell_of_heap ht.ht]; rfl
  have hc2 : w1.cell? ⟨t, 2, none⟩ = some (.map (some bm)) := by rw [Lib.cell_of_heap ht.ht]; rfl
  have hc3 : w1.cell? ⟨t, 3, none⟩ = some (.map (some bd)) := by rw [Lib.cell_of_heap ht.ht]; rfl
  have hlt := (ht.sB t ht.st).2
  have hct : ∀ i u, w1.cell? ⟨t, i, none⟩ = some u → (w1.alloc (.cells #[.string ⟨#[]⟩, .string ⟨#[]⟩, .int .i64 0, .int .i64 0] 32)).cell? ⟨t, i, none⟩ = some u := fun i u hu => (World.cell?_of_block (Below.heap_alloc w1 _ t hlt)).trans hu
  have hk0 := hct 0 _ hc0
  have hk1 := hct 1 _ hc1
  have hk2 := hct 2 _ hc2
  have hk3 := hct 3 _ hc3
  have hle := (ht.heap (w' := w1.alloc (.cells #[.string ⟨#[]⟩, .string ⟨#[]⟩, .int .i64 0, .int .i64 0] 32)) (by simp) (fun k hk => Below.heap_alloc _ _ _ (ht.sB k hk).2)).hm.len ht.ok.sorted Try.underlying60 3
  have hft : (w1.alloc (.cells #[.string ⟨#[]⟩, .string ⟨#[]⟩, .int .i64 0, .int .i64 0] 32)).frozen? ⟨t, 1, none⟩ = false := (World.frozen?_of_block (Below.heap_alloc w1 _ t hlt)).trans (Lib.frozen_of_heap ht.ht 1)
  rw [hg] at hlook
  simp only [vF, Option.getD, Option.isSome] at hlook
  have hd2 : decide (64 ≤ ((T.l.filter here).length : Int)) = false := decide_eq_false (by omega)
  have hd3 : decide (64 ≤ (T.l.filter here).length) = false := decide_eq_false (by omega)
  have hd4 : decide (T.most ≤ T.rev) = false := decide_eq_false (by omega)
  have hrb := ht.ok.rev0
  have hrb2 := ht.ok.most
  have hw : wrap64 (T.rev + 1) = T.rev + 1 := by unfold wrap64; omega
  have HW := Aside0.mk hw
  have HG := Aside0.mk hg
  have HCN := Aside0.mk hc
  clear hb ht hg hc hct hc0 hc1 hc3 hw
  go_wp2_with fail
  go_region
  obtain ⟨W2, hW2⟩ : ∃ W2, (w1.alloc (.cells #[.string ⟨#[]⟩, .string ⟨#[]⟩, .int .i64 0, .int .i64 0] 32)).drew = W2 := ⟨_, rfl⟩
  rw [hW2]
  obtain ⟨x, hx⟩ : ∃ x, w1.heap.size = x := ⟨_, rfl⟩
  have hbx : W2.heap[x]? = some (.cells #[.string ⟨#[]⟩, .string ⟨#[]⟩, .int .i64 0, .int .i64 0] 32 (0, 0)) := by rw [← hW2, ← hx]; exact heap_alloc_new w1 _
  have hT2 : TS B S t bm bd T W2 := by rw [← hW2]; exact HT.out.heap (w' := (w1.alloc (.cells #[.string ⟨#[]⟩, .string ⟨#[]⟩, .int .i64 0, .int .i64 0] 32)).drew) (by simp) (fun k hk => Below.heap_alloc _ _ _ (HT.out.sB k hk).2)
  have hC2 : Ch B S w W2 := by
    rw [← hW2]
    exact (Ch.of_below S HB.out hB).trans (S' := S) (Ch.of_below S (by repeat (first | exact Below.refl _ _ | (refine Below.alloc ?_ (by simp) _) | (refine Below.setCell ?_ (by simp) _) | apply Below.drew)) (by have := HB.out.size; omega)) (fun x h => .inl h)
  have hxt : w.heap.size ≤ x := by rw [← hx]; exact HB.out.size
  have hSx : ¬ S x := fun e => by have := (HT.out.sB x e).2; omega
  rw [hx]
  have HBX := Aside0.mk hbx
  have HT2 := Aside0.mk hT2
  have HC2 := Aside0.mk hC2
  clear hk0 hk1 hk2 hk3 hlook hle hft hc2 hbx hT2 hC2 hW2 HT HB hlt hx
  have n1 : ¬ x = t := fun e => hSx (e ▸ HT2.out.st)
  have n2 : ¬ t = x := fun e => n1 e.symm
  have k0 : W2.cell? ⟨t, 0, none⟩ = some (.int .i64 T.most) := by rw [Lib.cell_of_heap HT2.out.ht]; rfl
  have k1 : W2.cell? ⟨t, 1, none⟩ = some (.int .i64 T.rev) := by rw [Lib.cell_of_heap HT2.out.ht]; rfl
  have k2 : W2.cell? ⟨t, 2, none⟩ = some (.map (some bm)) := by rw [Lib.cell_of_heap HT2.out.ht]; rfl
  have k3 : W2.cell? ⟨t, 3, none⟩ = some (.map (some bd)) := by rw [Lib.cell_of_heap HT2.out.ht]; rfl
  have b0 : W2.cell? ⟨x, 0, none⟩ = some (.string ⟨#[]⟩) := by rw [Lib.cell_of_heap HBX.out]; rfl
  have b1 : W2.cell? ⟨x, 1, none⟩ = some (.string ⟨#[]⟩) := by rw [Lib.cell_of_heap HBX.out]; rfl
  have b2 : W2.cell? ⟨x, 2, none⟩ = some (.int .i64 0) := by rw [Lib.cell_of_heap HBX.out]; rfl
  have b3 : W2.cell? ⟨x, 3, none⟩ = some (.int .i64 0) := by rw [Lib.cell_of_heap HBX.out]; rfl
  have g0 : W2.frozen? ⟨x, 0, none⟩ = false := Lib.frozen_of_heap HBX.out 0
  have g1 : W2.frozen? ⟨x, 1, none⟩ = false := Lib.frozen_of_heap HBX.out 1
  have g2 : W2.frozen? ⟨x, 2, none⟩ = false := Lib.frozen_of_heap HBX.out 2
  have g3 : W2.frozen? ⟨x, 3, none⟩ = false := Lib.frozen_of_heap HBX.out 3
  have gt : W2.frozen? ⟨t, 1, none⟩ = false := Lib.frozen_of_heap HT2.out.ht 1
  go_wp2_with fail
  obtain ⟨W3, hW3⟩ : ∃ W3, ((((W2.setCell ⟨t, 1, none⟩ (.int .i64 (T.rev + 1))).setCell ⟨x, 3, none⟩ (.int .i64 (T.rev + 1))).setCell ⟨x, 0, none⟩ (.string n)).setCell ⟨x, 1, none⟩ (.string s)).setCell ⟨x, 2, none⟩ (.int .i64 tier) = W3 := ⟨_, rfl⟩
  rw [hW3]
  have hx3 : W3.heap[x]? = some (.cells #[.string n, .string s, .int .i64 tier, .int .i64 (T.rev + 1)] 32 (0, 0)) := by
    rw [← hW3]
    rw [blk_set (blk_set (blk_set (blk_set ((Below.heap_setCell W2 ⟨t, 1, none⟩ _ x n1).trans HBX.out) 3 _) 0 _) 1 _) 2 _]
    rfl
  have ho3 : ∀ k, k ≠ x → k ≠ t → W3.heap[k]? = W2.heap[k]? := fun k h1 h2 => by
    rw [← hW3]
    exact (Below.heap_setCell _ ⟨x, 2, none⟩ _ k h1).trans ((Below.heap_setCell _ ⟨x, 1, none⟩ _ k h1).trans ((Below.heap_setCell _ ⟨x, 0, none⟩ _ k h1).trans ((Below.heap_setCell _ ⟨x, 3, none⟩ _ k h1).trans (Below.heap_setCell _ ⟨t, 1, none⟩ _ k h2))))
  have ht3 : W3.heap[t]? = some (.cells #[.int .i64 T.most, .int .i64 (T.rev + 1), .map (some bm), .map (some bd)] 63 (0, 0)) := by
    rw [← hW3]
    exact (Below.heap_setCell _ ⟨x, 2, none⟩ _ t n2).trans ((Below.heap_setCell _ ⟨x, 1, none⟩ _ t n2).trans ((Below.heap_setCell _ ⟨x, 0, none⟩ _ t n2).trans ((Below.heap_setCell _ ⟨x, 3, none⟩ _ t n2).trans (by rw [blk_set HT2.out.ht]; rfl))))
  have hC3 : Ch B S w W3 := by
    rw [← hW3]
    exact ((((HC2.out.setCell (p := ⟨t, 1, none⟩) (HT2.out.sB t HT2.out.st).1 (.inl HT2.out.st) _).setCell (p := ⟨x, 3, none⟩) (by show B ≤ x; omega) (.inr hxt) _).setCell (p := ⟨x, 0, none⟩) (by show B ≤ x; omega) (.inr hxt) _).setCell (p := ⟨x, 1, none⟩) (by show B ≤ x; omega) (.inr hxt) _).setCell (p := ⟨x, 2, none⟩) (by show B ≤ x; omega) (.inr hxt) _
  have hz3 : W3.heap.size = W2.heap.size := by rw [← hW3]; simp
  clear k0 k1 k2 k3 b0 b1 b2 b3 g0 g1 g2 g3 gt hW3
  have HX3 := Aside0.mk hx3
  have HT3 := Aside0.mk ht3
  have HO3 := Aside0.mk ho3
  have HC3 := Aside0.mk hC3
  have k2 : W3.cell? ⟨t, 2, none⟩ = some (.map (some bm)) := by rw [Lib.cell_of_heap HT3.out]; rfl
  have b0 : W3.cell? ⟨x, 0, none⟩ = some (.string n) := by rw [Lib.cell_of_heap HX3.out]; rfl
  have b1 : W3.cell? ⟨x, 1, none⟩ = some (.string s) := by rw [Lib.cell_of_heap HX3.out]; rfl
  have b2 : W3.cell? ⟨x, 2, none⟩ = some (.int .i64 tier) := by rw [Lib.cell_of_heap HX3.out]; rfl
  have b3 : W3.cell? ⟨x, 3, none⟩ = some (.int .i64 (T.rev + 1)) := by rw [Lib.cell_of_heap HX3.out]; rfl
  have hm3 : MapV elemF dF W3 bm (get here T.l) := HT2.out.hm.heap (HO3.out bm (fun e => hSx (e ▸ HT2.out.sm)) (fun e => HT2.out.nm e.symm))
  obtain ⟨W4, hrun, hone, hmap⟩ := MapV.store (w := W3.drew) HT2.out.ok.sorted HT2.out.ok.len hm3 Try.underlying60 ⟨n, s, tier, T.rev + 1, false⟩ hn _ (elemF_mk _)
  have HONE : Aside0 (One bm W3 W4) := ⟨⟨hone.os, hone.tape, hone.output, hone.size, hone.block⟩⟩
  have HMAP := Aside0.mk hmap
  clear hx3 ht3 ho3 hC3 hm3 hone hmap
  simp only [vF] at hrun
  go_still_tail 6, (by kernel_rfl)
  change wpList _ _ _ _ _ W3.drew
  generalize W3.drew = W3d at hrun ⊢
  have ht4 : W4.heap[t]? = some (.cells #[.int .i64 T.most, .int .i64 (T.rev + 1), .map (some bm), .map (some bd)] 63 (0, 0)) := (HONE.out.block t HT2.out.nm).trans HT3.out
  have hd4' : MapV (plainElem Try.prog 3) dI W4 bd (get gone T.l) := HT2.out.hd.heap ((HONE.out.block bd HT2.out.ne.symm).trans (HO3.out bd (fun e => hSx (e ▸ HT2.out.sd)) (fun e => HT2.out.nd e.symm)))
  obtain ⟨W5, hdel, hone5, hmap5⟩ := MapV.drop hd4' Try.underlying61 n hn 0
  have c3 : W4.cell? ⟨t, 3, none⟩ = some (.map (some bd)) := by rw [Lib.cell_of_heap ht4]; rfl
  have HONE5 := Aside0.mk hone5
  have HMAP5 := Aside0.mk hmap5
  have HT4 := Aside0.mk ht4
  clear hone5 hmap5 ht4 hd4' k2 b0 b1 b2 b3
  go_wp2
  go_ret
  refine ⟨rfl, ts_put HT2.out rfl ?_ ?_ ((HONE5.out.block t HT2.out.nd).trans HT4.out) (HMAP.out.heap (HONE5.out.block bm HT2.out.ne)) HMAP5.out, (HC3.out.one HONE.out (HT2.out.sB bm HT2.out.sm).1 (.inl HT2.out.sm)).one HONE5.out (HT2.out.sB bd HT2.out.sd).1 (.inl HT2.out.sd)⟩
  · obtain ⟨q1, q2, q3, q4, q5⟩ := rightV_ok hr
    exact tok_set HT2.out.ok _ hlen hrev ⟨by show n.size ≤ 1000000; omega, q5, q3, q4, by show 0 ≤ T.rev + 1; omega, Int.le_refl _⟩ (fun _ => .inr HCN.out)
  · rw [HONE5.out.size, HONE.out.size]; exact Nat.le_of_eq hz3.symm

set_option maxHeartbeats 4000000 in
set_option maxRecDepth 100000 in
theorem put_src {B : Nat} {S : Nat → Prop} {t : Nat} {T : Tb} {w : World} {f : Fl} (hB : B ≤ w.heap.size) (h : TB B S t T w) (n s : ByteArray) (tier : Int) (hn : n.size ≤ 9223372036854775807) (hlen : T.l.length < 1000000) (hr : rightV n s tier = 0) (hg : get here T.l n.data.toList = some f) (hs : (f.f1.toList == s.toList) = false) (hrev : T.rev < T.most) :
    Calls Try.prog 10 #[.pointer (some ⟨t, 0, none⟩), .string n, .string s, .int .i64 tier] w (PutPost B S t w (⟨T.most, T.rev + 1, setL ⟨n, s, tier, T.rev + 1, false⟩ T.l⟩, 0)) := by
  have hd : (rightV n s tier != 0) = false := by simpa using hr
  have H := Aside0.mk h
  clear h
  go_enter Try.func10, Try.ntmps10
  go_wp2_with fail
  refine (right_any n s tier w).mono ?_
  rintro e w1 ⟨rfl, hb⟩
  have ht := H.out.below hb
  have HB := Aside0.mk hb
  obtain ⟨bm, bd, ht⟩ := ht
  have HT := Aside0.mk ht
  have hlook := ht.hm.look n hn
  have hc0 : w1.cell? ⟨t, 0, none⟩ = some (.int .i64 T.most) := by rw [Lib.cell_of_heap ht.ht]; rfl
  have hc1 : w1.cell? ⟨t, 1, none⟩ = some (.int .i64 T.rev) := by rw [Lib.cell_of_heap ht.ht]; rfl
  have hc2 : w1.cell? ⟨t, 2, none⟩ = some (.map (some bm)) := by rw [Lib.cell_of_heap ht.ht]; rfl
  have hc3 : w1.cell? ⟨t, 3, none⟩ = some (.map (some bd)) := by rw [Lib.cell_of_heap ht.ht]; rfl
  have hlt := (ht.sB t ht.st).2
  have hct : ∀ i u, w1.cell? ⟨t, i, none⟩ = some u → (w1.alloc (.cells #[.string f.f0, .string f.f1, .int .i64 f.f2, .int .i64 f.f3] 32)).cell? ⟨t, i, none⟩ = some u := fun i u hu => (World.cell?_of_block (Below.heap_alloc w1 _ t hlt)).trans hu
  have hk0 := hct 0 _ hc0
  have hk1 := hct 1 _ hc1
  have hk2 := hct 2 _ hc2
  have hk3 := hct 3 _ hc3
  have hft : (w1.alloc (.cells #[.string f.f0, .string f.f1, .int .i64 f.f2, .int .i64 f.f3] 32)).frozen? ⟨t, 1, none⟩ = false := (World.frozen?_of_block (Below.heap_alloc w1 _ t hlt)).trans (Lib.frozen_of_heap ht.ht 1)
  rw [hg] at hlook
  simp only [vF, Option.getD, Option.isSome] at hlook
  have hs2 : (f.f1.toList != s.toList) = true := by simpa using hs
  have hd4 : decide (T.most ≤ T.rev) = false := decide_eq_false (by omega)
  have hrb := ht.ok.rev0
  have hrb2 := ht.ok.most
  have hw : wrap64 (T.rev + 1) = T.rev + 1 := by unfold wrap64; omega
  have HW := Aside0.mk hw
  have HG := Aside0.mk hg
  clear hb ht hg hct hc0 hc1 hc3 hw
  go_wp2_with fail
  go_region
  obtain ⟨W2, hW2⟩ : ∃ W2, (w1.alloc (.cells #[.string f.f0, .string f.f1, .int .i64 f.f2, .int .i64 f.f3] 32)).drew = W2 := ⟨_, rfl⟩
  rw [hW2]
  obtain ⟨x, hx⟩ : ∃ x, w1.heap.size = x := ⟨_, rfl⟩
  have hbx : W2.heap[x]? = some (.cells #[.string f.f0, .string f.f1, .int .i64 f.f2, .int .i64 f.f3] 32 (0, 0)) := by rw [← hW2, ← hx]; exact heap_alloc_new w1 _
  have hT2 : TS B S t bm bd T W2 := by rw [← hW2]; exact HT.out.heap (w' := (w1.alloc (.cells #[.string f.f0, .string f.f1, .int .i64 f.f2, .int .i64 f.f3] 32)).drew) (by simp) (fun k hk => Below.heap_alloc _ _ _ (HT.out.sB k hk).2)
  have hC2 : Ch B S w W2 := by
    rw [← hW2]
    exact (Ch.of_below S HB.out hB).trans (S' := S) (Ch.of_below S (by repeat (first | exact Below.refl _ _ | (refine Below.alloc ?_ (by simp) _) | (refine Below.setCell ?_ (by simp) _) | apply Below.drew)) (by have := HB.out.size; omega)) (fun x h => .inl h)
  have hxt : w.heap.size ≤ x := by rw [← hx]; exact HB.out.size
  have hSx : ¬ S x := fun e => by have := (HT.out.sB x e).2; omega
  rw [hx]
  have HBX := Aside0.mk hbx
  have HT2 := Aside0.mk hT2
  have HC2 := Aside0.mk hC2
  clear hk0 hk1 hk2 hk3 hlook hft hc2 hbx hT2 hC2 hW2 HT HB hlt hx
  have n1 : ¬ x = t := fun e => hSx (e ▸ HT2.out.st)
  have n2 : ¬ t = x := fun e => n1 e.symm
  have k0 : W2.cell? ⟨t, 0, none⟩ = some (.int .i64 T.most) := by rw [Lib.cell_of_heap HT2.out.ht]; rfl
  have k1 : W2.cell? ⟨t, 1, none⟩ = some (.int .i64 T.rev) := by rw [Lib.cell_of_heap HT2.out.ht]; rfl
  have k2 : W2.cell? ⟨t, 2, none⟩ = some (.map (some bm)) := by rw [Lib.cell_of_heap HT2.out.ht]; rfl
  have k3 : W2.cell? ⟨t, 3, none⟩ = some (.map (some bd)) := by rw [Lib.cell_of_heap HT2.out.ht]; rfl
  have b0 : W2.cell? ⟨x, 0, none⟩ = some (.string f.f0) := by rw [Lib.cell_of_heap HBX.out]; rfl
  have b1 : W2.cell? ⟨x, 1, none⟩ = some (.string f.f1) := by rw [Lib.cell_of_heap HBX.out]; rfl
  have b2 : W2.cell? ⟨x, 2, none⟩ = some (.int .i64 f.f2) := by rw [Lib.cell_of_heap HBX.out]; rfl
  have b3 : W2.cell? ⟨x, 3, none⟩ = some (.int .i64 f.f3) := by rw [Lib.cell_of_heap HBX.out]; rfl
  have g0 : W2.frozen? ⟨x, 0, none⟩ = false := Lib.frozen_of_heap HBX.out 0
  have g1 : W2.frozen? ⟨x, 1, none⟩ = false := Lib.frozen_of_heap HBX.out 1
  have g2 : W2.frozen? ⟨x, 2, none⟩ = false := Lib.frozen_of_heap HBX.out 2
  have g3 : W2.frozen? ⟨x, 3, none⟩ = false := Lib.frozen_of_heap HBX.out 3
  have gt : W2.frozen? ⟨t, 1, none⟩ = false := Lib.frozen_of_heap HT2.out.ht 1
  go_wp2_with fail
  obtain ⟨W3, hW3⟩ : ∃ W3, ((((W2.setCell ⟨t, 1, none⟩ (.int .i64 (T.rev + 1))).setCell ⟨x, 3, none⟩ (.int .i64 (T.rev + 1))).setCell ⟨x, 0, none⟩ (.string n)).setCell ⟨x, 1, none⟩ (.string s)).setCell ⟨x, 2, none⟩ (.int .i64 tier) = W3 := ⟨_, rfl⟩
  rw [hW3]
  have hx3 : W3.heap[x]? = some (.cells #[.string n, .string s, .int .i64 tier, .int .i64 (T.rev + 1)] 32 (0, 0)) := by
    rw [← hW3]
    rw [blk_set (blk_set (blk_set (blk_set ((Below.heap_setCell W2 ⟨t, 1, none⟩ _ x n1).trans HBX.out) 3 _) 0 _) 1 _) 2 _]
    rfl
  have ho3 : ∀ k, k ≠ x → k ≠ t → W3.heap[k]? = W2.heap[k]? := fun k h1 h2 => by
    rw [← hW3]
    exact (Below.heap_setCell _ ⟨x, 2, none⟩ _ k h1).trans ((Below.heap_setCell _ ⟨x, 1, none⟩ _ k h1).trans ((Below.heap_setCell _ ⟨x, 0, none⟩ _ k h1).trans ((Below.heap_setCell _ ⟨x, 3, none⟩ _ k h1).trans (Below.heap_setCell _ ⟨t, 1, none⟩ _ k h2))))
  have ht3 : W3.heap[t]? = some (.cells #[.int .i64 T.most, .int .i64 (T.rev + 1), .map (some bm), .map (some bd)] 63 (0, 0)) := by
    rw [← hW3]
    exact (Below.heap_setCell _ ⟨x, 2, none⟩ _ t n2).trans ((Below.heap_setCell _ ⟨x, 1, none⟩ _ t n2).trans ((Below.heap_setCell _ ⟨x, 0, none⟩ _ t n2).trans ((Below.heap_setCell _ ⟨x, 3, none⟩ _ t n2).trans (by rw [blk_set HT2.out.ht]; rfl))))
  have hC3 : Ch B S w W3 := by
    rw [← hW3]
    exact ((((HC2.out.setCell (p := ⟨t, 1, none⟩) (HT2.out.sB t HT2.out.st).1 (.inl HT2.out.st) _).setCell (p := ⟨x, 3, none⟩) (by show B ≤ x; omega) (.inr hxt) _).setCell (p := ⟨x, 0, none⟩) (by show B ≤ x; omega) (.inr hxt) _).setCell (p := ⟨x, 1, none⟩) (by show B ≤ x; omega) (.inr hxt) _).setCell (p := ⟨x, 2, none⟩) (by show B ≤ x; omega) (.inr hxt) _
  have hz3 : W3.heap.size = W2.heap.size := by rw [← hW3]; simp
  clear k0 k1 k2 k3 b0 b1 b2 b3 g0 g1 g2 g3 gt hW3
  have HX3 := Aside0.mk hx3
  have HT3 := Aside0.mk ht3
  have HO3 := Aside0.mk ho3
  have HC3 := Aside0.mk hC3
  have k2 : W3.cell? ⟨t, 2, none⟩ = some (.map (some bm)) := by rw [Lib.cell_of_heap HT3.out]; rfl
  have b0 : W3.cell? ⟨x, 0, none⟩ = some (.string n) := by rw [Lib.cell_of_heap HX3.out]; rfl
  have b1 : W3.cell? ⟨x, 1, none⟩ = some (.string s) := by rw [Lib.cell_of_heap HX3.out]; rfl
  have b2 : W3.cell? ⟨x, 2, none⟩ = some (.int .i64 tier) := by rw [Lib.cell_of_heap HX3.out]; rfl
  have b3 : W3.cell? ⟨x, 3, none⟩ = some (.int .i64 (T.rev + 1)) := by rw [Lib.cell_of_heap HX3.out]; rfl
  have hm3 : MapV elemF dF W3 bm (get here T.l) := HT2.out.hm.heap (HO3.out bm (fun e => hSx (e ▸ HT2.out.sm)) (fun e => HT2.out.nm e.symm))
  obtain ⟨W4, hrun, hone, hmap⟩ := MapV.store (w := W3.drew) HT2.out.ok.sorted HT2.out.ok.len hm3 Try.underlying60 ⟨n, s, tier, T.rev + 1, false⟩ hn _ (elemF_mk _)
  have HONE : Aside0 (One bm W3 W4) := ⟨⟨hone.os, hone.tape, hone.output, hone.size, hone.block⟩⟩
  have HMAP := Aside0.mk hmap
  clear hx3 ht3 ho3 hC3 hm3 hone hmap
  simp only [vF] at hrun
  go_still_tail 6, (by kernel_rfl)
  change wpList _ _ _ _ _ W3.drew
  generalize W3.drew = W3d at hrun ⊢
  have ht4 : W4.heap[t]? = some (.cells #[.int .i64 T.most, .int .i64 (T.rev + 1), .map (some bm), .map (some bd)] 63 (0, 0)) := (HONE.out.block t HT2.out.nm).trans HT3.out
  have hd4' : MapV (plainElem Try.prog 3) dI W4 bd (get gone T.l) := HT2.out.hd.heap ((HONE.out.block bd HT2.out.ne.symm).trans (HO3.out bd (fun e => hSx (e ▸ HT2.out.sd)) (fun e => HT2.out.nd e.symm)))
  obtain ⟨W5, hdel, hone5, hmap5⟩ := MapV.drop hd4' Try.underlying61 n hn 0
  have c3 : W4.cell? ⟨t, 3, none⟩ = some (.map (some bd)) := by rw [Lib.cell_of_heap ht4]; rfl
  have HONE5 := Aside0.mk hone5
  have HMAP5 := Aside0.mk hmap5
  have HT4 := Aside0.mk ht4
  clear hone5 hmap5 ht4 hd4' k2 b0 b1 b2 b3
  go_wp2
  go_ret
  refine ⟨rfl, ts_put HT2.out rfl ?_ ?_ ((HONE5.out.block t HT2.out.nd).trans HT4.out) (HMAP.out.heap (HONE5.out.block bm HT2.out.ne)) HMAP5.out, (HC3.out.one HONE.out (HT2.out.sB bm HT2.out.sm).1 (.inl HT2.out.sm)).one HONE5.out (HT2.out.sB bd HT2.out.sd).1 (.inl HT2.out.sd)⟩
  · obtain ⟨q1, q2, q3, q4, q5⟩ := rightV_ok hr
    exact tok_set HT2.out.ok _ hlen hrev ⟨by show n.size ≤ 1000000; omega, q5, q3, q4, by show 0 ≤ T.rev + 1; omega, Int.le_refl _⟩ (fun _ => .inl (by show (get here T.l n.data.toList).isSome = true; rw [HG.out]; rfl))
  · rw [HONE5.out.size, HONE.out.size]; exact Nat.le_of_eq hz3.symm

set_option maxHeartbeats 4000000 in
set_option maxRecDepth 100000 in
theorem put_tier {B : Nat} {S : Nat → Prop} {t : Nat} {T : Tb} {w : World} {f : Fl} (hB : B ≤ w.heap.size) (h : TB B S t T w) (n s : ByteArray) (tier : Int) (hn : n.size ≤ 9223372036854775807) (hlen : T.l.length < 1000000) (hr : rightV n s tier = 0) (hg : get here T.l n.data.toList = some f) (hs : (f.f1.toList == s.toList) = true) (hti : (f.f2 == tier) = false) (hrev : T.rev < T.most) :
    Calls Try.prog 10 #[.pointer (some ⟨t, 0, none⟩), .string n, .string s, .int .i64 tier] w (PutPost B S t w (⟨T.most, T.rev + 1, setL ⟨n, s, tier, f.f3, false⟩ T.l⟩, 0)) := by
  have hd : (rightV n s tier != 0) = false := by simpa using hr
  have H := Aside0.mk h
  clear h
  go_enter Try.func10, Try.ntmps10
  go_wp2_with fail
  refine (right_any n s tier w).mono ?_
  rintro e w1 ⟨rfl, hb⟩
  have ht := H.out.below hb
  have HB := Aside0.mk hb
  obtain ⟨bm, bd, ht⟩ := ht
  have HT := Aside0.mk ht
  have hlook := ht.hm.look n hn
  have hc0 : w1.cell? ⟨t, 0, none⟩ = some (.int .i64 T.most) := by rw [Lib.cell_of_heap ht.ht]; rfl
  have hc1 : w1.cell? ⟨t, 1, none⟩ = some (.int .i64 T.rev) := by rw [Lib.cell_of_heap ht.ht]; rfl
  have hc2 : w1.cell? ⟨t, 2, none⟩ = some (.map (some bm)) := by rw [Lib.cell_of_heap ht.ht]; rfl
  have hc3 : w1.cell? ⟨t, 3, none⟩ = some (.map (some bd)) := by rw [Lib.cell_of_heap ht.ht]; rfl
  have hlt := (ht.sB t ht.st).2
  have hct : ∀ i u, w1.cell? ⟨t, i, none⟩ = some u → (w1.alloc (.cells #[.string f.f0, .string f.f1, .int .i64 f.f2, .int .i64 f.f3] 32)).cell? ⟨t, i, none⟩ = some u := fun i u hu => (World.cell?_of_block (Below.heap_alloc w1 _ t hlt)).trans hu
  have hk0 := hct 0 _ hc0
  have hk1 := hct 1 _ hc1
  have hk2 := hct 2 _ hc2
  have hk3 := hct 3 _ hc3
  have hft : (w1.alloc (.cells #[.string f.f0, .string f.f1, .int .i64 f.f2, .int .i64 f.f3] 32)).frozen? ⟨t, 1, none⟩ = false := (World.frozen?_of_block (Below.heap_alloc w1 _ t hlt)).trans (Lib.frozen_of_heap ht.ht 1)
  rw [hg] at hlook
  simp only [vF, Option.getD, Option.isSome] at hlook
  have hs2 : (f.f1.toList != s.toList) = false := by simpa using hs
  have hd4 : decide (T.most ≤ T.rev) = false := decide_eq_false (by omega)
  have hrb := ht.ok.rev0
  have hrb2 := ht.ok.most
  have hw : wrap64 (T.rev + 1) = T.rev + 1 := by unfold wrap64; omega
  have HW := Aside0.mk hw
  have HG := Aside0.mk hg
  clear hb ht hg hct hc0 hc1 hc3 hw
  go_wp2_with fail
  go_region
  obtain ⟨W2, hW2⟩ : ∃ W2, (w1.alloc (.cells #[.string f.f0, .string f.f1, .int .i64 f.f2, .int .i64 f.f3] 32)).drew = W2 := ⟨_, rfl⟩
  rw [hW2]
  obtain ⟨x, hx⟩ : ∃ x, w1.heap.size = x := ⟨_, rfl⟩
  have hbx : W2.heap[x]? = some (.cells #[.string f.f0, .string f.f1, .int .i64 f.f2, .int .i64 f.f3] 32 (0, 0)) := by rw [← hW2, ← hx]; exact heap_alloc_new w1 _
  have hT2 : TS B S t bm bd T W2 := by rw [← hW2]; exact HT.out.heap (w' := (w1.alloc (.cells #[.string f.f0, .string f.f1, .int .i64 f.f2, .int .i64 f.f3] 32)).drew) (by simp) (fun k hk => Below.heap_alloc _ _ _ (HT.out.sB k hk).2)
  have hC2 : Ch B S w W2 := by
    rw [← hW2]
    exact (Ch.of_below S HB.out hB).trans (S' := S) (Ch.of_below S (by repeat (first | exact Below.refl _ _ | (refine Below.alloc ?_ (by simp) _) | (refine Below.setCell ?_ (by simp) _) | apply Below.drew)) (by have := HB.out.size; omega)) (fun x h => .inl h)
  have hxt : w.heap.size ≤ x := by rw [← hx]; exact HB.out.size
  have hSx : ¬ S x := fun e => by have := (HT.out.sB x e).2; omega
  rw [hx]
  have HBX := Aside0.mk hbx
  have HT2 := Aside0.mk hT2
  have HC2 := Aside0.mk hC2
  clear hk0 hk1 hk2 hk3 hlook hft hc2 hbx hT2 hC2 hW2 HT HB hlt hx
  have n1 : ¬ x = t := fun e => hSx (e ▸ HT2.out.st)
  have n2 : ¬ t = x := fun e => n1 e.symm
  have k0 : W2.cell? ⟨t, 0, none⟩ = some (.int .i64 T.most) := by rw [Lib.cell_of_heap HT2.out.ht]; rfl
  have k1 : W2.cell? ⟨t, 1, none⟩ = some (.int .i64 T.rev) := by rw [Lib.cell_of_heap HT2.out.ht]; rfl
  have k2 : W2.cell? ⟨t, 2, none⟩ = some (.map (some bm)) := by rw [Lib.cell_of_heap HT2.out.ht]; rfl
  have k3 : W2.cell? ⟨t, 3, none⟩ = some (.map (some bd)) := by rw [Lib.cell_of_heap HT2.out.ht]; rfl
  have b0 : W2.cell? ⟨x, 0, none⟩ = some (.string f.f0) := by rw [Lib.cell_of_heap HBX.out]; rfl
  have b1 : W2.cell? ⟨x, 1, none⟩ = some (.string f.f1) := by rw [Lib.cell_of_heap HBX.out]; rfl
  have b2 : W2.cell? ⟨x, 2, none⟩ = some (.int .i64 f.f2) := by rw [Lib.cell_of_heap HBX.out]; rfl
  have b3 : W2.cell? ⟨x, 3, none⟩ = some (.int .i64 f.f3) := by rw [Lib.cell_of_heap HBX.out]; rfl
  have g0 : W2.frozen? ⟨x, 0, none⟩ = false := Lib.frozen_of_heap HBX.out 0
  have g1 : W2.frozen? ⟨x, 1, none⟩ = false := Lib.frozen_of_heap HBX.out 1
  have g2 : W2.frozen? ⟨x, 2, none⟩ = false := Lib.frozen_of_heap HBX.out 2
  have g3 : W2.frozen? ⟨x, 3, none⟩ = false := Lib.frozen_of_heap HBX.out 3
  have gt : W2.frozen? ⟨t, 1, none⟩ = false := Lib.frozen_of_heap HT2.out.ht 1
  go_wp2_with fail
  obtain ⟨W3, hW3⟩ : ∃ W3, (((W2.setCell ⟨t, 1, none⟩ (.int .i64 (T.rev + 1))).setCell ⟨x, 0, none⟩ (.string n)).setCell ⟨x, 1, none⟩ (.string s)).setCell ⟨x, 2, none⟩ (.int .i64 tier) = W3 := ⟨_, rfl⟩
  rw [hW3]
  have hx3 : W3.heap[x]? = some (.cells #[.string n, .string s, .int .i64 tier, .int .i64 f.f3] 32 (0, 0)) := by
    rw [← hW3]
    rw [blk_set (blk_set (blk_set ((Below.heap_setCell W2 ⟨t, 1, none⟩ _ x n1).trans HBX.out) 0 _) 1 _) 2 _]
    rfl
  have ho3 : ∀ k, k ≠ x → k ≠ t → W3.heap[k]? = W2.heap[k]? := fun k h1 h2 => by
    rw [← hW3]
    exact (Below.heap_setCell _ ⟨x, 2, none⟩ _ k h1).trans ((Below.heap_setCell _ ⟨x, 1, none⟩ _ k h1).trans ((Below.heap_setCell _ ⟨x, 0, none⟩ _ k h1).trans (Below.heap_setCell _ ⟨t, 1, none⟩ _ k h2)))
  have ht3 : W3.heap[t]? = some (.cells #[.int .i64 T.most, .int .i64 (T.rev + 1), .map (some bm), .map (some bd)] 63 (0, 0)) := by
    rw [← hW3]
    exact (Below.heap_setCell _ ⟨x, 2, none⟩ _ t n2).trans ((Below.heap_setCell _ ⟨x, 1, none⟩ _ t n2).trans ((Below.heap_setCell _ ⟨x, 0, none⟩ _ t n2).trans (by rw [blk_set HT2.out.ht]; rfl)))
  have hC3 : Ch B S w W3 := by
    rw [← hW3]
    exact (((HC2.out.setCell (p := ⟨t, 1, none⟩) (HT2.out.sB t HT2.out.st).1 (.inl HT2.out.st) _).setCell (p := ⟨x, 0, none⟩) (by show B ≤ x; omega) (.inr hxt) _).setCell (p := ⟨x, 1, none⟩) (by show B ≤ x; omega) (.inr hxt) _).setCell (p := ⟨x, 2, none⟩) (by show B ≤ x; omega) (.inr hxt) _
  have hz3 : W3.heap.size = W2.heap.size := by rw [← hW3]; simp
  clear k0 k1 k2 k3 b0 b1 b2 b3 g0 g1 g2 g3 gt hW3
  have HX3 := Aside0.mk hx3
  have HT3 := Aside0.mk ht3
  have HO3 := Aside0.mk ho3
  have HC3 := Aside0.mk hC3
  have k2 : W3.cell? ⟨t, 2, none⟩ = some (.map (some bm)) := by rw [Lib.cell_of_heap HT3.out]; rfl
  have b0 : W3.cell? ⟨x, 0, none⟩ = some (.string n) := by rw [Lib.cell_of_heap HX3.out]; rfl
  have b1 : W3.cell? ⟨x, 1, none⟩ = some (.string s) := by rw [Lib.cell_of_heap HX3.out]; rfl
  have b2 : W3.cell? ⟨x, 2, none⟩ = some (.int .i64 tier) := by rw [Lib.cell_of_heap HX3.out]; rfl
  have b3 : W3.cell? ⟨x, 3, none⟩ = some (.int .i64 f.f3) := by rw [Lib.cell_of_heap HX3.out]; rfl
  have hm3 : MapV elemF dF W3 bm (get here T.l) := HT2.out.hm.heap (HO3.out bm (fun e => hSx (e ▸ HT2.out.sm)) (fun e => HT2.out.nm e.symm))
  obtain ⟨W4, hrun, hone, hmap⟩ := MapV.store (w := W3.drew) HT2.out.ok.sorted HT2.out.ok.len hm3 Try.underlying60 ⟨n, s, tier, f.f3, false⟩ hn _ (elemF_mk _)
  have HONE : Aside0 (One bm W3 W4) := ⟨⟨hone.os, hone.tape, hone.output, hone.size, hone.block⟩⟩
  have HMAP := Aside0.mk hmap
  clear hx3 ht3 ho3 hC3 hm3 hone hmap
  simp only [vF] at hrun
  go_still_tail 6, (by kernel_rfl)
  change wpList _ _ _ _ _ W3.drew
  generalize W3.drew = W3d at hrun ⊢
  have ht4 : W4.heap[t]? = some (.cells #[.int .i64 T.most, .int .i64 (T.rev + 1), .map (some bm), .map (some bd)] 63 (0, 0)) := (HONE.out.block t HT2.out.nm).trans HT3.out
  have hd4' : MapV (plainElem Try.prog 3) dI W4 bd (get gone T.l) := HT2.out.hd.heap ((HONE.out.block bd HT2.out.ne.symm).trans (HO3.out bd (fun e => hSx (e ▸ HT2.out.sd)) (fun e => HT2.out.nd e.symm)))
  obtain ⟨W5, hdel, hone5, hmap5⟩ := MapV.drop hd4' Try.underlying61 n hn 0
  have c3 : W4.cell? ⟨t, 3, none⟩ = some (.map (some bd)) := by rw [Lib.cell_of_heap ht4]; rfl
  have HONE5 := Aside0.mk hone5
  have HMAP5 := Aside0.mk hmap5
  have HT4 := Aside0.mk ht4
  clear hone5 hmap5 ht4 hd4' k2 b0 b1 b2 b3
  go_wp2
  go_ret
  refine ⟨rfl, ts_put HT2.out rfl ?_ ?_ ((HONE5.out.block t HT2.out.nd).trans HT4.out) (HMAP.out.heap (HONE5.out.block bm HT2.out.ne)) HMAP5.out, (HC3.out.one HONE.out (HT2.out.sB bm HT2.out.sm).1 (.inl HT2.out.sm)).one HONE5.out (HT2.out.sB bd HT2.out.sd).1 (.inl HT2.out.sd)⟩
  · obtain ⟨q1, q2, q3, q4, q5⟩ := rightV_ok hr
    exact tok_set HT2.out.ok _ hlen hrev ⟨by show n.size ≤ 1000000; omega, q5, q3, q4, (HT2.out.ok.el f (get_some HG.out).1).2.2.2.2.1, by have := (HT2.out.ok.el f (get_some HG.out).1).2.2.2.2.2; show f.f3 ≤ T.rev + 1; omega⟩ (fun _ => .inl (by show (get here T.l n.data.toList).isSome = true; rw [HG.out]; rfl))
  · rw [HONE5.out.size, HONE.out.size]; exact Nat.le_of_eq hz3.symm
end Go.Proofs.Ytonhfcjldbohbaa.Fi
