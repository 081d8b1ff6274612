/- files, fourth part: Put's other ways; Drop. -/
import Derived.Test.YtonhfcjldbohbaaFlC
namespace Go.Proofs.Ytonhfcjldbohbaa.Fi
open Go Go.RowKit Go.ChangeMaps Go.MapKept Go.Proofs.Ytonhfcjldbohbaa.PA Go.Proofs.YtonhfcjldbohbaaW.PrintWords Go.Proofs.YtonhfcjldbohbaaW.PrintLast Go.Proofs.YtonhfcjldbohbaaW.PrintMore
set_option linter.unusedVariables false
set_option linter.unusedSimpArgs false

set_option maxHeartbeats 4000000 in
set_option maxRecDepth 100000 in
theorem put_full {B : Nat} {S : Nat → Prop} {t : Nat} {T : Tb} {w : World} (hB : B ≤ w.heap.size) (h : TB B S t T w) (n s : ByteArray) (tier : Int) (hn : n.size ≤ 9223372036854775807) (hr : rightV n s tier = 0) (hg : get here T.l n.data.toList = none) (hc : (T.l.filter here).length < 64) (hrev : T.most ≤ T.rev) :
    Calls Try.prog 10 #[.pointer (some ⟨t, 0, none⟩), .string n, .string s, .int .i64 tier] w (PutPost B S t w (T, 6)) := by
  have hd : (rightV n s tier != 0) = false := by simpa using hr
  have H := Aside0.mk h
  clear h
  go_enter Try.func10, Try.ntmps10
  go_wp2_with fail
  refine (right_any n s tier w).mono ?_
  rintro e w1 ⟨rfl, hb⟩
  have ht := H.out.below hb
  have HB := Aside0.mk hb
  have HT := Aside0.mk ht
  obtain ⟨bm, bd, ht⟩ := ht
  have hlook := ht.hm.look n hn
  have hc0 : w1.cell? ⟨t, 0, none⟩ = some (.int .i64 T.most) := by rw [Lib.cell_of_heap ht.ht]; rfl
  have hc1 : w1.cell? ⟨t, 1, none⟩ = some (.int .i64 T.rev) := by rw [Lib.cell_of_heap ht.ht]; rfl
  have hc2 : w1.cell? ⟨t, 2, none⟩ = some (.map (some bm)) := by rw [Lib.cell_of_heap ht.ht]; rfl
  have hlt := (ht.sB t ht.st).2
  have hct : ∀ i u, w1.cell? ⟨t, i, none⟩ = some u → (w1.alloc (.cells #[.string ⟨#[]⟩, .string ⟨#[]⟩, .int .i64 0, .int .i64 0] 32)).cell? ⟨t, i, none⟩ = some u := fun i u hu => (World.cell?_of_block (Below.heap_alloc w1 _ t hlt)).trans hu
  have hk0 := hct 0 _ hc0
  have hk1 := hct 1 _ hc1
  have hk2 := hct 2 _ hc2
  have hle := (ht.heap (w' := w1.alloc (.cells #[.string ⟨#[]⟩, .string ⟨#[]⟩, .int .i64 0, .int .i64 0] 32)) (by simp) (fun k hk => Below.heap_alloc _ _ _ (ht.sB k hk).2)).hm.len ht.ok.sorted Try.underlying60 3
  rw [hg] at hlook
  simp only [vF, Option.getD, Option.isSome] at hlook
  have hd2 : decide (64 ≤ ((T.l.filter here).length : Int)) = false := decide_eq_false (by omega)
  have hd3 : decide (64 ≤ (T.l.filter here).length) = false := decide_eq_false (by omega)
  have hd4 : decide (T.most ≤ T.rev) = true := decide_eq_true hrev
  clear hb ht hg hct hc0 hc1
  go_wp2_with fail
  go_region
  go_wp2_with fail
  go_ret
  exact ⟨rfl, HT.out.below (by repeat (first | exact Below.refl _ _ | (refine Below.alloc ?_ (by simp) _) | (refine Below.setCell ?_ (by simp) _) | apply Below.drew)), (Ch.of_below S HB.out hB).trans (S' := S) (Ch.of_below S (by repeat (first | exact Below.refl _ _ | (refine Below.alloc ?_ (by simp) _) | (refine Below.setCell ?_ (by simp) _) | apply Below.drew)) (by have := HB.out.size; omega)) (fun x h => .inl h)⟩
set_option maxHeartbeats 4000000 in
set_option maxRecDepth 100000 in
theorem put_same {B : Nat} {S : Nat → Prop} {t : Nat} {T : Tb} {w : World} {f : Fl} (hB : B ≤ w.heap.size) (h : TB B S t T w) (n s : ByteArray) (tier : Int) (hn : n.size ≤ 9223372036854775807) (hr : rightV n s tier = 0) (hg : get here T.l n.data.toList = some f) (hs : (f.f1.toList == s.toList) = true) (hti : (f.f2 == tier) = true) :
    Calls Try.prog 10 #[.pointer (some ⟨t, 0, none⟩), .string n, .string s, .int .i64 tier] w (PutPost B S t w (T, 0)) := by
  have hd : (rightV n s tier != 0) = false := by simpa using hr
  have H := Aside0.mk h
  clear h
  go_enter Try.func10, Try.ntmps10
  go_wp2_with fail
  refine (right_any n s tier w).mono ?_
  rintro e w1 ⟨rfl, hb⟩
  have ht := H.out.below hb
  have HB := Aside0.mk hb
  have HT := Aside0.mk ht
  obtain ⟨bm, bd, ht⟩ := ht
  have hlook := ht.hm.look n hn
  have hc0 : w1.cell? ⟨t, 0, none⟩ = some (.int .i64 T.most) := by rw [Lib.cell_of_heap ht.ht]; rfl
  have hc1 : w1.cell? ⟨t, 1, none⟩ = some (.int .i64 T.rev) := by rw [Lib.cell_of_heap ht.ht]; rfl
  have hc2 : w1.cell? ⟨t, 2, none⟩ = some (.map (some bm)) := by rw [Lib.cell_of_heap ht.ht]; rfl
  have hlt := (ht.sB t ht.st).2
  have hct : ∀ i u, w1.cell? ⟨t, i, none⟩ = some u → (w1.alloc (.cells #[.string f.f0, .string f.f1, .int .i64 f.f2, .int .i64 f.f3] 32)).cell? ⟨t, i, none⟩ = some u := fun i u hu => (World.cell?_of_block (Below.heap_alloc w1 _ t hlt)).trans hu
  have hk0 := hct 0 _ hc0
  have hk1 := hct 1 _ hc1
  have hk2 := hct 2 _ hc2
  rw [hg] at hlook
  simp only [vF, Option.getD, Option.isSome] at hlook
  clear hb ht hg hct hc0 hc1
  go_wp2_with fail
  go_ret
  exact ⟨rfl, HT.out.below (by repeat (first | exact Below.refl _ _ | (refine Below.alloc ?_ (by simp) _) | (refine Below.setCell ?_ (by simp) _) | apply Below.drew)), (Ch.of_below S HB.out hB).trans (S' := S) (Ch.of_below S (by repeat (first | exact Below.refl _ _ | (refine Below.alloc ?_ (by simp) _) | (refine Below.setCell ?_ (by simp) _) | apply Below.drew)) (by have := HB.out.size; omega)) (fun x h => .inl h)⟩
set_option maxHeartbeats 4000000 in
set_option maxRecDepth 100000 in
theorem put_stop1 {B : Nat} {S : Nat → Prop} {t : Nat} {T : Tb} {w : World} {f : Fl} (hB : B ≤ w.heap.size) (h : TB B S t T w) (n s : ByteArray) (tier : Int) (hn : n.size ≤ 9223372036854775807) (hr : rightV n s tier = 0) (hg : get here T.l n.data.toList = some f) (hs : (f.f1.toList == s.toList) = false) (hrev : T.most ≤ T.rev) :
    Calls Try.prog 10 #[.pointer (some ⟨t, 0, none⟩), .string n, .string s, .int .i64 tier] w (PutPost B S t w (T, 6)) := by
  have hd : (rightV n s tier != 0) = false := by simpa using hr
  have H := Aside0.mk h
  clear h
  go_enter Try.func10, Try.ntmps10
  go_wp2_with fail
  refine (right_any n s tier w).mono ?_
  rintro e w1 ⟨rfl, hb⟩
  have ht := H.out.below hb
  have HB := Aside0.mk hb
  have HT := Aside0.mk ht
  obtain ⟨bm, bd, ht⟩ := ht
  have hlook := ht.hm.look n hn
  have hc0 : w1.cell? ⟨t, 0, none⟩ = some (.int .i64 T.most) := by rw [Lib.cell_of_heap ht.ht]; rfl
  have hc1 : w1.cell? ⟨t, 1, none⟩ = some (.int .i64 T.rev) := by rw [Lib.cell_of_heap ht.ht]; rfl
  have hc2 : w1.cell? ⟨t, 2, none⟩ = some (.map (some bm)) := by rw [Lib.cell_of_heap ht.ht]; rfl
  have hlt := (ht.sB t ht.st).2
  have hct : ∀ i u, w1.cell? ⟨t, i, none⟩ = some u → (w1.alloc (.cells #[.string f.f0, .string f.f1, .int .i64 f.f2, .int .i64 f.f3] 32)).cell? ⟨t, i, none⟩ = some u := fun i u hu => (World.cell?_of_block (Below.heap_alloc w1 _ t hlt)).trans hu
  have hk0 := hct 0 _ hc0
  have hk1 := hct 1 _ hc1
  have hk2 := hct 2 _ hc2
  rw [hg] at hlook
  simp only [vF, Option.getD, Option.isSome] at hlook
  have hd4 : decide (T.most ≤ T.rev) = true := decide_eq_true hrev
  clear hb ht hg hct hc0 hc1
  go_wp2_with fail
  go_region
  go_wp2_with fail
  go_ret
  exact ⟨rfl, HT.out.below (by repeat (first | exact Below.refl _ _ | (refine Below.alloc ?_ (by simp) _) | (refine Below.setCell ?_ (by simp) _) | apply Below.drew)), (Ch.of_below S HB.out hB).trans (S' := S) (Ch.of_below S (by repeat (first | exact Below.refl _ _ | (refine Below.alloc ?_ (by simp) _) | (refine Below.setCell ?_ (by simp) _) | apply Below.drew)) (by have := HB.out.size; omega)) (fun x h => .inl h)⟩
set_option maxHeartbeats 4000000 in
set_option maxRecDepth 100000 in
theorem put_stop2 {B : Nat} {S : Nat → Prop} {t : Nat} {T : Tb} {w : World} {f : Fl} (hB : B ≤ w.heap.size) (h : TB B S t T w) (n s : ByteArray) (tier : Int) (hn : n.size ≤ 9223372036854775807) (hr : rightV n s tier = 0) (hg : get here T.l n.data.toList = some f) (hs : (f.f1.toList == s.toList) = true) (hti : (f.f2 == tier) = false) (hrev : T.most ≤ T.rev) :
    Calls Try.prog 10 #[.pointer (some ⟨t, 0, none⟩), .string n, .string s, .int .i64 tier] w (PutPost B S t w (T, 6)) := by
  have hd : (rightV n s tier != 0) = false := by simpa using hr
  have H := Aside0.mk h
  clear h
  go_enter Try.func10, Try.ntmps10
  go_wp2_with fail
  refine (right_any n s tier w).mono ?_
  rintro e w1 ⟨rfl, hb⟩
  have ht := H.out.below hb
  have HB := Aside0.mk hb
  have HT := Aside0.mk ht
  obtain ⟨bm, bd, ht⟩ := ht
  have hlook := ht.hm.look n hn
  have hc0 : w1.cell? ⟨t, 0, none⟩ = some (.int .i64 T.most) := by rw [Lib.cell_of_heap ht.ht]; rfl
  have hc1 : w1.cell? ⟨t, 1, none⟩ = some (.int .i64 T.rev) := by rw [Lib.cell_of_heap ht.ht]; rfl
  have hc2 : w1.cell? ⟨t, 2, none⟩ = some (.map (some bm)) := by rw [Lib.cell_of_heap ht.ht]; rfl
  have hlt := (ht.sB t ht.st).2
  have hct : ∀ i u, w1.cell? ⟨t, i, none⟩ = some u → (w1.alloc (.cells #[.string f.f0, .string f.f1, .int .i64 f.f2, .int .i64 f.f3] 32)).cell? ⟨t, i, none⟩ = some u := fun i u hu => (World.cell?_of_block (Below.heap_alloc w1 _ t hlt)).trans hu
  have hk0 := hct 0 _ hc0
  have hk1 := hct 1 _ hc1
  have hk2 := hct 2 _ hc2
  rw [hg] at hlook
  simp only [vF, Option.getD, Option.isSome] at hlook
  have hd4 : decide (T.most ≤ T.rev) = true := decide_eq_true hrev
  clear hb ht hg hct hc0 hc1
  go_wp2_with fail
  go_region
  go_wp2_with fail
  go_ret
  exact ⟨rfl, HT.out.below (by repeat (first | exact Below.refl _ _ | (refine Below.alloc ?_ (by simp) _) | (refine Below.setCell ?_ (by simp) _) | apply Below.drew)), (Ch.of_below S HB.out hB).trans (S' := S) (Ch.of_below S (by repeat (first | exact Below.refl _ _ | (refine Below.alloc ?_ (by simp) _) | (refine Below.setCell ?_ (by simp) _) | apply Below.drew)) (by have := HB.out.size; omega)) (fun x h => .inl h)⟩
theorem put_any {B : Nat} {S : Nat → Prop} {t : Nat} {T : Tb} {w : World} (hB : B ≤ w.heap.size) (h : TB B S t T w) (hlen : T.l.length < 1000000) (n s : ByteArray) (tier : Int) (hn : n.size ≤ 9223372036854775807) :
    Calls Try.prog 10 #[.pointer (some ⟨t, 0, none⟩), .string n, .string s, .int .i64 tier] w (PutPost B S t w (putT T n s tier)) := by
  unfold putT
  by_cases hr : rightV n s tier = 0
  · rw [if_neg (by simpa using hr)]
    cases hg : get here T.l n.data.toList with
    | none =>
      by_cases hc : 64 ≤ (T.l.filter here).length
      · simp only [if_pos hc]; exact put_none hB h n s tier hn hr hg hc
      · simp only [if_neg hc]
        by_cases hrev : T.most ≤ T.rev
        · rw [if_pos hrev]; exact put_full hB h n s tier hn hr hg (by omega) hrev
        · rw [if_neg hrev]; exact put_new hB h n s tier hn hlen hr hg (by omega) (by omega)
    | some f =>
      by_cases hs : (f.f1.toList == s.toList) = true
      · by_cases hti : (f.f2 == tier) = true
        · simp only [hs, hti, Bool.and_self, if_true]; exact put_same hB h n s tier hn hr hg hs hti
        · simp only [hs, Bool.true_and, if_neg hti, if_true]
          have hti' : (f.f2 == tier) = false := by simpa using hti
          by_cases hrev : T.most ≤ T.rev
          · rw [if_pos hrev]; exact put_stop2 hB h n s tier hn hr hg hs hti' hrev
          · rw [if_neg hrev]; exact put_tier hB h n s tier hn hlen hr hg hs hti' (by omega)
      · have hs' : (f.f1.toList == s.toList) = false := by simpa using hs
        simp only [hs', Bool.false_and, Bool.false_eq_true, if_false]
        by_cases hrev : T.most ≤ T.rev
        · rw [if_pos hrev]; exact put_stop1 hB h n s tier hn hr hg hs' hrev
        · rw [if_neg hrev]; exact put_src hB h n s tier hn hlen hr hg hs' (by omega)
  · rw [if_pos hr]; exact put_bad hB h n s tier hr

/-! ### Drop -/
def dropT (T : Tb) (n : ByteArray) : Tb × Int := match get here T.l n.data.toList with
  | none => (T, 3)
  | some f => if T.most ≤ T.rev then (T, 6) else (⟨T.most, T.rev + 1, setL ⟨n, nil0, 0, T.rev + 1, true⟩ T.l⟩, 0)
theorem drop_nil (n : ByteArray) (w : World) : Calls Try.prog 23 #[.pointer none, .string n] w fun e w' => e = .returned (.int .i64 2) ∧ w' = w := by
  go_enter Try.func23, Try.ntmps23
  go_wp2
  go_ret
  exact ⟨rfl, rfl⟩
theorem find_nil (n : ByteArray) (w : World) : Calls Try.prog 18 #[.pointer none, .string n] w fun e w' => e = .returned (.tuple #[vF ⟨nil0, nil0, 0, 0, false⟩, .int .i64 2]) ∧ Below w.heap.size w w' := by
  go_enter Try.func18, Try.ntmps18
  go_wp2
  go_returns
  exact ⟨rfl, by repeat (first | exact Below.refl _ _ | (refine Below.alloc ?_ (by simp) _) | (refine Below.setCell ?_ (by simp) _) | apply Below.drew)⟩
set_option maxHeartbeats 4000000 in
set_option maxRecDepth 100000 in
theorem drop_none {B : Nat} {S : Nat → Prop} {t : Nat} {T : Tb} {w : World} (hB : B ≤ w.heap.size) (h : TB B S t T w) (n : ByteArray) (hn : n.size ≤ 9223372036854775807) (hg : get here T.l n.data.toList = none) :
    Calls Try.prog 23 #[.pointer (some ⟨t, 0, none⟩), .string n] w (PutPost B S t w (T, 3)) := by
  have H := Aside0.mk h
  obtain ⟨bm, bd, ht⟩ := h
  have hlook := ht.hm.look n hn
  have hc2 : w.cell? ⟨t, 2, none⟩ = some (.map (some bm)) := by rw [Lib.cell_of_heap ht.ht]; rfl
  rw [hg] at hlook
  simp only [vF, Option.getD, Option.isSome] at hlook
  clear ht hg
  go_enter Try.func23, Try.ntmps23
  go_wp2
  go_ret
  exact ⟨rfl, H.out.below (by repeat (first | exact Below.refl _ _ | (refine Below.alloc ?_ (by simp) _) | (refine Below.setCell ?_ (by simp) _) | apply Below.drew)), Ch.of_below S (by repeat (first | exact Below.refl _ _ | (refine Below.alloc ?_ (by simp) _) | (refine Below.setCell ?_ (by simp) _) | apply Below.drew)) hB⟩
set_option maxHeartbeats 4000000 in
set_option maxRecDepth 100000 in
theorem drop_stop {B : Nat} {S : Nat → Prop} {t : Nat} {T : Tb} {w : World} {f : Fl} (hB : B ≤ w.heap.size) (h : TB B S t T w) (n : ByteArray) (hn : n.size ≤ 9223372036854775807) (hg : get here T.l n.data.toList = some f) (hrev : T.most ≤ T.rev) :
    Calls Try.prog 23 #[.pointer (some ⟨t, 0, none⟩), .string n] w (PutPost B S t w (T, 6)) := by
  have H := Aside0.mk h
  obtain ⟨bm, bd, ht⟩ := h
  have hlook := ht.hm.look n hn
  have hc0 : w.cell? ⟨t, 0, none⟩ = some (.int .i64 T.most) := by rw [Lib.cell_of_heap ht.ht]; rfl
  have hc1 : w.cell? ⟨t, 1, none⟩ = some (.int .i64 T.rev) := by rw [Lib.cell_of_heap ht.ht]; rfl
  have hc2 : w.cell? ⟨t, 2, none⟩ = some (.map (some bm)) := by rw [Lib.cell_of_heap ht.ht]; rfl
  have hlt := (ht.sB t ht.st).2
  have hct : ∀ i u, w.cell? ⟨t, i, none⟩ = some u → (w.alloc (.cells #[.string f.f0, .string f.f1, .int .i64 f.f2, .int .i64 f.f3] 32)).cell? ⟨t, i, none⟩ = some u := fun i u hu => (World.cell?_of_block (Below.heap_alloc w _ t hlt)).trans hu
  have hk0 := hct 0 _ hc0
  have hk1 := hct 1 _ hc1
  have hd4 : decide (T.most ≤ T.rev) = true := decide_eq_true hrev
  rw [hg] at hlook
  simp only [vF, Option.getD, Option.isSome] at hlook
  clear ht hg hct hc0 hc1
  go_enter Try.func23, Try.ntmps23
  go_wp2_with fail
  go_region
  go_wp2
  go_ret
  exact ⟨rfl, H.out.below (by repeat (first | exact Below.refl _ _ | (refine Below.alloc ?_ (by simp) _) | (refine Below.setCell ?_ (by simp) _) | apply Below.drew)), Ch.of_below S (by repeat (first | exact Below.refl _ _ | (refine Below.alloc ?_ (by simp) _) | (refine Below.setCell ?_ (by simp) _) | apply Below.drew)) hB⟩
set_option maxHeartbeats 4000000 in
set_option maxRecDepth 100000 in
theorem drop_do {B : Nat} {S : Nat → Prop} {t : Nat} {T : Tb} {w : World} {f : Fl} (hB : B ≤ w.heap.size) (h : TB B S t T w) (n : ByteArray) (hn : n.size ≤ 9223372036854775807) (hlen : T.l.length < 1000000) (hg : get here T.l n.data.toList = some f) (hrev : T.rev < T.most) :
    Calls Try.prog 23 #[.pointer (some ⟨t, 0, none⟩), .string n] w (PutPost B S t w (⟨T.most, T.rev + 1, setL ⟨n, nil0, 0, T.rev + 1, true⟩ T.l⟩, 0)) := by
  obtain ⟨bm, bd, ht⟩ := h
  have HT := Aside0.mk ht
  have hlook := ht.hm.look n hn
  have hc0 : w.cell? ⟨t, 0, none⟩ = some (.int .i64 T.most) := by rw [Lib.cell_of_heap ht.ht]; rfl
  have hc1 : w.cell? ⟨t, 1, none⟩ = some (.int .i64 T.rev) := by rw [Lib.cell_of_heap ht.ht]; rfl
  have hc2 : w.cell? ⟨t, 2, none⟩ = some (.map (some bm)) := by rw [Lib.cell_of_heap ht.ht]; rfl
  have hlt := (ht.sB t ht.st).2
  have hct : ∀ i u, w.cell? ⟨t, i, none⟩ = some u → (w.alloc (.cells #[.string f.f0, .string f.f1, .int .i64 f.f2, .int .i64 f.f3] 32)).cell? ⟨t, i, none⟩ = some u := fun i u hu => (World.cell?_of_block (Below.heap_alloc w _ t hlt)).trans hu
  have hk0 := hct 0 _ hc0
  have hk1 := hct 1 _ hc1
  have hd4 : decide (T.most ≤ T.rev) = false := decide_eq_false (by omega)
  rw [hg] at hlook
  simp only [vF, Option.getD, Option.isSome] at hlook
  have HG := Aside0.mk hg
  have hrb := ht.ok.rev0
  have hrb2 := ht.ok.most
  have hw : wrap64 (T.rev + 1) = T.rev + 1 := by unfold wrap64; omega
  have HW := Aside0.mk hw
  clear ht hg hct hc0 hc1 hw
  go_enter Try.func23, Try.ntmps23
  go_wp2_with fail
  go_region
  obtain ⟨W2, hW2⟩ : ∃ W2, (w.alloc (.cells #[.string f.f0, .string f.f1, .int .i64 f.f2, .int .i64 f.f3] 32)).drew = W2 := ⟨_, rfl⟩
  rw [hW2]
  have hT2 : TS B S t bm bd T W2 := by rw [← hW2]; exact HT.out.heap (w' := (w.alloc (.cells #[.string f.f0, .string f.f1, .int .i64 f.f2, .int .i64 f.f3] 32)).drew) (by simp) (fun k hk => Below.heap_alloc _ _ _ (HT.out.sB k hk).2)
  have hC2 : Ch B S w W2 := by
    rw [← hW2]
    exact Ch.of_below S (by repeat (first | exact Below.refl _ _ | (refine Below.alloc ?_ (by simp) _) | (refine Below.setCell ?_ (by simp) _) | apply Below.drew)) hB
  have HT2 := Aside0.mk hT2
  have HC2 := Aside0.mk hC2
  clear hk0 hk1 hlook hc2 hT2 hC2 hW2 HT hlt
  have k1 : W2.cell? ⟨t, 1, none⟩ = some (.int .i64 T.rev) := by rw [Lib.cell_of_heap HT2.out.ht]; rfl
  have k2 : W2.cell? ⟨t, 2, none⟩ = some (.map (some bm)) := by rw [Lib.cell_of_heap HT2.out.ht]; rfl
  have gt : W2.frozen? ⟨t, 1, none⟩ = false := Lib.frozen_of_heap HT2.out.ht 1
  have ht3 : (W2.setCell ⟨t, 1, none⟩ (.int .i64 (T.rev + 1))).heap[t]? = some (.cells #[.int .i64 T.most, .int .i64 (T.rev + 1), .map (some bm), .map (some bd)] 63 (0, 0)) := by rw [blk_set HT2.out.ht]; rfl
  have hm3 : MapV elemF dF (W2.setCell ⟨t, 1, none⟩ (.int .i64 (T.rev + 1))) bm (get here T.l) := HT2.out.hm.heap (Below.heap_setCell _ ⟨t, 1, none⟩ _ bm HT2.out.nm.symm)
  obtain ⟨W4, hdel, hone, hmap⟩ := MapV.drop hm3 Try.underlying60 n hn 0
  have ht4 : W4.heap[t]? = some (.cells #[.int .i64 T.most, .int .i64 (T.rev + 1), .map (some bm), .map (some bd)] 63 (0, 0)) := (hone.block t HT2.out.nm).trans ht3
  have hd4' : MapV (plainElem Try.prog 3) dI W4 bd (get gone T.l) := HT2.out.hd.heap ((hone.block bd HT2.out.ne.symm).trans (Below.heap_setCell _ ⟨t, 1, none⟩ _ bd HT2.out.nd.symm))
  obtain ⟨W5, hrun, hone5, hmap5⟩ := MapV.store (w := W4.drew) (v := .int .i64 (T.rev + 1)) HT2.out.ok.sorted HT2.out.ok.len hd4' Try.underlying61 ⟨n, nil0, 0, T.rev + 1, true⟩ hn (plainElem_int Try.underlying3 (by simp [Lit.wf, IntKind.min, IntKind.max, IntKind.signed, IntKind.bits]; omega))
  have c1 : W4.cell? ⟨t, 1, none⟩ = some (.int .i64 (T.rev + 1)) := by rw [Lib.cell_of_heap ht4]; rfl
  have c3 : W4.cell? ⟨t, 3, none⟩ = some (.map (some bd)) := by rw [Lib.cell_of_heap ht4]; rfl
  have HONE := Aside0.mk hone
  have HMAP := Aside0.mk hmap
  have HONE5 : Aside0 (One bd W4 W5) := ⟨⟨hone5.os, hone5.tape, hone5.output, hone5.size, hone5.block⟩⟩
  have HMAP5 := Aside0.mk hmap5
  have HT4 := Aside0.mk ht4
  clear hone hmap hone5 hmap5 ht3 ht4 hm3 hd4'
  go_wp2_with fail
  go_still_tail 9, (by kernel_rfl)
  change wpList _ _ _ _ _ W4.drew
  generalize W4.drew = W4d at hrun ⊢
  go_wp2
  go_ret
  refine ⟨rfl, ts_drop HT2.out rfl ?_ ?_ ((HONE5.out.block t HT2.out.nd).trans HT4.out) (HMAP.out.heap (HONE5.out.block bm HT2.out.ne)) HMAP5.out, ((HC2.out.setCell (p := ⟨t, 1, none⟩) (HT2.out.sB t HT2.out.st).1 (.inl HT2.out.st) _).one HONE.out (HT2.out.sB bm HT2.out.sm).1 (.inl HT2.out.sm)).one HONE5.out (HT2.out.sB bd HT2.out.sd).1 (.inl HT2.out.sd)⟩
  · obtain ⟨q1, q2, q3⟩ := get_some HG.out
    have h1 := (HT2.out.ok.el f q1).1
    have h2 : n.size = f.f0.size := by
      have := congrArg List.length q2
      simpa [nmL] using this.symm
    exact tok_set HT2.out.ok _ hlen hrev ⟨by show n.size ≤ 1000000; omega, Nat.zero_le _, Int.le_refl _, by show (0 : Int) ≤ 2; decide, by show 0 ≤ T.rev + 1; omega, Int.le_refl _⟩ (fun e => by simp [here] at e)
  · rw [HONE5.out.size, HONE.out.size]; simp
theorem drop_any {B : Nat} {S : Nat → Prop} {t : Nat} {T : Tb} {w : World} (hB : B ≤ w.heap.size) (h : TB B S t T w) (hlen : T.l.length < 1000000) (n : ByteArray) (hn : n.size ≤ 9223372036854775807) :
    Calls Try.prog 23 #[.pointer (some ⟨t, 0, none⟩), .string n] w (PutPost B S t w (dropT T n)) := by
  unfold dropT
  cases hg : get here T.l n.data.toList with
  | none => exact drop_none hB h n hn hg
  | some f =>
    by_cases hrev : T.most ≤ T.rev
    · simp only [if_pos hrev]; exact drop_stop hB h n hn hg hrev
    · simp only [if_neg hrev]; exact drop_do hB h n hn hlen hg (by omega)
end Go.Proofs.Ytonhfcjldbohbaa.Fi
