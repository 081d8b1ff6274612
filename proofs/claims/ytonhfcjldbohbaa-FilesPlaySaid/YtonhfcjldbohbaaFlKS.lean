/- Several texts of this claim in one: FlK, FlL, FlM, FlN, FlP, FlQ, FlR, FlS. -/
import Derived.Test.YtonhfcjldbohbaaFlZ
import Derived.Test.YtonhfcjldbohbaaLexLaws
import Derived.Test.YtonhfcjldbohbaaRef04
import Derived.Test.YtonhfcjldbohbaaPAx10
import Derived.Sort.Walk0
import Derived.Laws.Cover1
namespace Go.Proofs.Ytonhfcjldbohbaa.Fi
open Go Go.RowKit Go.ChangeMaps Go.MapKept Go.Proofs.Ytonhfcjldbohbaa.PA Go.Proofs.YtonhfcjldbohbaaW.PrintWords Go.Proofs.YtonhfcjldbohbaaW.PrintLast Go.Proofs.YtonhfcjldbohbaaW.PrintMore Go.Proofs.Ytonhfcjldbohbaa.Lx Go.Proofs.Ytonhfcjldbohbaa.M04 Go.Proofs.Ytonhfcjldbohbaa.Pl
set_option linter.unusedVariables false
set_option linter.unusedSimpArgs false

theorem ok_a : nameOk ⟨#[97]⟩ = true := by
  unfold nameOk lex_Name.f
  rw [show lex_Lex.f ⟨#[97]⟩ = some (lexA [97]) from rfl]
  decide +kernel
theorem ok_A : nameOk ⟨#[65]⟩ = false := by
  unfold nameOk lex_Name.f
  rw [show lex_Lex.f ⟨#[65]⟩ = some (lexA [65]) from rfl]
  decide +kernel
abbrev bA : ByteArray := ⟨#[97]⟩
abbrev bX : ByteArray := ⟨#[120]⟩
abbrev tA : Tb := ⟨9, 1, [⟨bA, bX, 0, 1, false⟩]⟩
theorem right_a : rightV bA bX 0 = 0 := by
  unfold rightV
  rw [if_pos (show bA.size ≤ 32 ∧ nameOk bA = true ∧ (0 : Int) ≤ 0 ∧ (0 : Int) ≤ 2 from ⟨by decide, ok_a, by decide, by decide⟩), if_neg (by decide)]
theorem right_A : rightV ⟨#[65]⟩ ⟨#[]⟩ 0 = 1 := by
  unfold rightV
  rw [if_neg (fun e => by rw [ok_A] at e; exact absurd e.2.1 (by decide))]
theorem put_1 : putT ⟨9, 0, []⟩ bA bX 0 = (tA, 0) := by
  unfold putT
  rw [if_neg (by rw [right_a]; decide)]
  rfl
theorem put_2 : putT tA bA bX 0 = (tA, 0) := by
  unfold putT
  rw [if_neg (by rw [right_a]; decide), show get here tA.l bA.data.toList = some ⟨bA, bX, 0, 1, false⟩ from rfl]
  simp
theorem put_3 : putT tA ⟨#[65]⟩ ⟨#[]⟩ 0 = (tA, 1) := by
  unfold putT
  rw [if_pos (by rw [right_A]; decide), right_A]
set_option maxHeartbeats 4000000 in
set_option maxRecDepth 100000 in
theorem alive_any (w : World) : Calls Try.prog 8 #[] w fun e w' => e = .returned (.bool true) ∧ Below w.heap.size w w' := by
  go_enter Try.func8, Try.ntmps8
  go_wp2_with fail
  refine (new_any 9 (by decide) w).mono ?_
  rintro e w1 ⟨rfl, hT, hb⟩
  have HB := Aside0.mk hb
  have HT := Aside0.mk hT
  have hz := hb.size
  clear hT hb
  go_wp2_with fail
  refine (put_any hz HT.out (by decide) bA bX 0 (by decide)).mono ?_
  rintro e w2 ⟨rfl, hT, hb⟩
  rw [put_1] at hT ⊢
  have HT2 := Aside0.mk hT
  have HB2 : Aside0 (Below w.heap.size w w2) := ⟨HB.out.trans hb.below⟩
  clear hT hb HT HB hz
  go_wp2_with fail
  refine (put_any HB2.out.size HT2.out (by decide) bA bX 0 (by decide)).mono ?_
  rintro e w3 ⟨rfl, hT, hb⟩
  rw [put_2] at hT ⊢
  have HT3 := Aside0.mk hT
  have HB3 : Aside0 (Below w.heap.size w w3) := ⟨HB2.out.trans hb.below⟩
  clear hT hb HT2 HB2
  go_wp2_with fail
  refine (new_bad (-1) (.inl (by decide)) w3).mono ?_
  rintro e w4 ⟨rfl, rfl⟩
  go_wp2_with fail
  refine (rev_any HT3.out).mono ?_
  rintro e w5 ⟨rfl, rfl⟩
  go_wp2_with fail
  refine (put_any HB3.out.size HT3.out (by decide) ⟨#[65]⟩ ⟨#[]⟩ 0 (by decide)).mono ?_
  rintro e w6 ⟨rfl, hT, hb⟩
  rw [put_3]
  have HB6 : Aside0 (Below w.heap.size w w6) := ⟨HB3.out.trans hb.below⟩
  clear hT hb
  go_wp2
  go_ret
  exact ⟨rfl, HB6.out⟩
end Go.Proofs.Ytonhfcjldbohbaa.Fi

namespace Go.Proofs.Ytonhfcjldbohbaa.Fi
open Go Go.RowKit Go.ChangeMaps Go.MapKept Go.Proofs.Ytonhfcjldbohbaa.PA Go.Proofs.YtonhfcjldbohbaaW.PrintWords Go.Proofs.YtonhfcjldbohbaaW.PrintLast Go.Proofs.YtonhfcjldbohbaaW.PrintMore Go.Proofs.Ytonhfcjldbohbaa.Lx Go.Proofs.Ytonhfcjldbohbaa.M04 Go.Proofs.Ytonhfcjldbohbaa.Pl
set_option linter.unusedVariables false
set_option linter.unusedSimpArgs false

theorem ref_name (n : ByteArray) (hs : n.size ≤ 100000) : ∃ k, cupelref13_Name.f k n = some (decide (n.size ≤ 32) && nameOk n) := by
  obtain ⟨k, hk⟩ := ref_f n hs
  refine ⟨k, ?_⟩
  have hl := lexA_len n.data.toList
  unfold cupelref13_Name.f nameOk lex_Name.f
  have hk0 : cupelref04_Lex.f k n = _ := hk k (Nat.le_refl _)
  rw [hk0, lex_f n (by omega)]
  simp only [Option.bind_some]
  generalize (lexA n.data.toList).1 = L at *
  by_cases h1 : n.size ≤ 32
  · rw [if_pos (by omega), decide_eq_true h1, List.length_map]
    by_cases h2 : (L.length : Int) = 2
    · have hlt : 0 < L.length := by omega
      have hlt0 : 0 < (L.length : Int) := by omega
      simp only [if_pos h2, if_pos hlt0]
      have e1 : rd_T100 L 0 = L[0] := rdK L 0 hlt
      have hlt2 : 0 < (L.map cvT).length := by rw [List.length_map]; omega
      have e2 : rd_T70 (L.map cvT) 0 = cvT L[0] := by rw [← List.getElem_map cvT (h := hlt2)]; exact rdKr _ 0 hlt2
      rw [e1, e2]
      by_cases h3 : L[0].f0 = 1
      · have h3' : (cvT L[0]).f0 = 1 := h3
        simp only [if_pos h3, if_pos h3']; rfl
      · have h3' : ¬ (cvT L[0]).f0 = 1 := h3
        simp only [if_neg h3, if_neg h3']; rfl
    · simp only [if_neg h2]; rfl
  · rw [if_neg (by omega), decide_eq_false h1]; rfl

end Go.Proofs.Ytonhfcjldbohbaa.Fi

namespace Go.Proofs.Ytonhfcjldbohbaa.Fi
open Go Go.RowKit Go.ChangeMaps Go.MapKept Go.Proofs.Ytonhfcjldbohbaa.PA Go.Proofs.YtonhfcjldbohbaaW.PrintWords Go.Proofs.YtonhfcjldbohbaaW.PrintLast Go.Proofs.YtonhfcjldbohbaaW.PrintMore
attribute [local go_sem] Oper.semAt_some
set_option linter.unusedVariables false
set_option linter.unusedSimpArgs false

theorem putT_len (T : Tb) (n s : ByteArray) (tier : Int) : (putT T n s tier).1.l.length ≤ T.l.length + 1 := by
  unfold putT
  split
  · exact Nat.le_succ _
  · split
    · split
      · exact Nat.le_succ _
      · split
        · exact Nat.le_succ _
        · exact len_setL _
    · split
      · exact Nat.le_succ _
      · split
        · exact Nat.le_succ _
        · exact len_setL _
theorem dropT_len (T : Tb) (n : ByteArray) : (dropT T n).1.l.length ≤ T.l.length + 1 := by
  unfold dropT
  split
  · exact Nat.le_succ _
  · split
    · exact Nat.le_succ _
    · exact len_setL _
theorem TB.src {B : Nat} {S : Nat → Prop} {t : Nat} {T : Tb} {w : World} (h : TB B S t T w) : SrcOf B S (some ⟨t, 0, none⟩) (allF T) w := .inr ⟨t, T, rfl, h, rfl⟩
theorem row_at {w : World} {B n c j i : Nat} {A : Option Addr} {ys : List Fl} {u : Value} (h : w.ownsRow B 32 4 (.slice A n c) n (fcs ys)) (hj : j < ys.length) (hi : i < 4) (hu : (fc ys[j])[i]? = some u) : ∃ g, A = some ⟨g, 0, none⟩ ∧ w.cell? ⟨g, j * 4 + i, none⟩ = some u := by
  have hl := h.1
  rw [fcs_len] at hl
  obtain ⟨g, cap, e, _⟩ := h.form (by omega)
  injection e with e1 e2 e3
  subst e1
  subst e3
  exact ⟨g, rfl, (h.cellAt (j * 4 + i) (by omega)).trans ((fcs_get ys j hj i hi).trans hu)⟩
end Go.Proofs.Ytonhfcjldbohbaa.Fi

namespace Go.Proofs.Ytonhfcjldbohbaa.Fi
open Go Go.RowKit Go.ChangeMaps Go.MapKept Go.Proofs.Ytonhfcjldbohbaa.PA Go.Proofs.YtonhfcjldbohbaaW.PrintWords Go.Proofs.YtonhfcjldbohbaaW.PrintLast Go.Proofs.YtonhfcjldbohbaaW.PrintMore Go.Proofs.Ytonhfcjldbohbaa.Lx Go.Proofs.Ytonhfcjldbohbaa.M04 Go.Proofs.Ytonhfcjldbohbaa.Pl
set_option linter.unusedVariables false
set_option linter.unusedSimpArgs false

theorem bytes_any {B : Nat} {S : Nat → Prop} {t : Nat} {T : Tb} {w : World} (h : TB B S t T w) :
    Calls Try.prog 15 #[.pointer (some ⟨t, 0, none⟩)] w fun e w' => e = .returned (.int .i64 (bytesF (allF T))) ∧ Below w.heap.size w w' :=
  bytes_src B S (some ⟨t, 0, none⟩) (allF T) w h.src

end Go.Proofs.Ytonhfcjldbohbaa.Fi

namespace Go.Proofs.Ytonhfcjldbohbaa.Fi
open Go Go.RowKit Go.ChangeMaps Go.MapKept Go.Proofs.Ytonhfcjldbohbaa.PA Go.Proofs.YtonhfcjldbohbaaW.PrintWords Go.Proofs.YtonhfcjldbohbaaW.PrintLast Go.Proofs.YtonhfcjldbohbaaW.PrintMore Go.Proofs.Ytonhfcjldbohbaa.Lx Go.Proofs.Ytonhfcjldbohbaa.M04 Go.Proofs.Ytonhfcjldbohbaa.Pl
set_option linter.unusedVariables false
set_option linter.unusedSimpArgs false

abbrev Act13 := S43
/-! ### Far -/
def FarOk (l : List Act13) : Prop := l.length ≤ 100 ∧ ∀ a ∈ l, a.f1.size ≤ 300 ∧ 0 ≤ a.f0 ∧ a.f0 ≤ 1
theorem far_loop (l : List Act13) : ∀ (d i : Nat), l.length - i = d → i ≤ l.length → l.length ≤ 100 → ∃ k b, cupellaw13_Far.l0 k l (i : Int) = some b ∧ (b = false → ∀ a ∈ l.drop i, a.f1.size ≤ 300 ∧ 0 ≤ a.f0 ∧ a.f0 ≤ 1) := by
  intro d
  induction d with
  | zero =>
    intro i hd hi hl
    refine ⟨1, false, ?_, fun _ a ha => ?_⟩
    · rw [cupellaw13_Far.l0, if_neg (by omega)]
    · rw [List.drop_eq_nil_of_le (by omega)] at ha
      simp at ha
  | succ d ih =>
    intro i hd hi hl
    have hlt : i < l.length := by omega
    obtain ⟨k, b, hk, hb⟩ := ih (i + 1) (by omega) (by omega) hl
    have hw : wrap64 ((i : Int) + 1) = ((i + 1 : Nat) : Int) := by unfold wrap64; omega
    have hrd : rd_T43 l (i : Int) = l[i] := by simp [rd_T43, List.getD_eq_getElem?_getD, List.getElem?_eq_getElem hlt]
    have hdrop : l.drop i = l[i] :: l.drop (i + 1) := List.drop_eq_getElem_cons hlt
    have key : (if (l[i].f1.size : Int) > 300 then (some true) else (if l[i].f0 < 0 then (some true) else (if l[i].f0 > 1 then (some true) else (cupellaw13_Far.l0 k l (wrap64 ((i : Int) + 1)))))) = some (if (l[i].f1.size : Int) > 300 then true else if l[i].f0 < 0 then true else if l[i].f0 > 1 then true else b) := by
      rw [hw, hk]
      split
      · rfl
      · split
        · rfl
        · split <;> rfl
    by_cases h1 : (l[i].f2.size : Int) > 300 ∧ (l[i].f2.size : Int) ≤ 65536
    · refine ⟨k + 1, true, ?_, fun e => by cases e⟩
      rw [cupellaw13_Far.l0, if_pos (by omega), if_pos (by omega), hrd, if_pos h1.1, if_pos h1.2]
    · refine ⟨k + 1, (if (l[i].f1.size : Int) > 300 then true else if l[i].f0 < 0 then true else if l[i].f0 > 1 then true else b), ?_, ?_⟩
      · rw [cupellaw13_Far.l0, if_pos (by omega), if_pos (by omega), hrd]
        by_cases h2 : (l[i].f2.size : Int) > 300
        · rw [if_pos h2, if_neg (fun e => h1 ⟨h2, e⟩)]; exact key
        · rw [if_neg h2]; exact key
      · intro e a ha
        rw [hdrop] at ha
        split at e
        · cases e
        · split at e
          · cases e
          · split at e
            · cases e
            · rcases List.mem_cons.1 ha with rfl | ha
              · exact ⟨by omega, by omega, by omega⟩
              · exact hb e a ha
theorem far_ex (l : List Act13) : ∃ k b, cupellaw13_Far.f k l = some b ∧ (b = false → FarOk l) := by
  by_cases h : l.length ≤ 100
  · obtain ⟨k, b, hk, hb⟩ := far_loop l _ 0 rfl (by omega) h
    refine ⟨k, b, ?_, fun e => ⟨h, fun a ha => hb e a (by simpa using ha)⟩⟩
    unfold cupellaw13_Far.f
    rw [if_neg (by omega)]; exact hk
  · refine ⟨0, true, ?_, fun e => by cases e⟩
    unfold cupellaw13_Far.f
    rw [if_pos (by omega)]

/-! ### Do -/
def doT (T : Tb) (a : Act13) : Tb × Int := if a.f0 = 0 then putT T a.f1 a.f2 a.f3 else dropT T a.f1
def vA (a : Act13) : Value := .agg #[.int .i64 a.f0, .string a.f1, .string a.f2, .int .i64 a.f3]
set_option maxHeartbeats 4000000 in
set_option maxRecDepth 100000 in
theorem do_any {B : Nat} {S : Nat → Prop} {t : Nat} {T : Tb} {w : World} (hB : B ≤ w.heap.size) (h : TB B S t T w) (hlen : T.l.length < 1000000) (a : Act13) (hn : a.f1.size ≤ 300) :
    Calls Try.prog 17 #[.pointer (some ⟨t, 0, none⟩), vA a] w (PutPost B S t w (doT T a)) := by
  unfold vA doT
  have H := Aside0.mk h
  have hbw : Below w.heap.size w (w.alloc (.cells #[.int .i64 a.f0, .string a.f1, .string a.f2, .int .i64 a.f3] 43)) := (Below.refl _ w).alloc (Nat.le_refl _) _
  have HBW := Aside0.mk hbw
  have hzB : B ≤ (w.alloc (.cells #[.int .i64 a.f0, .string a.f1, .string a.f2, .int .i64 a.f3] 43)).heap.size := Nat.le_trans hB hbw.size
  have HZB := Aside0.mk hzB
  have hch : ∀ w', Ch B S (w.alloc (.cells #[.int .i64 a.f0, .string a.f1, .string a.f2, .int .i64 a.f3] 43)) w' → Ch B S w w' := fun w' h => (Ch.of_below S hbw hB).trans h (fun x hx => .inl hx)
  have HCH := Aside0.mk hch
  clear h hbw hzB hch
  by_cases h0 : a.f0 = 0
  · rw [if_pos h0]
    have d0 : (a.f0 == 0) = true := by simpa using h0
    clear h0
    go_enter Try.func17, Try.ntmps17
    go_wp2_with fail
    refine (put_any HZB.out (H.out.below HBW.out) hlen a.f1 a.f2 a.f3 (by omega)).mono ?_
    rintro e w3 ⟨rfl, hT, hb⟩
    have HT := Aside0.mk hT
    have HB := Aside0.mk hb
    clear hT hb
    go_wp2
    go_ret
    exact ⟨rfl, HT.out, HCH.out _ HB.out⟩
  · rw [if_neg h0]
    have d0 : (a.f0 == 0) = false := by simpa using h0
    clear h0
    go_enter Try.func17, Try.ntmps17
    go_wp2_with fail
    refine (drop_any HZB.out (H.out.below HBW.out) hlen a.f1 (by omega)).mono ?_
    rintro e w3 ⟨rfl, hT, hb⟩
    have HT := Aside0.mk hT
    have HB := Aside0.mk hb
    clear hT hb
    go_wp2
    go_ret
    exact ⟨rfl, HT.out, HCH.out _ HB.out⟩
theorem doT_len (T : Tb) (a : Act13) : (doT T a).1.l.length ≤ T.l.length + 1 := by
  unfold doT
  split
  · exact putT_len _ _ _ _
  · exact dropT_len _ _
theorem find_mem {T : Tb} (h : Sorted T.l) {f : Fl} (hf : f ∈ T.l) : (findT T f.f0).2 = if here f = true then 0 else 3 := by
  unfold findT
  by_cases hh : here f = true
  · have : get here T.l f.f0.data.toList = some f := get_of_mem h hf hh
    rw [this, if_pos hh]
  · have : get here T.l f.f0.data.toList = none := by
      cases hg : get here T.l f.f0.data.toList with
      | none => rfl
      | some g =>
        obtain ⟨g1, g2, g3⟩ := get_some hg
        have e1 := get_of_mem (sel := fun _ => true) h hf rfl
        have e2 := get_of_mem (sel := fun _ => true) h g1 rfl
        rw [show nmL g = nmL f from g2] at e2
        rw [e1] at e2
        obtain rfl := Option.some.inj e2
        exact absurd g3 hh
    rw [this, if_neg hh]
def cntF (T : Tb) (i : Nat) : Nat := ((T.l.take i).filter here).length
theorem cntF_succ (T : Tb) (i : Nat) (hi : i < T.l.length) : cntF T (i + 1) = cntF T i + if here T.l[i] = true then 1 else 0 := by
  unfold cntF
  rw [List.take_succ_eq_append_getElem hi, List.filter_append, List.length_append]
  by_cases h : here T.l[i] = true <;> simp [h]
end Go.Proofs.Ytonhfcjldbohbaa.Fi

namespace Go.Proofs.Ytonhfcjldbohbaa.Fi
open Go Go.RowKit Go.ChangeMaps Go.MapKept Go.Proofs.Ytonhfcjldbohbaa.PA Go.Proofs.YtonhfcjldbohbaaW.PrintWords Go.Proofs.YtonhfcjldbohbaaW.PrintLast Go.Proofs.YtonhfcjldbohbaaW.PrintMore
attribute [local go_sem] Oper.semAt_some
set_option linter.unusedVariables false
set_option linter.unusedSimpArgs false

theorem C_below {α : Type} {d : Kd α} {w w' : World} {A : Option Addr} {n : Nat} {xs : List α} (h : Kd.C d w A n xs) (hb : Below w.heap.size w w') : Kd.C d w' A n xs := by
  first | exact Kd.C_below h hb | exact h.below hb | exact Kd.C.below h hb
/-- A list of strings, read. -/
def Ro (w : World) (A : Option Addr) (c : Nat) (xs : List ByteArray) : Prop := w.ownsRow 0 9 1 (.slice A xs.length c) xs.length (encs Value.string xs)
theorem Ro.below {w w' : World} {A : Option Addr} {c : Nat} {xs : List ByteArray} (h : Ro w A c xs) (hb : Below w.heap.size w w') : Ro w' A c xs := own_heap h (fun k e => hb.block k (h.lt k e).2)
theorem Ro.at_ {w : World} {A : Option Addr} {c : Nat} {xs : List ByteArray} (h : Ro w A c xs) (i : Nat) (hi : i < xs.length) : ∃ ad, A = some ad ∧ w.cell? (ad.add i) = some (.string xs[i]) := by
  obtain ⟨ad, e, hc⟩ := (own_reads_of' (d := ByteArray.empty) h).at_ (i : Int) (by omega) (by omega)
  rw [Int.toNat_natCast] at hc
  have : rdOf ByteArray.empty xs (i : Int) = xs[i] := by simp [rdOf, List.getD_eq_getElem?_getD, List.getElem?_eq_getElem hi]
  rw [this] at hc
  exact ⟨ad, e, hc⟩
theorem since_ro {B : Nat} {S : Nat → Prop} {t : Nat} {T : Tb} {w : World} (h : TB B S t T w) (rev : Int) :
    Calls Try.prog 14 #[.pointer (some ⟨t, 0, none⟩), .int .i64 rev] w fun e w' => ∃ A c, e = .returned (.slice A (sinceF T rev).length c) ∧ Ro w' A c (sinceF T rev) ∧ Below w.heap.size w w' := by
  refine (since_any h rev).mono ?_
  rintro e w' ⟨A, c, rfl, h1, h2⟩
  exact ⟨A, c, rfl, own_base h1 (Nat.zero_le _), h2⟩
theorem act_mem (l : List Act13) (j : Nat) (h : j < l.length) : rd_T43 l (j : Int) = l[j] := by simp [rd_T43, List.getD_eq_getElem?_getD, List.getElem?_eq_getElem h]

end Go.Proofs.Ytonhfcjldbohbaa.Fi

namespace Go.Proofs.Ytonhfcjldbohbaa.Fi
open Go Go.RowKit Go.ChangeMaps Go.MapKept Go.Proofs.Ytonhfcjldbohbaa.PA Go.Proofs.YtonhfcjldbohbaaW.PrintWords Go.Proofs.YtonhfcjldbohbaaW.PrintLast Go.Proofs.YtonhfcjldbohbaaW.PrintMore
set_option linter.unusedVariables false
set_option linter.unusedSimpArgs false

theorem eqA32 (d : Nat) (w : World) (x0 y0 x1 y1 : ByteArray) (x2 y2 : Int) (x3 y3 : Int) :
    (Op.equalIn (d + 2) 32 (.agg #[.string x0, .string x1, .int .i64 x2, .int .i64 x3]) (.agg #[.string y0, .string y1, .int .i64 y2, .int .i64 y3])).run Try.prog w = .ok (x0.toList == y0.toList && (x1.toList == y1.toList && (x2 == y2 && (x3 == y3)))) w := by
  refine eqA_of Try.underlying32 (by kernel_rfl) ?_
  refine eqf_cons (by rfl) (by go_simp; rfl) (by go_simp; rfl) (by go_simp) ?_
  refine eqf_cons (by rfl) (by go_simp; rfl) (by go_simp; rfl) (by go_simp) ?_
  refine eqf_cons (by rfl) (by go_simp; rfl) (by go_simp; rfl) (by go_simp) ?_
  exact eqf_last (by rfl) (by go_simp; rfl) (by go_simp; rfl) (by go_simp)
def eqF (x y : Fl) : Bool := x.f0.toList == y.f0.toList && (x.f1.toList == y.f1.toList && (x.f2 == y.f2 && (x.f3 == y.f3)))
abbrev zF : Fl := ⟨nil0, nil0, 0, 0, false⟩
/-- Alike, as far as k. -/
def aL (x y : List Fl) (k : Nat) : Bool := (x.length == y.length) && (List.range k).all fun j => eqF (x.getD j zF) (y.getD j zF)
end Go.Proofs.Ytonhfcjldbohbaa.Fi

namespace Go.Proofs.Ytonhfcjldbohbaa.Fi
open Go Go.RowKit Go.ChangeMaps Go.MapKept Go.Proofs.Ytonhfcjldbohbaa.PA Go.Proofs.YtonhfcjldbohbaaW.PrintWords Go.Proofs.YtonhfcjldbohbaaW.PrintLast Go.Proofs.YtonhfcjldbohbaaW.PrintMore
attribute [local go_sem] Oper.semAt_some
set_option linter.unusedVariables false
set_option linter.unusedSimpArgs false

/-- A list of files, read. -/
def Rf (w : World) (A : Option Addr) (c : Nat) (ys : List Fl) : Prop := w.ownsRow 0 32 4 (.slice A ys.length c) ys.length (fcs ys)
theorem Rf.below {w w' : World} {A : Option Addr} {c : Nat} {ys : List Fl} (h : Rf w A c ys) (hb : Below w.heap.size w w') : Rf w' A c ys := own_heap h (fun k e => hb.block k (h.lt k e).2)
theorem Rf.at_ {w : World} {A : Option Addr} {c : Nat} {ys : List Fl} (h : Rf w A c ys) (j : Nat) (hj : j < ys.length) : ∃ ad, A = some ad ∧ w.cell? (ad.add (j * 4)) = some (.string ys[j].f0) ∧ w.cell? ⟨(ad.add (j * 4)).block, (ad.add (j * 4)).off + 1, none⟩ = some (.string ys[j].f1) ∧
    w.cell? ⟨(ad.add (j * 4)).block, (ad.add (j * 4)).off + 2, none⟩ = some (.int .i64 ys[j].f2) ∧ w.cell? ⟨(ad.add (j * 4)).block, (ad.add (j * 4)).off + 3, none⟩ = some (.int .i64 ys[j].f3) := by
  obtain ⟨g, rfl, h0⟩ := row_at (i := 0) h hj (by decide) rfl
  obtain ⟨g1, e1, h1⟩ := row_at (i := 1) h hj (by decide) rfl
  obtain ⟨g2, e2, h2⟩ := row_at (i := 2) h hj (by decide) rfl
  obtain ⟨g3, e3, h3⟩ := row_at (i := 3) h hj (by decide) rfl
  simp at e1 e2 e3
  subst e1 e2 e3
  have ha : (⟨g, 0, none⟩ : Addr).add (j * 4) = ⟨g, j * 4, none⟩ := by unfold Addr.add; split <;> simp [*]
  refine ⟨_, rfl, ?_, ?_, ?_, ?_⟩ <;> rw [ha]
  · exact h0
  · exact h1
  · exact h2
  · exact h3
theorem all_rf {B : Nat} {S : Nat → Prop} {t : Nat} {T : Tb} {w : World} (h : TB B S t T w) :
    Calls Try.prog 12 #[.pointer (some ⟨t, 0, none⟩)] w fun e w' => ∃ A c, e = .returned (.slice A (allF T).length c) ∧ Rf w' A c (allF T) ∧ Below w.heap.size w w' := by
  refine (all_src B S (some ⟨t, 0, none⟩) (allF T) w h.src).mono ?_
  rintro e w' ⟨v, rfl, h1, h2⟩
  obtain ⟨A, c, rfl⟩ := own_slice h1
  exact ⟨A, c, rfl, own_base h1 (Nat.zero_le _), h2⟩
attribute [local go_sem high] eqA32

end Go.Proofs.Ytonhfcjldbohbaa.Fi
