/- lex: the scanner behind its pointer; tell, add, run. -/
import Derived.Test.YtonhfcjldbohbaaPAx1
import Derived.Lib.Hide
import Derived.Outline
import Derived.Deep.RegionHeld3
import Derived.Deep.AppendLies
import Derived.Deep.QuietTactic
import Derived.BigQuiet
import Derived.StillTactics
import Derived.Lib.Builder
import Derived.WalkSpells
namespace Go.Proofs.Ytonhfcjldbohbaa.Lx
open Go.RowKit Go.Proofs.Ytonhfcjldbohbaa.PA Go.Proofs.YtonhfcjldbohbaaW.PrintWords Go.Proofs.YtonhfcjldbohbaaW.PrintLast Go.Proofs.YtonhfcjldbohbaaW.PrintMore
set_option linter.unusedVariables false
set_option linter.unusedSimpArgs false

abbrev Tk := S100
abbrev Dg := S134
def tkc (t : Tk) : List Value := [.int .i64 t.f0, .int .i64 t.f1, .string t.f2]
def dgc (t : Dg) : List Value := [.int .i64 t.f0, .int .i64 t.f1, .string t.f2]
def tks (l : List Tk) : List Value := l.flatMap tkc
def dgs (l : List Dg) : List Value := l.flatMap dgc
theorem tks_snoc (l : List Tk) (t : Tk) : tks (l ++ [t]) = tks l ++ [.int .i64 t.f0, .int .i64 t.f1, .string t.f2] := by simp [tks, tkc]
theorem infoTok : (Try.prog.info? 100).map (fun i => (i.zero, i.size, i.bytes)) = some (some (.agg #[.int .i64 0, .int .i64 0, .string ⟨#[]⟩]), 3, 32) := by kernel_rfl
theorem infoDiag : (Try.prog.info? 134).map (fun i => (i.zero, i.size, i.bytes)) = some (some (.agg #[.int .i64 0, .int .i64 0, .string ⟨#[]⟩]), 3, 32) := by kernel_rfl

/-- The scanner's block: source, place, tokens and what was told, these in rows of their own from block B on. -/
def Sc (B g : Nat) (src : ByteArray) (at_ : Int) (tk : List Tk) (dg : List Dg) (w : World) : Prop :=
  ∃ vt vd, w.heap[g]? = some (.cells #[.string src, .int .i64 at_, vt, vd] 116 (0, 0)) ∧ w.ownsRow B 100 3 vt tk.length (tks tk) ∧ w.ownsRow B 134 3 vd dg.length (dgs dg) ∧ B ≤ g

theorem own_ne {w : World} {B e size n g t : Nat} {v : Value} {xs : List Value} {cs : Array Value} (h : w.ownsRow B e size v n xs) (hb : w.heap[g]? = some (.cells cs t (0, 0))) (hne : e ≠ t) : some g ≠ v.ownBlock := by
  rcases h.2 with ⟨rfl, _⟩ | ⟨g', cap, cur, rfl, _, hh, _⟩
  · simp [Value.ownBlock]
  · intro he
    have : g = g' := by simpa [Value.ownBlock] using he
    subst this
    rw [hb] at hh
    injection hh with hh
    injection hh with _ ht
    exact hne ht.symm
theorem own_own {w : World} {B B' e e' size size' n n' : Nat} {v v' : Value} {xs xs' : List Value} (h : w.ownsRow B e size v n xs) (h' : w.ownsRow B' e' size' v' n' xs') (hne : e ≠ e') : v.ownBlock = none ∨ v.ownBlock ≠ v'.ownBlock := by
  rcases h.2 with ⟨rfl, _⟩ | ⟨g, cap, cur, rfl, _, hh, _⟩
  · exact .inl rfl
  · exact .inr (fun he => own_ne h' hh hne.symm (by rw [← he]; rfl))
theorem frz_alloc {w : World} {g o : Nat} (h : g < w.heap.size) (hf : w.frozen? ⟨g, o, none⟩ = false) (x : Obj) : (w.alloc x).frozen? ⟨g, o, none⟩ = false :=
  (World.frozen?_of_block (w := w) (Below.heap_alloc w x g h)).trans hf
theorem cel_alloc {w : World} {g o : Nat} {v : Value} (h : g < w.heap.size) (hf : w.cell? ⟨g, o, none⟩ = some v) (x : Obj) : (w.alloc x).cell? ⟨g, o, none⟩ = some v :=
  (World.cell?_of_block (w := w) (Below.heap_alloc w x g h)).trans hf
/-- A row stays behind a store into a block of another type. -/
theorem own_set {w : World} {B e size n g t : Nat} {v : Value} {xs : List Value} {cs : Array Value} (h : w.ownsRow B e size v n xs) (hb : w.heap[g]? = some (.cells cs t (0, 0))) (hne : e ≠ t) (o : Nat) (u : Value) : (w.setCell ⟨g, o, none⟩ u).ownsRow B e size v n xs := by
  have hn := own_ne h hb hne
  refine ⟨h.1, ?_⟩
  rcases h.2 with hv | ⟨g', cap, cur, rfl, hB, hh, r⟩
  · exact .inl hv
  · refine .inr ⟨g', cap, cur, rfl, hB, ?_, r⟩
    rw [Below.heap_setCell _ _ _ _ (fun he => hn (by rw [he]; rfl))]
    exact hh
theorem blk_set {w : World} {g t : Nat} {cs : Array Value} (h : w.heap[g]? = some (.cells cs t (0, 0))) (i : Nat) (u : Value) : (w.setCell ⟨g, i, none⟩ u).heap[g]? = some (.cells (cs.setIfInBounds i u) t (0, 0)) := by
  simp [World.setCell, Array.getElem?_modify, h]

section
variable {B g : Nat} {src : ByteArray} {at_ : Int} {tk : List Tk} {dg : List Dg} {w w' : World}
theorem Sc.drew (h : Sc B g src at_ tk dg w) : Sc B g src at_ tk dg w.drew := h
theorem Sc.drewN (h : Sc B g src at_ tk dg w) (n : Nat) : Sc B g src at_ tk dg (w.drewN n) := by
  induction n generalizing w with
  | zero => exact h
  | succ n ih => rw [← World.drew_drewN]; exact ih h.drew
theorem Sc.alloc (h : Sc B g src at_ tk dg w) (o : Obj) : Sc B g src at_ tk dg (w.alloc o) := by
  obtain ⟨vt, vd, hb, ht, hd, hB⟩ := h
  exact ⟨vt, vd, (Below.heap_alloc w o g (Array.getElem?_eq_some_iff.1 hb).1).trans hb, ht.alloc o, hd.alloc o, hB⟩
/-- Another place. -/
theorem Sc.move (h : Sc B g src at_ tk dg w) (n : Int) : Sc B g src n tk dg (w.setCell ⟨g, 1, none⟩ (.int .i64 n)) := by
  obtain ⟨vt, vd, hb, ht, hd, hB⟩ := h
  exact ⟨vt, vd, blk_set hb 1 _, own_set ht hb (by decide) _ _, own_set hd hb (by decide) _ _, hB⟩
theorem Sc.cell1 (h : Sc B g src at_ tk dg w) : w.cell? ⟨g, 1, none⟩ = some (.int .i64 at_) := by
  obtain ⟨vt, vd, hb, _⟩ := h
  rw [Lib.cell_of_heap hb]; rfl
theorem Sc.cell0 (h : Sc B g src at_ tk dg w) : w.cell? ⟨g, 0, none⟩ = some (.string src) := by
  obtain ⟨vt, vd, hb, _⟩ := h
  rw [Lib.cell_of_heap hb]; rfl
theorem Sc.free (h : Sc B g src at_ tk dg w) (o : Nat) : w.frozen? ⟨g, o, none⟩ = false := by
  obtain ⟨vt, vd, hb, _⟩ := h
  exact Lib.frozen_of_heap hb o
theorem Sc.lt (h : Sc B g src at_ tk dg w) : g < w.heap.size := by
  obtain ⟨vt, vd, hb, _⟩ := h
  exact (Array.getElem?_eq_some_iff.1 hb).1
theorem Sc.ge (h : Sc B g src at_ tk dg w) : B ≤ g := by
  obtain ⟨vt, vd, hb, _, _, hB⟩ := h
  exact hB
end

/-- What an append leaves of the scanner: a row has grown, its new value is stored. -/
theorem grown_plain {w w1 : World} {o : Obj} {row : Option Nat} (h : (w.drew.alloc o).grownBy w1 row) : (w.alloc o).grownBy w1 row := ⟨h.os, h.tape, h.output, h.size, h.block⟩
theorem sc_tell {B g : Nat} {src : ByteArray} {at_ : Int} {tk : List Tk} {dg : List Dg} {w w1 : World} {vt vd v1 : Value} {o : Obj} {d : Dg} (hb : w.heap[g]? = some (.cells #[.string src, .int .i64 at_, vt, vd] 116 (0, 0))) (ht : w.ownsRow B 100 3 vt tk.length (tks tk)) (hd : w.ownsRow B 134 3 vd dg.length (dgs dg)) (hBg : B ≤ g)
    (hg : (w.alloc o).grownBy w1 vd.ownBlock) (ho : w1.ownsRow B 134 3 v1 (dg.length + 1) (dgs dg ++ dgc d)) (hB : B ≤ w.heap.size) : Sc B g src at_ tk (dg ++ [d]) (w1.setCell ⟨g, 3, none⟩ v1) ∧ Below B w (w1.setCell ⟨g, 3, none⟩ v1) := by
  have hlt : g < w.heap.size := (Array.getElem?_eq_some_iff.1 hb).1
  have h1 : w1.heap[g]? = some (.cells #[.string src, .int .i64 at_, vt, vd] 116 (0, 0)) := by
    rw [hg.block g (by simp; omega) (own_ne hd hb (by decide)), Below.heap_alloc w o g hlt]; exact hb
  have ht1 := (ht.alloc o).kept hg (own_own ht hd (by decide))
  refine ⟨⟨vt, v1, blk_set h1 3 _, own_set ht1 h1 (by decide) _ _, ?_, hBg⟩, ?_⟩
  · have : dgs (dg ++ [d]) = dgs dg ++ dgc d := by simp [dgs]
    rw [this, List.length_append]
    exact own_set ho h1 (by decide) _ _
  · exact (((Below.refl B w).alloc hB o).grown hg (by simp; omega) (fun k hk => (hd.lt k hk).1)).setCell (p := ⟨g, 3, none⟩) hBg _
theorem sc_add {B g : Nat} {src : ByteArray} {at_ : Int} {tk : List Tk} {dg : List Dg} {w w1 : World} {vt vd v1 : Value} {o : Obj} {d : Tk} (hb : w.heap[g]? = some (.cells #[.string src, .int .i64 at_, vt, vd] 116 (0, 0))) (ht : w.ownsRow B 100 3 vt tk.length (tks tk)) (hd : w.ownsRow B 134 3 vd dg.length (dgs dg)) (hBg : B ≤ g)
    (hg : (w.alloc o).grownBy w1 vt.ownBlock) (ho : w1.ownsRow B 100 3 v1 (tk.length + 1) (tks tk ++ tkc d)) (hB : B ≤ w.heap.size) : Sc B g src at_ (tk ++ [d]) dg (w1.setCell ⟨g, 2, none⟩ v1) ∧ Below B w (w1.setCell ⟨g, 2, none⟩ v1) := by
  have hlt : g < w.heap.size := (Array.getElem?_eq_some_iff.1 hb).1
  have h1 : w1.heap[g]? = some (.cells #[.string src, .int .i64 at_, vt, vd] 116 (0, 0)) := by
    rw [hg.block g (by simp; omega) (own_ne ht hb (by decide)), Below.heap_alloc w o g hlt]; exact hb
  have hd1 := (hd.alloc o).kept hg (own_own hd ht (by decide))
  refine ⟨⟨v1, vd, blk_set h1 2 _, ?_, own_set hd1 h1 (by decide) _ _, hBg⟩, ?_⟩
  · have : tks (tk ++ [d]) = tks tk ++ tkc d := by simp [tks]
    rw [this, List.length_append]
    exact own_set ho h1 (by decide) _ _
  · exact (((Below.refl B w).alloc hB o).grown hg (by simp; omega) (fun k hk => (ht.lt k hk).1)).setCell (p := ⟨g, 2, none⟩) hBg _

set_option maxHeartbeats 3200000 in
set_option maxRecDepth 100000 in
/-- tell: something is wrong here. -/
theorem tell_any (B g : Nat) (src : ByteArray) (at_ code : Int) (tk : List Tk) (dg : List Dg) (w : World) (h : Sc B g src at_ tk dg w) (hB : B ≤ w.heap.size) (hl : dg.length + 1 ≤ 4398046511104) :
    Calls Try.prog 80 #[.pointer (some ⟨g, 0, none⟩), .int .i64 code] w fun e w' => e = .returned (.tuple #[]) ∧ Sc B g src at_ tk (dg ++ [⟨at_, code, ⟨#[]⟩⟩]) w' ∧ Below B w w' := by
  obtain ⟨i0, hi0, hz0, hz1, hz2⟩ := info_parts infoDiag
  obtain ⟨vt, vd, hb, ht, hd, hBg⟩ := h
  have c1 : w.cell? ⟨g, 1, none⟩ = some (.int .i64 at_) := by rw [Lib.cell_of_heap hb]; rfl
  have c3 : w.cell? ⟨g, 3, none⟩ = some vd := by rw [Lib.cell_of_heap hb]; rfl
  have c4 : w.frozen? ⟨g, 3, none⟩ = false := Lib.frozen_of_heap hb 3
  have hlt : g < w.heap.size := (Array.getElem?_eq_some_iff.1 hb).1
  have hne := Lib.hid (own_ne hd hb (show 134 ≠ 116 by decide))
  have hoo := Lib.hid (own_own ht hd (show 100 ≠ 134 by decide))
  have HB := Lib.hid hb
  have HT := Lib.hid ht
  have HD := Lib.hid hd
  clear hb ht hd
  have hm : dg.length + 1 ≤ maxLen := by unfold maxLen; omega
  go_enter Try.func80, Try.ntmps80
  go_wp2_with fail
  refine start_ (n := 16) (S := fun w' => w'.cell? ⟨g, 1, none⟩ = some (.int .i64 at_) ∧ w'.cell? ⟨g, 3, none⟩ = some vd) (ds := [15]) #[false, false, false, false, false, false, false, false, false, false, false, false, false, false, false, false] (by kernel_rfl) rfl rfl ⟨c1, c3⟩ (fun hHeld => ?_)
  refine pure_ (i := 0) (N := some 4) (v := ?_) (a' := ?_) #[true, false, false, false, false, false, false, false, false, false, false, false, false, false, false, false] rfl rfl (by kernel_rfl) (fun _ _ _ h => h) (Or.inl ⟨by rfl, ?_⟩) ?_ ?_
  rotate_left
  · intro w'
    go_simp
    with_reducible rfl
  rotate_left
  · simp only [Act.put, List.setIfInBounds_toArray, List.set_cons_zero, List.set_cons_succ, i64_w, i32_w]
    rfl
  refine pure_ (i := 1) (N := some 5) (v := ?_) (a' := ?_) #[true, true, false, false, false, false, false, false, false, false, false, false, false, false, false, false] rfl rfl (by kernel_rfl) (fun _ _ _ h => h) (Or.inl ⟨by rfl, ?_⟩) ?_ ?_
  rotate_left
  · intro w'
    go_simp
    with_reducible rfl
  rotate_left
  · simp only [Act.put, List.setIfInBounds_toArray, List.set_cons_zero, List.set_cons_succ, i64_w, i32_w]
    rfl
  refine pure_ (i := 2) (N := some 6) (v := ?_) (a' := ?_) #[true, true, true, false, false, false, false, false, false, false, false, false, false, false, false, false] rfl rfl (by kernel_rfl) (fun _ _ _ h => h) (Or.inl ⟨by rfl, ?_⟩) ?_ ?_
  rotate_left
  · intro w'
    go_simp
    with_reducible rfl
  rotate_left
  · simp only [Act.put, List.setIfInBounds_toArray, List.set_cons_zero, List.set_cons_succ, i64_w, i32_w]
    rfl
  refine pure_ (i := 3) (N := some 7) (v := ?_) (a' := ?_) #[true, true, true, true, false, false, false, false, false, false, false, false, false, false, false, false] rfl rfl (by kernel_rfl) (fun _ _ _ h => h) (Or.inl ⟨by rfl, ?_⟩) ?_ ?_
  rotate_left
  · intro w'
    go_simp
    with_reducible rfl
  rotate_left
  · simp only [Act.put, List.setIfInBounds_toArray, List.set_cons_zero, List.set_cons_succ, i64_w, i32_w]
    rfl
  refine pure_ (i := 5) (N := some 9) (v := ?_) (a' := ?_) #[true, true, true, true, false, true, false, false, false, false, false, false, false, false, false, false] rfl rfl (by kernel_rfl) (fun _ _ _ h => h) (Or.inl ⟨by rfl, ?_⟩) ?_ ?_
  rotate_left
  · intro w'
    go_simp
    with_reducible rfl
  rotate_left
  · simp only [Act.put, List.setIfInBounds_toArray, List.set_cons_zero, List.set_cons_succ, i64_w, i32_w]
    rfl
  refine pure_ (i := 6) (N := some 10) (v := ?_) (a' := ?_) #[true, true, true, true, false, true, true, false, false, false, false, false, false, false, false, false] rfl rfl (by kernel_rfl) (fun _ _ _ h => h) (Or.inl ⟨by rfl, ?_⟩) ?_ ?_
  rotate_left
  · intro w'
    go_simp
    with_reducible rfl
  rotate_left
  · simp only [Act.put, List.setIfInBounds_toArray, List.set_cons_zero, List.set_cons_succ, i64_w, i32_w]
    rfl
  refine pure_ (i := 7) (N := some 11) (v := ?_) (a' := ?_) #[true, true, true, true, false, true, true, true, false, false, false, false, false, false, false, false] rfl rfl (by kernel_rfl) (fun _ _ _ h => h) (Or.inl ⟨by rfl, ?_⟩) ?_ ?_
  rotate_left
  · intro w'
    go_simp
    with_reducible rfl
  rotate_left
  · simp only [Act.put, List.setIfInBounds_toArray, List.set_cons_zero, List.set_cons_succ, i64_w, i32_w]
    rfl
  refine pure_ (i := 9) (N := some 13) (v := ?_) (a' := ?_) #[true, true, true, true, false, true, true, true, false, true, false, false, false, false, false, false] rfl rfl (by kernel_rfl) (fun _ _ _ h => h) (Or.inl ⟨by rfl, ?_⟩) ?_ ?_
  rotate_left
  · intro w'
    go_simp
    with_reducible rfl
  rotate_left
  · simp only [Act.put, List.setIfInBounds_toArray, List.set_cons_zero, List.set_cons_succ, i64_w, i32_w]
    rfl
  refine take_ (i := 4) (N := some 8) (v := ?_) (a' := ?_) #[true, true, true, true, true, true, true, true, false, true, false, false, false, false, false, false] rfl rfl (by kernel_rfl) (fun _ _ _ h => h) (Or.inl ⟨by rfl, ?_⟩) hHeld ?_ ?_
  rotate_left
  · rintro w' ⟨s0, s1⟩
    go_simp
    with_reducible rfl
  rotate_left
  · simp only [Act.put, List.setIfInBounds_toArray, List.set_cons_zero, List.set_cons_succ, i64_w, i32_w]
    rfl
  refine take_ (i := 8) (N := some 12) (v := ?_) (a' := ?_) #[true, true, true, true, true, true, true, true, true, true, false, false, false, false, false, false] rfl rfl (by kernel_rfl) (fun _ _ _ h => h) (Or.inl ⟨by rfl, ?_⟩) hHeld ?_ ?_
  rotate_left
  · rintro w' ⟨s0, s1⟩
    go_simp
    with_reducible rfl
  rotate_left
  · simp only [Act.put, List.setIfInBounds_toArray, List.set_cons_zero, List.set_cons_succ, i64_w, i32_w]
    rfl
  refine pure_ (i := 10) (N := some 14) (v := ?_) (a' := ?_) #[true, true, true, true, true, true, true, true, true, true, true, false, false, false, false, false] rfl rfl (by kernel_rfl) (fun _ _ _ h => h) (Or.inl ⟨by rfl, ?_⟩) ?_ ?_
  rotate_left
  · intro w'
    go_simp
    with_reducible rfl
  rotate_left
  · simp only [Act.put, List.setIfInBounds_toArray, List.set_cons_zero, List.set_cons_succ, i64_w, i32_w]
    rfl
  refine one_ (i := 11) (N := some 15) #[true, true, true, true, true, true, true, true, true, true, true, true, false, false, false, false] rfl rfl (by kernel_rfl) (by decide) (fun K hK => ?_)
  refine value_ (w1 := ?_) (v := ?_) (by rfl) rfl ?_ ?_
  rotate_left 2
  · go_simp
    constructor
    · rfl
    · rfl
  refine hK.out _ _ ⟨cel_alloc hlt c1 _, cel_alloc hlt c3 _⟩ (fun hHeld => ?_)
  clear hK K
  refine norm_ (a' := ?_) ?_ ?_
  rotate_left
  · show Act.put _ (some 15) _ = _
    simp only [Act.put, List.setIfInBounds_toArray, List.set_cons_zero, List.set_cons_succ, i64_w, i32_w]
    rfl
  refine one_ (i := 12) (N := some 16) #[true, true, true, true, true, true, true, true, true, true, true, true, true, false, false, false] rfl rfl (by kernel_rfl) (by decide) (fun K hK => ?_)
  refine step_append_lies _ (by rfl) _ _ _ (by rfl) B 134 i0 _ 3 32 Try.underlying97 hi0 hz0 hz1 hz2 rfl (by omega) vd dg.length (dgs dg) (by rfl) (HD.out.alloc _) ⟨w.heap.size, 0, none⟩ 1 1 [.int .i64 at_, .int .i64 code, .string ⟨#[]⟩] (by rfl) (by rfl) (World.news_of_block (cs := #[.int .i64 at_, .int .i64 code, .string ⟨#[]⟩]) (t := 134) (fr := (0, 0)) (heap_alloc_new w _)) (by simp [Value.oneCell']) (by omega) hm (by omega) (by simp; omega) (w.heap.size + 1) (by simp) ?_
  intro gg cap w1 hown1 hgrow hat hlt1
  have hf1 : w1.frozen? ⟨g, 3, none⟩ = false := (hgrow.frozen_far _ (by simp; omega) hne.out).trans (frz_alloc hlt c4 _)
  have hd3 : w1.cell? ⟨g, 3, none⟩ = some vd := (hgrow.cell_far _ (by simp; omega) hne.out).trans (cel_alloc hlt c3 _)
  refine hK.out _ _ ⟨(hgrow.cell_far _ (by simp; omega) hne.out).trans (cel_alloc hlt c1 _), hd3⟩ (fun hHeld => ?_)
  clear hK K
  refine norm_ (a' := ?_) ?_ ?_
  rotate_left
  · show Act.put _ (some 16) _ = _
    simp only [Act.put, List.setIfInBounds_toArray, List.set_cons_zero, List.set_cons_succ, i64_w, i32_w]
    rfl
  refine pure_ (i := 13) (N := some 17) (v := ?_) (a' := ?_) #[true, true, true, true, true, true, true, true, true, true, true, true, true, true, false, false] rfl rfl (by kernel_rfl) (fun _ _ _ h => h) (Or.inl ⟨by rfl, ?_⟩) ?_ ?_
  rotate_left
  · intro w'
    go_simp
    with_reducible rfl
  rotate_left
  · simp only [Act.put, List.setIfInBounds_toArray, List.set_cons_zero, List.set_cons_succ, i64_w, i32_w]
    rfl
  refine pure_ (i := 14) (N := some 18) (v := ?_) (a' := ?_) #[true, true, true, true, true, true, true, true, true, true, true, true, true, true, true, false] rfl rfl (by kernel_rfl) (fun _ _ _ h => h) (Or.inl ⟨by rfl, ?_⟩) ?_ ?_
  rotate_left
  · intro w'
    go_simp
    with_reducible rfl
  rotate_left
  · simp only [Act.put, List.setIfInBounds_toArray, List.set_cons_zero, List.set_cons_succ, i64_w, i32_w]
    rfl
  refine last_ (i := 15) (N := none) #[true, true, true, true, true, true, true, true, true, true, true, true, true, true, true, true] rfl rfl (by kernel_rfl) (by decide) (fun K hK => ?_)
  refine skip_ (w1 := ?_) (by rfl) rfl ?_ ?_
  rotate_left
  · go_simp
    rfl
  refine hK.out _ _ ?_
  clear hK K
  refine done_ (by kernel_rfl) ?_
  go_end0
  obtain ⟨r1, r2⟩ := sc_tell HB.out HT.out HD.out hBg (grown_plain hgrow) (d := ⟨at_, code, ⟨#[]⟩⟩) hown1 hB
  exact ⟨rfl, r1, r2⟩

set_option maxHeartbeats 3200000 in
set_option maxRecDepth 100000 in
/-- add: a token of n bytes. -/
theorem add_any (B g : Nat) (src : ByteArray) (at_ kd n : Int) (tk : List Tk) (dg : List Dg) (w : World) (h : Sc B g src at_ tk dg w) (hB : B ≤ w.heap.size) (hl : tk.length + 1 ≤ 4398046511104)
    (h0 : 0 ≤ at_) (h1 : 0 ≤ n) (h2 : at_ + n ≤ (src.size : Int)) (h3 : src.size ≤ 140737488351232) :
    Calls Try.prog 74 #[.pointer (some ⟨g, 0, none⟩), .int .i64 kd, .int .i64 n] w fun e w' => e = .returned (.tuple #[]) ∧ Sc B g src (at_ + n) (tk ++ [⟨kd, at_, src.extract at_.toNat (at_ + n).toNat⟩]) dg w' ∧ Below B w w' := by
  obtain ⟨i0, hi0, hz0, hz1, hz2⟩ := info_parts infoTok
  obtain ⟨vt, vd, hb, ht, hd, hBg⟩ := h
  have c0 : w.cell? ⟨g, 0, none⟩ = some (.string src) := by rw [Lib.cell_of_heap hb]; rfl
  have c1 : w.cell? ⟨g, 1, none⟩ = some (.int .i64 at_) := by rw [Lib.cell_of_heap hb]; rfl
  have c2 : w.cell? ⟨g, 2, none⟩ = some vt := by rw [Lib.cell_of_heap hb]; rfl
  have c4 : w.frozen? ⟨g, 2, none⟩ = false := Lib.frozen_of_heap hb 2
  have hlt : g < w.heap.size := (Array.getElem?_eq_some_iff.1 hb).1
  have hne := Lib.hid (own_ne ht hb (show 100 ≠ 116 by decide))
  have HB := Lib.hid hb
  have HT := Lib.hid ht
  have HD := Lib.hid hd
  clear hb ht hd
  have hm : tk.length + 1 ≤ maxLen := by unfold maxLen; omega
  have hwr := Lib.hid ((i64_w _).symm.trans (IntWalk.i64_in (at_ + n) ⟨by omega, by omega⟩) : wrap64 (at_ + n) = at_ + n)
  have b1 : 0 ≤ wrap64 (at_ + n) := by rw [hwr.out]; omega
  have b2 : at_ ≤ wrap64 (at_ + n) := by rw [hwr.out]; omega
  have b3 : wrap64 (at_ + n) ≤ (src.size : Int) := by rw [hwr.out]; exact h2
  go_enter Try.func74, Try.ntmps74
  go_wp2_with fail
  refine start_ (n := 31) (S := fun w' => w'.cell? ⟨g, 0, none⟩ = some (.string src) ∧ w'.cell? ⟨g, 1, none⟩ = some (.int .i64 at_) ∧ w'.cell? ⟨g, 2, none⟩ = some vt) (ds := [30]) #[false, false, false, false, false, false, false, false, false, false, false, false, false, false, false, false, false, false, false, false, false, false, false, false, false, false, false, false, false, false, false] (by kernel_rfl) rfl rfl ⟨c0, c1, c2⟩ (fun hHeld => ?_)
  refine pure_ (i := 0) (N := some 6) (v := ?_) (a' := ?_) #[true, false, false, false, false, false, false, false, false, false, false, false, false, false, false, false, false, false, false, false, false, false, false, false, false, false, false, false, false, false, false] rfl rfl (by kernel_rfl) (fun _ _ _ h => h) (Or.inl ⟨by rfl, ?_⟩) ?_ ?_
  rotate_left
  · intro w'
    go_simp
    with_reducible rfl
  rotate_left
  · simp only [Act.put, List.setIfInBounds_toArray, List.set_cons_zero, List.set_cons_succ, i64_w, i32_w]
    rfl
  refine pure_ (i := 1) (N := some 7) (v := ?_) (a' := ?_) #[true, true, false, false, false, false, false, false, false, false, false, false, false, false, false, false, false, false, false, false, false, false, false, false, false, false, false, false, false, false, false] rfl rfl (by kernel_rfl) (fun _ _ _ h => h) (Or.inl ⟨by rfl, ?_⟩) ?_ ?_
  rotate_left
  · intro w'
    go_simp
    with_reducible rfl
  rotate_left
  · simp only [Act.put, List.setIfInBounds_toArray, List.set_cons_zero, List.set_cons_succ, i64_w, i32_w]
    rfl
  refine pure_ (i := 2) (N := some 8) (v := ?_) (a' := ?_) #[true, true, true, false, false, false, false, false, false, false, false, false, false, false, false, false, false, false, false, false, false, false, false, false, false, false, false, false, false, false, false] rfl rfl (by kernel_rfl) (fun _ _ _ h => h) (Or.inl ⟨by rfl, ?_⟩) ?_ ?_
  rotate_left
  · intro w'
    go_simp
    with_reducible rfl
  rotate_left
  · simp only [Act.put, List.setIfInBounds_toArray, List.set_cons_zero, List.set_cons_succ, i64_w, i32_w]
    rfl
  refine pure_ (i := 3) (N := some 9) (v := ?_) (a' := ?_) #[true, true, true, true, false, false, false, false, false, false, false, false, false, false, false, false, false, false, false, false, false, false, false, false, false, false, false, false, false, false, false] rfl rfl (by kernel_rfl) (fun _ _ _ h => h) (Or.inl ⟨by rfl, ?_⟩) ?_ ?_
  rotate_left
  · intro w'
    go_simp
    with_reducible rfl
  rotate_left
  · simp only [Act.put, List.setIfInBounds_toArray, List.set_cons_zero, List.set_cons_succ, i64_w, i32_w]
    rfl
  refine pure_ (i := 5) (N := some 11) (v := ?_) (a' := ?_) #[true, true, true, true, false, true, false, false, false, false, false, false, false, false, false, false, false, false, false, false, false, false, false, false, false, false, false, false, false, false, false] rfl rfl (by kernel_rfl) (fun _ _ _ h => h) (Or.inl ⟨by rfl, ?_⟩) ?_ ?_
  rotate_left
  · intro w'
    go_simp
    with_reducible rfl
  rotate_left
  · simp only [Act.put, List.setIfInBounds_toArray, List.set_cons_zero, List.set_cons_succ, i64_w, i32_w]
    rfl
  refine pure_ (i := 6) (N := some 12) (v := ?_) (a' := ?_) #[true, true, true, true, false, true, true, false, false, false, false, false, false, false, false, false, false, false, false, false, false, false, false, false, false, false, false, false, false, false, false] rfl rfl (by kernel_rfl) (fun _ _ _ h => h) (Or.inl ⟨by rfl, ?_⟩) ?_ ?_
  rotate_left
  · intro w'
    go_simp
    with_reducible rfl
  rotate_left
  · simp only [Act.put, List.setIfInBounds_toArray, List.set_cons_zero, List.set_cons_succ, i64_w, i32_w]
    rfl
  refine pure_ (i := 7) (N := some 13) (v := ?_) (a' := ?_) #[true, true, true, true, false, true, true, true, false, false, false, false, false, false, false, false, false, false, false, false, false, false, false, false, false, false, false, false, false, false, false] rfl rfl (by kernel_rfl) (fun _ _ _ h => h) (Or.inl ⟨by rfl, ?_⟩) ?_ ?_
  rotate_left
  · intro w'
    go_simp
    with_reducible rfl
  rotate_left
  · simp only [Act.put, List.setIfInBounds_toArray, List.set_cons_zero, List.set_cons_succ, i64_w, i32_w]
    rfl
  refine pure_ (i := 8) (N := some 14) (v := ?_) (a' := ?_) #[true, true, true, true, false, true, true, true, true, false, false, false, false, false, false, false, false, false, false, false, false, false, false, false, false, false, false, false, false, false, false] rfl rfl (by kernel_rfl) (fun _ _ _ h => h) (Or.inl ⟨by rfl, ?_⟩) ?_ ?_
  rotate_left
  · intro w'
    go_simp
    with_reducible rfl
  rotate_left
  · simp only [Act.put, List.setIfInBounds_toArray, List.set_cons_zero, List.set_cons_succ, i64_w, i32_w]
    rfl
  refine pure_ (i := 10) (N := some 16) (v := ?_) (a' := ?_) #[true, true, true, true, false, true, true, true, true, false, true, false, false, false, false, false, false, false, false, false, false, false, false, false, false, false, false, false, false, false, false] rfl rfl (by kernel_rfl) (fun _ _ _ h => h) (Or.inl ⟨by rfl, ?_⟩) ?_ ?_
  rotate_left
  · intro w'
    go_simp
    with_reducible rfl
  rotate_left
  · simp only [Act.put, List.setIfInBounds_toArray, List.set_cons_zero, List.set_cons_succ, i64_w, i32_w]
    rfl
  refine pure_ (i := 11) (N := some 17) (v := ?_) (a' := ?_) #[true, true, true, true, false, true, true, true, true, false, true, true, false, false, false, false, false, false, false, false, false, false, false, false, false, false, false, false, false, false, false] rfl rfl (by kernel_rfl) (fun _ _ _ h => h) (Or.inl ⟨by rfl, ?_⟩) ?_ ?_
  rotate_left
  · intro w'
    go_simp
    with_reducible rfl
  rotate_left
  · simp only [Act.put, List.setIfInBounds_toArray, List.set_cons_zero, List.set_cons_succ, i64_w, i32_w]
    rfl
  refine pure_ (i := 12) (N := some 18) (v := ?_) (a' := ?_) #[true, true, true, true, false, true, true, true, true, false, true, true, true, false, false, false, false, false, false, false, false, false, false, false, false, false, false, false, false, false, false] rfl rfl (by kernel_rfl) (fun _ _ _ h => h) (Or.inl ⟨by rfl, ?_⟩) ?_ ?_
  rotate_left
  · intro w'
    go_simp
    with_reducible rfl
  rotate_left
  · simp only [Act.put, List.setIfInBounds_toArray, List.set_cons_zero, List.set_cons_succ, i64_w, i32_w]
    rfl
  refine pure_ (i := 14) (N := some 20) (v := ?_) (a' := ?_) #[true, true, true, true, false, true, true, true, true, false, true, true, true, false, true, false, false, false, false, false, false, false, false, false, false, false, false, false, false, false, false] rfl rfl (by kernel_rfl) (fun _ _ _ h => h) (Or.inl ⟨by rfl, ?_⟩) ?_ ?_
  rotate_left
  · intro w'
    go_simp
    with_reducible rfl
  rotate_left
  · simp only [Act.put, List.setIfInBounds_toArray, List.set_cons_zero, List.set_cons_succ, i64_w, i32_w]
    rfl
  refine pure_ (i := 15) (N := some 21) (v := ?_) (a' := ?_) #[true, true, true, true, false, true, true, true, true, false, true, true, true, false, true, true, false, false, false, false, false, false, false, false, false, false, false, false, false, false, false] rfl rfl (by kernel_rfl) (fun _ _ _ h => h) (Or.inl ⟨by rfl, ?_⟩) ?_ ?_
  rotate_left
  · intro w'
    go_simp
    with_reducible rfl
  rotate_left
  · simp only [Act.put, List.setIfInBounds_toArray, List.set_cons_zero, List.set_cons_succ, i64_w, i32_w]
    rfl
  refine pure_ (i := 16) (N := some 22) (v := ?_) (a' := ?_) #[true, true, true, true, false, true, true, true, true, false, true, true, true, false, true, true, true, false, false, false, false, false, false, false, false, false, false, false, false, false, false] rfl rfl (by kernel_rfl) (fun _ _ _ h => h) (Or.inl ⟨by rfl, ?_⟩) ?_ ?_
  rotate_left
  · intro w'
    go_simp
    with_reducible rfl
  rotate_left
  · simp only [Act.put, List.setIfInBounds_toArray, List.set_cons_zero, List.set_cons_succ, i64_w, i32_w]
    rfl
  refine pure_ (i := 18) (N := some 24) (v := ?_) (a' := ?_) #[true, true, true, true, false, true, true, true, true, false, true, true, true, false, true, true, true, false, true, false, false, false, false, false, false, false, false, false, false, false, false] rfl rfl (by kernel_rfl) (fun _ _ _ h => h) (Or.inl ⟨by rfl, ?_⟩) ?_ ?_
  rotate_left
  · intro w'
    go_simp
    with_reducible rfl
  rotate_left
  · simp only [Act.put, List.setIfInBounds_toArray, List.set_cons_zero, List.set_cons_succ, i64_w, i32_w]
    rfl
  refine pure_ (i := 19) (N := some 25) (v := ?_) (a' := ?_) #[true, true, true, true, false, true, true, true, true, false, true, true, true, false, true, true, true, false, true, true, false, false, false, false, false, false, false, false, false, false, false] rfl rfl (by kernel_rfl) (fun _ _ _ h => h) (Or.inl ⟨by rfl, ?_⟩) ?_ ?_
  rotate_left
  · intro w'
    go_simp
    with_reducible rfl
  rotate_left
  · simp only [Act.put, List.setIfInBounds_toArray, List.set_cons_zero, List.set_cons_succ, i64_w, i32_w]
    rfl
  refine pure_ (i := 20) (N := some 26) (v := ?_) (a' := ?_) #[true, true, true, true, false, true, true, true, true, false, true, true, true, false, true, true, true, false, true, true, true, false, false, false, false, false, false, false, false, false, false] rfl rfl (by kernel_rfl) (fun _ _ _ h => h) (Or.inl ⟨by rfl, ?_⟩) ?_ ?_
  rotate_left
  · intro w'
    go_simp
    with_reducible rfl
  rotate_left
  · simp only [Act.put, List.setIfInBounds_toArray, List.set_cons_zero, List.set_cons_succ, i64_w, i32_w]
    rfl
  refine pure_ (i := 22) (N := some 28) (v := ?_) (a' := ?_) #[true, true, true, true, false, true, true, true, true, false, true, true, true, false, true, true, true, false, true, true, true, false, true, false, false, false, false, false, false, false, false] rfl rfl (by kernel_rfl) (fun _ _ _ h => h) (Or.inl ⟨by rfl, ?_⟩) ?_ ?_
  rotate_left
  · intro w'
    go_simp
    with_reducible rfl
  rotate_left
  · simp only [Act.put, List.setIfInBounds_toArray, List.set_cons_zero, List.set_cons_succ, i64_w, i32_w]
    rfl
  refine take_ (i := 4) (N := some 10) (v := ?_) (a' := ?_) #[true, true, true, true, true, true, true, true, true, false, true, true, true, false, true, true, true, false, true, true, true, false, true, false, false, false, false, false, false, false, false] rfl rfl (by kernel_rfl) (fun _ _ _ h => h) (Or.inl ⟨by rfl, ?_⟩) hHeld ?_ ?_
  rotate_left
  · rintro w' ⟨s0, s1, s2⟩
    go_simp
    with_reducible rfl
  rotate_left
  · simp only [Act.put, List.setIfInBounds_toArray, List.set_cons_zero, List.set_cons_succ, i64_w, i32_w]
    rfl
  refine take_ (i := 9) (N := some 15) (v := ?_) (a' := ?_) #[true, true, true, true, true, true, true, true, true, true, true, true, true, false, true, true, true, false, true, true, true, false, true, false, false, false, false, false, false, false, false] rfl rfl (by kernel_rfl) (fun _ _ _ h => h) (Or.inl ⟨by rfl, ?_⟩) hHeld ?_ ?_
  rotate_left
  · rintro w' ⟨s0, s1, s2⟩
    go_simp
    with_reducible rfl
  rotate_left
  · simp only [Act.put, List.setIfInBounds_toArray, List.set_cons_zero, List.set_cons_succ, i64_w, i32_w]
    rfl
  refine take_ (i := 13) (N := some 19) (v := ?_) (a' := ?_) #[true, true, true, true, true, true, true, true, true, true, true, true, true, true, true, true, true, false, true, true, true, false, true, false, false, false, false, false, false, false, false] rfl rfl (by kernel_rfl) (fun _ _ _ h => h) (Or.inl ⟨by rfl, ?_⟩) hHeld ?_ ?_
  rotate_left
  · rintro w' ⟨s0, s1, s2⟩
    go_simp
    with_reducible rfl
  rotate_left
  · simp only [Act.put, List.setIfInBounds_toArray, List.set_cons_zero, List.set_cons_succ, i64_w, i32_w]
    rfl
  refine take_ (i := 17) (N := some 23) (v := ?_) (a' := ?_) #[true, true, true, true, true, true, true, true, true, true, true, true, true, true, true, true, true, true, true, true, true, false, true, false, false, false, false, false, false, false, false] rfl rfl (by kernel_rfl) (fun _ _ _ h => h) (Or.inl ⟨by rfl, ?_⟩) hHeld ?_ ?_
  rotate_left
  · rintro w' ⟨s0, s1, s2⟩
    go_simp
    with_reducible rfl
  rotate_left
  · simp only [Act.put, List.setIfInBounds_toArray, List.set_cons_zero, List.set_cons_succ, i64_w, i32_w]
    rfl
  refine take_ (i := 21) (N := some 27) (v := ?_) (a' := ?_) #[true, true, true, true, true, true, true, true, true, true, true, true, true, true, true, true, true, true, true, true, true, true, true, false, false, false, false, false, false, false, false] rfl rfl (by kernel_rfl) (fun _ _ _ h => h) (Or.inl ⟨by rfl, ?_⟩) hHeld ?_ ?_
  rotate_left
  · rintro w' ⟨s0, s1, s2⟩
    go_simp
    with_reducible rfl
  rotate_left
  · simp only [Act.put, List.setIfInBounds_toArray, List.set_cons_zero, List.set_cons_succ, i64_w, i32_w]
    rfl
  refine pure_ (i := 23) (N := some 29) (v := ?_) (a' := ?_) #[true, true, true, true, true, true, true, true, true, true, true, true, true, true, true, true, true, true, true, true, true, true, true, true, false, false, false, false, false, false, false] rfl rfl (by kernel_rfl) (fun _ _ _ h => h) (Or.inl ⟨by rfl, ?_⟩) ?_ ?_
  rotate_left
  · intro w'
    go_simp
    with_reducible rfl
  rotate_left
  · simp only [Act.put, List.setIfInBounds_toArray, List.set_cons_zero, List.set_cons_succ, i64_w, i32_w]
    rfl
  refine pure_ (i := 24) (N := some 30) (v := ?_) (a' := ?_) #[true, true, true, true, true, true, true, true, true, true, true, true, true, true, true, true, true, true, true, true, true, true, true, true, true, false, false, false, false, false, false] rfl rfl (by kernel_rfl) (fun _ _ _ h => h) (Or.inl ⟨by rfl, ?_⟩) ?_ ?_
  rotate_left
  · intro w'
    go_simp
    with_reducible rfl
  rotate_left
  · simp only [Act.put, List.setIfInBounds_toArray, List.set_cons_zero, List.set_cons_succ, i64_w, i32_w]
    rfl
  refine pure_ (i := 25) (N := some 31) (v := ?_) (a' := ?_) #[true, true, true, true, true, true, true, true, true, true, true, true, true, true, true, true, true, true, true, true, true, true, true, true, true, true, false, false, false, false, false] rfl rfl (by kernel_rfl) (fun _ _ _ h => h) (Or.inl ⟨by rfl, ?_⟩) ?_ ?_
  rotate_left
  · intro w'
    go_simp
    with_reducible rfl
  rotate_left
  · simp only [Act.put, List.setIfInBounds_toArray, List.set_cons_zero, List.set_cons_succ, i64_w, i32_w]
    rfl
  refine one_ (i := 26) (N := some 32) #[true, true, true, true, true, true, true, true, true, true, true, true, true, true, true, true, true, true, true, true, true, true, true, true, true, true, true, false, false, false, false] rfl rfl (by kernel_rfl) (by decide) (fun K hK => ?_)
  refine value_ (w1 := ?_) (v := ?_) (by rfl) rfl ?_ ?_
  rotate_left 2
  · go_simp
    constructor
    · rfl
    · rfl
  refine hK.out _ _ ⟨cel_alloc hlt c0 _, cel_alloc hlt c1 _, cel_alloc hlt c2 _⟩ (fun hHeld => ?_)
  clear hK K
  refine norm_ (a' := ?_) ?_ ?_
  rotate_left
  · show Act.put _ (some 32) _ = _
    simp only [Act.put, List.setIfInBounds_toArray, List.set_cons_zero, List.set_cons_succ, i64_w, i32_w]
    rfl
  refine one_ (i := 27) (N := some 33) #[true, true, true, true, true, true, true, true, true, true, true, true, true, true, true, true, true, true, true, true, true, true, true, true, true, true, true, true, false, false, false] rfl rfl (by kernel_rfl) (by decide) (fun K hK => ?_)
  refine step_append_lies _ (by rfl) _ _ _ (by rfl) B 100 i0 _ 3 32 Try.underlying96 hi0 hz0 hz1 hz2 rfl (by omega) vt tk.length (tks tk) (by rfl) (HT.out.alloc _) ⟨w.heap.size, 0, none⟩ 1 1 [.int .i64 kd, .int .i64 at_, .string (src.extract at_.toNat (wrap64 (at_ + n)).toNat)] (by rfl) (by rfl) (World.news_of_block (cs := #[.int .i64 kd, .int .i64 at_, .string (src.extract at_.toNat (wrap64 (at_ + n)).toNat)]) (t := 100) (fr := (0, 0)) (heap_alloc_new w _)) (by simp [Value.oneCell']) (by omega) hm (by omega) (by simp; omega) (w.heap.size + 1) (by simp) ?_
  intro gg cap w1 hown1 hgrow hat hlt1
  have hf1 : w1.frozen? ⟨g, 2, none⟩ = false := (hgrow.frozen_far _ (by simp; omega) hne.out).trans (frz_alloc hlt c4 _)
  have hd3 : w1.cell? ⟨g, 2, none⟩ = some vt := (hgrow.cell_far _ (by simp; omega) hne.out).trans (cel_alloc hlt c2 _)
  refine hK.out _ _ ⟨(hgrow.cell_far _ (by simp; omega) hne.out).trans (cel_alloc hlt c0 _), (hgrow.cell_far _ (by simp; omega) hne.out).trans (cel_alloc hlt c1 _), hd3⟩ (fun hHeld => ?_)
  clear hK K
  refine norm_ (a' := ?_) ?_ ?_
  rotate_left
  · show Act.put _ (some 33) _ = _
    simp only [Act.put, List.setIfInBounds_toArray, List.set_cons_zero, List.set_cons_succ, i64_w, i32_w]
    rfl
  refine pure_ (i := 28) (N := some 34) (v := ?_) (a' := ?_) #[true, true, true, true, true, true, true, true, true, true, true, true, true, true, true, true, true, true, true, true, true, true, true, true, true, true, true, true, true, false, false] rfl rfl (by kernel_rfl) (fun _ _ _ h => h) (Or.inl ⟨by rfl, ?_⟩) ?_ ?_
  rotate_left
  · intro w'
    go_simp
    with_reducible rfl
  rotate_left
  · simp only [Act.put, List.setIfInBounds_toArray, List.set_cons_zero, List.set_cons_succ, i64_w, i32_w]
    rfl
  refine pure_ (i := 29) (N := some 35) (v := ?_) (a' := ?_) #[true, true, true, true, true, true, true, true, true, true, true, true, true, true, true, true, true, true, true, true, true, true, true, true, true, true, true, true, true, true, false] rfl rfl (by kernel_rfl) (fun _ _ _ h => h) (Or.inl ⟨by rfl, ?_⟩) ?_ ?_
  rotate_left
  · intro w'
    go_simp
    with_reducible rfl
  rotate_left
  · simp only [Act.put, List.setIfInBounds_toArray, List.set_cons_zero, List.set_cons_succ, i64_w, i32_w]
    rfl
  refine last_ (i := 30) (N := none) #[true, true, true, true, true, true, true, true, true, true, true, true, true, true, true, true, true, true, true, true, true, true, true, true, true, true, true, true, true, true, true] rfl rfl (by kernel_rfl) (by decide) (fun K hK => ?_)
  refine skip_ (w1 := ?_) (by rfl) rfl ?_ ?_
  rotate_left
  · go_simp
    rfl
  refine hK.out _ _ ?_
  clear hK K
  refine done_ (by kernel_rfl) ?_
  obtain ⟨r1, r2⟩ := sc_add HB.out HT.out HD.out hBg (grown_plain hgrow) (d := ⟨kd, at_, src.extract at_.toNat (wrap64 (at_ + n)).toNat⟩) hown1 hB
  have e1 := r1.cell1
  have e2 := r1.free 1
  have R1 := Lib.hid r1
  have R2 := Lib.hid r2
  clear r1 r2
  go_wp2
  go_end0
  rw [hwr.out] at R1
  simp only [hwr.out]
  exact ⟨by first | rfl | trivial, R1.out.move _, R2.out.setCell (p := ⟨g, 1, none⟩) hBg _⟩

/-- How many bytes of a kind stand at a list's head. -/
def runLen (p : Int → Bool) (l : List UInt8) : Nat := (l.takeWhile fun b => p (b.toNat : Int)).length
theorem runLen_le (p : Int → Bool) (l : List UInt8) : runLen p l ≤ l.length := (List.takeWhile_sublist _).length_le
theorem runLen_cons (p : Int → Bool) (b : UInt8) (l : List UInt8) : runLen p (b :: l) = if p (b.toNat : Int) = true then runLen p l + 1 else 0 := by
  unfold runLen
  rw [List.takeWhile_cons]
  split <;> simp_all

section
variable {P : Program} {ops : Array Oper} {Q : Exit → Act → World → Prop}
end

theorem bt_cons (src : ByteArray) (i : Nat) (h : i < src.size) : ∃ b : UInt8, src.data.toList.drop i = b :: src.data.toList.drop (i + 1) ∧ bt src (i : Int) = (b.toNat : Int) := by
  refine ⟨src[i], ?_, ?_⟩
  · have : i < src.data.toList.length := by simpa using h
    rw [List.drop_eq_getElem_cons this]
    simp [ByteArray.getElem_eq_getElem_data]
  · simp [bt, h]
theorem drop_end (src : ByteArray) (i : Nat) (h : src.size ≤ i) : src.data.toList.drop i = [] := List.drop_eq_nil_of_le (by simpa using h)
theorem runLen_nil (p : Int → Bool) : runLen p [] = 0 := rfl

set_option maxHeartbeats 3200000 in
set_option maxRecDepth 100000 in
/-- run: how many bytes of a kind stand from a place on. -/
theorem run_any (B g F : Nat) (p : Int → Bool) (hen : ∀ args w, (callFunc F args).run Try.prog w = .ok (.enter F args) w) (hp : ∀ (c : Int) (w : World), 0 ≤ c → c ≤ 255 → Calls Try.prog F #[.int .u8 c] w fun e w' => e = .returned (.bool (p c)) ∧ Drawn0 w w')
    (src : ByteArray) (at_ fr : Int) (tk : List Tk) (dg : List Dg) (w : World) (h : Sc B g src at_ tk dg w) (h0 : 0 ≤ fr) (h1 : fr ≤ (src.size : Int)) (h3 : src.size ≤ 140737488351232) :
    Calls Try.prog 69 #[.pointer (some ⟨g, 0, none⟩), .int .i64 fr, .func (.func F) #[] #[]] w fun e w' => e = .returned (.int .i64 (runLen p (src.data.toList.drop fr.toNat))) ∧ Drawn0 w w' := by
  have c0 := h.cell0
  have HP := Lib.hid hp
  have HEN := Lib.hid hen
  clear hp hen h
  obtain ⟨fn, rfl⟩ : ∃ fn : Nat, fr = (fn : Int) := ⟨fr.toNat, by omega⟩
  simp only [Int.toNat_natCast]
  go_enter Try.func69, Try.ntmps69
  go_wp2
  go_loopg [7] (src.size + 1) (fun kq v7 w' => ∃ (j : Nat), v7 = .int .i64 (j : Int) ∧ Aside0 (j + runLen p (src.data.toList.drop (fn + j)) = runLen p (src.data.toList.drop fn)) ∧ Aside0 (fn + j ≤ src.size ∧ kq + j = src.size + 1) ∧ Drawn0 w w')
  case atStart => exact ⟨0, rfl, ⟨by simp⟩, ⟨by omega, by omega⟩, by repeat (first | exact Drawn0.refl _ | apply Drawn0.step)⟩
  case round =>
    obtain ⟨j, rfl, HA, HK, ⟨m1, rfl⟩⟩ := hrel
    have hk := HK.out
    obtain ⟨z, hz⟩ : ∃ z : Int, wrap64 ((fn : Int) + (j : Int)) = z := ⟨_, rfl⟩
    have hzw : IntKind.i64.wrap ((fn : Int) + (j : Int)) = z := (i64_w _).trans hz
    have hzz : z = ((fn + j : Nat) : Int) := by rw [← hzw, IntWalk.i64_in _ ⟨by omega, by omega⟩]; omega
    by_cases hj : fn + j < src.size
    · have c3b : decide (z < (src.size : Int)) = true := decide_eq_true (by omega)
      have p5 : (0 ≤ z) = True := eq_true (by omega)
      have q5 : (z < (src.size : Int)) = True := eq_true (by omega)
      have hx5 := bt_at src z
      obtain ⟨b, hb1, hb2⟩ := bt_cons src (fn + j) hj
      rw [← hzz] at hb2
      have hrc : runLen p (src.data.toList.drop (fn + j)) = if p (bt src z) = true then runLen p (src.data.toList.drop (fn + j + 1)) + 1 else 0 := by rw [hb1, runLen_cons, hb2]
      have hbr := bt_range src z
      have HZ := Lib.hid hzz
      clear hb1 hb2 hzz hk
      cases hpp : p (bt src z)
      · rw [hpp, if_neg (by decide)] at hrc
        have HRC := Lib.hid hrc
        clear hrc
        go_wp2_with fail
        rw [HEN.out, Oper.upon_enter]
        refine (HP.out _ _ hbr.1 hbr.2).mono ?_
        rintro e w3 ⟨rfl, ⟨m2, rfl⟩⟩
        rw [hpp]
        go_wp2
        go_ret
        refine ⟨?_, by repeat (first | exact Drawn0.refl _ | apply Drawn0.step)⟩
        rw [← HA.out, HRC.out, Nat.add_zero]
        rfl
      · rw [hpp, if_pos rfl] at hrc
        have HRC := Lib.hid hrc
        clear hrc
        go_wp2_with fail
        rw [HEN.out, Oper.upon_enter]
        refine (HP.out _ _ hbr.1 hbr.2).mono ?_
        rintro e w3 ⟨rfl, ⟨m2, rfl⟩⟩
        rw [hpp]
        go_wp2
        go_roundg (gk - 1)
        case measure => have := HK.out; omega
        case rel => exact ⟨j + 1, by go_num, ⟨by rw [← HA.out, HRC.out, ← Nat.add_assoc]; omega⟩, ⟨by have := HK.out; omega, by have := HK.out; omega⟩, by repeat (first | exact Drawn0.refl _ | apply Drawn0.step)⟩
    · have c3b : decide (z < (src.size : Int)) = false := decide_eq_false (by omega)
      have hend := drop_end src (fn + j) (by omega)
      have ha := HA.out
      rw [hend, runLen_nil, Nat.add_zero] at ha
      have HB := Lib.hid ha
      clear hzz hend ha hk hj
      go_wp2
      go_ret
      refine ⟨?_, by repeat (first | exact Drawn0.refl _ | apply Drawn0.step)⟩
      rw [← HB.out]
      rfl

end Go.Proofs.Ytonhfcjldbohbaa.Lx
