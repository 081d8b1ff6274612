/- fix: several graphs and lists in one memory. -/
import Derived.Test.YtiljegeodokfmaaGrX
namespace Go.Proofs.Ytiljegeodokfmaa.Fx
open Go Go.RowKit Go.Proofs.YtiljegeodokfmaaW.PrintWords Go.Proofs.YtiljegeodokfmaaW.PrintLast Go.Proofs.YtiljegeodokfmaaW.PrintMore Go.Proofs.Ytiljegeodokfmaa.PA
set_option linter.unusedVariables false
set_option linter.unusedSimpArgs false

/-- A region of a code, by its number. -/
def findReg (n : Nat) : Code → Option Code
  | .region k o d => if k = n then some (.region k o d) else none
  | .seq a b => match findReg n a with
    | some c => some c
    | none => findReg n b
  | .cond _ a b => match findReg n a with
    | some c => some c
    | none => findReg n b
  | .block _ c => findReg n c
  | .loop c => findReg n c
  | .scope c => findReg n c
  | _ => none
abbrev Gr := Nat × List Int × (Nat → List Nat)
abbrev Ls := Option Addr × Nat × List Int
theorem add_block (ad : Addr) (j : Nat) : (ad.add j).block = ad.block := by unfold Addr.add; split <;> rfl
theorem reads_keep {w w' : World} {A : Option Addr} {n : Nat} {xs : List Int} (h : ReadsInt w .i64 A n xs) (hk : ∀ ad, A = some ad → 0 < n → w'.heap[ad.block]? = w.heap[ad.block]?) : ReadsInt w' .i64 A n xs := by
  refine ⟨h.1, h.2.1, fun hn => ?_⟩
  obtain ⟨ad, e, hc⟩ := h.2.2 hn
  exact ⟨ad, e, fun j hj => (World.cell?_of_block (a := ad.add j) (by rw [add_block]; exact hk ad e hn)).trans (hc j hj)⟩
theorem reads_lt {w : World} {A : Option Addr} {n : Nat} {xs : List Int} (h : ReadsInt w .i64 A n xs) {ad : Addr} (e : A = some ad) (hn : 0 < n) : ad.block < w.heap.size := by
  obtain ⟨ad', e', hc⟩ := h.2.2 hn
  rw [e] at e'
  injection e' with e'
  subst e'
  have := World.block_lt_of_cell? w (ad.add 0) (hc 0 hn)
  rwa [add_block] at this
/-- Several graphs, each with its blocks, and lists apart from them. -/
structure ManyS (B : Nat) (w0 : World) (gs : List Gr) (ls : List Ls) (S : Nat → Nat → Prop) (w : World) : Prop where
  gr : ∀ i g, gs[i]? = some g → GS B (S i) g.1 g.2.1 g.2.2 w
  dis : ∀ i j k, i ≠ j → S i k → ¬ S j k
  lt : ∀ i k, S i k → B ≤ k ∧ k < w.heap.size
  bel : Below B w0 w
  size : B ≤ w.heap.size
  rd : ∀ x ∈ ls, x.2.2.length ≤ x.2.1 ∧ ReadsInt w .i64 x.1 x.2.2.length x.2.2
  apart : ∀ x ∈ ls, ∀ ad, x.1 = some ad → 0 < x.2.2.length → ∀ i, ¬ S i ad.block
def Many (B : Nat) (w0 : World) (gs : List Gr) (ls : List Ls) (w : World) : Prop := ∃ S, ManyS B w0 gs ls S w
theorem ManyS.heap {B : Nat} {w0 : World} {gs : List Gr} {ls : List Ls} {S : Nat → Nat → Prop} {w w' : World} (h : ManyS B w0 gs ls S w) (hb : Below w.heap.size w w') : ManyS B w0 gs ls S w' where
  gr := fun i g hg => (h.gr i g hg).heap hb.size (fun k hk => hb.block k (h.lt i k hk).2)
  dis := h.dis
  lt := fun i k hk => ⟨(h.lt i k hk).1, Nat.lt_of_lt_of_le (h.lt i k hk).2 hb.size⟩
  bel := h.bel.trans (hb.mono h.size)
  size := Nat.le_trans h.size hb.size
  rd := fun x hx => ⟨(h.rd x hx).1, reads_keep (h.rd x hx).2 (fun ad e hn => hb.block _ (reads_lt (h.rd x hx).2 e hn))⟩
  apart := h.apart
theorem Many.heap {B : Nat} {w0 : World} {gs : List Gr} {ls : List Ls} {w w' : World} (h : Many B w0 gs ls w) (hb : Below w.heap.size w w') : Many B w0 gs ls w' := by
  obtain ⟨S, h⟩ := h; exact ⟨S, h.heap hb⟩
theorem Many.drew {B : Nat} {w0 : World} {gs : List Gr} {ls : List Ls} {w : World} (h : Many B w0 gs ls w) : Many B w0 gs ls w.drew := h.heap (Below.refl _ w).drew
theorem Many.alloc {B : Nat} {w0 : World} {gs : List Gr} {ls : List Ls} {w : World} (h : Many B w0 gs ls w) (o : Obj) : Many B w0 gs ls (w.alloc o) := h.heap ((Below.refl _ w).alloc (Nat.le_refl _) o)
theorem Many.drewN {B : Nat} {w0 : World} {gs : List Gr} {ls : List Ls} {w : World} (h : Many B w0 gs ls w) (n : Nat) : Many B w0 gs ls (w.drewN n) := h.heap (pw_below_drewN (Below.refl _ w) n)
theorem Many.sub {B : Nat} {w0 : World} {gs : List Gr} {ls ls' : List Ls} {w : World} (h : Many B w0 gs ls w) (hs : ∀ x ∈ ls', x ∈ ls) : Many B w0 gs ls' w := by
  obtain ⟨S, h⟩ := h
  exact ⟨S, { h with rd := fun x hx => h.rd x (hs x hx), apart := fun x hx => h.apart x (hs x hx) }⟩
theorem Many.reads {B : Nat} {w0 : World} {gs : List Gr} {ls : List Ls} {w : World} (h : Many B w0 gs ls w) {A : Option Addr} {c : Nat} {xs : List Int} (hx : (A, c, xs) ∈ ls) : xs.length ≤ c ∧ ReadsInt w .i64 A xs.length xs := by
  obtain ⟨S, h⟩ := h; exact h.rd _ hx
theorem Many.below {B : Nat} {w0 : World} {gs : List Gr} {ls : List Ls} {w : World} (h : Many B w0 gs ls w) : Below B w0 w := by
  obtain ⟨S, h⟩ := h; exact h.bel
theorem Many.size {B : Nat} {w0 : World} {gs : List Gr} {ls : List Ls} {w : World} (h : Many B w0 gs ls w) : B ≤ w.heap.size := by
  obtain ⟨S, h⟩ := h; exact h.size
/-- One graph moves. -/
theorem ManyS.move {B : Nat} {w0 : World} {gs gs' : List Gr} {ls : List Ls} {S : Nat → Nat → Prop} {w w' : World} (h : ManyS B w0 gs ls S w) (i : Nat) {S' : Nat → Prop} {g : Gr} (hg : gs'[i]? = some g) (hj : ∀ j g, j ≠ i → gs'[j]? = some g → gs[j]? = some g) (hG : GS B S' g.1 g.2.1 g.2.2 w') (hM : Mv B (S i) S' w w') :
    ManyS B w0 gs' ls (fun j k => if j = i then S' k else S j k) w' where
  gr := fun j g' hg' => by
    by_cases hji : j = i
    · subst hji
      rw [hg] at hg'
      injection hg' with hg'
      subst hg'
      simpa using hG
    · simp only [if_neg hji]
      exact (h.gr j g' (hj j g' hji hg')).other hM.2 (fun k h1 h2 => h.dis j i k hji h1 h2)
  dis := fun a b k hab ha hb => by
    by_cases hai : a = i
    · subst hai
      rw [if_pos rfl] at ha
      rw [if_neg (Ne.symm hab)] at hb
      rcases hM.1 k ha with h' | h'
      · exact h.dis a b k hab h' hb
      · have := (h.lt b k hb).2; omega
    · rw [if_neg hai] at ha
      by_cases hbi : b = i
      · subst hbi
        rw [if_pos rfl] at hb
        rcases hM.1 k hb with h' | h'
        · exact h.dis a b k hab ha h'
        · have := (h.lt a k ha).2; omega
      · rw [if_neg hbi] at hb
        exact h.dis a b k hab ha hb
  lt := fun j k hk => by
    by_cases hji : j = i
    · rw [if_pos hji] at hk
      exact hG.sB k hk
    · rw [if_neg hji] at hk
      exact ⟨(h.lt j k hk).1, Nat.lt_of_lt_of_le (h.lt j k hk).2 hM.2.below.size⟩
  bel := h.bel.trans hM.2.below
  size := Nat.le_trans h.size hM.2.below.size
  rd := fun x hx => ⟨(h.rd x hx).1, reads_keep (h.rd x hx).2 (fun ad e hn => hM.2.keep _ (reads_lt (h.rd x hx).2 e hn) (h.apart x hx ad e hn i))⟩
  apart := fun x hx ad e hn j hk => by
    by_cases hji : j = i
    · rw [if_pos hji] at hk
      rcases hM.1 _ hk with h' | h'
      · exact h.apart x hx ad e hn i h'
      · have := reads_lt (h.rd x hx).2 e hn; omega
    · rw [if_neg hji] at hk
      exact h.apart x hx ad e hn j hk
/-- A list more. -/
theorem ManyS.more {B : Nat} {w0 : World} {gs : List Gr} {ls : List Ls} {S : Nat → Nat → Prop} {w : World} (h : ManyS B w0 gs ls S w) {x : Ls} (hc : x.2.2.length ≤ x.2.1) (hr : ReadsInt w .i64 x.1 x.2.2.length x.2.2) (ha : ∀ ad, x.1 = some ad → 0 < x.2.2.length → ∀ i, ¬ S i ad.block) : ManyS B w0 gs (x :: ls) S w :=
  { h with
    rd := fun y hy => by
      rcases List.mem_cons.1 hy with rfl | hy
      · exact ⟨hc, hr⟩
      · exact h.rd y hy
    apart := fun y hy => by
      rcases List.mem_cons.1 hy with rfl | hy
      · exact ha
      · exact h.apart y hy }
/-- A list that lies below all graphs, or above: one more. -/
theorem Many.more {B : Nat} {w0 : World} {gs : List Gr} {ls : List Ls} {w w' : World} (h : Many B w0 gs ls w) (hb : Below w.heap.size w w') {A : Option Addr} {c : Nat} {xs : List Int} (hc : xs.length ≤ c) (hr : ReadsInt w' .i64 A xs.length xs) (ha : ∀ ad, A = some ad → 0 < xs.length → ad.block < B ∨ w.heap.size ≤ ad.block) : Many B w0 gs ((A, c, xs) :: ls) w' := by
  obtain ⟨S, h⟩ := h
  refine ⟨S, (h.heap hb).more hc hr (fun ad e hn i hk => ?_)⟩
  have := h.lt i _ hk
  rcases ha ad e hn with h' | h' <;> omega
theorem Many.none_ {B : Nat} {w0 w : World} (hb : Below B w0 w) (hs : B ≤ w.heap.size) : Many B w0 [] [] w :=
  ⟨fun _ _ => False, ⟨fun i g hg => by simp at hg, fun _ _ _ _ h => h.elim, fun _ _ h => h.elim, hb, hs, fun x hx => by simp at hx, fun x hx => by simp at hx⟩⟩
theorem setR_len {ns : List Int} {tq : Nat → List Nat} {x : Int} : (setR ns tq x).length ≤ ns.length := by
  unfold setR
  split
  · rw [List.length_map]
    have := List.length_filter_le (fun n => RB ns.length tq (ns.idxOf x) n) (List.range ns.length)
    rw [List.length_range] at this; exact this
  · simp
theorem GS.hN {B : Nat} {S : Nat → Prop} {g : Nat} {ns : List Int} {tq : Nat → List Nat} {w : World} (h : GS B S g ns tq w) : ns.length ≤ 1000 := by
  obtain ⟨sv, m, h1, h2⟩ := h; exact G.hN h1
section
variable {B : Nat} {w0 : World} {gs : List Gr} {ls : List Ls} {w : World} {g : Nat} {ns : List Int} {tq : Nat → List Nat}
theorem many_new (h : Many B w0 gs ls w) (A : Option Addr) (c : Nat) (xs : List Int) (hr : ReadsInt w .i64 A xs.length xs) (hl : xs.length ≤ 1000) (hw : ∀ x ∈ xs, (Lit.int .i64 x).wf = true) :
    Calls Try.prog 9 #[.slice A xs.length c] w fun e w' => ∃ g, e = .returned (.pointer (some ⟨g, 0, none⟩)) ∧ Many B w0 (gs ++ [(g, onceF xs, fun _ => [])]) ls w' := by
  obtain ⟨S, h⟩ := h
  refine (new_gs A c xs w B h.size hr hl hw).mono ?_
  rintro e w' ⟨g, S1, rfl, hG, hM⟩
  have hT : ManyS B w0 gs ls (fun j k => if j < gs.length then S j k else False) w :=
    { h with
      gr := fun i g' hg' => by have := (List.getElem?_eq_some_iff.1 hg').1; simpa [this] using h.gr i g' hg'
      dis := fun i j k hij hi hj => by
        by_cases h1 : i < gs.length
        · by_cases h2 : j < gs.length
          · exact h.dis i j k hij (by simpa [h1] using hi) (by simpa [h2] using hj)
          · simp [h2] at hj
        · simp [h1] at hi
      lt := fun i k hk => by
        by_cases h1 : i < gs.length
        · exact h.lt i k (by simpa [h1] using hk)
        · simp [h1] at hk
      apart := fun x hx ad e hn i hk => by
        by_cases h1 : i < gs.length
        · exact h.apart x hx ad e hn i (by simpa [h1] using hk)
        · simp [h1] at hk }
  refine ⟨g, rfl, _, hT.move gs.length (g := (g, onceF xs, fun _ => [])) (S' := S1) (by simp) (fun j g' hj hg' => ?_) hG ?_⟩
  · rcases Nat.lt_or_ge j gs.length with h1 | h1
    · rwa [List.getElem?_append_left h1] at hg'
    · rw [List.getElem?_append_right h1] at hg'
      have := (List.getElem?_eq_some_iff.1 hg').1
      simp at this; omega
  · simp only [Nat.lt_irrefl, if_false]; exact hM
theorem many_circle (h : Many B w0 gs ls w) (i : Nat) (hg : gs[i]? = some (g, ns, tq)) (x : Int) (hx : (Lit.int .i64 x).wf = true) :
    Calls Try.prog 18 #[.pointer (some ⟨g, 0, none⟩), .int .i64 x] w fun e w' => e = .returned (.bool (circR ns tq x)) ∧ Many B w0 gs ls w' := by
  obtain ⟨S, h⟩ := h
  refine (circle_gs B (S i) g ns tq x hx w h.size (h.gr i _ hg)).mono ?_
  rintro e w' ⟨rfl, S', hG, hM⟩
  exact ⟨rfl, _, h.move i hg (fun j g' _ hg' => hg') hG hM⟩
theorem many_same (h : Many B w0 gs ls w) (i : Nat) (hg : gs[i]? = some (g, ns, tq)) (x y : Int) (hx : (Lit.int .i64 x).wf = true) (hy : (Lit.int .i64 y).wf = true) :
    Calls Try.prog 19 #[.pointer (some ⟨g, 0, none⟩), .int .i64 x, .int .i64 y] w fun e w' => e = .returned (.bool (sameR ns tq x y)) ∧ Many B w0 gs ls w' := by
  obtain ⟨S, h⟩ := h
  refine (same_gs B (S i) g ns tq x y hx hy w h.size (h.gr i _ hg)).mono ?_
  rintro e w' ⟨rfl, S', hG, hM⟩
  exact ⟨rfl, _, h.move i hg (fun j g' _ hg' => hg') hG hM⟩
theorem own_apart {base : Nat} {v : Value} {l : List Int} {w' : World} {A : Option Addr} {c : Nat} (h : w'.ownsRow base 3 1 v l.length (nums .i64 l)) (e : v = .slice A l.length c) (ad : Addr) (e2 : A = some ad) (hn : 0 < l.length) : v.ownBlock = some ad.block ∧ base ≤ ad.block := by
  rcases h.2 with ⟨e1, h0⟩ | ⟨g, cap, cur, e1, hb, _⟩
  · omega
  · subst e
    injection e1 with h1 h2 h3
    rw [e2] at h1
    injection h1 with h1
    subst h1 e2
    exact ⟨rfl, hb⟩
theorem ManyS.got {S : Nat → Nat → Prop} {w' : World} (h : ManyS B w0 gs ls S w) (i : Nat) {S' : Nat → Prop} (hg : gs[i]? = some (g, ns, tq)) (hG : GS B S' g ns tq w') (hM : Mv B (S i) S' w w') {v : Value} {l : List Int} (hO : w'.ownsRow w.heap.size 3 1 v l.length (nums .i64 l)) (hN : ∀ k, v.ownBlock = some k → ¬ S' k) (hl : l.length ≤ 1000) :
    ∃ A c, v = .slice A l.length c ∧ Many B w0 gs ((A, c, l) :: ls) w' := by
  obtain ⟨A, c, e, hc, K, hK, hr⟩ := Lst.of_own hM.2.below.size hO hl
  refine ⟨A, c, e, _, (h.move i hg (fun j g' _ hg' => hg') hG hM).more hc (hr w' (fun _ _ => rfl)) (fun ad e2 hn j hk => ?_)⟩
  obtain ⟨ho, hb⟩ := own_apart hO e ad e2 hn
  by_cases hji : j = i
  · rw [if_pos hji] at hk; exact hN _ ho hk
  · rw [if_neg hji] at hk
    have := (h.lt j _ hk).2; omega
theorem many_set (h : Many B w0 gs ls w) (i : Nat) (hg : gs[i]? = some (g, ns, tq)) (x : Int) (hx : (Lit.int .i64 x).wf = true) :
    Calls Try.prog 13 #[.pointer (some ⟨g, 0, none⟩), .int .i64 x] w fun e w' => ∃ A c, e = .returned (.slice A (setR ns tq x).length c) ∧ Many B w0 gs ((A, c, setR ns tq x) :: ls) w' := by
  obtain ⟨S, h⟩ := h
  refine (set_gs B (S i) g ns tq x hx w h.size (h.gr i _ hg)).mono ?_
  rintro e w' ⟨v, S', rfl, hG, hM, hO, hN⟩
  obtain ⟨A, c, e, hm⟩ := h.got i hg hG hM hO hN (by have := GS.hN hG; have := setR_len (ns := ns) (tq := tq) (x := x); omega)
  exact ⟨A, c, by rw [e], hm⟩
theorem many_circles (h : Many B w0 gs ls w) (i : Nat) (hg : gs[i]? = some (g, ns, tq)) (hw : ∀ x ∈ ns, (Lit.int .i64 x).wf = true) :
    Calls Try.prog 14 #[.pointer (some ⟨g, 0, none⟩)] w fun e w' => ∃ A c, e = .returned (.slice A (circsR ns tq).length c) ∧ Many B w0 gs ((A, c, circsR ns tq) :: ls) w' := by
  obtain ⟨S, h⟩ := h
  refine (circles_gs B (S i) g ns tq w hw h.size (h.gr i _ hg)).mono ?_
  rintro e w' ⟨v, S', rfl, hG, hM, hO, hN⟩
  obtain ⟨A, c, e, hm⟩ := h.got i hg hG hM hO hN (by have := GS.hN hG; have : (circsR ns tq).length ≤ ns.length := List.length_filter_le _ _; omega)
  exact ⟨A, c, by rw [e], hm⟩
theorem many_lead (h : Many B w0 gs ls w) (i : Nat) (hg : gs[i]? = some (g, ns, tq)) (x : Int) (l : List Int) (hx : (Lit.int .i64 x).wf = true) (hl : l.length ≤ 1000) (hw : ∀ y ∈ l, (Lit.int .i64 y).wf = true) (hlen : ∀ i, (tq i).length + l.length ≤ 1000000) (cs : Array Value) (hcs : cs = (nums .i64 l).toArray) (n c : Nat) (hn : n = l.length) :
    Calls Try.prog 10 #[.pointer (some ⟨g, 0, none⟩), .int .i64 x, .slice (some ⟨w.heap.size, 0, none⟩) n c] (w.alloc (.cells cs 3)) fun e w' => e = .returned (.int .i64 (if x ∈ ns then 0 else 3)) ∧ Many B w0 (gs.set i (g, ns, leadG ns tq x l)) ls w' := by
  obtain ⟨S, h⟩ := h
  refine (lead_built x l (h.gr i _ hg) hx h.size hl hw hlen cs hcs n c hn).mono ?_
  rintro e w' ⟨rfl, S', hG, hM⟩
  refine ⟨rfl, _, h.move i (g := (g, ns, leadG ns tq x l)) ?_ (fun j g' hj hg' => ?_) hG hM⟩
  · have := (List.getElem?_eq_some_iff.1 hg).1
    simp [this]
  · rwa [List.getElem?_set_ne (Ne.symm hj)] at hg'
/-- The same where the order is drawn. -/
theorem many_lead_d (h : Many B w0 gs ls w) (i : Nat) (hg : gs[i]? = some (g, ns, tq)) (x : Int) (l : List Int) (hx : (Lit.int .i64 x).wf = true) (hl : l.length ≤ 1000) (hw : ∀ y ∈ l, (Lit.int .i64 y).wf = true) (hlen : ∀ i, (tq i).length + l.length ≤ 1000000) (cs : Array Value) (hcs : cs = (nums .i64 l).toArray) (n c : Nat) (hn : n = l.length) :
    Calls Try.prog 10 #[.pointer (some ⟨g, 0, none⟩), .int .i64 x, .slice (some ⟨w.heap.size, 0, none⟩) n c] ((w.alloc (.cells cs 3)).drew) fun e w' => e = .returned (.int .i64 (if x ∈ ns then 0 else 3)) ∧ Many B w0 (gs.set i (g, ns, leadG ns tq x l)) ls w' :=
  many_lead h.drew i hg x l hx hl hw hlen cs hcs n c hn
end
end Go.Proofs.Ytiljegeodokfmaa.Fx
