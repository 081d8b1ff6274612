/- fix, keys string: several graphs, lists, and lists that grow, in one memory. Turned by wip/gsturn.py. -/
import Derived.Test.YtiljegeodokfmaaGsV
namespace Go.Proofs.Ytiljegeodokfmaa.Fs
open Go Go.RowKit Go.Proofs.YtiljegeodokfmaaW.PrintWords Go.Proofs.YtiljegeodokfmaaW.PrintLast Go.Proofs.YtiljegeodokfmaaW.PrintMore Go.Proofs.Ytiljegeodokfmaa.Fx
open Go.Proofs.Ytiljegeodokfmaa.PA
set_option linter.unusedVariables false
set_option linter.unusedSimpArgs false

abbrev Gr := Nat × List ByteArray × (Nat → List Nat)
abbrev Ls := Option Addr × Nat × List ByteArray
theorem reads_keep {w w' : World} {A : Option Addr} {n : Nat} {xs : List ByteArray} (h : ReadsStr w A n xs) (hk : ∀ ad, A = some ad → 0 < n → w'.heap[ad.block]? = w.heap[ad.block]?) : ReadsStr w' A n xs := by
  refine ⟨h.1, h.2.1, fun hn => ?_⟩
  obtain ⟨ad, e, hc⟩ := h.2.2 hn
  exact ⟨ad, e, fun j hj => (World.cell?_of_block (a := ad.add j) (by rw [Fx.add_block]; exact hk ad e hn)).trans (hc j hj)⟩
theorem reads_lt {w : World} {A : Option Addr} {n : Nat} {xs : List ByteArray} (h : ReadsStr w A n xs) {ad : Addr} (e : A = some ad) (hn : 0 < n) : ad.block < w.heap.size := by
  obtain ⟨ad', e', hc⟩ := h.2.2 hn
  rw [e] at e'
  injection e' with e'
  subst e'
  have := World.block_lt_of_cell? w (ad.add 0) (hc 0 hn)
  rwa [Fx.add_block] at this
/-- Several graphs, each with its blocks, and lists apart from them. -/
structure ManyS (B : Nat) (w0 : World) (gs : List Gr) (ls : List Ls) (S : Nat → Nat → Prop) (w : World) : Prop where
  gr : ∀ i g, gs[i]? = some g → GS B (S i) g.1 g.2.1 g.2.2 w
  dis : ∀ i j k, i ≠ j → S i k → ¬ S j k
  lt : ∀ i k, S i k → B ≤ k ∧ k < w.heap.size
  bel : Below B w0 w
  size : B ≤ w.heap.size
  rd : ∀ x ∈ ls, x.2.2.length ≤ x.2.1 ∧ ReadsStr w x.1 x.2.2.length x.2.2
  apart : ∀ x ∈ ls, ∀ ad, x.1 = some ad → 0 < x.2.2.length → ∀ i, ¬ S i ad.block
def Many (B : Nat) (w0 : World) (gs : List Gr) (ls : List Ls) (w : World) : Prop := ∃ S, ManyS B w0 gs ls S w
theorem ManyS.heap {B : Nat} {w0 : World} {gs : List Gr} {ls : List Ls} {S : Nat → Nat → Prop} {w w' : World} (h : ManyS B w0 gs ls S w) (hb : Below w.heap.size w w') : ManyS B w0 gs ls S w' where
  gr := fun i g hg => (h.gr i g hg).heap hb.size (fun k hk => hb.block k (h.lt i k hk).2)
  dis := h.dis
  lt := fun i k hk => ⟨(h.lt i k hk).1, Nat.lt_of_lt_of_le (h.lt i k hk).2 hb.size⟩
  bel := h.bel.trans (hb.mono h.size)
  size := Nat.le_trans h.size hb.size
  rd := fun x hx => ⟨(h.rd x hx).1, reads_keep (h.rd x hx).2 (fun ad e hn => hb.block _ (reads_lt (h.rd x hx).2 e hn))⟩
  apart := h.apart
theorem Many.reads {B : Nat} {w0 : World} {gs : List Gr} {ls : List Ls} {w : World} (h : Many B w0 gs ls w) {A : Option Addr} {c : Nat} {xs : List ByteArray} (hx : (A, c, xs) ∈ ls) : xs.length ≤ c ∧ ReadsStr w A xs.length xs := by
  obtain ⟨S, h⟩ := h; exact h.rd _ hx
theorem Many.below {B : Nat} {w0 : World} {gs : List Gr} {ls : List Ls} {w : World} (h : Many B w0 gs ls w) : Below B w0 w := by
  obtain ⟨S, h⟩ := h; exact h.bel
theorem Many.size {B : Nat} {w0 : World} {gs : List Gr} {ls : List Ls} {w : World} (h : Many B w0 gs ls w) : B ≤ w.heap.size := by
  obtain ⟨S, h⟩ := h; exact h.size
theorem Many.none_ {B : Nat} {w0 w : World} (hb : Below B w0 w) (hs : B ≤ w.heap.size) : Many B w0 [] [] w :=
  ⟨fun _ _ => False, ⟨fun i g hg => by simp at hg, fun _ _ _ _ h => h.elim, fun _ _ h => h.elim, hb, hs, fun x hx => by simp at hx, fun x hx => by simp at hx⟩⟩
/-- One graph moves. -/
theorem ManyS.move {B : Nat} {w0 : World} {gs gs' : List Gr} {ls : List Ls} {S : Nat → Nat → Prop} {w w' : World} (h : ManyS B w0 gs ls S w) (i : Nat) {S' : Nat → Prop} {g : Gr} (hg : gs'[i]? = some g) (hj : ∀ j g, j ≠ i → gs'[j]? = some g → gs[j]? = some g) (hG : GS B S' g.1 g.2.1 g.2.2 w') (hM : Mv B (S i) S' w w') :
    ManyS B w0 gs' ls (fun j k => if j = i then S' k else S j k) w' where
  gr := fun j g' hg' => by
    by_cases hji : j = i
    · subst hji
      rw [hg] at hg'
      injection hg' with hg'
      subst hg'
      simpa using hG
    · simp only [if_neg hji]
      exact (h.gr j g' (hj j g' hji hg')).other hM.2 (fun k h1 h2 => h.dis j i k hji h1 h2)
  dis := fun a b k hab ha hb => by
    by_cases hai : a = i
    · subst hai
      rw [if_pos rfl] at ha
      rw [if_neg (Ne.symm hab)] at hb
      rcases hM.1 k ha with h' | h'
      · exact h.dis a b k hab h' hb
      · have := (h.lt b k hb).2; omega
    · rw [if_neg hai] at ha
      by_cases hbi : b = i
      · subst hbi
        rw [if_pos rfl] at hb
        rcases hM.1 k hb with h' | h'
        · exact h.dis a b k hab ha h'
        · have := (h.lt a k ha).2; omega
      · rw [if_neg hbi] at hb
        exact h.dis a b k hab ha hb
  lt := fun j k hk => by
    by_cases hji : j = i
    · rw [if_pos hji] at hk
      exact hG.sB k hk
    · rw [if_neg hji] at hk
      exact ⟨(h.lt j k hk).1, Nat.lt_of_lt_of_le (h.lt j k hk).2 hM.2.below.size⟩
  bel := h.bel.trans hM.2.below
  size := Nat.le_trans h.size hM.2.below.size
  rd := fun x hx => ⟨(h.rd x hx).1, reads_keep (h.rd x hx).2 (fun ad e hn => hM.2.keep _ (reads_lt (h.rd x hx).2 e hn) (h.apart x hx ad e hn i))⟩
  apart := fun x hx ad e hn j hk => by
    by_cases hji : j = i
    · rw [if_pos hji] at hk
      rcases hM.1 _ hk with h' | h'
      · exact h.apart x hx ad e hn i h'
      · have := reads_lt (h.rd x hx).2 e hn; omega
    · rw [if_neg hji] at hk
      exact h.apart x hx ad e hn j hk
/-- A list more. -/
theorem ManyS.more {B : Nat} {w0 : World} {gs : List Gr} {ls : List Ls} {S : Nat → Nat → Prop} {w : World} (h : ManyS B w0 gs ls S w) {x : Ls} (hc : x.2.2.length ≤ x.2.1) (hr : ReadsStr w x.1 x.2.2.length x.2.2) (ha : ∀ ad, x.1 = some ad → 0 < x.2.2.length → ∀ i, ¬ S i ad.block) : ManyS B w0 gs (x :: ls) S w :=
  { h with
    rd := fun y hy => by
      rcases List.mem_cons.1 hy with rfl | hy
      · exact ⟨hc, hr⟩
      · exact h.rd y hy
    apart := fun y hy => by
      rcases List.mem_cons.1 hy with rfl | hy
      · exact ha
      · exact h.apart y hy }
theorem setR_len {ns : List ByteArray} {tq : Nat → List Nat} {x : ByteArray} : (setR ns tq x).length ≤ ns.length := by
  unfold setR
  split
  · rw [List.length_map]
    have := List.length_filter_le (fun n => RB ns.length tq (ns.idxOf x) n) (List.range ns.length)
    rw [List.length_range] at this; exact this
  · simp
theorem GS.hN {B : Nat} {S : Nat → Prop} {g : Nat} {ns : List ByteArray} {tq : Nat → List Nat} {w : World} (h : GS B S g ns tq w) : ns.length ≤ 1000 := by
  obtain ⟨sv, m, h1, h2⟩ := h; exact G.hN h1
theorem own_apart {base : Nat} {v : Value} {l : List ByteArray} {w' : World} {A : Option Addr} {c : Nat} (h : w'.ownsRow base 9 1 v l.length (strs l)) (e : v = .slice A l.length c) (ad : Addr) (e2 : A = some ad) (hn : 0 < l.length) : v.ownBlock = some ad.block ∧ base ≤ ad.block := by
  rcases h.2 with ⟨e1, h0⟩ | ⟨g, cap, cur, e1, hb, _⟩
  · omega
  · subst e
    injection e1 with h1 h2 h3
    rw [e2] at h1
    injection h1 with h1
    subst h1 e2
    exact ⟨rfl, hb⟩
structure RowsS (B : Nat) (ls : List Ls) (rs : List Fx.Rw) (S : Nat → Nat → Prop) (w : World) : Prop where
  own : ∀ (i : Nat) (r : Fx.Rw), rs[i]? = some r → w.ownsRow B 3 1 r.1 r.2.length (nums .i64 r.2)
  gap : ∀ (i : Nat) (r : Fx.Rw) (k : Nat), rs[i]? = some r → r.1.ownBlock = some k → ∀ j, ¬ S j k
  lap : ∀ (i : Nat) (r : Fx.Rw) (k : Nat), rs[i]? = some r → r.1.ownBlock = some k → ∀ x ∈ ls, ∀ ad, x.1 = some ad → 0 < x.2.2.length → ad.block ≠ k
  dis : ∀ (i j : Nat) (r q : Fx.Rw) (k : Nat), i ≠ j → rs[i]? = some r → rs[j]? = some q → r.1.ownBlock = some k → q.1.ownBlock ≠ some k
def ManyR (B : Nat) (w0 : World) (gs : List Gr) (ls : List Ls) (rs : List Fx.Rw) (w : World) : Prop := ∃ S, ManyS B w0 gs ls S w ∧ RowsS B ls rs S w
theorem RowsS.heap {B : Nat} {ls : List Ls} {rs : List Fx.Rw} {S : Nat → Nat → Prop} {w w' : World} (h : RowsS B ls rs S w) (hb : Below w.heap.size w w') : RowsS B ls rs S w' :=
  { h with own := fun i r hr => Fx.own_heap (h.own i r hr) (fun k e => hb.block k (own_lt (h.own i r hr) k e)) }
theorem RowsS.move {B : Nat} {ls : List Ls} {rs : List Fx.Rw} {S : Nat → Nat → Prop} {w w' : World} (h : RowsS B ls rs S w) (i : Nat) {S' : Nat → Prop} (hM : Mv B (S i) S' w w') : RowsS B ls rs (fun j k => if j = i then S' k else S j k) w' :=
  { h with
    own := fun j r hr => Fx.own_heap (h.own j r hr) (fun k e => hM.2.keep k (own_lt (h.own j r hr) k e) (h.gap j r k hr e i))
    gap := fun j r k hr e n hk => by
      by_cases hn : n = i
      · rw [if_pos hn] at hk
        rcases hM.1 k hk with h' | h'
        · exact h.gap j r k hr e i h'
        · have := own_lt (h.own j r hr) k e; omega
      · rw [if_neg hn] at hk
        exact h.gap j r k hr e n hk }
section
variable {B : Nat} {w0 : World} {gs : List Gr} {ls : List Ls} {rs : List Fx.Rw} {w : World} {g : Nat} {ns : List ByteArray} {tq : Nat → List Nat}
theorem ManyR.many (h : ManyR B w0 gs ls rs w) : Many B w0 gs ls w := by obtain ⟨S, h, _⟩ := h; exact ⟨S, h⟩
theorem ManyR.heap {w' : World} (h : ManyR B w0 gs ls rs w) (hb : Below w.heap.size w w') : ManyR B w0 gs ls rs w' := by
  obtain ⟨S, h1, h2⟩ := h; exact ⟨S, h1.heap hb, h2.heap hb⟩
theorem ManyR.drew (h : ManyR B w0 gs ls rs w) : ManyR B w0 gs ls rs w.drew := h.heap (Below.refl _ w).drew
theorem ManyR.alloc (h : ManyR B w0 gs ls rs w) (o : Obj) : ManyR B w0 gs ls rs (w.alloc o) := h.heap ((Below.refl _ w).alloc (Nat.le_refl _) o)
theorem ManyR.drewN (h : ManyR B w0 gs ls rs w) (n : Nat) : ManyR B w0 gs ls rs (w.drewN n) := h.heap (pw_below_drewN (Below.refl _ w) n)
theorem ManyR.sub {ls' : List Ls} (h : ManyR B w0 gs ls rs w) (hs : ∀ x ∈ ls', x ∈ ls) : ManyR B w0 gs ls' rs w := by
  obtain ⟨S, h1, h2⟩ := h
  exact ⟨S, { h1 with rd := fun x hx => h1.rd x (hs x hx), apart := fun x hx => h1.apart x (hs x hx) }, { h2 with lap := fun i r k hr e x hx => h2.lap i r k hr e x (hs x hx) }⟩
theorem ManyR.reads (h : ManyR B w0 gs ls rs w) {A : Option Addr} {c : Nat} {xs : List ByteArray} (hx : (A, c, xs) ∈ ls) : xs.length ≤ c ∧ ReadsStr w A xs.length xs := h.many.reads hx
theorem ManyR.below (h : ManyR B w0 gs ls rs w) : Below B w0 w := h.many.below
theorem ManyR.size (h : ManyR B w0 gs ls rs w) : B ≤ w.heap.size := h.many.size
theorem ManyR.own (h : ManyR B w0 gs ls rs w) {i : Nat} {v : Value} {xs : List Int} (hr : rs[i]? = some (v, xs)) : w.ownsRow B 3 1 v xs.length (nums .i64 xs) := by
  obtain ⟨S, h1, h2⟩ := h; exact h2.own i _ hr
/-- Other rows: those that are there, at their places, or nil. -/
theorem ManyR.rows {rs' : List Fx.Rw} (h : ManyR B w0 gs ls rs w) (hs : ∀ (i : Nat) (r : Fx.Rw), rs'[i]? = some r → rs[i]? = some r ∨ r = nilRw) : ManyR B w0 gs ls rs' w := by
  obtain ⟨S, h1, h2⟩ := h
  have hnil : ∀ k, nilRw.1.ownBlock = some k → False := fun k e => by simp [nilRw, Value.ownBlock] at e
  refine ⟨S, h1, ⟨fun i r hr => ?_, fun i r k hr e => ?_, fun i r k hr e => ?_, fun i j r q k hij hr hq e => ?_⟩⟩
  · rcases hs i r hr with h' | rfl
    · exact h2.own i r h'
    · exact World.ownsRow_nil w B _ 1
  · rcases hs i r hr with h' | rfl
    · exact h2.gap i r k h' e
    · exact (hnil k e).elim
  · rcases hs i r hr with h' | rfl
    · exact h2.lap i r k h' e
    · exact (hnil k e).elim
  · rcases hs i r hr with h' | rfl
    · rcases hs j q hq with h'' | rfl
      · exact h2.dis i j r q k hij h' h'' e
      · intro e'; exact hnil k e'
    · exact (hnil k e).elim
theorem Many.norows (h : Many B w0 gs ls w) : ManyR B w0 gs ls [] w := by
  obtain ⟨S, h⟩ := h
  exact ⟨S, h, ⟨fun i r hr => by simp at hr, fun i r k hr => by simp at hr, fun i r k hr => by simp at hr, fun i j r q k _ hr => by simp at hr⟩⟩
/-- A row grows. -/
theorem grow_S {S : Nat → Nat → Prop} {w1 : World} (h1 : ManyS B w0 gs ls S w) (h2 : RowsS B ls rs S w) {i : Nat} {v v1 : Value} {xs ys : List Int} (hr : rs[i]? = some (v, xs)) (hown : w1.ownsRow B 3 1 v1 ys.length (nums .i64 ys)) (hg : w.grownBy w1 v.ownBlock) (hat : v1.ownBlock = v.ownBlock ∨ ∃ b, v1.ownBlock = some b ∧ w.heap.size ≤ b) (hb : Below B w0 w1) :
    ManyS B w0 gs ls S w1 ∧ RowsS B ls (rs.set i (v1, ys)) S w1 := by
  have hil := (List.getElem?_eq_some_iff.1 hr).1
  have hget : ∀ (j : Nat) (r : Fx.Rw), (rs.set i (v1, ys))[j]? = some r → (j = i ∧ r = (v1, ys)) ∨ (j ≠ i ∧ rs[j]? = some r) := fun j r h' => by
    by_cases hj : j = i
    · subst hj
      rw [List.getElem?_set_self hil] at h'
      injection h' with h'
      exact .inl ⟨rfl, h'.symm⟩
    · rw [List.getElem?_set_ne (Ne.symm hj)] at h'
      exact .inr ⟨hj, h'⟩
  have hS : ∀ j k, S j k → w1.heap[k]? = w.heap[k]? := fun j k hk => hg.block k (h1.lt j k hk).2 (fun e => h2.gap i _ k hr e.symm j hk)
  have hnew : ∀ k, v1.ownBlock = some k → v.ownBlock = some k ∨ w.heap.size ≤ k := fun k e => by
    rcases hat with h' | ⟨b, h', hb⟩
    · exact .inl (h' ▸ e)
    · rw [h'] at e; injection e with e; exact .inr (e ▸ hb)
  refine ⟨⟨fun j g' hg' => (h1.gr j g' hg').heap hg.size (hS j), h1.dis, fun j k hk => ⟨(h1.lt j k hk).1, Nat.lt_of_lt_of_le (h1.lt j k hk).2 hg.size⟩, hb, Nat.le_trans h1.size hg.size, fun x hx => ⟨(h1.rd x hx).1, reads_keep (h1.rd x hx).2 (fun ad e hn => hg.block _ (reads_lt (h1.rd x hx).2 e hn) (fun e' => h2.lap i _ _ hr e'.symm x hx ad e hn rfl))⟩, h1.apart⟩, ⟨fun j r h' => ?_, fun j r k h' e n hk => ?_, fun j r k h' e x hx ad e2 hn e3 => ?_, fun j n r q k hjn h' h'' e => ?_⟩⟩
  · rcases hget j r h' with ⟨rfl, rfl⟩ | ⟨hj, h'⟩
    · exact hown
    · exact Fx.own_heap (h2.own j r h') (fun k e => hg.block k (own_lt (h2.own j r h') k e) (fun e' => h2.dis j i r _ k hj h' hr e e'.symm))
  · rcases hget j r h' with ⟨rfl, rfl⟩ | ⟨hj, h'⟩
    · rcases hnew k e with e | e
      · exact h2.gap j _ k hr e n hk
      · have := (h1.lt n k hk).2; omega
    · exact h2.gap j r k h' e n hk
  · rcases hget j r h' with ⟨rfl, rfl⟩ | ⟨hj, h'⟩
    · rcases hnew k e with e | e
      · exact h2.lap j _ k hr e x hx ad e2 hn e3
      · have := reads_lt (h1.rd x hx).2 e2 hn; omega
    · exact h2.lap j r k h' e x hx ad e2 hn e3
  · intro e'
    rcases hget j r h' with ⟨rfl, rfl⟩ | ⟨hj, hjr⟩
    · rcases hget n q h'' with ⟨rfl, rfl⟩ | ⟨hn, h''⟩
      · exact hjn rfl
      · rcases hnew k e with e | e
        · exact h2.dis n j q _ k hn h'' hr e' e
        · have := own_lt (h2.own n q h'') k e'; omega
    · rcases hget n q h'' with ⟨rfl, rfl⟩ | ⟨hn, h''⟩
      · rcases hnew k e' with e' | e'
        · exact h2.dis j n r _ k hj hjr hr e e'
        · have := own_lt (h2.own j r hjr) k e; omega
      · exact h2.dis j n r q k hjn hjr h'' e e'
theorem ManyR.grow {w1 : World} (h : ManyR B w0 gs ls rs w) {i : Nat} {v v1 : Value} {xs ys : List Int} (hr : rs[i]? = some (v, xs)) (hown : w1.ownsRow B 3 1 v1 ys.length (nums .i64 ys)) (hg : w.grownBy w1 v.ownBlock) (hat : v1.ownBlock = v.ownBlock ∨ ∃ b, v1.ownBlock = some b ∧ w.heap.size ≤ b) (hb : Below B w0 w1) :
    ManyR B w0 gs ls (rs.set i (v1, ys)) w1 := by
  obtain ⟨S, h1, h2⟩ := h
  exact ⟨S, grow_S h1 h2 hr hown hg hat hb⟩
theorem mr_new (h : ManyR B w0 gs ls rs w) (A : Option Addr) (c : Nat) (xs : List ByteArray) (hr : ReadsStr w A xs.length xs) (hl : xs.length ≤ 1000) (hw : ∀ x ∈ xs, x.size ≤ 9223372036854775807) :
    Calls Try.prog 20 #[.slice A xs.length c] w fun e w' => ∃ g, e = .returned (.pointer (some ⟨g, 0, none⟩)) ∧ ManyR B w0 (gs ++ [(g, onceF xs, fun _ => [])]) ls rs w' := by
  obtain ⟨S, h, hR⟩ := h
  refine (new_gs A c xs w B h.size hr hl hw).mono ?_
  rintro e w' ⟨g, S1, rfl, hG, hM⟩
  have hT : ManyS B w0 gs ls (fun j k => if j < gs.length then S j k else False) w :=
    { h with
      gr := fun i g' hg' => by have := (List.getElem?_eq_some_iff.1 hg').1; simpa [this] using h.gr i g' hg'
      dis := fun i j k hij hi hj => by
        by_cases h1 : i < gs.length
        · by_cases h2 : j < gs.length
          · exact h.dis i j k hij (by simpa [h1] using hi) (by simpa [h2] using hj)
          · simp [h2] at hj
        · simp [h1] at hi
      lt := fun i k hk => by
        by_cases h1 : i < gs.length
        · exact h.lt i k (by simpa [h1] using hk)
        · simp [h1] at hk
      apart := fun x hx ad e hn i hk => by
        by_cases h1 : i < gs.length
        · exact h.apart x hx ad e hn i (by simpa [h1] using hk)
        · simp [h1] at hk }
  have hR2 : RowsS B ls rs (fun j k => if j < gs.length then S j k else False) w :=
    { hR with
      gap := fun i r k hr e j hk => by
        by_cases h1 : j < gs.length
        · exact hR.gap i r k hr e j (by simpa [h1] using hk)
        · simp [h1] at hk }
  have hM' : Mv B ((fun j k => if j < gs.length then S j k else False) gs.length) S1 w w' := by
    simp only [Nat.lt_irrefl, if_false]; exact hM
  refine ⟨g, rfl, _, hT.move gs.length (g := (g, onceF xs, fun _ => [])) (S' := S1) (by simp) (fun j g' hj hg' => ?_) hG hM', hR2.move gs.length hM'⟩
  rcases Nat.lt_or_ge j gs.length with h1 | h1
  · rwa [List.getElem?_append_left h1] at hg'
  · rw [List.getElem?_append_right h1] at hg'
    have := (List.getElem?_eq_some_iff.1 hg').1
    simp at this; omega
theorem mr_circle (h : ManyR B w0 gs ls rs w) (i : Nat) (hg : gs[i]? = some (g, ns, tq)) (x : ByteArray) (hx : x.size ≤ 9223372036854775807) :
    Calls Try.prog 23 #[.pointer (some ⟨g, 0, none⟩), .string x] w fun e w' => e = .returned (.bool (circR ns tq x)) ∧ ManyR B w0 gs ls rs w' := by
  obtain ⟨S, h, hR⟩ := h
  refine (circle_gs B (S i) g ns tq x hx w h.size (h.gr i _ hg)).mono ?_
  rintro e w' ⟨rfl, S', hG, hM⟩
  exact ⟨rfl, _, h.move i hg (fun j g' _ hg' => hg') hG hM, hR.move i hM⟩
theorem mr_same (h : ManyR B w0 gs ls rs w) (i : Nat) (hg : gs[i]? = some (g, ns, tq)) (x y : ByteArray) (hx : x.size ≤ 9223372036854775807) (hy : y.size ≤ 9223372036854775807) :
    Calls Try.prog 24 #[.pointer (some ⟨g, 0, none⟩), .string x, .string y] w fun e w' => e = .returned (.bool (sameR ns tq x y)) ∧ ManyR B w0 gs ls rs w' := by
  obtain ⟨S, h, hR⟩ := h
  refine (same_gs B (S i) g ns tq x y hx hy w h.size (h.gr i _ hg)).mono ?_
  rintro e w' ⟨rfl, S', hG, hM⟩
  exact ⟨rfl, _, h.move i hg (fun j g' _ hg' => hg') hG hM, hR.move i hM⟩
theorem ManyS.gotR {S : Nat → Nat → Prop} {w' : World} (h : ManyS B w0 gs ls S w) (hR : RowsS B ls rs S w) (i : Nat) {S' : Nat → Prop} (hg : gs[i]? = some (g, ns, tq)) (hG : GS B S' g ns tq w') (hM : Mv B (S i) S' w w') {v : Value} {l : List ByteArray} (hO : w'.ownsRow w.heap.size 9 1 v l.length (strs l)) (hN : ∀ k, v.ownBlock = some k → ¬ S' k) (hl : l.length ≤ 1000) :
    ∃ A c, v = .slice A l.length c ∧ ManyR B w0 gs ((A, c, l) :: ls) rs w' := by
  obtain ⟨A, c, e, hc, K, hK, hr⟩ := Lst.of_own hM.2.below.size hO hl
  have hR' := hR.move i hM
  refine ⟨A, c, e, _, (h.move i hg (fun j g' _ hg' => hg') hG hM).more hc (hr w' (fun _ _ => rfl)) (fun ad e2 hn j hk => ?_), { hR' with lap := fun j r k hr' e' x hx ad e2 hn => ?_ }⟩
  · obtain ⟨ho, hb⟩ := own_apart hO e ad e2 hn
    by_cases hji : j = i
    · rw [if_pos hji] at hk; exact hN _ ho hk
    · rw [if_neg hji] at hk
      have := (h.lt j _ hk).2; omega
  · rcases List.mem_cons.1 hx with rfl | hx
    · have h3 := own_lt (hR.own j r hr') k e'
      have h4 := (own_apart hO e ad e2 hn).2
      omega
    · exact hR.lap j r k hr' e' x hx ad e2 hn
theorem mr_set (h : ManyR B w0 gs ls rs w) (i : Nat) (hg : gs[i]? = some (g, ns, tq)) (x : ByteArray) (hx : x.size ≤ 9223372036854775807) :
    Calls Try.prog 22 #[.pointer (some ⟨g, 0, none⟩), .string x] w fun e w' => ∃ A c, e = .returned (.slice A (setR ns tq x).length c) ∧ ManyR B w0 gs ((A, c, setR ns tq x) :: ls) rs w' := by
  obtain ⟨S, h, hR⟩ := h
  refine (set_gs B (S i) g ns tq x hx w h.size (h.gr i _ hg)).mono ?_
  rintro e w' ⟨v, S', rfl, hG, hM, hO, hN⟩
  obtain ⟨A, c, e, hm⟩ := h.gotR hR i hg hG hM hO hN (by have := GS.hN hG; have := setR_len (ns := ns) (tq := tq) (x := x); omega)
  exact ⟨A, c, by rw [e], hm⟩
theorem mr_lead (h : ManyR B w0 gs ls rs w) (i : Nat) (hg : gs[i]? = some (g, ns, tq)) (x : ByteArray) (l : List ByteArray) (hx : x.size ≤ 9223372036854775807) (hl : l.length ≤ 1000) (hw : ∀ y ∈ l, y.size ≤ 9223372036854775807) (hlen : ∀ i, (tq i).length + l.length ≤ 1000000) (cs : Array Value) (hcs : cs = (strs l).toArray) (n c : Nat) (hn : n = l.length) :
    Calls Try.prog 21 #[.pointer (some ⟨g, 0, none⟩), .string x, .slice (some ⟨w.heap.size, 0, none⟩) n c] (w.alloc (.cells cs 9)) fun e w' => e = .returned (.int .i64 (if x ∈ ns then 0 else 3)) ∧ ManyR B w0 (gs.set i (g, ns, leadG ns tq x l)) ls rs w' := by
  obtain ⟨S, h, hR⟩ := h
  refine (lead_built x l (h.gr i _ hg) hx h.size hl hw hlen cs hcs n c hn).mono ?_
  rintro e w' ⟨rfl, S', hG, hM⟩
  refine ⟨rfl, _, h.move i (g := (g, ns, leadG ns tq x l)) ?_ (fun j g' hj hg' => ?_) hG hM, hR.move i hM⟩
  · have := (List.getElem?_eq_some_iff.1 hg).1
    simp [this]
  · rwa [List.getElem?_set_ne (Ne.symm hj)] at hg'
/-- The same where the order is drawn. -/
theorem mr_lead_d (h : ManyR B w0 gs ls rs w) (i : Nat) (hg : gs[i]? = some (g, ns, tq)) (x : ByteArray) (l : List ByteArray) (hx : x.size ≤ 9223372036854775807) (hl : l.length ≤ 1000) (hw : ∀ y ∈ l, y.size ≤ 9223372036854775807) (hlen : ∀ i, (tq i).length + l.length ≤ 1000000) (cs : Array Value) (hcs : cs = (strs l).toArray) (n c : Nat) (hn : n = l.length) :
    Calls Try.prog 21 #[.pointer (some ⟨g, 0, none⟩), .string x, .slice (some ⟨w.heap.size, 0, none⟩) n c] ((w.alloc (.cells cs 9)).drew) fun e w' => e = .returned (.int .i64 (if x ∈ ns then 0 else 3)) ∧ ManyR B w0 (gs.set i (g, ns, leadG ns tq x l)) ls rs w' :=
  mr_lead h.drew i hg x l hx hl hw hlen cs hcs n c hn
variable {ops : Array Oper} {rest : List Oper} {o : Oper} {a : Act} {Q : Exit → Act → World → Prop}
/-- append(v, y): behind 'at_builtin'. -/
theorem mr_append (h : ManyR B w0 gs ls rs w) (i : Nat) {v : Value} {xs : List Int} (y : Int) (hr : rs[i]? = some (v, xs)) (hgd : o.guard = none) (s x : Operand)
    (ho : o.op = .call { callee := .builtin .append, args := #[s, x], argTypes := #[22, 22] }) (hs : a.eval s = v) (hx : a.eval x = .slice (some ⟨w.heap.size, 0, none⟩) 1 1) (hl : xs.length ≤ 1000)
    (K : ∀ v1 w1, ManyR B w0 gs ls (rs.set i (v1, xs ++ [y])) w1 → wpList Try.prog ops Q rest (a.put o.dst v1) w1) : wpList Try.prog ops Q (o :: rest) a (w.alloc (.cells #[.int .i64 y] 3)) :=
  print_append_num (w0 := w0) B hgd s x 22 3 .i64 8 ho Try.underlying22 info3 (by omega) v xs y hs hx (h.own hr) h.below h.size (by omega)
    fun v1 w1 hown hb hg hat => K v1 w1 (h.grow hr hown hg hat hb)
end
end Go.Proofs.Ytiljegeodokfmaa.Fs
