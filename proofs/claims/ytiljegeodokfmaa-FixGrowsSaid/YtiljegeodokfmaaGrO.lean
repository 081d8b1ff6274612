/- fix: several graphs, lists, and lists that grow, in one memory. -/
import Derived.Test.YtiljegeodokfmaaGrM
namespace Go.Proofs.Ytiljegeodokfmaa.Fx
open Go Go.RowKit Go.Proofs.YtiljegeodokfmaaW.PrintWords Go.Proofs.YtiljegeodokfmaaW.PrintLast Go.Proofs.YtiljegeodokfmaaW.PrintMore Go.Proofs.Ytiljegeodokfmaa.PA
set_option linter.unusedVariables false
set_option linter.unusedSimpArgs false

abbrev Rw := Value × List Int
def nilRw : Rw := (.slice none 0 0, [])
structure RowsS (B : Nat) (ls : List Ls) (rs : List Rw) (S : Nat → Nat → Prop) (w : World) : Prop where
  own : ∀ (i : Nat) (r : Rw), rs[i]? = some r → w.ownsRow B 3 1 r.1 r.2.length (nums .i64 r.2)
  gap : ∀ (i : Nat) (r : Rw) (k : Nat), rs[i]? = some r → r.1.ownBlock = some k → ∀ j, ¬ S j k
  lap : ∀ (i : Nat) (r : Rw) (k : Nat), rs[i]? = some r → r.1.ownBlock = some k → ∀ x ∈ ls, ∀ ad, x.1 = some ad → 0 < x.2.2.length → ad.block ≠ k
  dis : ∀ (i j : Nat) (r q : Rw) (k : Nat), i ≠ j → rs[i]? = some r → rs[j]? = some q → r.1.ownBlock = some k → q.1.ownBlock ≠ some k
def ManyR (B : Nat) (w0 : World) (gs : List Gr) (ls : List Ls) (rs : List Rw) (w : World) : Prop := ∃ S, ManyS B w0 gs ls S w ∧ RowsS B ls rs S w
theorem RowsS.heap {B : Nat} {ls : List Ls} {rs : List Rw} {S : Nat → Nat → Prop} {w w' : World} (h : RowsS B ls rs S w) (hb : Below w.heap.size w w') : RowsS B ls rs S w' :=
  { h with own := fun i r hr => own_heap (h.own i r hr) (fun k e => hb.block k (own_lt (h.own i r hr) k e)) }
theorem RowsS.move {B : Nat} {ls : List Ls} {rs : List Rw} {S : Nat → Nat → Prop} {w w' : World} (h : RowsS B ls rs S w) (i : Nat) {S' : Nat → Prop} (hM : Mv B (S i) S' w w') : RowsS B ls rs (fun j k => if j = i then S' k else S j k) w' :=
  { h with
    own := fun j r hr => own_heap (h.own j r hr) (fun k e => hM.2.keep k (own_lt (h.own j r hr) k e) (h.gap j r k hr e i))
    gap := fun j r k hr e n hk => by
      by_cases hn : n = i
      · rw [if_pos hn] at hk
        rcases hM.1 k hk with h' | h'
        · exact h.gap j r k hr e i h'
        · have := own_lt (h.own j r hr) k e; omega
      · rw [if_neg hn] at hk
        exact h.gap j r k hr e n hk }
section
variable {B : Nat} {w0 : World} {gs : List Gr} {ls : List Ls} {rs : List Rw} {w : World} {g : Nat} {ns : List Int} {tq : Nat → List Nat}
theorem ManyR.many (h : ManyR B w0 gs ls rs w) : Many B w0 gs ls w := by obtain ⟨S, h, _⟩ := h; exact ⟨S, h⟩
theorem ManyR.heap {w' : World} (h : ManyR B w0 gs ls rs w) (hb : Below w.heap.size w w') : ManyR B w0 gs ls rs w' := by
  obtain ⟨S, h1, h2⟩ := h; exact ⟨S, h1.heap hb, h2.heap hb⟩
theorem ManyR.drew (h : ManyR B w0 gs ls rs w) : ManyR B w0 gs ls rs w.drew := h.heap (Below.refl _ w).drew
theorem ManyR.alloc (h : ManyR B w0 gs ls rs w) (o : Obj) : ManyR B w0 gs ls rs (w.alloc o) := h.heap ((Below.refl _ w).alloc (Nat.le_refl _) o)
theorem ManyR.drewN (h : ManyR B w0 gs ls rs w) (n : Nat) : ManyR B w0 gs ls rs (w.drewN n) := h.heap (pw_below_drewN (Below.refl _ w) n)
theorem ManyR.sub {ls' : List Ls} (h : ManyR B w0 gs ls rs w) (hs : ∀ x ∈ ls', x ∈ ls) : ManyR B w0 gs ls' rs w := by
  obtain ⟨S, h1, h2⟩ := h
  exact ⟨S, { h1 with rd := fun x hx => h1.rd x (hs x hx), apart := fun x hx => h1.apart x (hs x hx) }, { h2 with lap := fun i r k hr e x hx => h2.lap i r k hr e x (hs x hx) }⟩
theorem ManyR.reads (h : ManyR B w0 gs ls rs w) {A : Option Addr} {c : Nat} {xs : List Int} (hx : (A, c, xs) ∈ ls) : xs.length ≤ c ∧ ReadsInt w .i64 A xs.length xs := h.many.reads hx
theorem ManyR.below (h : ManyR B w0 gs ls rs w) : Below B w0 w := h.many.below
theorem ManyR.size (h : ManyR B w0 gs ls rs w) : B ≤ w.heap.size := h.many.size
theorem ManyR.own (h : ManyR B w0 gs ls rs w) {i : Nat} {v : Value} {xs : List Int} (hr : rs[i]? = some (v, xs)) : w.ownsRow B 3 1 v xs.length (nums .i64 xs) := by
  obtain ⟨S, h1, h2⟩ := h; exact h2.own i _ hr
/-- Other rows: those that are there, at their places, or nil. -/
theorem ManyR.rows {rs' : List Rw} (h : ManyR B w0 gs ls rs w) (hs : ∀ (i : Nat) (r : Rw), rs'[i]? = some r → rs[i]? = some r ∨ r = nilRw) : ManyR B w0 gs ls rs' w := by
  obtain ⟨S, h1, h2⟩ := h
  have hnil : ∀ k, nilRw.1.ownBlock = some k → False := fun k e => by simp [nilRw, Value.ownBlock] at e
  refine ⟨S, h1, ⟨fun i r hr => ?_, fun i r k hr e => ?_, fun i r k hr e => ?_, fun i j r q k hij hr hq e => ?_⟩⟩
  · rcases hs i r hr with h' | rfl
    · exact h2.own i r h'
    · exact World.ownsRow_nil w B _ 1
  · rcases hs i r hr with h' | rfl
    · exact h2.gap i r k h' e
    · exact (hnil k e).elim
  · rcases hs i r hr with h' | rfl
    · exact h2.lap i r k h' e
    · exact (hnil k e).elim
  · rcases hs i r hr with h' | rfl
    · rcases hs j q hq with h'' | rfl
      · exact h2.dis i j r q k hij h' h'' e
      · intro e'; exact hnil k e'
    · exact (hnil k e).elim
theorem Many.norows (h : Many B w0 gs ls w) : ManyR B w0 gs ls [] w := by
  obtain ⟨S, h⟩ := h
  exact ⟨S, h, ⟨fun i r hr => by simp at hr, fun i r k hr => by simp at hr, fun i r k hr => by simp at hr, fun i j r q k _ hr => by simp at hr⟩⟩
/-- A row grows. -/
theorem grow_S {S : Nat → Nat → Prop} {w1 : World} (h1 : ManyS B w0 gs ls S w) (h2 : RowsS B ls rs S w) {i : Nat} {v v1 : Value} {xs ys : List Int} (hr : rs[i]? = some (v, xs)) (hown : w1.ownsRow B 3 1 v1 ys.length (nums .i64 ys)) (hg : w.grownBy w1 v.ownBlock) (hat : v1.ownBlock = v.ownBlock ∨ ∃ b, v1.ownBlock = some b ∧ w.heap.size ≤ b) (hb : Below B w0 w1) :
    ManyS B w0 gs ls S w1 ∧ RowsS B ls (rs.set i (v1, ys)) S w1 := by
  have hil := (List.getElem?_eq_some_iff.1 hr).1
  have hget : ∀ (j : Nat) (r : Rw), (rs.set i (v1, ys))[j]? = some r → (j = i ∧ r = (v1, ys)) ∨ (j ≠ i ∧ rs[j]? = some r) := fun j r h' => by
    by_cases hj : j = i
    · subst hj
      rw [List.getElem?_set_self hil] at h'
      injection h' with h'
      exact .inl ⟨rfl, h'.symm⟩
    · rw [List.getElem?_set_ne (Ne.symm hj)] at h'
      exact .inr ⟨hj, h'⟩
  have hS : ∀ j k, S j k → w1.heap[k]? = w.heap[k]? := fun j k hk => hg.block k (h1.lt j k hk).2 (fun e => h2.gap i _ k hr e.symm j hk)
  have hnew : ∀ k, v1.ownBlock = some k → v.ownBlock = some k ∨ w.heap.size ≤ k := fun k e => by
    rcases hat with h' | ⟨b, h', hb⟩
    · exact .inl (h' ▸ e)
    · rw [h'] at e; injection e with e; exact .inr (e ▸ hb)
  refine ⟨⟨fun j g' hg' => (h1.gr j g' hg').heap hg.size (hS j), h1.dis, fun j k hk => ⟨(h1.lt j k hk).1, Nat.lt_of_lt_of_le (h1.lt j k hk).2 hg.size⟩, hb, Nat.le_trans h1.size hg.size, fun x hx => ⟨(h1.rd x hx).1, reads_keep (h1.rd x hx).2 (fun ad e hn => hg.block _ (reads_lt (h1.rd x hx).2 e hn) (fun e' => h2.lap i _ _ hr e'.symm x hx ad e hn rfl))⟩, h1.apart⟩, ⟨fun j r h' => ?_, fun j r k h' e n hk => ?_, fun j r k h' e x hx ad e2 hn e3 => ?_, fun j n r q k hjn h' h'' e => ?_⟩⟩
  · rcases hget j r h' with ⟨rfl, rfl⟩ | ⟨hj, h'⟩
    · exact hown
    · exact own_heap (h2.own j r h') (fun k e => hg.block k (own_lt (h2.own j r h') k e) (fun e' => h2.dis j i r _ k hj h' hr e e'.symm))
  · rcases hget j r h' with ⟨rfl, rfl⟩ | ⟨hj, h'⟩
    · rcases hnew k e with e | e
      · exact h2.gap j _ k hr e n hk
      · have := (h1.lt n k hk).2; omega
    · exact h2.gap j r k h' e n hk
  · rcases hget j r h' with ⟨rfl, rfl⟩ | ⟨hj, h'⟩
    · rcases hnew k e with e | e
      · exact h2.lap j _ k hr e x hx ad e2 hn e3
      · have := reads_lt (h1.rd x hx).2 e2 hn; omega
    · exact h2.lap j r k h' e x hx ad e2 hn e3
  · intro e'
    rcases hget j r h' with ⟨rfl, rfl⟩ | ⟨hj, hjr⟩
    · rcases hget n q h'' with ⟨rfl, rfl⟩ | ⟨hn, h''⟩
      · exact hjn rfl
      · rcases hnew k e with e | e
        · exact h2.dis n j q _ k hn h'' hr e' e
        · have := own_lt (h2.own n q h'') k e'; omega
    · rcases hget n q h'' with ⟨rfl, rfl⟩ | ⟨hn, h''⟩
      · rcases hnew k e' with e' | e'
        · exact h2.dis j n r _ k hj hjr hr e e'
        · have := own_lt (h2.own j r hjr) k e; omega
      · exact h2.dis j n r q k hjn hjr h'' e e'
theorem ManyR.grow {w1 : World} (h : ManyR B w0 gs ls rs w) {i : Nat} {v v1 : Value} {xs ys : List Int} (hr : rs[i]? = some (v, xs)) (hown : w1.ownsRow B 3 1 v1 ys.length (nums .i64 ys)) (hg : w.grownBy w1 v.ownBlock) (hat : v1.ownBlock = v.ownBlock ∨ ∃ b, v1.ownBlock = some b ∧ w.heap.size ≤ b) (hb : Below B w0 w1) :
    ManyR B w0 gs ls (rs.set i (v1, ys)) w1 := by
  obtain ⟨S, h1, h2⟩ := h
  exact ⟨S, grow_S h1 h2 hr hown hg hat hb⟩
/-- A row that grows no more is a list. -/
theorem freeze_S {S : Nat → Nat → Prop} (h1 : ManyS B w0 gs ls S w) (h2 : RowsS B ls rs S w) (i : Nat) {v : Value} {xs : List Int} (hr : rs[i]? = some (v, xs)) (hl : xs.length ≤ 1000) :
    ∃ A c, v = .slice A xs.length c ∧ ManyS B w0 gs ((A, c, xs) :: ls) S w ∧ RowsS B ((A, c, xs) :: ls) (rs.set i nilRw) S w := by
  have hil := (List.getElem?_eq_some_iff.1 hr).1
  have hO := h2.own i _ hr
  obtain ⟨A, c, e, hc, K, hK, hrd⟩ := Lst.of_own h1.size hO hl
  refine ⟨A, c, e, ?_⟩
  have hblk : ∀ ad, A = some ad → 0 < xs.length → v.ownBlock = some ad.block := fun ad e2 hn => (own_apart hO e ad e2 hn).1
  have hm := h1.more (x := (A, c, xs)) hc (hrd w (fun _ _ => rfl)) (fun ad e2 hn j hk => h2.gap i _ _ hr (hblk ad e2 hn) j hk)
  have hget : ∀ (j : Nat) (r : Rw) (k : Nat), (rs.set i nilRw)[j]? = some r → r.1.ownBlock = some k → j ≠ i ∧ rs[j]? = some r := fun j r k h' e => by
    by_cases hj : j = i
    · subst hj
      rw [List.getElem?_set_self hil] at h'
      injection h' with h'
      subst h'
      simp [nilRw, Value.ownBlock] at e
    · rw [List.getElem?_set_ne (Ne.symm hj)] at h'
      exact ⟨hj, h'⟩
  refine ⟨hm, ⟨fun j r h' => ?_, fun j r k h' e => (h2.gap j r k (hget j r k h' e).2 e), fun j r k h' e x hx ad e2 hn => ?_, fun j n r q k hjn h' h'' e e' => h2.dis j n r q k hjn (hget j r k h' e).2 (hget n q k h'' e').2 e e'⟩⟩
  · by_cases hj : j = i
    · subst hj
      rw [List.getElem?_set_self hil] at h'
      injection h' with h'
      subst h'
      exact World.ownsRow_nil w B _ 1
    · rw [List.getElem?_set_ne (Ne.symm hj)] at h'
      exact h2.own j r h'
  · obtain ⟨hj, h'⟩ := hget j r k h' e
    rcases List.mem_cons.1 hx with rfl | hx
    · intro e3
      exact h2.dis j i r _ k hj h' hr e (e3 ▸ hblk ad e2 hn)
    · exact h2.lap j r k h' e x hx ad e2 hn
theorem ManyR.freeze (h : ManyR B w0 gs ls rs w) (i : Nat) {v : Value} {xs : List Int} (hr : rs[i]? = some (v, xs)) (hl : xs.length ≤ 1000) :
    ∃ A c, v = .slice A xs.length c ∧ ManyR B w0 gs ((A, c, xs) :: ls) (rs.set i nilRw) w := by
  obtain ⟨S, h1, h2⟩ := h
  obtain ⟨A, c, e, h⟩ := freeze_S h1 h2 i hr hl
  exact ⟨A, c, e, S, h⟩
/-- What a call leaves (blocks of its own only), and a list of its own. -/
theorem ManyR.more {w' : World} (h : ManyR B w0 gs ls rs w) (hb : Below w.heap.size w w') {A : Option Addr} {c : Nat} {xs : List Int} (hc : xs.length ≤ c) (hr : ReadsInt w' .i64 A xs.length xs) (ha : ∀ ad, A = some ad → 0 < xs.length → ad.block < B ∨ w.heap.size ≤ ad.block) : ManyR B w0 gs ((A, c, xs) :: ls) rs w' := by
  obtain ⟨S, h1, h2⟩ := h
  refine ⟨S, (h1.heap hb).more hc hr (fun ad e hn i hk => ?_), { h2.heap hb with lap := fun i r k hr' e x hx ad e2 hn => ?_ }⟩
  · have := h1.lt i _ hk
    rcases ha ad e hn with h' | h' <;> omega
  · rcases List.mem_cons.1 hx with rfl | hx
    · have h3 := own_lt (h2.own i r hr') k e
      have h4 := Go.Proofs.YtiljegeodokfmaaW.PrintWords.own_base (h2.own i r hr') k e
      rcases ha ad e2 hn with h' | h' <;> omega
    · exact h2.lap i r k hr' e x hx ad e2 hn
theorem mr_new (h : ManyR B w0 gs ls rs w) (A : Option Addr) (c : Nat) (xs : List Int) (hr : ReadsInt w .i64 A xs.length xs) (hl : xs.length ≤ 1000) (hw : ∀ x ∈ xs, (Lit.int .i64 x).wf = true) :
    Calls Try.prog 9 #[.slice A xs.length c] w fun e w' => ∃ g, e = .returned (.pointer (some ⟨g, 0, none⟩)) ∧ ManyR B w0 (gs ++ [(g, onceF xs, fun _ => [])]) ls rs w' := by
  obtain ⟨S, h, hR⟩ := h
  refine (new_gs A c xs w B h.size hr hl hw).mono ?_
  rintro e w' ⟨g, S1, rfl, hG, hM⟩
  have hT : ManyS B w0 gs ls (fun j k => if j < gs.length then S j k else False) w :=
    { h with
      gr := fun i g' hg' => by have := (List.getElem?_eq_some_iff.1 hg').1; simpa [this] using h.gr i g' hg'
      dis := fun i j k hij hi hj => by
        by_cases h1 : i < gs.length
        · by_cases h2 : j < gs.length
          · exact h.dis i j k hij (by simpa [h1] using hi) (by simpa [h2] using hj)
          · simp [h2] at hj
        · simp [h1] at hi
      lt := fun i k hk => by
        by_cases h1 : i < gs.length
        · exact h.lt i k (by simpa [h1] using hk)
        · simp [h1] at hk
      apart := fun x hx ad e hn i hk => by
        by_cases h1 : i < gs.length
        · exact h.apart x hx ad e hn i (by simpa [h1] using hk)
        · simp [h1] at hk }
  have hR2 : RowsS B ls rs (fun j k => if j < gs.length then S j k else False) w :=
    { hR with
      gap := fun i r k hr e j hk => by
        by_cases h1 : j < gs.length
        · exact hR.gap i r k hr e j (by simpa [h1] using hk)
        · simp [h1] at hk }
  have hM' : Mv B ((fun j k => if j < gs.length then S j k else False) gs.length) S1 w w' := by
    simp only [Nat.lt_irrefl, if_false]; exact hM
  refine ⟨g, rfl, _, hT.move gs.length (g := (g, onceF xs, fun _ => [])) (S' := S1) (by simp) (fun j g' hj hg' => ?_) hG hM', hR2.move gs.length hM'⟩
  rcases Nat.lt_or_ge j gs.length with h1 | h1
  · rwa [List.getElem?_append_left h1] at hg'
  · rw [List.getElem?_append_right h1] at hg'
    have := (List.getElem?_eq_some_iff.1 hg').1
    simp at this; omega
theorem mr_circle (h : ManyR B w0 gs ls rs w) (i : Nat) (hg : gs[i]? = some (g, ns, tq)) (x : Int) (hx : (Lit.int .i64 x).wf = true) :
    Calls Try.prog 18 #[.pointer (some ⟨g, 0, none⟩), .int .i64 x] w fun e w' => e = .returned (.bool (circR ns tq x)) ∧ ManyR B w0 gs ls rs w' := by
  obtain ⟨S, h, hR⟩ := h
  refine (circle_gs B (S i) g ns tq x hx w h.size (h.gr i _ hg)).mono ?_
  rintro e w' ⟨rfl, S', hG, hM⟩
  exact ⟨rfl, _, h.move i hg (fun j g' _ hg' => hg') hG hM, hR.move i hM⟩
theorem mr_same (h : ManyR B w0 gs ls rs w) (i : Nat) (hg : gs[i]? = some (g, ns, tq)) (x y : Int) (hx : (Lit.int .i64 x).wf = true) (hy : (Lit.int .i64 y).wf = true) :
    Calls Try.prog 19 #[.pointer (some ⟨g, 0, none⟩), .int .i64 x, .int .i64 y] w fun e w' => e = .returned (.bool (sameR ns tq x y)) ∧ ManyR B w0 gs ls rs w' := by
  obtain ⟨S, h, hR⟩ := h
  refine (same_gs B (S i) g ns tq x y hx hy w h.size (h.gr i _ hg)).mono ?_
  rintro e w' ⟨rfl, S', hG, hM⟩
  exact ⟨rfl, _, h.move i hg (fun j g' _ hg' => hg') hG hM, hR.move i hM⟩
theorem ManyS.gotR {S : Nat → Nat → Prop} {w' : World} (h : ManyS B w0 gs ls S w) (hR : RowsS B ls rs S w) (i : Nat) {S' : Nat → Prop} (hg : gs[i]? = some (g, ns, tq)) (hG : GS B S' g ns tq w') (hM : Mv B (S i) S' w w') {v : Value} {l : List Int} (hO : w'.ownsRow w.heap.size 3 1 v l.length (nums .i64 l)) (hN : ∀ k, v.ownBlock = some k → ¬ S' k) (hl : l.length ≤ 1000) :
    ∃ A c, v = .slice A l.length c ∧ ManyR B w0 gs ((A, c, l) :: ls) rs w' := by
  obtain ⟨A, c, e, hc, K, hK, hr⟩ := Lst.of_own hM.2.below.size hO hl
  have hR' := hR.move i hM
  refine ⟨A, c, e, _, (h.move i hg (fun j g' _ hg' => hg') hG hM).more hc (hr w' (fun _ _ => rfl)) (fun ad e2 hn j hk => ?_), { hR' with lap := fun j r k hr' e' x hx ad e2 hn => ?_ }⟩
  · obtain ⟨ho, hb⟩ := own_apart hO e ad e2 hn
    by_cases hji : j = i
    · rw [if_pos hji] at hk; exact hN _ ho hk
    · rw [if_neg hji] at hk
      have := (h.lt j _ hk).2; omega
  · rcases List.mem_cons.1 hx with rfl | hx
    · have h3 := own_lt (hR.own j r hr') k e'
      have h4 := (own_apart hO e ad e2 hn).2
      omega
    · exact hR.lap j r k hr' e' x hx ad e2 hn
theorem mr_set (h : ManyR B w0 gs ls rs w) (i : Nat) (hg : gs[i]? = some (g, ns, tq)) (x : Int) (hx : (Lit.int .i64 x).wf = true) :
    Calls Try.prog 13 #[.pointer (some ⟨g, 0, none⟩), .int .i64 x] w fun e w' => ∃ A c, e = .returned (.slice A (setR ns tq x).length c) ∧ ManyR B w0 gs ((A, c, setR ns tq x) :: ls) rs w' := by
  obtain ⟨S, h, hR⟩ := h
  refine (set_gs B (S i) g ns tq x hx w h.size (h.gr i _ hg)).mono ?_
  rintro e w' ⟨v, S', rfl, hG, hM, hO, hN⟩
  obtain ⟨A, c, e, hm⟩ := h.gotR hR i hg hG hM hO hN (by have := GS.hN hG; have := setR_len (ns := ns) (tq := tq) (x := x); omega)
  exact ⟨A, c, by rw [e], hm⟩
theorem mr_circles (h : ManyR B w0 gs ls rs w) (i : Nat) (hg : gs[i]? = some (g, ns, tq)) (hw : ∀ x ∈ ns, (Lit.int .i64 x).wf = true) :
    Calls Try.prog 14 #[.pointer (some ⟨g, 0, none⟩)] w fun e w' => ∃ A c, e = .returned (.slice A (circsR ns tq).length c) ∧ ManyR B w0 gs ((A, c, circsR ns tq) :: ls) rs w' := by
  obtain ⟨S, h, hR⟩ := h
  refine (circles_gs B (S i) g ns tq w hw h.size (h.gr i _ hg)).mono ?_
  rintro e w' ⟨v, S', rfl, hG, hM, hO, hN⟩
  obtain ⟨A, c, e, hm⟩ := h.gotR hR i hg hG hM hO hN (by have := GS.hN hG; have : (circsR ns tq).length ≤ ns.length := List.length_filter_le _ _; omega)
  exact ⟨A, c, by rw [e], hm⟩
theorem mr_lead (h : ManyR B w0 gs ls rs w) (i : Nat) (hg : gs[i]? = some (g, ns, tq)) (x : Int) (l : List Int) (hx : (Lit.int .i64 x).wf = true) (hl : l.length ≤ 1000) (hw : ∀ y ∈ l, (Lit.int .i64 y).wf = true) (hlen : ∀ i, (tq i).length + l.length ≤ 1000000) (cs : Array Value) (hcs : cs = (nums .i64 l).toArray) (n c : Nat) (hn : n = l.length) :
    Calls Try.prog 10 #[.pointer (some ⟨g, 0, none⟩), .int .i64 x, .slice (some ⟨w.heap.size, 0, none⟩) n c] (w.alloc (.cells cs 3)) fun e w' => e = .returned (.int .i64 (if x ∈ ns then 0 else 3)) ∧ ManyR B w0 (gs.set i (g, ns, leadG ns tq x l)) ls rs w' := by
  obtain ⟨S, h, hR⟩ := h
  refine (lead_built x l (h.gr i _ hg) hx h.size hl hw hlen cs hcs n c hn).mono ?_
  rintro e w' ⟨rfl, S', hG, hM⟩
  refine ⟨rfl, _, h.move i (g := (g, ns, leadG ns tq x l)) ?_ (fun j g' hj hg' => ?_) hG hM, hR.move i hM⟩
  · have := (List.getElem?_eq_some_iff.1 hg).1
    simp [this]
  · rwa [List.getElem?_set_ne (Ne.symm hj)] at hg'
/-- The same where the order is drawn. -/
theorem mr_lead_d (h : ManyR B w0 gs ls rs w) (i : Nat) (hg : gs[i]? = some (g, ns, tq)) (x : Int) (l : List Int) (hx : (Lit.int .i64 x).wf = true) (hl : l.length ≤ 1000) (hw : ∀ y ∈ l, (Lit.int .i64 y).wf = true) (hlen : ∀ i, (tq i).length + l.length ≤ 1000000) (cs : Array Value) (hcs : cs = (nums .i64 l).toArray) (n c : Nat) (hn : n = l.length) :
    Calls Try.prog 10 #[.pointer (some ⟨g, 0, none⟩), .int .i64 x, .slice (some ⟨w.heap.size, 0, none⟩) n c] ((w.alloc (.cells cs 3)).drew) fun e w' => e = .returned (.int .i64 (if x ∈ ns then 0 else 3)) ∧ ManyR B w0 (gs.set i (g, ns, leadG ns tq x l)) ls rs w' :=
  mr_lead h.drew i hg x l hx hl hw hlen cs hcs n c hn
theorem mr_same3 (h : ManyR B w0 gs ls rs w) {A1 A2 : Option Addr} {c1 c2 : Nat} {l1 l2 : List Int} (h1 : (A1, c1, l1) ∈ ls) (h2 : (A2, c2, l2) ∈ ls) {k : Nat} {r : Bool} (hf : cupelref03_Same.f k l1 l2 = some r) :
    Calls Try.prog 12 #[.slice A1 l1.length c1, .slice A2 l2.length c2] w fun e w' => e = .returned (.bool r) ∧ ManyR B w0 gs ls rs w' := by
  refine (cupelref03_Same.calls k A1 c1 l1 A2 c2 l2 r w (C_of_reads_ (h.reads h1).2) (h.reads h1).1 (C_of_reads_ (h.reads h2).2) (h.reads h2).1 hf).mono ?_
  rintro e w' ⟨rfl, n, rfl⟩
  exact ⟨rfl, h.drewN n⟩
variable {ops : Array Oper} {rest : List Oper} {o : Oper} {a : Act} {Q : Exit → Act → World → Prop}
/-- append(v, y): behind 'at_builtin'. -/
theorem mr_append (h : ManyR B w0 gs ls rs w) (i : Nat) {v : Value} {xs : List Int} (y : Int) (hr : rs[i]? = some (v, xs)) (hgd : o.guard = none) (s x : Operand)
    (ho : o.op = .call { callee := .builtin .append, args := #[s, x], argTypes := #[22, 22] }) (hs : a.eval s = v) (hx : a.eval x = .slice (some ⟨w.heap.size, 0, none⟩) 1 1) (hl : xs.length ≤ 1000)
    (K : ∀ v1 w1, ManyR B w0 gs ls (rs.set i (v1, xs ++ [y])) w1 → wpList Try.prog ops Q rest (a.put o.dst v1) w1) : wpList Try.prog ops Q (o :: rest) a (w.alloc (.cells #[.int .i64 y] 3)) :=
  print_append_num (w0 := w0) B hgd s x 22 3 .i64 8 ho Try.underlying22 info3 (by omega) v xs y hs hx (h.own hr) h.below h.size (by omega)
    fun v1 w1 hown hb hg hat => K v1 w1 (h.grow hr hown hg hat hb)
theorem mr_append_row (h : ManyR B w0 gs ls rs w) (i : Nat) {v : Value} {xs : List Int} (ys : List Int) (cs : Array Value) (hcs : cs = (nums .i64 ys).toArray) (hr : rs[i]? = some (v, xs)) (hgd : o.guard = none) (s x : Operand) (n c : Nat) (hn : n = ys.length)
    (ho : o.op = .call { callee := .builtin .append, args := #[s, x], argTypes := #[22, 22] }) (hs : a.eval s = v) (hx : a.eval x = .slice (some ⟨w.heap.size, 0, none⟩) n c) (hl : xs.length ≤ 1000) (hl2 : ys.length ≤ 1000)
    (K : ∀ v1 w1, ManyR B w0 gs ls (rs.set i (v1, xs ++ ys)) w1 → wpList Try.prog ops Q rest (a.put o.dst v1) w1) : wpList Try.prog ops Q (o :: rest) a (w.alloc (.cells cs 3)) := by
  subst hcs hn
  have h2 := h.alloc (.cells (nums .i64 ys).toArray 3)
  exact print_append_row (w0 := w0) B hgd s x 22 3 .i64 8 ho Try.underlying22 info3 (by omega) v xs ys _ _ c hs hx (h2.own hr) (built_reads (World.alloc_heap_new w _) hl2) h2.below h2.size (by omega)
    fun v1 w1 hown hb hg hat => K v1 w1 (h2.grow hr hown hg hat hb)
end
end Go.Proofs.Ytiljegeodokfmaa.Fx
