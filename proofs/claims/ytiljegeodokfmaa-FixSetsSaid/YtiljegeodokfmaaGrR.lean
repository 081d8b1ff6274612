/- fix: graphs, lists, growing lists and kept blocks in one memory; a graph that is not solved yet. -/
import Derived.Test.YtiljegeodokfmaaGrQ
namespace Go.Proofs.Ytiljegeodokfmaa.Fx
open Go Go.RowKit Go.Proofs.YtiljegeodokfmaaW.PrintWords Go.Proofs.YtiljegeodokfmaaW.PrintLast Go.Proofs.YtiljegeodokfmaaW.PrintMore Go.Proofs.Ytiljegeodokfmaa.PA
set_option linter.unusedVariables false
set_option linter.unusedSimpArgs false

abbrev Kp := Nat × Obj
structure KeptS (rs : List Rw) (ks : List Kp) (S : Nat → Nat → Prop) (w : World) : Prop where
  blk : ∀ x ∈ ks, w.heap[x.1]? = some x.2
  gap : ∀ x ∈ ks, ∀ j, ¬ S j x.1
  row : ∀ x ∈ ks, ∀ (i : Nat) (r : Rw), rs[i]? = some r → r.1.ownBlock ≠ some x.1
theorem KeptS.lt {rs : List Rw} {ks : List Kp} {S : Nat → Nat → Prop} {w : World} (h : KeptS rs ks S w) {x : Kp} (hx : x ∈ ks) : x.1 < w.heap.size := (Array.getElem?_eq_some_iff.1 (h.blk x hx)).1
theorem KeptS.heap {rs : List Rw} {ks : List Kp} {S : Nat → Nat → Prop} {w w' : World} (h : KeptS rs ks S w) (hb : Below w.heap.size w w') : KeptS rs ks S w' :=
  { h with blk := fun x hx => (hb.block x.1 (h.lt hx)).trans (h.blk x hx) }
theorem KeptS.move {rs : List Rw} {ks : List Kp} {S : Nat → Nat → Prop} {w w' : World} (h : KeptS rs ks S w) (i : Nat) {S' : Nat → Prop} {B : Nat} (hM : Mv B (S i) S' w w') : KeptS rs ks (fun j k => if j = i then S' k else S j k) w' where
  blk := fun x hx => (hM.2.keep x.1 (h.lt hx) (h.gap x hx i)).trans (h.blk x hx)
  gap := fun x hx j hk => by
    by_cases hj : j = i
    · rw [if_pos hj] at hk
      rcases hM.1 _ hk with h' | h'
      · exact h.gap x hx i h'
      · have := h.lt hx; omega
    · rw [if_neg hj] at hk
      exact h.gap x hx j hk
  row := h.row
def ManyK (B : Nat) (w0 : World) (gs : List Gr) (ls : List Ls) (rs : List Rw) (ks : List Kp) (w : World) : Prop := ∃ S, ManyS B w0 gs ls S w ∧ RowsS B ls rs S w ∧ KeptS rs ks S w
section
variable {B : Nat} {w0 : World} {gs : List Gr} {ls : List Ls} {rs : List Rw} {ks : List Kp} {w : World} {g : Nat} {ns : List Int} {tq : Nat → List Nat}
theorem ManyK.manyR (h : ManyK B w0 gs ls rs ks w) : ManyR B w0 gs ls rs w := by obtain ⟨S, h1, h2, _⟩ := h; exact ⟨S, h1, h2⟩
theorem ManyK.heap {w' : World} (h : ManyK B w0 gs ls rs ks w) (hb : Below w.heap.size w w') : ManyK B w0 gs ls rs ks w' := by
  obtain ⟨S, h1, h2, h3⟩ := h; exact ⟨S, h1.heap hb, h2.heap hb, h3.heap hb⟩
theorem ManyK.drew (h : ManyK B w0 gs ls rs ks w) : ManyK B w0 gs ls rs ks w.drew := h.heap (Below.refl _ w).drew
theorem ManyK.drewN (h : ManyK B w0 gs ls rs ks w) (n : Nat) : ManyK B w0 gs ls rs ks (w.drewN n) := h.heap (pw_below_drewN (Below.refl _ w) n)
theorem ManyK.reads (h : ManyK B w0 gs ls rs ks w) {A : Option Addr} {c : Nat} {xs : List Int} (hx : (A, c, xs) ∈ ls) : xs.length ≤ c ∧ ReadsInt w .i64 A xs.length xs := h.manyR.reads hx
theorem ManyK.below (h : ManyK B w0 gs ls rs ks w) : Below B w0 w := h.manyR.below
theorem ManyK.size (h : ManyK B w0 gs ls rs ks w) : B ≤ w.heap.size := h.manyR.size
theorem ManyK.own (h : ManyK B w0 gs ls rs ks w) {i : Nat} {v : Value} {xs : List Int} (hr : rs[i]? = some (v, xs)) : w.ownsRow B 3 1 v xs.length (nums .i64 xs) := h.manyR.own hr
theorem ManyK.kept (h : ManyK B w0 gs ls rs ks w) {b : Nat} {o : Obj} (hx : (b, o) ∈ ks) : w.heap[b]? = some o := by obtain ⟨S, _, _, h3⟩ := h; exact h3.blk _ hx
theorem ManyK.sub {ls' : List Ls} {ks' : List Kp} (h : ManyK B w0 gs ls rs ks w) (hs : ∀ x ∈ ls', x ∈ ls) (hk : ∀ x ∈ ks', x ∈ ks) : ManyK B w0 gs ls' rs ks' w := by
  obtain ⟨S, h1, h2, h3⟩ := h
  exact ⟨S, { h1 with rd := fun x hx => h1.rd x (hs x hx), apart := fun x hx => h1.apart x (hs x hx) }, { h2 with lap := fun i r k hr e x hx => h2.lap i r k hr e x (hs x hx) }, ⟨fun x hx => h3.blk x (hk x hx), fun x hx => h3.gap x (hk x hx), fun x hx => h3.row x (hk x hx)⟩⟩
/-- A block more that is kept. -/
theorem ManyK.keep {w' : World} (h : ManyK B w0 gs ls rs ks w) (hb : Below w.heap.size w w') {b : Nat} {o : Obj} (hbw : w.heap.size ≤ b) (ho : w'.heap[b]? = some o) : ManyK B w0 gs ls rs ((b, o) :: ks) w' := by
  obtain ⟨S, h1, h2, h3⟩ := h
  have h3' := h3.heap hb
  refine ⟨S, h1.heap hb, h2.heap hb, ⟨fun x hx => ?_, fun x hx j hk => ?_, fun x hx i r hr e => ?_⟩⟩
  · rcases List.mem_cons.1 hx with rfl | hx
    · exact ho
    · exact h3'.blk x hx
  · rcases List.mem_cons.1 hx with rfl | hx
    · have := (h1.lt j _ hk).2; simp only at this; omega
    · exact h3.gap x hx j hk
  · rcases List.mem_cons.1 hx with rfl | hx
    · have := own_lt (h2.own i r hr) _ e; simp only at this; omega
    · exact h3.row x hx i r hr e
theorem mk_circle (h : ManyK B w0 gs ls rs ks w) (i : Nat) (hg : gs[i]? = some (g, ns, tq)) (x : Int) (hx : (Lit.int .i64 x).wf = true) :
    Calls Try.prog 18 #[.pointer (some ⟨g, 0, none⟩), .int .i64 x] w fun e w' => e = .returned (.bool (circR ns tq x)) ∧ ManyK B w0 gs ls rs ks w' := by
  obtain ⟨S, h, hR, hK⟩ := h
  refine (circle_gs B (S i) g ns tq x hx w h.size (h.gr i _ hg)).mono ?_
  rintro e w' ⟨rfl, S', hG, hM⟩
  exact ⟨rfl, _, h.move i hg (fun j g' _ hg' => hg') hG hM, hR.move i hM, hK.move i hM⟩
theorem mk_same (h : ManyK B w0 gs ls rs ks w) (i : Nat) (hg : gs[i]? = some (g, ns, tq)) (x y : Int) (hx : (Lit.int .i64 x).wf = true) (hy : (Lit.int .i64 y).wf = true) :
    Calls Try.prog 19 #[.pointer (some ⟨g, 0, none⟩), .int .i64 x, .int .i64 y] w fun e w' => e = .returned (.bool (sameR ns tq x y)) ∧ ManyK B w0 gs ls rs ks w' := by
  obtain ⟨S, h, hR, hK⟩ := h
  refine (same_gs B (S i) g ns tq x y hx hy w h.size (h.gr i _ hg)).mono ?_
  rintro e w' ⟨rfl, S', hG, hM⟩
  exact ⟨rfl, _, h.move i hg (fun j g' _ hg' => hg') hG hM, hR.move i hM, hK.move i hM⟩
theorem gotK {S : Nat → Nat → Prop} {w' : World} (h : ManyS B w0 gs ls S w) (hR : RowsS B ls rs S w) (hK : KeptS rs ks S w) (i : Nat) {S' : Nat → Prop} (hg : gs[i]? = some (g, ns, tq)) (hG : GS B S' g ns tq w') (hM : Mv B (S i) S' w w') {v : Value} {l : List Int} (hO : w'.ownsRow w.heap.size 3 1 v l.length (nums .i64 l)) (hN : ∀ k, v.ownBlock = some k → ¬ S' k) (hl : l.length ≤ 1000) :
    ∃ A c, v = .slice A l.length c ∧ ManyK B w0 gs ((A, c, l) :: ls) rs ks w' := by
  obtain ⟨A, c, e, hc, K, hKK, hr⟩ := Lst.of_own hM.2.below.size hO hl
  have hR' := hR.move i hM
  refine ⟨A, c, e, _, (h.move i hg (fun j g' _ hg' => hg') hG hM).more hc (hr w' (fun _ _ => rfl)) (fun ad e2 hn j hk => ?_), { hR' with lap := fun j r k hr' e' x hx ad e2 hn => ?_ }, hK.move i hM⟩
  · obtain ⟨ho, hb⟩ := own_apart hO e ad e2 hn
    by_cases hji : j = i
    · rw [if_pos hji] at hk; exact hN _ ho hk
    · rw [if_neg hji] at hk
      have := (h.lt j _ hk).2; omega
  · rcases List.mem_cons.1 hx with rfl | hx
    · have h3 := own_lt (hR.own j r hr') k e'
      have h4 := (own_apart hO e ad e2 hn).2
      omega
    · exact hR.lap j r k hr' e' x hx ad e2 hn
theorem mk_set (h : ManyK B w0 gs ls rs ks w) (i : Nat) (hg : gs[i]? = some (g, ns, tq)) (x : Int) (hx : (Lit.int .i64 x).wf = true) :
    Calls Try.prog 13 #[.pointer (some ⟨g, 0, none⟩), .int .i64 x] w fun e w' => ∃ A c, e = .returned (.slice A (setR ns tq x).length c) ∧ ManyK B w0 gs ((A, c, setR ns tq x) :: ls) rs ks w' := by
  obtain ⟨S, h, hR, hK⟩ := h
  refine (set_gs B (S i) g ns tq x hx w h.size (h.gr i _ hg)).mono ?_
  rintro e w' ⟨v, S', rfl, hG, hM, hO, hN⟩
  obtain ⟨A, c, e, hm⟩ := gotK h hR hK i hg hG hM hO hN (by have := GS.hN hG; have := setR_len (ns := ns) (tq := tq) (x := x); omega)
  exact ⟨A, c, by rw [e], hm⟩
theorem mk_circles (h : ManyK B w0 gs ls rs ks w) (i : Nat) (hg : gs[i]? = some (g, ns, tq)) (hw : ∀ x ∈ ns, (Lit.int .i64 x).wf = true) :
    Calls Try.prog 14 #[.pointer (some ⟨g, 0, none⟩)] w fun e w' => ∃ A c, e = .returned (.slice A (circsR ns tq).length c) ∧ ManyK B w0 gs ((A, c, circsR ns tq) :: ls) rs ks w' := by
  obtain ⟨S, h, hR, hK⟩ := h
  refine (circles_gs B (S i) g ns tq w hw h.size (h.gr i _ hg)).mono ?_
  rintro e w' ⟨v, S', rfl, hG, hM, hO, hN⟩
  obtain ⟨A, c, e, hm⟩ := gotK h hR hK i hg hG hM hO hN (by have := GS.hN hG; have : (circsR ns tq).length ≤ ns.length := List.length_filter_le _ _; omega)
  exact ⟨A, c, by rw [e], hm⟩
theorem mk_same3 (h : ManyK B w0 gs ls rs ks w) {A1 A2 : Option Addr} {c1 c2 : Nat} {l1 l2 : List Int} (h1 : (A1, c1, l1) ∈ ls) (h2 : (A2, c2, l2) ∈ ls) {k : Nat} {r : Bool} (hf : cupelref03_Same.f k l1 l2 = some r) :
    Calls Try.prog 12 #[.slice A1 l1.length c1, .slice A2 l2.length c2] w fun e w' => e = .returned (.bool r) ∧ ManyK B w0 gs ls rs ks w' := by
  refine (cupelref03_Same.calls k A1 c1 l1 A2 c2 l2 r w (C_of_reads_ (h.reads h1).2) (h.reads h1).1 (C_of_reads_ (h.reads h2).2) (h.reads h2).1 hf).mono ?_
  rintro e w' ⟨rfl, n, rfl⟩
  exact ⟨rfl, h.drewN n⟩
theorem mk_in (h : ManyK B w0 gs ls rs ks w) {A1 : Option Addr} {c1 : Nat} {l1 : List Int} (h1 : (A1, c1, l1) ∈ ls) (x : Int) (hl : l1.length ≤ 1000000) :
    Calls Try.prog 15 #[.slice A1 l1.length c1, .int .i64 x] w fun e w' => e = .returned (.bool (decide (x ∈ l1))) ∧ ManyK B w0 gs ls rs ks w' := by
  refine (cupelref12_In.calls _ A1 c1 l1 x _ w (C_of_reads_ (h.reads h1).2) (h.reads h1).1 (in_f l1 x hl)).mono ?_
  rintro e w' ⟨rfl, n, rfl⟩
  exact ⟨rfl, h.drewN n⟩
variable {ops : Array Oper} {rest : List Oper} {o : Oper} {a : Act} {Q : Exit → Act → World → Prop}
theorem mk_append (h : ManyK B w0 gs ls rs ks w) (i : Nat) {v : Value} {xs : List Int} (y : Int) (hr : rs[i]? = some (v, xs)) (hgd : o.guard = none) (s x : Operand)
    (ho : o.op = .call { callee := .builtin .append, args := #[s, x], argTypes := #[22, 22] }) (hs : a.eval s = v) (hx : a.eval x = .slice (some ⟨w.heap.size, 0, none⟩) 1 1) (hl : xs.length ≤ 1000)
    (K : ∀ v1 w1, ManyK B w0 gs ls (rs.set i (v1, xs ++ [y])) ks w1 → wpList Try.prog ops Q rest (a.put o.dst v1) w1) : wpList Try.prog ops Q (o :: rest) a (w.alloc (.cells #[.int .i64 y] 3)) := by
  obtain ⟨S, h1, h2, h3⟩ := h
  have hil := (List.getElem?_eq_some_iff.1 hr).1
  refine print_append_num (w0 := w0) B hgd s x 22 3 .i64 8 ho Try.underlying22 info3 (by omega) v xs y hs hx (h2.own i _ hr) h1.bel h1.size (by omega) ?_
  intro v1 w1 hown hb hg hat
  obtain ⟨h1', h2'⟩ := grow_S h1 h2 hr hown hg hat hb
  refine K v1 w1 ⟨S, h1', h2', ⟨fun x hx => (hg.block x.1 (h3.lt hx) (fun e => h3.row x hx i _ hr e.symm)).trans (h3.blk x hx), h3.gap, fun x hx j r h' e => ?_⟩⟩
  by_cases hj : j = i
  · subst hj
    rw [List.getElem?_set_self hil] at h'
    injection h' with h'
    subst h'
    rcases hat with h4 | ⟨b, h4, h5⟩
    · exact h3.row x hx j _ hr (h4 ▸ e)
    · rw [h4] at e
      injection e with e
      have := h3.lt hx; omega
  · rw [List.getElem?_set_ne (Ne.symm hj)] at h'
    exact h3.row x hx j r h' e
theorem ManyK.freeze (h : ManyK B w0 gs ls rs ks w) (i : Nat) {v : Value} {xs : List Int} (hr : rs[i]? = some (v, xs)) (hl : xs.length ≤ 1000) :
    ∃ A c, v = .slice A xs.length c ∧ ManyK B w0 gs ((A, c, xs) :: ls) (rs.set i nilRw) ks w := by
  obtain ⟨S, h1, h2, h3⟩ := h
  obtain ⟨A, c, e, h4, h5⟩ := freeze_S h1 h2 i hr hl
  have hil := (List.getElem?_eq_some_iff.1 hr).1
  refine ⟨A, c, e, S, h4, h5, { h3 with row := fun x hx j r h' e' => ?_ }⟩
  by_cases hj : j = i
  · subst hj
    rw [List.getElem?_set_self hil] at h'
    injection h' with h'
    subst h'
    simp [nilRw, Value.ownBlock] at e'
  · rw [List.getElem?_set_ne (Ne.symm hj)] at h'
    exact h3.row x hx j r h' e'
end
/-- One graph and one list apart from it. -/
theorem ManyK.one {B : Nat} {w0 w : World} {S : Nat → Prop} {g : Nat} {ns : List Int} {tq : Nat → List Nat} {A : Option Addr} {c : Nat} {xs : List Int} (hG : GS B S g ns tq w) (hb : Below B w0 w) (hs : B ≤ w.heap.size) (hc : xs.length ≤ c) (hr : ReadsInt w .i64 A xs.length xs) (ha : ∀ ad, A = some ad → 0 < xs.length → ¬ S ad.block) : ManyK B w0 [(g, ns, tq)] [(A, c, xs)] [nilRw, nilRw] [] w := by
  have hM : ManyS B w0 [(g, ns, tq)] [(A, c, xs)] (fun j k => j = 0 ∧ S k) w := {
    gr := fun i g' hg' => by
      rcases i with _ | i
      · injection hg' with hg'
        subst hg'
        simpa using hG
      · simp at hg'
    dis := fun i j k hij hi hj => hij (hi.1.trans hj.1.symm)
    lt := fun i k hk => hG.sB k hk.2
    bel := hb
    size := hs
    rd := fun x hx => by obtain rfl := List.mem_singleton.1 hx; exact ⟨hc, hr⟩
    apart := fun x hx ad e hn i hk => by obtain rfl := List.mem_singleton.1 hx; exact ha ad e hn hk.2 }
  have hn : ∀ (i : Nat) (r : Rw), ([nilRw, nilRw] : List Rw)[i]? = some r → r = nilRw := fun i r hr => by
    rcases i with _ | _ | i <;> simp at hr <;> exact hr.symm
  have hnb : ∀ (i : Nat) (r : Rw) (k : Nat), ([nilRw, nilRw] : List Rw)[i]? = some r → r.1.ownBlock = some k → False := fun i r k hr e => by
    rw [hn i r hr] at e; simp [nilRw, Value.ownBlock] at e
  exact ⟨_, hM, ⟨fun i r hr => by rw [hn i r hr]; exact World.ownsRow_nil w B _ 1, fun i r k hr e => (hnb i r k hr e).elim, fun i r k hr e => (hnb i r k hr e).elim, fun i j r q k _ hr _ e => (hnb i r k hr e).elim⟩, ⟨fun x hx => by simp at hx, fun x hx => by simp at hx, fun x hx => by simp at hx⟩⟩
/-! A graph that is not solved yet. -/
theorem new_gn (A : Option Addr) (c : Nat) (l : List Int) (w : World) (B : Nat) (hB : B ≤ w.heap.size) (hr : ReadsInt w .i64 A l.length l) (hl : l.length ≤ 1000) (hw : ∀ x ∈ l, (Lit.int .i64 x).wf = true) :
    Calls Try.prog 9 #[.slice A l.length c] w fun e w' => ∃ g S, e = .returned (.pointer (some ⟨g, 0, none⟩)) ∧ G B S g (onceF l) (fun _ => []) none w' ∧ Mv B (fun _ => False) S w w' := by
  refine (new_any A c l w hr hl hw).mono ?_
  rintro e w' ⟨g, rfl, h1, h2⟩
  exact ⟨g, _, rfl, h1.low hB, fun k hk => .inr hk.1, h2.mono hB, fun k hk _ => h2.block k hk⟩
theorem G.alloc {B : Nat} {S : Nat → Prop} {g : Nat} {ns : List Int} {tq : Nat → List Nat} {sv : Option M} {w : World} (h : G B S g ns tq sv w) (o : Obj) : G B S g ns tq sv (w.alloc o) := by
  have hs : ∀ k, S k → k < w.heap.size := by
    obtain ⟨vn, bm, bt, vs, vts, h⟩ := h
    exact fun k hk => (h.sB k hk).2
  exact h.heap (by simp) (fun k hk => Below.heap_alloc w o k (hs k hk))
theorem lead_gn {B : Nat} {S : Nat → Prop} {g : Nat} {ns : List Int} {tq : Nat → List Nat} (x : Int) (l : List Int) {w : World} (h : G B S g ns tq none w) (hx : (Lit.int .i64 x).wf = true) (hB : B ≤ w.heap.size) (hl : l.length ≤ 1000) (hw : ∀ y ∈ l, (Lit.int .i64 y).wf = true) (hlen : ∀ i, (tq i).length + l.length ≤ 1000000) (cs : Array Value) (hcs : cs = (nums .i64 l).toArray) (n c : Nat) (hn : n = l.length) :
    Calls Try.prog 10 #[.pointer (some ⟨g, 0, none⟩), .int .i64 x, .slice (some ⟨w.heap.size, 0, none⟩) n c] ((w.alloc (.cells cs 3)).drew) fun e w' => e = .returned (.int .i64 (if x ∈ ns then 0 else 3)) ∧ ∃ S', G B S' g ns (leadG ns tq x l) none w' ∧ Mv B S S' w w' := by
  subst hcs hn
  have hz : ((w.alloc (.cells (nums .i64 l).toArray 3)).drew).heap.size = w.heap.size + 1 := by
    show (w.alloc (.cells (nums .i64 l).toArray 3)).heap.size = w.heap.size + 1
    simp
  have hrd : ∀ W', Ch B S ((w.alloc (.cells (nums .i64 l).toArray 3)).drew) W' → ReadsInt W' .i64 (some ⟨w.heap.size, 0, none⟩) l.length l := built_stays (World.alloc_heap_new w _) hl (fun hk => by have := (h.sB _ hk).2; omega)
  have hC0 : Ch B S w ((w.alloc (.cells (nums .i64 l).toArray 3)).drew) := ⟨((Below.refl B w).alloc hB _).drew, fun k hk _ => Below.heap_alloc w _ k hk⟩
  have hGa : G B S g ns tq none ((w.alloc (.cells (nums .i64 l).toArray 3)).drew) := (h.alloc _).heap (Nat.le_refl _) (fun _ _ => rfl)
  unfold leadG
  by_cases hxn : x ∈ ns
  · rw [if_pos hxn, if_pos hxn]
    refine (lead_some B S g ns tq none x hx hxn _ c l _ hGa (by omega) hrd hw hlen).mono ?_
    rintro e w' ⟨rfl, h3, h4⟩
    exact ⟨rfl, _, h3, fun k hk => hk.elim .inl (fun h => .inr (by have := h.1; omega)), hC0.trans h4 (fun _ h => .inl h)⟩
  · rw [if_neg hxn, if_neg hxn]
    refine (lead_none B S g ns tq none x hx hxn _ l.length c _ hGa).mono ?_
    rintro e w' ⟨rfl, rfl⟩
    exact ⟨rfl, S, hGa, fun k hk => .inl hk, hC0⟩
end Go.Proofs.Ytiljegeodokfmaa.Fx
