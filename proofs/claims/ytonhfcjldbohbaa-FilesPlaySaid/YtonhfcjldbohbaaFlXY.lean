/- Several texts of this claim in one: FlX, FlY. -/
import Derived.Test.YtonhfcjldbohbaaFlW
namespace Go.Proofs.Ytonhfcjldbohbaa.Fi
open Go Go.RowKit Go.ChangeMaps Go.MapKept Go.Proofs.Ytonhfcjldbohbaa.PA Go.Proofs.YtonhfcjldbohbaaW.PrintWords Go.Proofs.YtonhfcjldbohbaaW.PrintLast Go.Proofs.YtonhfcjldbohbaaW.PrintMore Go.Proofs.Ytonhfcjldbohbaa.Pl
attribute [local go_sem] Oper.semAt_some
set_option linter.unusedVariables false
set_option linter.unusedSimpArgs false

/-- A region of a code, by its number. -/
def findReg (n : Nat) : Code → Option Code
  | .region k o d => if k = n then some (.region k o d) else none
  | .seq a b => match findReg n a with
    | some c => some c
    | none => findReg n b
  | .cond _ a b => match findReg n a with
    | some c => some c
    | none => findReg n b
  | .block _ c => findReg n c
  | .loop c => findReg n c
  | .scope c => findReg n c
  | _ => none
theorem C_move2 {w w1 : World} {A : Option Addr} {n : Nat} {xs : List Fl} (h : Kd.C k55 w A n xs) (hb : ∀ ad, A = some ad → ad.block < w.heap.size → w1.heap[ad.block]? = w.heap[ad.block]?) : Kd.C k55 w1 A n xs :=
  ⟨h.1, h.2.1, fun hn => by
    obtain ⟨ad, e, hc⟩ := h.2.2 hn
    refine ⟨ad, e, fun j p hj => ?_⟩
    obtain ⟨c, hs, hr, hcell⟩ := hc j p hj
    refine ⟨c, hs, ?_, fun i u hu => ?_⟩
    · have e2 := k55_open hr
      subst e2
      exact k55_mk w1 p
    · refine (World.cell?_of_block (a := ad.add (j * 5 + i)) ?_).trans (hcell i u hu)
      have hlt := World.block_lt_of_cell? w _ (hcell i u hu)
      have : (ad.add (j * 5 + i)).block = ad.block := by unfold Addr.add; split <;> rfl
      have hlt2 : (ad.add (j * 5 + i)).block < w.heap.size := hlt
      rw [this] at hlt2 ⊢
      exact hb ad e hlt2⟩
/-- The table T of the program, the table R of the reference in the box nm. -/
structure PL (Bz nm t : Nat) (S : Nat → Prop) (w0 wr : World) (T R : Tb) (A : Option Addr) (c : Nat) : Prop where
  tb : TB Bz S t T wr
  m : wr.heap[nm]? = some (.cells #[.int .i64 R.most, .int .i64 R.rev, .slice A R.l.length c] 49 (0, 0))
  c : R.l.length ≤ c
  l : Kd.C k55 wr A R.l.length R.l
  a : ∀ ad, A = some ad → nm < ad.block
  s : ∀ k, S k → k < nm
  b : Below w0.heap.size w0 wr
  z : w0.heap.size ≤ Bz ∧ Bz ≤ nm ∧ nm < wr.heap.size
section
variable {Bz nm t : Nat} {S : Nat → Prop} {w0 wr : World} {T R : Tb} {A : Option Addr} {c : Nat} (h : PL Bz nm t S w0 wr T R A c)
include h
theorem PL.below {w' : World} (hb : Below wr.heap.size wr w') : PL Bz nm t S w0 w' T R A c :=
  ⟨h.tb.below hb, (hb.block nm h.z.2.2).trans h.m, h.c, C_below h.l hb, h.a, h.s, h.b.trans (hb.mono h.b.size), by have := h.z; have := hb.size; omega⟩
theorem PL.drew : PL Bz nm t S w0 wr.drew T R A c := h.below (Below.refl _ _).drew
theorem PL.m0 : wr.cell? ⟨nm, 0, none⟩ = some (.int .i64 R.most) := by rw [Lib.cell_of_heap h.m]; rfl
theorem PL.m1 : wr.cell? ⟨nm, 1, none⟩ = some (.int .i64 R.rev) := by rw [Lib.cell_of_heap h.m]; rfl
theorem PL.m2 : wr.cell? ⟨nm, 2, none⟩ = some (.slice A R.l.length c) := by rw [Lib.cell_of_heap h.m]; rfl
theorem PL.f0 : wr.frozen? ⟨nm, 0, none⟩ = false := Lib.frozen_of_heap h.m 0
theorem PL.f1 : wr.frozen? ⟨nm, 1, none⟩ = false := Lib.frozen_of_heap h.m 1
theorem PL.f2 : wr.frozen? ⟨nm, 2, none⟩ = false := Lib.frozen_of_heap h.m 2
theorem PL.zB : Bz ≤ wr.heap.size := by have := h.z; omega
theorem PL.ok : TOk T := by
  obtain ⟨bm, bd, hT⟩ := h.tb
  exact hT.ok
theorem PL.do_ {w' : World} {T' : Tb} (ht : TB Bz S t T' w') (hb : Ch Bz S wr w') : PL Bz nm t S w0 w' T' R A c := by
  have hz := h.z
  have hbz : w0.heap.size ≤ Bz := hz.1
  refine ⟨ht, ?_, h.c, C_move2 h.l (fun ad e hlt => ?_), h.a, h.s, h.b.trans (hb.below.mono hbz), ?_⟩
  · refine (hb.keep nm hz.2.2 (fun hs => ?_)).trans h.m
    have := h.s nm hs
    omega
  · refine hb.keep ad.block hlt (fun hs => ?_)
    have h1 := h.a ad e
    have h2 := h.s _ hs
    omega
  · have := hb.below.size
    omega
end
/-- The next table of the reference in the box nx. -/
structure PX (nm nx : Nat) (w : World) (R : Tb) (A' : Option Addr) (c' : Nat) : Prop where
  x : w.heap[nx]? = some (.cells #[.int .i64 R.most, .int .i64 R.rev, .slice A' R.l.length c'] 49 (0, 0))
  c : R.l.length ≤ c'
  l : Kd.C k55 w A' R.l.length R.l
  a : ∀ ad, A' = some ad → nm < ad.block
  n : nm < nx
section
variable {nm nx : Nat} {w : World} {R : Tb} {A' : Option Addr} {c' : Nat} (h : PX nm nx w R A' c')
include h
theorem PX.x0 : w.cell? ⟨nx, 0, none⟩ = some (.int .i64 R.most) := by rw [Lib.cell_of_heap h.x]; rfl
theorem PX.x1 : w.cell? ⟨nx, 1, none⟩ = some (.int .i64 R.rev) := by rw [Lib.cell_of_heap h.x]; rfl
theorem PX.x2 : w.cell? ⟨nx, 2, none⟩ = some (.slice A' R.l.length c') := by rw [Lib.cell_of_heap h.x]; rfl
theorem PX.put {Bz t : Nat} {S : Nat → Prop} {w0 : World} {T Q : Tb} {A : Option Addr} {c : Nat} (g : PL Bz nm t S w0 w T Q A c) :
    ∃ W, ((w.setCell ⟨nm, 0, none⟩ (.int .i64 R.most)).setCell ⟨nm, 1, none⟩ (.int .i64 R.rev)).setCell ⟨nm, 2, none⟩ (.slice A' R.l.length c') = W ∧ PL Bz nm t S w0 W T R A' c' := by
  have e := blk_set (blk_set (blk_set g.m 0 (.int .i64 R.most)) 1 (.int .i64 R.rev)) 2 (.slice A' R.l.length c')
  have hz := g.z
  have hoth : ∀ k, k ≠ nm → (((w.setCell ⟨nm, 0, none⟩ (.int .i64 R.most)).setCell ⟨nm, 1, none⟩ (.int .i64 R.rev)).setCell ⟨nm, 2, none⟩ (.slice A' R.l.length c')).heap[k]? = w.heap[k]? := fun k hk =>
    (Below.heap_setCell _ ⟨nm, 2, none⟩ _ k hk).trans ((Below.heap_setCell _ ⟨nm, 1, none⟩ _ k hk).trans (Below.heap_setCell _ ⟨nm, 0, none⟩ _ k hk))
  refine ⟨_, rfl, ⟨?_, e, h.c, C_move2 h.l (fun ad hA _ => hoth _ ?_), h.a, g.s, ?_, ?_⟩⟩
  · exact g.tb.heap (by simp) (fun k hk => hoth k (by have := g.s k hk; omega))
  · have := h.a ad hA
    omega
  · exact (((g.b.setCell (p := ⟨nm, 0, none⟩) (by show w0.heap.size ≤ nm; omega) _).setCell (p := ⟨nm, 1, none⟩) (by show w0.heap.size ≤ nm; omega) _).setCell (p := ⟨nm, 2, none⟩) (by show w0.heap.size ≤ nm; omega) _)
  · refine ⟨hz.1, hz.2.1, ?_⟩
    simpa using hz.2.2
end
theorem Ro.C {w : World} {A : Option Addr} {c : Nat} {xs : List ByteArray} (h : Ro w A c xs) : Kd.C Kd.string w A xs.length xs ∧ xs.length ≤ c := by
  exact ⟨Kd.C_of_reads (d := ByteArray.empty) (own_reads_of' h), own_le h⟩
/-- The reference's next table is reckoned, its box nx still empty. -/
structure PF (nm nx : Nat) (w : World) (R : Tb) (A' : Option Addr) (c' : Nat) : Prop where
  c : R.l.length ≤ c'
  a : ∀ ad, A' = some ad → nm < ad.block
  n : nm < nx
  z : nx < w.heap.size
  x : w.heap[nx]? = some (.cells #[.int .i64 0, .int .i64 0, .slice none 0 0] 49 (0, 0))
  k : ∀ W : World, (∀ k, k ≠ nx → k < w.heap.size → W.heap[k]? = w.heap[k]?) → Kd.C k55 W A' R.l.length R.l
section
variable {nm nx : Nat} {w : World} {R : Tb} {A' : Option Addr} {c' : Nat} (h : PF nm nx w R A' c')
include h
theorem PF.z0 : w.cell? ⟨nx, 0, none⟩ = some (.int .i64 0) := by rw [Lib.cell_of_heap h.x]; rfl
theorem PF.z1 : w.cell? ⟨nx, 1, none⟩ = some (.int .i64 0) := by rw [Lib.cell_of_heap h.x]; rfl
theorem PF.z2 : w.cell? ⟨nx, 2, none⟩ = some (.slice none 0 0) := by rw [Lib.cell_of_heap h.x]; rfl
theorem PF.y0 : w.frozen? ⟨nx, 0, none⟩ = false := Lib.frozen_of_heap h.x 0
theorem PF.y1 : w.frozen? ⟨nx, 1, none⟩ = false := Lib.frozen_of_heap h.x 1
theorem PF.y2 : w.frozen? ⟨nx, 2, none⟩ = false := Lib.frozen_of_heap h.x 2
theorem PF.put {Bz t : Nat} {S : Nat → Prop} {w0 : World} {T Q : Tb} {A : Option Addr} {c : Nat} (g : PL Bz nm t S w0 w T Q A c) (hA : ∀ ad, A = some ad → Q.l.length = 0 ∨ ad.block ≠ nx) :
    ∃ W, ((w.setCell ⟨nx, 0, none⟩ (.int .i64 R.most)).setCell ⟨nx, 1, none⟩ (.int .i64 R.rev)).setCell ⟨nx, 2, none⟩ (.slice A' R.l.length c') = W ∧ PL Bz nm t S w0 W T Q A c ∧ PX nm nx W R A' c' := by
  have e := blk_set (blk_set (blk_set h.x 0 (.int .i64 R.most)) 1 (.int .i64 R.rev)) 2 (.slice A' R.l.length c')
  have hz := g.z
  have hn := h.n
  have hoth : ∀ k, k ≠ nx → (((w.setCell ⟨nx, 0, none⟩ (.int .i64 R.most)).setCell ⟨nx, 1, none⟩ (.int .i64 R.rev)).setCell ⟨nx, 2, none⟩ (.slice A' R.l.length c')).heap[k]? = w.heap[k]? := fun k hk =>
    (Below.heap_setCell _ ⟨nx, 2, none⟩ _ k hk).trans ((Below.heap_setCell _ ⟨nx, 1, none⟩ _ k hk).trans (Below.heap_setCell _ ⟨nx, 0, none⟩ _ k hk))
  refine ⟨_, rfl, ⟨?_, (hoth nm (by omega)).trans g.m, g.c, ?_, g.a, g.s, ?_, ?_⟩, ⟨e, h.c, h.k _ (fun k hk _ => hoth k hk), h.a, h.n⟩⟩
  · exact g.tb.heap (by simp) (fun k hk => hoth k (by have := g.s k hk; omega))
  · rcases Nat.eq_zero_or_pos Q.l.length with h0 | h0
    · exact ⟨g.l.1, g.l.2.1, fun hq => by omega⟩
    · refine C_move2 g.l (fun ad e _ => hoth _ ?_)
      rcases hA ad e with h1 | h1
      · omega
      · exact h1
  · exact (((g.b.setCell (p := ⟨nx, 0, none⟩) (by show w0.heap.size ≤ nx; omega) _).setCell (p := ⟨nx, 1, none⟩) (by show w0.heap.size ≤ nx; omega) _).setCell (p := ⟨nx, 2, none⟩) (by show w0.heap.size ≤ nx; omega) _)
  · refine ⟨hz.1, hz.2.1, ?_⟩
    simpa using hz.2.2
end
theorem PL.lt {Bz nm t : Nat} {S : Nat → Prop} {w0 wr : World} {T R : Tb} {A : Option Addr} {c : Nat} (h : PL Bz nm t S w0 wr T R A c) : ∀ ad, A = some ad → R.l.length = 0 ∨ ad.block < wr.heap.size := by
  intro ad e
  rcases Nat.eq_zero_or_pos R.l.length with h0 | h0
  · exact .inl h0
  · obtain ⟨ad', e', hc⟩ := h.l.2.2 h0
    rw [e] at e'
    injection e' with e'
    subst e'
    obtain ⟨cs, hs, hr, hcell⟩ := hc 0 _ (List.getElem?_eq_getElem h0)
    have h5 : 0 < cs.length := by rw [hs]; decide
    have hlt := World.block_lt_of_cell? wr _ (hcell 0 _ (List.getElem?_eq_getElem h5))
    have : (ad.add (0 * 5 + 0)).block = ad.block := by unfold Addr.add; split <;> rfl
    rw [show (ad.add (0 * k55.sz + 0)).block = ad.block from this] at hlt
    exact .inr hlt
def PFF (Bz nm t : Nat) (S : Nat → Prop) (w0 : World) (T R : Tb) (A : Option Addr) (c : Nat) (s : Nat × Option Addr × Nat) (w' : World) : Prop :=
  PL Bz nm t S w0 w' T T A c ∧ PF nm s.1 w' R s.2.1 s.2.2 ∧ ∀ ad, A = some ad → T.l.length = 0 ∨ ad.block ≠ s.1
section
variable {Bz nm t : Nat} {S : Nat → Prop} {w0 wr w5 : World} {T R : Tb} {A A5 : Option Addr} {c c5 : Nat} (g : PL Bz nm t S w0 wr T T A c)
include g
theorem play_first (hc : R.l.length ≤ c5) (hl : Kd.C k55 w5 A5 R.l.length R.l) (ha : (A5 = A ∧ R.l = T.l) ∨ ∀ ad, A5 = some ad → wr.heap.size ≤ ad.block) (hb : Below wr.heap.size wr w5) :
    PFF Bz nm t S w0 T R A c (w5.heap.size, A5, c5) (w5.alloc (.cells #[.int .i64 0, .int .i64 0, .slice none 0 0] 49)) := by
  have hz := g.z
  have hs := hb.size
  have g5 := g.below hb
  refine ⟨g5.below ((Below.refl _ w5).alloc (Nat.le_refl _) _), ⟨hc, ?_, by show nm < w5.heap.size; omega, by show w5.heap.size < _; simp, heap_alloc_new _ _, ?_⟩, ?_⟩
  · exact fun ad e => ha.elim (fun h => g.a ad (h.1 ▸ e)) (fun h => Nat.lt_of_lt_of_le hz.2.2 (h ad e))
  · intro W hW
    refine C_move2 hl (fun ad e hlt => ?_)
    refine (hW _ (by show ad.block ≠ w5.heap.size; omega) (by simp; omega)).trans (Below.heap_alloc _ _ _ hlt)
  · intro ad e
    rcases g5.lt ad e with h | h
    · exact .inl h
    · exact .inr (by show ad.block ≠ w5.heap.size; omega)
theorem play_second (hc : R.l.length ≤ c5) (hl : Kd.C k55 w5 A5 R.l.length R.l) (ha : (A5 = A ∧ R.l = T.l) ∨ ∀ ad, A5 = some ad → (wr.alloc (.cells #[.int .i64 0, .int .i64 0, .slice none 0 0] 49)).heap.size ≤ ad.block)
    (hb : Below (wr.alloc (.cells #[.int .i64 0, .int .i64 0, .slice none 0 0] 49)).heap.size (wr.alloc (.cells #[.int .i64 0, .int .i64 0, .slice none 0 0] 49)) w5) :
    PFF Bz nm t S w0 T R A c (wr.heap.size, A5, c5) w5 := by
  have hz := g.z
  have hs := hb.size
  have hs9 : (wr.alloc (.cells #[.int .i64 0, .int .i64 0, .slice none 0 0] 49)).heap.size = wr.heap.size + 1 := by simp
  have g9 := g.below ((Below.refl _ wr).alloc (Nat.le_refl _) (.cells #[.int .i64 0, .int .i64 0, .slice none 0 0] 49))
  have g5 := g9.below hb
  rw [hs9] at hs
  refine ⟨g5, ⟨hc, ?_, by show nm < wr.heap.size; omega, by show wr.heap.size < _; omega, (hb.block _ (by rw [hs9]; omega)).trans (heap_alloc_new _ _), ?_⟩, ?_⟩
  · exact fun ad e => ha.elim (fun h => g.a ad (h.1 ▸ e)) (fun h => by have := h ad e; rw [hs9] at this; omega)
  · intro W hW
    rcases ha with ⟨rfl, h2⟩ | h
    · rw [h2]
      rcases Nat.eq_zero_or_pos T.l.length with h0 | h0
      · exact ⟨g.l.1, g.l.2.1, fun hq => by omega⟩
      · refine C_move2 g.l (fun ad e hlt => ?_)
        have e1 := hW ad.block (by show ad.block ≠ wr.heap.size; omega) (by omega)
        exact e1.trans ((hb.block _ (by rw [hs9]; omega)).trans (Below.heap_alloc _ _ _ hlt))
    · refine C_move2 hl (fun ad e hlt => ?_)
      have := h ad e
      rw [hs9] at this
      exact hW ad.block (by show ad.block ≠ wr.heap.size; omega) hlt
  · intro ad e
    rcases g.lt ad e with h | h
    · exact .inl h
    · exact .inr (by show ad.block ≠ wr.heap.size; omega)
end
theorem since_ex (a b rev : Int) (l : List Fl) (hl : l.length ≤ 1000000) (hs : Sorted l) (T : Tb) (hT : T.l = l) : ∃ k, cupelref13_Since.f k a b l rev = some (sinceF T rev) := by
  obtain ⟨k, hk⟩ := since_loop a b rev l hl hs _ 0 rfl (Nat.zero_le _)
  refine ⟨k, ?_⟩
  have := hk k (Nat.le_refl _)
  unfold sinceF
  rw [hT]
  exact this
theorem same_ex (l : List ByteArray) (hl : l.length ≤ 1000000) : ∃ k, cupellaw13_same.f k l l = some true := by
  obtain ⟨k, hk⟩ := same_loop l hl _ 0 rfl (Nat.zero_le _)
  refine ⟨k, ?_⟩
  have := hk k (Nat.le_refl _)
  unfold cupellaw13_same.f
  first | exact this | (rw [if_pos rfl]; exact this) | simpa using this

theorem sinceF_len (T : Tb) (rev : Int) : (sinceF T rev).length ≤ T.l.length := by
  unfold sinceF
  rw [List.length_map]
  exact List.length_filter_le _ _
noncomputable def playReg12 : Code := ((Try.f6.body.bind (findReg 12)).getD .skip)
noncomputable def playReg14 : Code := ((Try.f6.body.bind (findReg 14)).getD .skip)
noncomputable def playReg27 : Code := ((Try.f6.body.bind (findReg 27)).getD .skip)
set_option maxRecDepth 100000 in
set_option maxHeartbeats 4000000 in
theorem play_reg12 {Bz nm t j n0 c0 c : Nat} {S : Nat → Prop} {w0 wr : World} {T R : Tb} {er : Int} {a : Act13} {A : Option Addr} {ad : Addr} (K : Exit → Act → World → Prop) (hP : ∀ (c : List PanicEntry) (a : Act) (t : Tmp) (v : Value) (w : World), K (.panic c) (Act.put a (some t) v) w → K (.panic c) a w)
    (HM : Aside0 (PL Bz nm t S w0 wr T T A c))
    (HC : Aside0 (∀ W : World, Below w0.heap.size w0 W → W.cell? (ad.add (j * 4)) = some (.int .i64 a.f0) ∧ W.cell? ⟨(ad.add (j * 4)).block, (ad.add (j * 4)).off + 1, none⟩ = some (.string a.f1) ∧ W.cell? ⟨(ad.add (j * 4)).block, (ad.add (j * 4)).off + 2, none⟩ = some (.string a.f2) ∧ W.cell? ⟨(ad.add (j * 4)).block, (ad.add (j * 4)).off + 3, none⟩ = some (.int .i64 a.f3)))
    (HA : Aside0 (a.f1.size ≤ 300 ∧ 0 ≤ a.f0 ∧ a.f0 ≤ 1)) (HR1 : Aside0 ((doT T a).1 = R)) (HR2 : Aside0 ((doT T a).2 = er)) (hlen1 : (j : Int) < (n0 : Int))
    (s0 s2 s3 s4 s5 s6 s7 s8 s11 s12 s13 s14 s15 s16 s17 s18 s19 s20 s21 s22 s23 s24 s25 s26 s27 s28 s29 s30 s31 s32 s33 s34 s35 s36 s37 s38 s39 s40 s41 s42 s43 s44 s45 s46 s47 s48 s49 s50 s51 s52 s53 s54 s55 s56 s57 s58 s59 s60 s61 s62 s63 s64 s65 s66 s67 s68 s69 s70 s71 s72 s73 s74 s75 s76 s77 s78 s79 s80 s81 s82 s83 s84 s85 s86 s87 s88 s89 s90 s91 s92 s93 s94 s95 s96 s97 s98 s99 s100 s101 s102 s103 s104 s105 s106 s107 s108 s109 s110 s111 s112 s113 s114 s115 s116 s117 s118 s119 s120 s121 s122 s123 s124 s125 s126 s127 s128 s129 s130 s131 s132 s133 s134 s135 s136 s137 s138 s139 s140 s141 s142 s143 s144 s145 s146 s147 s148 s149 s150 s151 s152 s153 s154 s155 s156 s157 s158 : Value)
    (hK : ∀ (u50 u51 u52 u53 u54 u55 u56 u57 u58 : Value) (w8 : World) (nx : Nat) (A' : Option Addr) (c' : Nat), PL Bz nm t S w0 w8 T T A c → PX nm nx w8 R A' c' → K .normal ⟨#[s0, .slice (some ad) n0 c0, s2, s3, s4, s5, s6, s7, s8, .pointer (some ⟨nm, 0, none⟩), .int .i64 j, .pointer (some ⟨nx, 0, none⟩), .int .i64 er, s13, s14, s15, s16, s17, s18, s19, s20, s21, s22, s23, s24, s25, s26, s27, s28, s29, s30, s31, s32, s33, s34, s35, s36, s37, s38, s39, s40, s41, s42, s43, s44, s45, s46, s47, s48, s49, u50, u51, u52, u53, u54, u55, u56, u57, u58, s59, s60, s61, s62, s63, s64, s65, s66, s67, s68, s69, s70, s71, s72, s73, s74, s75, s76, s77, s78, s79, s80, s81, s82, s83, s84, s85, s86, s87, s88, s89, s90, s91, s92, s93, s94, s95, s96, s97, s98, s99, s100, s101, s102, s103, s104, s105, s106, s107, s108, s109, s110, s111, s112, s113, s114, s115, s116, s117, s118, s119, s120, s121, s122, s123, s124, s125, s126, s127, s128, s129, s130, s131, s132, s133, s134, s135, s136, s137, s138, s139, s140, s141, s142, s143, s144, s145, s146, s147, s148, s149, s150, s151, s152, s153, s154, s155, s156, s157, s158], []⟩ w8) :
    Code.wp Try.prog playReg12 K ⟨#[s0, .slice (some ad) n0 c0, s2, s3, s4, s5, s6, s7, s8, .pointer (some ⟨nm, 0, none⟩), .int .i64 j, s11, s12, s13, s14, s15, s16, s17, s18, s19, s20, s21, s22, s23, s24, s25, s26, s27, s28, s29, s30, s31, s32, s33, s34, s35, s36, s37, s38, s39, s40, s41, s42, s43, s44, s45, s46, s47, s48, s49, s50, s51, s52, s53, s54, s55, s56, s57, s58, s59, s60, s61, s62, s63, s64, s65, s66, s67, s68, s69, s70, s71, s72, s73, s74, s75, s76, s77, s78, s79, s80, s81, s82, s83, s84, s85, s86, s87, s88, s89, s90, s91, s92, s93, s94, s95, s96, s97, s98, s99, s100, s101, s102, s103, s104, s105, s106, s107, s108, s109, s110, s111, s112, s113, s114, s115, s116, s117, s118, s119, s120, s121, s122, s123, s124, s125, s126, s127, s128, s129, s130, s131, s132, s133, s134, s135, s136, s137, s138, s139, s140, s141, s142, s143, s144, s145, s146, s147, s148, s149, s150, s151, s152, s153, s154, s155, s156, s157, s158], []⟩ wr := by
  have hq := HC.out wr HM.out.b
  obtain ⟨q0, q1, q2, q3⟩ := hq
  have m0 := HM.out.m0
  have m1 := HM.out.m1
  have m2 := HM.out.m2
  have d1 : decide ((j : Int) < (n0 : Int)) = true := decide_eq_true hlen1
  have d2 : decide (j < n0) = true := decide_eq_true (by omega)
  have hdo := fun W (hW : PL Bz nm t S w0 W T T A c) => refdo_any T hW.ok A c a W hW.c hW.l HA.out.1 HA.out.2.1 HA.out.2.2
  have HDO := Aside0.mk hdo
  clear hdo
  unfold vA at HDO
  conv => arg 2; whnf
  refine start_ (n := 12) (S := fun w' => w'.cell? (ad.add (j * 4)) = some (.int .i64 a.f0) ∧ w'.cell? ⟨(ad.add (j * 4)).block, (ad.add (j * 4)).off + 1, none⟩ = some (.string a.f1) ∧ w'.cell? ⟨(ad.add (j * 4)).block, (ad.add (j * 4)).off + 2, none⟩ = some (.string a.f2) ∧ w'.cell? ⟨(ad.add (j * 4)).block, (ad.add (j * 4)).off + 3, none⟩ = some (.int .i64 a.f3) ∧ w'.cell? ⟨nm, 0, none⟩ = some (.int .i64 T.most) ∧ w'.cell? ⟨nm, 1, none⟩ = some (.int .i64 T.rev) ∧ w'.cell? ⟨nm, 2, none⟩ = some (.slice A T.l.length c)) (ds := []) #[false, false, false, false, false, false, false, false, false, false, false, false] (by kernel_rfl) rfl rfl ⟨q0, q1, q2, q3, m0, m1, m2⟩ (fun hHeld => ?_)
  refine pure_ (i := 1) (N := some 52) (v := ?_) (a' := ?_) #[false, true, false, false, false, false, false, false, false, false, false, false] rfl rfl (by kernel_rfl) (fun _ _ _ h => hP _ _ _ _ _ h) (Or.inl ⟨by rfl, ?_⟩) ?_ ?_
  rotate_left
  · intro w'
    go_simp
    with_reducible rfl
  rotate_left
  · simp only [Act.put, List.setIfInBounds_toArray, List.set_cons_zero, List.set_cons_succ, i64_w, i32_w]
    rfl
  refine pure_ (i := 2) (N := some 53) (v := ?_) (a' := ?_) #[false, true, true, false, false, false, false, false, false, false, false, false] rfl rfl (by kernel_rfl) (fun _ _ _ h => hP _ _ _ _ _ h) (Or.inl ⟨by rfl, ?_⟩) ?_ ?_
  rotate_left
  · intro w'
    go_simp
    with_reducible rfl
  rotate_left
  · simp only [Act.put, List.setIfInBounds_toArray, List.set_cons_zero, List.set_cons_succ, i64_w, i32_w]
    rfl
  refine pure_ (i := 3) (N := some 54) (v := ?_) (a' := ?_) #[false, true, true, true, false, false, false, false, false, false, false, false] rfl rfl (by kernel_rfl) (fun _ _ _ h => hP _ _ _ _ _ h) (Or.inl ⟨by rfl, ?_⟩) ?_ ?_
  rotate_left
  · intro w'
    go_simp
    with_reducible rfl
  rotate_left
  · simp only [Act.put, List.setIfInBounds_toArray, List.set_cons_zero, List.set_cons_succ, i64_w, i32_w]
    rfl
  refine take_ (i := 0) (N := some 51) (v := ?_) (a' := ?_) #[true, true, true, true, false, false, false, false, false, false, false, false] rfl rfl (by kernel_rfl) (fun _ _ _ h => hP _ _ _ _ _ h) (Or.inl ⟨by rfl, ?_⟩) hHeld ?_ ?_
  rotate_left
  · rintro w' ⟨s0, s1, s2, s3, s4, s5, s6⟩
    go_simp
    with_reducible rfl
  rotate_left
  · simp only [Act.put, List.setIfInBounds_toArray, List.set_cons_zero, List.set_cons_succ, i64_w, i32_w]
    rfl
  refine take_ (i := 4) (N := some 55) (v := ?_) (a' := ?_) #[true, true, true, true, true, false, false, false, false, false, false, false] rfl rfl (by kernel_rfl) (fun _ _ _ h => hP _ _ _ _ _ h) (Or.inl ⟨by rfl, ?_⟩) hHeld ?_ ?_
  rotate_left
  · rintro w' ⟨s0, s1, s2, s3, s4, s5, s6⟩
    go_simp
    with_reducible rfl
  rotate_left
  · simp only [Act.put, List.setIfInBounds_toArray, List.set_cons_zero, List.set_cons_succ, i64_w, i32_w]
    rfl
  refine join_ (σ := Nat × Option Addr × Nat) 2 #[true, true, true, true, true, true, true, true, true, true, false, false] (fun s => [(56, .tuple #[.agg #[.int .i64 R.most, .int .i64 R.rev, .slice s.2.1 R.l.length s.2.2], .int .i64 er]), (11, .pointer (some ⟨s.1, 0, none⟩)), (50, .tuple #[.agg #[.int .i64 R.most, .int .i64 R.rev, .slice s.2.1 R.l.length s.2.2], .int .i64 er]), (57, .agg #[.int .i64 R.most, .int .i64 R.rev, .slice s.2.1 R.l.length s.2.2]), (58, .int .i64 er)]) (PFF Bz nm t S w0 T R A c) ?_ ?_
  rotate_left
  · intro hCont
    refine two_ (i := 5) (j := 9) (Ni := some 56) (Nj := some 11) #[true, true, true, true, true, true, false, false, false, false, false, false] #[true, true, true, true, true, false, false, false, false, true, false, false] rfl rfl rfl rfl (by kernel_rfl) (by decide) (by decide) (fun K hK => ?_) (fun K hK => ?_)
    · skip
      refine goes_ Try.func19 (by kernel_rfl) rfl #[.agg #[.int .i64 T.most, .int .i64 T.rev, .slice A T.l.length c], .agg #[.int .i64 a.f0, .string a.f1, .string a.f2, .int .i64 a.f3]] (by rfl) rfl rfl (by simp only [List.map_toArray, List.map_cons, List.map_nil]; rfl) ?_
      with_reducible refine (HDO.out _ HM.out.drew).mono ?_
      rintro e w5 ⟨A5, c5, rfl, hc5, hl5, ha5, hb5⟩
      refine ⟨_, rfl, ?_⟩
      have HM5 := Aside0.mk (HM.out.drew.below hb5)
      rw [HR1.out] at hc5 hl5 ha5
      rw [HR1.out, HR2.out]
      have HX5 := Aside0.mk (play_first HM.out.drew hc5 hl5 ha5 hb5)
      clear hc5 hl5 ha5 hb5
      refine hK.out _ _ ⟨(HC.out _ HM5.out.b).1, (HC.out _ HM5.out.b).2.1, (HC.out _ HM5.out.b).2.2.1, (HC.out _ HM5.out.b).2.2.2, HM5.out.m0, HM5.out.m1, HM5.out.m2⟩ (fun hHeld => ?_)
      clear hK K
      refine norm_ (a' := ?_) ?_ ?_
      rotate_left
      · show Act.put _ (some 56) _ = _
        simp only [Act.put, List.setIfInBounds_toArray, List.set_cons_zero, List.set_cons_succ, i64_w, i32_w]
        rfl
      refine pure_ (i := 6) (N := some 50) (v := ?_) (a' := ?_) #[true, true, true, true, true, true, true, false, false, false, false, false] rfl rfl (by kernel_rfl) (fun _ _ _ h => hP _ _ _ _ _ h) (Or.inl ⟨by rfl, ?_⟩) ?_ ?_
      rotate_left
      · intro w'
        go_simp
        with_reducible rfl
      rotate_left
      · simp only [Act.put, List.setIfInBounds_toArray, List.set_cons_zero, List.set_cons_succ, i64_w, i32_w]
        rfl
      refine pure_ (i := 7) (N := some 57) (v := ?_) (a' := ?_) #[true, true, true, true, true, true, true, true, false, false, false, false] rfl rfl (by kernel_rfl) (fun _ _ _ h => hP _ _ _ _ _ h) (Or.inl ⟨by rfl, ?_⟩) ?_ ?_
      rotate_left
      · intro w'
        go_simp
        with_reducible rfl
      rotate_left
      · simp only [Act.put, List.setIfInBounds_toArray, List.set_cons_zero, List.set_cons_succ, i64_w, i32_w]
        rfl
      refine pure_ (i := 8) (N := some 58) (v := ?_) (a' := ?_) #[true, true, true, true, true, true, true, true, true, false, false, false] rfl rfl (by kernel_rfl) (fun _ _ _ h => hP _ _ _ _ _ h) (Or.inl ⟨by rfl, ?_⟩) ?_ ?_
      rotate_left
      · intro w'
        go_simp
        with_reducible rfl
      rotate_left
      · simp only [Act.put, List.setIfInBounds_toArray, List.set_cons_zero, List.set_cons_succ, i64_w, i32_w]
        rfl
      refine one_ (i := 9) (N := some 11) #[true, true, true, true, true, true, true, true, true, true, false, false] rfl rfl (by kernel_rfl) (by decide) (fun K hK => ?_)
      refine value_ (w1 := ?_) (v := ?_) (by rfl) rfl ?_ ?_
      rotate_left 2
      · go_simp
        constructor
        · rfl
        · rfl
      refine hK.out _ _ ⟨(HC.out _ HX5.out.1.b).1, (HC.out _ HX5.out.1.b).2.1, (HC.out _ HX5.out.1.b).2.2.1, (HC.out _ HX5.out.1.b).2.2.2, HX5.out.1.m0, HX5.out.1.m1, HX5.out.1.m2⟩ (fun hHeld => ?_)
      clear hK K
      refine norm_ (a' := ?_) ?_ ?_
      rotate_left
      · show Act.put _ (some 11) _ = _
        simp only [Act.put, List.setIfInBounds_toArray, List.set_cons_zero, List.set_cons_succ, i64_w, i32_w]
        rfl
      exact norm_ (by simp only [putAll, Act.put, List.setIfInBounds_toArray, List.set_cons_zero, List.set_cons_succ]) (hCont (w5.heap.size, A5, c5) _ HX5.out)
    · skip
      refine value_ (w1 := ?_) (v := ?_) (by rfl) rfl ?_ ?_
      rotate_left 2
      · go_simp
        constructor
        · rfl
        · rfl
      have HM9 := Aside0.mk (HM.out.below ((Below.refl _ wr).alloc (Nat.le_refl _) (.cells #[.int .i64 0, .int .i64 0, .slice none 0 0] 49))).drew
      refine hK.out _ _ ⟨(HC.out _ HM9.out.b).1, (HC.out _ HM9.out.b).2.1, (HC.out _ HM9.out.b).2.2.1, (HC.out _ HM9.out.b).2.2.2, HM9.out.m0, HM9.out.m1, HM9.out.m2⟩ (fun hHeld => ?_)
      clear hK K
      refine norm_ (a' := ?_) ?_ ?_
      rotate_left
      · show Act.put _ (some 11) _ = _
        simp only [Act.put, List.setIfInBounds_toArray, List.set_cons_zero, List.set_cons_succ, i64_w, i32_w]
        rfl
      refine one_ (i := 5) (N := some 56) #[true, true, true, true, true, true, false, false, false, true, false, false] rfl rfl (by kernel_rfl) (by decide) (fun K hK => ?_)
      refine goes_ Try.func19 (by kernel_rfl) rfl #[.agg #[.int .i64 T.most, .int .i64 T.rev, .slice A T.l.length c], .agg #[.int .i64 a.f0, .string a.f1, .string a.f2, .int .i64 a.f3]] (by rfl) rfl rfl (by simp only [List.map_toArray, List.map_cons, List.map_nil]; rfl) ?_
      with_reducible refine (HDO.out _ HM9.out).mono ?_
      rintro e w5 ⟨A5, c5, rfl, hc5, hl5, ha5, hb5⟩
      refine ⟨_, rfl, ?_⟩
      have HM5 := Aside0.mk (HM9.out.below hb5)
      rw [HR1.out] at hc5 hl5 ha5
      rw [HR1.out, HR2.out]
      have HX5 := Aside0.mk (play_second HM.out hc5 hl5 ha5 (((Below.refl _ _).drew).trans hb5))
      clear hc5 hl5 ha5 hb5
      refine hK.out _ _ ⟨(HC.out _ HM5.out.b).1, (HC.out _ HM5.out.b).2.1, (HC.out _ HM5.out.b).2.2.1, (HC.out _ HM5.out.b).2.2.2, HM5.out.m0, HM5.out.m1, HM5.out.m2⟩ (fun hHeld => ?_)
      clear hK K
      refine norm_ (a' := ?_) ?_ ?_
      rotate_left
      · show Act.put _ (some 56) _ = _
        simp only [Act.put, List.setIfInBounds_toArray, List.set_cons_zero, List.set_cons_succ, i64_w, i32_w]
        rfl
      refine pure_ (i := 6) (N := some 50) (v := ?_) (a' := ?_) #[true, true, true, true, true, true, true, false, false, true, false, false] rfl rfl (by kernel_rfl) (fun _ _ _ h => hP _ _ _ _ _ h) (Or.inl ⟨by rfl, ?_⟩) ?_ ?_
      rotate_left
      · intro w'
        go_simp
        with_reducible rfl
      rotate_left
      · simp only [Act.put, List.setIfInBounds_toArray, List.set_cons_zero, List.set_cons_succ, i64_w, i32_w]
        rfl
      refine pure_ (i := 7) (N := some 57) (v := ?_) (a' := ?_) #[true, true, true, true, true, true, true, true, false, true, false, false] rfl rfl (by kernel_rfl) (fun _ _ _ h => hP _ _ _ _ _ h) (Or.inl ⟨by rfl, ?_⟩) ?_ ?_
      rotate_left
      · intro w'
        go_simp
        with_reducible rfl
      rotate_left
      · simp only [Act.put, List.setIfInBounds_toArray, List.set_cons_zero, List.set_cons_succ, i64_w, i32_w]
        rfl
      refine pure_ (i := 8) (N := some 58) (v := ?_) (a' := ?_) #[true, true, true, true, true, true, true, true, true, true, false, false] rfl rfl (by kernel_rfl) (fun _ _ _ h => hP _ _ _ _ _ h) (Or.inl ⟨by rfl, ?_⟩) ?_ ?_
      rotate_left
      · intro w'
        go_simp
        with_reducible rfl
      rotate_left
      · simp only [Act.put, List.setIfInBounds_toArray, List.set_cons_zero, List.set_cons_succ, i64_w, i32_w]
        rfl
      exact norm_ (by simp only [putAll, Act.put, List.setIfInBounds_toArray, List.set_cons_zero, List.set_cons_succ]) (hCont (wr.heap.size, A5, c5) _ HX5.out)
  rintro ⟨nx, A5, c5⟩ w3 ⟨hM3, hF3, hA3⟩
  have HM3 := Aside0.mk hM3
  have HF3 := Aside0.mk hF3
  have HA3 := Aside0.mk hA3
  have z0 := hF3.z0
  have z1 := hF3.z1
  have z2 := hF3.z2
  have y0 := hF3.y0
  have y1 := hF3.y1
  have y2 := hF3.y2
  clear hM3 hF3 hA3
  have hHeld : w3.cell? (ad.add (j * 4)) = some (.int .i64 a.f0) ∧ w3.cell? ⟨(ad.add (j * 4)).block, (ad.add (j * 4)).off + 1, none⟩ = some (.string a.f1) ∧ w3.cell? ⟨(ad.add (j * 4)).block, (ad.add (j * 4)).off + 2, none⟩ = some (.string a.f2) ∧ w3.cell? ⟨(ad.add (j * 4)).block, (ad.add (j * 4)).off + 3, none⟩ = some (.int .i64 a.f3) ∧ w3.cell? ⟨nm, 0, none⟩ = some (.int .i64 T.most) ∧ w3.cell? ⟨nm, 1, none⟩ = some (.int .i64 T.rev) ∧ w3.cell? ⟨nm, 2, none⟩ = some (.slice A T.l.length c) := ⟨(HC.out _ HM3.out.b).1, (HC.out _ HM3.out.b).2.1, (HC.out _ HM3.out.b).2.2.1, (HC.out _ HM3.out.b).2.2.2, HM3.out.m0, HM3.out.m1, HM3.out.m2⟩
  refine norm_ (a' := ?_) ?_ ?_
  rotate_left
  · simp only [putAll, Act.put, List.setIfInBounds_toArray, List.set_cons_zero, List.set_cons_succ]
    rfl
  refine one_ (i := 10) (N := none) #[true, true, true, true, true, true, true, true, true, true, true, false] rfl rfl (by kernel_rfl) (by decide) (fun K hK => ?_)
  refine skip_ (w1 := ?_) (by rfl) rfl ?_ ?_
  rotate_left
  · go_simp
    rfl
  obtain ⟨W, hW, hM4, hX4⟩ := HF3.out.put HM3.out HA3.out
  rw [hW]
  have HM4 := Aside0.mk hM4
  have HX4 := Aside0.mk hX4
  clear hW hM4 hX4 z0 z1 z2 y0 y1 y2
  refine hK.out _ _ ⟨(HC.out _ HM4.out.b).1, (HC.out _ HM4.out.b).2.1, (HC.out _ HM4.out.b).2.2.1, (HC.out _ HM4.out.b).2.2.2, HM4.out.m0, HM4.out.m1, HM4.out.m2⟩ (fun hHeld => ?_)
  clear hK K
  refine pure_ (i := 11) (N := some 12) (v := ?_) (a' := ?_) #[true, true, true, true, true, true, true, true, true, true, true, true] rfl rfl (by kernel_rfl) (fun _ _ _ h => hP _ _ _ _ _ h) (Or.inl ⟨by rfl, ?_⟩) ?_ ?_
  rotate_left
  · intro w'
    go_simp
    with_reducible rfl
  rotate_left
  · simp only [Act.put, List.setIfInBounds_toArray, List.set_cons_zero, List.set_cons_succ, i64_w, i32_w]
    rfl
  refine done_ (by kernel_rfl) ?_
  exact hK _ _ _ _ _ _ _ _ _ _ _ _ _ HM4.out HX4.out
set_option maxRecDepth 100000 in
set_option maxHeartbeats 4000000 in
theorem play_reg14 {Bz nm t j n0 c0 c : Nat} {S : Nat → Prop} {w0 wr : World} {T R : Tb} {er rev : Int} {a : Act13} {A : Option Addr} {ad : Addr} {L : List ByteArray} (K : Exit → Act → World → Prop) (hP : ∀ (c : List PanicEntry) (a : Act) (t : Tmp) (v : Value) (w : World), K (.panic c) (Act.put a (some t) v) w → K (.panic c) a w)
    (HM : Aside0 (PL Bz nm t S w0 wr T R A c))
    (HC : Aside0 (∀ W : World, Below w0.heap.size w0 W → W.cell? (ad.add (j * 4)) = some (.int .i64 a.f0) ∧ W.cell? ⟨(ad.add (j * 4)).block, (ad.add (j * 4)).off + 1, none⟩ = some (.string a.f1) ∧ W.cell? ⟨(ad.add (j * 4)).block, (ad.add (j * 4)).off + 2, none⟩ = some (.string a.f2) ∧ W.cell? ⟨(ad.add (j * 4)).block, (ad.add (j * 4)).off + 3, none⟩ = some (.int .i64 a.f3)))
    (HA : Aside0 (a.f1.size ≤ 300 ∧ T.l.length < 1000000)) (HR1 : Aside0 ((doT T a).1 = R)) (HR2 : Aside0 ((doT T a).2 = er)) (HL : Aside0 (sinceF R rev = L)) (hlen1 : (j : Int) < (n0 : Int))
    (s0 s3 s4 s5 s6 s8 s11 s13 s14 s15 s16 s17 s18 s19 s20 s21 s22 s23 s24 s25 s26 s27 s28 s29 s30 s31 s32 s33 s34 s35 s36 s37 s38 s39 s40 s41 s42 s43 s44 s45 s46 s47 s48 s49 s50 s51 s52 s53 s54 s55 s56 s57 s58 s59 s60 s61 s62 s63 s64 s65 s66 s67 s68 s69 s70 s71 s72 s73 s74 s75 s76 s77 s78 s79 s80 s81 s82 s83 s84 s85 s86 s87 s88 s89 s90 s91 s92 s93 s94 s95 s96 s97 s98 s99 s100 s101 s102 s103 s104 s105 s106 s107 s108 s109 s110 s111 s112 s113 s114 s115 s116 s117 s118 s119 s120 s121 s122 s123 s124 s125 s126 s127 s128 s129 s130 s131 s132 s133 s134 s135 s136 s137 s138 s139 s140 s141 s142 s143 s144 s145 s146 s147 s148 s149 s150 s151 s152 s153 s154 s155 s156 s157 s158 : Value)
    (hK : ∀ (u60 u61 u62 u63 u64 u65 u66 u67 u68 u69 u70 u71 u72 u73 u74 u75 u76 u77 u78 u79 u80 u81 u82 u83 : Value) (w8 : World), PL Bz nm t S w0 w8 R R A c → K .normal ⟨#[s0, .slice (some ad) n0 c0, .int .i64 rev, s3, s4, s5, s6, .pointer (some ⟨t, 0, none⟩), s8, .pointer (some ⟨nm, 0, none⟩), .int .i64 j, s11, .int .i64 er, s13, s14, s15, s16, s17, s18, s19, s20, s21, s22, s23, s24, s25, s26, s27, s28, s29, s30, s31, s32, s33, s34, s35, s36, s37, s38, s39, s40, s41, s42, s43, s44, s45, s46, s47, s48, s49, s50, s51, s52, s53, s54, s55, s56, s57, s58, s59, u60, u61, u62, u63, u64, u65, u66, u67, u68, u69, u70, u71, u72, u73, u74, u75, u76, u77, u78, u79, u80, u81, u82, u83, .bool false, s85, s86, s87, s88, s89, s90, s91, s92, s93, s94, s95, s96, s97, s98, s99, s100, s101, s102, s103, s104, s105, s106, s107, s108, s109, s110, s111, s112, s113, s114, s115, s116, s117, s118, s119, s120, s121, s122, s123, s124, s125, s126, s127, s128, s129, s130, s131, s132, s133, s134, s135, s136, s137, s138, s139, s140, s141, s142, s143, s144, s145, s146, s147, s148, s149, s150, s151, s152, s153, s154, s155, s156, s157, s158], []⟩ w8) :
    Code.wp Try.prog playReg14 K ⟨#[s0, .slice (some ad) n0 c0, .int .i64 rev, s3, s4, s5, s6, .pointer (some ⟨t, 0, none⟩), s8, .pointer (some ⟨nm, 0, none⟩), .int .i64 j, s11, .int .i64 er, s13, s14, s15, s16, s17, s18, s19, s20, s21, s22, s23, s24, s25, s26, s27, s28, s29, s30, s31, s32, s33, s34, s35, s36, s37, s38, s39, s40, s41, s42, s43, s44, s45, s46, s47, s48, s49, s50, s51, s52, s53, s54, s55, s56, s57, s58, s59, s60, s61, s62, s63, s64, s65, s66, s67, s68, s69, s70, s71, s72, s73, s74, s75, s76, s77, s78, s79, s80, s81, s82, s83, s84, s85, s86, s87, s88, s89, s90, s91, s92, s93, s94, s95, s96, s97, s98, s99, s100, s101, s102, s103, s104, s105, s106, s107, s108, s109, s110, s111, s112, s113, s114, s115, s116, s117, s118, s119, s120, s121, s122, s123, s124, s125, s126, s127, s128, s129, s130, s131, s132, s133, s134, s135, s136, s137, s138, s139, s140, s141, s142, s143, s144, s145, s146, s147, s148, s149, s150, s151, s152, s153, s154, s155, s156, s157, s158], []⟩ wr := by
  have hq := HC.out wr HM.out.b
  obtain ⟨q0, q1, q2, q3⟩ := hq
  have m0 := HM.out.m0
  have m1 := HM.out.m1
  have m2 := HM.out.m2
  have d1 : decide ((j : Int) < (n0 : Int)) = true := decide_eq_true hlen1
  have d2 : decide (j < n0) = true := decide_eq_true (by omega)
  have e1 : (er != er) = false := by simp
  have e2 : (R.rev != R.rev) = false := by simp
  have hdo := fun W (hW : PL Bz nm t S w0 W T R A c) => do_any hW.zB hW.tb HA.out.2 a HA.out.1
  have HDO := Aside0.mk hdo
  clear hdo
  unfold vA at HDO
  conv => arg 2; whnf
  refine start_ (n := 25) (S := fun w' => w'.cell? (ad.add (j * 4)) = some (.int .i64 a.f0) ∧ w'.cell? ⟨(ad.add (j * 4)).block, (ad.add (j * 4)).off + 1, none⟩ = some (.string a.f1) ∧ w'.cell? ⟨(ad.add (j * 4)).block, (ad.add (j * 4)).off + 2, none⟩ = some (.string a.f2) ∧ w'.cell? ⟨(ad.add (j * 4)).block, (ad.add (j * 4)).off + 3, none⟩ = some (.int .i64 a.f3) ∧ w'.cell? ⟨nm, 0, none⟩ = some (.int .i64 R.most) ∧ w'.cell? ⟨nm, 1, none⟩ = some (.int .i64 R.rev) ∧ w'.cell? ⟨nm, 2, none⟩ = some (.slice A R.l.length c)) (ds := []) #[false, false, false, false, false, false, false, false, false, false, false, false, false, false, false, false, false, false, false, false, false, false, false, false, false] (by kernel_rfl) rfl rfl ⟨q0, q1, q2, q3, m0, m1, m2⟩ (fun hHeld => ?_)
  refine pure_ (i := 0) (N := some 60) (v := ?_) (a' := ?_) #[true, false, false, false, false, false, false, false, false, false, false, false, false, false, false, false, false, false, false, false, false, false, false, false, false] rfl rfl (by kernel_rfl) (fun _ _ _ h => hP _ _ _ _ _ h) (Or.inl ⟨by rfl, ?_⟩) ?_ ?_
  rotate_left
  · intro w'
    go_simp
    with_reducible rfl
  rotate_left
  · simp only [Act.put, List.setIfInBounds_toArray, List.set_cons_zero, List.set_cons_succ, i64_w, i32_w]
    rfl
  refine pure_ (i := 1) (N := some 61) (v := ?_) (a' := ?_) #[true, true, false, false, false, false, false, false, false, false, false, false, false, false, false, false, false, false, false, false, false, false, false, false, false] rfl rfl (by kernel_rfl) (fun _ _ _ h => hP _ _ _ _ _ h) (Or.inl ⟨by rfl, ?_⟩) ?_ ?_
  rotate_left
  · intro w'
    go_simp
    with_reducible rfl
  rotate_left
  · simp only [Act.put, List.setIfInBounds_toArray, List.set_cons_zero, List.set_cons_succ, i64_w, i32_w]
    rfl
  refine pure_ (i := 2) (N := some 62) (v := ?_) (a' := ?_) #[true, true, true, false, false, false, false, false, false, false, false, false, false, false, false, false, false, false, false, false, false, false, false, false, false] rfl rfl (by kernel_rfl) (fun _ _ _ h => hP _ _ _ _ _ h) (Or.inl ⟨by rfl, ?_⟩) ?_ ?_
  rotate_left
  · intro w'
    go_simp
    with_reducible rfl
  rotate_left
  · simp only [Act.put, List.setIfInBounds_toArray, List.set_cons_zero, List.set_cons_succ, i64_w, i32_w]
    rfl
  refine pure_ (i := 3) (N := some 63) (v := ?_) (a' := ?_) #[true, true, true, true, false, false, false, false, false, false, false, false, false, false, false, false, false, false, false, false, false, false, false, false, false] rfl rfl (by kernel_rfl) (fun _ _ _ h => hP _ _ _ _ _ h) (Or.inl ⟨by rfl, ?_⟩) ?_ ?_
  rotate_left
  · intro w'
    go_simp
    with_reducible rfl
  rotate_left
  · simp only [Act.put, List.setIfInBounds_toArray, List.set_cons_zero, List.set_cons_succ, i64_w, i32_w]
    rfl
  refine pure_ (i := 6) (N := some 66) (v := ?_) (a' := ?_) #[true, true, true, true, false, false, true, false, false, false, false, false, false, false, false, false, false, false, false, false, false, false, false, false, false] rfl rfl (by kernel_rfl) (fun _ _ _ h => hP _ _ _ _ _ h) (Or.inl ⟨by rfl, ?_⟩) ?_ ?_
  rotate_left
  · intro w'
    go_simp
    with_reducible rfl
  rotate_left
  · simp only [Act.put, List.setIfInBounds_toArray, List.set_cons_zero, List.set_cons_succ, i64_w, i32_w]
    rfl
  refine take_ (i := 4) (N := some 64) (v := ?_) (a' := ?_) #[true, true, true, true, true, false, true, false, false, false, false, false, false, false, false, false, false, false, false, false, false, false, false, false, false] rfl rfl (by kernel_rfl) (fun _ _ _ h => hP _ _ _ _ _ h) (Or.inl ⟨by rfl, ?_⟩) hHeld ?_ ?_
  rotate_left
  · rintro w' ⟨s0, s1, s2, s3, s4, s5, s6⟩
    go_simp
    with_reducible rfl
  rotate_left
  · simp only [Act.put, List.setIfInBounds_toArray, List.set_cons_zero, List.set_cons_succ, i64_w, i32_w]
    rfl
  refine one_ (i := 5) (N := some 65) #[true, true, true, true, true, true, true, false, false, false, false, false, false, false, false, false, false, false, false, false, false, false, false, false, false] rfl rfl (by kernel_rfl) (by decide) (fun K hK => ?_)
  refine goes_ Try.func17 (by kernel_rfl) rfl #[.pointer (some ⟨t, 0, none⟩), .agg #[.int .i64 a.f0, .string a.f1, .string a.f2, .int .i64 a.f3]] (by rfl) rfl rfl (by simp only [List.map_toArray, List.map_cons, List.map_nil]; rfl) ?_
  with_reducible refine (HDO.out _ HM.out.drew).mono ?_
  rintro e w5 ⟨rfl, ht5, hb5⟩
  refine ⟨_, rfl, ?_⟩
  rw [HR2.out]
  have HM5 := Aside0.mk (HM.out.drew.do_ ht5 hb5)
  rw [HR1.out] at HM5
  obtain ⟨ks, hks⟩ := since_ex R.most R.rev rev R.l HM5.out.ok.len HM5.out.ok.sorted R rfl
  obtain ⟨kk, hkk⟩ := same_ex (sinceF R rev) (Nat.le_trans (sinceF_len R rev) HM5.out.ok.len)
  rw [HL.out] at hks hkk
  have HKS := Aside0.mk hks
  have HKK := Aside0.mk hkk
  clear ht5 hb5 hks hkk
  refine hK.out _ _ ⟨(HC.out _ HM5.out.b).1, (HC.out _ HM5.out.b).2.1, (HC.out _ HM5.out.b).2.2.1, (HC.out _ HM5.out.b).2.2.2, HM5.out.m0, HM5.out.m1, HM5.out.m2⟩ (fun hHeld => ?_)
  clear hK K
  refine norm_ (a' := ?_) ?_ ?_
  rotate_left
  · show Act.put _ (some 65) _ = _
    simp only [Act.put, List.setIfInBounds_toArray, List.set_cons_zero, List.set_cons_succ, i64_w, i32_w]
    rfl
  refine pure_ (i := 7) (N := some 67) (v := ?_) (a' := ?_) #[true, true, true, true, true, true, true, true, false, false, false, false, false, false, false, false, false, false, false, false, false, false, false, false, false] rfl rfl (by kernel_rfl) (fun _ _ _ h => hP _ _ _ _ _ h) (Or.inl ⟨by rfl, ?_⟩) ?_ ?_
  rotate_left
  · intro w'
    go_simp
    with_reducible rfl
  rotate_left
  · simp only [Act.put, List.setIfInBounds_toArray, List.set_cons_zero, List.set_cons_succ, i64_w, i32_w]
    rfl
  refine pure_ (i := 8) (N := some 68) (v := ?_) (a' := ?_) #[true, true, true, true, true, true, true, true, true, false, false, false, false, false, false, false, false, false, false, false, false, false, false, false, false] rfl rfl (by kernel_rfl) (fun _ _ _ h => hP _ _ _ _ _ h) (Or.inl ⟨by rfl, ?_⟩) ?_ ?_
  rotate_left
  · intro w'
    go_simp
    with_reducible rfl
  rotate_left
  · simp only [Act.put, List.setIfInBounds_toArray, List.set_cons_zero, List.set_cons_succ, i64_w, i32_w]
    rfl
  refine pure_ (i := 9) (N := some 69) (v := ?_) (a' := ?_) #[true, true, true, true, true, true, true, true, true, true, false, false, false, false, false, false, false, false, false, false, false, false, false, false, false] rfl rfl (by kernel_rfl) (fun _ _ _ h => hP _ _ _ _ _ h) (Or.inl ⟨by rfl, ?_⟩) ?_ ?_
  rotate_left
  · intro w'
    go_simp
    with_reducible rfl
  rotate_left
  · simp only [Act.put, List.setIfInBounds_toArray, List.set_cons_zero, List.set_cons_succ, i64_w, i32_w]
    rfl
  refine pure_ (i := 11) (N := some 71) (v := ?_) (a' := ?_) #[true, true, true, true, true, true, true, true, true, true, false, true, false, false, false, false, false, false, false, false, false, false, false, false, false] rfl rfl (by kernel_rfl) (fun _ _ _ h => hP _ _ _ _ _ h) (Or.inl ⟨by rfl, ?_⟩) ?_ ?_
  rotate_left
  · intro w'
    go_simp
    with_reducible rfl
  rotate_left
  · simp only [Act.put, List.setIfInBounds_toArray, List.set_cons_zero, List.set_cons_succ, i64_w, i32_w]
    rfl
  refine take_ (i := 12) (N := some 72) (v := ?_) (a' := ?_) #[true, true, true, true, true, true, true, true, true, true, false, true, true, false, false, false, false, false, false, false, false, false, false, false, false] rfl rfl (by kernel_rfl) (fun _ _ _ h => hP _ _ _ _ _ h) (Or.inl ⟨by rfl, ?_⟩) hHeld ?_ ?_
  rotate_left
  · rintro w' ⟨s0, s1, s2, s3, s4, s5, s6⟩
    go_simp
    with_reducible rfl
  rotate_left
  · simp only [Act.put, List.setIfInBounds_toArray, List.set_cons_zero, List.set_cons_succ, i64_w, i32_w]
    rfl
  refine one_ (i := 10) (N := some 70) #[true, true, true, true, true, true, true, true, true, true, true, true, true, false, false, false, false, false, false, false, false, false, false, false, false] rfl rfl (by kernel_rfl) (by decide) (fun K hK => ?_)
  refine goes_ Try.func13 (by kernel_rfl) rfl #[.pointer (some ⟨t, 0, none⟩)] (by rfl) rfl rfl (by simp only [List.map_toArray, List.map_cons, List.map_nil]; rfl) ?_
  with_reducible refine (rev_any HM5.out.tb).mono ?_
  rintro e w6 ⟨rfl, rfl⟩
  refine ⟨_, rfl, ?_⟩
  refine hK.out _ _ ⟨(HC.out _ HM5.out.b).1, (HC.out _ HM5.out.b).2.1, (HC.out _ HM5.out.b).2.2.1, (HC.out _ HM5.out.b).2.2.2, HM5.out.m0, HM5.out.m1, HM5.out.m2⟩ (fun hHeld => ?_)
  clear hK K
  refine norm_ (a' := ?_) ?_ ?_
  rotate_left
  · show Act.put _ (some 70) _ = _
    simp only [Act.put, List.setIfInBounds_toArray, List.set_cons_zero, List.set_cons_succ, i64_w, i32_w]
    rfl
  refine pure_ (i := 13) (N := some 73) (v := ?_) (a' := ?_) #[true, true, true, true, true, true, true, true, true, true, true, true, true, true, false, false, false, false, false, false, false, false, false, false, false] rfl rfl (by kernel_rfl) (fun _ _ _ h => hP _ _ _ _ _ h) (Or.inl ⟨by rfl, ?_⟩) ?_ ?_
  rotate_left
  · intro w'
    go_simp
    with_reducible rfl
  rotate_left
  · simp only [Act.put, List.setIfInBounds_toArray, List.set_cons_zero, List.set_cons_succ, i64_w, i32_w]
    rfl
  refine pure_ (i := 14) (N := some 74) (v := ?_) (a' := ?_) #[true, true, true, true, true, true, true, true, true, true, true, true, true, true, true, false, false, false, false, false, false, false, false, false, false] rfl rfl (by kernel_rfl) (fun _ _ _ h => hP _ _ _ _ _ h) (Or.inl ⟨by rfl, ?_⟩) ?_ ?_
  rotate_left
  · intro w'
    go_simp
    with_reducible rfl
  rotate_left
  · simp only [Act.put, List.setIfInBounds_toArray, List.set_cons_zero, List.set_cons_succ, i64_w, i32_w]
    rfl
  refine pure_ (i := 15) (N := some 75) (v := ?_) (a' := ?_) #[true, true, true, true, true, true, true, true, true, true, true, true, true, true, true, true, false, false, false, false, false, false, false, false, false] rfl rfl (by kernel_rfl) (fun _ _ _ h => hP _ _ _ _ _ h) (Or.inl ⟨by rfl, ?_⟩) ?_ ?_
  rotate_left
  · intro w'
    go_simp
    with_reducible rfl
  rotate_left
  · simp only [Act.put, List.setIfInBounds_toArray, List.set_cons_zero, List.set_cons_succ, i64_w, i32_w]
    rfl
  refine pure_ (i := 16) (N := some 76) (v := ?_) (a' := ?_) #[true, true, true, true, true, true, true, true, true, true, true, true, true, true, true, true, true, false, false, false, false, false, false, false, false] rfl rfl (by kernel_rfl) (fun _ _ _ h => hP _ _ _ _ _ h) (Or.inl ⟨by rfl, ?_⟩) ?_ ?_
  rotate_left
  · intro w'
    go_simp
    with_reducible rfl
  rotate_left
  · simp only [Act.put, List.setIfInBounds_toArray, List.set_cons_zero, List.set_cons_succ, i64_w, i32_w]
    rfl
  refine pure_ (i := 17) (N := some 77) (v := ?_) (a' := ?_) #[true, true, true, true, true, true, true, true, true, true, true, true, true, true, true, true, true, true, false, false, false, false, false, false, false] rfl rfl (by kernel_rfl) (fun _ _ _ h => hP _ _ _ _ _ h) (Or.inl ⟨by rfl, ?_⟩) ?_ ?_
  rotate_left
  · intro w'
    go_simp
    with_reducible rfl
  rotate_left
  · simp only [Act.put, List.setIfInBounds_toArray, List.set_cons_zero, List.set_cons_succ, i64_w, i32_w]
    rfl
  refine pure_ (i := 20) (N := some 80) (v := ?_) (a' := ?_) #[true, true, true, true, true, true, true, true, true, true, true, true, true, true, true, true, true, true, false, false, true, false, false, false, false] rfl rfl (by kernel_rfl) (fun _ _ _ h => hP _ _ _ _ _ h) (Or.inl ⟨by rfl, ?_⟩) ?_ ?_
  rotate_left
  · intro w'
    go_simp
    with_reducible rfl
  rotate_left
  · simp only [Act.put, List.setIfInBounds_toArray, List.set_cons_zero, List.set_cons_succ, i64_w, i32_w]
    rfl
  refine take_ (i := 19) (N := some 79) (v := ?_) (a' := ?_) #[true, true, true, true, true, true, true, true, true, true, true, true, true, true, true, true, true, true, false, true, true, false, false, false, false] rfl rfl (by kernel_rfl) (fun _ _ _ h => hP _ _ _ _ _ h) (Or.inl ⟨by rfl, ?_⟩) hHeld ?_ ?_
  rotate_left
  · rintro w' ⟨s0, s1, s2, s3, s4, s5, s6⟩
    go_simp
    with_reducible rfl
  rotate_left
  · simp only [Act.put, List.setIfInBounds_toArray, List.set_cons_zero, List.set_cons_succ, i64_w, i32_w]
    rfl
  refine one_ (i := 18) (N := some 78) #[true, true, true, true, true, true, true, true, true, true, true, true, true, true, true, true, true, true, true, true, true, false, false, false, false] rfl rfl (by kernel_rfl) (by decide) (fun K hK => ?_)
  refine goes_ Try.func14 (by kernel_rfl) rfl #[.pointer (some ⟨t, 0, none⟩), .int .i64 rev] (by rfl) rfl rfl (by simp only [List.map_toArray, List.map_cons, List.map_nil]; rfl) ?_
  with_reducible refine (since_ro HM5.out.tb rev).mono ?_
  rintro e w7 ⟨A7, c7, rfl, hr7, hb7⟩
  refine ⟨_, rfl, ?_⟩
  rw [HL.out] at hr7 ⊢
  have HM7 := Aside0.mk (HM5.out.below hb7)
  have HR7 := Aside0.mk hr7
  clear hr7 hb7
  refine hK.out _ _ ⟨(HC.out _ HM7.out.b).1, (HC.out _ HM7.out.b).2.1, (HC.out _ HM7.out.b).2.2.1, (HC.out _ HM7.out.b).2.2.2, HM7.out.m0, HM7.out.m1, HM7.out.m2⟩ (fun hHeld => ?_)
  clear hK K
  refine norm_ (a' := ?_) ?_ ?_
  rotate_left
  · show Act.put _ (some 78) _ = _
    simp only [Act.put, List.setIfInBounds_toArray, List.set_cons_zero, List.set_cons_succ, i64_w, i32_w]
    rfl
  refine one_ (i := 21) (N := some 81) #[true, true, true, true, true, true, true, true, true, true, true, true, true, true, true, true, true, true, true, true, true, true, false, false, false] rfl rfl (by kernel_rfl) (by decide) (fun K hK => ?_)
  refine goes_ Try.func21 (by kernel_rfl) rfl #[.agg #[.int .i64 R.most, .int .i64 R.rev, .slice A R.l.length c], .int .i64 rev] (by rfl) rfl rfl (by simp only [List.map_toArray, List.map_cons, List.map_nil]; rfl) ?_
  with_reducible refine (cupelref13_Since.calls ks R.most R.rev A c R.l rev L _ HM7.out.l HM7.out.c HKS.out).mono ?_
  rintro e w8 ⟨v8, rfl, ho8, hb8⟩
  refine ⟨_, rfl, ?_⟩
  obtain ⟨A8, c8, rfl, hc8, hl8⟩ := Kd.R_reads ho8
  have HM8 := Aside0.mk (HM7.out.below hb8)
  have HR8 := Aside0.mk (HR7.out.below hb8)
  have HC8 := Aside0.mk hc8
  have HL8 := Aside0.mk hl8
  clear ho8 hb8 hc8 hl8
  refine hK.out _ _ ⟨(HC.out _ HM8.out.b).1, (HC.out _ HM8.out.b).2.1, (HC.out _ HM8.out.b).2.2.1, (HC.out _ HM8.out.b).2.2.2, HM8.out.m0, HM8.out.m1, HM8.out.m2⟩ (fun hHeld => ?_)
  clear hK K
  refine norm_ (a' := ?_) ?_ ?_
  rotate_left
  · show Act.put _ (some 81) _ = _
    simp only [Act.put, List.setIfInBounds_toArray, List.set_cons_zero, List.set_cons_succ, i64_w, i32_w]
    rfl
  refine one_ (i := 22) (N := some 82) #[true, true, true, true, true, true, true, true, true, true, true, true, true, true, true, true, true, true, true, true, true, true, true, false, false] rfl rfl (by kernel_rfl) (by decide) (fun K hK => ?_)
  refine goes_ Try.func20 (by kernel_rfl) rfl #[.slice A7 L.length c7, .slice A8 L.length c8] (by rfl) rfl rfl (by simp only [List.map_toArray, List.map_cons, List.map_nil]; rfl) ?_
  with_reducible refine (cupellaw13_same.calls kk A7 c7 L A8 c8 L true _ HR8.out.C.1 HR8.out.C.2 HL8.out HC8.out HKK.out).mono ?_
  rintro e w9 ⟨rfl, hd9⟩
  refine ⟨_, rfl, ?_⟩
  have HM9 := Aside0.mk (HM8.out.below hd9.below)
  clear hd9
  refine hK.out _ _ ⟨(HC.out _ HM9.out.b).1, (HC.out _ HM9.out.b).2.1, (HC.out _ HM9.out.b).2.2.1, (HC.out _ HM9.out.b).2.2.2, HM9.out.m0, HM9.out.m1, HM9.out.m2⟩ (fun hHeld => ?_)
  clear hK K
  refine norm_ (a' := ?_) ?_ ?_
  rotate_left
  · show Act.put _ (some 82) _ = _
    simp only [Act.put, List.setIfInBounds_toArray, List.set_cons_zero, List.set_cons_succ, i64_w, i32_w]
    rfl
  refine pure_ (i := 23) (N := some 83) (v := ?_) (a' := ?_) #[true, true, true, true, true, true, true, true, true, true, true, true, true, true, true, true, true, true, true, true, true, true, true, true, false] rfl rfl (by kernel_rfl) (fun _ _ _ h => hP _ _ _ _ _ h) (Or.inl ⟨by rfl, ?_⟩) ?_ ?_
  rotate_left
  · intro w'
    go_simp
    with_reducible rfl
  rotate_left
  · simp only [Act.put, List.setIfInBounds_toArray, List.set_cons_zero, List.set_cons_succ, i64_w, i32_w]
    rfl
  refine pure_ (i := 24) (N := some 84) (v := ?_) (a' := ?_) #[true, true, true, true, true, true, true, true, true, true, true, true, true, true, true, true, true, true, true, true, true, true, true, true, true] rfl rfl (by kernel_rfl) (fun _ _ _ h => hP _ _ _ _ _ h) (Or.inl ⟨by rfl, ?_⟩) ?_ ?_
  rotate_left
  · intro w'
    go_simp
    with_reducible rfl
  rotate_left
  · simp only [Act.put, List.setIfInBounds_toArray, List.set_cons_zero, List.set_cons_succ, i64_w, i32_w]
    rfl
  refine done_ (by kernel_rfl) ?_
  exact hK _ _ _ _ _ _ _ _ _ _ _ _ _ _ _ _ _ _ _ _ _ _ _ _ _ HM9.out
attribute [local go_sem high] eqA32
set_option maxRecDepth 100000 in
set_option maxHeartbeats 4000000 in
theorem play_reg27 {bg bw n m7 c7 : Nat} {wr : World} {f : Fl} {ax : Addr} (K : Exit → Act → World → Prop) (hP : ∀ (c : List PanicEntry) (a : Act) (t : Tmp) (v : Value) (w : World), K (.panic c) (Act.put a (some t) v) w → K (.panic c) a w)
    (HC : Aside0 (wr.cell? (ax.add (n * 4)) = some (.string f.f0) ∧ wr.cell? ⟨(ax.add (n * 4)).block, (ax.add (n * 4)).off + 1, none⟩ = some (.string f.f1) ∧ wr.cell? ⟨(ax.add (n * 4)).block, (ax.add (n * 4)).off + 2, none⟩ = some (.int .i64 f.f2) ∧ wr.cell? ⟨(ax.add (n * 4)).block, (ax.add (n * 4)).off + 3, none⟩ = some (.int .i64 f.f3) ∧ wr.cell? ⟨bg, 0, none⟩ = some (.string f.f0) ∧ wr.cell? ⟨bg, 1, none⟩ = some (.string f.f1) ∧ wr.cell? ⟨bg, 2, none⟩ = some (.int .i64 f.f2) ∧ wr.cell? ⟨bg, 3, none⟩ = some (.int .i64 f.f3) ∧ wr.cell? ⟨bw, 0, none⟩ = some (.string f.f0) ∧ wr.cell? ⟨bw, 1, none⟩ = some (.string f.f1) ∧ wr.cell? ⟨bw, 2, none⟩ = some (.int .i64 f.f2) ∧ wr.cell? ⟨bw, 3, none⟩ = some (.int .i64 f.f3))) (hlen1 : (n : Int) < (m7 : Int))
    (s0 s1 s2 s3 s4 s5 s6 s7 s8 s9 s10 s11 s12 s15 s16 s17 s21 s22 s23 s24 s25 s26 s27 s28 s29 s30 s31 s32 s33 s34 s35 s36 s37 s38 s39 s40 s41 s42 s43 s44 s45 s46 s47 s48 s49 s50 s51 s52 s53 s54 s55 s56 s57 s58 s59 s60 s61 s62 s63 s64 s65 s66 s67 s68 s69 s70 s71 s72 s73 s74 s75 s76 s77 s78 s79 s80 s81 s82 s83 s84 s85 s86 s87 s88 s89 s90 s91 s92 s93 s94 s95 s96 s97 s98 s99 s100 s101 s102 s103 s104 s105 s106 s107 s108 s109 s110 s111 s112 s113 s114 s115 s116 s117 s118 s119 s120 s121 s122 s123 s124 s125 s126 s127 s128 s129 s130 s131 s132 s133 s134 s135 s136 s137 s138 s139 s140 s141 s142 s143 s144 s145 s146 s147 s148 s149 s150 s151 s152 s153 s154 s155 s156 s157 s158 : Value)
    (hK : ∀ (u119 u120 u121 u122 u123 u124 u125 u126 u127 u128 u129 u130 u131 u132 u133 u134 u135 u136 u137 u138 : Value) (w8 : World), Below wr.heap.size wr w8 → K .normal ⟨#[s0, s1, s2, s3, s4, s5, s6, s7, s8, s9, s10, s11, s12, .slice (some ax) m7 c7, .int .i64 n, s15, s16, s17, .pointer (some ⟨bg, 0, none⟩), .int .i64 0, .pointer (some ⟨bw, 0, none⟩), s21, s22, s23, s24, s25, s26, s27, s28, s29, s30, s31, s32, s33, s34, s35, s36, s37, s38, s39, s40, s41, s42, s43, s44, s45, s46, s47, s48, s49, s50, s51, s52, s53, s54, s55, s56, s57, s58, s59, s60, s61, s62, s63, s64, s65, s66, s67, s68, s69, s70, s71, s72, s73, s74, s75, s76, s77, s78, s79, s80, s81, s82, s83, s84, s85, s86, s87, s88, s89, s90, s91, s92, s93, s94, s95, s96, s97, s98, s99, s100, s101, s102, s103, s104, s105, s106, s107, s108, s109, s110, s111, s112, s113, s114, s115, s116, s117, s118, u119, u120, u121, u122, u123, u124, u125, u126, u127, u128, u129, u130, u131, u132, u133, u134, u135, u136, u137, u138, .bool false, s140, s141, s142, s143, s144, s145, s146, s147, s148, s149, s150, s151, s152, s153, s154, s155, s156, s157, s158], []⟩ w8) :
    Code.wp Try.prog playReg27 K ⟨#[s0, s1, s2, s3, s4, s5, s6, s7, s8, s9, s10, s11, s12, .slice (some ax) m7 c7, .int .i64 n, s15, s16, s17, .pointer (some ⟨bg, 0, none⟩), .int .i64 0, .pointer (some ⟨bw, 0, none⟩), s21, s22, s23, s24, s25, s26, s27, s28, s29, s30, s31, s32, s33, s34, s35, s36, s37, s38, s39, s40, s41, s42, s43, s44, s45, s46, s47, s48, s49, s50, s51, s52, s53, s54, s55, s56, s57, s58, s59, s60, s61, s62, s63, s64, s65, s66, s67, s68, s69, s70, s71, s72, s73, s74, s75, s76, s77, s78, s79, s80, s81, s82, s83, s84, s85, s86, s87, s88, s89, s90, s91, s92, s93, s94, s95, s96, s97, s98, s99, s100, s101, s102, s103, s104, s105, s106, s107, s108, s109, s110, s111, s112, s113, s114, s115, s116, s117, s118, s119, s120, s121, s122, s123, s124, s125, s126, s127, s128, s129, s130, s131, s132, s133, s134, s135, s136, s137, s138, s139, s140, s141, s142, s143, s144, s145, s146, s147, s148, s149, s150, s151, s152, s153, s154, s155, s156, s157, s158], []⟩ wr := by
  obtain ⟨x0, x1, x2, x3, g0, g1, g2, g3, b0, b1, b2, b3⟩ := HC.out
  have d1 : decide ((n : Int) < (m7 : Int)) = true := decide_eq_true hlen1
  have d2 : decide (n < m7) = true := decide_eq_true (by omega)
  have d3 : decide ((m7 : Int) ≤ (n : Int)) = false := decide_eq_false (by omega)
  have d4 : decide (m7 ≤ n) = false := decide_eq_false (by omega)
  have e0 : (f.f0.toList == f.f0.toList) = true := by simp
  have e1 : (f.f1.toList == f.f1.toList) = true := by simp
  have e2 : (f.f2 == f.f2) = true := by simp
  have e3 : (f.f3 == f.f3) = true := by simp
  conv => arg 2; whnf
  refine start_ (n := 21) (S := fun w' => w'.cell? (ax.add (n * 4)) = some (.string f.f0) ∧ w'.cell? ⟨(ax.add (n * 4)).block, (ax.add (n * 4)).off + 1, none⟩ = some (.string f.f1) ∧ w'.cell? ⟨(ax.add (n * 4)).block, (ax.add (n * 4)).off + 2, none⟩ = some (.int .i64 f.f2) ∧ w'.cell? ⟨(ax.add (n * 4)).block, (ax.add (n * 4)).off + 3, none⟩ = some (.int .i64 f.f3) ∧ w'.cell? ⟨bg, 0, none⟩ = some (.string f.f0) ∧ w'.cell? ⟨bg, 1, none⟩ = some (.string f.f1) ∧ w'.cell? ⟨bg, 2, none⟩ = some (.int .i64 f.f2) ∧ w'.cell? ⟨bg, 3, none⟩ = some (.int .i64 f.f3) ∧ w'.cell? ⟨bw, 0, none⟩ = some (.string f.f0) ∧ w'.cell? ⟨bw, 1, none⟩ = some (.string f.f1) ∧ w'.cell? ⟨bw, 2, none⟩ = some (.int .i64 f.f2) ∧ w'.cell? ⟨bw, 3, none⟩ = some (.int .i64 f.f3)) (ds := []) #[false, false, false, false, false, false, false, false, false, false, false, false, false, false, false, false, false, false, false, false, false] (by kernel_rfl) rfl rfl ⟨x0, x1, x2, x3, g0, g1, g2, g3, b0, b1, b2, b3⟩ (fun hHeld => ?_)
  refine pure_ (i := 0) (N := some 119) (v := ?_) (a' := ?_) #[true, false, false, false, false, false, false, false, false, false, false, false, false, false, false, false, false, false, false, false, false] rfl rfl (by kernel_rfl) (fun _ _ _ h => hP _ _ _ _ _ h) (Or.inl ⟨by rfl, ?_⟩) ?_ ?_
  rotate_left
  · intro w'
    go_simp
    with_reducible rfl
  rotate_left
  · simp only [Act.put, List.setIfInBounds_toArray, List.set_cons_zero, List.set_cons_succ, i64_w, i32_w]
    rfl
  refine pure_ (i := 1) (N := some 120) (v := ?_) (a' := ?_) #[true, true, false, false, false, false, false, false, false, false, false, false, false, false, false, false, false, false, false, false, false] rfl rfl (by kernel_rfl) (fun _ _ _ h => hP _ _ _ _ _ h) (Or.inl ⟨by rfl, ?_⟩) ?_ ?_
  rotate_left
  · intro w'
    go_simp
    with_reducible rfl
  rotate_left
  · simp only [Act.put, List.setIfInBounds_toArray, List.set_cons_zero, List.set_cons_succ, i64_w, i32_w]
    rfl
  refine pure_ (i := 2) (N := some 121) (v := ?_) (a' := ?_) #[true, true, true, false, false, false, false, false, false, false, false, false, false, false, false, false, false, false, false, false, false] rfl rfl (by kernel_rfl) (fun _ _ _ h => hP _ _ _ _ _ h) (Or.inl ⟨by rfl, ?_⟩) ?_ ?_
  rotate_left
  · intro w'
    go_simp
    with_reducible rfl
  rotate_left
  · simp only [Act.put, List.setIfInBounds_toArray, List.set_cons_zero, List.set_cons_succ, i64_w, i32_w]
    rfl
  refine pure_ (i := 3) (N := some 122) (v := ?_) (a' := ?_) #[true, true, true, true, false, false, false, false, false, false, false, false, false, false, false, false, false, false, false, false, false] rfl rfl (by kernel_rfl) (fun _ _ _ h => hP _ _ _ _ _ h) (Or.inl ⟨by rfl, ?_⟩) ?_ ?_
  rotate_left
  · intro w'
    go_simp
    with_reducible rfl
  rotate_left
  · simp only [Act.put, List.setIfInBounds_toArray, List.set_cons_zero, List.set_cons_succ, i64_w, i32_w]
    rfl
  refine pure_ (i := 4) (N := some 123) (v := ?_) (a' := ?_) #[true, true, true, true, true, false, false, false, false, false, false, false, false, false, false, false, false, false, false, false, false] rfl rfl (by kernel_rfl) (fun _ _ _ h => hP _ _ _ _ _ h) (Or.inl ⟨by rfl, ?_⟩) ?_ ?_
  rotate_left
  · intro w'
    go_simp
    with_reducible rfl
  rotate_left
  · simp only [Act.put, List.setIfInBounds_toArray, List.set_cons_zero, List.set_cons_succ, i64_w, i32_w]
    rfl
  refine pure_ (i := 5) (N := some 124) (v := ?_) (a' := ?_) #[true, true, true, true, true, true, false, false, false, false, false, false, false, false, false, false, false, false, false, false, false] rfl rfl (by kernel_rfl) (fun _ _ _ h => hP _ _ _ _ _ h) (Or.inl ⟨by rfl, ?_⟩) ?_ ?_
  rotate_left
  · intro w'
    go_simp
    with_reducible rfl
  rotate_left
  · simp only [Act.put, List.setIfInBounds_toArray, List.set_cons_zero, List.set_cons_succ, i64_w, i32_w]
    rfl
  refine pure_ (i := 6) (N := some 125) (v := ?_) (a' := ?_) #[true, true, true, true, true, true, true, false, false, false, false, false, false, false, false, false, false, false, false, false, false] rfl rfl (by kernel_rfl) (fun _ _ _ h => hP _ _ _ _ _ h) (Or.inl ⟨by rfl, ?_⟩) ?_ ?_
  rotate_left
  · intro w'
    go_simp
    with_reducible rfl
  rotate_left
  · simp only [Act.put, List.setIfInBounds_toArray, List.set_cons_zero, List.set_cons_succ, i64_w, i32_w]
    rfl
  refine pure_ (i := 7) (N := some 126) (v := ?_) (a' := ?_) #[true, true, true, true, true, true, true, true, false, false, false, false, false, false, false, false, false, false, false, false, false] rfl rfl (by kernel_rfl) (fun _ _ _ h => hP _ _ _ _ _ h) (Or.inl ⟨by rfl, ?_⟩) ?_ ?_
  rotate_left
  · intro w'
    go_simp
    with_reducible rfl
  rotate_left
  · simp only [Act.put, List.setIfInBounds_toArray, List.set_cons_zero, List.set_cons_succ, i64_w, i32_w]
    rfl
  refine take_ (i := 8) (N := some 127) (v := ?_) (a' := ?_) #[true, true, true, true, true, true, true, true, true, false, false, false, false, false, false, false, false, false, false, false, false] rfl rfl (by kernel_rfl) (fun _ _ _ h => hP _ _ _ _ _ h) (Or.inl ⟨by rfl, ?_⟩) hHeld ?_ ?_
  rotate_left
  · rintro w' ⟨s0, s1, s2, s3, s4, s5, s6, s7, s8, s9, s10, s11⟩
    go_simp
    with_reducible rfl
  rotate_left
  · simp only [Act.put, List.setIfInBounds_toArray, List.set_cons_zero, List.set_cons_succ, i64_w, i32_w]
    rfl
  refine take_ (i := 9) (N := some 128) (v := ?_) (a' := ?_) #[true, true, true, true, true, true, true, true, true, true, false, false, false, false, false, false, false, false, false, false, false] rfl rfl (by kernel_rfl) (fun _ _ _ h => hP _ _ _ _ _ h) (Or.inl ⟨by rfl, ?_⟩) hHeld ?_ ?_
  rotate_left
  · rintro w' ⟨s0, s1, s2, s3, s4, s5, s6, s7, s8, s9, s10, s11⟩
    go_simp
    with_reducible rfl
  rotate_left
  · simp only [Act.put, List.setIfInBounds_toArray, List.set_cons_zero, List.set_cons_succ, i64_w, i32_w]
    rfl
  refine pure_ (i := 10) (N := some 129) (v := ?_) (a' := ?_) #[true, true, true, true, true, true, true, true, true, true, true, false, false, false, false, false, false, false, false, false, false] rfl rfl (by kernel_rfl) (fun _ _ _ h => hP _ _ _ _ _ h) (Or.inl ⟨by rfl, ?_⟩) ?_ ?_
  rotate_left
  · intro w'
    go_simp
    with_reducible rfl
  rotate_left
  · simp only [Act.put, List.setIfInBounds_toArray, List.set_cons_zero, List.set_cons_succ, i64_w, i32_w]
    rfl
  refine pure_ (i := 11) (N := some 130) (v := ?_) (a' := ?_) #[true, true, true, true, true, true, true, true, true, true, true, true, false, false, false, false, false, false, false, false, false] rfl rfl (by kernel_rfl) (fun _ _ _ h => hP _ _ _ _ _ h) (Or.inl ⟨by rfl, ?_⟩) ?_ ?_
  rotate_left
  · intro w'
    go_simp
    with_reducible rfl
  rotate_left
  · simp only [Act.put, List.setIfInBounds_toArray, List.set_cons_zero, List.set_cons_succ, i64_w, i32_w]
    rfl
  refine pure_ (i := 12) (N := some 131) (v := ?_) (a' := ?_) #[true, true, true, true, true, true, true, true, true, true, true, true, true, false, false, false, false, false, false, false, false] rfl rfl (by kernel_rfl) (fun _ _ _ h => hP _ _ _ _ _ h) (Or.inl ⟨by rfl, ?_⟩) ?_ ?_
  rotate_left
  · intro w'
    go_simp
    with_reducible rfl
  rotate_left
  · simp only [Act.put, List.setIfInBounds_toArray, List.set_cons_zero, List.set_cons_succ, i64_w, i32_w]
    rfl
  refine take_ (i := 13) (N := some 132) (v := ?_) (a' := ?_) #[true, true, true, true, true, true, true, true, true, true, true, true, true, true, false, false, false, false, false, false, false] rfl rfl (by kernel_rfl) (fun _ _ _ h => hP _ _ _ _ _ h) (Or.inl ⟨by rfl, ?_⟩) hHeld ?_ ?_
  rotate_left
  · rintro w' ⟨s0, s1, s2, s3, s4, s5, s6, s7, s8, s9, s10, s11⟩
    go_simp
    with_reducible rfl
  rotate_left
  · simp only [Act.put, List.setIfInBounds_toArray, List.set_cons_zero, List.set_cons_succ, i64_w, i32_w]
    rfl
  refine take_ (i := 14) (N := some 133) (v := ?_) (a' := ?_) #[true, true, true, true, true, true, true, true, true, true, true, true, true, true, true, false, false, false, false, false, false] rfl rfl (by kernel_rfl) (fun _ _ _ h => hP _ _ _ _ _ h) (Or.inl ⟨by rfl, ?_⟩) hHeld ?_ ?_
  rotate_left
  · rintro w' ⟨s0, s1, s2, s3, s4, s5, s6, s7, s8, s9, s10, s11⟩
    go_simp
    with_reducible rfl
  rotate_left
  · simp only [Act.put, List.setIfInBounds_toArray, List.set_cons_zero, List.set_cons_succ, i64_w, i32_w]
    rfl
  refine pure_ (i := 15) (N := some 134) (v := ?_) (a' := ?_) #[true, true, true, true, true, true, true, true, true, true, true, true, true, true, true, true, false, false, false, false, false] rfl rfl (by kernel_rfl) (fun _ _ _ h => hP _ _ _ _ _ h) (Or.inl ⟨by rfl, ?_⟩) ?_ ?_
  rotate_left
  · intro w'
    go_simp
    with_reducible rfl
  rotate_left
  · simp only [Act.put, List.setIfInBounds_toArray, List.set_cons_zero, List.set_cons_succ, i64_w, i32_w]
    rfl
  refine pure_ (i := 16) (N := some 135) (v := ?_) (a' := ?_) #[true, true, true, true, true, true, true, true, true, true, true, true, true, true, true, true, true, false, false, false, false] rfl rfl (by kernel_rfl) (fun _ _ _ h => hP _ _ _ _ _ h) (Or.inl ⟨by rfl, ?_⟩) ?_ ?_
  rotate_left
  · intro w'
    go_simp
    with_reducible rfl
  rotate_left
  · simp only [Act.put, List.setIfInBounds_toArray, List.set_cons_zero, List.set_cons_succ, i64_w, i32_w]
    rfl
  refine pure_ (i := 17) (N := some 136) (v := ?_) (a' := ?_) #[true, true, true, true, true, true, true, true, true, true, true, true, true, true, true, true, true, true, false, false, false] rfl rfl (by kernel_rfl) (fun _ _ _ h => hP _ _ _ _ _ h) (Or.inl ⟨by rfl, ?_⟩) ?_ ?_
  rotate_left
  · intro w'
    go_simp
    with_reducible rfl
  rotate_left
  · simp only [Act.put, List.setIfInBounds_toArray, List.set_cons_zero, List.set_cons_succ, i64_w, i32_w]
    rfl
  refine pure_ (i := 18) (N := some 137) (v := ?_) (a' := ?_) #[true, true, true, true, true, true, true, true, true, true, true, true, true, true, true, true, true, true, true, false, false] rfl rfl (by kernel_rfl) (fun _ _ _ h => hP _ _ _ _ _ h) (Or.inl ⟨by rfl, ?_⟩) ?_ ?_
  rotate_left
  · intro w'
    go_simp
    with_reducible rfl
  rotate_left
  · simp only [Act.put, List.setIfInBounds_toArray, List.set_cons_zero, List.set_cons_succ, i64_w, i32_w]
    rfl
  refine pure_ (i := 19) (N := some 138) (v := ?_) (a' := ?_) #[true, true, true, true, true, true, true, true, true, true, true, true, true, true, true, true, true, true, true, true, false] rfl rfl (by kernel_rfl) (fun _ _ _ h => hP _ _ _ _ _ h) (Or.inl ⟨by rfl, ?_⟩) ?_ ?_
  rotate_left
  · intro w'
    go_simp
    with_reducible rfl
  rotate_left
  · simp only [Act.put, List.setIfInBounds_toArray, List.set_cons_zero, List.set_cons_succ, i64_w, i32_w]
    rfl
  refine pure_ (i := 20) (N := some 139) (v := ?_) (a' := ?_) #[true, true, true, true, true, true, true, true, true, true, true, true, true, true, true, true, true, true, true, true, true] rfl rfl (by kernel_rfl) (fun _ _ _ h => hP _ _ _ _ _ h) (Or.inl ⟨by rfl, ?_⟩) ?_ ?_
  rotate_left
  · intro w'
    go_simp
    with_reducible rfl
  rotate_left
  · simp only [Act.put, List.setIfInBounds_toArray, List.set_cons_zero, List.set_cons_succ, i64_w, i32_w]
    rfl
  refine done_ (by kernel_rfl) ?_
  exact hK _ _ _ _ _ _ _ _ _ _ _ _ _ _ _ _ _ _ _ _ _ (Below.refl _ _).drew
end Go.Proofs.Ytonhfcjldbohbaa.Fi

namespace Go.Proofs.Ytonhfcjldbohbaa.Fi
open Go Go.RowKit Go.ChangeMaps Go.MapKept Go.Proofs.Ytonhfcjldbohbaa.PA Go.Proofs.YtonhfcjldbohbaaW.PrintWords Go.Proofs.YtonhfcjldbohbaaW.PrintLast Go.Proofs.YtonhfcjldbohbaaW.PrintMore Go.Proofs.Ytonhfcjldbohbaa.Pl
attribute [local go_sem] Oper.semAt_some
set_option linter.unusedVariables false
set_option linter.unusedSimpArgs false

theorem take_here {T : Tb} {i : Nat} (hi : i < T.l.length) (hh : here T.l[i] = true) : ∃ h : cntF T i < (allF T).length, (allF T)[cntF T i] = T.l[i] := by
  have e : allF T = (T.l.take i).filter here ++ (T.l[i] :: (T.l.drop (i + 1)).filter here) := by
    unfold allF
    conv => lhs; rw [← List.take_append_drop i T.l, List.drop_eq_getElem_cons hi]
    rw [List.filter_append, List.filter_cons, if_pos hh]
  have hc : cntF T i = ((T.l.take i).filter here).length := rfl
  have hlt : cntF T i < (allF T).length := by rw [e, hc, List.length_append, List.length_cons]; omega
  refine ⟨hlt, ?_⟩
  have h2 : (allF T)[cntF T i]? = some T.l[i] := by
    rw [e, hc, List.getElem?_append_right (Nat.le_refl _), Nat.sub_self]; rfl
  rw [List.getElem?_eq_getElem hlt] at h2
  exact Option.some.inj h2
theorem find_here {T : Tb} (h : Sorted T.l) {f : Fl} (hf : f ∈ T.l) (hh : here f = true) : findT T f.f0 = (f, 0) := by
  unfold findT
  have : get here T.l f.f0.data.toList = some f := get_of_mem h hf hh
  rw [this]
def bytF (T : Tb) (i : Nat) : Int := bytesF ((T.l.take i).filter here)
theorem bytF_succ (T : Tb) (i : Nat) (hi : i < T.l.length) : bytF T (i + 1) = bytF T i + if here T.l[i] = true then (T.l[i].f1.size : Int) else 0 := by
  unfold bytF
  rw [List.take_succ_eq_append_getElem hi, List.filter_append]
  by_cases h : here T.l[i] = true
  · rw [List.filter_cons, if_pos h, if_pos h, List.filter_nil, bytesF_snoc]
  · rw [List.filter_cons, if_neg h, if_neg h, List.filter_nil, List.append_nil, Int.add_zero]
theorem bytesF_cons (y : Fl) (ys : List Fl) : bytesF (y :: ys) = (y.f1.size : Int) + bytesF ys := by
  have h : ∀ (l : List Fl) (a : Int), l.foldl (fun n y => n + (y.f1.size : Int)) a = a + l.foldl (fun n y => n + (y.f1.size : Int)) 0 := by
    intro l
    induction l with
    | nil => intro a; simp
    | cons z l ih =>
      intro a
      rw [List.foldl_cons, List.foldl_cons, ih (a + _), ih (0 + _)]
      omega
  unfold bytesF
  rw [List.foldl_cons, h]
  omega
theorem bytesF_bound : ∀ (ys : List Fl), (∀ f ∈ ys, f.f1.size ≤ 65536) → 0 ≤ bytesF ys ∧ bytesF ys ≤ 65536 * (ys.length : Int)
  | [], _ => ⟨by simp [bytesF], by simp [bytesF]⟩
  | y :: ys, h => by
    obtain ⟨h1, h2⟩ := bytesF_bound ys (fun f hf => h f (List.mem_cons_of_mem _ hf))
    have := h y (List.mem_cons_self ..)
    rw [bytesF_cons, List.length_cons]
    constructor
    · omega
    · rw [Int.natCast_add]; omega
theorem cnt_le {T : Tb} (ok : TOk T) (i : Nat) : cntF T i ≤ 64 :=
  Nat.le_trans (by unfold cntF; exact ((List.take_sublist i T.l).filter here).length_le) ok.cnt
theorem byt_le {T : Tb} (ok : TOk T) (i : Nat) : 0 ≤ bytF T i ∧ bytF T i ≤ 4194304 := by
  have h := bytesF_bound ((T.l.take i).filter here) (fun f hf => (ok.el f (List.mem_of_mem_take (List.mem_filter.1 hf).1)).2.1)
  have h2 := cnt_le ok i
  unfold cntF at h2
  unfold bytF
  omega
theorem PL.new {Bz t : Nat} {S : Nat → Prop} {w0 w3 : World} {x0 : Int} (hT : TB Bz S t ⟨x0, 0, []⟩ w3) (hb : Below w0.heap.size w0 w3) (h1 : w0.heap.size ≤ Bz) (h2 : Bz ≤ w3.heap.size) :
    PL Bz w3.heap.size t S w0 (w3.alloc (.cells #[.int .i64 x0, .int .i64 0, .slice none 0 0] 49)) ⟨x0, 0, []⟩ ⟨x0, 0, []⟩ none 0 := by
  refine ⟨hT.below ((Below.refl _ w3).alloc (Nat.le_refl _) _), heap_alloc_new _ _, Nat.le_refl _, ⟨rfl, Nat.zero_le _, fun h => absurd h (Nat.lt_irrefl 0)⟩, (fun ad e => by cases e), (fun k hk => ?_), hb.alloc hb.size _, h1, h2, by simp⟩
  obtain ⟨bm, bd, hT0⟩ := hT
  exact (hT0.sB k hk).2
theorem act_cells {w : World} {ad : Addr} {n0 : Nat} {l0 : List Act13} (h : Kd.C k43 w (some ad) l0.length l0) (j : Nat) (hj : j < l0.length) :
    ∀ W : World, Below w.heap.size w W → W.cell? (ad.add (j * 4)) = some (.int .i64 l0[j].f0) ∧ W.cell? ⟨(ad.add (j * 4)).block, (ad.add (j * 4)).off + 1, none⟩ = some (.string l0[j].f1) ∧ W.cell? ⟨(ad.add (j * 4)).block, (ad.add (j * 4)).off + 2, none⟩ = some (.string l0[j].f2) ∧ W.cell? ⟨(ad.add (j * 4)).block, (ad.add (j * 4)).off + 3, none⟩ = some (.int .i64 l0[j].f3) := by
  intro W hW
  obtain ⟨ad', hA, q0, q1, q2, q3⟩ := at_T43 (C_below h hW) (j : Int) (by omega) (by omega)
  obtain rfl := Option.some.inj hA
  rw [act_mem l0 j hj, Int.toNat_natCast] at q0 q1 q2 q3
  exact ⟨q0, q1, q2, q3⟩
theorem f_box (w : World) (f : Fl) : ∃ W, w.alloc (.cells #[.string f.f0, .string f.f1, .int .i64 f.f2, .int .i64 f.f3, .bool f.f4] 55) = W ∧ Below w.heap.size w W ∧ W.heap[w.heap.size]? = some (.cells #[.string f.f0, .string f.f1, .int .i64 f.f2, .int .i64 f.f3, .bool f.f4] 55 (0, 0)) :=
  ⟨_, rfl, (Below.refl _ w).alloc (Nat.le_refl _) _, heap_alloc_new _ _⟩
theorem two_boxes (w : World) (f : Fl) : ∃ W, (w.alloc (.cells #[.string f.f0, .string f.f1, .int .i64 f.f2, .int .i64 f.f3] 32)).alloc (.cells #[.string f.f0, .string f.f1, .int .i64 f.f2, .int .i64 f.f3] 32) = W ∧ Below w.heap.size w W ∧
    W.heap[w.heap.size]? = some (.cells #[.string f.f0, .string f.f1, .int .i64 f.f2, .int .i64 f.f3] 32 (0, 0)) ∧ W.heap[w.heap.size + 1]? = some (.cells #[.string f.f0, .string f.f1, .int .i64 f.f2, .int .i64 f.f3] 32 (0, 0)) := by
  have e1 : (w.alloc (.cells #[.string f.f0, .string f.f1, .int .i64 f.f2, .int .i64 f.f3] 32)).heap.size = w.heap.size + 1 := by simp
  refine ⟨_, rfl, ((Below.refl _ w).alloc (Nat.le_refl _) _).alloc (by rw [e1]; omega) _, ?_, ?_⟩
  · rw [Below.heap_alloc _ _ _ (by rw [e1]; omega)]; exact heap_alloc_new _ _
  · rw [← e1]; exact heap_alloc_new _ _
set_option maxHeartbeats 4000000 in
set_option maxRecDepth 100000 in
theorem FilesPlay_any (x0 : Int) (A0 : Option Addr) (c0 : Nat) (l0 : List Act13) (x2 : Int) (w : World) (hr0 : Kd.C k43 w A0 l0.length l0) (hc0 : l0.length ≤ c0) :
    Calls Try.prog 6 #[.int .i64 x0, .slice A0 l0.length c0, .int .i64 x2] w fun e w' => e = .returned (.bool true) ∧ Below w.heap.size w w' := by
  have HR0 := Aside0.mk hr0
  clear hr0
  obtain ⟨kf, bf, hkf, hfar⟩ := far_ex l0
  have HKF := Aside0.mk hkf
  have HFAR := Aside0.mk hfar
  clear hkf hfar
  go_enter Try.func6, Try.ntmps6
  go_wp2_with fail
  refine (alive_any w).mono ?_
  rintro e w1 ⟨rfl, hb1⟩
  have HB1 := Aside0.mk hb1
  clear hb1
  go_wp2_with fail
  refine (cupellaw13_Far.calls kf A0 c0 l0 bf w1 (C_below HR0.out HB1.out) hc0 HKF.out).mono ?_
  rintro e w2 ⟨rfl, hb2⟩
  have HB2 : Aside0 (Below w.heap.size w w2) := ⟨HB1.out.trans (hb2.below.mono HB1.out.size)⟩
  clear hb2 HB1
  cases bf with
  | true =>
    go_wp2
    go_ret
    exact ⟨rfl, HB2.out⟩
  | false =>
  obtain ⟨hlen, hacts⟩ := HFAR.out rfl
  have HACT := Aside0.mk hacts
  clear hacts HFAR HKF
  by_cases hm : 0 ≤ x0 ∧ x0 ≤ 1099511627776
  case neg =>
    go_wp2_with fail
    refine (new_bad x0 (by omega) w2).mono ?_
    rintro e w3 ⟨rfl, rfl⟩
    have hcase : (decide (x0 < 0) = true ∧ True) ∨ (decide (x0 < 0) = false ∧ decide (1099511627776 < x0) = true) := by
      by_cases h : x0 < 0
      · exact .inl ⟨decide_eq_true h, trivial⟩
      · exact .inr ⟨decide_eq_false h, decide_eq_true (by omega)⟩
    clear hm
    rcases hcase with ⟨d0, d1⟩ | ⟨d0, d1⟩ <;>
    (
     go_wp2
     go_ret
     exact ⟨rfl, HB2.out⟩
    )
  case pos =>
  have d0 : decide (x0 < 0) = false := decide_eq_false (by omega)
  have d1 : decide (1099511627776 < x0) = false := decide_eq_false (by omega)
  go_wp2_with fail
  refine (new_any x0 hm w2).mono ?_
  rintro e w3 ⟨rfl, hT, hb⟩
  obtain ⟨Bz, hBz⟩ : ∃ B, w2.heap.size = B := ⟨_, rfl⟩
  have hz3 : Bz ≤ w3.heap.size := by rw [← hBz]; exact hb.size
  have HB3 : Aside0 (Below w.heap.size w w3) := ⟨HB2.out.trans (hb.mono HB2.out.size)⟩
  have hwB : w.heap.size ≤ Bz := by rw [← hBz]; exact HB2.out.size
  have HT3 := Aside0.mk hT
  rw [hBz] at HT3 ⊢
  clear hT hb HB2 hBz hm
  obtain ⟨t, ht⟩ : ∃ t, Bz + 2 = t := ⟨_, rfl⟩
  rw [ht] at HT3 ⊢
  clear ht
  generalize NewS w2 = S at HT3
  have hP := PL.new HT3.out HB3.out hwB hz3
  have HP := Aside0.mk hP
  clear hP HT3 HB3 hz3 hwB
  go_wp2_with fail
  obtain ⟨w4, hw4⟩ : ∃ x, w3.alloc (.cells #[.int .i64 x0, .int .i64 0, .slice none 0 0] 49) = x := ⟨_, rfl⟩
  rw [hw4] at HP ⊢
  obtain ⟨nm, hnm⟩ : ∃ x, w3.heap.size = x := ⟨_, rfl⟩
  rw [hnm] at HP ⊢
  clear hw4 hnm d0 d1
  go_loopg [10] l0.length (fun kq v10 wr => ∃ (j : Nat) (T : Tb) (A : Option Addr) (c : Nat), v10 = .int .i64 j ∧ Aside0 (j ≤ l0.length ∧ kq = l0.length - j) ∧ Aside0 (T.l.length ≤ j) ∧ Aside0 (PL Bz nm t S w wr T T A c))
  case atStart => exact ⟨0, _, _, _, rfl, ⟨by omega⟩, ⟨Nat.le_refl _⟩, HP⟩
  case round =>
    obtain ⟨j, T, A, c, rfl, HJ, HTL, HM⟩ := hrel
    obtain ⟨hj, hkq⟩ := HJ.out
    by_cases hlt : j < l0.length
    · have hdj : decide ((j : Int) < (l0.length : Int)) = true := decide_eq_true (by omega)
      have hdj2 : decide (j < l0.length) = true := decide_eq_true hlt
      obtain ⟨ad, hA, _, _, _, _⟩ := at_T43 HR0.out (j : Int) (by omega) (by omega)
      subst hA
      have HC := Aside0.mk (act_cells (n0 := 0) HR0.out j hlt)
      have hmem := HACT.out _ (List.getElem_mem hlt)
      generalize l0[j] = a at HC hmem
      have HA : Aside0 (a.f1.size ≤ 300 ∧ 0 ≤ a.f0 ∧ a.f0 ≤ 1) := ⟨hmem⟩
      have htl := HTL.out
      have hrl := doT_len T a
      have HA2 : Aside0 (a.f1.size ≤ 300 ∧ T.l.length < 1000000) := ⟨hmem.1, by omega⟩
      obtain ⟨R, hR1⟩ : ∃ R, (doT T a).1 = R := ⟨_, rfl⟩
      obtain ⟨er, hR2⟩ : ∃ R, (doT T a).2 = R := ⟨_, rfl⟩
      rw [hR1] at hrl
      have HR1 := Aside0.mk hR1
      have HR2 := Aside0.mk hR2
      have HRL : Aside0 (R.l.length ≤ j + 1) := ⟨by omega⟩
      have hr100 : R.l.length ≤ 101 := by omega
      have hlen1 : (j : Int) < (l0.length : Int) := by omega
      clear hmem hR1 hR2 htl hrl
      go_wp2_with fail
      refine play_reg12 (R := R) (er := er) _ (fun _ _ _ _ _ h => h) HM HC HA HR1 HR2 hlen1 _ _ _ _ _ _ _ _ _ _ _ _ _ _ _ _ _ _ _ _ _ _ _ _ _ _ _ _ _ _ _ _ _ _ _ _ _ _ _ _ _ _ _ _ _ _ _ _ _ _ _ _ _ _ _ _ _ _ _ _ _ _ _ _ _ _ _ _ _ _ _ _ _ _ _ _ _ _ _ _ _ _ _ _ _ _ _ _ _ _ _ _ _ _ _ _ _ _ _ _ _ _ _ _ _ _ _ _ _ _ _ _ _ _ _ _ _ _ _ _ _ _ _ _ _ _ _ _ _ _ _ _ _ _ _ _ _ _ _ _ _ _ _ _ _ _ _ _ _ _ _ _ _ _ _ _ ?_
      clear HM
      intro u50 u51 u52 u53 u54 u55 u56 u57 u58 w8 nx A' c' hM hX
      have HM := Aside0.mk hM
      have HX := Aside0.mk hX
      have x0' := hX.x0
      have x1' := hX.x1
      have x2' := hX.x2
      have m0 := hM.m0
      have m1 := hM.m1
      have m2 := hM.m2
      have f0' := hM.f0
      have f1' := hM.f1
      have f2' := hM.f2
      have hnx := hX.n
      have n01 : ¬ nx = nm := by omega
      have n10 : ¬ nm = nx := by omega
      clear hM hX hnx
      go_wp2_with fail
      obtain ⟨W9, hW, hM⟩ := HX.out.put HM.out
      rw [hW]
      have HM9 := Aside0.mk hM
      clear hM hW HM HX x0' x1' x2' m0 m1 m2 f0' f1' f2' n01 n10
      go_wp2_with fail
      refine play_reg14 (L := sinceF R x2) (er := er) (rev := x2) _ (fun _ _ _ _ _ h => h) HM9 HC HA2 HR1 HR2 ⟨rfl⟩ hlen1 _ _ _ _ _ _ _ _ _ _ _ _ _ _ _ _ _ _ _ _ _ _ _ _ _ _ _ _ _ _ _ _ _ _ _ _ _ _ _ _ _ _ _ _ _ _ _ _ _ _ _ _ _ _ _ _ _ _ _ _ _ _ _ _ _ _ _ _ _ _ _ _ _ _ _ _ _ _ _ _ _ _ _ _ _ _ _ _ _ _ _ _ _ _ _ _ _ _ _ _ _ _ _ _ _ _ _ _ _ _ _ _ _ _ _ _ _ _ _ _ _ _ _ _ _ _ _ _ _ _ _ _ _ _ _ _ _ _ _ _ _ _ _ _ _ _ _ _ _ _ _ _ _ ?_
      clear HM9
      intro u60 u61 u62 u63 u64 u65 u66 u67 u68 u69 u70 u71 u72 u73 u74 u75 u76 u77 u78 u79 u80 u81 u82 u83 w10 hM
      have HM10 := Aside0.mk hM
      clear hM HA HA2 HR1 HR2 HC
      go_wp2_with fail
      refine (all_rf HM10.out.tb).mono ?_
      rintro e w11 ⟨A7, c7, rfl, hF, hb⟩
      have HM11 := Aside0.mk (HM10.out.below hb)
      have HF := Aside0.mk hF
      clear hF hb HM10
      obtain ⟨m7, hm7⟩ : ∃ m, (allF R).length = m := ⟨_, rfl⟩
      rw [hm7]
      have HM7 := Aside0.mk hm7
      clear hm7
      go_wp2_with fail
      obtain ⟨wl, hwl⟩ : ∃ x, x = wr := ⟨_, rfl⟩
      clear hwl
      go_loopg [14, 15, 16] R.l.length (fun kq v14 v15 v16 wx => ∃ (i : Nat), v16 = .int .i64 i ∧ v14 = .int .i64 (cntF R i) ∧ v15 = .int .i64 (bytF R i) ∧ Aside0 (Below w11.heap.size w11 wx) ∧ Aside0 (i ≤ R.l.length ∧ kq = R.l.length - i))
      case atStart => exact ⟨0, rfl, by simp [cntF], by simp [bytF, bytesF], ⟨Below.refl _ _⟩, ⟨by omega⟩⟩
      case round =>
        obtain ⟨i, rfl, rfl, rfl, HW, HI⟩ := hrel
        obtain ⟨hi, hikq⟩ := HI.out
        have HMx := Aside0.mk (HM11.out.below HW.out)
        have m0 := HMx.out.m0
        have m1 := HMx.out.m1
        have m2 := HMx.out.m2
        by_cases hli : i < R.l.length
        · have g1 : decide ((i : Int) < (R.l.length : Int)) = true := decide_eq_true (by omega)
          have g2 : decide (i < R.l.length) = true := decide_eq_true hli
          obtain ⟨af, hAf, y0, y1, y2, y3, y4⟩ := at_T55 HMx.out.l (i : Int) (by omega) (by omega)
          rw [rdF R.l i hli, Int.toNat_natCast] at y0 y1 y2 y3 y4
          subst hAf
          have hok := HMx.out.ok
          have hmemF := List.getElem_mem hli
          have hcs := cntF_succ R i hli
          have hbs := bytF_succ R i hli
          have hcl := cnt_le hok i
          have hbl := byt_le hok i
          have hth := fun h => take_here hli h
          have hsz := hok.el _ hmemF
          have hfh := fun h => find_here hok.sorted hmemF h
          have hfm := find_mem hok.sorted hmemF
          clear hok hmemF
          generalize R.l[i] = f at y0 y1 y2 y3 y4 hcs hbs hth hsz hfh hfm
          obtain ⟨n, hn⟩ : ∃ n, cntF R i = n := ⟨_, rfl⟩
          obtain ⟨by_, hby⟩ : ∃ n, bytF R i = n := ⟨_, rfl⟩
          have hth2 : here f = true → n < m7 ∧ ∃ ax, A7 = some ax ∧ ∀ W : World, Below w11.heap.size w11 W → W.cell? (ax.add (n * 4)) = some (.string f.f0) ∧ W.cell? ⟨(ax.add (n * 4)).block, (ax.add (n * 4)).off + 1, none⟩ = some (.string f.f1) ∧ W.cell? ⟨(ax.add (n * 4)).block, (ax.add (n * 4)).off + 2, none⟩ = some (.int .i64 f.f2) ∧ W.cell? ⟨(ax.add (n * 4)).block, (ax.add (n * 4)).off + 3, none⟩ = some (.int .i64 f.f3) := by
            intro hh
            obtain ⟨hx, ex⟩ := hth hh
            obtain ⟨ax, hax, _⟩ := (HF.out.below HW.out).at_ (cntF R i) hx
            refine ⟨by rw [← hn, ← HM7.out]; exact hx, ax, hax, fun W hW => ?_⟩
            obtain ⟨ax', hax', a0, a1, a2, a3⟩ := (HF.out.below hW).at_ (cntF R i) hx
            rw [hax] at hax'
            obtain rfl := Option.some.inj hax'
            rw [ex, hn] at a0 a1 a2 a3
            exact ⟨a0, a1, a2, a3⟩
          rw [hn] at hcs hcl ⊢
          rw [hby] at hbs hbl ⊢
          have HTH := Aside0.mk hth2
          have HCS := Aside0.mk hcs
          have HBS := Aside0.mk hbs
          have HFH := Aside0.mk hfh
          have HFM := Aside0.mk hfm
          have HN : Aside0 (n ≤ 64 ∧ 0 ≤ by_ ∧ by_ ≤ 4194304 ∧ f.f1.size ≤ 65536 ∧ f.f0.size ≤ 1000000) := ⟨hcl, hbl.1, hbl.2, hsz.2.1, hsz.1⟩
          clear hth hth2 hcs hbs hfh hfm hn hby hcl hbl hsz
          go_wp2_with fail
          obtain ⟨W1, hW1, hB1, hf1⟩ := f_box wr f
          rw [hW1]
          obtain ⟨bx, hbx⟩ : ∃ b, wr.heap.size = b := ⟨_, rfl⟩
          have hl1 : wr.heap.size < W1.heap.size := by rw [← hW1]; simp
          have HX1 := Aside0.mk (HW.out.trans (hB1.mono HW.out.size))
          have HMW := Aside0.mk (HMx.out.below hB1)
          rw [hbx] at hf1 hl1 ⊢
          have HF1 := Aside0.mk hf1
          have HL1 := Aside0.mk hl1
          clear hW1 hB1 hf1 hl1 m0 m1 m2 y0 y1 y2 y3 y4
          have hnsz := HN.out.2.2.2.2
          refine (find_any HMW.out.tb f.f0 (by omega)).mono ?_
          rintro e w12 ⟨rfl, hb12⟩
          have HX12 := Aside0.mk (HX1.out.trans (hb12.mono HX1.out.size))
          have hf12 := (hb12.block bx HL1.out).trans HF1.out
          have hlt12 : bx < w12.heap.size := Nat.lt_of_lt_of_le HL1.out hb12.size
          have HF12 := Aside0.mk hf12
          have HLT12 := Aside0.mk hlt12
          have c0' : w12.cell? ⟨bx, 0, none⟩ = some (.string f.f0) := by rw [Lib.cell_of_heap hf12]; rfl
          have c1' : w12.cell? ⟨bx, 1, none⟩ = some (.string f.f1) := by rw [Lib.cell_of_heap hf12]; rfl
          have c2' : w12.cell? ⟨bx, 2, none⟩ = some (.int .i64 f.f2) := by rw [Lib.cell_of_heap hf12]; rfl
          have c3' : w12.cell? ⟨bx, 3, none⟩ = some (.int .i64 f.f3) := by rw [Lib.cell_of_heap hf12]; rfl
          have c4' : w12.cell? ⟨bx, 4, none⟩ = some (.bool f.f4) := by rw [Lib.cell_of_heap hf12]; rfl
          have nb1 : ¬ bx = w12.heap.size := by omega
          have nb2 : ¬ w12.heap.size = bx := by omega
          clear hb12 hf12 HX1 HMW HF1 HL1 hbx hnsz
          unfold findV
          by_cases hh : here f = true
          · have h4 : f.f4 = false := by simpa [here] using hh
            rw [h4] at c4'
            rw [HFH.out hh]
            obtain ⟨hnm7, ax, hax, hcell⟩ := HTH.out hh
            subst hax
            have HAX := Aside0.mk hcell
            have HN7 := Aside0.mk hnm7
            have hcs := HCS.out
            have hbs := HBS.out
            rw [if_pos hh] at hcs hbs
            have HCS2 := Aside0.mk hcs
            have HBS2 := Aside0.mk hbs
            simp only [vF]
            clear h4 hcell hnm7 hcs hbs HCS HBS HFH HFM HTH hh
            go_wp2_with fail
            obtain ⟨W, hW, hbW, hg, hw⟩ := two_boxes w12 f
            rw [hW]
            have hBW := HX12.out.trans (hbW.mono HX12.out.size)
            have hfW := (hbW.block bx HLT12.out).trans HF12.out
            have hltW : bx < W.heap.size := Nat.lt_of_lt_of_le HLT12.out hbW.size
            have hcell2 := HAX.out W hBW
            have HFW := Aside0.mk hfW
            have HLTW := Aside0.mk hltW
            have HBW := Aside0.mk hBW
            have hnn := HN7.out
            obtain ⟨a0, a1, a2, a3⟩ := hcell2
            clear hW hBW hfW hltW hbW c0' c1' c2' c3' c4' nb1 nb2
            refine play_reg27 (bg := w12.heap.size) (bw := w12.heap.size + 1) (f := f) (ax := ax) (n := n) (m7 := m7) (c7 := c7) _ (fun _ _ _ _ _ h => h) ⟨a0, a1, a2, a3, by rw [Lib.cell_of_heap hg]; rfl, by rw [Lib.cell_of_heap hg]; rfl, by rw [Lib.cell_of_heap hg]; rfl, by rw [Lib.cell_of_heap hg]; rfl, by rw [Lib.cell_of_heap hw]; rfl, by rw [Lib.cell_of_heap hw]; rfl, by rw [Lib.cell_of_heap hw]; rfl, by rw [Lib.cell_of_heap hw]; rfl⟩ (by omega) _ _ _ _ _ _ _ _ _ _ _ _ _ _ _ _ _ _ _ _ _ _ _ _ _ _ _ _ _ _ _ _ _ _ _ _ _ _ _ _ _ _ _ _ _ _ _ _ _ _ _ _ _ _ _ _ _ _ _ _ _ _ _ _ _ _ _ _ _ _ _ _ _ _ _ _ _ _ _ _ _ _ _ _ _ _ _ _ _ _ _ _ _ _ _ _ _ _ _ _ _ _ _ _ _ _ _ _ _ _ _ _ _ _ _ _ _ _ _ _ _ _ _ _ _ _ _ _ _ _ _ _ _ _ _ _ _ _ _ _ _ _ _ _ _ _ _ _ _ _ _ _ _ _ ?_
            intro u119 u120 u121 u122 u123 u124 u125 u126 u127 u128 u129 u130 u131 u132 u133 u134 u135 u136 u137 u138 w13 hb13
            have HX13 := Aside0.mk (HBW.out.trans (hb13.mono HBW.out.size))
            have hf13 := (hb13.block bx HLTW.out).trans HFW.out
            have c1' : w13.cell? ⟨bx, 1, none⟩ = some (.string f.f1) := by rw [Lib.cell_of_heap hf13]; rfl
            obtain ⟨n1, n2, n3, n4, n5⟩ := HN.out
            clear hb13 hf13 hg hw a0 a1 a2 a3
            go_wp2
            go_roundg (R.l.length - (i + 1))
            case measure => omega
            case rel => exact ⟨i + 1, by go_num, by rw [HCS2.out]; try go_num, by rw [HBS2.out]; try go_num, HX13, ⟨by omega⟩⟩
          · have h4 : f.f4 = true := by simpa [here] using hh
            rw [h4] at c4'
            have hfe := HFM.out
            rw [if_neg hh] at hfe
            have hcs := HCS.out
            have hbs := HBS.out
            rw [if_neg hh] at hcs hbs
            have HCS2 := Aside0.mk hcs
            have HBS2 := Aside0.mk hbs
            generalize findT R f.f0 = fe at hfe ⊢
            obtain ⟨fx, ex⟩ := fe
            have hfe2 : ex = 3 := hfe
            subst hfe2
            simp only [vF]
            clear h4 hcs hbs HCS HBS HFH HFM HTH hh hfe
            go_wp2
            go_roundg (R.l.length - (i + 1))
            case measure => omega
            case rel => exact ⟨i + 1, by go_num, by rw [HCS2.out]; try (first | rfl | go_num), by rw [HBS2.out]; try (first | rfl | go_num), ⟨HX12.out.alloc HX12.out.size _⟩, ⟨by omega⟩⟩
        · obtain rfl : i = R.l.length := by omega
          have g1 : decide ((R.l.length : Int) < (R.l.length : Int)) = false := decide_eq_false (by omega)
          have g2 : decide (R.l.length < R.l.length) = false := decide_eq_false (by omega)
          have hcf : cntF R R.l.length = (allF R).length := by unfold cntF allF; rw [List.take_length]
          have hbf : bytF R R.l.length = bytesF (allF R) := by unfold bytF allF; rw [List.take_length]
          rw [hcf, HM7.out, hbf]
          clear hcf hbf HI hi hikq hli
          obtain ⟨bs, hbs⟩ : ∃ b, bytesF (allF R) = b := ⟨_, rfl⟩
          have HBS := Aside0.mk hbs
          rw [hbs]
          clear hbs
          go_wp2_with fail
          refine (bytes_any HMx.out.tb).mono ?_
          rintro e w14 ⟨rfl, hb⟩
          rw [HBS.out]
          have HM14 := Aside0.mk (HMx.out.below hb)
          clear hb HMx HM11 HW m0 m1 m2
          go_wp2
          go_roundg (l0.length - (j + 1))
          case measure => omega
          case rel => exact ⟨j + 1, R, _, _, by go_num, ⟨by omega⟩, HRL, HM14⟩
    · obtain rfl : j = l0.length := by omega
      have hdj : decide ((l0.length : Int) < (l0.length : Int)) = false := decide_eq_false (by omega)
      have hdj2 : decide (l0.length < l0.length) = false := decide_eq_false (by omega)
      clear HJ hj hkq hlt
      go_wp2
      go_ret
      exact ⟨rfl, HM.out.b⟩
end Go.Proofs.Ytonhfcjldbohbaa.Fi
