/- Several texts of this claim in one: GsB, GsC, GsD, GsE, GsF, GsG, GsH. -/
import Derived.Test.YtiljegeodokfmaaGrX
import Derived.StringKeys
import Derived.Deep.AppendLies
import Derived.Maps.AppendAt
import Derived.OwnWalk
import Derived.Deep.RegionHeld3
import Derived.WalkSpells
import Derived.Test.YtiljegeodokfmaaRng
import Derived.RegionIn
import Derived.RangeFuncBox
namespace Go.Proofs.Ytiljegeodokfmaa.Fs
open Go Go.RowKit Go.Proofs.YtiljegeodokfmaaW.PrintWords Go.Proofs.YtiljegeodokfmaaW.PrintLast Go.Proofs.YtiljegeodokfmaaW.PrintMore Go.Proofs.Ytiljegeodokfmaa.Fx
set_option linter.unusedVariables false
set_option linter.unusedSimpArgs false

abbrev ReadsStr (w : World) (A : Option Addr) (n : Nat) (xs : List ByteArray) : Prop := ReadsOf Value.string ByteArray.empty w A n xs
def strs (l : List ByteArray) : List Value := encs Value.string l
instance lawfulBytes : LawfulBEq ByteArray where
  eq_of_beq {a b} h := by
    have h1 : (a.data == b.data) = true := h
    have h2 := eq_of_beq h1
    cases a; cases b
    exact congrArg _ h2
  rfl {a} := by
    show (a.data == a.data) = true
    exact beq_self_eq_true _
/-- Where a graph's parts lie, its nodes apart. -/
structure Env (N g bt bs : Nat) (rb : Nat → Nat) (vn vm sol : Value) (vts : List Value) (tq : Nat → List Nat) (w : World) : Prop where
  hN : N ≤ 100000
  hg : w.heap[g]? = some (.cells #[vn, vm, .slice (some ⟨bt, 0, none⟩) N N, .slice (some ⟨bs, 0, none⟩) N N, sol] 68 (0, 0))
  hbt : w.heap[bt]? = some (.cells vts.toArray 22 (0, 0))
  hbs : w.heap[bs]? = some (.cells ((List.range N).map fun i => Value.slice (some ⟨rb i, 0, none⟩) N N).toArray 65 (0, 0))
  hlen : vts.length = N
  ng : ∀ i, i < N → g ≠ rb i
  nbt : ∀ i, i < N → bt ≠ rb i
  nbs : ∀ i, i < N → bs ≠ rb i
  inj : ∀ x y, x < N → y < N → rb x = rb y → x = y
  small : ∀ i, i < N → ∀ n ∈ tq i, n < N
  len : ∀ i, i < N → (tq i).length ≤ 1000000
  reads : ∀ i u, vts[i]? = some u → ∃ A c, u = .slice A (tq i).length c ∧ ∀ w', Fx.Rows N rb w w' → ReadsInt w' .i64 A (tq i).length ((tq i).map fun n : Nat => (n : Int))
set_option maxHeartbeats 4000000 in
set_option maxRecDepth 100000 in
theorem round_any (N g bt bs : Nat) (rb : Nat → Nat) (vn vm sol : Value) (vts : List Value) (tq : Nat → List Nat) (m : M) (w : World) (E : Env N g bt bs rb vn vm sol vts tq w) (hM : Mat N rb m w) :
    Calls Try.prog 37 #[.pointer (some ⟨g, 0, none⟩)] w (RoundPost N rb tq m w) := by
  have hN := E.hN
  have cg2 : w.cell? ⟨g, 2, none⟩ = some (.slice (some ⟨bt, 0, none⟩) N N) := by rw [Lib.cell_of_heap E.hg]; rfl
  have HE := Aside0.mk E
  have HM := Aside0.mk hM
  clear E hM
  go_enter Try.func37, Try.ntmps37
  go_wp2_with fail
  clear cg2
  go_loopg [3, 13] N (fun kq v3 v13 w' => ∃ i : Nat, v3 = .bool (roundTo N tq m i).2 ∧ v13 = .int .i64 i ∧ Aside0 (i ≤ N ∧ kq = N - i) ∧ Aside0 (Mat N rb (roundTo N tq m i).1 w') ∧ Aside0 (Fx.Rows N rb w w'))
  case atStart => exact ⟨0, rfl, rfl, ⟨by omega, by omega⟩, HM, ⟨Fx.Rows.refl _ _ _⟩⟩
  case round =>
    obtain ⟨i, rfl, rfl, HJ, HB, HO⟩ := hrel
    obtain ⟨hj1, hj2⟩ := HJ.out
    obtain ⟨G0, HG0⟩ : ∃ x, Aside0 (x = gk) := ⟨gk, ⟨rfl⟩⟩
    by_cases hi : i < N
    · obtain ⟨A, cap, hu, hread⟩ := HE.out.reads i (vts[i]'(by rw [HE.out.hlen]; exact hi)) (List.getElem?_eq_getElem _)
      have hct : wr.cell? ⟨bt, i, none⟩ = some (.slice A (tq i).length cap) := by
        rw [Lib.cell_of_heap ((HO.out.block bt HE.out.nbt).trans HE.out.hbt), ← hu]; simp [HE.out.hlen, hi]
      have HR := Aside0.mk hread
      have hl := HE.out.len i hi
      have hsucc := roundTo_succ N tq m i
      have HS := Aside0.mk hsucc
      clear hu hread hsucc hj2
      generalize roundTo N tq m i = p at HB HS ⊢
      go_wp2_with fail
      go_loopg [3, 20] (tq i).length (fun kq v3 v20 w' => ∃ j : Nat, v3 = .bool (rowM N i ((tq i).take j) p).2 ∧ v20 = .int .i64 j ∧ Aside0 (j ≤ (tq i).length ∧ kq = (tq i).length - j) ∧ Aside0 (Mat N rb (rowM N i ((tq i).take j) p).1 w') ∧ Aside0 (Fx.Rows N rb w w'))
      case atStart => exact ⟨0, rfl, rfl, ⟨by omega, by omega⟩, HB, HO⟩
      case round =>
        obtain ⟨j, rfl, rfl, HJ2, HB2, HO2⟩ := hrel
        obtain ⟨hk1, hk2⟩ := HJ2.out
        by_cases hj : j < (tq i).length
        · obtain ⟨ad, hA, hcn⟩ := (HR.out _ HO2.out).at_ (j : Int) (by omega) (by omega)
          subst hA
          have hst := rowM_take N i (tq i) p j hj
          have hn := HE.out.small i hi _ (List.getElem_mem hj)
          have hrd : rd ((tq i).map fun n : Nat => (n : Int)) (j : Int) = (((tq i)[j] : Nat) : Int) := by simp [rd, rdOf, List.getD_eq_getElem?_getD, List.getElem?_eq_getElem hj]
          rw [hrd, Int.toNat_natCast] at hcn
          generalize (tq i)[j] = n at hst hn hcn
          have HST := Aside0.mk hst
          clear hst hrd hk2
          generalize rowM N i ((tq i).take j) p = q at HB2 HST ⊢
          have hg := (HO2.out.block g HE.out.ng).trans HE.out.hg
          have hbs := (HO2.out.block bs HE.out.nbs).trans HE.out.hbs
          have cg3 : wr.cell? ⟨g, 3, none⟩ = some (.slice (some ⟨bs, 0, none⟩) N N) := by rw [Lib.cell_of_heap hg]; rfl
          have csi : wr.cell? ⟨bs, i, none⟩ = some (.slice (some ⟨rb i, 0, none⟩) N N) := by rw [Lib.cell_of_heap hbs]; simp [hi]
          have csn : wr.cell? ⟨bs, n, none⟩ = some (.slice (some ⟨rb n, 0, none⟩) N N) := by rw [Lib.cell_of_heap hbs]; simp [hn]
          have cin : wr.cell? ⟨rb i, n, none⟩ = some (.bool (q.1 i n)) := by rw [Lib.cell_of_heap (HB2.out i hi)]; exact rowA_get hn
          have fin_ : wr.frozen? ⟨rb i, n, none⟩ = false := Lib.frozen_of_heap (HB2.out i hi) n
          have HG := Aside0.mk hg
          have HBS := Aside0.mk hbs
          clear hg hbs
          have hrow : ∀ (wx : World) (m1 : M) (t : Bool), Mat N rb m1 wx → Fx.Rows N rb w wx → Fx.orM m1 i n = (Fx.edgeM N i n q).1 → (t || grew (m1 i) (m1 n) N) = (Fx.edgeM N i n q).2 →
              Calls Try.prog 44 #[.slice (some ⟨rb i, 0, none⟩) N N, .slice (some ⟨rb n, 0, none⟩) N N] wx fun e w' => ∃ b, e = .returned (.bool b) ∧ (t || b) = (Fx.edgeM N i n q).2 ∧ Mat N rb (Fx.edgeM N i n q).1 w' ∧ Fx.Rows N rb w w' := by
            intro wx m1 t h1 h2 h3 h4
            refine (add_any N (rb i) (rb n) (m1 i) (m1 n) wx hN (fun e => by rw [HE.out.inj i n hi hn e]) (h1 i hi) (h1 n hn)).mono ?_
            rintro e w' ⟨rfl, hr, ho⟩
            refine ⟨_, rfl, h4, ?_, h2.one hi ho⟩
            rw [← h3]
            exact h1.one hi HE.out.inj ho (by rw [hr]; congr 3; funext x; simp [Fx.orM]) (fun x hx => by funext y; simp [Fx.orM, hx])
          have HROW := Aside0.mk hrow
          clear hrow
          cases hqn : q.1 i n
          · rw [hqn] at cin
            go_wp2_with fail
            have hone : One (rb i) wr (wr.setCell ⟨rb i, n, none⟩ (.bool true)) := (One.refl _ _).setCell _ _
            have hM2 : Mat N rb (Fx.setM q.1 i n) (wr.setCell ⟨rb i, n, none⟩ (.bool true)) := HB2.out.one hi HE.out.inj hone (blk_row (HB2.out i hi) (fun x hx => by simp [Fx.setM])) (fun x hx => by funext y; simp [Fx.setM, hx])
            have hO3 : Fx.Rows N rb w (wr.setCell ⟨rb i, n, none⟩ (.bool true)) := HO2.out.one hi hone
            have dg3 : (wr.setCell ⟨rb i, n, none⟩ (.bool true)).cell? ⟨g, 3, none⟩ = some (.slice (some ⟨bs, 0, none⟩) N N) := (World.cell?_of_block (hone.block g (HE.out.ng i hi))).trans cg3
            have dsi : (wr.setCell ⟨rb i, n, none⟩ (.bool true)).cell? ⟨bs, i, none⟩ = some (.slice (some ⟨rb i, 0, none⟩) N N) := (World.cell?_of_block (hone.block bs (HE.out.nbs i hi))).trans csi
            have dsn : (wr.setCell ⟨rb i, n, none⟩ (.bool true)).cell? ⟨bs, n, none⟩ = some (.slice (some ⟨rb n, 0, none⟩) N N) := (World.cell?_of_block (hone.block bs (HE.out.nbs i hi))).trans csn
            have HC1 := Aside0.mk hM2
            have HC2 := Aside0.mk hO3
            clear hone hM2 hO3 cg3 csi csn cin fin_ hcn hct
            generalize wr.setCell ⟨rb i, n, none⟩ (.bool true) = W2 at dg3 dsi dsn HC1 HC2 ⊢
            go_still_tail 14, (by kernel_rfl)
            clear dg3 dsi dsn
            change wpList _ _ _ _ _ W2.drew
            generalize hW3 : W2.drew = W3
            have HC3 : Aside0 (Mat N rb (Fx.setM q.1 i n) W3) := ⟨by rw [← hW3]; exact HC1.out.drew⟩
            have HC4 : Aside0 (Fx.Rows N rb w W3) := ⟨by rw [← hW3]; exact HC2.out.drew⟩
            clear hW3 HC1 HC2
            go_wp2_with fail
            refine (HROW.out W3 (Fx.setM q.1 i n) true HC3.out HC4.out rfl (by simp [Fx.edgeM, hqn])).mono ?_
            rintro e w4 ⟨b, rfl, hb, hm4, hr4⟩
            have HV : Aside0 ((rowM N i ((tq i).take (j + 1)) p).2 = true) := ⟨by rw [HST.out, ← hb]; rfl⟩
            have HM4 : Aside0 (Mat N rb (rowM N i ((tq i).take (j + 1)) p).1 w4) := ⟨by rw [HST.out]; exact hm4⟩
            have HR4 := Aside0.mk hr4
            clear hb hm4 hr4 HC3 HC4
            cases b
            all_goals
              go_wp2
              go_roundg (gk - 1)
              case measure => have := HJ2.out; omega
              case rel => exact ⟨j + 1, by rw [HV.out], by go_num, ⟨by omega, by have := HJ2.out; omega⟩, HM4, HR4⟩
          · rw [hqn] at cin
            go_wp2_with fail
            have HC1 : Aside0 (Mat N rb q.1 wr) := HB2
            have HC2 : Aside0 (Fx.Rows N rb w wr) := HO2
            have hset : Fx.orM q.1 i n = (Fx.edgeM N i n q).1 := by
              have : Fx.setM q.1 i n = q.1 := by
                funext x y
                simp only [Fx.setM]
                split
                · rename_i hx; subst hx
                  split
                  · rename_i hy; subst hy; exact hqn.symm
                  · rfl
                · rfl
              simp [Fx.edgeM, this]
            have hset2 : (q.2 || grew (q.1 i) (q.1 n) N) = (Fx.edgeM N i n q).2 := by
              have : Fx.setM q.1 i n = q.1 := by
                funext x y
                simp only [Fx.setM]
                split
                · rename_i hx; subst hx
                  split
                  · rename_i hy; subst hy; exact hqn.symm
                  · rfl
                · rfl
              simp [Fx.edgeM, this, hqn]
            have HX := Aside0.mk hset
            have HX2 := Aside0.mk hset2
            clear cin fin_ hcn hct hset hset2
            go_still_tail 14, (by kernel_rfl)
            clear cg3 csi csn
            change wpList _ _ _ _ _ wr.drew
            generalize hW3 : wr.drew = W3
            have HC3 : Aside0 (Mat N rb q.1 W3) := ⟨by rw [← hW3]; exact HC1.out.drew⟩
            have HC4 : Aside0 (Fx.Rows N rb w W3) := ⟨by rw [← hW3]; exact HC2.out.drew⟩
            clear hW3 HC1 HC2
            go_wp2_with fail
            refine (HROW.out W3 q.1 q.2 HC3.out HC4.out HX.out HX2.out).mono ?_
            rintro e w4 ⟨b, rfl, hb, hm4, hr4⟩
            have HV : Aside0 ((rowM N i ((tq i).take (j + 1)) p).2 = (q.2 || b)) := ⟨by rw [HST.out, ← hb]⟩
            have HM4 : Aside0 (Mat N rb (rowM N i ((tq i).take (j + 1)) p).1 w4) := ⟨by rw [HST.out]; exact hm4⟩
            have HR4 := Aside0.mk hr4
            clear hb hm4 hr4 HC3 HC4
            cases b
            all_goals
              go_wp2
              go_roundg (gk - 1)
              case measure => have := HJ2.out; omega
              case rel => exact ⟨j + 1, by rw [HV.out]; simp, by go_num, ⟨by omega, by have := HJ2.out; omega⟩, HM4, HR4⟩
        · obtain rfl : j = (tq i).length := by omega
          rw [List.take_length] at *
          clear hj hk2
          have HV : Aside0 ((roundTo N tq m (i + 1)).2 = (rowM N i (tq i) p).2) := ⟨by rw [HS.out]⟩
          have HM4 : Aside0 (Mat N rb (roundTo N tq m (i + 1)).1 wr) := ⟨by rw [HS.out]; exact HB2.out⟩
          clear HB2 HS
          generalize (rowM N i (tq i) p).2 = v at HV ⊢
          go_wp2
          go_roundg (G0 - 1)
          case measure => have := HJ.out; have := HG0.out; omega
          case rel => exact ⟨i + 1, by rw [HV.out], by go_num, ⟨by omega, by have := HJ.out; have := HG0.out; omega⟩, HM4, HO2⟩
    · obtain rfl : i = N := by omega
      clear hi hj2
      go_wp2
      go_ret
      exact ⟨rfl, HB.out, HO.out⟩
end Go.Proofs.Ytiljegeodokfmaa.Fs

namespace Go.Proofs.Ytiljegeodokfmaa.Fs
open Go Go.RowKit Go.Proofs.YtiljegeodokfmaaW.PrintWords Go.Proofs.YtiljegeodokfmaaW.PrintLast Go.Proofs.YtiljegeodokfmaaW.PrintMore Go.Proofs.Ytiljegeodokfmaa.Fx
set_option linter.unusedVariables false
set_option linter.unusedSimpArgs false

/-- Where a key stands. -/
def at_ (ns : List ByteArray) (x : ByteArray) : Int := if x ∈ ns then (ns.idxOf x : Int) else 0
/-- The map tells where each node stands. -/
def MapIs (w : World) (bm : Nat) (ns : List ByteArray) : Prop :=
  ∃ (D : DataW Unit), w.ownsMap Try.prog 9 (plainElem Try.prog 3) bm ns.length D ∧ ∀ x : ByteArray, x.size ≤ 9223372036854775807 → Maps.has D (.string x.data.toList) = decide (x ∈ ns) ∧ D.atKey (.string x.data.toList) (.lit (.int .i64 0)) = .lit (.int .i64 (at_ ns x))
theorem MapIs.heap {w w' : World} {bm : Nat} {ns : List ByteArray} (h : MapIs w bm ns) (hk : w'.heap[bm]? = w.heap[bm]?) : MapIs w' bm ns := by
  obtain ⟨D, ⟨es, clock, hb, r⟩, hx⟩ := h
  exact ⟨D, ⟨es, clock, hk.trans hb, r⟩, hx⟩
theorem MapIs.lt {w : World} {bm : Nat} {ns : List ByteArray} (h : MapIs w bm ns) : bm < w.heap.size := by
  obtain ⟨D, ho, _⟩ := h
  exact ho.lt
theorem MapIs.look {w : World} {bm : Nat} {ns : List ByteArray} (h : MapIs w bm ns) (x : ByteArray) (hx : x.size ≤ 9223372036854775807) :
    (Instr.lookup 66 (.map (some bm)) (.string x) true).run Try.prog w = .ok (.tuple #[.int .i64 (at_ ns x), .bool (decide (x ∈ ns))]) w := by
  obtain ⟨D, ho, hD⟩ := h
  obtain ⟨h1, h2⟩ := hD x hx
  obtain ⟨v, ps, hrun, hv⟩ := ho.look_ok (Maps.string_keyed Try.underlying9) Try.underlying66 (Try.zeroValue3 w) (plainElem_int Try.underlying3 (by decide)) (WideMaps.keyOf_string_mk Try.underlying9 (by unfold maxLen; omega))
  obtain ⟨c, rfl, hc, _⟩ := plainElem_int_inv Try.underlying3 hv
  rw [h2] at hc
  have : c = at_ ns x := by
    have := congrArg Prod.fst hc
    simp at this
    exact this.symm
  rw [hrun, h1, this]

/-- A graph's parts. -/
structure GP (B : Nat) (S : Nat → Prop) (g : Nat) (vn : Value) (bm bt : Nat) (vs : Value) (vts : List Value) (ns : List ByteArray) (tq : Nat → List Nat) (sv : Option M) (w : World) : Prop where
  hN : ns.length ≤ 1000
  sB : ∀ k, S k → B ≤ k ∧ k < w.heap.size
  hg : w.heap[g]? = some (.cells #[vn, .map (some bm), .slice (some ⟨bt, 0, none⟩) ns.length ns.length, vs, .bool sv.isSome] 68 (0, 0))
  sg : S g
  sm : S bm
  st : S bt
  hn : w.ownsRow 0 9 1 vn ns.length (strs ns)
  sn : ∀ k, vn.ownBlock = some k → S k
  hm : MapIs w bm ns
  hbt : w.heap[bt]? = some (.cells vts.toArray 22 (0, 0))
  vlen : vts.length = ns.length
  rows : ∀ (i : Nat) (u : Value), vts[i]? = some u → w.ownsRow 0 3 1 u (tq i).length (nums .i64 ((tq i).map fun n : Nat => (n : Int))) ∧ ∀ k, u.ownBlock = some k → S k ∧ vn.ownBlock ≠ some k
  apart : ∀ (i j : Nat) (u v : Value), i < j → vts[i]? = some u → vts[j]? = some v → ∀ k, u.ownBlock = some k → v.ownBlock ≠ some k
  small : ∀ i n, n ∈ tq i → n < ns.length
  len : ∀ i, (tq i).length ≤ 1000000
  sets : ∀ m, sv = some m → ∃ bs rb, vs = .slice (some ⟨bs, 0, none⟩) ns.length ns.length ∧ Sets S bs rb ns.length m w
/-- A graph in its state: the nodes, what leads where, the sets if they are solved. -/
def G (B : Nat) (S : Nat → Prop) (g : Nat) (ns : List ByteArray) (tq : Nat → List Nat) (sv : Option M) (w : World) : Prop := ∃ vn bm bt vs vts, GP B S g vn bm bt vs vts ns tq sv w
theorem GP.heap {B : Nat} {S : Nat → Prop} {g : Nat} {vn : Value} {bm bt : Nat} {vs : Value} {vts : List Value} {ns : List ByteArray} {tq : Nat → List Nat} {sv : Option M} {w w' : World} (h : GP B S g vn bm bt vs vts ns tq sv w) (hz : w.heap.size ≤ w'.heap.size) (hk : ∀ k, S k → w'.heap[k]? = w.heap[k]?) : GP B S g vn bm bt vs vts ns tq sv w' :=
  { h with
    sB := fun k hk' => ⟨(h.sB k hk').1, Nat.lt_of_lt_of_le (h.sB k hk').2 hz⟩
    hg := (hk g h.sg).trans h.hg
    hn := Fx.own_heap h.hn (fun k e => hk k (h.sn k e))
    hm := h.hm.heap (hk bm h.sm)
    hbt := (hk bt h.st).trans h.hbt
    rows := fun i u hu => ⟨Fx.own_heap (h.rows i u hu).1 (fun k e => hk k ((h.rows i u hu).2 k e).1), (h.rows i u hu).2⟩
    sets := fun m hm => by
      obtain ⟨bs, rb, e, hs⟩ := h.sets m hm
      exact ⟨bs, rb, e, { hs with hb := (hk bs hs.sb).trans hs.hb, mat := fun i hi => (hk _ (hs.sr i hi)).trans (hs.mat i hi) }⟩ }
theorem G.heap {B : Nat} {S : Nat → Prop} {g : Nat} {ns : List ByteArray} {tq : Nat → List Nat} {sv : Option M} {w w' : World} (h : G B S g ns tq sv w) (hz : w.heap.size ≤ w'.heap.size) (hk : ∀ k, S k → w'.heap[k]? = w.heap[k]?) : G B S g ns tq sv w' := by
  obtain ⟨vn, bm, bt, vs, vts, h⟩ := h
  exact ⟨vn, bm, bt, vs, vts, h.heap hz hk⟩

theorem Env.rows {N g bt bs : Nat} {rb : Nat → Nat} {vn vm sol : Value} {vts : List Value} {tq : Nat → List Nat} {w w' : World} (E : Env N g bt bs rb vn vm sol vts tq w) (h : Fx.Rows N rb w w') : Env N g bt bs rb vn vm sol vts tq w' :=
  { E with
    hg := (h.block g E.ng).trans E.hg
    hbt := (h.block bt E.nbt).trans E.hbt
    hbs := (h.block bs E.nbs).trans E.hbs
    reads := fun i u hu => by
      obtain ⟨A, c, e, hr⟩ := E.reads i u hu
      exact ⟨A, c, e, fun w2 h2 => hr w2 (h.trans h2)⟩ }
theorem solve_nil (w : World) : Calls Try.prog 25 #[.pointer none] w fun e w' => e = .returned (.int .i64 0) ∧ w' = w := by
  go_enter Try.func25, Try.ntmps25
  go_wp2
  go_ret
  exact ⟨rfl, rfl⟩
theorem solve_done (B : Nat) (S : Nat → Prop) (g : Nat) (ns : List ByteArray) (tq : Nat → List Nat) (m : M) (w : World) (h : G B S g ns tq (some m) w) : Calls Try.prog 25 #[.pointer (some ⟨g, 0, none⟩)] w fun e w' => e = .returned (.int .i64 0) ∧ w' = w := by
  obtain ⟨vn, bm, bt, vs, vts, h⟩ := h
  have c4 : w.cell? ⟨g, 4, none⟩ = some (.bool true) := by rw [Lib.cell_of_heap h.hg]; rfl
  clear h
  go_enter Try.func25, Try.ntmps25
  go_wp2
  go_ret
  exact ⟨rfl, rfl⟩

def SolvePost (B : Nat) (S : Nat → Prop) (g : Nat) (ns : List ByteArray) (tq : Nat → List Nat) (m : M) (r : Int) (w : World) (e : Ending) (w' : World) : Prop :=
  e = .returned (.int .i64 r) ∧ G B (fun k => S k ∨ (w.heap.size ≤ k ∧ k < w'.heap.size)) g ns tq (some m) w' ∧ Ch B S w w'

set_option maxHeartbeats 4000000 in
set_option maxRecDepth 100000 in
theorem solve_new (B : Nat) (S : Nat → Prop) (g : Nat) (ns : List ByteArray) (tq : Nat → List Nat) (m : M) (r : Int) (k : Nat) (hk : k ≤ 1000000) (w : World) (hB : B ≤ w.heap.size) (h : G B S g ns tq none w) (hs : solveL ns.length tq k (fun _ _ => false) 1 = some (m, r)) :
    Calls Try.prog 25 #[.pointer (some ⟨g, 0, none⟩)] w (SolvePost B S g ns tq m r w) := by
  obtain ⟨vn, bm, bt, vs, vts, h⟩ := h
  have hN := h.hN
  obtain ⟨An, cn, rfl⟩ := own_slice h.hn
  have c0 : w.cell? ⟨g, 0, none⟩ = some (.slice An ns.length cn) := by rw [Lib.cell_of_heap h.hg]; rfl
  have c3 : w.cell? ⟨g, 3, none⟩ = some vs := by rw [Lib.cell_of_heap h.hg]; rfl
  have c4 : w.cell? ⟨g, 4, none⟩ = some (.bool false) := by rw [Lib.cell_of_heap h.hg]; rfl
  have cf : ∀ o, w.frozen? ⟨g, o, none⟩ = false := fun o => Lib.frozen_of_heap h.hg o
  have hgl := (h.sB g h.sg)
  have hmk := run_make_row' (P := Try.prog) 56 65 (.slice none 0 0) 24 Try.underlying56 (by kernel_rfl) rfl .i64 .i64 ns.length (by omega) (by omega)
  have H := Aside0.mk h
  have HS := Aside0.mk hs
  clear h hs
  go_enter Try.func25, Try.ntmps25
  go_wp2_with fail
  obtain ⟨W1, hW1⟩ : ∃ W1, (w.setCell ⟨g, 3, none⟩ (.slice (some ⟨w.heap.size, 0, none⟩) ns.length ns.length)).alloc (.cells (madeCells #[.slice none 0 0] ns.length) 65) = W1 := ⟨_, rfl⟩
  rw [hW1]
  have hz1 : W1.heap.size = w.heap.size + 1 := by rw [← hW1]; simp
  have hg1 : W1.heap[g]? = some (.cells #[.slice An ns.length cn, .map (some bm), .slice (some ⟨bt, 0, none⟩) ns.length ns.length, .slice (some ⟨w.heap.size, 0, none⟩) ns.length ns.length, .bool false] 68 (0, 0)) := by
    rw [← hW1, Below.heap_alloc _ _ _ (by simp; exact hgl.2)]
    simp [World.setCell, Array.getElem?_modify, H.out.hg]
  have hbs1 : W1.heap[w.heap.size]? = some (.cells (List.replicate ns.length (Value.slice none 0 0)).toArray 65 (0, 0)) := by
    rw [← hW1, ← made_nil]
    have := heap_alloc_new (w.setCell ⟨g, 3, none⟩ (.slice (some ⟨w.heap.size, 0, none⟩) ns.length ns.length)) (.cells (madeCells #[.slice none 0 0] ns.length) 65)
    rwa [World.size_setCell] at this
  have hch1 : Ch B S w W1 := by rw [← hW1]; exact ((Ch.refl B S w).setCell (p := ⟨g, 3, none⟩) hgl.1 (.inl H.out.sg) _).alloc (by simp; exact hB) _
  have hsame1 : ∀ x, x < w.heap.size → x ≠ g → W1.heap[x]? = w.heap[x]? := fun x hx hn => by
    rw [← hW1, Below.heap_alloc _ _ _ (by simp; exact hx)]
    exact Below.heap_setCell _ _ _ _ hn
  have HG1 := Aside0.mk hg1
  have HBS1 := Aside0.mk hbs1
  have HCH1 := Aside0.mk hch1
  have HSM1 := Aside0.mk hsame1
  clear hW1 hg1 hbs1 hch1 hsame1 hmk c0 c3 c4 cf
  have hmk := run_make_row' (P := Try.prog) 65 4 (.bool false) 1 Try.underlying65 (by kernel_rfl) rfl .i64 .i64 ns.length (by omega) (by omega)
  go_loopg [27] ns.length (fun kq v27 w' => ∃ (i : Nat) (rb : Nat → Nat), v27 = .int .i64 i ∧ Aside0 (i ≤ ns.length ∧ kq = ns.length - i) ∧ Aside0 (w'.heap[w.heap.size]? = some (.cells ((List.range ns.length).map fun x => if x < i then Value.slice (some ⟨rb x, 0, none⟩) ns.length ns.length else Value.slice none 0 0).toArray 65 (0, 0))) ∧
    Aside0 (∀ x, x < i → w.heap.size < rb x ∧ rb x < w'.heap.size ∧ w'.heap[rb x]? = some (.cells (rowA ns.length (fun _ => false)) 4 (0, 0))) ∧ Aside0 (∀ x y, x < i → y < i → rb x = rb y → x = y) ∧ Aside0 (Below w.heap.size W1 w'))
  case atStart => exact ⟨0, fun _ => 0, rfl, ⟨by omega, by omega⟩, ⟨by rw [HBS1.out]; congr 3; apply List.ext_getElem <;> simp⟩, ⟨fun x hx => by omega⟩, ⟨fun x y hx => by omega⟩, ⟨Below.refl _ _⟩⟩
  case round =>
    obtain ⟨i, rb, rfl, HJ, HBS, HRB, HINJ, HBL⟩ := hrel
    obtain ⟨hj1, hj2⟩ := HJ.out
    have hg := (HBL.out.block g hgl.2).trans HG1.out
    have c0 : wr.cell? ⟨g, 0, none⟩ = some (.slice An ns.length cn) := by rw [Lib.cell_of_heap hg]; rfl
    have c3 : wr.cell? ⟨g, 3, none⟩ = some (.slice (some ⟨w.heap.size, 0, none⟩) ns.length ns.length) := by rw [Lib.cell_of_heap hg]; rfl
    have HGR := Aside0.mk hg
    clear hg
    by_cases hi : i < ns.length
    · have cs : wr.cell? ⟨w.heap.size, i, none⟩ = some (.slice none 0 0) := by rw [Lib.cell_of_heap HBS.out]; simp [hi]
      have fs : wr.frozen? ⟨w.heap.size, i, none⟩ = false := Lib.frozen_of_heap HBS.out i
      have hzr := HBL.out.size
      have hgr : g < wr.heap.size := by omega
      have d0 : (wr.alloc (.cells (madeCells #[.bool false] ns.length) 4)).cell? ⟨g, 0, none⟩ = some (.slice An ns.length cn) := (World.cell?_of_block (Below.heap_alloc wr _ _ hgr)).trans c0
      have d3 : (wr.alloc (.cells (madeCells #[.bool false] ns.length) 4)).cell? ⟨g, 3, none⟩ = some (.slice (some ⟨w.heap.size, 0, none⟩) ns.length ns.length) := (World.cell?_of_block (Below.heap_alloc wr _ _ hgr)).trans c3
      have ds : (wr.alloc (.cells (madeCells #[.bool false] ns.length) 4)).cell? ⟨w.heap.size, i, none⟩ = some (.slice none 0 0) := (World.cell?_of_block (Below.heap_alloc wr _ _ (by show w.heap.size < _; omega))).trans cs
      have es : (wr.alloc (.cells (madeCells #[.bool false] ns.length) 4)).frozen? ⟨w.heap.size, i, none⟩ = false := (World.frozen?_of_block (Below.heap_alloc wr _ _ (by show w.heap.size < _; omega))).trans fs
      go_wp2_with fail
      go_region
      have hbl2 : Below w.heap.size wr ((wr.alloc (.cells (madeCells #[.bool false] ns.length) 4)).setCell ⟨w.heap.size, i, none⟩ (.slice (some ⟨wr.heap.size, 0, none⟩) ns.length ns.length)).drew := (((Below.refl w.heap.size wr).alloc (by omega) _).setCell (p := ⟨w.heap.size, i, none⟩) (Nat.le_refl _) _).drew
      have hold : ∀ x, x < wr.heap.size → x ≠ w.heap.size → ((wr.alloc (.cells (madeCells #[.bool false] ns.length) 4)).setCell ⟨w.heap.size, i, none⟩ (.slice (some ⟨wr.heap.size, 0, none⟩) ns.length ns.length)).drew.heap[x]? = wr.heap[x]? := fun x hx hn => (Below.heap_setCell _ ⟨w.heap.size, i, none⟩ _ x hn).trans (Below.heap_alloc wr _ x hx)
      have hnew : ((wr.alloc (.cells (madeCells #[.bool false] ns.length) 4)).setCell ⟨w.heap.size, i, none⟩ (.slice (some ⟨wr.heap.size, 0, none⟩) ns.length ns.length)).drew.heap[wr.heap.size]? = some (.cells (rowA ns.length (fun _ => false)) 4 (0, 0)) := by
        rw [← made_false]
        exact (Below.heap_setCell _ ⟨w.heap.size, i, none⟩ _ _ (by show wr.heap.size ≠ w.heap.size; omega)).trans (heap_alloc_new wr _)
      have hbs2 : ((wr.alloc (.cells (madeCells #[.bool false] ns.length) 4)).setCell ⟨w.heap.size, i, none⟩ (.slice (some ⟨wr.heap.size, 0, none⟩) ns.length ns.length)).drew.heap[w.heap.size]? = some (.cells ((List.range ns.length).map fun x => if x < i + 1 then Value.slice (some ⟨if x = i then wr.heap.size else rb x, 0, none⟩) ns.length ns.length else Value.slice none 0 0).toArray 65 (0, 0)) := by
        have h1 : (wr.alloc (.cells (madeCells #[.bool false] ns.length) 4)).heap[w.heap.size]? = _ := (Below.heap_alloc wr _ _ (by omega)).trans HBS.out
        show ((wr.alloc (.cells (madeCells #[.bool false] ns.length) 4)).setCell ⟨w.heap.size, i, none⟩ (.slice (some ⟨wr.heap.size, 0, none⟩) ns.length ns.length)).heap[w.heap.size]? = _
        rw [Fx.blk_set h1]
        congr 2
        apply Array.ext_getElem?
        intro x
        rw [Array.getElem?_setIfInBounds]
        by_cases hx : i = x
        · subst hx; simp [hi]
        · rw [if_neg hx]
          simp only [List.getElem?_toArray, List.getElem?_map]
          by_cases hxn : x < ns.length
          · rw [List.getElem?_range hxn]
            simp only [Option.map_some]
            have hx' : ¬ x = i := fun e => hx e.symm
            by_cases hxi : x < i
            · have hxj : x < i + 1 := by omega
              simp only [hxi, hxj, hx', if_true, if_false]
            · have hxj : ¬ x < i + 1 := by omega
              simp only [hxi, hxj, if_false]
          · rw [List.getElem?_eq_none (by simp; omega)]; rfl
      have HBL2 := Aside0.mk hbl2
      have HOLD := Aside0.mk hold
      have HNEW := Aside0.mk hnew
      have HBS2 := Aside0.mk hbs2
      have hz2 : wr.heap.size < ((wr.alloc (.cells (madeCells #[.bool false] ns.length) 4)).setCell ⟨w.heap.size, i, none⟩ (.slice (some ⟨wr.heap.size, 0, none⟩) ns.length ns.length)).drew.heap.size := (Array.getElem?_eq_some_iff.1 hnew).1
      have HZ2 := Aside0.mk hz2
      clear hbl2 hold hnew hbs2 d0 d3 ds es c0 c3 cs fs hmk hz2
      generalize ((wr.alloc (.cells (madeCells #[.bool false] ns.length) 4)).setCell ⟨w.heap.size, i, none⟩ (.slice (some ⟨wr.heap.size, 0, none⟩) ns.length ns.length)).drew = W2 at HBL2 HOLD HNEW HBS2 HZ2 ⊢
      go_wp2
      go_roundg (gk - 1)
      case measure => have := HJ.out; omega
      case rel =>
        refine ⟨i + 1, fun x => if x = i then wr.heap.size else rb x, by go_num, ⟨by omega, by have := HJ.out; omega⟩, HBS2, ⟨fun x hx => ?_⟩, ⟨fun x y hx hy e => ?_⟩, ⟨HBL.out.trans HBL2.out⟩⟩
        · by_cases he : x = i
          · simp only [if_pos he]; exact ⟨by omega, HZ2.out, HNEW.out⟩
          · simp only [if_neg he]
            obtain ⟨q1, q2, q3⟩ := HRB.out x (by omega)
            exact ⟨q1, by have := HZ2.out; omega, (HOLD.out _ q2 (by omega)).trans q3⟩
        · by_cases hx' : x = i <;> by_cases hy' : y = i
          · omega
          · simp only [if_pos hx', if_neg hy'] at e
            have := (HRB.out y (by omega)).2.1; omega
          · simp only [if_neg hx', if_pos hy'] at e
            have := (HRB.out x (by omega)).2.1; omega
          · simp only [if_neg hx', if_neg hy'] at e
            exact HINJ.out x y (by omega) (by omega) e
    · obtain rfl : i = ns.length := by omega
      have hbs2 : wr.heap[w.heap.size]? = some (.cells ((List.range ns.length).map fun x => Value.slice (some ⟨rb x, 0, none⟩) ns.length ns.length).toArray 65 (0, 0)) := by
        rw [HBS.out]
        congr 3
        exact List.map_congr_left (fun x hx => by rw [if_pos (List.mem_range.1 hx)])
      have hmat : Mat ns.length rb (fun _ _ => false) wr := fun x hx => (HRB.out x hx).2.2
      have hE : Env ns.length g bt w.heap.size rb (.slice An ns.length cn) (.map (some bm)) (.bool false) vts tq wr := {
        hN := by omega
        hg := HGR.out
        hbt := (HBL.out.block bt (H.out.sB bt H.out.st).2).trans ((HSM1.out bt (H.out.sB bt H.out.st).2 (fun e => by have h1 := H.out.hbt; rw [e, H.out.hg] at h1; injection h1 with h1; injection h1 with _ h2; exact absurd h2 (by decide))).trans H.out.hbt)
        hbs := hbs2
        hlen := H.out.vlen
        ng := fun x hx e => by have := (HRB.out x hx).1; omega
        nbt := fun x hx e => by have := (HRB.out x hx).1; have := (H.out.sB bt H.out.st).2; omega
        nbs := fun x hx e => by have := (HRB.out x hx).1; omega
        inj := HINJ.out
        small := fun x _ n hn => H.out.small x n hn
        len := fun x _ => H.out.len x
        reads := fun x u hu => reads_of (H.out.rows x u hu).1 (fun k e => by
          have hS := ((H.out.rows x u hu).2 k e).1
          have hlt := (H.out.sB k hS).2
          refine ⟨(HBL.out.block k hlt).trans (HSM1.out k hlt ?_), fun y hy => by have := (HRB.out y hy).1; omega⟩
          rintro rfl
          exact own_ne_of (H.out.rows x u hu).1 H.out.hg (by decide) e) }
      have hch : Ch B S w wr := HCH1.out.trans (S' := fun x => w.heap.size ≤ x) ⟨HBL.out.mono hB, fun x hx hn => HBL.out.block x (by omega)⟩ (fun x hx => .inr hx)
      have hold : ∀ x, x < w.heap.size → x ≠ g → wr.heap[x]? = w.heap[x]? := fun x hx hn => (HBL.out.block x hx).trans (HSM1.out x hx hn)
      have HM0 := Aside0.mk hmat
      have HE0 := Aside0.mk hE
      have HCH := Aside0.mk hch
      have HOL := Aside0.mk hold
      have hrbs : ∀ x, x < ns.length → w.heap.size < rb x ∧ rb x < wr.heap.size := fun x hx => ⟨(HRB.out x hx).1, (HRB.out x hx).2.1⟩
      have HRBS := Aside0.mk hrbs
      have hzr := HBL.out.size
      clear hbs2 hmat hE hch hold hrbs HBL HSM1 HG1 HBS1 HCH1 HRB HBS hj1 hj2 hi c0 c3 hmk
      obtain ⟨Wl, hWl⟩ : ∃ x, x = wr := ⟨wr, rfl⟩
      subst hWl
      go_wp2_with fail
      go_loopg [4] k (fun kq v4 w' => ∃ (m1 : M) (n : Int), v4 = .int .i64 n ∧ Aside0 (1 ≤ n ∧ n ≤ 1 + ((k - kq : Nat) : Int) ∧ kq ≤ k) ∧ Aside0 (solveL ns.length tq kq m1 n = some (m, r)) ∧ Aside0 (Mat ns.length rb m1 w') ∧ Aside0 (Fx.Rows ns.length rb Wl w'))
      case atStart => exact ⟨_, 1, rfl, ⟨by omega, by omega, by omega⟩, HS, HM0, ⟨Fx.Rows.refl _ _ _⟩⟩
      case round =>
        obtain ⟨m1, n, rfl, HN, HL, HM, HR⟩ := hrel
        obtain ⟨hn1, hn2, hn3⟩ := HN.out
        have hl := HL.out
        obtain ⟨k1, rfl⟩ : ∃ k1, gk = k1 + 1 := by
          cases gk with
          | zero => simp [solveL] at hl
          | succ k1 => exact ⟨k1, rfl⟩
        rw [solveL] at hl
        have hround := round_any ns.length g bt w.heap.size rb _ _ _ vts tq m1 wr (HE0.out.rows HR.out) HM.out
        by_cases hb : (roundM ns.length tq m1).2 = true
        · rw [if_pos hb] at hl
          have HL2 := Aside0.mk hl
          have HRD := Aside0.mk hround
          have HBB := Aside0.mk hb
          clear hl hround hb HL
          go_wp2_with fail
          refine HRD.out.mono ?_
          rintro e w2 ⟨rfl, hm2, hr2⟩
          rw [HBB.out]
          have HM2 := Aside0.mk hm2
          have HR2 : Aside0 (Fx.Rows ns.length rb Wl w2) := ⟨HR.out.trans hr2⟩
          clear hm2 hr2
          go_wp2
          go_roundg k1
          case measure => omega
          case rel => exact ⟨_, n + 1, by first | rfl | go_num, ⟨by omega, by omega, by omega⟩, HL2, HM2, HR2⟩
        · rw [if_neg hb] at hl
          have hb' : (roundM ns.length tq m1).2 = false := by simpa using hb
          obtain ⟨e1, e2⟩ := Prod.mk.inj (Option.some.inj hl)
          have HRD := Aside0.mk hround
          have HBB := Aside0.mk hb'
          have E1 := Aside0.mk e1
          have E2 := Aside0.mk e2
          clear hl hround hb hb' HL e1 e2
          go_wp2_with fail
          refine HRD.out.mono ?_
          rintro e w2 ⟨rfl, hm2, hr2⟩
          rw [HBB.out]
          have hg2 := (hr2.block g HE0.out.ng).trans (HE0.out.rows HR.out).hg
          have f4 : w2.frozen? ⟨g, 4, none⟩ = false := Lib.frozen_of_heap hg2 4
          have c4 : w2.cell? ⟨g, 4, none⟩ = some (.bool false) := by rw [Lib.cell_of_heap hg2]; rfl
          have HG2 := Aside0.mk hg2
          have HM2 := Aside0.mk hm2
          have HR2 : Aside0 (Fx.Rows ns.length rb Wl w2) := ⟨HR.out.trans hr2⟩
          clear hm2 hr2 hg2
          go_wp2
          go_ret
          refine ⟨by rw [E2.out]; rfl, ?_, ?_⟩
          · have hzW : (w2.setCell ⟨g, 4, none⟩ (.bool true)).heap.size = Wl.heap.size := by rw [World.size_setCell]; exact HR2.out.size
            have hkeep : ∀ x, S x → x ≠ g → (w2.setCell ⟨g, 4, none⟩ (.bool true)).heap[x]? = w.heap[x]? := fun x hx hn => by
              have hlt := (H.out.sB x hx).2
              rw [Below.heap_setCell _ ⟨g, 4, none⟩ _ x hn, HR2.out.block x (fun y hy e => by have := HRBS.out y hy; omega)]
              exact HOL.out x hlt hn
            have hnm : ∀ {cs : Array Value} {t : Nat} {x : Nat}, w.heap[x]? = some (.cells cs t (0, 0)) → t ≠ 68 → x ≠ g := fun h1 h2 e => by
              subst e
              rw [H.out.hg] at h1
              injection h1 with h1
              injection h1 with _ h3
              exact h2 h3.symm
            have hmg : bm ≠ g := fun e => by
              obtain ⟨D, ⟨es, clock, hb, _⟩, _⟩ := H.out.hm
              rw [e, H.out.hg] at hb
              injection hb with hb
              cases hb
            have hkn : ∀ x, (Value.slice An ns.length cn).ownBlock = some x → (w2.setCell ⟨g, 4, none⟩ (.bool true)).heap[x]? = w.heap[x]? := fun x e => hkeep x (H.out.sn x e) (fun e' => by subst e'; exact own_ne_of H.out.hn H.out.hg (by decide) e)
            refine ⟨_, bm, bt, _, vts, {
              hN := hN
              sB := fun x hx => by
                rcases hx with hx | hx
                · have := H.out.sB x hx; exact ⟨this.1, by rw [hzW]; omega⟩
                · exact ⟨by omega, hx.2⟩
              hg := by rw [Fx.blk_set HG2.out]; rfl
              sg := .inl H.out.sg
              sm := .inl H.out.sm
              st := .inl H.out.st
              hn := Fx.own_heap H.out.hn hkn
              sn := fun x e => .inl (H.out.sn x e)
              hm := H.out.hm.heap (hkeep bm H.out.sm hmg)
              hbt := (hkeep bt H.out.st (hnm H.out.hbt (by decide))).trans H.out.hbt
              vlen := H.out.vlen
              rows := fun i u hu => ⟨Fx.own_heap (H.out.rows i u hu).1 (fun x e => hkeep x ((H.out.rows i u hu).2 x e).1 (fun e' => by subst e'; exact own_ne_of (H.out.rows i u hu).1 H.out.hg (by decide) e)), fun x e => ⟨.inl ((H.out.rows i u hu).2 x e).1, ((H.out.rows i u hu).2 x e).2⟩⟩
              apart := H.out.apart
              small := H.out.small
              len := H.out.len
              sets := fun m' hm' => by
                obtain rfl := Option.some.inj hm'
                refine ⟨w.heap.size, rb, rfl, {
                  sb := .inr ⟨Nat.le_refl _, by rw [hzW]; omega⟩
                  hb := ?_
                  sr := fun x hx => .inr (by have := HRBS.out x hx; rw [hzW]; omega)
                  inj := HE0.out.inj
                  mat := ?_ }⟩
                · rw [Below.heap_setCell _ ⟨g, 4, none⟩ _ _ (by show w.heap.size ≠ g; omega)]
                  exact (HR2.out.block _ HE0.out.nbs).trans HE0.out.hbs
                · intro x hx
                  rw [Below.heap_setCell _ ⟨g, 4, none⟩ _ _ (fun e => HE0.out.ng x hx e.symm), HM2.out x hx, ← E1.out] }⟩
          · exact (HCH.out.rows HR2.out (fun x hx => by have := HRBS.out x hx; omega) (fun x hx => .inr (by have := HRBS.out x hx; omega))).setCell (p := ⟨g, 4, none⟩) hgl.1 (.inl H.out.sg) _
end Go.Proofs.Ytiljegeodokfmaa.Fs

namespace Go.Proofs.Ytiljegeodokfmaa.Fs
open Go Go.RowKit Go.Proofs.YtiljegeodokfmaaW.PrintWords Go.Proofs.YtiljegeodokfmaaW.PrintLast Go.Proofs.YtiljegeodokfmaaW.PrintMore Go.Proofs.Ytiljegeodokfmaa.Fx
open Go.MapKept
open Go.ChangeMaps (setBlock heap_setBlock_other)
set_option linter.unusedVariables false
set_option linter.unusedSimpArgs false

theorem bytes_inj {a b : ByteArray} (h : a.data.toList = b.data.toList) : a = b := by
  have h2 : a.data = b.data := Array.toList_inj.1 h
  cases a; cases b; exact congrArg _ h2
theorem infoStr : (Try.prog.info? 9).map (fun i => (i.zero, i.size, i.bytes)) = some (some (.string ByteArray.empty), 1, 16) := by kernel_rfl
theorem strs_snoc (acc : List ByteArray) (x : ByteArray) : strs (acc ++ [x]) = strs acc ++ [.string x] := by simp [strs, encs]
/-- Each once, in the order in which they come first. -/
def onceF (l : List ByteArray) : List ByteArray := l.foldl (fun acc x => if x ∈ acc then acc else acc ++ [x]) []
theorem onceF_snoc (l : List ByteArray) (x : ByteArray) : onceF (l ++ [x]) = if x ∈ onceF l then onceF l else onceF l ++ [x] := by
  unfold onceF; rw [List.foldl_append]; rfl
theorem onceF_len (l : List ByteArray) : (onceF l).length ≤ l.length := by
  have key : ∀ (l acc : List ByteArray), (l.foldl (fun acc x => if x ∈ acc then acc else acc ++ [x]) acc).length ≤ acc.length + l.length := by
    intro l
    induction l with
    | nil => intro acc; simp
    | cons x r ih =>
      intro acc
      rw [List.foldl_cons, List.length_cons]
      have := ih (if x ∈ acc then acc else acc ++ [x])
      have h2 : (if x ∈ acc then acc else acc ++ [x]).length ≤ acc.length + 1 := by split <;> simp
      omega
  have := key l []
  simpa [onceF] using this
theorem at_snoc (ns : List ByteArray) (x y : ByteArray) (hx : x ∉ ns) : at_ (ns ++ [x]) y = if y = x then (ns.length : Int) else at_ ns y := by
  unfold at_
  by_cases h : y = x
  · subst h
    rw [if_pos rfl, if_pos (by simp), List.idxOf_append, if_neg hx]
    simp
  · rw [if_neg h]
    by_cases hy : y ∈ ns
    · rw [if_pos (by simp [hy]), if_pos hy, List.idxOf_append, if_pos hy]
    · rw [if_neg (by simp [hy, h]), if_neg hy]
/-- One more node in the map. -/
theorem MapIs.put {w : World} {bm : Nat} {ns : List ByteArray} (h : MapIs w bm ns) (hn : ns.length ≤ 1000) (x : ByteArray) (hx : x.size ≤ 9223372036854775807) (hnot : x ∉ ns) :
    ∃ w', (Instr.mapUpdate 66 (.map (some bm)) (.string x) (.int .i64 ns.length)).run Try.prog w = .ok () w' ∧ One bm w w' ∧ MapIs w' bm (ns ++ [x]) := by
  obtain ⟨D, ho, hD⟩ := h
  have hi : Maps.IsMap D := ho.isMap
  obtain ⟨w', hrun, ho', ht⟩ := ho.store (Maps.string_keyed Try.underlying9) Try.underlying66 (by unfold maxLen; omega) (WideMaps.keyOf_string_mk Try.underlying9 (by unfold maxLen; omega)) (plainElem_int (a := (ns.length : Int)) Try.underlying3 (by simp [Lit.wf, IntKind.min, IntKind.max, IntKind.signed, IntKind.bits]; omega))
  refine ⟨w', hrun, one_of_grown ht, _, by rw [List.length_append]; exact ho', fun y hy => ?_⟩
  obtain ⟨g1, g2⟩ := hD y hy
  rw [at_snoc ns x y hnot]
  by_cases h : y = x
  · subst h
    rw [Maps.has_put_same hi (show WideAt.IsKeyLit (.string y.data.toList) from trivial), Maps.atKey_put_same hi (show WideAt.IsKeyLit (.string y.data.toList) from trivial), if_pos rfl]
    exact ⟨by simp, rfl⟩
  · have hne : Lit.string y.data.toList ≠ Lit.string x.data.toList := fun e => h (bytes_inj (by injection e))
    rw [Maps.has_put_other hne, Maps.atKey_put_other hne, if_neg h, g1, g2]
    exact ⟨by simp [h], rfl⟩
theorem map_new (w : World) : MapIs (w.alloc (.map #[] 0)) w.heap.size [] := by
  refine ⟨_, World.ownsMap_made w Try.prog 9 _, fun x hx => ⟨rfl, rfl⟩⟩

/-- The graph while it is made. -/
structure Half (w : World) (B g bm : Nat) (vn : Value) (acc : List ByteArray) (w' : World) : Prop where
  hg : w'.heap[g]? = some (.cells #[vn, .map (some bm), .slice none 0 0, .slice none 0 0, .bool false] 68 (0, 0))
  hn : w'.ownsRow B 9 1 vn acc.length (strs acc)
  hm : MapIs w' bm acc
  hb : Below B w w'
def NewPost (l : List ByteArray) (w : World) (e : Ending) (w' : World) : Prop :=
  ∃ g, e = .returned (.pointer (some ⟨g, 0, none⟩)) ∧ G w.heap.size (fun k => w.heap.size ≤ k ∧ k < w'.heap.size) g (onceF l) (fun _ => []) none w' ∧ Below w.heap.size w w'

set_option maxHeartbeats 4000000 in
set_option maxRecDepth 100000 in
theorem new_any (A : Option Addr) (c : Nat) (l : List ByteArray) (w : World) (hr : ReadsStr w A l.length l) (hl : l.length ≤ 1000) (hw : ∀ x ∈ l, x.size ≤ 9223372036854775807) :
    Calls Try.prog 20 #[.slice A l.length c] w (NewPost l w) := by
  have hmm := @run_makeMap Try.prog
  have HR := Aside0.mk hr
  have HW := Aside0.mk hw
  clear hr hw
  go_enter Try.func20, Try.ntmps20
  go_wp2_with fail
  obtain ⟨W0, hW0⟩ : ∃ W0, (w.alloc (.map #[] 0)).alloc (.cells #[.slice none 0 0, .map (some w.heap.size), .slice none 0 0, .slice none 0 0, .bool false] 68) = W0 := ⟨_, rfl⟩
  rw [hW0]
  have hz0 : W0.heap.size = w.heap.size + 2 := by rw [← hW0]; simp
  have hH : Half w w.heap.size (w.heap.size + 1) w.heap.size (.slice none 0 0) [] W0 := by
    rw [← hW0]
    refine ⟨?_, own_nil _ _ _ _, ?_, ?_⟩
    · have := heap_alloc_new (w.alloc (.map #[] 0)) (.cells #[.slice none 0 0, .map (some w.heap.size), .slice none 0 0, .slice none 0 0, .bool false] 68)
      rwa [World.size_alloc] at this
    · exact (map_new w).heap (Below.heap_alloc _ _ _ (by simp))
    · exact ((Below.refl _ w).alloc (Nat.le_refl _) _).alloc (by simp) _
  have HH := Aside0.mk hH
  clear hH hW0 hmm
  go_loopg [13] l.length (fun kq v13 w' => ∃ (i : Nat) (vn : Value), v13 = .int .i64 i ∧ Aside0 (i ≤ l.length ∧ kq = l.length - i) ∧ Aside0 (Half w w.heap.size (w.heap.size + 1) w.heap.size vn (onceF (l.take i)) w'))
  case atStart => exact ⟨0, _, rfl, ⟨by omega, by omega⟩, HH⟩
  case round =>
    obtain ⟨i, vn, rfl, HJ, HF⟩ := hrel
    obtain ⟨hj1, hj2⟩ := HJ.out
    have hzr := HF.out.hb.size
    have hlen := onceF_len (l.take i)
    have hlt : (l.take i).length ≤ 1000 := by rw [List.length_take]; omega
    have hg := HF.out.hg
    have c0 : wr.cell? ⟨w.heap.size + 1, 0, none⟩ = some vn := by rw [Lib.cell_of_heap hg]; rfl
    have c1 : wr.cell? ⟨w.heap.size + 1, 1, none⟩ = some (.map (some w.heap.size)) := by rw [Lib.cell_of_heap hg]; rfl
    have f0 : ∀ o, wr.frozen? ⟨w.heap.size + 1, o, none⟩ = false := fun o => Lib.frozen_of_heap hg o
    by_cases hi : i < l.length
    · obtain ⟨ad, hA, hcx⟩ := HR.out.at_ (i : Int) (by omega) (by omega)
      subst hA
      have hrd : rdOf ByteArray.empty l (i : Int) = l[i] := by simp [rd, rdOf, List.getD_eq_getElem?_getD, List.getElem?_eq_getElem hi]
      rw [hrd, Int.toNat_natCast] at hcx
      have hcx2 := (HF.out.hb.cell (World.block_lt_of_cell? w _ hcx)).trans hcx
      have hwf := HW.out l[i] (List.getElem_mem _)
      have hsn : onceF (l.take (i + 1)) = if l[i] ∈ onceF (l.take i) then onceF (l.take i) else onceF (l.take i) ++ [l[i]] := by rw [List.take_succ_eq_append_getElem hi, onceF_snoc]
      generalize l[i] = x at hcx2 hwf hsn
      have hlook := HF.out.hm.look x hwf
      have HSN := Aside0.mk hsn
      clear hcx hrd hsn hj2 hg
      by_cases hx : x ∈ onceF (l.take i)
      · have hd : decide (x ∈ onceF (l.take i)) = true := by simpa using hx
        rw [hd] at hlook
        have HX := Aside0.mk hx
        clear hx hd
        go_wp2
        go_roundg (gk - 1)
        case measure => have := HJ.out; omega
        case rel => exact ⟨i + 1, vn, by go_num, ⟨by omega, by have := HJ.out; omega⟩, ⟨by rw [HSN.out, if_pos HX.out]; exact HF.out⟩⟩
      · have hd : decide (x ∈ onceF (l.take i)) = false := by simpa using hx
        rw [hd] at hlook
        rw [if_neg hx] at HSN
        have HX := Aside0.mk hx
        clear hx hd
        generalize hacc : onceF (l.take i) = acc at *
        clear hacc
        have hlen2 : acc.length ≤ 1000 := by omega
        obtain ⟨An, cn, rfl⟩ := own_slice HF.out.hn
        go_wp2_with fail
        go_still_tail 10, (by kernel_rfl)
        change wpList _ _ _ _ _ wr.drew
        obtain ⟨w2, hrun, hone, hmap⟩ := MapIs.put (w := wr.drew) HF.out.hm hlen2 x hwf HX.out
        have hg2 : w2.heap[w.heap.size + 1]? = some (.cells #[.slice An acc.length cn, .map (some w.heap.size), .slice none 0 0, .slice none 0 0, .bool false] 68 (0, 0)) := (hone.block _ (by omega)).trans HF.out.hg
        have hn2 : w2.ownsRow w.heap.size 9 1 (.slice An acc.length cn) acc.length (strs acc) := Fx.own_heap HF.out.hn (fun k e => hone.block k (fun e' => by
          subst e'
          obtain ⟨D, ⟨es, clock, hb, _⟩, _⟩ := HF.out.hm
          rcases HF.out.hn.2 with ⟨h1, _⟩ | ⟨g', cap, cur, h1, _, h2, _⟩
          · rw [h1] at e; simp [Value.ownBlock] at e
          · rw [h1] at e
            have : g' = w.heap.size := by simpa [Value.ownBlock] using e
            rw [this, hb] at h2
            injection h2 with h2
            cases h2))
        have hb2 : Below w.heap.size w w2 := ⟨hone.os.trans HF.out.hb.os, hone.tape.trans HF.out.hb.tape, hone.output.trans HF.out.hb.output, by rw [hone.size]; exact hzr, fun k hk => (hone.block k (by omega)).trans (HF.out.hb.block k hk)⟩
        have HM2 := Aside0.mk hmap
        have HG2 := Aside0.mk hg2
        have HN2 := Aside0.mk hn2
        have HB2 := Aside0.mk hb2
        clear hone hmap hg2 hn2 hb2 hlook c0 c1 f0 HF hzr
        generalize wr.drew = W3 at hrun ⊢
        have c0 : w2.cell? ⟨w.heap.size + 1, 0, none⟩ = some (.slice An acc.length cn) := by rw [Lib.cell_of_heap HG2.out]; rfl
        have f0 : ∀ o, w2.frozen? ⟨w.heap.size + 1, o, none⟩ = false := fun o => Lib.frozen_of_heap HG2.out o
        have hz2 := HB2.out.size
        have hgne : Aside0 (some (w.heap.size + 1) ≠ (Value.slice An acc.length cn).ownBlock) := ⟨fun e => own_ne_of HN2.out HG2.out (by decide) e.symm⟩
        obtain ⟨i0, hi0, hiz, hi1, hi2⟩ := info_parts infoStr
        go_wp2_with (at_builtin; refine wpList_append_own _ rfl _ _ 43 rfl w.heap.size 9 i0 (.string ByteArray.empty) 1 16 Try.underlying43 hi0 hiz hi1 hi2 rfl (by decide) _ acc.length (strs acc) rfl (HN2.out.alloc _) ⟨w2.heap.size, 0, none⟩ 1 1 [.string x] rfl rfl (cell_one_new _ _ _) (by simp [Value.oneCell']) (by unfold maxLen; omega) (by omega) (by simp; omega) ?_; intro v' w3 hown' hgrow hnil; have c3 : w3.cell? ⟨w.heap.size + 1, 0, none⟩ = some (.slice An acc.length cn) := (hgrow.cell_far _ (by simp; have := (Array.getElem?_eq_some_iff.1 HG2.out).1; omega) hgne.out).trans ((World.cell?_of_block (Below.heap_alloc w2 _ _ (Array.getElem?_eq_some_iff.1 HG2.out).1)).trans c0); have f3 : w3.frozen? ⟨w.heap.size + 1, 0, none⟩ = false := (hgrow.frozen_far _ (by simp; have := (Array.getElem?_eq_some_iff.1 HG2.out).1; omega) hgne.out).trans ((World.frozen?_of_block (Below.heap_alloc w2 _ _ (Array.getElem?_eq_some_iff.1 HG2.out).1)).trans (f0 0)); obtain ⟨A', c', e'⟩ := own_slice hown'; subst e'; have HOWN := Aside0.mk hown'; have HGROW := Aside0.mk hgrow; clear hown' hgrow hnil)
        have hgl2 := (Array.getElem?_eq_some_iff.1 HG2.out).1
        have hmb : (Value.slice An acc.length cn).ownBlock ≠ some w.heap.size := fun e => by
          obtain ⟨D, ⟨es, clock, hb, _⟩, _⟩ := HM2.out
          rcases HN2.out.2 with ⟨h1, _⟩ | ⟨g', cap, cur, h1, _, h2, _⟩
          · rw [h1] at e; simp [Value.ownBlock] at e
          · rw [h1] at e
            have : g' = w.heap.size := by simpa [Value.ownBlock] using e
            rw [this, hb] at h2
            injection h2 with h2
            cases h2
        have hg3 : w3.heap[w.heap.size + 1]? = some (.cells #[.slice An acc.length cn, .map (some w.heap.size), .slice none 0 0, .slice none 0 0, .bool false] 68 (0, 0)) := by
          rw [HGROW.out.block _ (by simp; omega) hgne.out, Below.heap_alloc _ _ _ hgl2]; exact HG2.out
        have hh : Half w w.heap.size (w.heap.size + 1) w.heap.size (.slice A' (acc.length + 1) c') (acc ++ [x]) (w3.setCell ⟨w.heap.size + 1, 0, none⟩ (.slice A' (acc.length + 1) c')) := {
          hg := by rw [Fx.blk_set hg3]; rfl
          hn := by
            rw [List.length_append, strs_snoc]
            exact Fx.own_heap HOWN.out (fun k e => Below.heap_setCell _ ⟨w.heap.size + 1, 0, none⟩ _ k (fun e' => by
              subst e'
              exact own_ne_of HOWN.out hg3 (by decide) e))
          hm := HM2.out.heap (by
            rw [Below.heap_setCell _ ⟨w.heap.size + 1, 0, none⟩ _ _ (by show w.heap.size ≠ w.heap.size + 1; omega), HGROW.out.block _ (by simp; omega) (fun e => hmb e.symm), Below.heap_alloc _ _ _ (by omega)])
          hb := (((HB2.out.alloc hz2 _).grown HGROW.out (by simp; omega) (fun k hk => Go.Proofs.YtiljegeodokfmaaW.PrintWords.own_base HN2.out k hk))).setCell (p := ⟨w.heap.size + 1, 0, none⟩) (by simp) _ }
        have HH2 := Aside0.mk hh
        clear hh hg3 hmb
        go_roundg (gk - 1)
        case measure => have := HJ.out; omega
        case rel => exact ⟨i + 1, _, by go_num, ⟨by omega, by have := HJ.out; omega⟩, ⟨by rw [HSN.out]; exact HH2.out⟩⟩
    · obtain rfl : i = l.length := by omega
      rw [List.take_length] at *
      generalize hacc : onceF l = acc at *
      have hacc2 : acc.length ≤ 1000 := by omega
      obtain ⟨An, cn, rfl⟩ := own_slice HF.out.hn
      have c2 : wr.cell? ⟨w.heap.size + 1, 2, none⟩ = some (.slice none 0 0) := by rw [Lib.cell_of_heap hg]; rfl
      have hmk := run_make_row' (P := Try.prog) 55 22 (.slice none 0 0) 24 Try.underlying55 (by kernel_rfl) rfl .i64 .i64 acc.length (by omega) (by omega)
      have HACC := Aside0.mk hacc
      have hgl := (Array.getElem?_eq_some_iff.1 hg).1
      clear hg hj2 hi c1 hacc
      go_wp2
      have hg := HF.out.hg
      have hWz : ((wr.setCell ⟨w.heap.size + 1, 2, none⟩ (.slice (some ⟨wr.heap.size, 0, none⟩) acc.length acc.length)).alloc (.cells (madeCells #[.slice none 0 0] acc.length) 22)).heap.size = wr.heap.size + 1 := by simp
      have hkeep : ∀ x, x < wr.heap.size → x ≠ w.heap.size + 1 → ((wr.setCell ⟨w.heap.size + 1, 2, none⟩ (.slice (some ⟨wr.heap.size, 0, none⟩) acc.length acc.length)).alloc (.cells (madeCells #[.slice none 0 0] acc.length) 22)).heap[x]? = wr.heap[x]? := fun x hx hn => by
        rw [Below.heap_alloc _ _ _ (by simpa using hx)]
        exact Below.heap_setCell _ ⟨w.heap.size + 1, 2, none⟩ _ x hn
      have hbel : Below w.heap.size w ((wr.setCell ⟨w.heap.size + 1, 2, none⟩ (.slice (some ⟨wr.heap.size, 0, none⟩) acc.length acc.length)).alloc (.cells (madeCells #[.slice none 0 0] acc.length) 22)) := (HF.out.hb.setCell (p := ⟨w.heap.size + 1, 2, none⟩) (by simp) _).alloc (by simp; exact hzr) _
      have hnn : ∀ k, (Value.slice An acc.length cn).ownBlock = some k → w.heap.size ≤ k ∧ k < wr.heap.size ∧ k ≠ w.heap.size + 1 := fun k e => ⟨Go.Proofs.YtiljegeodokfmaaW.PrintWords.own_base HF.out.hn k e, own_lt HF.out.hn k e, fun e' => by subst e'; exact own_ne_of HF.out.hn hg (by decide) e⟩
      have hrep : ∀ (i : Nat) (u : Value), (List.replicate acc.length (Value.slice none 0 0))[i]? = some u → u = .slice none 0 0 := fun i u hu => by
        rw [List.getElem?_replicate] at hu
        split at hu
        · exact (Option.some.inj hu).symm
        · cases hu
      refine bodyPost_ret (v := .pointer (some ⟨w.heap.size + 1, 0, none⟩)) (by simp [results, Try.results20, go_sem]) rfl ⟨w.heap.size + 1, rfl, ?_, hbel⟩
      rw [HACC.out]
      refine ⟨_, w.heap.size, wr.heap.size, _, List.replicate acc.length (.slice none 0 0), {
        hN := hacc2
        sB := fun k hk => ⟨hk.1, hk.2⟩
        hg := by
          rw [Below.heap_alloc _ _ _ (by simp; exact hgl), Fx.blk_set hg]; rfl
        sg := ⟨by omega, by rw [hWz]; omega⟩
        sm := ⟨Nat.le_refl _, by rw [hWz]; omega⟩
        st := ⟨hzr, by rw [hWz]; omega⟩
        hn := Fx.own_heap (own_lower HF.out.hn (Nat.zero_le _)) (fun k e => hkeep k (hnn k e).2.1 (hnn k e).2.2)
        sn := fun k e => ⟨(hnn k e).1, by rw [hWz]; have := (hnn k e).2.1; omega⟩
        hm := HF.out.hm.heap (hkeep _ (by omega) (by omega))
        hbt := by
          have := heap_alloc_new (wr.setCell ⟨w.heap.size + 1, 2, none⟩ (.slice (some ⟨wr.heap.size, 0, none⟩) acc.length acc.length)) (.cells (madeCells #[.slice none 0 0] acc.length) 22)
          rw [World.size_setCell, made_nil] at this
          rw [made_nil]; exact this
        vlen := by simp
        rows := fun i u hu => by
          obtain rfl := hrep i u hu
          exact ⟨own_nil _ _ _ _, fun k e => by simp [Value.ownBlock] at e⟩
        apart := fun i j u v _ hu _ k e => by
          obtain rfl := hrep i u hu
          simp [Value.ownBlock] at e
        small := fun i n hn => by cases hn
        len := fun i => by simp
        sets := fun m hm => by cases hm }⟩
end Go.Proofs.Ytiljegeodokfmaa.Fs

namespace Go.Proofs.Ytiljegeodokfmaa.Fs
open Go Go.RowKit Go.Proofs.YtiljegeodokfmaaW.PrintWords Go.Proofs.YtiljegeodokfmaaW.PrintLast Go.Proofs.YtiljegeodokfmaaW.PrintMore Go.Proofs.Ytiljegeodokfmaa.Fx
set_option linter.unusedVariables false
set_option linter.unusedSimpArgs false

/-- Where some keys stand that are there. -/
def idxs (ns : List ByteArray) (l : List ByteArray) : List Nat := (l.filter fun k => decide (k ∈ ns)).map fun k => ns.idxOf k
theorem idxs_snoc (ns l : List ByteArray) (k : ByteArray) : idxs ns (l ++ [k]) = if k ∈ ns then idxs ns l ++ [ns.idxOf k] else idxs ns l := by
  unfold idxs
  rw [List.filter_append]
  by_cases h : k ∈ ns
  · simp [h]
  · simp [h]
def leadF (ns : List ByteArray) (tq : Nat → List Nat) (i : Nat) (l : List ByteArray) : Nat → List Nat := fun x => if x = i then tq i ++ idxs ns l else tq x

/-- The graph while what it leads to is told: as GP, whatever the sets. -/
structure GQ (B : Nat) (S : Nat → Prop) (g : Nat) (vn : Value) (bm bt : Nat) (vs sol : Value) (vts : List Value) (ns : List ByteArray) (tq : Nat → List Nat) (w : World) : Prop where
  hN : ns.length ≤ 1000
  sB : ∀ k, S k → B ≤ k ∧ k < w.heap.size
  hg : w.heap[g]? = some (.cells #[vn, .map (some bm), .slice (some ⟨bt, 0, none⟩) ns.length ns.length, vs, sol] 68 (0, 0))
  sg : S g
  sm : S bm
  st : S bt
  hn : w.ownsRow 0 9 1 vn ns.length (strs ns)
  sn : ∀ k, vn.ownBlock = some k → S k
  hm : MapIs w bm ns
  hbt : w.heap[bt]? = some (.cells vts.toArray 22 (0, 0))
  vlen : vts.length = ns.length
  rows : ∀ (i : Nat) (u : Value), vts[i]? = some u → w.ownsRow 0 3 1 u (tq i).length (nums .i64 ((tq i).map fun n : Nat => (n : Int))) ∧ ∀ k, u.ownBlock = some k → S k ∧ vn.ownBlock ≠ some k
  apart : ∀ (i j : Nat) (u v : Value), i ≠ j → vts[i]? = some u → vts[j]? = some v → ∀ k, u.ownBlock = some k → v.ownBlock ≠ some k
  small : ∀ i n, n ∈ tq i → n < ns.length
theorem GP.q {B : Nat} {S : Nat → Prop} {g : Nat} {vn : Value} {bm bt : Nat} {vs : Value} {vts : List Value} {ns : List ByteArray} {tq : Nat → List Nat} {sv : Option M} {w : World} (h : GP B S g vn bm bt vs vts ns tq sv w) : GQ B S g vn bm bt vs (.bool sv.isSome) vts ns tq w :=
  have ha : ∀ (i j : Nat) (u v : Value), i ≠ j → vts[i]? = some u → vts[j]? = some v → ∀ k, u.ownBlock = some k → v.ownBlock ≠ some k := by
    intro i j u v hij hu hv k e
    rcases Nat.lt_or_gt_of_ne hij with h1 | h1
    · exact h.apart i j u v h1 hu hv k e
    · exact fun e' => h.apart j i v u h1 hv hu k e' e
  { h with apart := ha }

theorem GQ.mono {B : Nat} {S S2 : Nat → Prop} {g : Nat} {vn : Value} {bm bt : Nat} {vs sol : Value} {vts : List Value} {ns : List ByteArray} {tq : Nat → List Nat} {w : World} (h : GQ B S g vn bm bt vs sol vts ns tq w) (hS : ∀ k, S k → S2 k) (hS2 : ∀ k, S2 k → B ≤ k ∧ k < w.heap.size) : GQ B S2 g vn bm bt vs sol vts ns tq w :=
  { h with sB := hS2, sg := hS g h.sg, sm := hS bm h.sm, st := hS bt h.st, sn := fun k e => hS k (h.sn k e), rows := fun i u hu => ⟨(h.rows i u hu).1, fun k e => ⟨hS k ((h.rows i u hu).2 k e).1, ((h.rows i u hu).2 k e).2⟩⟩ }
theorem leadF_nil (ns : List ByteArray) (tq : Nat → List Nat) (i : Nat) : leadF ns tq i [] = tq := by
  funext x; unfold leadF; split
  · rename_i h; subst h; simp [idxs]
  · rfl
/-- A number stands behind a row. -/
theorem GQ.grow {B : Nat} {S : Nat → Prop} {g : Nat} {vn : Value} {bm bt : Nat} {vs sol : Value} {vts : List Value} {ns : List ByteArray} {tq : Nat → List Nat} {w w1 : World} {o : Obj} {i n : Nat} {u v1 : Value} {S2 : Nat → Prop}
    (h : GQ B S g vn bm bt vs sol vts ns tq w) (hB : B ≤ w.heap.size) (hu : vts[i]? = some u) (hn : n < ns.length) (hg : (w.alloc o).grownBy w1 u.ownBlock)
    (ho : w1.ownsRow 0 3 1 v1 ((tq i).length + 1) (nums .i64 ((tq i).map fun n : Nat => (n : Int)) ++ [.int .i64 n])) (hat : ∀ k, v1.ownBlock = some k → (u.ownBlock = some k ∨ w.heap.size ≤ k) ∧ k < w1.heap.size)
    (hS : ∀ k, S k → S2 k) (hS1 : ∀ k, v1.ownBlock = some k → S2 k) (hS2 : ∀ k, S2 k → B ≤ k ∧ k < w1.heap.size) :
    GQ B S2 g vn bm bt vs sol (vts.set i v1) ns (fun x => if x = i then tq i ++ [n] else tq x) (w1.setCell ⟨bt, i, none⟩ v1) ∧ Ch B S w (w1.setCell ⟨bt, i, none⟩ v1) := by
  have hru := (h.rows i u hu).1
  have hsame : ∀ x, x < w.heap.size → u.ownBlock ≠ some x → w1.heap[x]? = w.heap[x]? := fun x hx hne => by
    rw [hg.block x (by simp; omega) (fun e => hne e.symm), Below.heap_alloc _ _ _ hx]
  have hgl := (h.sB g h.sg).2
  have hml := (h.sB bm h.sm).2
  have htl := (h.sB bt h.st).2
  have hug : u.ownBlock ≠ some g := own_ne_of hru h.hg (by decide)
  have hut : u.ownBlock ≠ some bt := own_ne_of hru h.hbt (by decide)
  have hum : u.ownBlock ≠ some bm := fun e => by
    obtain ⟨D, ⟨es, clock, hb, _⟩, _⟩ := h.hm
    rcases hru.2 with ⟨h1, _⟩ | ⟨g', cap, cur, h1, _, h2, _⟩
    · rw [h1] at e; simp [Value.ownBlock] at e
    · rw [h1] at e
      have : g' = bm := by simpa [Value.ownBlock] using e
      rw [this, hb] at h2
      injection h2 with h2
      cases h2
  have hgt : g ≠ bt := fun e => by
    have h1 := h.hbt
    rw [← e, h.hg] at h1
    injection h1 with h1; injection h1 with _ h2; exact absurd h2 (by decide)
  have hmt : bm ≠ bt := fun e => by
    obtain ⟨D, ⟨es, clock, hb, _⟩, _⟩ := h.hm
    rw [e, h.hbt] at hb
    injection hb with hb
    cases hb
  have hfar : ∀ x, x < w.heap.size → u.ownBlock ≠ some x → x ≠ bt → (w1.setCell ⟨bt, i, none⟩ v1).heap[x]? = w.heap[x]? := fun x hx h1 h2 => (Below.heap_setCell _ ⟨bt, i, none⟩ _ x h2).trans (hsame x hx h1)
  have hnot : ∀ k, vn.ownBlock = some k → k ≠ bt := fun k e e' => by subst e'; exact own_ne_of h.hn h.hbt (by decide) e
  refine ⟨{
    hN := h.hN
    sB := fun k hk => by have := hS2 k hk; simpa using this
    hg := (hfar g hgl hug hgt).trans h.hg
    sg := hS g h.sg
    sm := hS bm h.sm
    st := hS bt h.st
    hn := Fx.own_heap h.hn (fun k e => hfar k (h.sB k (h.sn k e)).2 (fun e' => ((h.rows i u hu).2 k e').2 e) (hnot k e))
    sn := fun k e => hS k (h.sn k e)
    hm := h.hm.heap (hfar bm hml hum hmt)
    hbt := by
      rw [Fx.blk_set ((hsame bt htl hut).trans h.hbt)]
      simp
    vlen := by rw [List.length_set]; exact h.vlen
    rows := fun j v hv => ?_
    apart := fun a b x y hab hx hy k e => ?_
    small := fun x y hy => by
      split at hy
      · rcases List.mem_append.1 hy with hy | hy
        · exact h.small i y hy
        · obtain rfl := List.mem_singleton.1 hy; exact hn
      · exact h.small x y hy }, ?_⟩
  · rw [List.getElem?_set] at hv
    by_cases hj : i = j
    · subst hj
      rw [if_pos rfl] at hv
      split at hv
      · obtain rfl := Option.some.inj hv
        refine ⟨?_, fun k e => ⟨hS1 k e, fun e' => ?_⟩⟩
        · rw [if_pos rfl, List.length_append, List.map_append]
          have hx := Fx.own_heap ho (w' := w1.setCell ⟨bt, i, none⟩ v1) (fun k e => Below.heap_setCell _ ⟨bt, i, none⟩ _ k (fun e' => own_ne_of ho ((hsame bt htl hut).trans h.hbt) (by decide) ((show k = bt from e') ▸ e)))
          simpa [nums] using hx
        · rcases (hat k e).1 with h1 | h1
          · exact ((h.rows i u hu).2 k h1).2 e'
          · have := (h.sB k (h.sn k e')).2; omega
      · cases hv
    · rw [if_neg hj] at hv
      rw [if_neg (fun e => hj e.symm)]
      obtain ⟨r1, r2⟩ := h.rows j v hv
      exact ⟨Fx.own_heap r1 (fun k e => hfar k (h.sB k (r2 k e).1).2 (fun e' => h.apart i j u v hj hu hv k e' e) (fun e' => own_ne_of r1 h.hbt (by decide) ((show k = bt from e') ▸ e))), fun k e => ⟨hS k (r2 k e).1, (r2 k e).2⟩⟩
  · rw [List.getElem?_set] at hx hy
    by_cases ha : i = a <;> by_cases hb : i = b
    · omega
    · rw [if_pos ha] at hx
      rw [if_neg hb] at hy
      split at hx
      · obtain rfl := Option.some.inj hx
        intro e'
        rcases (hat k e).1 with h1 | h1
        · exact h.apart i b u y hb hu hy k h1 e'
        · have := (h.sB k ((h.rows b y hy).2 k e').1).2; omega
      · cases hx
    · rw [if_neg ha] at hx
      rw [if_pos hb] at hy
      split at hy
      · obtain rfl := Option.some.inj hy
        intro e'
        rcases (hat k e').1 with h1 | h1
        · exact h.apart i a u x ha hu hx k h1 e
        · have := (h.sB k ((h.rows a x hx).2 k e).1).2; omega
      · cases hy
    · rw [if_neg ha] at hx
      rw [if_neg hb] at hy
      exact h.apart a b x y hab hx hy k e
  · refine ⟨(((Below.refl B w).alloc hB o).grown hg (by simp; omega) (fun k hk => (h.sB k ((h.rows i u hu).2 k hk).1).1)).setCell (p := ⟨bt, i, none⟩) (h.sB bt h.st).1 _, fun x hx hne => ?_⟩
    exact hfar x hx (fun e => hne ((h.rows i u hu).2 x e).1) (fun e => hne (e ▸ h.st))

theorem lead_nil (x : ByteArray) (A : Option Addr) (n c : Nat) (w : World) : Calls Try.prog 21 #[.pointer none, .string x, .slice A n c] w fun e w' => e = .returned (.int .i64 2) ∧ w' = w := by
  go_enter Try.func21, Try.ntmps21
  go_wp2
  go_ret
  exact ⟨rfl, rfl⟩
theorem lead_none (B : Nat) (S : Nat → Prop) (g : Nat) (ns : List ByteArray) (tq : Nat → List Nat) (sv : Option M) (x : ByteArray) (hx : x.size ≤ 9223372036854775807) (hn : x ∉ ns) (A : Option Addr) (n c : Nat) (w : World) (h : G B S g ns tq sv w) :
    Calls Try.prog 21 #[.pointer (some ⟨g, 0, none⟩), .string x, .slice A n c] w fun e w' => e = .returned (.int .i64 3) ∧ w' = w := by
  obtain ⟨vn, bm, bt, vs, vts, h⟩ := h
  have c1 : w.cell? ⟨g, 1, none⟩ = some (.map (some bm)) := by rw [Lib.cell_of_heap h.hg]; rfl
  have hl := h.hm.look x hx
  rw [show decide (x ∈ ns) = false by simpa using hn] at hl
  clear h hn
  go_enter Try.func21, Try.ntmps21
  go_wp2
  go_ret
  exact ⟨rfl, rfl⟩

def LeadPost (B : Nat) (S : Nat → Prop) (g : Nat) (ns : List ByteArray) (tq : Nat → List Nat) (w : World) (e : Ending) (w' : World) : Prop :=
  e = .returned (.int .i64 0) ∧ G B (fun k => S k ∨ (w.heap.size ≤ k ∧ k < w'.heap.size)) g ns tq none w' ∧ Ch B S w w'
set_option maxHeartbeats 4000000 in
set_option maxRecDepth 100000 in
theorem lead_some (B : Nat) (S : Nat → Prop) (g : Nat) (ns : List ByteArray) (tq : Nat → List Nat) (sv : Option M) (x : ByteArray) (hx : x.size ≤ 9223372036854775807) (hn : x ∈ ns) (A : Option Addr) (c : Nat) (l : List ByteArray) (w : World) (h : G B S g ns tq sv w) (hB : B ≤ w.heap.size) (hl : ∀ W', Ch B S w W' → ReadsStr W' A l.length l) (hw : ∀ y ∈ l, y.size ≤ 9223372036854775807) (hlen : ∀ i, (tq i).length + l.length ≤ 1000000) :
    Calls Try.prog 21 #[.pointer (some ⟨g, 0, none⟩), .string x, .slice A l.length c] w (LeadPost B S g ns (leadF ns tq (ns.idxOf x) l) w) := by
  obtain ⟨vn, bm, bt, vs, vts, h⟩ := h
  have c1 : w.cell? ⟨g, 1, none⟩ = some (.map (some bm)) := by rw [Lib.cell_of_heap h.hg]; rfl
  have hlk := h.hm.look x hx
  rw [show decide (x ∈ ns) = true by simpa using hn, show at_ ns x = ((ns.idxOf x : Nat) : Int) by simp [at_, hn]] at hlk
  have hi : ns.idxOf x < ns.length := List.idxOf_lt_length_of_mem hn
  generalize ns.idxOf x = i at hlk hi ⊢
  have hl0 := hl w (Ch.refl _ _ _)
  have hll : l.length ≤ 9223372036854775807 := hl0.2.1
  have hQ := h.q
  have hlens := h.len
  have HQ := Aside0.mk hQ
  have HL := Aside0.mk hl
  have HW := Aside0.mk hw
  have HLEN := Aside0.mk hlen
  have hN := h.hN
  generalize sv.isSome = sb at HQ
  clear h hl hw hlen hQ hn hl0 hlens
  go_enter Try.func21, Try.ntmps21
  go_wp2_with fail
  clear hlk c1
  go_loopg [28] l.length (fun kq v28 w' => ∃ (j : Nat) (vts' : List Value), v28 = .int .i64 j ∧ Aside0 (j ≤ l.length ∧ kq = l.length - j) ∧ Aside0 (GQ B (fun k => S k ∨ (w.heap.size ≤ k ∧ k < w'.heap.size)) g vn bm bt vs (.bool sb) vts' ns (leadF ns tq i (l.take j)) w') ∧ Aside0 (Ch B S w w'))
  case atStart => exact ⟨0, vts, rfl, ⟨by omega, by omega⟩, ⟨by rw [List.take_zero, leadF_nil]; exact HQ.out.mono (fun k h => .inl h) (fun k h => h.elim (HQ.out.sB k) (fun h => ⟨by omega, h.2⟩))⟩, ⟨Ch.refl _ _ _⟩⟩
  case round =>
    obtain ⟨j, vts', rfl, HJ, HF, HC⟩ := hrel
    obtain ⟨hj1, hj2⟩ := HJ.out
    have hzr := HC.out.below.size
    have hg := HF.out.hg
    have c1 : wr.cell? ⟨g, 1, none⟩ = some (.map (some bm)) := by rw [Lib.cell_of_heap hg]; rfl
    have c2 : wr.cell? ⟨g, 2, none⟩ = some (.slice (some ⟨bt, 0, none⟩) ns.length ns.length) := by rw [Lib.cell_of_heap hg]; rfl
    by_cases hj : j < l.length
    · obtain ⟨ad, hA, hcx⟩ := (HL.out wr HC.out).at_ (j : Int) (by omega) (by omega)
      subst hA
      have hrd : rdOf ByteArray.empty l (j : Int) = l[j] := by simp [rd, rdOf, List.getD_eq_getElem?_getD, List.getElem?_eq_getElem hj]
      rw [hrd, Int.toNat_natCast] at hcx
      have hwf := HW.out l[j] (List.getElem_mem _)
      have hsn : idxs ns (l.take (j + 1)) = if l[j] ∈ ns then idxs ns (l.take j) ++ [ns.idxOf l[j]] else idxs ns (l.take j) := by rw [List.take_succ_eq_append_getElem hj, idxs_snoc]
      generalize l[j] = y at hcx hwf hsn
      have hlook := HF.out.hm.look y hwf
      have HSN := Aside0.mk hsn
      clear hrd hsn hj2 hg
      by_cases hy : y ∈ ns
      · rw [show decide (y ∈ ns) = true by simpa using hy, show at_ ns y = ((ns.idxOf y : Nat) : Int) by simp [at_, hy]] at hlook
        rw [if_pos hy] at HSN
        have hnl : ns.idxOf y < ns.length := List.idxOf_lt_length_of_mem hy
        generalize ns.idxOf y = n at hlook HSN hnl
        clear hy
        obtain ⟨u, hu⟩ : ∃ u, vts'[i]? = some u := ⟨_, List.getElem?_eq_getElem (by rw [HF.out.vlen]; exact hi)⟩
        have hrow := (HF.out.rows i u hu).1
        have ci : wr.cell? ⟨bt, i, none⟩ = some u := by rw [Lib.cell_of_heap HF.out.hbt]; simpa using hu
        have cfi : wr.frozen? ⟨bt, i, none⟩ = false := Lib.frozen_of_heap HF.out.hbt i
        have hgl := (HF.out.sB g HF.out.sg).2
        have htl := (HF.out.sB bt HF.out.st).2
        have hne : Aside0 (some bt ≠ u.ownBlock) := ⟨fun e => own_ne_of hrow HF.out.hbt (by decide) e.symm⟩
        have hneg : Aside0 (some g ≠ u.ownBlock) := ⟨fun e => own_ne_of hrow HF.out.hg (by decide) e.symm⟩
        have hlenr : (leadF ns tq i (l.take j) i).length ≤ 1000000 := by
          have h1 : leadF ns tq i (l.take j) i = tq i ++ idxs ns (l.take j) := by simp [leadF]
          have h2 : (idxs ns (l.take j)).length ≤ l.length := by
            unfold idxs
            rw [List.length_map]
            exact Nat.le_trans (List.length_filter_le _ _) (by rw [List.length_take]; omega)
          rw [h1, List.length_append]
          have := HLEN.out i
          omega
        have hm : (leadF ns tq i (l.take j) i).length + 1 ≤ maxLen := by unfold maxLen; omega
        have HROW := Aside0.mk hrow
        have HU := Aside0.mk hu
        clear hrow hu
        obtain ⟨i0, hi0, hz0, hz1, hz2⟩ := info_parts infoInt
        go_wp2_with fail
        refine start_ (n := 17) (S := fun w' => w'.cell? ⟨g, 2, none⟩ = some (.slice (some ⟨bt, 0, none⟩) ns.length ns.length) ∧ w'.cell? ⟨bt, i, none⟩ = some u) (ds := [16]) #[false, false, false, false, false, false, false, false, false, false, false, false, false, false, false, false, false] (by kernel_rfl) rfl rfl ⟨c2, ci⟩ (fun hHeld => ?_)
        refine pure_ (i := 0) (N := some 42) (v := ?_) (a' := ?_) #[true, false, false, false, false, false, false, false, false, false, false, false, false, false, false, false, false] rfl rfl (by kernel_rfl) (fun _ _ _ h => h) (Or.inl ⟨by rfl, ?_⟩) ?_ ?_
        rotate_left
        · intro w'
          go_simp
          with_reducible rfl
        rotate_left
        · simp only [Act.put, List.setIfInBounds_toArray, List.set_cons_zero, List.set_cons_succ, i64_w, i32_w]
          rfl
        refine pure_ (i := 1) (N := some 43) (v := ?_) (a' := ?_) #[true, true, false, false, false, false, false, false, false, false, false, false, false, false, false, false, false] rfl rfl (by kernel_rfl) (fun _ _ _ h => h) (Or.inl ⟨by rfl, ?_⟩) ?_ ?_
        rotate_left
        · intro w'
          go_simp
          with_reducible rfl
        rotate_left
        · simp only [Act.put, List.setIfInBounds_toArray, List.set_cons_zero, List.set_cons_succ, i64_w, i32_w]
          rfl
        refine pure_ (i := 2) (N := some 44) (v := ?_) (a' := ?_) #[true, true, true, false, false, false, false, false, false, false, false, false, false, false, false, false, false] rfl rfl (by kernel_rfl) (fun _ _ _ h => h) (Or.inl ⟨by rfl, ?_⟩) ?_ ?_
        rotate_left
        · intro w'
          go_simp
          with_reducible rfl
        rotate_left
        · simp only [Act.put, List.setIfInBounds_toArray, List.set_cons_zero, List.set_cons_succ, i64_w, i32_w]
          rfl
        refine pure_ (i := 4) (N := some 46) (v := ?_) (a' := ?_) #[true, true, true, false, true, false, false, false, false, false, false, false, false, false, false, false, false] rfl rfl (by kernel_rfl) (fun _ _ _ h => h) (Or.inl ⟨by rfl, ?_⟩) ?_ ?_
        rotate_left
        · intro w'
          go_simp
          with_reducible rfl
        rotate_left
        · simp only [Act.put, List.setIfInBounds_toArray, List.set_cons_zero, List.set_cons_succ, i64_w, i32_w]
          rfl
        refine pure_ (i := 5) (N := some 47) (v := ?_) (a' := ?_) #[true, true, true, false, true, true, false, false, false, false, false, false, false, false, false, false, false] rfl rfl (by kernel_rfl) (fun _ _ _ h => h) (Or.inl ⟨by rfl, ?_⟩) ?_ ?_
        rotate_left
        · intro w'
          go_simp
          with_reducible rfl
        rotate_left
        · simp only [Act.put, List.setIfInBounds_toArray, List.set_cons_zero, List.set_cons_succ, i64_w, i32_w]
          rfl
        refine pure_ (i := 6) (N := some 48) (v := ?_) (a' := ?_) #[true, true, true, false, true, true, true, false, false, false, false, false, false, false, false, false, false] rfl rfl (by kernel_rfl) (fun _ _ _ h => h) (Or.inl ⟨by rfl, ?_⟩) ?_ ?_
        rotate_left
        · intro w'
          go_simp
          with_reducible rfl
        rotate_left
        · simp only [Act.put, List.setIfInBounds_toArray, List.set_cons_zero, List.set_cons_succ, i64_w, i32_w]
          rfl
        refine pure_ (i := 7) (N := some 49) (v := ?_) (a' := ?_) #[true, true, true, false, true, true, true, true, false, false, false, false, false, false, false, false, false] rfl rfl (by kernel_rfl) (fun _ _ _ h => h) (Or.inl ⟨by rfl, ?_⟩) ?_ ?_
        rotate_left
        · intro w'
          go_simp
          with_reducible rfl
        rotate_left
        · simp only [Act.put, List.setIfInBounds_toArray, List.set_cons_zero, List.set_cons_succ, i64_w, i32_w]
          rfl
        refine pure_ (i := 9) (N := some 51) (v := ?_) (a' := ?_) #[true, true, true, false, true, true, true, true, false, true, false, false, false, false, false, false, false] rfl rfl (by kernel_rfl) (fun _ _ _ h => h) (Or.inl ⟨by rfl, ?_⟩) ?_ ?_
        rotate_left
        · intro w'
          go_simp
          with_reducible rfl
        rotate_left
        · simp only [Act.put, List.setIfInBounds_toArray, List.set_cons_zero, List.set_cons_succ, i64_w, i32_w]
          rfl
        refine pure_ (i := 12) (N := some 54) (v := ?_) (a' := ?_) #[true, true, true, false, true, true, true, true, false, true, false, false, true, false, false, false, false] rfl rfl (by kernel_rfl) (fun _ _ _ h => h) (Or.inl ⟨by rfl, ?_⟩) ?_ ?_
        rotate_left
        · intro w'
          go_simp
          with_reducible rfl
        rotate_left
        · simp only [Act.put, List.setIfInBounds_toArray, List.set_cons_zero, List.set_cons_succ, i64_w, i32_w]
          rfl
        refine take_ (i := 3) (N := some 45) (v := ?_) (a' := ?_) #[true, true, true, true, true, true, true, true, false, true, false, false, true, false, false, false, false] rfl rfl (by kernel_rfl) (fun _ _ _ h => h) (Or.inl ⟨by rfl, ?_⟩) hHeld ?_ ?_
        rotate_left
        · rintro w' ⟨s0, s1⟩
          go_simp
          with_reducible rfl
        rotate_left
        · simp only [Act.put, List.setIfInBounds_toArray, List.set_cons_zero, List.set_cons_succ, i64_w, i32_w]
          rfl
        refine take_ (i := 8) (N := some 50) (v := ?_) (a' := ?_) #[true, true, true, true, true, true, true, true, true, true, false, false, true, false, false, false, false] rfl rfl (by kernel_rfl) (fun _ _ _ h => h) (Or.inl ⟨by rfl, ?_⟩) hHeld ?_ ?_
        rotate_left
        · rintro w' ⟨s0, s1⟩
          go_simp
          with_reducible rfl
        rotate_left
        · simp only [Act.put, List.setIfInBounds_toArray, List.set_cons_zero, List.set_cons_succ, i64_w, i32_w]
          rfl
        refine pure_ (i := 10) (N := some 52) (v := ?_) (a' := ?_) #[true, true, true, true, true, true, true, true, true, true, true, false, true, false, false, false, false] rfl rfl (by kernel_rfl) (fun _ _ _ h => h) (Or.inl ⟨by rfl, ?_⟩) ?_ ?_
        rotate_left
        · intro w'
          go_simp
          with_reducible rfl
        rotate_left
        · simp only [Act.put, List.setIfInBounds_toArray, List.set_cons_zero, List.set_cons_succ, i64_w, i32_w]
          rfl
        refine take_ (i := 11) (N := some 53) (v := ?_) (a' := ?_) #[true, true, true, true, true, true, true, true, true, true, true, true, true, false, false, false, false] rfl rfl (by kernel_rfl) (fun _ _ _ h => h) (Or.inl ⟨by rfl, ?_⟩) hHeld ?_ ?_
        rotate_left
        · rintro w' ⟨s0, s1⟩
          go_simp
          with_reducible rfl
        rotate_left
        · simp only [Act.put, List.setIfInBounds_toArray, List.set_cons_zero, List.set_cons_succ, i64_w, i32_w]
          rfl
        refine one_ (i := 13) (N := some 55) #[true, true, true, true, true, true, true, true, true, true, true, true, true, true, false, false, false] rfl rfl (by kernel_rfl) (by decide) (fun K hK => ?_)
        refine value_ (w1 := ?_) (v := ?_) (by rfl) rfl ?_ ?_
        rotate_left 2
        · go_simp
          constructor
          · rfl
          · rfl
        refine hK.out _ _ ⟨cel_alloc hgl c2 _, cel_alloc htl ci _⟩ (fun hHeld => ?_)
        clear hK K
        refine norm_ (a' := ?_) ?_ ?_
        rotate_left
        · show Act.put _ (some 55) _ = _
          simp only [Act.put, List.setIfInBounds_toArray, List.set_cons_zero, List.set_cons_succ, i64_w, i32_w]
          rfl
        refine one_ (i := 14) (N := some 56) #[true, true, true, true, true, true, true, true, true, true, true, true, true, true, true, false, false] rfl rfl (by kernel_rfl) (by decide) (fun K hK => ?_)
        refine step_append_lies _ (by rfl) _ _ _ (by rfl) 0 3 i0 _ 1 8 Try.underlying22 hi0 hz0 hz1 hz2 rfl (by omega) u (leadF ns tq i (l.take j) i).length (nums .i64 ((leadF ns tq i (l.take j) i).map fun n : Nat => (n : Int))) (by rfl) (HROW.out.alloc _) ⟨wr.heap.size, 0, none⟩ 1 1 [.int .i64 n] (by rfl) (by rfl) (World.news_of_block (cs := #[.int .i64 n]) (t := 3) (fr := (0, 0)) (heap_alloc_new wr _)) (by simp [Value.oneCell']) (by omega) hm (by omega) (by simp) (wr.heap.size + 1) (by simp) ?_
        intro gg cap w1 hown1 hgrow hat hlt1
        have hf1 : w1.frozen? ⟨bt, i, none⟩ = false := (hgrow.frozen_far _ (by simp; omega) hne.out).trans (frz_alloc htl cfi _)
        have hd3 : w1.cell? ⟨bt, i, none⟩ = some u := (hgrow.cell_far _ (by simp; omega) hne.out).trans (cel_alloc htl ci _)
        refine hK.out _ _ ⟨(hgrow.cell_far _ (by simp; omega) hneg.out).trans (cel_alloc hgl c2 _), hd3⟩ (fun hHeld => ?_)
        clear hK K
        refine norm_ (a' := ?_) ?_ ?_
        rotate_left
        · show Act.put _ (some 56) _ = _
          simp only [Act.put, List.setIfInBounds_toArray, List.set_cons_zero, List.set_cons_succ, i64_w, i32_w]
          rfl
        refine pure_ (i := 15) (N := some 57) (v := ?_) (a' := ?_) #[true, true, true, true, true, true, true, true, true, true, true, true, true, true, true, true, false] rfl rfl (by kernel_rfl) (fun _ _ _ h => h) (Or.inl ⟨by rfl, ?_⟩) ?_ ?_
        rotate_left
        · intro w'
          go_simp
          with_reducible rfl
        rotate_left
        · simp only [Act.put, List.setIfInBounds_toArray, List.set_cons_zero, List.set_cons_succ, i64_w, i32_w]
          rfl
        refine last_ (i := 16) (N := none) #[true, true, true, true, true, true, true, true, true, true, true, true, true, true, true, true, true] rfl rfl (by kernel_rfl) (by decide) (fun K hK => ?_)
        refine skip_ (w1 := ?_) (by rfl) rfl ?_ ?_
        rotate_left
        · go_simp
          rfl
        refine hK.out _ _ ?_
        clear hK K
        refine done_ (by kernel_rfl) ?_
        have hgp := grown_plain hgrow
        have hz1' : wr.heap.size < w1.heap.size := by have := hgp.size; simp at this; omega
        obtain ⟨q1, q2⟩ := HF.out.grow (S2 := fun k => S k ∨ (w.heap.size ≤ k ∧ k < w1.heap.size)) (by omega) HU.out hnl hgp hown1
          (fun k e => by
            have : gg = k := by simpa [Value.ownBlock] using e
            subst this
            exact ⟨hat.imp id (fun e' => by omega), hlt1⟩)
          (fun k hk => hk.imp id (fun hk => ⟨hk.1, by omega⟩))
          (fun k e => by
            have : gg = k := by simpa [Value.ownBlock] using e
            subst this
            rcases hat with h1 | h1
            · exact ((HF.out.rows i u HU.out).2 gg h1).1.imp id (fun hk => ⟨hk.1, by omega⟩)
            · exact .inr ⟨by omega, hlt1⟩)
          (fun k hk => by
            rcases hk with hk | hk
            · have := HQ.out.sB k hk; exact ⟨this.1, by omega⟩
            · exact ⟨by omega, hk.2⟩)
        have Q1 := Aside0.mk q1
        have Q2 := Aside0.mk q2
        have hlf : leadF ns tq i (l.take (j + 1)) = fun x => if x = i then leadF ns tq i (l.take j) i ++ [n] else leadF ns tq i (l.take j) x := by
          funext x
          unfold leadF
          rw [HSN.out]
          by_cases hx : x = i
          · simp [hx]
          · simp [hx]
        have HLF := Aside0.mk hlf
        clear q1 q2 hlf hgp hgrow hown1 hat hlt1 hf1 hd3
        go_wp2
        go_roundg (gk - 1)
        case measure => have := HJ.out; omega
        case rel => exact ⟨j + 1, _, by go_num, ⟨by omega, by have := HJ.out; omega⟩, ⟨by rw [HLF.out, World.size_setCell]; exact Q1.out⟩, ⟨HC.out.trans Q2.out (fun k hk => hk.imp id (fun hk => hk.1))⟩⟩
      · rw [show decide (y ∈ ns) = false by simpa using hy] at hlook
        rw [if_neg hy] at HSN
        clear hy
        go_wp2
        go_roundg (gk - 1)
        case measure => have := HJ.out; omega
        case rel => exact ⟨j + 1, vts', by go_num, ⟨by omega, by have := HJ.out; omega⟩, ⟨by rw [show leadF ns tq i (l.take (j + 1)) = leadF ns tq i (l.take j) by unfold leadF; rw [HSN.out]]; exact HF.out⟩, HC⟩
    · obtain rfl : j = l.length := by omega
      rw [List.take_length] at *
      have c4 : wr.cell? ⟨g, 4, none⟩ = some (.bool sb) := by rw [Lib.cell_of_heap hg]; rfl
      have f4 : wr.frozen? ⟨g, 4, none⟩ = false := Lib.frozen_of_heap hg 4
      have hlens : ∀ x, (leadF ns tq i l x).length ≤ 1000000 := fun x => by
        have h2 : (idxs ns l).length ≤ l.length := by
          unfold idxs
          rw [List.length_map]
          exact List.length_filter_le _ _
        unfold leadF
        split
        · rw [List.length_append]; have := HLEN.out i; omega
        · have := HLEN.out x; omega
      have HLENS := Aside0.mk hlens
      clear hj hj2 c1 c2 hg hlens
      go_wp2
      go_ret
      have hfar : ∀ x, x ≠ g → (wr.setCell ⟨g, 4, none⟩ (.bool false)).heap[x]? = wr.heap[x]? := fun x hx => Below.heap_setCell _ ⟨g, 4, none⟩ _ x hx
      have h := HF.out
      have hmg : bm ≠ g := fun e => by
        obtain ⟨D, ⟨es, clock, hb, _⟩, _⟩ := h.hm
        rw [e, h.hg] at hb
        injection hb with hb
        cases hb
      have htg : bt ≠ g := fun e => by
        have h1 := h.hbt
        rw [e, h.hg] at h1
        injection h1 with h1; injection h1 with _ h2; exact absurd h2 (by decide)
      refine ⟨rfl, ⟨vn, bm, bt, vs, vts', {
        hN := h.hN
        sB := fun k hk => by rw [World.size_setCell] at hk ⊢; exact h.sB k hk
        hg := by rw [Fx.blk_set h.hg]; rfl
        sg := by rw [World.size_setCell]; exact h.sg
        sm := by rw [World.size_setCell]; exact h.sm
        st := by rw [World.size_setCell]; exact h.st
        hn := Fx.own_heap h.hn (fun k e => hfar k (fun e' => own_ne_of h.hn h.hg (by decide) ((show k = g from e') ▸ e)))
        sn := fun k e => by rw [World.size_setCell]; exact h.sn k e
        hm := h.hm.heap (hfar bm hmg)
        hbt := (hfar bt htg).trans h.hbt
        vlen := h.vlen
        rows := fun a u hu => ⟨Fx.own_heap (h.rows a u hu).1 (fun k e => hfar k (fun e' => own_ne_of (h.rows a u hu).1 h.hg (by decide) ((show k = g from e') ▸ e))), fun k e => by rw [World.size_setCell]; exact (h.rows a u hu).2 k e⟩
        apart := fun a b u v hab hu hv => h.apart a b u v (by omega) hu hv
        small := h.small
        len := HLENS.out
        sets := fun m hm => by cases hm }⟩, ?_⟩
      exact HC.out.setCell (p := ⟨g, 4, none⟩) (HQ.out.sB g HQ.out.sg).1 (.inl HQ.out.sg) _
end Go.Proofs.Ytiljegeodokfmaa.Fs

namespace Go.Proofs.Ytiljegeodokfmaa.Fs
open Go Go.RowKit Go.Proofs.YtiljegeodokfmaaW.PrintWords Go.Proofs.YtiljegeodokfmaaW.PrintLast Go.Proofs.YtiljegeodokfmaaW.PrintMore Go.Proofs.Ytiljegeodokfmaa.Fx
attribute [local go_sem] Oper.semAt_some
set_option linter.unusedVariables false
set_option linter.unusedSimpArgs false

/-- It is solved, or will be. -/
def Sol (ns : List ByteArray) (tq : Nat → List Nat) (sv : Option M) (m : M) : Prop := sv = some m ∨ (sv = none ∧ ∃ k r, k ≤ 1000000 ∧ solveL ns.length tq k (fun _ _ => false) 1 = some (m, r))
theorem solve_any (B : Nat) (S : Nat → Prop) (g : Nat) (ns : List ByteArray) (tq : Nat → List Nat) (sv : Option M) (m : M) (w : World) (hB : B ≤ w.heap.size) (h : G B S g ns tq sv w) (hs : Sol ns tq sv m) :
    Calls Try.prog 25 #[.pointer (some ⟨g, 0, none⟩)] w fun e w' => ∃ r, e = .returned (.int .i64 r) ∧ G B (fun k => S k ∨ (w.heap.size ≤ k ∧ k < w'.heap.size)) g ns tq (some m) w' ∧ Ch B S w w' := by
  rcases hs with rfl | ⟨rfl, k, r, hk, hs⟩
  · refine (solve_done B S g ns tq m w h).mono ?_
    rintro e w' ⟨rfl, rfl⟩
    obtain ⟨vn, bm, bt, vs, vts, h⟩ := h
    exact ⟨0, rfl, ⟨vn, bm, bt, vs, vts, { h with
      sB := fun k hk => hk.elim (h.sB k) (fun hk => by omega)
      sg := .inl h.sg, sm := .inl h.sm, st := .inl h.st
      sn := fun k e => .inl (h.sn k e)
      rows := fun i u hu => ⟨(h.rows i u hu).1, fun k e => ⟨.inl ((h.rows i u hu).2 k e).1, ((h.rows i u hu).2 k e).2⟩⟩
      sets := fun m' hm => by
        obtain ⟨bs, rb, e, hs⟩ := h.sets m' hm
        exact ⟨bs, rb, e, { hs with sb := .inl hs.sb, sr := fun i hi => .inl (hs.sr i hi) }⟩ }⟩, Ch.refl _ _ _⟩
  · refine (solve_new B S g ns tq m r k hk w hB h hs).mono ?_
    rintro e w' ⟨rfl, h1, h2⟩
    exact ⟨r, rfl, h1, h2⟩

def setOf (ns : List ByteArray) (m : M) (x : ByteArray) : List ByteArray := if x ∈ ns then ((List.range ns.length).filter fun n => m (ns.idxOf x) n).map fun n => ns.getD n ByteArray.empty else []
def setTo (ns : List ByteArray) (m : M) (i : Nat) (j : Nat) : List ByteArray := ((List.range j).filter fun n => m i n).map fun n => ns.getD n ByteArray.empty
theorem setTo_succ (ns : List ByteArray) (m : M) (i j : Nat) : setTo ns m i (j + 1) = if m i j = true then setTo ns m i j ++ [ns.getD j ByteArray.empty] else setTo ns m i j := by
  unfold setTo
  rw [List.range_succ, List.filter_append, List.map_append]
  by_cases h : m i j = true
  · simp [h]
  · simp [h]
theorem setTo_prefix (ns : List ByteArray) (m : M) (i j : Nat) : ∀ k, setTo ns m i j <+: setTo ns m i (j + k)
  | 0 => List.prefix_refl _
  | k + 1 => by
    refine (setTo_prefix ns m i j k).trans ?_
    rw [← Nat.add_assoc, setTo_succ]
    split
    · exact List.prefix_append _ _
    · exact List.prefix_refl _
set_option maxHeartbeats 4000000 in
set_option maxRecDepth 100000 in
theorem in1_any (n : Nat) (hn : 3 ≤ n) (B : Nat) (S : Nat → Prop) (g : Nat) (ns : List ByteArray) (tq : Nat → List Nat) (sv : Option M) (m : M) (x : ByteArray) (hx : x.size ≤ 9223372036854775807) (l Bg Bk : Nat) (W : World) (hB : B ≤ W.heap.size) (h : G B S g ns tq sv W) (hs : Sol ns tq sv m)
    (hBg : W.cell? ⟨Bg, 0, none⟩ = some (.pointer (some ⟨g, 0, none⟩))) (hBk : W.cell? ⟨Bk, 0, none⟩ = some (.string x)) (hsg : ¬ S Bg) (hsk : ¬ S Bk)
    (C : Nat → Prop) (hC : ∀ k, C k → k < W.heap.size ∧ ¬ S k ∧ k ≠ Bg ∧ k ≠ Bk)
    (I Ix : World → List ByteArray → World → Prop) (hI0 : ∀ W1, Ch B S W W1 → I W1 [] W1)
    (hY : ∀ W1 pre y W2, Ch B S W W1 → I W1 pre W2 → Keep C W1 W2 → pre.length < 1000 → y ∈ ns → YieldAt Fence.wide (n - 1) Try.prog l #[.string y] W2 fun e W' =>
      (e = .returned (.bool true) ∧ I W1 (pre ++ [y]) W' ∧ Keep C W1 W') ∨ (e = .returned (.bool false) ∧ Ix W1 (pre ++ [y]) W' ∧ Keep C W1 W')) :
    CallsIn Fence.wide n Try.prog 46 #[.func (.yield l) #[] #[], .pointer (some ⟨Bg, 0, none⟩), .pointer (some ⟨Bk, 0, none⟩)] W fun e W' => (∃ v, e = .returned v) ∧
      ∃ W1, Ch B S W W1 ∧ G B (fun k => S k ∨ (W.heap.size ≤ k ∧ k < W1.heap.size)) g ns tq (some m) W1 ∧ Keep C W1 W' ∧ (I W1 (setOf ns m x) W' ∨ ∃ pre, pre <+: setOf ns m x ∧ Ix W1 pre W') := by
  have HS := Aside0.mk (solve_any B S g ns tq sv m W hB h hs)
  have HC := Aside0.mk hC
  have HY := Aside0.mk hY
  have HI := Aside0.mk hI0
  have HBG := Aside0.mk hBg
  have HBK := Aside0.mk hBk
  clear h hs hC hY hI0 hBk
  refine callsIn_of_wp Try.func46 rfl trivial ?_ rfl
  simp only [Try.ntmps46, List.size_toArray, List.length_cons, List.length_nil, Nat.reduceAdd, Nat.reduceSub, Array.replicate_succ, Array.replicate_zero, List.push_toArray, List.append_toArray, List.nil_append, List.cons_append]
  gi_wp2_with fail
  refine ⟨trivial, fun _ => by omega, (callsIn_wide.2 HS.out).mono ?_⟩
  rintro e W1 ⟨r, rfl, hG, hCh⟩
  obtain ⟨vn, bm, bt, vs, vts, hP⟩ := hG
  obtain ⟨bs, rb, rfl, hSets⟩ := hP.sets m rfl
  have hlg := World.block_lt_of_cell? W _ HBG.out
  have hlk := World.block_lt_of_cell? W _ HBK.out
  have dg : W1.cell? ⟨Bg, 0, none⟩ = some (.pointer (some ⟨g, 0, none⟩)) := (World.cell?_of_block (hCh.keep Bg hlg hsg)).trans HBG.out
  have dk : W1.cell? ⟨Bk, 0, none⟩ = some (.string x) := (World.cell?_of_block (hCh.keep Bk hlk hsk)).trans HBK.out
  have c1 : W1.cell? ⟨g, 1, none⟩ = some (.map (some bm)) := by rw [Lib.cell_of_heap hP.hg]; rfl
  have hlook := MapIs.look (w := W1.drew) hP.hm x hx
  have hz1 := hCh.below.size
  have HP := Aside0.mk hP
  have HSE := Aside0.mk hSets
  have HCH := Aside0.mk hCh
  clear hBg HBG HBK HS hP hSets hCh
  by_cases hin : x ∈ ns
  · rw [show decide (x ∈ ns) = true by simpa using hin, show at_ ns x = ((ns.idxOf x : Nat) : Int) by simp [at_, hin]] at hlook
    have hi : ns.idxOf x < ns.length := List.idxOf_lt_length_of_mem hin
    have hset : setOf ns m x = setTo ns m (ns.idxOf x) ns.length := by unfold setOf setTo; rw [if_pos hin]
    have HSET := Aside0.mk hset
    clear hset
    generalize ns.idxOf x = i at hlook hi HSET
    have c3 : W1.cell? ⟨g, 3, none⟩ = some (.slice (some ⟨bs, 0, none⟩) ns.length ns.length) := by rw [Lib.cell_of_heap HP.out.hg]; rfl
    have csi : W1.cell? ⟨bs, i, none⟩ = some (.slice (some ⟨rb i, 0, none⟩) ns.length ns.length) := by rw [Lib.cell_of_heap HSE.out.hb]; simp [hi]
    gi_wp2_with fail
    gi_region
    gi_wp2_with fail
    have HP2 : Aside0 (GP B (fun k => S k ∨ (W.heap.size ≤ k ∧ k < W1.drew.heap.size)) g vn bm bt (.slice (some ⟨bs, 0, none⟩) ns.length ns.length) vts ns tq (some m) W1.drew) := ⟨HP.out.heap (Nat.le_refl _) (fun _ _ => rfl)⟩
    have HSE2 : Aside0 (Sets (fun k => S k ∨ (W.heap.size ≤ k ∧ k < W1.drew.heap.size)) bs rb ns.length m W1.drew) := ⟨{ HSE.out with hb := HSE.out.hb, mat := HSE.out.mat }⟩
    have HCH2 : Aside0 (Ch B S W W1.drew) := ⟨HCH.out.drew⟩
    have hz2 : W.heap.size ≤ W1.drew.heap.size := hz1
    have DG : Aside0 (W1.drew.cell? ⟨Bg, 0, none⟩ = some (.pointer (some ⟨g, 0, none⟩))) := ⟨dg⟩
    clear HP HSE HCH hz1 hlook c1 c3 csi dg dk
    generalize W1.drew = Wd at HP2 HSE2 HCH2 hz2 DG ⊢
    have hii := HI.out Wd HCH2.out
    have hnC : ∀ k, (S k ∨ (W.heap.size ≤ k ∧ k < Wd.heap.size)) → k < Wd.heap.size ∧ ¬ C k := fun k hk => ⟨(HP2.out.sB k hk).2, fun hc => by
      have := HC.out k hc
      rcases hk with hk | hk
      · exact this.2.1 hk
      · omega⟩
    have HNC := Aside0.mk hnC
    have HII := Aside0.mk hii
    have hN := HP2.out.hN
    clear hnC hii
    obtain ⟨An, cn, rfl⟩ := own_slice HP2.out.hn
    gi_loopw [31] (fun v31 wr => ∃ j : Nat, j ≤ ns.length ∧ v31 = .int .i64 j ∧ I Wd (setTo ns m i j) wr ∧ Keep C Wd wr) (fun v31 _ => ns.length - (intOf v31).toNat)
    case atStart => exact ⟨0, Nat.zero_le _, rfl, HII.out, Keep.refl _ _⟩
    case round =>
      obtain ⟨j, hj, rfl, hIj, hK⟩ := hrel
      have hfix : ∀ k, (S k ∨ (W.heap.size ≤ k ∧ k < Wd.heap.size)) → wr.heap[k]? = Wd.heap[k]? := fun k hk => hK.2 k (HNC.out k hk).1 (HNC.out k hk).2
      by_cases hlt : j < ns.length
      · have crow : wr.cell? ⟨rb i, j, none⟩ = some (.bool (m i j)) := by
          rw [Lib.cell_of_heap ((hfix _ (HSE2.out.sr i hi)).trans (HSE2.out.mat i hi))]; exact rowA_get hlt
        have dg : wr.cell? ⟨Bg, 0, none⟩ = some (.pointer (some ⟨g, 0, none⟩)) := (World.cell?_of_block (hK.2 Bg (by omega) (fun hc => (HC.out Bg hc).2.2.1 rfl))).trans DG.out
        have c0 : wr.cell? ⟨g, 0, none⟩ = some (.slice An ns.length cn) := by rw [Lib.cell_of_heap ((hfix g HP2.out.sg).trans HP2.out.hg)]; rfl
        obtain ⟨A', c', e', hread⟩ := own_reads_of (enc := Value.string) (d := ByteArray.empty) (Fx.own_heap HP2.out.hn (w' := wr) (fun k e => hfix k (HP2.out.sn k e)))
        injection e' with e1 _ _
        subst e1
        obtain ⟨ad, hA, hcx⟩ := hread.at_ (j : Int) (by omega) (by omega)
        subst hA
        have hrd : rdOf ByteArray.empty ns (j : Int) = ns.getD j ByteArray.empty := by simp [rd, rdOf]
        rw [hrd, Int.toNat_natCast] at hcx
        have hmem : ns.getD j ByteArray.empty ∈ ns := by rw [List.getD_eq_getElem?_getD, List.getElem?_eq_getElem hlt]; exact List.getElem_mem _
        have hsn := setTo_succ ns m i j
        have hsl : (setTo ns m i j).length < 1000 := by
          unfold setTo
          rw [List.length_map]
          have := List.length_filter_le (fun n => m i n) (List.range j)
          rw [List.length_range] at this
          omega
        cases hmj : m i j
        · rw [hmj] at crow hsn
          have HSN := Aside0.mk hsn
          clear hsn hmj hfix hread
          gi_wp2_with fail
          refine ⟨fun _ h => (by cases h), ?_⟩
          gi_wp2
          go_roundw
          case rel => exact ⟨j + 1, by omega, by simp, by rw [HSN.out, if_neg (by decide)]; exact hIj, hK⟩
          case measure => simp [intOf]; omega
        · rw [hmj, if_pos rfl] at hsn
          rw [hmj] at crow
          have HSN := Aside0.mk hsn
          obtain ⟨fn, tmps, assign, body, hy, hR⟩ := HY.out Wd _ (ns.getD j ByteArray.empty) wr HCH2.out hIj hK hsl hmem
          have h1n : 1 ≤ n := by omega
          have hdep : (Fence.wide.depth.isSome = true → 1 ≤ n) := fun _ => h1n
          generalize ns.getD j ByteArray.empty = y at hcx hy hR HSN hmem
          clear hsn hmj hfix hread hrd
          gi_wp2
          refine hR.mono ?_
          rintro e W3 (⟨rfl, hI3, hk3⟩ | ⟨rfl, hI3, hk3⟩)
          · gi_wp2
            go_roundw
            case rel => exact ⟨j + 1, by omega, by simp, by rw [HSN.out]; exact hI3, hk3⟩
            case measure => simp [intOf]; omega
          · gi_wp2
            refine bodyPost_ret (results_none rfl _ _ _) rfl ?_
            refine ⟨⟨_, rfl⟩, Wd, HCH2.out, ⟨_, _, _, _, _, HP2.out⟩, hk3, .inr ⟨_, ?_, hI3⟩⟩
            rw [HSET.out, ← HSN.out]
            have := setTo_prefix ns m i (j + 1) (ns.length - (j + 1))
            rwa [show j + 1 + (ns.length - (j + 1)) = ns.length by omega] at this
      · obtain rfl : j = ns.length := by omega
        clear hfix
        gi_wp2
        go_end0
        exact ⟨⟨_, rfl⟩, Wd, HCH2.out, ⟨_, _, _, _, _, HP2.out⟩, hK, .inl (by rw [HSET.out]; exact hIj)⟩
  · rw [show decide (x ∈ ns) = false by simpa using hin] at hlook
    have hset : setOf ns m x = [] := by unfold setOf; rw [if_neg hin]
    have HSET := Aside0.mk hset
    clear hset hin
    gi_wp2_with fail
    gi_region
    gi_wp2
    refine bodyPost_ret (results_none rfl _ _ _) rfl ?_
    refine ⟨⟨_, rfl⟩, W1.drew, HCH.out.drew, ?_, Keep.refl _ _, .inl (by rw [HSET.out]; exact HI.out _ HCH.out.drew)⟩
    exact ⟨_, _, _, _, _, HP.out.heap (Nat.le_refl _) (fun _ _ => rfl)⟩
end Go.Proofs.Ytiljegeodokfmaa.Fs

namespace Go.Proofs.Ytiljegeodokfmaa.Fs
open Go Go.RowKit Go.Proofs.YtiljegeodokfmaaW.PrintWords Go.Proofs.YtiljegeodokfmaaW.PrintLast Go.Proofs.YtiljegeodokfmaaW.PrintMore Go.Proofs.Ytiljegeodokfmaa.Fx
open Go.Proofs.Ytiljegeodokfmaa.Rg
attribute [local go_sem] Oper.semAt_some
set_option linter.unusedVariables false
set_option linter.unusedSimpArgs false

/-- An iterator's closure that gives ys. P: what it leaves behind. -/
def Src (B : Nat) (S N : Nat → Prop) (w : World) (lb : Array Value) (ys : List ByteArray) (P : Nat → World → Prop) : Prop :=
  ∀ (n : Nat), 3 ≤ n → ∀ (W : World), Old w W → ∀ (l : Nat) (C : Nat → Prop), (∀ k, C k → k < W.heap.size ∧ ¬ N k) → ∀ (I Ix : World → List ByteArray → World → Prop),
    (∀ W1, Ch B S W W1 → I W1 [] W1) →
    (∀ W1 pre y W2, Ch B S W W1 → I W1 pre W2 → Keep C W1 W2 → pre.length < 1000 → YieldAt Fence.wide (n - 1) Try.prog l #[.string y] W2 fun e W' => (e = .returned (.bool true) ∧ I W1 (pre ++ [y]) W' ∧ Keep C W1 W') ∨ (e = .returned (.bool false) ∧ Ix W1 (pre ++ [y]) W' ∧ Keep C W1 W')) →
    CallsIn Fence.wide n Try.prog 46 (#[.func (.yield l) #[] #[]] ++ lb) W fun e W' => (∃ v, e = .returned v) ∧ ∃ W1, Ch B S W W1 ∧ P W.heap.size W1 ∧ Keep C W1 W' ∧ (I W1 ys W' ∨ ∃ pre, pre <+: ys ∧ Ix W1 pre W')

def boxG (w : World) (v : Option Addr) (x : ByteArray) : World := (w.alloc (.cells #[.pointer v] 44)).alloc (.cells #[.string x] 9)
theorem in_any (n : Nat) (v : Option Addr) (x : ByteArray) (w : World) :
    CallsIn Fence.wide n Try.prog 35 #[.pointer v, .string x] w fun e w' => e = .returned (.func (.func 46) #[] #[.pointer (some ⟨w.heap.size, 0, none⟩), .pointer (some ⟨w.heap.size + 1, 0, none⟩)]) ∧ w' = boxG w v x := by
  refine callsIn_of_wp Try.func35 rfl trivial ?_ rfl
  simp only [Try.ntmps35, List.size_toArray, List.length_cons, List.length_nil, Nat.reduceAdd, Nat.reduceSub, Array.replicate_succ, Array.replicate_zero, List.push_toArray, List.append_toArray, List.nil_append, List.cons_append]
  gi_wp2
  go_ret
  exact ⟨rfl, rfl⟩

theorem G.sB {B : Nat} {S : Nat → Prop} {g : Nat} {ns : List ByteArray} {tq : Nat → List Nat} {sv : Option M} {w : World} (h : G B S g ns tq sv w) : ∀ k, S k → B ≤ k ∧ k < w.heap.size := by
  obtain ⟨vn, bm, bt, vs, vts, h⟩ := h
  exact h.sB
theorem in_src (B : Nat) (S : Nat → Prop) (g : Nat) (ns : List ByteArray) (tq : Nat → List Nat) (sv : Option M) (m : M) (x : ByteArray) (hx : x.size ≤ 9223372036854775807) (w : World) (hB : B ≤ w.heap.size) (h : G B S g ns tq sv w) (hs : Sol ns tq sv m) :
    Src B S (fun k => S k ∨ k = w.heap.size ∨ k = w.heap.size + 1) (boxG w (some ⟨g, 0, none⟩) x) #[.pointer (some ⟨w.heap.size, 0, none⟩), .pointer (some ⟨w.heap.size + 1, 0, none⟩)] (setOf ns m x) (fun z W1 => G B (fun k => S k ∨ (z ≤ k ∧ k < W1.heap.size)) g ns tq (some m) W1) := by
  intro n hn W hW l C hC I Ix hI hY
  have hz : (boxG w (some ⟨g, 0, none⟩) x).heap.size = w.heap.size + 2 := by simp [boxG]
  have hz2 := hW.1
  have hold : ∀ k, k < w.heap.size → W.heap[k]? = w.heap[k]? := fun k hk => (hW.2 k (by omega) (fun h => h)).trans ((Below.heap_alloc _ _ k (by simp; omega)).trans (Below.heap_alloc _ _ k hk))
  have hsB := h.sB
  have hG := h.heap (w' := W) (by omega) (fun k hk => hold k (hsB k hk).2)
  have c0 : W.cell? ⟨w.heap.size, 0, none⟩ = some (.pointer (some ⟨g, 0, none⟩)) := by
    rw [World.cell?_of_block (hW.2 w.heap.size (by omega) (fun h => h))]
    exact (World.cell?_of_block (Below.heap_alloc _ _ _ (by simp))).trans (Boxed.new w _ _).cell
  have c1 : W.cell? ⟨w.heap.size + 1, 0, none⟩ = some (.string x) := by
    rw [World.cell?_of_block (hW.2 (w.heap.size + 1) (by omega) (fun h => h))]
    have := World.alloc_heap_new (w.alloc (.cells #[.pointer (some ⟨g, 0, none⟩)] 44)) (.cells #[.string x] 9)
    rw [World.size_alloc] at this
    exact (show Boxed _ (w.heap.size + 1) _ _ from this).cell
  exact in1_any n hn B S g ns tq sv m x hx l w.heap.size (w.heap.size + 1) W (by omega) hG hs c0 c1 (fun e => by have := (hsB _ e).2; omega) (fun e => by have := (hsB _ e).2; omega) C
    (fun k hk => by have := hC k hk; exact ⟨this.1, fun e => this.2 (.inl e), fun e => this.2 (.inr (.inl e)), fun e => this.2 (.inr (.inr e))⟩) I Ix hI (fun W1 pre y W2 h1 h2 h3 h4 _ => hY W1 pre y W2 h1 h2 h3 h4)

theorem src_run {n : Nat} (hn : 4 ≤ n) {B : Nat} {S N : Nat → Prop} {w0 : World} {lb : Array Value} {ys : List ByteArray} {P : Nat → World → Prop} (hsrc : Src B S N w0 lb ys P) {g : Operand} {p : Tmp} {assign body : Code} {Q : Exit → Act → World → Prop} {a : Act} {w : World} (hw : Old w0 w) (hB : B ≤ w.heap.size) (hS : ∀ k, S k → k < w0.heap.size)
    (hg : a.eval g = .func (.func 46) #[] lb) (Cu : Nat → Prop) (hCu : ∀ k, Cu k → k < w.heap.size ∧ ¬ N k) (hN : ∀ k, N k → k < w0.heap.size) (U : World → List ByteArray → World → Prop) (Ux : Code → World → List ByteArray → World → Prop)
    (hU : ∀ W1 pre A l o o', w.heap.size ≤ l → A.heap[l]? = some o → o.isCells = false → U W1 pre A → U W1 pre (A.putObj l o'))
    (hUx : ∀ c W1 pre A l o o', w.heap.size ≤ l → A.heap[l]? = some o → o.isCells = false → Ux c W1 pre A → Ux c W1 pre (A.putObj l o'))
    (h0 : ∀ W1, Ch B S w W1 → w.heap.size + 2 ≤ W1.heap.size → U W1 [] W1)
    (a1 : ByteArray → Act) (hassign : ∀ y l W (K : Act → World → Prop), K (a1 y) W → assign.wpIn (Fence.wide.inRound l) (n - 1 - 1) Try.prog (Exit.then K (fun _ _ _ => False)) { tmps := a.tmps.setIfInBounds p (.string y), defers := [] } W)
    (hbody : ∀ l W1 pre y W2, w.heap.size + 2 ≤ W1.heap.size → W1.heap.size ≤ W2.heap.size → pre.length < 1000 → U W1 pre W2 → body.wpIn (Fence.wide.inRound l) (n - 1 - 1) Try.prog (BPost Cu W1 W2 (U W1 (pre ++ [y])) (fun c => Ux c W1 (pre ++ [y]))) (a1 y) W2)
    (done : ∀ W1 W', Ch B S w W1 → P (w.heap.size + 2) W1 → w.heap.size + 2 ≤ W1.heap.size → Keep (fun k => Cu k ∨ k = w.heap.size ∨ k = w.heap.size + 1) W1 W' → U W1 ys W' → W'.heap[w.heap.size]? = some (.deferred (some [])) → Q .normal { a with defers := { target := .collected w.heap.size, args := #[] } :: a.defers } W')
    (stop : ∀ c W1 W' pre, Ch B S w W1 → P (w.heap.size + 2) W1 → w.heap.size + 2 ≤ W1.heap.size → Keep (fun k => Cu k ∨ k = w.heap.size ∨ k = w.heap.size + 1) W1 W' → pre <+: ys → Ux c W1 pre W' → W'.heap[w.heap.size]? = some (.deferred (some [])) → c.wpIn Fence.wide n Try.prog Q { a with defers := { target := .collected w.heap.size, args := #[] } :: a.defers } W') :
    (Code.rangeFunc g #[p] assign body).wpIn Fence.wide n Try.prog Q a w := by
  refine range_run rfl (by omega) hg trivial (enters_of Try.func46 (by kernel_rfl) rfl) ?_
  intro fn hfn
  obtain ⟨W, hW⟩ : ∃ W, (w.alloc (.deferred (some []))).alloc (.loop (rec_ fn a.tmps #[p] assign body w.heap.size .ready none)) = W := ⟨_, rfl⟩
  have hsz : W.heap.size = w.heap.size + 2 := by rw [← hW]; simp
  have hL : W.heap[w.heap.size + 1]? = some (.loop (rec_ fn a.tmps #[p] assign body w.heap.size .ready none)) := by
    rw [← hW]
    have := World.alloc_heap_new (w.alloc (.deferred (some []))) (.loop (rec_ fn a.tmps #[p] assign body w.heap.size .ready none))
    rwa [World.size_alloc] at this
  have hD : W.heap[w.heap.size]? = some (.deferred (some [])) := by rw [← hW]; exact (Below.heap_alloc _ _ _ (by simp)).trans (World.alloc_heap_new w _)
  have hOld : Old w0 W := by rw [← hW]; exact (hw.alloc _).alloc _
  have hCh : Ch B S w W := by rw [← hW]; exact ((Ch.refl B S w).alloc hB _).alloc (by simp; omega) _
  have hw1 := hw.1
  rw [hW]
  refine (hsrc (n - 1) (by omega) W hOld (w.heap.size + 1) (fun k => Cu k ∨ k = w.heap.size ∨ k = w.heap.size + 1) (fun k hk => ?_)
    (fun W1 pre A => U W1 pre A ∧ A.heap[w.heap.size + 1]? = some (.loop (rec_ fn a.tmps #[p] assign body w.heap.size .ready none)) ∧ A.heap[w.heap.size]? = some (.deferred (some [])))
    (fun W1 pre A => ∃ c, Ux c W1 pre A ∧ A.heap[w.heap.size + 1]? = some (.loop (rec_ fn a.tmps #[p] assign body w.heap.size .done (some c))) ∧ A.heap[w.heap.size]? = some (.deferred (some []))) ?_ ?_).mono ?_
  · rcases hk with h | rfl | rfl
    · have := hCu k h; exact ⟨by omega, this.2⟩
    · exact ⟨by omega, fun e => by have := hN _ e; omega⟩
    · exact ⟨by omega, fun e => by have := hN _ e; omega⟩
  · intro W1 h1
    have := h1.below.size
    exact ⟨h0 W1 (hCh.trans h1 (fun x hx => .inl hx)) (by omega), (h1.keep _ (by omega) (fun e => by have := hS _ e; omega)).trans hL, (h1.keep _ (by omega) (fun e => by have := hS _ e; omega)).trans hD⟩
  · rintro W1 pre y W2 h1 ⟨hu, hl, hd⟩ hk hlen
    have hs1 := h1.below.size
    have hlt : w.heap.size + 1 < W2.heap.size := (Array.getElem?_eq_some_iff.1 hl).1
    obtain ⟨Wb, hWb⟩ : ∃ Wb, W2.putObj (w.heap.size + 1) (.loop (rec_ fn a.tmps #[p] assign body w.heap.size .busy none)) = Wb := ⟨_, rfl⟩
    have hkb : Keep (fun k => Cu k ∨ k = w.heap.size ∨ k = w.heap.size + 1) W1 Wb := by rw [← hWb]; exact hk.putObj (.inr (.inr rfl)) _
    have hub : U W1 pre Wb := by rw [← hWb]; exact hU _ _ _ _ _ _ (by omega) hl rfl hu
    refine (yield_at hfn (by omega) #[.string y] rfl W2 hl hd (a1 y) (fun K hK => by have := hassign y (w.heap.size + 1) W2 K hK; rwa [← foldl_one a.tmps p (.string y)] at this) (fun W3 => (W1.heap.size ≤ W3.heap.size ∧ ∀ k, k < W1.heap.size → ¬ Cu k → W3.heap[k]? = Wb.heap[k]?) ∧ U W1 (pre ++ [y]) W3) (fun c W3 => (W1.heap.size ≤ W3.heap.size ∧ ∀ k, k < W1.heap.size → ¬ Cu k → W3.heap[k]? = Wb.heap[k]?) ∧ Ux c W1 (pre ++ [y]) W3) ?_).mono ?_
    · rw [hWb]
      refine wpIn_mono (hbody _ W1 pre y Wb (by omega) hkb.1 hlen hub) ?_
      rintro e a3 W3 hp
      cases e with
      | normal => exact ⟨hp.1, ⟨Nat.le_trans hkb.1 hp.1.size, hp.2.1⟩, hp.2.2⟩
      | ret => exact ⟨hp.1, ⟨Nat.le_trans hkb.1 hp.1.size, hp.2.1⟩, hp.2.2⟩
      | exit id => exact hp.elim
      | goto t => exact hp.elim
      | panic ch => exact hp.elim
      | outgrown => exact hp.elim
    · have fin : ∀ (W3 : World) (o : Obj), (W1.heap.size ≤ W3.heap.size ∧ ∀ k, k < W1.heap.size → ¬ Cu k → W3.heap[k]? = Wb.heap[k]?) → W3.heap[w.heap.size + 1]? = some (.loop (rec_ fn a.tmps #[p] assign body w.heap.size .busy none)) → Keep (fun k => Cu k ∨ k = w.heap.size ∨ k = w.heap.size + 1) W1 (W3.putObj (w.heap.size + 1) o) := by
        intro W3 o hk3 hl3
        exact Keep.putObj ⟨hk3.1, fun k h1 h2 => (hk3.2 k h1 (fun h => h2 (.inl h))).trans (hkb.2 k h1 h2)⟩ (.inr (.inr rfl)) _
      rintro e W' (⟨rfl, W3, ⟨hk3, hu3⟩, rfl, hl3, hd3⟩ | ⟨rfl, c, W3, ⟨hk3, hu3⟩, rfl, hl3, hd3⟩)
      · exact .inl ⟨rfl, ⟨hU _ _ _ _ _ _ (by omega) hl3 rfl hu3, World.putObj_heap_same (Array.getElem?_eq_some_iff.1 hl3).1, (World.putObj_heap_other (by omega)).trans hd3⟩, fin _ _ hk3 hl3⟩
      · exact .inr ⟨rfl, ⟨c, hUx _ _ _ _ _ _ _ (by omega) hl3 rfl hu3, World.putObj_heap_same (Array.getElem?_eq_some_iff.1 hl3).1, (World.putObj_heap_other (by omega)).trans hd3⟩, fin _ _ hk3 hl3⟩
  · rintro e W' ⟨hv, W1, h1, hP, hk, (⟨hu, hl, hd⟩ | ⟨pre, hpre, c, hu, hl, hd⟩)⟩
    · have hs1 := h1.below.size
      refine ⟨hv, .inl ⟨hl, fun o => done W1 _ (hCh.trans h1 (fun x hx => .inl hx)) (hsz ▸ hP) (by omega) (hk.putObj (.inr (.inr rfl)) _) (hU _ _ _ _ _ _ (by omega) hl rfl hu) ((World.putObj_heap_other (by omega)).trans hd)⟩⟩
    · have hs1 := h1.below.size
      refine ⟨hv, .inr ⟨c, hl, fun o => stop c W1 _ pre (hCh.trans h1 (fun x hx => .inl hx)) (hsz ▸ hP) (by omega) (hk.putObj (.inr (.inr rfl)) _) hpre (hUx _ _ _ _ _ _ _ (by omega) hl rfl hu) ((World.putObj_heap_other (by omega)).trans hd)⟩⟩

/-- What an AppendSeq has gathered. -/
def Gath (Bs n0 : Nat) (W1 : World) (ys : List ByteArray) (W : World) : Prop := ∃ v, Boxed W Bs 43 v ∧ W.ownsRow W1.heap.size 9 1 v ys.length (strs ys) ∧ Below n0 W1 W
set_option maxRecDepth 100000 in
set_option maxHeartbeats 4000000 in
theorem append_any (n : Nat) (hn : 5 ≤ n) (B : Nat) (S N : Nat → Prop) (w : World) (lb : Array Value) (ys : List ByteArray) (P : Nat → World → Prop) (hB : B ≤ w.heap.size) (hS : ∀ k, S k → k < w.heap.size) (hN : ∀ k, N k → k < w.heap.size) (hsrc : Src B S N w lb ys P) :
    CallsIn Fence.wide n Try.prog 45 #[.slice none 0 0, .func (.func 46) #[] lb] w fun e w' => ∃ v z W1, e = .returned v ∧ w.heap.size ≤ z ∧ z ≤ W1.heap.size ∧ P z W1 ∧ w'.ownsRow W1.heap.size 9 1 v ys.length (strs ys) ∧ Ch B S w w' ∧ W1.heap.size ≤ w'.heap.size ∧ ∀ k, (k < w.heap.size ∨ z ≤ k) → k < W1.heap.size → w'.heap[k]? = W1.heap[k]? := by
  refine callsIn_of_wp_marks Try.func45 rfl trivial ?_ rfl
  simp only [Try.ntmps45, List.size_toArray, List.length_cons, List.length_nil, Nat.reduceAdd, Nat.reduceSub, Array.replicate_succ, Array.replicate_zero, List.push_toArray, List.append_toArray, List.nil_append, List.cons_append]
  gi_wp2
  obtain ⟨W0, hW0⟩ : ∃ W0, w.alloc (.cells #[.slice none 0 0] 43) = W0 := ⟨_, rfl⟩
  have hs0 : W0.heap.size = w.heap.size + 1 := by rw [← hW0]; simp
  have hv0 : Boxed W0 w.heap.size 43 (.slice none 0 0) := by rw [← hW0]; exact Boxed.new w _ _
  have hOld0 : Old w W0 := by rw [← hW0]; exact (Old.refl w).alloc _
  have hB0 : Ch B S w W0 := by rw [← hW0]; exact (Ch.refl B S w).alloc hB _
  rw [hW0]
  clear hW0
  have HV0 := Aside0.mk hv0
  have HSRC := Aside0.mk hsrc
  clear hv0 hsrc
  refine src_run (by omega) HSRC.out hOld0 (by omega) hS rfl (fun k => k = w.heap.size) (fun k hk => ⟨by omega, fun e => by have := hN _ e; omega⟩) hN (Gath w.heap.size w.heap.size) (fun _ _ _ _ => False) ?hU (fun c W1 pre A l o o' _ _ _ h => h) ?h0
    (fun y => { tmps := #[.slice none 0 0, .func (.func 46) #[] lb, .pointer (some ⟨w.heap.size, 0, none⟩), undef, .slice none 0 0, .string y, .func (.func 46) #[] lb, .string y, undef, undef, undef, undef, undef], defers := [] }) ?assign ?body ?done ?stop
  case hU =>
    rintro W1 pre A l o o' hl ho hoc ⟨v, hv, hrow, hb⟩
    refine ⟨v, (World.putObj_heap_other (by omega)).trans hv, ownsRow_putObj hrow o' ho hoc, hb.grown (grownBy_putObj' _ _ _) ?_ (fun k e => by cases e; omega)⟩
    have := hv.lt; omega
  case h0 =>
    intro W1 h1 _
    exact ⟨_, (h1.keep _ (by omega) (fun e => by have := hS _ e; omega)).trans HV0.out, ⟨rfl, .inl ⟨rfl, rfl⟩⟩, Below.refl _ _⟩
  case assign =>
    intro y l W K hK
    gi_wp2
    exact hK
  case body =>
    rintro l W1 pre y W2 hz1 hz2 hlen ⟨v, hv, hrow, hb⟩
    obtain ⟨i0, hi0, hiz, hi1, hi2⟩ := info_parts infoStr
    have hcv := hv.cell
    have hfv := hv.frozen
    gi_wp2_with (gi_at_builtin; refine wpListIn_append_own _ rfl _ _ 43 rfl W1.heap.size 9 i0 (.string ByteArray.empty) 1 16 Try.underlying43 hi0 hiz hi1 hi2 rfl (by decide) _ _ _ rfl (hrow.alloc _) ⟨W2.heap.size, 0, none⟩ 1 1 [.string y] rfl rfl (cell_one_new _ _ _) (by simp [Value.oneCell']) (by unfold maxLen; omega) (by omega) (by simp; omega) ?_; intro v' w3 hown' hgrow hnil; obtain ⟨hbx, hbx2, hown2, hko, hbl⟩ := hv.appended (n₀ := w.heap.size) (e := 9) (by decide) (Fx.own_base hrow (by omega)) (by omega) (Nat.le_refl _) (Fx.own_base hown' (by omega)) hgrow; have hcv3 := hbx.cell; have hfv3 := hbx.frozen; obtain ⟨A', c', e'⟩ := own_slice hown'; subst e')
    have hK3 : ∀ k, k < W1.heap.size → ¬ k = w.heap.size → (w3.setCell ⟨w.heap.size, 0, none⟩ (.slice A' (pre.length + 1) c')).heap[k]? = W2.heap[k]? := fun k h1 h2 =>
      (Below.heap_setCell w3 ⟨w.heap.size, 0, none⟩ _ k h2).trans ((hgrow.block k (by simp; omega) (fun e => by have := (hrow.lt k e.symm).1; omega)).trans (Below.heap_alloc _ _ k (by omega)))
    refine ⟨hko, hK3, _, hbx2, ?_, hb.trans hbl⟩
    rw [List.length_append, List.length_singleton, show strs (pre ++ [y]) = strs pre ++ [.string y] by simp [strs, encs]]
    exact hown'.kept (grownBy_setCell' w3 w.heap.size _) (.inr (hbx.not_row (by decide) hown').symm)
  case done =>
    rintro W1 W' h1 hP hz1 hk ⟨v, hv, hrow, hb⟩ hD
    have hcv := hv.cell
    have hfv := hv.frozen
    have HK := Aside0.mk hk
    have HP := Aside0.mk hP
    gi_wp2
    refine ⟨by simp, .inl ⟨_, _, rfl, run_takeDeferred hD, ?_⟩⟩
    have hg := grownBy_putObj' W' W0.heap.size (.deferred none)
    refine ⟨_, results_tmp rfl _ _ _, v, _, W1, rfl, ?_, ?_, HP.out, ownsRow_putObj hrow _ hD rfl, ?_, ?_, ?_⟩
    · omega
    · omega
    · have hbb : Below w.heap.size W1 (W'.putObj W0.heap.size (.deferred none)) := hb.grown hg (by have := hk.1; omega) (fun k e => by cases e; omega)
      exact (hB0.trans h1 (fun x h => .inl h)).trans (S' := fun k => w.heap.size ≤ k) ⟨hbb.mono hB, fun k h1 h2 => hbb.block k (by omega)⟩ (fun x h => .inr h)
    · exact Nat.le_trans HK.out.1 hg.size
    · intro k h2 h3
      exact (World.putObj_heap_other (by omega)).trans (HK.out.2 k h3 (by omega))
  case stop => exact fun c W1 W' pre _ _ _ _ _ h _ => h.elim

theorem collect_any (n : Nat) (hn : 6 ≤ n) (B : Nat) (S N : Nat → Prop) (w : World) (lb : Array Value) (ys : List ByteArray) (P : Nat → World → Prop) (hB : B ≤ w.heap.size) (hS : ∀ k, S k → k < w.heap.size) (hN : ∀ k, N k → k < w.heap.size) (hsrc : Src B S N w lb ys P) :
    CallsIn Fence.wide n Try.prog 34 #[.func (.func 46) #[] lb] w fun e w' => ∃ v z W1, e = .returned v ∧ w.heap.size ≤ z ∧ z ≤ W1.heap.size ∧ P z W1 ∧ w'.ownsRow W1.heap.size 9 1 v ys.length (strs ys) ∧ Ch B S w w' ∧ W1.heap.size ≤ w'.heap.size ∧ ∀ k, (k < w.heap.size ∨ z ≤ k) → k < W1.heap.size → w'.heap[k]? = W1.heap[k]? := by
  refine callsIn_of_wp Try.func34 rfl trivial ?_ rfl
  simp only [Try.ntmps34, List.size_toArray, List.length_cons, List.length_nil, Nat.reduceAdd, Nat.reduceSub, Array.replicate_succ, Array.replicate_zero, List.push_toArray, List.append_toArray, List.nil_append, List.cons_append]
  gi_wp2_with (refine ⟨trivial, fun _ => by omega, ?_⟩; refine (append_any (n - 1) (by omega) B S N w lb ys P hB hS hN hsrc).mono ?_; rintro e w' ⟨v, z, W1, rfl, h1, h2, h3, h4, h5, h6, h7⟩)
  go_ret
  exact ⟨v, z, W1, rfl, h1, h2, h3, h4, h5, h6, h7⟩

/-- A graph after a question. -/
def Then (B : Nat) (S : Nat → Prop) (g : Nat) (ns : List ByteArray) (tq : Nat → List Nat) (m : M) (w w' : World) : Prop := ∃ S' : Nat → Prop, (∀ k, S' k → S k ∨ w.heap.size ≤ k) ∧ G B S' g ns tq (some m) w' ∧ Ch B S w w'
/-- Set's answer: a list of its own, apart from the graph. -/
def SetPost (B : Nat) (S : Nat → Prop) (g : Nat) (ns : List ByteArray) (tq : Nat → List Nat) (m : M) (ys : List ByteArray) (w : World) (v : Value) (w' : World) : Prop := ∃ S' : Nat → Prop, (∀ k, S' k → S k ∨ w.heap.size ≤ k) ∧ G B S' g ns tq (some m) w' ∧ Ch B S w w' ∧ w'.ownsRow w.heap.size 9 1 v ys.length (strs ys) ∧ ∀ k, v.ownBlock = some k → ¬ S' k
theorem set_any (B : Nat) (S : Nat → Prop) (g : Nat) (ns : List ByteArray) (tq : Nat → List Nat) (sv : Option M) (m : M) (x : ByteArray) (hx : x.size ≤ 9223372036854775807) (w : World) (hB : B ≤ w.heap.size) (h : G B S g ns tq sv w) (hs : Sol ns tq sv m) :
    Calls Try.prog 22 #[.pointer (some ⟨g, 0, none⟩), .string x] w fun e w' => ∃ v, e = .returned v ∧ SetPost B S g ns tq m (setOf ns m x) w v w' := by
  refine (callsIn_wide (n := 8)).1 ?_
  have hsrc := in_src B S g ns tq sv m x hx w hB h hs
  have hsB := h.sB
  refine callsIn_of_wp Try.func22 rfl trivial ?_ rfl
  simp only [Try.ntmps22, List.size_toArray, List.length_cons, List.length_nil, Nat.reduceAdd, Nat.reduceSub, Array.replicate_succ, Array.replicate_zero, List.push_toArray, List.append_toArray, List.nil_append, List.cons_append]
  have HS := Aside0.mk hsrc
  have HB := Aside0.mk hsB
  clear hsrc h hs hsB
  gi_wp2_with (first
    | (refine ⟨trivial, ?_⟩; gi_at_call 35; refine (in_any _ _ x _).mono ?_; rintro e w' ⟨rfl, rfl⟩)
    | (refine ⟨trivial, ?_⟩; gi_at_call 34; refine (collect_any _ (by omega) B S _ _ _ _ _ (by simp [boxG]; omega) (fun k hk => by have := (HB.out k hk).2; simp [boxG]; omega) (fun k hk => by simp [boxG]; rcases hk with hk | rfl | rfl; (have := (HB.out k hk).2; omega); omega; omega) HS.out).mono ?_; rintro e w' ⟨v, z, W1, rfl, h1, h2, h3, h4, h5, h6, h7⟩))
  have hzb : (boxG w (some ⟨g, 0, none⟩) x).heap.size = w.heap.size + 2 := by simp [boxG]
  have hbox : Ch B S w (boxG w (some ⟨g, 0, none⟩) x) := ((Ch.refl B S w).alloc hB _).alloc (by simp; omega) _
  have h3' : G B (fun k => S k ∨ (z ≤ k ∧ k < W1.heap.size)) g ns tq (some m) W1 := h3
  go_ret
  refine ⟨v, rfl, fun k => S k ∨ (z ≤ k ∧ k < W1.heap.size), fun k hk => hk.elim .inl (fun hk => .inr (by omega)), h3'.heap h6 (fun k hk => h7 k ?_ (h3'.sB k hk).2), hbox.trans h5 (fun k hk => .inl hk), Fx.own_base h4 (by omega), fun k e hk => ?_⟩
  · rcases hk with hk | hk
    · have := (HB.out k hk).2; exact .inl (by omega)
    · exact .inr hk.1
  · have := (h3'.sB k hk).2
    have := (h4.lt k e).1
    omega

theorem then_of {B : Nat} {S : Nat → Prop} {g : Nat} {ns : List ByteArray} {tq : Nat → List Nat} {m : M} {w W1 W' : World} {z : Nat} (hB : B ≤ w.heap.size) (hS : ∀ k, S k → k < w.heap.size) (h1 : Ch B S w W1) (hP : G B (fun k => S k ∨ (z ≤ k ∧ k < W1.heap.size)) g ns tq (some m) W1) (hz : w.heap.size ≤ z)
    (hb : Below w.heap.size W1 W') (hk : ∀ k, k < W1.heap.size → z ≤ k → W'.heap[k]? = W1.heap[k]?) : Then B S g ns tq m w W' :=
  ⟨_, fun k hk => hk.elim .inl (fun hk => .inr (by omega)), hP.heap hb.size (fun k hk' => hk'.elim (fun h => hb.block k (hS k h)) (fun h => hk k h.2 h.1)), h1.trans (S' := fun k => w.heap.size ≤ k) ⟨hb.mono hB, fun k h1 h2 => hb.block k (by omega)⟩ (fun x h => .inr h)⟩

set_option maxRecDepth 100000 in
set_option maxHeartbeats 4000000 in
theorem has_any (B : Nat) (S : Nat → Prop) (g : Nat) (ns : List ByteArray) (tq : Nat → List Nat) (sv : Option M) (m : M) (k x : ByteArray) (hx : x.size ≤ 9223372036854775807) (w : World) (hB : B ≤ w.heap.size) (h : G B S g ns tq sv w) (hs : Sol ns tq sv m) :
    Calls Try.prog 36 #[.pointer (some ⟨g, 0, none⟩), .string k, .string x] w fun e w' => e = .returned (.bool (decide (k ∈ setOf ns m x))) ∧ Then B S g ns tq m w w' := by
  refine (callsIn_wide (n := 8)).1 ?_
  obtain ⟨w1, hw1⟩ : ∃ w1, (w.alloc (.cells #[.string k] 9)).alloc (.cells #[.bool false] 4) = w1 := ⟨_, rfl⟩
  have hz1 : w1.heap.size = w.heap.size + 2 := by rw [← hw1]; simp
  have hold : ∀ k, k < w.heap.size → w1.heap[k]? = w.heap[k]? := fun k hk => by rw [← hw1]; exact (Below.heap_alloc _ _ k (by simp; omega)).trans (Below.heap_alloc _ _ k hk)
  have hsB := h.sB
  have hG := h.heap (w' := w1) (by omega) (fun k hk => hold k (hsB k hk).2)
  have hsrc := in_src B S g ns tq sv m x hx w1 (by omega) hG hs
  have hCh1 : Ch B S w w1 := by rw [← hw1]; exact ((Ch.refl B S w).alloc hB _).alloc (by simp; omega) _
  have hbk : Boxed w1 w.heap.size 9 (.string k) := by rw [← hw1]; exact (Boxed.new w _ _).alloc _
  have hbr : Boxed w1 (w.heap.size + 1) 4 (.bool false) := by
    rw [← hw1]
    have := Boxed.new (w.alloc (.cells #[.string k] 9)) 4 (.bool false)
    rwa [World.size_alloc] at this
  refine callsIn_of_wp_marks Try.func36 rfl trivial ?_ rfl
  simp only [Try.ntmps36, List.size_toArray, List.length_cons, List.length_nil, Nat.reduceAdd, Nat.reduceSub, Array.replicate_succ, Array.replicate_zero, List.push_toArray, List.append_toArray, List.nil_append, List.cons_append]
  have HS := Aside0.mk hsrc
  have HB := Aside0.mk hsB
  have HC1 := Aside0.mk hCh1
  have HBK := Aside0.mk hbk
  have HBR := Aside0.mk hbr
  clear hsrc h hs hsB hG hold hCh1 hbk hbr
  gi_wp2_with (refine ⟨trivial, ?_⟩; gi_at_call 35; refine (in_any _ _ x _).mono ?_; rintro e w' ⟨rfl, rfl⟩)
  rw [hz1] at HS
  obtain ⟨w2, hw2⟩ : ∃ w2, boxG w1 (some ⟨g, 0, none⟩) x = w2 := ⟨_, rfl⟩
  have hz2 : w2.heap.size = w.heap.size + 4 := by rw [← hw2]; simp [boxG]; omega
  have hC2 : Ch B S w w2 := by rw [← hw2]; exact (HC1.out.alloc (by omega) _).alloc (by simp; omega) _
  have hbk2 : Boxed w2 w.heap.size 9 (.string k) := by rw [← hw2]; exact (HBK.out.alloc _).alloc _
  have hbr2 : Boxed w2 (w.heap.size + 1) 4 (.bool false) := by rw [← hw2]; exact (HBR.out.alloc _).alloc _
  rw [hw2] at HS ⊢
  clear HC1 HBK HBR hw2 hw1
  have HC2 := Aside0.mk hC2
  have HBK := Aside0.mk hbk2
  have HBR := Aside0.mk hbr2
  clear hC2 hbk2 hbr2
  refine src_run (by omega) HS.out (Old.refl _) (by omega) (fun k hk => by have := (HB.out k hk).2; omega) rfl (fun j => j = w.heap.size + 1) (fun j hj => ⟨by omega, fun e => by
      rcases e with e | e | e
      · have := (HB.out _ e).2; omega
      · omega
      · omega⟩) (fun j hj => by
      rcases hj with e | e | e
      · have := (HB.out _ e).2; omega
      · omega
      · omega)
    (fun W1 pre W => k ∉ pre ∧ Boxed W w.heap.size 9 (.string k) ∧ Boxed W (w.heap.size + 1) 4 (.bool false) ∧ Below w.heap.size W1 W) (fun c W1 pre W => c = .ret ∧ k ∈ pre ∧ Boxed W (w.heap.size + 1) 4 (.bool true) ∧ Below w.heap.size W1 W) ?hU ?hUx ?h0
    (fun y => { tmps := #[.pointer (some ⟨g, 0, none⟩), .string k, .string x, undef, .pointer (some ⟨w.heap.size, 0, none⟩), undef, .pointer (some ⟨w.heap.size + 1, 0, none⟩), .string y, .pointer (some ⟨g, 0, none⟩), .string x, .func (.func 46) #[] #[.pointer (some ⟨w.heap.size + 2, 0, none⟩), .pointer (some ⟨w.heap.size + 2 + 1, 0, none⟩)], .string y, undef, undef, undef], defers := [] }) ?assign ?body ?done ?stop
  case hU =>
    rintro W1 pre A l o o' hl ho hoc ⟨h1, h2, h3, hb⟩
    have := h2.lt
    exact ⟨h1, (World.putObj_heap_other (by omega)).trans h2, (World.putObj_heap_other (by omega)).trans h3, hb.grown (grownBy_putObj' _ _ _) (by omega) (fun k e => by cases e; omega)⟩
  case hUx =>
    rintro c W1 pre A l o o' hl ho hoc ⟨h1, h2, h3, hb⟩
    have := h3.lt
    exact ⟨h1, h2, (World.putObj_heap_other (by omega)).trans h3, hb.grown (grownBy_putObj' _ _ _) (by omega) (fun k e => by cases e; omega)⟩
  case h0 =>
    intro W1 h1 _
    exact ⟨List.not_mem_nil, (h1.keep _ (by omega) (fun e => by have := (HB.out _ e).2; omega)).trans HBK.out, (h1.keep _ (by omega) (fun e => by have := (HB.out _ e).2; omega)).trans HBR.out, Below.refl _ _⟩
  case assign =>
    intro y l W K hK
    gi_wp2
    exact hK
  case body =>
    rintro l W1 pre y W2 hz3 hz4 hlen ⟨hn, hbk, hbr, hb⟩
    have c1 := hbk.cell
    have c2 := hbr.cell
    have f2 := hbr.frozen
    have HBL := Aside0.mk hb
    have HN := Aside0.mk hn
    have HK := Aside0.mk hbk
    have HR := Aside0.mk hbr
    clear hb hn hbk hbr
    by_cases hy : y = k
    · have hd : (y == k) = true := by simpa using hy
      have hd2 : decide (y = k) = true := decide_eq_true hy
      have hd3 : (y.toList == k.toList) = true := by rw [hy]; exact beq_self_eq_true _
      gi_wp2
      refine ⟨KeepsOthers.setCell _ _ _, fun j _ hj => Below.heap_setCell _ _ _ j hj, rfl, by simp [hy], HR.out.set _, HBL.out.setCell (p := ⟨w.heap.size + 1, 0, none⟩) (by simp) _⟩
    · have hd : (y == k) = false := by simpa using hy
      have hd2 : decide (y = k) = false := decide_eq_false hy
      have hd3 : (y.toList == k.toList) = false := by
        rw [ByteArray.toList_eq, ByteArray.toList_eq]
        exact beq_eq_false_iff_ne.2 (fun e => hy (bytes_inj e))
      have HY := Aside0.mk hy
      clear hy
      gi_wp2
      exact ⟨KeepsOthers.refl _, fun j _ _ => rfl, by simp [HN.out, Ne.symm HY.out], HK.out, HR.out, HBL.out⟩
  case done =>
    rintro W1 W' h1 hP hz3 hk ⟨hn, hbk, hbr, hb⟩ hD
    have hP' : G B (fun k => S k ∨ (w2.heap.size + 2 ≤ k ∧ k < W1.heap.size)) g ns tq (some m) W1 := hP
    have c2 := hbr.cell
    have f2 := hbr.frozen
    have HN := Aside0.mk hn
    have HR := Aside0.mk hbr
    have HBL := Aside0.mk hb
    have HK := Aside0.mk hk
    clear hn hbk hbr hb hk hP
    gi_wp2
    have hD2 : (W'.setCell ⟨w.heap.size + 1, 0, none⟩ (.bool false)).heap[w2.heap.size]? = some (.deferred (some [])) := (Below.heap_setCell W' ⟨w.heap.size + 1, 0, none⟩ _ _ (by show w2.heap.size ≠ w.heap.size + 1; omega)).trans hD
    refine ⟨by simp, .inl ⟨_, _, rfl, run_takeDeferred hD2, ?_⟩⟩
    have hbx : Boxed ((W'.setCell ⟨w.heap.size + 1, 0, none⟩ (.bool false)).putObj w2.heap.size (.deferred none)) (w.heap.size + 1) 4 (.bool false) := (World.putObj_heap_other (by omega)).trans (HR.out.set _)
    have c5 := hbx.cell
    refine ⟨.bool false, ?_, by rw [decide_eq_false HN.out], then_of hB (fun k hk => (HB.out k hk).2) (HC2.out.trans h1 (fun x h => .inl h)) hP' (by omega) ?_ ?_⟩
    · simp [results, Try.results36, go_sem, c5]
    · refine (HBL.out.setCell (p := ⟨w.heap.size + 1, 0, none⟩) (by simp) _).grown (grownBy_putObj' _ _ _) ?_ (fun k e => by cases e; omega)
      have := HK.out.1; simp; omega
    · intro j h2 h3
      exact (World.putObj_heap_other (by omega)).trans ((Below.heap_setCell W' ⟨w.heap.size + 1, 0, none⟩ _ j (by show j ≠ w.heap.size + 1; omega)).trans (HK.out.2 j h2 (by omega)))
  case stop =>
    rintro c W1 W' pre h1 hP hz3 hk hpre ⟨rfl, hin, hbr, hb⟩ hD
    have hP' : G B (fun k => S k ∨ (w2.heap.size + 2 ≤ k ∧ k < W1.heap.size)) g ns tq (some m) W1 := hP
    have HN := Aside0.mk hin
    have HPR := Aside0.mk hpre
    have HR := Aside0.mk hbr
    have HBL := Aside0.mk hb
    have HK := Aside0.mk hk
    clear hin hbr hb hk hP hpre
    gi_wp2
    refine ⟨by simp, .inl ⟨_, _, rfl, run_takeDeferred hD, ?_⟩⟩
    have hbx : Boxed (W'.putObj w2.heap.size (.deferred none)) (w.heap.size + 1) 4 (.bool true) := (World.putObj_heap_other (by omega)).trans HR.out
    have c5 := hbx.cell
    refine ⟨.bool true, ?_, by rw [decide_eq_true (HPR.out.subset HN.out)], then_of hB (fun k hk => (HB.out k hk).2) (HC2.out.trans h1 (fun x h => .inl h)) hP' (by omega) ?_ ?_⟩
    · simp [results, Try.results36, go_sem, c5]
    · refine HBL.out.grown (grownBy_putObj' _ _ _) ?_ (fun k e => by cases e; omega)
      have := HK.out.1; omega
    · intro j h2 h3
      exact (World.putObj_heap_other (by omega)).trans (HK.out.2 j h2 (by omega))
end Go.Proofs.Ytiljegeodokfmaa.Fs

namespace Go.Proofs.Ytiljegeodokfmaa.Fs
open Go Go.RowKit Go.Proofs.YtiljegeodokfmaaW.PrintWords Go.Proofs.YtiljegeodokfmaaW.PrintLast Go.Proofs.YtiljegeodokfmaaW.PrintMore Go.Proofs.Ytiljegeodokfmaa.Fx
open Go.Proofs.Ytiljegeodokfmaa.Rg
attribute [local go_sem] Oper.semAt_some
set_option linter.unusedVariables false
set_option linter.unusedSimpArgs false

theorem Then.trans {B : Nat} {S : Nat → Prop} {g : Nat} {ns : List ByteArray} {tq : Nat → List Nat} {m : M} {a b c : World} {S' : Nat → Prop} (hS : ∀ k, S' k → S k ∨ a.heap.size ≤ k) (h1 : Ch B S a b) (h : Then B S' g ns tq m b c) : Then B S g ns tq m a c := by
  obtain ⟨S2, h2, h3, h4⟩ := h
  have := h1.below.size
  exact ⟨S2, fun k hk => (h2 k hk).elim (hS k) (fun h => .inr (by omega)), h3, h1.trans h4 hS⟩
theorem Then.trans' {B : Nat} {S : Nat → Prop} {g : Nat} {ns : List ByteArray} {tq : Nat → List Nat} {m : M} {a b c : World} (h1 : Ch B S a b) (h : Then B S g ns tq m b c) : Then B S g ns tq m a c := h.trans (fun k hk => .inl hk) h1

/-- Does it lie on a circle? -/
def circ (ns : List ByteArray) (m : M) (x : ByteArray) : Bool := decide (x ∈ setOf ns m x)
theorem circle_any (B : Nat) (S : Nat → Prop) (g : Nat) (ns : List ByteArray) (tq : Nat → List Nat) (sv : Option M) (m : M) (x : ByteArray) (hx : x.size ≤ 9223372036854775807) (w : World) (hB : B ≤ w.heap.size) (h : G B S g ns tq sv w) (hs : Sol ns tq sv m) :
    Calls Try.prog 23 #[.pointer (some ⟨g, 0, none⟩), .string x] w fun e w' => e = .returned (.bool (circ ns m x)) ∧ Then B S g ns tq m w w' := by
  have HS := Aside0.mk (has_any B S g ns tq sv m x x hx w hB h hs)
  clear h hs
  refine (callsIn_wide (n := 9)).1 ?_
  refine callsIn_of_wp Try.func23 rfl trivial ?_ rfl
  simp only [Try.ntmps23, List.size_toArray, List.length_cons, List.length_nil, Nat.reduceAdd, Nat.reduceSub, Array.replicate_succ, Array.replicate_zero, List.push_toArray, List.append_toArray, List.nil_append, List.cons_append]
  gi_wp2_with (refine ⟨trivial, ?_⟩; gi_at_call 36; refine (callsIn_wide.2 HS.out).mono ?_; rintro e w' ⟨rfl, ht⟩)
  go_ret
  exact ⟨rfl, ht⟩
/-- Is each in the other one's set? -/
def both (ns : List ByteArray) (m : M) (a b : ByteArray) : Bool := decide (a ∈ setOf ns m b) && decide (b ∈ setOf ns m a)
theorem same_any (B : Nat) (S : Nat → Prop) (g : Nat) (ns : List ByteArray) (tq : Nat → List Nat) (sv : Option M) (m : M) (x y : ByteArray) (hx : x.size ≤ 9223372036854775807) (hy : y.size ≤ 9223372036854775807) (w : World) (hB : B ≤ w.heap.size) (h : G B S g ns tq sv w) (hs : Sol ns tq sv m) :
    Calls Try.prog 24 #[.pointer (some ⟨g, 0, none⟩), .string x, .string y] w fun e w' => e = .returned (.bool (both ns m x y)) ∧ Then B S g ns tq m w w' := by
  have HS := Aside0.mk (has_any B S g ns tq sv m x y hy w hB h hs)
  clear h hs
  unfold both
  cases hd : decide (x ∈ setOf ns m y)
  · refine (callsIn_wide (n := 9)).1 ?_
    refine callsIn_of_wp Try.func24 rfl trivial ?_ rfl
    simp only [Try.ntmps24, List.size_toArray, List.length_cons, List.length_nil, Nat.reduceAdd, Nat.reduceSub, Array.replicate_succ, Array.replicate_zero, List.push_toArray, List.append_toArray, List.nil_append, List.cons_append]
    gi_wp2_with (refine ⟨trivial, ?_⟩; gi_at_call 36; refine (callsIn_wide.2 HS.out).mono ?_; rintro e w' ⟨rfl, ht⟩; rw [hd])
    refine ⟨trivial, ?_⟩
    gi_wp2
    go_ret
    exact ⟨rfl, ht⟩
  · refine (callsIn_wide (n := 9)).1 ?_
    refine callsIn_of_wp Try.func24 rfl trivial ?_ rfl
    simp only [Try.ntmps24, List.size_toArray, List.length_cons, List.length_nil, Nat.reduceAdd, Nat.reduceSub, Array.replicate_succ, Array.replicate_zero, List.push_toArray, List.append_toArray, List.nil_append, List.cons_append]
    gi_wp2_with fail
    refine ⟨trivial, ?_⟩
    gi_at_call 36
    refine (callsIn_wide.2 HS.out).mono ?_
    rintro e w' ⟨rfl, S', hS', hG, hC⟩
    rw [hd]
    have HS2 := Aside0.mk (has_any B S' g ns tq (some m) m y x hx w' (by have := hC.below.size; omega) hG (.inl rfl))
    gi_wp2_with fail
    refine ⟨trivial, (callsIn_wide.2 HS2.out).mono ?_⟩
    rintro e w2 ⟨rfl, ht⟩
    gi_wp2
    go_ret
    exact ⟨rfl, ht.trans hS' hC⟩
end Go.Proofs.Ytiljegeodokfmaa.Fs
