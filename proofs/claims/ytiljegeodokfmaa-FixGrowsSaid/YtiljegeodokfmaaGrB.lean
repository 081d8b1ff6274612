/- fix, second part: one round. -/
import Derived.Test.YtiljegeodokfmaaGrA
import Derived.StillTactics
import Derived.StillTailTactics
namespace Go.Proofs.Ytiljegeodokfmaa.Fx
open Go Go.RowKit Go.Proofs.YtiljegeodokfmaaW.PrintWords
set_option linter.unusedVariables false
set_option linter.unusedSimpArgs false

abbrev M := Nat → Nat → Bool
def setM (m : M) (i n : Nat) : M := fun x y => if x = i then (if y = n then true else m i y) else m x y
def orM (m : M) (i n : Nat) : M := fun x y => if x = i then (m i y || m n y) else m x y
/-- One edge: what it leads to, and all that leads to. -/
def edgeM (N i n : Nat) (p : M × Bool) : M × Bool := (orM (setM p.1 i n) i n, p.2 || !p.1 i n || grew (setM p.1 i n i) (setM p.1 i n n) N)
def rowM (N i : Nat) (l : List Nat) (p : M × Bool) : M × Bool := l.foldl (fun p n => edgeM N i n p) p
def roundTo (N : Nat) (tq : Nat → List Nat) (m : M) (k : Nat) : M × Bool := (List.range k).foldl (fun p i => rowM N i (tq i) p) (m, false)
def roundM (N : Nat) (tq : Nat → List Nat) (m : M) : M × Bool := roundTo N tq m N
theorem rowM_take (N i : Nat) (l : List Nat) (p : M × Bool) (j : Nat) (h : j < l.length) : rowM N i (l.take (j + 1)) p = edgeM N i l[j] (rowM N i (l.take j) p) := by
  unfold rowM; rw [List.take_succ_eq_append_getElem h, List.foldl_append]; rfl
theorem roundTo_succ (N : Nat) (tq : Nat → List Nat) (m : M) (k : Nat) : roundTo N tq m (k + 1) = rowM N k (tq k) (roundTo N tq m k) := by
  unfold roundTo; rw [List.range_succ, List.foldl_append]; rfl

/-- The rows' blocks hold the matrix. -/
def Mat (N : Nat) (rb : Nat → Nat) (m : M) (w : World) : Prop := ∀ i, i < N → w.heap[rb i]? = some (.cells (rowA N (m i)) 4 (0, 0))
/-- Only the rows' blocks are others. -/
structure Rows (N : Nat) (rb : Nat → Nat) (w w' : World) : Prop where
  os : w'.os = w.os
  tape : w'.tape = w.tape
  output : w'.output = w.output
  size : w'.heap.size = w.heap.size
  block : ∀ k, (∀ i, i < N → k ≠ rb i) → w'.heap[k]? = w.heap[k]?
theorem Rows.refl (N : Nat) (rb : Nat → Nat) (w : World) : Rows N rb w w := ⟨rfl, rfl, rfl, rfl, fun _ _ => rfl⟩
theorem Rows.one {N : Nat} {rb : Nat → Nat} {a c d : World} {i : Nat} (h : Rows N rb a c) (hi : i < N) (k : One (rb i) c d) : Rows N rb a d :=
  ⟨k.os.trans h.os, k.tape.trans h.tape, k.output.trans h.output, k.size.trans h.size, fun j hj => (k.block j (hj i hi)).trans (h.block j hj)⟩
theorem Mat.one {N : Nat} {rb : Nat → Nat} {m m' : M} {c d : World} {i : Nat} (h : Mat N rb m c) (hi : i < N) (hinj : ∀ x y, x < N → y < N → rb x = rb y → x = y) (k : One (rb i) c d) (hr : d.heap[rb i]? = some (.cells (rowA N (m' i)) 4 (0, 0))) (hm : ∀ x, x ≠ i → m' x = m x) : Mat N rb m' d := by
  intro x hx
  by_cases he : x = i
  · subst he; exact hr
  · rw [k.block (rb x) (fun e => he (hinj x i hx hi e)), hm x he]; exact h x hx

theorem Mat.drew {N : Nat} {rb : Nat → Nat} {m : M} {c : World} (h : Mat N rb m c) : Mat N rb m c.drew := h
theorem Rows.drew {N : Nat} {rb : Nat → Nat} {a c : World} (h : Rows N rb a c) : Rows N rb a c.drew := ⟨h.os, h.tape, h.output, h.size, h.block⟩
/-- Where a graph's parts lie, its nodes apart. -/
structure Env (N g bt bs : Nat) (rb : Nat → Nat) (vn vm sol : Value) (vts : List Value) (tq : Nat → List Nat) (w : World) : Prop where
  hN : N ≤ 100000
  hg : w.heap[g]? = some (.cells #[vn, vm, .slice (some ⟨bt, 0, none⟩) N N, .slice (some ⟨bs, 0, none⟩) N N, sol] 58 (0, 0))
  hbt : w.heap[bt]? = some (.cells vts.toArray 22 (0, 0))
  hbs : w.heap[bs]? = some (.cells ((List.range N).map fun i => Value.slice (some ⟨rb i, 0, none⟩) N N).toArray 65 (0, 0))
  hlen : vts.length = N
  ng : ∀ i, i < N → g ≠ rb i
  nbt : ∀ i, i < N → bt ≠ rb i
  nbs : ∀ i, i < N → bs ≠ rb i
  inj : ∀ x y, x < N → y < N → rb x = rb y → x = y
  small : ∀ i, i < N → ∀ n ∈ tq i, n < N
  len : ∀ i, i < N → (tq i).length ≤ 1000000
  reads : ∀ i u, vts[i]? = some u → ∃ A c, u = .slice A (tq i).length c ∧ ∀ w', Rows N rb w w' → ReadsInt w' .i64 A (tq i).length ((tq i).map fun n : Nat => (n : Int))
def RoundPost (N : Nat) (rb : Nat → Nat) (tq : Nat → List Nat) (m : M) (w : World) (e : Ending) (w' : World) : Prop :=
  e = .returned (.bool (roundM N tq m).2) ∧ Mat N rb (roundM N tq m).1 w' ∧ Rows N rb w w'

set_option maxHeartbeats 4000000 in
set_option maxRecDepth 100000 in
theorem round_any (N g bt bs : Nat) (rb : Nat → Nat) (vn vm sol : Value) (vts : List Value) (tq : Nat → List Nat) (m : M) (w : World) (E : Env N g bt bs rb vn vm sol vts tq w) (hM : Mat N rb m w) :
    Calls Try.prog 32 #[.pointer (some ⟨g, 0, none⟩)] w (RoundPost N rb tq m w) := by
  have hN := E.hN
  have cg2 : w.cell? ⟨g, 2, none⟩ = some (.slice (some ⟨bt, 0, none⟩) N N) := by rw [Lib.cell_of_heap E.hg]; rfl
  have HE := Aside0.mk E
  have HM := Aside0.mk hM
  clear E hM
  go_enter Try.func32, Try.ntmps32
  go_wp2_with fail
  clear cg2
  go_loopg [3, 13] N (fun kq v3 v13 w' => ∃ i : Nat, v3 = .bool (roundTo N tq m i).2 ∧ v13 = .int .i64 i ∧ Aside0 (i ≤ N ∧ kq = N - i) ∧ Aside0 (Mat N rb (roundTo N tq m i).1 w') ∧ Aside0 (Rows N rb w w'))
  case atStart => exact ⟨0, rfl, rfl, ⟨by omega, by omega⟩, HM, ⟨Rows.refl _ _ _⟩⟩
  case round =>
    obtain ⟨i, rfl, rfl, HJ, HB, HO⟩ := hrel
    obtain ⟨hj1, hj2⟩ := HJ.out
    obtain ⟨G0, HG0⟩ : ∃ x, Aside0 (x = gk) := ⟨gk, ⟨rfl⟩⟩
    by_cases hi : i < N
    · obtain ⟨A, cap, hu, hread⟩ := HE.out.reads i (vts[i]'(by rw [HE.out.hlen]; exact hi)) (List.getElem?_eq_getElem _)
      have hct : wr.cell? ⟨bt, i, none⟩ = some (.slice A (tq i).length cap) := by
        rw [Lib.cell_of_heap ((HO.out.block bt HE.out.nbt).trans HE.out.hbt), ← hu]; simp [HE.out.hlen, hi]
      have HR := Aside0.mk hread
      have hl := HE.out.len i hi
      have hsucc := roundTo_succ N tq m i
      have HS := Aside0.mk hsucc
      clear hu hread hsucc hj2
      generalize roundTo N tq m i = p at HB HS ⊢
      go_wp2_with fail
      go_loopg [3, 20] (tq i).length (fun kq v3 v20 w' => ∃ j : Nat, v3 = .bool (rowM N i ((tq i).take j) p).2 ∧ v20 = .int .i64 j ∧ Aside0 (j ≤ (tq i).length ∧ kq = (tq i).length - j) ∧ Aside0 (Mat N rb (rowM N i ((tq i).take j) p).1 w') ∧ Aside0 (Rows N rb w w'))
      case atStart => exact ⟨0, rfl, rfl, ⟨by omega, by omega⟩, HB, HO⟩
      case round =>
        obtain ⟨j, rfl, rfl, HJ2, HB2, HO2⟩ := hrel
        obtain ⟨hk1, hk2⟩ := HJ2.out
        by_cases hj : j < (tq i).length
        · obtain ⟨ad, hA, hcn⟩ := (HR.out _ HO2.out).at_ (j : Int) (by omega) (by omega)
          subst hA
          have hst := rowM_take N i (tq i) p j hj
          have hn := HE.out.small i hi _ (List.getElem_mem hj)
          have hrd : rd ((tq i).map fun n : Nat => (n : Int)) (j : Int) = (((tq i)[j] : Nat) : Int) := by simp [rd, List.getD_eq_getElem?_getD, List.getElem?_eq_getElem hj]
          rw [hrd, Int.toNat_natCast] at hcn
          generalize (tq i)[j] = n at hst hn hcn
          have HST := Aside0.mk hst
          clear hst hrd hk2
          generalize rowM N i ((tq i).take j) p = q at HB2 HST ⊢
          have hg := (HO2.out.block g HE.out.ng).trans HE.out.hg
          have hbs := (HO2.out.block bs HE.out.nbs).trans HE.out.hbs
          have cg3 : wr.cell? ⟨g, 3, none⟩ = some (.slice (some ⟨bs, 0, none⟩) N N) := by rw [Lib.cell_of_heap hg]; rfl
          have csi : wr.cell? ⟨bs, i, none⟩ = some (.slice (some ⟨rb i, 0, none⟩) N N) := by rw [Lib.cell_of_heap hbs]; simp [hi]
          have csn : wr.cell? ⟨bs, n, none⟩ = some (.slice (some ⟨rb n, 0, none⟩) N N) := by rw [Lib.cell_of_heap hbs]; simp [hn]
          have cin : wr.cell? ⟨rb i, n, none⟩ = some (.bool (q.1 i n)) := by rw [Lib.cell_of_heap (HB2.out i hi)]; exact rowA_get hn
          have fin_ : wr.frozen? ⟨rb i, n, none⟩ = false := Lib.frozen_of_heap (HB2.out i hi) n
          have HG := Aside0.mk hg
          have HBS := Aside0.mk hbs
          clear hg hbs
          have hrow : ∀ (wx : World) (m1 : M) (t : Bool), Mat N rb m1 wx → Rows N rb w wx → orM m1 i n = (edgeM N i n q).1 → (t || grew (m1 i) (m1 n) N) = (edgeM N i n q).2 →
              Calls Try.prog 44 #[.slice (some ⟨rb i, 0, none⟩) N N, .slice (some ⟨rb n, 0, none⟩) N N] wx fun e w' => ∃ b, e = .returned (.bool b) ∧ (t || b) = (edgeM N i n q).2 ∧ Mat N rb (edgeM N i n q).1 w' ∧ Rows N rb w w' := by
            intro wx m1 t h1 h2 h3 h4
            refine (add_any N (rb i) (rb n) (m1 i) (m1 n) wx hN (fun e => by rw [HE.out.inj i n hi hn e]) (h1 i hi) (h1 n hn)).mono ?_
            rintro e w' ⟨rfl, hr, ho⟩
            refine ⟨_, rfl, h4, ?_, h2.one hi ho⟩
            rw [← h3]
            exact h1.one hi HE.out.inj ho (by rw [hr]; congr 3; funext x; simp [orM]) (fun x hx => by funext y; simp [orM, hx])
          have HROW := Aside0.mk hrow
          clear hrow
          cases hqn : q.1 i n
          · rw [hqn] at cin
            go_wp2_with fail
            have hone : One (rb i) wr (wr.setCell ⟨rb i, n, none⟩ (.bool true)) := (One.refl _ _).setCell _ _
            have hM2 : Mat N rb (setM q.1 i n) (wr.setCell ⟨rb i, n, none⟩ (.bool true)) := HB2.out.one hi HE.out.inj hone (blk_row (HB2.out i hi) (fun x hx => by simp [setM])) (fun x hx => by funext y; simp [setM, hx])
            have hO3 : Rows N rb w (wr.setCell ⟨rb i, n, none⟩ (.bool true)) := HO2.out.one hi hone
            have dg3 : (wr.setCell ⟨rb i, n, none⟩ (.bool true)).cell? ⟨g, 3, none⟩ = some (.slice (some ⟨bs, 0, none⟩) N N) := (World.cell?_of_block (hone.block g (HE.out.ng i hi))).trans cg3
            have dsi : (wr.setCell ⟨rb i, n, none⟩ (.bool true)).cell? ⟨bs, i, none⟩ = some (.slice (some ⟨rb i, 0, none⟩) N N) := (World.cell?_of_block (hone.block bs (HE.out.nbs i hi))).trans csi
            have dsn : (wr.setCell ⟨rb i, n, none⟩ (.bool true)).cell? ⟨bs, n, none⟩ = some (.slice (some ⟨rb n, 0, none⟩) N N) := (World.cell?_of_block (hone.block bs (HE.out.nbs i hi))).trans csn
            have HC1 := Aside0.mk hM2
            have HC2 := Aside0.mk hO3
            clear hone hM2 hO3 cg3 csi csn cin fin_ hcn hct
            generalize wr.setCell ⟨rb i, n, none⟩ (.bool true) = W2 at dg3 dsi dsn HC1 HC2 ⊢
            go_still_tail 14, (by kernel_rfl)
            clear dg3 dsi dsn
            change wpList _ _ _ _ _ W2.drew
            generalize hW3 : W2.drew = W3
            have HC3 : Aside0 (Mat N rb (setM q.1 i n) W3) := ⟨by rw [← hW3]; exact HC1.out.drew⟩
            have HC4 : Aside0 (Rows N rb w W3) := ⟨by rw [← hW3]; exact HC2.out.drew⟩
            clear hW3 HC1 HC2
            go_wp2_with fail
            refine (HROW.out W3 (setM q.1 i n) true HC3.out HC4.out rfl (by simp [edgeM, hqn])).mono ?_
            rintro e w4 ⟨b, rfl, hb, hm4, hr4⟩
            have HV : Aside0 ((rowM N i ((tq i).take (j + 1)) p).2 = true) := ⟨by rw [HST.out, ← hb]; rfl⟩
            have HM4 : Aside0 (Mat N rb (rowM N i ((tq i).take (j + 1)) p).1 w4) := ⟨by rw [HST.out]; exact hm4⟩
            have HR4 := Aside0.mk hr4
            clear hb hm4 hr4 HC3 HC4
            cases b
            all_goals
              go_wp2
              go_roundg (gk - 1)
              case measure => have := HJ2.out; omega
              case rel => exact ⟨j + 1, by rw [HV.out], by go_num, ⟨by omega, by have := HJ2.out; omega⟩, HM4, HR4⟩
          · rw [hqn] at cin
            go_wp2_with fail
            have HC1 : Aside0 (Mat N rb q.1 wr) := HB2
            have HC2 : Aside0 (Rows N rb w wr) := HO2
            have hset : orM q.1 i n = (edgeM N i n q).1 := by
              have : setM q.1 i n = q.1 := by
                funext x y
                simp only [setM]
                split
                · rename_i hx; subst hx
                  split
                  · rename_i hy; subst hy; exact hqn.symm
                  · rfl
                · rfl
              simp [edgeM, this]
            have hset2 : (q.2 || grew (q.1 i) (q.1 n) N) = (edgeM N i n q).2 := by
              have : setM q.1 i n = q.1 := by
                funext x y
                simp only [setM]
                split
                · rename_i hx; subst hx
                  split
                  · rename_i hy; subst hy; exact hqn.symm
                  · rfl
                · rfl
              simp [edgeM, this, hqn]
            have HX := Aside0.mk hset
            have HX2 := Aside0.mk hset2
            clear cin fin_ hcn hct hset hset2
            go_still_tail 14, (by kernel_rfl)
            clear cg3 csi csn
            change wpList _ _ _ _ _ wr.drew
            generalize hW3 : wr.drew = W3
            have HC3 : Aside0 (Mat N rb q.1 W3) := ⟨by rw [← hW3]; exact HC1.out.drew⟩
            have HC4 : Aside0 (Rows N rb w W3) := ⟨by rw [← hW3]; exact HC2.out.drew⟩
            clear hW3 HC1 HC2
            go_wp2_with fail
            refine (HROW.out W3 q.1 q.2 HC3.out HC4.out HX.out HX2.out).mono ?_
            rintro e w4 ⟨b, rfl, hb, hm4, hr4⟩
            have HV : Aside0 ((rowM N i ((tq i).take (j + 1)) p).2 = (q.2 || b)) := ⟨by rw [HST.out, ← hb]⟩
            have HM4 : Aside0 (Mat N rb (rowM N i ((tq i).take (j + 1)) p).1 w4) := ⟨by rw [HST.out]; exact hm4⟩
            have HR4 := Aside0.mk hr4
            clear hb hm4 hr4 HC3 HC4
            cases b
            all_goals
              go_wp2
              go_roundg (gk - 1)
              case measure => have := HJ2.out; omega
              case rel => exact ⟨j + 1, by rw [HV.out]; simp, by go_num, ⟨by omega, by have := HJ2.out; omega⟩, HM4, HR4⟩
        · obtain rfl : j = (tq i).length := by omega
          rw [List.take_length] at *
          clear hj hk2
          have HV : Aside0 ((roundTo N tq m (i + 1)).2 = (rowM N i (tq i) p).2) := ⟨by rw [HS.out]⟩
          have HM4 : Aside0 (Mat N rb (roundTo N tq m (i + 1)).1 wr) := ⟨by rw [HS.out]; exact HB2.out⟩
          clear HB2 HS
          generalize (rowM N i (tq i) p).2 = v at HV ⊢
          go_wp2
          go_roundg (G0 - 1)
          case measure => have := HJ.out; have := HG0.out; omega
          case rel => exact ⟨i + 1, by rw [HV.out], by go_num, ⟨by omega, by have := HJ.out; have := HG0.out; omega⟩, HM4, HO2⟩
    · obtain rfl : i = N := by omega
      clear hi hj2
      go_wp2
      go_ret
      exact ⟨rfl, HB.out, HO.out⟩
end Go.Proofs.Ytiljegeodokfmaa.Fx
