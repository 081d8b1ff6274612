/- fix, sixth part: the keys of a node's set, one by one. -/
import Derived.Test.YtiljegeodokfmaaGrE
import Derived.Test.YtiljegeodokfmaaRng
import Derived.RegionIn
namespace Go.Proofs.Ytiljegeodokfmaa.Fx
open Go Go.RowKit Go.Proofs.YtiljegeodokfmaaW.PrintWords Go.Proofs.YtiljegeodokfmaaW.PrintLast Go.Proofs.YtiljegeodokfmaaW.PrintMore
attribute [local go_sem] Oper.semAt_some
set_option linter.unusedVariables false
set_option linter.unusedSimpArgs false

/-- It is solved, or will be. -/
def Sol (ns : List Int) (tq : Nat → List Nat) (sv : Option M) (m : M) : Prop := sv = some m ∨ (sv = none ∧ ∃ k r, k ≤ 1000000 ∧ solveL ns.length tq k (fun _ _ => false) 1 = some (m, r))
theorem solve_any (B : Nat) (S : Nat → Prop) (g : Nat) (ns : List Int) (tq : Nat → List Nat) (sv : Option M) (m : M) (w : World) (hB : B ≤ w.heap.size) (h : G B S g ns tq sv w) (hs : Sol ns tq sv m) :
    Calls Try.prog 16 #[.pointer (some ⟨g, 0, none⟩)] w fun e w' => ∃ r, e = .returned (.int .i64 r) ∧ G B (fun k => S k ∨ (w.heap.size ≤ k ∧ k < w'.heap.size)) g ns tq (some m) w' ∧ Ch B S w w' := by
  rcases hs with rfl | ⟨rfl, k, r, hk, hs⟩
  · refine (solve_done B S g ns tq m w h).mono ?_
    rintro e w' ⟨rfl, rfl⟩
    obtain ⟨vn, bm, bt, vs, vts, h⟩ := h
    exact ⟨0, rfl, ⟨vn, bm, bt, vs, vts, { h with
      sB := fun k hk => hk.elim (h.sB k) (fun hk => by omega)
      sg := .inl h.sg, sm := .inl h.sm, st := .inl h.st
      sn := fun k e => .inl (h.sn k e)
      rows := fun i u hu => ⟨(h.rows i u hu).1, fun k e => ⟨.inl ((h.rows i u hu).2 k e).1, ((h.rows i u hu).2 k e).2⟩⟩
      sets := fun m' hm => by
        obtain ⟨bs, rb, e, hs⟩ := h.sets m' hm
        exact ⟨bs, rb, e, { hs with sb := .inl hs.sb, sr := fun i hi => .inl (hs.sr i hi) }⟩ }⟩, Ch.refl _ _ _⟩
  · refine (solve_new B S g ns tq m r k hk w hB h hs).mono ?_
    rintro e w' ⟨rfl, h1, h2⟩
    exact ⟨r, rfl, h1, h2⟩

def setOf (ns : List Int) (m : M) (x : Int) : List Int := if x ∈ ns then ((List.range ns.length).filter fun n => m (ns.idxOf x) n).map fun n => ns.getD n 0 else []
def setTo (ns : List Int) (m : M) (i : Nat) (j : Nat) : List Int := ((List.range j).filter fun n => m i n).map fun n => ns.getD n 0
theorem setTo_succ (ns : List Int) (m : M) (i j : Nat) : setTo ns m i (j + 1) = if m i j = true then setTo ns m i j ++ [ns.getD j 0] else setTo ns m i j := by
  unfold setTo
  rw [List.range_succ, List.filter_append, List.map_append]
  by_cases h : m i j = true
  · simp [h]
  · simp [h]
theorem setTo_prefix (ns : List Int) (m : M) (i j : Nat) : ∀ k, setTo ns m i j <+: setTo ns m i (j + k)
  | 0 => List.prefix_refl _
  | k + 1 => by
    refine (setTo_prefix ns m i j k).trans ?_
    rw [← Nat.add_assoc, setTo_succ]
    split
    · exact List.prefix_append _ _
    · exact List.prefix_refl _
/-- What stood stands, but for C. -/
def Keep (C : Nat → Prop) (W1 W2 : World) : Prop := W1.heap.size ≤ W2.heap.size ∧ ∀ k, k < W1.heap.size → ¬ C k → W2.heap[k]? = W1.heap[k]?
theorem Keep.refl (C : Nat → Prop) (W : World) : Keep C W W := ⟨Nat.le_refl _, fun _ _ _ => rfl⟩

set_option maxHeartbeats 4000000 in
set_option maxRecDepth 100000 in
theorem in1_any (n : Nat) (hn : 3 ≤ n) (B : Nat) (S : Nat → Prop) (g : Nat) (ns : List Int) (tq : Nat → List Nat) (sv : Option M) (m : M) (x : Int) (hx : (Lit.int .i64 x).wf = true) (l Bg Bk : Nat) (W : World) (hB : B ≤ W.heap.size) (h : G B S g ns tq sv W) (hs : Sol ns tq sv m)
    (hBg : W.cell? ⟨Bg, 0, none⟩ = some (.pointer (some ⟨g, 0, none⟩))) (hBk : W.cell? ⟨Bk, 0, none⟩ = some (.int .i64 x)) (hsg : ¬ S Bg) (hsk : ¬ S Bk)
    (C : Nat → Prop) (hC : ∀ k, C k → k < W.heap.size ∧ ¬ S k ∧ k ≠ Bg ∧ k ≠ Bk)
    (I Ix : World → List Int → World → Prop) (hI0 : ∀ W1, Ch B S W W1 → I W1 [] W1)
    (hY : ∀ W1 pre y W2, Ch B S W W1 → I W1 pre W2 → Keep C W1 W2 → pre.length < 1000 → y ∈ ns → YieldAt Fence.wide (n - 1) Try.prog l #[.int .i64 y] W2 fun e W' =>
      (e = .returned (.bool true) ∧ I W1 (pre ++ [y]) W' ∧ Keep C W1 W') ∨ (e = .returned (.bool false) ∧ Ix W1 (pre ++ [y]) W' ∧ Keep C W1 W')) :
    CallsIn Fence.wide n Try.prog 42 #[.func (.yield l) #[] #[], .pointer (some ⟨Bg, 0, none⟩), .pointer (some ⟨Bk, 0, none⟩)] W fun e W' => (∃ v, e = .returned v) ∧
      ∃ W1, Ch B S W W1 ∧ G B (fun k => S k ∨ (W.heap.size ≤ k ∧ k < W1.heap.size)) g ns tq (some m) W1 ∧ Keep C W1 W' ∧ (I W1 (setOf ns m x) W' ∨ ∃ pre, pre <+: setOf ns m x ∧ Ix W1 pre W') := by
  have HS := Aside0.mk (solve_any B S g ns tq sv m W hB h hs)
  have HC := Aside0.mk hC
  have HY := Aside0.mk hY
  have HI := Aside0.mk hI0
  have HBG := Aside0.mk hBg
  have HBK := Aside0.mk hBk
  clear h hs hC hY hI0 hBk
  refine callsIn_of_wp Try.func42 rfl trivial ?_ rfl
  simp only [Try.ntmps42, List.size_toArray, List.length_cons, List.length_nil, Nat.reduceAdd, Nat.reduceSub, Array.replicate_succ, Array.replicate_zero, List.push_toArray, List.append_toArray, List.nil_append, List.cons_append]
  gi_wp2_with fail
  refine ⟨trivial, fun _ => by omega, (callsIn_wide.2 HS.out).mono ?_⟩
  rintro e W1 ⟨r, rfl, hG, hCh⟩
  obtain ⟨vn, bm, bt, vs, vts, hP⟩ := hG
  obtain ⟨bs, rb, rfl, hSets⟩ := hP.sets m rfl
  have hlg := World.block_lt_of_cell? W _ HBG.out
  have hlk := World.block_lt_of_cell? W _ HBK.out
  have dg : W1.cell? ⟨Bg, 0, none⟩ = some (.pointer (some ⟨g, 0, none⟩)) := (World.cell?_of_block (hCh.keep Bg hlg hsg)).trans HBG.out
  have dk : W1.cell? ⟨Bk, 0, none⟩ = some (.int .i64 x) := (World.cell?_of_block (hCh.keep Bk hlk hsk)).trans HBK.out
  have c1 : W1.cell? ⟨g, 1, none⟩ = some (.map (some bm)) := by rw [Lib.cell_of_heap hP.hg]; rfl
  have hlook := MapIs.look (w := W1.drew) hP.hm x hx
  have hz1 := hCh.below.size
  have HP := Aside0.mk hP
  have HSE := Aside0.mk hSets
  have HCH := Aside0.mk hCh
  clear hBg HBG HBK HS hP hSets hCh
  by_cases hin : x ∈ ns
  · rw [show decide (x ∈ ns) = true by simpa using hin, show at_ ns x = ((ns.idxOf x : Nat) : Int) by simp [at_, hin]] at hlook
    have hi : ns.idxOf x < ns.length := List.idxOf_lt_length_of_mem hin
    have hset : setOf ns m x = setTo ns m (ns.idxOf x) ns.length := by unfold setOf setTo; rw [if_pos hin]
    have HSET := Aside0.mk hset
    clear hset
    generalize ns.idxOf x = i at hlook hi HSET
    have c3 : W1.cell? ⟨g, 3, none⟩ = some (.slice (some ⟨bs, 0, none⟩) ns.length ns.length) := by rw [Lib.cell_of_heap HP.out.hg]; rfl
    have csi : W1.cell? ⟨bs, i, none⟩ = some (.slice (some ⟨rb i, 0, none⟩) ns.length ns.length) := by rw [Lib.cell_of_heap HSE.out.hb]; simp [hi]
    gi_wp2_with fail
    gi_region
    gi_wp2_with fail
    have HP2 : Aside0 (GP B (fun k => S k ∨ (W.heap.size ≤ k ∧ k < W1.drew.heap.size)) g vn bm bt (.slice (some ⟨bs, 0, none⟩) ns.length ns.length) vts ns tq (some m) W1.drew) := ⟨HP.out.heap (Nat.le_refl _) (fun _ _ => rfl)⟩
    have HSE2 : Aside0 (Sets (fun k => S k ∨ (W.heap.size ≤ k ∧ k < W1.drew.heap.size)) bs rb ns.length m W1.drew) := ⟨{ HSE.out with hb := HSE.out.hb, mat := HSE.out.mat }⟩
    have HCH2 : Aside0 (Ch B S W W1.drew) := ⟨HCH.out.drew⟩
    have hz2 : W.heap.size ≤ W1.drew.heap.size := hz1
    have DG : Aside0 (W1.drew.cell? ⟨Bg, 0, none⟩ = some (.pointer (some ⟨g, 0, none⟩))) := ⟨dg⟩
    clear HP HSE HCH hz1 hlook c1 c3 csi dg dk
    generalize W1.drew = Wd at HP2 HSE2 HCH2 hz2 DG ⊢
    have hii := HI.out Wd HCH2.out
    have hnC : ∀ k, (S k ∨ (W.heap.size ≤ k ∧ k < Wd.heap.size)) → k < Wd.heap.size ∧ ¬ C k := fun k hk => ⟨(HP2.out.sB k hk).2, fun hc => by
      have := HC.out k hc
      rcases hk with hk | hk
      · exact this.2.1 hk
      · omega⟩
    have HNC := Aside0.mk hnC
    have HII := Aside0.mk hii
    have hN := HP2.out.hN
    clear hnC hii
    obtain ⟨An, cn, rfl⟩ := own_slice HP2.out.hn
    gi_loopw [31] (fun v31 wr => ∃ j : Nat, j ≤ ns.length ∧ v31 = .int .i64 j ∧ I Wd (setTo ns m i j) wr ∧ Keep C Wd wr) (fun v31 _ => ns.length - (intOf v31).toNat)
    case atStart => exact ⟨0, Nat.zero_le _, rfl, HII.out, Keep.refl _ _⟩
    case round =>
      obtain ⟨j, hj, rfl, hIj, hK⟩ := hrel
      have hfix : ∀ k, (S k ∨ (W.heap.size ≤ k ∧ k < Wd.heap.size)) → wr.heap[k]? = Wd.heap[k]? := fun k hk => hK.2 k (HNC.out k hk).1 (HNC.out k hk).2
      by_cases hlt : j < ns.length
      · have crow : wr.cell? ⟨rb i, j, none⟩ = some (.bool (m i j)) := by
          rw [Lib.cell_of_heap ((hfix _ (HSE2.out.sr i hi)).trans (HSE2.out.mat i hi))]; exact rowA_get hlt
        have dg : wr.cell? ⟨Bg, 0, none⟩ = some (.pointer (some ⟨g, 0, none⟩)) := (World.cell?_of_block (hK.2 Bg (by omega) (fun hc => (HC.out Bg hc).2.2.1 rfl))).trans DG.out
        have c0 : wr.cell? ⟨g, 0, none⟩ = some (.slice An ns.length cn) := by rw [Lib.cell_of_heap ((hfix g HP2.out.sg).trans HP2.out.hg)]; rfl
        obtain ⟨A', c', e', hread⟩ := own_reads (own_heap HP2.out.hn (w' := wr) (fun k e => hfix k (HP2.out.sn k e)))
        injection e' with e1 _ _
        subst e1
        obtain ⟨ad, hA, hcx⟩ := hread.at_ (j : Int) (by omega) (by omega)
        subst hA
        have hrd : rd ns (j : Int) = ns.getD j 0 := by simp [rd]
        rw [hrd, Int.toNat_natCast] at hcx
        have hmem : ns.getD j 0 ∈ ns := by rw [List.getD_eq_getElem?_getD, List.getElem?_eq_getElem hlt]; exact List.getElem_mem _
        have hsn := setTo_succ ns m i j
        have hsl : (setTo ns m i j).length < 1000 := by
          unfold setTo
          rw [List.length_map]
          have := List.length_filter_le (fun n => m i n) (List.range j)
          rw [List.length_range] at this
          omega
        cases hmj : m i j
        · rw [hmj] at crow hsn
          have HSN := Aside0.mk hsn
          clear hsn hmj hfix hread
          gi_wp2_with fail
          refine ⟨fun _ h => (by cases h), ?_⟩
          gi_wp2
          go_roundw
          case rel => exact ⟨j + 1, by omega, by simp, by rw [HSN.out, if_neg (by decide)]; exact hIj, hK⟩
          case measure => simp [intOf]; omega
        · rw [hmj, if_pos rfl] at hsn
          rw [hmj] at crow
          have HSN := Aside0.mk hsn
          obtain ⟨fn, tmps, assign, body, hy, hR⟩ := HY.out Wd _ (ns.getD j 0) wr HCH2.out hIj hK hsl hmem
          have h1n : 1 ≤ n := by omega
          have hdep : (Fence.wide.depth.isSome = true → 1 ≤ n) := fun _ => h1n
          generalize ns.getD j 0 = y at hcx hy hR HSN hmem
          clear hsn hmj hfix hread hrd
          gi_wp2
          refine hR.mono ?_
          rintro e W3 (⟨rfl, hI3, hk3⟩ | ⟨rfl, hI3, hk3⟩)
          · gi_wp2
            go_roundw
            case rel => exact ⟨j + 1, by omega, by simp, by rw [HSN.out]; exact hI3, hk3⟩
            case measure => simp [intOf]; omega
          · gi_wp2
            refine bodyPost_ret (results_none rfl _ _ _) rfl ?_
            refine ⟨⟨_, rfl⟩, Wd, HCH2.out, ⟨_, _, _, _, _, HP2.out⟩, hk3, .inr ⟨_, ?_, hI3⟩⟩
            rw [HSET.out, ← HSN.out]
            have := setTo_prefix ns m i (j + 1) (ns.length - (j + 1))
            rwa [show j + 1 + (ns.length - (j + 1)) = ns.length by omega] at this
      · obtain rfl : j = ns.length := by omega
        clear hfix
        gi_wp2
        go_end0
        exact ⟨⟨_, rfl⟩, Wd, HCH2.out, ⟨_, _, _, _, _, HP2.out⟩, hK, .inl (by rw [HSET.out]; exact hIj)⟩
  · rw [show decide (x ∈ ns) = false by simpa using hin] at hlook
    have hset : setOf ns m x = [] := by unfold setOf; rw [if_neg hin]
    have HSET := Aside0.mk hset
    clear hset hin
    gi_wp2_with fail
    gi_region
    gi_wp2
    refine bodyPost_ret (results_none rfl _ _ _) rfl ?_
    refine ⟨⟨_, rfl⟩, W1.drew, HCH.out.drew, ?_, Keep.refl _ _, .inl (by rw [HSET.out]; exact HI.out _ HCH.out.drew)⟩
    exact ⟨_, _, _, _, _, HP.out.heap (Nat.le_refl _) (fun _ _ => rfl)⟩
end Go.Proofs.Ytiljegeodokfmaa.Fx
