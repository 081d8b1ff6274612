/- fix, fourth part: New and Lead. -/
import Derived.Test.YtiljegeodokfmaaGrC
import Derived.Deep.AppendLies
import Derived.Maps.AppendAt
import Derived.OwnWalk
namespace Go.Proofs.Ytiljegeodokfmaa.Fx
open Go Go.RowKit Go.MapKept Go.Proofs.YtiljegeodokfmaaW.PrintWords
open Go.ChangeMaps (setBlock heap_setBlock_other)
set_option linter.unusedVariables false
set_option linter.unusedSimpArgs false

/-- Each once, in the order in which they come first. -/
def onceF (l : List Int) : List Int := l.foldl (fun acc x => if x ∈ acc then acc else acc ++ [x]) []
theorem onceF_snoc (l : List Int) (x : Int) : onceF (l ++ [x]) = if x ∈ onceF l then onceF l else onceF l ++ [x] := by
  unfold onceF; rw [List.foldl_append]; rfl
theorem onceF_len (l : List Int) : (onceF l).length ≤ l.length := by
  have key : ∀ (l acc : List Int), (l.foldl (fun acc x => if x ∈ acc then acc else acc ++ [x]) acc).length ≤ acc.length + l.length := by
    intro l
    induction l with
    | nil => intro acc; simp
    | cons x r ih =>
      intro acc
      rw [List.foldl_cons, List.length_cons]
      have := ih (if x ∈ acc then acc else acc ++ [x])
      have h2 : (if x ∈ acc then acc else acc ++ [x]).length ≤ acc.length + 1 := by split <;> simp
      omega
  have := key l []
  simpa [onceF] using this
theorem at_snoc (ns : List Int) (x y : Int) (hx : x ∉ ns) : at_ (ns ++ [x]) y = if y = x then (ns.length : Int) else at_ ns y := by
  unfold at_
  by_cases h : y = x
  · subst h
    rw [if_pos rfl, if_pos (by simp), List.idxOf_append, if_neg hx]
    simp
  · rw [if_neg h]
    by_cases hy : y ∈ ns
    · rw [if_pos (by simp [hy]), if_pos hy, List.idxOf_append, if_pos hy]
    · rw [if_neg (by simp [hy, h]), if_neg hy]
/-- Only the map's block is another. -/
theorem one_of_grown {w w' : World} {b : Nat} (h : w.mapTurned w' b) : One b w w' := by
  obtain ⟨es, clock, es', clock', hb, rfl⟩ := h
  exact ⟨rfl, rfl, rfl, by simp [setBlock], fun k hk => heap_setBlock_other hb _ (fun e => hk e)⟩
/-- One more node in the map. -/
theorem MapIs.put {w : World} {bm : Nat} {ns : List Int} (h : MapIs w bm ns) (hn : ns.length ≤ 1000) (x : Int) (hx : (Lit.int .i64 x).wf = true) (hnot : x ∉ ns) :
    ∃ w', (Instr.mapUpdate 54 (.map (some bm)) (.int .i64 x) (.int .i64 ns.length)).run Try.prog w = .ok () w' ∧ One bm w w' ∧ MapIs w' bm (ns ++ [x]) := by
  obtain ⟨D, ho, hD⟩ := h
  have hi : Maps.IsMap D := ho.isMap
  obtain ⟨w', hrun, ho', ht⟩ := ho.store (Maps.int_keyed Try.underlying3) Try.underlying54 (by unfold maxLen; omega) (Maps.keyOf_int_mk Try.underlying3 hx) (plainElem_int (a := (ns.length : Int)) Try.underlying3 (by simp [Lit.wf, IntKind.min, IntKind.max, IntKind.signed, IntKind.bits]; omega))
  refine ⟨w', hrun, one_of_grown ht, _, by rw [List.length_append]; exact ho', fun y hy => ?_⟩
  obtain ⟨g1, g2⟩ := hD y hy
  rw [at_snoc ns x y hnot]
  by_cases h : y = x
  · subst h
    rw [Maps.has_put_same hi (show WideAt.IsKeyLit (.int .i64 y) from trivial), Maps.atKey_put_same hi (show WideAt.IsKeyLit (.int .i64 y) from trivial), if_pos rfl]
    exact ⟨by simp, rfl⟩
  · have hne : Lit.int .i64 y ≠ Lit.int .i64 x := fun e => h (by injection e)
    rw [Maps.has_put_other hne, Maps.atKey_put_other hne, if_neg h, g1, g2]
    exact ⟨by simp [h], rfl⟩
theorem map_new (w : World) : MapIs (w.alloc (.map #[] 0)) w.heap.size [] := by
  refine ⟨_, World.ownsMap_made w Try.prog 3 _, fun x hx => ⟨rfl, rfl⟩⟩

theorem infoInt : (Try.prog.info? 3).map (fun i => (i.zero, i.size, i.bytes)) = some (some (.int .i64 0), 1, 8) := by kernel_rfl
theorem own_lower {w : World} {B B' e size n : Nat} {v : Value} {xs : List Value} (h : w.ownsRow B e size v n xs) (hb : B' ≤ B) : w.ownsRow B' e size v n xs :=
  ⟨h.1, h.2.imp id (fun ⟨g, cap, cur, e1, h1, r⟩ => ⟨g, cap, cur, e1, Nat.le_trans hb h1, r⟩)⟩
theorem nums_snoc (acc : List Int) (x : Int) : nums .i64 (acc ++ [x]) = nums .i64 acc ++ [.int .i64 x] := by simp [nums]
/-- The graph while it is made. -/
structure Half (w : World) (B g bm : Nat) (vn : Value) (acc : List Int) (w' : World) : Prop where
  hg : w'.heap[g]? = some (.cells #[vn, .map (some bm), .slice none 0 0, .slice none 0 0, .bool false] 58 (0, 0))
  hn : w'.ownsRow B 3 1 vn acc.length (nums .i64 acc)
  hm : MapIs w' bm acc
  hb : Below B w w'
def NewPost (l : List Int) (w : World) (e : Ending) (w' : World) : Prop :=
  ∃ g, e = .returned (.pointer (some ⟨g, 0, none⟩)) ∧ G w.heap.size (fun k => w.heap.size ≤ k ∧ k < w'.heap.size) g (onceF l) (fun _ => []) none w' ∧ Below w.heap.size w w'

set_option maxHeartbeats 4000000 in
set_option maxRecDepth 100000 in
theorem new_any (A : Option Addr) (c : Nat) (l : List Int) (w : World) (hr : ReadsInt w .i64 A l.length l) (hl : l.length ≤ 1000) (hw : ∀ x ∈ l, (Lit.int .i64 x).wf = true) :
    Calls Try.prog 9 #[.slice A l.length c] w (NewPost l w) := by
  have hmm := @run_makeMap Try.prog
  have HR := Aside0.mk hr
  have HW := Aside0.mk hw
  clear hr hw
  go_enter Try.func9, Try.ntmps9
  go_wp2_with fail
  obtain ⟨W0, hW0⟩ : ∃ W0, (w.alloc (.map #[] 0)).alloc (.cells #[.slice none 0 0, .map (some w.heap.size), .slice none 0 0, .slice none 0 0, .bool false] 58) = W0 := ⟨_, rfl⟩
  rw [hW0]
  have hz0 : W0.heap.size = w.heap.size + 2 := by rw [← hW0]; simp
  have hH : Half w w.heap.size (w.heap.size + 1) w.heap.size (.slice none 0 0) [] W0 := by
    rw [← hW0]
    refine ⟨?_, own_nil _ _ _ _, ?_, ?_⟩
    · have := heap_alloc_new (w.alloc (.map #[] 0)) (.cells #[.slice none 0 0, .map (some w.heap.size), .slice none 0 0, .slice none 0 0, .bool false] 58)
      rwa [World.size_alloc] at this
    · exact (map_new w).heap (Below.heap_alloc _ _ _ (by simp))
    · exact ((Below.refl _ w).alloc (Nat.le_refl _) _).alloc (by simp) _
  have HH := Aside0.mk hH
  clear hH hW0 hmm
  go_loopg [13] l.length (fun kq v13 w' => ∃ (i : Nat) (vn : Value), v13 = .int .i64 i ∧ Aside0 (i ≤ l.length ∧ kq = l.length - i) ∧ Aside0 (Half w w.heap.size (w.heap.size + 1) w.heap.size vn (onceF (l.take i)) w'))
  case atStart => exact ⟨0, _, rfl, ⟨by omega, by omega⟩, HH⟩
  case round =>
    obtain ⟨i, vn, rfl, HJ, HF⟩ := hrel
    obtain ⟨hj1, hj2⟩ := HJ.out
    have hzr := HF.out.hb.size
    have hlen := onceF_len (l.take i)
    have hlt : (l.take i).length ≤ 1000 := by rw [List.length_take]; omega
    have hg := HF.out.hg
    have c0 : wr.cell? ⟨w.heap.size + 1, 0, none⟩ = some vn := by rw [Lib.cell_of_heap hg]; rfl
    have c1 : wr.cell? ⟨w.heap.size + 1, 1, none⟩ = some (.map (some w.heap.size)) := by rw [Lib.cell_of_heap hg]; rfl
    have f0 : ∀ o, wr.frozen? ⟨w.heap.size + 1, o, none⟩ = false := fun o => Lib.frozen_of_heap hg o
    by_cases hi : i < l.length
    · obtain ⟨ad, hA, hcx⟩ := HR.out.at_ (i : Int) (by omega) (by omega)
      subst hA
      have hrd : rd l (i : Int) = l[i] := by simp [rd, List.getD_eq_getElem?_getD, List.getElem?_eq_getElem hi]
      rw [hrd, Int.toNat_natCast] at hcx
      have hcx2 := (HF.out.hb.cell (World.block_lt_of_cell? w _ hcx)).trans hcx
      have hwf := HW.out l[i] (List.getElem_mem _)
      have hsn : onceF (l.take (i + 1)) = if l[i] ∈ onceF (l.take i) then onceF (l.take i) else onceF (l.take i) ++ [l[i]] := by rw [List.take_succ_eq_append_getElem hi, onceF_snoc]
      generalize l[i] = x at hcx2 hwf hsn
      have hlook := HF.out.hm.look x hwf
      have HSN := Aside0.mk hsn
      clear hcx hrd hsn hj2 hg
      by_cases hx : x ∈ onceF (l.take i)
      · have hd : decide (x ∈ onceF (l.take i)) = true := by simpa using hx
        rw [hd] at hlook
        have HX := Aside0.mk hx
        clear hx hd
        go_wp2
        go_roundg (gk - 1)
        case measure => have := HJ.out; omega
        case rel => exact ⟨i + 1, vn, by go_num, ⟨by omega, by have := HJ.out; omega⟩, ⟨by rw [HSN.out, if_pos HX.out]; exact HF.out⟩⟩
      · have hd : decide (x ∈ onceF (l.take i)) = false := by simpa using hx
        rw [hd] at hlook
        rw [if_neg hx] at HSN
        have HX := Aside0.mk hx
        clear hx hd
        generalize hacc : onceF (l.take i) = acc at *
        clear hacc
        have hlen2 : acc.length ≤ 1000 := by omega
        obtain ⟨An, cn, rfl⟩ := own_slice HF.out.hn
        go_wp2_with fail
        go_still_tail 10, (by kernel_rfl)
        change wpList _ _ _ _ _ wr.drew
        obtain ⟨w2, hrun, hone, hmap⟩ := MapIs.put (w := wr.drew) HF.out.hm hlen2 x hwf HX.out
        have hg2 : w2.heap[w.heap.size + 1]? = some (.cells #[.slice An acc.length cn, .map (some w.heap.size), .slice none 0 0, .slice none 0 0, .bool false] 58 (0, 0)) := (hone.block _ (by omega)).trans HF.out.hg
        have hn2 : w2.ownsRow w.heap.size 3 1 (.slice An acc.length cn) acc.length (nums .i64 acc) := own_heap HF.out.hn (fun k e => hone.block k (fun e' => by
          subst e'
          obtain ⟨D, ⟨es, clock, hb, _⟩, _⟩ := HF.out.hm
          rcases HF.out.hn.2 with ⟨h1, _⟩ | ⟨g', cap, cur, h1, _, h2, _⟩
          · rw [h1] at e; simp [Value.ownBlock] at e
          · rw [h1] at e
            have : g' = w.heap.size := by simpa [Value.ownBlock] using e
            rw [this, hb] at h2
            injection h2 with h2
            cases h2))
        have hb2 : Below w.heap.size w w2 := ⟨hone.os.trans HF.out.hb.os, hone.tape.trans HF.out.hb.tape, hone.output.trans HF.out.hb.output, by rw [hone.size]; exact hzr, fun k hk => (hone.block k (by omega)).trans (HF.out.hb.block k hk)⟩
        have HM2 := Aside0.mk hmap
        have HG2 := Aside0.mk hg2
        have HN2 := Aside0.mk hn2
        have HB2 := Aside0.mk hb2
        clear hone hmap hg2 hn2 hb2 hlook c0 c1 f0 HF hzr
        generalize wr.drew = W3 at hrun ⊢
        have c0 : w2.cell? ⟨w.heap.size + 1, 0, none⟩ = some (.slice An acc.length cn) := by rw [Lib.cell_of_heap HG2.out]; rfl
        have f0 : ∀ o, w2.frozen? ⟨w.heap.size + 1, o, none⟩ = false := fun o => Lib.frozen_of_heap HG2.out o
        have hz2 := HB2.out.size
        have hgne : Aside0 (some (w.heap.size + 1) ≠ (Value.slice An acc.length cn).ownBlock) := ⟨fun e => own_ne_of HN2.out HG2.out (by decide) e.symm⟩
        obtain ⟨i0, hi0, hiz, hi1, hi2⟩ := info_parts infoInt
        go_wp2_with (at_builtin; refine wpList_append_own _ rfl _ _ 22 rfl w.heap.size 3 i0 (.int .i64 0) 1 8 Try.underlying22 hi0 hiz hi1 hi2 rfl (by decide) _ acc.length (nums .i64 acc) rfl (HN2.out.alloc _) ⟨w2.heap.size, 0, none⟩ 1 1 [.int .i64 x] rfl rfl (cell_one_new _ _ _) (by simp [Value.oneCell']) (by unfold maxLen; omega) (by omega) (by simp; omega) ?_; intro v' w3 hown' hgrow hnil; have c3 : w3.cell? ⟨w.heap.size + 1, 0, none⟩ = some (.slice An acc.length cn) := (hgrow.cell_far _ (by simp; have := (Array.getElem?_eq_some_iff.1 HG2.out).1; omega) hgne.out).trans ((World.cell?_of_block (Below.heap_alloc w2 _ _ (Array.getElem?_eq_some_iff.1 HG2.out).1)).trans c0); have f3 : w3.frozen? ⟨w.heap.size + 1, 0, none⟩ = false := (hgrow.frozen_far _ (by simp; have := (Array.getElem?_eq_some_iff.1 HG2.out).1; omega) hgne.out).trans ((World.frozen?_of_block (Below.heap_alloc w2 _ _ (Array.getElem?_eq_some_iff.1 HG2.out).1)).trans (f0 0)); obtain ⟨A', c', e'⟩ := own_slice hown'; subst e'; have HOWN := Aside0.mk hown'; have HGROW := Aside0.mk hgrow; clear hown' hgrow hnil)
        have hgl2 := (Array.getElem?_eq_some_iff.1 HG2.out).1
        have hmb : (Value.slice An acc.length cn).ownBlock ≠ some w.heap.size := fun e => by
          obtain ⟨D, ⟨es, clock, hb, _⟩, _⟩ := HM2.out
          rcases HN2.out.2 with ⟨h1, _⟩ | ⟨g', cap, cur, h1, _, h2, _⟩
          · rw [h1] at e; simp [Value.ownBlock] at e
          · rw [h1] at e
            have : g' = w.heap.size := by simpa [Value.ownBlock] using e
            rw [this, hb] at h2
            injection h2 with h2
            cases h2
        have hg3 : w3.heap[w.heap.size + 1]? = some (.cells #[.slice An acc.length cn, .map (some w.heap.size), .slice none 0 0, .slice none 0 0, .bool false] 58 (0, 0)) := by
          rw [HGROW.out.block _ (by simp; omega) hgne.out, Below.heap_alloc _ _ _ hgl2]; exact HG2.out
        have hh : Half w w.heap.size (w.heap.size + 1) w.heap.size (.slice A' (acc.length + 1) c') (acc ++ [x]) (w3.setCell ⟨w.heap.size + 1, 0, none⟩ (.slice A' (acc.length + 1) c')) := {
          hg := by rw [blk_set hg3]; rfl
          hn := by
            rw [List.length_append, nums_snoc]
            exact own_heap HOWN.out (fun k e => Below.heap_setCell _ ⟨w.heap.size + 1, 0, none⟩ _ k (fun e' => by
              subst e'
              exact own_ne_of HOWN.out hg3 (by decide) e))
          hm := HM2.out.heap (by
            rw [Below.heap_setCell _ ⟨w.heap.size + 1, 0, none⟩ _ _ (by show w.heap.size ≠ w.heap.size + 1; omega), HGROW.out.block _ (by simp; omega) (fun e => hmb e.symm), Below.heap_alloc _ _ _ (by omega)])
          hb := (((HB2.out.alloc hz2 _).grown HGROW.out (by simp; omega) (fun k hk => own_base HN2.out k hk))).setCell (p := ⟨w.heap.size + 1, 0, none⟩) (by simp) _ }
        have HH2 := Aside0.mk hh
        clear hh hg3 hmb
        go_roundg (gk - 1)
        case measure => have := HJ.out; omega
        case rel => exact ⟨i + 1, _, by go_num, ⟨by omega, by have := HJ.out; omega⟩, ⟨by rw [HSN.out]; exact HH2.out⟩⟩
    · obtain rfl : i = l.length := by omega
      rw [List.take_length] at *
      generalize hacc : onceF l = acc at *
      have hacc2 : acc.length ≤ 1000 := by omega
      obtain ⟨An, cn, rfl⟩ := own_slice HF.out.hn
      have c2 : wr.cell? ⟨w.heap.size + 1, 2, none⟩ = some (.slice none 0 0) := by rw [Lib.cell_of_heap hg]; rfl
      have hmk := run_make_row' (P := Try.prog) 55 22 (.slice none 0 0) 24 Try.underlying55 (by kernel_rfl) rfl .i64 .i64 acc.length (by omega) (by omega)
      have HACC := Aside0.mk hacc
      have hgl := (Array.getElem?_eq_some_iff.1 hg).1
      clear hg hj2 hi c1 hacc
      go_wp2
      have hg := HF.out.hg
      have hWz : ((wr.setCell ⟨w.heap.size + 1, 2, none⟩ (.slice (some ⟨wr.heap.size, 0, none⟩) acc.length acc.length)).alloc (.cells (madeCells #[.slice none 0 0] acc.length) 22)).heap.size = wr.heap.size + 1 := by simp
      have hkeep : ∀ x, x < wr.heap.size → x ≠ w.heap.size + 1 → ((wr.setCell ⟨w.heap.size + 1, 2, none⟩ (.slice (some ⟨wr.heap.size, 0, none⟩) acc.length acc.length)).alloc (.cells (madeCells #[.slice none 0 0] acc.length) 22)).heap[x]? = wr.heap[x]? := fun x hx hn => by
        rw [Below.heap_alloc _ _ _ (by simpa using hx)]
        exact Below.heap_setCell _ ⟨w.heap.size + 1, 2, none⟩ _ x hn
      have hbel : Below w.heap.size w ((wr.setCell ⟨w.heap.size + 1, 2, none⟩ (.slice (some ⟨wr.heap.size, 0, none⟩) acc.length acc.length)).alloc (.cells (madeCells #[.slice none 0 0] acc.length) 22)) := (HF.out.hb.setCell (p := ⟨w.heap.size + 1, 2, none⟩) (by simp) _).alloc (by simp; exact hzr) _
      have hnn : ∀ k, (Value.slice An acc.length cn).ownBlock = some k → w.heap.size ≤ k ∧ k < wr.heap.size ∧ k ≠ w.heap.size + 1 := fun k e => ⟨own_base HF.out.hn k e, own_lt HF.out.hn k e, fun e' => by subst e'; exact own_ne_of HF.out.hn hg (by decide) e⟩
      have hrep : ∀ (i : Nat) (u : Value), (List.replicate acc.length (Value.slice none 0 0))[i]? = some u → u = .slice none 0 0 := fun i u hu => by
        rw [List.getElem?_replicate] at hu
        split at hu
        · exact (Option.some.inj hu).symm
        · cases hu
      refine bodyPost_ret (v := .pointer (some ⟨w.heap.size + 1, 0, none⟩)) (by simp [results, Try.results9, go_sem]) rfl ⟨w.heap.size + 1, rfl, ?_, hbel⟩
      rw [HACC.out]
      refine ⟨_, w.heap.size, wr.heap.size, _, List.replicate acc.length (.slice none 0 0), {
        hN := hacc2
        sB := fun k hk => ⟨hk.1, hk.2⟩
        hg := by
          rw [Below.heap_alloc _ _ _ (by simp; exact hgl), blk_set hg]; rfl
        sg := ⟨by omega, by rw [hWz]; omega⟩
        sm := ⟨Nat.le_refl _, by rw [hWz]; omega⟩
        st := ⟨hzr, by rw [hWz]; omega⟩
        hn := own_heap (own_lower HF.out.hn (Nat.zero_le _)) (fun k e => hkeep k (hnn k e).2.1 (hnn k e).2.2)
        sn := fun k e => ⟨(hnn k e).1, by rw [hWz]; have := (hnn k e).2.1; omega⟩
        hm := HF.out.hm.heap (hkeep _ (by omega) (by omega))
        hbt := by
          have := heap_alloc_new (wr.setCell ⟨w.heap.size + 1, 2, none⟩ (.slice (some ⟨wr.heap.size, 0, none⟩) acc.length acc.length)) (.cells (madeCells #[.slice none 0 0] acc.length) 22)
          rw [World.size_setCell, made_nil] at this
          rw [made_nil]; exact this
        vlen := by simp
        rows := fun i u hu => by
          obtain rfl := hrep i u hu
          exact ⟨own_nil _ _ _ _, fun k e => by simp [Value.ownBlock] at e⟩
        apart := fun i j u v _ hu _ k e => by
          obtain rfl := hrep i u hu
          simp [Value.ownBlock] at e
        small := fun i n hn => by cases hn
        len := fun i => by simp
        sets := fun m hm => by cases hm }⟩
end Go.Proofs.Ytiljegeodokfmaa.Fx
