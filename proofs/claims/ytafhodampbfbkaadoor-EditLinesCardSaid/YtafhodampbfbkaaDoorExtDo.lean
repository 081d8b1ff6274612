/- The contract of cupel/edit.Do: a strings.Builder that is written in a loop. The plain function: edit_Do.f. -/
import Derived.Test.YtafhodampbfbkaaDoorPAx2
import Derived.Test.YtafhodampbfbkaaDoorBuild
import Derived.Test.YtafhodampbfbkaaDoorShelf
import Derived.Outline
import Derived.Deep.RegionWith
import Derived.StillTailTactics
namespace Go.Proofs.YtafhodampbfbkaaDoor.PA
open Go.RowKit Go.Proofs.YtafhodampbfbkaaDoorW.PrintWords Go.Proofs.YtafhodampbfbkaaDoorW.PrintLast Go.Proofs.YtafhodampbfbkaaDoorW.PrintMore
set_option linter.unusedVariables false
set_option linter.unusedSimpArgs false

/-- What Do writes behind what it holds already ('acc'), from a place on. -/
def edit_Do.loop (a0 : ByteArray) : List S24 → ByteArray → Int → Option ByteArray
  | [], acc, fr => if 0 ≤ fr ∧ fr ≤ (a0.size : Int) ∧ acc.size + a0.size ≤ 140737488355328 then some (acc ++ a0.extract fr.toNat a0.size) else none
  | e :: r, acc, fr => if 0 ≤ fr ∧ fr ≤ e.f0 ∧ e.f0 ≤ (a0.size : Int) ∧ acc.size + (a0.size + e.f2.size) ≤ 140737488355328 then edit_Do.loop a0 r (acc ++ (a0.extract fr.toNat e.f0.toNat ++ e.f2)) (wrap64 (e.f0 + e.f1)) else none
def edit_Do.f (k : Nat) (a0 : ByteArray) (l1 : List S24) : Option (ByteArray × Int) :=
  (edit_Right.f k a0 l1).bind fun t => if t = 0 then (edit_Do.loop a0 l1 ⟨#[]⟩ 0).bind (fun s => some (s, 0)) else some (⟨#[]⟩, t)
theorem edit_Do.mono : ∀ a0 a1 k, LeO (edit_Do.f k a0 a1) (edit_Do.f (k + 1) a0 a1) := by
  intro a0 a1 k
  unfold edit_Do.f
  exact LeO.bind (edit_Right.mono _ _ _) (fun _ => LeO.refl _)

theorem strCells_app (a b : ByteArray) : Lib.strCells (a ++ b) = Lib.strCells a ++ Lib.strCells b := by
  simp [Lib.strCells, ByteArray.append_eq, ByteArray.data_append]

theorem loop_cons (a0 : ByteArray) (l : List S24) (j : Nat) (hj : j < l.length) (acc : ByteArray) (fr : Int) (r : ByteArray) (h : edit_Do.loop a0 (l.drop j) acc fr = some r) :
    (0 ≤ fr ∧ fr ≤ (rd_T24 l j).f0 ∧ (rd_T24 l j).f0 ≤ (a0.size : Int) ∧ acc.size + (a0.size + (rd_T24 l j).f2.size) ≤ 140737488355328) ∧
      edit_Do.loop a0 (l.drop (j + 1)) (acc ++ (a0.extract fr.toNat (rd_T24 l j).f0.toNat ++ (rd_T24 l j).f2)) (wrap64 ((rd_T24 l j).f0 + (rd_T24 l j).f1)) = some r := by
  have e : rd_T24 l (j : Int) = l[j] := by simp [rd_T24, List.getD_eq_getElem?_getD, List.getElem?_eq_getElem hj]
  rw [List.drop_eq_getElem_cons hj, edit_Do.loop] at h
  rw [e]
  split at h
  · rename_i c
    exact ⟨c, h⟩
  · cases h
theorem loop_nil (a0 : ByteArray) (l : List S24) (acc : ByteArray) (fr : Int) (r : ByteArray) (h : edit_Do.loop a0 (l.drop l.length) acc fr = some r) :
    (0 ≤ fr ∧ fr ≤ (a0.size : Int) ∧ acc.size + a0.size ≤ 140737488355328) ∧ r = acc ++ a0.extract fr.toNat a0.size := by
  rw [List.drop_length, edit_Do.loop] at h
  split at h
  · rename_i c
    exact ⟨c, (Option.some.inj h).symm⟩
  · cases h

set_option maxHeartbeats 4000000 in
set_option maxRecDepth 100000 in
theorem edit_Do.calls (k : Nat) (a0 : ByteArray) (A1 : Option Addr) (c1 : Nat) (l1 : List S24) (r1 : ByteArray) (r2 : Int) (w : World) (hr1 : Kd.C k24 w A1 l1.length l1) (hc1 : l1.length ≤ c1) (h : edit_Do.f k a0 l1 = some (r1, r2)) :
    Calls Tryd.prog 7 #[.string a0, .slice A1 l1.length c1] w fun e w' => e = .returned (.tuple #[.string r1, .int .i64 r2]) ∧ Below w.heap.size w w' := by
  have HR1 := Aside0.mk hr1
  unfold edit_Do.f at h
  obtain ⟨t, ht, h2⟩ := Option.bind_eq_some_iff.1 h
  clear h
  have HT := Aside0.mk ht
  clear ht
  by_cases ht0 : t = 0
  · subst ht0
    rw [if_pos rfl] at h2
    obtain ⟨s, hs, h3⟩ := Option.bind_eq_some_iff.1 h2
    obtain ⟨rfl, rfl⟩ : s = r1 ∧ (0 : Int) = r2 := by simpa using h3
    clear h2 h3
    have HS := Aside0.mk hs
    clear hs hr1
    go_enter Tryd.func7, Tryd.ntmps7
    go_wp2_with fail
    refine (edit_Right.calls k a0 A1 c1 l1 0 _ HR1.out hc1 HT.out).mono ?_
    rintro e w1 ⟨rfl, hb1⟩
    have HB1 := Aside0.mk hb1
    clear hb1
    go_wp2_with fail
    have HI : Aside0 (Lib.IsBuilder 42 5 w1.heap.size w1.heap.size [] (w1.alloc (.cells #[.pointer none, .slice none 0 0] 42))) := ⟨Lib.fresh_isBuilder _ _ w1⟩
    go_loopg [8, 19] l1.length (fun kq v8 v19 w' => ∃ (j : Nat) (acc : ByteArray) (fr : Int), v8 = .int .i64 fr ∧ v19 = .int .i64 j ∧ Aside0 (j ≤ l1.length ∧ kq = l1.length - j) ∧ Aside0 (edit_Do.loop a0 (l1.drop j) acc fr = some s) ∧
      Aside0 (Lib.IsBuilder 42 5 w1.heap.size w1.heap.size (Lib.strCells acc) w') ∧ Aside0 (Below w1.heap.size w1 w'))
    case atStart => exact ⟨0, ⟨#[]⟩, 0, rfl, rfl, ⟨by omega, by omega⟩, by simpa using HS, by simpa [Lib.strCells] using HI, ⟨by exact (Below.refl _ _).alloc (Nat.le_refl _) _⟩⟩
    case round =>
      obtain ⟨j, acc, fr, rfl, rfl, HJ, HL, HB, HW⟩ := hrel
      obtain ⟨hj1, hj2⟩ := HJ.out
      have hlen : l1.length ≤ 9223372036854775807 := HR1.out.2.1
      by_cases hj : j < l1.length
      · obtain ⟨⟨hf0, hf1, hf2, hf3⟩, hl2⟩ := loop_cons a0 l1 j hj acc fr s HL.out
        have HL2 := Aside0.mk hl2
        clear hl2 HS HL HI
        obtain ⟨ad, e1, hx0, hx1, hx2⟩ := at_T24 HR1.out (j : Int) (by omega) (by omega)
        subst e1
        replace hx0 := (HW.out.cell (Nat.lt_of_lt_of_le (World.block_lt_of_cell? w _ hx0) HB1.out.size)).trans ((HB1.out.cell (World.block_lt_of_cell? w _ hx0)).trans hx0)
        replace hx1 := (HW.out.cell (Nat.lt_of_lt_of_le (World.block_lt_of_cell? w _ hx1) HB1.out.size)).trans ((HB1.out.cell (World.block_lt_of_cell? w _ hx1)).trans hx1)
        replace hx2 := (HW.out.cell (Nat.lt_of_lt_of_le (World.block_lt_of_cell? w _ hx2) HB1.out.size)).trans ((HB1.out.cell (World.block_lt_of_cell? w _ hx2)).trans hx2)
        simp only [Int.toNat_natCast] at hx0 hx1 hx2
        clear hj2
        have HA : Aside0 (Lib.IsBuilder 42 5 w1.heap.size w1.heap.size (Lib.strCells acc) (wr.alloc (.cells #[.int .i64 (rd_T24 l1 j).f0, .int .i64 (rd_T24 l1 j).f1, .string (rd_T24 l1 j).f2] 24))) := ⟨Build.is_alloc HB.out _⟩
        have hsz : (a0.extract fr.toNat (rd_T24 l1 j).f0.toNat ++ (rd_T24 l1 j).f2).size ≤ a0.size + (rd_T24 l1 j).f2.size := by
          rw [ByteArray.size_append, ByteArray.size_extract]; omega
        have hsc : (Lib.strCells acc).length ≤ acc.size := by rw [Lib.strCells_length]; omega
        have hbn := HW.out.size
        have hcell : (wr.alloc (.cells #[.int .i64 (rd_T24 l1 j).f0, .int .i64 (rd_T24 l1 j).f1, .string (rd_T24 l1 j).f2] 24)).heap[wr.heap.size]? = some (.cells #[.int .i64 (rd_T24 l1 j).f0, .int .i64 (rd_T24 l1 j).f1, .string (rd_T24 l1 j).f2] 24 (0, 0)) := heap_alloc_new wr _
        have HC := Aside0.mk hcell
        clear hcell
        go_wp2_with fail
        go_region_with (go_at_call 12; refine (Build.writeString w1.heap.size w1.heap.size (Lib.strCells acc) _ _ (by exact HA.out) (by omega) (by simp; omega)).mono ?_; rintro e w2 ⟨rfl, hat, hbel, hsd⟩; have HAT := Aside0.mk hat; have HBEL := Aside0.mk hbel; have HSD := Aside0.mk hsd; clear hat hbel hsd)
        all_goals
          have hw2 : w2.heap[wr.heap.size]? = some (.cells #[.int .i64 (rd_T24 l1 j).f0, .int .i64 (rd_T24 l1 j).f1, .string (rd_T24 l1 j).f2] 24 (0, 0)) := (HSD.out _ _ _ _ HC.out (by decide) (by decide)).trans HC.out
          have hd0 : w2.cell? ⟨wr.heap.size, 0, none⟩ = some (.int .i64 (rd_T24 l1 j).f0) := by rw [Lib.cell_of_heap hw2]; rfl
          have hd1 : w2.cell? ⟨wr.heap.size, 1, none⟩ = some (.int .i64 (rd_T24 l1 j).f1) := by rw [Lib.cell_of_heap hw2]; rfl
          have hbel2 : Aside0 (Below w1.heap.size w1 w2) := ⟨((HW.out.alloc (by omega) _).drew).trans HBEL.out⟩
          clear hw2 HSD HBEL HC HA HW HB hx0 hx1 hx2
          go_wp2
          go_roundg (gk - 1)
          case measure => have := HJ.out; omega
          case rel => exact ⟨j + 1, _, _, rfl, by go_num, ⟨by omega, by have := HJ.out; omega⟩, HL2, ⟨by rw [strCells_app]; exact .inr HAT.out⟩, hbel2⟩
      · obtain rfl : j = l1.length := by omega
        obtain ⟨⟨hf0, hf1, hf2⟩, hsr⟩ := loop_nil a0 l1 acc fr s HL.out
        have HSR := Aside0.mk hsr
        have HA : Aside0 (Lib.IsBuilder 42 5 w1.heap.size w1.heap.size (Lib.byteCells acc.data.toList) wr) := HB
        have hsz : (a0.extract fr.toNat a0.size).size ≤ a0.size := by rw [ByteArray.size_extract]; omega
        have hbn := HW.out.size
        clear hsr hj HL HS HI hj1 hj2 HJ
        go_wp2_with fail
        go_region_with (go_at_call 13; refine (Tryd.Builder_String_any w1.heap.size w1.heap.size acc.data.toList _ (by exact HA.out) (by simp; omega)).mono ?_; rintro e w2 ⟨rfl, hbel⟩; have HBEL := Aside0.mk hbel; clear hbel)
        all_goals
          have hbel2 : Aside0 (Below w.heap.size w w2) := ⟨HB1.out.trans (((HW.out.mono HB1.out.size).drew).trans (HBEL.out.mono HB1.out.size))⟩
          go_wp2
          go_ret2
          exact ⟨by rw [HSR.out]; rfl, hbel2.out⟩
  · rw [if_neg ht0] at h2
    obtain ⟨rfl, rfl⟩ : (⟨#[]⟩ : ByteArray) = r1 ∧ t = r2 := by simpa using h2
    have hb0 : (t == 0) = false := by simpa using ht0
    have hb1 : (t != 0) = true := by simpa using ht0
    clear ht0 h2 hr1
    go_enter Tryd.func7, Tryd.ntmps7
    go_wp2_with fail
    refine (edit_Right.calls k a0 A1 c1 l1 t _ HR1.out hc1 HT.out).mono ?_
    rintro e w1 ⟨rfl, hb1⟩
    have HB1 := Aside0.mk hb1
    clear hb1
    go_wp2
    go_ret2
    exact ⟨rfl, HB1.out⟩

end Go.Proofs.YtafhodampbfbkaaDoor.PA
