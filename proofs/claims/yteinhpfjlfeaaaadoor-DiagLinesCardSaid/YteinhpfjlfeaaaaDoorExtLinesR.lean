/- The contract of cupel/diag.Lines: a strings.Builder that is written in a loop. The plain function: diag_Lines.f. -/
import Derived.Test.YteinhpfjlfeaaaaDoorPAx4
import Derived.Test.YteinhpfjlfeaaaaDoorBuild
import Derived.Test.YteinhpfjlfeaaaaDoorShelf
import Derived.Outline
import Derived.Deep.RegionWith
import Derived.StillTailTactics
namespace Go.Proofs.YteinhpfjlfeaaaaDoor.PA
open Go.RowKit Go.Proofs.YteinhpfjlfeaaaaDoorW.PrintWords Go.Proofs.YteinhpfjlfeaaaaDoorW.PrintLast Go.Proofs.YteinhpfjlfeaaaaDoorW.PrintMore
set_option linter.unusedVariables false
set_option linter.unusedSimpArgs false

def diag_Lines.loop (src name : ByteArray) : List S26 → ByteArray → Option ByteArray
  | [], acc => some acc
  | d :: r, acc => (diag_Line.f name src d.f0 d.f1 d.f2).bind fun t => if acc.size + t.size ≤ 140737488355328 then diag_Lines.loop src name r (acc ++ t) else none
def diag_Lines.f (a0 name : ByteArray) (l2 : List S26) (l3 : List Int) (l4 : List S104) : Option ByteArray := diag_Lines.loop a0 name l2 ⟨#[]⟩

theorem at_below {T e : TypeId} {B b : Nat} {p : Value} {bs : List Value} {w w' : World} (h : Lib.BuilderAt T e B b p bs w) (hb : Below w.heap.size w w') : Lib.BuilderAt T e B b p bs w' := by
  obtain ⟨hB, v, hc, hown, hne⟩ := h
  exact ⟨hB, v, (hb.block b (Array.getElem?_eq_some_iff.1 hc).1).trans hc, pw_own_below hown hb, hne⟩
theorem is_below {T e : TypeId} {B b : Nat} {bs : List Value} {w w' : World} (h : Lib.IsBuilder T e B b bs w) (hb : Below w.heap.size w w') : Lib.IsBuilder T e B b bs w' := by
  rcases h with h | h
  · exact .inl (at_below h hb)
  · exact .inr (at_below h hb)
theorem strCells_app (a b : ByteArray) : Lib.strCells (a ++ b) = Lib.strCells a ++ Lib.strCells b := by
  simp [Lib.strCells, ByteArray.append_eq, ByteArray.data_append]
theorem lines_cons (src name : ByteArray) (l : List S26) (j : Nat) (hj : j < l.length) (acc r : ByteArray) (h : diag_Lines.loop src name (l.drop j) acc = some r) :
    ∃ t, diag_Line.f name src (rd_T26 l j).f0 (rd_T26 l j).f1 (rd_T26 l j).f2 = some t ∧ acc.size + t.size ≤ 140737488355328 ∧ diag_Lines.loop src name (l.drop (j + 1)) (acc ++ t) = some r := by
  have e : rd_T26 l (j : Int) = l[j] := by simp [rd_T26, List.getD_eq_getElem?_getD, List.getElem?_eq_getElem hj]
  rw [List.drop_eq_getElem_cons hj, diag_Lines.loop] at h
  rw [e]
  obtain ⟨t, ht, h2⟩ := Option.bind_eq_some_iff.1 h
  split at h2
  · rename_i c
    exact ⟨t, ht, c, h2⟩
  · cases h2

set_option maxHeartbeats 4000000 in
set_option maxRecDepth 100000 in
theorem diag_Lines.calls (a0 : ByteArray) (name : ByteArray) (A2 : Option Addr) (c2 : Nat) (l2 : List S26) (A3 : Option Addr) (c3 : Nat) (l3 : List Int) (A4 : Option Addr) (c4 : Nat) (l4 : List S104) (r : ByteArray) (w : World) (hr2 : Kd.C k26 w A2 l2.length l2) (hc2 : l2.length ≤ c2) (hr3 : Kd.C (Kd.int .i64) w A3 l3.length l3) (hc3 : l3.length ≤ c3) (hr4 : Kd.C k104 w A4 l4.length l4) (hc4 : l4.length ≤ c4) (h : diag_Lines.f a0 name l2 l3 l4 = some r) (hT : Tabs w) :
    Calls Tryd.prog 16 #[.string a0, .agg #[.string name, .slice A2 l2.length c2, .slice A3 l3.length c3, .slice A4 l4.length c4]] w fun e w' => e = .returned (.string r) ∧ Below w.heap.size w w' := by
  unfold diag_Lines.f at h
  have HR2 := Aside0.mk hr2
  have HS := Aside0.mk h
  have HT := Aside0.mk hT
  clear hr2 hr3 hr4 h hT hc3 hc4
  go_enter Tryd.func16, Tryd.ntmps16
  go_wp2_with fail
  obtain ⟨w1, hw1⟩ : ∃ w1, w.alloc (.cells #[.string name, .slice A2 l2.length c2, .slice A3 l3.length c3, .slice A4 l4.length c4] 46) = w1 := ⟨_, rfl⟩
  have hs1 : w1.heap.size = w.heap.size + 1 := by rw [← hw1]; simp
  have hb1 : Below w.heap.size w w1 := by rw [← hw1]; exact (Below.refl _ _).alloc (Nat.le_refl _) _
  have hn1 : w1.heap[w.heap.size]? = some (.cells #[.string name, .slice A2 l2.length c2, .slice A3 l3.length c3, .slice A4 l4.length c4] 46 (0, 0)) := by rw [← hw1]; exact heap_alloc_new w _
  rw [hw1]
  simp only [← hs1]
  have HI : Aside0 (Lib.IsBuilder 59 5 w1.heap.size w1.heap.size [] (w1.alloc (.cells #[.pointer none, .slice none 0 0] 59))) := ⟨Lib.fresh_isBuilder _ _ w1⟩
  have HB1 := Aside0.mk hb1
  have HN1 := Aside0.mk hn1
  have HW1 := Aside0.mk hw1
  have HS1 := Aside0.mk hs1
  clear hw1 hs1 hb1 hn1
  go_loopg [11] l2.length (fun kq v11 w' => ∃ (j : Nat) (acc : ByteArray), v11 = .int .i64 j ∧ Aside0 (j ≤ l2.length ∧ kq = l2.length - j) ∧ Aside0 (diag_Lines.loop a0 name (l2.drop j) acc = some r) ∧
    Aside0 (Lib.IsBuilder 59 5 w1.heap.size w1.heap.size (Lib.strCells acc) w') ∧ Aside0 (Below w1.heap.size w1 w'))
  case atStart => exact ⟨0, ⟨#[]⟩, rfl, ⟨by omega, by omega⟩, by simpa using HS, by simpa [Lib.strCells] using HI, ⟨by exact (Below.refl _ _).alloc (Nat.le_refl _) _⟩⟩
  case round =>
    obtain ⟨j, acc, rfl, HJ, HL, HB, HW⟩ := hrel
    obtain ⟨hj1, hj2⟩ := HJ.out
    have hlen : l2.length ≤ 9223372036854775807 := HR2.out.2.1
    have hbn := HW.out.size
    by_cases hj : j < l2.length
    · obtain ⟨t, ht, hsz, hl2⟩ := lines_cons a0 name l2 j hj acc r HL.out
      have HL2 := Aside0.mk hl2
      have HTT := Aside0.mk ht
      clear hl2 ht HL HI HS
      obtain ⟨ad, e1, hx0, hx1, hx2⟩ := at_T26 HR2.out (j : Int) (by omega) (by omega)
      subst e1
      replace hx0 := (HW.out.cell (Nat.lt_of_lt_of_le (World.block_lt_of_cell? w _ hx0) HB1.out.size)).trans ((HB1.out.cell (World.block_lt_of_cell? w _ hx0)).trans hx0)
      replace hx1 := (HW.out.cell (Nat.lt_of_lt_of_le (World.block_lt_of_cell? w _ hx1) HB1.out.size)).trans ((HB1.out.cell (World.block_lt_of_cell? w _ hx1)).trans hx1)
      replace hx2 := (HW.out.cell (Nat.lt_of_lt_of_le (World.block_lt_of_cell? w _ hx2) HB1.out.size)).trans ((HB1.out.cell (World.block_lt_of_cell? w _ hx2)).trans hx2)
      simp only [Int.toNat_natCast] at hx0 hx1 hx2
      have hnm : wr.cell? ⟨w.heap.size, 0, none⟩ = some (.string name) := by
        rw [Lib.cell_of_heap ((HW.out.block _ (by have := HS1.out; omega)).trans HN1.out)]; rfl
      have hnm2 : (wr.alloc (.cells #[.int .i64 (rd_T26 l2 j).f0, .int .i64 (rd_T26 l2 j).f1, .string (rd_T26 l2 j).f2] 26)).cell? ⟨w.heap.size, 0, none⟩ = some (.string name) := (World.cell?_of_block (Below.heap_alloc wr _ _ (by have := HS1.out; show w.heap.size < _; omega))).trans hnm
      have HA : Aside0 (Lib.IsBuilder 59 5 w1.heap.size w1.heap.size (Lib.strCells acc) (wr.alloc (.cells #[.int .i64 (rd_T26 l2 j).f0, .int .i64 (rd_T26 l2 j).f1, .string (rd_T26 l2 j).f2] 26))) := ⟨Build.is_alloc HB.out _⟩
      have hsc : (Lib.strCells acc).length ≤ acc.size := by rw [Lib.strCells_length]; omega
      have HBW : Aside0 (Below w1.heap.size w1 (wr.alloc (.cells #[.int .i64 (rd_T26 l2 j).f0, .int .i64 (rd_T26 l2 j).f1, .string (rd_T26 l2 j).f2] 26))) := ⟨HW.out.alloc hbn _⟩
      have HTB : Aside0 (Tabs (wr.alloc (.cells #[.int .i64 (rd_T26 l2 j).f0, .int .i64 (rd_T26 l2 j).f1, .string (rd_T26 l2 j).f2] 26))) := ⟨Tabs.below HT.out (Nat.le_refl _) (HB1.out.trans (HBW.out.mono (by have := HS1.out; omega)))⟩
      clear hj2 hnm HB HW
      go_wp2_with fail
      refine (diag_Line.calls name a0 _ _ _ t _ HTT.out HTB.out).mono ?_
      rintro e w2 ⟨rfl, hbel⟩
      have HBEL := Aside0.mk hbel
      have HA2 : Aside0 (Lib.IsBuilder 59 5 w1.heap.size w1.heap.size (Lib.strCells acc) w2) := ⟨is_below HA.out hbel⟩
      have HBW2 : Aside0 (Below w1.heap.size w1 w2) := ⟨HBW.out.trans (hbel.mono HBW.out.size)⟩
      clear hbel HA HBW HTB hx0 hx1 hx2 hnm2
      go_wp2_with fail
      refine (Build.writeString w1.heap.size w1.heap.size (Lib.strCells acc) _ _ (by exact HA2.out) (by omega) (by exact HBW2.out.size)).mono ?_
      rintro e w3 ⟨rfl, hat, hbel, hsd⟩
      have HAT := Aside0.mk hat
      have HB3 : Aside0 (Below w1.heap.size w1 w3) := ⟨HBW2.out.trans hbel⟩
      clear hat hbel hsd
      go_wp2
      go_roundg (gk - 1)
      case measure => have := HJ.out; omega
      case rel => exact ⟨j + 1, _, by go_num, ⟨by omega, by have := HJ.out; omega⟩, HL2, ⟨by rw [strCells_app]; exact .inr HAT.out⟩, HB3⟩
    · obtain rfl : j = l2.length := by omega
      have hr : acc = r := by have := HL.out; rw [List.drop_length, diag_Lines.loop] at this; exact Option.some.inj this
      have HSR := Aside0.mk hr
      have HA : Aside0 (Lib.IsBuilder 59 5 w1.heap.size w1.heap.size (Lib.byteCells acc.data.toList) wr) := HB
      clear hr HB HL HS HI hj
      go_wp2_with fail
      refine (Tryd.Builder_String_any w1.heap.size w1.heap.size acc.data.toList _ (by exact HA.out) (by exact hbn)).mono ?_
      rintro e w2 ⟨rfl, hbel⟩
      have HBEL : Aside0 (Below w.heap.size w w2) := ⟨HB1.out.trans (((HW.out.trans hbel).mono HB1.out.size))⟩
      clear hbel
      go_wp2
      go_ret
      exact ⟨by rw [← HSR.out]; rfl, HBEL.out⟩
end Go.Proofs.YteinhpfjlfeaaaaDoor.PA
