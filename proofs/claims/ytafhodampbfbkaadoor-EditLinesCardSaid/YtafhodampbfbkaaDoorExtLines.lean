/- The contract of cupel/edit.Lines: strings.SplitAfter and strings.Join at one byte. The plain function: edit_Lines.f. -/
import Derived.Test.YtafhodampbfbkaaDoorPAx0
import Derived.Test.YtafhodampbfbkaaDoorShelf
import Derived.Shelf.Strings.SplitCore
import Derived.Lib.SplitLaws
import Derived.Outline
import Derived.Deep.RegionWith
import Derived.StillTailTactics
namespace Go.Proofs.YtafhodampbfbkaaDoor.PA
open Go.RowKit Go.Proofs.YtafhodampbfbkaaDoorW.PrintWords Go.Proofs.YtafhodampbfbkaaDoorW.PrintLast Go.Proofs.YtafhodampbfbkaaDoorW.PrintMore
set_option linter.unusedVariables false
set_option linter.unusedSimpArgs false

/-- The lines, each with its byte 10. -/
def pcs (s : ByteArray) : List ByteArray := Lib.splitB ⟨#[10]⟩ 1 (Lib.countB s ⟨#[10]⟩) s
def lenL (l : List ByteArray) : Nat := (l.map (·.size)).sum
theorem join_len (l : List ByteArray) : (Lib.join (l.map (·.data.toList)) (⟨#[]⟩ : ByteArray).data.toList).length = lenL l := by
  induction l with
  | nil => rfl
  | cons x r ih =>
    rw [List.map_cons, Lib.join_cons]
    have : Lib.joinTail (⟨#[]⟩ : ByteArray).data.toList (r.map (·.data.toList)) = Lib.join (r.map (·.data.toList)) (⟨#[]⟩ : ByteArray).data.toList := by
      cases r with
      | nil => rfl
      | cons y r => rw [List.map_cons, Lib.join_cons]; simp [Lib.joinTail]
    rw [this, List.length_append, ih]
    simp [lenL]
theorem pcs_length (s : ByteArray) : (pcs s).length = Lib.countB s ⟨#[10]⟩ + 1 := Lib.splitB_all ⟨#[10]⟩ (by decide) 1 _ s rfl

theorem splitAfter_any (s : ByteArray) (hs : s.size ≤ 100000) (w : World) :
    Calls Tryd.prog 10 #[.string s, .string ⟨#[10]⟩] w fun e w' => e = .returned (.slice (some ⟨w.heap.size, 0, none⟩) (pcs s).length (pcs s).length) ∧ w' = w.alloc (.cells ((pcs s).map Value.string).toArray 9) := by
  have hle := Lib.countB_le ⟨#[10]⟩ (by decide) s.size s (Nat.le_refl _)
  have c := Any.strings_genSplit_core Tryd.lays221 (by kernel_rfl) s ⟨#[10]⟩ 1 (-1) (pcs s).length w (by omega) (by decide) (by decide)
    (fun x c hx => by have := Tryd.strings_Index_one x 10 (w.alloc (.cells c 9)); rwa [show Lib.indexByte x.data.toList 10 = Lib.indexB x ⟨#[10]⟩ from by exact (Lib.index_one _ _).symm] at this)
    (by have := Tryd.strings_Count_one s 10 w; rwa [show Lib.countByte s.data.toList 10 = Lib.countB s ⟨#[10]⟩ from by exact (Lib.count_one 10 _).symm] at this)
    (by decide) (by decide) (by rw [if_pos (by decide), pcs_length]; omega)
  rw [show (pcs s).length - 1 = Lib.countB s ⟨#[10]⟩ by rw [pcs_length]; rfl] at c
  have e2 : Lib.cellsOf (pcs s) (pcs s).length = ((pcs s).map Value.string).toArray := Lib.cellsOf_full _
  have c2 : Calls Tryd.prog 15 #[.string s, .string ⟨#[10]⟩, .int .i64 1, .int .i64 (-1)] w fun e w' => e = .returned (.slice (some ⟨w.heap.size, 0, none⟩) (pcs s).length (pcs s).length) ∧ w' = w.alloc (.cells ((pcs s).map Value.string).toArray 9) := by
    refine c.mono ?_
    rintro e w' ⟨he, hw⟩
    exact ⟨he, by rw [hw, ← e2]; rfl⟩
  clear c e2
  go_enter Tryd.func10, Tryd.ntmps10
  go_wp2_with (go_at_call 15; refine c2.mono ?_; rintro e w' ⟨rfl, rfl⟩)
  go_ret
  exact ⟨rfl, rfl⟩

def edit_Lines.f (a0 : ByteArray) (a1 a2 : Int) : Option (Int × Int × ByteArray × Bool) :=
  if a0.size ≤ 100000 then some (if a1 < 1 ∨ a2 < a1 ∨ ((pcs a0).length : Int) < a2 then (0, 0, ⟨#[]⟩, false) else (((lenL ((pcs a0).take (a1 - 1).toNat) : Nat) : Int), ((lenL (((pcs a0).take a2.toNat).drop (a1 - 1).toNat) : Nat) : Int), ⟨#[]⟩, true)) else none

theorem lenL_split (sep : Nat) : ∀ (k : Nat) (s : ByteArray), lenL (Lib.splitB ⟨#[10]⟩ 1 k s) = s.size
  | 0, s => by simp [lenL, Lib.splitB]
  | k + 1, s => by
    by_cases h : Lib.indexB s ⟨#[10]⟩ = -1
    · rw [Lib.splitB_miss _ _ _ _ h]; simp [lenL]
    · rcases Lib.indexB_cases s ⟨#[10]⟩ with h' | ⟨i, hi, hle⟩
      · exact absurd h' h
      · rw [Lib.splitB_hit _ _ _ _ i hi]
        have ih := lenL_split sep k (s.extract (i + (⟨#[10]⟩ : ByteArray).size) s.size)
        have h1 : (⟨#[10]⟩ : ByteArray).size = 1 := rfl
        simp only [lenL, List.map_cons, List.sum_cons] at ih ⊢
        rw [ih, ByteArray.size_extract, ByteArray.size_extract]
        omega
theorem lenL_sub (l : List ByteArray) (a b : Nat) : lenL ((l.take b).drop a) ≤ lenL l := by
  unfold lenL
  have e : l = l.take b ++ l.drop b := (List.take_append_drop b l).symm
  have e2 : l.take b = (l.take b).take a ++ (l.take b).drop a := (List.take_append_drop a _).symm
  have h1 : (l.map (·.size)).sum = ((l.take b).map (·.size)).sum + ((l.drop b).map (·.size)).sum := by
    rw [← List.sum_append, ← List.map_append, ← e]
  have h2 : ((l.take b).map (·.size)).sum = (((l.take b).take a).map (·.size)).sum + (((l.take b).drop a).map (·.size)).sum := by
    rw [← List.sum_append, ← List.map_append, ← e2]
  omega
def Txt (n : Nat) (W : World) (e : Ending) (W' : World) : Prop := ∃ v : ByteArray, e = .returned (.string v) ∧ v.size = n ∧ Below W.heap.size W W'
theorem join_any (b o c n : Nat) (xs : List ByteArray) (w : World) (hn : xs.length = n) (hc : n ≤ c) (hl : lenL xs ≤ 100000) (hx : n ≤ 200000) (hcells : ∀ (j : Nat) x, xs[j]? = some x → w.cell? ⟨b, o + j, none⟩ = some (.string x)) (hb : b < w.heap.size) :
    Calls Tryd.prog 11 #[.slice (some ⟨b, o, none⟩) n c, .string ⟨#[]⟩] w (Txt (lenL xs) w) := by
  subst hn
  have hj := join_len xs
  refine (Tryd.strings_Join b o c xs ⟨#[]⟩ w hcells hb (by omega) hc (by rw [hj]; omega)).mono ?_
  rintro e w' ⟨rfl, h⟩
  exact ⟨_, rfl, by rw [← hj]; simp [ByteArray.size], h⟩
set_option maxHeartbeats 1000000 in
theorem lines_any (s : ByteArray) (a1 a2 : Int) (hs : s.size ≤ 100000) (w : World) (h1 : 1 ≤ a1) (h2 : a1 ≤ a2) (h3 : a2 ≤ ((pcs s).length : Int)) :
    Calls Tryd.prog 5 #[.string s, .int .i64 a1, .int .i64 a2] w fun e w' => e = .returned (.tuple #[.agg #[.int .i64 ((lenL ((pcs s).take (a1 - 1).toNat) : Nat) : Int), .int .i64 ((lenL (((pcs s).take a2.toNat).drop (a1 - 1).toNat) : Nat) : Int), .string ⟨#[]⟩], .bool true]) ∧ Below w.heap.size w w' := by
  obtain ⟨i, rfl⟩ : ∃ i : Nat, a1 = (i : Int) + 1 := ⟨(a1 - 1).toNat, by omega⟩
  obtain ⟨j, rfl⟩ : ∃ j : Nat, a2 = (j : Int) := ⟨a2.toNat, by omega⟩
  rw [show ((i : Int) + 1 - 1).toNat = i by omega, show ((j : Int)).toNat = j by rfl]
  have hpl : (pcs s).length ≤ 100001 := by have := Lib.countB_le ⟨#[10]⟩ (by decide) s.size s (Nat.le_refl _); rw [pcs_length]; omega
  have hij : i < j := by omega
  have hjl : j ≤ (pcs s).length := by omega
  have hlen : lenL (pcs s) = s.size := lenL_split 0 _ s
  go_enter Tryd.func5, Tryd.ntmps5
  go_wp2_with (go_at_call 10; refine (splitAfter_any s hs _).mono ?_; rintro e w' ⟨rfl, rfl⟩)
  have hz : ∀ (W : World), W.heap[w.heap.size + 1]? = some (.cells ((pcs s).map Value.string).toArray 9 (0, 0)) → ∀ k x, (pcs s)[k]? = some x → W.cell? ⟨w.heap.size + 1, k, none⟩ = some (.string x) := by
    intro W hW k x hx
    rw [Lib.cell_of_heap hW]
    simp [hx]
  have hW0 : ((w.alloc (.cells #[.int .i64 0, .int .i64 0, .string ⟨#[]⟩] 24)).alloc (.cells ((pcs s).map Value.string).toArray 9)).heap[w.heap.size + 1]? = some (.cells ((pcs s).map Value.string).toArray 9 (0, 0)) := by
    have := heap_alloc_new (w.alloc (.cells #[.int .i64 0, .int .i64 0, .string ⟨#[]⟩] 24)) (.cells ((pcs s).map Value.string).toArray 9)
    rwa [World.size_alloc] at this
  have hR0 : ((w.alloc (.cells #[.int .i64 0, .int .i64 0, .string ⟨#[]⟩] 24)).alloc (.cells ((pcs s).map Value.string).toArray 9)).heap[w.heap.size]? = some (.cells #[.int .i64 0, .int .i64 0, .string ⟨#[]⟩] 24 (0, 0)) := by
    exact (Below.heap_alloc _ _ _ (by simp)).trans (heap_alloc_new w _)
  have hB0 : Below w.heap.size w ((w.alloc (.cells #[.int .i64 0, .int .i64 0, .string ⟨#[]⟩] 24)).alloc (.cells ((pcs s).map Value.string).toArray 9)) := ((Below.refl _ w).alloc (Nat.le_refl _) _).alloc (by simp) _
  have l1 := lenL_sub (pcs s) 0 i
  rw [List.drop_zero] at l1
  have l2 := lenL_sub (pcs s) i j
  have J1 := join_any (w.heap.size + 1) 0 (pcs s).length i ((pcs s).take i) _ (by rw [List.length_take]; omega) (by omega) (by omega) (by omega) (fun k x hx => by rw [Nat.zero_add]; exact hz _ hW0 k x (by rw [List.getElem?_take] at hx; split at hx <;> simp_all)) (by simp)
  have HZ := Aside0.mk hz
  have HW0 := Aside0.mk hW0
  have HR0 := Aside0.mk hR0
  have HB0 := Aside0.mk hB0
  clear hz hW0 hR0 hB0
  refine J1.mono ?_
  rintro e w1 ⟨v1, rfl, hv1, hb1⟩
  have HB1 := Aside0.mk hb1
  have hW1 : w1.heap[w.heap.size + 1]? = some (.cells ((pcs s).map Value.string).toArray 9 (0, 0)) := (hb1.block _ (by simp)).trans HW0.out
  have hR1 : w1.heap[w.heap.size]? = some (.cells #[.int .i64 0, .int .i64 0, .string ⟨#[]⟩] 24 (0, 0)) := (hb1.block _ (by simp; omega)).trans HR0.out
  have HW1 := Aside0.mk hW1
  have HR1 := Aside0.mk hR1
  have HV1 := Aside0.mk hv1
  have hsz1 : w.heap.size + 1 < w1.heap.size := (Array.getElem?_eq_some_iff.1 hW1).1
  clear hW1 hR1 hv1 hb1
  go_wp2_with fail
  have J2 := join_any (w.heap.size + 1) i ((pcs s).length - i) (j - i) (((pcs s).take j).drop i) w1 (by rw [List.length_drop, List.length_take]; omega) (by omega) (by omega) (by omega) (fun k x hx => HZ.out _ HW1.out (i + k) x (by rw [List.getElem?_drop, List.getElem?_take] at hx; split at hx <;> simp_all)) (by omega)
  refine J2.mono ?_
  rintro e w2 ⟨v2, rfl, hv2, hb2⟩
  have HB2 := Aside0.mk hb2
  have HV2 := Aside0.mk hv2
  have hR2 : w2.heap[w.heap.size]? = some (.cells #[.int .i64 0, .int .i64 0, .string ⟨#[]⟩] 24 (0, 0)) := (hb2.block _ (by omega)).trans HR1.out
  have c0 : w2.cell? ⟨w.heap.size, 0, none⟩ = some (.int .i64 0) := by rw [Lib.cell_of_heap hR2]; rfl
  have c1 : w2.cell? ⟨w.heap.size, 1, none⟩ = some (.int .i64 0) := by rw [Lib.cell_of_heap hR2]; rfl
  have c2 : w2.cell? ⟨w.heap.size, 2, none⟩ = some (.string ⟨#[]⟩) := by rw [Lib.cell_of_heap hR2]; rfl
  have c3 : ∀ o, w2.frozen? ⟨w.heap.size, o, none⟩ = false := fun o => Lib.frozen_of_heap hR2 o
  clear hb2 hv2 hR2 J1 J2
  go_wp2_with fail
  refine bodyPost_ret (v := .tuple #[.agg #[.int .i64 v1.size, .int .i64 v2.size, .string ⟨#[]⟩], .bool true]) (by simp [results, Tryd.results5, go_sem, c0, c1, c2]) rfl ⟨by rw [HV1.out, HV2.out], ?_⟩
  exact (((((HB0.out.trans (HB1.out.mono (by simp; omega))).trans (HB2.out.mono (by omega))).setCell (p := ⟨w.heap.size, 0, none⟩) (Nat.le_refl _) _).setCell (p := ⟨w.heap.size, 1, none⟩) (Nat.le_refl _) _).setCell (p := ⟨w.heap.size, 2, none⟩) (Nat.le_refl _) _)
set_option maxHeartbeats 1000000 in
theorem lines_no (s : ByteArray) (a1 a2 : Int) (hs : s.size ≤ 100000) (w : World) (h : a1 < 1 ∨ a2 < a1 ∨ ((pcs s).length : Int) < a2) :
    Calls Tryd.prog 5 #[.string s, .int .i64 a1, .int .i64 a2] w fun e w' => e = .returned (.tuple #[.agg #[.int .i64 0, .int .i64 0, .string ⟨#[]⟩], .bool false]) ∧ Below w.heap.size w w' := by
  have hpl : (pcs s).length ≤ 100001 := by have := Lib.countB_le ⟨#[10]⟩ (by decide) s.size s (Nat.le_refl _); rw [pcs_length]; omega
  by_cases h1 : a1 < 1
  · go_enter Tryd.func5, Tryd.ntmps5
    go_wp2_with (go_at_call 10; refine (splitAfter_any s hs _).mono ?_; rintro e w' ⟨rfl, rfl⟩)
    all_goals refine bodyPost_ret (v := .tuple #[.agg #[.int .i64 0, .int .i64 0, .string ⟨#[]⟩], .bool false]) (by simp [results, Tryd.results5, go_sem]) rfl ⟨rfl, ?_⟩
    all_goals exact ((Below.refl _ w).alloc (Nat.le_refl _) _).alloc (by simp) _
  by_cases h2 : a2 < a1
  · go_enter Tryd.func5, Tryd.ntmps5
    go_wp2_with (go_at_call 10; refine (splitAfter_any s hs _).mono ?_; rintro e w' ⟨rfl, rfl⟩)
    all_goals refine bodyPost_ret (v := .tuple #[.agg #[.int .i64 0, .int .i64 0, .string ⟨#[]⟩], .bool false]) (by simp [results, Tryd.results5, go_sem]) rfl ⟨rfl, ?_⟩
    all_goals exact ((Below.refl _ w).alloc (Nat.le_refl _) _).alloc (by simp) _
  have h3 : ((pcs s).length : Int) < a2 := by omega
  go_enter Tryd.func5, Tryd.ntmps5
  go_wp2_with (go_at_call 10; refine (splitAfter_any s hs _).mono ?_; rintro e w' ⟨rfl, rfl⟩)
  all_goals refine bodyPost_ret (v := .tuple #[.agg #[.int .i64 0, .int .i64 0, .string ⟨#[]⟩], .bool false]) (by simp [results, Tryd.results5, go_sem]) rfl ⟨rfl, ?_⟩
  all_goals exact ((Below.refl _ w).alloc (Nat.le_refl _) _).alloc (by simp) _
theorem edit_Lines.calls (a0 : ByteArray) (a1 a2 r1 r2 : Int) (r3 : ByteArray) (r4 : Bool) (w : World) (h : edit_Lines.f a0 a1 a2 = some (r1, r2, r3, r4)) :
    Calls Tryd.prog 5 #[.string a0, .int .i64 a1, .int .i64 a2] w fun e w' => e = .returned (.tuple #[.agg #[.int .i64 r1, .int .i64 r2, .string r3], .bool r4]) ∧ Below w.heap.size w w' := by
  unfold edit_Lines.f at h
  by_cases hs : a0.size ≤ 100000
  · rw [if_pos hs] at h
    by_cases hc : a1 < 1 ∨ a2 < a1 ∨ ((pcs a0).length : Int) < a2
    · rw [if_pos hc] at h
      obtain ⟨rfl, rfl, rfl, rfl⟩ : (0 : Int) = r1 ∧ (0 : Int) = r2 ∧ (⟨#[]⟩ : ByteArray) = r3 ∧ false = r4 := by simpa using h
      exact lines_no a0 a1 a2 hs w hc
    · rw [if_neg hc] at h
      have h := Option.some.inj h
      have e1 := (Prod.mk.inj h).1
      have e2 := (Prod.mk.inj (Prod.mk.inj h).2).1
      have e3 := (Prod.mk.inj (Prod.mk.inj (Prod.mk.inj h).2).2).1
      have e4 := (Prod.mk.inj (Prod.mk.inj (Prod.mk.inj h).2).2).2
      clear h
      subst e1 e2 e3 e4
      exact lines_any a0 a1 a2 hs w (by omega) (by omega) (by omega)
  · rw [if_neg hs] at h; exact absurd h (by simp)
end Go.Proofs.YtafhodampbfbkaaDoor.PA
