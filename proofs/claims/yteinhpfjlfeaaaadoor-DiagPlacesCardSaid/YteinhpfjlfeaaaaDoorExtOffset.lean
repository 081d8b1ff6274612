/- diag.Offset: the iterator of the lines' starts; the contract of Offset. -/
import Derived.RangeFuncNested
import Derived.RangeFuncBound
import Derived.RangeFuncCalls
import Derived.RangeFuncLeaves
import Derived.Shelf.Abstract
import Derived.Shelf.RegionOpen
import Derived.WalkKit
import Derived.OwnWalkIn
import Derived.TacticsInMore
import Derived.LoopNIn
import Derived.LoopIn
import Derived.Lib.IndexLaws
import Derived.Test.YteinhpfjlfeaaaaDoorExtStr
namespace Go.Proofs.YteinhpfjlfeaaaaDoor.Of
open Go Go.RowKit Go.Shelf Go.Proofs.YteinhpfjlfeaaaaDoorW.PrintWords
attribute [local go_sem] Oper.semAt_some
set_option linter.unusedVariables false

/-- Where the next line break stands, from a place on. -/
def nxt (s : ByteArray) (a : Nat) : Int := Lib.indexByte (s.data.toList.drop a) 10
/-- Where the k-th line begins. -/
def pos (s : ByteArray) : Nat → Nat
  | 0 => 0
  | k + 1 => pos s k + (nxt s (pos s k)).toNat + 1
/-- The first k lines each end in a line break. -/
def Full (s : ByteArray) (k : Nat) : Prop := ∀ j, j < k → 0 ≤ nxt s (pos s j)
theorem nxt_lt (s : ByteArray) (a : Nat) (h : 0 ≤ nxt s a) : a + (nxt s a).toNat + 1 ≤ s.size := by
  have := (Lib.indexByte_some (l := s.data.toList.drop a) (c := 10) (o := (nxt s a).toNat) (by unfold nxt at *; omega)).1
  have h2 := (List.getElem?_eq_some_iff.1 this).1
  rw [List.length_drop, Array.length_toList] at h2
  show a + (nxt s a).toNat + 1 ≤ s.data.size
  omega
theorem pos_le (s : ByteArray) : ∀ k, Full s k → k ≤ pos s k ∧ pos s k ≤ s.size
  | 0, _ => ⟨Nat.le_refl _, Nat.zero_le _⟩
  | k + 1, h => by
    have ih := pos_le s k (fun j hj => h j (by omega))
    have := nxt_lt s (pos s k) (h k (by omega))
    simp only [pos]; omega
/-- A line that there is. -/
abbrev Ln (s : ByteArray) := { k : Nat // Full s k }
abbrev encs (s : ByteArray) (x : Ln s) : Array Value := #[.int .i64 ((x.1 : Int) + 1), .int .i64 ((pos s x.1 : Nat) : Int)]

theorem ext_toList (s : ByteArray) (a : Nat) : (s.extract a s.size).data.toList = s.data.toList.drop a := by
  rw [ByteArray.data_extract, Array.toList_extract, List.extract_eq_take_drop]
  exact List.take_of_length_le (by rw [List.length_drop, Array.length_toList]; exact Nat.le_refl _)
theorem idx_any (s : ByteArray) (a : Nat) (w : World) : Calls Tryd.prog 25 #[.string (s.extract a s.size), .int .u8 10] w fun e w' => e = .returned (.int .i64 (nxt s a)) ∧ w' = w := by
  refine (Tryd.strings_IndexByte (s.extract a s.size) 10 w).mono ?_
  rintro e w' ⟨rfl, rfl⟩
  refine ⟨?_, rfl⟩
  rw [ext_toList]; rfl

/-- What has come when k rounds are over. -/
def Come (s : ByteArray) (k : Nat) (pre : List (Ln s)) : Prop := pre.map (·.1) = List.range k
theorem Come.snoc {s : ByteArray} {k : Nat} {pre : List (Ln s)} (h : Come s k pre) (hF : Full s k) : Come s (k + 1) (pre ++ [⟨k, hF⟩]) := by
  unfold Come at *; rw [List.map_append, h, List.range_succ]; rfl
theorem Come.len {s : ByteArray} {k : Nat} {pre : List (Ln s)} (h : Come s k pre) : pre.length = k := by
  have := congrArg List.length h; simpa using this

set_option maxRecDepth 100000 in
set_option maxHeartbeats 4000000 in
/-- The closure of starts: the k-th round is handed line k + 1 and where it begins. -/
theorem starts1_in (n : Nat) (hn : 3 ≤ n) (l Bs n₀ : Nat) (src : ByteArray) (hsz : src.size ≤ 100000) (hb : Bs < n₀) (J Jx : List (Ln src) → World → Prop)
    (hY : ∀ pre x W, J pre W → pre.length < src.size + 1 → YieldAt Fence.wide (n - 1) Tryd.prog l (encs src x) W fun e W' =>
      (e = .returned (.bool true) ∧ J (pre ++ [x]) W' ∧ Below n₀ W W') ∨ (e = .returned (.bool false) ∧ Jx (pre ++ [x]) W'))
    (W : World) (hBs : W.cell? ⟨Bs, 0, none⟩ = some (.string src)) (h0 : J [] W) :
    CallsIn Fence.wide n Tryd.prog 33 #[.func (.yield l) #[] #[], .pointer (some ⟨Bs, 0, none⟩)] W fun e W' => (∃ v, e = .returned v) ∧
      ((∃ ys, (∃ k, Full src k ∧ nxt src (pos src k) < 0 ∧ Come src (k + 1) ys) ∧ J ys W') ∨ (∃ pre, True ∧ Jx pre W')) := by
  refine callsIn_of_wp Tryd.func33 rfl trivial ?_ rfl
  simp only [Tryd.ntmps33, List.size_toArray, List.length_cons, List.length_nil, Nat.reduceAdd, Nat.reduceSub, Array.replicate_succ, Array.replicate_zero, List.push_toArray, List.append_toArray, List.nil_append, List.cons_append]
  gi_wp2
  gi_loopw [3, 4] (fun ln at_ wr => ∃ (k : Nat) (pre : List (Ln src)), Full src k ∧ ln = .int .i64 ((k : Int) + 1) ∧ at_ = .int .i64 ((pos src k : Nat) : Int) ∧ Come src k pre ∧ J pre wr ∧ Below n₀ W wr)
    (fun ln _ _ => src.size + 1 - (intOf ln).toNat)
  case atStart => exact ⟨0, [], fun j hj => by omega, rfl, rfl, rfl, h0, Below.refl _ _⟩
  case round =>
    obtain ⟨k, pre, hF, rfl, rfl, hpre, hJs, hnx⟩ := hrel
    obtain ⟨hk1, hk2⟩ := pos_le src k hF
    have hcx : wr.cell? ⟨Bs, 0, none⟩ = some (.string src) := (hnx.cell (p := ⟨Bs, 0, none⟩) hb).trans hBs
    obtain ⟨fn, tmps, assign, body, hy, hR⟩ := hY _ ⟨k, hF⟩ wr hJs (by rw [hpre.len]; omega)
    dsimp only [encs] at hy
    have h1n : 1 ≤ n := by omega
    have hdep : (Fence.wide.depth.isSome = true → 1 ≤ n) := fun _ => h1n
    have hp0 : 0 ≤ ((pos src k : Nat) : Int) := by omega
    by_cases hlt : 0 ≤ nxt src (pos src k)
    · have hpl := nxt_lt src (pos src k) hlt
      gi_wp2
      refine hR.mono ?_
      rintro e W3 (⟨rfl, hJ3, hk3⟩ | ⟨rfl, hJx3⟩)
      · have hc3 : W3.cell? ⟨Bs, 0, none⟩ = some (.string src) := (hk3.cell (p := ⟨Bs, 0, none⟩) hb).trans hcx
        gi_wp2_with (refine ⟨trivial, ?_⟩; gi_at_call 25; refine (callsIn_wide.2 (idx_any src (pos src k) _)).mono ?_; rintro e w' ⟨rfl, rfl⟩)
        go_roundw
        case rel =>
          refine ⟨k + 1, _, fun j hj => ?_, by first | rfl | simp, ?_, hpre.snoc hF, hJ3, hnx.trans hk3⟩
          · by_cases h : j < k
            · exact hF j h
            · obtain rfl : j = k := by omega
              exact hlt
          · congr 1; simp only [pos]; omega
        case measure => simp [intOf]; omega
      · gi_wp2
        refine bodyPost_ret (results_none rfl _ _ _) rfl ?_
        exact ⟨⟨_, rfl⟩, .inr ⟨_, trivial, hJx3⟩⟩
    · have hlt' : nxt src (pos src k) < 0 := by omega
      gi_wp2
      refine hR.mono ?_
      rintro e W3 (⟨rfl, hJ3, hk3⟩ | ⟨rfl, hJx3⟩)
      · have hc3 : W3.cell? ⟨Bs, 0, none⟩ = some (.string src) := (hk3.cell (p := ⟨Bs, 0, none⟩) hb).trans hcx
        gi_wp2_with (refine ⟨trivial, ?_⟩; gi_at_call 25; refine (callsIn_wide.2 (idx_any src (pos src k) _)).mono ?_; rintro e w' ⟨rfl, rfl⟩)
        refine bodyPost_ret (results_none rfl _ _ _) rfl ?_
        exact ⟨⟨_, rfl⟩, .inl ⟨_, ⟨k, hF, hlt', hpre.snoc hF⟩, hJ3⟩⟩
      · gi_wp2
        refine bodyPost_ret (results_none rfl _ _ _) rfl ?_
        exact ⟨⟨_, rfl⟩, .inr ⟨_, trivial, hJx3⟩⟩

/-- starts hands back a value that stops. -/
theorem starts_stops (n : Nat) (hn : 3 ≤ n) (Bs n₀ : Nat) (src : ByteArray) (hsz : src.size ≤ 100000) (w : World) (hb : Bs < n₀) (hBs : Bs < w.heap.size) (hc : w.cell? ⟨Bs, 0, none⟩ = some (.string src)) :
    SeqStopsK Fence.wide n Tryd.prog 33 #[.pointer (some ⟨Bs, 0, none⟩)] (encs src) (Below n₀) (fun ys => ∃ k, Full src k ∧ nxt src (pos src k) < 0 ∧ Come src (k + 1) ys) (fun _ => True) (src.size + 1) w :=
  fun l J Jx W hW _ _ hY h0 => starts1_in n hn l Bs n₀ src hsz hb J Jx hY W ((hW.cell (p := ⟨Bs, 0, none⟩) hBs).trans hc) h0
theorem starts_in (n : Nat) (src : ByteArray) (w : World) :
    CallsIn Fence.wide n Tryd.prog 24 #[.string src] w fun e w' => e = .returned (.func (.func 33) #[] #[.pointer (some ⟨w.heap.size, 0, none⟩)]) ∧ w' = w.alloc (.cells #[.string src] 9) := by
  refine callsIn_of_wp Tryd.func24 rfl trivial ?_ rfl
  simp only [Tryd.ntmps24, List.size_toArray, List.length_cons, List.length_nil, Nat.reduceAdd, Nat.reduceSub, Array.replicate_succ, Array.replicate_zero, List.push_toArray, List.append_toArray, List.nil_append, List.cons_append]
  gi_wp2
  go_ret
  exact ⟨rfl, rfl⟩

/-- How wide a line is. -/
def width (s : ByteArray) (k : Nat) : Int := if nxt s (pos s k) < 0 then (s.size : Int) - (pos s k : Int) else nxt s (pos s k)
/-- What a line gives for a column. -/
def give (s : ByteArray) (k : Nat) (column : Int) : Int × Bool := if column < 1 ∨ width s k + 1 < column then (0, false) else ((pos s k : Int) + column - 1, true)
def fullB (s : ByteArray) (k : Nat) : Bool := (List.range k).all fun j => decide (0 ≤ nxt s (pos s j))
theorem fullB_iff {s : ByteArray} {k : Nat} : fullB s k = true ↔ Full s k := by simp [fullB, Full]
/-- Where a line and a column lead. -/
def offs (s : ByteArray) (line column : Int) : Int × Bool := if 1 ≤ line ∧ fullB s (line - 1).toNat = true then give s (line - 1).toNat column else (0, false)

theorem cell_of_box_l {W : World} {b : Nat} {v : Value} {t : TypeId} (h : W.heap[b]? = some (.cells #[v] t (0, 0))) : W.cell? ⟨b, 0, none⟩ = some v ∧ W.frozen? ⟨b, 0, none⟩ = false := by
  constructor <;> simp [World.cell?, World.frozen?, h]
theorem cell_new_l (W : World) (v : Value) (t : TypeId) : (W.alloc (.cells #[v] t)).cell? ⟨W.heap.size, 0, none⟩ = some v ∧ (W.alloc (.cells #[v] t)).frozen? ⟨W.heap.size, 0, none⟩ = false :=
  cell_of_box_l (World.alloc_heap_new W _)
theorem cell_alloc_l {W : World} {a : Addr} {v : Value} (o : Obj) (h : W.cell? a = some v) : (W.alloc o).cell? a = some v := cell_kept h (World.grownBy_alloc W o none) (fun r e => by cases e)
theorem frozen_alloc_l {W : World} {a : Addr} {v : Value} (o : Obj) (h : W.cell? a = some v) (hf : W.frozen? a = false) : (W.alloc o).frozen? a = false := (frozen_kept h (World.grownBy_alloc W o none) (fun r e => by cases e)).trans hf

/-- Whatever is told of blocks of one cell each. -/
def Has (L : List (Nat × Value)) (W : World) : Prop := ∀ p ∈ L, W.cell? ⟨p.1, 0, none⟩ = some p.2 ∧ W.frozen? ⟨p.1, 0, none⟩ = false
theorem Has.own {β : Type} (L : β → List (Nat × Value)) : Own (fun b W => Has (L b) W) := fun s A B row hs hg hr p hp => ⟨cell_kept (hs p hp).1 hg hr, (frozen_kept (hs p hp).1 hg hr).trans (hs p hp).2⟩
theorem Has.nil (W : World) : Has [] W := fun p hp => by cases hp
theorem Has.new {L : List (Nat × Value)} {W : World} (h : Has L W) (v : Value) (t : TypeId) : Has (L ++ [(W.heap.size, v)]) (W.alloc (.cells #[v] t)) := by
  intro p hp
  rcases List.mem_append.1 hp with hp | hp
  · exact ⟨cell_alloc_l _ (h p hp).1, frozen_alloc_l _ (h p hp).1 (h p hp).2⟩
  · obtain rfl := List.mem_singleton.1 hp
    exact cell_new_l W v t
theorem Has.two {W : World} {a b : Nat} {u v u' v' : Value} (hab : a ≠ b) (ca : W.cell? ⟨a, 0, none⟩ = some u) (fa : W.frozen? ⟨a, 0, none⟩ = false) (cb : W.cell? ⟨b, 0, none⟩ = some v) (fb : W.frozen? ⟨b, 0, none⟩ = false) :
    Has [(a, u'), (b, v')] ((W.setCell ⟨a, 0, none⟩ u').setCell ⟨b, 0, none⟩ v') := by
  intro p hp
  simp only [List.mem_cons, List.not_mem_nil, or_false] at hp
  have h1 : (W.setCell ⟨a, 0, none⟩ u').cell? ⟨a, 0, none⟩ = some u' := World.cell?_setCell_same' _ _ _ (by rw [ca]; rfl)
  have h2 : (W.setCell ⟨a, 0, none⟩ u').cell? ⟨b, 0, none⟩ = some v := (World.cell?_of_block (Below.heap_setCell W ⟨a, 0, none⟩ u' b (fun e => hab e.symm))).trans cb
  rcases hp with rfl | rfl
  · exact ⟨(World.cell?_of_block (Below.heap_setCell (W.setCell ⟨a, 0, none⟩ u') ⟨b, 0, none⟩ v' a hab)).trans h1, by rw [World.frozen?_setCell, World.frozen?_setCell]; exact fa⟩
  · exact ⟨World.cell?_setCell_same' _ _ _ (by rw [h2]; rfl), by rw [World.frozen?_setCell, World.frozen?_setCell]; exact fb⟩
theorem two_results {W : World} {D : Nat} {a b : Nat} {u v : Value} (h : Has [(a, u), (b, v)] W) (hK : W.heap[D]? = some (.deferred (some []))) :
    (W.putObj D (.deferred none)).cell? ⟨a, 0, none⟩ = some u ∧ (W.putObj D (.deferred none)).cell? ⟨b, 0, none⟩ = some v :=
  ⟨cell_kept (h (a, u) (by simp)).1 (grownBy_putObj' _ D (.deferred none)) (fun r e => by cases e; exact ⟨_, hK, rfl⟩), cell_kept (h (b, v) (by simp)).1 (grownBy_putObj' _ D (.deferred none)) (fun r e => by cases e; exact ⟨_, hK, rfl⟩)⟩
/-- None of the lines that have come is the one. -/
def Not (s : ByteArray) (line : Int) (pre : List (Ln s)) : Prop := ∀ x ∈ pre, line ≠ (x.1 : Int) + 1
theorem Not.snoc {s : ByteArray} {line : Int} {pre : List (Ln s)} {x : Ln s} (h : Not s line pre) (hx : ¬ line = (x.1 : Int) + 1) : Not s line (pre ++ [x]) := fun y hy => by
  rcases List.mem_append.1 hy with h' | h'
  · exact h y h'
  · obtain rfl := List.mem_singleton.1 h'; exact hx
theorem Not.offs {s : ByteArray} {line column : Int} {k : Nat} {ys : List (Ln s)} (h : Not s line ys) (hk : nxt s (pos s k) < 0) (hc : Come s (k + 1) ys) : offs s line column = (0, false) := by
  unfold Of.offs
  rw [if_neg]
  rintro ⟨h1, hF⟩
  have hF := fullB_iff.1 hF
  have hm : (line - 1).toNat ≤ k := by
    apply Nat.le_of_not_lt
    intro hlt
    have := hF k hlt
    omega
  have : (line - 1).toNat ∈ ys.map (·.1) := by rw [hc]; exact List.mem_range.2 (by omega)
  obtain ⟨y, hy, he⟩ := List.mem_map.1 this
  exact h y hy (by rw [he]; omega)
/-- A round has answered. -/
def Met (s : ByteArray) (line column : Int) (b : Nat) (W : World) : Prop := ∃ x : Ln s, line = (x.1 : Int) + 1 ∧ Has [(b + 3, .int .i64 (give s x.1 column).1), (b + 4, .bool (give s x.1 column).2)] W
theorem Met.mk {s : ByteArray} {column : Int} {b : Nat} {W : World} (x : Ln s) {r : Int × Bool} (h : Has [(b + 3, .int .i64 r.1), (b + 4, .bool r.2)] W) (hr : give s x.1 column = r) : Met s ((x.1 : Int) + 1) column b W := ⟨x, rfl, by rw [hr]; exact h⟩

set_option maxRecDepth 100000 in
set_option maxHeartbeats 4000000 in
theorem offset_any (src : ByteArray) (hsz : src.size ≤ 100000) (line column : Int) (hc : -9223372036854775808 ≤ column ∧ column ≤ 9223372036854775807) (w : World) :
    Calls Tryd.prog 15 #[.string src, .int .i64 line, .int .i64 column] w fun e w' => e = .returned (.tuple #[.int .i64 (offs src line column).1, .bool (offs src line column).2]) ∧ Below w.heap.size w w' := by
  refine (callsIn_wide (n := 6)).1 ?_
  refine callsIn_of_wp_marks Tryd.func15 rfl trivial ?_ rfl
  simp only [Tryd.ntmps15, List.size_toArray, List.length_cons, List.length_nil, Nat.reduceAdd, Nat.reduceSub, Array.replicate_succ, Array.replicate_zero, List.push_toArray, List.append_toArray, List.nil_append, List.cons_append]
  gi_wp2_with (refine ⟨trivial, ?_⟩; gi_at_call 24; refine (starts_in _ src _).mono ?_; rintro e w' ⟨rfl, rfl⟩)
  obtain ⟨W0, hW0⟩ : ∃ W0, (((((w.alloc (.cells #[.string src] 9)).alloc (.cells #[.int .i64 line] 3)).alloc (.cells #[.int .i64 column] 3)).alloc (.cells #[.int .i64 0] 3)).alloc (.cells #[.bool false] 4)).alloc (.cells #[.string src] 9) = W0 := ⟨_, rfl⟩
  have hB0 : Below w.heap.size w W0 := by
    rw [← hW0]
    exact ((((((Below.refl _ w).alloc (Nat.le_refl _) _).alloc (by simp) _).alloc (by simp; omega) _).alloc (by simp; omega) _).alloc (by simp; omega) _).alloc (by simp; omega) _
  have hsz0 : W0.heap.size = w.heap.size + 6 := by rw [← hW0]; simp
  have hH : Has [(w.heap.size, .string src), (w.heap.size + 1, .int .i64 line), (w.heap.size + 2, .int .i64 column), (w.heap.size + 3, .int .i64 0), (w.heap.size + 4, .bool false), (w.heap.size + 5, .string src)] W0 := by
    rw [← hW0]
    have := ((((((Has.nil w).new (.string src) 9).new (.int .i64 line) 3).new (.int .i64 column) 3).new (.int .i64 0) 3).new (.bool false) 4).new (.string src) 9
    simpa using this
  rw [hW0]
  have hx5 := (hH (w.heap.size + 5, .string src) (by simp)).1
  refine wpIn_rangeFunc_ownF rfl (by omega) (gf := 33) (lb := #[.pointer (some ⟨w.heap.size + 5, 0, none⟩)]) rfl trivial (enters_of Tryd.func33 (by kernel_rfl) rfl)
    (starts_stops _ (by omega) (w.heap.size + 5) W0.heap.size src hsz W0 (by omega) (by omega) hx5) belowK_t (belowK_b (Nat.le_refl _)) (Below.refl _ _) (fun _ => rfl)
    (fun pre W => (Not src line pre ∧ Has [(w.heap.size, .string src), (w.heap.size + 1, .int .i64 line), (w.heap.size + 2, .int .i64 column), (w.heap.size + 3, .int .i64 0), (w.heap.size + 4, .bool false)] W) ∧ Below w.heap.size w W)
    (fun c pre W => (c = .ret ∧ Met src line column w.heap.size W) ∧ Below w.heap.size w W)
    (OwnFrom.and (Own.from (fun s A B row hs hg hr => ⟨hs.1, Has.own (fun _ => _) s A B row hs.2 hg hr⟩) _) (ownFrom_below (Nat.le_refl _) (by omega)))
    (fun c => OwnFrom.and (Own.from (fun s A B row hs hg hr => by obtain ⟨h1, x, h2, h3⟩ := hs; exact ⟨h1, x, h2, Has.own (fun _ => _) s A B row h3 hg hr⟩) _) (ownFrom_below (Nat.le_refl _) (by omega)))
    ⟨⟨(fun x hx => by cases hx), fun p hp => hH p (by simp only [List.mem_cons, List.not_mem_nil, or_false] at hp ⊢; rcases hp with h | h | h | h | h <;> simp [h])⟩, hB0⟩
    (fun x => { tmps := #[.string src, .int .i64 line, .int .i64 column, .pointer (some ⟨w.heap.size, 0, none⟩), .pointer (some ⟨w.heap.size + 1, 0, none⟩), .pointer (some ⟨w.heap.size + 2, 0, none⟩), .pointer (some ⟨w.heap.size + 3, 0, none⟩), .pointer (some ⟨w.heap.size + 4, 0, none⟩),
      .int .i64 ((x.1 : Int) + 1), .int .i64 ((pos src x.1 : Nat) : Int), undef, .string src, .func (.func 33) #[] #[.pointer (some ⟨w.heap.size + 5, 0, none⟩)], .int .i64 ((x.1 : Int) + 1), .int .i64 ((pos src x.1 : Nat) : Int),
      undef, undef, undef, undef, undef, undef, undef, undef, undef, undef, undef, undef, undef, undef, undef, undef, undef, undef, undef, undef, undef, undef, undef, undef, undef], defers := [] }) ?assign ?body ?done ?stop
  case assign =>
    intro l x W K hK
    gi_wp2
    exact hK
  case body =>
    rintro l pre x W ⟨⟨hp, hH⟩, hB⟩ _
    have hF := x.2
    obtain ⟨hk1, hk2⟩ := pos_le src x.1 hF
    obtain ⟨c0, f0⟩ := hH _ (List.mem_cons_self ..)
    obtain ⟨c1, f1⟩ := hH (w.heap.size + 1, .int .i64 line) (by simp)
    obtain ⟨c2, f2⟩ := hH (w.heap.size + 2, .int .i64 column) (by simp)
    obtain ⟨c3, f3⟩ := hH (w.heap.size + 3, .int .i64 0) (by simp)
    obtain ⟨c4, f4⟩ := hH (w.heap.size + 4, .bool false) (by simp)
    have HH := Aside0.mk hH
    dsimp only at c0 c1 c2 c3 c4 f0 f1 f2 f3 f4
    have hp0 : 0 ≤ ((pos src x.1 : Nat) : Int) := by omega
    by_cases hl : line = (x.1 : Int) + 1
    · subst hl
      have hw0 : width src x.1 ≤ (src.size : Int) ∧ 0 ≤ width src x.1 := by
        unfold width
        split
        · omega
        · have := nxt_lt src (pos src x.1) (by omega); omega
      have hend : ∀ (a : Int) (b : Bool), give src x.1 column = (a, b) → Met src ((x.1 : Int) + 1) column w.heap.size ((W.setCell ⟨w.heap.size + 3, 0, none⟩ (.int .i64 a)).setCell ⟨w.heap.size + 4, 0, none⟩ (.bool b)) :=
        fun a b h => Met.mk x (r := (a, b)) (Has.two (by omega) c3 f3 c4 f4) h
      have hB2 : ∀ u v : Value, Below w.heap.size w ((W.setCell ⟨w.heap.size + 3, 0, none⟩ u).setCell ⟨w.heap.size + 4, 0, none⟩ v) := fun u v => (hB.setCell (p := ⟨w.heap.size + 3, 0, none⟩) (by simp) _).setCell (p := ⟨w.heap.size + 4, 0, none⟩) (by simp) _
      by_cases hn : nxt src (pos src x.1) < 0
      · have hg1 : column < 1 ∨ (src.size : Int) - (pos src x.1 : Int) + 1 < column → give src x.1 column = (0, false) := fun h => by unfold give width; rw [if_pos hn, if_pos h]
        have hg2 : 1 ≤ column ∧ column ≤ (src.size : Int) - (pos src x.1 : Int) + 1 → give src x.1 column = ((pos src x.1 : Int) + column - 1, true) := fun h => by unfold give width; rw [if_pos hn, if_neg (by omega)]
        have G1 := Aside0.mk hg1
        have G2 := Aside0.mk hg2
        have E := Aside0.mk hend
        have B2 := Aside0.mk hB2
        clear hg1 hg2 hend hB2
        gi_wp2_with (refine ⟨trivial, ?_⟩; gi_at_call 25; refine (CallsIn.inRound l (callsIn_wide.2 (idx_any src (pos src x.1) _))).mono ?_; rintro e w' ⟨rfl, rfl⟩)
        · exact ⟨(KeepsOthers.setCell _ _ _).trans (KeepsOthers.setCell _ _ _), ⟨rfl, E.out _ _ (G1.out (by omega))⟩, B2.out _ _⟩
        · exact ⟨(KeepsOthers.setCell _ _ _).trans (KeepsOthers.setCell _ _ _), ⟨rfl, E.out _ _ (G2.out (by omega))⟩, B2.out _ _⟩
        · exact ⟨(KeepsOthers.setCell _ _ _).trans (KeepsOthers.setCell _ _ _), ⟨rfl, E.out _ _ (G1.out (by omega))⟩, B2.out _ _⟩
      · have hwn : nxt src (pos src x.1) + 1 ≤ 100001 := by have := nxt_lt src (pos src x.1) (by omega); omega
        have hn0 : 0 ≤ nxt src (pos src x.1) := by omega
        have hg1 : column < 1 ∨ nxt src (pos src x.1) + 1 < column → give src x.1 column = (0, false) := fun h => by unfold give width; rw [if_neg hn, if_pos h]
        have hg2 : 1 ≤ column ∧ column ≤ nxt src (pos src x.1) + 1 → give src x.1 column = ((pos src x.1 : Int) + column - 1, true) := fun h => by unfold give width; rw [if_neg hn, if_neg (by omega)]
        have G1 := Aside0.mk hg1
        have G2 := Aside0.mk hg2
        have E := Aside0.mk hend
        have B2 := Aside0.mk hB2
        clear hg1 hg2 hend hB2
        gi_wp2_with (refine ⟨trivial, ?_⟩; gi_at_call 25; refine (CallsIn.inRound l (callsIn_wide.2 (idx_any src (pos src x.1) _))).mono ?_; rintro e w' ⟨rfl, rfl⟩)
        all_goals first
          | exact ⟨(KeepsOthers.setCell _ _ _).trans (KeepsOthers.setCell _ _ _), ⟨rfl, E.out _ _ (G1.out (by omega))⟩, B2.out _ _⟩
          | exact ⟨(KeepsOthers.setCell _ _ _).trans (KeepsOthers.setCell _ _ _), ⟨rfl, E.out _ _ (G2.out (by omega))⟩, B2.out _ _⟩
    · have hd : ((x.1 : Int) + 1 == line) = false := by simpa using fun h => hl h.symm
      have hd2 : ((x.1 : Int) + 1 != line) = true := by simpa using fun h => hl h.symm
      have HL := Aside0.mk hl
      have HP := Aside0.mk hp
      clear hl hp
      gi_wp2
      exact ⟨KeepsOthers.refl _, Below.refl _ _, ⟨HP.out.snoc HL.out, HH.out⟩, hB⟩
  case done =>
    rintro D ys W hD ⟨k, hF, hk, hcome⟩ ⟨⟨hp, hH⟩, hB⟩ hK
    have hoff : offs src line column = (0, false) := hp.offs hk hcome
    obtain ⟨c3, f3⟩ := hH (w.heap.size + 3, .int .i64 0) (by simp)
    obtain ⟨c4, f4⟩ := hH (w.heap.size + 4, .bool false) (by simp)
    dsimp only at c3 c4 f3 f4
    have HO := Aside0.mk hoff
    clear hoff hp hk hcome
    gi_wp2
    have h2 : Has [(w.heap.size + 3, .int .i64 0), (w.heap.size + 4, .bool false)] ((W.setCell ⟨w.heap.size + 3, 0, none⟩ (.int .i64 0)).setCell ⟨w.heap.size + 4, 0, none⟩ (.bool false)) := Has.two (by omega) c3 f3 c4 f4
    have hK' := ((KeepsOthers.setCell W ⟨w.heap.size + 3, 0, none⟩ (.int .i64 0)).trans (KeepsOthers.setCell _ ⟨w.heap.size + 4, 0, none⟩ (.bool false))).same D _ hK rfl
    refine ⟨by simp, .inl ⟨_, _, rfl, run_takeDeferred hK', ?_⟩⟩
    obtain ⟨r3, r4⟩ := two_results h2 hK'
    refine ⟨.tuple #[.int .i64 0, .bool false], ?_, by rw [HO.out], ?_⟩
    · simp [results, Tryd.results15, go_sem, r3, r4]
    · exact ((hB.setCell (p := ⟨w.heap.size + 3, 0, none⟩) (by simp) _).setCell (p := ⟨w.heap.size + 4, 0, none⟩) (by simp) _).trans (belowK_b (w := w) (Nat.le_refl _) _ D _ _ (by omega) hK' rfl rfl)
  case stop =>
    rintro D c pre W hD _ ⟨⟨rfl, x, hx, hH⟩, hB⟩ hK
    have hoff : offs src line column = give src x.1 column := by
      subst hx
      unfold offs
      rw [if_pos ⟨by omega, by rw [show ((x.1 : Int) + 1 - 1).toNat = x.1 by omega]; exact fullB_iff.2 x.2⟩, show ((x.1 : Int) + 1 - 1).toNat = x.1 by omega]
    have HO := Aside0.mk hoff
    clear hoff hx
    gi_wp2
    refine ⟨by simp, .inl ⟨_, _, rfl, run_takeDeferred hK, ?_⟩⟩
    obtain ⟨r3, r4⟩ := two_results hH hK
    refine ⟨.tuple #[.int .i64 (give src x.1 column).1, .bool (give src x.1 column).2], ?_, by rw [HO.out], ?_⟩
    · simp [results, Tryd.results15, go_sem, r3, r4]
    · exact hB.trans (belowK_b (w := w) (Nat.le_refl _) _ D _ _ (by omega) hK rfl rfl)
end Go.Proofs.YteinhpfjlfeaaaaDoor.Of
namespace Go.Proofs.YteinhpfjlfeaaaaDoor.PA
open Go.RowKit Go.Proofs.YteinhpfjlfeaaaaDoorW.PrintWords Go.Proofs.YteinhpfjlfeaaaaDoorW.PrintLast Go.Proofs.YteinhpfjlfeaaaaDoorW.PrintMore
/-- Of the small sources. -/
def diag_Offset.f (a0 : ByteArray) (a1 a2 : Int) : Option (Int × Bool) := if a0.size ≤ 100000 ∧ -9223372036854775808 ≤ a2 ∧ a2 ≤ 9223372036854775807 then some (Of.offs a0 a1 a2) else none
theorem diag_Offset.calls (a0 : ByteArray) (a1 a2 r1 : Int) (r2 : Bool) (w : World) (h : diag_Offset.f a0 a1 a2 = some (r1, r2)) :
    Calls Tryd.prog 15 #[.string a0, .int .i64 a1, .int .i64 a2] w fun e w' => e = .returned (.tuple #[.int .i64 r1, .bool r2]) ∧ Below w.heap.size w w' := by
  unfold diag_Offset.f at h
  by_cases hs : a0.size ≤ 100000 ∧ -9223372036854775808 ≤ a2 ∧ a2 ≤ 9223372036854775807
  · rw [if_pos hs] at h
    have h := Option.some.inj h
    have h1 : (Of.offs a0 a1 a2).1 = r1 := by rw [h]
    have h2 : (Of.offs a0 a1 a2).2 = r2 := by rw [h]
    subst h1 h2
    exact Of.offset_any a0 hs.1 a1 a2 hs.2 w
  · rw [if_neg hs] at h; exact absurd h (by simp)
end Go.Proofs.YteinhpfjlfeaaaaDoor.PA
