/- fix, keys string: the graph that is nil. -/
import Derived.Test.YtiljegeodokfmaaGsO
namespace Go.Proofs.Ytiljegeodokfmaa.Fs
open Go Go.RowKit Go.Proofs.YtiljegeodokfmaaW.PrintWords Go.Proofs.YtiljegeodokfmaaW.PrintLast Go.Proofs.YtiljegeodokfmaaW.PrintMore Go.Proofs.Ytiljegeodokfmaa.Fx
open Go.Proofs.Ytiljegeodokfmaa.Rg
attribute [local go_sem] Oper.semAt_some
set_option linter.unusedVariables false
set_option linter.unusedSimpArgs false

theorem then_nil {B : Nat} {S : Nat → Prop} {w W1 W' : World} (hB : B ≤ w.heap.size) (h1 : Ch B S w W1) (hb : Below w.heap.size W1 W') : Ch B S w W' :=
  h1.trans (S' := fun k => w.heap.size ≤ k) ⟨hb.mono hB, fun k h1 h2 => hb.block k (by omega)⟩ (fun x h => .inr h)
theorem in1_nil (n : Nat) (hn : 3 ≤ n) (x : ByteArray) (l Bg Bk : Nat) (W : World) (hBg : W.cell? ⟨Bg, 0, none⟩ = some (.pointer none)) :
    CallsIn Fence.wide n Try.prog 46 #[.func (.yield l) #[] #[], .pointer (some ⟨Bg, 0, none⟩), .pointer (some ⟨Bk, 0, none⟩)] W fun e W' => (∃ v, e = .returned v) ∧ W' = W := by
  refine callsIn_of_wp Try.func46 rfl trivial ?_ rfl
  simp only [Try.ntmps46, List.size_toArray, List.length_cons, List.length_nil, Nat.reduceAdd, Nat.reduceSub, Array.replicate_succ, Array.replicate_zero, List.push_toArray, List.append_toArray, List.nil_append, List.cons_append]
  gi_wp2_with fail
  refine ⟨trivial, fun _ => by omega, (callsIn_wide.2 (solve_nil W)).mono ?_⟩
  rintro e W1 ⟨rfl, rfl⟩
  gi_wp2
  refine bodyPost_ret (results_none rfl _ _ _) rfl ?_
  exact ⟨⟨_, rfl⟩, rfl⟩
theorem in_src_nil (B : Nat) (S : Nat → Prop) (x : ByteArray) (w : World) (hB : B ≤ w.heap.size) (hS : ∀ k, S k → k < w.heap.size) :
    Src B S (fun k => S k ∨ k = w.heap.size ∨ k = w.heap.size + 1) (boxG w none x) #[.pointer (some ⟨w.heap.size, 0, none⟩), .pointer (some ⟨w.heap.size + 1, 0, none⟩)] [] (fun _ _ => True) := by
  intro n hn W hW l C hC I Ix hI hY
  have hz : (boxG w none x).heap.size = w.heap.size + 2 := by simp [boxG]
  have c0 : W.cell? ⟨w.heap.size, 0, none⟩ = some (.pointer none) := by
    rw [World.cell?_of_block (hW.2 w.heap.size (by omega) (fun h => h))]
    exact (World.cell?_of_block (Below.heap_alloc _ _ _ (by simp))).trans (Boxed.new w _ _).cell
  refine (in1_nil n hn x l w.heap.size (w.heap.size + 1) W c0).mono ?_
  rintro e W' ⟨hv, rfl⟩
  exact ⟨hv, W', Ch.refl _ _ _, trivial, Keep.refl _ _, .inl (hI W' (Ch.refl _ _ _))⟩
theorem set_nil (x : ByteArray) (w : World) :
    Calls Try.prog 22 #[.pointer none, .string x] w fun e w' => (∃ A c, e = .returned (.slice A 0 c)) ∧ Below w.heap.size w w' := by
  refine (callsIn_wide (n := 8)).1 ?_
  have hsrc := in_src_nil w.heap.size (fun _ => False) x w (Nat.le_refl _) (fun _ h => h.elim)
  refine callsIn_of_wp Try.func22 rfl trivial ?_ rfl
  simp only [Try.ntmps22, List.size_toArray, List.length_cons, List.length_nil, Nat.reduceAdd, Nat.reduceSub, Array.replicate_succ, Array.replicate_zero, List.push_toArray, List.append_toArray, List.nil_append, List.cons_append]
  have HS := Aside0.mk hsrc
  clear hsrc
  gi_wp2_with (first
    | (refine ⟨trivial, ?_⟩; gi_at_call 35; refine (in_any _ _ x _).mono ?_; rintro e w' ⟨rfl, rfl⟩)
    | (refine ⟨trivial, ?_⟩; gi_at_call 34; refine (collect_any _ (by omega) w.heap.size (fun _ => False) _ _ _ _ _ (by simp [boxG]; omega) (fun k hk => hk.elim) (fun k hk => by simp [boxG]; rcases hk with hk | rfl | rfl; exact hk.elim; omega; omega) HS.out).mono ?_; rintro e w' ⟨v, z, W1, rfl, h1, h2, h3, h4, h5, h6, h7⟩))
  have hbox : Ch w.heap.size (fun _ => False) w (boxG w none x) := ((Ch.refl w.heap.size _ w).alloc (Nat.le_refl _) _).alloc (by simp) _
  obtain ⟨A, c, rfl⟩ := own_slice h4
  go_ret
  exact ⟨⟨A, c, rfl⟩, (hbox.trans h5 (fun k hk => .inl hk)).below⟩
set_option maxRecDepth 100000 in
set_option maxHeartbeats 4000000 in
theorem has_nil (B : Nat) (S : Nat → Prop) (k x : ByteArray) (w : World) (hB : B ≤ w.heap.size) (hSB : ∀ k, S k → B ≤ k ∧ k < w.heap.size) :
    Calls Try.prog 36 #[.pointer (none), .string k, .string x] w fun e w' => e = .returned (.bool (decide (k ∈ ([] : List ByteArray)))) ∧ Ch B S w w' := by
  refine (callsIn_wide (n := 8)).1 ?_
  obtain ⟨w1, hw1⟩ : ∃ w1, (w.alloc (.cells #[.string k] 9)).alloc (.cells #[.bool false] 4) = w1 := ⟨_, rfl⟩
  have hz1 : w1.heap.size = w.heap.size + 2 := by rw [← hw1]; simp
  have hold : ∀ k, k < w.heap.size → w1.heap[k]? = w.heap[k]? := fun k hk => by rw [← hw1]; exact (Below.heap_alloc _ _ k (by simp; omega)).trans (Below.heap_alloc _ _ k hk)
  have hsB := hSB
  have hsrc := in_src_nil B S x w1 (by omega) (fun k hk => by have := (hSB k hk).2; omega)
  have hCh1 : Ch B S w w1 := by rw [← hw1]; exact ((Ch.refl B S w).alloc hB _).alloc (by simp; omega) _
  have hbk : Boxed w1 w.heap.size 9 (.string k) := by rw [← hw1]; exact (Boxed.new w _ _).alloc _
  have hbr : Boxed w1 (w.heap.size + 1) 4 (.bool false) := by
    rw [← hw1]
    have := Boxed.new (w.alloc (.cells #[.string k] 9)) 4 (.bool false)
    rwa [World.size_alloc] at this
  refine callsIn_of_wp_marks Try.func36 rfl trivial ?_ rfl
  simp only [Try.ntmps36, List.size_toArray, List.length_cons, List.length_nil, Nat.reduceAdd, Nat.reduceSub, Array.replicate_succ, Array.replicate_zero, List.push_toArray, List.append_toArray, List.nil_append, List.cons_append]
  have HS := Aside0.mk hsrc
  have HB := Aside0.mk hsB
  have HC1 := Aside0.mk hCh1
  have HBK := Aside0.mk hbk
  have HBR := Aside0.mk hbr
  clear hsrc hsB hold hCh1 hbk hbr
  gi_wp2_with (refine ⟨trivial, ?_⟩; gi_at_call 35; refine (in_any _ _ x _).mono ?_; rintro e w' ⟨rfl, rfl⟩)
  rw [hz1] at HS
  obtain ⟨w2, hw2⟩ : ∃ w2, boxG w1 (none) x = w2 := ⟨_, rfl⟩
  have hz2 : w2.heap.size = w.heap.size + 4 := by rw [← hw2]; simp [boxG]; omega
  have hC2 : Ch B S w w2 := by rw [← hw2]; exact (HC1.out.alloc (by omega) _).alloc (by simp; omega) _
  have hbk2 : Boxed w2 w.heap.size 9 (.string k) := by rw [← hw2]; exact (HBK.out.alloc _).alloc _
  have hbr2 : Boxed w2 (w.heap.size + 1) 4 (.bool false) := by rw [← hw2]; exact (HBR.out.alloc _).alloc _
  rw [hw2] at HS ⊢
  clear HC1 HBK HBR hw2 hw1
  have HC2 := Aside0.mk hC2
  have HBK := Aside0.mk hbk2
  have HBR := Aside0.mk hbr2
  clear hC2 hbk2 hbr2
  refine src_run (by omega) HS.out (Old.refl _) (by omega) (fun k hk => by have := (HB.out k hk).2; omega) rfl (fun j => j = w.heap.size + 1) (fun j hj => ⟨by omega, fun e => by
      rcases e with e | e | e
      · have := (HB.out _ e).2; omega
      · omega
      · omega⟩) (fun j hj => by
      rcases hj with e | e | e
      · have := (HB.out _ e).2; omega
      · omega
      · omega)
    (fun W1 pre W => k ∉ pre ∧ Boxed W w.heap.size 9 (.string k) ∧ Boxed W (w.heap.size + 1) 4 (.bool false) ∧ Below w.heap.size W1 W) (fun c W1 pre W => c = .ret ∧ k ∈ pre ∧ Boxed W (w.heap.size + 1) 4 (.bool true) ∧ Below w.heap.size W1 W) ?hU ?hUx ?h0
    (fun y => { tmps := #[.pointer (none), .string k, .string x, undef, .pointer (some ⟨w.heap.size, 0, none⟩), undef, .pointer (some ⟨w.heap.size + 1, 0, none⟩), .string y, .pointer (none), .string x, .func (.func 46) #[] #[.pointer (some ⟨w.heap.size + 2, 0, none⟩), .pointer (some ⟨w.heap.size + 2 + 1, 0, none⟩)], .string y, undef, undef, undef], defers := [] }) ?assign ?body ?done ?stop
  case hU =>
    rintro W1 pre A l o o' hl ho hoc ⟨h1, h2, h3, hb⟩
    have := h2.lt
    exact ⟨h1, (World.putObj_heap_other (by omega)).trans h2, (World.putObj_heap_other (by omega)).trans h3, hb.grown (grownBy_putObj' _ _ _) (by omega) (fun k e => by cases e; omega)⟩
  case hUx =>
    rintro c W1 pre A l o o' hl ho hoc ⟨h1, h2, h3, hb⟩
    have := h3.lt
    exact ⟨h1, h2, (World.putObj_heap_other (by omega)).trans h3, hb.grown (grownBy_putObj' _ _ _) (by omega) (fun k e => by cases e; omega)⟩
  case h0 =>
    intro W1 h1 _
    exact ⟨List.not_mem_nil, (h1.keep _ (by omega) (fun e => by have := (HB.out _ e).2; omega)).trans HBK.out, (h1.keep _ (by omega) (fun e => by have := (HB.out _ e).2; omega)).trans HBR.out, Below.refl _ _⟩
  case assign =>
    intro y l W K hK
    gi_wp2
    exact hK
  case body =>
    rintro l W1 pre y W2 hz3 hz4 hlen ⟨hn, hbk, hbr, hb⟩
    have c1 := hbk.cell
    have c2 := hbr.cell
    have f2 := hbr.frozen
    have HBL := Aside0.mk hb
    have HN := Aside0.mk hn
    have HK := Aside0.mk hbk
    have HR := Aside0.mk hbr
    clear hb hn hbk hbr
    by_cases hy : y = k
    · have hd : (y == k) = true := by simpa using hy
      have hd2 : decide (y = k) = true := decide_eq_true hy
      have hd3 : (y.toList == k.toList) = true := by rw [hy]; exact beq_self_eq_true _
      gi_wp2
      refine ⟨KeepsOthers.setCell _ _ _, fun j _ hj => Below.heap_setCell _ _ _ j hj, rfl, by simp [hy], HR.out.set _, HBL.out.setCell (p := ⟨w.heap.size + 1, 0, none⟩) (by simp) _⟩
    · have hd : (y == k) = false := by simpa using hy
      have hd2 : decide (y = k) = false := decide_eq_false hy
      have hd3 : (y.toList == k.toList) = false := by
        rw [ByteArray.toList_eq, ByteArray.toList_eq]
        exact beq_eq_false_iff_ne.2 (fun e => hy (bytes_inj e))
      have HY := Aside0.mk hy
      clear hy
      gi_wp2
      exact ⟨KeepsOthers.refl _, fun j _ _ => rfl, by simp [HN.out, Ne.symm HY.out], HK.out, HR.out, HBL.out⟩
  case done =>
    rintro W1 W' h1 hP hz3 hk ⟨hn, hbk, hbr, hb⟩ hD
    have c2 := hbr.cell
    have f2 := hbr.frozen
    have HN := Aside0.mk hn
    have HR := Aside0.mk hbr
    have HBL := Aside0.mk hb
    have HK := Aside0.mk hk
    clear hn hbk hbr hb hk hP
    gi_wp2
    have hD2 : (W'.setCell ⟨w.heap.size + 1, 0, none⟩ (.bool false)).heap[w2.heap.size]? = some (.deferred (some [])) := (Below.heap_setCell W' ⟨w.heap.size + 1, 0, none⟩ _ _ (by show w2.heap.size ≠ w.heap.size + 1; omega)).trans hD
    refine ⟨by simp, .inl ⟨_, _, rfl, run_takeDeferred hD2, ?_⟩⟩
    have hbx : Boxed ((W'.setCell ⟨w.heap.size + 1, 0, none⟩ (.bool false)).putObj w2.heap.size (.deferred none)) (w.heap.size + 1) 4 (.bool false) := (World.putObj_heap_other (by omega)).trans (HR.out.set _)
    have c5 := hbx.cell
    refine ⟨.bool false, ?_, by rw [decide_eq_false HN.out], then_nil hB (HC2.out.trans h1 (fun x h => .inl h)) ?_⟩
    · simp [results, Try.results36, go_sem, c5]
    · refine (HBL.out.setCell (p := ⟨w.heap.size + 1, 0, none⟩) (by simp) _).grown (grownBy_putObj' _ _ _) ?_ (fun k e => by cases e; omega)
      have := HK.out.1; simp; omega
  case stop =>
    rintro c W1 W' pre h1 hP hz3 hk hpre ⟨rfl, hin, hbr, hb⟩ hD
    have HN := Aside0.mk hin
    have HPR := Aside0.mk hpre
    have HR := Aside0.mk hbr
    have HBL := Aside0.mk hb
    have HK := Aside0.mk hk
    clear hin hbr hb hk hP hpre
    gi_wp2
    refine ⟨by simp, .inl ⟨_, _, rfl, run_takeDeferred hD, ?_⟩⟩
    have hbx : Boxed (W'.putObj w2.heap.size (.deferred none)) (w.heap.size + 1) 4 (.bool true) := (World.putObj_heap_other (by omega)).trans HR.out
    have c5 := hbx.cell
    refine ⟨.bool true, ?_, by rw [decide_eq_true (HPR.out.subset HN.out)], then_nil hB (HC2.out.trans h1 (fun x h => .inl h)) ?_⟩
    · simp [results, Try.results36, go_sem, c5]
    · refine HBL.out.grown (grownBy_putObj' _ _ _) ?_ (fun k e => by cases e; omega)
      have := HK.out.1; omega
theorem circle_nil (x : ByteArray) (w : World) :
    Calls Try.prog 23 #[.pointer none, .string x] w fun e w' => e = .returned (.bool false) ∧ Below w.heap.size w w' := by
  have HS := Aside0.mk (has_nil w.heap.size (fun _ => False) x x w (Nat.le_refl _) (fun _ h => h.elim))
  refine (callsIn_wide (n := 9)).1 ?_
  refine callsIn_of_wp Try.func23 rfl trivial ?_ rfl
  simp only [Try.ntmps23, List.size_toArray, List.length_cons, List.length_nil, Nat.reduceAdd, Nat.reduceSub, Array.replicate_succ, Array.replicate_zero, List.push_toArray, List.append_toArray, List.nil_append, List.cons_append]
  gi_wp2_with (refine ⟨trivial, ?_⟩; gi_at_call 36; refine (callsIn_wide.2 HS.out).mono ?_; rintro e w' ⟨rfl, ht⟩)
  go_ret
  exact ⟨by simp, ht.below⟩
theorem same_nil (x y : ByteArray) (w : World) :
    Calls Try.prog 24 #[.pointer none, .string x, .string y] w fun e w' => e = .returned (.bool false) ∧ Below w.heap.size w w' := by
  have HS := Aside0.mk (has_nil w.heap.size (fun _ => False) x y w (Nat.le_refl _) (fun _ h => h.elim))
  have hd : decide (x ∈ ([] : List ByteArray)) = false := by simp
  refine (callsIn_wide (n := 9)).1 ?_
  refine callsIn_of_wp Try.func24 rfl trivial ?_ rfl
  simp only [Try.ntmps24, List.size_toArray, List.length_cons, List.length_nil, Nat.reduceAdd, Nat.reduceSub, Array.replicate_succ, Array.replicate_zero, List.push_toArray, List.append_toArray, List.nil_append, List.cons_append]
  gi_wp2_with (refine ⟨trivial, ?_⟩; gi_at_call 36; refine (callsIn_wide.2 HS.out).mono ?_; rintro e w' ⟨rfl, ht⟩; rw [hd])
  refine ⟨trivial, ?_⟩
  gi_wp2
  go_ret
  exact ⟨rfl, ht.below⟩
theorem circles_nil (w : World) :
    Calls Try.prog 26 #[.pointer none] w fun e w' => e = .returned (.slice none 0 0) ∧ Below w.heap.size w w' := by
  refine (callsIn_wide (n := 9)).1 ?_
  refine callsIn_of_wp Try.func26 rfl trivial ?_ rfl
  simp only [Try.ntmps26, List.size_toArray, List.length_cons, List.length_nil, Nat.reduceAdd, Nat.reduceSub, Array.replicate_succ, Array.replicate_zero, List.push_toArray, List.append_toArray, List.nil_append, List.cons_append]
  gi_wp2
  go_ret
  exact ⟨rfl, (Below.refl _ w).alloc (Nat.le_refl _) _⟩
end Go.Proofs.Ytiljegeodokfmaa.Fs
