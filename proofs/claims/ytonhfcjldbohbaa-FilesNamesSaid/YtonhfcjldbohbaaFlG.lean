/- files, seventh part: AppendSeq, Collect, All, Bytes. -/
import Derived.Test.YtonhfcjldbohbaaFlF
import Derived.Maps.AppendAt
namespace Go.Proofs.Ytonhfcjldbohbaa.Fi
open Go Go.RowKit Go.ChangeMaps Go.MapKept Go.Proofs.Ytonhfcjldbohbaa.PA Go.Proofs.YtonhfcjldbohbaaW.PrintWords Go.Proofs.YtonhfcjldbohbaaW.PrintLast Go.Proofs.YtonhfcjldbohbaaW.PrintMore Go.Proofs.Ytonhfcjldbohbaa.Rg
attribute [local go_sem] Oper.semAt_some
set_option linter.unusedVariables false
set_option linter.unusedSimpArgs false

def fc (y : Fl) : List Value := [.string y.f0, .string y.f1, .int .i64 y.f2, .int .i64 y.f3]
def fcs (ys : List Fl) : List Value := ys.flatMap fc
theorem fcs_snoc (ys : List Fl) (y : Fl) : fcs (ys ++ [y]) = fcs ys ++ fc y := by simp [fcs]
theorem fcs_len (ys : List Fl) : (fcs ys).length = ys.length * 4 := by
  induction ys with
  | nil => rfl
  | cons y ys ih =>
    have : fcs (y :: ys) = fc y ++ fcs ys := rfl
    rw [this, List.length_append, ih]
    simp [fc]; omega
theorem fcs_get : ∀ (ys : List Fl) (j : Nat) (hj : j < ys.length) (i : Nat), i < 4 → (fcs ys)[j * 4 + i]? = (fc ys[j])[i]?
  | y :: ys, 0, _, i, hi => by
    show (fc y ++ fcs ys)[0 * 4 + i]? = _
    rw [Nat.zero_mul, Nat.zero_add, List.getElem?_append_left (by simp [fc]; omega)]; rfl
  | y :: ys, j + 1, hj, i, hi => by
    show (fc y ++ fcs ys)[(j + 1) * 4 + i]? = _
    rw [List.getElem?_append_right (by simp [fc]; omega)]
    rw [show (j + 1) * 4 + i - (fc y).length = j * 4 + i by simp [fc]; omega]
    exact fcs_get ys j (by simpa using hj) i hi
theorem cell_fc_new (w : World) (y : Fl) (t : TypeId) : ∀ j u, (fc y)[j]? = some u → (w.alloc (.cells #[.string y.f0, .string y.f1, .int .i64 y.f2, .int .i64 y.f3] t)).cell? ((⟨w.heap.size, 0, none⟩ : Addr).add j) = some u := by
  intro j u h
  have hh := heap_alloc_new w (.cells #[.string y.f0, .string y.f1, .int .i64 y.f2, .int .i64 y.f3] t)
  have : (⟨w.heap.size, 0, none⟩ : Addr).add j = ⟨w.heap.size, 0 + j, none⟩ := by unfold Addr.add; split <;> simp [*]
  rw [this, Nat.zero_add, Lib.cell_of_heap hh]
  simpa [fc] using h
theorem infoFile : (Try.prog.info? 32).map (fun i => (i.zero, i.size, i.bytes)) = some (some (.agg #[.string ⟨#[]⟩, .string ⟨#[]⟩, .int .i64 0, .int .i64 0]), 4, 48) := by kernel_rfl
/-- What an AppendSeq has gathered. -/
def Gath (Bs n0 : Nat) (W1 : World) (ys : List Fl) (W : World) : Prop := ∃ v, Boxed W Bs 29 v ∧ W.ownsRow W1.heap.size 32 4 v ys.length (fcs ys) ∧ Below n0 W1 W ∧ ys.length ≤ 64
set_option maxRecDepth 100000 in
set_option maxHeartbeats 4000000 in
theorem append_any (n : Nat) (hn : 5 ≤ n) (N : Nat → Prop) (w : World) (lb : Array Value) (ys : List Fl) (hN : ∀ k, N k → k < w.heap.size) (hsrc : Src N w lb ys) :
    CallsIn Fence.wide n Try.prog 40 #[.slice none 0 0, .func (.func 41) #[] lb] w fun e w' => ∃ v, e = .returned v ∧ w'.ownsRow w.heap.size 32 4 v ys.length (fcs ys) ∧ Below w.heap.size w w' := by
  refine callsIn_of_wp_marks Try.func40 rfl trivial ?_ rfl
  simp only [Try.ntmps40, List.size_toArray, List.length_cons, List.length_nil, Nat.reduceAdd, Nat.reduceSub, Array.replicate_succ, Array.replicate_zero, List.push_toArray, List.append_toArray, List.nil_append, List.cons_append]
  gi_wp2
  obtain ⟨W0, hW0⟩ : ∃ W0, w.alloc (.cells #[.slice none 0 0] 29) = W0 := ⟨_, rfl⟩
  have hs0 : W0.heap.size = w.heap.size + 1 := by rw [← hW0]; simp
  have hv0 : Boxed W0 w.heap.size 29 (.slice none 0 0) := by rw [← hW0]; exact Boxed.new w _ _
  have hOld0 : Old w W0 := by rw [← hW0]; exact (Old.refl w).alloc _
  have hB0 : Below w.heap.size w W0 := by rw [← hW0]; exact (Below.refl _ w).alloc (Nat.le_refl _) _
  rw [hW0]
  clear hW0
  have HV0 := Aside0.mk hv0
  have HSRC := Aside0.mk hsrc
  clear hv0 hsrc
  refine src_run (by omega) HSRC.out hOld0 rfl (fun k => k = w.heap.size) (fun k hk => ⟨by omega, fun e => by have := hN _ e; omega⟩) hN (Gath w.heap.size w.heap.size) (fun _ _ _ _ => False) ?hU (fun c W1 pre A l o o' _ _ _ h => h) ?h0 ?hUa
    (fun x y => { tmps := #[.slice none 0 0, .func (.func 41) #[] lb, .pointer (some ⟨w.heap.size, 0, none⟩), undef, .slice none 0 0, .pointer (some ⟨x, 0, none⟩), .func (.func 41) #[] lb, vF y, undef, undef, undef, undef, undef], defers := [] }) ?assign ?body ?done ?stop
  case hU =>
    rintro W1 pre A l o o' hl ho hoc ⟨v, hv, hrow, hb, hlen⟩
    refine ⟨v, (World.putObj_heap_other (by omega)).trans hv, ownsRow_putObj hrow o' ho hoc, hb.grown (grownBy_putObj' _ _ _) ?_ (fun k e => by cases e; omega), hlen⟩
    have := hv.lt; omega
  case h0 =>
    intro W1 h1 _
    exact ⟨_, (h1.block _ (by omega)).trans HV0.out, ⟨rfl, .inl ⟨rfl, rfl⟩⟩, Below.refl _ _, Nat.zero_le _⟩
  case hUa =>
    rintro W1 pre A o hA ⟨v, hv, hrow, hb, hlen⟩
    have := hv.lt
    exact ⟨v, hv.alloc o, hrow.alloc o, hb.alloc (by omega) o, hlen⟩
  case assign =>
    intro y l W K hK
    simp only [vF]
    gi_wp2
    exact hK
  case body =>
    rintro l x W1 pre y W2 hz1 hz2 hbx0 hlen hmem ⟨v, hv, hrow, hb, hlen2⟩
    obtain ⟨i0, hi0, hiz, hi1, hi2⟩ := info_parts infoFile
    have hcv := hv.cell
    have hfv := hv.frozen
    have b0 : W2.cell? ⟨x, 0, none⟩ = some (.string y.f0) := by rw [Lib.cell_of_heap hbx0]; rfl
    have b1 : W2.cell? ⟨x, 1, none⟩ = some (.string y.f1) := by rw [Lib.cell_of_heap hbx0]; rfl
    have b2 : W2.cell? ⟨x, 2, none⟩ = some (.int .i64 y.f2) := by rw [Lib.cell_of_heap hbx0]; rfl
    have b3 : W2.cell? ⟨x, 3, none⟩ = some (.int .i64 y.f3) := by rw [Lib.cell_of_heap hbx0]; rfl
    have hltv := hv.lt
    have hxl := (Array.getElem?_eq_some_iff.1 hbx0).1
    clear hbx0
    simp only [vF]
    gi_wp2_with (gi_at_builtin; refine wpListIn_append_own _ rfl _ _ 29 rfl W1.heap.size 32 i0 (.agg #[.string ⟨#[]⟩, .string ⟨#[]⟩, .int .i64 0, .int .i64 0]) 4 48 Try.underlying29 hi0 hiz hi1 hi2 rfl (by decide) _ _ _ rfl (hrow.alloc _) ⟨W2.heap.size, 0, none⟩ 1 1 (fc y) rfl rfl (cell_fc_new _ _ _) (by simp [fc, Value.oneCell']) (by unfold maxLen; omega) (by omega) (by simp; omega) ?_; intro v' w3 hown' hgrow hnil; obtain ⟨hbx, hbx2, hown2, hko, hbl⟩ := hv.appended (n₀ := w.heap.size) (e := 32) (by decide) (own_base hrow (by omega)) (by omega) (Nat.le_refl _) (own_base hown' (by omega)) hgrow; have hcv3 := hbx.cell; have hfv3 := hbx.frozen; obtain ⟨A', c', e'⟩ := own_slice hown'; subst e')
    have hK3 : ∀ k, k < W1.heap.size → ¬ k = w.heap.size → (w3.setCell ⟨w.heap.size, 0, none⟩ (.slice A' (pre.length + 1) c')).heap[k]? = W2.heap[k]? := fun k h1 h2 =>
      (Below.heap_setCell w3 ⟨w.heap.size, 0, none⟩ _ k h2).trans ((hgrow.block k (by simp; omega) (fun e => by have := (hrow.lt k e.symm).1; omega)).trans (Below.heap_alloc _ _ k (by omega)))
    refine ⟨hko, hK3, _, hbx2, ?_, hb.trans hbl, by rw [List.length_append, List.length_singleton]; omega⟩
    rw [List.length_append, List.length_singleton, fcs_snoc]
    exact hown'.kept (grownBy_setCell' w3 w.heap.size _) (.inr (hbx.not_row (by decide) hown').symm)
  case done =>
    rintro W1 W' h1 hz1 hk ⟨v, hv, hrow, hb, hlen⟩ hD
    have hcv := hv.cell
    have hfv := hv.frozen
    have HK := Aside0.mk hk
    gi_wp2
    refine ⟨by simp, .inl ⟨_, _, rfl, run_takeDeferred hD, ?_⟩⟩
    have hg := grownBy_putObj' W' W0.heap.size (.deferred none)
    refine ⟨_, results_tmp rfl _ _ _, v, rfl, own_base (ownsRow_putObj hrow _ hD rfl) (by omega), ?_⟩
    have hbb : Below w.heap.size W1 (W'.putObj W0.heap.size (.deferred none)) := hb.grown hg (by have := hk.1; omega) (fun k e => by cases e; omega)
    exact (hB0.trans (h1.mono (by omega))).trans hbb
  case stop => exact fun c W1 W' pre _ _ _ _ h _ => h.elim

theorem collect_any (n : Nat) (hn : 6 ≤ n) (N : Nat → Prop) (w : World) (lb : Array Value) (ys : List Fl) (hN : ∀ k, N k → k < w.heap.size) (hsrc : Src N w lb ys) :
    CallsIn Fence.wide n Try.prog 26 #[.func (.func 41) #[] lb] w fun e w' => ∃ v, e = .returned v ∧ w'.ownsRow w.heap.size 32 4 v ys.length (fcs ys) ∧ Below w.heap.size w w' := by
  refine callsIn_of_wp Try.func26 rfl trivial ?_ rfl
  simp only [Try.ntmps26, List.size_toArray, List.length_cons, List.length_nil, Nat.reduceAdd, Nat.reduceSub, Array.replicate_succ, Array.replicate_zero, List.push_toArray, List.append_toArray, List.nil_append, List.cons_append]
  gi_wp2_with (refine ⟨trivial, fun _ => by omega, ?_⟩; refine (append_any (n - 1) (by omega) N w lb ys hN hsrc).mono ?_; rintro e w' ⟨v, rfl, h1, h2⟩)
  go_ret
  exact ⟨v, rfl, h1, h2⟩
/-- What a table that may be nil has. -/
def SrcOf (B : Nat) (S : Nat → Prop) (v : Option Addr) (ys : List Fl) (w : World) : Prop := (v = none ∧ ys = []) ∨ ∃ t T, v = some ⟨t, 0, none⟩ ∧ TB B S t T w ∧ ys = allF T
theorem SrcOf.src {B : Nat} {S : Nat → Prop} {v : Option Addr} {ys : List Fl} {w : World} (h : SrcOf B S v ys w) : ∃ N : Nat → Prop, (∀ k, N k → k < w.heap.size + 1) ∧ Src N (w.alloc (.cells #[.pointer v] 23)) #[.pointer (some ⟨w.heap.size, 0, none⟩)] ys := by
  rcases h with ⟨rfl, rfl⟩ | ⟨t, T, rfl, hT, rfl⟩
  · exact ⟨_, fun k hk => by omega, files_nil_src w⟩
  · refine ⟨_, fun k hk => ?_, files_src hT⟩
    obtain ⟨bm, bd, hT⟩ := hT
    rcases hk with hk | hk
    · have := (hT.sB k hk).2; omega
    · omega
theorem all_src (B : Nat) (S : Nat → Prop) (v : Option Addr) (ys : List Fl) (w : World) (h : SrcOf B S v ys w) :
    Calls Try.prog 12 #[.pointer v] w fun e w' => ∃ v, e = .returned v ∧ w'.ownsRow w.heap.size 32 4 v ys.length (fcs ys) ∧ Below w.heap.size w w' := by
  obtain ⟨N, hN, hsrc⟩ := h.src
  refine (callsIn_wide (n := 8)).1 ?_
  refine callsIn_of_wp Try.func12 rfl trivial ?_ rfl
  simp only [Try.ntmps12, List.size_toArray, List.length_cons, List.length_nil, Nat.reduceAdd, Nat.reduceSub, Array.replicate_succ, Array.replicate_zero, List.push_toArray, List.append_toArray, List.nil_append, List.cons_append]
  have HS := Aside0.mk hsrc
  have HN := Aside0.mk hN
  clear hsrc h hN
  gi_wp2_with (first
    | (refine ⟨trivial, ?_⟩; gi_at_call 27; refine (files_any _ _ _).mono ?_; rintro e w' ⟨rfl, rfl⟩)
    | (refine ⟨trivial, ?_⟩; gi_at_call 26; refine (collect_any _ (by omega) N _ _ _ (fun k hk => by have := HN.out k hk; simp; omega) HS.out).mono ?_; rintro e w' ⟨v, rfl, h1, h2⟩))
  go_ret
  exact ⟨v, rfl, own_base h1 (by simp), ((Below.refl _ w).alloc (Nat.le_refl _) _).trans (h2.mono (by simp))⟩
end Go.Proofs.Ytonhfcjldbohbaa.Fi
