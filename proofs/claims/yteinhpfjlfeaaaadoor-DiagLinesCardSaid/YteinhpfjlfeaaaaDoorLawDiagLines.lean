/- The row of the law DiagLines: for every input the call returns true and each argument reads as it did; out of its pure statement. Written by a program of this session (wip/xrow.py). No condition beside the row's own. -/
import Derived.Test.YteinhpfjlfeaaaaDoorRows
import Derived.Test.YteinhpfjlfeaaaaDoorPAx12
import Derived.Test.YteinhpfjlfeaaaaDoorSayDiagLines
import Derived.Test.YteinhpfjlfeaaaaDoorPureDiagLines
import Derived.Test.YteinhpfjlfeaaaaDoorOpens
import Derived.WalkKit
import Derived.ProofKit
import Derived.OpenShut
import Derived.ShutString
import Derived.ChangeOld
import Derived.Below
import Derived.SizedLaws
import Derived.Test.YteinhpfjlfeaaaaDoorLaid
import Derived.SevenTiedAt
namespace Go.Proofs.YteinhpfjlfeaaaaDoor.diagLines
open Go.ChangeShapes Go.WideShapes Go.ChangeAt Go.RowKit Go.Proofs.YteinhpfjlfeaaaaDoorW.PrintWords Go.Proofs.YteinhpfjlfeaaaaDoor.PA
open Go.ChangeMaps (open_string shut_string)
set_option linter.unusedVariables false
theorem laidOut : laidOutB Tryd.prog = true := by kernel_rfl
theorem opens1 : Opens Tryd.prog 38 (Kd.slice 41 (Kd.slice 23 k23)) (fun l => ∀ x ∈ l, ∀ x_x ∈ x, OK23 x_x) := (opens_slice Tryd.underlying38 (by kernel_rfl) (opens_slice Tryd.underlying41 (by kernel_rfl) (opens_struct (fun x : S23 => (x.f0, x.f1, x.f2)) (fun p => (⟨p.1, p.2.1, p.2.2⟩ : S23)) (fun _ => rfl) Tryd.underlying23 (by kernel_rfl) (fopens_cons rfl (by kernel_rfl) (opens_int Tryd.underlying3) (fopens_cons rfl (by kernel_rfl) (opens_int Tryd.underlying3) (fopens_last rfl (by kernel_rfl) (opens_string Tryd.underlying9)))))))
theorem opens2 : Opens Tryd.prog 39 (Kd.slice 5 (Kd.int .u8)) (fun l => ∀ x ∈ l, (Lit.int .u8 x).wf = true) := (opens_slice Tryd.underlying39 (by kernel_rfl) (opens_int Tryd.underlying5))
set_option maxRecDepth 100000 in
theorem laid_met (os : Os) : laidMet Tryd.prog Rows.diagLinesRow.laid ((laidWorld os).forCall (fun _ _ => 0) ⟨#[], #[.string ByteArray.empty, .slice none 0 0, .slice none 0 0], []⟩).memory :=
  laidMet_of_run' 8 (by kernel_rfl) (by kernel_rfl)
theorem reads (os : Os) {H : Type} (enc : TypeId × Value → H) : ∃ places, DataW.whole enc Tryd.prog ((laidWorld os).forCall (fun _ _ => 0) ⟨#[], #[.string ByteArray.empty, .slice none 0 0, .slice none 0 0], []⟩).memory Tryd.f7.params.toList Rows.diagLinesSpec.vars false (#[.string ByteArray.empty, .slice none 0 0, .slice none 0 0] : Array Value).toList 8 = some ([.lit (.string []), .nil, .nil], [], places) :=
  ⟨[], by kernel_rfl⟩
set_option maxRecDepth 100000 in
theorem lifted (os : Os) (started : os.Started) (H : Type) (enc : TypeId × Value → H) (F : Stop.Interp) :
    ReturnsInHanded {} Tryd.checked os 7 .any ((OpenSpec.ofChange Rows.diagLinesSpec).preRow enc Tryd.prog Tryd.f7 Rows.diagLinesRow.domain false Rows.diagLinesRow.laid) (((OpenSpec.ofChange Rows.diagLinesSpec).at F).post enc Tryd.prog Tryd.f7 false true false false) := by
  obtain ⟨places, hx⟩ := reads os enc
  refine returnsInHanded_of_row (C := Tryd.checked) (s := OpenSpec.ofChange Rows.diagLinesSpec) own started (by kernel_rfl) Tryd.func7
    (witness_row_at (enc := enc) (C := Tryd.checked) false (laidWorld os) #[.string ByteArray.empty, .slice none 0 0, .slice none 0 0] rfl (by kernel_rfl) (by kernel_rfl) (by kernel_rfl)
      (OpenSpec.preRow_of_cond 8 hx (by kernel_rfl) (fun k hk => by cases hk) (by kernel_rfl) (laid_met os))) ?_
  intro W base args ds gs before hval0 hW hcnd _ hsz0 hL _ _
  have hT : PA.Tabs W := tabs hL
  have hsz : (DataW.weightsEach Tryd.prog (Tryd.f7.params.toList ++ Rows.diagLinesSpec.plain.varTypes Tryd.prog) (ds ++ gs)).all (· ≤ reachBytes) = true := hsz0
  have hval : ∀ (j : Nat) t v, Tryd.f7.params[j]? = some t → args[j]? = some v → Value.okWide Tryd.prog W .any base t v := hval0
  have hW' := hW
  obtain ⟨p, q, hA0, hV, rfl, hfz, hnd⟩ := hW
  have hA : DataW.TrodAll enc Tryd.prog W 0 (fun _ => true) true Tryd.f7.params.toList args.toList ds p := hA0
  rw [Tryd.params7] at hA hval hsz
  obtain ⟨v0, vs0, d0, ds0, p0, q0, hargs, rfl, rfl, h0, r0⟩ := trodAll_cons hA
  obtain ⟨v1, vs1, d1, ds1, p1, q1, rfl, rfl, rfl, h1, r1⟩ := trodAll_cons r0
  obtain ⟨v2, vs2, d2, ds2, p2, q2, rfl, rfl, rfl, h2, r2⟩ := trodAll_cons r1
  obtain ⟨rfl, rfl, rfl⟩ := trodAll_nil r2
  obtain rfl : args = #[v0, v1, v2] := by cases args; simp_all
  obtain ⟨rfl, rfl⟩ := trodVars_none hV
  obtain ⟨a0, rfl, rfl, rfl, y0⟩ := open_string Tryd.underlying9 (hval 0 9 v0 rfl rfl) h0
  have w0 : a0.size ≤ 140737488351232 := by
    have z := sized_string hsz (j := 0) (t := 9) rfl rfl
    rw [Array.length_toList] at z
    exact z
  obtain ⟨A1, len1, cap1, rfl⟩ := okWide_slice Tryd.underlying38 (hval 1 38 v1 rfl rfl)
  have k1 := h1
  have lt1 : ∀ x ∈ p1, x.block < W.heap.size := by obtain ⟨m, hm⟩ := k1; exact DataW.trod_lt m _ _ _ hm
  have y1 : len1 * 24 ≤ 140737488351232 := sized_len hsz (j := 1) (t := 38) rfl rfl Tryd.underlying38 (by kernel_rfl) h1
  obtain ⟨l1, rfl, hC1, hl1, hG1⟩ := open_arg_slice opens1 h1
  obtain ⟨A2, len2, cap2, rfl⟩ := okWide_slice Tryd.underlying39 (hval 2 39 v2 rfl rfl)
  have k2 := h2
  have lt2 : ∀ x ∈ p2, x.block < W.heap.size := by obtain ⟨m, hm⟩ := k2; exact DataW.trod_lt m _ _ _ hm
  have y2 : len2 * 1 ≤ 140737488351232 := sized_len hsz (j := 2) (t := 39) rfl rfl Tryd.underlying39 (by kernel_rfl) h2
  obtain ⟨l2, rfl, hC2, hl2, hG2⟩ := open_arg_slice opens2 h2
  clear hA0 hval0 hsz0 hsz
  obtain ⟨k, hk⟩ := Pure.DiagLines a0 l1 l2 w0 (Kd.C_max hC1) y1 hG1 (Kd.C_max hC2) y2 hG2
  refine (cupellaw19_DiagLines.calls k a0 _ _ l1 _ _ l2 true W hC1 hl1 hC2 hl2 hk hT).mono ?_
  rintro e W' ⟨rfl, bel0⟩
  have bel : Below W.heap.size W W' := bel0
  exact ⟨_, rfl, _, _, _, [], _, [], hW', trodAll_mk1 (shut_bool Tryd.underlying4 _), (trodAll_cons_mk (shut_string Tryd.underlying9 y0) (trodAll_cons_mk (Below.trod laidOut (by kernel_rfl) (of_decide_eq_true (by kernel_rfl)) k1 bel lt1) (trodAll_cons_mk (Below.trod laidOut (by kernel_rfl) (of_decide_eq_true (by kernel_rfl)) k2 bel lt2) trodAll_mk0))), rfl, bel.frame _, fun h => by cases h⟩
theorem over : Rows.diagLinesRow.holds Tryd.pinned (OpenSpec.ofChange Rows.diagLinesSpec) :=
  OpenClaim.holds_of_cond 7 Tryd.f7 rfl rfl rfl rfl rfl rfl rfl ⟨rfl, rfl, rfl, rfl, rfl⟩ rfl rfl rfl rfl rfl (by kernel_rfl) Tryd.func7 (by kernel_rfl)
    (of_decide_eq_true (by kernel_rfl)) (by unfold Func.isWrapper; first | (rw [if_pos (by decide +kernel)]; kernel_rfl) | (rw [if_neg (by decide +kernel)]; exact ⟨rfl, rfl⟩))
    (fun os started H enc _ F => by rw [OpenClaim.pre_eq_preRow]; exact lifted os started H enc F)
theorem allPlain : (Tryd.f7.params.toList.all fun t => !(Tryd.prog.wantsStandIn t)) = true := by kernel_rfl
theorem plain (f : FuncId) (fn : Func) (hf : Tryd.pinned.checked.prog.funcNamed "cupel/cupellaw19.DiagLines" = some f) (hfn : Tryd.pinned.checked.prog.funcs[f]? = some fn) :
    false = Tryd.pinned.checked.prog.looks [] ∧ ∀ (j : Nat) t, fn.params[j]? = some t → Tryd.pinned.checked.prog.wantsStandIn t = false := by
  obtain rfl : f = 7 := Option.some.inj ((show Tryd.prog.funcNamed "cupel/cupellaw19.DiagLines" = some 7 by kernel_rfl).symm.trans hf) |>.symm
  obtain rfl : fn = Tryd.f7 := (Option.some.inj (Tryd.func7.symm.trans hfn)).symm
  refine ⟨by kernel_rfl, fun j t ht => ?_⟩
  have h := List.all_eq_true.1 allPlain t (Array.mem_toList_iff.2 (Array.mem_of_getElem? ht))
  have h2 : Tryd.prog.wantsStandIn t = false := by simpa using h
  exact h2
theorem proved : Rows.DiagLinesCardSaid :=
  Claim7.holds_tied_plain_at .later [] _ _ _ _ over (fun _ h => by cases h) (by kernel_rfl) (fun _ h => by cases h) diagLines_row_tie rfl ⟨rfl, rfl⟩ (by kernel_rfl) rfl plain (by kernel_rfl)
#print axioms proved
end Go.Proofs.YteinhpfjlfeaaaaDoor.diagLines
namespace Go.Proofs.YteinhpfjlfeaaaaDoor
/-- The row, under a short name, for the claim. -/
theorem diagLines_card : Rows.DiagLinesCardSaid := diagLines.proved
end Go.Proofs.YteinhpfjlfeaaaaDoor
