/- The row of the law FilesKeep: for every input the call returns true and each argument reads as it did; out of its pure statement. Written by a program of this session (wip/xrow.py). No condition beside the row's own. -/
import Derived.Test.YtonhfcjldbohbaaRows
import Derived.Test.YtonhfcjldbohbaaPAx98
import Derived.Test.YtonhfcjldbohbaaSayFilesKeep
import Derived.Test.YtonhfcjldbohbaaPureFilesKeep
import Derived.Test.YtonhfcjldbohbaaOpens
import Derived.WalkKit
import Derived.ProofKit
import Derived.OpenShut
import Derived.ShutString
import Derived.ChangeOld
import Derived.Below
import Derived.SizedLaws
namespace Go.Proofs.Ytonhfcjldbohbaa.filesKeep
open Go.ChangeShapes Go.WideShapes Go.ChangeAt Go.RowKit Go.Proofs.YtonhfcjldbohbaaW.PrintWords Go.Proofs.Ytonhfcjldbohbaa.PA
open Go.ChangeMaps (open_string shut_string)
set_option linter.unusedVariables false
theorem own : ownKnob Try.prog.godebug = none := by kernel_rfl
theorem laidOut : laidOutB Try.prog = true := by kernel_rfl
theorem opens1 : Opens Try.prog 39 (Kd.slice 43 k43) (fun l => ∀ x ∈ l, OK43 x) := (opens_slice Try.underlying39 (by kernel_rfl) (opens_struct (fun x : S43 => (x.f0, x.f1, x.f2, x.f3)) (fun p => (⟨p.1, p.2.1, p.2.2.1, p.2.2.2⟩ : S43)) (fun _ => rfl) Try.underlying43 (by kernel_rfl) (fopens_cons rfl (by kernel_rfl) (opens_int Try.underlying3) (fopens_cons rfl (by kernel_rfl) (opens_string Try.underlying9) (fopens_cons rfl (by kernel_rfl) (opens_string Try.underlying9) (fopens_last rfl (by kernel_rfl) (opens_int Try.underlying3)))))))
set_option maxRecDepth 100000 in
theorem lifted (os : Os) (started : os.Started) (H : Type) (enc : TypeId × Value → H) :
    ReturnsInHanded {} Try.checked os 7 .any (Rows.filesKeepSpec.pre6 enc Try.prog Try.f7 Rows.filesKeepRow.domain false) (Rows.filesKeepSpec.post enc Try.prog Try.f7 false true false false) := by
  refine returnsInHanded_of_change_sized (C := Try.checked) own started (by kernel_rfl) Try.func7
    (ChangeSpec.witness6 (enc := enc) (C := Try.checked) false ⟨#[], #[.int .u8 0, .slice none 0 0], []⟩ 8 (by kernel_rfl) (by kernel_rfl) (by kernel_rfl) (by kernel_rfl)) ?_
  intro W base args ds gs before hval0 hW hcnd hsz0 _
  have hsz : (DataW.weightsEach Try.prog (Try.f7.params.toList ++ Rows.filesKeepSpec.plain.varTypes Try.prog) (ds ++ gs)).all (· ≤ reachBytes) = true := hsz0
  have hval : ∀ (j : Nat) t v, Try.f7.params[j]? = some t → args[j]? = some v → Value.okWide Try.prog W .any base t v := hval0
  have hW' := hW
  obtain ⟨p, q, hA0, hV, rfl, hfz, hnd⟩ := hW
  have hA : DataW.TrodAll enc Try.prog W 0 (fun _ => true) true Try.f7.params.toList args.toList ds p := hA0
  rw [Try.params7] at hA hval hsz
  obtain ⟨v0, vs0, d0, ds0, p0, q0, hargs, rfl, rfl, h0, r0⟩ := trodAll_cons hA
  obtain ⟨v1, vs1, d1, ds1, p1, q1, rfl, rfl, rfl, h1, r1⟩ := trodAll_cons r0
  obtain ⟨rfl, rfl, rfl⟩ := trodAll_nil r1
  obtain rfl : args = #[v0, v1] := by cases args; simp_all
  obtain ⟨rfl, rfl⟩ := trodVars_none hV
  obtain ⟨a0, rfl, rfl, rfl, w0⟩ := open_int Try.underlying5 (hval 0 5 v0 rfl rfl) h0
  obtain ⟨A1, len1, cap1, rfl⟩ := okWide_slice Try.underlying39 (hval 1 39 v1 rfl rfl)
  have k1 := h1
  have lt1 : ∀ x ∈ p1, x.block < W.heap.size := by obtain ⟨m, hm⟩ := k1; exact DataW.trod_lt m _ _ _ hm
  have y1 : len1 * 48 ≤ 140737488351232 := sized_len hsz (j := 1) (t := 39) rfl rfl Try.underlying39 (by kernel_rfl) h1
  obtain ⟨l1, rfl, hC1, hl1, hG1⟩ := open_arg_slice opens1 h1
  clear hA0 hval0 hsz0 hsz
  have hk := Pure.FilesKeep a0 l1 w0 (Kd.C_max hC1) y1 hG1
  refine (cupellaw13_FilesKeep.calls a0 _ _ l1 true W hC1 hl1 hk).mono ?_
  rintro e W' ⟨rfl, bel0⟩
  have bel : Below W.heap.size W W' := bel0
  exact ⟨_, rfl, _, _, _, [], _, [], hW', trodAll_mk1 (shut_bool Try.underlying4 _), (trodAll_cons_mk (shut_int Try.underlying5 w0) (trodAll_cons_mk (Below.trod laidOut (by kernel_rfl) (of_decide_eq_true (by kernel_rfl)) k1 bel lt1) trodAll_mk0)), rfl, bel.frame _, fun h => by cases h⟩
theorem over : Rows.filesKeepRow.holds Try.pinned (OpenSpec.ofChange Rows.filesKeepSpec) :=
  OpenClaim.holds_of_wide 7 Try.f7 rfl rfl rfl rfl rfl rfl rfl ⟨rfl, rfl, rfl, rfl, rfl⟩ rfl rfl rfl rfl rfl (by kernel_rfl) Try.func7 (by kernel_rfl)
    (of_decide_eq_true (by kernel_rfl)) (by unfold Func.isWrapper; first | (rw [if_pos (by decide +kernel)]; kernel_rfl) | (rw [if_neg (by decide +kernel)]; exact ⟨rfl, rfl⟩))
    (fun os started H enc _ => lifted os started H enc)
theorem proved : Rows.FilesKeepSaid := over
#print axioms proved
end Go.Proofs.Ytonhfcjldbohbaa.filesKeep
namespace Go.Proofs.Ytonhfcjldbohbaa
/-- The row, under a short name, for the claim. -/
theorem filesKeep_holds : Rows.FilesKeepSaid := filesKeep.proved
end Go.Proofs.Ytonhfcjldbohbaa
