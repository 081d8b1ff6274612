/- The pure statement of DiagKnown. -/
import Derived.Test.YteinhpfjlfeaaaaDoorPAx7
import Derived.Test.YteinhpfjlfeaaaaDoorMath19
set_option linter.unusedVariables false
set_option linter.unusedSimpArgs false
namespace Go.Proofs.YteinhpfjlfeaaaaDoor.Pure
open Go.RowKit Go.Proofs.YteinhpfjlfeaaaaDoor.PA Go.Proofs.YteinhpfjlfeaaaaDoorW.PrintWords Go.Proofs.YteinhpfjlfeaaaaDoorW.PrintLast Go.Proofs.YteinhpfjlfeaaaaDoor.Pl Go.Proofs.YteinhpfjlfeaaaaDoor.M19

theorem u8w {x : Int} (h : (Lit.int .u8 x).wf = true) : 0 ≤ x ∧ x ≤ 255 := by
  simp only [Lit.wf, Bool.and_eq_true, decide_eq_true_eq] at h
  have e1 : IntKind.u8.min = 0 := by decide
  have e2 : IntKind.u8.max = 255 := by decide
  rw [e1, e2] at h
  exact h
theorem one_itoa : strconv_Itoa_19.f 1 = some ⟨#[49]⟩ := by
  rw [itoa_f 1 (by decide) (by decide)]
  show some (⟨(Lib.itoa ((1 : Nat) : Int)).toArray⟩ : ByteArray) = _
  rw [Lib.itoa_nonneg, Lib.decDigits_one (by decide)]
  rfl
theorem line_f (x0 name : ByteArray) (c : Int) (h0 : 0 ≤ c) (h1 : c ≤ 255) (hx : x0.size ≤ 60) (hn : name.size ≤ 60) :
    ∃ t : ByteArray, diag_Line.f x0 ⟨#[]⟩ 0 c name = some t ∧ t.data.toList = x0.data.toList ++ ([58, 49, 58, 49, 58, 32] ++ (base c ++ tailN name ++ [10])) := by
  have hb := base_len c (by omega) (by omega)
  have ht : (tailN name).length ≤ 62 := by
    unfold tailN
    split
    · simp
    · rw [List.length_append, size_data]; simp; omega
  have hz : (⟨(base c ++ tailN name).toArray⟩ : ByteArray).size = (base c).length + (tailN name).length := by simp [ByteArray.size]
  unfold diag_Line.f
  rw [place_empty, Option.bind_some]
  simp only [one_itoa, Option.bind_some]
  rw [says_f 0 c name (by omega) (by omega) (by omega), Option.bind_some]
  have k1 : (⟨#[58]⟩ : ByteArray).size = 1 := rfl
  have k2 : (⟨#[49]⟩ : ByteArray).size = 1 := rfl
  have k3 : (⟨#[58, 32]⟩ : ByteArray).size = 2 := rfl
  rw [if_pos (by omega), if_pos (by simp only [ByteArray.size_append]; omega), if_pos (by simp only [ByteArray.size_append]; omega), if_pos (by simp only [ByteArray.size_append]; omega), if_pos (by simp only [ByteArray.size_append]; omega), if_pos (by simp only [ByteArray.size_append]; omega), if_pos (by simp only [ByteArray.size_append]; omega)]
  refine ⟨_, rfl, ?_⟩
  simp only [app_data]
  simp
theorem DiagKnown : cupellaw19_DiagKnown.Pure := by
  intro a0 a1 a2 a3 w0 w1 h2 h3
  have b2 := u8w h2
  have b3 := u8w h3
  refine Ev.rounds ?_
  unfold cupellaw19_DiagKnown.f
  simp only [alive_t]
  refine smb (pos rfl ?_)
  by_cases hs : (a0.size : Int) > 60
  · exact pos hs (Ev.step (fun k => by rw [cupellaw19_DiagKnown.j0]) (pos rfl (now rfl)))
  refine neg hs ?_
  by_cases hn : (a1.size : Int) > 60
  · rw [decide_eq_true hn]
    exact Ev.step (fun k => by rw [cupellaw19_DiagKnown.j0]) (pos rfl (now rfl))
  rw [decide_eq_false hn]
  refine Ev.step (fun k => by rw [cupellaw19_DiagKnown.j0]) (neg (by decide) ?_)
  rw [wrap_id (x := a2) (by omega) (by omega), wrap_id (x := a3) (by omega) (by omega)]
  have e0 : tailN ⟨#[]⟩ = [] := rfl
  have s2 := says_f 0 a2 ⟨#[]⟩ (by omega) (by omega) (by decide)
  have s3 := says_f 0 a3 ⟨#[]⟩ (by omega) (by omega) (by decide)
  have s4 := says_f 0 a2 a1 (by omega) (by omega) (by omega)
  rw [e0, List.append_nil] at s2 s3
  have hb := base_len a2 (by omega) (by omega)
  obtain ⟨t, l1, l2⟩ := line_f a0 a1 a2 b2.1 b2.2 (by omega) (by omega)
  simp only [s2, s3, s4, l1]
  refine smb (smb ?_)
  have hne : ¬ (((⟨(base a2).toArray⟩ : ByteArray).toList == (⟨(base a3).toArray⟩ : ByteArray).toList) != (a2 == a3)) = true := by
    rw [Lib.toList_data, Lib.toList_data]
    show ¬ ((base a2 == base a3) != (a2 == a3)) = true
    by_cases h : a2 = a3
    · subst h; simp
    · have h1 : base a2 ≠ base a3 := fun e => h (base_inj b2.1 b3.1 e)
      rw [beq_eq_false_iff_ne.2 h1, beq_eq_false_iff_ne.2 h]; decide
  refine neg hne (smb (smb ?_))
  have hz4 : (⟨(base a2 ++ tailN a1).toArray⟩ : ByteArray).size = (base a2).length + (tailN a1).length := by simp [ByteArray.size]
  have hz2 : (⟨(base a2).toArray⟩ : ByteArray).size = (base a2).length := by simp [ByteArray.size]
  have ht : (tailN a1).length ≤ 62 := by
    unfold tailN
    split
    · simp
    · rw [List.length_append, size_data]; simp; omega
  have k1 : (⟨#[58, 49, 58, 49, 58, 32]⟩ : ByteArray).size = 6 := rfl
  have k2 : (⟨#[58, 32]⟩ : ByteArray).size = 2 := rfl
  have hend : (t.toList == (((a0 ++ (⟨#[58, 49, 58, 49, 58, 32]⟩ : ByteArray)) ++ (⟨(base a2 ++ tailN a1).toArray⟩ : ByteArray)) ++ (⟨#[10]⟩ : ByteArray)).toList) = true := by
    rw [beq_iff_eq, Lib.toList_data, Lib.toList_data, l2]
    simp only [app_data]
    simp
  by_cases he : a1.size = 0
  · refine pos (toList_nil.2 he) (pos ?_ (smb (pos (by omega) (pos (by rw [ByteArray.size_append]; omega) (pos (by rw [ByteArray.size_append, ByteArray.size_append]; omega) (now hend))))))
    rw [Lib.toList_data, Lib.toList_data]
    show base a2 ++ tailN a1 = base a2
    rw [tailN, if_pos he, List.append_nil]
  · refine neg (fun e => he (toList_nil.1 e)) (pos (by omega) (pos (by rw [ByteArray.size_append]; omega) (pos ?_ (smb (pos (by omega) (pos (by rw [ByteArray.size_append]; omega) (pos (by rw [ByteArray.size_append, ByteArray.size_append]; omega) (now hend))))))))
    rw [Lib.toList_data, Lib.toList_data]
    simp only [app_data, tailN, if_neg he]
    simp
end Go.Proofs.YteinhpfjlfeaaaaDoor.Pure
