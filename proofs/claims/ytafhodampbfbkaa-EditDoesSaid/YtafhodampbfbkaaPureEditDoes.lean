/- The pure statement of EditDoes. -/
import Derived.Test.YtafhodampbfbkaaSayEditDoes
import Derived.Test.YtafhodampbfbkaaMath25
set_option linter.unusedVariables false
namespace Go.Proofs.Ytafhodampbfbkaa.Pure
open Go.RowKit Go.Proofs.Ytafhodampbfbkaa.PA Go.Proofs.YtafhodampbfbkaaW.PrintWords Go.Proofs.YtafhodampbfbkaaW.PrintLast Go.Proofs.Ytafhodampbfbkaa.Pl Go.Proofs.Ytafhodampbfbkaa.M25

theorem back_bad (a0 : ByteArray) (ha : a0.size ≤ 140737488351232) (m : List S35) (hm : m.length ≤ 9223372036854775807) (h : RightB a0.size 0 m = false) : Ev (fun k => edit_Back.f k a0 m) [] := by
  unfold edit_Back.f
  refine bnd (right_f a0 ha m hm) ?_
  rw [h]
  exact neg (by simp) (now rfl)

theorem EditDoes : cupellaw25_EditDoes.Pure := by
  intro a0 l ha hl hl32 hok
  apply Ev.rounds
  unfold cupellaw25_EditDoes.f
  refine bnd alive_f (pos rfl ?_)
  obtain ⟨b, hf, hb⟩ := far_f a0 l hl
  refine bnd hf ?_
  cases b with
  | true => exact pos rfl (now rfl)
  | false =>
    obtain ⟨h1, h2, h3⟩ := hb rfl
    have hi := ins_le l h3
    refine neg (by simp) ?_
    refine bnd (of_f l (by omega)) ?_
    refine bnd (do_f a0 (by omega) (l.map cv) (by simp; omega) (by omega)) ?_
    refine bnd (refright_f a0 (by omega) l (by omega)) ?_
    cases hR : RightB a0.size 0 (l.map cv) with
    | true =>
      refine pos rfl (pos rfl ?_)
      refine bnd (of_f l (by omega)) ?_
      refine bnd (right_f a0 (by omega) (l.map cv) (by simp; omega)) ?_
      rw [hR]
      refine pos rfl ?_
      refine bnd (refdo_f a0 (by omega) l (by omega) (by omega) hR) ?_
      rw [refdo_tail a0 (l.map cv) 0 (by omega) (by omega) hR]
      refine now ?_
      have : a0.extract 0 (0 : Int).toNat ++ tail a0 0 (l.map cv) = tail a0 0 (l.map cv) := data_inj (by rw [app_data, ext_data]; simp)
      rw [this]
      simp
    | false =>
      refine neg (by simp) (pos rfl (pos (by rw [if_neg (by simp)]; exact toList_nil.2 rfl) ?_))
      refine bnd (of_f l (by omega)) ?_
      refine bnd (right_f a0 (by omega) (l.map cv) (by simp; omega)) ?_
      rw [hR]
      refine pos rfl ?_
      refine bnd (of_f l (by omega)) ?_
      refine bnd (back_bad a0 (by omega) (l.map cv) (by simp; omega) hR) ?_
      exact now (by simp)

end Go.Proofs.Ytafhodampbfbkaa.Pure
