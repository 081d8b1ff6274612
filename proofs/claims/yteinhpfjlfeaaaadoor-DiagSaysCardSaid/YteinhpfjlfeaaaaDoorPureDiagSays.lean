/- The pure statement of DiagSays. -/
import Derived.Test.YteinhpfjlfeaaaaDoorPAx6
import Derived.Test.YteinhpfjlfeaaaaDoorMathD19
set_option linter.unusedVariables false
set_option linter.unusedSimpArgs false
namespace Go.Proofs.YteinhpfjlfeaaaaDoor.Pure
open Go.RowKit Go.Proofs.YteinhpfjlfeaaaaDoor.PA Go.Proofs.YteinhpfjlfeaaaaDoorW.PrintWords Go.Proofs.YteinhpfjlfeaaaaDoorW.PrintLast Go.Proofs.YteinhpfjlfeaaaaDoor.Pl Go.Proofs.YteinhpfjlfeaaaaDoor.M19

theorem DiagSays (a0 a1 : ByteArray) (at_ c : Int) (name : ByteArray) (h0 : -9223372036854775808 ≤ c) (h1 : c ≤ 9223372036854775807) : ∃ k, cupellaw19_DiagSays.f k a0 a1 at_ c name = some true := by
  refine Ev.rounds ?_
  have hend : Ev (fun k => cupellaw19_DiagSays.j0 k a0 a1 true at_ c name) true := Ev.step (fun k => by rw [cupellaw19_DiagSays.j0]) (pos rfl (now rfl))
  unfold cupellaw19_DiagSays.f
  simp only [alive_t]
  refine smb (pos rfl ?_)
  by_cases hs : (a1.size : Int) > 600
  · exact pos hs hend
  refine neg hs ?_
  by_cases hx : (a0.size : Int) > 100
  · exact pos hx hend
  refine neg hx ?_
  by_cases hn : (name.size : Int) > 100
  · rw [decide_eq_true hn]; exact hend
  rw [decide_eq_false hn]
  refine Ev.step (fun k => by rw [cupellaw19_DiagSays.j0]) (neg (by decide) ?_)
  obtain ⟨t, g1, g2⟩ := line_both a0 a1 name at_ c h0 h1 (by omega) (by omega) (by omega)
  simp only [says_f at_ c name h0 h1 (show name.size ≤ 100000 by omega), g1]
  exact smb (bnd (refSays_ev at_ c name h0 h1 (by omega)) (pos rfl (smb (bnd g2 (now (by simp))))))
end Go.Proofs.YteinhpfjlfeaaaaDoor.Pure
