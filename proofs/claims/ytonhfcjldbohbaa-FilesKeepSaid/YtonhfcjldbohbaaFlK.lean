/- files: the laws' alive; what names may be (plain). -/
import Derived.Test.YtonhfcjldbohbaaFlZ
import Derived.Test.YtonhfcjldbohbaaLexLaws
import Derived.Test.YtonhfcjldbohbaaRef04
namespace Go.Proofs.Ytonhfcjldbohbaa.Fi
open Go Go.RowKit Go.ChangeMaps Go.MapKept Go.Proofs.Ytonhfcjldbohbaa.PA Go.Proofs.YtonhfcjldbohbaaW.PrintWords Go.Proofs.YtonhfcjldbohbaaW.PrintLast Go.Proofs.YtonhfcjldbohbaaW.PrintMore Go.Proofs.Ytonhfcjldbohbaa.Lx Go.Proofs.Ytonhfcjldbohbaa.M04 Go.Proofs.Ytonhfcjldbohbaa.Pl
set_option linter.unusedVariables false
set_option linter.unusedSimpArgs false

theorem ok_a : nameOk ⟨#[97]⟩ = true := by
  unfold nameOk lex_Name.f
  rw [show lex_Lex.f ⟨#[97]⟩ = some (lexA [97]) from rfl]
  decide +kernel
theorem ok_A : nameOk ⟨#[65]⟩ = false := by
  unfold nameOk lex_Name.f
  rw [show lex_Lex.f ⟨#[65]⟩ = some (lexA [65]) from rfl]
  decide +kernel
abbrev bA : ByteArray := ⟨#[97]⟩
abbrev bX : ByteArray := ⟨#[120]⟩
abbrev tA : Tb := ⟨9, 1, [⟨bA, bX, 0, 1, false⟩]⟩
theorem right_a : rightV bA bX 0 = 0 := by
  unfold rightV
  rw [if_pos (show bA.size ≤ 32 ∧ nameOk bA = true ∧ (0 : Int) ≤ 0 ∧ (0 : Int) ≤ 2 from ⟨by decide, ok_a, by decide, by decide⟩), if_neg (by decide)]
theorem right_A : rightV ⟨#[65]⟩ ⟨#[]⟩ 0 = 1 := by
  unfold rightV
  rw [if_neg (fun e => by rw [ok_A] at e; exact absurd e.2.1 (by decide))]
theorem put_1 : putT ⟨9, 0, []⟩ bA bX 0 = (tA, 0) := by
  unfold putT
  rw [if_neg (by rw [right_a]; decide)]
  rfl
theorem put_2 : putT tA bA bX 0 = (tA, 0) := by
  unfold putT
  rw [if_neg (by rw [right_a]; decide), show get here tA.l bA.data.toList = some ⟨bA, bX, 0, 1, false⟩ from rfl]
  simp
theorem put_3 : putT tA ⟨#[65]⟩ ⟨#[]⟩ 0 = (tA, 1) := by
  unfold putT
  rw [if_pos (by rw [right_A]; decide), right_A]
set_option maxHeartbeats 4000000 in
set_option maxRecDepth 100000 in
theorem alive_any (w : World) : Calls Try.prog 8 #[] w fun e w' => e = .returned (.bool true) ∧ Below w.heap.size w w' := by
  go_enter Try.func8, Try.ntmps8
  go_wp2_with fail
  refine (new_any 9 (by decide) w).mono ?_
  rintro e w1 ⟨rfl, hT, hb⟩
  have HB := Aside0.mk hb
  have HT := Aside0.mk hT
  have hz := hb.size
  clear hT hb
  go_wp2_with fail
  refine (put_any hz HT.out (by decide) bA bX 0 (by decide)).mono ?_
  rintro e w2 ⟨rfl, hT, hb⟩
  rw [put_1] at hT ⊢
  have HT2 := Aside0.mk hT
  have HB2 : Aside0 (Below w.heap.size w w2) := ⟨HB.out.trans hb.below⟩
  clear hT hb HT HB hz
  go_wp2_with fail
  refine (put_any HB2.out.size HT2.out (by decide) bA bX 0 (by decide)).mono ?_
  rintro e w3 ⟨rfl, hT, hb⟩
  rw [put_2] at hT ⊢
  have HT3 := Aside0.mk hT
  have HB3 : Aside0 (Below w.heap.size w w3) := ⟨HB2.out.trans hb.below⟩
  clear hT hb HT2 HB2
  go_wp2_with fail
  refine (new_bad (-1) (.inl (by decide)) w3).mono ?_
  rintro e w4 ⟨rfl, rfl⟩
  go_wp2_with fail
  refine (rev_any HT3.out).mono ?_
  rintro e w5 ⟨rfl, rfl⟩
  go_wp2_with fail
  refine (put_any HB3.out.size HT3.out (by decide) ⟨#[65]⟩ ⟨#[]⟩ 0 (by decide)).mono ?_
  rintro e w6 ⟨rfl, hT, hb⟩
  rw [put_3]
  have HB6 : Aside0 (Below w.heap.size w w6) := ⟨HB3.out.trans hb.below⟩
  clear hT hb
  go_wp2
  go_ret
  exact ⟨rfl, HB6.out⟩
end Go.Proofs.Ytonhfcjldbohbaa.Fi
