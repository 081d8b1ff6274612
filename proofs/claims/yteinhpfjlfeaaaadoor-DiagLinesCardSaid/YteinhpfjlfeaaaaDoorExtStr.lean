/- The contracts of strings.Count (at one byte), LastIndexByte, IndexByte in the printed shape. -/
import Derived.Test.YteinhpfjlfeaaaaDoorPAx0
import Derived.Test.YteinhpfjlfeaaaaDoorShelf
namespace Go.Proofs.YteinhpfjlfeaaaaDoor.PA
open Go.RowKit Go.Proofs.YteinhpfjlfeaaaaDoorW.PrintWords Go.Proofs.YteinhpfjlfeaaaaDoorW.PrintLast Go.Proofs.YteinhpfjlfeaaaaDoorW.PrintMore
set_option linter.unusedVariables false

def strings_Count.f (a0 a1 : ByteArray) : Option Int := match a1.data.toList with
  | [c] => some (Lib.countByte a0.data.toList c)
  | _ => none
theorem strings_Count.calls (a0 a1 : ByteArray) (r : Int) (w : World) (h : strings_Count.f a0 a1 = some r) :
    Calls Tryd.prog 22 #[.string a0, .string a1] w fun e w' => e = .returned (.int .i64 r) ∧ Drawn0 w w' := by
  unfold strings_Count.f at h
  split at h
  · rename_i c hc
    obtain rfl := Option.some.inj h
    obtain rfl : a1 = ⟨#[c]⟩ := by
      cases a1 with
      | mk d => cases d with
        | mk l => simp only at hc; subst hc; rfl
    refine (Tryd.strings_Count_one a0 c w).mono ?_
    rintro e w' ⟨rfl, rfl⟩
    exact ⟨rfl, Drawn0.refl _⟩
  · exact absurd h (by simp)
def strings_LastIndexByte.f (a0 : ByteArray) (a1 : Int) : Option Int := if a0.size < 4611686018427387904 then some (Lib.lastIndexByte a0 a1) else none
theorem strings_LastIndexByte.calls (a0 : ByteArray) (a1 r : Int) (w : World) (h : strings_LastIndexByte.f a0 a1 = some r) :
    Calls Tryd.prog 23 #[.string a0, .int .u8 a1] w fun e w' => e = .returned (.int .i64 r) ∧ Drawn0 w w' := by
  unfold strings_LastIndexByte.f at h
  by_cases hs : a0.size < 4611686018427387904
  · rw [if_pos hs] at h
    obtain rfl := Option.some.inj h
    refine (Tryd.strings_LastIndexByte a0 a1 hs w).mono ?_
    rintro e w' ⟨rfl, rfl⟩
    exact ⟨rfl, Drawn0.refl _⟩
  · rw [if_neg hs] at h; exact absurd h (by simp)
def strings_IndexByte.f (a0 : ByteArray) (a1 : Int) : Option Int := some (Lib.indexByte a0.data.toList a1.toNat.toUInt8)
theorem strings_IndexByte.calls (a0 : ByteArray) (a1 r : Int) (w : World) (h : strings_IndexByte.f a0 a1 = some r) :
    Calls Tryd.prog 25 #[.string a0, .int .u8 a1] w fun e w' => e = .returned (.int .i64 r) ∧ Drawn0 w w' := by
  obtain rfl := Option.some.inj h
  refine (Tryd.strings_IndexByte a0 a1 w).mono ?_
  rintro e w' ⟨rfl, rfl⟩
  exact ⟨rfl, Drawn0.refl _⟩
end Go.Proofs.YteinhpfjlfeaaaaDoor.PA
