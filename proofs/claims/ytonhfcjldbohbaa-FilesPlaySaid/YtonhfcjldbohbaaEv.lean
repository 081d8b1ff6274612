/- Plain lemmas: rounds (Ev), wrap64, bytes as lists. -/
import Derived.Test.YtonhfcjldbohbaaWWords
import Derived.Test.YtonhfcjldbohbaaWMore
import Derived.Lib.Strings
import Derived.WideShapes
set_option linter.unusedVariables false
namespace Go.Proofs.Ytonhfcjldbohbaa.Pl
open Go.RowKit Go.Proofs.YtonhfcjldbohbaaW.PrintWords

theorem pos {α : Type} {c : Prop} [Decidable c] {a b : Nat → Option α} {r : α} (h : c) (k : Ev a r) : Ev (fun n => if c then a n else b n) r := by
  simp only [if_pos h]; exact k
theorem neg {α : Type} {c : Prop} [Decidable c] {a b : Nat → Option α} {r : α} (h : ¬ c) (k : Ev b r) : Ev (fun n => if c then a n else b n) r := by
  simp only [if_neg h]; exact k
theorem ite {α : Type} {c : Prop} [Decidable c] {a b : Nat → Option α} {x y : α} (h1 : c → Ev a x) (h2 : ¬ c → Ev b y) : Ev (fun n => if c then a n else b n) (if c then x else y) := by
  by_cases h : c
  · simp only [if_pos h]; exact h1 h
  · simp only [if_neg h]; exact h2 h
theorem now {α : Type} {r s : α} (h : r = s) : Ev (fun _ => some r) s := h ▸ Ev.now r
theorem bnd {α β : Type} {g : Nat → Option α} {f : Nat → α → Option β} {a : α} {r : β} (h : Ev g a) (k : Ev (fun n => f n a) r) : Ev (fun n => (g n).bind (f n)) r := Ev.bind h k
theorem smb {α β : Type} {f : Nat → α → Option β} {a : α} {r : β} (k : Ev (fun n => f n a) r) : Ev (fun n => (some a).bind (f n)) r := k
theorem val {α : Type} {g : Nat → Option α} {r s : α} (h : Ev g r) (e : r = s) : Ev g s := e ▸ h

theorem wrap_id {x : Int} (h0 : -9223372036854775808 ≤ x) (h1 : x ≤ 9223372036854775807) : wrap64 x = x := by unfold wrap64; omega

/-! bytes as lists -/
theorem data_inj {a b : ByteArray} (h : a.data.toList = b.data.toList) : a = b := Go.WideShapes.bytes_inj h
theorem toList_inj {a b : ByteArray} (h : a.toList = b.toList) : a = b := data_inj (by rwa [Lib.toList_data, Lib.toList_data] at h)
theorem size_data (s : ByteArray) : s.data.toList.length = s.size := (Lib.size_eq s).symm
end Go.Proofs.Ytonhfcjldbohbaa.Pl
