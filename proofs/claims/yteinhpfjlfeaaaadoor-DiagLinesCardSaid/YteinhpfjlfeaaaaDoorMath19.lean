/- Plain lemmas of chapter 19: what is said; one by one. -/
import Derived.Test.YteinhpfjlfeaaaaDoorPAx4
import Derived.Test.YteinhpfjlfeaaaaDoorEv
import Derived.Lib.ItoaLen
set_option linter.unusedVariables false
set_option linter.unusedSimpArgs false
namespace Go.Proofs.YteinhpfjlfeaaaaDoor.M19
open Go.RowKit Go.Proofs.YteinhpfjlfeaaaaDoor.PA Go.Proofs.YteinhpfjlfeaaaaDoorW.PrintWords Go.Proofs.YteinhpfjlfeaaaaDoorW.PrintLast Go.Proofs.YteinhpfjlfeaaaaDoor.Pl

/-- The number that digits tell. -/
def valD (l : List UInt8) : Nat := l.foldl (fun n d => n * 10 + (d.toNat - 48)) 0
theorem val_dec : ∀ u : Nat, valD (Lib.decDigits u) = u := by
  intro u
  induction u using Nat.strongRecOn with
  | ind u ih =>
    rw [Lib.decDigits]
    by_cases h : u < 10
    · rw [dif_pos h]
      simp only [valD, List.foldl_cons, List.foldl_nil, UInt8.toNat_ofNat']
      omega
    · rw [dif_neg h]
      have := ih (u / 10) (by omega)
      simp only [valD, List.foldl_append, List.foldl_cons, List.foldl_nil, UInt8.toNat_ofNat'] at this ⊢
      rw [this]
      omega
theorem dec_ne (u : Nat) : Lib.decDigits u ≠ [] := by
  intro h
  have h2 := Lib.decDigits_length u
  rw [h, Lib.nDigits] at h2
  split at h2 <;> simp at h2
theorem itoa_f (n : Int) (h0 : -9223372036854775808 ≤ n) (h1 : n ≤ 9223372036854775807) : strconv_Itoa_19.f n = some ⟨(Lib.itoa n).toArray⟩ := by unfold strconv_Itoa_19.f; rw [if_pos ⟨h0, h1⟩]

/-- The word for a code; none: empty. -/
def wd (c : Int) : ByteArray := (diag_word.f c).getD ⟨#[]⟩
theorem ite_some {c : Prop} [Decidable c] {a b : Option ByteArray} (ha : a.isSome = true) (hb : b.isSome = true) : (if c then a else b).isSome = true := by
  split <;> assumption
theorem word_f (c : Int) : diag_word.f c = some (wd c) := by
  have h : (diag_word.f c).isSome = true := by
    unfold diag_word.f
    repeat' (first | refine ite_some ?_ ?_ | rfl)
  obtain ⟨b, hb⟩ := Option.isSome_iff_exists.1 h
  rw [wd, hb]; rfl
theorem wd_none (c : Int) (h : ¬ (1 ≤ c ∧ c ≤ 13)) : wd c = ⟨#[]⟩ := by
  unfold wd diag_word.f
  rw [if_neg (by omega), if_neg (by omega), if_neg (by omega), if_neg (by omega), if_neg (by omega), if_neg (by omega), if_neg (by omega), if_neg (by omega), if_neg (by omega), if_neg (by omega), if_neg (by omega), if_neg (by omega), if_neg (by omega)]
  rfl
theorem wd_some : ∀ n : Nat, n < 13 → (wd ((n + 1 : Nat) : Int)).data.toList ≠ [] ∧ (wd ((n + 1 : Nat) : Int)).data.toList.take 5 ≠ [99, 111, 100, 101, 32] ∧ (wd ((n + 1 : Nat) : Int)).size ≤ 30 := by decide +kernel
/-- What is said of a code alone. -/
def base (c : Int) : List UInt8 := if 1 ≤ c ∧ c ≤ 13 then (wd c).data.toList else [99, 111, 100, 101, 32] ++ Lib.itoa c
def tailN (name : ByteArray) : List UInt8 := if name.size = 0 then [] else [58, 32] ++ name.data.toList
theorem wd_in (c : Int) (h : 1 ≤ c ∧ c ≤ 13) : (wd c).data.toList ≠ [] ∧ (wd c).data.toList.take 5 ≠ [99, 111, 100, 101, 32] ∧ (wd c).size ≤ 30 := by
  have := wd_some (c - 1).toNat (by omega)
  rwa [show (((c - 1).toNat + 1 : Nat) : Int) = c by omega] at this
theorem base_len (c : Int) (h0 : -9223372036854775808 ≤ c) (h1 : c ≤ 9223372036854775807) : (base c).length ≤ 30 := by
  unfold base
  split
  · rename_i h
    rw [size_data]; exact (wd_in c h).2.2
  · have := Lib.itoa_length_le c h0 h1
    simp only [List.length_append, List.length_cons, List.length_nil]; omega
theorem says_f (a c : Int) (name : ByteArray) (h0 : -9223372036854775808 ≤ c) (h1 : c ≤ 9223372036854775807) (hn : name.size ≤ 100000) : diag_Says.f a c name = some ⟨(base c ++ tailN name).toArray⟩ := by
  unfold diag_Says.f
  rw [word_f, Option.bind_some]
  have key : ∀ s : ByteArray, s.data.toList = base c ++ tailN name → some s = some (⟨(base c ++ tailN name).toArray⟩ : ByteArray) := fun s h => congrArg some (data_inj h)
  by_cases h : 1 ≤ c ∧ c ≤ 13
  · obtain ⟨g1, g2, g3⟩ := wd_in c h
    rw [if_neg (by rw [Lib.toList_data]; exact g1)]
    by_cases hs : name.size = 0
    · rw [if_pos (toList_nil.2 hs)]
      exact key _ (by rw [base, if_pos h, tailN, if_pos hs, List.append_nil])
    · rw [if_neg (fun e => hs (toList_nil.1 e)), if_pos (by omega), if_pos (by rw [ByteArray.size_append]; show _ + (2 + name.size) ≤ _; omega)]
      exact key _ (by rw [base, if_pos h, tailN, if_neg hs, app_data, app_data])
  · rw [wd_none c h, if_pos (by rw [Lib.toList_data]), itoa_f c h0 h1, Option.bind_some]
    have hl := Lib.itoa_length_le c h0 h1
    have hz : (⟨(Lib.itoa c).toArray⟩ : ByteArray).size = (Lib.itoa c).length := by simp [ByteArray.size]
    rw [if_pos (by omega)]
    by_cases hs : name.size = 0
    · rw [if_pos (toList_nil.2 hs)]
      exact key _ (by rw [base, if_neg h, tailN, if_pos hs, List.append_nil, app_data])
    · rw [if_neg (fun e => hs (toList_nil.1 e)), if_pos (by omega), if_pos (by rw [ByteArray.size_append, ByteArray.size_append]; show 5 + _ + (2 + name.size) ≤ _; omega)]
      exact key _ (by rw [base, if_neg h, tailN, if_neg hs, app_data, app_data, app_data])
/-- Which code it is. -/
def codeOf (l : List UInt8) : Int := if l.take 5 = [99, 111, 100, 101, 32] then (valD (l.drop 5) : Int) else (((List.range 13).findIdx? fun n => (wd ((n + 1 : Nat) : Int)).data.toList == l).getD 0 : Nat) + 1
theorem code_words : ∀ n : Nat, n < 13 → codeOf (wd ((n + 1 : Nat) : Int)).data.toList = ((n + 1 : Nat) : Int) := by decide +kernel
theorem code_base (c : Int) (h0 : 0 ≤ c) : codeOf (base c) = c := by
  unfold base
  split
  · rename_i h
    have := code_words (c - 1).toNat (by omega)
    rwa [show (((c - 1).toNat + 1 : Nat) : Int) = c by omega] at this
  · obtain ⟨n, rfl⟩ : ∃ n : Nat, c = (n : Int) := ⟨c.toNat, by omega⟩
    rw [Lib.itoa_nonneg, codeOf, if_pos (by rfl)]
    show ((valD (Lib.decDigits n) : Nat) : Int) = n
    rw [val_dec]
theorem base_inj {a b : Int} (ha : 0 ≤ a) (hb : 0 ≤ b) (h : base a = base b) : a = b := by rw [← code_base a ha, ← code_base b hb, h]

theorem place_empty : diag_Place.f ⟨#[]⟩ 0 = some (1, 1) := by decide +kernel
theorem alive_t : cupellaw19_alive.f = some true := by
  have h1 : diag_Place.f ⟨#[97, 98, 10, 99]⟩ 3 = some (2, 1) := by decide +kernel
  have h2 : (wd 4).data.toList = [116, 119, 105, 99, 101] := by decide +kernel
  unfold cupellaw19_alive.f
  rw [h1, says_f 0 4 _ (by decide) (by decide) (by decide)]
  show some ((⟨(base 4 ++ tailN ⟨#[120]⟩).toArray⟩ : ByteArray).toList == _) = some true
  rw [Lib.toList_data, base, if_pos (by decide), h2]
  rfl
end Go.Proofs.YteinhpfjlfeaaaaDoor.M19
