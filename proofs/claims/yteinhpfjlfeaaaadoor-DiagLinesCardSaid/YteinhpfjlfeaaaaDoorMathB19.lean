/- Plain lemmas of chapter 19, second part: the reference's digits. -/
import Derived.Test.YteinhpfjlfeaaaaDoorMath19
set_option linter.unusedVariables false
set_option linter.unusedSimpArgs false
namespace Go.Proofs.YteinhpfjlfeaaaaDoor.M19
open Go.RowKit Go.Proofs.YteinhpfjlfeaaaaDoor.PA Go.Proofs.YteinhpfjlfeaaaaDoorW.PrintWords Go.Proofs.YteinhpfjlfeaaaaDoorW.PrintLast Go.Proofs.YteinhpfjlfeaaaaDoor.Pl

def decB (n : Nat) : ByteArray := ⟨(Lib.decDigits n).toArray⟩
theorem decB_data (n : Nat) : (decB n).data.toList = Lib.decDigits n := rfl
theorem decB_size (n : Nat) : (decB n).size = (Lib.decDigits n).length := by simp [decB, ByteArray.size]
theorem dec_len : ∀ (k n : Nat), n < 10 ^ (k + 1) → (Lib.decDigits n).length ≤ k + 1
  | 0, n, h => by rw [Lib.decDigits, dif_pos (by simpa using h)]; simp
  | k + 1, n, h => by
    rw [Lib.decDigits]
    split
    · simp
    · have := dec_len k (n / 10) (by rw [Nat.div_lt_iff_lt_mul (by decide)]; rw [Nat.pow_succ] at h; exact h)
      rw [List.length_append]; simp; omega
theorem dec_len20 (n : Nat) (h : n ≤ 9223372036854775808) : (Lib.decDigits n).length ≤ 20 := dec_len 19 n (by omega)
theorem digits_ev : ∀ n : Nat, n ≤ 9223372036854775807 → Ev (fun k => cupelref18_Digits.f k (n : Int)) (decB n) := by
  intro n
  induction n using Nat.strongRecOn with
  | ind n ih =>
    intro hn
    refine Ev.step (fun k => by rw [cupelref18_Digits.f]) ?_
    by_cases h : n < 10
    · refine neg (by omega) (now ?_)
      rw [wrap_id (by omega) (by omega)]
      refine data_inj ?_
      rw [decB_data, Lib.decDigits, dif_pos h]
      show [UInt8.ofNat ((48 + (n : Int)) % 256).toNat] = _
      rw [show ((48 + (n : Int)) % 256).toNat = 48 + n by omega]
    · have e1 : Int.tdiv (n : Int) 10 = ((n / 10 : Nat) : Int) := by rw [Int.tdiv_eq_ediv_of_nonneg (by omega)]; rfl
      have e2 : Int.tmod (n : Int) 10 = ((n % 10 : Nat) : Int) := by rw [Int.tmod_eq_emod_of_nonneg (by omega)]; rfl
      rw [e1, e2, wrap_id (by omega) (by omega)]
      have l1 := dec_len20 (n / 10) (by omega)
      have l2 := dec_len20 (n % 10) (by omega)
      refine pos (by omega) (bnd (ih (n / 10) (by omega) (by omega)) (bnd (ih (n % 10) (by omega) (by omega)) (pos (by rw [decB_size, decB_size]; omega) (now ?_))))
      refine data_inj ?_
      rw [app_data, decB_data, decB_data, decB_data]
      conv => rhs; rw [Lib.decDigits]
      rw [dif_neg h, Lib.decDigits_one (i := n % 10) (by omega)]
theorem negs_ev : ∀ n : Nat, 1 ≤ n → n ≤ 9223372036854775808 → Ev (fun k => cupelref19_digits.f k (-(n : Int))) (decB n) := by
  intro n
  induction n using Nat.strongRecOn with
  | ind n ih =>
    intro h1 hn
    refine Ev.step (fun k => by rw [cupelref19_digits.f]) ?_
    by_cases h : n < 10
    · rw [wrap_id (x := -(-(n : Int))) (by omega) (by omega), Int.neg_neg]
      exact neg (by omega) (bnd (digits_ev n (by omega)) (now rfl))
    · have e1 : Int.tdiv (-(n : Int)) 10 = -((n / 10 : Nat) : Int) := by rw [Int.neg_tdiv, Int.tdiv_eq_ediv_of_nonneg (by omega)]; rfl
      have e2 : Int.tmod (-(n : Int)) 10 = -((n % 10 : Nat) : Int) := by rw [Int.neg_tmod, Int.tmod_eq_emod_of_nonneg (by omega)]; rfl
      rw [e1, e2, wrap_id (x := -((n / 10 : Nat) : Int)) (by omega) (by omega), wrap_id (x := -(-((n % 10 : Nat) : Int))) (by omega) (by omega), Int.neg_neg]
      have l1 := dec_len20 (n / 10) (by omega)
      have l2 := dec_len20 (n % 10) (by omega)
      refine pos (by omega) (bnd (ih (n / 10) (by omega) (by omega) (by omega)) (bnd (digits_ev (n % 10) (by omega)) (pos (by rw [decB_size, decB_size]; omega) (now ?_))))
      refine data_inj ?_
      rw [app_data, decB_data, decB_data, decB_data]
      conv => rhs; rw [Lib.decDigits]
      rw [dif_neg h, Lib.decDigits_one (i := n % 10) (by omega)]
end Go.Proofs.YteinhpfjlfeaaaaDoor.M19
