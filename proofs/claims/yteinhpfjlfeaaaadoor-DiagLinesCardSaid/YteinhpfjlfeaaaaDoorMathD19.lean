/- Plain lemmas of chapter 19, fourth part: the reference says the same. -/
import Derived.Test.YteinhpfjlfeaaaaDoorMathC19
set_option linter.unusedVariables false
set_option linter.unusedSimpArgs false
namespace Go.Proofs.YteinhpfjlfeaaaaDoor.M19
open Go.RowKit Go.Proofs.YteinhpfjlfeaaaaDoor.PA Go.Proofs.YteinhpfjlfeaaaaDoorW.PrintWords Go.Proofs.YteinhpfjlfeaaaaDoorW.PrintLast Go.Proofs.YteinhpfjlfeaaaaDoor.Pl

def words13 : List ByteArray := [(⟨#[110, 111, 32, 116, 111, 107, 101, 110]⟩ : ByteArray), (⟨#[110, 111, 116, 32, 101, 120, 112, 101, 99, 116, 101, 100]⟩ : ByteArray), (⟨#[116, 111, 111, 32, 100, 101, 101, 112]⟩ : ByteArray), (⟨#[116, 119, 105, 99, 101]⟩ : ByteArray), (⟨#[117, 110, 107, 110, 111, 119, 110, 32, 116, 121, 112, 101]⟩ : ByteArray), (⟨#[117, 110, 107, 110, 111, 119, 110, 32, 110, 97, 109, 101]⟩ : ByteArray), (⟨#[110, 111, 32, 115, 117, 99, 104, 32, 102, 105, 108, 101]⟩ : ByteArray), (⟨#[119, 97, 110, 116, 101, 100]⟩ : ByteArray), (⟨#[110, 111, 32, 115, 117, 99, 104, 32, 102, 105, 101, 108, 100]⟩ : ByteArray), (⟨#[110, 111, 32, 102, 117, 110, 99, 116, 105, 111, 110]⟩ : ByteArray), (⟨#[110, 101, 101, 100, 115, 32, 105, 116, 115, 101, 108, 102]⟩ : ByteArray), (⟨#[115, 116, 97, 110, 100, 115, 32, 102, 111, 114, 32, 110, 111, 116, 104, 105, 110, 103]⟩ : ByteArray), (⟨#[110, 117, 109, 98, 101, 114, 32, 116, 111, 111, 32, 103, 114, 101, 97, 116]⟩ : ByteArray)]
theorem words_wd : ∀ n : Nat, n < 13 → (rdOf ByteArray.empty words13 (n : Int)).data.toList = (wd ((n + 1 : Nat) : Int)).data.toList := by decide +kernel
/-- A text, and a name behind it, as the reference joins them. -/
theorem named_ev (s : ByteArray) (name : ByteArray) (c : Int) (hs : s.data.toList = base c) (hb : (base c).length ≤ 30) (hn : name.size ≤ 100000) :
    Ev (fun _ => if name.toList = ([] : List UInt8) then (some s) else (if s.size + 2 ≤ 9223372036854775807 then (if (s ++ (⟨#[58, 32]⟩ : ByteArray)).size + name.size ≤ 9223372036854775807 then (some ((s ++ (⟨#[58, 32]⟩ : ByteArray)) ++ name)) else (none)) else (none))) (⟨(base c ++ tailN name).toArray⟩ : ByteArray) := by
  have hz : s.size = (base c).length := by rw [← size_data, hs]
  by_cases h : name.size = 0
  · refine pos (toList_nil.2 h) (now (data_inj ?_))
    rw [hs, tailN, if_pos h, List.append_nil]
  · refine neg (fun e => h (toList_nil.1 e)) (pos (by omega) (pos (by rw [ByteArray.size_append]; show _ + 2 + _ ≤ _; omega) (now (data_inj ?_))))
    rw [app_data, app_data, hs, tailN, if_neg h]
    simp
theorem refSays_ev (a c : Int) (name : ByteArray) (h0 : -9223372036854775808 ≤ c) (h1 : c ≤ 9223372036854775807) (hn : name.size ≤ 100000) :
    Ev (fun k => cupelref19_Says.f k a c name) (⟨(base c ++ tailN name).toArray⟩ : ByteArray) := by
  have hb := base_len c h0 h1
  have hj : ∀ q : Bool, (q = true ↔ 1 ≤ c ∧ c ≤ 13) → Ev (fun k => cupelref19_Says.j0 k words13 (⟨#[99, 111, 100, 101, 32]⟩ : ByteArray) q a c name) (⟨(base c ++ tailN name).toArray⟩ : ByteArray) := by
    intro q hq
    refine Ev.step (fun k => by rw [cupelref19_Says.j0]) ?_
    by_cases h : q = true
    · have hc := hq.1 h
      have hw := words_wd (c - 1).toNat (by omega)
      rw [show (((c - 1).toNat : Nat) : Int) = c - 1 by omega, show (((c - 1).toNat + 1 : Nat) : Int) = c by omega] at hw
      rw [wrap_id (x := c - 1) (by omega) (by omega)]
      refine pos h (pos (by omega) (pos (show c - 1 < 13 by omega) ?_))
      exact named_ev _ name c (by rw [hw, base, if_pos hc]) hb hn
    · have hc : ¬ (1 ≤ c ∧ c ≤ 13) := fun e => h (hq.2 e)
      refine neg h ?_
      by_cases hneg : c < 0
      · obtain ⟨n, rfl⟩ : ∃ n : Nat, c = -(n : Int) := ⟨(-c).toNat, by omega⟩
        have l := dec_len20 n (by omega)
        refine pos hneg (pos (by decide) (bnd (negs_ev n (by omega) (by omega)) (pos (by rw [decB_size]; show 6 + _ ≤ _; omega) ?_)))
        refine named_ev _ name _ ?_ hb hn
        rw [app_data, app_data, decB_data, base, if_neg hc, Lib.itoa_neg n (by omega)]
        simp
      · obtain ⟨n, rfl⟩ : ∃ n : Nat, c = (n : Int) := ⟨c.toNat, by omega⟩
        have l := dec_len20 n (by omega)
        refine neg hneg (bnd (digits_ev n (by omega)) (pos (by rw [decB_size]; show 5 + _ ≤ _; omega) ?_))
        refine named_ev _ name _ ?_ hb hn
        rw [app_data, decB_data, base, if_neg hc, Lib.itoa_nonneg]
  refine Ev.congr (f := fun k => if c ≥ 1 then (cupelref19_Says.j0 k words13 (⟨#[99, 111, 100, 101, 32]⟩ : ByteArray) (decide (c ≤ 13)) a c name) else (cupelref19_Says.j0 k words13 (⟨#[99, 111, 100, 101, 32]⟩ : ByteArray) false a c name)) (fun k => rfl) ?_
  by_cases h : c ≥ 1
  · exact pos h (hj _ (by rw [decide_eq_true_eq]; omega))
  · exact neg h (hj _ ⟨fun e => absurd e (by decide), fun e => absurd e.1 h⟩)
theorem itoa_n (n : Nat) (h : n ≤ 9223372036854775807) : strconv_Itoa_19.f (n : Int) = some (decB n) := by
  rw [itoa_f _ (by omega) (by omega), Lib.itoa_nonneg]; rfl
/-- Both lines. -/
theorem line_both3 (x0 src name : ByteArray) (at_ c : Int) (h0 : -9223372036854775808 ≤ c) (h1 : c ≤ 9223372036854775807) (hx : x0.size ≤ 100000) (hs : src.size ≤ 100000) (hn : name.size ≤ 100000) :
    ∃ t : ByteArray, diag_Line.f x0 src at_ c name = some t ∧ Ev (fun k => cupelref19_Line.f k x0 src at_ c name) t ∧ t.size ≤ 300200 := by
  have hp := place_f src hs at_
  have hr := refPlace_ev src hs at_ _ 0 rfl (by omega) (.inr rfl)
  rw [List.take_zero] at hr
  have hl := lnc_le (src.data.toList.take (min src.size at_.toNat))
  have htl : (src.data.toList.take (min src.size at_.toNat)).length ≤ src.size := by rw [List.length_take, size_data]; omega
  generalize (lnc (src.data.toList.take (min src.size at_.toNat))).1 = l at *
  generalize (lnc (src.data.toList.take (min src.size at_.toNat))).2 = m at *
  have hb := base_len c h0 h1
  have ht : (tailN name).length ≤ 100002 := by
    unfold tailN
    split
    · simp
    · rw [List.length_append, size_data]; simp; omega
  have hz : (⟨(base c ++ tailN name).toArray⟩ : ByteArray).size = (base c).length + (tailN name).length := by simp [ByteArray.size]
  have z1 := decB_size l
  have z2 := decB_size m
  have l1 := dec_len20 l (by omega)
  have l2 := dec_len20 m (by omega)
  have k1 : (⟨#[58]⟩ : ByteArray).size = 1 := rfl
  have k3 : (⟨#[58, 32]⟩ : ByteArray).size = 2 := rfl
  refine ⟨((((((x0 ++ (⟨#[58]⟩ : ByteArray)) ++ decB l) ++ (⟨#[58]⟩ : ByteArray)) ++ decB m) ++ (⟨#[58, 32]⟩ : ByteArray)) ++ (⟨(base c ++ tailN name).toArray⟩ : ByteArray)) ++ (⟨#[10]⟩ : ByteArray), ?_, ?_, by simp only [ByteArray.size_append]; have : (⟨#[10]⟩ : ByteArray).size = 1 := rfl; omega⟩
  · unfold diag_Line.f
    rw [hp, Option.bind_some]
    simp only [itoa_n l (by omega), itoa_n m (by omega), Option.bind_some]
    rw [says_f at_ c name h0 h1 hn, Option.bind_some]
    rw [if_pos (by omega), if_pos (by simp only [ByteArray.size_append]; omega), if_pos (by simp only [ByteArray.size_append]; omega), if_pos (by simp only [ByteArray.size_append]; omega), if_pos (by simp only [ByteArray.size_append]; omega), if_pos (by simp only [ByteArray.size_append]; omega), if_pos (by simp only [ByteArray.size_append]; omega)]
  · refine bnd (a := ((l : Int), (m : Int))) hr (pos (by omega) (bnd (digits_ev l (by omega)) (pos (by simp only [ByteArray.size_append]; omega) (pos (by simp only [ByteArray.size_append]; omega) (bnd (digits_ev m (by omega)) (pos (by simp only [ByteArray.size_append]; omega) (pos (by simp only [ByteArray.size_append]; omega) (bnd (refSays_ev at_ c name h0 h1 hn) (pos (by simp only [ByteArray.size_append]; omega) (pos (by simp only [ByteArray.size_append]; omega) (now rfl)))))))))))
theorem line_both (x0 src name : ByteArray) (at_ c : Int) (h0 : -9223372036854775808 ≤ c) (h1 : c ≤ 9223372036854775807) (hx : x0.size ≤ 100000) (hs : src.size ≤ 100000) (hn : name.size ≤ 100000) :
    ∃ t : ByteArray, diag_Line.f x0 src at_ c name = some t ∧ Ev (fun k => cupelref19_Line.f k x0 src at_ c name) t := by
  obtain ⟨t, h1, h2, _⟩ := line_both3 x0 src name at_ c h0 h1 hx hs hn
  exact ⟨t, h1, h2⟩
end Go.Proofs.YteinhpfjlfeaaaaDoor.M19
