/- The pure statement of LexWords. -/
import Derived.Test.YtmbbebdpmffihaaPAx8
import Derived.Test.YtmbbebdpmffihaaLexLaws
set_option linter.unusedVariables false
set_option linter.unusedSimpArgs false
namespace Go.Proofs.Ytmbbebdpmffihaa.Pure
open Go.RowKit Go.Proofs.Ytmbbebdpmffihaa.PA Go.Proofs.YtmbbebdpmffihaaW.PrintWords Go.Proofs.YtmbbebdpmffihaaW.PrintLast Go.Proofs.Ytmbbebdpmffihaa.Pl Go.Proofs.Ytmbbebdpmffihaa.Lx Go.Proofs.Ytmbbebdpmffihaa.M04

theorem lex_name (t : List UInt8) (h : nameL t = true) : lexA t = ([⟨if wordL t = true then 2 else 1, 0, ofL t⟩, ⟨6, (t.length : Int), ⟨#[]⟩⟩], []) := by
  have h1 := one_name t [] h (by simp)
  have h2 := lexR_app 0 t [] _ h1 rfl (nameL_ne h)
  rw [List.append_nil] at h2
  rw [lexA, h2]
  rfl
/-- A row of names, a blank behind each. -/
def rep (t : List UInt8) : Nat → List UInt8
  | 0 => []
  | n + 1 => t ++ 32 :: rep t n
theorem rep_snoc (t : List UInt8) : ∀ n, rep t (n + 1) = rep t n ++ t ++ [32]
  | 0 => by simp [rep]
  | n + 1 => by
    have := rep_snoc t n
    show t ++ 32 :: rep t (n + 1) = (t ++ 32 :: rep t n) ++ t ++ [32]
    rw [this]
    simp
theorem lex_rep (t : List UInt8) (h : nameL t = true) : ∀ (n : Nat) (a : Int), (lexR a (rep t n)).1.length = n ∧ (lexR a (rep t n)).2 = []
  | 0, a => by simp [rep, lexR_nil]
  | n + 1, a => by
    have ih := lex_rep t h n (a + t.length + 1)
    rw [rep, lexR_app a t (32 :: rep t n) _ (one_name t _ h (by simp; decide)) rfl (nameL_ne h)]
    have h2 := lexR_app (a + t.length) [32] (rep t n) ⟨1, none, none⟩ rfl rfl (by simp)
    rw [List.singleton_append] at h2
    rw [h2]
    refine ⟨?_, ?_⟩
    · rw [List.length_append, List.length_append]
      show 1 + (0 + (lexR (a + t.length + 1) (rep t n)).1.length) = n + 1
      rw [ih.1]; omega
    · show [] ++ ([] ++ (lexR (a + t.length + 1) (rep t n)).2) = []
      rw [ih.2]; rfl

def words13 : List ByteArray := [(⟨#[117, 115, 101]⟩ : ByteArray), (⟨#[116, 121, 112, 101]⟩ : ByteArray), (⟨#[108, 101, 116]⟩ : ByteArray), (⟨#[105, 110]⟩ : ByteArray), (⟨#[105, 102]⟩ : ByteArray), (⟨#[116, 104, 101, 110]⟩ : ByteArray), (⟨#[101, 108, 115, 101]⟩ : ByteArray), (⟨#[102, 117, 110]⟩ : ByteArray), (⟨#[116, 114, 117, 101]⟩ : ByteArray), (⟨#[102, 97, 108, 115, 101]⟩ : ByteArray), (⟨#[105, 110, 116]⟩ : ByteArray), (⟨#[98, 111, 111, 108]⟩ : ByteArray), (⟨#[116, 101, 120, 116]⟩ : ByteArray)]
def goodW (w e : ByteArray) : Bool := nameL w.data.toList && wordL w.data.toList && nameL (w.data.toList ++ e.data.toList) && !wordL (w.data.toList ++ e.data.toList) && decide (w.size ≤ 5) && decide (e.size = 1)
theorem all_good : ∀ i, i < 13 → ∀ j, j < 6 → goodW (rdOf ByteArray.empty words13 ((i : Nat) : Int)) (strOfNums [bt ⟨#[97, 98, 122, 95, 48, 57]⟩ ((j : Nat) : Int)]) = true := by decide +kernel

theorem name_f (s : ByteArray) (h : nameL s.data.toList = true) (hs : s.size ≤ 1000000) : lex_Name.f s = some (!wordL s.data.toList) := by
  unfold lex_Name.f
  rw [lex_f s (by omega), lex_name _ h, ofL_list]
  cases hw : wordL s.data.toList
  · show some (s.toList == s.toList) = _
    simp
  · rfl
theorem words_ev (w e : ByteArray) (h : goodW w e = true) (n : Nat) (hn : n ≤ 30) : ∀ (d i : Nat) (s : ByteArray), n - i = d → i ≤ n → s.data.toList = rep (w.data.toList ++ e.data.toList) i → s.size ≤ 7 * i →
    Ev (fun k => cupellaw04_LexWords.l0 k w e s (n : Int) (i : Int)) true := by
  simp only [goodW, Bool.and_eq_true, decide_eq_true_eq] at h
  obtain ⟨⟨⟨⟨⟨g1, g2⟩, g3⟩, g4⟩, g5⟩, g6⟩ := h
  intro d
  induction d with
  | zero =>
    intro i s hd hi hs hz
    obtain rfl : i = n := by omega
    refine Ev.step (fun k => by rw [cupellaw04_LexWords.l0]) (neg (by omega) ?_)
    obtain ⟨l1, l2⟩ := lex_rep _ g3 i 0
    simp only [lex_f s (show s.size ≤ 1000000000 by omega), hs]
    refine smb ?_
    rw [wrap_id (by omega) (by omega)]
    refine pos ?_ (now ?_)
    · simp only [lexA, List.length_append, List.length_singleton, l1]; omega
    · simp only [lexA, l2]; rfl
  | succ d ih =>
    intro i s hd hi hs hz
    refine Ev.step (fun k => by rw [cupellaw04_LexWords.l0]) (pos (by omega) ?_)
    rw [wrap_id (x := (i : Int) + 1) (by omega) (by omega)]
    refine pos (by omega) (pos (by rw [ByteArray.size_append]; omega) (pos (by rw [ByteArray.size_append, ByteArray.size_append]; omega) (ih (i + 1) _ (by omega) (by omega) ?_ ?_)))
    · rw [rep_snoc, app_data, app_data, app_data, hs]
      simp
    · rw [ByteArray.size_append, ByteArray.size_append, ByteArray.size_append, show (⟨#[32]⟩ : ByteArray).size = 1 from rfl]; omega

theorem LexWords : cupellaw04_LexWords.Pure := by
  intro a0 a1 a2 h0 h1 h2
  refine Ev.rounds ?_
  have b0 := u8w h0
  have b1 := u8w h1
  have b2 := u8w h2
  unfold cupellaw04_LexWords.f
  simp only [alive_t]
  refine smb (pos rfl ?_)
  rw [show ([(⟨#[117, 115, 101]⟩ : ByteArray), (⟨#[116, 121, 112, 101]⟩ : ByteArray), (⟨#[108, 101, 116]⟩ : ByteArray), (⟨#[105, 110]⟩ : ByteArray), (⟨#[105, 102]⟩ : ByteArray), (⟨#[116, 104, 101, 110]⟩ : ByteArray), (⟨#[101, 108, 115, 101]⟩ : ByteArray), (⟨#[102, 117, 110]⟩ : ByteArray), (⟨#[116, 114, 117, 101]⟩ : ByteArray), (⟨#[102, 97, 108, 115, 101]⟩ : ByteArray), (⟨#[105, 110, 116]⟩ : ByteArray), (⟨#[98, 111, 111, 108]⟩ : ByteArray), (⟨#[116, 101, 120, 116]⟩ : ByteArray)] : List ByteArray) = words13 from rfl]
  refine smb (neg (by decide) ?_)
  rw [wrap_id (x := a0) (by omega) (by omega), show ((words13.length : Nat) : Int) = 13 from rfl, Int.tmod_eq_emod_of_nonneg b0.1, Int.tmod_eq_emod_of_nonneg b1.1]
  obtain ⟨i, hi⟩ : ∃ i : Nat, a0 % 13 = (i : Int) := ⟨(a0 % 13).toNat, by omega⟩
  obtain ⟨j, hj⟩ : ∃ j : Nat, a1 % 6 = (j : Int) := ⟨(a1 % 6).toNat, by omega⟩
  rw [hi, hj]
  have hg := all_good i (by omega) j (by omega)
  refine pos (by omega) (pos (by omega) (pos (by omega) (pos (by omega) (smb ?_))))
  generalize rdOf ByteArray.empty words13 (i : Int) = w at hg ⊢
  generalize strOfNums [bt ⟨#[97, 98, 122, 95, 48, 57]⟩ (j : Int)] = e at hg ⊢
  have hg' := hg
  simp only [goodW, Bool.and_eq_true, decide_eq_true_eq, Bool.not_eq_true'] at hg'
  obtain ⟨⟨⟨⟨⟨g1, g2⟩, g3⟩, g4⟩, g5⟩, g6⟩ := hg'
  have hwe : (w ++ e).data.toList = w.data.toList ++ e.data.toList := app_data w e
  have hz : (w ++ e).size = w.size + e.size := ByteArray.size_append
  have e1 := lex_name _ g1
  have e2 := lex_name _ g3
  rw [g2] at e1
  rw [g4] at e2
  have n1 := name_f w g1 (by omega)
  have n2 := name_f (w ++ e) (by rw [hwe]; exact g3) (by omega)
  rw [hwe, g4] at n2
  rw [g2] at n1
  rw [← hwe] at e2
  simp only [lex_f w (show w.size ≤ 1000000000 by omega), lex_f (w ++ e) (show (w ++ e).size ≤ 1000000000 by omega), e1, e2, n1, n2]
  refine smb (pos (by omega) (smb (pos rfl (pos (show (0 : Int) < 2 by decide) (pos rfl (smb (neg (by decide) (pos rfl (pos (show (0 : Int) < 2 by decide) (pos rfl (smb ?_)))))))))))
  refine Ev.step (fun k => by rw [cupellaw04_LexWords.j0]) (neg (by decide) ?_)
  rw [wrap_id (x := a2) (by omega) (by omega), Int.tmod_eq_emod_of_nonneg b2.1]
  obtain ⟨n, hn⟩ : ∃ n : Nat, a2 % 30 = (n : Int) := ⟨(a2 % 30).toNat, by omega⟩
  rw [hn]
  exact words_ev w e hg n (by omega) _ 0 _ rfl (by omega) rfl (by decide)
end Go.Proofs.Ytmbbebdpmffihaa.Pure
