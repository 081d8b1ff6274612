/- Plain lemmas of chapter 19, fifth part: places and what leads back. -/
import Derived.Test.YteinhpfjlfeaaaaDoorMathC19
import Derived.Test.YteinhpfjlfeaaaaDoorExtOffset
set_option linter.unusedVariables false
set_option linter.unusedSimpArgs false
namespace Go.Proofs.YteinhpfjlfeaaaaDoor.M19
open Go.RowKit Go.Proofs.YteinhpfjlfeaaaaDoor.PA Go.Proofs.YteinhpfjlfeaaaaDoorW.PrintWords Go.Proofs.YteinhpfjlfeaaaaDoorW.PrintLast Go.Proofs.YteinhpfjlfeaaaaDoor.Of
open Go.Proofs.YteinhpfjlfeaaaaDoor.Pl hiding pos

theorem nxt_some {s : ByteArray} {a j : Nat} (h : nxt s a = (j : Int)) : s.data.toList[a + j]? = some 10 ∧ ∀ k, k < j → s.data.toList[a + k]? ≠ some 10 := by
  obtain ⟨h1, h2⟩ := Lib.indexByte_some h
  rw [List.getElem?_drop] at h1
  exact ⟨h1, fun k hk => by have := h2 k hk; rwa [List.getElem?_drop] at this⟩
theorem nxt_none {s : ByteArray} {a : Nat} (h : nxt s a < 0) : ∀ k, s.data.toList[a + k]? ≠ some 10 := by
  have hge := Lib.indexByte_ge (s.data.toList.drop a) 10
  have h1 : Lib.indexByte (s.data.toList.drop a) 10 = -1 := by unfold nxt at h; omega
  intro k
  have := Lib.indexByte_none h1 k
  rwa [List.getElem?_drop] at this
theorem width_le {s : ByteArray} {k : Nat} (hF : Full s k) : 0 ≤ width s k ∧ (pos s k : Int) + width s k ≤ s.size := by
  have := pos_le s k hF
  unfold width
  split
  · omega
  · have := nxt_lt s (pos s k) (by omega); omega
/-- Each place lies in a line. -/
theorem line_of (s : ByteArray) : ∀ i : Nat, i ≤ s.size → ∃ k, Full s k ∧ pos s k ≤ i ∧ (i : Int) ≤ pos s k + width s k ∧ lnc (s.data.toList.take i) = (k + 1, i - pos s k + 1)
  | 0, _ => ⟨0, fun j hj => by omega, Nat.le_refl _, by have := width_le (s := s) (k := 0) (fun j hj => by omega); simp only [pos] at this ⊢; omega, rfl⟩
  | i + 1, hi => by
    obtain ⟨k, hF, h1, h2, h3⟩ := line_of s i (by omega)
    have hlt : i < s.data.toList.length := by rw [size_data]; omega
    have hn := lnc_snoc (s.data.toList.take i) s.data.toList[i]
    rw [← List.take_succ_eq_append_getElem hlt, h3] at hn
    have hg : s.data.toList[i]? = some s.data.toList[i] := List.getElem?_eq_getElem hlt
    have hw := width_le hF
    by_cases h10 : s.data.toList[i] = 10
    · rw [if_pos h10] at hn
      rw [h10] at hg
      have hx : nxt s (pos s k) = ((i - pos s k : Nat) : Int) := by
        by_cases hneg : nxt s (pos s k) < 0
        · exact absurd (by rw [show pos s k + (i - pos s k) = i by omega]; exact hg) (nxt_none hneg (i - pos s k))
        · unfold width at h2
          rw [if_neg hneg] at h2
          have h5 := (nxt_some (s := s) (a := pos s k) (j := (nxt s (pos s k)).toNat) (by omega)).2 (i - pos s k)
          have h6 : ¬ i - pos s k < (nxt s (pos s k)).toNat := fun hl => h5 hl (by rw [show pos s k + (i - pos s k) = i by omega]; exact hg)
          omega
      have hF2 : Full s (k + 1) := fun j hj => by
        by_cases h : j < k
        · exact hF j h
        · obtain rfl : j = k := by omega
          omega
      have hp : pos s (k + 1) = i + 1 := by simp only [pos]; omega
      have hw2 := width_le hF2
      exact ⟨k + 1, hF2, by omega, by omega, by rw [hn, hp]; congr 1; omega⟩
    · rw [if_neg h10] at hn
      have hx : ((i + 1 : Nat) : Int) ≤ pos s k + width s k := by
        unfold width at h2 ⊢
        by_cases hneg : nxt s (pos s k) < 0
        · rw [if_pos hneg]; omega
        · rw [if_neg hneg] at h2 ⊢
          have h5 := (nxt_some (s := s) (a := pos s k) (j := (nxt s (pos s k)).toNat) (by omega)).1
          have h6 : i ≠ pos s k + (nxt s (pos s k)).toNat := by
            rintro e
            rw [← e, hg] at h5
            exact h10 (Option.some.inj h5)
          omega
      exact ⟨k, hF, by omega, hx, by rw [hn]; congr 1; simp only; omega⟩
theorem pos_mono {s : ByteArray} {k : Nat} : ∀ {m : Nat}, k < m → Full s m → (pos s k : Int) + width s k < pos s m
  | 0, h, _ => by omega
  | m + 1, h, hF => by
    have hFm : Full s m := fun j hj => hF j (by omega)
    have hm := hF m (by omega)
    by_cases he : k = m
    · subst he
      simp only [pos, width]
      rw [if_neg (by omega)]
      omega
    · have := pos_mono (s := s) (k := k) (m := m) (by omega) hFm
      simp only [pos]; omega
/-- What leads back. -/
theorem offs_back (s : ByteArray) (i : Nat) (hi : i ≤ s.size) : offs s ((lnc (s.data.toList.take i)).1 : Int) ((lnc (s.data.toList.take i)).2 : Int) = ((i : Int), true) := by
  obtain ⟨k, hF, h1, h2, h3⟩ := line_of s i hi
  rw [h3]
  unfold offs
  simp only
  rw [show (((k + 1 : Nat) : Int) - 1).toNat = k by omega, if_pos ⟨by omega, fullB_iff.2 hF⟩]
  unfold give
  rw [if_neg (by omega)]
  congr 1
  omega
theorem offs_only (s : ByteArray) (line column n : Int) (h : offs s line column = (n, true)) : ∃ i : Nat, n = i ∧ i ≤ s.size ∧ ((lnc (s.data.toList.take i)).1 : Int) = line ∧ ((lnc (s.data.toList.take i)).2 : Int) = column := by
  unfold offs at h
  split at h
  · rename_i hc
    obtain ⟨hl, hB⟩ := hc
    have hF := fullB_iff.1 hB
    obtain ⟨k, hk⟩ : ∃ k, (line - 1).toNat = k := ⟨_, rfl⟩
    rw [hk] at h hF
    unfold give at h
    split at h
    · simp at h
    · rename_i hcol
      obtain ⟨h1, _⟩ := Prod.mk.inj h
      have hw := width_le hF
      have hp := pos_le s k hF
      refine ⟨n.toNat, by omega, by omega, ?_⟩
      obtain ⟨m, hFm, g1, g2, g3⟩ := line_of s n.toNat (by omega)
      have : m = k := by
        rcases Nat.lt_trichotomy m k with hlt | he | hlt
        · have := pos_mono hlt hF; omega
        · exact he
        · have := pos_mono hlt hFm; omega
      subst this
      rw [g3]
      simp only
      omega
  · simp at h
theorem give_no (s : ByteArray) (k : Nat) (column : Int) (h : (give s k column).2 = false) : (give s k column).1 = 0 := by
  unfold give at h ⊢
  split
  · rfl
  · rename_i hc; rw [if_neg hc] at h; cases h
theorem offs_no (s : ByteArray) (line column : Int) (h : (offs s line column).2 = false) : (offs s line column).1 = 0 := by
  unfold offs at h ⊢
  split
  · rename_i hc; rw [if_pos hc] at h; exact give_no _ _ _ h
  · rfl
theorem offset_f (s : ByteArray) (hs : s.size ≤ 100000) (a b : Int) (h : -9223372036854775808 ≤ b ∧ b ≤ 9223372036854775807) : diag_Offset.f s a b = some (offs s a b) := by
  unfold diag_Offset.f; rw [if_pos ⟨hs, h.1, h.2⟩]
end Go.Proofs.YteinhpfjlfeaaaaDoor.M19
