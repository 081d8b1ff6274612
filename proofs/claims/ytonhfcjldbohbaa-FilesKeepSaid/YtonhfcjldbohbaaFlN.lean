/- files: what laws read; FilesFull, plain. -/
import Derived.Test.YtonhfcjldbohbaaFlZ
import Derived.Test.YtonhfcjldbohbaaFlM
namespace Go.Proofs.Ytonhfcjldbohbaa.Fi
open Go Go.RowKit Go.ChangeMaps Go.MapKept Go.Proofs.Ytonhfcjldbohbaa.PA Go.Proofs.YtonhfcjldbohbaaW.PrintWords Go.Proofs.YtonhfcjldbohbaaW.PrintLast Go.Proofs.YtonhfcjldbohbaaW.PrintMore Go.Proofs.Ytonhfcjldbohbaa.Lx Go.Proofs.Ytonhfcjldbohbaa.M04 Go.Proofs.Ytonhfcjldbohbaa.Pl
set_option linter.unusedVariables false
set_option linter.unusedSimpArgs false

theorem bytes_any {B : Nat} {S : Nat → Prop} {t : Nat} {T : Tb} {w : World} (h : TB B S t T w) :
    Calls Try.prog 15 #[.pointer (some ⟨t, 0, none⟩)] w fun e w' => e = .returned (.int .i64 (bytesF (allF T))) ∧ Below w.heap.size w w' :=
  bytes_src B S (some ⟨t, 0, none⟩) (allF T) w h.src

/-! ### FilesFull, plain -/
def nmF (i : Nat) : ByteArray := ⟨#[102, UInt8.ofNat (97 + i / 10), UInt8.ofNat (48 + i % 10)]⟩
def flF (i : Nat) : Fl := ⟨nmF i, nil0, 0, i + 1, false⟩
def fullT (i : Nat) : Tb := ⟨1000, i, (List.range i).map flF⟩
set_option maxRecDepth 100000 in
theorem nmF_ok : ∀ i, i < 70 → okN (nmF i) = true := by
  have h : ∀ i, i < 70 → (if ((lexA [102, UInt8.ofNat (97 + i / 10), UInt8.ofNat (48 + i % 10)]).1.length : Int) = 2 then (if 0 < ((lexA [102, UInt8.ofNat (97 + i / 10), UInt8.ofNat (48 + i % 10)]).1.length : Int) then (if ((rd_T100 (lexA [102, UInt8.ofNat (97 + i / 10), UInt8.ofNat (48 + i % 10)]).1 0).f0) = 1 then (some (decide (((rd_T100 (lexA [102, UInt8.ofNat (97 + i / 10), UInt8.ofNat (48 + i % 10)]).1 0).f2).data.toList = [102, UInt8.ofNat (97 + i / 10), UInt8.ofNat (48 + i % 10)]))) else (some false)) else (none)) else (some false)) = some true := by decide +kernel
  intro i hi
  have h1 := h i hi
  have hz : (nmF i).size = 3 := rfl
  unfold okN nameOk lex_Name.f lex_Lex.f
  rw [hz, if_pos (by omega)]
  simp only [Option.bind_some]
  have e : (nmF i).data.toList = [102, UInt8.ofNat (97 + i / 10), UInt8.ofNat (48 + i % 10)] := rfl
  rw [e]
  have e2 : ∀ x : ByteArray, (x.toList == (nmF i).toList) = decide (x.data.toList = [102, UInt8.ofNat (97 + i / 10), UInt8.ofNat (48 + i % 10)]) := fun x => by
    rw [toList_eq, ← e]
    by_cases hx : x = nmF i
    · subst hx; simp
    · have h1 : ¬ x.data.toList = (nmF i).data.toList := fun h => hx (ba_ext h)
      simp [h1, hx]
  rw [e2, h1]; rfl
set_option maxRecDepth 100000 in
theorem nmF_lt : ∀ i, i < 70 → ∀ j, j < i → nmL (flF j) < (nmF i).data.toList := by
  have h : ∀ i, i < 70 → ∀ j, j < i → ([102, UInt8.ofNat (97 + j / 10), UInt8.ofNat (48 + j % 10)] : List UInt8) < [102, UInt8.ofNat (97 + i / 10), UInt8.ofNat (48 + i % 10)] := by decide +kernel
  exact h
theorem setL_app {f : Fl} : ∀ {l : List Fl}, (∀ x ∈ l, nmL x < nmL f) → setL f l = l ++ [f]
  | [], _ => rfl
  | x :: l, h => by
    unfold setL
    rw [if_pos (h x (by simp)), setL_app (fun y hy => h y (by simp [hy]))]; rfl
theorem setL_same {f x : Fl} {l : List Fl} (h : nmL x = nmL f) : setL f (x :: l) = f :: l := by rw [setL, if_neg (by rw [h]; exact lt_irr _), if_pos h]
theorem get_none_gt {sel : Fl → Bool} {l : List Fl} {k : List UInt8} (h : ∀ x ∈ l, nmL x < k) : get sel l k = none := by
  unfold get
  rw [List.find?_eq_none]
  intro x hx
  have hne : ¬ nmL x = k := fun e => lt_irr k (by have := h x hx; rw [e] at this; exact this)
  simp [hne]
theorem fullT_lt {i m : Nat} (hi : i < 70) (hm : m ≤ i) : ∀ x ∈ (fullT m).l, nmL x < (nmF i).data.toList := fun x hx => by
  obtain ⟨j, hj, rfl⟩ := List.mem_map.1 hx
  exact nmF_lt i hi j (by have := List.mem_range.1 hj; omega)
theorem fullT_here (m : Nat) : (fullT m).l.filter here = (fullT m).l := List.filter_eq_self.2 (fun x hx => by
  obtain ⟨j, hj, rfl⟩ := List.mem_map.1 hx; rfl)
theorem fullT_len (m : Nat) : (fullT m).l.length = m := by simp [fullT]
theorem full_step (i : Nat) (hi : i < 70) : putT (fullT (min i 64)) (nmF i) nil0 0 = (fullT (min (i + 1) 64), if i < 64 then 0 else 4) := by
  have hr : rightV (nmF i) nil0 0 = 0 := by rw [right_name _ _ (by decide), nmF_ok i hi]; rfl
  have hg : get here (fullT (min i 64)).l (nmF i).data.toList = none := get_none_gt (fullT_lt hi (by omega))
  unfold putT
  rw [if_neg (by rw [hr]; decide)]
  simp only [hg, fullT_here, fullT_len]
  by_cases h : i < 64
  · have e1 : min i 64 = i := by omega
    have e2 : min (i + 1) 64 = i + 1 := by omega
    rw [e1, e2, if_neg (by omega), if_pos h, if_neg (show ¬ (fullT i).most ≤ (fullT i).rev by show ¬ (1000 : Int) ≤ (i : Int); omega)]
    have hs : setL (⟨nmF i, nil0, 0, (fullT i).rev + 1, false⟩ : Fl) (fullT i).l = (fullT i).l ++ [flF i] := setL_app (fun x hx => fullT_lt hi (Nat.le_refl i) x hx)
    rw [hs]
    unfold fullT
    rw [List.range_succ, List.map_append]
    rfl
  · have e1 : min i 64 = 64 := by omega
    have e2 : min (i + 1) 64 = 64 := by omega
    rw [e1, e2, if_pos (Nat.le_refl _), if_neg h]
abbrev fa0 : ByteArray := ⟨#[102, 97, 48]⟩
def spB (n : Nat) : ByteArray := ⟨(List.replicate n 32).toArray⟩
theorem spB_size (n : Nat) : (spB n).size = n := by simp [spB, ByteArray.size]
def bigT (m : Nat) (tier : Int) (rev : Int) : Tb := ⟨1000, rev, ⟨fa0, spB 65536, tier, m + 1, false⟩ :: ((List.range m).map flF).tail⟩
theorem range_cons (m : Nat) (h : 1 ≤ m) : ∃ l, (List.range m).map flF = ⟨fa0, nil0, 0, 1, false⟩ :: l := by
  obtain ⟨k, rfl⟩ : ∃ k, m = k + 1 := ⟨m - 1, by omega⟩
  rw [List.range_succ_eq_map]
  exact ⟨_, rfl⟩
theorem fa0_ok : okN fa0 = true := nmF_ok 0 (by omega)
theorem big_1 (m : Nat) : putT (fullT m) fa0 (spB 65537) 0 = (fullT m, 5) := by
  have hr : rightV fa0 (spB 65537) 0 = 5 := by
    have := fa0_ok
    unfold okN at this
    unfold rightV
    rw [spB_size, if_pos (by simp at this; exact ⟨this.1, this.2, by decide, by decide⟩), if_pos (by omega)]
  unfold putT
  rw [if_pos (by rw [hr]; decide), hr]
theorem right_t (tier : Int) (h : 0 ≤ tier ∧ tier ≤ 2) : rightV fa0 (spB 65536) tier = 0 := by
  have := fa0_ok
  unfold okN at this
  unfold rightV
  rw [spB_size, if_pos (by simp at this; exact ⟨this.1, this.2, h.1, h.2⟩), if_neg (by omega)]
theorem big_2 (m : Nat) (hm : 1 ≤ m ∧ m ≤ 64) : putT (fullT m) fa0 (spB 65536) 0 = (bigT m 0 (m + 1), 0) := by
  obtain ⟨l, hl⟩ := range_cons m hm.1
  have hg : get here (fullT m).l fa0.data.toList = some ⟨fa0, nil0, 0, 1, false⟩ := by
    show get here ((List.range m).map flF) _ = _
    rw [hl, get_cons, if_pos ⟨rfl, rfl⟩]
  have hs : (nil0.toList == (spB 65536).toList) = false := by
    rw [toList_eq]
    exact decide_eq_false (fun e => by have := congrArg ByteArray.size e; rw [spB_size] at this; exact absurd this (by decide))
  unfold putT
  rw [if_neg (by rw [right_t 0 (by omega)]; decide)]
  simp only [hg, hs, Bool.false_and, Bool.false_eq_true, if_false]
  rw [if_neg (show ¬ (fullT m).most ≤ (fullT m).rev by show ¬ (1000 : Int) ≤ (m : Int); omega)]
  have e : setL (⟨fa0, spB 65536, 0, (fullT m).rev + 1, false⟩ : Fl) (fullT m).l = ⟨fa0, spB 65536, 0, m + 1, false⟩ :: ((List.range m).map flF).tail := by
    show setL _ ((List.range m).map flF) = _
    rw [hl]
    exact setL_same (show nmL ⟨fa0, nil0, 0, 1, false⟩ = nmL ⟨fa0, spB 65536, 0, (fullT m).rev + 1, false⟩ from rfl)
  rw [e]; rfl
theorem big_3 (m : Nat) (hm : 1 ≤ m ∧ m ≤ 64) (tier : Int) (ht : 1 ≤ tier ∧ tier ≤ 2) : putT (bigT m 0 (m + 1)) fa0 (spB 65536) tier = (bigT m tier (m + 2), 0) := by
  have hg : get here (bigT m 0 (m + 1)).l fa0.data.toList = some ⟨fa0, spB 65536, 0, m + 1, false⟩ := by
    unfold bigT
    rw [get_cons, if_pos ⟨rfl, rfl⟩]
  have hs : ((spB 65536).toList == (spB 65536).toList) = true := by simp
  have hq : ((0 : Int) == tier) = false := by simp; omega
  unfold putT
  rw [if_neg (by rw [right_t tier (by omega)]; decide)]
  simp only [hg, hs, hq, Bool.and_false, Bool.false_eq_true, if_false, if_true]
  rw [if_neg (show ¬ (bigT m 0 (m + 1)).most ≤ (bigT m 0 (m + 1)).rev by show ¬ (1000 : Int) ≤ (m : Int) + 1; omega)]
  have e : setL (⟨fa0, spB 65536, tier, m + 1, false⟩ : Fl) (bigT m 0 (m + 1)).l = (bigT m tier (m + 2)).l := by
    unfold bigT
    exact setL_same (show nmL ⟨fa0, spB 65536, 0, (m : Int) + 1, false⟩ = nmL ⟨fa0, spB 65536, tier, (m : Int) + 1, false⟩ from rfl)
  rw [e]
  have e2 : (bigT m 0 (m + 1)).rev + 1 = (m : Int) + 2 := by show ((m : Int) + 1) + 1 = _; omega
  rw [e2]; rfl
theorem big_4 (m : Nat) (tier rev : Int) : putT (bigT m tier rev) fa0 nil0 3 = (bigT m tier rev, 1) := by
  have hr : rightV fa0 nil0 3 = 1 := by
    unfold rightV
    rw [if_neg (fun e => absurd e.2.2.2 (by decide))]
  unfold putT
  rw [if_pos (by rw [hr]; decide), hr]
theorem tail_flF (m : Nat) : ∀ x ∈ ((List.range m).map flF).tail, here x = true ∧ x.f1 = nil0 ∧ x.f3 ≤ m := fun x hx => by
  obtain ⟨j, hj, rfl⟩ := List.mem_map.1 (List.mem_of_mem_tail hx)
  exact ⟨rfl, rfl, by have := List.mem_range.1 hj; show (j : Int) + 1 ≤ m; omega⟩
theorem big_since (m : Nat) (tier rev : Int) : sinceF (bigT m tier rev) (m + 1) = [] := by
  unfold sinceF bigT
  rw [List.filter_eq_nil_iff.2]
  · rfl
  · intro x hx
    rcases List.mem_cons.1 hx with rfl | hx
    · simp
    · have := (tail_flF m x hx).2.2
      simp; omega
theorem bytesF_zero : ∀ (l : List Fl) (n : Int), (∀ x ∈ l, x.f1 = nil0) → l.foldl (fun n y => n + (y.f1.size : Int)) n = n
  | [], _, _ => rfl
  | x :: l, n, h => by
    rw [List.foldl_cons, h x (by simp), bytesF_zero l _ (fun y hy => h y (by simp [hy]))]
    show n + 0 = n
    omega
theorem big_bytes (m : Nat) (tier rev : Int) : bytesF (allF (bigT m tier rev)) = 65536 := by
  have e : allF (bigT m tier rev) = (bigT m tier rev).l := List.filter_eq_self.2 (fun x hx => by
    rcases List.mem_cons.1 hx with rfl | hx
    · rfl
    · exact (tail_flF m x hx).1)
  rw [e]
  unfold bytesF bigT
  rw [List.foldl_cons, bytesF_zero _ _ (fun x hx => (tail_flF m x hx).2.1)]
  show 0 + ((spB 65536).size : Int) = 65536
  rw [spB_size]; rfl
end Go.Proofs.Ytonhfcjldbohbaa.Fi
