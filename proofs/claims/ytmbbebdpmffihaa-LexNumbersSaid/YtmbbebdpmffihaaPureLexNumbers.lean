/- The pure statement of LexNumbers. -/
import Derived.Test.YtmbbebdpmffihaaPAx7
import Derived.Test.YtmbbebdpmffihaaLexLaws
set_option linter.unusedVariables false
set_option linter.unusedSimpArgs false
namespace Go.Proofs.Ytmbbebdpmffihaa.Pure
open Go.RowKit Go.Proofs.Ytmbbebdpmffihaa.PA Go.Proofs.YtmbbebdpmffihaaW.PrintWords Go.Proofs.YtmbbebdpmffihaaW.PrintLast Go.Proofs.Ytmbbebdpmffihaa.Pl Go.Proofs.Ytmbbebdpmffihaa.Lx Go.Proofs.Ytmbbebdpmffihaa.M04

theorem lexR_one (a : Int) (b : UInt8) (r : List UInt8) (s : Step) (hs : one (b :: r) = s) (hn : s.n = (b :: r).length) : lexR a (b :: r) = (toks s a, diags s a) := by
  subst hs
  rw [lexR_cons, hn, List.drop_length, lexR_nil, List.append_nil, List.append_nil]
theorem lex_digits (b : UInt8) (r : List UInt8) (h : ∀ x ∈ b :: r, digB (x.toNat : Int) = true) :
    lexA (b :: r) = if (b :: r).length ≤ 18 then ([⟨3, 0, ofL (b :: r)⟩, ⟨6, ((b :: r).length : Int), ⟨#[]⟩⟩], []) else ([⟨3, 0, ofL [48]⟩, ⟨6, ((b :: r).length : Int), ⟨#[]⟩⟩], [⟨0, 13, ⟨#[]⟩⟩]) := by
  obtain ⟨f1, f2, f3⟩ := dig_flags (h b (by simp))
  have hr := runLen_all digB (b :: r) h
  by_cases hl : (b :: r).length ≤ 18
  · rw [if_pos hl, lexA, lexR_one 0 b r ⟨(b :: r).length, some (3, ofL (b :: r)), none⟩ (by simp only [one, f1, f2, f3, h b (by simp), hr, hl, List.take_length]; rfl) rfl]
    rfl
  · rw [if_neg hl, lexA, lexR_one 0 b r ⟨(b :: r).length, some (3, ofL [48]), some 13⟩ (by simp only [one, f1, f2, f3, h b (by simp), hr, hl]; rfl) rfl]
    rfl
theorem lex_text (t : List UInt8) (h : ∀ x ∈ t, inB (x.toNat : Int) = true) : lexA (34 :: (t ++ [34])) = ([⟨4, 0, ofL t⟩, ⟨6, ((34 :: (t ++ [34])).length : Int), ⟨#[]⟩⟩], []) := by
  have hr := runLen_until inB 34 [] (by decide) t h
  rw [lexA, lexR_one 0 34 (t ++ [34]) ⟨t.length + 2, some (4, ofL t), none⟩ (by rw [one_quote, hr]; simp) (by simp)]
  rfl
theorem lex_open (t : List UInt8) (h : ∀ x ∈ t, inB (x.toNat : Int) = true) : lexA (34 :: t) = ([⟨6, ((34 :: t).length : Int), ⟨#[]⟩⟩], [⟨0, 1, ⟨#[]⟩⟩]) := by
  have hr := runLen_all inB t h
  rw [lexA, lexR_one 0 34 t ⟨t.length + 1, none, some 1⟩ (by rw [one_quote, hr]; simp) (by simp)]
  rfl

theorem nums_data (xs : List Int) : (strOfNums xs).data.toList = xs.map fun n => UInt8.ofNat n.toNat := rfl
theorem nums_size (xs : List Int) : (strOfNums xs).size = xs.length := by rw [← size_data, nums_data, List.length_map]
theorem byte_int {x : Int} (h0 : 0 ≤ x) (h1 : x ≤ 255) : (((UInt8.ofNat x.toNat).toNat : Nat) : Int) = x := by
  rw [UInt8.toNat_ofNat']; omega

theorem last_ev (l2 : List Int) (hl : l2.length ≤ 300) (hb : ∀ x ∈ l2, 0 ≤ x ∧ x ≤ 255) : ∀ (d i : Nat) (q : Bool), l2.length - i = d → i ≤ l2.length → q = (l2.take i).all (fun x => x != 34 && x != 10) →
    Ev (fun k => cupellaw04_LexNumbers.l1 k l2 q (i : Int)) true := by
  intro d
  induction d with
  | zero =>
    intro i q hd hi hq
    obtain rfl : i = l2.length := by omega
    rw [List.take_length] at hq
    refine Ev.step (fun k => by rw [cupellaw04_LexNumbers.l1]) (neg (by omega) ?_)
    cases q with
    | false => exact neg (by decide) (now rfl)
    | true =>
      have hin : ∀ x ∈ (strOfNums l2).data.toList, inB (x.toNat : Int) = true := by
        intro x hx
        rw [nums_data, List.mem_map] at hx
        obtain ⟨y, hy, rfl⟩ := hx
        have h1 := hb y hy
        have h2 := List.all_eq_true.1 hq.symm y hy
        rw [byte_int h1.1 h1.2]
        exact h2
      have e1 := lex_text _ hin
      have e2 := lex_open _ hin
      have hsz := nums_size l2
      have s1 : ((⟨#[34]⟩ : ByteArray) ++ strOfNums l2 ++ ⟨#[34]⟩).data.toList = 34 :: ((strOfNums l2).data.toList ++ [34]) := by rw [app_data, app_data]; rfl
      have s2 : ((⟨#[34]⟩ : ByteArray) ++ strOfNums l2).data.toList = 34 :: (strOfNums l2).data.toList := by rw [app_data]; rfl
      have z1 : ((⟨#[34]⟩ : ByteArray) ++ strOfNums l2).size = 1 + l2.length := by rw [ByteArray.size_append, hsz]; rfl
      have z2 : ((⟨#[34]⟩ : ByteArray) ++ strOfNums l2 ++ ⟨#[34]⟩).size = 1 + l2.length + 1 := by rw [ByteArray.size_append, z1]; rfl
      rw [← s1] at e1
      rw [← s2] at e2
      simp only [lex_f _ (show ((⟨#[34]⟩ : ByteArray) ++ strOfNums l2 ++ ⟨#[34]⟩).size ≤ 1000000000 by omega), lex_f _ (show ((⟨#[34]⟩ : ByteArray) ++ strOfNums l2).size ≤ 1000000000 by omega), e1, e2, ofL_list]
      refine pos trivial (pos (by omega) (pos (by omega) (smb (smb ?_))))
      refine pos rfl (pos (show (0 : Int) < 2 by decide) (pos rfl (pos rfl (pos rfl (pos rfl (pos rfl (pos (show (0 : Int) < 1 by decide) (now rfl))))))))
  | succ d ih =>
    intro i q hd hi hq
    have hlt : i < l2.length := by omega
    have e : rd l2 (i : Int) = l2[i] := by simp [rd, List.getD_eq_getElem?_getD, List.getElem?_eq_getElem hlt]
    have hq' : (l2.take (i + 1)).all (fun x => x != 34 && x != 10) = (q && (l2[i] != 34 && l2[i] != 10)) := by
      rw [List.take_succ_eq_append_getElem hlt, List.all_append, ← hq]; simp
    refine Ev.step (fun k => by rw [cupellaw04_LexNumbers.l1]) (pos (by omega) ?_)
    rw [e, wrap_id (x := (i : Int) + 1) (by omega) (by omega)]
    cases q with
    | false => exact neg (by decide) (ih (i + 1) _ (by omega) (by omega) (by rw [hq']; rfl))
    | true =>
      refine pos rfl (pos (by omega) ?_)
      by_cases h : l2[i] = 34
      · exact pos h (ih (i + 1) _ (by omega) (by omega) (by rw [hq', h]; rfl))
      · exact neg h (ih (i + 1) _ (by omega) (by omega) (by rw [hq', bne_iff_ne.2 h]; rfl))

theorem digits_ev (x1 : Int) (l2 : List Int) (n : Nat) (hn : 1 ≤ n ∧ n ≤ 30) (hl : l2.length ≤ 300) (hb : ∀ x ∈ l2, 0 ≤ x ∧ x ≤ 255) : ∀ (d i : Nat) (s : ByteArray), n - i = d → i ≤ n → s.size = i → (∀ x ∈ s.data.toList, digB (x.toNat : Int) = true) →
    Ev (fun k => cupellaw04_LexNumbers.l0 k x1 l2 (n : Int) s (i : Int)) true := by
  intro d
  induction d with
  | zero =>
    intro i s hd hi hs hdg
    obtain rfl : i = n := by omega
    have hlen : s.data.toList.length = i := by rw [size_data]; exact hs
    obtain ⟨b, r, hbr⟩ : ∃ b r, s.data.toList = b :: r := by
      cases h : s.data.toList with
      | nil => rw [h] at hlen; simp at hlen; omega
      | cons b r => exact ⟨b, r, rfl⟩
    rw [hbr] at hdg hlen
    have hlx := lex_digits b r hdg
    rw [← hbr] at hlx
    have hend : Ev (fun k => cupellaw04_LexNumbers.j1 k l2 false) true := by
      refine Ev.step (fun k => by rw [cupellaw04_LexNumbers.j1]) (neg (by decide) ?_)
      exact last_ev l2 hl hb _ 0 true rfl (by omega) (by simp)
    refine Ev.step (fun k => by rw [cupellaw04_LexNumbers.l0]) (neg (by omega) ?_)
    simp only [lex_f s (by omega), hlx, ofL_list]
    refine smb ?_
    by_cases h18 : i ≤ 18
    · simp only [show (s.data.toList.length ≤ 18) = True from eq_true (by rw [hbr]; omega), if_true]
      refine pos rfl (pos (show (0 : Int) < 2 by decide) (pos rfl (pos (by omega) (pos rfl (pos rfl (neg (by omega) hend))))))
    · simp only [show (s.data.toList.length ≤ 18) = False from eq_false (by rw [hbr]; omega), if_false]
      refine pos rfl (pos (show (0 : Int) < 2 by decide) (pos rfl (neg (by omega) (pos (by omega) (pos (by show (ofL [48]).toList = [48]; rw [Lib.toList_data]; rfl) (pos rfl (pos (show (0 : Int) < 1 by decide) hend)))))))
  | succ d ih =>
    intro i s hd hi hs hdg
    refine Ev.step (fun k => by rw [cupellaw04_LexNumbers.l0]) (pos (by omega) (smb ?_))
    rw [wrap_id (x := (i : Int) + 1) (by omega) (by omega)]
    refine pos (by rw [nums_size, hs]; simp; omega) (ih (i + 1) _ (by omega) (by omega) (by rw [ByteArray.size_append, nums_size, hs]; rfl) ?_)
    intro x hx
    rw [app_data, List.mem_append] at hx
    rcases hx with hx | hx
    · exact hdg x hx
    · rw [nums_data] at hx
      simp only [List.map_cons, List.map_nil, List.mem_singleton] at hx
      subst hx
      generalize hz : (x1 + (i : Int) % 256) % 256 % 10 = z
      have : 0 ≤ z ∧ z < 10 := by omega
      rw [byte_int (by omega) (by omega)]
      simp [digB]; omega

theorem LexNumbers : cupellaw04_LexNumbers.Pure := by
  intro a0 a1 l2 h0 h1 _ _ h2
  refine Ev.rounds ?_
  have b0 := u8w h0
  unfold cupellaw04_LexNumbers.f
  simp only [alive_t]
  refine smb (pos rfl ?_)
  by_cases hl : (l2.length : Int) > 300
  · exact pos hl (now rfl)
  refine neg hl ?_
  rw [wrap_id (x := a0) (by omega) (by omega), Int.tmod_eq_emod_of_nonneg b0.1, wrap_id (by omega) (by omega)]
  obtain ⟨n, hn⟩ : ∃ n : Nat, 1 + a0 % 30 = (n : Int) := ⟨(1 + a0 % 30).toNat, by omega⟩
  rw [hn]
  exact digits_ev a1 l2 n (by omega) (by omega) (fun x hx => u8w (h2 x hx)) _ 0 _ rfl (by omega) rfl (by simp)
end Go.Proofs.Ytmbbebdpmffihaa.Pure
