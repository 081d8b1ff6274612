/- fix: the reference's Reach says who is reached. No program. -/
import Derived.Test.YtiljegeodokfmaaGrO
namespace Go.Proofs.Ytiljegeodokfmaa.Fx
open Go Go.RowKit Go.Proofs.YtiljegeodokfmaaW.PrintWords Go.Proofs.YtiljegeodokfmaaW.PrintLast Go.Proofs.YtiljegeodokfmaaW.PrintMore Go.Proofs.Ytiljegeodokfmaa.PA
set_option linter.unusedVariables false
set_option linter.unusedSimpArgs false

theorem onceF_nodup (l : List Int) : (onceF l).Nodup := by
  refine snocRec (P := fun l => (onceF l).Nodup) (by simp [onceF]) (fun l e ih => ?_) l
  rw [onceF_snoc]
  split
  · exact ih
  · rename_i h
    refine List.nodup_append.2 ⟨ih, by simp, fun a ha b hb e => ?_⟩
    have := List.mem_singleton.1 hb
    subst this e
    exact h ha
theorem getD_set (l : List Bool) (k n : Nat) (hk : k < l.length) : (l.set k true).getD n false = if n = k then true else l.getD n false := by
  rw [List.getD_eq_getElem?_getD, List.getElem?_set, List.getD_eq_getElem?_getD]
  by_cases h : k = n
  · subst h; simp [hk]
  · rw [if_neg h, if_neg (Ne.symm h)]
abbrev Bs := List Bool × List Int
def vis (ns : List Int) (tw : Int) : List Nat → Bs → Bs
  | [], s => s
  | k :: ks, s => vis ns tw ks (if ns.getD k 0 = tw ∧ s.1.getD k false = false then (s.1.set k true, s.2 ++ [ns.getD k 0]) else s)
def edg (ns : List Int) (at_ : Int) : List S30 → Bs → Bs
  | [], s => s
  | e :: es, s => edg ns at_ es (if e.f0 = at_ then vis ns e.f1 (List.range' 0 ns.length) s else s)
def unseen (l : List Bool) : Nat := (l.filter fun b => !b).length
def mu (s : Bs) : Nat := 2 * unseen s.1 + s.2.length
theorem unseen_set : ∀ (l : List Bool) (k : Nat), k < l.length → l.getD k false = false → unseen (l.set k true) + 1 = unseen l
  | [], k, h, _ => by simp at h
  | b :: l, 0, h, h2 => by
    have : b = false := by simpa using h2
    subst this
    simp [unseen]
  | b :: l, k + 1, h, h2 => by
    have := unseen_set l k (by simpa using h) (by simpa using h2)
    unfold unseen at this ⊢
    cases b <;> simp_all
/-- What a step leaves. -/
structure Grw (ns : List Int) (s s' : Bs) : Prop where
  len : s'.1.length = s.1.length
  up : ∀ n, s.1.getD n false = true → s'.1.getD n false = true
  q : ∀ x, x ∈ s.2 → x ∈ s'.2
  new : ∀ n, s'.1.getD n false = true → s.1.getD n false = true ∨ ns.getD n 0 ∈ s'.2
  mu : mu s' ≤ mu s
theorem Grw.refl (ns : List Int) (s : Bs) : Grw ns s s := ⟨rfl, fun _ h => h, fun _ h => h, fun _ h => .inl h, Nat.le_refl _⟩
theorem Grw.trans {ns : List Int} {a b c : Bs} (h : Grw ns a b) (k : Grw ns b c) : Grw ns a c :=
  ⟨k.len.trans h.len, fun n e => k.up n (h.up n e), fun x e => k.q x (h.q x e), fun n e => (k.new n e).elim (fun e => (h.new n e).imp id (k.q _)) .inr, Nat.le_trans k.mu h.mu⟩
theorem vis1 {ns : List Int} {tw : Int} {k : Nat} {s : Bs} (hk : k < s.1.length) : Grw ns s (if ns.getD k 0 = tw ∧ s.1.getD k false = false then (s.1.set k true, s.2 ++ [ns.getD k 0]) else s) := by
  split
  · rename_i h
    refine ⟨by simp, fun n e => ?_, fun x e => by simp [e], fun n e => ?_, ?_⟩
    · simp only [getD_set _ _ _ hk]; split <;> simp_all
    · simp only [getD_set _ _ _ hk] at e
      split at e
      · rename_i e2; subst e2; right; simp
      · exact .inl e
    · have := unseen_set s.1 k hk h.2
      simp only [mu, List.length_append, List.length_cons, List.length_nil]
      omega
  · exact Grw.refl ns s
theorem vis_grw {ns : List Int} {tw : Int} : ∀ (ks : List Nat) (s : Bs), (∀ k ∈ ks, k < s.1.length) → Grw ns s (vis ns tw ks s) ∧ (∀ n, n ∈ ks → ns.getD n 0 = tw → (vis ns tw ks s).1.getD n false = true) ∧ (∀ n, (vis ns tw ks s).1.getD n false = true → s.1.getD n false = true ∨ (n ∈ ks ∧ ns.getD n 0 = tw)) ∧ (∀ x, x ∈ (vis ns tw ks s).2 → x ∈ s.2 ∨ ∃ n ∈ ks, x = ns.getD n 0 ∧ ns.getD n 0 = tw)
  | [], s, _ => ⟨Grw.refl ns s, fun n h => by simp at h, fun n h => .inl h, fun x h => .inl h⟩
  | k :: ks, s, hk => by
    have h1 := vis1 (ns := ns) (tw := tw) (hk k (by simp))
    obtain ⟨a, b, c, d⟩ := vis_grw (tw := tw) ks _ (fun j hj => by rw [h1.len]; exact hk j (by simp [hj]))
    refine ⟨h1.trans a, fun n hn he => ?_, fun n hn => ?_, fun x hx => ?_⟩
    · rcases List.mem_cons.1 hn with rfl | hn
      · refine a.up n ?_
        split
        · simp only [getD_set _ _ _ (hk n (by simp))]; simp
        · rename_i h
          cases h2 : s.1.getD n false
          · exact (h ⟨he, h2⟩).elim
          · rfl
      · exact b n hn he
    · rcases c n hn with h | h
      · split at h
        · rename_i h3
          simp only [getD_set _ _ _ (hk k (by simp))] at h
          split at h
          · rename_i e; subst e; exact .inr ⟨by simp, h3.1⟩
          · exact .inl h
        · exact .inl h
      · exact .inr ⟨by simp [h.1], h.2⟩
    · rcases d x hx with h | ⟨n, h, h2⟩
      · split at h
        · rename_i h3
          rcases List.mem_append.1 h with h | h
          · exact .inl h
          · exact .inr ⟨k, by simp, List.mem_singleton.1 h, h3.1⟩
        · exact .inl h
      · exact .inr ⟨n, by simp [h], h2⟩
theorem edg_grw {ns : List Int} {at_ : Int} : ∀ (es : List S30) (s : Bs), s.1.length = ns.length → Grw ns s (edg ns at_ es s) ∧ (∀ e ∈ es, e.f0 = at_ → ∀ n, n < ns.length → ns.getD n 0 = e.f1 → (edg ns at_ es s).1.getD n false = true) ∧ (∀ n, (edg ns at_ es s).1.getD n false = true → s.1.getD n false = true ∨ (n < ns.length ∧ ∃ e ∈ es, e.f0 = at_ ∧ ns.getD n 0 = e.f1)) ∧ (∀ x, x ∈ (edg ns at_ es s).2 → x ∈ s.2 ∨ ∃ n, n < ns.length ∧ x = ns.getD n 0 ∧ ∃ e ∈ es, e.f0 = at_ ∧ ns.getD n 0 = e.f1)
  | [], s, _ => ⟨Grw.refl ns s, fun e h => by simp at h, fun n h => .inl h, fun x h => .inl h⟩
  | e :: es, s, hl => by
    have key : Grw ns s (if e.f0 = at_ then vis ns e.f1 (List.range' 0 ns.length) s else s) ∧ (e.f0 = at_ → ∀ n, n < ns.length → ns.getD n 0 = e.f1 → (if e.f0 = at_ then vis ns e.f1 (List.range' 0 ns.length) s else s).1.getD n false = true) ∧ (∀ n, (if e.f0 = at_ then vis ns e.f1 (List.range' 0 ns.length) s else s).1.getD n false = true → s.1.getD n false = true ∨ (n < ns.length ∧ e.f0 = at_ ∧ ns.getD n 0 = e.f1)) ∧ (∀ x, x ∈ (if e.f0 = at_ then vis ns e.f1 (List.range' 0 ns.length) s else s).2 → x ∈ s.2 ∨ ∃ n, n < ns.length ∧ x = ns.getD n 0 ∧ e.f0 = at_ ∧ ns.getD n 0 = e.f1) := by
      have hm : ∀ n, n ∈ List.range' 0 ns.length ↔ n < ns.length := fun n => by simp [List.mem_range'_1]
      by_cases h : e.f0 = at_
      · simp only [if_pos h]
        obtain ⟨a, b, c, d⟩ := vis_grw (ns := ns) (tw := e.f1) (List.range' 0 ns.length) s (fun k hk => by rw [hl]; exact (hm k).1 hk)
        refine ⟨a, fun _ n hn he => b n ((hm n).2 hn) he, fun n hn => (c n hn).imp id (fun h2 => ⟨(hm n).1 h2.1, h, h2.2⟩), fun x hx => (d x hx).imp id (fun ⟨n, h2, h3, h4⟩ => ⟨n, (hm n).1 h2, h3, h, h4⟩)⟩
      · simp only [if_neg h]
        exact ⟨Grw.refl ns s, fun h2 => (h h2).elim, fun n hn => .inl hn, fun x hx => .inl hx⟩
    obtain ⟨k1, k2, k3, k4⟩ := key
    obtain ⟨a, b, c, d⟩ := edg_grw (at_ := at_) es _ (k1.len.trans hl)
    refine ⟨k1.trans a, fun e' he' h n hn h2 => ?_, fun n hn => ?_, fun x hx => ?_⟩
    · rcases List.mem_cons.1 he' with rfl | he'
      · exact a.up n (k2 h n hn h2)
      · exact b e' he' h n hn h2
    · rcases c n hn with h | ⟨h1, e', h2, h3⟩
      · rcases k3 n h with h | h
        · exact .inl h
        · exact .inr ⟨h.1, e, by simp, h.2⟩
      · exact .inr ⟨h1, e', by simp [h2], h3⟩
    · rcases d x hx with h | ⟨n, h1, h2, e', h3, h4⟩
      · rcases k4 x h with h | ⟨n, h1, h2, h3⟩
        · exact .inl h
        · exact .inr ⟨n, h1, h2, e, by simp, h3⟩
      · exact .inr ⟨n, h1, h2, e', by simp [h3], h4⟩
section
variable {ns : List Int} {l : List S30} {i : Nat}
/-- Between two nodes. -/
structure BInv (ns : List Int) (l : List S30) (i : Nat) (s : Bs) : Prop where
  len : s.1.length = ns.length
  sound : ∀ n, n < ns.length → s.1.getD n false = true → RB ns.length (tqOnce ns l) i n = true
  que : ∀ x, x ∈ s.2 → ∃ a, a < ns.length ∧ x = ns.getD a 0 ∧ (a = i ∨ RB ns.length (tqOnce ns l) i a = true)
  done : ∀ a, a < ns.length → (a = i ∨ s.1.getD a false = true) → ns.getD a 0 ∈ s.2 ∨ ∀ n, n ∈ tqOnce ns l a → s.1.getD n false = true
theorem idx_getD (hd : ns.Nodup) {a : Nat} (ha : a < ns.length) : ns.idxOf (ns.getD a 0) = a := by
  rw [List.getD_eq_getElem?_getD, List.getElem?_eq_getElem ha]
  exact hd.idxOf_getElem a ha
theorem getD_mem' {a : Nat} (ha : a < ns.length) : ns.getD a 0 ∈ ns := by
  rw [List.getD_eq_getElem?_getD, List.getElem?_eq_getElem ha]; exact List.getElem_mem _
theorem getD_idx {x : Int} (h : x ∈ ns) : ns.getD (ns.idxOf x) 0 = x := by
  have hl := List.idxOf_lt_length_of_mem h
  rw [List.getD_eq_getElem?_getD, List.getElem?_eq_getElem hl]; exact List.getElem_idxOf hl
theorem edge_iff (hd : ns.Nodup) {a n : Nat} (ha : a < ns.length) (hn : n < ns.length) : n ∈ tqOnce ns l a ↔ ∃ e ∈ l, e.f0 = ns.getD a 0 ∧ ns.getD n 0 = e.f1 := by
  rw [mem_tqOnce]
  constructor
  · rintro ⟨e, he, h1, h2, h3, h4⟩
    exact ⟨e, he, by rw [h2, getD_idx h1], by rw [h4, getD_idx h3]⟩
  · rintro ⟨e, he, h1, h2⟩
    exact ⟨e, he, by rw [h1]; exact getD_mem' ha, by rw [h1, idx_getD hd ha], by rw [← h2]; exact getD_mem' hn, by rw [← h2, idx_getD hd hn]⟩
theorem tq_lt {a n : Nat} (h : n ∈ tqOnce ns l a) : n < ns.length := (mem_tqOnce.1 h).lt.2
theorem BInv.step (hd : ns.Nodup) (hi : i < ns.length) {seen : List Bool} {x : Int} {todo : List Int} (h : BInv ns l i (seen, x :: todo)) : BInv ns l i (edg ns x l (seen, todo)) ∧ mu (edg ns x l (seen, todo)) < mu (seen, x :: todo) := by
  obtain ⟨g, b, c, d⟩ := edg_grw (ns := ns) (at_ := x) l (seen, todo) h.len
  obtain ⟨a, ha, hx, hra⟩ := h.que x (by simp)
  have hstep : ∀ n, n < ns.length → (∃ e ∈ l, e.f0 = x ∧ ns.getD n 0 = e.f1) → RB ns.length (tqOnce ns l) i n = true := fun n hn he => by
    have hm := (edge_iff hd ha hn).2 (by rw [← hx]; exact he)
    have hs : ∀ i n, n ∈ tqOnce ns l i → n < ns.length := fun i n h => tq_lt h
    rcases hra with rfl | hra
    · exact RB_edge hs ha hm
    · 
      have key : ∀ (r i : Nat), i < ns.length → PR (tqOnce ns l) a r i = true → RB ns.length (tqOnce ns l) i n = true := by
        intro r
        induction r with
        | zero => intro i _ h; simp [PR] at h
        | succ r ih =>
          intro i hi h
          obtain ⟨m, hm1, h⟩ := PR_succ.1 h
          rcases h with rfl | h
          · exact RB_step hs hi hm1 (RB_edge hs (tq_lt hm1) hm)
          · exact RB_step hs hi hm1 (ih m (tq_lt hm1) h)
      exact key _ i hi hra
  refine ⟨⟨g.len.trans h.len, fun n hn hs => ?_, fun y hy => ?_, fun a' ha' hs => ?_⟩, ?_⟩
  · rcases c n hs with h' | ⟨h1, h2⟩
    · exact h.sound n hn h'
    · exact hstep n h1 h2
  · rcases d y hy with h' | ⟨n, h1, h2, h3⟩
    · exact h.que y (by simp [h'])
    · exact ⟨n, h1, h2, .inr (hstep n h1 h3)⟩
  · by_cases hax : ns.getD a' 0 = x
    · right
      intro n hn
      obtain ⟨e, he, h1, h2⟩ := (edge_iff hd ha' (tq_lt hn)).1 hn
      exact b e he (h1.trans hax) n (tq_lt hn) h2
    · have hold : (a' = i ∨ seen.getD a' false = true) ∨ ns.getD a' 0 ∈ (edg ns x l (seen, todo)).2 := by
        rcases hs with rfl | hs
        · exact .inl (.inl rfl)
        · exact (g.new a' hs).imp (fun h => .inr h) id
      rcases hold with hold | hold
      · rcases h.done a' ha' hold with h' | h'
        · rcases List.mem_cons.1 h' with h' | h'
          · exact (hax h').elim
          · exact .inl (g.q _ h')
        · exact .inr fun n hn => g.up n (h' n hn)
      · exact .inl hold
  · have := g.mu
    simp only [mu, List.length_cons] at this ⊢
    omega
theorem BInv.last (hi : i < ns.length) {seen : List Bool} (h : BInv ns l i (seen, [])) (n : Nat) (hn : n < ns.length) : seen.getD n false = RB ns.length (tqOnce ns l) i n := by
  have hcl : ∀ a, a < ns.length → (a = i ∨ seen.getD a false = true) → ∀ n, n ∈ tqOnce ns l a → seen.getD n false = true := fun a ha hs => (h.done a ha hs).elim (fun h => by simp at h) id
  have key : ∀ (r a : Nat), a < ns.length → (a = i ∨ seen.getD a false = true) → PR (tqOnce ns l) n r a = true → seen.getD n false = true := by
    intro r
    induction r with
    | zero => intro a _ _ h; simp [PR] at h
    | succ r ih =>
      intro a ha hs h
      obtain ⟨m, hm, h⟩ := PR_succ.1 h
      have := hcl a ha hs m hm
      rcases h with rfl | h
      · exact this
      · exact ih m (tq_lt hm) (.inr this) h
  cases hb : RB ns.length (tqOnce ns l) i n
  · cases hs : seen.getD n false
    · rfl
    · rw [h.sound n hn hs] at hb; cases hb
  · exact key _ i hi (.inl rfl) hb
theorem wr1' {n : Nat} (h : n ≤ 1000000) : wrap64 ((n : Int) + 1) = ((n + 1 : Nat) : Int) := by unfold wrap64; omega
theorem reach_l2 (hN : ns.length ≤ 1000) (hl : l.length ≤ 1000) {x : Int} {e : Nat} (he : e < l.length) {r : List Bool} {k0 : Nat} : ∀ (d j : Nat) (s : Bs), j + d = ns.length → s.1.length = ns.length → mu s ≤ 100000 →
    cupelref12_Reach.l1 k0 ns l (vis ns (rd_T30 l (e : Int)).f1 (List.range' j d) s).1 (vis ns (rd_T30 l (e : Int)).f1 (List.range' j d) s).2 x ((e + 1 : Nat) : Int) = some r → cupelref12_Reach.l2 (k0 + d + 1) ns l s.1 s.2 x (e : Int) (j : Int) = some r
  | 0, j, s, hj, hs, hmu, h => by
    unfold cupelref12_Reach.l2
    rw [if_neg (by omega), wr1' (by omega)]
    exact h
  | d + 1, j, s, hj, hs, hmu, h => by
    have hjn : j < ns.length := by omega
    show cupelref12_Reach.l2 ((k0 + d + 1) + 1) ns l s.1 s.2 x (e : Int) (j : Int) = some r
    unfold cupelref12_Reach.l2
    rw [if_pos (by omega), if_pos (by omega), if_pos (by omega), if_pos (by omega), rd_nat, wr1' (by omega)]
    rw [show List.range' j (d + 1) = j :: List.range' (j + 1) d from List.range'_succ] at h
    have hg := (vis1 (ns := ns) (tw := (rd_T30 l (e : Int)).f1) (k := j) (s := s) (by omega))
    unfold vis at h
    by_cases h1 : ns.getD j 0 = (rd_T30 l (e : Int)).f1
    · rw [if_pos h1, if_pos (by omega)]
      have hrd : rdOf false s.1 (j : Int) = s.1.getD j false := by simp [rdOf]
      rw [hrd]
      by_cases h2 : s.1.getD j false = true
      · rw [if_pos h2]
        rw [if_neg (fun h3 => by rw [h2] at h3; cases h3.2)] at h
        exact reach_l2 hN hl he d (j + 1) s (by omega) hs hmu h
      · have h2' : s.1.getD j false = false := Bool.eq_false_iff.2 h2
        have hq : s.2.length < 17592186044416 := by unfold mu at hmu; omega
        rw [if_neg h2, if_pos hq, Int.toNat_natCast]
        rw [if_pos ⟨h1, h2'⟩] at h hg
        exact reach_l2 hN hl he d (j + 1) (s.1.set j true, s.2 ++ [ns.getD j 0]) (by omega) (by simpa using hs) (Nat.le_trans hg.mu hmu) h
    · rw [if_neg h1]
      rw [if_neg (fun h3 => h1 h3.1)] at h
      exact reach_l2 hN hl he d (j + 1) s (by omega) hs hmu h
theorem reach_l1 (hN : ns.length ≤ 1000) (hl : l.length ≤ 1000) {x : Int} {r : List Bool} {k0 : Nat} : ∀ (d e : Nat) (s : Bs), e + d = l.length → s.1.length = ns.length → mu s ≤ 100000 →
    cupelref12_Reach.l0 k0 ns l (edg ns x (l.drop e) s).1 (edg ns x (l.drop e) s).2 = some r → ∃ k, cupelref12_Reach.l1 k ns l s.1 s.2 x (e : Int) = some r
  | 0, e, s, he, hs, hmu, h => by
    refine ⟨k0 + 1, ?_⟩
    unfold cupelref12_Reach.l1
    rw [if_neg (by omega)]
    rw [List.drop_eq_nil_of_le (by omega)] at h
    exact h
  | d + 1, e, s, he, hs, hmu, h => by
    have hel : e < l.length := by omega
    have hrd : l.drop e = rd_T30 l (e : Int) :: l.drop (e + 1) := by
      rw [List.drop_eq_getElem_cons hel]; unfold rd_T30; rw [Int.toNat_natCast, List.getD_eq_getElem?_getD, List.getElem?_eq_getElem hel]; rfl
    rw [hrd] at h
    unfold edg at h
    by_cases h1 : (rd_T30 l (e : Int)).f0 = x
    · rw [if_pos h1] at h
      have hg := (vis_grw (ns := ns) (tw := (rd_T30 l (e : Int)).f1) (List.range' 0 ns.length) s (fun k hk => by rw [hs]; simpa [List.mem_range'_1] using hk)).1
      obtain ⟨k, hk⟩ := reach_l1 hN hl d (e + 1) _ (by omega) (hg.len.trans hs) (Nat.le_trans hg.mu hmu) h
      have := reach_l2 hN hl hel ns.length 0 s (by omega) hs hmu hk
      refine ⟨k + ns.length + 1 + 1, ?_⟩
      unfold cupelref12_Reach.l1
      rw [if_pos (by omega), if_pos (by omega), if_pos h1]
      exact this
    · rw [if_neg h1] at h
      obtain ⟨k, hk⟩ := reach_l1 hN hl d (e + 1) _ (by omega) hs hmu h
      refine ⟨k + 1, ?_⟩
      unfold cupelref12_Reach.l1
      rw [if_pos (by omega), if_pos (by omega), if_neg h1, wr1' (by omega)]
      exact hk
theorem reach_l0 (hd : ns.Nodup) (hi : i < ns.length) (hN : ns.length ≤ 1000) (hl : l.length ≤ 1000) : ∀ (m : Nat) (s : Bs), mu s ≤ m → m ≤ 100000 → BInv ns l i s → ∃ k r, cupelref12_Reach.l0 k ns l s.1 s.2 = some r ∧ r.length = ns.length ∧ ∀ n, n < ns.length → r.getD n false = RB ns.length (tqOnce ns l) i n := by
  intro m
  induction m with
  | zero =>
    intro s hm hm2 h
    obtain ⟨seen, todo⟩ := s
    have : todo = [] := by unfold mu at hm; exact List.eq_nil_of_length_eq_zero (by simp only at hm; omega)
    subst this
    refine ⟨1, seen, ?_, h.len, h.last hi⟩
    unfold cupelref12_Reach.l0
    rw [if_neg (by simp)]
  | succ m ih =>
    intro s hm hm2 h
    obtain ⟨seen, todo⟩ := s
    cases todo with
    | nil =>
      refine ⟨1, seen, ?_, h.len, h.last hi⟩
      unfold cupelref12_Reach.l0
      rw [if_neg (by simp)]
    | cons x todo =>
      obtain ⟨h1, h2⟩ := h.step hd hi
      obtain ⟨k, r, hk, hr⟩ := ih _ (by omega) (by omega) h1
      have hmu : mu (seen, todo) ≤ 100000 := by simp only [mu, List.length_cons] at hm ⊢; omega
      obtain ⟨k', hk'⟩ := reach_l1 (k0 := k) (r := r) (x := x) hN hl l.length 0 (seen, todo) (by omega) h.len hmu (by simpa using hk)
      refine ⟨k' + 1, r, ?_, hr⟩
      unfold cupelref12_Reach.l0
      have h0 : rd (x :: todo) 0 = x := by simp [rd]
      rw [if_pos (by simp only [List.length_cons]; omega), if_pos (by simp only [List.length_cons]; omega), if_pos (by simp only [List.length_cons]; omega), h0]
      exact hk'
/-- Reach: who is reached. -/
theorem reach_f (hd : ns.Nodup) (hi : i < ns.length) (hN : ns.length ≤ 1000) (hl : l.length ≤ 1000) : ∃ k r, cupelref12_Reach.f k ns l (ns.getD i 0) = some r ∧ r.length = ns.length ∧ ∀ n, n < ns.length → r.getD n false = RB ns.length (tqOnce ns l) i n := by
  have hfalse : ∀ n, (List.replicate ns.length false).getD n false = false := fun n => by
    rw [List.getD_eq_getElem?_getD, List.getElem?_replicate]; split <;> rfl
  have h0 : BInv ns l i (List.replicate ns.length false, [ns.getD i 0]) := {
    len := by simp
    sound := fun n _ h => by rw [hfalse] at h; cases h
    que := fun x hx => ⟨i, hi, List.mem_singleton.1 hx, .inl rfl⟩
    done := fun a ha h => by
      rcases h with rfl | h
      · exact .inl (by simp)
      · rw [hfalse] at h; cases h }
  have hu : unseen (List.replicate ns.length false) ≤ ns.length := by unfold unseen; have := List.length_filter_le (fun b => !b) (List.replicate ns.length false); rwa [List.length_replicate] at this
  obtain ⟨k, r, hk, hr⟩ := reach_l0 hd hi hN hl _ _ (Nat.le_refl _) (by simp only [mu, List.length_cons, List.length_nil]; omega) h0
  refine ⟨k, r, ?_, hr⟩
  unfold cupelref12_Reach.f
  rw [if_pos (by omega), if_pos (by omega), Int.toNat_natCast]
  exact hk
end
theorem in_law (l : List Int) (x : Int) (hl : l.length ≤ 1000000) : ∀ (d j : Nat), j + d = l.length → cupelref12_In.l0 (d + 1) l x (j : Int) = some (decide (x ∈ l.drop j))
  | 0, j, h => by
    unfold cupelref12_In.l0
    rw [if_neg (by omega), List.drop_eq_nil_of_le (by omega)]; simp
  | d + 1, j, h => by
    have hj : j < l.length := by omega
    unfold cupelref12_In.l0
    rw [if_pos (by omega), if_pos (by omega), rd_nat, wr1' (by omega), show l.getD j 0 = l[j] by rw [List.getD_eq_getElem?_getD, List.getElem?_eq_getElem hj]; rfl]
    by_cases hx : l[j] = x
    · rw [if_pos hx, List.drop_eq_getElem_cons hj]; simp [hx]
    · rw [if_neg hx, in_law l x hl d (j + 1) (by omega), List.drop_eq_getElem_cons hj]
      have : ¬ x = l[j] := fun e => hx e.symm
      simp only [List.mem_cons, this, false_or]
theorem in_f (l : List Int) (x : Int) (hl : l.length ≤ 1000000) : cupelref12_In.f (l.length + 1) l x = some (decide (x ∈ l)) := by
  have := in_law l x hl l.length 0 (by omega)
  simpa [cupelref12_In.f] using this
end Go.Proofs.Ytiljegeodokfmaa.Fx
