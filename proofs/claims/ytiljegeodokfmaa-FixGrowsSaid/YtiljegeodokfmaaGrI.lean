/- fix, ninth part: Clone, IndexFunc, DeleteFunc, Circles. -/
import Derived.Test.YtiljegeodokfmaaGrH
import Derived.Lib.SliceRun
namespace Go.Proofs.Ytiljegeodokfmaa.Fx
open Go Go.RowKit Go.Proofs.YtiljegeodokfmaaW.PrintWords Go.Proofs.YtiljegeodokfmaaW.PrintLast Go.Proofs.YtiljegeodokfmaaW.PrintMore Go.Proofs.Ytiljegeodokfmaa.Rg
attribute [local go_sem] Oper.semAt_some
set_option linter.unusedVariables false
set_option linter.unusedSimpArgs false

theorem setCells_block (b : Nat) : ∀ (vs : List Value) (o : Nat) (w : World) (A : Array Value) (t : TypeId), w.heap[b]? = some (.cells A t (0, 0)) → ∃ A', (w.setCells b o vs).heap[b]? = some (.cells A' t (0, 0)) ∧ A'.size = A.size ∧ ∀ k, k < o → A'[k]? = A[k]?
  | [], o, w, A, t, h => ⟨A, h, rfl, fun _ _ => rfl⟩
  | v :: vs, o, w, A, t, h => by
    obtain ⟨A', h1, h2, h3⟩ := setCells_block b vs (o + 1) (w.setCell ⟨b, o, none⟩ v) _ t (blk_set h o v)
    exact ⟨A', h1, by rw [h2]; simp, fun k hk => by rw [h3 k (by omega)]; simp [Array.getElem?_setIfInBounds, show o ≠ k by omega]⟩
theorem setCells_other (b : Nat) : ∀ (vs : List Value) (o : Nat) (w : World) (k : Nat), k ≠ b → (w.setCells b o vs).heap[k]? = w.heap[k]?
  | [], o, w, k, h => rfl
  | v :: vs, o, w, k, h => (setCells_other b vs (o + 1) _ k h).trans (Below.heap_setCell w ⟨b, o, none⟩ v k h)
theorem setCells_size (b : Nat) : ∀ (vs : List Value) (o : Nat) (w : World), (w.setCells b o vs).heap.size = w.heap.size
  | [], o, w => rfl
  | v :: vs, o, w => by
    refine (setCells_size b vs (o + 1) _).trans ?_
    simp [World.setCell]
theorem setCells_below (B b : Nat) (hb : B ≤ b) : ∀ (vs : List Value) (o : Nat) (a w : World), Below B a w → Below B a (w.setCells b o vs)
  | [], o, a, w, h => h
  | v :: vs, o, a, w, h => setCells_below B b hb vs (o + 1) a _ (h.setCell (p := ⟨b, o, none⟩) hb v)

/-- The graph goes on, whatever becomes of block c. -/
def Inv (B : Nat) (S : Nat → Prop) (g : Nat) (ns : List Int) (tq : Nat → List Nat) (m : M) (c : Nat) (w0 w : World) : Prop := ∃ S' sv', (∀ k, S' k → S k ∨ w0.heap.size ≤ k) ∧ Sol ns tq sv' m ∧ G B S' g ns tq sv' w ∧ Ch B (fun k => S k ∨ k = c) w0 w
structure At (B : Nat) (S : Nat → Prop) (g b c : Nat) (w0 : World) : Prop where
  hB : B ≤ w0.heap.size
  hS : ∀ k, S k → k < w0.heap.size
  cb : w0.cell? ⟨b, 0, none⟩ = some (.pointer (some ⟨g, 0, none⟩))
  nb : ¬ S b
  bc : b ≠ c
  c1 : B ≤ c
  c2 : c < w0.heap.size
  nc : ¬ S c
theorem Inv.call {B : Nat} {S : Nat → Prop} {g : Nat} {ns : List Int} {tq : Nat → List Nat} {m : M} {b c : Nat} {w0 w : World} (h : Inv B S g ns tq m c w0 w) (ha : At B S g b c w0) (n : Nat) (hn : 12 ≤ n) (x : Int) (hx : (Lit.int .i64 x).wf = true) :
    CallsIn Fence.wide n Try.prog 31 #[.int .i64 x, .pointer (some ⟨b, 0, none⟩)] w fun e w' => e = .returned (.bool (!circ ns m x)) ∧ Inv B S g ns tq m c w0 w' ∧ w'.heap[c]? = w.heap[c]? := by
  obtain ⟨S', sv', h1, h2, h3, h4⟩ := h
  have hz := h4.below.size
  have hlb := World.block_lt_of_cell? w0 _ ha.cb
  refine (circles1_any n hn B S' g ns tq sv' m x hx b w (by have := ha.hB; omega) h3 h2 ((World.cell?_of_block (h4.keep b hlb (fun e => e.elim ha.nb ha.bc))).trans ha.cb)).mono ?_
  rintro e w' ⟨rfl, S2, h5, h6, h7⟩
  refine ⟨rfl, ⟨S2, some m, fun k hk => (h5 k hk).elim (h1 k) (fun h => .inr (by omega)), .inl rfl, h6, h4.trans h7 (fun k hk => (h1 k hk).elim (fun h => .inl (.inl h)) .inr)⟩, h7.keep c (by have := ha.c2; omega) (fun e => (h1 c e).elim ha.nc (fun h => by have := ha.c2; omega))⟩
theorem Inv.other {B : Nat} {S : Nat → Prop} {g : Nat} {ns : List Int} {tq : Nat → List Nat} {m : M} {b c : Nat} {w0 w w' : World} (h : Inv B S g ns tq m c w0 w) (ha : At B S g b c w0) (hb : Below B w w') (hk : ∀ k, k ≠ c → w'.heap[k]? = w.heap[k]?) : Inv B S g ns tq m c w0 w' := by
  obtain ⟨S', sv', h1, h2, h3, h4⟩ := h
  exact ⟨S', sv', h1, h2, h3.heap hb.size (fun k hk' => hk k (fun e => by subst e; exact (h1 _ hk').elim ha.nc (fun h => by have := ha.c2; omega))), ⟨h4.below.trans hb, fun k h5 h6 => (hk k (fun e => h6 (.inr e))).trans (h4.keep k h5 h6)⟩⟩
theorem Inv.set {B : Nat} {S : Nat → Prop} {g : Nat} {ns : List Int} {tq : Nat → List Nat} {m : M} {b c : Nat} {w0 w : World} (h : Inv B S g ns tq m c w0 w) (ha : At B S g b c w0) (i : Nat) (v : Value) : Inv B S g ns tq m c w0 (w.setCell ⟨c, i, none⟩ v) :=
  h.other ha ((Below.refl B w).setCell (p := ⟨c, i, none⟩) ha.c1 v) (fun k hk => Below.heap_setCell w ⟨c, i, none⟩ v k hk)

/-- The first cells of a block. -/
def Row (w : World) (c : Nat) (A : Array Value) : Prop := w.heap[c]? = some (.cells A 3 (0, 0))
/-- IndexFunc's answer. -/
def IdxPost (B : Nat) (S : Nat → Prop) (g : Nat) (ns : List Int) (tq : Nat → List Nat) (m : M) (c : Nat) (A : Array Value) (w0 : World) (e : Ending) (w' : World) : Prop :=
  Inv B S g ns tq m c w0 w' ∧ Row w' c A ∧ ((e = .returned (.int .i64 (-1)) ∧ ∀ x ∈ ns, circ ns m x = true) ∨ ∃ i : Nat, i < ns.length ∧ e = .returned (.int .i64 i) ∧ (∀ x ∈ ns.take i, circ ns m x = true) ∧ circ ns m (ns.getD i 0) = false)
theorem getD_mem {ns : List Int} {i : Nat} (h : i < ns.length) : ns.getD i 0 ∈ ns := by rw [List.getD_eq_getElem?_getD, List.getElem?_eq_getElem h]; exact List.getElem_mem _
theorem take_succ_getD {ns : List Int} {i : Nat} (h : i < ns.length) : ns.take (i + 1) = ns.take i ++ [ns.getD i 0] := by
  rw [List.take_add_one, List.getD_eq_getElem?_getD, List.getElem?_eq_getElem h]; rfl
set_option maxHeartbeats 4000000 in
theorem index_any (n : Nat) (hn : 14 ≤ n) (B : Nat) (S : Nat → Prop) (g : Nat) (ns : List Int) (tq : Nat → List Nat) (m : M) (b c cap : Nat) (A : Array Value) (w0 w : World) (hns : ns.length ≤ 1000) (hwf : ∀ x ∈ ns, (Lit.int .i64 x).wf = true) (ha : At B S g b c w0) (h : Inv B S g ns tq m c w0 w) (hA : ∀ k, k < ns.length → A[k]? = some (.int .i64 (ns.getD k 0))) (hrow : Row w c A) :
    CallsIn Fence.wide n Try.prog 43 #[.slice (some ⟨c, 0, none⟩) ns.length cap, .func (.func 31) #[] #[.pointer (some ⟨b, 0, none⟩)]] w (IdxPost B S g ns tq m c A w0) := by
  have HA := Aside0.mk ha
  have HWF := Aside0.mk hwf
  have HAA := Aside0.mk hA
  have HI := Aside0.mk h
  have HR := Aside0.mk hrow
  clear ha hwf hA h hrow
  refine callsIn_of_wp Try.func43 rfl trivial ?_ rfl
  simp only [Try.ntmps43, List.size_toArray, List.length_cons, List.length_nil, Nat.reduceAdd, Nat.reduceSub, Array.replicate_succ, Array.replicate_zero, List.push_toArray, List.append_toArray, List.nil_append, List.cons_append]
  gi_wp2
  gi_loopw [8] (fun v8 wr => ∃ j : Nat, j ≤ ns.length ∧ v8 = .int .i64 j ∧ (∀ x ∈ ns.take j, circ ns m x = true) ∧ Inv B S g ns tq m c w0 wr ∧ Row wr c A) (fun v8 _ => ns.length - (intOf v8).toNat)
  case atStart => exact ⟨0, Nat.zero_le _, rfl, fun x hx => by simp at hx, HI.out, HR.out⟩
  case round =>
    obtain ⟨j, hj, rfl, hall, hI, hR⟩ := hrel
    have HALL := Aside0.mk hall
    have HI := Aside0.mk hI
    have HR := Aside0.mk hR
    clear hall hI
    by_cases hlt : j < ns.length
    · have hc : wr.cell? ⟨c, j, none⟩ = some (.int .i64 (ns.getD j 0)) := by rw [Lib.cell_of_heap hR]; exact HAA.out j hlt
      have hcall := HI.out.call HA.out (n - 1) (by omega) (ns.getD j 0) (HWF.out _ (getD_mem hlt))
      have HT := Aside0.mk (take_succ_getD hlt)
      obtain ⟨y, HY⟩ : ∃ y, Aside0 (ns.getD j 0 = y) := ⟨_, ⟨rfl⟩⟩
      rw [HY.out] at hc hcall HT
      clear hR
      cases hd : circ ns m y
      · rw [hd] at hcall
        have HD := Aside0.mk hd
        have HCALL := Aside0.mk hcall
        clear hd hcall
        gi_wp2_with (refine ⟨trivial, fun _ => by omega, ?_⟩; refine HCALL.out.mono ?_; rintro e w' ⟨rfl, hI2, hr2⟩)
        go_ret
        exact ⟨hI2, hr2.trans HR.out, .inr ⟨j, hlt, rfl, HALL.out, by rw [HY.out]; exact HD.out⟩⟩
      · rw [hd] at hcall
        have HD := Aside0.mk hd
        have HCALL := Aside0.mk hcall
        clear hd hcall
        gi_wp2_with (refine ⟨trivial, fun _ => by omega, ?_⟩; refine HCALL.out.mono ?_; rintro e w' ⟨rfl, hI2, hr2⟩)
        go_roundw
        case rel => exact ⟨j + 1, by omega, by simp, by rw [HT.out]; intro x hx; rcases List.mem_append.1 hx with hx | hx; exact HALL.out x hx; (obtain rfl := List.mem_singleton.1 hx; exact HD.out), hI2, hr2.trans HR.out⟩
        case measure => simp [intOf]; omega
    · obtain rfl : j = ns.length := by omega
      clear hR
      gi_wp2
      go_ret
      exact ⟨HI.out, HR.out, .inl ⟨rfl, fun x hx => HALL.out x (by rw [List.take_length]; exact hx)⟩⟩

/-- What DeleteFunc leaves. -/
def DelPost (B : Nat) (S : Nat → Prop) (g : Nat) (ns : List Int) (tq : Nat → List Nat) (m : M) (c cap : Nat) (w0 : World) (e : Ending) (w' : World) : Prop :=
  e = .returned (.slice (some ⟨c, 0, none⟩) (ns.filter (circ ns m)).length cap) ∧ Inv B S g ns tq m c w0 w' ∧ ∃ A', Row w' c A' ∧ A'.size = cap ∧ A'.toList.take (ns.filter (circ ns m)).length = nums .i64 (ns.filter (circ ns m))
structure DelI (ns : List Int) (m : M) (cap i j : Nat) (A : Array Value) : Prop where
  ij : i < j
  jn : j ≤ ns.length
  sz : A.size = cap
  pre : A.toList.take i = nums .i64 ((ns.take j).filter (circ ns m))
  post : ∀ k, j ≤ k → k < ns.length → A[k]? = some (.int .i64 (ns.getD k 0))
theorem DelI.len {ns : List Int} {m : M} {cap i j : Nat} {A : Array Value} (h : DelI ns m cap i j A) (hc : ns.length ≤ cap) : i = ((ns.take j).filter (circ ns m)).length := by
  have h1 := congrArg List.length h.pre
  have h2 := h.sz
  have h3 := h.ij
  have h4 := h.jn
  simp [nums] at h1
  omega
theorem DelI.skip {ns : List Int} {m : M} {cap i j : Nat} {A : Array Value} {y : Int} (h : DelI ns m cap i j A) (hlt : j < ns.length) (hy : ns.getD j 0 = y) (hd : circ ns m y = false) : DelI ns m cap i (j + 1) A :=
  ⟨by have := h.ij; omega, hlt, h.sz, by rw [take_succ_getD hlt, List.filter_append, hy]; simp [hd, h.pre], fun k h1 h2 => h.post k (by omega) h2⟩
theorem DelI.take {ns : List Int} {m : M} {cap i j : Nat} {A : Array Value} {y : Int} (h : DelI ns m cap i j A) (hc : ns.length ≤ cap) (hlt : j < ns.length) (hy : ns.getD j 0 = y) (hd : circ ns m y = true) : DelI ns m cap (i + 1) (j + 1) (A.setIfInBounds i (.int .i64 y)) :=
  ⟨by have := h.ij; omega, hlt, by simp [h.sz], by
    have hi : i < A.size := by have := h.ij; have := h.sz; omega
    rw [take_succ_getD hlt, List.filter_append, hy, Array.toList_setIfInBounds, List.take_add_one, List.take_set_of_le (Nat.le_refl _), h.pre]
    simp [hd, hi, nums], fun k h1 h2 => by
    rw [Array.getElem?_setIfInBounds_ne (by have := h.ij; omega)]
    exact h.post k (by omega) h2⟩
set_option maxRecDepth 100000 in
set_option maxHeartbeats 4000000 in
theorem delete_any (n : Nat) (hn : 16 ≤ n) (B : Nat) (S : Nat → Prop) (g : Nat) (ns : List Int) (tq : Nat → List Nat) (m : M) (b c cap : Nat) (A : Array Value) (w0 : World) (hns : ns.length ≤ 1000) (hcap : ns.length ≤ cap) (hsz : A.size = cap) (hwf : ∀ x ∈ ns, (Lit.int .i64 x).wf = true) (ha : At B S g b c w0) (h : Inv B S g ns tq m c w0 w0) (hA : ∀ k, k < ns.length → A[k]? = some (.int .i64 (ns.getD k 0))) (hrow : Row w0 c A) :
    CallsIn Fence.wide n Try.prog 29 #[.slice (some ⟨c, 0, none⟩) ns.length cap, .func (.func 31) #[] #[.pointer (some ⟨b, 0, none⟩)]] w0 (DelPost B S g ns tq m c cap w0) := by
  have HX := Aside0.mk (index_any (n - 1) (by omega) B S g ns tq m b c cap A w0 w0 hns hwf ha h hA hrow)
  have HA := Aside0.mk ha
  have HWF := Aside0.mk hwf
  have HAA := Aside0.mk hA
  clear ha hwf hA h hrow
  refine callsIn_of_wp Try.func29 rfl trivial ?_ rfl
  simp only [Try.ntmps29, List.size_toArray, List.length_cons, List.length_nil, Nat.reduceAdd, Nat.reduceSub, Array.replicate_succ, Array.replicate_zero, List.push_toArray, List.append_toArray, List.nil_append, List.cons_append]
  gi_wp2_with fail
  refine ⟨trivial, fun _ => by omega, ?_⟩
  gi_at_call 43
  refine HX.out.mono ?_
  rintro e w1 ⟨hI1, hR1, (⟨rfl, hall⟩ | ⟨i, hi, rfl, hpre, hno⟩)⟩
  · have HALL := Aside0.mk hall
    have HI1 := Aside0.mk hI1
    have HR1 := Aside0.mk hR1
    clear hall hI1 hR1
    gi_wp2
    go_ret
    have hf : ns.filter (circ ns m) = ns := List.filter_eq_self.2 HALL.out
    refine ⟨by rw [hf]; rfl, HI1.out, A, HR1.out, hsz, ?_⟩
    rw [hf]
    apply List.ext_getElem?
    intro k
    rw [List.getElem?_take]
    by_cases hk : k < ns.length
    · rw [if_pos hk, Array.getElem?_toList, HAA.out k hk]; simp [nums, hk]
    · rw [if_neg hk]; simp [nums, hk]; try omega
  · have hne : ((i : Int) == -1) = false := by simp
    have HI1 := Aside0.mk hI1
    have HR1 := Aside0.mk hR1
    have hD : DelI ns m cap i (i + 1) A := ⟨by omega, by omega, hsz, by
      rw [take_succ_getD hi, List.filter_append, List.filter_eq_self.2 hpre]
      simp only [List.filter_cons, hno, List.filter_nil]
      apply List.ext_getElem?
      intro k
      rw [List.getElem?_take]
      by_cases hk : k < i
      · rw [if_pos hk, Array.getElem?_toList, HAA.out k (by omega)]; simp [nums, hk, List.getElem?_take, show k < ns.length by omega]
      · rw [if_neg hk]; simp [nums, hk, List.getElem?_take]; try omega, fun k h1 h2 => HAA.out k h2⟩
    have HD := Aside0.mk hD
    clear hI1 hR1 hpre hno hD
    gi_wp2
    gi_loopw [5, 6] (fun v5 v6 wr => ∃ (i j : Nat) (A : Array Value), v5 = .int .i64 i ∧ v6 = .int .i64 j ∧ DelI ns m cap i j A ∧ Inv B S g ns tq m c w0 wr ∧ Row wr c A) (fun _ v6 _ => ns.length - (intOf v6).toNat)
    case atStart => exact ⟨i, i + 1, A, rfl, by simp, HD.out, HI1.out, HR1.out⟩
    case round =>
      obtain ⟨i, j, A, rfl, rfl, hD, hI, hR⟩ := hrel
      have HD := Aside0.mk hD
      have HI := Aside0.mk hI
      have HR := Aside0.mk hR
      have hij := hD.ij
      have hjn := hD.jn
      have hszA := hD.sz
      clear hD hI
      by_cases hlt : j < ns.length
      · have hc : wr.cell? ⟨c, j, none⟩ = some (.int .i64 (ns.getD j 0)) := by rw [Lib.cell_of_heap hR]; exact HD.out.post j (Nat.le_refl _) hlt
        have hcall := HI.out.call HA.out (n - 1) (by omega) (ns.getD j 0) (HWF.out _ (getD_mem hlt))
        obtain ⟨y, HY⟩ : ∃ y, Aside0 (ns.getD j 0 = y) := ⟨_, ⟨rfl⟩⟩
        rw [HY.out] at hc hcall
        clear hR
        cases hd : circ ns m y
        · rw [hd] at hcall
          have HDD := Aside0.mk hd
          have HCALL := Aside0.mk hcall
          clear hd hcall
          gi_wp2_with (refine ⟨trivial, fun _ => by omega, ?_⟩; refine HCALL.out.mono ?_; rintro e w' ⟨rfl, hI2, hr2⟩)
          go_roundw
          case rel => exact ⟨i, j + 1, A, rfl, by simp, HD.out.skip hlt HY.out HDD.out, hI2, hr2.trans HR.out⟩
          case measure => simp [intOf]; omega
        · rw [hd] at hcall
          have HDD := Aside0.mk hd
          have HCALL := Aside0.mk hcall
          clear hd hcall
          gi_wp2_with fail
          refine ⟨trivial, fun _ => by omega, ?_⟩
          refine HCALL.out.mono ?_
          rintro e w' ⟨rfl, hI2, hr2⟩
          have hrow2 : Row w' c A := hr2.trans HR.out
          obtain ⟨u0, c2⟩ : ∃ u0, w'.cell? ⟨c, i, none⟩ = some u0 := ⟨A[i]'(by omega), by rw [Lib.cell_of_heap hrow2]; exact Array.getElem?_eq_getElem _⟩
          have f2 : w'.frozen? ⟨c, i, none⟩ = false := by simp [World.frozen?, show w'.heap[c]? = _ from hrow2]
          have HI2 := Aside0.mk hI2
          have HR2 := Aside0.mk hrow2
          clear hI2 hr2 hrow2
          gi_wp2
          go_roundw
          case rel => exact ⟨i + 1, j + 1, _, by simp, by simp, HD.out.take hcap hlt HY.out HDD.out, HI2.out.set HA.out i _, blk_set HR2.out i _⟩
          case measure => simp [intOf]; omega
      · obtain rfl : j = ns.length := by omega
        have hcl : ∀ ty, (Builtin.clear_ #[22] ty #[.slice (some ⟨c, i, none⟩) (ns.length - i) (cap - i)]).run Try.prog wr = .ok (.tuple #[]) (wr.setCells c i (List.replicate (ns.length - i) (.int .i64 0))) := fun ty =>
          Lib.run_clear_slice wr 22 3 ty (.int .i64 0) Try.underlying22 Try.zeroValue3 rfl rfl c i _ _ (by omega) (fun k hk => by rw [Lib.cell_of_heap hR]; simp; omega) (fun k hk => by simp [World.frozen?, show wr.heap[c]? = _ from hR])
        clear hR
        gi_wp2_with (simp only [hcl])
        go_ret
        have hii : i = (ns.filter (circ ns m)).length := by have := HD.out.len hcap; rwa [List.take_length] at this
        obtain ⟨A', h1, h2, h3⟩ := setCells_block c (List.replicate (ns.length - i) (.int .i64 0)) i wr A 3 HR.out
        refine ⟨by rw [← hii]; rfl, HI.out.other HA.out (setCells_below B c HA.out.c1 _ _ _ _ (Below.refl B wr)) (fun k hk => setCells_other c _ _ _ k hk), A', h1, h2.trans hszA, ?_⟩
        rw [← hii]
        have hp := HD.out.pre
        rw [List.take_length] at hp
        rw [← hp]
        apply List.ext_getElem?
        intro k
        rw [List.getElem?_take, List.getElem?_take]
        by_cases hk : k < i
        · rw [if_pos hk, if_pos hk, Array.getElem?_toList, Array.getElem?_toList, h3 k hk]
        · rw [if_neg hk, if_neg hk]

theorem index_nil (n : Nat) (f : Value) (w : World) : CallsIn Fence.wide n Try.prog 43 #[.slice none 0 0, f] w fun e w' => e = .returned (.int .i64 (-1)) ∧ w' = w := by
  refine callsIn_of_wp Try.func43 rfl trivial ?_ rfl
  simp only [Try.ntmps43, List.size_toArray, List.length_cons, List.length_nil, Nat.reduceAdd, Nat.reduceSub, Array.replicate_succ, Array.replicate_zero, List.push_toArray, List.append_toArray, List.nil_append, List.cons_append]
  gi_wp2
  gi_loopw [8] (fun v8 wr => v8 = .int .i64 0 ∧ wr = w) (fun _ _ => 0)
  case atStart => exact ⟨rfl, rfl⟩
  case round =>
    obtain ⟨rfl, rfl⟩ := hrel
    gi_wp2
    go_ret
    exact ⟨rfl, rfl⟩
theorem delete_nil (n : Nat) (hn : 2 ≤ n) (f : Fn × Array Value) (w : World) : CallsIn Fence.wide n Try.prog 29 #[.slice none 0 0, .func f.1 #[] f.2] w fun e w' => e = .returned (.slice none 0 0) ∧ w' = w := by
  refine callsIn_of_wp Try.func29 rfl trivial ?_ rfl
  simp only [Try.ntmps29, List.size_toArray, List.length_cons, List.length_nil, Nat.reduceAdd, Nat.reduceSub, Array.replicate_succ, Array.replicate_zero, List.push_toArray, List.append_toArray, List.nil_append, List.cons_append]
  gi_wp2_with (refine ⟨trivial, fun _ => by omega, ?_⟩; gi_at_call 43; refine (index_nil _ _ w).mono ?_; rintro e w' ⟨rfl, rfl⟩)
  go_ret
  exact ⟨rfl, rfl⟩
/-- Circles' answer. -/
def circsOf (ns : List Int) (m : M) : List Int := ns.filter (circ ns m)
def CirclesPost (B : Nat) (S : Nat → Prop) (g : Nat) (ns : List Int) (tq : Nat → List Nat) (m : M) (w : World) (v : Value) (w' : World) : Prop := ∃ S' sv', (∀ k, S' k → S k ∨ w.heap.size ≤ k) ∧ Sol ns tq sv' m ∧ G B S' g ns tq sv' w' ∧ Ch B S w w' ∧ w'.ownsRow w.heap.size 3 1 v (circsOf ns m).length (nums .i64 (circsOf ns m)) ∧ ∀ k, v.ownBlock = some k → ¬ S' k
/-- Clone. -/
theorem clone_any (n : Nat) (hn : 2 ≤ n) (v : Value) (base : Nat) (ns : List Int) (w : World) (hns : ns.length ≤ 1000) (h : w.ownsRow base 3 1 v ns.length (nums .i64 ns)) :
    CallsIn Fence.wide n Try.prog 30 #[v] w fun e w' => ∃ v', e = .returned v' ∧ w'.ownsRow w.heap.size 3 1 v' ns.length (nums .i64 ns) ∧ Below w.heap.size w w' := by
  obtain ⟨i0, hi0, hiz, hi1, hi2⟩ := info_parts infoInt
  refine callsIn_of_wp Try.func30 rfl trivial ?_ rfl
  simp only [Try.ntmps30, List.size_toArray, List.length_cons, List.length_nil, Nat.reduceAdd, Nat.reduceSub, Array.replicate_succ, Array.replicate_zero, List.push_toArray, List.append_toArray, List.nil_append, List.cons_append]
  rcases h with ⟨hl, (⟨rfl, h0⟩ | ⟨g, cap, cur, rfl, hb, hh, r1, r2, r3, r4⟩)⟩
  · have heq := Lib.run_eql_slice_nil (P := Try.prog) w 22 3 none 0 0 0 0 Try.underlying22
    obtain rfl : ns = [] := List.length_eq_zero_iff.1 h0
    gi_wp2
    go_ret
    exact ⟨_, rfl, ⟨rfl, .inl ⟨rfl, rfl⟩⟩, Below.refl _ _⟩
  · have heq := Lib.run_eql_slice_nil (P := Try.prog) w 22 3 (some ⟨g, 0, none⟩) ns.length cap 0 0 Try.underlying22
    have hown0 : (w.alloc (.cells #[] 3)).ownsRow w.heap.size 3 1 (.slice (some ⟨w.heap.size, 0, none⟩) 0 0) 0 [] :=
      ⟨rfl, .inr ⟨w.heap.size, 0, #[], rfl, Nat.le_refl _, World.alloc_heap_new w _, Nat.le_refl _, by unfold maxLen; omega, rfl, rfl⟩⟩
    have hlt : g < w.heap.size := (Array.getElem?_eq_some_iff.1 hh).1
    have hcells : ∀ j u, (nums .i64 ns)[j]? = some u → (w.alloc (.cells #[] 3)).cell? ((⟨g, 0, none⟩ : Addr).add j) = some u := by
      intro j u hu
      have hj : j < ns.length := by have := (List.getElem?_eq_some_iff.1 hu).1; simpa [nums] using this
      rw [show (⟨g, 0, none⟩ : Addr).add j = ⟨g, j, none⟩ by simp [Addr.add]; omega, World.cell?_of_block (Below.heap_alloc w _ g hlt), Lib.cell_of_heap hh]
      have := congrArg (fun l => l[j]?) r4
      simp only [List.getElem?_take] at this
      rw [if_pos (by omega)] at this
      rw [← Array.getElem?_toList, this]; exact hu
    have HO := Aside0.mk hown0
    have HCE := Aside0.mk hcells
    have HL := Aside0.mk hl
    clear hown0 hcells hl r1 r2 r3 r4
    gi_wp2_with (gi_at_builtin; refine wpListIn_append_own _ rfl _ _ 22 rfl w.heap.size 3 i0 (.int .i64 0) 1 8 Try.underlying22 hi0 hiz hi1 hi2 rfl (by decide) _ 0 [] rfl HO.out ⟨g, 0, none⟩ ns.length cap (nums .i64 ns) rfl (by simp [nums]) HCE.out (by intro u hu; obtain ⟨x, _, rfl⟩ := List.mem_map.1 hu; rfl) (by unfold maxLen; omega) (by omega) (by simp) ?_; intro v' w3 hown' hgrow hnil; obtain ⟨A', c', e'⟩ := own_slice hown'; subst e'; have HOWN := Aside0.mk hown'; have HGROW := Aside0.mk hgrow; clear hown' hgrow hnil)
    go_ret
    refine ⟨_, rfl, by have := HOWN.out; rwa [Nat.zero_add, List.nil_append] at this, ((Below.refl w.heap.size w).alloc (Nat.le_refl _) _).grown HGROW.out (by simp) (fun k e => by have : some w.heap.size = some k := e; injection this with this; omega)⟩

set_option maxRecDepth 100000 in
set_option maxHeartbeats 4000000 in
theorem circles_any (B : Nat) (S : Nat → Prop) (g : Nat) (ns : List Int) (tq : Nat → List Nat) (sv : Option M) (m : M) (w : World) (hwf : ∀ x ∈ ns, (Lit.int .i64 x).wf = true) (hB : B ≤ w.heap.size) (h : G B S g ns tq sv w) (hs : Sol ns tq sv m) :
    Calls Try.prog 14 #[.pointer (some ⟨g, 0, none⟩)] w fun e w' => ∃ v, e = .returned v ∧ CirclesPost B S g ns tq m w v w' := by
  refine (callsIn_wide (n := 20)).1 ?_
  have hsB := h.sB
  obtain ⟨w1, hw1⟩ : ∃ w1, w.alloc (.cells #[.pointer (some ⟨g, 0, none⟩)] 25) = w1 := ⟨_, rfl⟩
  have hz1 : w1.heap.size = w.heap.size + 1 := by rw [← hw1]; simp
  have hold : ∀ k, k < w.heap.size → w1.heap[k]? = w.heap[k]? := fun k hk => by rw [← hw1]; exact Below.heap_alloc _ _ k hk
  have hbx : Boxed w1 w.heap.size 25 (.pointer (some ⟨g, 0, none⟩)) := by rw [← hw1]; exact Boxed.new w _ _
  have hCh1 : Ch B S w w1 := by rw [← hw1]; exact (Ch.refl B S w).alloc hB _
  have hG := h.heap (w' := w1) (by omega) (fun k hk => hold k (hsB k hk).2)
  obtain ⟨vn, bm, bt, vs, vts, hP⟩ := hG
  have c0 : w1.cell? ⟨g, 0, none⟩ = some vn := by rw [Lib.cell_of_heap hP.hg]; rfl
  have cb := hbx.cell
  have hN := hP.hN
  have HG := Aside0.mk (show G B S g ns tq sv w1 from ⟨vn, bm, bt, vs, vts, hP⟩)
  have HN := Aside0.mk hP.hn
  have HB := Aside0.mk hsB
  have HBX := Aside0.mk hbx
  have HC1 := Aside0.mk hCh1
  have HWF := Aside0.mk hwf
  obtain ⟨An, cn, rfl⟩ := own_slice hP.hn
  clear hsB hbx hCh1 hP hold h hwf
  refine callsIn_of_wp Try.func14 rfl trivial ?_ rfl
  simp only [Try.ntmps14, List.size_toArray, List.length_cons, List.length_nil, Nat.reduceAdd, Nat.reduceSub, Array.replicate_succ, Array.replicate_zero, List.push_toArray, List.append_toArray, List.nil_append, List.cons_append]
  gi_wp2_with fail
  refine ⟨trivial, ?_⟩
  gi_at_call 30
  refine (clone_any _ (by omega) _ _ ns w1 hN HN.out).mono ?_
  rintro e w2 ⟨v', rfl, hown, hbl⟩
  have hzb := hbl.size
  have HBL := Aside0.mk hbl
  have hG2 := HG.out.heap (w' := w2) hzb (fun k hk => hbl.block k (HG.out.sB k hk).2)
  have hC2 : Ch B S w w2 := HC1.out.trans (S' := fun _ => False) ⟨hbl.mono (by omega), fun k h1 _ => hbl.block k h1⟩ (fun _ h => h.elim)
  have cb2 : w2.cell? ⟨w.heap.size, 0, none⟩ = some (.pointer (some ⟨g, 0, none⟩)) := (World.cell?_of_block (hbl.block _ (by show w.heap.size < _; omega))).trans cb
  have HG2 := Aside0.mk hG2
  have HC2 := Aside0.mk hC2
  have HS := Aside0.mk hs
  clear hbl hG2 hC2 hs cb
  rcases hown with ⟨hl, (⟨rfl, h0⟩ | ⟨c, cap, cur, rfl, hb, hh, r1, r2, r3, r4⟩)⟩
  · obtain rfl : ns = [] := List.length_eq_zero_iff.1 h0
    gi_wp2_with (refine ⟨trivial, ?_⟩; gi_at_call 29; refine (delete_nil _ (by omega) (.func 31, #[.pointer (some ⟨w.heap.size, 0, none⟩)]) w2).mono ?_; rintro e w' ⟨rfl, rfl⟩)
    go_ret
    exact ⟨_, rfl, S, sv, fun k hk => .inl hk, HS.out, HG2.out, HC2.out, ⟨rfl, .inl ⟨rfl, rfl⟩⟩, fun k e => by simp [Value.ownBlock] at e⟩
  · have hclt : c < w2.heap.size := (Array.getElem?_eq_some_iff.1 hh).1
    have hAt : At B S g w.heap.size c w2 := ⟨by omega, fun k hk => by have := (HB.out k hk).2; omega, cb2, fun e => by have := (HB.out _ e).2; omega, by omega, by omega, hclt, fun e => by have := (HB.out _ e).2; omega⟩
    have hrd : ∀ k, k < ns.length → cur[k]? = some (.int .i64 (ns.getD k 0)) := fun k hk => by
      have := congrArg (fun l => l[k]?) r4
      simp only [List.getElem?_take] at this
      rw [if_pos (by omega), Array.getElem?_toList] at this
      rw [this]; simp [nums, hk]
    have hdel := delete_any 19 (by omega) B S g ns tq m w.heap.size c cap cur w2 hN r1 (by omega) HWF.out hAt ⟨S, sv, fun k hk => .inl hk, HS.out, HG2.out, Ch.refl _ _ _⟩ hrd hh
    have HD := Aside0.mk hdel
    clear hdel hAt hrd hh r3 r4 hl
    gi_wp2_with (refine ⟨trivial, ?_⟩; gi_at_call 29; refine HD.out.mono ?_; rintro e w' ⟨rfl, ⟨S', sv', i1, i2, i3, i4⟩, A', j1, j2, j3⟩)
    go_ret
    have hfl : (ns.filter (circ ns m)).length ≤ ns.length := List.length_filter_le _ _
    refine ⟨_, rfl, S', sv', fun k hk => (i1 k hk).elim .inl (fun h => .inr (by omega)), i2, i3, HC2.out.trans i4 (fun k hk => hk.elim .inl (fun e => .inr (by omega))), ⟨by simp [nums, circsOf], .inr ⟨c, cap, A', rfl, by omega, j1, by unfold circsOf; omega, r2, by omega, by rw [Nat.mul_one]; exact j3⟩⟩, fun k e hk => ?_⟩
    have e' : some c = some k := e
    injection e' with e'
    subst e'
    exact (i1 _ hk).elim (fun h => by have := (HB.out _ h).2; omega) (fun h => by omega)
end Go.Proofs.Ytiljegeodokfmaa.Fx
