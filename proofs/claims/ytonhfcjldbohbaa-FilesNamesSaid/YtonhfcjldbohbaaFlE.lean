/- files, fifth part: the iterator. -/
import Derived.Test.YtonhfcjldbohbaaFlD
import Derived.Test.YtonhfcjldbohbaaLay
import Derived.Test.YtonhfcjldbohbaaRng
import Derived.RegionIn
namespace Go.Proofs
open Go.RowKit Go.Maps Go.Sort Go.Shelf
/-- slices.Sort's two contracts at this dump, at the fence that asks nothing. -/
theorem Try.sortsF (m : Nat) : AnyZ.SortsIn Try.prog Try.sortedF_ren Fence.wide m :=
  ⟨fun blk off cap ss W hH hblk hsz => callsIn_wide.2 (AnyM.slices_Sort_string Try.sortF blk off cap ss W hH hblk hsz),
   fun p cap W => callsIn_wide.2 (AnyM.slices_Sort_string_none Try.sortF p cap W)⟩
theorem Try.maps_KeysF (mb : Option Nat) (W : World) : CallsIn Fence.wide 5 Try.prog 43 #[.map mb] W fun e w' => e = .returned (.func (.func 49) #[] #[.pointer (some ⟨W.heap.size, 0, none⟩)]) ∧ w' = W.alloc (.cells #[.map mb] 60) :=
  AnyZ.keys_in Try.keysF Fence.wide 5 trivial rfl mb W
set_option maxHeartbeats 1000000 in
theorem Try.slices_SortedF {H : Type} (b nn : Nat) (D0 : DataW H) (R : Value → Option (DataW H × List MemPlace)) (w : World) (hown : w.ownsMap Try.prog 9 R b nn D0) (hmax : Maps.size D0 ≤ maxLen) (hbytes : Maps.size D0 * 16 ≤ 140737488355328) :
    CallsIn Fence.wide 5 Try.prog 42 #[.func (.func 49) #[] #[.pointer (some ⟨w.heap.size, 0, none⟩)]] (w.alloc (.cells #[.map (some b)] 60)) fun e w' => ∃ (v : Value) (ss : List (List UInt8)), e = .returned v ∧ ss.Perm (strKeys D0) ∧
      w'.ownsRow (w.alloc (.cells #[.map (some b)] 60)).heap.size 9 1 v ss.length ((ss.mergeSort (fun x y => decide (x ≤ y))).map encStr) ∧ (v = .slice none 0 0 ↔ ss = []) ∧ Below (w.alloc (.cells #[.map (some b)] 60)).heap.size (w.alloc (.cells #[.map (some b)] 60)) w' := by
  have hbl := hown.lt
  have hseq : SeqGives Fence.wide 2 Try.prog 49 #[.pointer (some ⟨w.heap.size, 0, none⟩)] encStr (fun ss => ss.Perm (strKeys D0)) (Maps.size D0) (w.alloc (.cells #[.map (some b)] 60)) :=
    AnyZ.keys_gives (ρ := Try.keysF_ren) { Try.keysF with } Fence.wide _ trivial rfl (by omega) w.heap.size b nn D0 _ (by simp) (by simp) (by
      obtain ⟨es, clock, hb, Ft, hs, hD⟩ := hown
      exact ⟨es, clock, (Below.heap_alloc _ _ b hbl).trans hb, Ft, hs, hD⟩)
  exact AnyZ.sorted_in Try.sortedF Fence.wide 5 trivial trivial trivial trivial rfl (by omega) (Try.sortsF _) (enters_of Try.func28 (by kernel_rfl) rfl) 49 #[.pointer (some ⟨w.heap.size, 0, none⟩)] trivial (enters_of Try.func49 (by kernel_rfl) rfl) _ _ hmax hbytes _ hseq
end Go.Proofs
namespace Go.Proofs.Ytonhfcjldbohbaa.Fi
open Go Go.RowKit Go.ChangeMaps Go.MapKept Go.Proofs.Ytonhfcjldbohbaa.PA Go.Proofs.YtonhfcjldbohbaaW.PrintWords Go.Proofs.YtonhfcjldbohbaaW.PrintLast Go.Proofs.YtonhfcjldbohbaaW.PrintMore Go.Proofs.Ytonhfcjldbohbaa.Rg
attribute [local go_sem] Oper.semAt_some
set_option linter.unusedVariables false
set_option linter.unusedSimpArgs false

/-- A row stays where its block does. -/
theorem own_heap {w w' : World} {base : Nat} {e : TypeId} {size n : Nat} {v : Value} {xs : List Value} (h : w.ownsRow base e size v n xs) (hk : ∀ k, v.ownBlock = some k → w'.heap[k]? = w.heap[k]?) : w'.ownsRow base e size v n xs := by
  refine ⟨h.1, ?_⟩
  rcases h.2 with h2 | ⟨g, cap, cur, rfl, hb, hh, r⟩
  · exact .inl h2
  · exact .inr ⟨g, cap, cur, rfl, hb, (hk g rfl).trans hh, r⟩
/-- What stood stands, but for C. -/
def Keep (C : Nat → Prop) (W1 W2 : World) : Prop := W1.heap.size ≤ W2.heap.size ∧ ∀ k, k < W1.heap.size → ¬ C k → W2.heap[k]? = W1.heap[k]?
theorem Keep.refl (C : Nat → Prop) (W : World) : Keep C W W := ⟨Nat.le_refl _, fun _ _ _ => rfl⟩
/-- What stood stands. -/
def Old (w W : World) : Prop := Keep (fun _ => False) w W
theorem Old.refl (w : World) : Old w w := Keep.refl _ w
theorem Old.alloc {w W : World} (h : Old w W) (o : Obj) : Old w (W.alloc o) :=
  ⟨by have := h.1; simp; omega, fun k hk hc => (Below.heap_alloc W o k (Nat.lt_of_lt_of_le hk h.1)).trans (h.2 k hk hc)⟩
/-- The files that are there. -/
def allF (T : Tb) : List Fl := T.l.filter here
/-- An iterator's closure that gives ys. -/
def Src (N : Nat → Prop) (w : World) (lb : Array Value) (ys : List Fl) : Prop :=
  ∀ (n : Nat), 3 ≤ n → ∀ (W : World), Old w W → ∀ (l : Nat) (C : Nat → Prop), (∀ k, C k → k < W.heap.size ∧ ¬ N k) → ∀ (I Ix : World → List Fl → World → Prop),
    (∀ W1, Below W.heap.size W W1 → I W1 [] W1) →
    (∀ W1 pre y W2, Below W.heap.size W W1 → I W1 pre W2 → Keep C W1 W2 → pre.length < 64 → y ∈ ys → YieldAt Fence.wide (n - 1) Try.prog l #[vF y] W2 fun e W' => (e = .returned (.bool true) ∧ I W1 (pre ++ [y]) W' ∧ Keep C W1 W') ∨ (e = .returned (.bool false) ∧ Ix W1 (pre ++ [y]) W' ∧ Keep C W1 W')) →
    CallsIn Fence.wide n Try.prog 41 (#[.func (.yield l) #[] #[]] ++ lb) W fun e W' => (∃ v, e = .returned v) ∧ ∃ W1, Below W.heap.size W W1 ∧ Keep C W1 W' ∧ (I W1 ys W' ∨ ∃ pre, pre <+: ys ∧ Ix W1 pre W')

theorem files_nil_src (w : World) : Src (fun k => k = w.heap.size) (w.alloc (.cells #[.pointer none] 23)) #[.pointer (some ⟨w.heap.size, 0, none⟩)] [] := by
  intro n hn W hW l C hC I Ix hI hY
  have c0 : W.cell? ⟨w.heap.size, 0, none⟩ = some (.pointer none) := by
    rw [World.cell?_of_block (hW.2 w.heap.size (by simp) (fun h => h))]
    exact (Boxed.new w _ _).cell
  have HI := Aside0.mk (hI W (Below.refl _ _))
  clear hI hY
  refine callsIn_of_wp Try.func41 rfl trivial ?_ rfl
  simp only [Try.ntmps41, List.size_toArray, List.length_cons, List.length_nil, Nat.reduceAdd, Nat.reduceSub, Array.replicate_succ, Array.replicate_zero, List.push_toArray, List.append_toArray, List.nil_append, List.cons_append]
  gi_wp2
  refine bodyPost_ret (results_none rfl _ _ _) rfl ?_
  exact ⟨⟨_, rfl⟩, W, Below.refl _ _, Keep.refl _ _, .inl HI.out⟩
set_option maxHeartbeats 4000000 in
set_option maxRecDepth 100000 in
theorem files_src {B : Nat} {S : Nat → Prop} {t : Nat} {T : Tb} {w : World} (h : TB B S t T w) : Src (fun k => S k ∨ k = w.heap.size) (w.alloc (.cells #[.pointer (some ⟨t, 0, none⟩)] 23)) #[.pointer (some ⟨w.heap.size, 0, none⟩)] (allF T) := by
  obtain ⟨bm, bd, h⟩ := h
  intro n hn W hW l C hC I Ix hI hY
  have hzW : w.heap.size < W.heap.size := by have := hW.1; simp at this; omega
  have hold : ∀ k, k < w.heap.size → W.heap[k]? = w.heap[k]? := fun k hk => (hW.2 k (by simp; omega) (fun h => h)).trans (Below.heap_alloc _ _ k hk)
  have hT : TS B S t bm bd T W := h.heap (by omega) (fun k hk => hold k (h.sB k hk).2)
  have c0 : W.cell? ⟨w.heap.size, 0, none⟩ = some (.pointer (some ⟨t, 0, none⟩)) := by
    rw [World.cell?_of_block (hW.2 w.heap.size (by simp) (fun h => h))]
    exact (Boxed.new w _ _).cell
  have HSB := Aside0.mk (fun k hk => (h.sB k hk).2 : ∀ k, S k → k < w.heap.size)
  obtain ⟨Bt, hBt⟩ : ∃ Bt, w.heap.size = Bt := ⟨_, rfl⟩
  rw [hBt] at c0 hzW HSB hC ⊢
  have hc1 : W.cell? ⟨t, 2, none⟩ = some (.map (some bm)) := by rw [Lib.cell_of_heap hT.ht]; rfl
  obtain ⟨D, nn, hown, hx⟩ := hT.hm
  have hsz := MapV.size hT.ok.sorted hown hx
  have hcnt := hT.ok.cnt
  have hkeys : (names here T.l).Perm (strKeys D) := keys_perm hown (names_nodup hT.ok.sorted) (fun k => by rw [MapV.has hx k, mem_names hT.ok.sorted])
  have hC' : ∀ k, C k → k < W.heap.size ∧ ¬ S k ∧ k ≠ Bt := fun k hk => ⟨(hC k hk).1, fun e => (hC k hk).2 (.inl e), fun e => (hC k hk).2 (.inr e)⟩
  have HC := Aside0.mk hC'
  have C0 := Aside0.mk c0
  have HY := Aside0.mk hY
  have HI := Aside0.mk hI
  have HT := Aside0.mk hT
  have HK := Aside0.mk hkeys
  have HX := Aside0.mk hx
  have HSZ := Aside0.mk hsz
  have hmax : Maps.size D ≤ maxLen := by rw [hsz]; unfold maxLen; omega
  have hbytes : Maps.size D * 16 ≤ 140737488355328 := by rw [hsz]; omega
  have hBS : ¬ S Bt := fun e => by have := HSB.out Bt e; omega
  clear h hC hC' hY hI hT hkeys hx hsz hold hW hBt
  refine callsIn_of_wp Try.func41 rfl trivial ?_ rfl
  simp only [Try.ntmps41, List.size_toArray, List.length_cons, List.length_nil, Nat.reduceAdd, Nat.reduceSub, Array.replicate_succ, Array.replicate_zero, List.push_toArray, List.append_toArray, List.nil_append, List.cons_append]
  gi_wp2_with (first
    | (refine ⟨trivial, fun _ => by omega, ?_⟩; gi_at_call 43; refine (callsIn_wide.2 (callsIn_wide.1 (Try.maps_KeysF _ _))).mono ?_; rintro e w' ⟨rfl, rfl⟩)
    | (refine ⟨trivial, fun _ => by omega, ?_⟩; gi_at_call 42; refine (callsIn_wide.2 (callsIn_wide.1 (Try.slices_SortedF bm nn D elemF W hown hmax hbytes))).mono ?_; rintro e w' ⟨v, ss, rfl, hS, hrow, hnil, hb⟩; obtain ⟨A, c, e'⟩ := own_slice hrow; subst e'))
  have hzw : (W.alloc (.cells #[.map (some bm)] 60)).heap.size = W.heap.size + 1 := by simp
  have hB1 : Below W.heap.size W w' := ((Below.refl W.heap.size W).alloc (Nat.le_refl _) _).trans (hb.mono (by omega))
  have hmg : (ss.mergeSort (fun x y => decide (x ≤ y))) = names here T.l := names_merge HT.out.ok.sorted (hS.trans HK.out.symm)
  rw [hmg] at hrow
  have hlen : ss.length = (allF T).length := by rw [(hS.trans HK.out.symm).length_eq]; simp [names, allF]
  rw [hlen] at hrow ⊢
  have HROW := Aside0.mk hrow
  have hrd : ∀ j : Nat, j < (allF T).length → rdOf ([] : List UInt8) (names here T.l) (j : Int) = nmL ((allF T).getD j ⟨nil0, nil0, 0, 0, false⟩) := fun j hj => by
    simp only [rdOf, names, Int.toNat_natCast, List.getD_eq_getElem?_getD, List.getElem?_map]
    rw [List.getElem?_eq_getElem (show j < (List.filter here T.l).length from hj), List.getElem?_eq_getElem hj]; rfl
  have HB1 := Aside0.mk hB1
  have HR2 := Aside0.mk hrd
  have hii := HI.out w' hB1
  have HII := Aside0.mk hii
  have hzz := hB1.size
  have hln : (allF T).length ≤ 64 := hcnt
  have hlt2 : decide ((allF T).length ≤ 9223372036854775807) = true := decide_eq_true (by omega)
  clear hS hrow hnil hb hzw hB1 hmg hlen hrd hii HK HX HSZ hown hmax hbytes hcnt hc1 c0 hlt2
  generalize w' = Wd at HB1 HROW HII hzz ⊢
  gi_loopw [14] (fun v14 wr => ∃ j : Nat, j ≤ (allF T).length ∧ v14 = .int .i64 j ∧ I Wd ((allF T).take j) wr ∧ Keep C Wd wr) (fun v14 _ => (allF T).length - (intOf v14).toNat)
  case atStart => exact ⟨0, Nat.zero_le _, rfl, HII.out, Keep.refl _ _⟩
  case round =>
    obtain ⟨j, hj, rfl, hIj, hK⟩ := hrel
    by_cases hlt : j < (allF T).length
    · have hfix : ∀ k, k < W.heap.size → ¬ C k → wr.heap[k]? = W.heap[k]? := fun k h1 h2 => (hK.2 k (by omega) h2).trans (HB1.out.block k h1)
      have hTr : TS B S t bm bd T wr := HT.out.heap (by have := hK.1; omega) (fun k hk => hfix k (by have := HSB.out k hk; omega) (fun e => (HC.out k e).2.1 hk))
      have c0 : wr.cell? ⟨Bt, 0, none⟩ = some (.pointer (some ⟨t, 0, none⟩)) := (World.cell?_of_block (hfix Bt hzW (fun e => (HC.out Bt e).2.2 rfl))).trans C0.out
      have c2 : wr.cell? ⟨t, 2, none⟩ = some (.map (some bm)) := by rw [Lib.cell_of_heap hTr.ht]; rfl
      have hrowr : wr.ownsRow (W.alloc (.cells #[.map (some bm)] 60)).heap.size 9 1 (.slice A (allF T).length c) (allF T).length ((names here T.l).map encStr) := own_heap HROW.out (fun k e => hK.2 k (HROW.out.lt k e).2 (fun hc => by have h1 := (HROW.out.lt k e).1; have h2 := (HC.out k hc).1; simp at h1; omega))
      obtain ⟨ad, hA, hcx⟩ := (own_reads_of' (d := ([] : List UInt8)) hrowr).at_ (j : Int) (by omega) (by omega)
      subst hA
      rw [HR2.out j hlt, Int.toNat_natCast] at hcx
      have hmem : (allF T).getD j ⟨nil0, nil0, 0, 0, false⟩ ∈ allF T := by rw [List.getD_eq_getElem?_getD, List.getElem?_eq_getElem hlt]; exact List.getElem_mem _
      have htk : (allF T).take (j + 1) = (allF T).take j ++ [(allF T).getD j ⟨nil0, nil0, 0, 0, false⟩] := by rw [List.take_succ_eq_append_getElem hlt, List.getD_eq_getElem?_getD, List.getElem?_eq_getElem hlt]; rfl
      have hpl : ((allF T).take j).length < 64 := by rw [List.length_take]; omega
      generalize (allF T).getD j ⟨nil0, nil0, 0, 0, false⟩ = y at hcx hmem htk
      obtain ⟨hm1, hm2⟩ := List.mem_filter.1 hmem
      have hgy := get_of_mem HT.out.ok.sorted hm1 hm2
      have hny : y.f0.size ≤ 1000000 := (HT.out.ok.el y hm1).1
      have hlook := hTr.hm.look1 y.f0 (by omega) y hgy
      have henc : encStr (nmL y) = .string y.f0 := by simp [encStr, nmL]
      rw [henc] at hcx
      obtain ⟨fn, tmps, assign, body, hy, hR⟩ := HY.out Wd _ y wr HB1.out hIj hK hpl hmem
      have h1n : 1 ≤ n := by omega
      have hdep : (Fence.wide.depth.isSome = true → 1 ≤ n) := fun _ => h1n
      simp only [vF] at hy hlook
      have HTK := Aside0.mk htk
      clear htk hpl hmem hm1 hm2 hgy hny henc hrowr hTr hfix
      gi_wp2
      refine hR.mono ?_
      rintro e W3 (⟨rfl, hI3, hk3⟩ | ⟨rfl, hI3, hk3⟩)
      · gi_wp2
        go_roundw
        case rel => exact ⟨j + 1, by omega, by simp, by rw [HTK.out]; exact hI3, hk3⟩
        case measure => simp [intOf]; omega
      · gi_wp2
        refine bodyPost_ret (results_none rfl _ _ _) rfl ?_
        exact ⟨⟨_, rfl⟩, Wd, HB1.out, hk3, .inr ⟨_, by rw [← HTK.out]; exact List.take_prefix _ _, hI3⟩⟩
    · obtain rfl : j = (allF T).length := by omega
      gi_wp2
      go_end0
      rw [List.take_length] at hIj
      exact ⟨⟨_, rfl⟩, Wd, HB1.out, hK, .inl hIj⟩
end Go.Proofs.Ytonhfcjldbohbaa.Fi
