/- files: FilesFull's walk. -/
import Derived.Test.YtonhfcjldbohbaaFlN
namespace Go.Proofs.Ytonhfcjldbohbaa.Fi
open Go Go.RowKit Go.ChangeMaps Go.MapKept Go.Proofs.Ytonhfcjldbohbaa.PA Go.Proofs.YtonhfcjldbohbaaW.PrintWords Go.Proofs.YtonhfcjldbohbaaW.PrintLast Go.Proofs.YtonhfcjldbohbaaW.PrintMore
attribute [local go_sem] Oper.semAt_some
set_option linter.unusedVariables false
set_option linter.unusedSimpArgs false

theorem conv2 (W : World) (x y : Int) : (convert 34 9 (.slice (some ⟨W.heap.size, 0, none⟩) 2 2)).run Try.prog (W.alloc (.cells #[.int .u8 x, .int .u8 y] 5)) = .ok (.string (strOfNums [x, y])) (W.alloc (.cells #[.int .u8 x, .int .u8 y] 5)) := by
  refine run_convert_bytes_arg _ 34 5 Try.underlying34 Try.underlying5 W.heap.size 0 2 2 [x, y] rfl (fun i hi => ?_) 9 Try.underlying9
  rw [Nat.zero_add, Lib.cell_of_heap (heap_alloc_new W _)]
  match i, hi with
  | 0, _ => rfl
  | 1, _ => rfl
def fillA (N j : Nat) : Array Value := ((List.range N).map fun x => if x < j then Value.int .u8 32 else Value.int .u8 0).toArray
theorem fillA_size (N j : Nat) : (fillA N j).size = N := by simp [fillA]
theorem fillA_set (N j : Nat) (h : j < N) : (fillA N j).setIfInBounds j (.int .u8 32) = fillA N (j + 1) := by
  unfold fillA
  apply Array.ext_getElem?
  intro i
  rw [Array.getElem?_setIfInBounds]
  by_cases hi : j = i
  · subst hi
    rw [if_pos rfl, if_pos (by simpa using h)]
    simp [h]
  · rw [if_neg hi]
    simp only [List.getElem?_toArray, List.getElem?_map]
    by_cases hn : i < N
    · rw [List.getElem?_range hn]
      simp only [Option.map_some]
      have : (i < j + 1) = (i < j) := by simp; omega
      simp only [this]
    · rw [List.getElem?_eq_none (by simp; omega)]; rfl
theorem fillA_get (N j i : Nat) (h : i < N) : (fillA N j)[i]? = some (if i < j then Value.int .u8 32 else Value.int .u8 0) := by
  unfold fillA
  simp [h]
theorem mkN (N : Nat) (x : Int) (hx : x = N) (hN : N ≤ 1000000) (W : World) : (Instr.makeSlice 34 (.int .i64 x) (.int .i64 x)).run Try.prog W = .ok (.slice (some ⟨W.heap.size, 0, none⟩) N N) (W.alloc (.cells (fillA N 0) 5)) := by
  subst hx
  have := run_make_row' (P := Try.prog) 34 5 (.int .u8 0) 1 Try.underlying34 (by kernel_rfl) rfl .i64 .i64 N (by omega) (by omega) W
  rw [this]
  have e : madeCells #[.int .u8 0] N = fillA N 0 := by
    apply Array.ext
    · rw [fillA_size]; simp [madeCells]
    · intro i h1 h2
      have h3 := fillA_get N 0 i (by rw [fillA_size] at h2; exact h2)
      rw [Array.getElem?_eq_getElem h2] at h3
      rw [Option.some.inj h3]
      simp [madeCells, Nat.mod_one]
  rw [e]
/-- The blanks, read. -/
theorem fill_reads {W : World} {b N n : Nat} (h : W.heap[b]? = some (.cells (fillA N N) 5 (0, 0))) (hn : n ≤ N) (hm : n ≤ 1000000) : ReadsInt W .u8 (some ⟨b, 0, none⟩) n (List.replicate n 32) := by
  refine ⟨by simp, by omega, fun _ => ⟨_, rfl, fun j hj => ?_⟩⟩
  have e : (⟨b, 0, none⟩ : Addr).add j = ⟨b, 0 + j, none⟩ := by unfold Addr.add; split <;> simp [*]
  rw [e, Nat.zero_add, Lib.cell_of_heap h, fillA_get N N j (by omega), if_pos (by omega)]
  simp [List.getD_eq_getElem?_getD, List.getElem?_replicate, hj]
theorem conv_sp {W : World} {b N n c : Nat} (h : W.heap[b]? = some (.cells (fillA N N) 5 (0, 0))) (hn : n ≤ N) (hm : n ≤ 1000000) : (convert 34 9 (.slice (some ⟨b, 0, none⟩) n c)).run Try.prog W = .ok (.string (spB n)) W := by
  rw [string_of_reads Try.underlying34 Try.underlying5 Try.underlying9 (fill_reads h hn hm)]
  have : strOfNums (List.replicate n (32 : Int)) = spB n := by
    unfold strOfNums spB
    rw [List.map_replicate]
    rfl
  rw [this]
theorem nmF_cat : ∀ j : Nat, j < 70 → (⟨#[102]⟩ : ByteArray) ++ strOfNums [97 + (j : Int) / 10, 48 + (j : Int) % 10] = nmF j := by
  have h : ∀ j : Nat, j < 70 → (strOfNums [97 + (j : Int) / 10, 48 + (j : Int) % 10]).data.toList = [UInt8.ofNat (97 + j / 10), UInt8.ofNat (48 + j % 10)] := by decide +kernel
  intro j hj
  refine Pl.data_inj ?_
  rw [Pl.app_data, h j hj]; rfl
attribute [local irreducible] spB fillA
set_option maxHeartbeats 4000000 in
set_option maxRecDepth 100000 in
theorem FilesFull_any (x0 x1 : Int) (w : World) (h0 : 0 ≤ x0) (h0' : x0 < 256) (h1 : 0 ≤ x1) (h1' : x1 < 256) :
    Calls Try.prog 4 #[.int .u8 x0, .int .u8 x1] w fun e w' => e = .returned (.bool true) ∧ Below w.heap.size w w' := by
  obtain ⟨k, hk70, hk⟩ : ∃ k : Nat, k < 70 ∧ x0.tmod 70 = k := ⟨(x0 % 70).toNat, by omega, by rw [Int.tmod_eq_emod_of_nonneg h0]; omega⟩
  have hk2 : x0 % 70 = k := by rw [← hk, Int.tmod_eq_emod_of_nonneg h0]
  go_enter Try.func4, Try.ntmps4
  go_wp2_with fail
  refine (alive_any w).mono ?_
  rintro e w1 ⟨rfl, hb1⟩
  have HB1 := Aside0.mk hb1
  clear hb1
  go_wp2_with fail
  refine (new_any 1000 (by decide) w1).mono ?_
  rintro e w2 ⟨rfl, hT, hb⟩
  have hz := hb.size
  have HT2 := Aside0.mk hT
  have HB2 : Aside0 (Below w.heap.size w w2) := ⟨HB1.out.trans (hb.mono HB1.out.size)⟩
  clear hT hb
  obtain ⟨t, ht⟩ : ∃ t, w1.heap.size + 2 = t := ⟨_, rfl⟩
  rw [ht] at HT2 ⊢
  clear ht
  go_wp2_with fail
  obtain ⟨wl, rfl⟩ : ∃ x, x = w2 := ⟨_, rfl⟩
  go_loopg [8] k (fun kq v8 wr => ∃ (j : Nat), v8 = .int .i64 j ∧ Aside0 (j ≤ k ∧ kq = k - j) ∧ Aside0 (TB w1.heap.size (NewS w1) t (fullT (min j 64)) wr) ∧ Aside0 (Below w.heap.size w wr) ∧ Aside0 (w1.heap.size ≤ wr.heap.size))
  case atStart => exact ⟨0, rfl, ⟨by omega⟩, HT2, HB2, ⟨hz⟩⟩
  case round =>
    obtain ⟨j, rfl, HJ, HT, HB, HZ⟩ := hrel
    obtain ⟨hj, hkq⟩ := HJ.out
    by_cases hlt : j < k
    · have hdj : decide ((j : Int) < (k : Int)) = true := decide_eq_true (by omega)
      have hdj2 : decide (j < k) = true := decide_eq_true hlt
      have hcv := conv2 wr (97 + (j : Int) / 10) (48 + (j : Int) % 10)
      have hcat := nmF_cat j (by omega)
      have hj70 : j < 70 := by omega
      generalize hs : strOfNums [97 + (j : Int) / 10, 48 + (j : Int) % 10] = sn at hcv hcat
      have hsn : sn.size = 2 := by rw [← hs]; exact strOfNums_size _
      clear hs
      go_wp2_with fail
      obtain ⟨wq, hwq⟩ : ∃ x, wr.alloc (.cells #[.int .u8 (97 + (j : Int) / 10), .int .u8 (48 + (j : Int) % 10)] 5) = x := ⟨_, rfl⟩
      have hbq : Below wr.heap.size wr wq := by rw [← hwq]; exact (Below.refl _ wr).alloc (Nat.le_refl _) _
      rw [hwq]
      have hzq : w1.heap.size ≤ wq.heap.size := Nat.le_trans HZ.out hbq.size
      refine (put_any hzq (HT.out.below hbq) (by rw [fullT_len]; omega) (nmF j) nil0 0 (by show 3 ≤ _; omega)).mono ?_
      rintro e w3 ⟨rfl, hT, hb⟩
      rw [full_step j hj70] at hT ⊢
      have HT3 := Aside0.mk hT
      have HB3 : Aside0 (Below w.heap.size w w3) := ⟨(HB.out.trans (hbq.mono HB.out.size)).trans (hb.below.mono HB1.out.size)⟩
      have HZ3 : Aside0 (w1.heap.size ≤ w3.heap.size) := ⟨Nat.le_trans hzq hb.below.size⟩
      clear hcv hcat hwq hbq hzq hT hb HT HB HZ hsn
      by_cases h64 : j < 64
      · have d1 : decide ((j : Int) < 64) = true := decide_eq_true (by omega)
        have d2 : decide (j < 64) = true := decide_eq_true h64
        have d3 : decide (64 ≤ (j : Int)) = false := decide_eq_false (by omega)
        have d4 : decide (64 ≤ j) = false := decide_eq_false (by omega)
        rw [if_pos h64]
        clear h64
        go_wp2
        go_roundg (k - (j + 1))
        case measure => omega
        case rel => exact ⟨j + 1, by go_num, ⟨by omega⟩, HT3, HB3, HZ3⟩
      · have d1 : decide ((j : Int) < 64) = false := decide_eq_false (by omega)
        have d2 : decide (j < 64) = false := decide_eq_false h64
        have d3 : decide (64 ≤ (j : Int)) = true := decide_eq_true (by omega)
        have d4 : decide (64 ≤ j) = true := decide_eq_true (by omega)
        rw [if_neg h64]
        clear h64
        go_wp2
        go_roundg (k - (j + 1))
        case measure => omega
        case rel => exact ⟨j + 1, by go_num, ⟨by omega⟩, HT3, HB3, HZ3⟩
    · obtain rfl : j = k := by omega
      have hdj : decide ((j : Int) < (j : Int)) = false := decide_eq_false (by omega)
      have hdj2 : decide (j < j) = false := decide_eq_false (by omega)
      obtain ⟨w3, hw3⟩ : ∃ x, wr = x := ⟨_, rfl⟩
      subst hw3
      clear HT2 HB2 hz
      go_wp2_with fail
      obtain ⟨m, hm⟩ : ∃ m, min j 64 = m := ⟨_, rfl⟩
      rw [hm] at HT
      have hall : allF (fullT m) = (fullT m).l := fullT_here m
      refine (all_eq (w0 := w) m hall (fullT_len m) HZ.out HT.out HB.out).mono ?_
      rintro e w4 ⟨A4, c4, rfl, hrow, hb, hT, hz4⟩
      have HT4 := Aside0.mk hT
      have HB4 := Aside0.mk hb
      have dm : ((m : Int) != min (j : Int) 64) = false := by simp; omega
      clear hrow hb hT HT HB HZ hall
      by_cases hj0 : j = 0
      · have d0 : ((j : Int) == 0) = true := by simp [hj0]
        have d00 : (j == 0) = true := by simp [hj0]
        clear hj0
        go_wp2
        go_ret
        exact ⟨rfl, HB4.out⟩
      have hm1 : 1 ≤ m ∧ m ≤ 64 := by omega
      have d0 : ((j : Int) == 0) = false := by simp; omega
      have d00 : (j == 0) = false := by simpa using hj0
      have hmk := mkN 65537 65537 (by decide) (by decide) w4
      clear hj0 hk hk2 h0 h0' hm hdj hdj2 HJ hj hkq hlt
      go_wp2_with fail
      obtain ⟨wb, hwb⟩ : ∃ x, w4.alloc (.cells (fillA 65537 0) 5) = x := ⟨_, rfl⟩
      rw [hwb]
      have hbel : Below w4.heap.size w4 wb := by rw [← hwb]; exact (Below.refl _ w4).alloc (Nat.le_refl _) _
      have hblk : wb.heap[w4.heap.size]? = some (.cells (fillA 65537 0) 5 (0, 0)) := by rw [← hwb]; exact heap_alloc_new w4 _
      have HBEL := Aside0.mk hbel
      have HBLK := Aside0.mk hblk
      clear hmk hwb hbel hblk dm d0 d00
      go_loopg [11] 65537 (fun kq v11 wx => ∃ (i : Nat), v11 = .int .i64 i ∧ Aside0 (i ≤ 65537 ∧ kq = 65537 - i) ∧ Aside0 (wx.heap[w4.heap.size]? = some (.cells (fillA 65537 i) 5 (0, 0))) ∧ Aside0 (Below w4.heap.size w4 wx))
      case atStart => exact ⟨0, rfl, ⟨by omega⟩, HBLK, HBEL⟩
      case round =>
        obtain ⟨i, rfl, HI, HBLK2, HBEL2⟩ := hrel
        obtain ⟨hi1, hi2⟩ := HI.out
        by_cases hlt : i < 65537
        · have e1 : decide ((i : Int) < 65537) = true := decide_eq_true (by omega)
          have e2 : decide (i < 65537) = true := decide_eq_true hlt
          have cc : wr.cell? ⟨w4.heap.size, i, none⟩ = some (.int .u8 0) := by rw [Lib.cell_of_heap HBLK2.out, fillA_get _ _ _ hlt, if_neg (by omega)]
          have cf : wr.frozen? ⟨w4.heap.size, i, none⟩ = false := Lib.frozen_of_heap HBLK2.out i
          have hset := fillA_set 65537 i hlt
          have hblk := blk_set HBLK2.out i (.int .u8 32)
          rw [hset] at hblk
          have HBLK3 := Aside0.mk hblk
          clear hset hblk
          go_wp2
          go_roundg (65537 - (i + 1))
          case measure => omega
          case rel => exact ⟨i + 1, by go_num, ⟨by omega⟩, HBLK3, ⟨HBEL2.out.setCell (p := ⟨w4.heap.size, i, none⟩) (Nat.le_refl _) _⟩⟩
        · obtain rfl : i = 65537 := by omega
          have hnS : ¬ NewS w1 w4.heap.size := fun e => by
            obtain ⟨bm, bd, hT0⟩ := HT4.out
            have := (hT0.sB _ e).2
            omega
          obtain ⟨w5, hw5⟩ : ∃ x, wr = x := ⟨_, rfl⟩
          subst hw5
          have hT5 := HT4.out.below HBEL2.out
          have HT5 := Aside0.mk hT5
          have HB5 : Aside0 (Below w.heap.size w wr) := ⟨HB4.out.trans (HBEL2.out.mono HB4.out.size)⟩
          have hz5 : w1.heap.size ≤ wr.heap.size := Nat.le_trans hz4 HBEL2.out.size
          have hbl5 : w4.heap.size < wr.heap.size := (Array.getElem?_eq_some_iff.1 HBLK2.out).1
          have hcv1 := conv_sp (n := 65537) (c := 65537) HBLK2.out (by decide) (by decide)
          clear hT5 HT4 HB4 HBEL2 HBEL HBLK hi1 hi2 hlt HI
          obtain ⟨b, hb⟩ : ∃ b, w4.heap.size = b := ⟨_, rfl⟩
          rw [hb] at hnS hbl5 hcv1 HBLK2 ⊢
          clear hb hz4
          have HK5 := HBLK2
          clear HBLK2
          go_wp2_with fail
          refine (put_any hz5 HT5.out (by rw [fullT_len]; omega) fa0 (spB 65537) 0 (by decide)).mono ?_
          rintro e w6 ⟨rfl, hT, hb⟩
          rw [big_1] at hT ⊢
          have HT6 := Aside0.mk hT
          have HB6 : Aside0 (Below w.heap.size w w6) := ⟨HB5.out.trans (hb.below.mono HB1.out.size)⟩
          have hz6 : w1.heap.size ≤ w6.heap.size := Nat.le_trans hz5 hb.below.size
          have hbl6 : b < w6.heap.size := Nat.lt_of_lt_of_le hbl5 hb.below.size
          have HK6 : Aside0 (w6.heap[b]? = some (.cells (fillA 65537 65537) 5 (0, 0))) := ⟨(hb.keep b hbl5 hnS).trans HK5.out⟩
          clear hT hb HT5 HB5 hz5 hbl5 HK5 hcv1
          have hcv2 := conv_sp (n := 65536) (c := 65537) HK6.out (by decide) (by decide)
          go_wp2_with fail
          refine (put_any hz6 HT6.out (by rw [fullT_len]; omega) fa0 (spB 65536) 0 (by decide)).mono ?_
          rintro e w7 ⟨rfl, hT, hb⟩
          rw [big_2 m hm1] at hT ⊢
          have HT7 := Aside0.mk hT
          have HB7 : Aside0 (Below w.heap.size w w7) := ⟨HB6.out.trans (hb.below.mono HB1.out.size)⟩
          have hz7 : w1.heap.size ≤ w7.heap.size := Nat.le_trans hz6 hb.below.size
          have hbl7 : b < w7.heap.size := Nat.lt_of_lt_of_le hbl6 hb.below.size
          have HK7 : Aside0 (w7.heap[b]? = some (.cells (fillA 65537 65537) 5 (0, 0))) := ⟨(hb.keep b hbl6 hnS).trans HK6.out⟩
          clear hT hb HT6 HB6 hz6 hbl6 HK6 hcv2
          go_wp2_with fail
          refine (rev_any HT7.out).mono ?_
          rintro e w7' ⟨rfl, rfl⟩
          have hcv3 := conv_sp (n := 65536) (c := 65537) HK7.out (by decide) (by decide)
          have hrv : (bigT m 0 (m + 1)).rev = (m : Int) + 1 := rfl
          rw [hrv]
          clear hrv
          obtain ⟨tr, htr1, htr⟩ : ∃ tr : Int, (1 ≤ tr ∧ tr ≤ 2) ∧ 1 + x1.tmod 2 = tr := ⟨1 + x1.tmod 2, by rw [Int.tmod_eq_emod_of_nonneg h1]; omega, rfl⟩
          have htr2 : 1 + x1 % 2 = tr := by rw [← htr, Int.tmod_eq_emod_of_nonneg h1]
          go_wp2_with fail
          have hln : ∀ a b, (bigT m a b).l.length < 1000000 := fun a b => by unfold bigT; simp; omega
          refine (put_any hz7 HT7.out (hln _ _) fa0 (spB 65536) tr (by decide)).mono ?_
          rintro e w8 ⟨rfl, hT, hb⟩
          rw [big_3 m hm1 tr htr1] at hT ⊢
          have HT8 := Aside0.mk hT
          have HB8 : Aside0 (Below w.heap.size w w8) := ⟨HB7.out.trans (hb.below.mono HB1.out.size)⟩
          have hz8 : w1.heap.size ≤ w8.heap.size := Nat.le_trans hz7 hb.below.size
          clear hT hb HT7 HB7 hz7 hbl7 HK7 hcv3 htr htr2
          go_wp2_with fail
          refine (rev_any HT8.out).mono ?_
          rintro e w8' ⟨rfl, rfl⟩
          have hrv : (bigT m tr (m + 2)).rev = (m : Int) + 2 := rfl
          rw [hrv]
          clear hrv
          have hq : ((m : Int) + 2 == (m : Int) + 1 + 1) = true := by simp; omega
          go_wp2_with fail
          refine (since_any HT8.out ((m : Int) + 1)).mono ?_
          rintro e w9 ⟨A9, c9, rfl, _, hb9⟩
          rw [show (sinceF (bigT m tr (m + 2)) ((m : Int) + 1)).length = 0 by rw [big_since]; rfl]
          have HT9 := Aside0.mk (HT8.out.below hb9)
          have HB9 : Aside0 (Below w.heap.size w w9) := ⟨HB8.out.trans (hb9.mono HB8.out.size)⟩
          have hz9 : w1.heap.size ≤ w9.heap.size := Nat.le_trans hz8 hb9.size
          clear hb9 HT8 HB8 hz8
          go_wp2_with fail
          refine (bytes_any HT9.out).mono ?_
          rintro e w10 ⟨rfl, hb10⟩
          rw [big_bytes]
          have HT10 := Aside0.mk (HT9.out.below hb10)
          have HB10 : Aside0 (Below w.heap.size w w10) := ⟨HB9.out.trans (hb10.mono HB9.out.size)⟩
          have hz10 : w1.heap.size ≤ w10.heap.size := Nat.le_trans hz9 hb10.size
          clear hb10 HT9 HB9 hz9
          go_wp2_with fail
          refine (put_any hz10 HT10.out (hln _ _) fa0 nil0 3 (by decide)).mono ?_
          rintro e w11 ⟨rfl, hT, hb⟩
          rw [big_4]
          have HB11 : Aside0 (Below w.heap.size w w11) := ⟨HB10.out.trans (hb.below.mono HB1.out.size)⟩
          clear hT hb HT10 HB10
          go_wp2
          go_ret
          exact ⟨rfl, HB11.out⟩
end Go.Proofs.Ytonhfcjldbohbaa.Fi
