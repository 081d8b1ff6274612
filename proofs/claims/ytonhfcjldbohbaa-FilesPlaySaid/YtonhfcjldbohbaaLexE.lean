/- lex: next as one step; Lex. -/
import Derived.Test.YtonhfcjldbohbaaLexS
import Derived.Test.YtonhfcjldbohbaaWRepsOne
namespace Go.Proofs.Ytonhfcjldbohbaa.Lx
open Go.RowKit Go.Proofs.Ytonhfcjldbohbaa.PA Go.Proofs.YtonhfcjldbohbaaW.PrintWords Go.Proofs.YtonhfcjldbohbaaW.PrintLast Go.Proofs.YtonhfcjldbohbaaW.PrintMore
set_option linter.unusedVariables false
set_option linter.unusedSimpArgs false

theorem post_mono {B g : Nat} {src : ByteArray} {at1 at2 : Int} {tk1 tk2 : List Tk} {dg1 dg2 : List Dg} {w : World} {F : Nat} {args : Array Value}
    (h : Calls Try.prog F args w fun e w' => e = .returned (.tuple #[]) ∧ Sc B g src at1 tk1 dg1 w' ∧ Below B w w') (h1 : at1 = at2) (h2 : tk1 = tk2) (h3 : dg1 = dg2) :
    Calls Try.prog F args w fun e w' => e = .returned (.tuple #[]) ∧ Sc B g src at2 tk2 dg2 w' ∧ Below B w w' := by
  subst h1 h2 h3; exact h

theorem next_any (B g : Nat) (src : ByteArray) (a : Nat) (tk : List Tk) (dg : List Dg) (w : World) (h : Sc B g src (a : Int) tk dg w) (h1 : a < src.size) (h3 : src.size ≤ 140737488351232) (hB : B ≤ w.heap.size) (hl : tk.length + 1 ≤ 4398046511104) (hl2 : dg.length + 1 ≤ 4398046511104) :
    Calls Try.prog 61 #[.pointer (some ⟨g, 0, none⟩)] w fun e w' => e = .returned (.tuple #[]) ∧ Sc B g src ((a + (one (src.data.toList.drop a)).n : Nat) : Int) (tk ++ toks (one (src.data.toList.drop a)) a) (dg ++ diags (one (src.data.toList.drop a)) a) w' ∧ Below B w w' := by
  obtain ⟨b, hb1, hb2⟩ := bt_cons src a h1
  have h0' : (0 : Int) ≤ (a : Int) := by omega
  have h1' : (a : Int) < (src.size : Int) := by omega
  have hcut : ∀ n : Nat, src.extract (a : Int).toNat ((a : Int) + (n : Int)).toNat = ofL ((b :: src.data.toList.drop (a + 1)).take n) := fun n => by rw [ext_cut, hb1]
  have hlen : (src.data.toList.drop (a + 1)).length = src.size - (a + 1) := by simp
  have htail : (src.extract ((a : Int) + 1).toNat src.size).data.toList = src.data.toList.drop (a + 1) := by rw [tail_list]; congr 1
  have hdrop : src.data.toList.drop (a : Int).toNat = b :: src.data.toList.drop (a + 1) := by rw [Int.toNat_natCast, hb1]
  rw [hb1]
  generalize hr : src.data.toList.drop (a + 1) = r at *
  by_cases c1 : blB b.toNat = true
  · exact post_mono (next_blank B g src a tk dg w h h0' h1' h3 hB hl hl2 (by rw [hb2]; exact c1)) (by simp only [one, c1]; rfl) (by simp only [one, c1, toks]; simp) (by simp only [one, c1, diags]; simp)
  have c1' : blB (bt src a) = false := by rw [hb2]; simpa using c1
  by_cases c2 : ((b.toNat : Int) == 35) = true
  · exact post_mono (next_hash B g src a tk dg w h h0' h1' h3 hB hl hl2 (runLen nlB (b :: r)) (by rw [hdrop]) c1' (by rw [hb2]; exact c2)) (by simp only [one, c1, c2]; simp) (by simp only [one, c1, c2, toks]; simp) (by simp only [one, c1, c2, diags]; simp)
  have c2' : (bt src a == 35) = false := by rw [hb2]; simpa using c2
  by_cases c3 : begB b.toNat = true
  · by_cases c4 : wordL ((b :: r).take (runLen goB (b :: r))) = true
    · exact post_mono (next_word B g src a tk dg w h h0' h1' h3 hB hl hl2 (runLen goB (b :: r)) (by rw [hdrop]) c1' c2' (by rw [hb2]; exact c3) (by rw [hcut, word_L]; exact c4)) (by simp only [one, c1, c2, c3]; simp) (by simp only [one, c1, c2, c3, c4, toks, hcut]; simp) (by simp only [one, c1, c2, c3, diags]; simp)
    · exact post_mono (next_name B g src a tk dg w h h0' h1' h3 hB hl hl2 (runLen goB (b :: r)) (by rw [hdrop]) c1' c2' (by rw [hb2]; exact c3) (by rw [hcut, word_L]; simpa using c4)) (by simp only [one, c1, c2, c3]; simp) (by simp only [one, c1, c2, c3, c4, toks, hcut]; simp) (by simp only [one, c1, c2, c3, diags]; simp)
  have c3' : begB (bt src a) = false := by rw [hb2]; simpa using c3
  by_cases c5 : digB b.toNat = true
  · by_cases c6 : runLen digB (b :: r) ≤ 18
    · refine post_mono (next_num B g src a tk dg w h h0' h1' h3 hB hl hl2 _ _ _ c1' c2' c3' (by rw [hb2]; exact c5) (fun w1 hD => number_small B g (runLen digB (b :: r)) src a tk dg w1 (h.drawn hD) h0' (by omega) h3 (by have := hD.below.size; omega) hl (by rw [hdrop]) (by omega))) ?_ ?_ ?_
      · simp only [one, c1, c2, c3, c5, c6]; simp
      · simp only [one, c1, c2, c3, c5, c6, toks, hcut]; simp
      · simp only [one, c1, c2, c3, c5, c6, diags]; simp
    · refine post_mono (next_num B g src a tk dg w h h0' h1' h3 hB hl hl2 _ _ _ c1' c2' c3' (by rw [hb2]; exact c5) (fun w1 hD => number_big B g (runLen digB (b :: r)) src a tk dg w1 (h.drawn hD) h0' (by omega) h3 (by have := hD.below.size; omega) hl hl2 (by rw [hdrop]) (by omega))) ?_ ?_ ?_
      · simp only [one, c1, c2, c3, c5, c6]; simp
      · simp only [one, c1, c2, c3, c5, c6, toks]; simp [ofL]
      · simp only [one, c1, c2, c3, c5, c6, diags]; simp
  have c5' : digB (bt src a) = false := by rw [hb2]; simpa using c5
  by_cases c7 : ((b.toNat : Int) == 34) = true
  · have c7' : (bt src a == 34) = true := by rw [hb2]; exact c7
    obtain ⟨l1, l2⟩ := cut_run (src.extract ((a : Int) + 1).toNat src.size) 10 nlB nl_p
    rw [htail] at l1 l2
    generalize hx1 : cutOf (src.extract ((a : Int) + 1).toNat src.size) 10 = x1 at l1 l2
    obtain ⟨line, r2, bb⟩ := x1
    simp only at l1 l2
    obtain ⟨m1, m2⟩ := cut_run line 34 qtB qt_p
    obtain ⟨t1, t2, t3⟩ := text_run r
    have hline : line.data.toList = r.take (runLen nlB r) := by rw [l1, ofL_data]
    rw [hline, t1] at m1 m2
    have hls : line.size = (r.take (runLen nlB r)).length := by rw [l1, ofL_size]
    have hrl := runLen_le nlB r
    rw [List.length_take] at hls
    generalize hx2 : cutOf line 34 = x2 at m1 m2
    obtain ⟨inn, r3, cc⟩ := x2
    simp only at m1 m2
    by_cases c8 : (r.drop (runLen inB r)).head? = some 34
    · have hlt := t2.2 c8
      have hcc : cc = true := by rw [m2]; exact decide_eq_true hlt
      subst hcc
      have hin : inn = ofL (r.take (runLen inB r)) := by rw [m1, List.take_take, Nat.min_eq_left (by rw [List.length_take] at hlt; omega)]
      have his : inn.size = runLen inB r := by rw [hin, ofL_size, List.length_take]; rw [List.length_take] at hlt; omega
      rw [List.length_take] at hlt
      refine post_mono (next_text B g src a tk dg w h h0' h1' h3 hB hl hl2 _ _ _ c1' c2' c3' c5' c7' (fun w1 hD => text_shut B g src line inn r2 r3 bb a tk dg w1 (h.drawn hD) h0' (by omega) h3 (by have := hD.below.size; omega) hl hx1 hx2 (by omega) (by omega))) ?_ ?_ ?_
      · simp only [one, c1, c2, c3, c5, c7, c8]; simp; omega
      · simp only [one, c1, c2, c3, c5, c7, c8, toks, hin]; simp
      · simp only [one, c1, c2, c3, c5, c7, c8, diags]; simp
    · have hlt : ¬ runLen inB r < (r.take (runLen nlB r)).length := fun h => c8 (t2.1 h)
      have hcc : cc = false := by rw [m2]; exact decide_eq_false hlt
      subst hcc
      have hle := t3 hlt
      rw [List.length_take] at hle
      refine post_mono (next_text B g src a tk dg w h h0' h1' h3 hB hl hl2 _ _ _ c1' c2' c3' c5' c7' (fun w1 hD => text_open B g src line inn r2 r3 bb a tk dg w1 (h.drawn hD) h0' (by omega) h3 (by have := hD.below.size; omega) hl2 hx1 hx2 (by omega) (by omega))) ?_ ?_ ?_
      · simp only [one, c1, c2, c3, c5, c7, c8]; simp; omega
      · simp only [one, c1, c2, c3, c5, c7, c8, toks]; simp
      · simp only [one, c1, c2, c3, c5, c7, c8, diags]; simp
  have c7' : (bt src a == 34) = false := by rw [hb2]; simpa using c7
  by_cases c9 : Lib.hasPrefix (b :: r) [45, 62] = true
  · obtain ⟨t, ht⟩ := pre_two c9
    have hrt : r = 62 :: t := by injection ht
    have hbt : b = 45 := by injection ht
    have hl2' : 1 ≤ r.length := by rw [hrt]; simp
    refine post_mono (next_arrow B g src a tk dg w h h0' h1' h3 hB hl hl2 c1' c2' c3' c5' c7' (by rw [hdrop]; exact c9) (by omega)) ?_ ?_ ?_
    · simp only [one, c1, c2, c3, c5, c7, c9]; simp
    · have := hcut 2
      simp only [one, c1, c2, c3, c5, c7, c9, toks]
      rw [show (a : Int) + 2 = (a : Int) + ((2 : Nat) : Int) from rfl, this, hrt, hbt]; simp
    · simp only [one, c1, c2, c3, c5, c7, c9, diags]; simp
  have c9' : Lib.hasPrefix (src.data.toList.drop (a : Int).toNat) [45, 62] = false := by rw [hdrop]; simpa using c9
  have hbb : (bt src a).toNat.toUInt8 = b := by rw [hb2, Int.toNat_natCast]; simp
  by_cases c10 : 0 ≤ Lib.indexByte signs b
  · refine post_mono (next_sign B g src a tk dg w h h0' h1' h3 hB hl hl2 c1' c2' c3' c5' c7' c9' (by rw [hbb]; exact c10)) ?_ ?_ ?_
    · simp only [one, c1, c2, c3, c5, c7, c9, c10]; simp
    · have := hcut 1
      simp only [one, c1, c2, c3, c5, c7, c9, c10, toks]
      rw [show (a : Int) + 1 = (a : Int) + ((1 : Nat) : Int) from rfl, this]; simp
    · simp only [one, c1, c2, c3, c5, c7, c9, c10, diags]; simp
  · refine post_mono (next_bad B g src a tk dg w h h0' h1' h3 hB hl hl2 c1' c2' c3' c5' c7' c9' (by rw [hbb]; exact c10)) ?_ ?_ ?_
    · simp only [one, c1, c2, c3, c5, c7, c9, c10]; simp
    · simp only [one, c1, c2, c3, c5, c7, c9, c10, toks]; simp
    · simp only [one, c1, c2, c3, c5, c7, c9, c10, diags]; simp

end Go.Proofs.Ytonhfcjldbohbaa.Lx
