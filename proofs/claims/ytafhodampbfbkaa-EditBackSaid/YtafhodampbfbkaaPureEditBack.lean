/- The pure statement of EditBack. -/
import Derived.Test.YtafhodampbfbkaaSayEditBack
import Derived.Test.YtafhodampbfbkaaMath25
set_option linter.unusedVariables false
set_option linter.unusedSimpArgs false
namespace Go.Proofs.Ytafhodampbfbkaa.Pure
open Go.RowKit Go.Proofs.Ytafhodampbfbkaa.PA Go.Proofs.YtafhodampbfbkaaW.PrintWords Go.Proofs.YtafhodampbfbkaaW.PrintLast Go.Proofs.Ytafhodampbfbkaa.Pl Go.Proofs.Ytafhodampbfbkaa.M25

/-- The edits that lead back, some bytes having moved. -/
def back (s : ByteArray) : Int → List S35 → List S35
  | _, [] => []
  | mv, e :: r => ⟨e.f0 + mv, (e.f2.size : Int), s.extract e.f0.toNat (e.f0 + e.f1).toNat⟩ :: back s (mv + ((e.f2.size : Int) - e.f1)) r
theorem back_length (s : ByteArray) : ∀ (m : List S35) (mv : Int), (back s mv m).length = m.length
  | [], mv => rfl
  | e :: r, mv => by simp [back, back_length s r]
theorem back_ins (s : ByteArray) : ∀ (m : List S35) (mv : Int), ins (back s mv m) ≤ s.size * m.length
  | [], mv => by simp [back, ins]
  | e :: r, mv => by
    have := back_ins s r (mv + ((e.f2.size : Int) - e.f1))
    simp only [back, ins, size_ext, List.length_cons, Nat.mul_add, Nat.mul_one]
    omega

theorem back_l (s : ByteArray) (hs : s.size ≤ 600) (m : List S35) (hm : m.length ≤ 30) (h3 : ∀ x ∈ m, x.f2.size ≤ 300) (hr : RightB s.size 0 m = true) : ∀ (d j : Nat) (mv : Int) (out : List S35), m.length - j = d → j ≤ m.length → out.length = j → -(1000 * (j : Int)) ≤ mv → mv ≤ 1000 * (j : Int) →
    Ev (fun k => edit_Back.l0 k s out mv m (m.length : Int) (j : Int)) (out ++ back s mv (m.drop j)) := by
  intro d
  induction d with
  | zero =>
    intro j mv out hd hj ho h0 h1
    obtain rfl : j = m.length := by omega
    refine Ev.step (fun k => by rw [edit_Back.l0]) ?_
    exact neg (by omega) (now (by simp [back]))
  | succ d ih =>
    intro j mv out hd hj ho h0 h1
    have hlt : j < m.length := by omega
    obtain ⟨g1, g2, g3, g4, g5⟩ := rightB_drop hr (by omega) j hlt
    have hf2 := h3 m[j] (List.getElem_mem hlt)
    refine Ev.step (fun k => by rw [edit_Back.l0]) ?_
    simp only [rdD m j hlt]
    rw [List.drop_eq_getElem_cons hlt, back]
    rw [wrap_id (x := m[j].f0 + m[j].f1) (by omega) (by omega), wrap_id (x := m[j].f0 + mv) (by omega) (by omega), wrap_id (x := ((m[j].f2).size : Int) - m[j].f1) (by omega) (by omega), wrap_id (x := mv + (((m[j].f2).size : Int) - m[j].f1)) (by omega) (by omega), wrap_id (x := (j : Int) + 1) (by omega) (by omega)]
    refine pos (by omega) (pos (by omega) (pos (by omega) (pos (by omega) (pos (by omega) (pos (by omega) (pos (by omega) ?_))))))
    have h := ih (j + 1) (mv + (((m[j].f2).size : Int) - m[j].f1)) (out ++ [⟨m[j].f0 + mv, ((m[j].f2).size : Int), s.extract m[j].f0.toNat (m[j].f0 + m[j].f1).toNat⟩]) (by omega) (by omega) (by simp [ho]) (by omega) (by omega)
    refine val h ?_
    rw [List.append_assoc]
    rfl
theorem back_f (s : ByteArray) (hs : s.size ≤ 600) (m : List S35) (hm : m.length ≤ 30) (h3 : ∀ x ∈ m, x.f2.size ≤ 300) (hr : RightB s.size 0 m = true) : Ev (fun k => edit_Back.f k s m) (back s 0 m) := by
  unfold edit_Back.f
  refine bnd (right_f s (by omega) m (by omega)) ?_
  rw [if_pos hr]
  refine pos rfl ?_
  have h := back_l s hs m hm h3 hr m.length 0 0 [] (by omega) (by omega) rfl (by omega) (by omega)
  simpa using h

/-- They may be, and they lead back. -/
theorem back_ok (s : ByteArray) : ∀ (m : List S35) (fr mv : Int) (P T : ByteArray), 0 ≤ fr → fr ≤ (s.size : Int) → RightB s.size fr m = true → (P.size : Int) = fr + mv → T = P ++ tail s fr m →
    RightB T.size (fr + mv) (back s mv m) = true ∧ (tail T (fr + mv) (back s mv m)).data.toList = s.data.toList.drop fr.toNat
  | [], fr, mv, P, T, h0, h1, _, hP, hT => by
    refine ⟨by simp [back, RightB], ?_⟩
    rw [back, tail, ext_data, hT, tail, app_data, ext_data]
    have hp : P.data.toList.length = (fr + mv).toNat := by rw [size_data]; omega
    rw [← hp, List.drop_left, ByteArray.size_append, size_ext, List.take_take, List.take_of_length_le]
    have := size_data P
    simp only [List.length_drop, size_data]
    omega
  | e :: r, fr, mv, P, T, h0, h1, hr, hP, hT => by
    obtain ⟨g1, g2, g3, g4, g5⟩ := rightB_cons hr
    have hP2 : ((P ++ (s.extract fr.toNat e.f0.toNat ++ e.f2)).size : Int) = (e.f0 + e.f1) + (mv + ((e.f2.size : Int) - e.f1)) := by
      rw [ByteArray.size_append, ByteArray.size_append, size_ext]; omega
    have eT : T = (P ++ (s.extract fr.toNat e.f0.toNat ++ e.f2)) ++ tail s (e.f0 + e.f1) r := by
      rw [hT, tail]; exact data_inj (by simp only [app_data, List.append_assoc])
    have hsz : (T.size : Int) = fr + mv + (e.f0 - fr) + e.f2.size + (tail s (e.f0 + e.f1) r).size := by
      rw [eT, ByteArray.size_append, ByteArray.size_append, ByteArray.size_append, size_ext]; omega
    obtain ⟨k1, k2⟩ := back_ok s r (e.f0 + e.f1) (mv + ((e.f2.size : Int) - e.f1)) _ T (by omega) (by omega) g5 hP2 eT
    have eq : e.f0 + mv + (e.f2.size : Int) = e.f0 + e.f1 + (mv + ((e.f2.size : Int) - e.f1)) := by omega
    constructor
    · rw [back, RightB]
      simp only [Bool.and_eq_true, decide_eq_true_eq]
      refine ⟨⟨⟨⟨by omega, by omega⟩, by omega⟩, by omega⟩, ?_⟩
      rw [eq]; exact k1
    · rw [back, tail, app_data, app_data, eq, k2, ext_data, ext_data, eT, app_data, app_data, app_data, ext_data]
      have hp : P.data.toList.length = (fr + mv).toNat := by rw [size_data]; omega
      have e1 : List.take ((e.f0 + mv).toNat - (fr + mv).toNat) (List.drop (fr + mv).toNat (P.data.toList ++ (List.take (e.f0.toNat - fr.toNat) (List.drop fr.toNat s.data.toList) ++ e.f2.data.toList) ++ (tail s (e.f0 + e.f1) r).data.toList)) = List.take (e.f0.toNat - fr.toNat) (List.drop fr.toNat s.data.toList) := by
        rw [List.append_assoc, ← hp, List.drop_left, List.append_assoc, List.take_append_of_le_length (by simp only [List.length_take, List.length_drop, size_data]; omega), List.take_take, Nat.min_eq_left (by omega)]
        congr 1
        omega
      rw [e1]
      have e2 : List.drop fr.toNat s.data.toList = List.take (e.f0.toNat - fr.toNat) (List.drop fr.toNat s.data.toList) ++ (List.take ((e.f0 + e.f1).toNat - e.f0.toNat) (List.drop e.f0.toNat s.data.toList) ++ List.drop (e.f0 + e.f1).toNat s.data.toList) := by
        conv => lhs; rw [← List.take_append_drop (e.f0.toNat - fr.toNat) (List.drop fr.toNat s.data.toList)]
        rw [List.drop_drop, show fr.toNat + (e.f0.toNat - fr.toNat) = e.f0.toNat from by omega]
        conv => lhs; rw [← List.take_append_drop ((e.f0 + e.f1).toNat - e.f0.toNat) (List.drop e.f0.toNat s.data.toList)]
        rw [List.drop_drop, show e.f0.toNat + ((e.f0 + e.f1).toNat - e.f0.toNat) = (e.f0 + e.f1).toNat from by omega]
      rw [List.append_assoc]
      exact e2.symm

/-! ### One edit from one text to another -/
theorem common_l (a b : ByteArray) (ha : a.size ≤ 140737488351232) (hb : b.size ≤ 140737488351232) : ∀ (d j : Nat), min a.size b.size - j = d → j ≤ min a.size b.size → a.data.toList.take j = b.data.toList.take j →
    ∃ n : Nat, Ev (fun k => edit_common.l0 k a b (j : Int)) (n : Int) ∧ n ≤ min a.size b.size ∧ a.data.toList.take n = b.data.toList.take n ∧ (n < a.size → n < b.size → bt a n ≠ bt b n) := by
  intro d
  have emn : mn (a.size : Int) (b.size : Int) = ((min a.size b.size : Nat) : Int) := by unfold mn; omega
  induction d with
  | zero =>
    intro j hd hj he
    refine ⟨j, Ev.step (fun k => by rw [edit_common.l0]) ?_, hj, he, fun h1 h2 => by omega⟩
    rw [emn]
    exact neg (by omega) (now rfl)
  | succ d ih =>
    intro j hd hj he
    by_cases c : bt a j = bt b j
    · have ha1 : j < a.size := by omega
      have hb1 : j < b.size := by omega
      have hnext : a.data.toList.take (j + 1) = b.data.toList.take (j + 1) := by
        rw [List.take_succ_eq_append_getElem (by rw [size_data]; exact ha1), List.take_succ_eq_append_getElem (by rw [size_data]; exact hb1), he]
        rw [bt_data a j ha1, bt_data b j hb1] at c
        congr 2
        exact UInt8.toNat_inj.1 (by exact_mod_cast c)
      obtain ⟨n, h, hn⟩ := ih (j + 1) (by omega) (by omega) hnext
      refine ⟨n, Ev.step (fun k => by rw [edit_common.l0]) ?_, hn⟩
      rw [emn, wrap_id (x := (j : Int) + 1) (by omega) (by omega)]
      exact pos (by omega) (pos (by omega) (pos (by omega) (pos (by omega) (pos c h))))
    · refine ⟨j, Ev.step (fun k => by rw [edit_common.l0]) ?_, hj, he, fun _ _ => c⟩
      rw [emn]
      exact pos (by omega) (pos (by omega) (pos (by omega) (pos (by omega) (neg c (now rfl)))))

theorem between_l (n : Int) : ∀ (d : Nat) (x y : ByteArray), x.size = d → x.size ≤ 140737488351232 → y.size ≤ 140737488351232 →
    ∃ X Y : ByteArray, ∃ Z : List UInt8, Ev (fun k => edit_Between.l0 k n x y) (n, (X.size : Int), Y) ∧ x.data.toList = X.data.toList ++ Z ∧ y.data.toList = Y.data.toList ++ Z ∧
      (0 < X.size → 0 < Y.size → bt X ((X.size - 1 : Nat) : Int) ≠ bt Y ((Y.size - 1 : Nat) : Int)) := by
  intro d
  induction d with
  | zero =>
    intro x y hd hx hy
    refine ⟨x, y, [], Ev.step (fun k => by rw [edit_Between.l0]) ?_, by simp, by simp, fun h => by omega⟩
    exact pos (toList_nil.2 hd) (now rfl)
  | succ d ih =>
    intro x y hd hx hy
    by_cases cy : y.size = 0
    · refine ⟨x, y, [], Ev.step (fun k => by rw [edit_Between.l0]) ?_, by simp, by simp, fun _ h => by omega⟩
      exact neg (fun h => by have := toList_nil.1 h; omega) (pos (toList_nil.2 cy) (now rfl))
    · have ex : ((x.size : Int) - 1) = ((x.size - 1 : Nat) : Int) := by omega
      have ey : ((y.size : Int) - 1) = ((y.size - 1 : Nat) : Int) := by omega
      by_cases c : bt x ((x.size - 1 : Nat) : Int) = bt y ((y.size - 1 : Nat) : Int)
      · have hx1 : (x.extract 0 (x.size - 1)).size = d := by rw [size_ext]; omega
        have hy1 : (y.extract 0 (y.size - 1)).size = y.size - 1 := by rw [size_ext]; omega
        obtain ⟨X, Y, Z, h, e1, e2, e3⟩ := ih (x.extract 0 (x.size - 1)) (y.extract 0 (y.size - 1)) hx1 (by omega) (by omega)
        have lx : x.size - 1 < x.data.toList.length := by rw [size_data]; omega
        have ly : y.size - 1 < y.data.toList.length := by rw [size_data]; omega
        rw [bt_data x _ (by omega), bt_data y _ (by omega)] at c
        have cc : x.data.toList[x.size - 1] = y.data.toList[y.size - 1] := UInt8.toNat_inj.1 (by exact_mod_cast c)
        have sx : x.data.toList = (x.extract 0 (x.size - 1)).data.toList ++ [x.data.toList[x.size - 1]] := by
          rw [ext_data, List.drop_zero, Nat.sub_zero, ← List.take_succ_eq_append_getElem lx, List.take_of_length_le (by rw [size_data]; omega)]
        have sy : y.data.toList = (y.extract 0 (y.size - 1)).data.toList ++ [y.data.toList[y.size - 1]] := by
          rw [ext_data, List.drop_zero, Nat.sub_zero, ← List.take_succ_eq_append_getElem ly, List.take_of_length_le (by rw [size_data]; omega)]
        refine ⟨X, Y, Z ++ [x.data.toList[x.size - 1]], Ev.step (fun k => by rw [edit_Between.l0]) ?_, sx.trans (by rw [e1, List.append_assoc]), sy.trans (by rw [e2, List.append_assoc, cc]), e3⟩
        rw [wrap_id (x := (x.size : Int) - 1) (by omega) (by omega), wrap_id (x := (y.size : Int) - 1) (by omega) (by omega), ex, ey]
        refine neg (fun h => by have := toList_nil.1 h; omega) (neg (fun h => by have := toList_nil.1 h; omega) (pos (by omega) (pos (by omega) (pos (by omega) (pos (by omega) (pos ?_ (pos (by omega) (pos (by omega) ?_))))))))
        · rw [bt_data x _ (by omega), bt_data y _ (by omega), cc]
        · simpa using h
      · refine ⟨x, y, [], Ev.step (fun k => by rw [edit_Between.l0]) ?_, by simp, by simp, fun _ _ => c⟩
        rw [wrap_id (x := (x.size : Int) - 1) (by omega) (by omega), wrap_id (x := (y.size : Int) - 1) (by omega) (by omega), ex, ey]
        exact neg (fun h => by have := toList_nil.1 h; omega) (neg (fun h => by have := toList_nil.1 h; omega) (pos (by omega) (pos (by omega) (pos (by omega) (pos (by omega) (neg c (now rfl)))))))

theorem between_f (a b : ByteArray) (ha : a.size ≤ 140737488351232) (hb : b.size ≤ 140737488351232) :
    ∃ (n : Nat) (X Y : ByteArray) (Z : List UInt8), Ev (fun k => edit_Between.f k a b) ((n : Int), (X.size : Int), Y) ∧ n ≤ a.size ∧ n ≤ b.size ∧ a.data.toList.take n = b.data.toList.take n ∧ a.data.toList = a.data.toList.take n ++ (X.data.toList ++ Z) ∧ b.data.toList = a.data.toList.take n ++ (Y.data.toList ++ Z) ∧
      (n < a.size → n < b.size → bt a n ≠ bt b n) ∧ (0 < X.size → 0 < Y.size → bt X ((X.size - 1 : Nat) : Int) ≠ bt Y ((Y.size - 1 : Nat) : Int)) := by
  obtain ⟨n, h, hn, he, hne⟩ := common_l a b ha hb (min a.size b.size) 0 (by omega) (by omega) (by simp)
  obtain ⟨X, Y, Z, h2, e1, e2, e3⟩ := between_l (n : Int) _ (a.extract n a.size) (b.extract n b.size) rfl (by rw [size_ext]; omega) (by rw [size_ext]; omega)
  have f1 : (a.extract n a.size).data.toList = a.data.toList.drop n := by rw [ext_data, List.take_of_length_le (by rw [List.length_drop, size_data]; omega)]
  have f2 : (b.extract n b.size).data.toList = b.data.toList.drop n := by rw [ext_data, List.take_of_length_le (by rw [List.length_drop, size_data]; omega)]
  refine ⟨n, X, Y, Z, ?_, by omega, by omega, he, ?_, ?_, hne, e3⟩
  · unfold edit_Between.f edit_common.f
    refine bnd h (pos (by omega) (pos (by omega) (pos (by omega) ?_)))
    exact h2
  · rw [← e1, f1, List.take_append_drop]
  · rw [he, ← e2, f2, List.take_append_drop]

theorem j2_ok (s : ByteArray) (f : Bool) (hf : f = false) (n : Nat) (x : Nat) (Y : ByteArray) (hs : s.size ≤ 600) (hY : Y.size ≤ 600) (hn : n + x ≤ s.size) (h1 : 0 < x → 0 < Y.size → bt s n ≠ bt Y 0) (h2 : 0 < x → 0 < Y.size → bt s ((n + x - 1 : Nat) : Int) ≠ bt Y ((Y.size - 1 : Nat) : Int)) :
    Ev (fun k => cupellaw25_EditBack.j2 k s f (n : Int) (x : Int) Y) true := by
  subst hf
  refine Ev.step (fun k => by rw [cupellaw25_EditBack.j2]) (neg (by simp) ?_)
  by_cases cx : x = 0
  · subst cx
    exact neg (by omega) (now rfl)
  refine pos (by omega) ?_
  by_cases cY : Y.size = 0
  · exact pos (toList_nil.2 cY) (now rfl)
  refine neg (fun h => by have := toList_nil.1 h; omega) (pos (by omega) (pos (by omega) (pos (by omega) (neg (h1 (by omega) (by omega)) ?_))))
  have e1 : ((n : Int) + (x : Int) - 1) = ((n + x - 1 : Nat) : Int) := by omega
  have e2 : ((Y.size : Int) - 1) = ((Y.size - 1 : Nat) : Int) := by omega
  rw [wrap_id (x := (n : Int) + (x : Int)) (by omega) (by omega), wrap_id (x := (n : Int) + (x : Int) - 1) (by omega) (by omega), wrap_id (x := (Y.size : Int) - 1) (by omega) (by omega), e1, e2]
  refine pos (by omega) (pos (by omega) (pos (by omega) (pos (by omega) (now ?_))))
  have := h2 (by omega) (by omega)
  simpa using this

theorem getD_mid (P X Z : List UInt8) (i : Nat) (h : i < X.length) : (P ++ (X ++ Z)).getD (P.length + i) 0 = X.getD i 0 := by
  rw [List.getD_eq_getElem?_getD, List.getElem?_append_right (by omega), show P.length + i - P.length = i from by omega, List.getElem?_append_left h, ← List.getD_eq_getElem?_getD]

theorem j1_ok (s o : ByteArray) (hs : s.size ≤ 600) (ho : o.size ≤ 600) : Ev (fun k => cupellaw25_EditBack.j1 k s o) true := by
  obtain ⟨n, X, Y, Z, hb, hn1, hn2, he, ea, eb, hne, hl⟩ := between_f s o (by omega) (by omega)
  have la : s.size = n + (X.size + Z.length) := by
    have := congrArg List.length ea
    simp only [List.length_append, List.length_take, size_data] at this
    omega
  have lb : o.size = n + (Y.size + Z.length) := by
    have := congrArg List.length eb
    simp only [List.length_append, List.length_take, size_data] at this
    omega
  refine Ev.step (fun k => by rw [cupellaw25_EditBack.j1]) ?_
  refine bnd hb ?_
  have hR : RightB s.size 0 [(⟨(n : Int), (X.size : Int), Y⟩ : S35)] = true := by
    simp [RightB]; omega
  refine bnd (do_f s (by omega) [(⟨(n : Int), (X.size : Int), Y⟩ : S35)] (by simp) (by simp only [ins]; omega)) ?_
  simp only [if_pos hR]
  have et : tail s 0 [(⟨(n : Int), (X.size : Int), Y⟩ : S35)] = o := by
    apply data_inj
    simp only [tail, app_data, ext_data]
    rw [eb, ea]
    have : (s.data.toList.take n).length = n := by rw [List.length_take, size_data]; omega
    generalize s.data.toList.take n = P at this
    rw [show (0 : Int).toNat = 0 from rfl, List.drop_zero, Nat.sub_zero, Int.toNat_natCast, List.take_left' this, show ((n : Int) + (X.size : Int)).toNat = (P ++ X.data.toList).length from by rw [List.length_append, size_data]; omega, ← List.append_assoc, List.drop_left, List.take_of_length_le (by rw [List.length_append, size_data]; omega), List.append_assoc]
  rw [et]
  refine pos (by trivial) (pos rfl ?_)
  have lP : (s.data.toList.take n).length = n := by rw [List.length_take, size_data]; omega
  have hX0 : 0 < X.size → bt s n = bt X 0 := by
    intro h
    rw [bt_getD _ _ (by omega), bt_getD X 0 (by simpa using h), ea, show ((n : Nat) : Int).toNat = (s.data.toList.take n).length + 0 from by rw [lP]; omega, getD_mid _ _ _ _ (by rw [size_data]; omega)]
    rfl
  have hY0 : 0 < Y.size → bt o n = bt Y 0 := by
    intro h
    rw [bt_getD _ _ (by omega), bt_getD Y 0 (by simpa using h), eb, show ((n : Nat) : Int).toNat = (s.data.toList.take n).length + 0 from by rw [lP]; omega, getD_mid _ _ _ _ (by rw [size_data]; omega)]
    rfl
  have hXl : 0 < X.size → bt s ((n + X.size - 1 : Nat) : Int) = bt X ((X.size - 1 : Nat) : Int) := by
    intro h
    rw [bt_getD _ _ (by omega), bt_getD X _ (by omega), ea, show ((n + X.size - 1 : Nat) : Int).toNat = (s.data.toList.take n).length + (X.size - 1) from by rw [lP]; omega, getD_mid _ _ _ _ (by rw [size_data]; omega)]
    rfl
  have g1 : 0 < X.size → 0 < Y.size → bt s n ≠ bt Y 0 := fun h1 h2 => by rw [← hY0 h2]; exact hne (by omega) (by omega)
  have g2 : 0 < X.size → 0 < Y.size → bt s ((n + X.size - 1 : Nat) : Int) ≠ bt Y ((Y.size - 1 : Nat) : Int) := fun h1 h2 => by rw [hXl h1]; exact hl h1 h2
  by_cases c : s.toList = o.toList
  · have eso : s = o := toList_inj c
    have hX : X.size = 0 := by
      rcases Nat.eq_zero_or_pos X.size with h | h
      · exact h
      · exfalso
        subst eso
        exact hne (by omega) (by omega) rfl
    have hY : Y.size = 0 := by subst eso; omega
    have hnn : n = s.size := by
      rcases Nat.lt_or_ge n s.size with h | h
      · exfalso
        subst eso
        exact hne h h rfl
      · omega
    refine pos c ?_
    refine j2_ok s _ ?_ n X.size Y hs (by omega) (by omega) g1 g2
    have y0 : Y.toList = [] := toList_nil.2 hY
    simp [hX, hnn, y0]
  · exact neg c (j2_ok s _ rfl n X.size Y hs (by omega) (by omega) g1 g2)

theorem EditBack : cupellaw25_EditBack.Pure := by
  intro a0 l a2 ha hl hl32 hok ha2
  apply Ev.rounds
  unfold cupellaw25_EditBack.f
  refine bnd alive_f (pos rfl ?_)
  obtain ⟨b, hf, hb⟩ := far_f a0 l hl
  refine bnd hf ?_
  cases b with
  | true => exact pos rfl (Ev.step (fun k => by rw [cupellaw25_EditBack.j0]) (pos rfl (now rfl)))
  | false =>
    obtain ⟨h1, h2, h3⟩ := hb rfl
    have hi := ins_le l h3
    refine neg (by simp) ?_
    refine Ev.step (fun k => by rw [cupellaw25_EditBack.j0]) ?_
    by_cases c : (a2.size : Int) > 600
    · exact pos (by simpa using c) (now rfl)
    refine neg (by simpa using c) ?_
    have hj1 := j1_ok a0 a2 h1 (by omega)
    refine bnd (refright_f a0 (by omega) l (by omega)) ?_
    cases hR : RightB a0.size 0 (l.map cv) with
    | false => exact neg (by simp) hj1
    | true =>
      have h3' : ∀ x ∈ l.map cv, x.f2.size ≤ 300 := by
        intro x hx
        obtain ⟨y, hy, rfl⟩ := List.mem_map.1 hx
        exact h3 y hy
      have hlm : (l.map cv).length = l.length := by simp
      refine pos rfl ?_
      refine bnd (of_f l (by omega)) ?_
      refine bnd (do_f a0 (by omega) (l.map cv) (by simp; omega) (by omega)) ?_
      simp only [if_pos hR]
      refine bnd (of_f l (by omega)) ?_
      refine bnd (back_f a0 h1 (l.map cv) (by simpa using h2) h3' hR) ?_
      have ht := tail_size a0 (l.map cv) 0 (by omega) (by omega) hR
      have e0 : tail a0 0 (l.map cv) = (⟨#[]⟩ : ByteArray) ++ tail a0 0 (l.map cv) := data_inj (by rw [app_data, empty_data, List.nil_append])
      obtain ⟨k1, k2⟩ := back_ok a0 (l.map cv) 0 0 ⟨#[]⟩ (tail a0 0 (l.map cv)) (by omega) (by omega) hR rfl e0
      have hbi := back_ins a0 (l.map cv) 0
      have hmul : a0.size * (l.map cv).length ≤ 600 * 30 := Nat.mul_le_mul h1 (by omega)
      refine bnd (do_f (tail a0 0 (l.map cv)) (by omega) (back a0 0 (l.map cv)) (by rw [back_length]; omega) (by omega)) ?_
      rw [show (0 : Int) + 0 = 0 from rfl] at k1 k2
      simp only [if_pos k1]
      refine pos (by trivial) (pos ?_ hj1)
      rw [Lib.toList_data, Lib.toList_data, k2]
      rfl

end Go.Proofs.Ytafhodampbfbkaa.Pure
