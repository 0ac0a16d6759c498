/- FnExactParseTask: the program and the reference read the same task off a line, for all lines. No condition. -/
import Derived.Test.YtkgloicnfphmoaaDoorPtBoth
namespace Go.Proofs.YtkgloicnfphmoaaDoor.Print
open Go.RowKit Go.Proofs.YtkgloicnfphmoaaDoorW.PrintWords Go.Proofs.YtkgloicnfphmoaaDoor.Evs
set_option linter.unusedSimpArgs false
set_option linter.unusedVariables false
theorem toL (s : ByteArray) : s.toList = s.data.toList := Lib.toList_data s
theorem itv (a b c : Int) : impl_TaskValid.f a b c = some (decide (1 ≤ a ∧ a ≤ 8 ∧ a ≤ b ∧ b ≤ c ∧ c ≤ 12)) := by
  have h : ∀ x y z : Int, impl_in.f x y z = some (decide (y ≤ x ∧ x ≤ z)) := by
    intro x y z
    unfold impl_in.f
    by_cases h1 : y ≤ x
    · by_cases h2 : x ≤ z <;> simp [h1, h2]
    · simp [h1]
  unfold impl_TaskValid.f
  rw [h, h, Option.bind_some, Option.bind_some]
  by_cases h1 : 1 ≤ a ∧ a ≤ 8
  · rw [decide_eq_true h1, if_pos rfl]
    by_cases h2 : a ≤ b ∧ b ≤ c
    · rw [decide_eq_true h2, if_pos rfl]
      congr 1
      exact decide_eq_decide.2 ⟨fun g => ⟨h1.1, h1.2, h2.1, h2.2, g⟩, fun g => g.2.2.2.2⟩
    · rw [decide_eq_false h2, if_neg (by simp), decide_eq_false (fun g => h2 ⟨g.2.2.1, g.2.2.2.1⟩)]
  · rw [decide_eq_false h1, if_neg (by simp), decide_eq_false (fun g => h1 ⟨g.1, g.2.1⟩)]
theorem stv (a b c : Int) : spec_TaskValid.f a b c = some (decide (1 ≤ a ∧ a ≤ 8 ∧ a ≤ b ∧ b ≤ c ∧ c ≤ 12)) := by
  have h : ∀ x y z : Int, spec_l1In.f x y z = some (decide (y ≤ x ∧ x ≤ z)) := by
    intro x y z
    unfold spec_l1In.f
    by_cases h1 : y ≤ x
    · by_cases h2 : x ≤ z <;> simp [h1, h2]
    · simp [h1]
  unfold spec_TaskValid.f
  rw [h, h, h, Option.bind_some, Option.bind_some, Option.bind_some]
  by_cases h1 : 1 ≤ a ∧ a ≤ 8
  · rw [decide_eq_true h1, if_pos rfl]
    by_cases h2 : a ≤ b ∧ b ≤ c
    · rw [decide_eq_true h2, if_pos rfl]
      congr 1
      exact decide_eq_decide.2 ⟨fun g => ⟨h1.1, h1.2, h2.1, h2.2, g.2⟩, fun g => ⟨by omega, g.2.2.2.2⟩⟩
    · rw [decide_eq_false h2, if_neg (by simp), decide_eq_false (fun g => h2 ⟨g.2.2.1, g.2.2.2.1⟩)]
  · rw [decide_eq_false h1, if_neg (by simp), decide_eq_false (fun g => h1 ⟨g.1, g.2.1⟩)]
theorem itoa_small (n : Nat) (h : n ≤ 12) : strconv_Itoa_20.f (n : Int) = some ⟨(Lib.decDigits n).toArray⟩ := by
  unfold strconv_Itoa_20.f
  rw [if_pos (by omega), Int.toNat_natCast]
theorem dec_size (n : Nat) (h : n ≤ 12) : (⟨(Lib.decDigits n).toArray⟩ : ByteArray).size ≤ 100 := by
  have hc : n = 0 ∨ n = 1 ∨ n = 2 ∨ n = 3 ∨ n = 4 ∨ n = 5 ∨ n = 6 ∨ n = 7 ∨ n = 8 ∨ n = 9 ∨ n = 10 ∨ n = 11 ∨ n = 12 := by omega
  rcases hc with rfl | rfl | rfl | rfl | rfl | rfl | rfl | rfl | rfl | rfl | rfl | rfl | rfl
  all_goals decide +kernel
/-- What the program's FormatTask writes. -/
theorem format_f (a b c : Int) : (∃ x y z : Nat, okN x y z = true ∧ a = x ∧ b = y ∧ c = z ∧ ∃ l, impl_FormatTask.f a b c = some l ∧ l.data.toList = fmtL x y z) ∨ impl_FormatTask.f a b c = some ⟨#[]⟩ := by
  unfold impl_FormatTask.f
  rw [itv, Option.bind_some]
  by_cases h : 1 ≤ a ∧ a ≤ 8 ∧ a ≤ b ∧ b ≤ c ∧ c ≤ 12
  · left
    rw [decide_eq_true h, if_pos rfl]
    obtain ⟨m, rfl⟩ : ∃ m : Nat, a = (m : Int) := ⟨a.toNat, by omega⟩
    obtain ⟨p, rfl⟩ : ∃ p : Nat, b = (p : Int) := ⟨b.toNat, by omega⟩
    obtain ⟨q, rfl⟩ : ∃ q : Nat, c = (q : Int) := ⟨c.toNat, by omega⟩
    refine ⟨m, p, q, decide_eq_true (by omega), rfl, rfl, rfl, ?_⟩
    have s1 := dec_size m (by omega)
    have s2 := dec_size p (by omega)
    have s3 := dec_size q (by omega)
    rw [itoa_small m (by omega), itoa_small p (by omega), itoa_small q (by omega)]
    have l1 : (⟨#[116, 97, 115, 107, 32]⟩ : ByteArray).size = 5 := rfl
    have l2 : (⟨#[32]⟩ : ByteArray).size = 1 := rfl
    simp only [Option.bind_some, ByteArray.size_append, l1, l2]
    rw [if_pos (by omega), if_pos (by omega), if_pos (by omega), if_pos (by omega), if_pos (by omega)]
    refine ⟨_, rfl, ?_⟩
    unfold fmtL
    simp [ByteArray.data_append]
  · right
    rw [decide_eq_false h]
    rfl
theorem impl_ans (s : ByteArray) : impl_ParseTask.f s = some (0, 0, 0, false) ∨ ∃ a b c : Nat, okN a b c = true ∧ s.data.toList = fmtL a b c := by
  unfold impl_ParseTask.f
  by_cases h : s.size ≤ 20 ∧ (pieces s).length = 4
  · rw [if_pos h]
    rcases format_f (numB (piece s 1)) (numB (piece s 2)) (numB (piece s 3)) with ⟨x, y, z, hok, h1, h2, h3, l, hl, hd⟩ | hl
    · rw [hl, Option.bind_some]
      by_cases he : l.toList = s.toList
      · right
        rw [toL, toL, hd] at he
        exact ⟨x, y, z, hok, he.symm⟩
      · left; rw [if_neg he]
    · rw [hl, Option.bind_some]
      left
      rw [if_neg]
      intro he
      rw [toL, toL] at he
      have : s = ⟨#[]⟩ := of_data (l := []) he.symm
      subst this
      exact absurd h.2 (by decide +kernel)
  · rw [if_neg h]; exact Or.inl rfl
/-! ### The reference -/
/-- Fields joined by spaces. -/
def jn : List ByteArray → List UInt8
  | [] => []
  | [x] => x.data.toList
  | x :: y :: r => x.data.toList ++ 32 :: jn (y :: r)
theorem jn_snoc (x w : ByteArray) : ∀ acc : List ByteArray, jn (acc ++ [w] ++ [x]) = jn (acc ++ [w]) ++ 32 :: x.data.toList
  | [] => rfl
  | [a] => by show a.data.toList ++ 32 :: (w.data.toList ++ 32 :: x.data.toList) = (a.data.toList ++ 32 :: w.data.toList) ++ 32 :: x.data.toList; simp
  | a :: b :: r => by
    have ih := jn_snoc x w (b :: r)
    show a.data.toList ++ 32 :: jn (b :: r ++ [w] ++ [x]) = (a.data.toList ++ 32 :: jn (b :: r ++ [w])) ++ 32 :: x.data.toList
    rw [ih]; simp
theorem jn_last (x w : ByteArray) : ∀ acc : List ByteArray, jn (acc ++ [w ++ x]) = jn (acc ++ [w]) ++ x.data.toList
  | [] => by show (w ++ x).data.toList = w.data.toList ++ x.data.toList; simp [ByteArray.data_append]
  | [a] => by show a.data.toList ++ 32 :: (w ++ x).data.toList = (a.data.toList ++ 32 :: w.data.toList) ++ x.data.toList; simp [ByteArray.data_append]
  | a :: b :: r => by
    have ih := jn_last x w (b :: r)
    show a.data.toList ++ 32 :: jn (b :: r ++ [w ++ x]) = (a.data.toList ++ 32 :: jn (b :: r ++ [w])) ++ x.data.toList
    rw [ih]; simp
theorem bt_list (s : ByteArray) (i : Nat) (h : i < s.size) : ∃ c : UInt8, s.data.toList[i]? = some c ∧ bt s i = (c.toNat : Int) := by
  refine ⟨s[i], ?_, ?_⟩
  · have : i < s.data.size := h
    rw [Array.getElem?_toList, Array.getElem?_eq_getElem this]
    rfl
  · unfold bt
    simp [h]
theorem fields_ev (s : ByteArray) (hs : s.size ≤ 1048576) : ∃ fs, Tl (fun k => spec_l10Fields.f k s) fs ∧ jn fs = s.data.toList := by
  have key : ∀ (acc : List ByteArray) (w : ByteArray), acc.length ≤ 0 → w.size ≤ 0 → jn (acc ++ [w]) = s.data.toList.take 0 → ∃ fs, Tl (fun k => spec_l10Fields.l0 k s acc w ((0 : Nat) : Int)) fs ∧ jn fs = s.data.toList := by
    refine down (Q := fun i => ∀ (acc : List ByteArray) (w : ByteArray), acc.length ≤ i → w.size ≤ i → jn (acc ++ [w]) = s.data.toList.take i → ∃ fs, Tl (fun k => spec_l10Fields.l0 k s acc w (i : Int)) fs ∧ jn fs = s.data.toList) s.size ?_ ?_
    · intro acc w h1 h2 h3
      refine ⟨acc ++ [w], ?_, ?_⟩
      · refine Tl.step ?_
        simp only [spec_l10Fields.l0]
        exact Tl.iteF (by omega) (Tl.iteT (by omega) (Tl.ret _))
      · rw [h3, List.take_of_length_le (by rw [← Lib.size_eq]; exact Nat.le_refl _)]
    · intro i hi ih acc w h1 h2 h3
      obtain ⟨c, hc, hb⟩ := bt_list s i hi
      have ht : s.data.toList.take (i + 1) = s.data.toList.take i ++ [c] := by rw [List.take_add_one, hc]; rfl
      have hw : wrap64 ((i : Int) + 1) = ((i + 1 : Nat) : Int) := by unfold wrap64; omega
      by_cases h32 : c = 32
      · subst h32
        obtain ⟨fs, hf, hj⟩ := ih (acc ++ [w]) ⟨#[]⟩ (by simp; omega) (by show 0 ≤ _; omega) (by rw [jn_snoc, h3, ht])
        refine ⟨fs, Tl.step ?_, hj⟩
        simp only [spec_l10Fields.l0]
        refine Tl.iteT (by omega) (Tl.iteT (by omega) (Tl.iteT (by rw [hb]; rfl) (Tl.iteT (by omega) ?_)))
        rw [hw]
        exact hf
      · have hne : ¬ ((c.toNat : Int) = 32) := fun e => h32 (UInt8.toNat_inj.1 (show c.toNat = 32 by omega))
        have hx : (s.extract i (i + 1)).data.toList = [c] := by
          have e := Lib.extract_data s i (i + 1)
          rw [e, show i + 1 - i = 1 by omega]
          obtain ⟨hlt, hv⟩ := List.getElem?_eq_some_iff.1 hc
          rw [List.drop_eq_getElem_cons hlt, hv]
          rfl
        have hsz : (s.extract i (i + 1)).size = 1 := by rw [Lib.size_eq, hx]; rfl
        obtain ⟨fs, hf, hj⟩ := ih acc (w ++ s.extract i (i + 1)) (by omega) (by rw [ByteArray.size_append, hsz]; omega) (by rw [jn_last, h3, ht, hx])
        refine ⟨fs, Tl.step ?_, hj⟩
        simp only [spec_l10Fields.l0]
        rw [hw, Int.toNat_natCast, Int.toNat_natCast]
        exact Tl.iteT (by omega) (Tl.iteT (by omega) (Tl.iteF (by rw [hb]; exact hne) (Tl.iteT (by omega) (Tl.iteT (by omega) (Tl.iteT (by rw [hsz]; omega) hf)))))
  obtain ⟨fs, h1, h2⟩ := key [] ⟨#[]⟩ (Nat.le_refl _) (Nat.le_refl _) rfl
  exact ⟨fs, h1, h2⟩
theorem plain_ev (n : Nat) (h : n ≤ 99) : Tl (fun k => spec_l10Plain.f k (n : Int)) ⟨(Lib.decDigits n).toArray⟩ := by
  have h3 : ((List.range 100).all fun n => decide (spec_l10Plain.f 3 (n : Int) = some ⟨(Lib.decDigits n).toArray⟩)) = true := by decide +kernel
  have h4 := of_decide_eq_true (List.all_eq_true.1 h3 n (List.mem_range.2 (by omega)))
  refine ⟨3, fun k hk => ?_⟩
  obtain ⟨d, rfl⟩ : ∃ d, k = 3 + d := ⟨k - 3, by omega⟩
  clear hk
  induction d with
  | zero => exact h4
  | succ d ih => exact spec_l10Plain.mono _ (3 + d) _ ih
/-- A number: -1, or one of at most two digits that is written so. -/
theorem num_ev (s : ByteArray) : ∃ r : Int, Tl (fun k => spec_l10Num.f k s) r ∧ (r = -1 ∨ ∃ n : Nat, r = n ∧ s.data.toList = Lib.decDigits n) := by
  have hfin : ∀ n : Nat, n ≤ 99 → ∃ r : Int, Tl (fun k => spec_l10Num.l0 k s (n : Int) (s.size : Int)) r ∧ (r = -1 ∨ ∃ n : Nat, r = n ∧ s.data.toList = Lib.decDigits n) := by
    intro n hn
    by_cases he : (⟨(Lib.decDigits n).toArray⟩ : ByteArray).toList = s.toList
    · refine ⟨n, Tl.step ?_, Or.inr ⟨n, rfl, ?_⟩⟩
      · simp only [spec_l10Num.l0]
        refine Tl.iteF (by omega) (Tl.bind (plain_ev n hn) (f := fun t k => if t.toList = s.toList then some (n : Int) else some (-1)) ?_)
        exact Tl.iteT he (Tl.ret _)
      · rw [toL, toL] at he
        exact he.symm
    · refine ⟨-1, Tl.step ?_, Or.inl rfl⟩
      simp only [spec_l10Num.l0]
      refine Tl.iteF (by omega) (Tl.bind (plain_ev n hn) (f := fun t k => if t.toList = s.toList then some (n : Int) else some (-1)) ?_)
      exact Tl.iteF he (Tl.ret _)
  have hstep : ∀ (n i : Nat), i < s.size → i ≤ 1 → n ≤ 9 → (∀ m : Nat, m ≤ 10 * n + 9 → ∃ r : Int, Tl (fun k => spec_l10Num.l0 k s (m : Int) ((i + 1 : Nat) : Int)) r ∧ (r = -1 ∨ ∃ n : Nat, r = n ∧ s.data.toList = Lib.decDigits n)) → ∃ r : Int, Tl (fun k => spec_l10Num.l0 k s (n : Int) (i : Int)) r ∧ (r = -1 ∨ ∃ n : Nat, r = n ∧ s.data.toList = Lib.decDigits n) := by
    intro n i hi h1 hn ih
    obtain ⟨c, _, hb⟩ := bt_list s i hi
    have hw : wrap64 ((i : Int) + 1) = ((i + 1 : Nat) : Int) := by unfold wrap64; omega
    by_cases hlo : (c.toNat : Int) < 48
    · refine ⟨-1, Tl.step ?_, Or.inl rfl⟩
      simp only [spec_l10Num.l0]
      exact Tl.iteT (by omega) (Tl.iteT (by omega) (Tl.iteT (by rw [hb]; exact hlo) (Tl.ret _)))
    by_cases hhi : (c.toNat : Int) > 57
    · refine ⟨-1, Tl.step ?_, Or.inl rfl⟩
      simp only [spec_l10Num.l0]
      exact Tl.iteT (by omega) (Tl.iteT (by omega) (Tl.iteF (by rw [hb]; exact hlo) (Tl.iteT (by rw [hb]; exact hhi) (Tl.ret _))))
    obtain ⟨r, hr, hor⟩ := ih (10 * n + (c.toNat - 48)) (by omega)
    refine ⟨r, Tl.step ?_, hor⟩
    have hv : wrap64 (wrap64 ((n : Int) * 10) + ((c.toNat : Int) - 48) % 256) = ((10 * n + (c.toNat - 48) : Nat) : Int) := by unfold wrap64; omega
    simp only [spec_l10Num.l0]
    refine Tl.iteT (by omega) (Tl.iteT (by omega) (Tl.iteF (by rw [hb]; exact hlo) (Tl.iteF (by rw [hb]; exact hhi) ?_)))
    rw [hb, hv, hw]
    exact hr
  by_cases h0 : s.size = 0
  · refine ⟨-1, ?_, Or.inl rfl⟩
    unfold spec_l10Num.f
    refine Tl.iteT (by omega) (Tl.step ?_)
    simp only [spec_l10Num.j0]
    exact Tl.iteT trivial (Tl.ret _)
  by_cases h2 : s.size > 2
  · refine ⟨-1, ?_, Or.inl rfl⟩
    unfold spec_l10Num.f
    refine Tl.iteF (by omega) (Tl.step ?_)
    simp only [spec_l10Num.j0]
    exact Tl.iteT (decide_eq_true (by omega)) (Tl.ret _)
  have hgo : ∃ r : Int, Tl (fun k => spec_l10Num.l0 k s ((0 : Nat) : Int) ((0 : Nat) : Int)) r ∧ (r = -1 ∨ ∃ n : Nat, r = n ∧ s.data.toList = Lib.decDigits n) := by
    refine hstep 0 0 (by omega) (by omega) (by omega) fun m hm => ?_
    by_cases h1 : s.size = 1
    · have := hfin m (by omega)
      rw [h1] at this
      exact this
    · refine hstep m 1 (by omega) (by omega) (by omega) fun q hq => ?_
      have := hfin q (by omega)
      rw [show s.size = 2 by omega] at this
      exact this
  obtain ⟨r, hr, hor⟩ := hgo
  refine ⟨r, ?_, hor⟩
  unfold spec_l10Num.f
  refine Tl.iteF (by omega) (Tl.step ?_)
  simp only [spec_l10Num.j0]
  exact Tl.iteF (by rw [decide_eq_false (by omega)]; exact Bool.false_ne_true) hr
theorem spec_ans (s : ByteArray) (hs : s.size ≤ 1048576) : (∃ k, spec_ParseTask.f k s = some (0, 0, 0, false)) ∨ ∃ a b c : Nat, okN a b c = true ∧ s.data.toList = fmtL a b c := by
  obtain ⟨fs, hf, hj⟩ := fields_ev s hs
  have hjt : Tl (fun k => spec_ParseTask.j0 k fs true) (0, 0, 0, false) := by
    refine Tl.step ?_
    simp only [spec_ParseTask.j0]
    exact Tl.iteT trivial (Tl.ret _)
  by_cases hA : 20 < s.size
  · left
    apply Tl.once
    unfold spec_ParseTask.f
    refine Tl.bind hf (f := fun t102 k => if (s.size : Int) > 20 then (spec_ParseTask.j0 k t102 true) else (if (t102.length : Int) = 4 then (if 0 < (t102.length : Int) then (spec_ParseTask.j0 k t102 ((rdOf ByteArray.empty t102 0).toList != ([116, 97, 115, 107] : List UInt8))) else (none)) else (spec_ParseTask.j0 k t102 true))) ?_
    exact Tl.iteT (by omega) hjt
  by_cases hB : fs.length = 4
  · match fs, hB with
    | [f0, f1, f2, f3], _ =>
      by_cases ht : f0.toList = [116, 97, 115, 107]
      · obtain ⟨r1, e1, o1⟩ := num_ev f1
        obtain ⟨r2, e2, o2⟩ := num_ev f2
        obtain ⟨r3, e3, o3⟩ := num_ev f3
        by_cases hv : 1 ≤ r1 ∧ r1 ≤ 8 ∧ r1 ≤ r2 ∧ r2 ≤ r3 ∧ r3 ≤ 12
        · right
          rcases o1 with o1 | ⟨a, ea, da⟩
          · omega
          rcases o2 with o2 | ⟨b, eb, db⟩
          · omega
          rcases o3 with o3 | ⟨c, ec, dc⟩
          · omega
          refine ⟨a, b, c, decide_eq_true (by omega), ?_⟩
          rw [← hj]
          show f0.data.toList ++ 32 :: (f1.data.toList ++ 32 :: (f2.data.toList ++ 32 :: f3.data.toList)) = _
          rw [← toL f0, ht, da, db, dc]
          rfl
        · left
          apply Tl.once
          unfold spec_ParseTask.f
          refine Tl.bind hf (f := fun t102 k => if (s.size : Int) > 20 then (spec_ParseTask.j0 k t102 true) else (if (t102.length : Int) = 4 then (if 0 < (t102.length : Int) then (spec_ParseTask.j0 k t102 ((rdOf ByteArray.empty t102 0).toList != ([116, 97, 115, 107] : List UInt8))) else (none)) else (spec_ParseTask.j0 k t102 true))) ?_
          refine Tl.iteF (by omega) (Tl.iteT rfl (Tl.iteT (show (0 : Int) < 4 by omega) (Tl.step ?_)))
          have hr0 : rdOf ByteArray.empty [f0, f1, f2, f3] 0 = f0 := rfl
          have hr1 : rdOf ByteArray.empty [f0, f1, f2, f3] 1 = f1 := rfl
          have hr2 : rdOf ByteArray.empty [f0, f1, f2, f3] 2 = f2 := rfl
          have hr3 : rdOf ByteArray.empty [f0, f1, f2, f3] 3 = f3 := rfl
          simp only [spec_ParseTask.j0, hr0, hr1, hr2, hr3, ht]
          refine Tl.iteF (by decide) (Tl.iteT (show (1 : Int) < 4 by omega) (Tl.bind e1 (f := fun t107 k => if 2 < (([f0, f1, f2, f3] : List ByteArray).length : Int) then ((spec_l10Num.f k f2).bind fun t109 => (if 3 < (([f0, f1, f2, f3] : List ByteArray).length : Int) then ((spec_l10Num.f k f3).bind fun t111 => ((spec_TaskValid.f t107 t109 t111).bind fun t113 => (if t113 = true then (some (t107, t109, t111, true)) else (some (0, 0, 0, false))))) else (none))) else (none)) ?_))
          refine Tl.iteT (show (2 : Int) < 4 by omega) (Tl.bind e2 (f := fun t109 k => (if 3 < (([f0, f1, f2, f3] : List ByteArray).length : Int) then ((spec_l10Num.f k f3).bind fun t111 => ((spec_TaskValid.f r1 t109 t111).bind fun t113 => (if t113 = true then (some (r1, t109, t111, true)) else (some (0, 0, 0, false))))) else (none))) ?_)
          refine Tl.iteT (show (3 : Int) < 4 by omega) (Tl.bind e3 (f := fun t111 k => ((spec_TaskValid.f r1 r2 t111).bind fun t113 => (if t113 = true then (some (r1, r2, t111, true)) else (some (0, 0, 0, false))))) ?_)
          refine Tl.of_eq fun k => ?_
          rw [stv, Option.bind_some, decide_eq_false hv, if_neg Bool.false_ne_true]
      · left
        apply Tl.once
        unfold spec_ParseTask.f
        refine Tl.bind hf (f := fun t102 k => if (s.size : Int) > 20 then (spec_ParseTask.j0 k t102 true) else (if (t102.length : Int) = 4 then (if 0 < (t102.length : Int) then (spec_ParseTask.j0 k t102 ((rdOf ByteArray.empty t102 0).toList != ([116, 97, 115, 107] : List UInt8))) else (none)) else (spec_ParseTask.j0 k t102 true))) ?_
        refine Tl.iteF (by omega) (Tl.iteT rfl (Tl.iteT (show (0 : Int) < 4 by omega) ?_))
        have hr0 : ((rdOf ByteArray.empty [f0, f1, f2, f3] 0).toList != ([116, 97, 115, 107] : List UInt8)) = true := bne_iff_ne.mpr ht
        rw [hr0]
        exact hjt
  · left
    apply Tl.once
    unfold spec_ParseTask.f
    refine Tl.bind hf (f := fun t102 k => if (s.size : Int) > 20 then (spec_ParseTask.j0 k t102 true) else (if (t102.length : Int) = 4 then (if 0 < (t102.length : Int) then (spec_ParseTask.j0 k t102 ((rdOf ByteArray.empty t102 0).toList != ([116, 97, 115, 107] : List UInt8))) else (none)) else (spec_ParseTask.j0 k t102 true))) ?_
    exact Tl.iteF (by omega) (Tl.iteF (by omega) hjt)
theorem FnExactParseTask_pure (s : ByteArray) (hs : s.size ≤ 1048576) : ∃ k x1 x2 x3 x4, spec_ParseTask.f k s = some (x1, x2, x3, x4) ∧ impl_ParseTask.f s = some (x1, x2, x3, x4) := by
  have hfmt : ∀ a b c : Nat, okN a b c = true → s.data.toList = fmtL a b c → ∃ k x1 x2 x3 x4, spec_ParseTask.f k s = some (x1, x2, x3, x4) ∧ impl_ParseTask.f s = some (x1, x2, x3, x4) := by
    intro a b c h hd
    rw [of_data hd]
    obtain ⟨h1, h2⟩ := both_at a b c h
    exact ⟨40, _, _, _, _, h1, h2⟩
  rcases spec_ans s hs with ⟨k, h1⟩ | ⟨a, b, c, h, hd⟩
  · rcases impl_ans s with h2 | ⟨a, b, c, h, hd⟩
    · exact ⟨k, 0, 0, 0, false, h1, h2⟩
    · exact hfmt a b c h hd
  · exact hfmt a b c h hd
end Go.Proofs.YtkgloicnfphmoaaDoor.Print
