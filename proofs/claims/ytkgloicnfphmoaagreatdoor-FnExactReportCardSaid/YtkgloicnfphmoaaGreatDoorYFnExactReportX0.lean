/- What the program and the reference compute, and that both agree. No condition. -/
import Derived.RowKit
import Derived.WalkKit
import Derived.Test.YtkgloicnfphmoaaGreatDoorYFnExactReportP4
import Derived.Test.YtkgloicnfphmoaaGreatDoorYFnExactReportP1
import Derived.Test.YtkgloicnfphmoaaGreatDoorYFnExactReportOpens
import Derived.Test.YtkgloicnfphmoaaGreatDoorYFnExactReportP2
import Derived.Test.YtkgloicnfphmoaaGreatDoorYFnExactReportP3
import Derived.Test.YtkgloicnfphmoaaGreatDoorYFnExactReportPO
import Derived.Test.YtkgloicnfphmoaaGreatDoorYFnExactReportP0
import Derived.Test.YtkgloicnfphmoaaGreatDoorYFnExactReportP5
namespace Go.Proofs.YtkgloicnfphmoaaGreatDoor.Evs
open Go.RowKit
set_option linter.unusedSimpArgs false
set_option linter.unusedVariables false

/-- From some number of rounds on, g tells r. -/
def Tl {α : Type} (g : Nat → Option α) (r : α) : Prop := ∃ k0, ∀ k, k0 ≤ k → g k = some r

theorem Tl.ret {α : Type} (r : α) : Tl (fun _ => some r) r := ⟨0, fun _ _ => rfl⟩
theorem Tl.of_eq {α : Type} {g : Nat → Option α} {r : α} (h : ∀ k, g k = some r) : Tl g r := ⟨0, fun k _ => h k⟩
theorem Tl.step {α : Type} {g : Nat → Option α} {r : α} (h : Tl (fun k => g (k + 1)) r) : Tl g r := by
  obtain ⟨k0, hk⟩ := h
  refine ⟨k0 + 1, fun k hle => ?_⟩
  obtain ⟨m, rfl⟩ : ∃ m, k = m + 1 := ⟨k - 1, by omega⟩
  exact hk m (by omega)
theorem Tl.bind {α β : Type} {g : Nat → Option α} {a : α} {f : α → Nat → Option β} {r : β} (h : Tl g a) (h2 : Tl (f a) r) : Tl (fun k => (g k).bind fun x => f x k) r := by
  obtain ⟨k0, hk⟩ := h
  obtain ⟨k1, hk1⟩ := h2
  refine ⟨max k0 k1, fun k hle => ?_⟩
  show (g k).bind (fun x => f x k) = some r
  rw [hk k (by omega), Option.bind_some]
  exact hk1 k (by omega)
theorem Tl.once {α : Type} {g : Nat → Option α} {r : α} (h : Tl g r) : ∃ k, g k = some r := by
  obtain ⟨k0, hk⟩ := h
  exact ⟨k0, hk k0 (Nat.le_refl _)⟩
theorem Tl.cast {α : Type} {g : Nat → Option α} {r r' : α} (h : Tl g r) (e : r = r') : Tl g r' := e ▸ h
theorem Tl.iteT {α : Type} {c : Prop} [Decidable c] {g g' : Nat → Option α} {r : α} (hc : c) (h : Tl g r) : Tl (fun k => if c then g k else g' k) r := by simpa only [if_pos hc] using h
theorem Tl.iteF {α : Type} {c : Prop} [Decidable c] {g g' : Nat → Option α} {r : α} (hc : ¬ c) (h : Tl g' r) : Tl (fun k => if c then g k else g' k) r := by simpa only [if_neg hc] using h

/-- Downwards. -/
theorem down {Q : Nat → Prop} (n : Nat) (he : Q n) (hs : ∀ j, j < n → Q (j + 1) → Q j) : Q 0 := by
  induction n with
  | zero => exact he
  | succ n ih => exact ih (hs n (by omega) he) (fun j hj => hs j (by omega))
/-- A loop that asks something of each index, and stops at the first 'no'. -/
theorem Tl.all {F : Nat → Int → Option Bool} {n : Nat} {P : Nat → Bool} {fin : Bool}
    (ht : ∀ j, j < n → P j = true → ∀ r, Tl (fun k => F k ((j + 1 : Nat) : Int)) r → Tl (fun k => F k (j : Int)) r)
    (hf : ∀ j, j < n → P j = false → Tl (fun k => F k (j : Int)) false) (he : Tl (fun k => F k (n : Int)) fin) :
    Tl (fun k => F k 0) ((List.range n).all P && fin) := by
  by_cases hall : ∀ j, j < n → P j = true
  · have h1 : ((List.range n).all P) = true := by simpa using hall
    rw [h1, Bool.true_and]
    exact down (Q := fun j => Tl (fun k => F k (j : Int)) fin) n he (fun j hj h => ht j hj (hall j hj) _ h)
  · have h1 : ((List.range n).all P) = false := by simpa using hall
    rw [h1, Bool.false_and]
    clear h1
    have key : ∀ m, m ≤ n → (∃ j, j < m ∧ P j = false) → Tl (fun k => F k 0) false := by
      intro m
      induction m with
      | zero => rintro _ ⟨j, hj, _⟩; omega
      | succ m ih =>
        rintro hm ⟨j, hj, hp⟩
        by_cases hlow : ∃ j, j < m ∧ P j = false
        · exact ih (by omega) hlow
        · have hjm : j = m := by
            rcases Nat.lt_or_ge j m with h | h
            · exact absurd ⟨j, h, hp⟩ hlow
            · omega
          subst hjm
          refine down (Q := fun j => Tl (fun k => F k (j : Int)) false) j (hf j (by omega) hp) (fun i hi h => ht i (by omega) ?_ _ h)
          cases hpi : P i
          · exact absurd ⟨i, hi, hpi⟩ hlow
          · rfl
    refine key n (Nat.le_refl _) ?_
    apply Classical.byContradiction
    intro hno
    refine hall (fun j hj => ?_)
    cases hp : P j
    · exact absurd ⟨j, hj, hp⟩ hno
    · rfl

theorem wrap_id {n : Int} (h1 : -9223372036854775808 ≤ n) (h2 : n ≤ 9223372036854775807) : wrap64 n = n := by unfold wrap64; omega
theorem wrap_succ {j n : Nat} (h : j < n) (hn : n ≤ 9223372036854775807) : wrap64 ((j : Int) + 1) = ((j + 1 : Nat) : Int) := by unfold wrap64; omega
end Go.Proofs.YtkgloicnfphmoaaGreatDoor.Evs

namespace Go.Proofs.YtkgloicnfphmoaaGreatDoor.Evs
theorem fill_zero {α : Type} (xs : List α) (z : α) : xs.take 0 ++ List.replicate (xs.length - 0) z = List.replicate xs.length z := by simp
theorem fill_set {α : Type} (xs : List α) (z : α) {j : Nat} (hj : j < xs.length) (x : α) (hx : x = xs.getD j z) :
    (xs.take j ++ List.replicate (xs.length - j) z).set j x = xs.take (j + 1) ++ List.replicate (xs.length - (j + 1)) z := by
  have h1 : (xs.take j).length = j := by simp; omega
  rw [List.set_append_right _ _ (by omega), h1, Nat.sub_self]
  obtain ⟨m, hm⟩ : ∃ m, xs.length - j = m + 1 := ⟨xs.length - j - 1, by omega⟩
  rw [hm, List.replicate_succ, List.set_cons_zero, List.take_succ_eq_append_getElem hj, List.append_assoc, hx]
  have h2 : xs.length - (j + 1) = m := by omega
  rw [h2]
  simp [List.getD_eq_getElem?_getD, hj]
theorem fill_len {α : Type} (xs : List α) (z : α) {j : Nat} (hj : j ≤ xs.length) : (xs.take j ++ List.replicate (xs.length - j) z).length = xs.length := by simp; omega
theorem fill_end {α : Type} (xs : List α) (z : α) : xs.take xs.length ++ List.replicate (xs.length - xs.length) z = xs := by simp
theorem all_range {α : Type} (l : List α) (z : α) (p : α → Bool) : (List.range l.length).all (fun j => p (l.getD j z)) = l.all p := by
  rw [Bool.eq_iff_iff, List.all_eq_true, List.all_eq_true]
  constructor
  · intro h x hx
    obtain ⟨i, hi, rfl⟩ := List.getElem_of_mem hx
    have := h i (by simpa using hi)
    simpa [List.getD_eq_getElem?_getD, hi] using this
  · intro h j hj
    have hj' : j < l.length := by simpa using hj
    have := h l[j] (List.getElem_mem hj')
    simpa [List.getD_eq_getElem?_getD, hj'] using this
end Go.Proofs.YtkgloicnfphmoaaGreatDoor.Evs

namespace Go.Proofs.YtkgloicnfphmoaaGreatDoor.Print
open Go.RowKit Go.Proofs.YtkgloicnfphmoaaGreatDoorW.PrintWords Go.Proofs.YtkgloicnfphmoaaGreatDoor.Evs
set_option linter.unusedSimpArgs false
set_option linter.unusedVariables false
def okN (a b c : Nat) : Bool := decide (1 ≤ a ∧ a ≤ 8 ∧ a ≤ b ∧ b ≤ c ∧ c ≤ 12)
/-- The line of a task. -/
def fmtL (a b c : Nat) : List UInt8 := [116, 97, 115, 107] ++ 32 :: (Lib.decDigits a ++ 32 :: (Lib.decDigits b ++ 32 :: Lib.decDigits c))
/-- Both read a formatted line. -/
def bothB (a b c : Nat) : Bool :=
  decide (spec_ParseTask.f 40 ⟨(fmtL a b c).toArray⟩ = some ((a : Int), (b : Int), (c : Int), true)) && decide (impl_ParseTask.g ⟨(fmtL a b c).toArray⟩ = some ((a : Int), (b : Int), (c : Int), true))
def allB (a : Nat) : Bool := (List.range 13).all fun b => (List.range 13).all fun c => !(okN a b c) || bothB a b c
theorem all1 : allB 1 = true := by decide +kernel
theorem all2 : allB 2 = true := by decide +kernel
theorem all3 : allB 3 = true := by decide +kernel
theorem all4 : allB 4 = true := by decide +kernel
theorem all5 : allB 5 = true := by decide +kernel
theorem all6 : allB 6 = true := by decide +kernel
theorem all7 : allB 7 = true := by decide +kernel
theorem all8 : allB 8 = true := by decide +kernel
theorem both_at (a b c : Nat) (h : okN a b c = true) : spec_ParseTask.f 40 ⟨(fmtL a b c).toArray⟩ = some ((a : Int), (b : Int), (c : Int), true) ∧ impl_ParseTask.g ⟨(fmtL a b c).toArray⟩ = some ((a : Int), (b : Int), (c : Int), true) := by
  have hv := of_decide_eq_true h
  have hall : allB a = true := by
    have : a = 1 ∨ a = 2 ∨ a = 3 ∨ a = 4 ∨ a = 5 ∨ a = 6 ∨ a = 7 ∨ a = 8 := by omega
    rcases this with rfl | rfl | rfl | rfl | rfl | rfl | rfl | rfl
    · exact all1
    · exact all2
    · exact all3
    · exact all4
    · exact all5
    · exact all6
    · exact all7
    · exact all8
  have h1 := List.all_eq_true.1 hall b (List.mem_range.2 (by omega))
  have h2 := List.all_eq_true.1 h1 c (List.mem_range.2 (by omega))
  rw [h] at h2
  have h3 : bothB a b c = true := by simpa using h2
  unfold bothB at h3
  rw [Bool.and_eq_true] at h3
  exact ⟨of_decide_eq_true h3.1, of_decide_eq_true h3.2⟩
theorem of_data {s : ByteArray} {l : List UInt8} (h : s.data.toList = l) : s = ⟨l.toArray⟩ := by
  subst h
  rfl

theorem toL (s : ByteArray) : s.toList = s.data.toList := Lib.toList_data s
theorem itv (a b c : Int) : impl_TaskValid.f a b c = some (decide (1 ≤ a ∧ a ≤ 8 ∧ a ≤ b ∧ b ≤ c ∧ c ≤ 12)) := by
  have h : ∀ x y z : Int, impl_in.f x y z = some (decide (y ≤ x ∧ x ≤ z)) := by
    intro x y z
    unfold impl_in.f
    by_cases h1 : y ≤ x
    · by_cases h2 : x ≤ z <;> simp [h1, h2]
    · simp [h1]
  unfold impl_TaskValid.f
  rw [h, h, Option.bind_some, Option.bind_some]
  by_cases h1 : 1 ≤ a ∧ a ≤ 8
  · rw [decide_eq_true h1, if_pos rfl]
    by_cases h2 : a ≤ b ∧ b ≤ c
    · rw [decide_eq_true h2, if_pos rfl]
      congr 1
      exact decide_eq_decide.2 ⟨fun g => ⟨h1.1, h1.2, h2.1, h2.2, g⟩, fun g => g.2.2.2.2⟩
    · rw [decide_eq_false h2, if_neg (by simp), decide_eq_false (fun g => h2 ⟨g.2.2.1, g.2.2.2.1⟩)]
  · rw [decide_eq_false h1, if_neg (by simp), decide_eq_false (fun g => h1 ⟨g.1, g.2.1⟩)]
theorem stv (a b c : Int) : spec_TaskValid.f a b c = some (decide (1 ≤ a ∧ a ≤ 8 ∧ a ≤ b ∧ b ≤ c ∧ c ≤ 12)) := by
  have h : ∀ x y z : Int, spec_l1In.f x y z = some (decide (y ≤ x ∧ x ≤ z)) := by
    intro x y z
    unfold spec_l1In.f
    by_cases h1 : y ≤ x
    · by_cases h2 : x ≤ z <;> simp [h1, h2]
    · simp [h1]
  unfold spec_TaskValid.f
  rw [h, h, h, Option.bind_some, Option.bind_some, Option.bind_some]
  by_cases h1 : 1 ≤ a ∧ a ≤ 8
  · rw [decide_eq_true h1, if_pos rfl]
    by_cases h2 : a ≤ b ∧ b ≤ c
    · rw [decide_eq_true h2, if_pos rfl]
      congr 1
      exact decide_eq_decide.2 ⟨fun g => ⟨h1.1, h1.2, h2.1, h2.2, g.2⟩, fun g => ⟨by omega, g.2.2.2.2⟩⟩
    · rw [decide_eq_false h2, if_neg (by simp), decide_eq_false (fun g => h2 ⟨g.2.2.1, g.2.2.2.1⟩)]
  · rw [decide_eq_false h1, if_neg (by simp), decide_eq_false (fun g => h1 ⟨g.1, g.2.1⟩)]
theorem itoa_nat (n : Nat) : Lib.itoa (n : Int) = Lib.decDigits n := by
  unfold Lib.itoa
  rw [if_neg (by omega), Int.toNat_natCast]
theorem itoa_small (n : Nat) (h : n ≤ 12) : strconv_Itoa_20.f (n : Int) = some ⟨(Lib.decDigits n).toArray⟩ := by
  unfold strconv_Itoa_20.f
  rw [if_pos (by omega), itoa_nat]
theorem dec_size (n : Nat) (h : n ≤ 12) : (⟨(Lib.decDigits n).toArray⟩ : ByteArray).size ≤ 100 := by
  have hc : n = 0 ∨ n = 1 ∨ n = 2 ∨ n = 3 ∨ n = 4 ∨ n = 5 ∨ n = 6 ∨ n = 7 ∨ n = 8 ∨ n = 9 ∨ n = 10 ∨ n = 11 ∨ n = 12 := by omega
  rcases hc with rfl | rfl | rfl | rfl | rfl | rfl | rfl | rfl | rfl | rfl | rfl | rfl | rfl
  all_goals decide +kernel
/-- What the program's FormatTask writes. -/
theorem format_f (a b c : Int) : (∃ x y z : Nat, okN x y z = true ∧ a = x ∧ b = y ∧ c = z ∧ ∃ l, impl_FormatTask.f a b c = some l ∧ l.data.toList = fmtL x y z) ∨ impl_FormatTask.f a b c = some ⟨#[]⟩ := by
  unfold impl_FormatTask.f
  rw [itv, Option.bind_some]
  by_cases h : 1 ≤ a ∧ a ≤ 8 ∧ a ≤ b ∧ b ≤ c ∧ c ≤ 12
  · left
    rw [decide_eq_true h, if_pos rfl]
    obtain ⟨m, rfl⟩ : ∃ m : Nat, a = (m : Int) := ⟨a.toNat, by omega⟩
    obtain ⟨p, rfl⟩ : ∃ p : Nat, b = (p : Int) := ⟨b.toNat, by omega⟩
    obtain ⟨q, rfl⟩ : ∃ q : Nat, c = (q : Int) := ⟨c.toNat, by omega⟩
    refine ⟨m, p, q, decide_eq_true (by omega), rfl, rfl, rfl, ?_⟩
    have s1 := dec_size m (by omega)
    have s2 := dec_size p (by omega)
    have s3 := dec_size q (by omega)
    rw [itoa_small m (by omega), itoa_small p (by omega), itoa_small q (by omega)]
    have l1 : (⟨#[116, 97, 115, 107, 32]⟩ : ByteArray).size = 5 := rfl
    have l2 : (⟨#[32]⟩ : ByteArray).size = 1 := rfl
    simp only [Option.bind_some, ByteArray.size_append, l1, l2]
    rw [if_pos (by omega), if_pos (by omega), if_pos (by omega), if_pos (by omega), if_pos (by omega)]
    refine ⟨_, rfl, ?_⟩
    unfold fmtL
    simp [ByteArray.data_append]
  · right
    rw [decide_eq_false h]
    rfl
theorem impl_ans (s : ByteArray) : impl_ParseTask.g s = some (0, 0, 0, false) ∨ ∃ a b c : Nat, okN a b c = true ∧ s.data.toList = fmtL a b c := by
  unfold impl_ParseTask.g
  by_cases h : s.size ≤ 20 ∧ (pieces s).length = 4
  · rw [if_pos h]
    rcases format_f (numB (piece s 1)) (numB (piece s 2)) (numB (piece s 3)) with ⟨x, y, z, hok, h1, h2, h3, l, hl, hd⟩ | hl
    · rw [hl, Option.bind_some]
      by_cases he : l.toList = s.toList
      · right
        rw [toL, toL, hd] at he
        exact ⟨x, y, z, hok, he.symm⟩
      · left; rw [if_neg he]
    · rw [hl, Option.bind_some]
      left
      rw [if_neg]
      intro he
      rw [toL, toL] at he
      have : s = ⟨#[]⟩ := of_data (l := []) he.symm
      subst this
      exact absurd h.2 (by decide +kernel)
  · rw [if_neg h]; exact Or.inl rfl
/-! ### The reference -/
/-- Fields joined by spaces. -/
def jn : List ByteArray → List UInt8
  | [] => []
  | [x] => x.data.toList
  | x :: y :: r => x.data.toList ++ 32 :: jn (y :: r)
theorem jn_snoc (x w : ByteArray) : ∀ acc : List ByteArray, jn (acc ++ [w] ++ [x]) = jn (acc ++ [w]) ++ 32 :: x.data.toList
  | [] => rfl
  | [a] => by show a.data.toList ++ 32 :: (w.data.toList ++ 32 :: x.data.toList) = (a.data.toList ++ 32 :: w.data.toList) ++ 32 :: x.data.toList; simp
  | a :: b :: r => by
    have ih := jn_snoc x w (b :: r)
    show a.data.toList ++ 32 :: jn (b :: r ++ [w] ++ [x]) = (a.data.toList ++ 32 :: jn (b :: r ++ [w])) ++ 32 :: x.data.toList
    rw [ih]; simp
theorem jn_last (x w : ByteArray) : ∀ acc : List ByteArray, jn (acc ++ [w ++ x]) = jn (acc ++ [w]) ++ x.data.toList
  | [] => by show (w ++ x).data.toList = w.data.toList ++ x.data.toList; simp [ByteArray.data_append]
  | [a] => by show a.data.toList ++ 32 :: (w ++ x).data.toList = (a.data.toList ++ 32 :: w.data.toList) ++ x.data.toList; simp [ByteArray.data_append]
  | a :: b :: r => by
    have ih := jn_last x w (b :: r)
    show a.data.toList ++ 32 :: jn (b :: r ++ [w ++ x]) = (a.data.toList ++ 32 :: jn (b :: r ++ [w])) ++ x.data.toList
    rw [ih]; simp
theorem bt_list (s : ByteArray) (i : Nat) (h : i < s.size) : ∃ c : UInt8, s.data.toList[i]? = some c ∧ bt s i = (c.toNat : Int) := by
  refine ⟨s[i], ?_, ?_⟩
  · have : i < s.data.size := h
    rw [Array.getElem?_toList, Array.getElem?_eq_getElem this]
    rfl
  · unfold bt
    simp [h]
theorem fields_ev (s : ByteArray) (hs : s.size ≤ 1048576) : ∃ fs, Tl (fun k => spec_l10Fields.f k s) fs ∧ jn fs = s.data.toList := by
  have key : ∀ (acc : List ByteArray) (w : ByteArray), acc.length ≤ 0 → w.size ≤ 0 → jn (acc ++ [w]) = s.data.toList.take 0 → ∃ fs, Tl (fun k => spec_l10Fields.l0 k s acc w ((0 : Nat) : Int)) fs ∧ jn fs = s.data.toList := by
    refine down (Q := fun i => ∀ (acc : List ByteArray) (w : ByteArray), acc.length ≤ i → w.size ≤ i → jn (acc ++ [w]) = s.data.toList.take i → ∃ fs, Tl (fun k => spec_l10Fields.l0 k s acc w (i : Int)) fs ∧ jn fs = s.data.toList) s.size ?_ ?_
    · intro acc w h1 h2 h3
      refine ⟨acc ++ [w], ?_, ?_⟩
      · refine Tl.step ?_
        simp only [spec_l10Fields.l0]
        exact Tl.iteF (by omega) (Tl.iteT (by omega) (Tl.ret _))
      · rw [h3, List.take_of_length_le (by rw [← Lib.size_eq]; exact Nat.le_refl _)]
    · intro i hi ih acc w h1 h2 h3
      obtain ⟨c, hc, hb⟩ := bt_list s i hi
      have ht : s.data.toList.take (i + 1) = s.data.toList.take i ++ [c] := by rw [List.take_add_one, hc]; rfl
      have hw : wrap64 ((i : Int) + 1) = ((i + 1 : Nat) : Int) := by unfold wrap64; omega
      by_cases h32 : c = 32
      · subst h32
        obtain ⟨fs, hf, hj⟩ := ih (acc ++ [w]) ⟨#[]⟩ (by simp; omega) (by show 0 ≤ _; omega) (by rw [jn_snoc, h3, ht])
        refine ⟨fs, Tl.step ?_, hj⟩
        simp only [spec_l10Fields.l0]
        refine Tl.iteT (by omega) (Tl.iteT (by omega) (Tl.iteT (by rw [hb]; rfl) (Tl.iteT (by omega) ?_)))
        rw [hw]
        exact hf
      · have hne : ¬ ((c.toNat : Int) = 32) := fun e => h32 (UInt8.toNat_inj.1 (show c.toNat = 32 by omega))
        have hx : (s.extract i (i + 1)).data.toList = [c] := by
          have e := Lib.extract_data s i (i + 1)
          rw [e, show i + 1 - i = 1 by omega]
          obtain ⟨hlt, hv⟩ := List.getElem?_eq_some_iff.1 hc
          rw [List.drop_eq_getElem_cons hlt, hv]
          rfl
        have hsz : (s.extract i (i + 1)).size = 1 := by rw [Lib.size_eq, hx]; rfl
        obtain ⟨fs, hf, hj⟩ := ih acc (w ++ s.extract i (i + 1)) (by omega) (by rw [ByteArray.size_append, hsz]; omega) (by rw [jn_last, h3, ht, hx])
        refine ⟨fs, Tl.step ?_, hj⟩
        simp only [spec_l10Fields.l0]
        rw [hw, Int.toNat_natCast, Int.toNat_natCast]
        exact Tl.iteT (by omega) (Tl.iteT (by omega) (Tl.iteF (by rw [hb]; exact hne) (Tl.iteT (by omega) (Tl.iteT (by omega) (Tl.iteT (by rw [hsz]; omega) hf)))))
  obtain ⟨fs, h1, h2⟩ := key [] ⟨#[]⟩ (Nat.le_refl _) (Nat.le_refl _) rfl
  exact ⟨fs, h1, h2⟩
theorem plain_ev (n : Nat) (h : n ≤ 99) : Tl (fun k => spec_l10Plain.f k (n : Int)) ⟨(Lib.decDigits n).toArray⟩ := by
  have h3 : ((List.range 100).all fun n => decide (spec_l10Plain.f 3 (n : Int) = some ⟨(Lib.decDigits n).toArray⟩)) = true := by decide +kernel
  have h4 := of_decide_eq_true (List.all_eq_true.1 h3 n (List.mem_range.2 (by omega)))
  refine ⟨3, fun k hk => ?_⟩
  obtain ⟨d, rfl⟩ : ∃ d, k = 3 + d := ⟨k - 3, by omega⟩
  clear hk
  induction d with
  | zero => exact h4
  | succ d ih => exact spec_l10Plain.mono _ (3 + d) _ ih
/-- A number: -1, or one of at most two digits that is written so. -/
theorem num_ev (s : ByteArray) : ∃ r : Int, Tl (fun k => spec_l10Num.f k s) r ∧ (r = -1 ∨ ∃ n : Nat, r = n ∧ s.data.toList = Lib.decDigits n) := by
  have hfin : ∀ n : Nat, n ≤ 99 → ∃ r : Int, Tl (fun k => spec_l10Num.l0 k s (n : Int) (s.size : Int)) r ∧ (r = -1 ∨ ∃ n : Nat, r = n ∧ s.data.toList = Lib.decDigits n) := by
    intro n hn
    by_cases he : (⟨(Lib.decDigits n).toArray⟩ : ByteArray).toList = s.toList
    · refine ⟨n, Tl.step ?_, Or.inr ⟨n, rfl, ?_⟩⟩
      · simp only [spec_l10Num.l0]
        refine Tl.iteF (by omega) (Tl.bind (plain_ev n hn) (f := fun t k => if t.toList = s.toList then some (n : Int) else some (-1)) ?_)
        exact Tl.iteT he (Tl.ret _)
      · rw [toL, toL] at he
        exact he.symm
    · refine ⟨-1, Tl.step ?_, Or.inl rfl⟩
      simp only [spec_l10Num.l0]
      refine Tl.iteF (by omega) (Tl.bind (plain_ev n hn) (f := fun t k => if t.toList = s.toList then some (n : Int) else some (-1)) ?_)
      exact Tl.iteF he (Tl.ret _)
  have hstep : ∀ (n i : Nat), i < s.size → i ≤ 1 → n ≤ 9 → (∀ m : Nat, m ≤ 10 * n + 9 → ∃ r : Int, Tl (fun k => spec_l10Num.l0 k s (m : Int) ((i + 1 : Nat) : Int)) r ∧ (r = -1 ∨ ∃ n : Nat, r = n ∧ s.data.toList = Lib.decDigits n)) → ∃ r : Int, Tl (fun k => spec_l10Num.l0 k s (n : Int) (i : Int)) r ∧ (r = -1 ∨ ∃ n : Nat, r = n ∧ s.data.toList = Lib.decDigits n) := by
    intro n i hi h1 hn ih
    obtain ⟨c, _, hb⟩ := bt_list s i hi
    have hw : wrap64 ((i : Int) + 1) = ((i + 1 : Nat) : Int) := by unfold wrap64; omega
    by_cases hlo : (c.toNat : Int) < 48
    · refine ⟨-1, Tl.step ?_, Or.inl rfl⟩
      simp only [spec_l10Num.l0]
      exact Tl.iteT (by omega) (Tl.iteT (by omega) (Tl.iteT (by rw [hb]; exact hlo) (Tl.ret _)))
    by_cases hhi : (c.toNat : Int) > 57
    · refine ⟨-1, Tl.step ?_, Or.inl rfl⟩
      simp only [spec_l10Num.l0]
      exact Tl.iteT (by omega) (Tl.iteT (by omega) (Tl.iteF (by rw [hb]; exact hlo) (Tl.iteT (by rw [hb]; exact hhi) (Tl.ret _))))
    obtain ⟨r, hr, hor⟩ := ih (10 * n + (c.toNat - 48)) (by omega)
    refine ⟨r, Tl.step ?_, hor⟩
    have hv : wrap64 (wrap64 ((n : Int) * 10) + ((c.toNat : Int) - 48) % 256) = ((10 * n + (c.toNat - 48) : Nat) : Int) := by unfold wrap64; omega
    simp only [spec_l10Num.l0]
    refine Tl.iteT (by omega) (Tl.iteT (by omega) (Tl.iteF (by rw [hb]; exact hlo) (Tl.iteF (by rw [hb]; exact hhi) ?_)))
    rw [hb, hv, hw]
    exact hr
  by_cases h0 : s.size = 0
  · refine ⟨-1, ?_, Or.inl rfl⟩
    unfold spec_l10Num.f
    refine Tl.iteT (by omega) (Tl.step ?_)
    simp only [spec_l10Num.j0]
    exact Tl.iteT trivial (Tl.ret _)
  by_cases h2 : s.size > 2
  · refine ⟨-1, ?_, Or.inl rfl⟩
    unfold spec_l10Num.f
    refine Tl.iteF (by omega) (Tl.step ?_)
    simp only [spec_l10Num.j0]
    exact Tl.iteT (decide_eq_true (by omega)) (Tl.ret _)
  have hgo : ∃ r : Int, Tl (fun k => spec_l10Num.l0 k s ((0 : Nat) : Int) ((0 : Nat) : Int)) r ∧ (r = -1 ∨ ∃ n : Nat, r = n ∧ s.data.toList = Lib.decDigits n) := by
    refine hstep 0 0 (by omega) (by omega) (by omega) fun m hm => ?_
    by_cases h1 : s.size = 1
    · have := hfin m (by omega)
      rw [h1] at this
      exact this
    · refine hstep m 1 (by omega) (by omega) (by omega) fun q hq => ?_
      have := hfin q (by omega)
      rw [show s.size = 2 by omega] at this
      exact this
  obtain ⟨r, hr, hor⟩ := hgo
  refine ⟨r, ?_, hor⟩
  unfold spec_l10Num.f
  refine Tl.iteF (by omega) (Tl.step ?_)
  simp only [spec_l10Num.j0]
  exact Tl.iteF (by rw [decide_eq_false (by omega)]; exact Bool.false_ne_true) hr
theorem spec_ans (s : ByteArray) (hs : s.size ≤ 1048576) : (∃ k, spec_ParseTask.f k s = some (0, 0, 0, false)) ∨ ∃ a b c : Nat, okN a b c = true ∧ s.data.toList = fmtL a b c := by
  obtain ⟨fs, hf, hj⟩ := fields_ev s hs
  have hjt : Tl (fun k => spec_ParseTask.j0 k fs true) (0, 0, 0, false) := by
    refine Tl.step ?_
    simp only [spec_ParseTask.j0]
    exact Tl.iteT trivial (Tl.ret _)
  by_cases hA : 20 < s.size
  · left
    apply Tl.once
    unfold spec_ParseTask.f
    refine Tl.bind hf (f := fun t102 k => if (s.size : Int) > 20 then (spec_ParseTask.j0 k t102 true) else (if (t102.length : Int) = 4 then (if 0 < (t102.length : Int) then (spec_ParseTask.j0 k t102 ((rdOf ByteArray.empty t102 0).toList != ([116, 97, 115, 107] : List UInt8))) else (none)) else (spec_ParseTask.j0 k t102 true))) ?_
    exact Tl.iteT (by omega) hjt
  by_cases hB : fs.length = 4
  · match fs, hB with
    | [f0, f1, f2, f3], _ =>
      by_cases ht : f0.toList = [116, 97, 115, 107]
      · obtain ⟨r1, e1, o1⟩ := num_ev f1
        obtain ⟨r2, e2, o2⟩ := num_ev f2
        obtain ⟨r3, e3, o3⟩ := num_ev f3
        by_cases hv : 1 ≤ r1 ∧ r1 ≤ 8 ∧ r1 ≤ r2 ∧ r2 ≤ r3 ∧ r3 ≤ 12
        · right
          rcases o1 with o1 | ⟨a, ea, da⟩
          · omega
          rcases o2 with o2 | ⟨b, eb, db⟩
          · omega
          rcases o3 with o3 | ⟨c, ec, dc⟩
          · omega
          refine ⟨a, b, c, decide_eq_true (by omega), ?_⟩
          rw [← hj]
          show f0.data.toList ++ 32 :: (f1.data.toList ++ 32 :: (f2.data.toList ++ 32 :: f3.data.toList)) = _
          rw [← toL f0, ht, da, db, dc]
          rfl
        · left
          apply Tl.once
          unfold spec_ParseTask.f
          refine Tl.bind hf (f := fun t102 k => if (s.size : Int) > 20 then (spec_ParseTask.j0 k t102 true) else (if (t102.length : Int) = 4 then (if 0 < (t102.length : Int) then (spec_ParseTask.j0 k t102 ((rdOf ByteArray.empty t102 0).toList != ([116, 97, 115, 107] : List UInt8))) else (none)) else (spec_ParseTask.j0 k t102 true))) ?_
          refine Tl.iteF (by omega) (Tl.iteT rfl (Tl.iteT (show (0 : Int) < 4 by omega) (Tl.step ?_)))
          have hr0 : rdOf ByteArray.empty [f0, f1, f2, f3] 0 = f0 := rfl
          have hr1 : rdOf ByteArray.empty [f0, f1, f2, f3] 1 = f1 := rfl
          have hr2 : rdOf ByteArray.empty [f0, f1, f2, f3] 2 = f2 := rfl
          have hr3 : rdOf ByteArray.empty [f0, f1, f2, f3] 3 = f3 := rfl
          simp only [spec_ParseTask.j0, hr0, hr1, hr2, hr3, ht]
          refine Tl.iteF (by decide) (Tl.iteT (show (1 : Int) < 4 by omega) (Tl.bind e1 (f := fun t107 k => if 2 < (([f0, f1, f2, f3] : List ByteArray).length : Int) then ((spec_l10Num.f k f2).bind fun t109 => (if 3 < (([f0, f1, f2, f3] : List ByteArray).length : Int) then ((spec_l10Num.f k f3).bind fun t111 => ((spec_TaskValid.f t107 t109 t111).bind fun t113 => (if t113 = true then (some (t107, t109, t111, true)) else (some (0, 0, 0, false))))) else (none))) else (none)) ?_))
          refine Tl.iteT (show (2 : Int) < 4 by omega) (Tl.bind e2 (f := fun t109 k => (if 3 < (([f0, f1, f2, f3] : List ByteArray).length : Int) then ((spec_l10Num.f k f3).bind fun t111 => ((spec_TaskValid.f r1 t109 t111).bind fun t113 => (if t113 = true then (some (r1, t109, t111, true)) else (some (0, 0, 0, false))))) else (none))) ?_)
          refine Tl.iteT (show (3 : Int) < 4 by omega) (Tl.bind e3 (f := fun t111 k => ((spec_TaskValid.f r1 r2 t111).bind fun t113 => (if t113 = true then (some (r1, r2, t111, true)) else (some (0, 0, 0, false))))) ?_)
          refine Tl.of_eq fun k => ?_
          rw [stv, Option.bind_some, decide_eq_false hv, if_neg Bool.false_ne_true]
      · left
        apply Tl.once
        unfold spec_ParseTask.f
        refine Tl.bind hf (f := fun t102 k => if (s.size : Int) > 20 then (spec_ParseTask.j0 k t102 true) else (if (t102.length : Int) = 4 then (if 0 < (t102.length : Int) then (spec_ParseTask.j0 k t102 ((rdOf ByteArray.empty t102 0).toList != ([116, 97, 115, 107] : List UInt8))) else (none)) else (spec_ParseTask.j0 k t102 true))) ?_
        refine Tl.iteF (by omega) (Tl.iteT rfl (Tl.iteT (show (0 : Int) < 4 by omega) ?_))
        have hr0 : ((rdOf ByteArray.empty [f0, f1, f2, f3] 0).toList != ([116, 97, 115, 107] : List UInt8)) = true := bne_iff_ne.mpr ht
        rw [hr0]
        exact hjt
  · left
    apply Tl.once
    unfold spec_ParseTask.f
    refine Tl.bind hf (f := fun t102 k => if (s.size : Int) > 20 then (spec_ParseTask.j0 k t102 true) else (if (t102.length : Int) = 4 then (if 0 < (t102.length : Int) then (spec_ParseTask.j0 k t102 ((rdOf ByteArray.empty t102 0).toList != ([116, 97, 115, 107] : List UInt8))) else (none)) else (spec_ParseTask.j0 k t102 true))) ?_
    exact Tl.iteF (by omega) (Tl.iteF (by omega) hjt)
theorem FnExactParseTask_pure (s : ByteArray) (hs : s.size ≤ 1048576) : ∃ k x1 x2 x3 x4, spec_ParseTask.f k s = some (x1, x2, x3, x4) ∧ impl_ParseTask.g s = some (x1, x2, x3, x4) := by
  have hfmt : ∀ a b c : Nat, okN a b c = true → s.data.toList = fmtL a b c → ∃ k x1 x2 x3 x4, spec_ParseTask.f k s = some (x1, x2, x3, x4) ∧ impl_ParseTask.g s = some (x1, x2, x3, x4) := by
    intro a b c h hd
    rw [of_data hd]
    obtain ⟨h1, h2⟩ := both_at a b c h
    exact ⟨40, _, _, _, _, h1, h2⟩
  rcases spec_ans s hs with ⟨k, h1⟩ | ⟨a, b, c, h, hd⟩
  · rcases impl_ans s with h2 | ⟨a, b, c, h, hd⟩
    · exact ⟨k, 0, 0, 0, false, h1, h2⟩
    · exact hfmt a b c h hd
  · exact hfmt a b c h hd
end Go.Proofs.YtkgloicnfphmoaaGreatDoor.Print

namespace Go.Proofs.YtkgloicnfphmoaaGreatDoor.Print
open Go.RowKit Go.Proofs.YtkgloicnfphmoaaGreatDoorW.PrintWords Go.Proofs.YtkgloicnfphmoaaGreatDoor.Evs Go.Proofs.YtkgloicnfphmoaaGreatDoor.Opens
set_option linter.unusedSimpArgs false
set_option linter.unusedVariables false
theorem ba_ext {a b : ByteArray} (h : a.data.toList = b.data.toList) : a = b := by
  cases a; cases b
  congr 1
  exact Array.toList_inj.1 h
/-- The decimal digits of a number, as a string. -/
def dd (n : Nat) : ByteArray := ⟨(Lib.decDigits n).toArray⟩
theorem dd_small {n : Nat} (h : n ≤ 9) : dd n = strOfNums [((48 + n : Nat) : Int)] := by
  apply ba_ext
  unfold dd
  rw [Lib.decDigits_one (by omega), strOfNums_data]
  simp only [List.map_cons, List.map_nil, Int.toNat_natCast]
theorem dd_step {n : Nat} (h : 9 < n) : dd n = dd (n / 10) ++ strOfNums [((48 + n % 10 : Nat) : Int)] := by
  apply ba_ext
  rw [ByteArray.data_append, Array.toList_append, strOfNums_data]
  show Lib.decDigits n = Lib.decDigits (n / 10) ++ _
  rw [Lib.decDigits, dif_neg (by omega)]
  simp only [List.map_cons, List.map_nil, Int.toNat_natCast]
theorem one_size (x : Int) : (strOfNums [x]).size = 1 := by rw [strOfNums_size]; rfl
theorem dd_size : ∀ (d n : Nat), n < 10 ^ d → (dd n).size ≤ d + 1
  | 0, n, h => by
    rw [dd_small (by omega), one_size]
    omega
  | d + 1, n, h => by
    by_cases h9 : n ≤ 9
    · rw [dd_small h9, one_size]; omega
    · rw [Nat.pow_succ] at h
      have := dd_size d (n / 10) (by omega)
      rw [dd_step (by omega), ByteArray.size_append, one_size]
      omega
theorem dig_eq (n : Nat) (h : n ≤ 1000000000) : (wrap64 (48 + Int.tmod (n : Int) 10)) % 256 = ((48 + n % 10 : Nat) : Int) := by
  rw [Int.tmod_eq_emod_of_nonneg (by omega)]
  unfold wrap64
  omega
theorem div_eq (n : Nat) (h : n ≤ 1000000000) : wrap64 (Int.tdiv (n : Int) 10) = ((n / 10 : Nat) : Int) := by
  rw [Int.tdiv_eq_ediv_of_nonneg (by omega)]
  unfold wrap64
  omega
theorem plain_at : ∀ (d n : Nat) (acc : ByteArray), n < 10 ^ d → n ≤ 1000000000 → d + acc.size ≤ 1000 → Tl (fun k => spec_l10Plain.l0 k (n : Int) acc) (dd n ++ acc)
  | d, n, acc, h, h1, h2 => by
    refine Tl.step ?_
    simp only [spec_l10Plain.l0, Option.bind_some, one_size]
    by_cases h9 : n ≤ 9
    · refine Tl.iteF (by omega) (Tl.iteT (by omega) ?_)
      rw [show wrap64 (48 + (n : Int)) % 256 = ((48 + n : Nat) : Int) by unfold wrap64; omega, ← dd_small h9]
      exact Tl.ret _
    · match d, h, h2 with
      | 0, h, h2 => omega
      | d + 1, h, h2 =>
        refine Tl.iteT (by omega) (Tl.iteT (by omega) ?_)
        rw [dig_eq n h1, div_eq n h1]
        rw [Nat.pow_succ] at h
        refine Tl.cast (plain_at d (n / 10) (strOfNums [((48 + n % 10 : Nat) : Int)] ++ acc) (by omega) (by omega) (by rw [ByteArray.size_append, one_size]; omega)) ?_
        rw [dd_step (n := n) (by omega), ByteArray.append_assoc]
theorem big_pow {n : Nat} (h : n ≤ 1000000000) : n < 10 ^ 10 := by
  have : (10 : Nat) ^ 10 = 10000000000 := by decide
  omega
theorem plainN_ev (n : Nat) (h : n ≤ 1000000000) : Tl (fun k => spec_l10Plain.f k (n : Int)) (dd n) := by
  unfold spec_l10Plain.f
  refine Tl.cast (plain_at 10 n ⟨#[]⟩ (big_pow h) h (by show 10 + 0 ≤ 1000; omega)) ?_
  apply ba_ext
  rw [ByteArray.data_append]
  simp
theorem ddB (n : Nat) (h : n ≤ 1000000000) : (dd n).size ≤ 11 := dd_size 10 n (big_pow h)
theorem itoaN (n : Nat) (h : n ≤ 1000000000) : strconv_Itoa_20.f (n : Int) = some (dd n) := by
  unfold strconv_Itoa_20.f
  rw [if_pos (by omega), itoa_nat]
  rfl
/-! ### Rows of strings -/
theorem toStringS_ev (l : List ByteArray) (hl : l.length ≤ 1048576) : Tl (fun k => laws_toStringS.f k l) l := by
  unfold laws_toStringS.f
  have c1 := eq_true (show 0 ≤ (l.length : Int) by omega)
  have c2 := eq_true (show l.length ≤ 17592186044416 by omega)
  simp only [c1, c2, if_true, Int.toNat_natCast]
  have key := down (Q := fun j => Tl (fun k => laws_toStringS.l0 k l (l.take j ++ List.replicate (l.length - j) ⟨#[]⟩) (j : Int)) l) l.length ?_ ?_
  · rw [fill_zero] at key; exact key
  · refine Tl.step ?_
    have c3 := eq_false (show ¬ ((l.length : Int) < (l.length : Int)) by omega)
    rw [fill_end]
    simp only [laws_toStringS.l0, c3, if_false]
    exact Tl.ret _
  · intro j hj h
    refine Tl.step ?_
    have c3 := eq_true (show (j : Int) < (l.length : Int) by omega)
    have c4 := eq_true (show 0 ≤ (j : Int) by omega)
    have c5 := eq_true (show (j : Int) < ((l.take j ++ List.replicate (l.length - j) (⟨#[]⟩ : ByteArray)).length : Int) by rw [fill_len _ _ (by omega)]; omega)
    simp only [laws_toStringS.l0, c3, c4, c5, if_true, Int.toNat_natCast]
    rw [fill_set l ⟨#[]⟩ hj (rdOf ByteArray.empty l (j : Int)) rfl, wrap_succ hj (by omega)]
    exact h
theorem eqStringS_ev (l : List ByteArray) (hl : l.length ≤ 1048576) : Tl (fun k => laws_eqStringS.f k l l) true := by
  unfold laws_eqStringS.f
  simp only [if_true]
  refine down (Q := fun j => Tl (fun k => laws_eqStringS.l0 k l l (j : Int)) true) l.length ?_ ?_
  · refine Tl.step ?_
    have c3 := eq_false (show ¬ ((l.length : Int) < (l.length : Int)) by omega)
    simp only [laws_eqStringS.l0, c3, if_false]
    exact Tl.ret _
  · intro j hj h
    refine Tl.step ?_
    have c3 := eq_true (show (j : Int) < (l.length : Int) by omega)
    have c4 := eq_true (show 0 ≤ (j : Int) by omega)
    simp only [laws_eqStringS.l0, c3, c4, if_true]
    rw [wrap_succ hj (by omega)]
    exact h
/-- How much of the law's room is left behind a row of strings: below 0, or every string of it is small. -/
theorem szStringS_ev (l : List ByteArray) (hw : l.length ≤ 9223372036854775807) (hs : ∀ x ∈ l, x.size ≤ 9223372036854775807) :
    ∃ v, Tl (fun k => laws_szStringS.f k l 1048576) v ∧ (v < 0 ∨ (l.length ≤ 1048576 ∧ ∀ x ∈ l, x.size ≤ 1048576)) := by
  unfold laws_szStringS.f
  have hwr : wrap64 (1048576 - (l.length : Int)) = 1048576 - (l.length : Int) := wrap_id (by omega) (by omega)
  by_cases h0 : 1048576 < l.length
  · exact ⟨-1, Tl.iteT (by rw [hwr]; omega) (Tl.ret _), Or.inl (by omega)⟩
  have key := down (Q := fun j => ∀ left : Int, 0 ≤ left → left ≤ 1048576 → ∃ v, Tl (fun k => laws_szStringS.l0 k l left (j : Int)) v ∧ (v < 0 ∨ ∀ i, j ≤ i → i < l.length → (l.getD i ByteArray.empty).size ≤ 1048576)) l.length ?_ ?_ (1048576 - (l.length : Int)) (by omega) (by omega)
  · obtain ⟨v, h1, h2⟩ := key
    refine ⟨v, Tl.iteF (by rw [hwr]; omega) (by rw [hwr]; exact h1), ?_⟩
    rcases h2 with h2 | h2
    · exact Or.inl h2
    · refine Or.inr ⟨by omega, fun x hx => ?_⟩
      obtain ⟨i, hi, rfl⟩ := List.getElem_of_mem hx
      have := h2 i (by omega) hi
      rwa [List.getD_eq_getElem?_getD, List.getElem?_eq_getElem hi] at this
  · intro left h1 h2
    refine ⟨left, Tl.step ?_, Or.inr fun i hi1 hi2 => absurd hi1 (by omega)⟩
    simp only [laws_szStringS.l0]
    exact Tl.iteF (by omega) (Tl.ret _)
  · intro j hj ih left h1 h2
    have hx := hs _ (List.getElem_mem hj)
    have e : rdOf ByteArray.empty l (j : Int) = l[j] := by
      show l.getD j ByteArray.empty = l[j]
      rw [List.getD_eq_getElem?_getD, List.getElem?_eq_getElem hj]; rfl
    have hwr2 : wrap64 (left - ((l[j]).size : Int)) = left - ((l[j]).size : Int) := wrap_id (by omega) (by omega)
    by_cases hn : left - ((l[j]).size : Int) < 0
    · refine ⟨-1, Tl.step ?_, Or.inl (by omega)⟩
      simp only [laws_szStringS.l0, e, hwr2]
      exact Tl.iteT (by omega) (Tl.iteT (by omega) (Tl.iteT hn (Tl.ret _)))
    · obtain ⟨v, h3, h4⟩ := ih (left - ((l[j]).size : Int)) (by omega) (by omega)
      refine ⟨v, Tl.step ?_, ?_⟩
      · simp only [laws_szStringS.l0, e, hwr2]
        rw [wrap_succ hj (by omega)]
        exact Tl.iteT (by omega) (Tl.iteT (by omega) (Tl.iteF hn h3))
      · rcases h4 with h4 | h4
        · exact Or.inl h4
        · refine Or.inr fun i hi1 hi2 => ?_
          by_cases hij : i = j
          · subst hij
            rw [List.getD_eq_getElem?_getD, List.getElem?_eq_getElem hi2]
            show (l[i]).size ≤ 1048576
            omega
          · exact h4 i (by omega) hi2
/-! ### Marks -/
/-- The mark's text. -/
def mt (n : Nat) : ByteArray := (⟨#[109]⟩ : ByteArray) ++ dd n
theorem mark_at : ∀ (d n : Nat) (acc : ByteArray), n < 10 ^ d → n ≤ 1000000000 → d + acc.size ≤ 1000 → Tl (fun k => laws_markText.l0 k (n : Int) acc) ((⟨#[109]⟩ : ByteArray) ++ (if n = 0 then acc else dd n ++ acc))
  | d, n, acc, h, h1, h2 => by
    refine Tl.step ?_
    simp only [laws_markText.l0, Option.bind_some, one_size]
    by_cases h9 : n = 0
    · subst h9
      rw [if_pos rfl]
      exact Tl.iteF (by omega) (Tl.iteT (by omega) (Tl.ret _))
    · match d, h, h2 with
      | 0, h, h2 => omega
      | d + 1, h, h2 =>
        refine Tl.iteT (by omega) (Tl.iteT (by omega) ?_)
        rw [dig_eq n h1, div_eq n h1]
        rw [Nat.pow_succ] at h
        refine Tl.cast (mark_at d (n / 10) (strOfNums [((48 + n % 10 : Nat) : Int)] ++ acc) (by omega) (by omega) (by rw [ByteArray.size_append, one_size]; omega)) ?_
        rw [if_neg h9]
        by_cases hb : n ≤ 9
        · rw [if_pos (by omega), dd_small hb, show n % 10 = n by omega]
        · rw [if_neg (by omega), dd_step (n := n) (by omega), ByteArray.append_assoc]
theorem markText_ev (n : Nat) (h0 : 1 ≤ n) (h : n ≤ 1000000000) : Tl (fun k => laws_markText.f k (n : Int)) (mt n) := by
  unfold laws_markText.f
  refine Tl.iteF (by omega) (Tl.cast (mark_at 10 n ⟨#[]⟩ (big_pow h) h (by show 10 + 0 ≤ 1000; omega)) ?_)
  rw [if_neg (by omega)]
  unfold mt
  congr 1
  apply ba_ext
  rw [ByteArray.data_append]
  simp
/-- A row of marks. -/
def mkS (m n : Nat) : List ByteArray := (List.range n).map fun i => mt (m + i)
theorem mkS_len (m n : Nat) : (mkS m n).length = n := by simp [mkS]
theorem mkS_set (m : Nat) (l : List ByteArray) {j : Nat} (hj : j < l.length) : (mkS m j ++ l.drop j).set j (mt (m + j)) = mkS m (j + 1) ++ l.drop (j + 1) := by
  rw [List.set_append_right _ _ (by rw [mkS_len]; omega), mkS_len, Nat.sub_self, List.drop_eq_getElem_cons hj, List.set_cons_zero]
  unfold mkS
  rw [List.range_succ, List.map_append]
  simp
theorem markStringS_ev (l : List ByteArray) (m : Nat) (h0 : 1 ≤ m) (h : m ≤ 10000000) (hl : l.length ≤ 1048576) : Tl (fun k => laws_markStringS.f k l (m : Int)) (((m + l.length : Nat) : Int), mkS m l.length) := by
  unfold laws_markStringS.f
  have key := down (Q := fun j => Tl (fun k => laws_markStringS.l0 k (mkS m j ++ l.drop j) ((m + j : Nat) : Int) (j : Int)) (((m + l.length : Nat) : Int), mkS m l.length)) l.length ?_ ?_
  · exact key
  · refine Tl.step ?_
    rw [List.drop_length, List.append_nil]
    simp only [laws_markStringS.l0, mkS_len]
    exact Tl.iteF (by omega) (Tl.ret _)
  · intro j hj ih
    have hln : (mkS m j ++ l.drop j).length = l.length := by rw [List.length_append, mkS_len, List.length_drop]; omega
    refine Tl.step ?_
    simp only [laws_markStringS.l0, hln, Int.toNat_natCast]
    refine Tl.iteT (by omega) (Tl.bind (markText_ev (m + j) (by omega) (by omega)) (f := fun t k => if 0 ≤ (j : Int) then laws_markStringS.l0 k ((mkS m j ++ l.drop j).set j t) (wrap64 (((m + j : Nat) : Int) + 1)) (wrap64 ((j : Int) + 1)) else none) ?_)
    refine Tl.iteT (by omega) ?_
    rw [mkS_set m l hj, wrap_succ hj (by omega), wrap_id (n := ((m + j : Nat) : Int) + 1) (by omega) (by omega), show ((m + j : Nat) : Int) + 1 = ((m + (j + 1) : Nat) : Int) by omega]
    exact ih
theorem heldStringS_ev (m n : Nat) (h0 : 1 ≤ m) (h : m ≤ 10000000) (hl : n ≤ 1048576) : Tl (fun k => laws_heldStringS.f k (mkS m n) (m : Int)) ((m + n : Nat) : Int) := by
  unfold laws_heldStringS.f
  have key := down (Q := fun j => Tl (fun k => laws_heldStringS.l0 k (mkS m n) ((m + j : Nat) : Int) (j : Int)) ((m + n : Nat) : Int)) n ?_ ?_
  · exact key
  · refine Tl.step ?_
    simp only [laws_heldStringS.l0, mkS_len]
    exact Tl.iteF (by omega) (Tl.ret _)
  · intro j hj ih
    have e : rdOf ByteArray.empty (mkS m n) (j : Int) = mt (m + j) := by
      show (mkS m n).getD j ByteArray.empty = mt (m + j)
      unfold mkS
      rw [List.getD_eq_getElem?_getD, List.getElem?_map, List.getElem?_range hj]
      rfl
    refine Tl.step ?_
    simp only [laws_heldStringS.l0, mkS_len, e]
    refine Tl.iteT (by omega) (Tl.iteT (by omega) (Tl.bind (markText_ev (m + j) (by omega) (by omega)) (f := fun t k => if (mt (m + j)).toList = t.toList then laws_heldStringS.l0 k (mkS m n) (wrap64 (((m + j : Nat) : Int) + 1)) (wrap64 ((j : Int) + 1)) else some (-1)) ?_))
    refine Tl.iteT rfl ?_
    rw [wrap_succ hj (by omega), wrap_id (n := ((m + j : Nat) : Int) + 1) (by omega) (by omega), show ((m + j : Nat) : Int) + 1 = ((m + (j + 1) : Nat) : Int) by omega]
    exact ih
end Go.Proofs.YtkgloicnfphmoaaGreatDoor.Print

namespace Go.Proofs.YtkgloicnfphmoaaGreatDoor.Print
open Go.RowKit Go.Proofs.YtkgloicnfphmoaaGreatDoorW.PrintWords Go.Proofs.YtkgloicnfphmoaaGreatDoor.Evs Go.Proofs.YtkgloicnfphmoaaGreatDoor.Opens
set_option linter.unusedSimpArgs false
abbrev Task := S29
end Go.Proofs.YtkgloicnfphmoaaGreatDoor.Print

namespace Go.Proofs.YtkgloicnfphmoaaGreatDoor.Print
open Go.RowKit Go.Proofs.YtkgloicnfphmoaaGreatDoorW.PrintWords Go.Proofs.YtkgloicnfphmoaaGreatDoor.Evs Go.Proofs.YtkgloicnfphmoaaGreatDoor.Opens
set_option linter.unusedSimpArgs false
set_option linter.unusedVariables false
theorem spec_l1In_f (a b c : Int) : spec_l1In.f a b c = some (decide (b ≤ a ∧ a ≤ c)) := by
  unfold spec_l1In.f
  by_cases h : a ≥ b
  · have h' : b ≤ a := h
    simp [h, h']
  · have h' : ¬ b ≤ a := h
    simp [h, h']
theorem spec_TaskValid_f (x : Task) : spec_TaskValid.f x.f0 x.f1 x.f2 = some (okTask x) := by
  unfold spec_TaskValid.f okTask
  simp only [spec_l1In_f, Option.bind_some, decide_eq_true_eq]
  split
  · split
    · congr 1; rw [Bool.eq_iff_iff]; simp only [decide_eq_true_eq, Bool.false_eq_true, false_iff]; omega
    · congr 1; rw [Bool.eq_iff_iff]; simp only [decide_eq_true_eq, Bool.false_eq_true, false_iff]; omega
  · congr 1; rw [Bool.eq_iff_iff]; simp only [decide_eq_true_eq, Bool.false_eq_true, false_iff]; omega
/-- A valid set. -/
def okSet (l : List Task) : Bool := decide (l.length ≤ 5) && l.all okTask
theorem impl_SetValid_f (l : List Task) : impl_SetValid.f l = some (okSet l) := rfl
theorem impl_SetValid_ev (l : List Task) (_ : l.length ≤ 1048576) : Tl (fun _ => impl_SetValid.f l) (okSet l) := Tl.of_eq fun _ => impl_SetValid_f l
theorem spec_SetValid_ev (l : List Task) (hl : l.length ≤ 1048576) : Tl (fun k => spec_SetValid.f k l) (okSet l) := by
  have key := Tl.all (F := fun k i => spec_SetValid.l0 k l i) (n := l.length) (P := fun j => okTask (l.getD j z29)) (fin := decide (l.length ≤ 5)) ?_ ?_ ?_
  · rw [all_range] at key
    unfold okSet
    rw [Bool.and_comm]
    exact key
  · intro j hj hp r h
    refine Tl.step ?_
    have c3 := eq_true (show (j : Int) < (l.length : Int) by omega)
    have c4 := eq_true (show 0 ≤ (j : Int) by omega)
    have c5 : spec_TaskValid.f (rd_T29 l (j : Int)).f0 (rd_T29 l (j : Int)).f1 (rd_T29 l (j : Int)).f2 = some true := by rw [spec_TaskValid_f]; exact congrArg some hp
    simp only [spec_SetValid.l0, c3, c4, c5, if_true, Option.bind_some]
    rw [wrap_succ hj (by omega)]
    exact h
  · intro j hj hp
    refine Tl.step ?_
    have c3 := eq_true (show (j : Int) < (l.length : Int) by omega)
    have c4 := eq_true (show 0 ≤ (j : Int) by omega)
    have c5 : spec_TaskValid.f (rd_T29 l (j : Int)).f0 (rd_T29 l (j : Int)).f1 (rd_T29 l (j : Int)).f2 = some false := by rw [spec_TaskValid_f]; exact congrArg some hp
    simp only [spec_SetValid.l0, c3, c4, c5, if_true, Option.bind_some, Bool.false_eq_true, if_false]
    exact Tl.ret _
  · refine Tl.step ?_
    have c3 := eq_false (show ¬ ((l.length : Int) < (l.length : Int)) by omega)
    simp only [spec_SetValid.l0, c3, if_false]
    have : decide ((l.length : Int) ≤ 5) = decide (l.length ≤ 5) := by rw [decide_eq_decide]; omega
    rw [this]
    exact Tl.ret _

theorem tmod_pos {a b : Int} (ha : 0 ≤ a) (_hb : 0 < b) : Int.tmod a b = a % b := Int.tmod_eq_emod_of_nonneg ha
theorem tdiv_pos {a b : Int} (ha : 0 ≤ a) : Int.tdiv a b = a / b := Int.tdiv_eq_ediv_of_nonneg ha
/-- Task j of a list. -/
def tk (l : List Task) (j : Nat) : Task := l.getD j z29
theorem rd_tk (l : List Task) (j : Nat) : rd_T29 l (j : Int) = tk l j := rfl
theorem okSet_len {l : List Task} (h : okSet l = true) : l.length ≤ 5 := by unfold okSet at h; simp at h; exact h.1
theorem okSet_tk {l : List Task} (h : okSet l = true) {j : Nat} (hj : j < l.length) : 1 ≤ (tk l j).f0 ∧ (tk l j).f0 ≤ 8 ∧ (tk l j).f0 ≤ (tk l j).f1 ∧ (tk l j).f1 ≤ (tk l j).f2 ∧ (tk l j).f2 ≤ 12 := by
  unfold okSet at h
  rw [Bool.and_eq_true, List.all_eq_true] at h
  have h1 : tk l j ∈ l := by unfold tk; simp [List.getD_eq_getElem?_getD, hj]
  have := h.2 _ h1
  unfold okTask at this
  exact of_decide_eq_true this

theorem gcd_step {a b : Int} (ha : 0 ≤ a) (hb : 0 ≤ b) : Int.gcd a b = Int.gcd b (a % b) := by
  obtain ⟨n, rfl⟩ := Int.eq_ofNat_of_zero_le ha
  obtain ⟨m, rfl⟩ := Int.eq_ofNat_of_zero_le hb
  rw [← Int.natCast_emod, Int.gcd_natCast_natCast, Int.gcd_natCast_natCast, Nat.gcd_comm n m, Nat.gcd_rec m n, Nat.gcd_comm]
theorem impl_gcd_ev (a b : Int) (ha : 0 ≤ a) (hb : 0 ≤ b) : Tl (fun k => impl_gcd.f k a b) (Int.gcd a b) := by
  unfold impl_gcd.f
  obtain ⟨n, hn⟩ : ∃ n : Nat, b.toNat = n := ⟨_, rfl⟩
  induction n using Nat.strongRecOn generalizing a b with
  | _ n ih =>
    refine Tl.step ?_
    simp only [impl_gcd.l0]
    by_cases h : b = 0
    · subst h
      refine Tl.iteT rfl ?_
      rw [Int.gcd_zero_right, Int.natAbs_of_nonneg ha]
      exact Tl.ret _
    · refine Tl.iteF h ?_
      rw [tmod_pos ha (by omega)]
      have hm := Int.emod_lt_of_pos a (show 0 < b by omega)
      have hm0 := Int.emod_nonneg a h
      have := ih (a % b).toNat (by omega) b (a % b) hb hm0 rfl
      rw [gcd_step ha hb]
      exact this
theorem spec_l1Gcd_ev (a b : Int) (ha : 0 ≤ a) (hb : 0 ≤ b) : Tl (fun k => spec_l1Gcd.f k a b) (Int.gcd a b) := by
  unfold spec_l1Gcd.f
  obtain ⟨n, hn⟩ : ∃ n : Nat, b.toNat = n := ⟨_, rfl⟩
  induction n using Nat.strongRecOn generalizing a b with
  | _ n ih =>
    refine Tl.step ?_
    simp only [spec_l1Gcd.l0]
    by_cases h : b = 0
    · subst h
      refine Tl.iteF (by omega) ?_
      rw [Int.gcd_zero_right, Int.natAbs_of_nonneg ha]
      exact Tl.ret _
    · refine Tl.iteT (by omega) ?_
      refine Tl.iteF h ?_
      rw [tmod_pos ha (by omega)]
      have hm := Int.emod_lt_of_pos a (show 0 < b by omega)
      have hm0 := Int.emod_nonneg a h
      have := ih (a % b).toNat (by omega) b (a % b) hb hm0 rfl
      rw [gcd_step ha hb]
      exact this
/-- The least common multiple of the first j periods. -/
def hypN (l : List Task) : Nat → Int
  | 0 => 1
  | j + 1 => hypN l j / (Int.gcd (hypN l j) (tk l j).f2 : Int) * (tk l j).f2
def hyp (l : List Task) : Int := hypN l l.length
theorem small_dvd {p : Int} (h0 : 1 ≤ p) (h1 : p ≤ 12) : p ∣ 27720 := by
  have : p = 1 ∨ p = 2 ∨ p = 3 ∨ p = 4 ∨ p = 5 ∨ p = 6 ∨ p = 7 ∨ p = 8 ∨ p = 9 ∨ p = 10 ∨ p = 11 ∨ p = 12 := by omega
  rcases this with rfl | rfl | rfl | rfl | rfl | rfl | rfl | rfl | rfl | rfl | rfl | rfl <;> decide
theorem lcm_dvd {a p m : Int} (ha : a ∣ m) (hp : p ∣ m) (h0 : 0 < a) (hp0 : 0 < p) : a / (Int.gcd a p : Int) * p ∣ m := by
  have hg : ((Int.gcd a p : Nat) : Int) ∣ a := Int.gcd_dvd_left _ _
  have e : a / (Int.gcd a p : Int) * p = (Int.lcm a p : Int) := by
    have h1 : (Int.gcd a p * Int.lcm a p : Nat) = (a * p).natAbs := by rw [Int.gcd_mul_lcm, Int.natAbs_mul]
    have h2 : ((Int.gcd a p : Nat) : Int) * ((Int.lcm a p : Nat) : Int) = a * p := by
      rw [← Int.natCast_mul, h1, Int.natAbs_of_nonneg (Int.mul_nonneg (show 0 ≤ a by omega) (show 0 ≤ p by omega))]
    have hg0 : 0 < ((Int.gcd a p : Nat) : Int) := by
      have := Int.gcd_pos_of_ne_zero_left p (show a ≠ 0 by omega)
      omega
    obtain ⟨c, hc⟩ := hg
    have h3 : a / ((Int.gcd a p : Nat) : Int) = c := Int.ediv_eq_of_eq_mul_right (by omega) hc
    rw [h3]
    have h4 : ((Int.gcd a p : Nat) : Int) * ((Int.lcm a p : Nat) : Int) = ((Int.gcd a p : Nat) : Int) * (c * p) := by rw [h2, ← Int.mul_assoc, ← hc]
    exact (Int.eq_of_mul_eq_mul_left (by omega) h4).symm
  rw [e]
  exact Int.coe_lcm_dvd ha hp
theorem hypN_ok {l : List Task} (h : okSet l = true) : ∀ j, j ≤ l.length → 1 ≤ hypN l j ∧ hypN l j ∣ 27720
  | 0, _ => by unfold hypN; exact ⟨by omega, ⟨27720, by omega⟩⟩
  | j + 1, hj => by
    obtain ⟨h1, h2⟩ := hypN_ok h j (by omega)
    have ht := okSet_tk h (show j < l.length by omega)
    unfold hypN
    refine ⟨?_, lcm_dvd h2 (small_dvd (by omega) (by omega)) (by omega) (by omega)⟩
    have hg : ((Int.gcd (hypN l j) (tk l j).f2 : Nat) : Int) ∣ hypN l j := Int.gcd_dvd_left _ _
    have hg0 : 0 < ((Int.gcd (hypN l j) (tk l j).f2 : Nat) : Int) := by
      have := Int.gcd_pos_of_ne_zero_left (tk l j).f2 (show hypN l j ≠ 0 by omega)
      omega
    have hd : 1 ≤ hypN l j / ((Int.gcd (hypN l j) (tk l j).f2 : Nat) : Int) := by
      have := Int.le_of_dvd (by omega) hg
      exact Int.le_ediv_of_mul_le hg0 (by omega)
    calc (1 : Int) ≤ 1 * 1 := by omega
      _ ≤ _ := Int.mul_le_mul hd (by omega) (by omega) (by omega)
theorem hypN_le {l : List Task} (h : okSet l = true) {j : Nat} (hj : j ≤ l.length) : 1 ≤ hypN l j ∧ hypN l j ≤ 27720 := by
  obtain ⟨h1, h2⟩ := hypN_ok h j hj
  exact ⟨h1, Int.le_of_dvd (by omega) h2⟩
theorem gcd_pos' {a p : Int} (h : 1 ≤ a) : 1 ≤ ((Int.gcd a p : Nat) : Int) := by
  have := Int.gcd_pos_of_ne_zero_left p (show a ≠ 0 by omega)
  omega
theorem hypN_step {l : List Task} (h : okSet l = true) {j : Nat} (hj : j < l.length) :
    wrap64 (wrap64 (Int.tdiv (hypN l j) (Int.gcd (hypN l j) (tk l j).f2 : Int)) * (tk l j).f2) = hypN l (j + 1) := by
  obtain ⟨h1, h2⟩ := hypN_le h (show j ≤ l.length by omega)
  obtain ⟨h3, h4⟩ := hypN_le h (show j + 1 ≤ l.length by omega)
  have hg := gcd_pos' (p := (tk l j).f2) h1
  rw [tdiv_pos (by omega)]
  have h5 : 0 ≤ hypN l j / (Int.gcd (hypN l j) (tk l j).f2 : Int) := Int.ediv_nonneg (by omega) (by omega)
  have h6 : hypN l j / (Int.gcd (hypN l j) (tk l j).f2 : Int) ≤ hypN l j := Int.ediv_le_self _ (by omega)
  rw [wrap_id (n := hypN l j / _) (by omega) (by omega)]
  exact wrap_id (by show _ ≤ hypN l (j + 1); omega) (by show hypN l (j + 1) ≤ _; omega)
theorem spec_hyper_ev {l : List Task} (h : okSet l = true) : Tl (fun k => spec_l1Hyper.f k l) (hyp l) := by
  unfold spec_l1Hyper.f
  have hl := okSet_len h
  refine down (Q := fun j => Tl (fun k => spec_l1Hyper.l0 k l (hypN l j) (j : Int)) (hyp l)) l.length ?_ ?_
  · refine Tl.step ?_
    simp only [spec_l1Hyper.l0]
    refine Tl.iteF (by omega) ?_
    exact Tl.ret _
  · intro j hj hh
    obtain ⟨h1, h2⟩ := hypN_le h (show j ≤ l.length by omega)
    have ht := okSet_tk h hj
    refine Tl.step ?_
    simp only [spec_l1Hyper.l0, rd_tk]
    refine Tl.iteT (by omega) (Tl.iteT (by omega) (Tl.bind (spec_l1Gcd_ev _ _ (by omega) (by omega)) ?_))
    have hg := gcd_pos' (p := (tk l j).f2) h1
    refine Tl.iteF (by omega) ?_
    rw [hypN_step h hj, wrap_succ hj (by omega)]
    exact hh
theorem impl_lcm_ev {l : List Task} (h : okSet l = true) {j : Nat} (hj : j < l.length) : Tl (fun k => impl_lcm.f k (hypN l j) (tk l j).f2) (hypN l (j + 1)) := by
  obtain ⟨h1, h2⟩ := hypN_le h (show j ≤ l.length by omega)
  have ht := okSet_tk h hj
  unfold impl_lcm.f
  refine Tl.bind (impl_gcd_ev _ _ (by omega) (by omega)) ?_
  have hg := gcd_pos' (p := (tk l j).f2) h1
  refine Tl.iteF (by omega) ?_
  rw [hypN_step h hj]
  exact Tl.ret _
theorem impl_hyper_ev {l : List Task} (h : okSet l = true) : Tl (fun k => impl_hyper.f k l) (hyp l) := by
  unfold impl_hyper.f
  have hl := okSet_len h
  refine down (Q := fun j => Tl (fun k => impl_hyper.l0 k (hypN l j) l (l.length : Int) (j : Int)) (hyp l)) l.length ?_ ?_
  · refine Tl.step ?_
    simp only [impl_hyper.l0]
    refine Tl.iteF (by omega) ?_
    exact Tl.ret _
  · intro j hj hh
    refine Tl.step ?_
    simp only [impl_hyper.l0, rd_tk]
    refine Tl.iteT (by omega) (Tl.iteT (by omega) (Tl.iteT (by omega) (Tl.bind (impl_lcm_ev h hj) ?_)))
    rw [wrap_succ hj (by omega)]
    exact hh
theorem hyp_le {l : List Task} (h : okSet l = true) : 1 ≤ hyp l ∧ hyp l ≤ 27720 := hypN_le h (Nat.le_refl _)
/-- One task's part of the demand. -/
def demT (x : Task) (t : Int) : Int := if t ≥ x.f1 then ((t - x.f1) / x.f2 + 1) * x.f0 else 0
def demN (l : List Task) (t : Int) : Nat → Int
  | 0 => 0
  | j + 1 => demN l t j + demT (tk l j) t
def dem (l : List Task) (t : Int) : Int := demN l t l.length
theorem demT_le {x : Task} (h : 1 ≤ x.f0 ∧ x.f0 ≤ 8 ∧ x.f0 ≤ x.f1 ∧ x.f1 ≤ x.f2 ∧ x.f2 ≤ 12) {t : Int} (h1 : t ≤ 1000000) : 0 ≤ demT x t ∧ demT x t ≤ 8000008 := by
  unfold demT
  split
  · rename_i ht
    have h2 : 0 ≤ (t - x.f1) / x.f2 := Int.ediv_nonneg (by omega) (by omega)
    have h3 : (t - x.f1) / x.f2 ≤ t - x.f1 := Int.ediv_le_self _ (by omega)
    constructor
    · exact Int.mul_nonneg (by omega) (by omega)
    · calc ((t - x.f1) / x.f2 + 1) * x.f0 ≤ 1000001 * 8 := Int.mul_le_mul (by omega) (by omega) (by omega) (by omega)
        _ ≤ _ := by omega
  · omega
theorem demN_le {l : List Task} (h : okSet l = true) {t : Int} (h1 : t ≤ 1000000) : ∀ j, j ≤ l.length → 0 ≤ demN l t j ∧ demN l t j ≤ 8000008 * j
  | 0, _ => by unfold demN; omega
  | j + 1, hj => by
    have h2 := demN_le h h1 j (by omega)
    have h3 := demT_le (okSet_tk h (show j < l.length by omega)) h1
    unfold demN
    omega
theorem dem_step {l : List Task} (h : okSet l = true) {t : Int} (h0 : 0 ≤ t) (h1 : t ≤ 1000000) {j : Nat} (hj : j < l.length) (ht : t ≥ (tk l j).f1) :
    wrap64 (demN l t j + wrap64 (wrap64 (wrap64 (Int.tdiv (wrap64 (t - (tk l j).f1)) (tk l j).f2) + 1) * (tk l j).f0)) = demN l t (j + 1) := by
  have h2 := okSet_tk h hj
  have h3 := demT_le h2 h1
  have h4 := demN_le h h1 (j + 1) (by omega)
  have h5 := demN_le h h1 j (by omega)
  have hl := okSet_len h
  have e1 : wrap64 (t - (tk l j).f1) = t - (tk l j).f1 := wrap_id (by omega) (by omega)
  rw [e1, tdiv_pos (by omega)]
  have h6 : 0 ≤ (t - (tk l j).f1) / (tk l j).f2 := Int.ediv_nonneg (by omega) (by omega)
  have h7 : (t - (tk l j).f1) / (tk l j).f2 ≤ t - (tk l j).f1 := Int.ediv_le_self _ (by omega)
  rw [wrap_id (n := (t - (tk l j).f1) / (tk l j).f2) (by omega) (by omega), wrap_id (n := (t - (tk l j).f1) / (tk l j).f2 + 1) (by omega) (by omega)]
  have e2 : ((t - (tk l j).f1) / (tk l j).f2 + 1) * (tk l j).f0 = demT (tk l j) t := by unfold demT; rw [if_pos ht]
  rw [e2, wrap_id (n := demT (tk l j) t) (by omega) (by omega)]
  show wrap64 (demN l t (j + 1)) = _
  exact wrap_id (by omega) (by omega)
theorem dem_skip {l : List Task} {t : Int} {j : Nat} (ht : ¬ t ≥ (tk l j).f1) : demN l t j = demN l t (j + 1) := by
  show _ = demN l t j + demT (tk l j) t
  unfold demT
  rw [if_neg ht]
  omega
theorem spec_demand_ev {l : List Task} (h : okSet l = true) {t : Int} (h0 : 0 ≤ t) (h1 : t ≤ 1000000) : Tl (fun k => spec_l2Demand.f k l t) (dem l t) := by
  unfold spec_l2Demand.f
  have hl := okSet_len h
  refine down (Q := fun j => Tl (fun k => spec_l2Demand.l0 k l t (demN l t j) (j : Int)) (dem l t)) l.length ?_ ?_
  · refine Tl.step ?_
    simp only [spec_l2Demand.l0]
    refine Tl.iteF (by omega) ?_
    exact Tl.ret _
  · intro j hj hh
    have h2 := okSet_tk h hj
    refine Tl.step ?_
    simp only [spec_l2Demand.l0, rd_tk]
    refine Tl.iteT (by omega) (Tl.iteT (by omega) ?_)
    by_cases ht : t ≥ (tk l j).f1
    · refine Tl.iteT ht (Tl.iteF (by omega) ?_)
      rw [dem_step h h0 h1 hj ht, wrap_succ hj (by omega)]
      exact hh
    · refine Tl.iteF ht ?_
      rw [wrap_succ hj (by omega), dem_skip ht]
      exact hh
theorem impl_demand_ev {l : List Task} (h : okSet l = true) {t : Int} (h0 : 0 ≤ t) (h1 : t ≤ 1000000) : Tl (fun k => impl_demand.f k l t) (dem l t) := by
  unfold impl_demand.f
  have hl := okSet_len h
  refine down (Q := fun j => Tl (fun k => impl_demand.l0 k t (demN l t j) l (l.length : Int) (j : Int)) (dem l t)) l.length ?_ ?_
  · refine Tl.step ?_
    simp only [impl_demand.l0]
    refine Tl.iteF (by omega) ?_
    exact Tl.ret _
  · intro j hj hh
    have h2 := okSet_tk h hj
    refine Tl.step ?_
    simp only [impl_demand.l0, rd_tk]
    refine Tl.iteT (by omega) (Tl.iteT (by omega) (Tl.iteT (by omega) ?_))
    by_cases ht : t ≥ (tk l j).f1
    · refine Tl.iteT ht (Tl.iteF (by omega) ?_)
      rw [dem_step h h0 h1 hj ht, wrap_succ hj (by omega)]
      exact hh
    · refine Tl.iteF ht ?_
      rw [wrap_succ hj (by omega), dem_skip ht]
      exact hh
end Go.Proofs.YtkgloicnfphmoaaGreatDoor.Print

namespace Go.Proofs.YtkgloicnfphmoaaGreatDoor.Print
open Go.RowKit Go.Proofs.YtkgloicnfphmoaaGreatDoorW.PrintWords Go.Proofs.YtkgloicnfphmoaaGreatDoor.Evs Go.Proofs.YtkgloicnfphmoaaGreatDoor.Opens
/-- A fraction in lowest terms. -/
def red (n d : Int) : Int × Int := (n / (Int.gcd n d : Int), d / (Int.gcd n d : Int))
theorem gcd_pos2 {a p : Int} (h : 1 ≤ p) : 1 ≤ ((Int.gcd a p : Nat) : Int) := by rw [Int.gcd_comm]; exact gcd_pos' h
end Go.Proofs.YtkgloicnfphmoaaGreatDoor.Print

namespace Go.Proofs.YtkgloicnfphmoaaGreatDoor.Print
open Go.RowKit Go.Proofs.YtkgloicnfphmoaaGreatDoorW.PrintWords Go.Proofs.YtkgloicnfphmoaaGreatDoor.Evs Go.Proofs.YtkgloicnfphmoaaGreatDoor.Opens
set_option linter.unusedSimpArgs false
set_option linter.unusedVariables false
theorem impl_reduced_ev {n d : Int} (h0 : 0 ≤ n) (h1 : n ≤ 1000000000000) (h2 : 1 ≤ d) (h3 : d ≤ 1000000000000) : Tl (fun k => impl_reduced.f k n d) (red n d) := by
  unfold impl_reduced.f
  refine Tl.bind (impl_gcd_ev _ _ h0 (by omega)) ?_
  have hg := gcd_pos2 (a := n) h2
  refine Tl.iteF (by omega) ?_
  have e1 : 0 ≤ n / (Int.gcd n d : Int) := Int.ediv_nonneg (by omega) (by omega)
  have e2 : n / (Int.gcd n d : Int) ≤ n := Int.ediv_le_self _ (by omega)
  have e3 : 0 ≤ d / (Int.gcd n d : Int) := Int.ediv_nonneg (by omega) (by omega)
  have e4 : d / (Int.gcd n d : Int) ≤ d := Int.ediv_le_self _ (by omega)
  rw [tdiv_pos h0, tdiv_pos (by omega), wrap_id (by omega) (by omega), wrap_id (by omega) (by omega)]
  exact Tl.ret _

/-- The work of the first j tasks in a hyperperiod. -/
def loadN (l : List Task) : Nat → Int
  | 0 => 0
  | j + 1 => loadN l j + hyp l / (tk l j).f2 * (tk l j).f0
def loadS (l : List Task) : Int := loadN l l.length
theorem loadT_le {l : List Task} (h : okSet l = true) {j : Nat} (hj : j < l.length) : 0 ≤ hyp l / (tk l j).f2 ∧ hyp l / (tk l j).f2 ≤ 27720 ∧ 0 ≤ hyp l / (tk l j).f2 * (tk l j).f0 ∧ hyp l / (tk l j).f2 * (tk l j).f0 ≤ 221760 := by
  have h1 := hyp_le h
  have h2 := okSet_tk h hj
  have h6 : 0 ≤ hyp l / (tk l j).f2 := Int.ediv_nonneg (by omega) (by omega)
  have h7 : hyp l / (tk l j).f2 ≤ hyp l := Int.ediv_le_self _ (by omega)
  refine ⟨h6, by omega, Int.mul_nonneg h6 (by omega), ?_⟩
  calc hyp l / (tk l j).f2 * (tk l j).f0 ≤ 27720 * 8 := Int.mul_le_mul (by omega) (by omega) (by omega) (by omega)
    _ ≤ _ := by omega
theorem loadN_le {l : List Task} (h : okSet l = true) : ∀ j, j ≤ l.length → 0 ≤ loadN l j ∧ loadN l j ≤ 221760 * j
  | 0, _ => by unfold loadN; omega
  | j + 1, hj => by
    have h2 := loadN_le h j (by omega)
    have h3 := loadT_le h (show j < l.length by omega)
    unfold loadN
    omega
theorem load_le {l : List Task} (h : okSet l = true) : 0 ≤ loadS l ∧ loadS l ≤ 1108800 := by
  have h2 := loadN_le h l.length (Nat.le_refl _)
  have h3 := okSet_len h
  unfold loadS
  omega
theorem load_step {l : List Task} (h : okSet l = true) {j : Nat} (hj : j < l.length) :
    wrap64 (loadN l j + wrap64 (wrap64 (Int.tdiv (hyp l) (tk l j).f2) * (tk l j).f0)) = loadN l (j + 1) := by
  have h1 := hyp_le h
  have h2 := okSet_tk h hj
  have h3 := loadT_le h hj
  have h4 := loadN_le h (j + 1) (by omega)
  have hl := okSet_len h
  rw [tdiv_pos (by omega), wrap_id (n := hyp l / _) (by omega) (by omega), wrap_id (n := _ * _) (by omega) (by omega)]
  show wrap64 (loadN l (j + 1)) = _
  exact wrap_id (by omega) (by omega)
theorem impl_load_ev {l : List Task} (h : okSet l = true) : Tl (fun k => impl_load.f k l) (loadS l) := by
  unfold impl_load.f
  have hl := okSet_len h
  refine Tl.bind (impl_hyper_ev h) ?_
  refine down (Q := fun j => Tl (fun k => impl_load.l0 k (hyp l) (loadN l j) l (l.length : Int) (j : Int)) (loadS l)) l.length ?_ ?_
  · refine Tl.step ?_
    simp only [impl_load.l0]
    refine Tl.iteF (by omega) ?_
    exact Tl.ret _
  · intro j hj hh
    have h2 := okSet_tk h hj
    refine Tl.step ?_
    simp only [impl_load.l0, rd_tk]
    refine Tl.iteT (by omega) (Tl.iteT (by omega) (Tl.iteT (by omega) (Tl.iteF (by omega) ?_)))
    rw [load_step h hj, wrap_succ hj (by omega)]
    exact hh

def Utilization_D (l : List Task) : Int × Int := if okSet l = true then red (loadS l) (hyp l) else (0, 0)
theorem spec_Utilization_ev (l : List Task) (hl : l.length ≤ 1048576) : Tl (fun k => spec_Utilization.f k l) (Utilization_D l) := by
  unfold spec_Utilization.f Utilization_D
  refine Tl.bind (spec_SetValid_ev l hl) ?_
  by_cases h : okSet l = true
  · have h1 := hyp_le h
    have h2 := load_le h
    have hl5 := okSet_len h
    rw [if_pos h]
    refine Tl.iteT h (Tl.bind (spec_hyper_ev h) ?_)
    refine down (Q := fun j => Tl (fun k => spec_Utilization.l0 k l (hyp l) (loadN l j) (j : Int)) (red (loadS l) (hyp l))) l.length ?_ ?_
    · refine Tl.step ?_
      simp only [spec_Utilization.l0]
      refine Tl.iteF (by omega) (Tl.bind (spec_l1Gcd_ev _ _ (by omega) (by show 0 ≤ loadS l; omega)) ?_)
      have hg := gcd_pos' (p := loadS l) h1.1
      refine Tl.iteF (by show ¬ ((Int.gcd (hyp l) (loadS l) : Nat) : Int) = 0; omega) ?_
      show Tl (fun _ => some (wrap64 (Int.tdiv (loadS l) ((Int.gcd (hyp l) (loadS l) : Nat) : Int)), wrap64 (Int.tdiv (hyp l) ((Int.gcd (hyp l) (loadS l) : Nat) : Int)))) _
      unfold red
      rw [Int.gcd_comm (loadS l)]
      have e1 : 0 ≤ loadS l / (Int.gcd (hyp l) (loadS l) : Int) := Int.ediv_nonneg (by omega) (by omega)
      have e2 : loadS l / (Int.gcd (hyp l) (loadS l) : Int) ≤ loadS l := Int.ediv_le_self _ (by omega)
      have e3 : 0 ≤ hyp l / (Int.gcd (hyp l) (loadS l) : Int) := Int.ediv_nonneg (by omega) (by omega)
      have e4 : hyp l / (Int.gcd (hyp l) (loadS l) : Int) ≤ hyp l := Int.ediv_le_self _ (by omega)
      rw [tdiv_pos h2.1, tdiv_pos (by omega), wrap_id (by omega) (by omega), wrap_id (by omega) (by omega)]
      exact Tl.ret _
    · intro j hj hh
      have h3 := okSet_tk h hj
      refine Tl.step ?_
      simp only [spec_Utilization.l0, rd_tk]
      refine Tl.iteT (by omega) (Tl.iteT (by omega) (Tl.iteF (by omega) ?_))
      rw [Int.mul_comm ((tk l j).f0), load_step h hj, wrap_succ hj (by omega)]
      exact hh
  · rw [if_neg h]
    exact Tl.iteF h (Tl.ret _)

theorem impl_Utilization_ev (l : List Task) (hl : l.length ≤ 1048576) : Tl (fun k => impl_Utilization.f k l) (Utilization_D l) := by
  unfold impl_Utilization.f Utilization_D
  refine Tl.bind (Tl.of_eq fun _ => impl_SetValid_f l) ?_
  by_cases h : okSet l = true
  · have h1 := hyp_le h
    have h2 := load_le h
    rw [if_pos h]
    exact Tl.iteT h (Tl.bind (impl_load_ev h) (Tl.bind (impl_hyper_ev h) (Tl.bind (impl_reduced_ev (by omega) (by omega) (by omega) (by omega)) (Tl.ret _))))
  · rw [if_neg h]
    exact Tl.iteF h (Tl.ret _)

/-- The first overload from t on, n times tried. -/
def overN (l : List Task) : Nat → Int → Int
  | 0, _ => -1
  | n + 1, t => if dem l t > t then t else overN l n (t + 1)
def over (l : List Task) : Int := overN l (hyp l).toNat 1
theorem overN_range (l : List Task) : ∀ (n : Nat) (t : Int), 1 ≤ t → overN l n t = -1 ∨ (t ≤ overN l n t ∧ overN l n t < t + n)
  | 0, t, _ => .inl rfl
  | n + 1, t, h => by
    unfold overN
    split
    · exact .inr (by omega)
    · rcases overN_range l n (t + 1) (by omega) with h1 | h1
      · exact .inl h1
      · exact .inr (by omega)
theorem over_range (l : List Task) : over l = -1 ∨ 1 ≤ over l ∧ over l ≤ (hyp l).toNat := by
  rcases overN_range l (hyp l).toNat 1 (by omega) with h | h
  · exact .inl h
  · exact .inr (by unfold over; omega)
theorem spec_overN_ev {l : List Task} (h : okSet l = true) : ∀ (n : Nat) (t : Int), 1 ≤ t → t + n = hyp l + 1 → Tl (fun k => spec_l2Overload.l0 k l (hyp l) t) (overN l n t)
  | 0, t, h1, h2 => by
    refine Tl.step ?_
    simp only [spec_l2Overload.l0]
    exact Tl.iteF (by omega) (Tl.ret _)
  | n + 1, t, h1, h2 => by
    have hh := hyp_le h
    refine Tl.step ?_
    simp only [spec_l2Overload.l0]
    refine Tl.iteT (by omega) (Tl.bind (spec_demand_ev h (by omega) (by omega)) ?_)
    rw [wrap_id (n := t + 1) (by omega) (by omega)]
    by_cases hc : dem l t > t
    · unfold overN; rw [if_pos hc]; exact Tl.iteT hc (Tl.ret _)
    · unfold overN; rw [if_neg hc]; exact Tl.iteF hc (spec_overN_ev h n (t + 1) (by omega) (by omega))
theorem impl_overN_ev {l : List Task} (h : okSet l = true) : ∀ (n : Nat) (t : Int), 1 ≤ t → t + n = hyp l + 1 → Tl (fun k => impl_FirstOverload.l0 k l t) (overN l n t)
  | 0, t, h1, h2 => by
    refine Tl.step ?_
    simp only [impl_FirstOverload.l0]
    exact Tl.bind (impl_hyper_ev h) (Tl.iteF (by omega) (Tl.ret _))
  | n + 1, t, h1, h2 => by
    have hh := hyp_le h
    refine Tl.step ?_
    simp only [impl_FirstOverload.l0]
    refine Tl.bind (impl_hyper_ev h) (Tl.iteT (by omega) (Tl.bind (impl_demand_ev h (by omega) (by omega)) ?_))
    rw [wrap_id (n := t + 1) (by omega) (by omega)]
    by_cases hc : dem l t > t
    · unfold overN; rw [if_pos hc]; exact Tl.iteT hc (Tl.ret _)
    · unfold overN; rw [if_neg hc]; exact Tl.iteF hc (impl_overN_ev h n (t + 1) (by omega) (by omega))
theorem spec_over_ev {l : List Task} (h : okSet l = true) : Tl (fun k => spec_l2Overload.f k l (hyp l)) (over l) := by
  have hh := hyp_le h
  exact spec_overN_ev h _ _ (by omega) (by omega)
def FirstOverload_D (l : List Task) : Int := if okSet l = true then over l else -1
theorem impl_FirstOverload_ev (l : List Task) (hl : l.length ≤ 1048576) : Tl (fun k => impl_FirstOverload.f k l) (FirstOverload_D l) := by
  unfold impl_FirstOverload.f FirstOverload_D
  refine Tl.bind (impl_SetValid_ev l hl) ?_
  by_cases h : okSet l = true
  · have hh := hyp_le h
    rw [if_pos h]; exact Tl.iteT h (impl_overN_ev h _ _ (by omega) (by omega))
  · rw [if_neg h]; exact Tl.iteF h (Tl.ret _)
/-- Is a valid set schedulable? -/
def feas (l : List Task) : Bool := decide (over l < 0)
theorem spec_edf_ev {l : List Task} (h : okSet l = true) : Tl (fun k => spec_l2Edf.f k l) (feas l) := by
  unfold spec_l2Edf.f
  refine Tl.bind (spec_hyper_ev h) (Tl.bind (spec_over_ev h) ?_)
  have e : (over l == -1) = feas l := by
    unfold feas
    rw [Bool.eq_iff_iff, beq_iff_eq, decide_eq_true_eq]
    rcases over_range l with h1 | h1 <;> omega
  rw [e]
  exact Tl.ret _
theorem impl_feasible_ev {l : List Task} (h : okSet l = true) : Tl (fun k => impl_feasible.f k l) (feas l) := by
  unfold impl_feasible.f
  have := impl_FirstOverload_ev l (by have := okSet_len h; omega)
  unfold FirstOverload_D at this
  rw [if_pos h] at this
  exact Tl.bind this (Tl.ret _)
end Go.Proofs.YtkgloicnfphmoaaGreatDoor.Print

namespace Go.Proofs.YtkgloicnfphmoaaGreatDoor.Evs
set_option linter.unusedSimpArgs false
set_option linter.unusedVariables false
/-- The first place from j on, among n. -/
def idxN (o : List Int) (v : Int) : Nat → Nat → Int
  | 0, _ => -1
  | n + 1, j => if o.getD j 0 = v then (j : Int) else idxN o v n (j + 1)
def idx (o : List Int) (v : Int) : Int := idxN o v o.length 0
theorem idxN_spec (o : List Int) (v : Int) : ∀ (n j : Nat), (idxN o v n j = -1 ∧ ∀ i, j ≤ i → i < j + n → o.getD i 0 ≠ v) ∨ (∃ i, j ≤ i ∧ i < j + n ∧ idxN o v n j = (i : Int) ∧ o.getD i 0 = v ∧ ∀ i', j ≤ i' → i' < i → o.getD i' 0 ≠ v)
  | 0, j => .inl ⟨rfl, fun i h1 h2 => by omega⟩
  | n + 1, j => by
    unfold idxN
    by_cases hc : o.getD j 0 = v
    · rw [if_pos hc]
      exact .inr ⟨j, Nat.le_refl _, by omega, rfl, hc, fun i' h1 h2 => by omega⟩
    · rw [if_neg hc]
      rcases idxN_spec o v n (j + 1) with ⟨h1, h2⟩ | ⟨i, h1, h2, h3, h4, h5⟩
      · refine .inl ⟨h1, fun i h3 h4 => ?_⟩
        rcases Nat.lt_or_ge j i with h | h
        · exact h2 i h (by omega)
        · obtain rfl : i = j := by omega
          exact hc
      · refine .inr ⟨i, by omega, by omega, h3, h4, fun i' h6 h7 => ?_⟩
        rcases Nat.lt_or_ge j i' with h | h
        · exact h5 i' h h7
        · obtain rfl : i' = j := by omega
          exact hc
theorem idx_spec (o : List Int) (v : Int) : (idx o v = -1 ∧ ∀ i, i < o.length → o.getD i 0 ≠ v) ∨ (∃ i, i < o.length ∧ idx o v = (i : Int) ∧ o.getD i 0 = v ∧ ∀ i', i' < i → o.getD i' 0 ≠ v) := by
  rcases idxN_spec o v o.length 0 with ⟨h1, h2⟩ | ⟨i, h1, h2, h3, h4, h5⟩
  · exact .inl ⟨h1, fun i h => h2 i (by omega) (by omega)⟩
  · exact .inr ⟨i, by omega, h3, h4, fun i' h => h5 i' (by omega) h⟩
theorem take_at (o : List Int) {i j : Nat} (h : i < j) : (o.take j).getD i 0 = o.getD i 0 := by
  simp [List.getD_eq_getElem?_getD, List.getElem?_take, h]
theorem idx_first {o : List Int} {j : Nat} (hj : j < o.length) : idx o (o.getD j 0) = (j : Int) ↔ idx (o.take j) (o.getD j 0) < 0 := by
  have hl : (o.take j).length = j := by simp; omega
  rcases idx_spec (o.take j) (o.getD j 0) with ⟨h1, h2⟩ | ⟨i, h1, h2, h3, h4⟩
  · constructor
    · intro _; omega
    · intro _
      rcases idx_spec o (o.getD j 0) with ⟨g1, g2⟩ | ⟨i, g1, g2, g3, g4⟩
      · exact absurd rfl (g2 j hj)
      · rw [g2]
        rcases Nat.lt_or_ge i j with h | h
        · exact absurd (by rw [take_at o h]; exact g3) (h2 i (by omega))
        · rcases Nat.lt_or_ge j i with h' | h'
          · exact absurd rfl (g4 j h')
          · omega
  · rw [hl] at h1
    rw [take_at o h1] at h3
    constructor
    · intro h
      rcases idx_spec o (o.getD j 0) with ⟨g1, g2⟩ | ⟨i', g1, g2, g3, g4⟩
      · omega
      · exact absurd h3 (g4 i (by omega))
    · intro h; omega
/-- A loop that looks for the first place. -/
theorem Tl.idxN {F : Nat → Int → Option Int} {o : List Int} {v : Int}
    (ht : ∀ j, j < o.length → o.getD j 0 ≠ v → ∀ r, Tl (fun k => F k ((j + 1 : Nat) : Int)) r → Tl (fun k => F k (j : Int)) r)
    (hf : ∀ j, j < o.length → o.getD j 0 = v → Tl (fun k => F k (j : Int)) (j : Int)) (he : Tl (fun k => F k (o.length : Int)) (-1)) :
    ∀ (n j : Nat), j + n = o.length → Tl (fun k => F k (j : Int)) (idxN o v n j)
  | 0, j, e => by
    obtain rfl : j = o.length := by omega
    exact he
  | n + 1, j, e => by
    unfold Evs.idxN
    by_cases hc : o.getD j 0 = v
    · rw [if_pos hc]; exact hf j (by omega) hc
    · rw [if_neg hc]; exact ht j (by omega) hc _ (Tl.idxN ht hf he n (j + 1) (by omega))
end Go.Proofs.YtkgloicnfphmoaaGreatDoor.Evs

namespace Go.Proofs.YtkgloicnfphmoaaGreatDoor.Print
open Go.RowKit Go.Proofs.YtkgloicnfphmoaaGreatDoorW.PrintWords Go.Proofs.YtkgloicnfphmoaaGreatDoor.Evs Go.Proofs.YtkgloicnfphmoaaGreatDoor.Opens
set_option linter.unusedSimpArgs false
set_option linter.unusedVariables false
theorem rd_getD (o : List Int) (j : Nat) : rd o (j : Int) = o.getD j 0 := rfl
theorem spec_Index_ev (o : List Int) (v : Int) (hl : o.length ≤ 1048576) : Tl (fun k => spec_l4Index.f k o v) (idx o v) := by
  unfold spec_l4Index.f
  refine Tl.idxN (F := fun k i => spec_l4Index.l0 k o v i) ?_ ?_ ?_ o.length 0 (by omega)
  · intro j hj hc r hh
    refine Tl.step ?_
    simp only [spec_l4Index.l0, rd_getD]
    rw [wrap_succ hj (by omega)]
    exact Tl.iteT (by omega) (Tl.iteT (by omega) (Tl.iteF hc hh))
  · intro j hj hc
    refine Tl.step ?_
    simp only [spec_l4Index.l0, rd_getD]
    exact Tl.iteT (by omega) (Tl.iteT (by omega) (Tl.iteT hc (Tl.ret _)))
  · refine Tl.step ?_
    simp only [spec_l4Index.l0]
    exact Tl.iteF (by omega) (Tl.ret _)
theorem impl_Index_ev (o : List Int) (v : Int) (hl : o.length ≤ 1048576) : Tl (fun k => slices_Index_int_int.f k o v) (idx o v) := by
  unfold slices_Index_int_int.f
  refine Tl.idxN (F := fun k i => slices_Index_int_int.l0 k o v (o.length : Int) i) ?_ ?_ ?_ o.length 0 (by omega)
  · intro j hj hc r hh
    refine Tl.step ?_
    simp only [slices_Index_int_int.l0, rd_getD]
    rw [wrap_succ hj (by omega)]
    exact Tl.iteT (by omega) (Tl.iteT (by omega) (Tl.iteT (by omega) (Tl.iteF (fun h => hc h.symm) hh)))
  · intro j hj hc
    refine Tl.step ?_
    simp only [slices_Index_int_int.l0, rd_getD]
    exact Tl.iteT (by omega) (Tl.iteT (by omega) (Tl.iteT (by omega) (Tl.iteT hc.symm (Tl.ret _))))
  · refine Tl.step ?_
    simp only [slices_Index_int_int.l0]
    exact Tl.iteF (by omega) (Tl.ret _)
def okAt (s : List Task) (o : List Int) (j : Nat) : Bool := decide (0 ≤ o.getD j 0 ∧ o.getD j 0 ≤ (s.length : Int) - 1) && decide (idx (o.take j) (o.getD j 0) < 0)
/-- A permutation of a valid set. -/
def okOrder (s : List Task) (o : List Int) : Bool := (List.range o.length).all (okAt s o) && (okSet s && decide (o.length = s.length))
theorem impl_OrderValid_ev (s : List Task) (o : List Int) (hs : s.length ≤ 1048576) (ho : o.length ≤ 1048576) : Tl (fun k => impl_OrderValid.f k s o) (okOrder s o) := by
  unfold impl_OrderValid.f okOrder
  refine Tl.all (F := fun k i => impl_OrderValid.l0 k s o o (o.length : Int) i) ?_ ?_ ?_
  · intro j hj hp r hh
    unfold okAt at hp
    rw [Bool.and_eq_true, decide_eq_true_eq, decide_eq_true_eq, ← idx_first hj] at hp
    refine Tl.step ?_
    simp only [impl_OrderValid.l0, rd_getD]
    rw [wrap_succ hj (by omega), wrap_id (n := (s.length : Int) - 1) (by omega) (by omega)]
    refine Tl.iteT (by omega) (Tl.iteT (by omega) (Tl.iteT (by omega) (Tl.bind (Tl.of_eq fun _ => impl_in_f _ _ _) (Tl.iteT (decide_eq_true hp.1) (Tl.bind (impl_Index_ev o _ ho) (Tl.iteT hp.2 hh))))))
  · intro j hj hp
    unfold okAt at hp
    refine Tl.step ?_
    simp only [impl_OrderValid.l0, rd_getD]
    rw [wrap_id (n := (s.length : Int) - 1) (by omega) (by omega)]
    refine Tl.iteT (by omega) (Tl.iteT (by omega) (Tl.iteT (by omega) (Tl.bind (Tl.of_eq fun _ => impl_in_f _ _ _) ?_)))
    by_cases h1 : 0 ≤ o.getD j 0 ∧ o.getD j 0 ≤ (s.length : Int) - 1
    · rw [decide_eq_true h1, Bool.true_and, decide_eq_false_iff_not, ← idx_first hj] at hp
      exact Tl.iteT (decide_eq_true h1) (Tl.bind (impl_Index_ev o _ ho) (Tl.iteF hp (Tl.ret _)))
    · exact Tl.iteF (by rw [decide_eq_true_eq]; exact h1) (Tl.ret _)
  · refine Tl.step ?_
    simp only [impl_OrderValid.l0]
    refine Tl.iteF (by omega) (Tl.bind (impl_SetValid_ev s hs) ?_)
    have e : ((o.length : Int) == (s.length : Int)) = decide (o.length = s.length) := by rw [Bool.eq_iff_iff, beq_iff_eq, decide_eq_true_eq]; omega
    rw [e]
    cases okSet s with
    | true => exact Tl.iteT rfl (Tl.ret _)
    | false => exact Tl.iteF (by simp) (Tl.ret _)
theorem spec_OrderValid_ev (s : List Task) (o : List Int) (hs : s.length ≤ 1048576) (ho : o.length ≤ 1048576) : Tl (fun k => spec_OrderValid.f k s o) (okOrder s o) := by
  unfold spec_OrderValid.f okOrder
  have hj : Tl (fun k => spec_OrderValid.j0 k s o true) false := by
    refine Tl.step ?_
    simp only [spec_OrderValid.j0]
    exact Tl.iteT trivial (Tl.ret _)
  refine Tl.bind (spec_SetValid_ev s hs) ?_
  by_cases h : okSet s = true
  · refine Tl.iteT h ?_
    by_cases h2 : o.length = s.length
    · rw [h, decide_eq_true h2, show ((o.length : Int) != (s.length : Int)) = false from by rw [bne_eq_false_iff_eq]; omega]
      refine Tl.step ?_
      simp only [spec_OrderValid.j0]
      refine Tl.iteF (by simp) ?_
      refine Tl.all (F := fun k i => spec_OrderValid.l0 k s o i) ?_ ?_ ?_
      · intro j hj hp r hh
        unfold okAt at hp
        rw [Bool.and_eq_true, decide_eq_true_eq, decide_eq_true_eq] at hp
        refine Tl.step ?_
        simp only [spec_OrderValid.l0, rd_getD, Int.toNat_natCast]
        rw [wrap_succ hj (by omega), wrap_id (n := (s.length : Int) - 1) (by omega) (by omega)]
        exact Tl.iteT (by omega) (Tl.iteT (by omega) (Tl.bind (Tl.of_eq fun _ => spec_l1In_f _ _ _) (Tl.iteT (decide_eq_true hp.1) (Tl.iteT (by omega) (Tl.bind (spec_Index_ev _ _ (by simp; omega)) (Tl.iteF (by omega) hh))))))
      · intro j hj hp
        unfold okAt at hp
        refine Tl.step ?_
        simp only [spec_OrderValid.l0, rd_getD, Int.toNat_natCast]
        rw [wrap_id (n := (s.length : Int) - 1) (by omega) (by omega)]
        refine Tl.iteT (by omega) (Tl.iteT (by omega) (Tl.bind (Tl.of_eq fun _ => spec_l1In_f _ _ _) ?_))
        by_cases h1 : 0 ≤ o.getD j 0 ∧ o.getD j 0 ≤ (s.length : Int) - 1
        · rw [decide_eq_true h1, Bool.true_and, decide_eq_false_iff_not] at hp
          exact Tl.iteT (decide_eq_true h1) (Tl.iteT (by omega) (Tl.bind (spec_Index_ev _ _ (by simp; omega)) (Tl.iteT (by omega) (Tl.ret _))))
        · exact Tl.iteF (by rw [decide_eq_true_eq]; exact h1) (Tl.ret _)
      · refine Tl.step ?_
        simp only [spec_OrderValid.l0]
        exact Tl.iteF (by omega) (Tl.ret _)
    · rw [decide_eq_false h2, Bool.and_false, Bool.and_false, show ((o.length : Int) != (s.length : Int)) = true from by rw [bne_iff_ne]; omega]
      exact hj
  · rw [Bool.not_eq_true] at h
    rw [h, Bool.false_and, Bool.and_false]
    exact Tl.iteF (by simp) hj

/-- The task at place j of an order. -/
def tkAt (s : List Task) (o : List Int) (j : Nat) : Task := tk s (o.getD j 0).toNat
/-- The demand in a window of length r below task i: the first j tasks of the order counted. -/
def accN (s : List Task) (o : List Int) (i : Nat) (r : Int) : Nat → Int
  | 0 => (tk s i).f0
  | j + 1 => accN s o i r j + (r + (tkAt s o j).f2 - 1) / (tkAt s o j).f2 * (tkAt s o j).f0
def acc (s : List Task) (o : List Int) (i : Nat) (r : Int) : Int := accN s o i r o.length
/-- An order's part: valid places of a valid set. -/
structure Part (s : List Task) (o : List Int) : Prop where
  ok : okSet s = true
  len : o.length ≤ 5
  at_ : ∀ j, j < o.length → 0 ≤ o.getD j 0 ∧ o.getD j 0 < (s.length : Int)
theorem Part.tk {s : List Task} {o : List Int} (h : Part s o) {j : Nat} (hj : j < o.length) : 1 ≤ (tkAt s o j).f0 ∧ (tkAt s o j).f0 ≤ 8 ∧ (tkAt s o j).f0 ≤ (tkAt s o j).f1 ∧ (tkAt s o j).f1 ≤ (tkAt s o j).f2 ∧ (tkAt s o j).f2 ≤ 12 := by
  have := h.at_ j hj
  exact okSet_tk h.ok (by omega)
theorem accT_le {s : List Task} {o : List Int} (h : Part s o) {r : Int} (h0 : 1 ≤ r) (h1 : r ≤ 12) {j : Nat} (hj : j < o.length) :
    0 ≤ (r + (tkAt s o j).f2 - 1) / (tkAt s o j).f2 ∧ (r + (tkAt s o j).f2 - 1) / (tkAt s o j).f2 ≤ 23 ∧ 0 ≤ (r + (tkAt s o j).f2 - 1) / (tkAt s o j).f2 * (tkAt s o j).f0 ∧ (r + (tkAt s o j).f2 - 1) / (tkAt s o j).f2 * (tkAt s o j).f0 ≤ 184 := by
  have h2 := h.tk hj
  have h6 : 0 ≤ (r + (tkAt s o j).f2 - 1) / (tkAt s o j).f2 := Int.ediv_nonneg (by omega) (by omega)
  have h7 : (r + (tkAt s o j).f2 - 1) / (tkAt s o j).f2 ≤ r + (tkAt s o j).f2 - 1 := Int.ediv_le_self _ (by omega)
  refine ⟨h6, by omega, Int.mul_nonneg h6 (by omega), ?_⟩
  calc (r + (tkAt s o j).f2 - 1) / (tkAt s o j).f2 * (tkAt s o j).f0 ≤ 23 * 8 := Int.mul_le_mul (by omega) (by omega) (by omega) (by omega)
    _ ≤ _ := by omega
theorem accN_le {s : List Task} {o : List Int} (h : Part s o) {i : Nat} (hi : i < s.length) {r : Int} (h0 : 1 ≤ r) (h1 : r ≤ 12) : ∀ j, j ≤ o.length → (tk s i).f0 ≤ accN s o i r j ∧ accN s o i r j ≤ 8 + 184 * j
  | 0, _ => by
    have := okSet_tk h.ok hi
    unfold accN
    omega
  | j + 1, hj => by
    have h2 := accN_le h hi h0 h1 j (by omega)
    have h3 := accT_le h h0 h1 (show j < o.length by omega)
    unfold accN
    omega
theorem accN_mono {s : List Task} {o : List Int} (h : Part s o) {i : Nat} {r v : Int} (hv : r ≤ v) : ∀ j, j ≤ o.length → accN s o i r j ≤ accN s o i v j
  | 0, _ => by unfold accN; omega
  | j + 1, hj => by
    have h2 := accN_mono h (i := i) hv j (by omega)
    have h3 := h.tk (show j < o.length by omega)
    have h4 : (r + (tkAt s o j).f2 - 1) / (tkAt s o j).f2 ≤ (v + (tkAt s o j).f2 - 1) / (tkAt s o j).f2 := Int.ediv_le_ediv (by omega) (by omega)
    have h5 : (r + (tkAt s o j).f2 - 1) / (tkAt s o j).f2 * (tkAt s o j).f0 ≤ (v + (tkAt s o j).f2 - 1) / (tkAt s o j).f2 * (tkAt s o j).f0 := Int.mul_le_mul_of_nonneg_right h4 (by omega)
    unfold accN
    omega
theorem acc_step {s : List Task} {o : List Int} (h : Part s o) {i : Nat} (hi : i < s.length) {r : Int} (h0 : 1 ≤ r) (h1 : r ≤ 12) {j : Nat} (hj : j < o.length) :
    wrap64 (accN s o i r j + (wrap64 ((wrap64 (Int.tdiv (wrap64 ((wrap64 (r + (tkAt s o j).f2)) - 1)) (tkAt s o j).f2)) * (tkAt s o j).f0))) = accN s o i r (j + 1) := by
  have h2 := h.tk hj
  have h3 := accT_le h h0 h1 hj
  have h4 := accN_le h hi h0 h1 (j + 1) (by omega)
  have hl := h.len
  have h5 := okSet_tk h.ok hi
  rw [wrap_id (n := r + (tkAt s o j).f2) (by omega) (by omega), wrap_id (n := r + (tkAt s o j).f2 - 1) (by omega) (by omega), tdiv_pos (by omega), wrap_id (n := _ / _) (by omega) (by omega), wrap_id (n := _ * _) (by omega) (by omega)]
  show wrap64 (accN s o i r (j + 1)) = _
  exact wrap_id (by omega) (by omega)
def respN (s : List Task) (o : List Int) (i : Nat) : Nat → Int → Int
  | 0, _ => -1
  | n + 1, r => if r ≤ (tk s i).f1 then (if acc s o i r = r then r else respN s o i n (acc s o i r)) else -1
def resp (s : List Task) (o : List Int) (i : Nat) : Int := respN s o i 20 (tk s i).f0
theorem rd_tkAt (s : List Task) (o : List Int) {j : Nat} : rd_T29 s (o.getD j 0) = tkAt s o j := rfl
theorem spec_resp_ev {s : List Task} {o : List Int} (h : Part s o) {i : Nat} (hi : i < s.length) : ∀ (n : Nat) (r : Int), 1 ≤ r → 13 - r < n → (r ≤ 12 → r ≤ acc s o i r) → Tl (fun k => spec_l4Response.l0 k s o (i : Int) r) (respN s o i n r)
  | 0, r, h0, h1, h2 => by
    have h3 := okSet_tk h.ok hi
    refine Tl.step ?_
    simp only [spec_l4Response.l0, rd_tk]
    exact Tl.iteT (by omega) (Tl.iteT (by omega) (Tl.iteF (by omega) (Tl.ret _)))
  | n + 1, r, h0, h1, h2 => by
    have h3 := okSet_tk h.ok hi
    have hlen := okSet_len h.ok
    have hl := h.len
    refine Tl.step ?_
    simp only [spec_l4Response.l0, rd_tk]
    refine Tl.iteT (by omega) (Tl.iteT (by omega) ?_)
    unfold respN
    by_cases hc : r ≤ (tk s i).f1
    · rw [if_pos hc]
      refine Tl.iteT hc ?_
      have key : ∀ v, Tl (fun k => if acc s o i r = r then some r else spec_l4Response.l0 k s o (i : Int) (acc s o i r)) v → Tl (fun k => spec_l4Response.l1 k s o (i : Int) r (tk s i).f0 0) v := by
        intro v hv
        refine down (Q := fun j => Tl (fun k => spec_l4Response.l1 k s o (i : Int) r (accN s o i r j) (j : Int)) v) o.length ?_ ?_
        · refine Tl.step ?_
          simp only [spec_l4Response.l1]
          exact Tl.iteF (by omega) hv
        · intro j hj hh
          have h4 := h.at_ j hj
          have h5 := h.tk hj
          refine Tl.step ?_
          simp only [spec_l4Response.l1, rd_getD, rd_tkAt]
          rw [acc_step h hi h0 (by omega) hj, wrap_succ hj (by omega)]
          exact Tl.iteT (by omega) (Tl.iteT (by omega) (Tl.iteT h4.1 (Tl.iteT h4.2 (Tl.iteF (by omega) hh))))
      refine key _ ?_
      by_cases he : acc s o i r = r
      · rw [if_pos he]; exact Tl.iteT he (Tl.ret _)
      · rw [if_neg he]
        have h6 := h2 (by omega)
        have h7 : 12 ≥ r := by omega
        refine Tl.iteF he (spec_resp_ev h hi n _ (by omega) (by omega) (fun _ => accN_mono h h6 _ (Nat.le_refl _)))
    · rw [if_neg hc]; exact Tl.iteF hc (Tl.ret _)
theorem rd_zero (m : Nat) (x : Int) : rd (List.replicate m 0) x = 0 := by
  unfold rd
  rw [List.getD_eq_getElem?_getD, List.getElem?_replicate]
  split <;> rfl
theorem impl_ceil_ev {a b : Int} (hb : b ≠ 0) : Tl (fun _ => impl_ceil.f a b) (wrap64 (Int.tdiv (wrap64 ((wrap64 (a + b)) - 1)) b)) := by
  unfold impl_ceil.f
  exact Tl.iteF hb (Tl.ret _)
theorem impl_resp_ev {s : List Task} {o : List Int} (h : Part s o) {i : Nat} (hi : i < s.length) : ∀ (n : Nat) (r : Int), 1 ≤ r → r ≤ 2000 → 13 - r < n → (r ≤ 12 → r ≤ acc s o i r) → Tl (fun k => impl_response.l0 k s (List.replicate s.length 0) (i : Int) o r) (respN s o i n r)
  | 0, r, h0, hr, h1, h2 => by
    have h3 := okSet_tk h.ok hi
    refine Tl.step ?_
    simp only [impl_response.l0, rd_tk, rd_zero, List.length_replicate]
    rw [wrap_id (n := r + 0) (by omega) (by omega)]
    exact Tl.iteT (by omega) (Tl.iteT (by omega) (Tl.iteT (by omega) (Tl.iteF (by omega) (Tl.ret _))))
  | n + 1, r, h0, hr, h1, h2 => by
    have h3 := okSet_tk h.ok hi
    have hlen := okSet_len h.ok
    have hl := h.len
    refine Tl.step ?_
    simp only [impl_response.l0, rd_tk, rd_zero, List.length_replicate]
    rw [wrap_id (n := r + 0) (by omega) (by omega), Int.add_zero]
    refine Tl.iteT (by omega) (Tl.iteT (by omega) (Tl.iteT (by omega) ?_))
    unfold respN
    by_cases hc : r ≤ (tk s i).f1
    · rw [if_pos hc]
      refine Tl.iteT hc ?_
      have key : ∀ v, Tl (fun k => if acc s o i r = r then some r else impl_response.l0 k s (List.replicate s.length 0) (i : Int) o (acc s o i r)) v → Tl (fun k => impl_response.l1 k s (List.replicate s.length 0) (i : Int) o r (tk s i).f0 o (o.length : Int) 0) v := by
        intro v hv
        refine down (Q := fun j => Tl (fun k => impl_response.l1 k s (List.replicate s.length 0) (i : Int) o r (accN s o i r j) o (o.length : Int) (j : Int)) v) o.length ?_ ?_
        · refine Tl.step ?_
          simp only [impl_response.l1, rd_zero, List.length_replicate]
          rw [wrap_id (n := r + 0) (by omega) (by omega), Int.add_zero]
          refine Tl.iteF (by omega) ?_
          by_cases he : acc s o i r = r
          · have hv' : v = r := by
              obtain ⟨k0, hk⟩ := hv
              have := hk k0 (Nat.le_refl _)
              simp only [if_pos he] at this
              exact (Option.some.inj this).symm
            rw [hv']
            exact Tl.iteT he (Tl.iteT (by omega) (Tl.iteT (by omega) (Tl.ret _)))
          · refine Tl.iteF he ?_
            have h9 : Tl (fun k => impl_response.l0 k s (List.replicate s.length 0) (i : Int) o (acc s o i r)) v := by simpa only [if_neg he] using hv
            exact h9
        · intro j hj hh
          have h4 := h.at_ j hj
          have h5 := h.tk hj
          refine Tl.step ?_
          simp only [impl_response.l1, rd_getD, rd_tkAt, rd_zero, List.length_replicate]
          rw [wrap_id (n := r + 0) (by omega) (by omega), Int.add_zero]
          refine Tl.iteT (by omega) (Tl.iteT (by omega) (Tl.iteT (by omega) (Tl.iteT h4.1 (Tl.iteT h4.2 (Tl.iteT h4.2 (Tl.bind (impl_ceil_ev (by omega)) ?_))))))
          rw [acc_step h hi h0 (by omega) hj, wrap_succ hj (by omega)]
          exact hh
      refine key _ ?_
      by_cases he : acc s o i r = r
      · rw [if_pos he]; exact Tl.iteT he (Tl.ret _)
      · rw [if_neg he]
        have h6 := h2 (by omega)
        have h7 := accN_le h hi h0 (show r ≤ 12 by omega) o.length (Nat.le_refl _)
        have h8 : accN s o i r o.length = acc s o i r := rfl
        refine Tl.iteF he (impl_resp_ev h hi n _ (by omega) (by omega) (by omega) (fun _ => accN_mono h h6 _ (Nat.le_refl _)))
    · rw [if_neg hc]; exact Tl.iteF hc (Tl.ret _)
theorem spec_Response_ev {s : List Task} {o : List Int} (h : Part s o) {i : Nat} (hi : i < s.length) : Tl (fun k => spec_l4Response.f k s o (i : Int)) (resp s o i) := by
  have h3 := okSet_tk h.ok hi
  unfold spec_l4Response.f resp
  simp only [rd_tk]
  exact Tl.iteT (by omega) (Tl.iteT (by omega) (spec_resp_ev h hi 20 _ (by omega) (by omega) (fun _ => (accN_le h hi (by omega) (by omega) _ (Nat.le_refl _)).1)))
theorem impl_Response_ev {s : List Task} {o : List Int} (h : Part s o) {i : Nat} (hi : i < s.length) : Tl (fun k => impl_response.f k s (List.replicate s.length 0) (i : Int) o) (resp s o i) := by
  have h3 := okSet_tk h.ok hi
  unfold impl_response.f resp
  simp only [rd_tk]
  exact Tl.iteT (by omega) (Tl.iteT (by omega) (impl_resp_ev h hi 20 _ (by omega) (by omega) (by omega) (fun _ => (accN_le h hi (by omega) (by omega) _ (Nat.le_refl _)).1)))
theorem okOrder_all {s : List Task} {o : List Int} (h : okOrder s o = true) : okSet s = true ∧ o.length = s.length ∧ ∀ j, j < o.length → (0 ≤ o.getD j 0 ∧ o.getD j 0 < (s.length : Int)) ∧ idx (o.take j) (o.getD j 0) < 0 := by
  unfold okOrder at h
  rw [Bool.and_eq_true, Bool.and_eq_true, List.all_eq_true, decide_eq_true_eq] at h
  refine ⟨h.2.1, h.2.2, fun j hj => ?_⟩
  have := h.1 j (by simpa using hj)
  unfold okAt at this
  rw [Bool.and_eq_true, decide_eq_true_eq, decide_eq_true_eq] at this
  omega
theorem okOrder_part {s : List Task} {o : List Int} (h : okOrder s o = true) (j : Nat) : Part s (o.take j) := by
  have h1 := okOrder_all h
  have h2 := okSet_len h1.1
  refine ⟨h1.1, by simp; omega, fun i hi => ?_⟩
  have hi' : i < j ∧ i < o.length := by simp at hi; omega
  rw [take_at o hi'.1]
  exact (h1.2.2 i hi'.2).1
/-- The response time of the task at place j of an order. -/
def respAt (s : List Task) (o : List Int) (j : Nat) : Int := resp s (o.take j) (o.getD j 0).toNat
def outN (s : List Task) (o : List Int) : Nat → List Int
  | 0 => List.replicate s.length 0
  | j + 1 => (outN s o j).set (o.getD j 0).toNat (respAt s o j)
theorem outN_len (s : List Task) (o : List Int) : ∀ j, (outN s o j).length = s.length
  | 0 => by unfold outN; simp
  | j + 1 => by unfold outN; rw [List.length_set]; exact outN_len s o j
theorem spec_RespAt_ev {s : List Task} {o : List Int} (h : okOrder s o = true) {j : Nat} (hj : j < o.length) : Tl (fun k => spec_l4Response.f k s (o.take j) (o.getD j 0)) (respAt s o j) := by
  have h1 := ((okOrder_all h).2.2 j hj).1
  have h2 := spec_Response_ev (okOrder_part h j) (i := (o.getD j 0).toNat) (by omega)
  rw [show (((o.getD j 0).toNat : Nat) : Int) = o.getD j 0 by omega] at h2
  exact h2
theorem impl_RespAt_ev {s : List Task} {o : List Int} (h : okOrder s o = true) {j : Nat} (hj : j < o.length) : Tl (fun k => impl_response.f k s (List.replicate s.length 0) (o.getD j 0) (o.take j)) (respAt s o j) := by
  have h1 := ((okOrder_all h).2.2 j hj).1
  have h2 := impl_Response_ev (okOrder_part h j) (i := (o.getD j 0).toNat) (by omega)
  rw [show (((o.getD j 0).toNat : Nat) : Int) = o.getD j 0 by omega] at h2
  exact h2
def ResponseTimes_D (s : List Task) (o : List Int) : List Int := if okOrder s o = true then outN s o o.length else []
theorem spec_ResponseTimes_ev (s : List Task) (o : List Int) (hs : s.length ≤ 1048576) (ho : o.length ≤ 1048576) : Tl (fun k => spec_ResponseTimes.f k s o) (ResponseTimes_D s o) := by
  unfold spec_ResponseTimes.f ResponseTimes_D
  refine Tl.bind (spec_OrderValid_ev s o hs ho) ?_
  by_cases h : okOrder s o = true
  · rw [if_pos h]
    refine Tl.iteT h (Tl.iteT (by omega) (Tl.iteT (by omega) ?_))
    simp only [Int.toNat_natCast]
    refine down (Q := fun j => Tl (fun k => spec_ResponseTimes.l0 k s o (outN s o j) (j : Int)) (outN s o o.length)) o.length ?_ ?_
    · refine Tl.step ?_
      simp only [spec_ResponseTimes.l0]
      exact Tl.iteF (by omega) (Tl.ret _)
    · intro j hj hh
      have h1 := ((okOrder_all h).2.2 j hj).1
      refine Tl.step ?_
      simp only [spec_ResponseTimes.l0, rd_getD, Int.toNat_natCast]
      rw [wrap_succ hj (by omega)]
      exact Tl.iteT (by omega) (Tl.iteT (by omega) (Tl.iteT (by omega) (Tl.bind (spec_RespAt_ev h hj) (Tl.iteT h1.1 (Tl.iteT (by rw [outN_len]; exact h1.2) hh)))))
  · rw [if_neg h]; exact Tl.iteF h (Tl.ret _)
theorem impl_responses_ev {s : List Task} {o : List Int} (h : okOrder s o = true) (ho : o.length ≤ 1048576) : Tl (fun k => impl_responses.f k s (List.replicate s.length 0) o) (outN s o o.length) := by
  have h0 := okSet_len (okOrder_all h).1
  unfold impl_responses.f
  refine Tl.iteT (by omega) (Tl.iteT (by omega) ?_)
  simp only [Int.toNat_natCast]
  refine down (Q := fun j => Tl (fun k => impl_responses.l0 k s (List.replicate s.length 0) o (outN s o j) o (o.length : Int) (j : Int)) (outN s o o.length)) o.length ?_ ?_
  · refine Tl.step ?_
    simp only [impl_responses.l0]
    exact Tl.iteF (by omega) (Tl.ret _)
  · intro j hj hh
    have h1 := ((okOrder_all h).2.2 j hj).1
    refine Tl.step ?_
    simp only [impl_responses.l0, rd_getD, Int.toNat_natCast]
    rw [wrap_succ hj (by omega)]
    exact Tl.iteT (by omega) (Tl.iteT (by omega) (Tl.iteT (by omega) (Tl.iteT (by omega) (Tl.bind (impl_RespAt_ev h hj) (Tl.iteT h1.1 (Tl.iteT (by rw [outN_len]; exact h1.2) hh))))))
theorem impl_ResponseTimes_ev (s : List Task) (o : List Int) (hs : s.length ≤ 1048576) (ho : o.length ≤ 1048576) : Tl (fun k => impl_ResponseTimes.f k s o) (ResponseTimes_D s o) := by
  unfold impl_ResponseTimes.f ResponseTimes_D
  refine Tl.bind (impl_OrderValid_ev s o hs ho) ?_
  by_cases h : okOrder s o = true
  · rw [if_pos h]
    refine Tl.iteT h (Tl.iteT (by omega) (Tl.iteT (by omega) ?_))
    simp only [Int.toNat_natCast]
    exact Tl.bind (impl_responses_ev h ho) (Tl.ret _)
  · rw [if_neg h]; exact Tl.iteF h (Tl.ret _)
theorem ResponseTimes_len (s : List Task) (o : List Int) : (ResponseTimes_D s o).length ≤ 5 := by
  unfold ResponseTimes_D
  split
  · rename_i h
    rw [outN_len]
    exact okSet_len (okOrder_all h).1
  · simp
end Go.Proofs.YtkgloicnfphmoaaGreatDoor.Print

namespace Go.Proofs.YtkgloicnfphmoaaGreatDoor.Print
open Go.RowKit Go.Proofs.YtkgloicnfphmoaaGreatDoorW.PrintWords Go.Proofs.YtkgloicnfphmoaaGreatDoor.Evs Go.Proofs.YtkgloicnfphmoaaGreatDoor.Opens Go.Proofs.YtkgloicnfphmoaaGreatDoorW.PrintMore
set_option linter.unusedSimpArgs false
set_option linter.unusedVariables false
/-- The tasks of deadline d + 1 among the first j. -/
def dmAt (s : List Task) (d j : Nat) : List Int := ((List.range j).filter (fun i => decide (dlT s i = (d : Int) + 1))).map (fun (i : Nat) => (i : Int))
/-- The tasks of deadlines 1 to e. -/
def dmUp (s : List Task) (e : Nat) : List Int := (List.range e).flatMap (fun (d : Nat) => dmAt s d s.length)
theorem dmAt_succ (s : List Task) (d j : Nat) : dmAt s d (j + 1) = if dlT s j = (d : Int) + 1 then dmAt s d j ++ [(j : Int)] else dmAt s d j := by
  unfold dmAt
  rw [List.range_succ, List.filter_append, List.map_append]
  split
  · rename_i h; simp [h]
  · rename_i h; simp [h]
theorem dmAt_len (s : List Task) (d : Nat) : ∀ j, (dmAt s d j).length ≤ j
  | 0 => by simp [dmAt]
  | j + 1 => by
    have := dmAt_len s d j
    rw [dmAt_succ]
    split
    · simp; omega
    · omega
theorem dmUp_succ (s : List Task) (e : Nat) : dmUp s (e + 1) = dmUp s e ++ dmAt s e s.length := by
  unfold dmUp
  rw [List.range_succ, List.flatMap_append]
  simp
theorem dmUp_len (s : List Task) : ∀ e, (dmUp s e).length ≤ e * s.length
  | 0 => by simp [dmUp]
  | e + 1 => by
    have h1 := dmUp_len s e
    have h2 := dmAt_len s e s.length
    rw [dmUp_succ, List.length_append, Nat.add_mul]
    omega
theorem dm_flat {n : Nat} (dl : Nat → Int) : ∀ (ds : List Nat), (ds.flatMap (fun (d : Nat) => (finL n).filter (fun y => decide (dl y.val = (d : Int) + 1)))).map (fun i => (i.val : Int)) = ds.flatMap (fun (d : Nat) => ((List.range n).filter (fun i => decide (dl i = (d : Int) + 1))).map (fun (i : Nat) => (i : Int)))
  | [] => rfl
  | d :: ds => by
    rw [List.flatMap_cons, List.flatMap_cons, List.map_append, dm_flat dl ds]
    congr 1
    rw [← finL_val n, List.filter_map, List.map_map]
    rfl
theorem dmF_up (s : List Task) : dmF s = dmUp s 12 := by
  unfold dmF bucketP dmUp dmAt
  exact dm_flat (n := s.length) (dlT s) (List.range 12)
theorem spec_dm_row {s : List Task} (hs : s.length ≤ 5) (d : Nat) (hd : d < 12) {r : List Int} (hh : Tl (fun k => spec_DeadlineMonotonic.l0 k s (dmUp s (d + 1)) ((d : Int) + 2)) r) : Tl (fun k => spec_DeadlineMonotonic.l1 k s (dmUp s d) ((d : Int) + 1) 0) r := by
  have hu := dmUp_len s d
  have hm : d * s.length ≤ 12 * 5 := Nat.mul_le_mul (by omega) hs
  have h0 : dmUp s d = dmUp s d ++ dmAt s d 0 := by simp [dmAt]
  rw [h0]
  refine down (Q := fun j => Tl (fun k => spec_DeadlineMonotonic.l1 k s (dmUp s d ++ dmAt s d j) ((d : Int) + 1) (j : Int)) r) s.length ?_ ?_
  · refine Tl.step ?_
    simp only [spec_DeadlineMonotonic.l1]
    refine Tl.iteF (by omega) ?_
    rw [← dmUp_succ, wrap_id (n := (d : Int) + 1 + 1) (by omega) (by omega)]
    rw [show (d : Int) + 1 + 1 = (d : Int) + 2 by omega]
    exact hh
  · intro j hj h
    have hl := dmAt_len s d j
    refine Tl.step ?_
    simp only [spec_DeadlineMonotonic.l1]
    refine Tl.iteT (by omega) (Tl.iteT (by omega) ?_)
    rw [wrap_succ hj (by omega)]
    have hrd : (rd_T29 s (j : Int)).f1 = dlT s j := rfl
    rw [hrd]
    rw [dmAt_succ] at h
    by_cases hc : dlT s j = (d : Int) + 1
    · rw [if_pos hc, ← List.append_assoc] at h
      exact Tl.iteT hc (Tl.iteT (by rw [List.length_append]; omega) h)
    · rw [if_neg hc] at h
      exact Tl.iteF hc h
theorem spec_dm_ev {s : List Task} (hs : s.length ≤ 5) : Tl (fun k => spec_DeadlineMonotonic.l0 k s [] 1) (dmUp s 12) := by
  have h0 : dmUp s 0 = [] := rfl
  rw [← h0]
  refine down (Q := fun e => Tl (fun k => spec_DeadlineMonotonic.l0 k s (dmUp s e) ((e : Int) + 1)) (dmUp s 12)) 12 ?_ ?_
  · refine Tl.step ?_
    simp only [spec_DeadlineMonotonic.l0]
    exact Tl.iteF (by omega) (Tl.ret _)
  · intro e he h
    refine Tl.step ?_
    simp only [spec_DeadlineMonotonic.l0]
    refine Tl.iteT (by omega) (spec_dm_row hs e he ?_)
    rw [show ((e + 1 : Nat) : Int) + 1 = (e : Int) + 2 by omega] at h
    exact h
def deadM (s : List Task) : List Int := if okSet s = true then dmUp s 12 else []
theorem deadM_len (s : List Task) : (deadM s).length ≤ 60 := by
  unfold deadM
  split
  · rename_i h
    have h1 := dmUp_len s 12
    have h2 := okSet_len h
    omega
  · simp
theorem spec_DeadlineMonotonic_ev (s : List Task) (hs : s.length ≤ 1048576) : Tl (fun k => spec_DeadlineMonotonic.f k s) (deadM s) := by
  unfold spec_DeadlineMonotonic.f deadM
  refine Tl.bind (Tl.ret _) (Tl.bind (spec_SetValid_ev s hs) ?_)
  by_cases h : okSet s = true
  · rw [if_pos h]; exact Tl.iteT h (spec_dm_ev (okSet_len h))
  · rw [if_neg h]; exact Tl.iteF h (Tl.ret _)
theorem impl_DeadlineMonotonic_ev (s : List Task) (hs : s.length ≤ 1048576) : Tl (fun _ => impl_DeadlineMonotonic.f s) (deadM s) := by
  unfold impl_DeadlineMonotonic.f deadM
  refine Tl.bind (impl_SetValid_ev s hs) ?_
  by_cases h : okSet s = true
  · have hok : dmOk s = true := by
      unfold dmOk
      rw [Bool.and_eq_true, List.all_eq_true]
      refine ⟨decide_eq_true (by have := okSet_len h; omega), fun i hi => decide_eq_true ?_⟩
      have ht := okSet_tk h (List.mem_range.1 hi)
      have e : dlT s i = (tk s i).f1 := rfl
      rw [e]
      omega
    refine Tl.cast (Tl.iteT h (Tl.iteT hok (Tl.ret _))) ?_
    rw [if_pos h, dmF_up]
  · refine Tl.cast (Tl.iteF h (Tl.ret _)) ?_
    rw [if_neg h]
end Go.Proofs.YtkgloicnfphmoaaGreatDoor.Print

namespace Go.Proofs.YtkgloicnfphmoaaGreatDoor.Print
open Go.RowKit Go.Proofs.YtkgloicnfphmoaaGreatDoorW.PrintWords Go.Proofs.YtkgloicnfphmoaaGreatDoor.Evs Go.Proofs.YtkgloicnfphmoaaGreatDoor.Opens
set_option linter.unusedSimpArgs false
set_option linter.unusedVariables false
theorem onN_succ (s : List Task) (a : List Int) (c : Int) (j : Nat) : onN s a c (j + 1) = if a.getD j 0 = c then onN s a c j ++ [s.getD j z29] else onN s a c j := rfl
theorem rd_o (o : List Int) (j : Nat) : rd o (j : Int) = o.getD j 0 := rfl
theorem spec_On_ev {s : List Task} {a : List Int} (c : Int) (h : a.length ≤ s.length) (hs : s.length ≤ 1000000) : Tl (fun k => spec_l7On.f k s a c) (onN s a c a.length) := by
  unfold spec_l7On.f
  refine down (Q := fun j => Tl (fun k => spec_l7On.l0 k s a c (onN s a c j) (j : Int)) (onN s a c a.length)) a.length ?_ ?_
  · refine Tl.step ?_
    simp only [spec_l7On.l0]
    exact Tl.iteF (by omega) (Tl.ret _)
  · intro j hj hh
    have hlen := onN_len s a c j
    rw [onN_succ] at hh
    refine Tl.step ?_
    simp only [spec_l7On.l0, rd_o]
    rw [wrap_succ hj (by omega)]
    refine Tl.iteT (by omega) (Tl.iteT (by omega) ?_)
    by_cases hc : a.getD j 0 = c
    · rw [if_pos hc] at hh
      exact Tl.iteT hc (Tl.iteT (by omega) (Tl.iteT (by omega) hh))
    · rw [if_neg hc] at hh
      exact Tl.iteF hc hh
theorem impl_On_ev {s : List Task} {a : List Int} (c : Int) (h : a.length ≤ s.length) (hs : s.length ≤ 1000000) : Tl (fun _ => impl_onCore.f s a c) (onN s a c a.length) := Tl.of_eq fun _ => if_pos ⟨h, hs⟩
theorem okTask_tk {s : List Task} (h : okSet s = true) {j : Nat} (hj : j < s.length) : okTask (s.getD j z29) = true := by
  unfold okSet at h
  rw [Bool.and_eq_true, List.all_eq_true] at h
  refine h.2 _ ?_
  rw [List.getD_eq_getElem?_getD, List.getElem?_eq_getElem hj]
  exact List.getElem_mem hj
theorem onN_all {s : List Task} (h : okSet s = true) (a : List Int) (c : Int) : ∀ j, j ≤ s.length → (onN s a c j).all okTask = true
  | 0, _ => rfl
  | j + 1, hj => by
    have h1 := onN_all h a c j (by omega)
    rw [onN_succ]
    split
    · rw [List.all_append, h1, Bool.true_and, List.all_cons, okTask_tk h (by omega)]
      rfl
    · exact h1
theorem onN_ok {s : List Task} (h : okSet s = true) (a : List Int) (c : Int) {j : Nat} (hj : j ≤ s.length) : okSet (onN s a c j) = true := by
  have h1 := onN_len s a c j
  have h2 := okSet_len h
  have h3 := onN_all h a c j hj
  unfold okSet
  rw [decide_eq_true (by omega), h3]
  rfl
end Go.Proofs.YtkgloicnfphmoaaGreatDoor.Print

namespace Go.Proofs.YtkgloicnfphmoaaGreatDoor.Print
open Go.RowKit Go.Proofs.YtkgloicnfphmoaaGreatDoorW.PrintWords Go.Proofs.YtkgloicnfphmoaaGreatDoorW.PrintMore Go.Proofs.YtkgloicnfphmoaaGreatDoor.Evs Go.Proofs.YtkgloicnfphmoaaGreatDoor.Opens
set_option linter.unusedSimpArgs false
set_option linter.unusedVariables false
theorem getD_last (a : List Int) (x : Int) : (a ++ [x]).getD a.length 0 = x := by simp [List.getD_eq_getElem?_getD, List.getElem?_append]
theorem getD_left (a b : List Int) {j : Nat} (h : j < a.length) : (a ++ b).getD j 0 = a.getD j 0 := by simp [List.getD_eq_getElem?_getD, List.getElem?_append, h]
theorem onN_congr (s : List Task) (a b : List Int) (c : Int) : ∀ n, (∀ j, j < n → a.getD j 0 = b.getD j 0) → onN s a c n = onN s b c n
  | 0, _ => rfl
  | n + 1, h => by
    rw [onN_succ, onN_succ, h n (by omega), onN_congr s a b c n (fun j hj => h j (by omega))]
theorem onN_skip (s : List Task) (a : List Int) (c : Int) (m : Nat) : ∀ n, (∀ j, m ≤ j → j < m + n → a.getD j 0 ≠ c) → onN s a c (m + n) = onN s a c m
  | 0, _ => rfl
  | n + 1, h => by
    rw [← Nat.add_assoc, onN_succ, if_neg (h (m + n) (by omega) (by omega))]
    exact onN_skip s a c m n (fun j h1 h2 => h j h1 (by omega))
theorem onN_app (s : List Task) (a : List Int) (x : Int) : onN s (a ++ [x]) x (a.length + 1) = onN s a x a.length ++ [s.getD a.length z29] := by
  rw [onN_succ, getD_last, if_pos rfl, onN_congr s (a ++ [x]) a x a.length (fun j hj => getD_left _ _ hj)]
/-- The reference's answer. -/
def resS (o : Option (List Int)) : List Int × Bool := match o with
  | some r => (r, true)
  | none => ([], false)
theorem set_at (a : List Int) (z v : Int) (d : Nat) : (a ++ z :: List.replicate d (-1)).set a.length v = a ++ v :: List.replicate d (-1) := by
  rw [List.set_append_right _ _ (Nat.le_refl _), Nat.sub_self, List.set_cons_zero]
theorem app_cons (a : List Int) (z : Int) (l : List Int) : a ++ z :: l = a ++ [z] ++ l := by simp
theorem impl_none_ev (n : Nat) (h : n ≤ 1000000) : Tl (fun _ => impl_none.f (n : Int)) (List.replicate n (-1)) := by
  refine Tl.of_eq fun _ => ?_
  unfold impl_none.f
  rw [if_pos (by omega)]
  rfl

/-- The first processor, from x on, m of them tried. -/
def firstS (f : Nat → Option (List Int)) : Nat → Nat → Option (List Int)
  | 0, _ => none
  | m + 1, x => match f x with
    | some r => some r
    | none => firstS f m (x + 1)
theorem firstS_some {f : Nat → Option (List Int)} {m x : Nat} {r : List Int} (h : f x = some r) : firstS f (m + 1) x = some r := by show (match f x with | some r => some r | none => _) = _; rw [h]
theorem firstS_none {f : Nat → Option (List Int)} {m x : Nat} (h : f x = none) : firstS f (m + 1) x = firstS f m (x + 1) := by show (match f x with | some r => some r | none => _) = _; rw [h]
/-- How many processors are in use. -/
def top (a : List Int) : Int := a.foldl (fun t x => mx t (x + 1)) 0
theorem top_app (a : List Int) (x : Int) : top (a ++ [x]) = mx (top a) (x + 1) := by unfold top; rw [List.foldl_append]; rfl
def tries (c : Int) (a : List Int) : Nat := (mn c (top a + 1)).toNat
theorem tries_mn {c : Int} {a : List Int} (h0 : 0 ≤ top a) (hc : 1 ≤ c) : mn c (top a + 1) = ((tries c a : Nat) : Int) := by
  have : 0 ≤ mn c (top a + 1) := by unfold mn; split <;> omega
  unfold tries
  omega
def srchN (s : List Task) (c : Int) : Nat → List Int → Option (List Int)
  | 0, a => some a
  | d + 1, a => firstS (fun x => if feas (onN s (a ++ [(x : Int)]) (x : Int) (a.length + 1)) = true then srchN s c d (a ++ [(x : Int)]) else none) (tries c a) 0
def stepS (s : List Task) (c : Int) (d : Nat) (a : List Int) (x : Nat) : Option (List Int) := if feas (onN s (a ++ [(x : Int)]) (x : Int) (a.length + 1)) = true then srchN s c d (a ++ [(x : Int)]) else none
theorem srchN_succ (s : List Task) (c : Int) (d : Nat) (a : List Int) : srchN s c (d + 1) a = firstS (stepS s c d a) (tries c a) 0 := rfl
/-- The first tasks have processors below c. -/
structure Asg (s : List Task) (c : Int) (a : List Int) (d : Nat) : Prop where
  ok : okSet s = true
  c1 : 1 ≤ c
  c5 : c ≤ 5
  len : a.length + d = s.length
  lo : ∀ j, j < a.length → 0 ≤ a.getD j 0
  top0 : 0 ≤ top a
  topc : top a ≤ c
theorem Asg.app {s : List Task} {c : Int} {a : List Int} {d : Nat} (h : Asg s c a (d + 1)) {x : Nat} (hx : x < tries c a) : Asg s c (a ++ [(x : Int)]) d := by
  have h1 := h.top0
  have h2 := h.topc
  have h3 := h.len
  have h4 := h.c1
  have hx' : (x : Int) < c ∧ (x : Int) < top a + 1 := by unfold tries mn at hx; split at hx <;> omega
  refine ⟨h.ok, h.c1, h.c5, by rw [List.length_append, List.length_singleton]; omega, fun j hj => ?_, ?_, ?_⟩
  · rw [List.length_append, List.length_singleton] at hj
    by_cases hc : j = a.length
    · subst hc; rw [getD_last]; omega
    · rw [getD_left _ _ (by omega)]; exact h.lo j (by omega)
  · rw [top_app]; unfold mx; split <;> omega
  · rw [top_app]; unfold mx; split <;> omega
theorem onN_rep (s : List Task) (a : List Int) (x : Int) (d : Nat) (hx : 0 ≤ x) : onN s (a ++ [x] ++ List.replicate d (-1)) x (a ++ [x] ++ List.replicate d (-1)).length = onN s (a ++ [x]) x (a.length + 1) := by
  have hl : (a ++ [x] ++ List.replicate d (-1)).length = a.length + 1 + d := by simp; omega
  rw [hl, onN_skip s _ x (a.length + 1) d (fun j h1 h2 => ?_)]
  · refine onN_congr s _ _ x _ (fun j hj => getD_left _ _ (by simp; omega))
  · have e : (a ++ [x] ++ List.replicate d (-1)).getD j 0 = -1 := by
      rw [List.getD_eq_getElem?_getD, List.getElem?_append_right (by simp; omega), List.getElem?_replicate, if_pos (by simp; omega)]
      rfl
    rw [e]; omega
theorem spec_search_ev {s : List Task} {c : Int} : ∀ (d : Nat) (a : List Int), Asg s c a d → Tl (fun k => spec_l7Search.f k s c a) (resS (srchN s c d a))
  | 0, a, h => by
    have h1 := h.len
    refine Tl.step ?_
    simp only [spec_l7Search.f]
    exact Tl.iteT (by omega) (Tl.ret _)
  | d + 1, a, h => by
    have h1 := h.len
    have hn5 := okSet_len h.ok
    have hc1 := h.c1
    have hc5 := h.c5
    have ht0 := h.top0
    have htc := h.topc
    refine Tl.step ?_
    simp only [spec_l7Search.f]
    refine Tl.iteF (by omega) ?_
    have loop : Tl (fun k => spec_l7Search.l1 k s c a (a.length : Int) (top a) 0) (resS (srchN s c (d + 1) a)) := by
      rw [srchN_succ]
      have key : ∀ (m x : Nat), x + m = tries c a → Tl (fun k => spec_l7Search.l1 k s c a (a.length : Int) (top a) (x : Int)) (resS (firstS (stepS s c d a) m x)) := by
        intro m
        induction m with
        | zero =>
          intro x hx
          refine Tl.step ?_
          simp only [spec_l7Search.l1]
          rw [wrap_id (n := top a + 1) (by omega) (by omega)]
          have hM := tries_mn ht0 hc1
          exact Tl.iteF (by omega) (Tl.ret _)
        | succ m ih =>
          intro x hx
          have hxt : x < tries c a := by omega
          have hA := h.app hxt
          have hok : okSet (onN s (a ++ [(x : Int)]) (x : Int) (a.length + 1)) = true := onN_ok h.ok _ _ (by omega)
          have hlt : (x : Int) < mn c (top a + 1) := by unfold tries at hxt; omega
          have hx4 : (x : Int) ≤ 4 := by have hq := hlt; unfold mn at hq; split at hq <;> omega
          have hlen := onN_len s a (x : Int) a.length
          refine Tl.step ?_
          simp only [spec_l7Search.l1, rd_tk, Option.bind_some, List.length_singleton]
          rw [wrap_id (n := top a + 1) (by omega) (by omega)]
          refine Tl.iteT hlt (Tl.bind (spec_On_ev _ (by omega) (by omega)) (Tl.iteT (by omega) (Tl.iteT (by omega) (Tl.iteT (by omega) ?_))))
          have e : onN s a (x : Int) a.length ++ [(⟨(tk s a.length).f0, (tk s a.length).f1, (tk s a.length).f2⟩ : Task)] = onN s (a ++ [(x : Int)]) (x : Int) (a.length + 1) := (onN_app s a (x : Int)).symm
          rw [e]
          refine Tl.bind (spec_edf_ev hok) ?_
          by_cases hf : feas (onN s (a ++ [(x : Int)]) (x : Int) (a.length + 1)) = true
          · have hs : stepS s c d a x = srchN s c d (a ++ [(x : Int)]) := if_pos hf
            refine Tl.iteT hf (Tl.iteT (by simp; omega) (Tl.iteT (by simp; omega) ?_))
            simp only [List.nil_append]
            refine Tl.bind (spec_search_ev d _ hA) ?_
            cases hr : srchN s c d (a ++ [(x : Int)]) with
            | some r =>
              rw [firstS_some (hs.trans hr)]
              exact Tl.iteT rfl (Tl.ret _)
            | none =>
              rw [firstS_none (hs.trans hr)]
              refine Tl.iteF (by simp [resS]) ?_
              rw [wrap_id (n := (x : Int) + 1) (by omega) (by omega)]
              exact ih (x + 1) (by omega)
          · have hs : stepS s c d a x = none := if_neg hf
            rw [firstS_none hs]
            refine Tl.iteF hf ?_
            rw [wrap_id (n := (x : Int) + 1) (by omega) (by omega)]
            exact ih (x + 1) (by omega)
      exact key _ 0 (by omega)
    have e0 : top (a.take 0) = 0 := rfl
    have key2 := down (Q := fun j => Tl (fun k => spec_l7Search.l0 k s c a (a.length : Int) (top (a.take j)) (j : Int)) (resS (srchN s c (d + 1) a))) a.length ?_ ?_
    · exact key2
    · refine Tl.step ?_
      simp only [spec_l7Search.l0]
      rw [List.take_length]
      exact Tl.iteF (by omega) loop
    · intro j hj hh
      have hlo := h.lo j hj
      have htk : a.take (j + 1) = a.take j ++ [a.getD j 0] := by
        rw [List.take_succ_eq_append_getElem hj, List.getD_eq_getElem?_getD, List.getElem?_eq_getElem hj]; rfl
      have hup : a.getD j 0 ≤ 4 := by
        have mono : ∀ (l : List Int) (t : Int), t ≤ l.foldl (fun t x => mx t (x + 1)) t := by
          intro l
          induction l with
          | nil => intro t; exact Int.le_refl _
          | cons y l ih =>
            intro t
            have h3 := ih (mx t (y + 1))
            have h4 : t ≤ mx t (y + 1) := by unfold mx; split <;> omega
            exact Int.le_trans h4 h3
        have h5 : top (a.take (j + 1)) ≤ top a := by
          have e : top a = (a.drop (j + 1)).foldl (fun t x => mx t (x + 1)) (top (a.take (j + 1))) := by
            unfold top; rw [← List.foldl_append, List.take_append_drop]
          rw [e]; exact mono _ _
        rw [htk, top_app] at h5
        have h6 : a.getD j 0 + 1 ≤ mx (top (a.take j)) (a.getD j 0 + 1) := by unfold mx; split <;> omega
        omega
      rw [htk, top_app] at hh
      refine Tl.step ?_
      simp only [spec_l7Search.l0, rd_o]
      rw [wrap_succ hj (by omega), wrap_id (n := a.getD j 0 + 1) (by omega) (by omega)]
      exact Tl.iteT (by omega) (Tl.iteT (by omega) (Tl.iteT (by omega) hh))
/-- The program's answer. -/
def resI (a : List Int) (d : Nat) (o : Option (List Int)) : Bool × List Int := match o with
  | some r => (true, r)
  | none => (false, a ++ List.replicate d (-1))
theorem impl_search_ev {s : List Task} {c : Int} : ∀ (d : Nat) (a : List Int), Asg s c a d → Tl (fun k => impl_search.f k s c (a ++ List.replicate d (-1)) (a.length : Int) (top a)) (resI a d (srchN s c d a))
  | 0, a, h => by
    have h1 := h.len
    refine Tl.step ?_
    simp only [impl_search.f, List.replicate_zero, List.append_nil]
    exact Tl.iteT (by omega) (Tl.ret _)
  | d + 1, a, h => by
    have h1 := h.len
    have hn5 := okSet_len h.ok
    have hc1 := h.c1
    have hc5 := h.c5
    have ht0 := h.top0
    have htc := h.topc
    refine Tl.step ?_
    simp only [impl_search.f]
    rw [wrap_id (n := top a + 1) (by omega) (by omega)]
    refine Tl.iteF (by omega) ?_
    rw [srchN_succ, List.replicate_succ]
    have hM := tries_mn ht0 hc1
    rw [hM]
    have key : ∀ (m x : Nat) (z : Int), x + m = tries c a → Tl (fun k => impl_search.l0 k s c (a ++ z :: List.replicate d (-1)) (a.length : Int) (top a) ((tries c a : Nat) : Int) (x : Int)) (resI a (d + 1) (firstS (stepS s c d a) m x)) := by
      intro m
      induction m with
      | zero =>
        intro x z hx
        refine Tl.step ?_
        simp only [impl_search.l0, Int.toNat_natCast]
        refine Tl.iteF (by omega) (Tl.iteT (by omega) (Tl.iteT (by simp; omega) ?_))
        rw [set_at]
        exact Tl.ret _
      | succ m ih =>
        intro x z hx
        have hxt : x < tries c a := by omega
        have hA := h.app hxt
        have hok : okSet (onN s (a ++ [(x : Int)]) (x : Int) (a.length + 1)) = true := onN_ok h.ok _ _ (by omega)
        have hlt : (x : Int) < mn c (top a + 1) := by omega
        have hx4 : (x : Int) ≤ 4 := by unfold mn at hlt; split at hlt <;> omega
        refine Tl.step ?_
        simp only [impl_search.l0, Int.toNat_natCast, Option.bind_some]
        rw [set_at, wrap_id (n := (x : Int) + 1) (by omega) (by omega), wrap_id (n := (a.length : Int) + 1) (by omega) (by omega), app_cons a (x : Int)]
        have hon : Tl (fun _ => impl_onCore.f s (a ++ [(x : Int)] ++ List.replicate d (-1)) (x : Int)) (onN s (a ++ [(x : Int)]) (x : Int) (a.length + 1)) := by
          have := impl_On_ev (s := s) (a := a ++ [(x : Int)] ++ List.replicate d (-1)) (x : Int) (by simp; omega) (by omega)
          rw [onN_rep s a (x : Int) d (by omega)] at this
          exact this
        refine Tl.iteT (by omega) (Tl.iteT (by omega) (Tl.iteT (by simp; omega) (Tl.bind hon (Tl.bind (impl_feasible_ev hok) ?_))))
        by_cases hf : feas (onN s (a ++ [(x : Int)]) (x : Int) (a.length + 1)) = true
        · have hs : stepS s c d a x = srchN s c d (a ++ [(x : Int)]) := if_pos hf
          have hrec := impl_search_ev d _ hA
          rw [top_app, List.length_append, List.length_singleton, show ((a.length + 1 : Nat) : Int) = (a.length : Int) + 1 by omega] at hrec
          refine Tl.iteT hf (Tl.bind hrec ?_)
          cases hr : srchN s c d (a ++ [(x : Int)]) with
          | some r =>
            rw [firstS_some (hs.trans hr)]
            exact Tl.iteT rfl (Tl.ret _)
          | none =>
            rw [firstS_none (hs.trans hr)]
            refine Tl.iteF (by simp [resI]) ?_
            show Tl (fun k => impl_search.l0 k s c (a ++ [(x : Int)] ++ List.replicate d (-1)) _ _ _ _) _
            rw [← app_cons, show (x : Int) + 1 = ((x + 1 : Nat) : Int) by omega]
            exact ih (x + 1) _ (by omega)
        · have hs : stepS s c d a x = none := if_neg hf
          rw [firstS_none hs]
          refine Tl.iteF hf ?_
          rw [← app_cons, show (x : Int) + 1 = ((x + 1 : Nat) : Int) by omega]
          exact ih (x + 1) _ (by omega)
    exact key _ 0 (-1) (by omega)

theorem asg0 {s : List Task} {c : Int} (h : okSet s = true) (hc : 1 ≤ c ∧ c ≤ 5) : Asg s c [] s.length := ⟨h, hc.1, hc.2, by simp, fun j hj => by simp at hj, by decide, by show (0 : Int) ≤ c; omega⟩
def part (s : List Task) (c : Int) : List Int × Bool := if okSet s = true ∧ 1 ≤ c ∧ c ≤ 5 then resS (srchN s c s.length []) else ([], false)
theorem impl_Partition_ev (s : List Task) (c : Int) (hs : s.length ≤ 1048576) (_ : wfI c) : Tl (fun k => impl_Partition.f k s c) (part s c) := by
  unfold impl_Partition.f part
  have hj : Tl (fun k => impl_Partition.j0 k s c true) ([], false) := by
    refine Tl.step ?_
    simp only [impl_Partition.j0]
    exact Tl.iteT trivial (Tl.ret _)
  refine Tl.bind (impl_SetValid_ev s hs) ?_
  by_cases h : okSet s = true
  · have hn5 := okSet_len h
    have hcor : Tl (fun _ => impl_isCores.f c) (decide (1 ≤ c ∧ c ≤ 5)) := Tl.of_eq fun _ => by unfold impl_isCores.f; rw [impl_in_f]; rfl
    refine Tl.iteT h (Tl.bind hcor ?_)
    by_cases hc : 1 ≤ c ∧ c ≤ 5
    · rw [if_pos ⟨h, hc⟩, decide_eq_true hc]
      refine Tl.step ?_
      simp only [impl_Partition.j0]
      have hA := impl_search_ev s.length [] (asg0 h hc)
      refine Tl.iteF (by simp) (Tl.bind (impl_none_ev s.length (by omega)) (Tl.bind hA ?_))
      cases hr : srchN s c s.length [] with
      | some r => exact Tl.iteT rfl (Tl.ret _)
      | none => exact Tl.iteF (by simp [resI]) (Tl.ret _)
    · rw [if_neg (fun g => hc g.2), decide_eq_false hc]
      exact hj
  · rw [if_neg (fun g => h g.1)]
    exact Tl.iteF h hj
/-- The first number of processors from c on, n of them tried. -/
def minC (s : List Task) : Nat → Int → Int
  | 0, _ => 5
  | n + 1, c => if (part s c).2 = true then c else minC s n (c + 1)
theorem spec_minC_ev {s : List Task} (h : okSet s = true) : ∀ (n : Nat) (c : Int), 1 ≤ c → c + n = 5 → Tl (fun k => spec_MinCores.l0 k s c) (minC s n c)
  | 0, c, h1, h2 => by
    refine Tl.step ?_
    simp only [spec_MinCores.l0]
    exact Tl.iteF (by omega) (Tl.ret _)
  | n + 1, c, h1, h2 => by
    refine Tl.step ?_
    simp only [spec_MinCores.l0]
    refine Tl.iteT (by omega) (Tl.bind (spec_search_ev s.length [] (asg0 h (c := c) ⟨h1, by omega⟩)) ?_)
    have e : part s c = resS (srchN s c s.length []) := if_pos ⟨h, h1, by omega⟩
    unfold minC
    rw [e]
    by_cases hb : (resS (srchN s c s.length [])).2 = true
    · rw [if_pos hb]; exact Tl.iteT hb (Tl.ret _)
    · rw [if_neg hb]
      refine Tl.iteF hb ?_
      rw [wrap_id (n := c + 1) (by omega) (by omega)]
      exact spec_minC_ev h n (c + 1) (by omega) (by omega)
theorem impl_minC_ev {s : List Task} (h : okSet s = true) : ∀ (n : Nat) (c : Int), 1 ≤ c → c + n = 5 → Tl (fun k => impl_MinCores.l0 k s c) (minC s n c)
  | 0, c, h1, h2 => by
    refine Tl.step ?_
    simp only [impl_MinCores.l0]
    exact Tl.iteF (by omega) (Tl.ret _)
  | n + 1, c, h1, h2 => by
    have hn5 := okSet_len h
    refine Tl.step ?_
    simp only [impl_MinCores.l0]
    refine Tl.iteT (by omega) (Tl.bind (impl_Partition_ev s c (by omega) (by unfold wfI; omega)) ?_)
    unfold minC
    by_cases hb : (part s c).2 = true
    · rw [if_pos hb]; exact Tl.iteT hb (Tl.ret _)
    · rw [if_neg hb]
      refine Tl.iteF hb ?_
      rw [wrap_id (n := c + 1) (by omega) (by omega)]
      exact impl_minC_ev h n (c + 1) (by omega) (by omega)
def MinCores_D (s : List Task) : Int := if okSet s = true then minC s 4 1 else 0
theorem spec_MinCores_ev (s : List Task) (hs : s.length ≤ 1048576) : Tl (fun k => spec_MinCores.f k s) (MinCores_D s) := by
  unfold spec_MinCores.f MinCores_D
  refine Tl.bind (spec_SetValid_ev s hs) ?_
  by_cases h : okSet s = true
  · rw [if_pos h]; exact Tl.iteT h (spec_minC_ev h 4 1 (by omega) (by omega))
  · rw [if_neg h]; exact Tl.iteF h (Tl.ret _)
theorem impl_MinCores_ev (s : List Task) (hs : s.length ≤ 1048576) : Tl (fun k => impl_MinCores.f k s) (MinCores_D s) := by
  unfold impl_MinCores.f MinCores_D
  refine Tl.bind (impl_SetValid_ev s hs) ?_
  by_cases h : okSet s = true
  · rw [if_pos h]; exact Tl.iteT h (impl_minC_ev h 4 1 (by omega) (by omega))
  · rw [if_neg h]; exact Tl.iteF h (Tl.ret _)
end Go.Proofs.YtkgloicnfphmoaaGreatDoor.Print

namespace Go.Proofs.YtkgloicnfphmoaaGreatDoor.Print
open Go.RowKit Go.Proofs.YtkgloicnfphmoaaGreatDoorW.PrintWords Go.Proofs.YtkgloicnfphmoaaGreatDoor.Evs Go.Proofs.YtkgloicnfphmoaaGreatDoor.Opens
set_option linter.unusedSimpArgs false
set_option linter.unusedVariables false
theorem spec_FirstOverload_ev (l : List Task) (hl : l.length ≤ 1048576) : Tl (fun k => spec_FirstOverload.f k l) (FirstOverload_D l) := by
  unfold spec_FirstOverload.f FirstOverload_D
  refine Tl.bind (spec_SetValid_ev l hl) ?_
  by_cases h : okSet l = true
  · rw [if_pos h]; exact Tl.iteT h (Tl.bind (spec_hyper_ev h) (Tl.bind (spec_over_ev h) (Tl.ret _)))
  · rw [if_neg h]; exact Tl.iteF h (Tl.ret _)
/-- What both read off a line. -/
def pT (s : ByteArray) : Int × Int × Int × Bool := (impl_ParseTask.g s).getD (0, 0, 0, false)
theorem parse_ev (s : ByteArray) (hs : s.size ≤ 1048576) : Tl (fun k => spec_ParseTask.f k s) (pT s) ∧ impl_ParseTask.f s = some (pT s) := by
  obtain ⟨k, x1, x2, x3, x4, h1, h2⟩ := FnExactParseTask_pure s hs
  have e : pT s = (x1, x2, x3, x4) := by unfold pT; rw [h2]; rfl
  rw [e]
  refine ⟨⟨k, fun m hm => ?_⟩, ?_⟩
  · obtain ⟨d, rfl⟩ : ∃ d, m = k + d := ⟨m - k, by omega⟩
    clear hm
    induction d with
    | zero => exact h1
    | succ d ih => exact spec_ParseTask.mono _ (k + d) _ ih
  · unfold impl_ParseTask.f
    rw [if_pos (by omega)]
    exact h2
theorem plainI {r : Int} (h0 : 0 ≤ r) (h1 : r ≤ 1000000000) : Tl (fun k => spec_l10Plain.f k r) (dd r.toNat) := by
  obtain ⟨n, rfl⟩ : ∃ n : Nat, r = n := ⟨r.toNat, by omega⟩
  rw [Int.toNat_natCast]
  exact plainN_ev n (by omega)
theorem itoaI {r : Int} (h0 : 0 ≤ r) (h1 : r ≤ 1000000000) : strconv_Itoa_20.f r = some (dd r.toNat) := by
  obtain ⟨n, rfl⟩ : ∃ n : Nat, r = n := ⟨r.toNat, by omega⟩
  rw [Int.toNat_natCast]
  exact itoaN n (by omega)
theorem ddI {r : Int} (h1 : r ≤ 1000000000) : (dd r.toNat).size ≤ 11 := ddB _ (by omega)
/-! ### Bounds -/
theorem respN_le (s : List Task) (o : List Int) (i : Nat) : ∀ (n : Nat) (r : Int), respN s o i n r = -1 ∨ respN s o i n r ≤ (tk s i).f1
  | 0, r => Or.inl rfl
  | n + 1, r => by
    unfold respN
    split
    · split
      · right; assumption
      · exact respN_le s o i n _
    · exact Or.inl rfl
theorem tk_small {s : List Task} (h : okSet s = true) (i : Nat) : (tk s i).f1 ≤ 12 := by
  by_cases hi : i < s.length
  · have := okSet_tk h hi; omega
  · have e : tk s i = z29 := by
      unfold tk
      rw [List.getD_eq_getElem?_getD, List.getElem?_eq_none (by omega)]
      rfl
    rw [e]
    show (0 : Int) ≤ 12
    omega
theorem outN_small {s : List Task} (o : List Int) (h : okSet s = true) : ∀ (j i : Nat), (outN s o j).getD i 0 ≤ 12
  | 0, i => by
    unfold outN
    rw [List.getD_eq_getElem?_getD, List.getElem?_replicate]
    split <;> simp
  | j + 1, i => by
    have ih := outN_small o h j i
    unfold outN
    rw [List.getD_eq_getElem?_getD, List.getElem?_set]
    split
    · split
      · have h1 := respN_le s (o.take j) (o.getD j 0).toNat 20 (tk s (o.getD j 0).toNat).f0
        have h2 := tk_small h (o.getD j 0).toNat
        show resp s (o.take j) (o.getD j 0).toNat ≤ 12
        unfold resp
        omega
      · simp
    · rw [← List.getD_eq_getElem?_getD]
      exact ih
/-- The response times in deadline-monotonic order. -/
def rtD (s : List Task) : List Int := ResponseTimes_D s (deadM s)
theorem rtD_small (s : List Task) (i : Nat) : (rtD s).getD i 0 ≤ 12 := by
  unfold rtD ResponseTimes_D
  split
  · rename_i h
    exact outN_small _ (okOrder_all h).1 _ _
  · simp
theorem minC_range (s : List Task) : ∀ (n : Nat) (c : Int), 0 ≤ c → c + n ≤ 5 → 0 ≤ minC s n c ∧ minC s n c ≤ 5
  | 0, c, h0, h1 => by unfold minC; omega
  | n + 1, c, h0, h1 => by
    unfold minC
    split
    · omega
    · exact minC_range s n (c + 1) (by omega) (by omega)
theorem cores_range (s : List Task) : 0 ≤ MinCores_D s ∧ MinCores_D s ≤ 5 := by
  unfold MinCores_D
  split
  · exact minC_range s 4 1 (by omega) (by omega)
  · omega
theorem over_small (s : List Task) : FirstOverload_D s ≤ 30000 := by
  unfold FirstOverload_D
  split
  · rename_i h
    have h1 := over_range s
    have h2 := hyp_le h
    omega
  · omega
theorem util_range (s : List Task) : 0 ≤ (Utilization_D s).1 ∧ (Utilization_D s).1 ≤ 2000000 ∧ 0 ≤ (Utilization_D s).2 ∧ (Utilization_D s).2 ≤ 30000 := by
  unfold Utilization_D
  split
  · rename_i h
    have h1 := hyp_le h
    have h2 := load_le h
    have hg := gcd_pos2 (a := loadS s) (p := hyp s) (by omega)
    have e1 : 0 ≤ loadS s / (Int.gcd (loadS s) (hyp s) : Int) := Int.ediv_nonneg (by omega) (by omega)
    have e2 : loadS s / (Int.gcd (loadS s) (hyp s) : Int) ≤ loadS s := Int.ediv_le_self _ (by omega)
    have e3 : 0 ≤ hyp s / (Int.gcd (loadS s) (hyp s) : Int) := Int.ediv_nonneg (by omega) (by omega)
    have e4 : hyp s / (Int.gcd (loadS s) (hyp s) : Int) ≤ hyp s := Int.ediv_le_self _ (by omega)
    refine ⟨e1, ?_, e3, ?_⟩
    · show loadS s / (Int.gcd (loadS s) (hyp s) : Int) ≤ 2000000
      omega
    · show hyp s / (Int.gcd (loadS s) (hyp s) : Int) ≤ 30000
      omega
  · exact ⟨Int.le_refl _, by show (0 : Int) ≤ 2000000; omega, Int.le_refl _, by show (0 : Int) ≤ 30000; omega⟩
/-! ### The response times' line -/
def wd (r : Int) : ByteArray := if r < 0 then ⟨#[32, 108, 97, 116, 101]⟩ else (⟨#[32]⟩ : ByteArray) ++ dd r.toNat
def tmN (o : List Int) : Nat → ByteArray
  | 0 => ⟨#[]⟩
  | j + 1 => tmN o j ++ wd (o.getD j 0)
theorem wd_size {r : Int} (h : r ≤ 1000000000) : (wd r).size ≤ 12 := by
  have e1 : (⟨#[32]⟩ : ByteArray).size = 1 := rfl
  have e2 : (⟨#[32, 108, 97, 116, 101]⟩ : ByteArray).size = 5 := rfl
  unfold wd
  split
  · omega
  · rw [ByteArray.size_append]
    have := ddI h
    omega
theorem tm_size (o : List Int) (h : ∀ i, o.getD i 0 ≤ 12) : ∀ j, (tmN o j).size ≤ 12 * j
  | 0 => by show 0 ≤ 12 * 0; omega
  | j + 1 => by
    have h1 := tm_size o h j
    have h2 := wd_size (r := o.getD j 0) (by have := h j; omega)
    show (tmN o j ++ wd (o.getD j 0)).size ≤ _
    rw [ByteArray.size_append]
    omega
theorem tm_late (o : List Int) (j : Nat) (h : o.getD j 0 < 0) : tmN o (j + 1) = tmN o j ++ (⟨#[32, 108, 97, 116, 101]⟩ : ByteArray) := by
  show tmN o j ++ wd (o.getD j 0) = _
  unfold wd
  rw [if_pos h]
theorem tm_num (o : List Int) (j : Nat) (h : ¬ o.getD j 0 < 0) : tmN o (j + 1) = tmN o j ++ ((⟨#[32]⟩ : ByteArray) ++ dd (o.getD j 0).toNat) := by
  show tmN o j ++ wd (o.getD j 0) = _
  unfold wd
  rw [if_neg h]
theorem spec_times_ev (o : List Int) (hl : o.length ≤ 5) (h : ∀ i, o.getD i 0 ≤ 12) : Tl (fun k => spec_l10Times.f k o) (tmN o o.length) := by
  unfold spec_l10Times.f
  have l1 : (⟨#[32]⟩ : ByteArray).size = 1 := rfl
  refine down (Q := fun j => Tl (fun k => spec_l10Times.l0 k o (tmN o j) (j : Int)) (tmN o o.length)) o.length ?_ ?_
  · refine Tl.step ?_
    simp only [spec_l10Times.l0]
    exact Tl.iteF (by omega) (Tl.ret _)
  · intro j hj ih
    have hz := tm_size o h j
    have hx := h j
    refine Tl.step ?_
    simp only [spec_l10Times.l0, rd_getD]
    rw [wrap_succ hj (by omega)]
    refine Tl.iteT (by omega) (Tl.iteT (by omega) ?_)
    by_cases hn : o.getD j 0 < 0
    · refine Tl.iteT hn (Tl.iteT (by omega) ?_)
      rw [← tm_late o j hn]
      exact ih
    · refine Tl.iteF hn (Tl.iteT (by omega) (Tl.bind (plainI (by omega) (by omega)) ?_))
      have hd := ddI (r := o.getD j 0) (by omega)
      refine Tl.iteT (by rw [ByteArray.size_append, l1]; omega) ?_
      rw [ByteArray.append_assoc, ← tm_num o j hn]
      exact ih
/-! ### The end of a report -/
def uS (s : List Task) : ByteArray := (((⟨#[117, 116, 105, 108, 105, 122, 97, 116, 105, 111, 110, 32]⟩ : ByteArray) ++ dd (Utilization_D s).1.toNat) ++ (⟨#[47]⟩ : ByteArray)) ++ dd (Utilization_D s).2.toNat
def oS (s : List Task) : ByteArray := if FirstOverload_D s < 0 then (⟨#[101, 100, 102, 32, 102, 101, 97, 115, 105, 98, 108, 101]⟩ : ByteArray) else (⟨#[101, 100, 102, 32, 111, 118, 101, 114, 108, 111, 97, 100, 32, 97, 116, 32]⟩ : ByteArray) ++ dd (FirstOverload_D s).toNat
def tS (s : List Task) : ByteArray := (⟨#[114, 101, 115, 112, 111, 110, 115, 101]⟩ : ByteArray) ++ tmN (rtD s) (rtD s).length
def cS (s : List Task) : ByteArray := (⟨#[99, 111, 114, 101, 115, 32]⟩ : ByteArray) ++ dd (MinCores_D s).toNat
def endS (s : List Task) : List ByteArray := if 5 < s.length then [(⟨#[116, 111, 111, 32, 109, 97, 110, 121, 32, 116, 97, 115, 107, 115]⟩ : ByteArray)] else [uS s, oS s, tS s, cS s]
theorem impl_l1_ev (s : List Task) (hs : s.length ≤ 1048576) (e9 : ByteArray) : ∀ (o : List Int), o.length ≤ 5 → (∀ i, o.getD i 0 ≤ 12) →
    Tl (fun k => impl_Report.l1 k s e9 (⟨#[114, 101, 115, 112, 111, 110, 115, 101]⟩ : ByteArray) o (o.length : Int) 0 (Utilization_D s).1 (Utilization_D s).2) [uS s, e9, (⟨#[114, 101, 115, 112, 111, 110, 115, 101]⟩ : ByteArray) ++ tmN o o.length, cS s] := by
  intro o hl h
  have l1 : (⟨#[32]⟩ : ByteArray).size = 1 := rfl
  have l2 : (⟨#[114, 101, 115, 112, 111, 110, 115, 101]⟩ : ByteArray).size = 8 := rfl
  have l3 : (⟨#[117, 116, 105, 108, 105, 122, 97, 116, 105, 111, 110, 32]⟩ : ByteArray).size = 12 := rfl
  have l4 : (⟨#[47]⟩ : ByteArray).size = 1 := rfl
  have e0 : (⟨#[114, 101, 115, 112, 111, 110, 115, 101]⟩ : ByteArray) = (⟨#[114, 101, 115, 112, 111, 110, 115, 101]⟩ : ByteArray) ++ tmN o 0 := by
    apply ba_ext
    rw [ByteArray.data_append]
    simp [tmN]
  have key := down (Q := fun j => Tl (fun k => impl_Report.l1 k s e9 ((⟨#[114, 101, 115, 112, 111, 110, 115, 101]⟩ : ByteArray) ++ tmN o j) o (o.length : Int) (j : Int) (Utilization_D s).1 (Utilization_D s).2) [uS s, e9, (⟨#[114, 101, 115, 112, 111, 110, 115, 101]⟩ : ByteArray) ++ tmN o o.length, cS s]) o.length ?_ ?_
  · rw [← e0] at key
    exact key
  · have hu := util_range s
    have hc := cores_range s
    have d1 := ddI (r := (Utilization_D s).1) (by omega)
    have d2 := ddI (r := (Utilization_D s).2) (by omega)
    have d3 := ddI (r := MinCores_D s) (by omega)
    refine Tl.step ?_
    simp only [impl_Report.l1]
    refine Tl.iteF (by omega) ?_
    rw [itoaI hu.1 (by omega), itoaI hu.2.2.1 (by omega)]
    simp only [Option.bind_some, ByteArray.size_append, l3, l4]
    refine Tl.iteT (by omega) (Tl.iteT (by omega) (Tl.iteT (by omega) (Tl.bind (impl_MinCores_ev s hs) ?_)))
    rw [itoaI hc.1 (by omega)]
    simp only [Option.bind_some]
    refine Tl.iteT (by omega) ?_
    exact Tl.ret _
  · intro j hj ih
    have hz := tm_size o h j
    have hx := h j
    refine Tl.step ?_
    simp only [impl_Report.l1, rd_getD]
    rw [wrap_succ hj (by omega)]
    refine Tl.iteT (by omega) (Tl.iteT (by omega) (Tl.iteT (by omega) ?_))
    by_cases hn : o.getD j 0 < 0
    · refine Tl.iteF (by omega) (Tl.iteT (by rw [ByteArray.size_append, l2]; omega) ?_)
      rw [ByteArray.append_assoc, ← tm_late o j hn]
      exact ih
    · have hd := ddI (r := o.getD j 0) (by omega)
      refine Tl.iteT (by omega) ?_
      rw [itoaI (by omega) (by omega)]
      simp only [Option.bind_some]
      refine Tl.iteT (by omega) (Tl.iteT (by rw [ByteArray.size_append, ByteArray.size_append, l1, l2]; omega) ?_)
      rw [ByteArray.append_assoc, ← tm_num o j hn]
      exact ih
theorem impl_j1_ev (s : List Task) (hs : s.length ≤ 1048576) (e9 : ByteArray) : Tl (fun k => impl_Report.j1 k s e9 (Utilization_D s).1 (Utilization_D s).2) [uS s, e9, tS s, cS s] := by
  refine Tl.step ?_
  simp only [impl_Report.j1]
  refine Tl.bind (impl_DeadlineMonotonic_ev s hs) (Tl.bind (impl_ResponseTimes_ev s (deadM s) hs (by have := deadM_len s; omega)) ?_)
  exact impl_l1_ev s hs e9 (rtD s) (ResponseTimes_len _ _) (rtD_small s)
theorem impl_end_ev (s : List Task) (hs : s.length ≤ 1048576) (l : List ByteArray) : Tl (fun k => impl_Report.l0 k s l (l.length : Int) (l.length : Int)) (endS s) := by
  refine Tl.step ?_
  simp only [impl_Report.l0]
  refine Tl.iteF (by omega) ?_
  unfold endS
  by_cases h5 : 5 < s.length
  · rw [if_pos h5]
    exact Tl.iteT (by omega) (Tl.ret _)
  rw [if_neg h5]
  refine Tl.iteF (by omega) (Tl.bind (impl_Utilization_ev s hs) (Tl.bind (impl_FirstOverload_ev s hs) ?_))
  have ho := over_small s
  unfold oS
  by_cases hn : FirstOverload_D s < 0
  · rw [if_pos hn]
    exact Tl.iteF (by omega) (impl_j1_ev s hs _)
  · have hd := ddI (r := FirstOverload_D s) (by omega)
    rw [if_neg hn]
    refine Tl.iteT (by omega) ?_
    rw [itoaI (by omega) (by omega)]
    simp only [Option.bind_some]
    exact Tl.iteT (by omega) (impl_j1_ev s hs _)
theorem spec_j1_ev (s : List Task) (hs : s.length ≤ 1048576) (a b : ByteArray) : Tl (fun k => spec_Report.j1 k s [a, b]) [a, b, tS s, cS s] := by
  refine Tl.step ?_
  simp only [spec_Report.j1]
  refine Tl.bind (spec_DeadlineMonotonic_ev s hs) (Tl.bind (spec_ResponseTimes_ev s (deadM s) hs (by have := deadM_len s; omega)) (Tl.bind (spec_times_ev (rtD s) (ResponseTimes_len _ _) (rtD_small s)) ?_))
  have hz := tm_size (rtD s) (rtD_small s) (rtD s).length
  have hl := ResponseTimes_len s (deadM s)
  have hl2 : (rtD s).length ≤ 5 := hl
  have hc := cores_range s
  have d3 := ddI (r := MinCores_D s) (by omega)
  refine Tl.iteT (by omega) (Tl.iteT (by show (2 : Nat) < 8796093022208; omega) ?_)
  simp only [Option.bind_some]
  refine Tl.bind (spec_MinCores_ev s hs) (Tl.bind (plainI hc.1 (by omega)) (Tl.iteT (by omega) (Tl.iteT (by show (3 : Nat) < 8796093022208; omega) ?_)))
  exact Tl.ret _
theorem spec_end_ev (s : List Task) (hs : s.length ≤ 1048576) (l : List ByteArray) : Tl (fun k => spec_Report.l0 k l s (l.length : Int)) (endS s) := by
  have l3 : (⟨#[117, 116, 105, 108, 105, 122, 97, 116, 105, 111, 110, 32]⟩ : ByteArray).size = 12 := rfl
  have l4 : (⟨#[47]⟩ : ByteArray).size = 1 := rfl
  refine Tl.step ?_
  simp only [spec_Report.l0]
  refine Tl.iteF (by omega) ?_
  unfold endS
  by_cases h5 : 5 < s.length
  · rw [if_pos h5]
    exact Tl.iteT (by omega) (Tl.ret _)
  rw [if_neg h5]
  have hu := util_range s
  have d1 := ddI (r := (Utilization_D s).1) (by omega)
  have d2 := ddI (r := (Utilization_D s).2) (by omega)
  have ho := over_small s
  refine Tl.iteF (by omega) (Tl.bind (spec_Utilization_ev s hs) (Tl.bind (plainI hu.1 (by omega)) ?_))
  simp only [ByteArray.size_append, l3, l4]
  refine Tl.iteT (by omega) (Tl.iteT (by omega) (Tl.bind (plainI hu.2.2.1 (by omega)) (Tl.iteT (by omega) ?_)))
  simp only [Option.bind_some]
  refine Tl.bind (spec_FirstOverload_ev s hs) ?_
  unfold oS
  by_cases hn : FirstOverload_D s < 0
  · rw [if_pos hn]
    exact Tl.iteT hn (Tl.iteT (by show (1 : Nat) < 8796093022208; omega) (spec_j1_ev s hs _ _))
  · have hd := ddI (r := FirstOverload_D s) (by omega)
    rw [if_neg hn]
    exact Tl.iteF hn (Tl.bind (plainI (by omega) (by omega)) (Tl.iteT (by omega) (Tl.iteT (by show (1 : Nat) < 8796093022208; omega) (spec_j1_ev s hs _ _))))
/-! ### The lines -/
def tkOf (s : ByteArray) : Task := ⟨(pT s).1, (pT s).2.1, (pT s).2.2.1⟩
/-- What a report holds from line j on, where the lines ahead gave the tasks s. -/
def goS (l : List ByteArray) : Nat → Nat → List Task → List ByteArray
  | 0, _, s => endS s
  | d + 1, j, s => if (pT (l.getD j ByteArray.empty)).2.2.2 = true then goS l d (j + 1) (s ++ [tkOf (l.getD j ByteArray.empty)]) else [(⟨#[108, 105, 110, 101, 32]⟩ : ByteArray) ++ dd (j + 1)]
theorem line_small {l : List ByteArray} (h : ∀ x ∈ l, x.size ≤ 1048576) {j : Nat} (hj : j < l.length) : (l.getD j ByteArray.empty).size ≤ 1048576 := by
  rw [List.getD_eq_getElem?_getD, List.getElem?_eq_getElem hj]
  exact h _ (List.getElem_mem hj)
theorem wrapN {j n : Nat} (hj : j < n) (hn : n ≤ 1048576) : wrap64 ((j : Int) + 1) = ((j + 1 : Nat) : Int) := wrap_succ hj (by omega)
theorem impl_go_ev (l : List ByteArray) (hl : l.length ≤ 1048576) (h : ∀ x ∈ l, x.size ≤ 1048576) : ∀ (d j : Nat) (s : List Task), j + d = l.length → s.length = j → Tl (fun k => impl_Report.l0 k s l (l.length : Int) (j : Int)) (goS l d j s)
  | 0, j, s, h1, h2 => by
    rw [show j = l.length by omega]
    exact impl_end_ev s (by omega) l
  | d + 1, j, s, h1, h2 => by
    have hj : j < l.length := by omega
    have hp := (parse_ev _ (line_small h hj)).2
    refine Tl.step ?_
    simp only [impl_Report.l0]
    rw [wrapN hj hl]
    have e : rdOf ByteArray.empty l (j : Int) = l.getD j ByteArray.empty := rfl
    refine Tl.iteT (by omega) (Tl.iteT (by omega) (Tl.iteT (by omega) ?_))
    rw [e, hp]
    simp only [Option.bind_some]
    unfold goS
    by_cases hb : (pT (l.getD j ByteArray.empty)).2.2.2 = true
    · rw [if_pos hb]
      exact Tl.iteT hb (Tl.iteT (by omega) (impl_go_ev l hl h d (j + 1) _ (by omega) (by simp; omega)))
    · rw [if_neg hb]
      have hd := ddB (j + 1) (by omega)
      refine Tl.iteF hb ?_
      rw [itoaN (j + 1) (by omega)]
      simp only [Option.bind_some]
      exact Tl.iteT (by omega) (Tl.ret _)
theorem spec_go_ev (l : List ByteArray) (hl : l.length ≤ 1048576) (h : ∀ x ∈ l, x.size ≤ 1048576) : ∀ (d j : Nat) (s : List Task), j + d = l.length → s.length = j → Tl (fun k => spec_Report.l0 k l s (j : Int)) (goS l d j s)
  | 0, j, s, h1, h2 => by
    rw [show j = l.length by omega]
    exact spec_end_ev s (by omega) l
  | d + 1, j, s, h1, h2 => by
    have hj : j < l.length := by omega
    have hp := (parse_ev _ (line_small h hj)).1
    refine Tl.step ?_
    simp only [spec_Report.l0]
    rw [wrapN hj hl]
    refine Tl.iteT (by omega) (Tl.iteT (by omega) (Tl.bind hp ?_))
    unfold goS
    by_cases hb : (pT (l.getD j ByteArray.empty)).2.2.2 = true
    · rw [if_pos hb]
      exact Tl.iteT hb (Tl.iteT (by omega) (spec_go_ev l hl h d (j + 1) _ (by omega) (by simp; omega)))
    · rw [if_neg hb]
      have hd := ddB (j + 1) (by omega)
      exact Tl.iteF hb (Tl.bind (plainN_ev (j + 1) (by omega)) (Tl.iteT (by omega) (Tl.ret _)))
/-- The report of some lines. -/
def repS (l : List ByteArray) : List ByteArray := goS l l.length 0 []
theorem goS_len (l : List ByteArray) : ∀ (d j : Nat) (s : List Task), (goS l d j s).length ≤ 4
  | 0, j, s => by unfold goS endS; split <;> simp
  | d + 1, j, s => by
    unfold goS
    split
    · exact goS_len l d (j + 1) _
    · simp
theorem impl_Report_ev (l : List ByteArray) (hl : l.length ≤ 1048576) (h : ∀ x ∈ l, x.size ≤ 1048576) : Tl (fun k => impl_Report.f k l) (repS l) := by
  unfold impl_Report.f
  exact impl_go_ev l hl h l.length 0 [] (by omega) rfl
theorem spec_Report_ev (l : List ByteArray) (hl : l.length ≤ 1048576) (h : ∀ x ∈ l, x.size ≤ 1048576) : Tl (fun k => spec_Report.f k l) (repS l) := by
  unfold spec_Report.f
  exact spec_go_ev l hl h l.length 0 [] (by omega) rfl
end Go.Proofs.YtkgloicnfphmoaaGreatDoor.Print
