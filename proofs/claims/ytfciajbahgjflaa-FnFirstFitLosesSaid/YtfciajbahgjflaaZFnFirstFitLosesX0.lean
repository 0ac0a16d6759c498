/- What the program and the reference compute, and that both agree. No condition. -/
import Derived.Test.YtfciajbahgjflaaPO
import Derived.Test.YtfciajbahgjflaaZFnFirstFitLosesP1
import Derived.RowKit
import Derived.WalkKit
import Derived.Test.YtfciajbahgjflaaZFnFirstFitLosesP2
import Derived.Test.YtfciajbahgjflaaZFnFirstFitLosesP0
import Derived.Test.YtfciajbahgjflaaZFnFirstFitLosesP3
namespace Go.Proofs.Ytfciajbahgjflaa.Print
open Go.RowKit Go.Proofs.YtfciajbahgjflaaW.PrintWords Go.Proofs.YtfciajbahgjflaaW.PrintLast Go.Proofs.YtfciajbahgjflaaW.PrintMore
attribute [local go_sem] max2_int min2_int max_two min_two max_three min_three max_four min_four   -- for this text's walks alone
set_option linter.unusedVariables false
set_option linter.unusedSimpArgs false

open Go.Proofs.Ytfciajbahgjflaa.Opens
/-- The pure statement of FnFirstFitLoses. -/
def PureFnFirstFitLoses : Prop := ∀ (x0 : List Int), (wfL wfI) x0 → ∃ k, laws_FnFirstFitLoses.f k x0 = some true
end Go.Proofs.Ytfciajbahgjflaa.Print

namespace Go.Proofs.Ytfciajbahgjflaa.Evs
open Go.RowKit
set_option linter.unusedSimpArgs false
set_option linter.unusedVariables false

/-- From some number of rounds on, g tells r. -/
def Tl {α : Type} (g : Nat → Option α) (r : α) : Prop := ∃ k0, ∀ k, k0 ≤ k → g k = some r

theorem Tl.ret {α : Type} (r : α) : Tl (fun _ => some r) r := ⟨0, fun _ _ => rfl⟩
theorem Tl.of_eq {α : Type} {g : Nat → Option α} {r : α} (h : ∀ k, g k = some r) : Tl g r := ⟨0, fun k _ => h k⟩
theorem Tl.step {α : Type} {g : Nat → Option α} {r : α} (h : Tl (fun k => g (k + 1)) r) : Tl g r := by
  obtain ⟨k0, hk⟩ := h
  refine ⟨k0 + 1, fun k hle => ?_⟩
  obtain ⟨m, rfl⟩ : ∃ m, k = m + 1 := ⟨k - 1, by omega⟩
  exact hk m (by omega)
theorem Tl.bind {α β : Type} {g : Nat → Option α} {a : α} {f : α → Nat → Option β} {r : β} (h : Tl g a) (h2 : Tl (f a) r) : Tl (fun k => (g k).bind fun x => f x k) r := by
  obtain ⟨k0, hk⟩ := h
  obtain ⟨k1, hk1⟩ := h2
  refine ⟨max k0 k1, fun k hle => ?_⟩
  show (g k).bind (fun x => f x k) = some r
  rw [hk k (by omega), Option.bind_some]
  exact hk1 k (by omega)
theorem Tl.once {α : Type} {g : Nat → Option α} {r : α} (h : Tl g r) : ∃ k, g k = some r := by
  obtain ⟨k0, hk⟩ := h
  exact ⟨k0, hk k0 (Nat.le_refl _)⟩
theorem Tl.cast {α : Type} {g : Nat → Option α} {r r' : α} (h : Tl g r) (e : r = r') : Tl g r' := e ▸ h
theorem Tl.iteT {α : Type} {c : Prop} [Decidable c] {g g' : Nat → Option α} {r : α} (hc : c) (h : Tl g r) : Tl (fun k => if c then g k else g' k) r := by simpa only [if_pos hc] using h
theorem Tl.iteF {α : Type} {c : Prop} [Decidable c] {g g' : Nat → Option α} {r : α} (hc : ¬ c) (h : Tl g' r) : Tl (fun k => if c then g k else g' k) r := by simpa only [if_neg hc] using h

/-- Downwards. -/
theorem down {Q : Nat → Prop} (n : Nat) (he : Q n) (hs : ∀ j, j < n → Q (j + 1) → Q j) : Q 0 := by
  induction n with
  | zero => exact he
  | succ n ih => exact ih (hs n (by omega) he) (fun j hj => hs j (by omega))
theorem downFrom {Q : Nat → Prop} {m n : Nat} (hm : m ≤ n) (he : Q n) (hs : ∀ j, m ≤ j → j < n → Q (j + 1) → Q j) : Q m := by
  obtain ⟨d, rfl⟩ : ∃ d, n = m + d := ⟨n - m, by omega⟩
  induction d with
  | zero => exact he
  | succ d ih => exact ih (by omega) (hs (m + d) (by omega) (by omega) he) (fun j h1 h2 => hs j h1 (by omega))

/-- A loop that asks something of each index, and stops at the first 'no'. -/
theorem Tl.all {F : Nat → Int → Option Bool} {n : Nat} {P : Nat → Bool} {fin : Bool}
    (ht : ∀ j, j < n → P j = true → ∀ r, Tl (fun k => F k ((j + 1 : Nat) : Int)) r → Tl (fun k => F k (j : Int)) r)
    (hf : ∀ j, j < n → P j = false → Tl (fun k => F k (j : Int)) false) (he : Tl (fun k => F k (n : Int)) fin) :
    Tl (fun k => F k 0) ((List.range n).all P && fin) := by
  by_cases hall : ∀ j, j < n → P j = true
  · have h1 : ((List.range n).all P) = true := by simpa using hall
    rw [h1, Bool.true_and]
    exact down (Q := fun j => Tl (fun k => F k (j : Int)) fin) n he (fun j hj h => ht j hj (hall j hj) _ h)
  · have h1 : ((List.range n).all P) = false := by simpa using hall
    rw [h1, Bool.false_and]
    clear h1
    have key : ∀ m, m ≤ n → (∃ j, j < m ∧ P j = false) → Tl (fun k => F k 0) false := by
      intro m
      induction m with
      | zero => rintro _ ⟨j, hj, _⟩; omega
      | succ m ih =>
        rintro hm ⟨j, hj, hp⟩
        by_cases hlow : ∃ j, j < m ∧ P j = false
        · exact ih (by omega) hlow
        · have hjm : j = m := by
            rcases Nat.lt_or_ge j m with h | h
            · exact absurd ⟨j, h, hp⟩ hlow
            · omega
          subst hjm
          refine down (Q := fun j => Tl (fun k => F k (j : Int)) false) j (hf j (by omega) hp) (fun i hi h => ht i (by omega) ?_ _ h)
          cases hpi : P i
          · exact absurd ⟨i, hi, hpi⟩ hlow
          · rfl
    refine key n (Nat.le_refl _) ?_
    apply Classical.byContradiction
    intro hno
    refine hall (fun j hj => ?_)
    cases hp : P j
    · exact absurd ⟨j, hj, hp⟩ hno
    · rfl

theorem wrap_id {n : Int} (h1 : -9223372036854775808 ≤ n) (h2 : n ≤ 9223372036854775807) : wrap64 n = n := by unfold wrap64; omega
theorem wrap_succ {j n : Nat} (h : j < n) (hn : n ≤ 9223372036854775807) : wrap64 ((j : Int) + 1) = ((j + 1 : Nat) : Int) := by unfold wrap64; omega
theorem wrap_pred {j n : Nat} (h : j < n) (h0 : 0 < j) (hn : n ≤ 9223372036854775807) : wrap64 ((j : Int) - 1) = ((j - 1 : Nat) : Int) := by unfold wrap64; omega
end Go.Proofs.Ytfciajbahgjflaa.Evs

namespace Go.Proofs.Ytfciajbahgjflaa.Evs
theorem fill_zero {α : Type} (xs : List α) (z : α) : xs.take 0 ++ List.replicate (xs.length - 0) z = List.replicate xs.length z := by simp
theorem fill_set {α : Type} (xs : List α) (z : α) {j : Nat} (hj : j < xs.length) (x : α) (hx : x = xs.getD j z) :
    (xs.take j ++ List.replicate (xs.length - j) z).set j x = xs.take (j + 1) ++ List.replicate (xs.length - (j + 1)) z := by
  have h1 : (xs.take j).length = j := by simp; omega
  rw [List.set_append_right _ _ (by omega), h1, Nat.sub_self]
  obtain ⟨m, hm⟩ : ∃ m, xs.length - j = m + 1 := ⟨xs.length - j - 1, by omega⟩
  rw [hm, List.replicate_succ, List.set_cons_zero, List.take_succ_eq_append_getElem hj, List.append_assoc, hx]
  have h2 : xs.length - (j + 1) = m := by omega
  rw [h2]
  simp [List.getD_eq_getElem?_getD, hj]
theorem fill_len {α : Type} (xs : List α) (z : α) {j : Nat} (hj : j ≤ xs.length) : (xs.take j ++ List.replicate (xs.length - j) z).length = xs.length := by simp; omega
theorem fill_end {α : Type} (xs : List α) (z : α) : xs.take xs.length ++ List.replicate (xs.length - xs.length) z = xs := by simp
theorem getD_map {α β : Type} (f : α → β) (l : List α) (j : Nat) (z : α) (z' : β) (hj : j < l.length) : (l.map f).getD j z' = f (l.getD j z) := by simp [List.getD_eq_getElem?_getD, hj]
theorem all_range {α : Type} (l : List α) (z : α) (p : α → Bool) : (List.range l.length).all (fun j => p (l.getD j z)) = l.all p := by
  rw [Bool.eq_iff_iff, List.all_eq_true, List.all_eq_true]
  constructor
  · intro h x hx
    obtain ⟨i, hi, rfl⟩ := List.getElem_of_mem hx
    have := h i (by simpa using hi)
    simpa [List.getD_eq_getElem?_getD, hi] using this
  · intro h j hj
    have hj' : j < l.length := by simpa using hj
    have := h l[j] (List.getElem_mem hj')
    simpa [List.getD_eq_getElem?_getD, hj'] using this
end Go.Proofs.Ytfciajbahgjflaa.Evs

namespace Go.Proofs.Ytfciajbahgjflaa.Print
open Go.RowKit Go.Proofs.YtfciajbahgjflaaW.PrintWords Go.Proofs.Ytfciajbahgjflaa.Evs Go.Proofs.Ytfciajbahgjflaa.Opens
set_option linter.unusedSimpArgs false
abbrev LTask := S89
abbrev Task := S43
def cvTask (x : LTask) : Task := ⟨x.f0, x.f1, x.f2⟩
theorem toTaskS_ev (l : List LTask) (hl : l.length ≤ 1048576) : Tl (fun k => laws_toTaskS.f k l) (l.map cvTask) := by
  unfold laws_toTaskS.f
  have c1 := eq_true (show 0 ≤ (l.length : Int) by omega)
  have c2 := eq_true (show l.length ≤ 11728124029610 by omega)
  simp only [c1, c2, if_true, Int.toNat_natCast]
  have hlen : (l.map cvTask).length = l.length := by simp
  have key := down (Q := fun j => Tl (fun k => laws_toTaskS.l0 k l ((l.map cvTask).take j ++ List.replicate ((l.map cvTask).length - j) z43) (j : Int)) (l.map cvTask)) l.length ?_ ?_
  · rw [fill_zero, hlen] at key; exact key
  · refine Tl.step ?_
    have c3 := eq_false (show ¬ ((l.length : Int) < (l.length : Int)) by omega)
    rw [← hlen, fill_end]
    simp only [hlen]
    simp only [laws_toTaskS.l0, c3, if_false]
    exact Tl.ret _
  · intro j hj h
    refine Tl.step ?_
    have c3 := eq_true (show (j : Int) < (l.length : Int) by omega)
    have c4 := eq_true (show 0 ≤ (j : Int) by omega)
    have c5 := eq_true (show (j : Int) < (((l.map cvTask).take j ++ List.replicate ((l.map cvTask).length - j) z43).length : Int) by rw [fill_len _ _ (by omega)]; omega)
    simp only [laws_toTaskS.l0, c3, c4, c5, if_true, laws_toTask.f, Option.bind_some, Int.toNat_natCast]
    rw [fill_set _ _ (by omega) _ (by rw [getD_map cvTask l j z89 _ hj]; rfl), wrap_succ hj (by omega)]
    exact h
theorem eqTask_self (x : Task) : laws_eqTask.f x.f0 x.f1 x.f2 x.f0 x.f1 x.f2 = some true := by simp [laws_eqTask.f]
theorem eqTaskS_ev (l : List Task) (hl : l.length ≤ 1048576) : Tl (fun k => laws_eqTaskS.f k l l) true := by
  unfold laws_eqTaskS.f
  simp only [if_true]
  refine down (Q := fun j => Tl (fun k => laws_eqTaskS.l0 k l l (j : Int)) true) l.length ?_ ?_
  · refine Tl.step ?_
    have c3 := eq_false (show ¬ ((l.length : Int) < (l.length : Int)) by omega)
    simp only [laws_eqTaskS.l0, c3, if_false]
    exact Tl.ret _
  · intro j hj h
    refine Tl.step ?_
    have c3 := eq_true (show (j : Int) < (l.length : Int) by omega)
    have c4 := eq_true (show 0 ≤ (j : Int) by omega)
    simp only [laws_eqTaskS.l0, c3, c4, if_true, eqTask_self, Option.bind_some]
    rw [wrap_succ hj (by omega)]
    exact h
theorem szTaskS_f (l : List LTask) (a : Int) (h0 : 0 ≤ a) (h1 : a ≤ 1048576) (hl : l.length ≤ 9223372036854775807) : laws_szTaskS.f l a = some (if a < l.length then -1 else a - l.length) := by
  unfold laws_szTaskS.f
  rw [wrap_id (by omega) (by omega)]
  by_cases h : a < l.length
  · rw [if_pos (by omega), if_pos h]
  · rw [if_neg (by omega), if_neg h]
end Go.Proofs.Ytfciajbahgjflaa.Print

namespace Go.Proofs.Ytfciajbahgjflaa.Print
open Go.RowKit Go.Proofs.YtfciajbahgjflaaW.PrintWords Go.Proofs.Ytfciajbahgjflaa.Evs Go.Proofs.Ytfciajbahgjflaa.Opens
set_option linter.unusedSimpArgs false
set_option linter.unusedVariables false
theorem spec_l1In_f (a b c : Int) : spec_l1In.f a b c = some (decide (b ≤ a ∧ a ≤ c)) := by
  unfold spec_l1In.f
  by_cases h : a ≥ b
  · have h' : b ≤ a := h
    simp [h, h']
  · have h' : ¬ b ≤ a := h
    simp [h, h']
theorem spec_TaskValid_f (x : Task) : spec_TaskValid.f x.f0 x.f1 x.f2 = some (okTask x) := by
  unfold spec_TaskValid.f okTask
  simp only [spec_l1In_f, Option.bind_some, decide_eq_true_eq]
  split
  · split
    · congr 1; rw [Bool.eq_iff_iff]; simp only [decide_eq_true_eq, Bool.false_eq_true, false_iff]; omega
    · congr 1; rw [Bool.eq_iff_iff]; simp only [decide_eq_true_eq, Bool.false_eq_true, false_iff]; omega
  · congr 1; rw [Bool.eq_iff_iff]; simp only [decide_eq_true_eq, Bool.false_eq_true, false_iff]; omega
/-- A valid set. -/
def okSet (l : List Task) : Bool := decide (l.length ≤ 5) && l.all okTask
theorem impl_SetValid_f (l : List Task) : impl_SetValid.f l = some (okSet l) := rfl
theorem impl_SetValid_ev (l : List Task) (_ : l.length ≤ 1048576) : Tl (fun _ => impl_SetValid.f l) (okSet l) := Tl.of_eq fun _ => impl_SetValid_f l
theorem spec_SetValid_ev (l : List Task) (hl : l.length ≤ 1048576) : Tl (fun k => spec_SetValid.f k l) (okSet l) := by
  have key := Tl.all (F := fun k i => spec_SetValid.l0 k l i) (n := l.length) (P := fun j => okTask (l.getD j z43)) (fin := decide (l.length ≤ 5)) ?_ ?_ ?_
  · rw [all_range] at key
    unfold okSet
    rw [Bool.and_comm]
    exact key
  · intro j hj hp r h
    refine Tl.step ?_
    have c3 := eq_true (show (j : Int) < (l.length : Int) by omega)
    have c4 := eq_true (show 0 ≤ (j : Int) by omega)
    have c5 : spec_TaskValid.f (rd_T43 l (j : Int)).f0 (rd_T43 l (j : Int)).f1 (rd_T43 l (j : Int)).f2 = some true := by rw [spec_TaskValid_f]; exact congrArg some hp
    simp only [spec_SetValid.l0, c3, c4, c5, if_true, Option.bind_some]
    rw [wrap_succ hj (by omega)]
    exact h
  · intro j hj hp
    refine Tl.step ?_
    have c3 := eq_true (show (j : Int) < (l.length : Int) by omega)
    have c4 := eq_true (show 0 ≤ (j : Int) by omega)
    have c5 : spec_TaskValid.f (rd_T43 l (j : Int)).f0 (rd_T43 l (j : Int)).f1 (rd_T43 l (j : Int)).f2 = some false := by rw [spec_TaskValid_f]; exact congrArg some hp
    simp only [spec_SetValid.l0, c3, c4, c5, if_true, Option.bind_some, Bool.false_eq_true, if_false]
    exact Tl.ret _
  · refine Tl.step ?_
    have c3 := eq_false (show ¬ ((l.length : Int) < (l.length : Int)) by omega)
    simp only [spec_SetValid.l0, c3, if_false]
    have : decide ((l.length : Int) ≤ 5) = decide (l.length ≤ 5) := by rw [decide_eq_decide]; omega
    rw [this]
    exact Tl.ret _
end Go.Proofs.Ytfciajbahgjflaa.Print

namespace Go.Proofs.Ytfciajbahgjflaa.Print
open Go.RowKit Go.Proofs.YtfciajbahgjflaaW.PrintWords Go.Proofs.Ytfciajbahgjflaa.Evs Go.Proofs.Ytfciajbahgjflaa.Opens
set_option linter.unusedSimpArgs false
set_option linter.unusedVariables false
theorem tmod_pos {a b : Int} (ha : 0 ≤ a) (_hb : 0 < b) : Int.tmod a b = a % b := Int.tmod_eq_emod_of_nonneg ha
theorem tdiv_pos {a b : Int} (ha : 0 ≤ a) : Int.tdiv a b = a / b := Int.tdiv_eq_ediv_of_nonneg ha
/-- Task j of a list. -/
def tk (l : List Task) (j : Nat) : Task := l.getD j z43
theorem rd_tk (l : List Task) (j : Nat) : rd_T43 l (j : Int) = tk l j := rfl
theorem okSet_len {l : List Task} (h : okSet l = true) : l.length ≤ 5 := by unfold okSet at h; simp at h; exact h.1
theorem okSet_tk {l : List Task} (h : okSet l = true) {j : Nat} (hj : j < l.length) : 1 ≤ (tk l j).f0 ∧ (tk l j).f0 ≤ 8 ∧ (tk l j).f0 ≤ (tk l j).f1 ∧ (tk l j).f1 ≤ (tk l j).f2 ∧ (tk l j).f2 ≤ 12 := by
  unfold okSet at h
  rw [Bool.and_eq_true, List.all_eq_true] at h
  have h1 : tk l j ∈ l := by unfold tk; simp [List.getD_eq_getElem?_getD, hj]
  have := h.2 _ h1
  unfold okTask at this
  exact of_decide_eq_true this
end Go.Proofs.Ytfciajbahgjflaa.Print

namespace Go.Proofs.Ytfciajbahgjflaa.Print
open Go.RowKit Go.Proofs.YtfciajbahgjflaaW.PrintWords Go.Proofs.Ytfciajbahgjflaa.Evs Go.Proofs.Ytfciajbahgjflaa.Opens
set_option linter.unusedSimpArgs false
set_option linter.unusedVariables false
theorem onN_succ (s : List Task) (a : List Int) (c : Int) (j : Nat) : onN s a c (j + 1) = if a.getD j 0 = c then onN s a c j ++ [s.getD j z43] else onN s a c j := rfl
theorem rd_o (o : List Int) (j : Nat) : rd o (j : Int) = o.getD j 0 := rfl
theorem spec_On_ev {s : List Task} {a : List Int} (c : Int) (h : a.length ≤ s.length) (hs : s.length ≤ 1000000) : Tl (fun k => spec_l7On.f k s a c) (onN s a c a.length) := by
  unfold spec_l7On.f
  refine down (Q := fun j => Tl (fun k => spec_l7On.l0 k s a c (onN s a c j) (j : Int)) (onN s a c a.length)) a.length ?_ ?_
  · refine Tl.step ?_
    simp only [spec_l7On.l0]
    exact Tl.iteF (by omega) (Tl.ret _)
  · intro j hj hh
    have hlen := onN_len s a c j
    rw [onN_succ] at hh
    refine Tl.step ?_
    simp only [spec_l7On.l0, rd_o]
    rw [wrap_succ hj (by omega)]
    refine Tl.iteT (by omega) (Tl.iteT (by omega) ?_)
    by_cases hc : a.getD j 0 = c
    · rw [if_pos hc] at hh
      exact Tl.iteT hc (Tl.iteT (by omega) (Tl.iteT (by omega) hh))
    · rw [if_neg hc] at hh
      exact Tl.iteF hc hh
theorem impl_On_ev {s : List Task} {a : List Int} (c : Int) (h : a.length ≤ s.length) (hs : s.length ≤ 1000000) : Tl (fun _ => impl_onCore.f s a c) (onN s a c a.length) := Tl.of_eq fun _ => if_pos ⟨h, hs⟩
theorem okTask_tk {s : List Task} (h : okSet s = true) {j : Nat} (hj : j < s.length) : okTask (s.getD j z43) = true := by
  unfold okSet at h
  rw [Bool.and_eq_true, List.all_eq_true] at h
  refine h.2 _ ?_
  rw [List.getD_eq_getElem?_getD, List.getElem?_eq_getElem hj]
  exact List.getElem_mem hj
theorem onN_all {s : List Task} (h : okSet s = true) (a : List Int) (c : Int) : ∀ j, j ≤ s.length → (onN s a c j).all okTask = true
  | 0, _ => rfl
  | j + 1, hj => by
    have h1 := onN_all h a c j (by omega)
    rw [onN_succ]
    split
    · rw [List.all_append, h1, Bool.true_and, List.all_cons, okTask_tk h (by omega)]
      rfl
    · exact h1
theorem onN_ok {s : List Task} (h : okSet s = true) (a : List Int) (c : Int) {j : Nat} (hj : j ≤ s.length) : okSet (onN s a c j) = true := by
  have h1 := onN_len s a c j
  have h2 := okSet_len h
  have h3 := onN_all h a c j hj
  unfold okSet
  rw [decide_eq_true (by omega), h3]
  rfl
end Go.Proofs.Ytfciajbahgjflaa.Print

namespace Go.Proofs.Ytfciajbahgjflaa.Print
open Go.RowKit Go.Proofs.YtfciajbahgjflaaW.PrintWords Go.Proofs.Ytfciajbahgjflaa.Evs Go.Proofs.Ytfciajbahgjflaa.Opens
set_option linter.unusedSimpArgs false
set_option linter.unusedVariables false
theorem gcd_step {a b : Int} (ha : 0 ≤ a) (hb : 0 ≤ b) : Int.gcd a b = Int.gcd b (a % b) := by
  obtain ⟨n, rfl⟩ := Int.eq_ofNat_of_zero_le ha
  obtain ⟨m, rfl⟩ := Int.eq_ofNat_of_zero_le hb
  rw [← Int.natCast_emod, Int.gcd_natCast_natCast, Int.gcd_natCast_natCast, Nat.gcd_comm n m, Nat.gcd_rec m n, Nat.gcd_comm]
theorem impl_gcd_ev (a b : Int) (ha : 0 ≤ a) (hb : 0 ≤ b) : Tl (fun k => impl_gcd.f k a b) (Int.gcd a b) := by
  unfold impl_gcd.f
  obtain ⟨n, hn⟩ : ∃ n : Nat, b.toNat = n := ⟨_, rfl⟩
  induction n using Nat.strongRecOn generalizing a b with
  | _ n ih =>
    refine Tl.step ?_
    simp only [impl_gcd.l0]
    by_cases h : b = 0
    · subst h
      refine Tl.iteT rfl ?_
      rw [Int.gcd_zero_right, Int.natAbs_of_nonneg ha]
      exact Tl.ret _
    · refine Tl.iteF h ?_
      rw [tmod_pos ha (by omega)]
      have hm := Int.emod_lt_of_pos a (show 0 < b by omega)
      have hm0 := Int.emod_nonneg a h
      have := ih (a % b).toNat (by omega) b (a % b) hb hm0 rfl
      rw [gcd_step ha hb]
      exact this
theorem spec_l1Gcd_ev (a b : Int) (ha : 0 ≤ a) (hb : 0 ≤ b) : Tl (fun k => spec_l1Gcd.f k a b) (Int.gcd a b) := by
  unfold spec_l1Gcd.f
  obtain ⟨n, hn⟩ : ∃ n : Nat, b.toNat = n := ⟨_, rfl⟩
  induction n using Nat.strongRecOn generalizing a b with
  | _ n ih =>
    refine Tl.step ?_
    simp only [spec_l1Gcd.l0]
    by_cases h : b = 0
    · subst h
      refine Tl.iteF (by omega) ?_
      rw [Int.gcd_zero_right, Int.natAbs_of_nonneg ha]
      exact Tl.ret _
    · refine Tl.iteT (by omega) ?_
      refine Tl.iteF h ?_
      rw [tmod_pos ha (by omega)]
      have hm := Int.emod_lt_of_pos a (show 0 < b by omega)
      have hm0 := Int.emod_nonneg a h
      have := ih (a % b).toNat (by omega) b (a % b) hb hm0 rfl
      rw [gcd_step ha hb]
      exact this
/-- The least common multiple of the first j periods. -/
def hypN (l : List Task) : Nat → Int
  | 0 => 1
  | j + 1 => hypN l j / (Int.gcd (hypN l j) (tk l j).f2 : Int) * (tk l j).f2
def hyp (l : List Task) : Int := hypN l l.length
theorem small_dvd {p : Int} (h0 : 1 ≤ p) (h1 : p ≤ 12) : p ∣ 27720 := by
  have : p = 1 ∨ p = 2 ∨ p = 3 ∨ p = 4 ∨ p = 5 ∨ p = 6 ∨ p = 7 ∨ p = 8 ∨ p = 9 ∨ p = 10 ∨ p = 11 ∨ p = 12 := by omega
  rcases this with rfl | rfl | rfl | rfl | rfl | rfl | rfl | rfl | rfl | rfl | rfl | rfl <;> decide
theorem lcm_dvd {a p m : Int} (ha : a ∣ m) (hp : p ∣ m) (h0 : 0 < a) (hp0 : 0 < p) : a / (Int.gcd a p : Int) * p ∣ m := by
  have hg : ((Int.gcd a p : Nat) : Int) ∣ a := Int.gcd_dvd_left _ _
  have e : a / (Int.gcd a p : Int) * p = (Int.lcm a p : Int) := by
    have h1 : (Int.gcd a p * Int.lcm a p : Nat) = (a * p).natAbs := by rw [Int.gcd_mul_lcm, Int.natAbs_mul]
    have h2 : ((Int.gcd a p : Nat) : Int) * ((Int.lcm a p : Nat) : Int) = a * p := by
      rw [← Int.natCast_mul, h1, Int.natAbs_of_nonneg (Int.mul_nonneg (show 0 ≤ a by omega) (show 0 ≤ p by omega))]
    have hg0 : 0 < ((Int.gcd a p : Nat) : Int) := by
      have := Int.gcd_pos_of_ne_zero_left p (show a ≠ 0 by omega)
      omega
    obtain ⟨c, hc⟩ := hg
    have h3 : a / ((Int.gcd a p : Nat) : Int) = c := Int.ediv_eq_of_eq_mul_right (by omega) hc
    rw [h3]
    have h4 : ((Int.gcd a p : Nat) : Int) * ((Int.lcm a p : Nat) : Int) = ((Int.gcd a p : Nat) : Int) * (c * p) := by rw [h2, ← Int.mul_assoc, ← hc]
    exact (Int.eq_of_mul_eq_mul_left (by omega) h4).symm
  rw [e]
  exact Int.coe_lcm_dvd ha hp
theorem hypN_ok {l : List Task} (h : okSet l = true) : ∀ j, j ≤ l.length → 1 ≤ hypN l j ∧ hypN l j ∣ 27720
  | 0, _ => by unfold hypN; exact ⟨by omega, ⟨27720, by omega⟩⟩
  | j + 1, hj => by
    obtain ⟨h1, h2⟩ := hypN_ok h j (by omega)
    have ht := okSet_tk h (show j < l.length by omega)
    unfold hypN
    refine ⟨?_, lcm_dvd h2 (small_dvd (by omega) (by omega)) (by omega) (by omega)⟩
    have hg : ((Int.gcd (hypN l j) (tk l j).f2 : Nat) : Int) ∣ hypN l j := Int.gcd_dvd_left _ _
    have hg0 : 0 < ((Int.gcd (hypN l j) (tk l j).f2 : Nat) : Int) := by
      have := Int.gcd_pos_of_ne_zero_left (tk l j).f2 (show hypN l j ≠ 0 by omega)
      omega
    have hd : 1 ≤ hypN l j / ((Int.gcd (hypN l j) (tk l j).f2 : Nat) : Int) := by
      have := Int.le_of_dvd (by omega) hg
      exact Int.le_ediv_of_mul_le hg0 (by omega)
    calc (1 : Int) ≤ 1 * 1 := by omega
      _ ≤ _ := Int.mul_le_mul hd (by omega) (by omega) (by omega)
theorem hypN_le {l : List Task} (h : okSet l = true) {j : Nat} (hj : j ≤ l.length) : 1 ≤ hypN l j ∧ hypN l j ≤ 27720 := by
  obtain ⟨h1, h2⟩ := hypN_ok h j hj
  exact ⟨h1, Int.le_of_dvd (by omega) h2⟩
theorem gcd_pos' {a p : Int} (h : 1 ≤ a) : 1 ≤ ((Int.gcd a p : Nat) : Int) := by
  have := Int.gcd_pos_of_ne_zero_left p (show a ≠ 0 by omega)
  omega
theorem hypN_step {l : List Task} (h : okSet l = true) {j : Nat} (hj : j < l.length) :
    wrap64 (wrap64 (Int.tdiv (hypN l j) (Int.gcd (hypN l j) (tk l j).f2 : Int)) * (tk l j).f2) = hypN l (j + 1) := by
  obtain ⟨h1, h2⟩ := hypN_le h (show j ≤ l.length by omega)
  obtain ⟨h3, h4⟩ := hypN_le h (show j + 1 ≤ l.length by omega)
  have hg := gcd_pos' (p := (tk l j).f2) h1
  rw [tdiv_pos (by omega)]
  have h5 : 0 ≤ hypN l j / (Int.gcd (hypN l j) (tk l j).f2 : Int) := Int.ediv_nonneg (by omega) (by omega)
  have h6 : hypN l j / (Int.gcd (hypN l j) (tk l j).f2 : Int) ≤ hypN l j := Int.ediv_le_self _ (by omega)
  rw [wrap_id (n := hypN l j / _) (by omega) (by omega)]
  exact wrap_id (by show _ ≤ hypN l (j + 1); omega) (by show hypN l (j + 1) ≤ _; omega)
theorem spec_hyper_ev {l : List Task} (h : okSet l = true) : Tl (fun k => spec_l1Hyper.f k l) (hyp l) := by
  unfold spec_l1Hyper.f
  have hl := okSet_len h
  refine down (Q := fun j => Tl (fun k => spec_l1Hyper.l0 k l (hypN l j) (j : Int)) (hyp l)) l.length ?_ ?_
  · refine Tl.step ?_
    simp only [spec_l1Hyper.l0]
    refine Tl.iteF (by omega) ?_
    exact Tl.ret _
  · intro j hj hh
    obtain ⟨h1, h2⟩ := hypN_le h (show j ≤ l.length by omega)
    have ht := okSet_tk h hj
    refine Tl.step ?_
    simp only [spec_l1Hyper.l0, rd_tk]
    refine Tl.iteT (by omega) (Tl.iteT (by omega) (Tl.bind (spec_l1Gcd_ev _ _ (by omega) (by omega)) ?_))
    have hg := gcd_pos' (p := (tk l j).f2) h1
    refine Tl.iteF (by omega) ?_
    rw [hypN_step h hj, wrap_succ hj (by omega)]
    exact hh
theorem impl_lcm_ev {l : List Task} (h : okSet l = true) {j : Nat} (hj : j < l.length) : Tl (fun k => impl_lcm.f k (hypN l j) (tk l j).f2) (hypN l (j + 1)) := by
  obtain ⟨h1, h2⟩ := hypN_le h (show j ≤ l.length by omega)
  have ht := okSet_tk h hj
  unfold impl_lcm.f
  refine Tl.bind (impl_gcd_ev _ _ (by omega) (by omega)) ?_
  have hg := gcd_pos' (p := (tk l j).f2) h1
  refine Tl.iteF (by omega) ?_
  rw [hypN_step h hj]
  exact Tl.ret _
theorem impl_hyper_ev {l : List Task} (h : okSet l = true) : Tl (fun k => impl_hyper.f k l) (hyp l) := by
  unfold impl_hyper.f
  have hl := okSet_len h
  refine down (Q := fun j => Tl (fun k => impl_hyper.l0 k (hypN l j) l (l.length : Int) (j : Int)) (hyp l)) l.length ?_ ?_
  · refine Tl.step ?_
    simp only [impl_hyper.l0]
    refine Tl.iteF (by omega) ?_
    exact Tl.ret _
  · intro j hj hh
    refine Tl.step ?_
    simp only [impl_hyper.l0, rd_tk]
    refine Tl.iteT (by omega) (Tl.iteT (by omega) (Tl.iteT (by omega) (Tl.bind (impl_lcm_ev h hj) ?_)))
    rw [wrap_succ hj (by omega)]
    exact hh
theorem hyp_le {l : List Task} (h : okSet l = true) : 1 ≤ hyp l ∧ hyp l ≤ 27720 := hypN_le h (Nat.le_refl _)
theorem hypN_dvd {l : List Task} (h : okSet l = true) : ∀ m, m ≤ l.length → ∀ j, j < m → (tk l j).f2 ∣ hypN l m
  | 0, _, j, hj => by omega
  | m + 1, hm, j, hj => by
    have h1 := (hypN_le h (show m ≤ l.length by omega)).1
    have ht := okSet_tk h (show m < l.length by omega)
    have e : hypN l (m + 1) = (Int.lcm (hypN l m) (tk l m).f2 : Int) := by
      apply Int.dvd_antisymm (by have := (hypN_le h hm).1; omega) (by omega)
      · exact lcm_dvd (Int.dvd_lcm_left _ _) (Int.dvd_lcm_right _ _) (by omega) (by omega)
      · apply Int.coe_lcm_dvd
        · obtain ⟨c, hc⟩ : ((Int.gcd (hypN l m) (tk l m).f2 : Nat) : Int) ∣ (tk l m).f2 := Int.gcd_dvd_right _ _
          obtain ⟨d, hd⟩ : ((Int.gcd (hypN l m) (tk l m).f2 : Nat) : Int) ∣ hypN l m := Int.gcd_dvd_left _ _
          have hg := gcd_pos' (p := (tk l m).f2) h1
          have h3 : hypN l m / ((Int.gcd (hypN l m) (tk l m).f2 : Nat) : Int) = d := Int.ediv_eq_of_eq_mul_right (by omega) hd
          refine ⟨c, ?_⟩
          show hypN l m / ((Int.gcd (hypN l m) (tk l m).f2 : Nat) : Int) * (tk l m).f2 = _
          rw [h3]
          generalize ((Int.gcd (hypN l m) (tk l m).f2 : Nat) : Int) = g at hc hd
          rw [hc, hd, Int.mul_left_comm, Int.mul_assoc]
        · exact ⟨hypN l m / ((Int.gcd (hypN l m) (tk l m).f2 : Nat) : Int), Int.mul_comm _ _⟩
    rw [e]
    rcases Nat.lt_or_ge j m with hlt | hge
    · exact Int.dvd_trans (hypN_dvd h m (by omega) j hlt) (Int.dvd_lcm_left _ _)
    · obtain rfl : j = m := by omega
      exact Int.dvd_lcm_right _ _
end Go.Proofs.Ytfciajbahgjflaa.Print

namespace Go.Proofs.Ytfciajbahgjflaa.Print
open Go.RowKit Go.Proofs.YtfciajbahgjflaaW.PrintWords Go.Proofs.Ytfciajbahgjflaa.Evs Go.Proofs.Ytfciajbahgjflaa.Opens
set_option linter.unusedSimpArgs false
set_option linter.unusedVariables false
/-- One task's part of the demand. -/
def demT (x : Task) (t : Int) : Int := if t ≥ x.f1 then ((t - x.f1) / x.f2 + 1) * x.f0 else 0
def demN (l : List Task) (t : Int) : Nat → Int
  | 0 => 0
  | j + 1 => demN l t j + demT (tk l j) t
def dem (l : List Task) (t : Int) : Int := demN l t l.length
theorem demT_le {x : Task} (h : 1 ≤ x.f0 ∧ x.f0 ≤ 8 ∧ x.f0 ≤ x.f1 ∧ x.f1 ≤ x.f2 ∧ x.f2 ≤ 12) {t : Int} (h1 : t ≤ 1000000) : 0 ≤ demT x t ∧ demT x t ≤ 8000008 := by
  unfold demT
  split
  · rename_i ht
    have h2 : 0 ≤ (t - x.f1) / x.f2 := Int.ediv_nonneg (by omega) (by omega)
    have h3 : (t - x.f1) / x.f2 ≤ t - x.f1 := Int.ediv_le_self _ (by omega)
    constructor
    · exact Int.mul_nonneg (by omega) (by omega)
    · calc ((t - x.f1) / x.f2 + 1) * x.f0 ≤ 1000001 * 8 := Int.mul_le_mul (by omega) (by omega) (by omega) (by omega)
        _ ≤ _ := by omega
  · omega
theorem demN_le {l : List Task} (h : okSet l = true) {t : Int} (h1 : t ≤ 1000000) : ∀ j, j ≤ l.length → 0 ≤ demN l t j ∧ demN l t j ≤ 8000008 * j
  | 0, _ => by unfold demN; omega
  | j + 1, hj => by
    have h2 := demN_le h h1 j (by omega)
    have h3 := demT_le (okSet_tk h (show j < l.length by omega)) h1
    unfold demN
    omega
theorem dem_le {l : List Task} (h : okSet l = true) {t : Int} (h1 : t ≤ 1000000) : 0 ≤ dem l t ∧ dem l t ≤ 40000040 := by
  have h2 := demN_le h h1 l.length (Nat.le_refl _)
  have h3 := okSet_len h
  unfold dem
  omega
theorem dem_step {l : List Task} (h : okSet l = true) {t : Int} (h0 : 0 ≤ t) (h1 : t ≤ 1000000) {j : Nat} (hj : j < l.length) (ht : t ≥ (tk l j).f1) :
    wrap64 (demN l t j + wrap64 (wrap64 (wrap64 (Int.tdiv (wrap64 (t - (tk l j).f1)) (tk l j).f2) + 1) * (tk l j).f0)) = demN l t (j + 1) := by
  have h2 := okSet_tk h hj
  have h3 := demT_le h2 h1
  have h4 := demN_le h h1 (j + 1) (by omega)
  have h5 := demN_le h h1 j (by omega)
  have hl := okSet_len h
  have e1 : wrap64 (t - (tk l j).f1) = t - (tk l j).f1 := wrap_id (by omega) (by omega)
  rw [e1, tdiv_pos (by omega)]
  have h6 : 0 ≤ (t - (tk l j).f1) / (tk l j).f2 := Int.ediv_nonneg (by omega) (by omega)
  have h7 : (t - (tk l j).f1) / (tk l j).f2 ≤ t - (tk l j).f1 := Int.ediv_le_self _ (by omega)
  rw [wrap_id (n := (t - (tk l j).f1) / (tk l j).f2) (by omega) (by omega), wrap_id (n := (t - (tk l j).f1) / (tk l j).f2 + 1) (by omega) (by omega)]
  have e2 : ((t - (tk l j).f1) / (tk l j).f2 + 1) * (tk l j).f0 = demT (tk l j) t := by unfold demT; rw [if_pos ht]
  rw [e2, wrap_id (n := demT (tk l j) t) (by omega) (by omega)]
  show wrap64 (demN l t (j + 1)) = _
  exact wrap_id (by omega) (by omega)
theorem dem_skip {l : List Task} {t : Int} {j : Nat} (ht : ¬ t ≥ (tk l j).f1) : demN l t j = demN l t (j + 1) := by
  show _ = demN l t j + demT (tk l j) t
  unfold demT
  rw [if_neg ht]
  omega
theorem spec_demand_ev {l : List Task} (h : okSet l = true) {t : Int} (h0 : 0 ≤ t) (h1 : t ≤ 1000000) : Tl (fun k => spec_l2Demand.f k l t) (dem l t) := by
  unfold spec_l2Demand.f
  have hl := okSet_len h
  refine down (Q := fun j => Tl (fun k => spec_l2Demand.l0 k l t (demN l t j) (j : Int)) (dem l t)) l.length ?_ ?_
  · refine Tl.step ?_
    simp only [spec_l2Demand.l0]
    refine Tl.iteF (by omega) ?_
    exact Tl.ret _
  · intro j hj hh
    have h2 := okSet_tk h hj
    refine Tl.step ?_
    simp only [spec_l2Demand.l0, rd_tk]
    refine Tl.iteT (by omega) (Tl.iteT (by omega) ?_)
    by_cases ht : t ≥ (tk l j).f1
    · refine Tl.iteT ht (Tl.iteF (by omega) ?_)
      rw [dem_step h h0 h1 hj ht, wrap_succ hj (by omega)]
      exact hh
    · refine Tl.iteF ht ?_
      rw [wrap_succ hj (by omega), dem_skip ht]
      exact hh
theorem impl_demand_ev {l : List Task} (h : okSet l = true) {t : Int} (h0 : 0 ≤ t) (h1 : t ≤ 1000000) : Tl (fun k => impl_demand.f k l t) (dem l t) := by
  unfold impl_demand.f
  have hl := okSet_len h
  refine down (Q := fun j => Tl (fun k => impl_demand.l0 k t (demN l t j) l (l.length : Int) (j : Int)) (dem l t)) l.length ?_ ?_
  · refine Tl.step ?_
    simp only [impl_demand.l0]
    refine Tl.iteF (by omega) ?_
    exact Tl.ret _
  · intro j hj hh
    have h2 := okSet_tk h hj
    refine Tl.step ?_
    simp only [impl_demand.l0, rd_tk]
    refine Tl.iteT (by omega) (Tl.iteT (by omega) (Tl.iteT (by omega) ?_))
    by_cases ht : t ≥ (tk l j).f1
    · refine Tl.iteT ht (Tl.iteF (by omega) ?_)
      rw [dem_step h h0 h1 hj ht, wrap_succ hj (by omega)]
      exact hh
    · refine Tl.iteF ht ?_
      rw [wrap_succ hj (by omega), dem_skip ht]
      exact hh
end Go.Proofs.Ytfciajbahgjflaa.Print

namespace Go.Proofs.Ytfciajbahgjflaa.Print
open Go.RowKit Go.Proofs.YtfciajbahgjflaaW.PrintWords Go.Proofs.Ytfciajbahgjflaa.Evs Go.Proofs.Ytfciajbahgjflaa.Opens
set_option linter.unusedSimpArgs false
set_option linter.unusedVariables false
/-- The first overload from t on, n times tried. -/
def overN (l : List Task) : Nat → Int → Int
  | 0, _ => -1
  | n + 1, t => if dem l t > t then t else overN l n (t + 1)
def over (l : List Task) : Int := overN l (hyp l).toNat 1
theorem overN_range (l : List Task) : ∀ (n : Nat) (t : Int), 1 ≤ t → overN l n t = -1 ∨ (t ≤ overN l n t ∧ overN l n t < t + n)
  | 0, t, _ => .inl rfl
  | n + 1, t, h => by
    unfold overN
    split
    · exact .inr (by omega)
    · rcases overN_range l n (t + 1) (by omega) with h1 | h1
      · exact .inl h1
      · exact .inr (by omega)
theorem over_range (l : List Task) : over l = -1 ∨ 1 ≤ over l ∧ over l ≤ (hyp l).toNat := by
  rcases overN_range l (hyp l).toNat 1 (by omega) with h | h
  · exact .inl h
  · exact .inr (by unfold over; omega)
theorem spec_overN_ev {l : List Task} (h : okSet l = true) : ∀ (n : Nat) (t : Int), 1 ≤ t → t + n = hyp l + 1 → Tl (fun k => spec_l2Overload.l0 k l (hyp l) t) (overN l n t)
  | 0, t, h1, h2 => by
    refine Tl.step ?_
    simp only [spec_l2Overload.l0]
    exact Tl.iteF (by omega) (Tl.ret _)
  | n + 1, t, h1, h2 => by
    have hh := hyp_le h
    refine Tl.step ?_
    simp only [spec_l2Overload.l0]
    refine Tl.iteT (by omega) (Tl.bind (spec_demand_ev h (by omega) (by omega)) ?_)
    rw [wrap_id (n := t + 1) (by omega) (by omega)]
    by_cases hc : dem l t > t
    · unfold overN; rw [if_pos hc]; exact Tl.iteT hc (Tl.ret _)
    · unfold overN; rw [if_neg hc]; exact Tl.iteF hc (spec_overN_ev h n (t + 1) (by omega) (by omega))
theorem impl_overN_ev {l : List Task} (h : okSet l = true) : ∀ (n : Nat) (t : Int), 1 ≤ t → t + n = hyp l + 1 → Tl (fun k => impl_FirstOverload.l0 k l t) (overN l n t)
  | 0, t, h1, h2 => by
    refine Tl.step ?_
    simp only [impl_FirstOverload.l0]
    exact Tl.bind (impl_hyper_ev h) (Tl.iteF (by omega) (Tl.ret _))
  | n + 1, t, h1, h2 => by
    have hh := hyp_le h
    refine Tl.step ?_
    simp only [impl_FirstOverload.l0]
    refine Tl.bind (impl_hyper_ev h) (Tl.iteT (by omega) (Tl.bind (impl_demand_ev h (by omega) (by omega)) ?_))
    rw [wrap_id (n := t + 1) (by omega) (by omega)]
    by_cases hc : dem l t > t
    · unfold overN; rw [if_pos hc]; exact Tl.iteT hc (Tl.ret _)
    · unfold overN; rw [if_neg hc]; exact Tl.iteF hc (impl_overN_ev h n (t + 1) (by omega) (by omega))
theorem spec_over_ev {l : List Task} (h : okSet l = true) : Tl (fun k => spec_l2Overload.f k l (hyp l)) (over l) := by
  have hh := hyp_le h
  exact spec_overN_ev h _ _ (by omega) (by omega)
def FirstOverload_D (l : List Task) : Int := if okSet l = true then over l else -1
theorem impl_FirstOverload_ev (l : List Task) (hl : l.length ≤ 1048576) : Tl (fun k => impl_FirstOverload.f k l) (FirstOverload_D l) := by
  unfold impl_FirstOverload.f FirstOverload_D
  refine Tl.bind (impl_SetValid_ev l hl) ?_
  by_cases h : okSet l = true
  · have hh := hyp_le h
    rw [if_pos h]; exact Tl.iteT h (impl_overN_ev h _ _ (by omega) (by omega))
  · rw [if_neg h]; exact Tl.iteF h (Tl.ret _)
/-- Is a valid set schedulable? -/
def feas (l : List Task) : Bool := decide (over l < 0)
theorem spec_edf_ev {l : List Task} (h : okSet l = true) : Tl (fun k => spec_l2Edf.f k l) (feas l) := by
  unfold spec_l2Edf.f
  refine Tl.bind (spec_hyper_ev h) (Tl.bind (spec_over_ev h) ?_)
  have e : (over l == -1) = feas l := by
    unfold feas
    rw [Bool.eq_iff_iff, beq_iff_eq, decide_eq_true_eq]
    rcases over_range l with h1 | h1 <;> omega
  rw [e]
  exact Tl.ret _
theorem impl_feasible_ev {l : List Task} (h : okSet l = true) : Tl (fun k => impl_feasible.f k l) (feas l) := by
  unfold impl_feasible.f
  have := impl_FirstOverload_ev l (by have := okSet_len h; omega)
  unfold FirstOverload_D at this
  rw [if_pos h] at this
  exact Tl.bind this (Tl.ret _)
end Go.Proofs.Ytfciajbahgjflaa.Print

namespace Go.Proofs.Ytfciajbahgjflaa.Print
open Go.RowKit Go.Proofs.YtfciajbahgjflaaW.PrintWords Go.Proofs.YtfciajbahgjflaaW.PrintMore Go.Proofs.Ytfciajbahgjflaa.Evs Go.Proofs.Ytfciajbahgjflaa.Opens
set_option linter.unusedSimpArgs false
set_option linter.unusedVariables false
theorem getD_last (a : List Int) (x : Int) : (a ++ [x]).getD a.length 0 = x := by simp [List.getD_eq_getElem?_getD, List.getElem?_append]
theorem getD_left (a b : List Int) {j : Nat} (h : j < a.length) : (a ++ b).getD j 0 = a.getD j 0 := by simp [List.getD_eq_getElem?_getD, List.getElem?_append, h]
theorem onN_congr (s : List Task) (a b : List Int) (c : Int) : ∀ n, (∀ j, j < n → a.getD j 0 = b.getD j 0) → onN s a c n = onN s b c n
  | 0, _ => rfl
  | n + 1, h => by
    rw [onN_succ, onN_succ, h n (by omega), onN_congr s a b c n (fun j hj => h j (by omega))]
theorem onN_skip (s : List Task) (a : List Int) (c : Int) (m : Nat) : ∀ n, (∀ j, m ≤ j → j < m + n → a.getD j 0 ≠ c) → onN s a c (m + n) = onN s a c m
  | 0, _ => rfl
  | n + 1, h => by
    rw [← Nat.add_assoc, onN_succ, if_neg (h (m + n) (by omega) (by omega))]
    exact onN_skip s a c m n (fun j h1 h2 => h j h1 (by omega))
theorem onN_app (s : List Task) (a : List Int) (x : Int) : onN s (a ++ [x]) x (a.length + 1) = onN s a x a.length ++ [s.getD a.length z43] := by
  rw [onN_succ, getD_last, if_pos rfl, onN_congr s (a ++ [x]) a x a.length (fun j hj => getD_left _ _ hj)]
/-- The reference's answer. -/
def resS (o : Option (List Int)) : List Int × Bool := match o with
  | some r => (r, true)
  | none => ([], false)
theorem set_at (a : List Int) (z v : Int) (d : Nat) : (a ++ z :: List.replicate d (-1)).set a.length v = a ++ v :: List.replicate d (-1) := by
  rw [List.set_append_right _ _ (Nat.le_refl _), Nat.sub_self, List.set_cons_zero]
theorem app_cons (a : List Int) (z : Int) (l : List Int) : a ++ z :: l = a ++ [z] ++ l := by simp
theorem impl_none_ev (n : Nat) (h : n ≤ 1000000) : Tl (fun _ => impl_none.f (n : Int)) (List.replicate n (-1)) := by
  refine Tl.of_eq fun _ => ?_
  unfold impl_none.f
  rw [if_pos (by omega)]
  rfl
end Go.Proofs.Ytfciajbahgjflaa.Print

namespace Go.Proofs.Ytfciajbahgjflaa.Print
open Go.RowKit Go.Proofs.YtfciajbahgjflaaW.PrintWords Go.Proofs.YtfciajbahgjflaaW.PrintMore Go.Proofs.Ytfciajbahgjflaa.Evs Go.Proofs.Ytfciajbahgjflaa.Opens
set_option linter.unusedSimpArgs false
set_option linter.unusedVariables false
/-- Does the next task fit on processor x? -/
def fitsAt (s : List Task) (a : List Int) (x : Nat) : Bool := feas (onN s (a ++ [(x : Int)]) (x : Int) (a.length + 1))
/-- The first processor on which it fits, from x on, m of them tried. -/
def ff1 (s : List Task) (a : List Int) : Nat → Nat → Option Nat
  | 0, _ => none
  | m + 1, x => if fitsAt s a x = true then some x else ff1 s a m (x + 1)
def ffN (s : List Task) (c : Int) : Nat → List Int → Option (List Int)
  | 0, a => some a
  | d + 1, a => match ff1 s a c.toNat 0 with
    | some x => ffN s c d (a ++ [(x : Int)])
    | none => none
theorem ff1_lt {s : List Task} {a : List Int} : ∀ (m x r : Nat), ff1 s a m x = some r → r < x + m
  | 0, x, r, h => by cases h
  | m + 1, x, r, h => by
    unfold ff1 at h
    by_cases hf : fitsAt s a x = true
    · rw [if_pos hf] at h; injection h with h; omega
    · rw [if_neg hf] at h; have := ff1_lt m _ _ h; omega
theorem ffN_some {s : List Task} {c : Int} {a : List Int} {x : Nat} (d : Nat) (h : ff1 s a c.toNat 0 = some x) : ffN s c (d + 1) a = ffN s c d (a ++ [(x : Int)]) := by show (match ff1 s a c.toNat 0 with | some x => _ | none => none) = _; rw [h]
theorem ffN_none {s : List Task} {c : Int} {a : List Int} (d : Nat) (h : ff1 s a c.toNat 0 = none) : ffN s c (d + 1) a = none := by show (match ff1 s a c.toNat 0 with | some x => _ | none => none) = _; rw [h]
theorem ff_len {s : List Task} {c : Int} : ∀ (d : Nat) (a r : List Int), ffN s c d a = some r → r.length = a.length + d
  | 0, a, r, h => by injection h with h; rw [h]; rfl
  | d + 1, a, r, h => by
    cases hx : ff1 s a c.toNat 0 with
    | some x =>
      rw [ffN_some d hx] at h
      have := ff_len d _ _ h
      rw [List.length_append, List.length_singleton] at this
      omega
    | none => rw [ffN_none d hx] at h; cases h
theorem tk_one (s : List Task) (n : Nat) : [(⟨(tk s n).f0, (tk s n).f1, (tk s n).f2⟩ : Task)] = [s.getD n z43] := rfl
/-- The reference's row: x, or -1. -/
def optI (o : Option Nat) : Int := match o with
  | some x => (x : Int)
  | none => -1
theorem spec_First_ev {s : List Task} {c : Int} {a : List Int} (h : okSet s = true) (h1 : 1 ≤ c) (h5 : c ≤ 5) (hl : a.length < s.length) : Tl (fun k => spec_l7First.f k s c a (a.length : Int)) (optI (ff1 s a c.toNat 0)) := by
  have hn5 := okSet_len h
  unfold spec_l7First.f
  have key : ∀ (m x : Nat), x + m = c.toNat → Tl (fun k => spec_l7First.l0 k s c a (a.length : Int) (x : Int)) (optI (ff1 s a m x)) := by
    intro m
    induction m with
    | zero =>
      intro x hx
      refine Tl.step ?_
      simp only [spec_l7First.l0]
      exact Tl.iteF (by omega) (Tl.ret _)
    | succ m ih =>
      intro x hx
      have hok : okSet (onN s (a ++ [(x : Int)]) (x : Int) (a.length + 1)) = true := onN_ok h _ _ (by omega)
      have hlen := onN_len s a (x : Int) a.length
      refine Tl.step ?_
      simp only [spec_l7First.l0, rd_tk, Option.bind_some, List.length_singleton]
      refine Tl.iteT (by omega) (Tl.bind (spec_On_ev _ (by omega) (by omega)) (Tl.iteT (by omega) (Tl.iteT (by omega) (Tl.iteT (by omega) ?_))))
      rw [tk_one, ← onN_app s a (x : Int)]
      refine Tl.bind (spec_edf_ev hok) ?_
      unfold ff1
      by_cases hf : fitsAt s a x = true
      · rw [if_pos hf]
        exact Tl.iteT hf (Tl.ret _)
      · rw [if_neg hf]
        refine Tl.iteF hf ?_
        rw [wrap_id (n := (x : Int) + 1) (by omega) (by omega)]
        exact ih (x + 1) (by omega)
  exact key _ 0 (by omega)
theorem spec_ff_ev {s : List Task} {c : Int} (h : okSet s = true) (h1 : 1 ≤ c) (h5 : c ≤ 5) : ∀ (d : Nat) (a : List Int), a.length + d = s.length → Tl (fun k => spec_FirstFit.l0 k s c a (a.length : Int)) (resS (ffN s c d a))
  | 0, a, hl => by
    refine Tl.step ?_
    simp only [spec_FirstFit.l0]
    exact Tl.iteF (by omega) (Tl.ret _)
  | d + 1, a, hl => by
    have hn5 := okSet_len h
    refine Tl.step ?_
    simp only [spec_FirstFit.l0]
    refine Tl.iteT (by omega) (Tl.bind (spec_First_ev h h1 h5 (by omega)) ?_)
    cases hx : ff1 s a c.toNat 0 with
    | some x =>
      rw [ffN_some d hx]
      refine Tl.iteF (by show ¬((x : Int) < 0); omega) (Tl.iteT (by omega) ?_)
      rw [wrap_id (n := (a.length : Int) + 1) (by omega) (by omega)]
      have := spec_ff_ev h h1 h5 d (a ++ [(x : Int)]) (by rw [List.length_append, List.length_singleton]; omega)
      rw [List.length_append, List.length_singleton, show ((a.length + 1 : Nat) : Int) = (a.length : Int) + 1 by omega] at this
      exact this
    | none =>
      rw [ffN_none d hx]
      exact Tl.iteT (by decide) (Tl.ret _)
theorem rd_mid (a : List Int) (z : Int) (l : List Int) : rd (a ++ z :: l) (a.length : Int) = z := by
  rw [rd_o, app_cons, getD_left _ _ (by simp), getD_last]
theorem on_free (s : List Task) (a : List Int) (x : Int) (d : Nat) (hx : 0 ≤ x) : onN s (a ++ (-1) :: List.replicate d (-1)) x (a ++ (-1) :: List.replicate d (-1)).length = onN s a x a.length := by
  have hl : (a ++ (-1) :: List.replicate d (-1)).length = a.length + (d + 1) := by simp
  rw [hl, onN_skip s _ x a.length (d + 1) (fun j h1 h2 => ?_)]
  · exact onN_congr s _ _ x _ (fun j hj => getD_left _ _ hj)
  · rw [← List.replicate_succ]
    have e : (a ++ List.replicate (d + 1) (-1)).getD j 0 = (-1 : Int) := by
      rw [List.getD_eq_getElem?_getD, List.getElem?_append_right (by omega), List.getElem?_replicate, if_pos (by omega)]
      rfl
    rw [e]; omega
theorem impl_ff_ev {s : List Task} {c : Int} (h : okSet s = true) (h1 : 1 ≤ c) (h5 : c ≤ 5) : ∀ (d : Nat) (a : List Int), a.length + d = s.length → Tl (fun k => impl_FirstFit.l0 k s c (a ++ List.replicate d (-1)) (s.length : Int) (a.length : Int)) (resS (ffN s c d a))
  | 0, a, hl => by
    refine Tl.step ?_
    simp only [impl_FirstFit.l0, List.replicate_zero, List.append_nil]
    exact Tl.iteF (by omega) (Tl.ret _)
  | d + 1, a, hl => by
    have hn5 := okSet_len h
    refine Tl.step ?_
    simp only [impl_FirstFit.l0, List.replicate_succ]
    refine Tl.iteT (by omega) ?_
    have fin : ∀ (y : Nat) (x : Int), ff1 s a c.toNat 0 = some y → Tl (fun k => impl_FirstFit.j3 k s c (a ++ (y : Int) :: List.replicate d (-1)) (a.length : Int) x (s.length : Int) (a.length : Int) false) (resS (ffN s c (d + 1) a)) := by
      intro y x hy
      rw [ffN_some d hy]
      refine Tl.step ?_
      simp only [impl_FirstFit.j3, rd_mid]
      refine Tl.iteF (by simp) (Tl.iteT (by omega) (Tl.iteT (by simp; omega) (Tl.iteF (by omega) ?_)))
      rw [wrap_id (n := (a.length : Int) + 1) (by omega) (by omega)]
      have := impl_ff_ev h h1 h5 d (a ++ [(y : Int)]) (by rw [List.length_append, List.length_singleton]; omega)
      rw [List.length_append, List.length_singleton, show ((a.length + 1 : Nat) : Int) = (a.length : Int) + 1 by omega, ← app_cons] at this
      exact this
    have key : ∀ (m x : Nat), x + m = c.toNat → ff1 s a c.toNat 0 = ff1 s a m x → Tl (fun k => impl_FirstFit.l1 k s c (a ++ (-1) :: List.replicate d (-1)) (a.length : Int) (x : Int) (s.length : Int) (a.length : Int)) (resS (ffN s c (d + 1) a)) := by
      intro m
      induction m with
      | zero =>
        intro x hx he
        refine Tl.step ?_
        simp only [impl_FirstFit.l1]
        refine Tl.iteF (by omega) (Tl.step ?_)
        simp only [impl_FirstFit.j3, rd_mid]
        rw [ffN_none d he]
        exact Tl.iteF (by simp) (Tl.iteT (by omega) (Tl.iteT (by simp; omega) (Tl.iteT (by decide) (Tl.ret _))))
      | succ m ih =>
        intro x hx he
        have hok : okSet (onN s (a ++ [(x : Int)]) (x : Int) (a.length + 1)) = true := onN_ok h _ _ (by omega)
        have hlen := onN_len s a (x : Int) a.length
        have hon : Tl (fun _ => impl_onCore.f s (a ++ (-1) :: List.replicate d (-1)) (x : Int)) (onN s a (x : Int) a.length) := by
          have := impl_On_ev (s := s) (a := a ++ (-1) :: List.replicate d (-1)) (x : Int) (by simp; omega) (by omega)
          rw [on_free s a (x : Int) d (by omega)] at this
          exact this
        refine Tl.step ?_
        simp only [impl_FirstFit.l1, rd_mid]
        refine Tl.iteT (by omega) (Tl.iteT (by omega) (Tl.iteT (by simp; omega) (Tl.step ?_)))
        simp only [impl_FirstFit.j3, rd_tk, Option.bind_some, List.length_singleton]
        refine Tl.iteT (by decide) (Tl.bind hon (Tl.iteT (by omega) (Tl.iteT (by omega) (Tl.iteT (by omega) ?_))))
        rw [tk_one, ← onN_app s a (x : Int)]
        refine Tl.bind (impl_feasible_ev hok) ?_
        rw [wrap_id (n := (x : Int) + 1) (by omega) (by omega)]
        rw [show ff1 s a (m + 1) x = if fitsAt s a x = true then some x else ff1 s a m (x + 1) from rfl] at he
        by_cases hf : fitsAt s a x = true
        · rw [if_pos hf] at he
          refine Tl.iteT hf (Tl.iteT (by simp; omega) ?_)
          simp only [Int.toNat_natCast]
          rw [set_at]
          have hfin := fin x ((x : Int) + 1) he
          refine Tl.step ?_
          simp only [impl_FirstFit.l1, rd_mid]
          by_cases hc : (x : Int) + 1 < c
          · refine Tl.iteT hc (Tl.iteT (by omega) (Tl.iteT (by simp; omega) ?_))
            rw [decide_eq_false (show ¬((x : Int) < 0) by omega)]
            exact hfin
          · exact Tl.iteF hc hfin
        · rw [if_neg hf] at he
          refine Tl.iteF hf ?_
          rw [show (x : Int) + 1 = ((x + 1 : Nat) : Int) by omega]
          exact ih (x + 1) (by omega) he
    exact key _ 0 (by omega) rfl
def firstF (s : List Task) (c : Int) : List Int × Bool := if okSet s = true ∧ 1 ≤ c ∧ c ≤ 5 then resS (ffN s c s.length []) else ([], false)
theorem spec_FirstFit_ev (s : List Task) (c : Int) (hs : s.length ≤ 1048576) (_ : wfI c) : Tl (fun k => spec_FirstFit.f k s c) (firstF s c) := by
  unfold spec_FirstFit.f firstF
  have hj : Tl (fun k => spec_FirstFit.j0 k s c true) ([], false) := by
    refine Tl.step ?_
    simp only [spec_FirstFit.j0]
    exact Tl.iteT trivial (Tl.ret _)
  refine Tl.bind (spec_SetValid_ev s hs) ?_
  by_cases h : okSet s = true
  · refine Tl.iteT h (Tl.bind (Tl.of_eq fun _ => spec_l1In_f _ _ _) ?_)
    by_cases hc : 1 ≤ c ∧ c ≤ 5
    · rw [if_pos ⟨h, hc⟩, decide_eq_true hc]
      refine Tl.step ?_
      simp only [spec_FirstFit.j0]
      exact Tl.iteF (by simp) (spec_ff_ev h hc.1 hc.2 s.length [] (by simp))
    · rw [if_neg (fun g => hc g.2), decide_eq_false hc]
      exact hj
  · rw [if_neg (fun g => h g.1)]
    exact Tl.iteF h hj
theorem impl_FirstFit_ev (s : List Task) (c : Int) (hs : s.length ≤ 1048576) (_ : wfI c) : Tl (fun k => impl_FirstFit.f k s c) (firstF s c) := by
  unfold impl_FirstFit.f firstF
  have hj : Tl (fun k => impl_FirstFit.j0 k s c true) ([], false) := by
    refine Tl.step ?_
    simp only [impl_FirstFit.j0]
    exact Tl.iteT trivial (Tl.ret _)
  refine Tl.bind (impl_SetValid_ev s hs) ?_
  by_cases h : okSet s = true
  · have hn5 := okSet_len h
    have hcor : Tl (fun _ => impl_isCores.f c) (decide (1 ≤ c ∧ c ≤ 5)) := Tl.of_eq fun _ => by unfold impl_isCores.f; rw [impl_in_f]; rfl
    refine Tl.iteT h (Tl.bind hcor ?_)
    by_cases hc : 1 ≤ c ∧ c ≤ 5
    · rw [if_pos ⟨h, hc⟩, decide_eq_true hc]
      refine Tl.step ?_
      simp only [impl_FirstFit.j0]
      exact Tl.iteF (by simp) (Tl.bind (impl_none_ev s.length (by omega)) (impl_ff_ev h hc.1 hc.2 s.length [] (by simp)))
    · rw [if_neg (fun g => hc g.2), decide_eq_false hc]
      exact hj
  · rw [if_neg (fun g => h g.1)]
    exact Tl.iteF h hj
theorem firstF_len (s : List Task) (c : Int) : (firstF s c).1.length ≤ 5 := by
  unfold firstF
  split
  · rename_i h
    have hn5 := okSet_len h.1
    cases hr : ffN s c s.length [] with
    | some r => have := ff_len _ _ _ hr; show r.length ≤ 5; simp at this; omega
    | none => show ([] : List Int).length ≤ 5; simp
  · simp
end Go.Proofs.Ytfciajbahgjflaa.Print

namespace Go.Proofs.Ytfciajbahgjflaa.Print
open Go.RowKit Go.Proofs.YtfciajbahgjflaaW.PrintWords Go.Proofs.YtfciajbahgjflaaW.PrintMore Go.Proofs.Ytfciajbahgjflaa.Evs Go.Proofs.Ytfciajbahgjflaa.Opens
set_option linter.unusedSimpArgs false
set_option linter.unusedVariables false
/-- The first processor, from x on, m of them tried. -/
def firstS (f : Nat → Option (List Int)) : Nat → Nat → Option (List Int)
  | 0, _ => none
  | m + 1, x => match f x with
    | some r => some r
    | none => firstS f m (x + 1)
theorem firstS_some {f : Nat → Option (List Int)} {m x : Nat} {r : List Int} (h : f x = some r) : firstS f (m + 1) x = some r := by show (match f x with | some r => some r | none => _) = _; rw [h]
theorem firstS_none {f : Nat → Option (List Int)} {m x : Nat} (h : f x = none) : firstS f (m + 1) x = firstS f m (x + 1) := by show (match f x with | some r => some r | none => _) = _; rw [h]
/-- How many processors are in use. -/
def top (a : List Int) : Int := a.foldl (fun t x => mx t (x + 1)) 0
theorem top_app (a : List Int) (x : Int) : top (a ++ [x]) = mx (top a) (x + 1) := by unfold top; rw [List.foldl_append]; rfl
def tries (c : Int) (a : List Int) : Nat := (mn c (top a + 1)).toNat
theorem tries_mn {c : Int} {a : List Int} (h0 : 0 ≤ top a) (hc : 1 ≤ c) : mn c (top a + 1) = ((tries c a : Nat) : Int) := by
  have : 0 ≤ mn c (top a + 1) := by unfold mn; split <;> omega
  unfold tries
  omega
def srchN (s : List Task) (c : Int) : Nat → List Int → Option (List Int)
  | 0, a => some a
  | d + 1, a => firstS (fun x => if feas (onN s (a ++ [(x : Int)]) (x : Int) (a.length + 1)) = true then srchN s c d (a ++ [(x : Int)]) else none) (tries c a) 0
def stepS (s : List Task) (c : Int) (d : Nat) (a : List Int) (x : Nat) : Option (List Int) := if feas (onN s (a ++ [(x : Int)]) (x : Int) (a.length + 1)) = true then srchN s c d (a ++ [(x : Int)]) else none
theorem srchN_succ (s : List Task) (c : Int) (d : Nat) (a : List Int) : srchN s c (d + 1) a = firstS (stepS s c d a) (tries c a) 0 := rfl
/-- The first tasks have processors below c. -/
structure Asg (s : List Task) (c : Int) (a : List Int) (d : Nat) : Prop where
  ok : okSet s = true
  c1 : 1 ≤ c
  c5 : c ≤ 5
  len : a.length + d = s.length
  lo : ∀ j, j < a.length → 0 ≤ a.getD j 0
  top0 : 0 ≤ top a
  topc : top a ≤ c
theorem Asg.app {s : List Task} {c : Int} {a : List Int} {d : Nat} (h : Asg s c a (d + 1)) {x : Nat} (hx : x < tries c a) : Asg s c (a ++ [(x : Int)]) d := by
  have h1 := h.top0
  have h2 := h.topc
  have h3 := h.len
  have h4 := h.c1
  have hx' : (x : Int) < c ∧ (x : Int) < top a + 1 := by unfold tries mn at hx; split at hx <;> omega
  refine ⟨h.ok, h.c1, h.c5, by rw [List.length_append, List.length_singleton]; omega, fun j hj => ?_, ?_, ?_⟩
  · rw [List.length_append, List.length_singleton] at hj
    by_cases hc : j = a.length
    · subst hc; rw [getD_last]; omega
    · rw [getD_left _ _ (by omega)]; exact h.lo j (by omega)
  · rw [top_app]; unfold mx; split <;> omega
  · rw [top_app]; unfold mx; split <;> omega
theorem onN_rep (s : List Task) (a : List Int) (x : Int) (d : Nat) (hx : 0 ≤ x) : onN s (a ++ [x] ++ List.replicate d (-1)) x (a ++ [x] ++ List.replicate d (-1)).length = onN s (a ++ [x]) x (a.length + 1) := by
  have hl : (a ++ [x] ++ List.replicate d (-1)).length = a.length + 1 + d := by simp; omega
  rw [hl, onN_skip s _ x (a.length + 1) d (fun j h1 h2 => ?_)]
  · refine onN_congr s _ _ x _ (fun j hj => getD_left _ _ (by simp; omega))
  · have e : (a ++ [x] ++ List.replicate d (-1)).getD j 0 = -1 := by
      rw [List.getD_eq_getElem?_getD, List.getElem?_append_right (by simp; omega), List.getElem?_replicate, if_pos (by simp; omega)]
      rfl
    rw [e]; omega
theorem spec_search_ev {s : List Task} {c : Int} : ∀ (d : Nat) (a : List Int), Asg s c a d → Tl (fun k => spec_l7Search.f k s c a) (resS (srchN s c d a))
  | 0, a, h => by
    have h1 := h.len
    refine Tl.step ?_
    simp only [spec_l7Search.f]
    exact Tl.iteT (by omega) (Tl.ret _)
  | d + 1, a, h => by
    have h1 := h.len
    have hn5 := okSet_len h.ok
    have hc1 := h.c1
    have hc5 := h.c5
    have ht0 := h.top0
    have htc := h.topc
    refine Tl.step ?_
    simp only [spec_l7Search.f]
    refine Tl.iteF (by omega) ?_
    have loop : Tl (fun k => spec_l7Search.l1 k s c a (a.length : Int) (top a) 0) (resS (srchN s c (d + 1) a)) := by
      rw [srchN_succ]
      have key : ∀ (m x : Nat), x + m = tries c a → Tl (fun k => spec_l7Search.l1 k s c a (a.length : Int) (top a) (x : Int)) (resS (firstS (stepS s c d a) m x)) := by
        intro m
        induction m with
        | zero =>
          intro x hx
          refine Tl.step ?_
          simp only [spec_l7Search.l1]
          rw [wrap_id (n := top a + 1) (by omega) (by omega)]
          have hM := tries_mn ht0 hc1
          exact Tl.iteF (by omega) (Tl.ret _)
        | succ m ih =>
          intro x hx
          have hxt : x < tries c a := by omega
          have hA := h.app hxt
          have hok : okSet (onN s (a ++ [(x : Int)]) (x : Int) (a.length + 1)) = true := onN_ok h.ok _ _ (by omega)
          have hlt : (x : Int) < mn c (top a + 1) := by unfold tries at hxt; omega
          have hx4 : (x : Int) ≤ 4 := by have hq := hlt; unfold mn at hq; split at hq <;> omega
          have hlen := onN_len s a (x : Int) a.length
          refine Tl.step ?_
          simp only [spec_l7Search.l1, rd_tk, Option.bind_some, List.length_singleton]
          rw [wrap_id (n := top a + 1) (by omega) (by omega)]
          refine Tl.iteT hlt (Tl.bind (spec_On_ev _ (by omega) (by omega)) (Tl.iteT (by omega) (Tl.iteT (by omega) (Tl.iteT (by omega) ?_))))
          have e : onN s a (x : Int) a.length ++ [(⟨(tk s a.length).f0, (tk s a.length).f1, (tk s a.length).f2⟩ : Task)] = onN s (a ++ [(x : Int)]) (x : Int) (a.length + 1) := (onN_app s a (x : Int)).symm
          rw [e]
          refine Tl.bind (spec_edf_ev hok) ?_
          by_cases hf : feas (onN s (a ++ [(x : Int)]) (x : Int) (a.length + 1)) = true
          · have hs : stepS s c d a x = srchN s c d (a ++ [(x : Int)]) := if_pos hf
            refine Tl.iteT hf (Tl.iteT (by simp; omega) (Tl.iteT (by simp; omega) ?_))
            simp only [List.nil_append]
            refine Tl.bind (spec_search_ev d _ hA) ?_
            cases hr : srchN s c d (a ++ [(x : Int)]) with
            | some r =>
              rw [firstS_some (hs.trans hr)]
              exact Tl.iteT rfl (Tl.ret _)
            | none =>
              rw [firstS_none (hs.trans hr)]
              refine Tl.iteF (by simp [resS]) ?_
              rw [wrap_id (n := (x : Int) + 1) (by omega) (by omega)]
              exact ih (x + 1) (by omega)
          · have hs : stepS s c d a x = none := if_neg hf
            rw [firstS_none hs]
            refine Tl.iteF hf ?_
            rw [wrap_id (n := (x : Int) + 1) (by omega) (by omega)]
            exact ih (x + 1) (by omega)
      exact key _ 0 (by omega)
    have e0 : top (a.take 0) = 0 := rfl
    have key2 := down (Q := fun j => Tl (fun k => spec_l7Search.l0 k s c a (a.length : Int) (top (a.take j)) (j : Int)) (resS (srchN s c (d + 1) a))) a.length ?_ ?_
    · exact key2
    · refine Tl.step ?_
      simp only [spec_l7Search.l0]
      rw [List.take_length]
      exact Tl.iteF (by omega) loop
    · intro j hj hh
      have hlo := h.lo j hj
      have htk : a.take (j + 1) = a.take j ++ [a.getD j 0] := by
        rw [List.take_succ_eq_append_getElem hj, List.getD_eq_getElem?_getD, List.getElem?_eq_getElem hj]; rfl
      have hup : a.getD j 0 ≤ 4 := by
        have mono : ∀ (l : List Int) (t : Int), t ≤ l.foldl (fun t x => mx t (x + 1)) t := by
          intro l
          induction l with
          | nil => intro t; exact Int.le_refl _
          | cons y l ih =>
            intro t
            have h3 := ih (mx t (y + 1))
            have h4 : t ≤ mx t (y + 1) := by unfold mx; split <;> omega
            exact Int.le_trans h4 h3
        have h5 : top (a.take (j + 1)) ≤ top a := by
          have e : top a = (a.drop (j + 1)).foldl (fun t x => mx t (x + 1)) (top (a.take (j + 1))) := by
            unfold top; rw [← List.foldl_append, List.take_append_drop]
          rw [e]; exact mono _ _
        rw [htk, top_app] at h5
        have h6 : a.getD j 0 + 1 ≤ mx (top (a.take j)) (a.getD j 0 + 1) := by unfold mx; split <;> omega
        omega
      rw [htk, top_app] at hh
      refine Tl.step ?_
      simp only [spec_l7Search.l0, rd_o]
      rw [wrap_succ hj (by omega), wrap_id (n := a.getD j 0 + 1) (by omega) (by omega)]
      exact Tl.iteT (by omega) (Tl.iteT (by omega) (Tl.iteT (by omega) hh))
/-- The program's answer. -/
def resI (a : List Int) (d : Nat) (o : Option (List Int)) : Bool × List Int := match o with
  | some r => (true, r)
  | none => (false, a ++ List.replicate d (-1))
theorem impl_search_ev {s : List Task} {c : Int} : ∀ (d : Nat) (a : List Int), Asg s c a d → Tl (fun k => impl_search.f k s c (a ++ List.replicate d (-1)) (a.length : Int) (top a)) (resI a d (srchN s c d a))
  | 0, a, h => by
    have h1 := h.len
    refine Tl.step ?_
    simp only [impl_search.f, List.replicate_zero, List.append_nil]
    exact Tl.iteT (by omega) (Tl.ret _)
  | d + 1, a, h => by
    have h1 := h.len
    have hn5 := okSet_len h.ok
    have hc1 := h.c1
    have hc5 := h.c5
    have ht0 := h.top0
    have htc := h.topc
    refine Tl.step ?_
    simp only [impl_search.f]
    rw [wrap_id (n := top a + 1) (by omega) (by omega)]
    refine Tl.iteF (by omega) ?_
    rw [srchN_succ, List.replicate_succ]
    have hM := tries_mn ht0 hc1
    rw [hM]
    have key : ∀ (m x : Nat) (z : Int), x + m = tries c a → Tl (fun k => impl_search.l0 k s c (a ++ z :: List.replicate d (-1)) (a.length : Int) (top a) ((tries c a : Nat) : Int) (x : Int)) (resI a (d + 1) (firstS (stepS s c d a) m x)) := by
      intro m
      induction m with
      | zero =>
        intro x z hx
        refine Tl.step ?_
        simp only [impl_search.l0, Int.toNat_natCast]
        refine Tl.iteF (by omega) (Tl.iteT (by omega) (Tl.iteT (by simp; omega) ?_))
        rw [set_at]
        exact Tl.ret _
      | succ m ih =>
        intro x z hx
        have hxt : x < tries c a := by omega
        have hA := h.app hxt
        have hok : okSet (onN s (a ++ [(x : Int)]) (x : Int) (a.length + 1)) = true := onN_ok h.ok _ _ (by omega)
        have hlt : (x : Int) < mn c (top a + 1) := by omega
        have hx4 : (x : Int) ≤ 4 := by unfold mn at hlt; split at hlt <;> omega
        refine Tl.step ?_
        simp only [impl_search.l0, Int.toNat_natCast, Option.bind_some]
        rw [set_at, wrap_id (n := (x : Int) + 1) (by omega) (by omega), wrap_id (n := (a.length : Int) + 1) (by omega) (by omega), app_cons a (x : Int)]
        have hon : Tl (fun _ => impl_onCore.f s (a ++ [(x : Int)] ++ List.replicate d (-1)) (x : Int)) (onN s (a ++ [(x : Int)]) (x : Int) (a.length + 1)) := by
          have := impl_On_ev (s := s) (a := a ++ [(x : Int)] ++ List.replicate d (-1)) (x : Int) (by simp; omega) (by omega)
          rw [onN_rep s a (x : Int) d (by omega)] at this
          exact this
        refine Tl.iteT (by omega) (Tl.iteT (by omega) (Tl.iteT (by simp; omega) (Tl.bind hon (Tl.bind (impl_feasible_ev hok) ?_))))
        by_cases hf : feas (onN s (a ++ [(x : Int)]) (x : Int) (a.length + 1)) = true
        · have hs : stepS s c d a x = srchN s c d (a ++ [(x : Int)]) := if_pos hf
          have hrec := impl_search_ev d _ hA
          rw [top_app, List.length_append, List.length_singleton, show ((a.length + 1 : Nat) : Int) = (a.length : Int) + 1 by omega] at hrec
          refine Tl.iteT hf (Tl.bind hrec ?_)
          cases hr : srchN s c d (a ++ [(x : Int)]) with
          | some r =>
            rw [firstS_some (hs.trans hr)]
            exact Tl.iteT rfl (Tl.ret _)
          | none =>
            rw [firstS_none (hs.trans hr)]
            refine Tl.iteF (by simp [resI]) ?_
            show Tl (fun k => impl_search.l0 k s c (a ++ [(x : Int)] ++ List.replicate d (-1)) _ _ _ _) _
            rw [← app_cons, show (x : Int) + 1 = ((x + 1 : Nat) : Int) by omega]
            exact ih (x + 1) _ (by omega)
        · have hs : stepS s c d a x = none := if_neg hf
          rw [firstS_none hs]
          refine Tl.iteF hf ?_
          rw [← app_cons, show (x : Int) + 1 = ((x + 1 : Nat) : Int) by omega]
          exact ih (x + 1) _ (by omega)
    exact key _ 0 (-1) (by omega)
end Go.Proofs.Ytfciajbahgjflaa.Print

namespace Go.Proofs.Ytfciajbahgjflaa.Print
open Go.RowKit Go.Proofs.YtfciajbahgjflaaW.PrintWords Go.Proofs.YtfciajbahgjflaaW.PrintMore Go.Proofs.Ytfciajbahgjflaa.Evs Go.Proofs.Ytfciajbahgjflaa.Opens
set_option linter.unusedSimpArgs false
set_option linter.unusedVariables false
theorem asg0 {s : List Task} {c : Int} (h : okSet s = true) (hc : 1 ≤ c ∧ c ≤ 5) : Asg s c [] s.length := ⟨h, hc.1, hc.2, by simp, fun j hj => by simp at hj, by decide, by show (0 : Int) ≤ c; omega⟩
theorem srch_len {s : List Task} {c : Int} : ∀ (d : Nat) (a r : List Int), srchN s c d a = some r → r.length = a.length + d
  | 0, a, r, h => by injection h with h; rw [h]; rfl
  | d + 1, a, r, h => by
    rw [srchN_succ] at h
    have key : ∀ (m x : Nat), firstS (stepS s c d a) m x = some r → r.length = a.length + (d + 1) := by
      intro m
      induction m with
      | zero => intro x hx; cases hx
      | succ m ih =>
        intro x hx
        cases hs : stepS s c d a x with
        | some q =>
          rw [firstS_some hs] at hx
          injection hx with hx
          subst hx
          unfold stepS at hs
          split at hs
          · have := srch_len d _ _ hs
            rw [List.length_append, List.length_singleton] at this
            omega
          · cases hs
        | none => rw [firstS_none hs] at hx; exact ih _ hx
    exact key _ _ h
def part (s : List Task) (c : Int) : List Int × Bool := if okSet s = true ∧ 1 ≤ c ∧ c ≤ 5 then resS (srchN s c s.length []) else ([], false)
theorem spec_Partition_ev (s : List Task) (c : Int) (hs : s.length ≤ 1048576) (_ : wfI c) : Tl (fun k => spec_Partition.f k s c) (part s c) := by
  unfold spec_Partition.f part
  refine Tl.bind (spec_SetValid_ev s hs) ?_
  by_cases h : okSet s = true
  · refine Tl.iteT h (Tl.bind (Tl.of_eq fun _ => spec_l1In_f _ _ _) ?_)
    by_cases hc : 1 ≤ c ∧ c ≤ 5
    · rw [if_pos ⟨h, hc⟩]
      exact Tl.iteT (decide_eq_true hc) (Tl.bind (spec_search_ev s.length [] (asg0 h hc)) (Tl.ret _))
    · rw [if_neg (fun g => hc g.2)]
      exact Tl.iteF (by rw [decide_eq_true_eq]; exact hc) (Tl.ret _)
  · rw [if_neg (fun g => h g.1)]
    exact Tl.iteF h (Tl.ret _)
theorem impl_Partition_ev (s : List Task) (c : Int) (hs : s.length ≤ 1048576) (_ : wfI c) : Tl (fun k => impl_Partition.f k s c) (part s c) := by
  unfold impl_Partition.f part
  have hj : Tl (fun k => impl_Partition.j0 k s c true) ([], false) := by
    refine Tl.step ?_
    simp only [impl_Partition.j0]
    exact Tl.iteT trivial (Tl.ret _)
  refine Tl.bind (impl_SetValid_ev s hs) ?_
  by_cases h : okSet s = true
  · have hn5 := okSet_len h
    have hcor : Tl (fun _ => impl_isCores.f c) (decide (1 ≤ c ∧ c ≤ 5)) := Tl.of_eq fun _ => by unfold impl_isCores.f; rw [impl_in_f]; rfl
    refine Tl.iteT h (Tl.bind hcor ?_)
    by_cases hc : 1 ≤ c ∧ c ≤ 5
    · rw [if_pos ⟨h, hc⟩, decide_eq_true hc]
      refine Tl.step ?_
      simp only [impl_Partition.j0]
      have hA := impl_search_ev s.length [] (asg0 h hc)
      refine Tl.iteF (by simp) (Tl.bind (impl_none_ev s.length (by omega)) (Tl.bind hA ?_))
      cases hr : srchN s c s.length [] with
      | some r => exact Tl.iteT rfl (Tl.ret _)
      | none => exact Tl.iteF (by simp [resI]) (Tl.ret _)
    · rw [if_neg (fun g => hc g.2), decide_eq_false hc]
      exact hj
  · rw [if_neg (fun g => h g.1)]
    exact Tl.iteF h hj
theorem part_len (s : List Task) (c : Int) : (part s c).1.length ≤ 5 := by
  unfold part
  split
  · rename_i h
    have hn5 := okSet_len h.1
    cases hr : srchN s c s.length [] with
    | some r => have := srch_len _ _ _ hr; show r.length ≤ 5; simp at this; omega
    | none => show ([] : List Int).length ≤ 5; simp
  · simp
end Go.Proofs.Ytfciajbahgjflaa.Print

namespace Go.Proofs.Ytfciajbahgjflaa.Print
open Go.RowKit Go.Proofs.YtfciajbahgjflaaW.PrintWords Go.Proofs.YtfciajbahgjflaaW.PrintMore Go.Proofs.Ytfciajbahgjflaa.Evs Go.Proofs.Ytfciajbahgjflaa.Opens
set_option linter.unusedSimpArgs false
set_option linter.unusedVariables false
/-- The first number of processors from c on, n of them tried. -/
def minC (s : List Task) : Nat → Int → Int
  | 0, _ => 5
  | n + 1, c => if (part s c).2 = true then c else minC s n (c + 1)
theorem spec_minC_ev {s : List Task} (h : okSet s = true) : ∀ (n : Nat) (c : Int), 1 ≤ c → c + n = 5 → Tl (fun k => spec_MinCores.l0 k s c) (minC s n c)
  | 0, c, h1, h2 => by
    refine Tl.step ?_
    simp only [spec_MinCores.l0]
    exact Tl.iteF (by omega) (Tl.ret _)
  | n + 1, c, h1, h2 => by
    refine Tl.step ?_
    simp only [spec_MinCores.l0]
    refine Tl.iteT (by omega) (Tl.bind (spec_search_ev s.length [] (asg0 h (c := c) ⟨h1, by omega⟩)) ?_)
    have e : part s c = resS (srchN s c s.length []) := if_pos ⟨h, h1, by omega⟩
    unfold minC
    rw [e]
    by_cases hb : (resS (srchN s c s.length [])).2 = true
    · rw [if_pos hb]; exact Tl.iteT hb (Tl.ret _)
    · rw [if_neg hb]
      refine Tl.iteF hb ?_
      rw [wrap_id (n := c + 1) (by omega) (by omega)]
      exact spec_minC_ev h n (c + 1) (by omega) (by omega)
theorem impl_minC_ev {s : List Task} (h : okSet s = true) : ∀ (n : Nat) (c : Int), 1 ≤ c → c + n = 5 → Tl (fun k => impl_MinCores.l0 k s c) (minC s n c)
  | 0, c, h1, h2 => by
    refine Tl.step ?_
    simp only [impl_MinCores.l0]
    exact Tl.iteF (by omega) (Tl.ret _)
  | n + 1, c, h1, h2 => by
    have hn5 := okSet_len h
    refine Tl.step ?_
    simp only [impl_MinCores.l0]
    refine Tl.iteT (by omega) (Tl.bind (impl_Partition_ev s c (by omega) (by unfold wfI; omega)) ?_)
    unfold minC
    by_cases hb : (part s c).2 = true
    · rw [if_pos hb]; exact Tl.iteT hb (Tl.ret _)
    · rw [if_neg hb]
      refine Tl.iteF hb ?_
      rw [wrap_id (n := c + 1) (by omega) (by omega)]
      exact impl_minC_ev h n (c + 1) (by omega) (by omega)
def MinCores_D (s : List Task) : Int := if okSet s = true then minC s 4 1 else 0
theorem spec_MinCores_ev (s : List Task) (hs : s.length ≤ 1048576) : Tl (fun k => spec_MinCores.f k s) (MinCores_D s) := by
  unfold spec_MinCores.f MinCores_D
  refine Tl.bind (spec_SetValid_ev s hs) ?_
  by_cases h : okSet s = true
  · rw [if_pos h]; exact Tl.iteT h (spec_minC_ev h 4 1 (by omega) (by omega))
  · rw [if_neg h]; exact Tl.iteF h (Tl.ret _)
theorem impl_MinCores_ev (s : List Task) (hs : s.length ≤ 1048576) : Tl (fun k => impl_MinCores.f k s) (MinCores_D s) := by
  unfold impl_MinCores.f MinCores_D
  refine Tl.bind (impl_SetValid_ev s hs) ?_
  by_cases h : okSet s = true
  · rw [if_pos h]; exact Tl.iteT h (impl_minC_ev h 4 1 (by omega) (by omega))
  · rw [if_neg h]; exact Tl.iteF h (Tl.ret _)
end Go.Proofs.Ytfciajbahgjflaa.Print

namespace Go.Proofs.Ytfciajbahgjflaa.Print
open Go.RowKit Go.Proofs.YtfciajbahgjflaaW.PrintWords Go.Proofs.Ytfciajbahgjflaa.Evs Go.Proofs.Ytfciajbahgjflaa.Opens
set_option linter.unusedSimpArgs false
set_option linter.unusedVariables false
theorem sameI_ev (l : List Int) (hl : l.length ≤ 1000000) : Tl (fun k => laws_sameInts.f k l l) true := by
  unfold laws_sameInts.f
  refine Tl.iteT rfl ?_
  refine down (Q := fun j => Tl (fun k => laws_sameInts.l0 k l l (j : Int)) true) l.length ?_ ?_
  · refine Tl.step ?_
    simp only [laws_sameInts.l0]
    exact Tl.iteF (by omega) (Tl.ret _)
  · intro j hj hh
    refine Tl.step ?_
    simp only [laws_sameInts.l0]
    rw [wrap_succ hj (by omega)]
    exact Tl.iteT (by omega) (Tl.iteT (by omega) (Tl.iteT (by omega) (Tl.iteT trivial hh)))
def lose4 : List Task := [⟨4, 10, 10⟩, ⟨5, 10, 10⟩, ⟨6, 10, 10⟩, ⟨5, 10, 10⟩]
theorem lose_two : firstF lose4 2 = ([], false) := by decide +kernel
theorem lose_three : firstF lose4 3 = ([0, 0, 1, 2], true) := by decide +kernel
theorem lose_best : part lose4 2 = ([0, 1, 0, 1], true) := by decide +kernel
theorem lose_min : MinCores_D lose4 = 2 := by decide +kernel
theorem FnFirstFitLoses_pure : PureFnFirstFitLoses := by
  intro x0 w0
  apply Tl.once
  unfold laws_FnFirstFitLoses.f
  by_cases g0 : (x0.length : Int) > 1048576
  · exact Tl.iteT g0 (Tl.ret _)
  refine Tl.iteF g0 ?_
  have h2 := impl_FirstFit_ev lose4 2 (by decide) (by unfold wfI; omega)
  have h3 := impl_FirstFit_ev lose4 3 (by decide) (by unfold wfI; omega)
  have hp := impl_Partition_ev lose4 2 (by decide) (by unfold wfI; omega)
  have hm := impl_MinCores_ev lose4 (by decide)
  rw [lose_two] at h2
  rw [lose_three] at h3
  rw [lose_best] at hp
  rw [lose_min] at hm
  have fin : Tl (fun k => laws_FnFirstFitLoses.l0 k lose4 [4, 5, 6, 5] 4) true := by
    refine Tl.step ?_
    simp only [laws_FnFirstFitLoses.l0]
    refine Tl.iteF (by decide) (Tl.bind h2 (Tl.bind h3 (Tl.bind hp ?_)))
    refine Tl.iteF (by decide) (Tl.iteT rfl (Tl.iteT rfl (Tl.bind hm (Tl.iteT rfl ?_))))
    exact Tl.bind (sameI_ev _ (by decide)) (Tl.iteT rfl (Tl.bind (sameI_ev _ (by decide)) (Tl.ret _)))
  have w1 : wrap64 (0 + 1) = 1 := by decide +kernel
  have w2 : wrap64 (1 + 1) = 2 := by decide +kernel
  have w3 : wrap64 (2 + 1) = 3 := by decide +kernel
  have w4 : wrap64 (3 + 1) = 4 := by decide +kernel
  refine Tl.step ?_
  simp only [laws_FnFirstFitLoses.l0]
  rw [w1]
  refine Tl.iteT (by decide) (Tl.iteT (by decide) (Tl.iteT (by decide) ?_))
  refine Tl.step ?_
  simp only [laws_FnFirstFitLoses.l0]
  rw [w2]
  refine Tl.iteT (by decide) (Tl.iteT (by decide) (Tl.iteT (by decide) ?_))
  refine Tl.step ?_
  simp only [laws_FnFirstFitLoses.l0]
  rw [w3]
  refine Tl.iteT (by decide) (Tl.iteT (by decide) (Tl.iteT (by decide) ?_))
  refine Tl.step ?_
  simp only [laws_FnFirstFitLoses.l0]
  rw [w4]
  refine Tl.iteT (by decide) (Tl.iteT (by decide) (Tl.iteT (by decide) ?_))
  exact fin
end Go.Proofs.Ytfciajbahgjflaa.Print
