/- What the program and the reference compute, and that both agree. No condition. -/
import Derived.Test.YtfciajbahgjflaaPO
import Derived.Test.YtfciajbahgjflaaZFnExactIdleSlotsP2
import Derived.RowKit
import Derived.WalkKit
import Derived.Test.YtfciajbahgjflaaZFnExactIdleSlotsP1
import Derived.Test.YtfciajbahgjflaaZFnExactIdleSlotsP0
namespace Go.Proofs.Ytfciajbahgjflaa.Print
open Go.RowKit Go.Proofs.YtfciajbahgjflaaW.PrintWords Go.Proofs.YtfciajbahgjflaaW.PrintLast Go.Proofs.YtfciajbahgjflaaW.PrintMore
attribute [local go_sem] max2_int min2_int max_two min_two max_three min_three max_four min_four   -- for this text's walks alone
set_option linter.unusedVariables false
set_option linter.unusedSimpArgs false

open Go.Proofs.Ytfciajbahgjflaa.Opens
/-- The pure statement of FnExactIdleSlots. -/
def PureFnExactIdleSlots : Prop := ∀ (x0 : List (S89)) (x1 : List Int), (wfL wf89) x0 → (wfL wfI) x1 → ∃ k, laws_FnExactIdleSlots.f k x0 x1 = some true
end Go.Proofs.Ytfciajbahgjflaa.Print

namespace Go.Proofs.Ytfciajbahgjflaa.Evs
open Go.RowKit
set_option linter.unusedSimpArgs false
set_option linter.unusedVariables false

/-- From some number of rounds on, g tells r. -/
def Tl {α : Type} (g : Nat → Option α) (r : α) : Prop := ∃ k0, ∀ k, k0 ≤ k → g k = some r

theorem Tl.ret {α : Type} (r : α) : Tl (fun _ => some r) r := ⟨0, fun _ _ => rfl⟩
theorem Tl.of_eq {α : Type} {g : Nat → Option α} {r : α} (h : ∀ k, g k = some r) : Tl g r := ⟨0, fun k _ => h k⟩
theorem Tl.step {α : Type} {g : Nat → Option α} {r : α} (h : Tl (fun k => g (k + 1)) r) : Tl g r := by
  obtain ⟨k0, hk⟩ := h
  refine ⟨k0 + 1, fun k hle => ?_⟩
  obtain ⟨m, rfl⟩ : ∃ m, k = m + 1 := ⟨k - 1, by omega⟩
  exact hk m (by omega)
theorem Tl.bind {α β : Type} {g : Nat → Option α} {a : α} {f : α → Nat → Option β} {r : β} (h : Tl g a) (h2 : Tl (f a) r) : Tl (fun k => (g k).bind fun x => f x k) r := by
  obtain ⟨k0, hk⟩ := h
  obtain ⟨k1, hk1⟩ := h2
  refine ⟨max k0 k1, fun k hle => ?_⟩
  show (g k).bind (fun x => f x k) = some r
  rw [hk k (by omega), Option.bind_some]
  exact hk1 k (by omega)
theorem Tl.once {α : Type} {g : Nat → Option α} {r : α} (h : Tl g r) : ∃ k, g k = some r := by
  obtain ⟨k0, hk⟩ := h
  exact ⟨k0, hk k0 (Nat.le_refl _)⟩
theorem Tl.cast {α : Type} {g : Nat → Option α} {r r' : α} (h : Tl g r) (e : r = r') : Tl g r' := e ▸ h
theorem Tl.iteT {α : Type} {c : Prop} [Decidable c] {g g' : Nat → Option α} {r : α} (hc : c) (h : Tl g r) : Tl (fun k => if c then g k else g' k) r := by simpa only [if_pos hc] using h
theorem Tl.iteF {α : Type} {c : Prop} [Decidable c] {g g' : Nat → Option α} {r : α} (hc : ¬ c) (h : Tl g' r) : Tl (fun k => if c then g k else g' k) r := by simpa only [if_neg hc] using h

/-- Downwards. -/
theorem down {Q : Nat → Prop} (n : Nat) (he : Q n) (hs : ∀ j, j < n → Q (j + 1) → Q j) : Q 0 := by
  induction n with
  | zero => exact he
  | succ n ih => exact ih (hs n (by omega) he) (fun j hj => hs j (by omega))
theorem downFrom {Q : Nat → Prop} {m n : Nat} (hm : m ≤ n) (he : Q n) (hs : ∀ j, m ≤ j → j < n → Q (j + 1) → Q j) : Q m := by
  obtain ⟨d, rfl⟩ : ∃ d, n = m + d := ⟨n - m, by omega⟩
  induction d with
  | zero => exact he
  | succ d ih => exact ih (by omega) (hs (m + d) (by omega) (by omega) he) (fun j h1 h2 => hs j h1 (by omega))

/-- A loop that asks something of each index, and stops at the first 'no'. -/
theorem Tl.all {F : Nat → Int → Option Bool} {n : Nat} {P : Nat → Bool} {fin : Bool}
    (ht : ∀ j, j < n → P j = true → ∀ r, Tl (fun k => F k ((j + 1 : Nat) : Int)) r → Tl (fun k => F k (j : Int)) r)
    (hf : ∀ j, j < n → P j = false → Tl (fun k => F k (j : Int)) false) (he : Tl (fun k => F k (n : Int)) fin) :
    Tl (fun k => F k 0) ((List.range n).all P && fin) := by
  by_cases hall : ∀ j, j < n → P j = true
  · have h1 : ((List.range n).all P) = true := by simpa using hall
    rw [h1, Bool.true_and]
    exact down (Q := fun j => Tl (fun k => F k (j : Int)) fin) n he (fun j hj h => ht j hj (hall j hj) _ h)
  · have h1 : ((List.range n).all P) = false := by simpa using hall
    rw [h1, Bool.false_and]
    clear h1
    have key : ∀ m, m ≤ n → (∃ j, j < m ∧ P j = false) → Tl (fun k => F k 0) false := by
      intro m
      induction m with
      | zero => rintro _ ⟨j, hj, _⟩; omega
      | succ m ih =>
        rintro hm ⟨j, hj, hp⟩
        by_cases hlow : ∃ j, j < m ∧ P j = false
        · exact ih (by omega) hlow
        · have hjm : j = m := by
            rcases Nat.lt_or_ge j m with h | h
            · exact absurd ⟨j, h, hp⟩ hlow
            · omega
          subst hjm
          refine down (Q := fun j => Tl (fun k => F k (j : Int)) false) j (hf j (by omega) hp) (fun i hi h => ht i (by omega) ?_ _ h)
          cases hpi : P i
          · exact absurd ⟨i, hi, hpi⟩ hlow
          · rfl
    refine key n (Nat.le_refl _) ?_
    apply Classical.byContradiction
    intro hno
    refine hall (fun j hj => ?_)
    cases hp : P j
    · exact absurd ⟨j, hj, hp⟩ hno
    · rfl

theorem wrap_id {n : Int} (h1 : -9223372036854775808 ≤ n) (h2 : n ≤ 9223372036854775807) : wrap64 n = n := by unfold wrap64; omega
theorem wrap_succ {j n : Nat} (h : j < n) (hn : n ≤ 9223372036854775807) : wrap64 ((j : Int) + 1) = ((j + 1 : Nat) : Int) := by unfold wrap64; omega
theorem wrap_pred {j n : Nat} (h : j < n) (h0 : 0 < j) (hn : n ≤ 9223372036854775807) : wrap64 ((j : Int) - 1) = ((j - 1 : Nat) : Int) := by unfold wrap64; omega
end Go.Proofs.Ytfciajbahgjflaa.Evs

namespace Go.Proofs.Ytfciajbahgjflaa.Evs
theorem fill_zero {α : Type} (xs : List α) (z : α) : xs.take 0 ++ List.replicate (xs.length - 0) z = List.replicate xs.length z := by simp
theorem fill_set {α : Type} (xs : List α) (z : α) {j : Nat} (hj : j < xs.length) (x : α) (hx : x = xs.getD j z) :
    (xs.take j ++ List.replicate (xs.length - j) z).set j x = xs.take (j + 1) ++ List.replicate (xs.length - (j + 1)) z := by
  have h1 : (xs.take j).length = j := by simp; omega
  rw [List.set_append_right _ _ (by omega), h1, Nat.sub_self]
  obtain ⟨m, hm⟩ : ∃ m, xs.length - j = m + 1 := ⟨xs.length - j - 1, by omega⟩
  rw [hm, List.replicate_succ, List.set_cons_zero, List.take_succ_eq_append_getElem hj, List.append_assoc, hx]
  have h2 : xs.length - (j + 1) = m := by omega
  rw [h2]
  simp [List.getD_eq_getElem?_getD, hj]
theorem fill_len {α : Type} (xs : List α) (z : α) {j : Nat} (hj : j ≤ xs.length) : (xs.take j ++ List.replicate (xs.length - j) z).length = xs.length := by simp; omega
theorem fill_end {α : Type} (xs : List α) (z : α) : xs.take xs.length ++ List.replicate (xs.length - xs.length) z = xs := by simp
theorem getD_map {α β : Type} (f : α → β) (l : List α) (j : Nat) (z : α) (z' : β) (hj : j < l.length) : (l.map f).getD j z' = f (l.getD j z) := by simp [List.getD_eq_getElem?_getD, hj]
theorem all_range {α : Type} (l : List α) (z : α) (p : α → Bool) : (List.range l.length).all (fun j => p (l.getD j z)) = l.all p := by
  rw [Bool.eq_iff_iff, List.all_eq_true, List.all_eq_true]
  constructor
  · intro h x hx
    obtain ⟨i, hi, rfl⟩ := List.getElem_of_mem hx
    have := h i (by simpa using hi)
    simpa [List.getD_eq_getElem?_getD, hi] using this
  · intro h j hj
    have hj' : j < l.length := by simpa using hj
    have := h l[j] (List.getElem_mem hj')
    simpa [List.getD_eq_getElem?_getD, hj'] using this
end Go.Proofs.Ytfciajbahgjflaa.Evs

namespace Go.Proofs.Ytfciajbahgjflaa.Print
open Go.RowKit Go.Proofs.YtfciajbahgjflaaW.PrintWords Go.Proofs.Ytfciajbahgjflaa.Evs Go.Proofs.Ytfciajbahgjflaa.Opens
set_option linter.unusedSimpArgs false
abbrev LTask := S89
abbrev Task := S43
def cvTask (x : LTask) : Task := ⟨x.f0, x.f1, x.f2⟩
theorem toTaskS_ev (l : List LTask) (hl : l.length ≤ 1048576) : Tl (fun k => laws_toTaskS.f k l) (l.map cvTask) := by
  unfold laws_toTaskS.f
  have c1 := eq_true (show 0 ≤ (l.length : Int) by omega)
  have c2 := eq_true (show l.length ≤ 11728124029610 by omega)
  simp only [c1, c2, if_true, Int.toNat_natCast]
  have hlen : (l.map cvTask).length = l.length := by simp
  have key := down (Q := fun j => Tl (fun k => laws_toTaskS.l0 k l ((l.map cvTask).take j ++ List.replicate ((l.map cvTask).length - j) z43) (j : Int)) (l.map cvTask)) l.length ?_ ?_
  · rw [fill_zero, hlen] at key; exact key
  · refine Tl.step ?_
    have c3 := eq_false (show ¬ ((l.length : Int) < (l.length : Int)) by omega)
    rw [← hlen, fill_end]
    simp only [hlen]
    simp only [laws_toTaskS.l0, c3, if_false]
    exact Tl.ret _
  · intro j hj h
    refine Tl.step ?_
    have c3 := eq_true (show (j : Int) < (l.length : Int) by omega)
    have c4 := eq_true (show 0 ≤ (j : Int) by omega)
    have c5 := eq_true (show (j : Int) < (((l.map cvTask).take j ++ List.replicate ((l.map cvTask).length - j) z43).length : Int) by rw [fill_len _ _ (by omega)]; omega)
    simp only [laws_toTaskS.l0, c3, c4, c5, if_true, laws_toTask.f, Option.bind_some, Int.toNat_natCast]
    rw [fill_set _ _ (by omega) _ (by rw [getD_map cvTask l j z89 _ hj]; rfl), wrap_succ hj (by omega)]
    exact h
theorem eqTask_self (x : Task) : laws_eqTask.f x.f0 x.f1 x.f2 x.f0 x.f1 x.f2 = some true := by simp [laws_eqTask.f]
theorem eqTaskS_ev (l : List Task) (hl : l.length ≤ 1048576) : Tl (fun k => laws_eqTaskS.f k l l) true := by
  unfold laws_eqTaskS.f
  simp only [if_true]
  refine down (Q := fun j => Tl (fun k => laws_eqTaskS.l0 k l l (j : Int)) true) l.length ?_ ?_
  · refine Tl.step ?_
    have c3 := eq_false (show ¬ ((l.length : Int) < (l.length : Int)) by omega)
    simp only [laws_eqTaskS.l0, c3, if_false]
    exact Tl.ret _
  · intro j hj h
    refine Tl.step ?_
    have c3 := eq_true (show (j : Int) < (l.length : Int) by omega)
    have c4 := eq_true (show 0 ≤ (j : Int) by omega)
    simp only [laws_eqTaskS.l0, c3, c4, if_true, eqTask_self, Option.bind_some]
    rw [wrap_succ hj (by omega)]
    exact h
theorem szTaskS_f (l : List LTask) (a : Int) (h0 : 0 ≤ a) (h1 : a ≤ 1048576) (hl : l.length ≤ 9223372036854775807) : laws_szTaskS.f l a = some (if a < l.length then -1 else a - l.length) := by
  unfold laws_szTaskS.f
  rw [wrap_id (by omega) (by omega)]
  by_cases h : a < l.length
  · rw [if_pos (by omega), if_pos h]
  · rw [if_neg (by omega), if_neg h]
end Go.Proofs.Ytfciajbahgjflaa.Print

namespace Go.Proofs.Ytfciajbahgjflaa.Print
open Go.RowKit Go.Proofs.YtfciajbahgjflaaW.PrintWords Go.Proofs.Ytfciajbahgjflaa.Evs Go.Proofs.Ytfciajbahgjflaa.Opens
set_option linter.unusedSimpArgs false
set_option linter.unusedVariables false
theorem spec_l1In_f (a b c : Int) : spec_l1In.f a b c = some (decide (b ≤ a ∧ a ≤ c)) := by
  unfold spec_l1In.f
  by_cases h : a ≥ b
  · have h' : b ≤ a := h
    simp [h, h']
  · have h' : ¬ b ≤ a := h
    simp [h, h']
theorem spec_TaskValid_f (x : Task) : spec_TaskValid.f x.f0 x.f1 x.f2 = some (okTask x) := by
  unfold spec_TaskValid.f okTask
  simp only [spec_l1In_f, Option.bind_some, decide_eq_true_eq]
  split
  · split
    · congr 1; rw [Bool.eq_iff_iff]; simp only [decide_eq_true_eq, Bool.false_eq_true, false_iff]; omega
    · congr 1; rw [Bool.eq_iff_iff]; simp only [decide_eq_true_eq, Bool.false_eq_true, false_iff]; omega
  · congr 1; rw [Bool.eq_iff_iff]; simp only [decide_eq_true_eq, Bool.false_eq_true, false_iff]; omega
/-- A valid set. -/
def okSet (l : List Task) : Bool := decide (l.length ≤ 5) && l.all okTask
theorem impl_SetValid_f (l : List Task) : impl_SetValid.f l = some (okSet l) := rfl
theorem impl_SetValid_ev (l : List Task) (_ : l.length ≤ 1048576) : Tl (fun _ => impl_SetValid.f l) (okSet l) := Tl.of_eq fun _ => impl_SetValid_f l
theorem spec_SetValid_ev (l : List Task) (hl : l.length ≤ 1048576) : Tl (fun k => spec_SetValid.f k l) (okSet l) := by
  have key := Tl.all (F := fun k i => spec_SetValid.l0 k l i) (n := l.length) (P := fun j => okTask (l.getD j z43)) (fin := decide (l.length ≤ 5)) ?_ ?_ ?_
  · rw [all_range] at key
    unfold okSet
    rw [Bool.and_comm]
    exact key
  · intro j hj hp r h
    refine Tl.step ?_
    have c3 := eq_true (show (j : Int) < (l.length : Int) by omega)
    have c4 := eq_true (show 0 ≤ (j : Int) by omega)
    have c5 : spec_TaskValid.f (rd_T43 l (j : Int)).f0 (rd_T43 l (j : Int)).f1 (rd_T43 l (j : Int)).f2 = some true := by rw [spec_TaskValid_f]; exact congrArg some hp
    simp only [spec_SetValid.l0, c3, c4, c5, if_true, Option.bind_some]
    rw [wrap_succ hj (by omega)]
    exact h
  · intro j hj hp
    refine Tl.step ?_
    have c3 := eq_true (show (j : Int) < (l.length : Int) by omega)
    have c4 := eq_true (show 0 ≤ (j : Int) by omega)
    have c5 : spec_TaskValid.f (rd_T43 l (j : Int)).f0 (rd_T43 l (j : Int)).f1 (rd_T43 l (j : Int)).f2 = some false := by rw [spec_TaskValid_f]; exact congrArg some hp
    simp only [spec_SetValid.l0, c3, c4, c5, if_true, Option.bind_some, Bool.false_eq_true, if_false]
    exact Tl.ret _
  · refine Tl.step ?_
    have c3 := eq_false (show ¬ ((l.length : Int) < (l.length : Int)) by omega)
    simp only [spec_SetValid.l0, c3, if_false]
    have : decide ((l.length : Int) ≤ 5) = decide (l.length ≤ 5) := by rw [decide_eq_decide]; omega
    rw [this]
    exact Tl.ret _
end Go.Proofs.Ytfciajbahgjflaa.Print

namespace Go.Proofs.Ytfciajbahgjflaa.Print
open Go.RowKit Go.Proofs.YtfciajbahgjflaaW.PrintWords Go.Proofs.Ytfciajbahgjflaa.Evs Go.Proofs.Ytfciajbahgjflaa.Opens
set_option linter.unusedSimpArgs false
set_option linter.unusedVariables false
theorem tmod_pos {a b : Int} (ha : 0 ≤ a) (_hb : 0 < b) : Int.tmod a b = a % b := Int.tmod_eq_emod_of_nonneg ha
theorem tdiv_pos {a b : Int} (ha : 0 ≤ a) : Int.tdiv a b = a / b := Int.tdiv_eq_ediv_of_nonneg ha
/-- Task j of a list. -/
def tk (l : List Task) (j : Nat) : Task := l.getD j z43
theorem rd_tk (l : List Task) (j : Nat) : rd_T43 l (j : Int) = tk l j := rfl
theorem okSet_len {l : List Task} (h : okSet l = true) : l.length ≤ 5 := by unfold okSet at h; simp at h; exact h.1
theorem okSet_tk {l : List Task} (h : okSet l = true) {j : Nat} (hj : j < l.length) : 1 ≤ (tk l j).f0 ∧ (tk l j).f0 ≤ 8 ∧ (tk l j).f0 ≤ (tk l j).f1 ∧ (tk l j).f1 ≤ (tk l j).f2 ∧ (tk l j).f2 ≤ 12 := by
  unfold okSet at h
  rw [Bool.and_eq_true, List.all_eq_true] at h
  have h1 : tk l j ∈ l := by unfold tk; simp [List.getD_eq_getElem?_getD, hj]
  have := h.2 _ h1
  unfold okTask at this
  exact of_decide_eq_true this
end Go.Proofs.Ytfciajbahgjflaa.Print

namespace Go.Proofs.Ytfciajbahgjflaa.Print
open Go.RowKit Go.Proofs.YtfciajbahgjflaaW.PrintWords Go.Proofs.Ytfciajbahgjflaa.Evs Go.Proofs.Ytfciajbahgjflaa.Opens
set_option linter.unusedSimpArgs false
set_option linter.unusedVariables false
theorem gcd_step {a b : Int} (ha : 0 ≤ a) (hb : 0 ≤ b) : Int.gcd a b = Int.gcd b (a % b) := by
  obtain ⟨n, rfl⟩ := Int.eq_ofNat_of_zero_le ha
  obtain ⟨m, rfl⟩ := Int.eq_ofNat_of_zero_le hb
  rw [← Int.natCast_emod, Int.gcd_natCast_natCast, Int.gcd_natCast_natCast, Nat.gcd_comm n m, Nat.gcd_rec m n, Nat.gcd_comm]
theorem impl_gcd_ev (a b : Int) (ha : 0 ≤ a) (hb : 0 ≤ b) : Tl (fun k => impl_gcd.f k a b) (Int.gcd a b) := by
  unfold impl_gcd.f
  obtain ⟨n, hn⟩ : ∃ n : Nat, b.toNat = n := ⟨_, rfl⟩
  induction n using Nat.strongRecOn generalizing a b with
  | _ n ih =>
    refine Tl.step ?_
    simp only [impl_gcd.l0]
    by_cases h : b = 0
    · subst h
      refine Tl.iteT rfl ?_
      rw [Int.gcd_zero_right, Int.natAbs_of_nonneg ha]
      exact Tl.ret _
    · refine Tl.iteF h ?_
      rw [tmod_pos ha (by omega)]
      have hm := Int.emod_lt_of_pos a (show 0 < b by omega)
      have hm0 := Int.emod_nonneg a h
      have := ih (a % b).toNat (by omega) b (a % b) hb hm0 rfl
      rw [gcd_step ha hb]
      exact this
theorem spec_l1Gcd_ev (a b : Int) (ha : 0 ≤ a) (hb : 0 ≤ b) : Tl (fun k => spec_l1Gcd.f k a b) (Int.gcd a b) := by
  unfold spec_l1Gcd.f
  obtain ⟨n, hn⟩ : ∃ n : Nat, b.toNat = n := ⟨_, rfl⟩
  induction n using Nat.strongRecOn generalizing a b with
  | _ n ih =>
    refine Tl.step ?_
    simp only [spec_l1Gcd.l0]
    by_cases h : b = 0
    · subst h
      refine Tl.iteF (by omega) ?_
      rw [Int.gcd_zero_right, Int.natAbs_of_nonneg ha]
      exact Tl.ret _
    · refine Tl.iteT (by omega) ?_
      refine Tl.iteF h ?_
      rw [tmod_pos ha (by omega)]
      have hm := Int.emod_lt_of_pos a (show 0 < b by omega)
      have hm0 := Int.emod_nonneg a h
      have := ih (a % b).toNat (by omega) b (a % b) hb hm0 rfl
      rw [gcd_step ha hb]
      exact this
/-- The least common multiple of the first j periods. -/
def hypN (l : List Task) : Nat → Int
  | 0 => 1
  | j + 1 => hypN l j / (Int.gcd (hypN l j) (tk l j).f2 : Int) * (tk l j).f2
def hyp (l : List Task) : Int := hypN l l.length
theorem small_dvd {p : Int} (h0 : 1 ≤ p) (h1 : p ≤ 12) : p ∣ 27720 := by
  have : p = 1 ∨ p = 2 ∨ p = 3 ∨ p = 4 ∨ p = 5 ∨ p = 6 ∨ p = 7 ∨ p = 8 ∨ p = 9 ∨ p = 10 ∨ p = 11 ∨ p = 12 := by omega
  rcases this with rfl | rfl | rfl | rfl | rfl | rfl | rfl | rfl | rfl | rfl | rfl | rfl <;> decide
theorem lcm_dvd {a p m : Int} (ha : a ∣ m) (hp : p ∣ m) (h0 : 0 < a) (hp0 : 0 < p) : a / (Int.gcd a p : Int) * p ∣ m := by
  have hg : ((Int.gcd a p : Nat) : Int) ∣ a := Int.gcd_dvd_left _ _
  have e : a / (Int.gcd a p : Int) * p = (Int.lcm a p : Int) := by
    have h1 : (Int.gcd a p * Int.lcm a p : Nat) = (a * p).natAbs := by rw [Int.gcd_mul_lcm, Int.natAbs_mul]
    have h2 : ((Int.gcd a p : Nat) : Int) * ((Int.lcm a p : Nat) : Int) = a * p := by
      rw [← Int.natCast_mul, h1, Int.natAbs_of_nonneg (Int.mul_nonneg (show 0 ≤ a by omega) (show 0 ≤ p by omega))]
    have hg0 : 0 < ((Int.gcd a p : Nat) : Int) := by
      have := Int.gcd_pos_of_ne_zero_left p (show a ≠ 0 by omega)
      omega
    obtain ⟨c, hc⟩ := hg
    have h3 : a / ((Int.gcd a p : Nat) : Int) = c := Int.ediv_eq_of_eq_mul_right (by omega) hc
    rw [h3]
    have h4 : ((Int.gcd a p : Nat) : Int) * ((Int.lcm a p : Nat) : Int) = ((Int.gcd a p : Nat) : Int) * (c * p) := by rw [h2, ← Int.mul_assoc, ← hc]
    exact (Int.eq_of_mul_eq_mul_left (by omega) h4).symm
  rw [e]
  exact Int.coe_lcm_dvd ha hp
theorem hypN_ok {l : List Task} (h : okSet l = true) : ∀ j, j ≤ l.length → 1 ≤ hypN l j ∧ hypN l j ∣ 27720
  | 0, _ => by unfold hypN; exact ⟨by omega, ⟨27720, by omega⟩⟩
  | j + 1, hj => by
    obtain ⟨h1, h2⟩ := hypN_ok h j (by omega)
    have ht := okSet_tk h (show j < l.length by omega)
    unfold hypN
    refine ⟨?_, lcm_dvd h2 (small_dvd (by omega) (by omega)) (by omega) (by omega)⟩
    have hg : ((Int.gcd (hypN l j) (tk l j).f2 : Nat) : Int) ∣ hypN l j := Int.gcd_dvd_left _ _
    have hg0 : 0 < ((Int.gcd (hypN l j) (tk l j).f2 : Nat) : Int) := by
      have := Int.gcd_pos_of_ne_zero_left (tk l j).f2 (show hypN l j ≠ 0 by omega)
      omega
    have hd : 1 ≤ hypN l j / ((Int.gcd (hypN l j) (tk l j).f2 : Nat) : Int) := by
      have := Int.le_of_dvd (by omega) hg
      exact Int.le_ediv_of_mul_le hg0 (by omega)
    calc (1 : Int) ≤ 1 * 1 := by omega
      _ ≤ _ := Int.mul_le_mul hd (by omega) (by omega) (by omega)
theorem hypN_le {l : List Task} (h : okSet l = true) {j : Nat} (hj : j ≤ l.length) : 1 ≤ hypN l j ∧ hypN l j ≤ 27720 := by
  obtain ⟨h1, h2⟩ := hypN_ok h j hj
  exact ⟨h1, Int.le_of_dvd (by omega) h2⟩
theorem gcd_pos' {a p : Int} (h : 1 ≤ a) : 1 ≤ ((Int.gcd a p : Nat) : Int) := by
  have := Int.gcd_pos_of_ne_zero_left p (show a ≠ 0 by omega)
  omega
theorem hypN_step {l : List Task} (h : okSet l = true) {j : Nat} (hj : j < l.length) :
    wrap64 (wrap64 (Int.tdiv (hypN l j) (Int.gcd (hypN l j) (tk l j).f2 : Int)) * (tk l j).f2) = hypN l (j + 1) := by
  obtain ⟨h1, h2⟩ := hypN_le h (show j ≤ l.length by omega)
  obtain ⟨h3, h4⟩ := hypN_le h (show j + 1 ≤ l.length by omega)
  have hg := gcd_pos' (p := (tk l j).f2) h1
  rw [tdiv_pos (by omega)]
  have h5 : 0 ≤ hypN l j / (Int.gcd (hypN l j) (tk l j).f2 : Int) := Int.ediv_nonneg (by omega) (by omega)
  have h6 : hypN l j / (Int.gcd (hypN l j) (tk l j).f2 : Int) ≤ hypN l j := Int.ediv_le_self _ (by omega)
  rw [wrap_id (n := hypN l j / _) (by omega) (by omega)]
  exact wrap_id (by show _ ≤ hypN l (j + 1); omega) (by show hypN l (j + 1) ≤ _; omega)
theorem spec_hyper_ev {l : List Task} (h : okSet l = true) : Tl (fun k => spec_l1Hyper.f k l) (hyp l) := by
  unfold spec_l1Hyper.f
  have hl := okSet_len h
  refine down (Q := fun j => Tl (fun k => spec_l1Hyper.l0 k l (hypN l j) (j : Int)) (hyp l)) l.length ?_ ?_
  · refine Tl.step ?_
    simp only [spec_l1Hyper.l0]
    refine Tl.iteF (by omega) ?_
    exact Tl.ret _
  · intro j hj hh
    obtain ⟨h1, h2⟩ := hypN_le h (show j ≤ l.length by omega)
    have ht := okSet_tk h hj
    refine Tl.step ?_
    simp only [spec_l1Hyper.l0, rd_tk]
    refine Tl.iteT (by omega) (Tl.iteT (by omega) (Tl.bind (spec_l1Gcd_ev _ _ (by omega) (by omega)) ?_))
    have hg := gcd_pos' (p := (tk l j).f2) h1
    refine Tl.iteF (by omega) ?_
    rw [hypN_step h hj, wrap_succ hj (by omega)]
    exact hh
theorem impl_lcm_ev {l : List Task} (h : okSet l = true) {j : Nat} (hj : j < l.length) : Tl (fun k => impl_lcm.f k (hypN l j) (tk l j).f2) (hypN l (j + 1)) := by
  obtain ⟨h1, h2⟩ := hypN_le h (show j ≤ l.length by omega)
  have ht := okSet_tk h hj
  unfold impl_lcm.f
  refine Tl.bind (impl_gcd_ev _ _ (by omega) (by omega)) ?_
  have hg := gcd_pos' (p := (tk l j).f2) h1
  refine Tl.iteF (by omega) ?_
  rw [hypN_step h hj]
  exact Tl.ret _
theorem impl_hyper_ev {l : List Task} (h : okSet l = true) : Tl (fun k => impl_hyper.f k l) (hyp l) := by
  unfold impl_hyper.f
  have hl := okSet_len h
  refine down (Q := fun j => Tl (fun k => impl_hyper.l0 k (hypN l j) l (l.length : Int) (j : Int)) (hyp l)) l.length ?_ ?_
  · refine Tl.step ?_
    simp only [impl_hyper.l0]
    refine Tl.iteF (by omega) ?_
    exact Tl.ret _
  · intro j hj hh
    refine Tl.step ?_
    simp only [impl_hyper.l0, rd_tk]
    refine Tl.iteT (by omega) (Tl.iteT (by omega) (Tl.iteT (by omega) (Tl.bind (impl_lcm_ev h hj) ?_)))
    rw [wrap_succ hj (by omega)]
    exact hh
theorem hyp_le {l : List Task} (h : okSet l = true) : 1 ≤ hyp l ∧ hyp l ≤ 27720 := hypN_le h (Nat.le_refl _)
theorem hypN_dvd {l : List Task} (h : okSet l = true) : ∀ m, m ≤ l.length → ∀ j, j < m → (tk l j).f2 ∣ hypN l m
  | 0, _, j, hj => by omega
  | m + 1, hm, j, hj => by
    have h1 := (hypN_le h (show m ≤ l.length by omega)).1
    have ht := okSet_tk h (show m < l.length by omega)
    have e : hypN l (m + 1) = (Int.lcm (hypN l m) (tk l m).f2 : Int) := by
      apply Int.dvd_antisymm (by have := (hypN_le h hm).1; omega) (by omega)
      · exact lcm_dvd (Int.dvd_lcm_left _ _) (Int.dvd_lcm_right _ _) (by omega) (by omega)
      · apply Int.coe_lcm_dvd
        · obtain ⟨c, hc⟩ : ((Int.gcd (hypN l m) (tk l m).f2 : Nat) : Int) ∣ (tk l m).f2 := Int.gcd_dvd_right _ _
          obtain ⟨d, hd⟩ : ((Int.gcd (hypN l m) (tk l m).f2 : Nat) : Int) ∣ hypN l m := Int.gcd_dvd_left _ _
          have hg := gcd_pos' (p := (tk l m).f2) h1
          have h3 : hypN l m / ((Int.gcd (hypN l m) (tk l m).f2 : Nat) : Int) = d := Int.ediv_eq_of_eq_mul_right (by omega) hd
          refine ⟨c, ?_⟩
          show hypN l m / ((Int.gcd (hypN l m) (tk l m).f2 : Nat) : Int) * (tk l m).f2 = _
          rw [h3]
          generalize ((Int.gcd (hypN l m) (tk l m).f2 : Nat) : Int) = g at hc hd
          rw [hc, hd, Int.mul_left_comm, Int.mul_assoc]
        · exact ⟨hypN l m / ((Int.gcd (hypN l m) (tk l m).f2 : Nat) : Int), Int.mul_comm _ _⟩
    rw [e]
    rcases Nat.lt_or_ge j m with hlt | hge
    · exact Int.dvd_trans (hypN_dvd h m (by omega) j hlt) (Int.dvd_lcm_left _ _)
    · obtain rfl : j = m := by omega
      exact Int.dvd_lcm_right _ _
end Go.Proofs.Ytfciajbahgjflaa.Print

namespace Go.Proofs.Ytfciajbahgjflaa.Evs
/-- As Tl.all; the end is reached only if all say yes. -/
theorem Tl.all' {F : Nat → Int → Option Bool} {n : Nat} {P : Nat → Bool} {fin : Bool}
    (ht : ∀ j, j < n → P j = true → ∀ r, Tl (fun k => F k ((j + 1 : Nat) : Int)) r → Tl (fun k => F k (j : Int)) r)
    (hf : ∀ j, j < n → P j = false → Tl (fun k => F k (j : Int)) false) (he : (∀ j, j < n → P j = true) → Tl (fun k => F k (n : Int)) fin) :
    Tl (fun k => F k 0) ((List.range n).all P && fin) := by
  by_cases hall : ∀ j, j < n → P j = true
  · exact Tl.all ht hf (he hall)
  · have h1 : ((List.range n).all P) = false := by simpa using hall
    rw [h1, Bool.false_and]
    have h0 : ∃ j, j < n ∧ P j = false := by
      apply Classical.byContradiction
      intro hno
      refine hall (fun j hj => ?_)
      cases hp : P j
      · exact absurd ⟨j, hj, hp⟩ hno
      · rfl
    obtain ⟨j0, hj0, hp0⟩ := h0
    have h2 : ∃ m, m < n ∧ P m = false ∧ ∀ i, i < m → P i = true := by
      induction j0 using Nat.strongRecOn with
      | _ j0 ih =>
        by_cases hlow : ∃ i, i < j0 ∧ P i = false
        · obtain ⟨i, hi, hpi⟩ := hlow
          exact ih i hi (by omega) hpi
        · refine ⟨j0, hj0, hp0, fun i hi => ?_⟩
          cases hq : P i
          · exact absurd ⟨i, hi, hq⟩ hlow
          · rfl
    obtain ⟨m, hm, hpm, hlow⟩ := h2
    exact down (Q := fun j => Tl (fun k => F k (j : Int)) false) m (hf m hm hpm) (fun j hj h => ht j (by omega) (hlow j hj) _ h)
end Go.Proofs.Ytfciajbahgjflaa.Evs

namespace Go.Proofs.Ytfciajbahgjflaa.Print
open Go.RowKit Go.Proofs.YtfciajbahgjflaaW.PrintWords Go.Proofs.Ytfciajbahgjflaa.Evs Go.Proofs.Ytfciajbahgjflaa.Opens
set_option linter.unusedSimpArgs false
set_option linter.unusedVariables false
/-- How often v stands among the n entries from place a on. -/
def cntN (t : List Int) (v : Int) (a : Nat) : Nat → Int
  | 0 => 0
  | n + 1 => cntN t v a n + (if t.getD (a + n) 0 = v then 1 else 0)
theorem cntN_le (t : List Int) (v : Int) (a : Nat) : ∀ n, 0 ≤ cntN t v a n ∧ cntN t v a n ≤ n
  | 0 => by unfold cntN; omega
  | n + 1 => by have := cntN_le t v a n; unfold cntN; split <;> omega
theorem cntN_succ (t : List Int) (v : Int) (a n : Nat) : cntN t v a (n + 1) = cntN t v a n + (if t.getD (a + n) 0 = v then 1 else 0) := rfl
theorem rd_t (o : List Int) (j : Nat) : rd o (j : Int) = o.getD j 0 := rfl
theorem spec_Count_ev {t : List Int} {v : Int} {a n : Nat} (hl : t.length ≤ 1048576) (h : a + n ≤ t.length) : Tl (fun k => spec_l13Count.f k t v (a : Int) ((a + n : Nat) : Int)) (cntN t v a n) := by
  unfold spec_l13Count.f
  refine down (Q := fun j => Tl (fun k => spec_l13Count.l0 k t v ((a + n : Nat) : Int) (cntN t v a j) ((a + j : Nat) : Int)) (cntN t v a n)) n ?_ ?_
  · refine Tl.step ?_
    simp only [spec_l13Count.l0]
    exact Tl.iteF (by omega) (Tl.ret _)
  · intro j hj hh
    have hc := cntN_le t v a j
    rw [cntN_succ] at hh
    refine Tl.step ?_
    simp only [spec_l13Count.l0, rd_t]
    rw [wrap_succ (j := a + j) (n := t.length) (by omega) (by omega)]
    refine Tl.iteT (by omega) (Tl.iteT (by omega) (Tl.iteT (by omega) ?_))
    by_cases he : t.getD (a + j) 0 = v
    · rw [if_pos he] at hh
      rw [wrap_id (by omega) (by omega)]
      exact Tl.iteT he hh
    · rw [if_neg he, Int.add_zero] at hh
      exact Tl.iteF he hh
/-- The task's entries in the window from r on: c of them ahead of the deadline, none behind it. -/
def okRow (t : List Int) (v : Int) (r : Nat) (c : Int) (d p : Nat) : Bool := decide (cntN t v r d = c) && decide (cntN t v (r + d) (p - d) = 0)
def okRows (s : List Task) (t : List Int) (i : Nat) : Bool := (List.range (t.length / (tk s i).f2.toNat)).all (fun m => okRow t (i : Int) (m * (tk s i).f2.toNat) (tk s i).f0 (tk s i).f1.toNat (tk s i).f2.toNat)
structure TV (s : List Task) (t : List Int) : Prop where
  ok : okSet s = true
  len : (t.length : Int) = hyp s
  le : t.length ≤ 720
theorem TV.tk {s : List Task} {t : List Int} (h : TV s t) {i : Nat} (hi : i < s.length) : ∃ D P : Nat, (tk s i).f1 = (D : Int) ∧ (tk s i).f2 = (P : Int) ∧ 1 ≤ D ∧ D ≤ P ∧ P ≤ 12 ∧ t.length / P * P = t.length := by
  have h1 := okSet_tk h.ok hi
  refine ⟨(Print.tk s i).f1.toNat, (Print.tk s i).f2.toNat, by omega, by omega, by omega, by omega, by omega, ?_⟩
  have h2 := hypN_dvd h.ok s.length (Nat.le_refl _) i hi
  have h3 : (((Print.tk s i).f2.toNat : Nat) : Int) ∣ ((t.length : Nat) : Int) := by
    rw [h.len, show (((Print.tk s i).f2.toNat : Nat) : Int) = (Print.tk s i).f2 by omega]
    exact h2
  exact Nat.div_mul_cancel (Int.natCast_dvd_natCast.mp h3)
theorem row_in {m Q P L : Nat} (h : m < Q) (e : Q * P = L) : m * P + P ≤ L := by
  rw [← e, ← Nat.succ_mul]; exact Nat.mul_le_mul_right P h
theorem spec_task_ev {s : List Task} {t : List Int} (h : TV s t) {i : Nat} (hi : i < s.length) {r : Bool} (hh : okRows s t i = true → Tl (fun k => spec_TableValid.l1 k s t ((i + 1 : Nat) : Int)) r) :
    Tl (fun k => spec_TableValid.l1 k s t (i : Int)) (okRows s t i && r) := by
  obtain ⟨D, P, hD, hP, hD1, hDP, hP12, hQ⟩ := h.tk hi
  have hs5 := okSet_len h.ok
  have h720 := h.le
  unfold okRows at hh ⊢
  rw [hP, hD, Int.toNat_natCast, Int.toNat_natCast] at hh ⊢
  refine Tl.step ?_
  simp only [spec_TableValid.l1]
  refine Tl.iteT (by omega) ?_
  have key := Tl.all' (F := fun k z => spec_TableValid.l2 k s t (i : Int) (((z.toNat * P : Nat)) : Int)) (n := t.length / P) (P := fun m => okRow t (i : Int) (m * P) (Print.tk s i).f0 D P) (fin := r) ?_ ?_ ?_
  · have e : (((0 : Int).toNat * P : Nat) : Int) = 0 := by simp
    simp only [e] at key
    exact key
  · intro m hm hp v hv
    have hin := row_in hm hQ
    simp only [Int.toNat_natCast] at hv ⊢
    unfold okRow at hp
    rw [Bool.and_eq_true, decide_eq_true_eq, decide_eq_true_eq] at hp
    rw [Nat.succ_mul] at hv
    refine Tl.step ?_
    simp only [spec_TableValid.l2, rd_tk, hD, hP]
    rw [wrap_id (n := ((m * P : Nat) : Int) + (D : Int)) (by omega) (by omega), wrap_id (n := ((m * P : Nat) : Int) + (P : Int)) (by omega) (by omega), show ((m * P : Nat) : Int) + (D : Int) = ((m * P + D : Nat) : Int) by omega, show ((m * P : Nat) : Int) + (P : Int) = ((m * P + D + (P - D) : Nat) : Int) by omega]
    refine Tl.iteT (by omega) (Tl.iteT (by omega) (Tl.iteT (by omega) (Tl.bind (spec_Count_ev (by omega) (by omega)) (Tl.iteT hp.1 (Tl.bind (spec_Count_ev (by omega) (by omega)) (Tl.iteT hp.2 ?_))))))
    rw [show m * P + D + (P - D) = m * P + P by omega]
    exact hv
  · intro m hm hp
    have hin := row_in hm hQ
    simp only [Int.toNat_natCast]
    unfold okRow at hp
    refine Tl.step ?_
    simp only [spec_TableValid.l2, rd_tk, hD, hP]
    rw [wrap_id (n := ((m * P : Nat) : Int) + (D : Int)) (by omega) (by omega), wrap_id (n := ((m * P : Nat) : Int) + (P : Int)) (by omega) (by omega), show ((m * P : Nat) : Int) + (D : Int) = ((m * P + D : Nat) : Int) by omega, show ((m * P : Nat) : Int) + (P : Int) = ((m * P + D + (P - D) : Nat) : Int) by omega]
    refine Tl.iteT (by omega) (Tl.iteT (by omega) (Tl.iteT (by omega) (Tl.bind (spec_Count_ev (by omega) (by omega)) ?_)))
    by_cases h1 : cntN t (i : Int) (m * P) D = (Print.tk s i).f0
    · rw [decide_eq_true h1, Bool.true_and, decide_eq_false_iff_not] at hp
      exact Tl.iteT h1 (Tl.bind (spec_Count_ev (by omega) (by omega)) (Tl.iteF hp (Tl.ret _)))
    · exact Tl.iteF h1 (Tl.ret _)
  · intro hall
    have h2 : ((List.range (t.length / P)).all fun m => okRow t (i : Int) (m * P) (Print.tk s i).f0 D P) = true := by
      rw [List.all_eq_true]; intro m hm; exact hall m (by simpa using hm)
    simp only [Int.toNat_natCast]
    rw [hQ]
    refine Tl.step ?_
    simp only [spec_TableValid.l2]
    rw [wrap_succ hi (by omega)]
    exact Tl.iteF (by omega) (hh h2)
theorem slice_at (t : List Int) {r p k : Nat} (hk : k < p) : ((t.take (r + p)).drop r).getD k 0 = t.getD (r + k) 0 := by
  simp only [List.getD_eq_getElem?_getD, List.getElem?_drop, List.getElem?_take]
  rw [if_pos (by omega)]
theorem impl_row_ev {s : List Task} {t : List Int} (h : TV s t) {i : Nat} (hi : i < s.length) {D P R : Nat} (hDP : D ≤ P) (hP12 : P ≤ 12) (hin : R + P ≤ t.length) {v : Bool} {c : Int}
    (hv : Tl (fun k => if cntN t (i : Int) (R) D = c then (if cntN t (i : Int) (R + D) (P - D) = 0 then impl_TableValid.l2 k t (i : Int) (wrap64 (((R : Nat) : Int) + (P : Int))) s (s.length : Int) (i : Int) c (D : Int) (P : Int) else some false) else some false) v) :
    Tl (fun k => impl_TableValid.l3 k t (i : Int) ((R : Nat) : Int) 0 0 s (s.length : Int) (i : Int) ((t.take (R + P)).drop (R)) (((t.take (R + P)).drop (R)).length : Int) 0 c (D : Int) (P : Int)) v := by
  have h720 := h.le
  have hlen : ((t.take (R + P)).drop (R)).length = P := by simp; omega
  have hat : ∀ k, k < P → ((t.take (R + P)).drop (R)).getD k 0 = t.getD (R + k) 0 := fun k hk => slice_at t hk
  generalize (t.take (R + P)).drop (R) = T at hlen hat ⊢
  rw [hlen]
  have key := down (Q := fun j => Tl (fun k => impl_TableValid.l3 k t (i : Int) ((R : Nat) : Int) (cntN t (i : Int) (R) (min j D)) (cntN t (i : Int) (R + D) (j - D)) s (s.length : Int) (i : Int) T (P : Int) (j : Int) c (D : Int) (P : Int)) v) P ?_ ?_
  · have e1 : min 0 D = 0 := by omega
    have e2 : 0 - D = 0 := by omega
    simp only [e1, e2] at key
    exact key
  · rw [Nat.min_eq_right hDP]
    refine Tl.step ?_
    simp only [impl_TableValid.l3]
    exact Tl.iteF (by omega) hv
  · intro j hj hh
    have hc1 := cntN_le t (i : Int) (R) (min j D)
    have hc2 := cntN_le t (i : Int) (R + D) (j - D)
    refine Tl.step ?_
    simp only [impl_TableValid.l3, rd_t]
    simp only [hat j hj]
    refine Tl.iteT (by omega) (Tl.iteT (by omega) (Tl.iteT (by omega) ?_))
    by_cases he : t.getD (R + j) 0 = (i : Int)
    · refine Tl.iteT he (Tl.step ?_)
      simp only [impl_TableValid.j5]
      rw [wrap_succ hj (by omega)]
      by_cases hd : j < D
      · rw [show min (j + 1) D = min j D + 1 by omega, cntN_succ, show R + min j D = R + j by omega, if_pos he, show j + 1 - D = j - D by omega] at hh
        rw [wrap_id (n := cntN t (i : Int) (R) (min j D) + 1) (by omega) (by omega)]
        exact Tl.iteT (by rw [decide_eq_true_eq]; omega) hh
      · rw [show min (j + 1) D = min j D by omega, show j + 1 - D = (j - D) + 1 by omega, cntN_succ, show R + D + (j - D) = R + j by omega, if_pos he] at hh
        rw [wrap_id (n := cntN t (i : Int) (R + D) (j - D) + 1) (by omega) (by omega)]
        exact Tl.iteF (by rw [decide_eq_true_eq]; omega) (Tl.iteT he hh)
    · refine Tl.iteF he (Tl.step ?_)
      simp only [impl_TableValid.j5]
      rw [wrap_succ hj (by omega)]
      refine Tl.iteF (by simp) (Tl.iteF he ?_)
      by_cases hd : j < D
      · rw [show min (j + 1) D = min j D + 1 by omega, cntN_succ, show R + min j D = R + j by omega, if_neg he, Int.add_zero, show j + 1 - D = j - D by omega] at hh
        exact hh
      · rw [show min (j + 1) D = min j D by omega, show j + 1 - D = (j - D) + 1 by omega, cntN_succ, show R + D + (j - D) = R + j by omega, if_neg he, Int.add_zero] at hh
        exact hh
theorem impl_task_ev {s : List Task} {t : List Int} (h : TV s t) {i : Nat} (hi : i < s.length) {r : Bool} (hh : okRows s t i = true → Tl (fun k => impl_TableValid.l1 k t s (s.length : Int) ((i + 1 : Nat) : Int)) r) :
    Tl (fun k => impl_TableValid.l1 k t s (s.length : Int) (i : Int)) (okRows s t i && r) := by
  obtain ⟨D, P, hD, hP, hD1, hDP, hP12, hQ⟩ := h.tk hi
  have hs5 := okSet_len h.ok
  have h720 := h.le
  unfold okRows at hh ⊢
  rw [hP, hD, Int.toNat_natCast, Int.toNat_natCast] at hh ⊢
  refine Tl.step ?_
  simp only [impl_TableValid.l1, rd_tk, hD, hP]
  refine Tl.iteT (by omega) (Tl.iteT (by omega) (Tl.iteT (by omega) ?_))
  have key := Tl.all' (F := fun k z => impl_TableValid.l2 k t (i : Int) (((z.toNat * P : Nat)) : Int) s (s.length : Int) (i : Int) (Print.tk s i).f0 (D : Int) (P : Int)) (n := t.length / P) (P := fun m => okRow t (i : Int) (m * P) (Print.tk s i).f0 D P) (fin := r) ?_ ?_ ?_
  · have e : (((0 : Int).toNat * P : Nat) : Int) = 0 := by simp
    simp only [e] at key
    exact key
  · intro m hm hp v hv
    have hin := row_in hm hQ
    simp only [Int.toNat_natCast] at hv ⊢
    unfold okRow at hp
    rw [Bool.and_eq_true, decide_eq_true_eq, decide_eq_true_eq] at hp
    rw [Nat.succ_mul] at hv
    generalize m * P = R at hin hp hv ⊢
    refine Tl.step ?_
    simp only [impl_TableValid.l2, Int.toNat_natCast]
    have c1 : ((R : Nat) : Int) < (t.length : Int) := by omega
    have c2 : 0 ≤ ((R : Nat) : Int) := by omega
    have c3 : ((R : Nat) : Int) ≤ ((R + P : Nat) : Int) := by omega
    have c4 : ((R + P : Nat) : Int) ≤ (t.length : Int) := by omega
    have ew : wrap64 (((R : Nat) : Int) + (P : Int)) = ((R + P : Nat) : Int) := by rw [wrap_id (by omega) (by omega)]; omega
    have key2 := impl_row_ev h hi (D := D) (P := P) (R := R) (v := v) (c := (Print.tk s i).f0) hDP hP12 hin (Tl.iteT hp.1 (Tl.iteT hp.2 (by rw [ew]; exact hv)))
    refine Tl.iteT c1 (Tl.iteT c2 (Tl.iteT (by rw [ew]; exact c3) (Tl.iteT (by rw [ew]; exact c4) ?_)))
    rw [ew, Int.toNat_natCast]
    exact key2
  · intro m hm hp
    have hin := row_in hm hQ
    simp only [Int.toNat_natCast]
    unfold okRow at hp
    generalize m * P = R at hin hp ⊢
    refine Tl.step ?_
    simp only [impl_TableValid.l2, Int.toNat_natCast]
    have c1 : ((R : Nat) : Int) < (t.length : Int) := by omega
    have c2 : 0 ≤ ((R : Nat) : Int) := by omega
    have c3 : ((R : Nat) : Int) ≤ ((R + P : Nat) : Int) := by omega
    have c4 : ((R + P : Nat) : Int) ≤ (t.length : Int) := by omega
    have ew : wrap64 (((R : Nat) : Int) + (P : Int)) = ((R + P : Nat) : Int) := by rw [wrap_id (by omega) (by omega)]; omega
    refine Tl.iteT c1 (Tl.iteT c2 (Tl.iteT (by rw [ew]; exact c3) (Tl.iteT (by rw [ew]; exact c4) ?_)))
    rw [ew, Int.toNat_natCast]
    refine impl_row_ev h hi (D := D) (P := P) (R := R) hDP hP12 hin ?_
    by_cases h1 : cntN t (i : Int) R D = (Print.tk s i).f0
    · rw [decide_eq_true h1, Bool.true_and, decide_eq_false_iff_not] at hp
      exact Tl.iteT h1 (Tl.iteF hp (Tl.ret _))
    · exact Tl.iteF h1 (Tl.ret _)
  · intro hall
    have h2 : ((List.range (t.length / P)).all fun m => okRow t (i : Int) (m * P) (Print.tk s i).f0 D P) = true := by
      rw [List.all_eq_true]; intro m hm; exact hall m (by simpa using hm)
    simp only [Int.toNat_natCast]
    rw [hQ]
    refine Tl.step ?_
    simp only [impl_TableValid.l2]
    rw [wrap_succ hi (by omega)]
    exact Tl.iteF (by omega) (hh h2)
/-- A correct static schedule. -/
def okIn (s : List Task) (t : List Int) : Bool := (List.range t.length).all (fun j => decide (-1 ≤ t.getD j 0 ∧ t.getD j 0 ≤ (s.length : Int) - 1))
def okTable (s : List Task) (t : List Int) : Bool := if okSet s = true ∧ (t.length : Int) = hyp s ∧ t.length ≤ 720 then okIn s t && ((List.range s.length).all (okRows s t) && true) else false
theorem spec_TableValid_ev (s : List Task) (t : List Int) (hs : s.length ≤ 1048576) (ht : t.length ≤ 1048576) : Tl (fun k => spec_TableValid.f k s t) (okTable s t) := by
  unfold spec_TableValid.f okTable
  have hj : Tl (fun k => spec_TableValid.j0 k s t true) false := by
    refine Tl.step ?_
    simp only [spec_TableValid.j0]
    exact Tl.iteT trivial (Tl.ret _)
  refine Tl.bind (spec_SetValid_ev s hs) ?_
  by_cases h : okSet s = true
  · refine Tl.iteT h (Tl.bind (spec_hyper_ev h) ?_)
    by_cases h2 : (t.length : Int) = hyp s
    · refine Tl.iteT h2 ?_
      by_cases h3 : t.length ≤ 720
      · rw [if_pos ⟨h, h2, h3⟩]
        have hs5 := okSet_len h
        refine Tl.step ?_
        simp only [spec_TableValid.j0]
        refine Tl.iteF (by rw [decide_eq_true_eq]; omega) ?_
        refine Tl.all' (F := fun k i => spec_TableValid.l0 k s t i) (P := fun j => decide (-1 ≤ t.getD j 0 ∧ t.getD j 0 ≤ (s.length : Int) - 1)) ?_ ?_ ?_
        · intro j hj hp r hh
          refine Tl.step ?_
          simp only [spec_TableValid.l0, rd_t]
          rw [wrap_succ hj (by omega), wrap_id (n := (s.length : Int) - 1) (by omega) (by omega)]
          exact Tl.iteT (by omega) (Tl.iteT (by omega) (Tl.bind (Tl.of_eq fun _ => spec_l1In_f _ _ _) (Tl.iteT hp hh)))
        · intro j hj hp
          refine Tl.step ?_
          simp only [spec_TableValid.l0, rd_t]
          rw [wrap_id (n := (s.length : Int) - 1) (by omega) (by omega)]
          exact Tl.iteT (by omega) (Tl.iteT (by omega) (Tl.bind (Tl.of_eq fun _ => spec_l1In_f _ _ _) (Tl.iteF (by rw [hp]; simp) (Tl.ret _))))
        · intro _
          have hT : TV s t := ⟨h, h2, h3⟩
          refine Tl.step ?_
          simp only [spec_TableValid.l0]
          refine Tl.iteF (by omega) ?_
          refine Tl.all (F := fun k i => spec_TableValid.l1 k s t i) (P := okRows s t) ?_ ?_ ?_
          · intro i hi hp r hh
            have := spec_task_ev hT hi (fun _ => hh)
            rw [hp, Bool.true_and] at this
            exact this
          · intro i hi hp
            have := spec_task_ev hT hi (r := true) (fun g => by rw [hp] at g; cases g)
            rw [hp, Bool.false_and] at this
            exact this
          · refine Tl.step ?_
            simp only [spec_TableValid.l1]
            exact Tl.iteF (by omega) (Tl.ret _)
      · rw [if_neg (fun g => h3 g.2.2), decide_eq_true (show ((t.length : Int) > 720) by omega)]
        exact hj
    · rw [if_neg (fun g => h2 g.2.1)]
      exact Tl.iteF h2 hj
  · rw [if_neg (fun g => h g.1)]
    exact Tl.iteF h hj
theorem impl_TableValid_ev (s : List Task) (t : List Int) (hs : s.length ≤ 1048576) (ht : t.length ≤ 1048576) : Tl (fun k => impl_TableValid.f k s t) (okTable s t) := by
  unfold impl_TableValid.f okTable
  have hj : Tl (fun k => impl_TableValid.j0 k s t true) false := by
    refine Tl.step ?_
    simp only [impl_TableValid.j0]
    exact Tl.iteT trivial (Tl.ret _)
  refine Tl.bind (impl_SetValid_ev s hs) ?_
  by_cases h : okSet s = true
  · refine Tl.iteT h (Tl.bind (impl_hyper_ev h) ?_)
    by_cases h2 : (t.length : Int) = hyp s
    · refine Tl.iteT h2 ?_
      by_cases h3 : t.length ≤ 720
      · rw [if_pos ⟨h, h2, h3⟩]
        have hs5 := okSet_len h
        refine Tl.step ?_
        simp only [impl_TableValid.j0]
        refine Tl.iteF (by rw [decide_eq_true_eq]; omega) ?_
        refine Tl.all' (F := fun k i => impl_TableValid.l0 k s t t (t.length : Int) i) (P := fun j => decide (-1 ≤ t.getD j 0 ∧ t.getD j 0 ≤ (s.length : Int) - 1)) ?_ ?_ ?_
        · intro j hj hp r hh
          refine Tl.step ?_
          simp only [impl_TableValid.l0, rd_t]
          rw [wrap_succ hj (by omega), wrap_id (n := (s.length : Int) - 1) (by omega) (by omega)]
          exact Tl.iteT (by omega) (Tl.iteT (by omega) (Tl.iteT (by omega) (Tl.bind (Tl.of_eq fun _ => impl_in_f _ _ _) (Tl.iteT hp hh))))
        · intro j hj hp
          refine Tl.step ?_
          simp only [impl_TableValid.l0, rd_t]
          rw [wrap_id (n := (s.length : Int) - 1) (by omega) (by omega)]
          exact Tl.iteT (by omega) (Tl.iteT (by omega) (Tl.iteT (by omega) (Tl.bind (Tl.of_eq fun _ => impl_in_f _ _ _) (Tl.iteF (by rw [hp]; simp) (Tl.ret _)))))
        · intro _
          have hT : TV s t := ⟨h, h2, h3⟩
          refine Tl.step ?_
          simp only [impl_TableValid.l0]
          refine Tl.iteF (by omega) ?_
          refine Tl.all (F := fun k i => impl_TableValid.l1 k t s (s.length : Int) i) (P := okRows s t) ?_ ?_ ?_
          · intro i hi hp r hh
            have := impl_task_ev hT hi (fun _ => hh)
            rw [hp, Bool.true_and] at this
            exact this
          · intro i hi hp
            have := impl_task_ev hT hi (r := true) (fun g => by rw [hp] at g; cases g)
            rw [hp, Bool.false_and] at this
            exact this
          · refine Tl.step ?_
            simp only [impl_TableValid.l1]
            exact Tl.iteF (by omega) (Tl.ret _)
      · rw [if_neg (fun g => h3 g.2.2), decide_eq_true (show ((t.length : Int) > 720) by omega)]
        exact hj
    · rw [if_neg (fun g => h2 g.2.1)]
      exact Tl.iteF h2 hj
  · rw [if_neg (fun g => h g.1)]
    exact Tl.iteF h hj
end Go.Proofs.Ytfciajbahgjflaa.Print

namespace Go.Proofs.Ytfciajbahgjflaa.Print
open Go.RowKit Go.Proofs.YtfciajbahgjflaaW.PrintWords Go.Proofs.Ytfciajbahgjflaa.Evs Go.Proofs.Ytfciajbahgjflaa.Opens
set_option linter.unusedSimpArgs false
set_option linter.unusedVariables false
def idleN (t : List Int) : Nat → List Int
  | 0 => []
  | j + 1 => if t.getD j 0 < 0 then idleN t j ++ [(j : Int)] else idleN t j
theorem idleN_len (t : List Int) : ∀ j, (idleN t j).length ≤ j
  | 0 => Nat.le_refl _
  | j + 1 => by
    have := idleN_len t j
    unfold idleN
    split
    · rw [List.length_append, List.length_singleton]; omega
    · omega
theorem idleN_succ (t : List Int) (j : Nat) : idleN t (j + 1) = if t.getD j 0 < 0 then idleN t j ++ [(j : Int)] else idleN t j := rfl
def idle (s : List Task) (t : List Int) : List Int := if okTable s t = true then idleN t t.length else []
theorem okTable_all {s : List Task} {t : List Int} (h : okTable s t = true) : t.length ≤ 720 ∧ ∀ j, j < t.length → -1 ≤ t.getD j 0 := by
  unfold okTable at h
  split at h
  · rename_i g
    rw [Bool.and_eq_true] at h
    refine ⟨g.2.2, fun j hj => ?_⟩
    have h1 := h.1
    unfold okIn at h1
    rw [List.all_eq_true] at h1
    have := h1 j (by simpa using hj)
    rw [decide_eq_true_eq] at this
    exact this.1
  · cases h
theorem idle_len (s : List Task) (t : List Int) : (idle s t).length ≤ 720 := by
  unfold idle
  split
  · rename_i h
    have := idleN_len t t.length
    have := (okTable_all h).1
    omega
  · simp
theorem spec_IdleSlots_ev (s : List Task) (t : List Int) (hs : s.length ≤ 1048576) (ht : t.length ≤ 1048576) : Tl (fun k => spec_IdleSlots.f k s t) (idle s t) := by
  unfold spec_IdleSlots.f idle
  simp only [Option.bind_some]
  refine Tl.bind (spec_TableValid_ev s t hs ht) ?_
  by_cases h : okTable s t = true
  · refine Tl.iteT h ?_
    rw [if_pos h]
    refine down (Q := fun j => Tl (fun k => spec_IdleSlots.l0 k t (idleN t j) (j : Int)) (idleN t t.length)) t.length ?_ ?_
    · refine Tl.step ?_
      simp only [spec_IdleSlots.l0]
      exact Tl.iteF (by omega) (Tl.ret _)
    · intro j hj hh
      have hl := idleN_len t j
      rw [idleN_succ] at hh
      refine Tl.step ?_
      simp only [spec_IdleSlots.l0, rd_t]
      rw [wrap_succ hj (by omega)]
      refine Tl.iteT (by omega) (Tl.iteT (by omega) ?_)
      by_cases hc : t.getD j 0 < 0
      · rw [if_pos hc] at hh; exact Tl.iteT hc (Tl.iteT (by omega) hh)
      · rw [if_neg hc] at hh; exact Tl.iteF hc hh
  · refine Tl.iteF h ?_
    rw [if_neg h]
    exact Tl.ret _
theorem impl_IdleSlots_ev (s : List Task) (t : List Int) (hs : s.length ≤ 1048576) (ht : t.length ≤ 1048576) : Tl (fun k => impl_IdleSlots.f k s t) (idle s t) := by
  unfold impl_IdleSlots.f idle
  refine Tl.bind (impl_TableValid_ev s t hs ht) ?_
  by_cases h : okTable s t = true
  · have ha := okTable_all h
    refine Tl.iteT h ?_
    rw [if_pos h]
    refine down (Q := fun j => Tl (fun k => impl_IdleSlots.l0 k (idleN t j) t (t.length : Int) (j : Int)) (idleN t t.length)) t.length ?_ ?_
    · have hl := idleN_len t t.length
      refine Tl.step ?_
      simp only [impl_IdleSlots.l0]
      have hcl : Tl (fun _ => impl_clone_int.f (idleN t t.length)) (idleN t t.length) := Tl.of_eq fun _ => if_pos (by omega)
      exact Tl.iteF (by omega) (Tl.bind hcl (Tl.ret _))
    · intro j hj hh
      have hl := idleN_len t j
      have h1 := ha.2 j hj
      rw [idleN_succ] at hh
      refine Tl.step ?_
      simp only [impl_IdleSlots.l0, rd_t]
      rw [wrap_succ hj (by omega)]
      refine Tl.iteT (by omega) (Tl.iteT (by omega) (Tl.iteT (by omega) ?_))
      by_cases hc : t.getD j 0 < 0
      · rw [if_pos hc] at hh; exact Tl.iteT (by omega) (Tl.iteT (by omega) hh)
      · rw [if_neg hc] at hh; exact Tl.iteF (by omega) hh
  · refine Tl.iteF h ?_
    rw [if_neg h]
    exact Tl.ret _
end Go.Proofs.Ytfciajbahgjflaa.Print

namespace Go.Proofs.Ytfciajbahgjflaa.Print
open Go.RowKit Go.Proofs.YtfciajbahgjflaaW.PrintWords Go.Proofs.Ytfciajbahgjflaa.Evs Go.Proofs.Ytfciajbahgjflaa.Opens
set_option linter.unusedSimpArgs false
theorem toIntS_ev (l : List Int) (hl : l.length ≤ 1048576) : Tl (fun k => laws_toIntS.f k l) l := by
  unfold laws_toIntS.f
  have c1 := eq_true (show 0 ≤ (l.length : Int) by omega)
  have c2 := eq_true (show l.length ≤ 35184372088832 by omega)
  simp only [c1, c2, if_true, Int.toNat_natCast]
  have key := down (Q := fun j => Tl (fun k => laws_toIntS.l0 k l (l.take j ++ List.replicate (l.length - j) 0) (j : Int)) l) l.length ?_ ?_
  · rw [fill_zero] at key; exact key
  · refine Tl.step ?_
    have c3 := eq_false (show ¬ ((l.length : Int) < (l.length : Int)) by omega)
    rw [fill_end]
    simp only [laws_toIntS.l0, c3, if_false]
    exact Tl.ret _
  · intro j hj h
    refine Tl.step ?_
    have c3 := eq_true (show (j : Int) < (l.length : Int) by omega)
    have c4 := eq_true (show 0 ≤ (j : Int) by omega)
    have c5 := eq_true (show (j : Int) < ((l.take j ++ List.replicate (l.length - j) 0).length : Int) by rw [fill_len _ _ (by omega)]; omega)
    simp only [laws_toIntS.l0, c3, c4, c5, if_true, Int.toNat_natCast]
    rw [fill_set l 0 hj (rd l (j : Int)) rfl, wrap_succ hj (by omega)]
    exact h
theorem eqIntS_ev (l : List Int) (hl : l.length ≤ 1048576) : Tl (fun k => laws_eqIntS.f k l l) true := by
  unfold laws_eqIntS.f
  simp only [if_true]
  refine down (Q := fun j => Tl (fun k => laws_eqIntS.l0 k l l (j : Int)) true) l.length ?_ ?_
  · refine Tl.step ?_
    have c3 := eq_false (show ¬ ((l.length : Int) < (l.length : Int)) by omega)
    simp only [laws_eqIntS.l0, c3, if_false]
    exact Tl.ret _
  · intro j hj h
    refine Tl.step ?_
    have c3 := eq_true (show (j : Int) < (l.length : Int) by omega)
    have c4 := eq_true (show 0 ≤ (j : Int) by omega)
    simp only [laws_eqIntS.l0, c3, c4, if_true]
    rw [wrap_succ hj (by omega)]
    exact h
end Go.Proofs.Ytfciajbahgjflaa.Print

namespace Go.Proofs.Ytfciajbahgjflaa.Print
open Go.RowKit Go.Proofs.YtfciajbahgjflaaW.PrintWords Go.Proofs.Ytfciajbahgjflaa.Evs Go.Proofs.Ytfciajbahgjflaa.Opens
set_option linter.unusedSimpArgs false
set_option linter.unusedVariables false
theorem wrap3 {m : Int} (h0 : 0 ≤ m) (h1 : m ≤ 100000000) : wrap64 ((wrap64 ((wrap64 (m + 1)) + 1)) + 1) = m + 3 := by
  rw [wrap_id (n := m + 1) (by omega) (by omega), wrap_id (n := m + 1 + 1) (by omega) (by omega), wrap_id (n := m + 1 + 1 + 1) (by omega) (by omega)]
  omega
theorem markTaskS_at : ∀ (d j : Nat) (l : List Task) (m : Int), j + d = l.length → 0 ≤ m → m + 3 * d ≤ 100000000 → l.length ≤ 1048576 → ∃ l', Tl (fun k => laws_markTaskS.l0 k l m (j : Int)) (m + 3 * d, l')
  | 0, j, l, m, e, h0, h1, h2 => by
    refine ⟨l, Tl.step ?_⟩
    simp only [laws_markTaskS.l0]
    exact Tl.iteF (by omega) (Tl.cast (Tl.ret _) (by rw [show m + 3 * ((0 : Nat) : Int) = m by omega]))
  | d + 1, j, l, m, e, h0, h1, h2 => by
    have key : ∀ x : List Task, x.length = l.length → ∃ l', Tl (fun k => laws_markTaskS.l0 k x (m + 3) ((j + 1 : Nat) : Int)) (m + 3 + 3 * d, l') := fun x hx => markTaskS_at d (j + 1) x (m + 3) (by omega) (by omega) (by omega) (by omega)
    obtain ⟨l', hl'⟩ := key _ (show (((l.set j ⟨m, (tk l j).f1, (tk l j).f2⟩).set j ⟨(tk (l.set j ⟨m, (tk l j).f1, (tk l j).f2⟩) j).f0, wrap64 (m + 1), (tk (l.set j ⟨m, (tk l j).f1, (tk l j).f2⟩) j).f2⟩).set j ⟨(tk ((l.set j ⟨m, (tk l j).f1, (tk l j).f2⟩).set j ⟨(tk (l.set j ⟨m, (tk l j).f1, (tk l j).f2⟩) j).f0, wrap64 (m + 1), (tk (l.set j ⟨m, (tk l j).f1, (tk l j).f2⟩) j).f2⟩) j).f0, (tk ((l.set j ⟨m, (tk l j).f1, (tk l j).f2⟩).set j ⟨(tk (l.set j ⟨m, (tk l j).f1, (tk l j).f2⟩) j).f0, wrap64 (m + 1), (tk (l.set j ⟨m, (tk l j).f1, (tk l j).f2⟩) j).f2⟩) j).f1, wrap64 ((wrap64 (m + 1)) + 1)⟩).length = l.length by simp only [List.length_set])
    refine ⟨l', Tl.step ?_⟩
    simp only [laws_markTaskS.l0, rd_tk, Int.toNat_natCast, Option.bind_some]
    rw [wrap3 h0 (by omega), wrap_succ (n := l.length) (by omega) (by omega)]
    exact Tl.iteT (by omega) (Tl.iteT (by omega) (Tl.cast hl' (by rw [show m + 3 + 3 * (d : Int) = m + 3 * ((d + 1 : Nat) : Int) by omega])))
theorem markTaskS_ev (l : List Task) (m : Int) (h0 : 0 ≤ m) (h1 : m ≤ 10000000) (hl : l.length ≤ 1048576) : ∃ l', Tl (fun k => laws_markTaskS.f k l m) (m + 3 * l.length, l') :=
  markTaskS_at l.length 0 l m (by omega) h0 (by omega) hl
/-- A row marked with m, m + 1, .. -/
structure Marked (l : List Int) (m : Int) (n : Nat) : Prop where
  len : l.length = n
  at_ : ∀ i, i < n → l.getD i 0 = m + i
theorem markIntS_at : ∀ (d j : Nat) (l : List Int) (m : Int), j + d = l.length → 0 ≤ m → m + l.length ≤ 100000000 → (∀ i, i < j → l.getD i 0 = m + i) → ∃ l', Marked l' m l.length ∧ Tl (fun k => laws_markIntS.l0 k l (m + j) (j : Int)) (m + l.length, l')
  | 0, j, l, m, e, h0, h1, hm => by
    refine ⟨l, ⟨rfl, fun i hi => hm i (by omega)⟩, Tl.step ?_⟩
    simp only [laws_markIntS.l0]
    exact Tl.iteF (by omega) (Tl.cast (Tl.ret _) (by rw [show m + (j : Int) = m + (l.length : Int) by omega]))
  | d + 1, j, l, m, e, h0, h1, hm => by
    obtain ⟨l', h2, h3⟩ := markIntS_at d (j + 1) (l.set j (m + j)) m (by rw [List.length_set]; omega) h0 (by rw [List.length_set]; exact h1) (fun i hi => by
      by_cases hij : i = j
      · subst hij
        simp [List.getD_eq_getElem?_getD, List.getElem?_set, show i < l.length by omega]
      · have := hm i (by omega)
        rw [← this]
        simp [List.getD_eq_getElem?_getD, List.getElem?_set, show ¬ j = i by omega])
    rw [List.length_set] at h2 h3
    refine ⟨l', h2, Tl.step ?_⟩
    simp only [laws_markIntS.l0, Int.toNat_natCast]
    rw [wrap_id (n := m + (j : Int) + 1) (by omega) (by omega), wrap_succ (n := l.length) (by omega) (by omega), show m + (j : Int) + 1 = m + ((j + 1 : Nat) : Int) by omega]
    exact Tl.iteT (by omega) (Tl.iteT (by omega) h3)
theorem markIntS_ev (l : List Int) (m : Int) (h0 : 0 ≤ m) (h1 : m ≤ 10000000) (hl : l.length ≤ 1048576) : ∃ l', Marked l' m l.length ∧ Tl (fun k => laws_markIntS.f k l m) (m + l.length, l') := by
  obtain ⟨l', h2, h3⟩ := markIntS_at l.length 0 l m (by omega) h0 (by omega) (fun i hi => by omega)
  rw [show m + ((0 : Nat) : Int) = m by omega] at h3
  exact ⟨l', h2, h3⟩
theorem heldIntS_ev {l : List Int} {m : Int} {n : Nat} (h : Marked l m n) (h0 : 0 ≤ m) (h1 : m ≤ 10000000) (hl : n ≤ 1048576) : Tl (fun k => laws_heldIntS.f k l m) (m + n) := by
  unfold laws_heldIntS.f
  have he := h.len
  have key := down (Q := fun j => Tl (fun k => laws_heldIntS.l0 k l (m + j) (j : Int)) (m + n)) n ?_ ?_
  · rw [show m + ((0 : Nat) : Int) = m by omega] at key; exact key
  · refine Tl.step ?_
    simp only [laws_heldIntS.l0]
    exact Tl.iteF (by omega) (Tl.ret _)
  · intro j hj hh
    refine Tl.step ?_
    have ha : rd l (j : Int) = m + j := h.at_ j hj
    simp only [laws_heldIntS.l0, ha]
    rw [wrap_id (n := m + (j : Int) + 1) (by omega) (by omega), wrap_succ hj (by omega), show m + (j : Int) + 1 = m + ((j + 1 : Nat) : Int) by omega]
    exact Tl.iteT (by omega) (Tl.iteT (by omega) (Tl.iteT (by trivial) hh))
end Go.Proofs.Ytfciajbahgjflaa.Print

namespace Go.Proofs.Ytfciajbahgjflaa.Print
open Go.RowKit Go.Proofs.YtfciajbahgjflaaW.PrintWords Go.Proofs.Ytfciajbahgjflaa.Evs Go.Proofs.Ytfciajbahgjflaa.Opens
set_option linter.unusedSimpArgs false
set_option linter.unusedVariables false
set_option maxHeartbeats 1000000 in
theorem FnExactIdleSlots_pure : PureFnExactIdleSlots := by
  intro x0 x1 w0 w1
  apply Tl.once
  unfold laws_FnExactIdleSlots.f
  by_cases g1 : (x1.length : Int) > 1048576
  · exact Tl.iteT g1 (Tl.ret _)
  refine Tl.iteF g1 ?_
  refine Tl.bind (Tl.of_eq fun _ => szTaskS_f x0 _ (by omega) (by omega) w0.1) ?_
  by_cases g0 : (1048576 : Int) < x0.length
  · rw [if_pos g0]; exact Tl.iteT (by omega) (Tl.ret _)
  rw [if_neg g0]
  refine Tl.iteF (by omega) ?_
  have hl0 : x0.length ≤ 1048576 := by omega
  have hm0 : (x0.map cvTask).length ≤ 1048576 := by simpa using hl0
  have hl1 : x1.length ≤ 1048576 := by omega
  have hm1 : x1.length ≤ 1048576 := by simpa using hl1
  have HS := spec_IdleSlots_ev (x0.map cvTask) x1 hm0 hm1
  have HI := impl_IdleSlots_ev (x0.map cvTask) x1 hm0 hm1
  have hd := idle_len (x0.map cvTask) x1
  generalize idle (x0.map cvTask) x1 = D at HS HI hd
  have HE := eqIntS_ev D (by omega)
  obtain ⟨t1, m1⟩ := markTaskS_ev (x0.map cvTask) 1 (by omega) (by omega) hm0
  obtain ⟨t2, mk2, m2⟩ := markIntS_ev x1 (1 + 3 * ((x0.map cvTask).length : Int)) (by omega) (by omega) hl1
  obtain ⟨t3, mk, m3⟩ := markIntS_ev D 1 (by omega) (by omega) (by omega)
  have m4 := heldIntS_ev mk (by omega) (by omega) (by omega)
  repeat (first
    | exact Tl.ret _
    | with_reducible refine Tl.bind (toTaskS_ev x0 hl0) ?_
    | with_reducible refine Tl.bind (eqTaskS_ev (x0.map cvTask) hm0) ?_
    | with_reducible refine Tl.bind (toIntS_ev x1 hl1) ?_
    | with_reducible refine Tl.bind (eqIntS_ev x1 hm1) ?_
    | with_reducible refine Tl.bind HE ?_
    | with_reducible refine Tl.bind m1 ?_
    | with_reducible refine Tl.bind m2 ?_
    | with_reducible refine Tl.bind m3 ?_
    | with_reducible refine Tl.bind m4 ?_
    | with_reducible refine Tl.iteF (by omega) ?_
    | with_reducible refine Tl.bind HS ?_
    | with_reducible refine Tl.bind HI ?_
    | with_reducible refine Tl.iteT rfl ?_
    | with_reducible refine Tl.iteF (by simp) ?_
    | dsimp only
    | (refine Tl.step ?_; simp only [laws_FnExactIdleSlots.j0]))
end Go.Proofs.Ytfciajbahgjflaa.Print
