/- What the program and the reference compute, and that both agree. No condition. -/
import Derived.Test.YtfciajbahgjflaaPO
import Derived.Test.YtfciajbahgjflaaZFnExactTableP2
import Derived.RowKit
import Derived.WalkKit
import Derived.Test.YtfciajbahgjflaaZFnExactTableP1
import Derived.Test.YtfciajbahgjflaaZFnExactTableP0
namespace Go.Proofs.Ytfciajbahgjflaa.Print
open Go.RowKit Go.Proofs.YtfciajbahgjflaaW.PrintWords Go.Proofs.YtfciajbahgjflaaW.PrintLast Go.Proofs.YtfciajbahgjflaaW.PrintMore
attribute [local go_sem] max2_int min2_int max_two min_two max_three min_three max_four min_four   -- for this text's walks alone
set_option linter.unusedVariables false
set_option linter.unusedSimpArgs false

open Go.Proofs.Ytfciajbahgjflaa.Opens
/-- The pure statement of FnExactTable. -/
def PureFnExactTable : Prop := ∀ (x0 : List (S89)), (wfL wf89) x0 → ∃ k, laws_FnExactTable.f k x0 = some true
end Go.Proofs.Ytfciajbahgjflaa.Print

namespace Go.Proofs.Ytfciajbahgjflaa.Evs
open Go.RowKit
set_option linter.unusedSimpArgs false
set_option linter.unusedVariables false

/-- From some number of rounds on, g tells r. -/
def Tl {α : Type} (g : Nat → Option α) (r : α) : Prop := ∃ k0, ∀ k, k0 ≤ k → g k = some r

theorem Tl.ret {α : Type} (r : α) : Tl (fun _ => some r) r := ⟨0, fun _ _ => rfl⟩
theorem Tl.of_eq {α : Type} {g : Nat → Option α} {r : α} (h : ∀ k, g k = some r) : Tl g r := ⟨0, fun k _ => h k⟩
theorem Tl.step {α : Type} {g : Nat → Option α} {r : α} (h : Tl (fun k => g (k + 1)) r) : Tl g r := by
  obtain ⟨k0, hk⟩ := h
  refine ⟨k0 + 1, fun k hle => ?_⟩
  obtain ⟨m, rfl⟩ : ∃ m, k = m + 1 := ⟨k - 1, by omega⟩
  exact hk m (by omega)
theorem Tl.bind {α β : Type} {g : Nat → Option α} {a : α} {f : α → Nat → Option β} {r : β} (h : Tl g a) (h2 : Tl (f a) r) : Tl (fun k => (g k).bind fun x => f x k) r := by
  obtain ⟨k0, hk⟩ := h
  obtain ⟨k1, hk1⟩ := h2
  refine ⟨max k0 k1, fun k hle => ?_⟩
  show (g k).bind (fun x => f x k) = some r
  rw [hk k (by omega), Option.bind_some]
  exact hk1 k (by omega)
theorem Tl.once {α : Type} {g : Nat → Option α} {r : α} (h : Tl g r) : ∃ k, g k = some r := by
  obtain ⟨k0, hk⟩ := h
  exact ⟨k0, hk k0 (Nat.le_refl _)⟩
theorem Tl.cast {α : Type} {g : Nat → Option α} {r r' : α} (h : Tl g r) (e : r = r') : Tl g r' := e ▸ h
theorem Tl.iteT {α : Type} {c : Prop} [Decidable c] {g g' : Nat → Option α} {r : α} (hc : c) (h : Tl g r) : Tl (fun k => if c then g k else g' k) r := by simpa only [if_pos hc] using h
theorem Tl.iteF {α : Type} {c : Prop} [Decidable c] {g g' : Nat → Option α} {r : α} (hc : ¬ c) (h : Tl g' r) : Tl (fun k => if c then g k else g' k) r := by simpa only [if_neg hc] using h

/-- Downwards. -/
theorem down {Q : Nat → Prop} (n : Nat) (he : Q n) (hs : ∀ j, j < n → Q (j + 1) → Q j) : Q 0 := by
  induction n with
  | zero => exact he
  | succ n ih => exact ih (hs n (by omega) he) (fun j hj => hs j (by omega))
theorem downFrom {Q : Nat → Prop} {m n : Nat} (hm : m ≤ n) (he : Q n) (hs : ∀ j, m ≤ j → j < n → Q (j + 1) → Q j) : Q m := by
  obtain ⟨d, rfl⟩ : ∃ d, n = m + d := ⟨n - m, by omega⟩
  induction d with
  | zero => exact he
  | succ d ih => exact ih (by omega) (hs (m + d) (by omega) (by omega) he) (fun j h1 h2 => hs j h1 (by omega))

/-- A loop that asks something of each index, and stops at the first 'no'. -/
theorem Tl.all {F : Nat → Int → Option Bool} {n : Nat} {P : Nat → Bool} {fin : Bool}
    (ht : ∀ j, j < n → P j = true → ∀ r, Tl (fun k => F k ((j + 1 : Nat) : Int)) r → Tl (fun k => F k (j : Int)) r)
    (hf : ∀ j, j < n → P j = false → Tl (fun k => F k (j : Int)) false) (he : Tl (fun k => F k (n : Int)) fin) :
    Tl (fun k => F k 0) ((List.range n).all P && fin) := by
  by_cases hall : ∀ j, j < n → P j = true
  · have h1 : ((List.range n).all P) = true := by simpa using hall
    rw [h1, Bool.true_and]
    exact down (Q := fun j => Tl (fun k => F k (j : Int)) fin) n he (fun j hj h => ht j hj (hall j hj) _ h)
  · have h1 : ((List.range n).all P) = false := by simpa using hall
    rw [h1, Bool.false_and]
    clear h1
    have key : ∀ m, m ≤ n → (∃ j, j < m ∧ P j = false) → Tl (fun k => F k 0) false := by
      intro m
      induction m with
      | zero => rintro _ ⟨j, hj, _⟩; omega
      | succ m ih =>
        rintro hm ⟨j, hj, hp⟩
        by_cases hlow : ∃ j, j < m ∧ P j = false
        · exact ih (by omega) hlow
        · have hjm : j = m := by
            rcases Nat.lt_or_ge j m with h | h
            · exact absurd ⟨j, h, hp⟩ hlow
            · omega
          subst hjm
          refine down (Q := fun j => Tl (fun k => F k (j : Int)) false) j (hf j (by omega) hp) (fun i hi h => ht i (by omega) ?_ _ h)
          cases hpi : P i
          · exact absurd ⟨i, hi, hpi⟩ hlow
          · rfl
    refine key n (Nat.le_refl _) ?_
    apply Classical.byContradiction
    intro hno
    refine hall (fun j hj => ?_)
    cases hp : P j
    · exact absurd ⟨j, hj, hp⟩ hno
    · rfl

theorem wrap_id {n : Int} (h1 : -9223372036854775808 ≤ n) (h2 : n ≤ 9223372036854775807) : wrap64 n = n := by unfold wrap64; omega
theorem wrap_succ {j n : Nat} (h : j < n) (hn : n ≤ 9223372036854775807) : wrap64 ((j : Int) + 1) = ((j + 1 : Nat) : Int) := by unfold wrap64; omega
theorem wrap_pred {j n : Nat} (h : j < n) (h0 : 0 < j) (hn : n ≤ 9223372036854775807) : wrap64 ((j : Int) - 1) = ((j - 1 : Nat) : Int) := by unfold wrap64; omega
end Go.Proofs.Ytfciajbahgjflaa.Evs

namespace Go.Proofs.Ytfciajbahgjflaa.Evs
theorem fill_zero {α : Type} (xs : List α) (z : α) : xs.take 0 ++ List.replicate (xs.length - 0) z = List.replicate xs.length z := by simp
theorem fill_set {α : Type} (xs : List α) (z : α) {j : Nat} (hj : j < xs.length) (x : α) (hx : x = xs.getD j z) :
    (xs.take j ++ List.replicate (xs.length - j) z).set j x = xs.take (j + 1) ++ List.replicate (xs.length - (j + 1)) z := by
  have h1 : (xs.take j).length = j := by simp; omega
  rw [List.set_append_right _ _ (by omega), h1, Nat.sub_self]
  obtain ⟨m, hm⟩ : ∃ m, xs.length - j = m + 1 := ⟨xs.length - j - 1, by omega⟩
  rw [hm, List.replicate_succ, List.set_cons_zero, List.take_succ_eq_append_getElem hj, List.append_assoc, hx]
  have h2 : xs.length - (j + 1) = m := by omega
  rw [h2]
  simp [List.getD_eq_getElem?_getD, hj]
theorem fill_len {α : Type} (xs : List α) (z : α) {j : Nat} (hj : j ≤ xs.length) : (xs.take j ++ List.replicate (xs.length - j) z).length = xs.length := by simp; omega
theorem fill_end {α : Type} (xs : List α) (z : α) : xs.take xs.length ++ List.replicate (xs.length - xs.length) z = xs := by simp
theorem getD_map {α β : Type} (f : α → β) (l : List α) (j : Nat) (z : α) (z' : β) (hj : j < l.length) : (l.map f).getD j z' = f (l.getD j z) := by simp [List.getD_eq_getElem?_getD, hj]
theorem all_range {α : Type} (l : List α) (z : α) (p : α → Bool) : (List.range l.length).all (fun j => p (l.getD j z)) = l.all p := by
  rw [Bool.eq_iff_iff, List.all_eq_true, List.all_eq_true]
  constructor
  · intro h x hx
    obtain ⟨i, hi, rfl⟩ := List.getElem_of_mem hx
    have := h i (by simpa using hi)
    simpa [List.getD_eq_getElem?_getD, hi] using this
  · intro h j hj
    have hj' : j < l.length := by simpa using hj
    have := h l[j] (List.getElem_mem hj')
    simpa [List.getD_eq_getElem?_getD, hj'] using this
end Go.Proofs.Ytfciajbahgjflaa.Evs

namespace Go.Proofs.Ytfciajbahgjflaa.Print
open Go.RowKit Go.Proofs.YtfciajbahgjflaaW.PrintWords Go.Proofs.Ytfciajbahgjflaa.Evs Go.Proofs.Ytfciajbahgjflaa.Opens
set_option linter.unusedSimpArgs false
abbrev LTask := S89
abbrev Task := S43
def cvTask (x : LTask) : Task := ⟨x.f0, x.f1, x.f2⟩
theorem toTaskS_ev (l : List LTask) (hl : l.length ≤ 1048576) : Tl (fun k => laws_toTaskS.f k l) (l.map cvTask) := by
  unfold laws_toTaskS.f
  have c1 := eq_true (show 0 ≤ (l.length : Int) by omega)
  have c2 := eq_true (show l.length ≤ 11728124029610 by omega)
  simp only [c1, c2, if_true, Int.toNat_natCast]
  have hlen : (l.map cvTask).length = l.length := by simp
  have key := down (Q := fun j => Tl (fun k => laws_toTaskS.l0 k l ((l.map cvTask).take j ++ List.replicate ((l.map cvTask).length - j) z43) (j : Int)) (l.map cvTask)) l.length ?_ ?_
  · rw [fill_zero, hlen] at key; exact key
  · refine Tl.step ?_
    have c3 := eq_false (show ¬ ((l.length : Int) < (l.length : Int)) by omega)
    rw [← hlen, fill_end]
    simp only [hlen]
    simp only [laws_toTaskS.l0, c3, if_false]
    exact Tl.ret _
  · intro j hj h
    refine Tl.step ?_
    have c3 := eq_true (show (j : Int) < (l.length : Int) by omega)
    have c4 := eq_true (show 0 ≤ (j : Int) by omega)
    have c5 := eq_true (show (j : Int) < (((l.map cvTask).take j ++ List.replicate ((l.map cvTask).length - j) z43).length : Int) by rw [fill_len _ _ (by omega)]; omega)
    simp only [laws_toTaskS.l0, c3, c4, c5, if_true, laws_toTask.f, Option.bind_some, Int.toNat_natCast]
    rw [fill_set _ _ (by omega) _ (by rw [getD_map cvTask l j z89 _ hj]; rfl), wrap_succ hj (by omega)]
    exact h
theorem eqTask_self (x : Task) : laws_eqTask.f x.f0 x.f1 x.f2 x.f0 x.f1 x.f2 = some true := by simp [laws_eqTask.f]
theorem eqTaskS_ev (l : List Task) (hl : l.length ≤ 1048576) : Tl (fun k => laws_eqTaskS.f k l l) true := by
  unfold laws_eqTaskS.f
  simp only [if_true]
  refine down (Q := fun j => Tl (fun k => laws_eqTaskS.l0 k l l (j : Int)) true) l.length ?_ ?_
  · refine Tl.step ?_
    have c3 := eq_false (show ¬ ((l.length : Int) < (l.length : Int)) by omega)
    simp only [laws_eqTaskS.l0, c3, if_false]
    exact Tl.ret _
  · intro j hj h
    refine Tl.step ?_
    have c3 := eq_true (show (j : Int) < (l.length : Int) by omega)
    have c4 := eq_true (show 0 ≤ (j : Int) by omega)
    simp only [laws_eqTaskS.l0, c3, c4, if_true, eqTask_self, Option.bind_some]
    rw [wrap_succ hj (by omega)]
    exact h
theorem szTaskS_f (l : List LTask) (a : Int) (h0 : 0 ≤ a) (h1 : a ≤ 1048576) (hl : l.length ≤ 9223372036854775807) : laws_szTaskS.f l a = some (if a < l.length then -1 else a - l.length) := by
  unfold laws_szTaskS.f
  rw [wrap_id (by omega) (by omega)]
  by_cases h : a < l.length
  · rw [if_pos (by omega), if_pos h]
  · rw [if_neg (by omega), if_neg h]
end Go.Proofs.Ytfciajbahgjflaa.Print

namespace Go.Proofs.Ytfciajbahgjflaa.Print
open Go.RowKit Go.Proofs.YtfciajbahgjflaaW.PrintWords Go.Proofs.Ytfciajbahgjflaa.Evs Go.Proofs.Ytfciajbahgjflaa.Opens
set_option linter.unusedSimpArgs false
set_option linter.unusedVariables false
theorem spec_l1In_f (a b c : Int) : spec_l1In.f a b c = some (decide (b ≤ a ∧ a ≤ c)) := by
  unfold spec_l1In.f
  by_cases h : a ≥ b
  · have h' : b ≤ a := h
    simp [h, h']
  · have h' : ¬ b ≤ a := h
    simp [h, h']
theorem spec_TaskValid_f (x : Task) : spec_TaskValid.f x.f0 x.f1 x.f2 = some (okTask x) := by
  unfold spec_TaskValid.f okTask
  simp only [spec_l1In_f, Option.bind_some, decide_eq_true_eq]
  split
  · split
    · congr 1; rw [Bool.eq_iff_iff]; simp only [decide_eq_true_eq, Bool.false_eq_true, false_iff]; omega
    · congr 1; rw [Bool.eq_iff_iff]; simp only [decide_eq_true_eq, Bool.false_eq_true, false_iff]; omega
  · congr 1; rw [Bool.eq_iff_iff]; simp only [decide_eq_true_eq, Bool.false_eq_true, false_iff]; omega
/-- A valid set. -/
def okSet (l : List Task) : Bool := decide (l.length ≤ 5) && l.all okTask
theorem impl_SetValid_f (l : List Task) : impl_SetValid.f l = some (okSet l) := rfl
theorem impl_SetValid_ev (l : List Task) (_ : l.length ≤ 1048576) : Tl (fun _ => impl_SetValid.f l) (okSet l) := Tl.of_eq fun _ => impl_SetValid_f l
theorem spec_SetValid_ev (l : List Task) (hl : l.length ≤ 1048576) : Tl (fun k => spec_SetValid.f k l) (okSet l) := by
  have key := Tl.all (F := fun k i => spec_SetValid.l0 k l i) (n := l.length) (P := fun j => okTask (l.getD j z43)) (fin := decide (l.length ≤ 5)) ?_ ?_ ?_
  · rw [all_range] at key
    unfold okSet
    rw [Bool.and_comm]
    exact key
  · intro j hj hp r h
    refine Tl.step ?_
    have c3 := eq_true (show (j : Int) < (l.length : Int) by omega)
    have c4 := eq_true (show 0 ≤ (j : Int) by omega)
    have c5 : spec_TaskValid.f (rd_T43 l (j : Int)).f0 (rd_T43 l (j : Int)).f1 (rd_T43 l (j : Int)).f2 = some true := by rw [spec_TaskValid_f]; exact congrArg some hp
    simp only [spec_SetValid.l0, c3, c4, c5, if_true, Option.bind_some]
    rw [wrap_succ hj (by omega)]
    exact h
  · intro j hj hp
    refine Tl.step ?_
    have c3 := eq_true (show (j : Int) < (l.length : Int) by omega)
    have c4 := eq_true (show 0 ≤ (j : Int) by omega)
    have c5 : spec_TaskValid.f (rd_T43 l (j : Int)).f0 (rd_T43 l (j : Int)).f1 (rd_T43 l (j : Int)).f2 = some false := by rw [spec_TaskValid_f]; exact congrArg some hp
    simp only [spec_SetValid.l0, c3, c4, c5, if_true, Option.bind_some, Bool.false_eq_true, if_false]
    exact Tl.ret _
  · refine Tl.step ?_
    have c3 := eq_false (show ¬ ((l.length : Int) < (l.length : Int)) by omega)
    simp only [spec_SetValid.l0, c3, if_false]
    have : decide ((l.length : Int) ≤ 5) = decide (l.length ≤ 5) := by rw [decide_eq_decide]; omega
    rw [this]
    exact Tl.ret _

theorem tmod_pos {a b : Int} (ha : 0 ≤ a) (_hb : 0 < b) : Int.tmod a b = a % b := Int.tmod_eq_emod_of_nonneg ha
theorem tdiv_pos {a b : Int} (ha : 0 ≤ a) : Int.tdiv a b = a / b := Int.tdiv_eq_ediv_of_nonneg ha
/-- Task j of a list. -/
def tk (l : List Task) (j : Nat) : Task := l.getD j z43
theorem rd_tk (l : List Task) (j : Nat) : rd_T43 l (j : Int) = tk l j := rfl
theorem okSet_len {l : List Task} (h : okSet l = true) : l.length ≤ 5 := by unfold okSet at h; simp at h; exact h.1
theorem okSet_tk {l : List Task} (h : okSet l = true) {j : Nat} (hj : j < l.length) : 1 ≤ (tk l j).f0 ∧ (tk l j).f0 ≤ 8 ∧ (tk l j).f0 ≤ (tk l j).f1 ∧ (tk l j).f1 ≤ (tk l j).f2 ∧ (tk l j).f2 ≤ 12 := by
  unfold okSet at h
  rw [Bool.and_eq_true, List.all_eq_true] at h
  have h1 : tk l j ∈ l := by unfold tk; simp [List.getD_eq_getElem?_getD, hj]
  have := h.2 _ h1
  unfold okTask at this
  exact of_decide_eq_true this

theorem gcd_step {a b : Int} (ha : 0 ≤ a) (hb : 0 ≤ b) : Int.gcd a b = Int.gcd b (a % b) := by
  obtain ⟨n, rfl⟩ := Int.eq_ofNat_of_zero_le ha
  obtain ⟨m, rfl⟩ := Int.eq_ofNat_of_zero_le hb
  rw [← Int.natCast_emod, Int.gcd_natCast_natCast, Int.gcd_natCast_natCast, Nat.gcd_comm n m, Nat.gcd_rec m n, Nat.gcd_comm]
theorem impl_gcd_ev (a b : Int) (ha : 0 ≤ a) (hb : 0 ≤ b) : Tl (fun k => impl_gcd.f k a b) (Int.gcd a b) := by
  unfold impl_gcd.f
  obtain ⟨n, hn⟩ : ∃ n : Nat, b.toNat = n := ⟨_, rfl⟩
  induction n using Nat.strongRecOn generalizing a b with
  | _ n ih =>
    refine Tl.step ?_
    simp only [impl_gcd.l0]
    by_cases h : b = 0
    · subst h
      refine Tl.iteT rfl ?_
      rw [Int.gcd_zero_right, Int.natAbs_of_nonneg ha]
      exact Tl.ret _
    · refine Tl.iteF h ?_
      rw [tmod_pos ha (by omega)]
      have hm := Int.emod_lt_of_pos a (show 0 < b by omega)
      have hm0 := Int.emod_nonneg a h
      have := ih (a % b).toNat (by omega) b (a % b) hb hm0 rfl
      rw [gcd_step ha hb]
      exact this
theorem spec_l1Gcd_ev (a b : Int) (ha : 0 ≤ a) (hb : 0 ≤ b) : Tl (fun k => spec_l1Gcd.f k a b) (Int.gcd a b) := by
  unfold spec_l1Gcd.f
  obtain ⟨n, hn⟩ : ∃ n : Nat, b.toNat = n := ⟨_, rfl⟩
  induction n using Nat.strongRecOn generalizing a b with
  | _ n ih =>
    refine Tl.step ?_
    simp only [spec_l1Gcd.l0]
    by_cases h : b = 0
    · subst h
      refine Tl.iteF (by omega) ?_
      rw [Int.gcd_zero_right, Int.natAbs_of_nonneg ha]
      exact Tl.ret _
    · refine Tl.iteT (by omega) ?_
      refine Tl.iteF h ?_
      rw [tmod_pos ha (by omega)]
      have hm := Int.emod_lt_of_pos a (show 0 < b by omega)
      have hm0 := Int.emod_nonneg a h
      have := ih (a % b).toNat (by omega) b (a % b) hb hm0 rfl
      rw [gcd_step ha hb]
      exact this
/-- The least common multiple of the first j periods. -/
def hypN (l : List Task) : Nat → Int
  | 0 => 1
  | j + 1 => hypN l j / (Int.gcd (hypN l j) (tk l j).f2 : Int) * (tk l j).f2
def hyp (l : List Task) : Int := hypN l l.length
theorem small_dvd {p : Int} (h0 : 1 ≤ p) (h1 : p ≤ 12) : p ∣ 27720 := by
  have : p = 1 ∨ p = 2 ∨ p = 3 ∨ p = 4 ∨ p = 5 ∨ p = 6 ∨ p = 7 ∨ p = 8 ∨ p = 9 ∨ p = 10 ∨ p = 11 ∨ p = 12 := by omega
  rcases this with rfl | rfl | rfl | rfl | rfl | rfl | rfl | rfl | rfl | rfl | rfl | rfl <;> decide
theorem lcm_dvd {a p m : Int} (ha : a ∣ m) (hp : p ∣ m) (h0 : 0 < a) (hp0 : 0 < p) : a / (Int.gcd a p : Int) * p ∣ m := by
  have hg : ((Int.gcd a p : Nat) : Int) ∣ a := Int.gcd_dvd_left _ _
  have e : a / (Int.gcd a p : Int) * p = (Int.lcm a p : Int) := by
    have h1 : (Int.gcd a p * Int.lcm a p : Nat) = (a * p).natAbs := by rw [Int.gcd_mul_lcm, Int.natAbs_mul]
    have h2 : ((Int.gcd a p : Nat) : Int) * ((Int.lcm a p : Nat) : Int) = a * p := by
      rw [← Int.natCast_mul, h1, Int.natAbs_of_nonneg (Int.mul_nonneg (show 0 ≤ a by omega) (show 0 ≤ p by omega))]
    have hg0 : 0 < ((Int.gcd a p : Nat) : Int) := by
      have := Int.gcd_pos_of_ne_zero_left p (show a ≠ 0 by omega)
      omega
    obtain ⟨c, hc⟩ := hg
    have h3 : a / ((Int.gcd a p : Nat) : Int) = c := Int.ediv_eq_of_eq_mul_right (by omega) hc
    rw [h3]
    have h4 : ((Int.gcd a p : Nat) : Int) * ((Int.lcm a p : Nat) : Int) = ((Int.gcd a p : Nat) : Int) * (c * p) := by rw [h2, ← Int.mul_assoc, ← hc]
    exact (Int.eq_of_mul_eq_mul_left (by omega) h4).symm
  rw [e]
  exact Int.coe_lcm_dvd ha hp
theorem hypN_ok {l : List Task} (h : okSet l = true) : ∀ j, j ≤ l.length → 1 ≤ hypN l j ∧ hypN l j ∣ 27720
  | 0, _ => by unfold hypN; exact ⟨by omega, ⟨27720, by omega⟩⟩
  | j + 1, hj => by
    obtain ⟨h1, h2⟩ := hypN_ok h j (by omega)
    have ht := okSet_tk h (show j < l.length by omega)
    unfold hypN
    refine ⟨?_, lcm_dvd h2 (small_dvd (by omega) (by omega)) (by omega) (by omega)⟩
    have hg : ((Int.gcd (hypN l j) (tk l j).f2 : Nat) : Int) ∣ hypN l j := Int.gcd_dvd_left _ _
    have hg0 : 0 < ((Int.gcd (hypN l j) (tk l j).f2 : Nat) : Int) := by
      have := Int.gcd_pos_of_ne_zero_left (tk l j).f2 (show hypN l j ≠ 0 by omega)
      omega
    have hd : 1 ≤ hypN l j / ((Int.gcd (hypN l j) (tk l j).f2 : Nat) : Int) := by
      have := Int.le_of_dvd (by omega) hg
      exact Int.le_ediv_of_mul_le hg0 (by omega)
    calc (1 : Int) ≤ 1 * 1 := by omega
      _ ≤ _ := Int.mul_le_mul hd (by omega) (by omega) (by omega)
theorem hypN_le {l : List Task} (h : okSet l = true) {j : Nat} (hj : j ≤ l.length) : 1 ≤ hypN l j ∧ hypN l j ≤ 27720 := by
  obtain ⟨h1, h2⟩ := hypN_ok h j hj
  exact ⟨h1, Int.le_of_dvd (by omega) h2⟩
theorem gcd_pos' {a p : Int} (h : 1 ≤ a) : 1 ≤ ((Int.gcd a p : Nat) : Int) := by
  have := Int.gcd_pos_of_ne_zero_left p (show a ≠ 0 by omega)
  omega
theorem hypN_step {l : List Task} (h : okSet l = true) {j : Nat} (hj : j < l.length) :
    wrap64 (wrap64 (Int.tdiv (hypN l j) (Int.gcd (hypN l j) (tk l j).f2 : Int)) * (tk l j).f2) = hypN l (j + 1) := by
  obtain ⟨h1, h2⟩ := hypN_le h (show j ≤ l.length by omega)
  obtain ⟨h3, h4⟩ := hypN_le h (show j + 1 ≤ l.length by omega)
  have hg := gcd_pos' (p := (tk l j).f2) h1
  rw [tdiv_pos (by omega)]
  have h5 : 0 ≤ hypN l j / (Int.gcd (hypN l j) (tk l j).f2 : Int) := Int.ediv_nonneg (by omega) (by omega)
  have h6 : hypN l j / (Int.gcd (hypN l j) (tk l j).f2 : Int) ≤ hypN l j := Int.ediv_le_self _ (by omega)
  rw [wrap_id (n := hypN l j / _) (by omega) (by omega)]
  exact wrap_id (by show _ ≤ hypN l (j + 1); omega) (by show hypN l (j + 1) ≤ _; omega)
theorem spec_hyper_ev {l : List Task} (h : okSet l = true) : Tl (fun k => spec_l1Hyper.f k l) (hyp l) := by
  unfold spec_l1Hyper.f
  have hl := okSet_len h
  refine down (Q := fun j => Tl (fun k => spec_l1Hyper.l0 k l (hypN l j) (j : Int)) (hyp l)) l.length ?_ ?_
  · refine Tl.step ?_
    simp only [spec_l1Hyper.l0]
    refine Tl.iteF (by omega) ?_
    exact Tl.ret _
  · intro j hj hh
    obtain ⟨h1, h2⟩ := hypN_le h (show j ≤ l.length by omega)
    have ht := okSet_tk h hj
    refine Tl.step ?_
    simp only [spec_l1Hyper.l0, rd_tk]
    refine Tl.iteT (by omega) (Tl.iteT (by omega) (Tl.bind (spec_l1Gcd_ev _ _ (by omega) (by omega)) ?_))
    have hg := gcd_pos' (p := (tk l j).f2) h1
    refine Tl.iteF (by omega) ?_
    rw [hypN_step h hj, wrap_succ hj (by omega)]
    exact hh
theorem impl_lcm_ev {l : List Task} (h : okSet l = true) {j : Nat} (hj : j < l.length) : Tl (fun k => impl_lcm.f k (hypN l j) (tk l j).f2) (hypN l (j + 1)) := by
  obtain ⟨h1, h2⟩ := hypN_le h (show j ≤ l.length by omega)
  have ht := okSet_tk h hj
  unfold impl_lcm.f
  refine Tl.bind (impl_gcd_ev _ _ (by omega) (by omega)) ?_
  have hg := gcd_pos' (p := (tk l j).f2) h1
  refine Tl.iteF (by omega) ?_
  rw [hypN_step h hj]
  exact Tl.ret _
theorem impl_hyper_ev {l : List Task} (h : okSet l = true) : Tl (fun k => impl_hyper.f k l) (hyp l) := by
  unfold impl_hyper.f
  have hl := okSet_len h
  refine down (Q := fun j => Tl (fun k => impl_hyper.l0 k (hypN l j) l (l.length : Int) (j : Int)) (hyp l)) l.length ?_ ?_
  · refine Tl.step ?_
    simp only [impl_hyper.l0]
    refine Tl.iteF (by omega) ?_
    exact Tl.ret _
  · intro j hj hh
    refine Tl.step ?_
    simp only [impl_hyper.l0, rd_tk]
    refine Tl.iteT (by omega) (Tl.iteT (by omega) (Tl.iteT (by omega) (Tl.bind (impl_lcm_ev h hj) ?_)))
    rw [wrap_succ hj (by omega)]
    exact hh
theorem hyp_le {l : List Task} (h : okSet l = true) : 1 ≤ hyp l ∧ hyp l ≤ 27720 := hypN_le h (Nat.le_refl _)
theorem hypN_dvd {l : List Task} (h : okSet l = true) : ∀ m, m ≤ l.length → ∀ j, j < m → (tk l j).f2 ∣ hypN l m
  | 0, _, j, hj => by omega
  | m + 1, hm, j, hj => by
    have h1 := (hypN_le h (show m ≤ l.length by omega)).1
    have ht := okSet_tk h (show m < l.length by omega)
    have e : hypN l (m + 1) = (Int.lcm (hypN l m) (tk l m).f2 : Int) := by
      apply Int.dvd_antisymm (by have := (hypN_le h hm).1; omega) (by omega)
      · exact lcm_dvd (Int.dvd_lcm_left _ _) (Int.dvd_lcm_right _ _) (by omega) (by omega)
      · apply Int.coe_lcm_dvd
        · obtain ⟨c, hc⟩ : ((Int.gcd (hypN l m) (tk l m).f2 : Nat) : Int) ∣ (tk l m).f2 := Int.gcd_dvd_right _ _
          obtain ⟨d, hd⟩ : ((Int.gcd (hypN l m) (tk l m).f2 : Nat) : Int) ∣ hypN l m := Int.gcd_dvd_left _ _
          have hg := gcd_pos' (p := (tk l m).f2) h1
          have h3 : hypN l m / ((Int.gcd (hypN l m) (tk l m).f2 : Nat) : Int) = d := Int.ediv_eq_of_eq_mul_right (by omega) hd
          refine ⟨c, ?_⟩
          show hypN l m / ((Int.gcd (hypN l m) (tk l m).f2 : Nat) : Int) * (tk l m).f2 = _
          rw [h3]
          generalize ((Int.gcd (hypN l m) (tk l m).f2 : Nat) : Int) = g at hc hd
          rw [hc, hd, Int.mul_left_comm, Int.mul_assoc]
        · exact ⟨hypN l m / ((Int.gcd (hypN l m) (tk l m).f2 : Nat) : Int), Int.mul_comm _ _⟩
    rw [e]
    rcases Nat.lt_or_ge j m with hlt | hge
    · exact Int.dvd_trans (hypN_dvd h m (by omega) j hlt) (Int.dvd_lcm_left _ _)
    · obtain rfl : j = m := by omega
      exact Int.dvd_lcm_right _ _

/-- One task's part of the demand. -/
def demT (x : Task) (t : Int) : Int := if t ≥ x.f1 then ((t - x.f1) / x.f2 + 1) * x.f0 else 0
def demN (l : List Task) (t : Int) : Nat → Int
  | 0 => 0
  | j + 1 => demN l t j + demT (tk l j) t
def dem (l : List Task) (t : Int) : Int := demN l t l.length
theorem demT_le {x : Task} (h : 1 ≤ x.f0 ∧ x.f0 ≤ 8 ∧ x.f0 ≤ x.f1 ∧ x.f1 ≤ x.f2 ∧ x.f2 ≤ 12) {t : Int} (h1 : t ≤ 1000000) : 0 ≤ demT x t ∧ demT x t ≤ 8000008 := by
  unfold demT
  split
  · rename_i ht
    have h2 : 0 ≤ (t - x.f1) / x.f2 := Int.ediv_nonneg (by omega) (by omega)
    have h3 : (t - x.f1) / x.f2 ≤ t - x.f1 := Int.ediv_le_self _ (by omega)
    constructor
    · exact Int.mul_nonneg (by omega) (by omega)
    · calc ((t - x.f1) / x.f2 + 1) * x.f0 ≤ 1000001 * 8 := Int.mul_le_mul (by omega) (by omega) (by omega) (by omega)
        _ ≤ _ := by omega
  · omega
theorem demN_le {l : List Task} (h : okSet l = true) {t : Int} (h1 : t ≤ 1000000) : ∀ j, j ≤ l.length → 0 ≤ demN l t j ∧ demN l t j ≤ 8000008 * j
  | 0, _ => by unfold demN; omega
  | j + 1, hj => by
    have h2 := demN_le h h1 j (by omega)
    have h3 := demT_le (okSet_tk h (show j < l.length by omega)) h1
    unfold demN
    omega
theorem dem_le {l : List Task} (h : okSet l = true) {t : Int} (h1 : t ≤ 1000000) : 0 ≤ dem l t ∧ dem l t ≤ 40000040 := by
  have h2 := demN_le h h1 l.length (Nat.le_refl _)
  have h3 := okSet_len h
  unfold dem
  omega
theorem dem_step {l : List Task} (h : okSet l = true) {t : Int} (h0 : 0 ≤ t) (h1 : t ≤ 1000000) {j : Nat} (hj : j < l.length) (ht : t ≥ (tk l j).f1) :
    wrap64 (demN l t j + wrap64 (wrap64 (wrap64 (Int.tdiv (wrap64 (t - (tk l j).f1)) (tk l j).f2) + 1) * (tk l j).f0)) = demN l t (j + 1) := by
  have h2 := okSet_tk h hj
  have h3 := demT_le h2 h1
  have h4 := demN_le h h1 (j + 1) (by omega)
  have h5 := demN_le h h1 j (by omega)
  have hl := okSet_len h
  have e1 : wrap64 (t - (tk l j).f1) = t - (tk l j).f1 := wrap_id (by omega) (by omega)
  rw [e1, tdiv_pos (by omega)]
  have h6 : 0 ≤ (t - (tk l j).f1) / (tk l j).f2 := Int.ediv_nonneg (by omega) (by omega)
  have h7 : (t - (tk l j).f1) / (tk l j).f2 ≤ t - (tk l j).f1 := Int.ediv_le_self _ (by omega)
  rw [wrap_id (n := (t - (tk l j).f1) / (tk l j).f2) (by omega) (by omega), wrap_id (n := (t - (tk l j).f1) / (tk l j).f2 + 1) (by omega) (by omega)]
  have e2 : ((t - (tk l j).f1) / (tk l j).f2 + 1) * (tk l j).f0 = demT (tk l j) t := by unfold demT; rw [if_pos ht]
  rw [e2, wrap_id (n := demT (tk l j) t) (by omega) (by omega)]
  show wrap64 (demN l t (j + 1)) = _
  exact wrap_id (by omega) (by omega)
theorem dem_skip {l : List Task} {t : Int} {j : Nat} (ht : ¬ t ≥ (tk l j).f1) : demN l t j = demN l t (j + 1) := by
  show _ = demN l t j + demT (tk l j) t
  unfold demT
  rw [if_neg ht]
  omega
theorem spec_demand_ev {l : List Task} (h : okSet l = true) {t : Int} (h0 : 0 ≤ t) (h1 : t ≤ 1000000) : Tl (fun k => spec_l2Demand.f k l t) (dem l t) := by
  unfold spec_l2Demand.f
  have hl := okSet_len h
  refine down (Q := fun j => Tl (fun k => spec_l2Demand.l0 k l t (demN l t j) (j : Int)) (dem l t)) l.length ?_ ?_
  · refine Tl.step ?_
    simp only [spec_l2Demand.l0]
    refine Tl.iteF (by omega) ?_
    exact Tl.ret _
  · intro j hj hh
    have h2 := okSet_tk h hj
    refine Tl.step ?_
    simp only [spec_l2Demand.l0, rd_tk]
    refine Tl.iteT (by omega) (Tl.iteT (by omega) ?_)
    by_cases ht : t ≥ (tk l j).f1
    · refine Tl.iteT ht (Tl.iteF (by omega) ?_)
      rw [dem_step h h0 h1 hj ht, wrap_succ hj (by omega)]
      exact hh
    · refine Tl.iteF ht ?_
      rw [wrap_succ hj (by omega), dem_skip ht]
      exact hh
theorem impl_demand_ev {l : List Task} (h : okSet l = true) {t : Int} (h0 : 0 ≤ t) (h1 : t ≤ 1000000) : Tl (fun k => impl_demand.f k l t) (dem l t) := by
  unfold impl_demand.f
  have hl := okSet_len h
  refine down (Q := fun j => Tl (fun k => impl_demand.l0 k t (demN l t j) l (l.length : Int) (j : Int)) (dem l t)) l.length ?_ ?_
  · refine Tl.step ?_
    simp only [impl_demand.l0]
    refine Tl.iteF (by omega) ?_
    exact Tl.ret _
  · intro j hj hh
    have h2 := okSet_tk h hj
    refine Tl.step ?_
    simp only [impl_demand.l0, rd_tk]
    refine Tl.iteT (by omega) (Tl.iteT (by omega) (Tl.iteT (by omega) ?_))
    by_cases ht : t ≥ (tk l j).f1
    · refine Tl.iteT ht (Tl.iteF (by omega) ?_)
      rw [dem_step h h0 h1 hj ht, wrap_succ hj (by omega)]
      exact hh
    · refine Tl.iteF ht ?_
      rw [wrap_succ hj (by omega), dem_skip ht]
      exact hh

/-- The first overload from t on, n times tried. -/
def overN (l : List Task) : Nat → Int → Int
  | 0, _ => -1
  | n + 1, t => if dem l t > t then t else overN l n (t + 1)
def over (l : List Task) : Int := overN l (hyp l).toNat 1
theorem overN_range (l : List Task) : ∀ (n : Nat) (t : Int), 1 ≤ t → overN l n t = -1 ∨ (t ≤ overN l n t ∧ overN l n t < t + n)
  | 0, t, _ => .inl rfl
  | n + 1, t, h => by
    unfold overN
    split
    · exact .inr (by omega)
    · rcases overN_range l n (t + 1) (by omega) with h1 | h1
      · exact .inl h1
      · exact .inr (by omega)
theorem over_range (l : List Task) : over l = -1 ∨ 1 ≤ over l ∧ over l ≤ (hyp l).toNat := by
  rcases overN_range l (hyp l).toNat 1 (by omega) with h | h
  · exact .inl h
  · exact .inr (by unfold over; omega)
theorem spec_overN_ev {l : List Task} (h : okSet l = true) : ∀ (n : Nat) (t : Int), 1 ≤ t → t + n = hyp l + 1 → Tl (fun k => spec_l2Overload.l0 k l (hyp l) t) (overN l n t)
  | 0, t, h1, h2 => by
    refine Tl.step ?_
    simp only [spec_l2Overload.l0]
    exact Tl.iteF (by omega) (Tl.ret _)
  | n + 1, t, h1, h2 => by
    have hh := hyp_le h
    refine Tl.step ?_
    simp only [spec_l2Overload.l0]
    refine Tl.iteT (by omega) (Tl.bind (spec_demand_ev h (by omega) (by omega)) ?_)
    rw [wrap_id (n := t + 1) (by omega) (by omega)]
    by_cases hc : dem l t > t
    · unfold overN; rw [if_pos hc]; exact Tl.iteT hc (Tl.ret _)
    · unfold overN; rw [if_neg hc]; exact Tl.iteF hc (spec_overN_ev h n (t + 1) (by omega) (by omega))
theorem impl_overN_ev {l : List Task} (h : okSet l = true) : ∀ (n : Nat) (t : Int), 1 ≤ t → t + n = hyp l + 1 → Tl (fun k => impl_FirstOverload.l0 k l t) (overN l n t)
  | 0, t, h1, h2 => by
    refine Tl.step ?_
    simp only [impl_FirstOverload.l0]
    exact Tl.bind (impl_hyper_ev h) (Tl.iteF (by omega) (Tl.ret _))
  | n + 1, t, h1, h2 => by
    have hh := hyp_le h
    refine Tl.step ?_
    simp only [impl_FirstOverload.l0]
    refine Tl.bind (impl_hyper_ev h) (Tl.iteT (by omega) (Tl.bind (impl_demand_ev h (by omega) (by omega)) ?_))
    rw [wrap_id (n := t + 1) (by omega) (by omega)]
    by_cases hc : dem l t > t
    · unfold overN; rw [if_pos hc]; exact Tl.iteT hc (Tl.ret _)
    · unfold overN; rw [if_neg hc]; exact Tl.iteF hc (impl_overN_ev h n (t + 1) (by omega) (by omega))
theorem spec_over_ev {l : List Task} (h : okSet l = true) : Tl (fun k => spec_l2Overload.f k l (hyp l)) (over l) := by
  have hh := hyp_le h
  exact spec_overN_ev h _ _ (by omega) (by omega)
def FirstOverload_D (l : List Task) : Int := if okSet l = true then over l else -1
theorem impl_FirstOverload_ev (l : List Task) (hl : l.length ≤ 1048576) : Tl (fun k => impl_FirstOverload.f k l) (FirstOverload_D l) := by
  unfold impl_FirstOverload.f FirstOverload_D
  refine Tl.bind (impl_SetValid_ev l hl) ?_
  by_cases h : okSet l = true
  · have hh := hyp_le h
    rw [if_pos h]; exact Tl.iteT h (impl_overN_ev h _ _ (by omega) (by omega))
  · rw [if_neg h]; exact Tl.iteF h (Tl.ret _)
/-- Is a valid set schedulable? -/
def feas (l : List Task) : Bool := decide (over l < 0)
theorem spec_edf_ev {l : List Task} (h : okSet l = true) : Tl (fun k => spec_l2Edf.f k l) (feas l) := by
  unfold spec_l2Edf.f
  refine Tl.bind (spec_hyper_ev h) (Tl.bind (spec_over_ev h) ?_)
  have e : (over l == -1) = feas l := by
    unfold feas
    rw [Bool.eq_iff_iff, beq_iff_eq, decide_eq_true_eq]
    rcases over_range l with h1 | h1 <;> omega
  rw [e]
  exact Tl.ret _
theorem impl_feasible_ev {l : List Task} (h : okSet l = true) : Tl (fun k => impl_feasible.f k l) (feas l) := by
  unfold impl_feasible.f
  have := impl_FirstOverload_ev l (by have := okSet_len h; omega)
  unfold FirstOverload_D at this
  rw [if_pos h] at this
  exact Tl.bind this (Tl.ret _)
end Go.Proofs.Ytfciajbahgjflaa.Print

namespace Go.Proofs.Ytfciajbahgjflaa.Print
open Go.RowKit Go.Proofs.YtfciajbahgjflaaW.PrintWords Go.Proofs.YtfciajbahgjflaaW.PrintMore Go.Proofs.Ytfciajbahgjflaa.Evs Go.Proofs.Ytfciajbahgjflaa.Opens
set_option linter.unusedSimpArgs false
set_option linter.unusedVariables false
theorem gset (l : List Int) (i j : Nat) (x : Int) : (l.set i x).getD j 0 = if i = j ∧ j < l.length then x else l.getD j 0 := by
  simp only [List.getD_eq_getElem?_getD, List.getElem?_set]
  by_cases h : i = j
  · subst h
    by_cases h2 : i < l.length
    · simp [h2]
    · simp [h2]
  · simp [h]
/-- When task i's job of time t is due. -/
def dueV (s : List Task) (i t : Nat) : Int := (t : Int) / (tk s i).f2 * (tk s i).f2 + (tk s i).f1
theorem div_in {t : Nat} {P : Int} (h : 1 ≤ P) : 0 ≤ (t : Int) / P ∧ (t : Int) / P ≤ t ∧ 0 ≤ (t : Int) / P * P ∧ (t : Int) / P * P ≤ t := by
  have h1 : 0 ≤ (t : Int) / P := Int.ediv_nonneg (by omega) (by omega)
  have h2 := Int.mul_ediv_add_emod (t : Int) P
  have h3 := Int.emod_nonneg (t : Int) (show P ≠ 0 by omega)
  have h4 := Int.mul_nonneg h1 (show 0 ≤ P by omega)
  have h5 := Int.mul_le_mul_of_nonneg_left h h1
  rw [Int.mul_comm] at h2
  omega
theorem due_same {s : List Task} {i t : Nat} (hP : 1 ≤ (tk s i).f2) (ht : 0 < t) (h : ¬ (t : Int) % (tk s i).f2 = 0) : dueV s i (t - 1) = dueV s i t := by
  unfold dueV
  generalize (tk s i).f2 = P at hP h ⊢
  have h2 := Int.mul_ediv_add_emod (t : Int) P
  have h3 := Int.emod_nonneg (t : Int) (show P ≠ 0 by omega)
  have h4 := Int.emod_lt_of_pos (t : Int) (show 0 < P by omega)
  have e : (((t - 1 : Nat) : Int)) = ((t : Int) % P - 1) + P * ((t : Int) / P) := by omega
  rw [e, Int.add_mul_ediv_left _ _ (show P ≠ 0 by omega), Int.ediv_eq_zero_of_lt (by omega) (by omega), Int.zero_add]
theorem due_start {s : List Task} {i t : Nat} (hP : 1 ≤ (tk s i).f2) (h : (t : Int) % (tk s i).f2 = 0) : dueV s i t = (t : Int) + (tk s i).f1 := by
  unfold dueV
  have h2 := Int.mul_ediv_add_emod (t : Int) (tk s i).f2
  rw [Int.mul_comm] at h2
  omega
theorem due_le {s : List Task} (h : okSet s = true) {i t : Nat} (hi : i < s.length) : 0 ≤ dueV s i t ∧ dueV s i t ≤ t + 12 := by
  have h1 := okSet_tk h hi
  have h2 := div_in (t := t) (P := (tk s i).f2) (by omega)
  unfold dueV
  omega
theorem l13Due_ev {s : List Task} (h : okSet s = true) {i t : Nat} (hi : i < s.length) (ht : t ≤ 720) : spec_l13Due.f s (i : Int) (t : Int) = some (dueV s i t) := by
  have h1 := okSet_tk h hi
  have h2 := div_in (t := t) (P := (tk s i).f2) (by omega)
  have h3 := due_le h hi (t := t)
  have h4 : 0 ≤ (t : Int) := by omega
  have hz : ¬ (rd_T43 s (i : Int)).f2 = 0 := by rw [rd_tk]; omega
  unfold spec_l13Due.f
  rw [if_pos (by omega), if_pos (by omega), if_neg hz]
  simp only [rd_tk]
  rw [Int.tdiv_eq_ediv_of_nonneg h4, wrap_id (n := (t : Int) / (tk s i).f2) (by omega) (by omega), wrap_id (n := (t : Int) / (tk s i).f2 * (tk s i).f2) (by omega) (by omega)]
  unfold dueV at h3 ⊢
  rw [wrap_id (by omega) (by omega)]
/-- What holds in a tick when the tasks below i are done. -/
structure TI (s : List Task) (t : Nat) (due : List Int) (i : Nat) (x : List Int × List Int × Int) : Prop where
  hd : ∀ j, j < i → x.2.1.getD j 0 = dueV s j t
  hr : ∀ j, i ≤ j → x.2.1.getD j 0 = due.getD j 0
  hl : ∀ j, 0 ≤ x.1.getD j 0 ∧ x.1.getD j 0 ≤ 8
  hb : 0 ≤ x.2.2 → x.1.getD x.2.2.toNat 0 > 0
structure T0 (s : List Task) (t : Nat) (left due : List Int) : Prop where
  ok : okSet s = true
  le : t ≤ 720
  ll : left.length = s.length
  ld : due.length = s.length
  hd : 0 < t → ∀ j, j < s.length → due.getD j 0 = dueV s j (t - 1)
  hl : ∀ j, 0 ≤ left.getD j 0 ∧ left.getD j 0 ≤ 8
theorem tbI_inv {s : List Task} {t : Nat} {left due : List Int} (h : T0 s t left due) : ∀ i, i ≤ s.length → TI s t due i (tbI s (t : Int) left due i)
  | 0, _ => ⟨fun j hj => by omega, fun j _ => rfl, h.hl, fun hb => by have : (0 : Int) ≤ -1 := hb; omega⟩
  | i + 1, hi => by
    have ih := tbI_inv h i (by omega)
    have hn := tbI_len s (t : Int) left due i
    have h1 := okSet_tk h.ok (j := i) (by omega)
    have e : tbI s (t : Int) left due (i + 1) = (tbL s (t : Int) i (tbI s (t : Int) left due i).1, tbD s (t : Int) i (tbI s (t : Int) left due i).2.1, tbB i (tbL s (t : Int) i (tbI s (t : Int) left due i).1) (tbD s (t : Int) i (tbI s (t : Int) left due i).2.1) (tbI s (t : Int) left due i).2.2) := rfl
    rw [e]
    clear e
    generalize tbI s (t : Int) left due i = Y at ih hn ⊢
    obtain ⟨lf, du, be⟩ := Y
    obtain ⟨i1, i2, i3, i4⟩ := ih
    simp only at i1 i2 i3 i4 hn ⊢
    obtain ⟨n1, n2, n3, n4⟩ := hn
    have hll := h.ll
    have hld := h.ld
    have eP : (s.getD i z43) = tk s i := rfl
    have hL : ∀ j, (tbL s (t : Int) i lf).getD j 0 = if i = j ∧ (t : Int) % (tk s i).f2 = 0 then (tk s i).f0 else lf.getD j 0 := by
      intro j
      unfold tbL
      rw [eP]
      by_cases c : (t : Int) % (tk s i).f2 = 0
      · rw [if_pos c, gset]
        by_cases c2 : i = j
        · rw [if_pos ⟨c2, by omega⟩, if_pos ⟨c2, c⟩]
        · rw [if_neg (fun g => c2 g.1), if_neg (fun g => c2 g.1)]
      · rw [if_neg c, if_neg (fun g => c g.2)]
    have hD : ∀ j, (tbD s (t : Int) i du).getD j 0 = if i = j ∧ (t : Int) % (tk s i).f2 = 0 then (t : Int) + (tk s i).f1 else du.getD j 0 := by
      intro j
      unfold tbD
      have := h.le
      rw [eP, wrap_id (by omega) (by omega)]
      by_cases c : (t : Int) % (tk s i).f2 = 0
      · rw [if_pos c, gset]
        by_cases c2 : i = j
        · rw [if_pos ⟨c2, by omega⟩, if_pos ⟨c2, c⟩]
        · rw [if_neg (fun g => c2 g.1), if_neg (fun g => c2 g.1)]
      · rw [if_neg c, if_neg (fun g => c g.2)]
    refine ⟨fun j hj => ?_, fun j hj => ?_, fun j => ?_, ?_⟩
    · show (tbD s (t : Int) i du).getD j 0 = _
      rw [hD j]
      by_cases c2 : i = j
      · subst c2
        by_cases c : (t : Int) % (tk s i).f2 = 0
        · rw [if_pos ⟨rfl, c⟩, due_start (by omega) c]
        · have ht : 0 < t := by
            rcases Nat.eq_zero_or_pos t with h0 | h0
            · subst h0; exact absurd (Int.zero_emod _) c
            · exact h0
          rw [if_neg (fun g => c g.2), i2 i (Nat.le_refl _), h.hd ht i (by omega), due_same (by omega) ht c]
      · rw [if_neg (fun g => c2 g.1)]
        exact i1 j (by omega)
    · show (tbD s (t : Int) i du).getD j 0 = _
      rw [hD j, if_neg (fun g => by omega)]
      exact i2 j (by omega)
    · show 0 ≤ (tbL s (t : Int) i lf).getD j 0 ∧ (tbL s (t : Int) i lf).getD j 0 ≤ 8
      rw [hL j]
      split
      · omega
      · exact i3 j
    · show 0 ≤ tbB i (tbL s (t : Int) i lf) (tbD s (t : Int) i du) be → (tbL s (t : Int) i lf).getD (tbB i (tbL s (t : Int) i lf) (tbD s (t : Int) i du) be).toNat 0 > 0
      have keep : 0 ≤ be → (tbL s (t : Int) i lf).getD be.toNat 0 > 0 := fun hb => by
        rw [hL be.toNat, if_neg (fun g => by omega)]
        exact i4 hb
      unfold tbB
      split
      · rename_i c
        split
        · intro _; rw [Int.toNat_natCast]; exact c
        · split
          · intro _; rw [Int.toNat_natCast]; exact c
          · exact keep
      · exact keep
theorem rd_t (o : List Int) (j : Nat) : rd o (j : Int) = o.getD j 0 := rfl
theorem spec_in_ev {s : List Task} {t : Nat} {left due o : List Int} (h : T0 s t left due) {r : List Int × Bool} (he : Tl (fun k => spec_Table.l1 k s o (tbI s (t : Int) left due s.length).1 (t : Int) (tbI s (t : Int) left due s.length).2.2 (s.length : Int)) r) :
    Tl (fun k => spec_Table.l1 k s o left (t : Int) (-1) 0) r := by
  refine down (Q := fun j => Tl (fun k => spec_Table.l1 k s o (tbI s (t : Int) left due j).1 (t : Int) (tbI s (t : Int) left due j).2.2 (j : Int)) r) s.length he ?_
  intro j hj hh
  have hI := tbI_inv h (j + 1) (by omega)
  have hn := tbI_len s (t : Int) left due j
  have hn' := tbI_len s (t : Int) left due (j + 1)
  have h1 := okSet_tk h.ok (j := j) (by omega)
  have hs5 := okSet_len h.ok
  have eL : (tbI s (t : Int) left due (j + 1)).1 = tbL s (t : Int) j (tbI s (t : Int) left due j).1 := rfl
  have eB : (tbI s (t : Int) left due (j + 1)).2.2 = tbB j (tbI s (t : Int) left due (j + 1)).1 (tbI s (t : Int) left due (j + 1)).2.1 (tbI s (t : Int) left due j).2.2 := rfl
  generalize tbI s (t : Int) left due (j + 1) = Y' at hI hn' eL eB hh
  generalize tbI s (t : Int) left due j = Y at hn eL eB ⊢
  obtain ⟨lf, du, be⟩ := Y
  obtain ⟨lf', du', be'⟩ := Y'
  simp only at hn hn' eL eB hh ⊢
  obtain ⟨n1, n2, n3, n4⟩ := hn
  have hll := h.ll
  have hj3 : Tl (fun k => spec_Table.j3 k s o lf' (t : Int) be (j : Int)) r := by
    refine Tl.step ?_
    simp only [spec_Table.j3, rd_t]
    rw [wrap_succ hj (by omega)]
    refine Tl.iteT (by omega) (Tl.iteT (by omega) ?_)
    unfold tbB at eB
    by_cases c2 : lf'.getD j 0 > 0
    · rw [if_pos c2] at eB
      refine Tl.iteT c2 ?_
      by_cases c3 : be < 0
      · rw [if_pos c3] at eB
        rw [← eB]
        exact Tl.iteT c3 hh
      · rw [if_neg c3] at eB
        refine Tl.iteF c3 ?_
        obtain ⟨m, rfl⟩ : ∃ m : Nat, be = (m : Int) := ⟨be.toNat, by omega⟩
        rw [Int.toNat_natCast] at eB
        have d1 : du'.getD j 0 = dueV s j t := hI.hd j (by omega)
        have d2 : du'.getD m 0 = dueV s m t := hI.hd m (by omega)
        rw [d1, d2] at eB
        refine Tl.bind (Tl.of_eq fun _ => l13Due_ev h.ok hj h.le) (Tl.bind (Tl.of_eq fun _ => l13Due_ev h.ok (by omega) h.le) ?_)
        by_cases c4 : dueV s j t < dueV s m t
        · rw [if_pos c4] at eB
          rw [← eB]
          exact Tl.iteT c4 hh
        · rw [if_neg c4] at eB
          rw [← eB]
          exact Tl.iteF c4 hh
    · rw [if_neg c2] at eB
      rw [← eB]
      exact Tl.iteF c2 hh
  refine Tl.step ?_
  simp only [spec_Table.l1, rd_tk]
  have htm : Int.tmod (t : Int) (tk s j).f2 = (t : Int) % (tk s j).f2 := Int.tmod_eq_emod_of_nonneg (show 0 ≤ (t : Int) by omega)
  refine Tl.iteT (by omega) (Tl.iteT (by omega) (Tl.iteF (by omega) ?_))
  unfold tbL at eL
  have eP : (s.getD j z43) = tk s j := rfl
  rw [eP] at eL
  by_cases c1 : (t : Int) % (tk s j).f2 = 0
  · rw [if_pos c1] at eL
    refine Tl.iteT (htm.trans c1) (Tl.iteT (by omega) ?_)
    rw [Int.toNat_natCast, ← eL]
    exact hj3
  · rw [if_neg c1] at eL
    refine Tl.iteF (fun g => c1 (htm.symm.trans g)) ?_
    rw [← eL]
    exact hj3
theorem tbN_T0 {s : List Task} (h : okSet s = true) {H : Nat} (hH : H ≤ 720) : ∀ t, t ≤ H → T0 s t (tbN s H t).2.1 (tbN s H t).2.2
  | 0, _ => by
    refine ⟨h, by omega, by unfold tbN; simp, by unfold tbN; simp, fun h0 => by omega, fun j => ?_⟩
    have : ((List.replicate s.length (0 : Int)).getD j 0) = 0 := by
      rw [List.getD_eq_getElem?_getD, List.getElem?_replicate]
      split <;> rfl
    show 0 ≤ (List.replicate s.length (0 : Int)).getD j 0 ∧ (List.replicate s.length (0 : Int)).getD j 0 ≤ 8
    omega
  | t + 1, ht => by
    have ih := tbN_T0 h hH t (by omega)
    have hln := tbN_len s H (t + 1)
    have hI := tbI_inv ih s.length (Nat.le_refl _)
    have e : tbN s H (t + 1) = tbT s t (tbN s H t) := rfl
    have hn := tbI_len s (t : Int) (tbN s H t).2.1 (tbN s H t).2.2 s.length
    unfold tbT at e
    simp only at e
    generalize tbI s (t : Int) (tbN s H t).2.1 (tbN s H t).2.2 s.length = Y at hI e hn
    obtain ⟨lf, du, be⟩ := Y
    obtain ⟨i1, i2, i3, i4⟩ := hI
    simp only at i1 i2 i3 i4 e hn
    refine ⟨h, by omega, hln.2.1, hln.2.2, fun _ j hj => ?_, fun j => ?_⟩
    · have e2 : (tbN s H (t + 1)).2.2 = du := by rw [e]; split <;> rfl
      rw [e2]
      exact i1 j hj
    · by_cases c : be ≥ 0
      · rw [if_pos c] at e
        rw [e]
        show 0 ≤ (lf.set be.toNat (wrap64 (lf.getD be.toNat 0 - 1))).getD j 0 ∧ (lf.set be.toNat (wrap64 (lf.getD be.toNat 0 - 1))).getD j 0 ≤ 8
        have hp := i4 c
        have hp2 := i3 be.toNat
        rw [wrap_id (by omega) (by omega), gset]
        split
        · omega
        · exact i3 j
      · rw [if_neg c] at e
        rw [e]
        exact i3 j
theorem spec_tab_ev {s : List Task} (h : okSet s = true) {H : Nat} (hH : hyp s = (H : Int)) (h72 : H ≤ 720) : ∀ (d t : Nat) (o : List Int), t + d = H → (tbN s H t).1 = o ++ List.replicate d (-1) → o.length = t →
    Tl (fun k => spec_Table.l0 k s o (tbN s H t).2.1 (t : Int)) ((tbN s H H).1, true)
  | 0, t, o, ht, ho, hl => by
    obtain rfl : t = H := by omega
    refine Tl.step ?_
    simp only [spec_Table.l0]
    refine Tl.bind (spec_hyper_ev h) (Tl.iteF (by omega) ?_)
    rw [ho]
    simp only [List.replicate_zero, List.append_nil]
    exact Tl.ret _
  | d + 1, t, o, ht, ho, hl => by
    have hT := tbN_T0 h h72 t (by omega)
    have e : tbN s H (t + 1) = tbT s t (tbN s H t) := rfl
    have hn := tbI_len s (t : Int) (tbN s H t).2.1 (tbN s H t).2.2 s.length
    have hI := tbI_inv hT s.length (Nat.le_refl _)
    have hs5 := okSet_len h
    refine Tl.step ?_
    simp only [spec_Table.l0]
    refine Tl.bind (spec_hyper_ev h) (Tl.iteT (by omega) (spec_in_ev hT ?_))
    unfold tbT at e
    simp only at e
    generalize tbI s (t : Int) (tbN s H t).2.1 (tbN s H t).2.2 s.length = Y at hI e hn ⊢
    obtain ⟨lf, du, be⟩ := Y
    simp only at e hn ⊢
    obtain ⟨n1, n2, n3, n4⟩ := hn
    have hll := hT.ll
    refine Tl.step ?_
    simp only [spec_Table.l1]
    refine Tl.iteF (by omega) ?_
    rw [wrap_succ (n := H) (by omega) (by omega)]
    by_cases c : be ≥ 0
    · rw [if_pos c, ho, ← hl, List.set_append_right _ _ (Nat.le_refl _), Nat.sub_self, List.replicate_succ, List.set_cons_zero] at e
      have ih := spec_tab_ev h hH h72 d (t + 1) (o ++ [be]) (by omega) (by rw [← hl, e]; simp) (by simp [hl])
      rw [← hl, e, hl] at ih
      refine Tl.iteT c (Tl.iteT c (Tl.iteT (by omega) (Tl.iteT (by omega) ?_)))
      obtain ⟨m, rfl⟩ : ∃ m : Nat, be = (m : Int) := ⟨be.toNat, by omega⟩
      rw [Int.toNat_natCast] at ih
      simp only [rd_t, Int.toNat_natCast]
      exact ih
    · rw [if_neg c, ho] at e
      obtain rfl : be = -1 := by omega
      have ih := spec_tab_ev h hH h72 d (t + 1) (o ++ [-1]) (by omega) (by rw [e, List.replicate_succ]; simp) (by simp [hl])
      rw [e] at ih
      exact Tl.iteF c (Tl.iteT (by omega) ih)
def tabD (s : List Task) : List Int × Bool := if okSet s = true ∧ feas s = true ∧ hyp s ≤ 720 then ((tbN s (hyp s).toNat (hyp s).toNat).1, true) else ([], false)
theorem tabD_len (s : List Task) : (tabD s).1.length ≤ 720 := by
  unfold tabD
  split
  · rename_i h
    show (tbN s (hyp s).toNat (hyp s).toNat).1.length ≤ 720
    rw [(tbN_len s _ _).1]
    omega
  · show ([] : List Int).length ≤ 720
    simp
theorem spec_Table_ev (s : List Task) (hs : s.length ≤ 1048576) : Tl (fun k => spec_Table.f k s) (tabD s) := by
  unfold spec_Table.f tabD
  have hj : Tl (fun k => spec_Table.j0 k s true) ([], false) := by
    refine Tl.step ?_
    simp only [spec_Table.j0]
    exact Tl.iteT trivial (Tl.ret _)
  refine Tl.bind (spec_SetValid_ev s hs) ?_
  by_cases h : okSet s = true
  · refine Tl.iteT h (Tl.bind (spec_hyper_ev h) ?_)
    have hy := hyp_le h
    by_cases h2 : hyp s > 720
    · rw [if_neg (fun g => by omega)]
      exact Tl.iteT h2 hj
    · refine Tl.iteF h2 (Tl.bind (spec_edf_ev h) ?_)
      cases hf : feas s with
      | false =>
        rw [if_neg (fun g => by simp at g)]
        exact hj
      | true =>
        rw [if_pos ⟨h, rfl, by omega⟩]
        refine Tl.step ?_
        simp only [spec_Table.j0]
        have hs5 := okSet_len h
        refine Tl.iteF (by simp) (Tl.iteT (by omega) (Tl.iteT (by omega) ?_))
        have key := spec_tab_ev h (H := (hyp s).toNat) (by omega) (by omega) (hyp s).toNat 0 [] (by omega) (by unfold tbN; simp) rfl
        exact key
  · rw [if_neg (fun g => h g.1)]
    exact Tl.iteF h hj
theorem impl_Table_ev (s : List Task) (hs : s.length ≤ 1048576) : Tl (fun k => impl_Table.f k s) (tabD s) := by
  unfold impl_Table.f tabD
  refine Tl.bind (impl_SetValid_ev s hs) ?_
  by_cases h : okSet s = true
  · refine Tl.iteT h (Tl.bind (impl_feasible_ev h) ?_)
    cases hf : feas s with
    | false =>
      rw [if_neg (show ¬ (okSet s = true ∧ false = true ∧ hyp s ≤ 720) from fun g => by simp at g)]
      exact Tl.iteF (by simp) (Tl.ret _)
    | true =>
      refine Tl.iteT rfl (Tl.bind (impl_hyper_ev h) ?_)
      have hy := hyp_le h
      by_cases h2 : hyp s > 720
      · rw [if_neg (show ¬ (okSet s = true ∧ true = true ∧ hyp s ≤ 720) from fun g => by omega)]
        exact Tl.iteT h2 (Tl.ret _)
      · rw [if_pos (show okSet s = true ∧ true = true ∧ hyp s ≤ 720 from ⟨h, rfl, by omega⟩)]
        have hs5 := okSet_len h
        have hk : tbOk s (hyp s) = true := by
          unfold tbOk
          rw [Bool.and_eq_true, Bool.and_eq_true, List.all_eq_true]
          refine ⟨decide_eq_true (by omega), decide_eq_true (by omega), fun x hx => decide_eq_true ?_⟩
          obtain ⟨i, hi, rfl⟩ := List.getElem_of_mem hx
          have h1 := okSet_tk h hi
          have e : tk s i = s[i] := by unfold tk; rw [List.getD_eq_getElem?_getD, List.getElem?_eq_getElem hi]; rfl
          rw [e] at h1
          omega
        exact Tl.iteF h2 (Tl.iteT hk (Tl.ret _))
  · rw [if_neg (show ¬ (okSet s = true ∧ feas s = true ∧ hyp s ≤ 720) from fun g => h g.1)]
    exact Tl.iteF h (Tl.ret _)
end Go.Proofs.Ytfciajbahgjflaa.Print

namespace Go.Proofs.Ytfciajbahgjflaa.Print
open Go.RowKit Go.Proofs.YtfciajbahgjflaaW.PrintWords Go.Proofs.Ytfciajbahgjflaa.Evs Go.Proofs.Ytfciajbahgjflaa.Opens
set_option linter.unusedSimpArgs false
set_option linter.unusedVariables false
theorem wrap3 {m : Int} (h0 : 0 ≤ m) (h1 : m ≤ 100000000) : wrap64 ((wrap64 ((wrap64 (m + 1)) + 1)) + 1) = m + 3 := by
  rw [wrap_id (n := m + 1) (by omega) (by omega), wrap_id (n := m + 1 + 1) (by omega) (by omega), wrap_id (n := m + 1 + 1 + 1) (by omega) (by omega)]
  omega
theorem markTaskS_at : ∀ (d j : Nat) (l : List Task) (m : Int), j + d = l.length → 0 ≤ m → m + 3 * d ≤ 100000000 → l.length ≤ 1048576 → ∃ l', Tl (fun k => laws_markTaskS.l0 k l m (j : Int)) (m + 3 * d, l')
  | 0, j, l, m, e, h0, h1, h2 => by
    refine ⟨l, Tl.step ?_⟩
    simp only [laws_markTaskS.l0]
    exact Tl.iteF (by omega) (Tl.cast (Tl.ret _) (by rw [show m + 3 * ((0 : Nat) : Int) = m by omega]))
  | d + 1, j, l, m, e, h0, h1, h2 => by
    have key : ∀ x : List Task, x.length = l.length → ∃ l', Tl (fun k => laws_markTaskS.l0 k x (m + 3) ((j + 1 : Nat) : Int)) (m + 3 + 3 * d, l') := fun x hx => markTaskS_at d (j + 1) x (m + 3) (by omega) (by omega) (by omega) (by omega)
    obtain ⟨l', hl'⟩ := key _ (show (((l.set j ⟨m, (tk l j).f1, (tk l j).f2⟩).set j ⟨(tk (l.set j ⟨m, (tk l j).f1, (tk l j).f2⟩) j).f0, wrap64 (m + 1), (tk (l.set j ⟨m, (tk l j).f1, (tk l j).f2⟩) j).f2⟩).set j ⟨(tk ((l.set j ⟨m, (tk l j).f1, (tk l j).f2⟩).set j ⟨(tk (l.set j ⟨m, (tk l j).f1, (tk l j).f2⟩) j).f0, wrap64 (m + 1), (tk (l.set j ⟨m, (tk l j).f1, (tk l j).f2⟩) j).f2⟩) j).f0, (tk ((l.set j ⟨m, (tk l j).f1, (tk l j).f2⟩).set j ⟨(tk (l.set j ⟨m, (tk l j).f1, (tk l j).f2⟩) j).f0, wrap64 (m + 1), (tk (l.set j ⟨m, (tk l j).f1, (tk l j).f2⟩) j).f2⟩) j).f1, wrap64 ((wrap64 (m + 1)) + 1)⟩).length = l.length by simp only [List.length_set])
    refine ⟨l', Tl.step ?_⟩
    simp only [laws_markTaskS.l0, rd_tk, Int.toNat_natCast, Option.bind_some]
    rw [wrap3 h0 (by omega), wrap_succ (n := l.length) (by omega) (by omega)]
    exact Tl.iteT (by omega) (Tl.iteT (by omega) (Tl.cast hl' (by rw [show m + 3 + 3 * (d : Int) = m + 3 * ((d + 1 : Nat) : Int) by omega])))
theorem markTaskS_ev (l : List Task) (m : Int) (h0 : 0 ≤ m) (h1 : m ≤ 10000000) (hl : l.length ≤ 1048576) : ∃ l', Tl (fun k => laws_markTaskS.f k l m) (m + 3 * l.length, l') :=
  markTaskS_at l.length 0 l m (by omega) h0 (by omega) hl
end Go.Proofs.Ytfciajbahgjflaa.Print

namespace Go.Proofs.Ytfciajbahgjflaa.Print
open Go.RowKit Go.Proofs.YtfciajbahgjflaaW.PrintWords Go.Proofs.Ytfciajbahgjflaa.Evs Go.Proofs.Ytfciajbahgjflaa.Opens
set_option linter.unusedSimpArgs false
theorem eqIntS_ev (l : List Int) (hl : l.length ≤ 1048576) : Tl (fun k => laws_eqIntS.f k l l) true := by
  unfold laws_eqIntS.f
  simp only [if_true]
  refine down (Q := fun j => Tl (fun k => laws_eqIntS.l0 k l l (j : Int)) true) l.length ?_ ?_
  · refine Tl.step ?_
    have c3 := eq_false (show ¬ ((l.length : Int) < (l.length : Int)) by omega)
    simp only [laws_eqIntS.l0, c3, if_false]
    exact Tl.ret _
  · intro j hj h
    refine Tl.step ?_
    have c3 := eq_true (show (j : Int) < (l.length : Int) by omega)
    have c4 := eq_true (show 0 ≤ (j : Int) by omega)
    simp only [laws_eqIntS.l0, c3, c4, if_true]
    rw [wrap_succ hj (by omega)]
    exact h
end Go.Proofs.Ytfciajbahgjflaa.Print

namespace Go.Proofs.Ytfciajbahgjflaa.Print
open Go.RowKit Go.Proofs.YtfciajbahgjflaaW.PrintWords Go.Proofs.Ytfciajbahgjflaa.Evs Go.Proofs.Ytfciajbahgjflaa.Opens
set_option linter.unusedSimpArgs false
set_option linter.unusedVariables false
/-- A row marked with m, m + 1, .. -/
structure Marked (l : List Int) (m : Int) (n : Nat) : Prop where
  len : l.length = n
  at_ : ∀ i, i < n → l.getD i 0 = m + i
theorem markIntS_at : ∀ (d j : Nat) (l : List Int) (m : Int), j + d = l.length → 0 ≤ m → m + l.length ≤ 100000000 → (∀ i, i < j → l.getD i 0 = m + i) → ∃ l', Marked l' m l.length ∧ Tl (fun k => laws_markIntS.l0 k l (m + j) (j : Int)) (m + l.length, l')
  | 0, j, l, m, e, h0, h1, hm => by
    refine ⟨l, ⟨rfl, fun i hi => hm i (by omega)⟩, Tl.step ?_⟩
    simp only [laws_markIntS.l0]
    exact Tl.iteF (by omega) (Tl.cast (Tl.ret _) (by rw [show m + (j : Int) = m + (l.length : Int) by omega]))
  | d + 1, j, l, m, e, h0, h1, hm => by
    obtain ⟨l', h2, h3⟩ := markIntS_at d (j + 1) (l.set j (m + j)) m (by rw [List.length_set]; omega) h0 (by rw [List.length_set]; exact h1) (fun i hi => by
      by_cases hij : i = j
      · subst hij
        simp [List.getD_eq_getElem?_getD, List.getElem?_set, show i < l.length by omega]
      · have := hm i (by omega)
        rw [← this]
        simp [List.getD_eq_getElem?_getD, List.getElem?_set, show ¬ j = i by omega])
    rw [List.length_set] at h2 h3
    refine ⟨l', h2, Tl.step ?_⟩
    simp only [laws_markIntS.l0, Int.toNat_natCast]
    rw [wrap_id (n := m + (j : Int) + 1) (by omega) (by omega), wrap_succ (n := l.length) (by omega) (by omega), show m + (j : Int) + 1 = m + ((j + 1 : Nat) : Int) by omega]
    exact Tl.iteT (by omega) (Tl.iteT (by omega) h3)
theorem markIntS_ev (l : List Int) (m : Int) (h0 : 0 ≤ m) (h1 : m ≤ 10000000) (hl : l.length ≤ 1048576) : ∃ l', Marked l' m l.length ∧ Tl (fun k => laws_markIntS.f k l m) (m + l.length, l') := by
  obtain ⟨l', h2, h3⟩ := markIntS_at l.length 0 l m (by omega) h0 (by omega) (fun i hi => by omega)
  rw [show m + ((0 : Nat) : Int) = m by omega] at h3
  exact ⟨l', h2, h3⟩
theorem heldIntS_ev {l : List Int} {m : Int} {n : Nat} (h : Marked l m n) (h0 : 0 ≤ m) (h1 : m ≤ 10000000) (hl : n ≤ 1048576) : Tl (fun k => laws_heldIntS.f k l m) (m + n) := by
  unfold laws_heldIntS.f
  have he := h.len
  have key := down (Q := fun j => Tl (fun k => laws_heldIntS.l0 k l (m + j) (j : Int)) (m + n)) n ?_ ?_
  · rw [show m + ((0 : Nat) : Int) = m by omega] at key; exact key
  · refine Tl.step ?_
    simp only [laws_heldIntS.l0]
    exact Tl.iteF (by omega) (Tl.ret _)
  · intro j hj hh
    refine Tl.step ?_
    have ha : rd l (j : Int) = m + j := h.at_ j hj
    simp only [laws_heldIntS.l0, ha]
    rw [wrap_id (n := m + (j : Int) + 1) (by omega) (by omega), wrap_succ hj (by omega), show m + (j : Int) + 1 = m + ((j + 1 : Nat) : Int) by omega]
    exact Tl.iteT (by omega) (Tl.iteT (by omega) (Tl.iteT (by trivial) hh))

set_option maxHeartbeats 1000000 in
theorem FnExactTable_pure : PureFnExactTable := by
  intro x0 w0
  apply Tl.once
  unfold laws_FnExactTable.f
  refine Tl.bind (Tl.of_eq fun _ => szTaskS_f x0 _ (by omega) (by omega) w0.1) ?_
  by_cases g0 : (1048576 : Int) < x0.length
  · rw [if_pos g0]; exact Tl.iteT (by omega) (Tl.ret _)
  rw [if_neg g0]
  refine Tl.iteF (by omega) ?_
  have hl0 : x0.length ≤ 1048576 := by omega
  have hm0 : (x0.map cvTask).length ≤ 1048576 := by simpa using hl0
  have HS := spec_Table_ev (x0.map cvTask) hm0
  have HI := impl_Table_ev (x0.map cvTask) hm0
  have hd := tabD_len (x0.map cvTask)
  obtain ⟨D, b, hD⟩ : ∃ D b, tabD (x0.map cvTask) = (D, b) := ⟨_, _, rfl⟩
  rw [hD] at HS HI hd
  change D.length ≤ 720 at hd
  have HE := eqIntS_ev D (by omega)
  obtain ⟨t1, m1⟩ := markTaskS_ev (x0.map cvTask) 1 (by omega) (by omega) hm0
  obtain ⟨t3, mk, m3⟩ := markIntS_ev D 1 (by omega) (by omega) (by omega)
  have m4 := heldIntS_ev mk (by omega) (by omega) (by omega)
  have hbb : (b != b) = false := by simp
  repeat (first
    | exact Tl.ret _
    | with_reducible refine Tl.bind (toTaskS_ev x0 hl0) ?_
    | with_reducible refine Tl.bind (eqTaskS_ev (x0.map cvTask) hm0) ?_
    | dsimp only
    | with_reducible refine Tl.bind HE ?_
    | with_reducible refine Tl.bind m1 ?_
    | with_reducible refine Tl.bind m3 ?_
    | with_reducible refine Tl.bind m4 ?_
    | with_reducible refine Tl.iteF (by omega) ?_
    | with_reducible refine Tl.iteT rfl ?_
    | (with_reducible refine Tl.step (g := fun k => laws_FnExactTable.j0 k _ _ _ _ _ _ _) ?_; rw [hbb]; simp only [laws_FnExactTable.j0])
    | (with_reducible refine Tl.step (g := fun k => laws_FnExactTable.j1 k _ _ _ _ _) ?_; rw [hbb]; simp only [laws_FnExactTable.j1])
    | (with_reducible refine Tl.step (g := fun k => laws_FnExactTable.j2 k _ _ _) ?_; rw [hbb]; simp only [laws_FnExactTable.j2])
    | with_reducible refine Tl.bind HS ?_
    | with_reducible refine Tl.bind HI ?_
    | with_reducible refine Tl.iteT rfl ?_
    | with_reducible refine Tl.iteF (by simp) ?_
    | dsimp only)
end Go.Proofs.Ytfciajbahgjflaa.Print
