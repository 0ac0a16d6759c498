/- What the program and the reference compute, and that both agree. No condition. -/
import Derived.Test.YtonifhkplniblaaPO
import Derived.Test.YtonifhkplniblaaZFnInversionP1
import Derived.RowKit
import Derived.WalkKit
import Derived.Test.YtonifhkplniblaaZFnInversionP0
namespace Go.Proofs.Ytonifhkplniblaa.Print
open Go.RowKit Go.Proofs.YtonifhkplniblaaW.PrintWords Go.Proofs.YtonifhkplniblaaW.PrintLast Go.Proofs.YtonifhkplniblaaW.PrintMore
attribute [local go_sem] max2_int min2_int max_two min_two max_three min_three max_four min_four
set_option linter.unusedVariables false
set_option linter.unusedSimpArgs false
open Go.Proofs.Ytonifhkplniblaa.Opens
def PureFnInversion : Prop := ∀ (x0 : List Int), (wfL wfI) x0 → ∃ k, laws_FnInversion.f k x0 = some true
end Go.Proofs.Ytonifhkplniblaa.Print
namespace Go.Proofs.Ytonifhkplniblaa.Evs
open Go.RowKit
set_option linter.unusedSimpArgs false
set_option linter.unusedVariables false
def Tl {α : Type} (g : Nat → Option α) (r : α) : Prop := ∃ k0, ∀ k, k0 ≤ k → g k = some r
theorem Tl.ret {α : Type} (r : α) : Tl (fun _ => some r) r := ⟨0, fun _ _ => rfl⟩
theorem Tl.of_eq {α : Type} {g : Nat → Option α} {r : α} (h : ∀ k, g k = some r) : Tl g r := ⟨0, fun k _ => h k⟩
theorem Tl.step {α : Type} {g : Nat → Option α} {r : α} (h : Tl (fun k => g (k + 1)) r) : Tl g r := by
 obtain ⟨k0, hk⟩ := h
 refine ⟨k0 + 1, fun k hle => ?_⟩
 obtain ⟨m, rfl⟩ : ∃ m, k = m + 1 := ⟨k - 1, by omega⟩
 exact hk m (by omega)
theorem Tl.bind {α β : Type} {g : Nat → Option α} {a : α} {f : α → Nat → Option β} {r : β} (h : Tl g a) (h2 : Tl (f a) r) : Tl (fun k => (g k).bind fun x => f x k) r := by
 obtain ⟨k0, hk⟩ := h
 obtain ⟨k1, hk1⟩ := h2
 refine ⟨max k0 k1, fun k hle => ?_⟩
 show (g k).bind (fun x => f x k) = some r
 rw [hk k (by omega), Option.bind_some]
 exact hk1 k (by omega)
theorem Tl.once {α : Type} {g : Nat → Option α} {r : α} (h : Tl g r) : ∃ k, g k = some r := by
 obtain ⟨k0, hk⟩ := h
 exact ⟨k0, hk k0 (Nat.le_refl _)⟩
theorem Tl.cast {α : Type} {g : Nat → Option α} {r r' : α} (h : Tl g r) (e : r = r') : Tl g r' := e ▸ h
theorem Tl.iteT {α : Type} {c : Prop} [Decidable c] {g g' : Nat → Option α} {r : α} (hc : c) (h : Tl g r) : Tl (fun k => if c then g k else g' k) r := by simpa only [if_pos hc] using h
theorem Tl.iteF {α : Type} {c : Prop} [Decidable c] {g g' : Nat → Option α} {r : α} (hc : ¬ c) (h : Tl g' r) : Tl (fun k => if c then g k else g' k) r := by simpa only [if_neg hc] using h
theorem down {Q : Nat → Prop} (n : Nat) (he : Q n) (hs : ∀ j, j < n → Q (j + 1) → Q j) : Q 0 := by
 induction n with
 | zero => exact he
 | succ n ih => exact ih (hs n (by omega) he) (fun j hj => hs j (by omega))
theorem downFrom {Q : Nat → Prop} {m n : Nat} (hm : m ≤ n) (he : Q n) (hs : ∀ j, m ≤ j → j < n → Q (j + 1) → Q j) : Q m := by
 obtain ⟨d, rfl⟩ : ∃ d, n = m + d := ⟨n - m, by omega⟩
 induction d with
 | zero => exact he
 | succ d ih => exact ih (by omega) (hs (m + d) (by omega) (by omega) he) (fun j h1 h2 => hs j h1 (by omega))
theorem Tl.all {F : Nat → Int → Option Bool} {n : Nat} {P : Nat → Bool} {fin : Bool}
  (ht : ∀ j, j < n → P j = true → ∀ r, Tl (fun k => F k ((j + 1 : Nat) : Int)) r → Tl (fun k => F k (j : Int)) r)
  (hf : ∀ j, j < n → P j = false → Tl (fun k => F k (j : Int)) false) (he : Tl (fun k => F k (n : Int)) fin) :
  Tl (fun k => F k 0) ((List.range n).all P && fin) := by
 by_cases hall : ∀ j, j < n → P j = true
 ·have h1 : ((List.range n).all P) = true := by simpa using hall
  rw [h1, Bool.true_and]
  exact down (Q := fun j => Tl (fun k => F k (j : Int)) fin) n he (fun j hj h => ht j hj (hall j hj) _ h)
 ·have h1 : ((List.range n).all P) = false := by simpa using hall
  rw [h1, Bool.false_and]
  clear h1
  have key : ∀ m, m ≤ n → (∃ j, j < m ∧ P j = false) → Tl (fun k => F k 0) false := by
   intro m
   induction m with
   | zero => rintro _ ⟨j, hj, _⟩; omega
   | succ m ih =>
    rintro hm ⟨j, hj, hp⟩
    by_cases hlow : ∃ j, j < m ∧ P j = false
    ·exact ih (by omega) hlow
    ·have hjm : j = m := by
      rcases Nat.lt_or_ge j m with h | h
      ·exact absurd ⟨j, h, hp⟩ hlow
      ·omega
     subst hjm
     refine down (Q := fun j => Tl (fun k => F k (j : Int)) false) j (hf j (by omega) hp) (fun i hi h => ht i (by omega) ?_ _ h)
     cases hpi : P i
     ·exact absurd ⟨i, hi, hpi⟩ hlow
     ·rfl
  refine key n (Nat.le_refl _) ?_
  apply Classical.byContradiction
  intro hno
  refine hall (fun j hj => ?_)
  cases hp : P j
  ·exact absurd ⟨j, hj, hp⟩ hno
  ·rfl
theorem wrap_id {n : Int} (h1 : -9223372036854775808 ≤ n) (h2 : n ≤ 9223372036854775807) : wrap64 n = n := by unfold wrap64; omega
theorem wrap_succ {j n : Nat} (h : j < n) (hn : n ≤ 9223372036854775807) : wrap64 ((j : Int) + 1) = ((j + 1 : Nat) : Int) := by unfold wrap64; omega
theorem wrap_pred {j n : Nat} (h : j < n) (h0 : 0 < j) (hn : n ≤ 9223372036854775807) : wrap64 ((j : Int) - 1) = ((j - 1 : Nat) : Int) := by unfold wrap64; omega
end Go.Proofs.Ytonifhkplniblaa.Evs
namespace Go.Proofs.Ytonifhkplniblaa.Evs
theorem fill_zero {α : Type} (xs : List α) (z : α) : xs.take 0 ++ List.replicate (xs.length - 0) z = List.replicate xs.length z := by simp
theorem fill_set {α : Type} (xs : List α) (z : α) {j : Nat} (hj : j < xs.length) (x : α) (hx : x = xs.getD j z) :
  (xs.take j ++ List.replicate (xs.length - j) z).set j x = xs.take (j + 1) ++ List.replicate (xs.length - (j + 1)) z := by
 have h1 : (xs.take j).length = j := by simp; omega
 rw [List.set_append_right _ _ (by omega), h1, Nat.sub_self]
 obtain ⟨m, hm⟩ : ∃ m, xs.length - j = m + 1 := ⟨xs.length - j - 1, by omega⟩
 rw [hm, List.replicate_succ, List.set_cons_zero, List.take_succ_eq_append_getElem hj, List.append_assoc, hx]
 have h2 : xs.length - (j + 1) = m := by omega
 rw [h2]
 simp [List.getD_eq_getElem?_getD, hj]
theorem fill_len {α : Type} (xs : List α) (z : α) {j : Nat} (hj : j ≤ xs.length) : (xs.take j ++ List.replicate (xs.length - j) z).length = xs.length := by simp; omega
theorem fill_end {α : Type} (xs : List α) (z : α) : xs.take xs.length ++ List.replicate (xs.length - xs.length) z = xs := by simp
theorem getD_map {α β : Type} (f : α → β) (l : List α) (j : Nat) (z : α) (z' : β) (hj : j < l.length) : (l.map f).getD j z' = f (l.getD j z) := by simp [List.getD_eq_getElem?_getD, hj]
theorem all_range {α : Type} (l : List α) (z : α) (p : α → Bool) : (List.range l.length).all (fun j => p (l.getD j z)) = l.all p := by
 rw [Bool.eq_iff_iff, List.all_eq_true, List.all_eq_true]
 constructor
 ·intro h x hx
  obtain ⟨i, hi, rfl⟩ := List.getElem_of_mem hx
  have := h i (by simpa using hi)
  simpa [List.getD_eq_getElem?_getD, hi] using this
 ·intro h j hj
  have hj' : j < l.length := by simpa using hj
  have := h l[j] (List.getElem_mem hj')
  simpa [List.getD_eq_getElem?_getD, hj'] using this
end Go.Proofs.Ytonifhkplniblaa.Evs
namespace Go.Proofs.Ytonifhkplniblaa.Print
open Go.RowKit Go.Proofs.YtonifhkplniblaaW.PrintWords Go.Proofs.Ytonifhkplniblaa.Evs Go.Proofs.Ytonifhkplniblaa.Opens
set_option linter.unusedSimpArgs false
abbrev Section := S64
abbrev Task := S62
end Go.Proofs.Ytonifhkplniblaa.Print
namespace Go.Proofs.Ytonifhkplniblaa.Print
open Go.RowKit Go.Proofs.YtonifhkplniblaaW.PrintWords Go.Proofs.Ytonifhkplniblaa.Evs Go.Proofs.Ytonifhkplniblaa.Opens
set_option linter.unusedSimpArgs false
set_option linter.unusedVariables false
def okSet (l : List Task) : Bool := decide (l.length ≤ 5) && l.all okTask
theorem impl_SetValid_f (l : List Task) : impl_SetValid.f l = some (okSet l) := rfl
theorem impl_SetValid_ev (l : List Task) (_ : l.length ≤ 1048576) : Tl (fun _ => impl_SetValid.f l) (okSet l) := Tl.of_eq fun _ => impl_SetValid_f l
theorem tmod_pos {a b : Int} (ha : 0 ≤ a) (_hb : 0 < b) : Int.tmod a b = a % b := Int.tmod_eq_emod_of_nonneg ha
theorem tdiv_pos {a b : Int} (ha : 0 ≤ a) : Int.tdiv a b = a / b := Int.tdiv_eq_ediv_of_nonneg ha
def tk (l : List Task) (j : Nat) : Task := l.getD j z62
theorem rd_tk (l : List Task) (j : Nat) : rd_T62 l (j : Int) = tk l j := rfl
theorem okSet_len {l : List Task} (h : okSet l = true) : l.length ≤ 5 := by unfold okSet at h; simp at h; exact h.1
theorem okSet_tk {l : List Task} (h : okSet l = true) {j : Nat} (hj : j < l.length) : 1 ≤ (tk l j).f0 ∧ (tk l j).f0 ≤ 8 ∧ (tk l j).f0 ≤ (tk l j).f1 ∧ (tk l j).f1 ≤ (tk l j).f2 ∧ (tk l j).f2 ≤ 12 := by
 unfold okSet at h
 rw [Bool.and_eq_true, List.all_eq_true] at h
 have h1 : tk l j ∈ l := by unfold tk; simp [List.getD_eq_getElem?_getD, hj]
 have := h.2 _ h1
 unfold okTask at this
 exact of_decide_eq_true this
theorem gcd_step {a b : Int} (ha : 0 ≤ a) (hb : 0 ≤ b) : Int.gcd a b = Int.gcd b (a % b) := by
 obtain ⟨n, rfl⟩ := Int.eq_ofNat_of_zero_le ha
 obtain ⟨m, rfl⟩ := Int.eq_ofNat_of_zero_le hb
 rw [← Int.natCast_emod, Int.gcd_natCast_natCast, Int.gcd_natCast_natCast, Nat.gcd_comm n m, Nat.gcd_rec m n, Nat.gcd_comm]
theorem impl_gcd_ev (a b : Int) (ha : 0 ≤ a) (hb : 0 ≤ b) : Tl (fun k => impl_gcd.f k a b) (Int.gcd a b) := by
 unfold impl_gcd.f
 obtain ⟨n, hn⟩ : ∃ n : Nat, b.toNat = n := ⟨_, rfl⟩
 induction n using Nat.strongRecOn generalizing a b with
 | _ n ih =>
  refine Tl.step ?_
  simp only [impl_gcd.l0]
  by_cases h : b = 0
  ·subst h
   refine Tl.iteT rfl ?_
   rw [Int.gcd_zero_right, Int.natAbs_of_nonneg ha]
   exact Tl.ret _
  ·refine Tl.iteF h ?_
   rw [tmod_pos ha (by omega)]
   have hm := Int.emod_lt_of_pos a (show 0 < b by omega)
   have hm0 := Int.emod_nonneg a h
   have := ih (a % b).toNat (by omega) b (a % b) hb hm0 rfl
   rw [gcd_step ha hb]
   exact this
def hypN (l : List Task) : Nat → Int
 | 0 => 1
 | j + 1 => hypN l j / (Int.gcd (hypN l j) (tk l j).f2 : Int) * (tk l j).f2
def hyp (l : List Task) : Int := hypN l l.length
theorem small_dvd {p : Int} (h0 : 1 ≤ p) (h1 : p ≤ 12) : p ∣ 27720 := by
 have : p = 1 ∨ p = 2 ∨ p = 3 ∨ p = 4 ∨ p = 5 ∨ p = 6 ∨ p = 7 ∨ p = 8 ∨ p = 9 ∨ p = 10 ∨ p = 11 ∨ p = 12 := by omega
 rcases this with rfl | rfl | rfl | rfl | rfl | rfl | rfl | rfl | rfl | rfl | rfl | rfl <;> decide
theorem lcm_dvd {a p m : Int} (ha : a ∣ m) (hp : p ∣ m) (h0 : 0 < a) (hp0 : 0 < p) : a / (Int.gcd a p : Int) * p ∣ m := by
 have hg : ((Int.gcd a p : Nat) : Int) ∣ a := Int.gcd_dvd_left _ _
 have e : a / (Int.gcd a p : Int) * p = (Int.lcm a p : Int) := by
  have h1 : (Int.gcd a p * Int.lcm a p : Nat) = (a * p).natAbs := by rw [Int.gcd_mul_lcm, Int.natAbs_mul]
  have h2 : ((Int.gcd a p : Nat) : Int) * ((Int.lcm a p : Nat) : Int) = a * p := by
   rw [← Int.natCast_mul, h1, Int.natAbs_of_nonneg (Int.mul_nonneg (show 0 ≤ a by omega) (show 0 ≤ p by omega))]
  have hg0 : 0 < ((Int.gcd a p : Nat) : Int) := by
   have := Int.gcd_pos_of_ne_zero_left p (show a ≠ 0 by omega)
   omega
  obtain ⟨c, hc⟩ := hg
  have h3 : a / ((Int.gcd a p : Nat) : Int) = c := Int.ediv_eq_of_eq_mul_right (by omega) hc
  rw [h3]
  have h4 : ((Int.gcd a p : Nat) : Int) * ((Int.lcm a p : Nat) : Int) = ((Int.gcd a p : Nat) : Int) * (c * p) := by rw [h2, ← Int.mul_assoc, ← hc]
  exact (Int.eq_of_mul_eq_mul_left (by omega) h4).symm
 rw [e]
 exact Int.coe_lcm_dvd ha hp
theorem hypN_ok {l : List Task} (h : okSet l = true) : ∀ j, j ≤ l.length → 1 ≤ hypN l j ∧ hypN l j ∣ 27720
 | 0, _ => by unfold hypN; exact ⟨by omega, ⟨27720, by omega⟩⟩
 | j + 1, hj => by
  obtain ⟨h1, h2⟩ := hypN_ok h j (by omega)
  have ht := okSet_tk h (show j < l.length by omega)
  unfold hypN
  refine ⟨?_, lcm_dvd h2 (small_dvd (by omega) (by omega)) (by omega) (by omega)⟩
  have hg : ((Int.gcd (hypN l j) (tk l j).f2 : Nat) : Int) ∣ hypN l j := Int.gcd_dvd_left _ _
  have hg0 : 0 < ((Int.gcd (hypN l j) (tk l j).f2 : Nat) : Int) := by
   have := Int.gcd_pos_of_ne_zero_left (tk l j).f2 (show hypN l j ≠ 0 by omega)
   omega
  have hd : 1 ≤ hypN l j / ((Int.gcd (hypN l j) (tk l j).f2 : Nat) : Int) := by
   have := Int.le_of_dvd (by omega) hg
   exact Int.le_ediv_of_mul_le hg0 (by omega)
  calc (1 : Int) ≤ 1 * 1 := by omega
   _ ≤ _ := Int.mul_le_mul hd (by omega) (by omega) (by omega)
theorem hypN_le {l : List Task} (h : okSet l = true) {j : Nat} (hj : j ≤ l.length) : 1 ≤ hypN l j ∧ hypN l j ≤ 27720 := by
 obtain ⟨h1, h2⟩ := hypN_ok h j hj
 exact ⟨h1, Int.le_of_dvd (by omega) h2⟩
theorem gcd_pos' {a p : Int} (h : 1 ≤ a) : 1 ≤ ((Int.gcd a p : Nat) : Int) := by
 have := Int.gcd_pos_of_ne_zero_left p (show a ≠ 0 by omega)
 omega
theorem hypN_step {l : List Task} (h : okSet l = true) {j : Nat} (hj : j < l.length) :
  wrap64 (wrap64 (Int.tdiv (hypN l j) (Int.gcd (hypN l j) (tk l j).f2 : Int)) * (tk l j).f2) = hypN l (j + 1) := by
 obtain ⟨h1, h2⟩ := hypN_le h (show j ≤ l.length by omega)
 obtain ⟨h3, h4⟩ := hypN_le h (show j + 1 ≤ l.length by omega)
 have hg := gcd_pos' (p := (tk l j).f2) h1
 rw [tdiv_pos (by omega)]
 have h5 : 0 ≤ hypN l j / (Int.gcd (hypN l j) (tk l j).f2 : Int) := Int.ediv_nonneg (by omega) (by omega)
 have h6 : hypN l j / (Int.gcd (hypN l j) (tk l j).f2 : Int) ≤ hypN l j := Int.ediv_le_self _ (by omega)
 rw [wrap_id (n := hypN l j / _) (by omega) (by omega)]
 exact wrap_id (by show _ ≤ hypN l (j + 1); omega) (by show hypN l (j + 1) ≤ _; omega)
theorem impl_lcm_ev {l : List Task} (h : okSet l = true) {j : Nat} (hj : j < l.length) : Tl (fun k => impl_lcm.f k (hypN l j) (tk l j).f2) (hypN l (j + 1)) := by
 obtain ⟨h1, h2⟩ := hypN_le h (show j ≤ l.length by omega)
 have ht := okSet_tk h hj
 unfold impl_lcm.f
 refine Tl.bind (impl_gcd_ev _ _ (by omega) (by omega)) ?_
 have hg := gcd_pos' (p := (tk l j).f2) h1
 refine Tl.iteF (by omega) ?_
 rw [hypN_step h hj]
 exact Tl.ret _
theorem impl_hyper_ev {l : List Task} (h : okSet l = true) : Tl (fun k => impl_hyper.f k l) (hyp l) := by
 unfold impl_hyper.f
 have hl := okSet_len h
 refine down (Q := fun j => Tl (fun k => impl_hyper.l0 k (hypN l j) l (l.length : Int) (j : Int)) (hyp l)) l.length ?_ ?_
 ·refine Tl.step ?_
  simp only [impl_hyper.l0]
  refine Tl.iteF (by omega) ?_
  exact Tl.ret _
 ·intro j hj hh
  refine Tl.step ?_
  simp only [impl_hyper.l0, rd_tk]
  refine Tl.iteT (by omega) (Tl.iteT (by omega) (Tl.iteT (by omega) (Tl.bind (impl_lcm_ev h hj) ?_)))
  rw [wrap_succ hj (by omega)]
  exact hh
theorem hyp_le {l : List Task} (h : okSet l = true) : 1 ≤ hyp l ∧ hyp l ≤ 27720 := hypN_le h (Nat.le_refl _)
theorem hypN_dvd {l : List Task} (h : okSet l = true) : ∀ m, m ≤ l.length → ∀ j, j < m → (tk l j).f2 ∣ hypN l m
 | 0, _, j, hj => by omega
 | m + 1, hm, j, hj => by
  have h1 := (hypN_le h (show m ≤ l.length by omega)).1
  have ht := okSet_tk h (show m < l.length by omega)
  have e : hypN l (m + 1) = (Int.lcm (hypN l m) (tk l m).f2 : Int) := by
   apply Int.dvd_antisymm (by have := (hypN_le h hm).1; omega) (by omega)
   ·exact lcm_dvd (Int.dvd_lcm_left _ _) (Int.dvd_lcm_right _ _) (by omega) (by omega)
   ·apply Int.coe_lcm_dvd
    ·obtain ⟨c, hc⟩ : ((Int.gcd (hypN l m) (tk l m).f2 : Nat) : Int) ∣ (tk l m).f2 := Int.gcd_dvd_right _ _
     obtain ⟨d, hd⟩ : ((Int.gcd (hypN l m) (tk l m).f2 : Nat) : Int) ∣ hypN l m := Int.gcd_dvd_left _ _
     have hg := gcd_pos' (p := (tk l m).f2) h1
     have h3 : hypN l m / ((Int.gcd (hypN l m) (tk l m).f2 : Nat) : Int) = d := Int.ediv_eq_of_eq_mul_right (by omega) hd
     refine ⟨c, ?_⟩
     show hypN l m / ((Int.gcd (hypN l m) (tk l m).f2 : Nat) : Int) * (tk l m).f2 = _
     rw [h3]
     generalize ((Int.gcd (hypN l m) (tk l m).f2 : Nat) : Int) = g at hc hd
     rw [hc, hd, Int.mul_left_comm, Int.mul_assoc]
    ·exact ⟨hypN l m / ((Int.gcd (hypN l m) (tk l m).f2 : Nat) : Int), Int.mul_comm _ _⟩
  rw [e]
  rcases Nat.lt_or_ge j m with hlt | hge
  ·exact Int.dvd_trans (hypN_dvd h m (by omega) j hlt) (Int.dvd_lcm_left _ _)
  ·obtain rfl : j = m := by omega
   exact Int.dvd_lcm_right _ _
def sec (l : List Section) (j : Nat) : Section := l.getD j z64
theorem rd_sec (l : List Section) (j : Nat) : rd_T64 l (j : Int) = sec l j := rfl
def okSec (s : List Task) (l : List Section) (j : Nat) : Bool := decide ((((sec l j).f1 = 0 → (sec l j).f0 = 0 ∧ (sec l j).f2 = 0) ∧ 0 ≤ (sec l j).f1 ∧ (sec l j).f1 ≤ (tk s j).f0) ∧ 0 ≤ (sec l j).f0 ∧ (sec l j).f0 ≤ (tk s j).f0 - (sec l j).f1 ∧ 0 ≤ (sec l j).f2 ∧ (sec l j).f2 ≤ 2)
def okSecs (s : List Task) (l : List Section) : Bool := if okSet s = true ∧ l.length = s.length then (List.range l.length).all (okSec s l) else false
theorem okSecs_set {s : List Task} {l : List Section} (h : okSecs s l = true) : okSet s = true ∧ l.length = s.length := by
 unfold okSecs at h
 split at h
 ·assumption
 ·cases h
theorem okSecs_at {s : List Task} {l : List Section} (h : okSecs s l = true) {j : Nat} (hj : j < l.length) :
  (((sec l j).f1 = 0 → (sec l j).f0 = 0 ∧ (sec l j).f2 = 0) ∧ 0 ≤ (sec l j).f1 ∧ (sec l j).f1 ≤ (tk s j).f0) ∧ 0 ≤ (sec l j).f0 ∧ (sec l j).f0 ≤ (tk s j).f0 - (sec l j).f1 ∧ 0 ≤ (sec l j).f2 ∧ (sec l j).f2 ≤ 2 := by
 have h0 := okSecs_set h
 unfold okSecs at h
 rw [if_pos h0, List.all_eq_true] at h
 exact of_decide_eq_true (h j (by simpa using hj))
theorem secBad_ok {s : List Task} {l : List Section} (h : okSet s = true) {j : Nat} (hj : j < s.length) : secBad (sec l j) (tk s j) = !okSec s l j := by
 have ht := okSet_tk h hj
 unfold secBad okSec
 by_cases h1 : 0 ≤ (sec l j).f1 ∧ (sec l j).f1 ≤ (tk s j).f0
 ·rw [wrap_id (n := (tk s j).f0 - (sec l j).f1) (by omega) (by omega), Bool.eq_iff_iff]
  simp only [Bool.or_eq_true, decide_eq_true_eq, Bool.not_eq_true', decide_eq_false_iff_not]
  omega
 ·rw [decide_eq_false h1, Bool.not_false, Bool.true_or, Bool.or_true, Eq.comm, Bool.not_eq_true', decide_eq_false_iff_not]
  omega
theorem secs_all {s : List Task} {l : List Section} (h : okSet s = true) (h2 : l.length = s.length) : ∀ (n j : Nat), j + n = l.length → (impl_SectionsValid.l0 n s l j = true ↔ ∀ i, j ≤ i → i < l.length → okSec s l i = true)
 | 0, j, e => by
  unfold impl_SectionsValid.l0
  exact ⟨fun _ i h3 h4 => by omega, fun _ => rfl⟩
 | n + 1, j, e => by
  have ih := secs_all h h2 n (j + 1) (by omega)
  have hb := secBad_ok (l := l) h (show j < s.length by omega)
  show ((if secBad (sec l j) (tk s j) = true then false else impl_SectionsValid.l0 n s l (j + 1)) = true) ↔ _
  rw [hb]
  by_cases hc : okSec s l j = true
  ·rw [hc, if_neg (by simp), ih]
   constructor
   ·intro h3 i h4 h5
    rcases Nat.lt_or_ge j i with h6 | h6
    ·exact h3 i h6 h5
    ·obtain rfl : i = j := by omega
     exact hc
   ·intro h3 i h4 h5
    exact h3 i (by omega) h5
  ·rw [Bool.not_eq_true] at hc
   rw [hc, Bool.not_false, if_pos rfl]
   constructor
   ·intro h3; cases h3
   ·intro h3
    have := h3 j (Nat.le_refl _) (by omega)
    rw [hc] at this
    cases this
theorem impl_SectionsValid_ev (s : List Task) (l : List Section) (hs : s.length ≤ 1048576) (hl : l.length ≤ 1048576) : Tl (fun k => impl_SectionsValid.f k s l) (okSecs s l) := by
 unfold impl_SectionsValid.f okSecs
 refine Tl.cast (Tl.bind (impl_SetValid_ev s hs) (Tl.ret _)) ?_
 by_cases h : okSet s = true
 ·rw [h, Bool.true_and]
  by_cases h2 : l.length = s.length
  ·rw [if_pos ⟨rfl, h2⟩, decide_eq_true h2, Bool.true_and, Bool.eq_iff_iff, secs_all h h2 _ _ (by omega), List.all_eq_true]
   constructor
   ·intro h3 j hj
    exact h3 j (by omega) (by simpa using hj)
   ·intro h3 i _ hi
    exact h3 i (by simpa using hi)
  ·rw [if_neg (fun h3 => h2 h3.2), decide_eq_false h2, Bool.false_and]
 ·rw [if_neg (fun h3 => h h3.1)]
  rw [Bool.not_eq_true] at h
  rw [h, Bool.false_and]
end Go.Proofs.Ytonifhkplniblaa.Print
namespace Go.Proofs.Ytonifhkplniblaa.Print
open Go.RowKit Go.Proofs.YtonifhkplniblaaW.PrintWords Go.Proofs.Ytonifhkplniblaa.Evs Go.Proofs.Ytonifhkplniblaa.Opens Go.Proofs.YtonifhkplniblaaW.PrintMore
set_option linter.unusedSimpArgs false
set_option linter.unusedVariables false
def ceilN (s : List Task) (l : List Section) (r : Int) : Nat → Int
 | 0 => 13
 | j + 1 => if (sec l j).f1 > 0 ∧ (sec l j).f2 = r then mn (ceilN s l r j) (tk s j).f1 else ceilN s l r j
def ceil (s : List Task) (l : List Section) (r : Int) : Int := ceilN s l r s.length
theorem ceil_yes {s : List Task} {l : List Section} {r : Int} {j : Nat} (h1 : (sec l j).f1 > 0) (h2 : (sec l j).f2 = r) : mn (ceilN s l r j) (tk s j).f1 = ceilN s l r (j + 1) := (if_pos ⟨h1, h2⟩).symm
theorem ceil_no {s : List Task} {l : List Section} {r : Int} {j : Nat} (h : ¬ ((sec l j).f1 > 0 ∧ (sec l j).f2 = r)) : ceilN s l r j = ceilN s l r (j + 1) := (if_neg h).symm
theorem w01 : wrap64 (0 + 1) = 1 := by unfold wrap64; omega
theorem w12 : wrap64 (1 + 1) = 2 := by unfold wrap64; omega
theorem w23 : wrap64 (2 + 1) = 3 := by unfold wrap64; omega
def ceils (s : List Task) (l : List Section) (j : Nat) : List Int := [ceilN s l 0 j, ceilN s l 1 j, ceilN s l 2 j]
theorem rd_ceils (s : List Task) (l : List Section) (j : Nat) {r : Int} (h0 : 0 ≤ r) (h2 : r ≤ 2) : rd (ceils s l j) r = ceilN s l r j := by
 obtain rfl | rfl | rfl : r = 0 ∨ r = 1 ∨ r = 2 := by omega
 ·rfl
 ·rfl
 ·rfl
theorem set_ceils (s : List Task) (l : List Section) {j : Nat} (h1 : (sec l j).f1 > 0) (h0 : 0 ≤ (sec l j).f2) (h2 : (sec l j).f2 ≤ 2) :
  (ceils s l j).set (sec l j).f2.toNat (mn (rd (ceils s l j) (sec l j).f2) (tk s j).f1) = ceils s l (j + 1) := by
 rw [rd_ceils _ _ _ h0 h2, ceil_yes h1 rfl]
 obtain e | e | e : (sec l j).f2 = 0 ∨ (sec l j).f2 = 1 ∨ (sec l j).f2 = 2 := by omega
 ·have c1 := ceil_no (s := s) (l := l) (r := 1) (j := j) (fun h3 => by omega)
  have c2 := ceil_no (s := s) (l := l) (r := 2) (j := j) (fun h3 => by omega)
  rw [e]; unfold ceils; rw [c1, c2]; rfl
 ·have c1 := ceil_no (s := s) (l := l) (r := 0) (j := j) (fun h3 => by omega)
  have c2 := ceil_no (s := s) (l := l) (r := 2) (j := j) (fun h3 => by omega)
  rw [e]; unfold ceils; rw [c1, c2]; rfl
 ·have c1 := ceil_no (s := s) (l := l) (r := 0) (j := j) (fun h3 => by omega)
  have c2 := ceil_no (s := s) (l := l) (r := 1) (j := j) (fun h3 => by omega)
  rw [e]; unfold ceils; rw [c1, c2]; rfl
theorem impl_ceils_ev {s : List Task} {l : List Section} (h : okSecs s l = true) : Tl (fun k => impl_ceilings.f k s l) (ceils s l s.length) := by
 unfold impl_ceilings.f
 have h0 := okSecs_set h
 have hl := okSet_len h0.1
 refine Tl.iteT (by omega) (Tl.bind (Tl.ret _) ?_)
 have key : Tl (fun k => impl_ceilings.l1 k s (ceils s l 0) l (l.length : Int) 0) (ceils s l s.length) := by
  refine down (Q := fun j => Tl (fun k => impl_ceilings.l1 k s (ceils s l j) l (l.length : Int) (j : Int)) (ceils s l s.length)) s.length ?_ ?_
  ·refine Tl.step ?_
   simp only [impl_ceilings.l1]
   exact Tl.iteF (by omega) (Tl.ret _)
  ·intro j hj hh
   have hs := okSecs_at h (show j < l.length by omega)
   refine Tl.step ?_
   simp only [impl_ceilings.l1, rd_tk, rd_sec]
   refine Tl.iteT (by omega) (Tl.iteT (by omega) (Tl.iteT (by omega) ?_))
   rw [wrap_succ hj (by omega)]
   by_cases c1 : (sec l j).f1 > 0
   ·rw [set_ceils s l c1 hs.2.2.2.1 hs.2.2.2.2]
    exact Tl.iteT c1 (Tl.iteT hs.2.2.2.1 (Tl.iteT (by show _ < ((3 : Nat) : Int); omega) (Tl.iteT (by omega) hh)))
   ·have e : ceils s l j = ceils s l (j + 1) := by
     unfold ceils
     rw [← ceil_no (fun h3 => c1 h3.1), ← ceil_no (fun h3 => c1 h3.1), ← ceil_no (fun h3 => c1 h3.1)]
    rw [e]
    exact Tl.iteF c1 hh
 refine Tl.step ?_
 simp only [impl_ceilings.l0, List.length_replicate, List.length_set, w01, w12, w23]
 refine Tl.iteT (by omega) (Tl.iteT (by omega) (Tl.iteT (by omega) ?_))
 refine Tl.step ?_
 simp only [impl_ceilings.l0, List.length_replicate, List.length_set, w01, w12, w23]
 refine Tl.iteT (by decide) (Tl.iteT (by decide) (Tl.iteT (by decide) ?_))
 refine Tl.step ?_
 simp only [impl_ceilings.l0, List.length_replicate, List.length_set, w01, w12, w23]
 refine Tl.iteT (by decide) (Tl.iteT (by decide) (Tl.iteT (by decide) ?_))
 refine Tl.step ?_
 simp only [impl_ceilings.l0, List.length_replicate, List.length_set, w01, w12, w23]
 exact Tl.iteF (by decide) key
def Ceilings_D (s : List Task) (l : List Section) : List Int := if okSecs s l = true then ceils s l s.length else []
theorem Ceilings_len (s : List Task) (l : List Section) : (Ceilings_D s l).length ≤ 3 := by
 unfold Ceilings_D ceils
 split <;> simp
def blockN (s : List Task) (l : List Section) (t : Int) : Nat → Int
 | 0 => 0
 | j + 1 => if (tk s j).f1 > t ∧ (sec l j).f1 > 0 ∧ ceil s l (sec l j).f2 ≤ t then mx (blockN s l t j) (sec l j).f1 else blockN s l t j
def block (s : List Task) (l : List Section) (t : Int) : Int := blockN s l t s.length
theorem block_yes {s : List Task} {l : List Section} {t : Int} {j : Nat} (h : (tk s j).f1 > t ∧ (sec l j).f1 > 0 ∧ ceil s l (sec l j).f2 ≤ t) : mx (blockN s l t j) (sec l j).f1 = blockN s l t (j + 1) := (if_pos h).symm
theorem block_no {s : List Task} {l : List Section} {t : Int} {j : Nat} (h : ¬ ((tk s j).f1 > t ∧ (sec l j).f1 > 0 ∧ ceil s l (sec l j).f2 ≤ t)) : blockN s l t j = blockN s l t (j + 1) := (if_neg h).symm
theorem blockN_le {s : List Task} {l : List Section} (h : okSecs s l = true) {t : Int} : ∀ j, j ≤ s.length → 0 ≤ blockN s l t j ∧ blockN s l t j ≤ 8
 | 0, _ => by unfold blockN; omega
 | j + 1, hj => by
  have h0 := okSecs_set h
  have h1 := blockN_le h (t := t) j (by omega)
  have h2 := okSecs_at h (show j < l.length by omega)
  have h3 := okSet_tk h0.1 (show j < s.length by omega)
  unfold blockN
  split
  ·unfold mx; split <;> omega
  ·exact h1
theorem impl_block_ev {s : List Task} {l : List Section} (h : okSecs s l = true) (t : Int) : Tl (fun k => impl_blocking.f k s l t) (block s l t) := by
 unfold impl_blocking.f
 have h0 := okSecs_set h
 have hl := okSet_len h0.1
 refine Tl.bind (impl_ceils_ev h) ?_
 refine down (Q := fun j => Tl (fun k => impl_blocking.l0 k s t (ceils s l s.length) (blockN s l t j) l (l.length : Int) (j : Int)) (block s l t)) s.length ?_ ?_
 ·refine Tl.step ?_
  simp only [impl_blocking.l0]
  exact Tl.iteF (by omega) (Tl.ret _)
 ·intro j hj hh
  have hs := okSecs_at h (show j < l.length by omega)
  refine Tl.step ?_
  simp only [impl_blocking.l0, rd_tk, rd_sec]
  refine Tl.iteT (by omega) (Tl.iteT (by omega) (Tl.iteT (by omega) ?_))
  rw [wrap_succ hj (by omega)]
  by_cases c2 : (sec l j).f1 > 0
  ·refine Tl.iteT c2 (Tl.iteT (by omega) ?_)
   by_cases c1 : (tk s j).f1 > t
   ·refine Tl.iteT c1 (Tl.iteT hs.2.2.2.1 (Tl.iteT (by show _ < ((3 : Nat) : Int); omega) ?_))
    have e : rd (ceils s l s.length) (sec l j).f2 = ceil s l (sec l j).f2 := rd_ceils _ _ _ hs.2.2.2.1 hs.2.2.2.2
    by_cases c3 : ceil s l (sec l j).f2 ≤ t
    ·rw [block_yes ⟨c1, c2, c3⟩]; exact Tl.iteT (show rd (ceils s l s.length) (sec l j).f2 ≤ t from by rw [e]; exact c3) hh
    ·rw [block_no (fun h3 => c3 h3.2.2)]; exact Tl.iteF (show ¬ rd (ceils s l s.length) (sec l j).f2 ≤ t from by rw [e]; exact c3) hh
   ·rw [block_no (fun h3 => c1 h3.1)]; exact Tl.iteF c1 hh
  ·rw [block_no (fun h3 => c2 h3.2.1)]; exact Tl.iteF c2 hh
end Go.Proofs.Ytonifhkplniblaa.Print
namespace Go.Proofs.Ytonifhkplniblaa.Print
open Go.RowKit Go.Proofs.YtonifhkplniblaaW.PrintWords Go.Proofs.Ytonifhkplniblaa.Evs Go.Proofs.Ytonifhkplniblaa.Opens
set_option linter.unusedSimpArgs false
set_option linter.unusedVariables false
def demT (x : Task) (t : Int) : Int := if t ≥ x.f1 then ((t - x.f1) / x.f2 + 1) * x.f0 else 0
def demN (l : List Task) (t : Int) : Nat → Int
 | 0 => 0
 | j + 1 => demN l t j + demT (tk l j) t
def dem (l : List Task) (t : Int) : Int := demN l t l.length
theorem demT_le {x : Task} (h : 1 ≤ x.f0 ∧ x.f0 ≤ 8 ∧ x.f0 ≤ x.f1 ∧ x.f1 ≤ x.f2 ∧ x.f2 ≤ 12) {t : Int} (h1 : t ≤ 1000000) : 0 ≤ demT x t ∧ demT x t ≤ 8000008 := by
 unfold demT
 split
 ·rename_i ht
  have h2 : 0 ≤ (t - x.f1) / x.f2 := Int.ediv_nonneg (by omega) (by omega)
  have h3 : (t - x.f1) / x.f2 ≤ t - x.f1 := Int.ediv_le_self _ (by omega)
  constructor
  ·exact Int.mul_nonneg (by omega) (by omega)
  ·calc ((t - x.f1) / x.f2 + 1) * x.f0 ≤ 1000001 * 8 := Int.mul_le_mul (by omega) (by omega) (by omega) (by omega)
    _ ≤ _ := by omega
 ·omega
theorem demN_le {l : List Task} (h : okSet l = true) {t : Int} (h1 : t ≤ 1000000) : ∀ j, j ≤ l.length → 0 ≤ demN l t j ∧ demN l t j ≤ 8000008 * j
 | 0, _ => by unfold demN; omega
 | j + 1, hj => by
  have h2 := demN_le h h1 j (by omega)
  have h3 := demT_le (okSet_tk h (show j < l.length by omega)) h1
  unfold demN
  omega
theorem dem_le {l : List Task} (h : okSet l = true) {t : Int} (h1 : t ≤ 1000000) : 0 ≤ dem l t ∧ dem l t ≤ 40000040 := by
 have h2 := demN_le h h1 l.length (Nat.le_refl _)
 have h3 := okSet_len h
 unfold dem
 omega
theorem dem_step {l : List Task} (h : okSet l = true) {t : Int} (h0 : 0 ≤ t) (h1 : t ≤ 1000000) {j : Nat} (hj : j < l.length) (ht : t ≥ (tk l j).f1) :
  wrap64 (demN l t j + wrap64 (wrap64 (wrap64 (Int.tdiv (wrap64 (t - (tk l j).f1)) (tk l j).f2) + 1) * (tk l j).f0)) = demN l t (j + 1) := by
 have h2 := okSet_tk h hj
 have h3 := demT_le h2 h1
 have h4 := demN_le h h1 (j + 1) (by omega)
 have h5 := demN_le h h1 j (by omega)
 have hl := okSet_len h
 have e1 : wrap64 (t - (tk l j).f1) = t - (tk l j).f1 := wrap_id (by omega) (by omega)
 rw [e1, tdiv_pos (by omega)]
 have h6 : 0 ≤ (t - (tk l j).f1) / (tk l j).f2 := Int.ediv_nonneg (by omega) (by omega)
 have h7 : (t - (tk l j).f1) / (tk l j).f2 ≤ t - (tk l j).f1 := Int.ediv_le_self _ (by omega)
 rw [wrap_id (n := (t - (tk l j).f1) / (tk l j).f2) (by omega) (by omega), wrap_id (n := (t - (tk l j).f1) / (tk l j).f2 + 1) (by omega) (by omega)]
 have e2 : ((t - (tk l j).f1) / (tk l j).f2 + 1) * (tk l j).f0 = demT (tk l j) t := by unfold demT; rw [if_pos ht]
 rw [e2, wrap_id (n := demT (tk l j) t) (by omega) (by omega)]
 show wrap64 (demN l t (j + 1)) = _
 exact wrap_id (by omega) (by omega)
theorem dem_skip {l : List Task} {t : Int} {j : Nat} (ht : ¬ t ≥ (tk l j).f1) : demN l t j = demN l t (j + 1) := by
 show _ = demN l t j + demT (tk l j) t
 unfold demT
 rw [if_neg ht]
 omega
theorem impl_demand_ev {l : List Task} (h : okSet l = true) {t : Int} (h0 : 0 ≤ t) (h1 : t ≤ 1000000) : Tl (fun k => impl_demand.f k l t) (dem l t) := by
 unfold impl_demand.f
 have hl := okSet_len h
 refine down (Q := fun j => Tl (fun k => impl_demand.l0 k t (demN l t j) l (l.length : Int) (j : Int)) (dem l t)) l.length ?_ ?_
 ·refine Tl.step ?_
  simp only [impl_demand.l0]
  refine Tl.iteF (by omega) ?_
  exact Tl.ret _
 ·intro j hj hh
  have h2 := okSet_tk h hj
  refine Tl.step ?_
  simp only [impl_demand.l0, rd_tk]
  refine Tl.iteT (by omega) (Tl.iteT (by omega) (Tl.iteT (by omega) ?_))
  by_cases ht : t ≥ (tk l j).f1
  ·refine Tl.iteT ht (Tl.iteF (by omega) ?_)
   rw [dem_step h h0 h1 hj ht, wrap_succ hj (by omega)]
   exact hh
  ·refine Tl.iteF ht ?_
   rw [wrap_succ hj (by omega), dem_skip ht]
   exact hh
end Go.Proofs.Ytonifhkplniblaa.Print
namespace Go.Proofs.Ytonifhkplniblaa.Print
open Go.RowKit Go.Proofs.YtonifhkplniblaaW.PrintWords Go.Proofs.Ytonifhkplniblaa.Evs Go.Proofs.Ytonifhkplniblaa.Opens Go.Proofs.YtonifhkplniblaaW.PrintMore
set_option linter.unusedSimpArgs false
set_option linter.unusedVariables false
def resN (s : List Task) (l : List Section) : Nat → Int → Bool
 | 0, _ => true
 | n + 1, t => if dem s t + block s l t > t then false else resN s l n (t + 1)
theorem res_wrap {s : List Task} {l : List Section} (h : okSecs s l = true) {t : Int} (ht : t ≤ 30000) : wrap64 (dem s t + block s l t) = dem s t + block s l t := by
 have h0 := okSecs_set h
 have h1 := dem_le h0.1 (t := t) (by omega)
 have h2 := blockN_le h (t := t) s.length (Nat.le_refl _)
 have h3 : 0 ≤ block s l t ∧ block s l t ≤ 8 := h2
 exact wrap_id (by omega) (by omega)
theorem impl_res_ev {s : List Task} {l : List Section} (h : okSecs s l = true) : ∀ (n : Nat) (t : Int), 1 ≤ t → t + n = hyp s + 1 → Tl (fun k => impl_ResourcesFeasible.l0 k s l t) (resN s l n t)
 | 0, t, h1, h2 => by
  have h0 := okSecs_set h
  refine Tl.step ?_
  simp only [impl_ResourcesFeasible.l0]
  exact Tl.bind (impl_hyper_ev h0.1) (Tl.iteF (by omega) (Tl.ret _))
 | n + 1, t, h1, h2 => by
  have h0 := okSecs_set h
  have hh := hyp_le h0.1
  refine Tl.step ?_
  simp only [impl_ResourcesFeasible.l0]
  refine Tl.bind (impl_hyper_ev h0.1) (Tl.iteT (by omega) (Tl.bind (impl_demand_ev h0.1 (by omega) (by omega)) (Tl.bind (impl_block_ev h t) ?_)))
  rw [res_wrap h (by omega), wrap_id (n := t + 1) (by omega) (by omega)]
  unfold resN
  by_cases hc : dem s t + block s l t > t
  ·rw [if_pos hc]; exact Tl.iteT hc (Tl.ret _)
  ·rw [if_neg hc]; exact Tl.iteF hc (impl_res_ev h n (t + 1) (by omega) (by omega))
def ResourcesFeasible_D (s : List Task) (l : List Section) : Bool := if okSecs s l = true then resN s l (hyp s).toNat 1 else false
theorem impl_ResourcesFeasible_ev (s : List Task) (l : List Section) (hs : s.length ≤ 1048576) (hl : l.length ≤ 1048576) : Tl (fun k => impl_ResourcesFeasible.f k s l) (ResourcesFeasible_D s l) := by
 unfold impl_ResourcesFeasible.f ResourcesFeasible_D
 refine Tl.bind (impl_SectionsValid_ev s l hs hl) ?_
 by_cases h : okSecs s l = true
 ·have h0 := okSecs_set h
  have hh := hyp_le h0.1
  rw [if_pos h]; exact Tl.iteT h (impl_res_ev h _ _ (by omega) (by omega))
 ·rw [if_neg h]; exact Tl.iteF h (Tl.ret _)
end Go.Proofs.Ytonifhkplniblaa.Print
namespace Go.Proofs.Ytonifhkplniblaa.Print
open Go.RowKit Go.Proofs.YtonifhkplniblaaW.PrintWords Go.Proofs.Ytonifhkplniblaa.Evs Go.Proofs.Ytonifhkplniblaa.Opens
set_option linter.unusedSimpArgs false
set_option linter.unusedVariables false
theorem sameI_ev (l : List Int) (hl : l.length ≤ 1000000) : Tl (fun k => laws_sameInts.f k l l) true := by
 unfold laws_sameInts.f
 refine Tl.iteT rfl ?_
 refine down (Q := fun j => Tl (fun k => laws_sameInts.l0 k l l (j : Int)) true) l.length ?_ ?_
 ·refine Tl.step ?_
  simp only [laws_sameInts.l0]
  exact Tl.iteF (by omega) (Tl.ret _)
 ·intro j hj hh
  refine Tl.step ?_
  simp only [laws_sameInts.l0]
  rw [wrap_succ hj (by omega)]
  exact Tl.iteT (by omega) (Tl.iteT (by omega) (Tl.iteT (by omega) (Tl.iteT trivial hh)))
def invS : List Task := [⟨2, 5, 12⟩, ⟨3, 8, 12⟩, ⟨4, 12, 12⟩]
def invC : List Section := [⟨0, 1, 0⟩, ⟨0, 0, 0⟩, ⟨1, 2, 0⟩]
def invJ : List S67 := [⟨2, 0, 12, 4⟩, ⟨0, 2, 7, 2⟩, ⟨1, 2, 10, 3⟩]
def invR : List Int × List Int := ((simN invJ (resPick invS invJ invC [5, 13, 13]) () 120).2.2.1, (simN invJ (resPick invS invJ invC [5, 13, 13]) () 120).2.2.2)
theorem inv_ok : okSecs invS invC = true := by decide +kernel
theorem inv_legal : impl_JobsLegal.f invS invJ = some true := by decide +kernel
theorem inv_ceils : ceils invS invC 3 = [5, 13, 13] := by decide +kernel
theorem inv_in : secsIn invS invC [5, 13, 13] = true := by decide +kernel
theorem inv_len : invR.1.length = 120 := by decide +kernel
theorem inv_run : invR.1.take 10 = [0, 0, 0, 1, 1, 2, 2, 2, 0, -1] := by decide +kernel
theorem inv_fits : ResourcesFeasible_D invS invC = true := by decide +kernel
theorem inv_ev : Tl (fun k => impl_RunResources.f k invS invC invJ) invR := by
 unfold impl_RunResources.f
 have h1 := impl_SectionsValid_ev invS invC (by decide) (by decide)
 have h2 : Tl (fun _ => impl_JobsLegal.f invS invJ) true := Tl.of_eq fun _ => inv_legal
 have h3 := impl_ceils_ev inv_ok
 rw [inv_ok] at h1
 rw [show invS.length = 3 from rfl, inv_ceils] at h3
 exact Tl.bind h1 (Tl.iteT rfl (Tl.bind h2 (Tl.iteT rfl (Tl.bind h3 (Tl.iteT inv_in (Tl.ret _))))))
theorem FnInversion_pure : PureFnInversion := by
 intro x0 w0
 apply Tl.once
 unfold laws_FnInversion.f
 by_cases g0 : (x0.length : Int) > 1048576
 ·exact Tl.iteT g0 (Tl.ret _)
 refine Tl.iteF g0 ?_
 have h4 := impl_ResourcesFeasible_ev invS invC (by decide) (by decide)
 rw [inv_fits] at h4
 refine Tl.bind (Tl.ret _) (Tl.bind (Tl.ret _) (Tl.bind inv_ev ?_))
 rw [inv_len, inv_run]
 exact Tl.iteT (by decide) (Tl.iteT (by decide) (Tl.bind (sameI_ev _ (by decide)) (Tl.iteT rfl (Tl.bind h4 (Tl.ret _)))))
end Go.Proofs.Ytonifhkplniblaa.Print
