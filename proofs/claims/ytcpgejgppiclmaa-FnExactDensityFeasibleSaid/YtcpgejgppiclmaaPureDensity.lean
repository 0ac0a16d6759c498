/- DensityFeasible, as the program and as the reference compute it. No condition. -/
import Derived.Test.YtcpgejgppiclmaaPureHyper
import Derived.Test.YtcpgejgppiclmaaPK10
namespace Go.Proofs.Ytcpgejgppiclmaa.Print
open Go.RowKit Go.Proofs.YtcpgejgppiclmaaW.PrintWords Go.Proofs.YtcpgejgppiclmaaW.PrintMore Go.Proofs.Ytcpgejgppiclmaa.Evs Go.Proofs.Ytcpgejgppiclmaa.Opens
set_option linter.unusedSimpArgs false
set_option linter.unusedVariables false
/-- The least common multiple of the first j deadlines. -/
def dlN (l : List Task) : Nat → Int
  | 0 => 1
  | j + 1 => dlN l j / (Int.gcd (dlN l j) (tk l j).f1 : Int) * (tk l j).f1
theorem dlN_ok {l : List Task} (h : okSet l = true) : ∀ j, j ≤ l.length → 1 ≤ dlN l j ∧ dlN l j ∣ 27720
  | 0, _ => by unfold dlN; exact ⟨by omega, ⟨27720, by omega⟩⟩
  | j + 1, hj => by
    obtain ⟨h1, h2⟩ := dlN_ok h j (by omega)
    have ht := okSet_tk h (show j < l.length by omega)
    unfold dlN
    refine ⟨?_, lcm_dvd h2 (small_dvd (by omega) (by omega)) (by omega) (by omega)⟩
    have hg : ((Int.gcd (dlN l j) (tk l j).f1 : Nat) : Int) ∣ dlN l j := Int.gcd_dvd_left _ _
    have hg0 := gcd_pos' (p := (tk l j).f1) h1
    have hd : 1 ≤ dlN l j / ((Int.gcd (dlN l j) (tk l j).f1 : Nat) : Int) := Int.le_ediv_of_mul_le (by omega) (by have := Int.le_of_dvd (by omega) hg; omega)
    calc (1 : Int) ≤ 1 * 1 := by omega
      _ ≤ _ := Int.mul_le_mul hd (by omega) (by omega) (by omega)
theorem dlN_le {l : List Task} (h : okSet l = true) {j : Nat} (hj : j ≤ l.length) : 1 ≤ dlN l j ∧ dlN l j ≤ 27720 := by
  obtain ⟨h1, h2⟩ := dlN_ok h j hj
  exact ⟨h1, Int.le_of_dvd (by omega) h2⟩
theorem dlN_dvd {l : List Task} (h : okSet l = true) : ∀ m, m ≤ l.length → ∀ j, j < m → (tk l j).f1 ∣ dlN l m
  | 0, _, j, hj => by omega
  | m + 1, hm, j, hj => by
    have h1 := (dlN_le h (show m ≤ l.length by omega)).1
    rcases Nat.lt_or_ge j m with hlt | hge
    · refine Int.dvd_trans (dlN_dvd h m (by omega) j hlt) ?_
      obtain ⟨c, hc⟩ : ((Int.gcd (dlN l m) (tk l m).f1 : Nat) : Int) ∣ (tk l m).f1 := Int.gcd_dvd_right _ _
      obtain ⟨d, hd⟩ : ((Int.gcd (dlN l m) (tk l m).f1 : Nat) : Int) ∣ dlN l m := Int.gcd_dvd_left _ _
      have hg := gcd_pos' (p := (tk l m).f1) h1
      have e : dlN l m / ((Int.gcd (dlN l m) (tk l m).f1 : Nat) : Int) = d := Int.ediv_eq_of_eq_mul_right (by omega) hd
      refine ⟨c, ?_⟩
      show dlN l m / ((Int.gcd (dlN l m) (tk l m).f1 : Nat) : Int) * (tk l m).f1 = _
      rw [e]
      generalize ((Int.gcd (dlN l m) (tk l m).f1 : Nat) : Int) = g at hc hd
      rw [hc, hd, Int.mul_left_comm, Int.mul_assoc]
    · obtain rfl : j = m := by omega
      exact ⟨dlN l j / ((Int.gcd (dlN l j) (tk l j).f1 : Nat) : Int), Int.mul_comm _ _⟩
/-- The sum, and the maximum, of the densities over den. -/
def dsN (l : List Task) (den : Int) : Nat → Int
  | 0 => 0
  | j + 1 => dsN l den j + den / (tk l j).f1 * (tk l j).f0
def dmN (l : List Task) (den : Int) : Nat → Int
  | 0 => 0
  | j + 1 => mx (dmN l den j) (den / (tk l j).f1 * (tk l j).f0)
theorem mx_le {a b c : Int} (h1 : a ≤ c) (h2 : b ≤ c) : mx a b ≤ c := by unfold mx; split <;> omega
theorem le_mx (a b : Int) : a ≤ mx a b ∧ b ≤ mx a b := by unfold mx; split <;> omega
theorem dT_le {l : List Task} (h : okSet l = true) {d : Int} (h0 : 0 ≤ d) (h1 : d ≤ 27720) {j : Nat} (hj : j < l.length) : 0 ≤ d / (tk l j).f1 ∧ d / (tk l j).f1 ≤ 27720 ∧ 0 ≤ d / (tk l j).f1 * (tk l j).f0 ∧ d / (tk l j).f1 * (tk l j).f0 ≤ 221760 := by
  have ht := okSet_tk h hj
  have h6 : 0 ≤ d / (tk l j).f1 := Int.ediv_nonneg (by omega) (by omega)
  have h7 : d / (tk l j).f1 ≤ d := Int.ediv_le_self _ (by omega)
  have h8 : d / (tk l j).f1 * (tk l j).f0 ≤ 27720 * 8 := Int.mul_le_mul (by omega) (by omega) (by omega) (by omega)
  exact ⟨h6, by omega, Int.mul_nonneg h6 (by omega), by omega⟩
theorem ds_le {l : List Task} (h : okSet l = true) {d : Int} (h0 : 0 ≤ d) (h1 : d ≤ 27720) : ∀ j, j ≤ l.length → 0 ≤ dsN l d j ∧ dsN l d j ≤ 221760 * j ∧ 0 ≤ dmN l d j ∧ dmN l d j ≤ 221760
  | 0, _ => by unfold dsN dmN; omega
  | j + 1, hj => by
    have h2 := ds_le h h0 h1 j (by omega)
    have h3 := dT_le h h0 h1 (show j < l.length by omega)
    have h4 := le_mx (dmN l d j) (d / (tk l j).f1 * (tk l j).f0)
    have h5 := mx_le h2.2.2.2 h3.2.2.2
    unfold dsN dmN
    omega
theorem mx_scale {g a b : Int} (hg : 1 ≤ g) : mx (g * a) (g * b) = g * mx a b := by
  unfold mx
  by_cases h : a < b
  · rw [if_pos h, if_pos (Int.mul_lt_mul_of_pos_left h (by omega))]
  · rw [if_neg h, if_neg (fun h2 => h (Int.lt_of_mul_lt_mul_left h2 (by omega)))]
theorem ds_scale {l : List Task} (h : okSet l = true) {g d : Int} (hg : 1 ≤ g) (hd : ∀ j, j < l.length → (tk l j).f1 ∣ d) : ∀ j, j ≤ l.length → dsN l (g * d) j = g * dsN l d j ∧ dmN l (g * d) j = g * dmN l d j
  | 0, _ => by unfold dsN dmN; omega
  | j + 1, hj => by
    have ht := okSet_tk h (show j < l.length by omega)
    obtain ⟨h2, h3⟩ := ds_scale (g := g) h hg hd j (by omega)
    obtain ⟨c, hc⟩ := hd j (by omega)
    have e1 : d / (tk l j).f1 = c := Int.ediv_eq_of_eq_mul_right (by omega) hc
    have e2 : g * d / (tk l j).f1 = g * c := Int.ediv_eq_of_eq_mul_right (by omega) (by rw [hc]; exact Int.mul_left_comm _ _ _)
    unfold dsN dmN
    rw [h2, h3, e1, e2, Int.mul_assoc, mx_scale hg, Int.mul_add]
    exact ⟨rfl, rfl⟩
theorem dl_step {l : List Task} (h : okSet l = true) {j : Nat} (hj : j < l.length) :
    wrap64 (wrap64 (Int.tdiv (dlN l j) (Int.gcd (dlN l j) (tk l j).f1 : Int)) * (tk l j).f1) = dlN l (j + 1) := by
  obtain ⟨h1, h2⟩ := dlN_le h (show j ≤ l.length by omega)
  obtain ⟨h3, h4⟩ := dlN_le h (show j + 1 ≤ l.length by omega)
  have hg := gcd_pos' (p := (tk l j).f1) h1
  have h5 : 0 ≤ dlN l j / (Int.gcd (dlN l j) (tk l j).f1 : Int) := Int.ediv_nonneg (by omega) (by omega)
  have h6 : dlN l j / (Int.gcd (dlN l j) (tk l j).f1 : Int) ≤ dlN l j := Int.ediv_le_self _ (by omega)
  rw [tdiv_pos (by omega), wrap_id (n := dlN l j / _) (by omega) (by omega)]
  exact wrap_id (by show _ ≤ dlN l (j + 1); omega) (by show dlN l (j + 1) ≤ _; omega)
theorem d_wrap {l : List Task} (h : okSet l = true) {d : Int} (h0 : 0 ≤ d) (h1 : d ≤ 27720) {j : Nat} (hj : j < l.length) : wrap64 (wrap64 (Int.tdiv d (tk l j).f1) * (tk l j).f0) = d / (tk l j).f1 * (tk l j).f0 := by
  have h3 := dT_le h h0 h1 hj
  rw [tdiv_pos h0, wrap_id (n := d / _) (by omega) (by omega)]
  exact wrap_id (by omega) (by omega)
def DensityFeasible_D (l : List Task) (c : Int) : Bool := if okSet l = true ∧ 1 ≤ c ∧ c ≤ 5 then decide (dsN l 27720 l.length ≤ c * 27720 - (c - 1) * dmN l 27720 l.length) else false
theorem impl_DensityFeasible_ev (l : List Task) (c : Int) (hl : l.length ≤ 1048576) (_ : wfI c) : Tl (fun k => impl_DensityFeasible.f k l c) (DensityFeasible_D l c) := by
  unfold impl_DensityFeasible.f DensityFeasible_D
  have hj : Tl (fun k => impl_DensityFeasible.j0 k l c true) false := by
    refine Tl.step ?_
    simp only [impl_DensityFeasible.j0]
    exact Tl.iteT trivial (Tl.ret _)
  refine Tl.bind (impl_SetValid_ev l hl) ?_
  by_cases h : okSet l = true
  · have e0 : impl_isCores.f c = some (decide (1 ≤ c ∧ c ≤ 5)) := by unfold impl_isCores.f; rw [impl_in_f]; rfl
    refine Tl.iteT h (Tl.bind (Tl.of_eq fun _ => e0) ?_)
    have hl5 := okSet_len h
    by_cases hc : 1 ≤ c ∧ c ≤ 5
    · rw [if_pos ⟨h, hc⟩, decide_eq_true hc]
      refine Tl.step ?_
      simp only [impl_DensityFeasible.j0]
      refine Tl.iteF (by simp) ?_
      refine down (Q := fun j => Tl (fun k => impl_DensityFeasible.l0 k c (dsN l 27720 j) (dmN l 27720 j) l (l.length : Int) (j : Int)) _) l.length ?_ ?_
      · have hb := ds_le h (d := 27720) (by omega) (by omega) l.length (Nat.le_refl _)
        have h5 : (c - 1) * dmN l 27720 l.length ≤ 4 * 221760 := Int.mul_le_mul (by omega) (by omega) (by omega) (by omega)
        have h6 : 0 ≤ (c - 1) * dmN l 27720 l.length := Int.mul_nonneg (by omega) (by omega)
        refine Tl.step ?_
        simp only [impl_DensityFeasible.l0]
        refine Tl.iteF (by omega) ?_
        rw [wrap_id (n := c * 27720) (by omega) (by omega), wrap_id (n := c - 1) (by omega) (by omega), wrap_id (n := (c - 1) * _) (by omega) (by omega), wrap_id (n := _ - _) (by omega) (by omega)]
        exact Tl.ret _
      · intro j hj hh
        have ht := okSet_tk h hj
        have hb := ds_le h (d := 27720) (by omega) (by omega) (j + 1) (by omega)
        refine Tl.step ?_
        simp only [impl_DensityFeasible.l0, rd_tk]
        refine Tl.iteT (by omega) (Tl.iteT (by omega) (Tl.iteT (by omega) (Tl.iteF (by omega) ?_)))
        rw [d_wrap h (by omega) (by omega) hj, wrap_succ hj (by omega), show wrap64 (dsN l 27720 j + 27720 / (tk l j).f1 * (tk l j).f0) = dsN l 27720 (j + 1) from wrap_id (by show _ ≤ dsN l 27720 (j + 1); omega) (by show dsN l 27720 (j + 1) ≤ _; omega)]
        exact hh
    · rw [if_neg (fun h3 => hc h3.2), decide_eq_false hc]; exact hj
  · rw [if_neg (fun h3 => h h3.1)]; exact Tl.iteF h hj
theorem spec_DensityFeasible_ev (l : List Task) (c : Int) (hl : l.length ≤ 1048576) (_ : wfI c) : Tl (fun k => spec_DensityFeasible.f k l c) (DensityFeasible_D l c) := by
  unfold spec_DensityFeasible.f DensityFeasible_D
  have hj : Tl (fun k => spec_DensityFeasible.j0 k l c true) false := by
    refine Tl.step ?_
    simp only [spec_DensityFeasible.j0]
    exact Tl.iteT trivial (Tl.ret _)
  refine Tl.bind (spec_SetValid_ev l hl) ?_
  by_cases h : okSet l = true
  · refine Tl.iteT h (Tl.bind (Tl.of_eq fun _ => spec_l1In_f _ _ _) ?_)
    have hl5 := okSet_len h
    by_cases hc : 1 ≤ c ∧ c ≤ 5
    · rw [if_pos ⟨h, hc⟩, decide_eq_true hc]
      have hd := dlN_le h (Nat.le_refl l.length)
      obtain ⟨g, hg⟩ := (dlN_ok h l.length (Nat.le_refl _)).2
      have hg' : (27720 : Int) = g * dlN l l.length := by rw [hg]; exact Int.mul_comm _ _
      have hg1 : 1 ≤ g := by
        rcases Int.lt_or_le g 1 with h5 | h5
        · have : g * dlN l l.length ≤ 0 * dlN l l.length := Int.mul_le_mul_of_nonneg_right (by omega) (by omega)
          omega
        · exact h5
      obtain ⟨s1, s2⟩ := ds_scale h hg1 (dlN_dvd h l.length (Nat.le_refl _)) l.length (Nat.le_refl _)
      have e : decide (dsN l 27720 l.length ≤ c * 27720 - (c - 1) * dmN l 27720 l.length) = decide (dsN l (dlN l l.length) l.length + (c - 1) * dmN l (dlN l l.length) l.length ≤ c * dlN l l.length) := by
        rw [decide_eq_decide, hg', s1, s2]
        have e1 : c * (g * dlN l l.length) - (c - 1) * (g * dmN l (dlN l l.length) l.length) = g * (c * dlN l l.length - (c - 1) * dmN l (dlN l l.length) l.length) := by
          rw [Int.mul_sub, Int.mul_left_comm, Int.mul_left_comm (c - 1)]
        rw [e1]
        constructor
        · intro h7; have := Int.le_of_mul_le_mul_left h7 (by omega); omega
        · intro h7; exact Int.mul_le_mul_of_nonneg_left (by omega) (by omega)
      rw [e]
      refine Tl.step ?_
      simp only [spec_DensityFeasible.j0]
      refine Tl.iteF (by simp) ?_
      refine down (Q := fun j => Tl (fun k => spec_DensityFeasible.l0 k l c (dlN l j) (j : Int)) _) l.length ?_ ?_
      · refine Tl.step ?_
        simp only [spec_DensityFeasible.l0]
        refine Tl.iteF (by omega) ?_
        refine down (Q := fun j => Tl (fun k => spec_DensityFeasible.l1 k l c (dlN l l.length) (dsN l (dlN l l.length) j) (dmN l (dlN l l.length) j) (j : Int)) _) l.length ?_ ?_
        · have hb := ds_le h (d := dlN l l.length) (by omega) (by omega) l.length (Nat.le_refl _)
          have h5 : (c - 1) * dmN l (dlN l l.length) l.length ≤ 4 * 221760 := Int.mul_le_mul (by omega) (by omega) (by omega) (by omega)
          have h6 : 0 ≤ (c - 1) * dmN l (dlN l l.length) l.length := Int.mul_nonneg (by omega) (by omega)
          have h7 : c * dlN l l.length ≤ 5 * 27720 := Int.mul_le_mul (by omega) (by omega) (by omega) (by omega)
          have h8 : 0 ≤ c * dlN l l.length := Int.mul_nonneg (by omega) (by omega)
          refine Tl.step ?_
          simp only [spec_DensityFeasible.l1]
          refine Tl.iteF (by omega) ?_
          rw [wrap_id (n := c - 1) (by omega) (by omega), wrap_id (n := (c - 1) * _) (by omega) (by omega), wrap_id (n := dsN _ _ _ + _) (by omega) (by omega), wrap_id (n := c * _) (by omega) (by omega)]
          exact Tl.ret _
        · intro j hj hh
          have ht := okSet_tk h hj
          have hb := ds_le h (d := dlN l l.length) (by omega) (by omega) (j + 1) (by omega)
          refine Tl.step ?_
          simp only [spec_DensityFeasible.l1, rd_tk]
          refine Tl.iteT (by omega) (Tl.iteT (by omega) (Tl.iteF (by omega) ?_))
          rw [Int.mul_comm (tk l j).f0, d_wrap h (by omega) (by omega) hj, wrap_succ hj (by omega), show wrap64 (dsN l (dlN l l.length) j + dlN l l.length / (tk l j).f1 * (tk l j).f0) = dsN l (dlN l l.length) (j + 1) from wrap_id (by show _ ≤ dsN l (dlN l l.length) (j + 1); omega) (by show dsN l (dlN l l.length) (j + 1) ≤ _; omega)]
          exact hh
      · intro j hj hh
        have h1 := dlN_le h (show j ≤ l.length by omega)
        have ht := okSet_tk h hj
        refine Tl.step ?_
        simp only [spec_DensityFeasible.l0, rd_tk]
        refine Tl.iteT (by omega) (Tl.iteT (by omega) (Tl.bind (spec_l1Gcd_ev _ _ (by omega) (by omega)) ?_))
        have hg := gcd_pos' (p := (tk l j).f1) h1.1
        refine Tl.iteF (by omega) ?_
        rw [dl_step h hj, wrap_succ hj (by omega)]
        exact hh
    · rw [if_neg (fun h3 => hc h3.2), decide_eq_false hc]; exact hj
  · rw [if_neg (fun h3 => h h3.1)]; exact Tl.iteF h hj
end Go.Proofs.Ytcpgejgppiclmaa.Print
