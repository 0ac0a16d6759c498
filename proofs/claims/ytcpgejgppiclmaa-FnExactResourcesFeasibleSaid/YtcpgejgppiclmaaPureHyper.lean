/- The hyperperiod, the load and the demand of a valid set, as the program and as the reference compute them. No condition. -/
import Derived.Test.YtcpgejgppiclmaaPureTask
import Derived.Test.YtcpgejgppiclmaaPK5e0
namespace Go.Proofs.Ytcpgejgppiclmaa.Print
open Go.RowKit Go.Proofs.YtcpgejgppiclmaaW.PrintWords Go.Proofs.Ytcpgejgppiclmaa.Evs Go.Proofs.Ytcpgejgppiclmaa.Opens
set_option linter.unusedSimpArgs false
set_option linter.unusedVariables false
theorem tmod_pos {a b : Int} (ha : 0 ≤ a) (_hb : 0 < b) : Int.tmod a b = a % b := Int.tmod_eq_emod_of_nonneg ha
theorem tdiv_pos {a b : Int} (ha : 0 ≤ a) : Int.tdiv a b = a / b := Int.tdiv_eq_ediv_of_nonneg ha
theorem gcd_step {a b : Int} (ha : 0 ≤ a) (hb : 0 ≤ b) : Int.gcd a b = Int.gcd b (a % b) := by
  obtain ⟨n, rfl⟩ := Int.eq_ofNat_of_zero_le ha
  obtain ⟨m, rfl⟩ := Int.eq_ofNat_of_zero_le hb
  rw [← Int.natCast_emod, Int.gcd_natCast_natCast, Int.gcd_natCast_natCast, Nat.gcd_comm n m, Nat.gcd_rec m n, Nat.gcd_comm]
theorem impl_gcd_ev (a b : Int) (ha : 0 ≤ a) (hb : 0 ≤ b) : Tl (fun k => impl_gcd.f k a b) (Int.gcd a b) := by
  unfold impl_gcd.f
  obtain ⟨n, hn⟩ : ∃ n : Nat, b.toNat = n := ⟨_, rfl⟩
  induction n using Nat.strongRecOn generalizing a b with
  | _ n ih =>
    refine Tl.step ?_
    simp only [impl_gcd.l0]
    by_cases h : b = 0
    · subst h
      refine Tl.iteT rfl ?_
      rw [Int.gcd_zero_right, Int.natAbs_of_nonneg ha]
      exact Tl.ret _
    · refine Tl.iteF h ?_
      rw [tmod_pos ha (by omega)]
      have hm := Int.emod_lt_of_pos a (show 0 < b by omega)
      have hm0 := Int.emod_nonneg a h
      have := ih (a % b).toNat (by omega) b (a % b) hb hm0 rfl
      rw [gcd_step ha hb]
      exact this
theorem spec_l1Gcd_ev (a b : Int) (ha : 0 ≤ a) (hb : 0 ≤ b) : Tl (fun k => spec_l1Gcd.f k a b) (Int.gcd a b) := by
  unfold spec_l1Gcd.f
  obtain ⟨n, hn⟩ : ∃ n : Nat, b.toNat = n := ⟨_, rfl⟩
  induction n using Nat.strongRecOn generalizing a b with
  | _ n ih =>
    refine Tl.step ?_
    simp only [spec_l1Gcd.l0]
    by_cases h : b = 0
    · subst h
      refine Tl.iteF (by omega) ?_
      rw [Int.gcd_zero_right, Int.natAbs_of_nonneg ha]
      exact Tl.ret _
    · refine Tl.iteT (by omega) ?_
      refine Tl.iteF h ?_
      rw [tmod_pos ha (by omega)]
      have hm := Int.emod_lt_of_pos a (show 0 < b by omega)
      have hm0 := Int.emod_nonneg a h
      have := ih (a % b).toNat (by omega) b (a % b) hb hm0 rfl
      rw [gcd_step ha hb]
      exact this
/-- Task j of a list. -/
def tk (l : List Task) (j : Nat) : Task := l.getD j z81
theorem rd_tk (l : List Task) (j : Nat) : rd_T81 l (j : Int) = tk l j := rfl
theorem okSet_len {l : List Task} (h : okSet l = true) : l.length ≤ 5 := by unfold okSet at h; simp at h; exact h.1
theorem okSet_tk {l : List Task} (h : okSet l = true) {j : Nat} (hj : j < l.length) : 1 ≤ (tk l j).f0 ∧ (tk l j).f0 ≤ 8 ∧ (tk l j).f0 ≤ (tk l j).f1 ∧ (tk l j).f1 ≤ (tk l j).f2 ∧ (tk l j).f2 ≤ 12 := by
  unfold okSet at h
  rw [Bool.and_eq_true, List.all_eq_true] at h
  have h1 : tk l j ∈ l := by unfold tk; simp [List.getD_eq_getElem?_getD, hj]
  have := h.2 _ h1
  unfold okTask at this
  exact of_decide_eq_true this
/-- The least common multiple of the first j periods. -/
def hypN (l : List Task) : Nat → Int
  | 0 => 1
  | j + 1 => hypN l j / (Int.gcd (hypN l j) (tk l j).f2 : Int) * (tk l j).f2
def hyp (l : List Task) : Int := hypN l l.length
theorem small_dvd {p : Int} (h0 : 1 ≤ p) (h1 : p ≤ 12) : p ∣ 27720 := by
  have : p = 1 ∨ p = 2 ∨ p = 3 ∨ p = 4 ∨ p = 5 ∨ p = 6 ∨ p = 7 ∨ p = 8 ∨ p = 9 ∨ p = 10 ∨ p = 11 ∨ p = 12 := by omega
  rcases this with rfl | rfl | rfl | rfl | rfl | rfl | rfl | rfl | rfl | rfl | rfl | rfl <;> decide
theorem lcm_dvd {a p m : Int} (ha : a ∣ m) (hp : p ∣ m) (h0 : 0 < a) (hp0 : 0 < p) : a / (Int.gcd a p : Int) * p ∣ m := by
  have hg : ((Int.gcd a p : Nat) : Int) ∣ a := Int.gcd_dvd_left _ _
  have e : a / (Int.gcd a p : Int) * p = (Int.lcm a p : Int) := by
    have h1 : (Int.gcd a p * Int.lcm a p : Nat) = (a * p).natAbs := by rw [Int.gcd_mul_lcm, Int.natAbs_mul]
    have h2 : ((Int.gcd a p : Nat) : Int) * ((Int.lcm a p : Nat) : Int) = a * p := by
      rw [← Int.natCast_mul, h1, Int.natAbs_of_nonneg (Int.mul_nonneg (show 0 ≤ a by omega) (show 0 ≤ p by omega))]
    have hg0 : 0 < ((Int.gcd a p : Nat) : Int) := by
      have := Int.gcd_pos_of_ne_zero_left p (show a ≠ 0 by omega)
      omega
    obtain ⟨c, hc⟩ := hg
    have h3 : a / ((Int.gcd a p : Nat) : Int) = c := Int.ediv_eq_of_eq_mul_right (by omega) hc
    rw [h3]
    have h4 : ((Int.gcd a p : Nat) : Int) * ((Int.lcm a p : Nat) : Int) = ((Int.gcd a p : Nat) : Int) * (c * p) := by rw [h2, ← Int.mul_assoc, ← hc]
    exact (Int.eq_of_mul_eq_mul_left (by omega) h4).symm
  rw [e]
  exact Int.coe_lcm_dvd ha hp
theorem hypN_ok {l : List Task} (h : okSet l = true) : ∀ j, j ≤ l.length → 1 ≤ hypN l j ∧ hypN l j ∣ 27720
  | 0, _ => by unfold hypN; exact ⟨by omega, ⟨27720, by omega⟩⟩
  | j + 1, hj => by
    obtain ⟨h1, h2⟩ := hypN_ok h j (by omega)
    have ht := okSet_tk h (show j < l.length by omega)
    unfold hypN
    refine ⟨?_, lcm_dvd h2 (small_dvd (by omega) (by omega)) (by omega) (by omega)⟩
    have hg : ((Int.gcd (hypN l j) (tk l j).f2 : Nat) : Int) ∣ hypN l j := Int.gcd_dvd_left _ _
    have hg0 : 0 < ((Int.gcd (hypN l j) (tk l j).f2 : Nat) : Int) := by
      have := Int.gcd_pos_of_ne_zero_left (tk l j).f2 (show hypN l j ≠ 0 by omega)
      omega
    have hd : 1 ≤ hypN l j / ((Int.gcd (hypN l j) (tk l j).f2 : Nat) : Int) := by
      have := Int.le_of_dvd (by omega) hg
      exact Int.le_ediv_of_mul_le hg0 (by omega)
    calc (1 : Int) ≤ 1 * 1 := by omega
      _ ≤ _ := Int.mul_le_mul hd (by omega) (by omega) (by omega)
theorem hypN_le {l : List Task} (h : okSet l = true) {j : Nat} (hj : j ≤ l.length) : 1 ≤ hypN l j ∧ hypN l j ≤ 27720 := by
  obtain ⟨h1, h2⟩ := hypN_ok h j hj
  exact ⟨h1, Int.le_of_dvd (by omega) h2⟩
theorem gcd_pos' {a p : Int} (h : 1 ≤ a) : 1 ≤ ((Int.gcd a p : Nat) : Int) := by
  have := Int.gcd_pos_of_ne_zero_left p (show a ≠ 0 by omega)
  omega
theorem hypN_step {l : List Task} (h : okSet l = true) {j : Nat} (hj : j < l.length) :
    wrap64 (wrap64 (Int.tdiv (hypN l j) (Int.gcd (hypN l j) (tk l j).f2 : Int)) * (tk l j).f2) = hypN l (j + 1) := by
  obtain ⟨h1, h2⟩ := hypN_le h (show j ≤ l.length by omega)
  obtain ⟨h3, h4⟩ := hypN_le h (show j + 1 ≤ l.length by omega)
  have hg := gcd_pos' (p := (tk l j).f2) h1
  rw [tdiv_pos (by omega)]
  have h5 : 0 ≤ hypN l j / (Int.gcd (hypN l j) (tk l j).f2 : Int) := Int.ediv_nonneg (by omega) (by omega)
  have h6 : hypN l j / (Int.gcd (hypN l j) (tk l j).f2 : Int) ≤ hypN l j := Int.ediv_le_self _ (by omega)
  rw [wrap_id (n := hypN l j / _) (by omega) (by omega)]
  exact wrap_id (by show _ ≤ hypN l (j + 1); omega) (by show hypN l (j + 1) ≤ _; omega)
theorem spec_hyper_ev {l : List Task} (h : okSet l = true) : Tl (fun k => spec_l1Hyper.f k l) (hyp l) := by
  unfold spec_l1Hyper.f
  have hl := okSet_len h
  refine down (Q := fun j => Tl (fun k => spec_l1Hyper.l0 k l (hypN l j) (j : Int)) (hyp l)) l.length ?_ ?_
  · refine Tl.step ?_
    simp only [spec_l1Hyper.l0]
    refine Tl.iteF (by omega) ?_
    exact Tl.ret _
  · intro j hj hh
    obtain ⟨h1, h2⟩ := hypN_le h (show j ≤ l.length by omega)
    have ht := okSet_tk h hj
    refine Tl.step ?_
    simp only [spec_l1Hyper.l0, rd_tk]
    refine Tl.iteT (by omega) (Tl.iteT (by omega) (Tl.bind (spec_l1Gcd_ev _ _ (by omega) (by omega)) ?_))
    have hg := gcd_pos' (p := (tk l j).f2) h1
    refine Tl.iteF (by omega) ?_
    rw [hypN_step h hj, wrap_succ hj (by omega)]
    exact hh
theorem impl_lcm_ev {l : List Task} (h : okSet l = true) {j : Nat} (hj : j < l.length) : Tl (fun k => impl_lcm.f k (hypN l j) (tk l j).f2) (hypN l (j + 1)) := by
  obtain ⟨h1, h2⟩ := hypN_le h (show j ≤ l.length by omega)
  have ht := okSet_tk h hj
  unfold impl_lcm.f
  refine Tl.bind (impl_gcd_ev _ _ (by omega) (by omega)) ?_
  have hg := gcd_pos' (p := (tk l j).f2) h1
  refine Tl.iteF (by omega) ?_
  rw [hypN_step h hj]
  exact Tl.ret _
theorem impl_hyper_ev {l : List Task} (h : okSet l = true) : Tl (fun k => impl_hyper.f k l) (hyp l) := by
  unfold impl_hyper.f
  have hl := okSet_len h
  refine down (Q := fun j => Tl (fun k => impl_hyper.l0 k (hypN l j) l (l.length : Int) (j : Int)) (hyp l)) l.length ?_ ?_
  · refine Tl.step ?_
    simp only [impl_hyper.l0]
    refine Tl.iteF (by omega) ?_
    exact Tl.ret _
  · intro j hj hh
    refine Tl.step ?_
    simp only [impl_hyper.l0, rd_tk]
    refine Tl.iteT (by omega) (Tl.iteT (by omega) (Tl.iteT (by omega) (Tl.bind (impl_lcm_ev h hj) ?_)))
    rw [wrap_succ hj (by omega)]
    exact hh
theorem hyp_le {l : List Task} (h : okSet l = true) : 1 ≤ hyp l ∧ hyp l ≤ 27720 := hypN_le h (Nat.le_refl _)
theorem hypN_dvd {l : List Task} (h : okSet l = true) : ∀ m, m ≤ l.length → ∀ j, j < m → (tk l j).f2 ∣ hypN l m
  | 0, _, j, hj => by omega
  | m + 1, hm, j, hj => by
    have h1 := (hypN_le h (show m ≤ l.length by omega)).1
    have ht := okSet_tk h (show m < l.length by omega)
    have e : hypN l (m + 1) = (Int.lcm (hypN l m) (tk l m).f2 : Int) := by
      apply Int.dvd_antisymm (by have := (hypN_le h hm).1; omega) (by omega)
      · exact lcm_dvd (Int.dvd_lcm_left _ _) (Int.dvd_lcm_right _ _) (by omega) (by omega)
      · apply Int.coe_lcm_dvd
        · obtain ⟨c, hc⟩ : ((Int.gcd (hypN l m) (tk l m).f2 : Nat) : Int) ∣ (tk l m).f2 := Int.gcd_dvd_right _ _
          obtain ⟨d, hd⟩ : ((Int.gcd (hypN l m) (tk l m).f2 : Nat) : Int) ∣ hypN l m := Int.gcd_dvd_left _ _
          have hg := gcd_pos' (p := (tk l m).f2) h1
          have h3 : hypN l m / ((Int.gcd (hypN l m) (tk l m).f2 : Nat) : Int) = d := Int.ediv_eq_of_eq_mul_right (by omega) hd
          refine ⟨c, ?_⟩
          show hypN l m / ((Int.gcd (hypN l m) (tk l m).f2 : Nat) : Int) * (tk l m).f2 = _
          rw [h3]
          generalize ((Int.gcd (hypN l m) (tk l m).f2 : Nat) : Int) = g at hc hd
          rw [hc, hd, Int.mul_left_comm, Int.mul_assoc]
        · exact ⟨hypN l m / ((Int.gcd (hypN l m) (tk l m).f2 : Nat) : Int), Int.mul_comm _ _⟩
    rw [e]
    rcases Nat.lt_or_ge j m with hlt | hge
    · exact Int.dvd_trans (hypN_dvd h m (by omega) j hlt) (Int.dvd_lcm_left _ _)
    · obtain rfl : j = m := by omega
      exact Int.dvd_lcm_right _ _
end Go.Proofs.Ytcpgejgppiclmaa.Print
