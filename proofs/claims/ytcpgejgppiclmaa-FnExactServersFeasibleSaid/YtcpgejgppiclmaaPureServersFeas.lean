/- ServersFeasible, as the program and as the reference compute it. No condition. -/
import Derived.Test.YtcpgejgppiclmaaPureServer
import Derived.Test.YtcpgejgppiclmaaPureDemand
import Derived.Test.YtcpgejgppiclmaaPK400
namespace Go.Proofs.Ytcpgejgppiclmaa.Print
open Go.RowKit Go.Proofs.YtcpgejgppiclmaaW.PrintWords Go.Proofs.Ytcpgejgppiclmaa.Evs Go.Proofs.Ytcpgejgppiclmaa.Opens
set_option linter.unusedSimpArgs false
set_option linter.unusedVariables false
/-- The product, and the least common multiple, of the first j periods. -/
def denI (l : List Server) : Nat → Int
  | 0 => 1
  | j + 1 => denI l j * (sv l j).f1
def denS (l : List Server) : Nat → Int
  | 0 => 1
  | j + 1 => denS l j / (Int.gcd (denS l j) (sv l j).f1 : Int) * (sv l j).f1
/-- The sum of the budgets over den. -/
def numN (l : List Server) (den : Int) : Nat → Int
  | 0 => 0
  | j + 1 => numN l den j + den / (sv l j).f1 * (sv l j).f0
theorem den_ok {l : List Server} (h : okServers l = true) : ∀ j, j ≤ l.length → 1 ≤ denI l j ∧ denI l j ≤ 12 ^ j ∧ 1 ≤ denS l j ∧ denS l j ∣ denI l j
  | 0, _ => by unfold denI denS; exact ⟨by omega, by decide, by omega, Int.dvd_refl _⟩
  | j + 1, hj => by
    obtain ⟨h1, h2, h3, h4⟩ := den_ok h j (by omega)
    have ht := okServers_at h (show j < l.length by omega)
    have hg := gcd_pos' (p := (sv l j).f1) h3
    have hgd : ((Int.gcd (denS l j) (sv l j).f1 : Nat) : Int) ∣ denS l j := Int.gcd_dvd_left _ _
    have hd : 1 ≤ denS l j / ((Int.gcd (denS l j) (sv l j).f1 : Nat) : Int) := Int.le_ediv_of_mul_le (by omega) (by have := Int.le_of_dvd (by omega) hgd; omega)
    unfold denI denS
    refine ⟨?_, ?_, ?_, ?_⟩
    · calc (1 : Int) ≤ 1 * 1 := by omega
        _ ≤ _ := Int.mul_le_mul h1 (by omega) (by omega) (by omega)
    · calc denI l j * (sv l j).f1 ≤ 12 ^ j * 12 := Int.mul_le_mul h2 (by omega) (by omega) (Int.pow_nonneg (by omega))
        _ = 12 ^ (j + 1) := by rw [Int.pow_succ]
    · calc (1 : Int) ≤ 1 * 1 := by omega
        _ ≤ _ := Int.mul_le_mul hd (by omega) (by omega) (by omega)
    · refine Int.mul_dvd_mul ?_ (Int.dvd_refl _)
      exact Int.dvd_trans ⟨_, (Int.ediv_mul_cancel hgd).symm⟩ h4
theorem denS_dvd {l : List Server} (h : okServers l = true) : ∀ m, m ≤ l.length → ∀ j, j < m → (sv l j).f1 ∣ denS l m
  | 0, _, j, hj => by omega
  | m + 1, hm, j, hj => by
    obtain ⟨_, _, h3, _⟩ := den_ok h m (by omega)
    have ht := okServers_at h (show m < l.length by omega)
    rcases Nat.lt_or_ge j m with hlt | hge
    · refine Int.dvd_trans (denS_dvd h m (by omega) j hlt) ?_
      obtain ⟨c, hc⟩ : ((Int.gcd (denS l m) (sv l m).f1 : Nat) : Int) ∣ (sv l m).f1 := Int.gcd_dvd_right _ _
      obtain ⟨d, hd⟩ : ((Int.gcd (denS l m) (sv l m).f1 : Nat) : Int) ∣ denS l m := Int.gcd_dvd_left _ _
      have hg := gcd_pos' (p := (sv l m).f1) h3
      have e : denS l m / ((Int.gcd (denS l m) (sv l m).f1 : Nat) : Int) = d := Int.ediv_eq_of_eq_mul_right (by omega) hd
      refine ⟨c, ?_⟩
      show denS l m / ((Int.gcd (denS l m) (sv l m).f1 : Nat) : Int) * (sv l m).f1 = _
      rw [e]
      generalize ((Int.gcd (denS l m) (sv l m).f1 : Nat) : Int) = g at hc hd
      rw [hc, hd, Int.mul_left_comm, Int.mul_assoc]
    · obtain rfl : j = m := by omega
      exact ⟨denS l j / ((Int.gcd (denS l j) (sv l j).f1 : Nat) : Int), Int.mul_comm _ _⟩
theorem num_scale {l : List Server} (h : okServers l = true) {g d : Int} (hd : ∀ j, j < l.length → (sv l j).f1 ∣ d) : ∀ j, j ≤ l.length → numN l (g * d) j = g * numN l d j
  | 0, _ => by unfold numN; omega
  | j + 1, hj => by
    have ht := okServers_at h (show j < l.length by omega)
    have h2 := num_scale (g := g) h hd j (by omega)
    obtain ⟨c, hc⟩ := hd j (by omega)
    have e1 : d / (sv l j).f1 = c := Int.ediv_eq_of_eq_mul_right (by omega) hc
    have e2 : g * d / (sv l j).f1 = g * c := Int.ediv_eq_of_eq_mul_right (by omega) (by rw [hc]; exact Int.mul_left_comm _ _ _)
    unfold numN
    rw [h2, e1, e2, Int.mul_add, Int.mul_assoc]
theorem numN_le {l : List Server} (h : okServers l = true) {d : Int} (h0 : 0 ≤ d) (h1 : d ≤ 144) : ∀ j, j ≤ l.length → 0 ≤ numN l d j ∧ numN l d j ≤ 1728 * j
  | 0, _ => by unfold numN; omega
  | j + 1, hj => by
    have ht := okServers_at h (show j < l.length by omega)
    have h2 := numN_le h h0 h1 j (by omega)
    have h6 : 0 ≤ d / (sv l j).f1 := Int.ediv_nonneg (by omega) (by omega)
    have h7 : d / (sv l j).f1 ≤ d := Int.ediv_le_self _ (by omega)
    have h8 : d / (sv l j).f1 * (sv l j).f0 ≤ 144 * 12 := Int.mul_le_mul (by omega) (by omega) (by omega) (by omega)
    have h9 : 0 ≤ d / (sv l j).f1 * (sv l j).f0 := Int.mul_nonneg h6 (by omega)
    unfold numN
    omega
theorem num_step {l : List Server} (h : okServers l = true) {d : Int} (h0 : 0 ≤ d) (h1 : d ≤ 144) {j : Nat} (hj : j < l.length) :
    wrap64 (numN l d j + wrap64 (wrap64 (Int.tdiv d (sv l j).f1) * (sv l j).f0)) = numN l d (j + 1) := by
  have ht := okServers_at h hj
  have h2 := numN_le h h0 h1 (j + 1) (by omega)
  have hl := okServers_len h
  have h6 : 0 ≤ d / (sv l j).f1 := Int.ediv_nonneg (by omega) (by omega)
  have h7 : d / (sv l j).f1 ≤ d := Int.ediv_le_self _ (by omega)
  have h8 : d / (sv l j).f1 * (sv l j).f0 ≤ 144 * 12 := Int.mul_le_mul (by omega) (by omega) (by omega) (by omega)
  have h9 : 0 ≤ d / (sv l j).f1 * (sv l j).f0 := Int.mul_nonneg h6 (by omega)
  rw [tdiv_pos h0, wrap_id (n := d / _) (by omega) (by omega), wrap_id (n := _ * _) (by omega) (by omega)]
  show wrap64 (numN l d (j + 1)) = _
  exact wrap_id (by omega) (by omega)
/-- Does demand and bandwidth fit from t on, n times? -/
def fitN (s : List Task) (d u : Int) : Nat → Int → Bool
  | 0, _ => true
  | n + 1, t => if dem s t * d + t * u > t * d then false else fitN s d u n (t + 1)
theorem fit_scale (s : List Task) {g d u : Int} (hg : 1 ≤ g) : ∀ (n : Nat) (t : Int), fitN s (g * d) (g * u) n t = fitN s d u n t
  | 0, _ => rfl
  | n + 1, t => by
    unfold fitN
    rw [fit_scale s hg n (t + 1)]
    have e : (dem s t * (g * d) + t * (g * u) > t * (g * d)) ↔ (dem s t * d + t * u > t * d) := by
      have e1 : dem s t * (g * d) + t * (g * u) = g * (dem s t * d + t * u) := by rw [Int.mul_add, Int.mul_left_comm, Int.mul_left_comm t]
      have e2 : t * (g * d) = g * (t * d) := Int.mul_left_comm _ _ _
      rw [e1, e2]
      constructor
      · intro h; exact Int.lt_of_mul_lt_mul_left h (by omega)
      · intro h; exact Int.mul_lt_mul_of_pos_left h (by omega)
    by_cases hc : dem s t * d + t * u > t * d
    · rw [if_pos hc, if_pos (e.2 hc)]
    · rw [if_neg hc, if_neg (fun h => hc (e.1 h))]
theorem fit_wrap {s : List Task} (h : okSet s = true) {t d u : Int} (ht : 1 ≤ t ∧ t ≤ 30000) (hd : 0 ≤ d ∧ d ≤ 144) (hu : 0 ≤ u ∧ u ≤ 3456) :
    wrap64 (wrap64 (dem s t * d) + wrap64 (t * u)) = dem s t * d + t * u ∧ wrap64 (t * d) = t * d := by
  have h1 := dem_le h (t := t) (by omega)
  have h2 : dem s t * d ≤ 40000040 * 144 := Int.mul_le_mul (by omega) (by omega) (by omega) (by omega)
  have h3 : 0 ≤ dem s t * d := Int.mul_nonneg (by omega) (by omega)
  have h4 : t * u ≤ 30000 * 3456 := Int.mul_le_mul (by omega) (by omega) (by omega) (by omega)
  have h5 : 0 ≤ t * u := Int.mul_nonneg (by omega) (by omega)
  have h6 : t * d ≤ 30000 * 144 := Int.mul_le_mul (by omega) (by omega) (by omega) (by omega)
  have h7 : 0 ≤ t * d := Int.mul_nonneg (by omega) (by omega)
  rw [wrap_id (n := dem s t * d) (by omega) (by omega), wrap_id (n := t * u) (by omega) (by omega)]
  exact ⟨wrap_id (by omega) (by omega), wrap_id (by omega) (by omega)⟩
theorem spec_fit_ev {s : List Task} (h : okSet s = true) {d u : Int} (hd : 0 ≤ d ∧ d ≤ 144) (hu : 0 ≤ u ∧ u ≤ 3456) : ∀ (n : Nat) (t : Int), 1 ≤ t → t + n = hyp s + 1 → Tl (fun k => spec_ServersFeasible.l2 k s d u (hyp s) t) (fitN s d u n t)
  | 0, t, h1, h2 => by
    refine Tl.step ?_
    simp only [spec_ServersFeasible.l2]
    exact Tl.iteF (by omega) (Tl.ret _)
  | n + 1, t, h1, h2 => by
    have hh := hyp_le h
    obtain ⟨e1, e2⟩ := fit_wrap h (t := t) ⟨h1, by omega⟩ hd hu
    refine Tl.step ?_
    simp only [spec_ServersFeasible.l2]
    refine Tl.iteT (by omega) (Tl.bind (spec_demand_ev h (by omega) (by omega)) ?_)
    rw [e1, e2, wrap_id (n := t + 1) (by omega) (by omega)]
    by_cases hc : dem s t * d + t * u > t * d
    · unfold fitN; rw [if_pos hc]; exact Tl.iteT hc (Tl.ret _)
    · unfold fitN; rw [if_neg hc]; exact Tl.iteF hc (spec_fit_ev h hd hu n (t + 1) (by omega) (by omega))
theorem impl_fit_ev {s : List Task} (h : okSet s = true) {d u : Int} (hd : 0 ≤ d ∧ d ≤ 144) (hu : 0 ≤ u ∧ u ≤ 3456) : ∀ (n : Nat) (t : Int), 1 ≤ t → t + n = hyp s + 1 → Tl (fun k => impl_ServersFeasible.l2 k s d u t) (fitN s d u n t)
  | 0, t, h1, h2 => by
    refine Tl.step ?_
    simp only [impl_ServersFeasible.l2]
    exact Tl.bind (impl_hyper_ev h) (Tl.iteF (by omega) (Tl.ret _))
  | n + 1, t, h1, h2 => by
    have hh := hyp_le h
    obtain ⟨e1, e2⟩ := fit_wrap h (t := t) ⟨h1, by omega⟩ hd hu
    refine Tl.step ?_
    simp only [impl_ServersFeasible.l2]
    refine Tl.bind (impl_hyper_ev h) (Tl.iteT (by omega) (Tl.bind (impl_demand_ev h (by omega) (by omega)) ?_))
    rw [e1, e2, wrap_id (n := t + 1) (by omega) (by omega)]
    by_cases hc : dem s t * d + t * u > t * d
    · unfold fitN; rw [if_pos hc]; exact Tl.iteT hc (Tl.ret _)
    · unfold fitN; rw [if_neg hc]; exact Tl.iteF hc (impl_fit_ev h hd hu n (t + 1) (by omega) (by omega))
def ServersFeasible_D (s : List Task) (l : List Server) : Bool := if okSet s = true ∧ okServers l = true then fitN s (denI l l.length) (numN l (denI l l.length) l.length) (hyp s).toNat 1 else false
theorem den144 {l : List Server} (h : okServers l = true) {j : Nat} (hj : j ≤ l.length) : 1 ≤ denI l j ∧ denI l j ≤ 144 ∧ 1 ≤ denS l j ∧ denS l j ≤ 144 := by
  obtain ⟨h1, h2, h3, h4⟩ := den_ok h j hj
  have hl := okServers_len h
  have h5 : denI l j ≤ 144 := by
    have : j = 0 ∨ j = 1 ∨ j = 2 := by omega
    rcases this with rfl | rfl | rfl
    · simp at h2; omega
    · simp at h2; omega
    · have : (12 : Int) ^ 2 = 144 := by decide
      omega
  exact ⟨h1, h5, h3, by have := Int.le_of_dvd (by omega) h4; omega⟩
theorem impl_ServersFeasible_ev (s : List Task) (l : List Server) (hs : s.length ≤ 1048576) (hl : l.length ≤ 1048576) : Tl (fun k => impl_ServersFeasible.f k s l) (ServersFeasible_D s l) := by
  unfold impl_ServersFeasible.f ServersFeasible_D
  have hj : Tl (fun k => impl_ServersFeasible.j0 k s l true) false := by
    refine Tl.step ?_
    simp only [impl_ServersFeasible.j0]
    exact Tl.iteT trivial (Tl.ret _)
  refine Tl.bind (impl_SetValid_ev s hs) ?_
  by_cases h : okSet s = true
  · refine Tl.iteT h (Tl.bind (impl_ServersValid_ev l hl) ?_)
    by_cases h2 : okServers l = true
    · rw [if_pos ⟨h, h2⟩, h2]
      have hh := hyp_le h
      have hl2 := okServers_len h2
      refine Tl.step ?_
      simp only [impl_ServersFeasible.j0]
      refine Tl.iteF (by simp) ?_
      refine down (Q := fun j => Tl (fun k => impl_ServersFeasible.l0 k s l (denI l j) 0 l (l.length : Int) (j : Int)) _) l.length ?_ ?_
      · refine Tl.step ?_
        simp only [impl_ServersFeasible.l0]
        refine Tl.iteF (by omega) ?_
        have hd := den144 h2 (Nat.le_refl _)
        refine down (Q := fun j => Tl (fun k => impl_ServersFeasible.l1 k s (denI l l.length) (numN l (denI l l.length) j) l (l.length : Int) (j : Int)) _) l.length ?_ ?_
        · refine Tl.step ?_
          simp only [impl_ServersFeasible.l1]
          have hu := numN_le h2 (d := denI l l.length) (by omega) (by omega) l.length (Nat.le_refl _)
          exact Tl.iteF (by omega) (impl_fit_ev h ⟨by omega, by omega⟩ ⟨by omega, by omega⟩ _ _ (by omega) (by omega))
        · intro j hj hh
          have ht := okServers_at h2 hj
          refine Tl.step ?_
          simp only [impl_ServersFeasible.l1, rd_sv]
          refine Tl.iteT (by omega) (Tl.iteT (by omega) (Tl.iteT (by omega) (Tl.iteF (by omega) ?_)))
          rw [num_step h2 (by omega) (by omega) hj, wrap_succ hj (by omega)]
          exact hh
      · intro j hj hh
        have hd := den144 h2 (show j + 1 ≤ l.length by omega)
        refine Tl.step ?_
        simp only [impl_ServersFeasible.l0, rd_sv]
        refine Tl.iteT (by omega) (Tl.iteT (by omega) (Tl.iteT (by omega) ?_))
        rw [wrap_succ hj (by omega), show wrap64 (denI l j * (sv l j).f1) = denI l (j + 1) from wrap_id (by show _ ≤ denI l (j + 1); omega) (by show denI l (j + 1) ≤ _; omega)]
        exact hh
    · rw [if_neg (fun h3 => h2 h3.2)]
      have e : okServers l = false := by simpa using h2
      rw [e]
      exact hj
  · rw [if_neg (fun h3 => h h3.1)]; exact Tl.iteF h hj
theorem spec_ServersFeasible_ev (s : List Task) (l : List Server) (hs : s.length ≤ 1048576) (hl : l.length ≤ 1048576) : Tl (fun k => spec_ServersFeasible.f k s l) (ServersFeasible_D s l) := by
  unfold spec_ServersFeasible.f ServersFeasible_D
  have hj : Tl (fun k => spec_ServersFeasible.j0 k s l true) false := by
    refine Tl.step ?_
    simp only [spec_ServersFeasible.j0]
    exact Tl.iteT trivial (Tl.ret _)
  refine Tl.bind (spec_SetValid_ev s hs) ?_
  by_cases h : okSet s = true
  · refine Tl.iteT h (Tl.bind (spec_ServersValid_ev l hl) ?_)
    by_cases h2 : okServers l = true
    · rw [if_pos ⟨h, h2⟩, h2]
      have hh := hyp_le h
      have hl2 := okServers_len h2
      have hd := den144 h2 (Nat.le_refl _)
      obtain ⟨_, _, _, g, hg⟩ := den_ok h2 l.length (Nat.le_refl _)
      rw [Int.mul_comm] at hg
      have hg1 : 1 ≤ g := by
        rcases Int.lt_or_le g 1 with h5 | h5
        · have : g * denS l l.length ≤ 0 * denS l l.length := Int.mul_le_mul_of_nonneg_right (by omega) (by omega)
          omega
        · exact h5
      have e : fitN s (denI l l.length) (numN l (denI l l.length) l.length) (hyp s).toNat 1 = fitN s (denS l l.length) (numN l (denS l l.length) l.length) (hyp s).toNat 1 := by
        rw [hg, num_scale h2 (denS_dvd h2 l.length (Nat.le_refl _)) l.length (Nat.le_refl _), fit_scale s hg1]
      rw [e]
      refine Tl.step ?_
      simp only [spec_ServersFeasible.j0]
      refine Tl.iteF (by simp) ?_
      refine down (Q := fun j => Tl (fun k => spec_ServersFeasible.l0 k s l (denS l j) (j : Int)) _) l.length ?_ ?_
      · refine Tl.step ?_
        simp only [spec_ServersFeasible.l0]
        refine Tl.iteF (by omega) ?_
        refine down (Q := fun j => Tl (fun k => spec_ServersFeasible.l1 k s l (denS l l.length) (numN l (denS l l.length) j) (j : Int)) _) l.length ?_ ?_
        · refine Tl.step ?_
          simp only [spec_ServersFeasible.l1]
          have hu := numN_le h2 (d := denS l l.length) (by omega) (by omega) l.length (Nat.le_refl _)
          exact Tl.iteF (by omega) (Tl.bind (spec_hyper_ev h) (spec_fit_ev h ⟨by omega, by omega⟩ ⟨by omega, by omega⟩ _ _ (by omega) (by omega)))
        · intro j hj hh
          have ht := okServers_at h2 hj
          refine Tl.step ?_
          simp only [spec_ServersFeasible.l1, rd_sv]
          refine Tl.iteT (by omega) (Tl.iteT (by omega) (Tl.iteF (by omega) ?_))
          rw [Int.mul_comm (sv l j).f0, num_step h2 (by omega) (by omega) hj, wrap_succ hj (by omega)]
          exact hh
      · intro j hj hh
        have hd1 := den144 h2 (show j + 1 ≤ l.length by omega)
        have hd0 := den144 h2 (show j ≤ l.length by omega)
        have ht := okServers_at h2 hj
        refine Tl.step ?_
        simp only [spec_ServersFeasible.l0, rd_sv]
        refine Tl.iteT (by omega) (Tl.iteT (by omega) (Tl.bind (spec_l1Gcd_ev _ _ (by omega) (by omega)) ?_))
        have hgp := gcd_pos' (p := (sv l j).f1) hd0.2.2.1
        refine Tl.iteF (by omega) ?_
        have h6 : 0 ≤ denS l j / (Int.gcd (denS l j) (sv l j).f1 : Int) := Int.ediv_nonneg (by omega) (by omega)
        have h7 : denS l j / (Int.gcd (denS l j) (sv l j).f1 : Int) ≤ denS l j := Int.ediv_le_self _ (by omega)
        rw [wrap_succ hj (by omega), tdiv_pos (by omega), wrap_id (n := denS l j / _) (by omega) (by omega), show wrap64 (denS l j / (Int.gcd (denS l j) (sv l j).f1 : Int) * (sv l j).f1) = denS l (j + 1) from wrap_id (by show _ ≤ denS l (j + 1); omega) (by show denS l (j + 1) ≤ _; omega)]
        exact hh
    · rw [if_neg (fun h3 => h2 h3.2)]
      have e : okServers l = false := by simpa using h2
      rw [e]
      exact hj
  · rw [if_neg (fun h3 => h h3.1)]; exact Tl.iteF h hj
end Go.Proofs.Ytcpgejgppiclmaa.Print
