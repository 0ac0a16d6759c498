/- SpeedFeasible, as the program and as the reference compute it. No condition. -/
import Derived.Test.YtmpanaefdohjkaaPureDemand
import Derived.Test.YtmpanaefdohjkaaPK100
namespace Go.Proofs.Ytmpanaefdohjkaa.Print
open Go.RowKit Go.Proofs.YtmpanaefdohjkaaW.PrintWords Go.Proofs.Ytmpanaefdohjkaa.Evs Go.Proofs.Ytmpanaefdohjkaa.Opens Go.Proofs.YtmpanaefdohjkaaW.PrintMore
set_option linter.unusedSimpArgs false
set_option linter.unusedVariables false
/-- Is the demand within the speed's bound from t on, n times? -/
def fastN (l : List Task) (a b : Int) : Nat → Int → Bool
  | 0, _ => true
  | n + 1, t => if dem l t * b > t * a then false else fastN l a b n (t + 1)
theorem speed_wrap {l : List Task} (h : okSet l = true) {t b : Int} (ht : t ≤ 30000) (hb : 1 ≤ b ∧ b ≤ 100) : wrap64 (dem l t * b) = dem l t * b := by
  have h1 := dem_le h (t := t) (by omega)
  have h2 : dem l t * b ≤ 40000040 * 100 := Int.mul_le_mul (by omega) (by omega) (by omega) (by omega)
  have h3 : 0 ≤ dem l t * b := Int.mul_nonneg h1.1 (by omega)
  exact wrap_id (by omega) (by omega)
theorem speed_wrap2 {t a : Int} (ht : 1 ≤ t ∧ t ≤ 30000) (ha : 1 ≤ a ∧ a ≤ 100) : wrap64 (t * a) = t * a := by
  have h2 : t * a ≤ 30000 * 100 := Int.mul_le_mul (by omega) (by omega) (by omega) (by omega)
  have h3 : 0 ≤ t * a := Int.mul_nonneg (by omega) (by omega)
  exact wrap_id (by omega) (by omega)
theorem spec_fast_ev {l : List Task} (h : okSet l = true) {a b : Int} (ha : 1 ≤ a ∧ a ≤ 100) (hb : 1 ≤ b ∧ b ≤ 100) : ∀ (n : Nat) (t : Int), 1 ≤ t → t + n = hyp l + 1 → Tl (fun k => spec_l12Faster.l0 k l a b (hyp l) t) (fastN l a b n t)
  | 0, t, h1, h2 => by
    refine Tl.step ?_
    simp only [spec_l12Faster.l0]
    exact Tl.iteF (by omega) (Tl.ret _)
  | n + 1, t, h1, h2 => by
    have hh := hyp_le h
    refine Tl.step ?_
    simp only [spec_l12Faster.l0]
    refine Tl.iteT (by omega) (Tl.bind (spec_demand_ev h (by omega) (by omega)) ?_)
    rw [speed_wrap h (by omega) hb, speed_wrap2 ⟨h1, by omega⟩ ha, wrap_id (n := t + 1) (by omega) (by omega)]
    by_cases hc : dem l t * b > t * a
    · unfold fastN; rw [if_pos hc]; exact Tl.iteT hc (Tl.ret _)
    · unfold fastN; rw [if_neg hc]; exact Tl.iteF hc (spec_fast_ev h ha hb n (t + 1) (by omega) (by omega))
theorem impl_fast_ev {l : List Task} (h : okSet l = true) {a b : Int} (ha : 1 ≤ a ∧ a ≤ 100) (hb : 1 ≤ b ∧ b ≤ 100) : ∀ (n : Nat) (t : Int), 1 ≤ t → t + n = hyp l + 1 → Tl (fun k => impl_SpeedFeasible.l0 k l a b t) (fastN l a b n t)
  | 0, t, h1, h2 => by
    refine Tl.step ?_
    simp only [impl_SpeedFeasible.l0]
    exact Tl.bind (impl_hyper_ev h) (Tl.iteF (by omega) (Tl.ret _))
  | n + 1, t, h1, h2 => by
    have hh := hyp_le h
    refine Tl.step ?_
    simp only [impl_SpeedFeasible.l0]
    refine Tl.bind (impl_hyper_ev h) (Tl.iteT (by omega) (Tl.bind (impl_demand_ev h (by omega) (by omega)) ?_))
    rw [speed_wrap h (by omega) hb, speed_wrap2 ⟨h1, by omega⟩ ha, wrap_id (n := t + 1) (by omega) (by omega)]
    by_cases hc : dem l t * b > t * a
    · unfold fastN; rw [if_pos hc]; exact Tl.iteT hc (Tl.ret _)
    · unfold fastN; rw [if_neg hc]; exact Tl.iteF hc (impl_fast_ev h ha hb n (t + 1) (by omega) (by omega))
def SpeedFeasible_D (l : List Task) (a b : Int) : Bool := if okSet l = true ∧ (1 ≤ a ∧ a ≤ 100) ∧ (1 ≤ b ∧ b ≤ 100) then fastN l a b (hyp l).toNat 1 else false
theorem spec_SpeedFeasible_ev (l : List Task) (a b : Int) (hl : l.length ≤ 1048576) (_ : wfI a) (_ : wfI b) : Tl (fun k => spec_SpeedFeasible.f k l a b) (SpeedFeasible_D l a b) := by
  unfold spec_SpeedFeasible.f SpeedFeasible_D
  refine Tl.bind (spec_SetValid_ev l hl) ?_
  by_cases h : okSet l = true
  · have hh := hyp_le h
    refine Tl.iteT h (Tl.bind (Tl.of_eq fun _ => spec_l1In_f _ _ _) ?_)
    by_cases h1 : 1 ≤ a ∧ a ≤ 100
    · refine Tl.iteT (by simpa using h1) (Tl.bind (Tl.of_eq fun _ => spec_l1In_f _ _ _) ?_)
      by_cases h2 : 1 ≤ b ∧ b ≤ 100
      · rw [if_pos ⟨h, h1, h2⟩]
        refine Tl.iteT (by simpa using h2) (Tl.bind (g := fun k => spec_l12Faster.f k l a b) ?_ (Tl.ret _))
        unfold spec_l12Faster.f
        exact Tl.bind (spec_hyper_ev h) (spec_fast_ev h h1 h2 _ _ (by omega) (by omega))
      · rw [if_neg (fun h3 => h2 h3.2.2)]; exact Tl.iteF (by simpa using h2) (Tl.ret _)
    · rw [if_neg (fun h3 => h1 h3.2.1)]; exact Tl.iteF (by simpa using h1) (Tl.ret _)
  · rw [if_neg (fun h3 => h h3.1)]; exact Tl.iteF h (Tl.ret _)
theorem impl_SpeedFeasible_ev (l : List Task) (a b : Int) (hl : l.length ≤ 1048576) (_ : wfI a) (_ : wfI b) : Tl (fun k => impl_SpeedFeasible.f k l a b) (SpeedFeasible_D l a b) := by
  unfold impl_SpeedFeasible.f SpeedFeasible_D
  have hj : Tl (fun k => impl_SpeedFeasible.j0 k l a b true) false := by
    refine Tl.step ?_
    simp only [impl_SpeedFeasible.j0]
    exact Tl.iteT trivial (Tl.ret _)
  refine Tl.bind (impl_SetValid_ev l hl) ?_
  by_cases h : okSet l = true
  · have hh := hyp_le h
    refine Tl.iteT h (Tl.bind (Tl.of_eq fun _ => impl_in_f _ _ _) ?_)
    by_cases h1 : 1 ≤ a ∧ a ≤ 100
    · refine Tl.iteT (by simpa using h1) (Tl.bind (Tl.of_eq fun _ => impl_in_f _ _ _) ?_)
      by_cases h2 : 1 ≤ b ∧ b ≤ 100
      · rw [if_pos ⟨h, h1, h2⟩]
        have e : (!decide (1 ≤ b ∧ b ≤ 100)) = false := by simpa using h2
        rw [e]
        refine Tl.step ?_
        simp only [impl_SpeedFeasible.j0]
        exact Tl.iteF (by simp) (impl_fast_ev h h1 h2 _ _ (by omega) (by omega))
      · rw [if_neg (fun h3 => h2 h3.2.2)]
        have e : (!decide (1 ≤ b ∧ b ≤ 100)) = true := by simp; omega
        rw [e]
        exact hj
    · rw [if_neg (fun h3 => h1 h3.2.1)]; exact Tl.iteF (by simpa using h1) hj
  · rw [if_neg (fun h3 => h h3.1)]; exact Tl.iteF h hj
end Go.Proofs.Ytmpanaefdohjkaa.Print
