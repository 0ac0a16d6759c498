/- FirstOverload and EdfFeasible, as the program and as the reference compute them. No condition. -/
import Derived.Test.YtcpgejgppiclmaaPureDemand
import Derived.Test.YtcpgejgppiclmaaPK60
namespace Go.Proofs.Ytcpgejgppiclmaa.Print
open Go.RowKit Go.Proofs.YtcpgejgppiclmaaW.PrintWords Go.Proofs.Ytcpgejgppiclmaa.Evs Go.Proofs.Ytcpgejgppiclmaa.Opens
set_option linter.unusedSimpArgs false
set_option linter.unusedVariables false
/-- The first overload from t on, n times tried. -/
def overN (l : List Task) : Nat → Int → Int
  | 0, _ => -1
  | n + 1, t => if dem l t > t then t else overN l n (t + 1)
def over (l : List Task) : Int := overN l (hyp l).toNat 1
theorem overN_range (l : List Task) : ∀ (n : Nat) (t : Int), 1 ≤ t → overN l n t = -1 ∨ (t ≤ overN l n t ∧ overN l n t < t + n)
  | 0, t, _ => .inl rfl
  | n + 1, t, h => by
    unfold overN
    split
    · exact .inr (by omega)
    · rcases overN_range l n (t + 1) (by omega) with h1 | h1
      · exact .inl h1
      · exact .inr (by omega)
theorem over_range (l : List Task) : over l = -1 ∨ 1 ≤ over l ∧ over l ≤ (hyp l).toNat := by
  rcases overN_range l (hyp l).toNat 1 (by omega) with h | h
  · exact .inl h
  · exact .inr (by unfold over; omega)
theorem spec_overN_ev {l : List Task} (h : okSet l = true) : ∀ (n : Nat) (t : Int), 1 ≤ t → t + n = hyp l + 1 → Tl (fun k => spec_l2Overload.l0 k l (hyp l) t) (overN l n t)
  | 0, t, h1, h2 => by
    refine Tl.step ?_
    simp only [spec_l2Overload.l0]
    exact Tl.iteF (by omega) (Tl.ret _)
  | n + 1, t, h1, h2 => by
    have hh := hyp_le h
    refine Tl.step ?_
    simp only [spec_l2Overload.l0]
    refine Tl.iteT (by omega) (Tl.bind (spec_demand_ev h (by omega) (by omega)) ?_)
    rw [wrap_id (n := t + 1) (by omega) (by omega)]
    by_cases hc : dem l t > t
    · unfold overN; rw [if_pos hc]; exact Tl.iteT hc (Tl.ret _)
    · unfold overN; rw [if_neg hc]; exact Tl.iteF hc (spec_overN_ev h n (t + 1) (by omega) (by omega))
theorem impl_overN_ev {l : List Task} (h : okSet l = true) : ∀ (n : Nat) (t : Int), 1 ≤ t → t + n = hyp l + 1 → Tl (fun k => impl_FirstOverload.l0 k l t) (overN l n t)
  | 0, t, h1, h2 => by
    refine Tl.step ?_
    simp only [impl_FirstOverload.l0]
    exact Tl.bind (impl_hyper_ev h) (Tl.iteF (by omega) (Tl.ret _))
  | n + 1, t, h1, h2 => by
    have hh := hyp_le h
    refine Tl.step ?_
    simp only [impl_FirstOverload.l0]
    refine Tl.bind (impl_hyper_ev h) (Tl.iteT (by omega) (Tl.bind (impl_demand_ev h (by omega) (by omega)) ?_))
    rw [wrap_id (n := t + 1) (by omega) (by omega)]
    by_cases hc : dem l t > t
    · unfold overN; rw [if_pos hc]; exact Tl.iteT hc (Tl.ret _)
    · unfold overN; rw [if_neg hc]; exact Tl.iteF hc (impl_overN_ev h n (t + 1) (by omega) (by omega))
theorem spec_over_ev {l : List Task} (h : okSet l = true) : Tl (fun k => spec_l2Overload.f k l (hyp l)) (over l) := by
  have hh := hyp_le h
  exact spec_overN_ev h _ _ (by omega) (by omega)
def FirstOverload_D (l : List Task) : Int := if okSet l = true then over l else -1
theorem impl_FirstOverload_ev (l : List Task) (hl : l.length ≤ 1048576) : Tl (fun k => impl_FirstOverload.f k l) (FirstOverload_D l) := by
  unfold impl_FirstOverload.f FirstOverload_D
  refine Tl.bind (impl_SetValid_ev l hl) ?_
  by_cases h : okSet l = true
  · have hh := hyp_le h
    rw [if_pos h]; exact Tl.iteT h (impl_overN_ev h _ _ (by omega) (by omega))
  · rw [if_neg h]; exact Tl.iteF h (Tl.ret _)
/-- Is a valid set schedulable? -/
def feas (l : List Task) : Bool := decide (over l < 0)
theorem spec_edf_ev {l : List Task} (h : okSet l = true) : Tl (fun k => spec_l2Edf.f k l) (feas l) := by
  unfold spec_l2Edf.f
  refine Tl.bind (spec_hyper_ev h) (Tl.bind (spec_over_ev h) ?_)
  have e : (over l == -1) = feas l := by
    unfold feas
    rw [Bool.eq_iff_iff, beq_iff_eq, decide_eq_true_eq]
    rcases over_range l with h1 | h1 <;> omega
  rw [e]
  exact Tl.ret _
theorem impl_feasible_ev {l : List Task} (h : okSet l = true) : Tl (fun k => impl_feasible.f k l) (feas l) := by
  unfold impl_feasible.f
  have := impl_FirstOverload_ev l (by have := okSet_len h; omega)
  unfold FirstOverload_D at this
  rw [if_pos h] at this
  exact Tl.bind this (Tl.ret _)
end Go.Proofs.Ytcpgejgppiclmaa.Print
