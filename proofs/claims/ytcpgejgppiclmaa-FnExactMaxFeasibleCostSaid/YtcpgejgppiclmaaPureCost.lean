/- MaxFeasibleCost, as the program and as the reference compute it. No condition. -/
import Derived.Test.YtcpgejgppiclmaaPureOver
import Derived.Test.YtcpgejgppiclmaaPK20
namespace Go.Proofs.Ytcpgejgppiclmaa.Print
open Go.RowKit Go.Proofs.YtcpgejgppiclmaaW.PrintWords Go.Proofs.Ytcpgejgppiclmaa.Evs Go.Proofs.Ytcpgejgppiclmaa.Opens Go.Proofs.YtcpgejgppiclmaaW.PrintMore
set_option linter.unusedSimpArgs false
set_option linter.unusedVariables false
theorem okSet_set {l : List Task} (h : okSet l = true) (j : Nat) {y : Task} (hy : okTask y = true) : okSet (l.set j y) = true := by
  unfold okSet at h ⊢
  rw [Bool.and_eq_true, decide_eq_true_eq, List.all_eq_true] at h ⊢
  refine ⟨by simpa using h.1, fun x hx => ?_⟩
  rcases List.mem_or_eq_of_mem_set hx with h1 | h1
  · exact h.2 x h1
  · rw [h1]; exact hy
theorem impl_isTask_ev (l : List Task) (a : Int) (hl : l.length ≤ 1048576) : Tl (fun _ => impl_isTask.f l a) (okSet l && decide (0 ≤ a ∧ a ≤ (l.length : Int) - 1)) := by
  unfold impl_isTask.f
  refine Tl.bind (impl_SetValid_ev l hl) ?_
  by_cases h : okSet l = true
  · rw [h, Bool.true_and]
    refine Tl.iteT rfl (Tl.bind (Tl.of_eq fun _ => impl_in_f _ _ _) ?_)
    rw [wrap_id (by omega) (by omega)]
    exact Tl.ret _
  · rw [Bool.not_eq_true] at h
    rw [h, Bool.false_and]
    exact Tl.iteF (by simp) (Tl.ret _)
theorem impl_changed_ev {l : List Task} (h : okSet l = true) {j : Nat} (hj : j < l.length) (c d t : Int) : Tl (fun _ => impl_changed.f l (j : Int) c d t) (l.set j ⟨c, d, t⟩) := by
  unfold impl_changed.f
  have hl := okSet_len h
  exact Tl.iteT ⟨by omega, by omega, by omega⟩ (Tl.ret _)
theorem spec_l12With_ev {l : List Task} (h : okSet l = true) {j : Nat} (hj : j < l.length) (c : Int) : Tl (fun _ => spec_l12With.f l (j : Int) c) (l.set j ⟨c, (tk l j).f1, (tk l j).f2⟩) := by
  unfold spec_l12With.f
  have hl := okSet_len h
  refine Tl.bind (Tl.ret _) (Tl.iteT (by simp; omega) (Tl.bind (Tl.ret _) ?_))
  rw [List.nil_append]
  exact Tl.iteT (by omega) (Tl.iteT (by omega) (Tl.ret _))
/-- The largest cost from n down, with which the set is schedulable. -/
def costN (l : List Task) (j : Nat) : Nat → Int
  | 0 => 0
  | n + 1 => if feas (l.set j ⟨((n + 1 : Nat) : Int), (tk l j).f1, (tk l j).f2⟩) = true then ((n + 1 : Nat) : Int) else costN l j n
theorem okTask_cost {l : List Task} (h : okSet l = true) {j : Nat} (hj : j < l.length) {c : Int} (h1 : 1 ≤ c) (h2 : c ≤ 8) (h3 : c ≤ (tk l j).f1) : okTask ⟨c, (tk l j).f1, (tk l j).f2⟩ = true := by
  have := okSet_tk h hj
  unfold okTask
  exact decide_eq_true ⟨h1, h2, h3, this.2.2.2.1, this.2.2.2.2⟩
theorem spec_cost_ev {l : List Task} (h : okSet l = true) {j : Nat} (hj : j < l.length) : ∀ n : Nat, n ≤ 8 → (n : Int) ≤ (tk l j).f1 → Tl (fun k => spec_MaxFeasibleCost.l0 k l (j : Int) (n : Int)) (costN l j n)
  | 0, _, _ => by
    refine Tl.step ?_
    simp only [spec_MaxFeasibleCost.l0]
    exact Tl.iteF (by omega) (Tl.ret _)
  | n + 1, h1, h2 => by
    refine Tl.step ?_
    simp only [spec_MaxFeasibleCost.l0]
    have ho := okSet_set h j (okTask_cost h hj (c := ((n + 1 : Nat) : Int)) (by omega) (by omega) h2)
    refine Tl.iteT (by omega) (Tl.bind (spec_l12With_ev h hj _) (Tl.bind (spec_edf_ev ho) ?_))
    unfold costN
    by_cases hc : feas (l.set j ⟨((n + 1 : Nat) : Int), (tk l j).f1, (tk l j).f2⟩) = true
    · rw [if_pos hc]; exact Tl.iteT hc (Tl.ret _)
    · rw [if_neg hc, show wrap64 (((n + 1 : Nat) : Int) - 1) = ((n : Nat) : Int) from by rw [wrap_id (by omega) (by omega)]; omega]
      exact Tl.iteF hc (spec_cost_ev h hj n (by omega) (by omega))
theorem impl_cost_ev {l : List Task} (h : okSet l = true) {j : Nat} (hj : j < l.length) : ∀ n : Nat, n ≤ 8 → (n : Int) ≤ (tk l j).f1 → Tl (fun k => impl_MaxFeasibleCost.l0 k l (j : Int) (n : Int) (tk l j).f1 (tk l j).f2) (costN l j n)
  | 0, _, _ => by
    refine Tl.step ?_
    simp only [impl_MaxFeasibleCost.l0]
    exact Tl.iteF (by omega) (Tl.ret _)
  | n + 1, h1, h2 => by
    refine Tl.step ?_
    simp only [impl_MaxFeasibleCost.l0]
    have ho := okSet_set h j (okTask_cost h hj (c := ((n + 1 : Nat) : Int)) (by omega) (by omega) h2)
    refine Tl.iteT (by omega) (Tl.bind (impl_changed_ev h hj _ _ _) (Tl.bind (impl_feasible_ev ho) ?_))
    unfold costN
    by_cases hc : feas (l.set j ⟨((n + 1 : Nat) : Int), (tk l j).f1, (tk l j).f2⟩) = true
    · rw [if_pos hc]; exact Tl.iteT hc (Tl.ret _)
    · rw [if_neg hc, show wrap64 (((n + 1 : Nat) : Int) - 1) = ((n : Nat) : Int) from by rw [wrap_id (by omega) (by omega)]; omega]
      exact Tl.iteF hc (impl_cost_ev h hj n (by omega) (by omega))
def MaxFeasibleCost_D (l : List Task) (a : Int) : Int := if okSet l = true ∧ 0 ≤ a ∧ a ≤ (l.length : Int) - 1 then costN l a.toNat (mn 8 (tk l a.toNat).f1).toNat else -1
theorem mn8 {x : Int} (h : 1 ≤ x) : ∃ n : Nat, mn 8 x = (n : Int) ∧ mn x 8 = (n : Int) ∧ n ≤ 8 ∧ (n : Int) ≤ x := by
  refine ⟨(mn 8 x).toNat, ?_, ?_, ?_, ?_⟩ <;> unfold mn <;> split <;> (try split) <;> omega
theorem spec_MaxFeasibleCost_ev (l : List Task) (a : Int) (hl : l.length ≤ 1048576) (_ : wfI a) : Tl (fun k => spec_MaxFeasibleCost.f k l a) (MaxFeasibleCost_D l a) := by
  unfold spec_MaxFeasibleCost.f MaxFeasibleCost_D
  have hj : Tl (fun k => spec_MaxFeasibleCost.j0 k l a true) (-1) := by
    refine Tl.step ?_
    simp only [spec_MaxFeasibleCost.j0]
    exact Tl.iteT trivial (Tl.ret _)
  refine Tl.bind (spec_SetValid_ev l hl) ?_
  by_cases h : okSet l = true
  · have hlen := okSet_len h
    refine Tl.iteT h (Tl.bind (Tl.of_eq fun _ => spec_l1In_f _ _ _) ?_)
    rw [wrap_id (by omega) (by omega)]
    by_cases ha : 0 ≤ a ∧ a ≤ (l.length : Int) - 1
    · rw [if_pos ⟨h, ha⟩, decide_eq_true ha]
      obtain ⟨j, rfl⟩ : ∃ j : Nat, a = (j : Int) := ⟨a.toNat, by omega⟩
      have hjl : j < l.length := by omega
      obtain ⟨n, e1, e2, e3, e4⟩ := mn8 (x := (tk l j).f1) (by have := okSet_tk h hjl; omega)
      refine Tl.step ?_
      simp only [spec_MaxFeasibleCost.j0, rd_tk, Int.toNat_natCast]
      rw [e1, Int.toNat_natCast]
      exact Tl.iteF (by simp) (Tl.iteT (by omega) (Tl.iteT (by omega) (spec_cost_ev h hjl n e3 e4)))
    · rw [if_neg (fun h3 => ha h3.2), decide_eq_false ha]; exact hj
  · rw [if_neg (fun h3 => h h3.1)]; exact Tl.iteF h hj
theorem impl_MaxFeasibleCost_ev (l : List Task) (a : Int) (hl : l.length ≤ 1048576) (_ : wfI a) : Tl (fun k => impl_MaxFeasibleCost.f k l a) (MaxFeasibleCost_D l a) := by
  unfold impl_MaxFeasibleCost.f MaxFeasibleCost_D
  refine Tl.bind (impl_isTask_ev l a hl) ?_
  by_cases h : okSet l = true ∧ 0 ≤ a ∧ a ≤ (l.length : Int) - 1
  · rw [if_pos h]
    obtain ⟨h, ha⟩ := h
    obtain ⟨j, rfl⟩ : ∃ j : Nat, a = (j : Int) := ⟨a.toNat, by omega⟩
    have hjl : j < l.length := by omega
    obtain ⟨n, e1, e2, e3, e4⟩ := mn8 (x := (tk l j).f1) (by have := okSet_tk h hjl; omega)
    simp only [rd_tk, Int.toNat_natCast]
    rw [e1, e2, Int.toNat_natCast]
    exact Tl.iteT (by rw [h, Bool.true_and, decide_eq_true_eq]; exact ha) (Tl.iteT (by omega) (Tl.iteT (by omega) (impl_cost_ev h hjl n e3 e4)))
  · rw [if_neg h]
    refine Tl.iteF ?_ (Tl.ret _)
    rw [Bool.and_eq_true, decide_eq_true_eq]
    exact h
end Go.Proofs.Ytcpgejgppiclmaa.Print
