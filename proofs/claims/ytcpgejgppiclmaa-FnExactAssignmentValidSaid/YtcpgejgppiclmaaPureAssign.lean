/- AssignmentValid, as the program and as the reference compute it. No condition. -/
import Derived.Test.YtcpgejgppiclmaaPureTask
import Derived.Test.YtcpgejgppiclmaaPK2
namespace Go.Proofs.Ytcpgejgppiclmaa.Print
open Go.RowKit Go.Proofs.YtcpgejgppiclmaaW.PrintWords Go.Proofs.Ytcpgejgppiclmaa.Evs Go.Proofs.Ytcpgejgppiclmaa.Opens
set_option linter.unusedSimpArgs false
set_option linter.unusedVariables false
def okAssign (l : List Task) (c : Int) (a : List Int) : Bool := okSet l && (decide (1 ≤ c ∧ c ≤ 5) && (decide (a.length = l.length) && a.all (fun x => decide (0 ≤ x ∧ x ≤ c - 1))))
theorem impl_AssignmentValid_ev (l : List Task) (c : Int) (a : List Int) (hl : l.length ≤ 1048576) (ha : a.length ≤ 1048576) (hc : wfI c) : Tl (fun _ => impl_AssignmentValid.f l c a) (okAssign l c a) := Tl.of_eq fun _ => rfl
theorem spec_AssignmentValid_ev (l : List Task) (c : Int) (a : List Int) (hl : l.length ≤ 1048576) (ha : a.length ≤ 1048576) (hc : wfI c) : Tl (fun k => spec_AssignmentValid.f k l c a) (okAssign l c a) := by
  unfold spec_AssignmentValid.f okAssign
  have hj : Tl (fun k => spec_AssignmentValid.j0 k c a true) false := by
    refine Tl.step ?_
    simp only [spec_AssignmentValid.j0]
    exact Tl.iteT trivial (Tl.ret _)
  refine Tl.bind (spec_SetValid_ev l hl) ?_
  by_cases h : okSet l = true
  · refine Tl.iteT h (Tl.bind (Tl.of_eq fun _ => spec_l1In_f _ _ _) ?_)
    rw [h, Bool.true_and]
    by_cases h1 : 1 ≤ c ∧ c ≤ 5
    · rw [decide_eq_true h1, Bool.true_and]
      refine Tl.iteT rfl ?_
      by_cases h2 : a.length = l.length
      · rw [decide_eq_true h2, Bool.true_and, show ((a.length : Int) != (l.length : Int)) = false from by rw [bne_eq_false_iff_eq]; omega]
        refine Tl.step ?_
        simp only [spec_AssignmentValid.j0]
        refine Tl.iteF (by simp) ?_
        have key := Tl.all (F := fun k i => spec_AssignmentValid.l0 k c a i) (n := a.length) (P := fun j => decide (0 ≤ a.getD j 0 ∧ a.getD j 0 ≤ c - 1)) (fin := true) ?_ ?_ ?_
        · rw [all_range a 0 (fun x => decide (0 ≤ x ∧ x ≤ c - 1)), Bool.and_true] at key; exact key
        · intro j hj hp r hh
          have hp := of_decide_eq_true hp
          refine Tl.step ?_
          simp only [spec_AssignmentValid.l0, spec_l1In_f, Option.bind_some]
          rw [wrap_succ hj (by omega), wrap_id (n := c - 1) (by omega) (by omega)]
          exact Tl.iteT (by omega) (Tl.iteT (by omega) (Tl.iteT (decide_eq_true hp) hh))
        · intro j hj hp
          have hp := of_decide_eq_false hp
          refine Tl.step ?_
          simp only [spec_AssignmentValid.l0, spec_l1In_f, Option.bind_some]
          rw [wrap_id (n := c - 1) (by omega) (by omega)]
          exact Tl.iteT (by omega) (Tl.iteT (by omega) (Tl.iteF (by rw [decide_eq_true_eq]; exact hp) (Tl.ret _)))
        · refine Tl.step ?_
          simp only [spec_AssignmentValid.l0]
          exact Tl.iteF (by omega) (Tl.ret _)
      · rw [decide_eq_false h2, Bool.false_and, show ((a.length : Int) != (l.length : Int)) = true from by rw [bne_iff_ne]; omega]
        exact hj
    · rw [decide_eq_false h1, Bool.false_and]
      exact Tl.iteF (by simp) hj
  · have e : okSet l = false := by simpa using h
    rw [e]
    exact Tl.iteF (by simp) hj
end Go.Proofs.Ytcpgejgppiclmaa.Print
