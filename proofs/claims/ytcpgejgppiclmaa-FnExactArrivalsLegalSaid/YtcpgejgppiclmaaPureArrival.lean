/- Arrivals: what the laws' own helpers and ArrivalsLegal compute. No condition. -/
import Derived.Test.YtcpgejgppiclmaaHelpArrival
import Derived.Test.YtcpgejgppiclmaaPureTask
import Derived.Test.YtcpgejgppiclmaaPK1
namespace Go.Proofs.Ytcpgejgppiclmaa.Print
open Go.RowKit Go.Proofs.YtcpgejgppiclmaaW.PrintWords Go.Proofs.Ytcpgejgppiclmaa.Evs Go.Proofs.Ytcpgejgppiclmaa.Opens
set_option linter.unusedSimpArgs false
set_option linter.unusedVariables false
def arr (l : List Arrival) (j : Nat) : Arrival := l.getD j z68
theorem rd_arr (l : List Arrival) (j : Nat) : rd_T68 l (j : Int) = arr l j := rfl
def okArr (l : List Arrival) (j : Nat) : Bool := decide (0 ≤ (arr l j).f0 ∧ (arr l j).f0 ≤ 119 ∧ 1 ≤ (arr l j).f1 ∧ (arr l j).f1 ≤ 20 ∧ (0 < j → (arr l (j - 1)).f0 ≤ (arr l j).f0))
def okArrs (l : List Arrival) : Bool := (List.range l.length).all (okArr l) && decide (l.length ≤ 20)
theorem impl_ArrivalsLegal_ev (l : List Arrival) (hl : l.length ≤ 1048576) : Tl (fun k => impl_ArrivalsLegal.f k l) (okArrs l) := by
  refine Tl.all (F := fun k i => impl_ArrivalsLegal.l0 k l l (l.length : Int) i) ?_ ?_ ?_
  · intro j hj hp r h
    unfold okArr at hp
    have hp := of_decide_eq_true hp
    refine Tl.step ?_
    simp only [impl_ArrivalsLegal.l0, rd_arr, impl_in_f, Option.bind_some]
    refine Tl.iteT (by omega) (Tl.iteT (by omega) (Tl.iteT (by omega) (Tl.iteT (by rw [decide_eq_true_eq]; omega) (Tl.iteT (by rw [decide_eq_true_eq]; omega) ?_))))
    by_cases h0 : 0 < j
    · rw [wrap_pred hj h0 (by omega), wrap_succ hj (by omega)]
      simp only [rd_arr]
      exact Tl.iteT (by omega) (Tl.iteT (by omega) (Tl.iteT (by omega) (Tl.iteF (by have := hp.2.2.2.2 h0; omega) h)))
    · rw [wrap_succ hj (by omega)]
      exact Tl.iteF (by omega) h
  · intro j hj hp
    unfold okArr at hp
    have hp := of_decide_eq_false hp
    refine Tl.step ?_
    simp only [impl_ArrivalsLegal.l0, rd_arr, impl_in_f, Option.bind_some]
    refine Tl.iteT (by omega) (Tl.iteT (by omega) (Tl.iteT (by omega) ?_))
    by_cases h1 : 0 ≤ (arr l j).f0 ∧ (arr l j).f0 ≤ 119
    · refine Tl.iteT (by rw [decide_eq_true_eq]; exact h1) ?_
      by_cases h2 : 1 ≤ (arr l j).f1 ∧ (arr l j).f1 ≤ 20
      · refine Tl.iteT (by rw [decide_eq_true_eq]; exact h2) ?_
        have h0 : 0 < j := by omega
        rw [wrap_pred hj h0 (by omega)]
        simp only [rd_arr]
        exact Tl.iteT (by omega) (Tl.iteT (by omega) (Tl.iteT (by omega) (Tl.iteT (by omega) (Tl.ret _))))
      · exact Tl.iteF (by rw [decide_eq_true_eq]; exact h2) (Tl.ret _)
    · exact Tl.iteF (by rw [decide_eq_true_eq]; exact h1) (Tl.ret _)
  · refine Tl.step ?_
    simp only [impl_ArrivalsLegal.l0]
    refine Tl.iteF (by omega) ?_
    have : decide ((l.length : Int) ≤ 20) = decide (l.length ≤ 20) := by rw [decide_eq_decide]; omega
    rw [this]
    exact Tl.ret _
theorem spec_ArrivalsLegal_ev (l : List Arrival) (hl : l.length ≤ 1048576) : Tl (fun k => spec_ArrivalsLegal.f k l) (okArrs l) := by
  refine Tl.all (F := fun k i => spec_ArrivalsLegal.l0 k l i) ?_ ?_ ?_
  · intro j hj hp r h
    unfold okArr at hp
    have hp := of_decide_eq_true hp
    refine Tl.step ?_
    simp only [spec_ArrivalsLegal.l0, rd_arr, spec_l1In_f, Option.bind_some]
    refine Tl.iteT (by omega) (Tl.iteT (by omega) (Tl.iteT (by rw [decide_eq_true_eq]; omega) (Tl.iteT (by rw [decide_eq_true_eq]; omega) ?_)))
    by_cases h0 : 0 < j
    · rw [wrap_pred hj h0 (by omega), wrap_succ hj (by omega)]
      simp only [rd_arr]
      exact Tl.iteT (by omega) (Tl.iteT (by omega) (Tl.iteT (by omega) (Tl.iteF (by have := hp.2.2.2.2 h0; omega) h)))
    · rw [wrap_succ hj (by omega)]
      exact Tl.iteF (by omega) h
  · intro j hj hp
    unfold okArr at hp
    have hp := of_decide_eq_false hp
    refine Tl.step ?_
    simp only [spec_ArrivalsLegal.l0, rd_arr, spec_l1In_f, Option.bind_some]
    refine Tl.iteT (by omega) (Tl.iteT (by omega) ?_)
    by_cases h1 : 0 ≤ (arr l j).f0 ∧ (arr l j).f0 ≤ 119
    · refine Tl.iteT (by rw [decide_eq_true_eq]; exact h1) ?_
      by_cases h2 : 1 ≤ (arr l j).f1 ∧ (arr l j).f1 ≤ 20
      · refine Tl.iteT (by rw [decide_eq_true_eq]; exact h2) ?_
        have h0 : 0 < j := by omega
        rw [wrap_pred hj h0 (by omega)]
        simp only [rd_arr]
        exact Tl.iteT (by omega) (Tl.iteT (by omega) (Tl.iteT (by omega) (Tl.iteT (by omega) (Tl.ret _))))
      · exact Tl.iteF (by rw [decide_eq_true_eq]; exact h2) (Tl.ret _)
    · exact Tl.iteF (by rw [decide_eq_true_eq]; exact h1) (Tl.ret _)
  · refine Tl.step ?_
    simp only [spec_ArrivalsLegal.l0]
    refine Tl.iteF (by omega) ?_
    have : decide ((l.length : Int) ≤ 20) = decide (l.length ≤ 20) := by rw [decide_eq_decide]; omega
    rw [this]
    exact Tl.ret _
end Go.Proofs.Ytcpgejgppiclmaa.Print
