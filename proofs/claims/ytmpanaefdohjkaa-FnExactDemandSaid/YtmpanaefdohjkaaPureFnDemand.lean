/- Demand, as the program and as the reference compute it. No condition. -/
import Derived.Test.YtmpanaefdohjkaaPureDemand
import Derived.Test.YtmpanaefdohjkaaPK2
namespace Go.Proofs.Ytmpanaefdohjkaa.Print
open Go.RowKit Go.Proofs.YtmpanaefdohjkaaW.PrintWords Go.Proofs.Ytmpanaefdohjkaa.Evs Go.Proofs.Ytmpanaefdohjkaa.Opens
set_option linter.unusedSimpArgs false
set_option linter.unusedVariables false
def Demand_D (l : List Task) (t : Int) : Int := if okSet l = true ∧ 0 ≤ t ∧ t ≤ hyp l then dem l t else -1
theorem spec_Demand_ev (l : List Task) (t : Int) (hl : l.length ≤ 1048576) (_ : wfI t) : Tl (fun k => spec_Demand.f k l t) (Demand_D l t) := by
  unfold spec_Demand.f Demand_D
  refine Tl.bind (spec_SetValid_ev l hl) ?_
  by_cases h : okSet l = true
  · refine Tl.iteT h (Tl.bind (spec_hyper_ev h) (Tl.bind (Tl.of_eq fun _ => spec_l1In_f _ _ _) ?_))
    have hh := hyp_le h
    by_cases h2 : 0 ≤ t ∧ t ≤ hyp l
    · rw [if_pos ⟨h, h2⟩]
      exact Tl.iteT (by simpa using h2) (Tl.bind (spec_demand_ev h h2.1 (by omega)) (Tl.ret _))
    · rw [if_neg (fun h3 => h2 h3.2)]
      exact Tl.iteF (by simpa using h2) (Tl.ret _)
  · rw [if_neg (fun h3 => h h3.1)]
    exact Tl.iteF h (Tl.ret _)
theorem impl_Demand_ev (l : List Task) (t : Int) (hl : l.length ≤ 1048576) (_ : wfI t) : Tl (fun k => impl_Demand.f k l t) (Demand_D l t) := by
  unfold impl_Demand.f Demand_D
  refine Tl.bind (Tl.of_eq fun _ => impl_SetValid_f l) ?_
  by_cases h : okSet l = true
  · refine Tl.iteT h (Tl.bind (impl_hyper_ev h) (Tl.bind (Tl.of_eq fun _ => impl_in_f _ _ _) ?_))
    have hh := hyp_le h
    by_cases h2 : 0 ≤ t ∧ t ≤ hyp l
    · rw [if_pos ⟨h, h2⟩]
      exact Tl.iteT (by simpa using h2) (Tl.bind (impl_demand_ev h h2.1 (by omega)) (Tl.ret _))
    · rw [if_neg (fun h3 => h2 h3.2)]
      exact Tl.iteF (by simpa using h2) (Tl.ret _)
  · rw [if_neg (fun h3 => h h3.1)]
    exact Tl.iteF h (Tl.ret _)
end Go.Proofs.Ytmpanaefdohjkaa.Print
