/- FirstOverload and EdfFeasible: the exported functions. No condition. -/
import Derived.Test.YtmpanaefdohjkaaPureOver
import Derived.Test.YtmpanaefdohjkaaPK8
import Derived.Test.YtmpanaefdohjkaaPK4
namespace Go.Proofs.Ytmpanaefdohjkaa.Print
open Go.RowKit Go.Proofs.YtmpanaefdohjkaaW.PrintWords Go.Proofs.Ytmpanaefdohjkaa.Evs Go.Proofs.Ytmpanaefdohjkaa.Opens
set_option linter.unusedSimpArgs false
set_option linter.unusedVariables false
theorem spec_FirstOverload_ev (l : List Task) (hl : l.length ≤ 1048576) : Tl (fun k => spec_FirstOverload.f k l) (FirstOverload_D l) := by
  unfold spec_FirstOverload.f FirstOverload_D
  refine Tl.bind (spec_SetValid_ev l hl) ?_
  by_cases h : okSet l = true
  · rw [if_pos h]; exact Tl.iteT h (Tl.bind (spec_hyper_ev h) (Tl.bind (spec_over_ev h) (Tl.ret _)))
  · rw [if_neg h]; exact Tl.iteF h (Tl.ret _)
def EdfFeasible_D (l : List Task) : Bool := if okSet l = true then feas l else false
theorem spec_EdfFeasible_ev (l : List Task) (hl : l.length ≤ 1048576) : Tl (fun k => spec_EdfFeasible.f k l) (EdfFeasible_D l) := by
  unfold spec_EdfFeasible.f EdfFeasible_D
  refine Tl.bind (spec_SetValid_ev l hl) ?_
  by_cases h : okSet l = true
  · rw [if_pos h]; exact Tl.iteT h (Tl.bind (spec_edf_ev h) (Tl.ret _))
  · rw [if_neg h]; exact Tl.iteF h (Tl.ret _)
theorem impl_EdfFeasible_ev (l : List Task) (hl : l.length ≤ 1048576) : Tl (fun k => impl_EdfFeasible.f k l) (EdfFeasible_D l) := by
  unfold impl_EdfFeasible.f EdfFeasible_D
  refine Tl.bind (impl_SetValid_ev l hl) ?_
  by_cases h : okSet l = true
  · rw [if_pos h]; exact Tl.iteT h (Tl.bind (impl_feasible_ev h) (Tl.ret _))
  · rw [if_neg h]; exact Tl.iteF h (Tl.ret _)
end Go.Proofs.Ytmpanaefdohjkaa.Print
