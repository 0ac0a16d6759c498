/- The pure statement of FnExactResourcesFeasible. No condition. -/
import Derived.Test.YtcpgejgppiclmaaPureResF
import Derived.Test.YtcpgejgppiclmaaHelpTask
import Derived.Test.YtcpgejgppiclmaaHelpSection
import Derived.Test.YtcpgejgppiclmaaPSFnExactResourcesFeasible
namespace Go.Proofs.Ytcpgejgppiclmaa.Print
open Go.RowKit Go.Proofs.YtcpgejgppiclmaaW.PrintWords Go.Proofs.Ytcpgejgppiclmaa.Evs Go.Proofs.Ytcpgejgppiclmaa.Opens
set_option linter.unusedSimpArgs false
set_option linter.unusedVariables false
set_option maxHeartbeats 1000000 in
theorem FnExactResourcesFeasible_pure : PureFnExactResourcesFeasible := by
  intro x0 x1 w0 w1
  apply Tl.once
  unfold laws_FnExactResourcesFeasible.f
  refine Tl.bind (Tl.of_eq fun _ => szTaskS_f x0 _ (by omega) (by omega) w0.1) ?_
  by_cases g0 : (1048576 : Int) < x0.length
  · rw [if_pos g0]; exact Tl.iteT (by omega) (Tl.ret _)
  rw [if_neg g0]
  refine Tl.iteF (by omega) ?_
  refine Tl.bind (Tl.of_eq fun _ => szSectionS_f x1 _ (by omega) (by omega) w1.1) ?_
  by_cases g1 : (1048576 - x0.length : Int) < x1.length
  · rw [if_pos g1]; exact Tl.iteT (by omega) (Tl.ret _)
  rw [if_neg g1]
  refine Tl.iteF (by omega) ?_
  have hl0 : x0.length ≤ 1048576 := by omega
  have hm0 : (x0.map cvTask).length ≤ 1048576 := by simpa using hl0
  have hl1 : x1.length ≤ 1048576 := by omega
  have hm1 : (x1.map cvSection).length ≤ 1048576 := by simpa using hl1
  have HS := spec_ResourcesFeasible_ev (x0.map cvTask) (x1.map cvSection) hm0 hm1
  have HI := impl_ResourcesFeasible_ev (x0.map cvTask) (x1.map cvSection) hm0 hm1
  repeat (first
    | exact Tl.ret _
    | with_reducible refine Tl.bind (toTaskS_ev x0 hl0) ?_
    | with_reducible refine Tl.bind (eqTaskS_ev (x0.map cvTask) hm0) ?_
    | with_reducible refine Tl.bind (toSectionS_ev x1 hl1) ?_
    | with_reducible refine Tl.bind (eqSectionS_ev (x1.map cvSection) hm1) ?_
    | with_reducible refine Tl.bind HS ?_
    | with_reducible refine Tl.bind HI ?_
    | with_reducible refine Tl.iteT rfl ?_
    | with_reducible refine Tl.iteF (by simp) ?_
    | dsimp only)
end Go.Proofs.Ytcpgejgppiclmaa.Print
