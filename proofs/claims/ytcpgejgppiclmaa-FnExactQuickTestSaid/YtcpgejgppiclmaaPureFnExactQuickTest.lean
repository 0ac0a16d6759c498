/- The pure statement of FnExactQuickTest. No condition. -/
import Derived.Test.YtcpgejgppiclmaaPureQuick
import Derived.Test.YtcpgejgppiclmaaHelpTask
import Derived.Test.YtcpgejgppiclmaaPSFnExactQuickTest
namespace Go.Proofs.Ytcpgejgppiclmaa.Print
open Go.RowKit Go.Proofs.YtcpgejgppiclmaaW.PrintWords Go.Proofs.Ytcpgejgppiclmaa.Evs Go.Proofs.Ytcpgejgppiclmaa.Opens
set_option linter.unusedSimpArgs false
set_option linter.unusedVariables false
set_option maxHeartbeats 1000000 in
theorem FnExactQuickTest_pure : PureFnExactQuickTest := by
  intro x0 w0
  apply Tl.once
  unfold laws_FnExactQuickTest.f
  refine Tl.bind (Tl.of_eq fun _ => szTaskS_f x0 _ (by omega) (by omega) w0.1) ?_
  by_cases g0 : (1048576 : Int) < x0.length
  · rw [if_pos g0]; exact Tl.iteT (by omega) (Tl.ret _)
  rw [if_neg g0]
  refine Tl.iteF (by omega) ?_
  have hl0 : x0.length ≤ 1048576 := by omega
  have hm0 : (x0.map cvTask).length ≤ 1048576 := by simpa using hl0
  have HS := spec_QuickTest_ev (x0.map cvTask) hm0
  have HI := impl_QuickTest_ev (x0.map cvTask) hm0
  generalize QuickTest_D (x0.map cvTask) = D at HS HI
  have hne : (D.2 != D.2) = false := by simp
  repeat (first
    | exact Tl.ret _
    | with_reducible refine Tl.bind (toTaskS_ev x0 hl0) ?_
    | with_reducible refine Tl.bind (eqTaskS_ev (x0.map cvTask) hm0) ?_
    | with_reducible refine Tl.bind HS ?_
    | with_reducible refine Tl.bind HI ?_
    | with_reducible refine Tl.iteT rfl ?_
    | with_reducible refine Tl.iteF (by simp) ?_
    | dsimp only
    | (rw [hne]; refine Tl.step ?_; simp only [laws_FnExactQuickTest.j0]))
end Go.Proofs.Ytcpgejgppiclmaa.Print
