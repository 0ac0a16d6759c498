/- The pure statement of FnExactOrderValid. No condition. -/
import Derived.Test.YtappbijjpcaocaaPureOrder
import Derived.Test.YtappbijjpcaocaaHelpTask
import Derived.Test.YtappbijjpcaocaaHelpInt
import Derived.Test.YtappbijjpcaocaaPSFnExactOrderValid
namespace Go.Proofs.Ytappbijjpcaocaa.Print
open Go.RowKit Go.Proofs.YtappbijjpcaocaaW.PrintWords Go.Proofs.Ytappbijjpcaocaa.Evs Go.Proofs.Ytappbijjpcaocaa.Opens
set_option linter.unusedSimpArgs false
set_option linter.unusedVariables false
set_option maxHeartbeats 1000000 in
theorem FnExactOrderValid_pure : PureFnExactOrderValid := by
  intro x0 x1 w0 w1
  apply Tl.once
  unfold laws_FnExactOrderValid.f
  by_cases g1 : (x1.length : Int) > 1048576
  · exact Tl.iteT g1 (Tl.ret _)
  refine Tl.iteF g1 ?_
  refine Tl.bind (Tl.of_eq fun _ => szTaskS_f x0 _ (by omega) (by omega) w0.1) ?_
  by_cases g0 : (1048576 : Int) < x0.length
  · rw [if_pos g0]; exact Tl.iteT (by omega) (Tl.ret _)
  rw [if_neg g0]
  refine Tl.iteF (by omega) ?_
  have hl0 : x0.length ≤ 1048576 := by omega
  have hm0 : (x0.map cvTask).length ≤ 1048576 := by simpa using hl0
  have hl1 : x1.length ≤ 1048576 := by omega
  have hm1 : x1.length ≤ 1048576 := by simpa using hl1
  have HS := spec_OrderValid_ev (x0.map cvTask) x1 hm0 hm1
  have HI := impl_OrderValid_ev (x0.map cvTask) x1 hm0 hm1
  repeat (first
    | exact Tl.ret _
    | with_reducible refine Tl.bind (toTaskS_ev x0 hl0) ?_
    | with_reducible refine Tl.bind (eqTaskS_ev (x0.map cvTask) hm0) ?_
    | with_reducible refine Tl.bind (toIntS_ev x1 hl1) ?_
    | with_reducible refine Tl.bind (eqIntS_ev x1 hm1) ?_
    | with_reducible refine Tl.bind HS ?_
    | with_reducible refine Tl.bind HI ?_
    | with_reducible refine Tl.iteT rfl ?_
    | with_reducible refine Tl.iteF (by simp) ?_
    | dsimp only)
end Go.Proofs.Ytappbijjpcaocaa.Print
