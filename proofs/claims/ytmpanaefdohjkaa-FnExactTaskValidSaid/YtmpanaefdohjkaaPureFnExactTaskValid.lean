/- The pure statement of FnExactTaskValid. No condition. -/
import Derived.Test.YtmpanaefdohjkaaPureTask
import Derived.Test.YtmpanaefdohjkaaPSFnExactTaskValid
namespace Go.Proofs.Ytmpanaefdohjkaa.Print
open Go.RowKit Go.Proofs.Ytmpanaefdohjkaa.Evs Go.Proofs.Ytmpanaefdohjkaa.Opens
theorem FnExactTaskValid_pure : PureFnExactTaskValid := by
  intro x hx
  have h1 := impl_TaskValid_f (cvTask x)
  have h2 := spec_TaskValid_f (cvTask x)
  simp only [cvTask] at h1 h2
  unfold laws_FnExactTaskValid.f
  simp [laws_toTask.f, h1, h2]
end Go.Proofs.Ytmpanaefdohjkaa.Print
