/- The pure statement of FnExactConstants: the law's plain function returns true. No condition. -/
import Derived.Test.YtmpanaefdohjkaaPFnExactConstantsx1
namespace Go.Proofs.Ytmpanaefdohjkaa.Pure
open Go.RowKit Go.Proofs.Ytmpanaefdohjkaa.PFnExactConstants Go.Proofs.YtmpanaefdohjkaaW.PrintWords Go.Proofs.YtmpanaefdohjkaaW.PrintLast
theorem FnExactConstants : laws_FnExactConstants.Pure := by
  unfold laws_FnExactConstants.Pure
  rfl
end Go.Proofs.Ytmpanaefdohjkaa.Pure
