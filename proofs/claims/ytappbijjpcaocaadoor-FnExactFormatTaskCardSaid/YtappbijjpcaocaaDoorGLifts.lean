/- A closed fact of the loaded program: nothing of it is lifted. No condition. -/
import Derived.Test.YtappbijjpcaocaaDoorChecked
import Derived.JoinedOf
import Derived.KernelRfl
namespace Go.Proofs.YtappbijjpcaocaaDoor
theorem gLifts0 : Tryd.prog.liftsFinal = false := by kernel_rfl
theorem gLifts (c : OpenClaim) (h : c.lifted = false) : (c.lifted == Tryd.prog.liftsFinal) = true := by rw [h, gLifts0]; rfl
end Go.Proofs.YtappbijjpcaocaaDoor
