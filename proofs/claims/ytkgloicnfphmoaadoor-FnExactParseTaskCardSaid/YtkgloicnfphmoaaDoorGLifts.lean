/- A closed fact of the loaded program: nothing of it is lifted. No condition. -/
import Derived.Test.YtkgloicnfphmoaaDoorChecked
import Derived.JoinedOf
import Derived.KernelRfl
namespace Go.Proofs.YtkgloicnfphmoaaDoor
theorem gLifts0 : Tryd.prog.liftsFinal = false := by kernel_rfl
theorem gLifts (c : OpenClaim) (h : c.lifted = false) : (c.lifted == Tryd.prog.liftsFinal) = true := by rw [h, gLifts0]; rfl
end Go.Proofs.YtkgloicnfphmoaaDoor
