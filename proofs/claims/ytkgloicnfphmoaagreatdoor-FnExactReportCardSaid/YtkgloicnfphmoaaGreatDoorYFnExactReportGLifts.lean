/- A closed fact of the loaded program: nothing of it is lifted. No condition. -/
import Derived.Test.YtkgloicnfphmoaaGreatDoorChecked
import Derived.JoinedOf
import Derived.KernelRfl
namespace Go.Proofs.YtkgloicnfphmoaaGreatDoor
theorem gLifts0 : Tryz.prog.liftsFinal = false := by kernel_rfl
theorem gLifts (c : OpenClaim) (h : c.lifted = false) : (c.lifted == Tryz.prog.liftsFinal) = true := by rw [h, gLifts0]; rfl
end Go.Proofs.YtkgloicnfphmoaaGreatDoor
