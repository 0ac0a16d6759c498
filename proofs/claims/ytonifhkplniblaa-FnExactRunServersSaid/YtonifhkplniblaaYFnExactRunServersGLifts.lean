/- A closed fact of the loaded program: nothing of it is lifted. No condition. -/
import Derived.Test.YtonifhkplniblaaChecked
import Derived.JoinedOf
import Derived.KernelRfl
namespace Go.Proofs.Ytonifhkplniblaa
theorem gLifts0 : Try.prog.liftsFinal = false := by kernel_rfl
theorem gLifts (c : OpenClaim) (h : c.lifted = false) : (c.lifted == Try.prog.liftsFinal) = true := by rw [h, gLifts0]; rfl
end Go.Proofs.Ytonifhkplniblaa
