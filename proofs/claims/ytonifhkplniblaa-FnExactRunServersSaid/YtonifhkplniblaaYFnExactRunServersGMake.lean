/- A closed fact of the loaded program: how it was made. No condition. -/
import Derived.Test.YtonifhkplniblaaChecked
import Derived.JoinedOf
import Derived.KernelRfl
namespace Go.Proofs.Ytonifhkplniblaa
theorem gMake0 : Try.prog.make = some .cut := by kernel_rfl
theorem gMake (c : OpenClaim) (h : c.make = .cut) : (Try.prog.make == some c.make) = true := by rw [h, gMake0]; rfl
end Go.Proofs.Ytonifhkplniblaa
