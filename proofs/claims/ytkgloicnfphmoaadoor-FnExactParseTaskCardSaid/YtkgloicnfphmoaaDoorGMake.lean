/- A closed fact of the loaded program: how it was made. No condition. -/
import Derived.Test.YtkgloicnfphmoaaDoorChecked
import Derived.JoinedOf
import Derived.KernelRfl
namespace Go.Proofs.YtkgloicnfphmoaaDoor
theorem gMake0 : Tryd.prog.make = some .cut := by kernel_rfl
theorem gMake (c : OpenClaim) (h : c.make = .cut) : (Tryd.prog.make == some c.make) = true := by rw [h, gMake0]; rfl
end Go.Proofs.YtkgloicnfphmoaaDoor
