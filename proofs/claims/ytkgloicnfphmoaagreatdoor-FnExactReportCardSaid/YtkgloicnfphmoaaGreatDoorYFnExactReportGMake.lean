/- A closed fact of the loaded program: how it was made. No condition. -/
import Derived.Test.YtkgloicnfphmoaaGreatDoorChecked
import Derived.JoinedOf
import Derived.KernelRfl
namespace Go.Proofs.YtkgloicnfphmoaaGreatDoor
theorem gMake0 : Tryz.prog.make = some .cut := by kernel_rfl
theorem gMake (c : OpenClaim) (h : c.make = .cut) : (Tryz.prog.make == some c.make) = true := by rw [h, gMake0]; rfl
end Go.Proofs.YtkgloicnfphmoaaGreatDoor
