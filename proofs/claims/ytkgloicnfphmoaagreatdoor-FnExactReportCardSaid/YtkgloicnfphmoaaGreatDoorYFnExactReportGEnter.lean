/- A closed fact of the loaded program: where it may enter. No condition. -/
import Derived.Test.YtkgloicnfphmoaaGreatDoorChecked
import Derived.JoinedOf
import Derived.KernelRfl
namespace Go.Proofs.YtkgloicnfphmoaaGreatDoor
theorem band {a b : Bool} (ha : a = true) (hb : b = true) : (a && b) = true := by rw [ha, hb]; rfl
theorem gEnter : Tryz.prog.mayEnter = true := by kernel_rfl
end Go.Proofs.YtkgloicnfphmoaaGreatDoor
