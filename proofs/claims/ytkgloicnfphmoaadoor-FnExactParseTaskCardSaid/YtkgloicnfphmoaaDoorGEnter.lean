/- A closed fact of the loaded program: where it may enter. No condition. -/
import Derived.Test.YtkgloicnfphmoaaDoorChecked
import Derived.JoinedOf
import Derived.KernelRfl
namespace Go.Proofs.YtkgloicnfphmoaaDoor
theorem band {a b : Bool} (ha : a = true) (hb : b = true) : (a && b) = true := by rw [ha, hb]; rfl
theorem gEnter : Tryd.prog.mayEnter = true := by kernel_rfl
end Go.Proofs.YtkgloicnfphmoaaDoor
