/- A closed fact of the loaded program: where it may enter. No condition. -/
import Derived.Test.YtonifhkplniblaaChecked
import Derived.JoinedOf
import Derived.KernelRfl
namespace Go.Proofs.Ytonifhkplniblaa
theorem band {a b : Bool} (ha : a = true) (hb : b = true) : (a && b) = true := by rw [ha, hb]; rfl
theorem gEnter : Try.prog.mayEnter = true := by kernel_rfl
end Go.Proofs.Ytonifhkplniblaa
