/- Functions of the translation as plain Lean functions, and their contracts: written by a program. No condition. -/
import Derived.Test.YtappbijjpcaocaaDoorPB
import Derived.Test.YtappbijjpcaocaaDoorOpens
import Derived.KernelRfl
import Derived.WalkKit
import Derived.ProofKit
namespace Go.Proofs.YtappbijjpcaocaaDoor.Print
open Go.RowKit Go.Proofs.YtappbijjpcaocaaDoorW.PrintWords Go.Proofs.YtappbijjpcaocaaDoorW.PrintLast Go.Proofs.YtappbijjpcaocaaDoorW.PrintMore
attribute [local go_sem] max2_int min2_int max_two min_two max_three min_three max_four min_four   -- for this text's walks alone
set_option linter.unusedVariables false
set_option linter.unusedSimpArgs false

open Go.Proofs.YtappbijjpcaocaaDoor.Opens
def wf23 (x : S23) : Prop := wfI x.f0 ∧ wfI x.f1 ∧ wfI x.f2
set_option maxRecDepth 100000 in
theorem o23 (w : World) : Opens Tryd.prog w 23 k23 wf23 :=
  Opens.iso (fun x : S23 => (x.f0, x.f1, x.f2)) (fun a => ⟨a.1, a.2.1, a.2.2⟩) (fun _ => rfl) (fun a h => h) (Opens.struct (tot := 3) Tryd.underlying23 (by kernel_rfl) (OpensFs.cons (off' := 1) rfl (by kernel_rfl) (Opens.int Tryd.underlying3) (OpensFs.cons (off' := 2) rfl (by kernel_rfl) (Opens.int Tryd.underlying3) (OpensFs.last rfl (by kernel_rfl) (Opens.int Tryd.underlying3)))))

end Go.Proofs.YtappbijjpcaocaaDoor.Print
