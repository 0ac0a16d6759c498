/- Functions of the translation as plain Lean functions, and their contracts: written by a program. No condition. -/
import Derived.Test.YtappbijjpcaocaaPB
import Derived.Test.YtappbijjpcaocaaOpens
import Derived.KernelRfl
import Derived.WalkKit
import Derived.ProofKit
namespace Go.Proofs.Ytappbijjpcaocaa.Print
open Go.RowKit Go.Proofs.YtappbijjpcaocaaW.PrintWords Go.Proofs.YtappbijjpcaocaaW.PrintLast Go.Proofs.YtappbijjpcaocaaW.PrintMore
attribute [local go_sem] max2_int min2_int max_two min_two max_three min_three max_four min_four   -- for this text's walks alone
set_option linter.unusedVariables false
set_option linter.unusedSimpArgs false

open Go.Proofs.Ytappbijjpcaocaa.Opens
def wf63 (x : S63) : Prop := wfI x.f0 ∧ wfI x.f1 ∧ wfI x.f2 ∧ wfI x.f3 ∧ wfI x.f4
set_option maxRecDepth 100000 in
theorem o63 (w : World) : Opens Try.prog w 63 k63 wf63 :=
  Opens.iso (fun x : S63 => (x.f0, x.f1, x.f2, x.f3, x.f4)) (fun a => ⟨a.1, a.2.1, a.2.2.1, a.2.2.2.1, a.2.2.2.2⟩) (fun _ => rfl) (fun a h => h) (Opens.struct (tot := 5) Try.underlying63 (by kernel_rfl) (OpensFs.cons (off' := 1) rfl (by kernel_rfl) (Opens.int Try.underlying3) (OpensFs.cons (off' := 2) rfl (by kernel_rfl) (Opens.int Try.underlying3) (OpensFs.cons (off' := 3) rfl (by kernel_rfl) (Opens.int Try.underlying3) (OpensFs.cons (off' := 4) rfl (by kernel_rfl) (Opens.int Try.underlying3) (OpensFs.last rfl (by kernel_rfl) (Opens.int Try.underlying3)))))))

end Go.Proofs.Ytappbijjpcaocaa.Print
