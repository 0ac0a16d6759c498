/- Functions of the translation as plain Lean functions, and their contracts: written by a program. No condition. -/
import Derived.Test.YtfciajbahgjflaaPB
import Derived.Test.YtfciajbahgjflaaOpens
import Derived.KernelRfl
import Derived.WalkKit
import Derived.ProofKit
namespace Go.Proofs.Ytfciajbahgjflaa.Print
open Go.RowKit Go.Proofs.YtfciajbahgjflaaW.PrintWords Go.Proofs.YtfciajbahgjflaaW.PrintLast Go.Proofs.YtfciajbahgjflaaW.PrintMore
attribute [local go_sem] max2_int min2_int max_two min_two max_three min_three max_four min_four   -- for this text's walks alone
set_option linter.unusedVariables false
set_option linter.unusedSimpArgs false

open Go.Proofs.Ytfciajbahgjflaa.Opens
def wf89 (x : S89) : Prop := wfI x.f0 ∧ wfI x.f1 ∧ wfI x.f2
set_option maxRecDepth 100000 in
theorem o89 (w : World) : Opens Try.prog w 89 k89 wf89 :=
  Opens.iso (fun x : S89 => (x.f0, x.f1, x.f2)) (fun a => ⟨a.1, a.2.1, a.2.2⟩) (fun _ => rfl) (fun a h => h) (Opens.struct (tot := 3) Try.underlying89 (by kernel_rfl) (OpensFs.cons (off' := 1) rfl (by kernel_rfl) (Opens.int Try.underlying3) (OpensFs.cons (off' := 2) rfl (by kernel_rfl) (Opens.int Try.underlying3) (OpensFs.last rfl (by kernel_rfl) (Opens.int Try.underlying3)))))

end Go.Proofs.Ytfciajbahgjflaa.Print
