/- Functions of the translation as plain Lean functions, and their contracts: written by a program. No condition. -/
import Derived.Test.YtfciajbahgjflaaPB
import Derived.Test.YtfciajbahgjflaaOpens
import Derived.KernelRfl
import Derived.WalkKit
import Derived.ProofKit
namespace Go.Proofs.Ytfciajbahgjflaa.Print
open Go.RowKit Go.Proofs.YtfciajbahgjflaaW.PrintWords Go.Proofs.YtfciajbahgjflaaW.PrintLast Go.Proofs.YtfciajbahgjflaaW.PrintMore
attribute [local go_sem] max2_int min2_int max_two min_two max_three min_three max_four min_four   -- for this text's walks alone
set_option linter.unusedVariables false
set_option linter.unusedSimpArgs false

open Go.Proofs.Ytfciajbahgjflaa.Opens
def wf79 (x : S79) : Prop := wfI x.f0 ∧ wfI x.f1 ∧ wfI x.f2 ∧ wfI x.f3
set_option maxRecDepth 100000 in
theorem o79 (w : World) : Opens Try.prog w 79 k79 wf79 :=
  Opens.iso (fun x : S79 => (x.f0, x.f1, x.f2, x.f3)) (fun a => ⟨a.1, a.2.1, a.2.2.1, a.2.2.2⟩) (fun _ => rfl) (fun a h => h) (Opens.struct (tot := 4) Try.underlying79 (by kernel_rfl) (OpensFs.cons (off' := 1) rfl (by kernel_rfl) (Opens.int Try.underlying3) (OpensFs.cons (off' := 2) rfl (by kernel_rfl) (Opens.int Try.underlying3) (OpensFs.cons (off' := 3) rfl (by kernel_rfl) (Opens.int Try.underlying3) (OpensFs.last rfl (by kernel_rfl) (Opens.int Try.underlying3))))))

def wf62 (x : S62) : Prop := (wfL (wfL wfI)) x.f0 ∧ (wfL wfI) x.f1
set_option maxRecDepth 100000 in
theorem o62 (w : World) : Opens Try.prog w 62 k62 wf62 :=
  Opens.iso (fun x : S62 => (x.f0, x.f1)) (fun a => ⟨a.1, a.2⟩) (fun _ => rfl) (fun a h => h) (Opens.struct (tot := 2) Try.underlying62 (by kernel_rfl) (OpensFs.cons (off' := 1) rfl (by kernel_rfl) (Opens.slice 23 Try.underlying60 (by kernel_rfl) (Opens.slice 3 Try.underlying23 (by kernel_rfl) (Opens.int Try.underlying3))) (OpensFs.last rfl (by kernel_rfl) (Opens.slice 3 Try.underlying23 (by kernel_rfl) (Opens.int Try.underlying3)))))

end Go.Proofs.Ytfciajbahgjflaa.Print
