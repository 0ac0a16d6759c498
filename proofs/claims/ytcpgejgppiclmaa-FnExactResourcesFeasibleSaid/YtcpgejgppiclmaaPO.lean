/- Functions of the translation as plain Lean functions, and their contracts: written by a program. No condition. -/
import Derived.Test.YtcpgejgppiclmaaPB
import Derived.Test.YtcpgejgppiclmaaOpens
import Derived.KernelRfl
import Derived.WalkKit
import Derived.ProofKit
namespace Go.Proofs.Ytcpgejgppiclmaa.Print
open Go.RowKit Go.Proofs.YtcpgejgppiclmaaW.PrintWords Go.Proofs.YtcpgejgppiclmaaW.PrintLast Go.Proofs.YtcpgejgppiclmaaW.PrintMore
attribute [local go_sem] max2_int min2_int max_two min_two max_three min_three max_four min_four   -- for this text's walks alone
set_option linter.unusedVariables false
set_option linter.unusedSimpArgs false

open Go.Proofs.Ytcpgejgppiclmaa.Opens
def wf70 (x : S70) : Prop := wfI x.f0 ∧ wfI x.f1
set_option maxRecDepth 100000 in
theorem o70 (w : World) : Opens Try.prog w 70 k70 wf70 :=
  Opens.iso (fun x : S70 => (x.f0, x.f1)) (fun a => ⟨a.1, a.2⟩) (fun _ => rfl) (fun a h => h) (Opens.struct (tot := 2) Try.underlying70 (by kernel_rfl) (OpensFs.cons (off' := 1) rfl (by kernel_rfl) (Opens.int Try.underlying3) (OpensFs.last rfl (by kernel_rfl) (Opens.int Try.underlying3))))

def wf75 (x : S75) : Prop := wfI x.f0 ∧ wfI x.f1
set_option maxRecDepth 100000 in
theorem o75 (w : World) : Opens Try.prog w 75 k75 wf75 :=
  Opens.iso (fun x : S75 => (x.f0, x.f1)) (fun a => ⟨a.1, a.2⟩) (fun _ => rfl) (fun a h => h) (Opens.struct (tot := 2) Try.underlying75 (by kernel_rfl) (OpensFs.cons (off' := 1) rfl (by kernel_rfl) (Opens.int Try.underlying3) (OpensFs.last rfl (by kernel_rfl) (Opens.int Try.underlying3))))

def wf83 (x : S83) : Prop := wfI x.f0 ∧ wfI x.f1 ∧ wfI x.f2
set_option maxRecDepth 100000 in
theorem o83 (w : World) : Opens Try.prog w 83 k83 wf83 :=
  Opens.iso (fun x : S83 => (x.f0, x.f1, x.f2)) (fun a => ⟨a.1, a.2.1, a.2.2⟩) (fun _ => rfl) (fun a h => h) (Opens.struct (tot := 3) Try.underlying83 (by kernel_rfl) (OpensFs.cons (off' := 1) rfl (by kernel_rfl) (Opens.int Try.underlying3) (OpensFs.cons (off' := 2) rfl (by kernel_rfl) (Opens.int Try.underlying3) (OpensFs.last rfl (by kernel_rfl) (Opens.int Try.underlying3)))))

def wf91 (x : S91) : Prop := wfI x.f0 ∧ wfI x.f1 ∧ wfI x.f2
set_option maxRecDepth 100000 in
theorem o91 (w : World) : Opens Try.prog w 91 k91 wf91 :=
  Opens.iso (fun x : S91 => (x.f0, x.f1, x.f2)) (fun a => ⟨a.1, a.2.1, a.2.2⟩) (fun _ => rfl) (fun a h => h) (Opens.struct (tot := 3) Try.underlying91 (by kernel_rfl) (OpensFs.cons (off' := 1) rfl (by kernel_rfl) (Opens.int Try.underlying3) (OpensFs.cons (off' := 2) rfl (by kernel_rfl) (Opens.int Try.underlying3) (OpensFs.last rfl (by kernel_rfl) (Opens.int Try.underlying3)))))

end Go.Proofs.Ytcpgejgppiclmaa.Print
