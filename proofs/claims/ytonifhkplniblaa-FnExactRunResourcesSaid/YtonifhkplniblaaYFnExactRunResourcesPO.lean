/- Functions of the translation as plain Lean functions, and their contracts: written by a program. No condition. -/
import Derived.Test.YtonifhkplniblaaYFnExactRunResourcesPB
import Derived.Test.YtonifhkplniblaaYFnExactRunResourcesOpens
import Derived.KernelRfl
import Derived.WalkKit
import Derived.ProofKit
namespace Go.Proofs.Ytonifhkplniblaa.Print
open Go.RowKit Go.Proofs.YtonifhkplniblaaW.PrintWords Go.Proofs.YtonifhkplniblaaW.PrintLast Go.Proofs.YtonifhkplniblaaW.PrintMore
attribute [local go_sem] max2_int min2_int max_two min_two max_three min_three max_four min_four   -- for this text's walks alone
set_option linter.unusedVariables false
set_option linter.unusedSimpArgs false

open Go.Proofs.Ytonifhkplniblaa.Opens
def wf105 (x : S105) : Prop := wfI x.f0 ∧ wfI x.f1 ∧ wfI x.f2
set_option maxRecDepth 100000 in
theorem o105 (w : World) : Opens Try.prog w 105 k105 wf105 :=
  Opens.iso (fun x : S105 => (x.f0, x.f1, x.f2)) (fun a => ⟨a.1, a.2.1, a.2.2⟩) (fun _ => rfl) (fun a h => h) (Opens.struct (tot := 3) Try.underlying105 (by kernel_rfl) (OpensFs.cons (off' := 1) rfl (by kernel_rfl) (Opens.int Try.underlying3) (OpensFs.cons (off' := 2) rfl (by kernel_rfl) (Opens.int Try.underlying3) (OpensFs.last rfl (by kernel_rfl) (Opens.int Try.underlying3)))))

def wf160 (x : S160) : Prop := wfI x.f0 ∧ wfI x.f1 ∧ wfI x.f2
set_option maxRecDepth 100000 in
theorem o160 (w : World) : Opens Try.prog w 160 k160 wf160 :=
  Opens.iso (fun x : S160 => (x.f0, x.f1, x.f2)) (fun a => ⟨a.1, a.2.1, a.2.2⟩) (fun _ => rfl) (fun a h => h) (Opens.struct (tot := 3) Try.underlying160 (by kernel_rfl) (OpensFs.cons (off' := 1) rfl (by kernel_rfl) (Opens.int Try.underlying3) (OpensFs.cons (off' := 2) rfl (by kernel_rfl) (Opens.int Try.underlying3) (OpensFs.last rfl (by kernel_rfl) (Opens.int Try.underlying3)))))

def wf107 (x : S107) : Prop := wfI x.f0 ∧ wfI x.f1 ∧ wfI x.f2 ∧ wfI x.f3
set_option maxRecDepth 100000 in
theorem o107 (w : World) : Opens Try.prog w 107 k107 wf107 :=
  Opens.iso (fun x : S107 => (x.f0, x.f1, x.f2, x.f3)) (fun a => ⟨a.1, a.2.1, a.2.2.1, a.2.2.2⟩) (fun _ => rfl) (fun a h => h) (Opens.struct (tot := 4) Try.underlying107 (by kernel_rfl) (OpensFs.cons (off' := 1) rfl (by kernel_rfl) (Opens.int Try.underlying3) (OpensFs.cons (off' := 2) rfl (by kernel_rfl) (Opens.int Try.underlying3) (OpensFs.cons (off' := 3) rfl (by kernel_rfl) (Opens.int Try.underlying3) (OpensFs.last rfl (by kernel_rfl) (Opens.int Try.underlying3))))))

end Go.Proofs.Ytonifhkplniblaa.Print
