/- Functions of the translation as plain Lean functions, and their contracts: written by a program. No condition. -/
import Derived.Test.YtcpgejgppiclmaaPO
import Derived.Test.YtcpgejgppiclmaaPK100
namespace Go.Proofs.Ytcpgejgppiclmaa.Print
open Go.RowKit Go.Proofs.YtcpgejgppiclmaaW.PrintWords Go.Proofs.YtcpgejgppiclmaaW.PrintLast Go.Proofs.YtcpgejgppiclmaaW.PrintMore
attribute [local go_sem] max2_int min2_int max_two min_two max_three min_three max_four min_four   -- for this text's walks alone
set_option linter.unusedVariables false
set_option linter.unusedSimpArgs false

open Go.Proofs.Ytcpgejgppiclmaa.Opens
/-- The pure statement of FnExactResourcesFeasible. -/
def PureFnExactResourcesFeasible : Prop := ∀ (x0 : List (S83)) (x1 : List (S91)), (wfL wf83) x0 → (wfL wf91) x1 → ∃ k, laws_FnExactResourcesFeasible.f k x0 x1 = some true
end Go.Proofs.Ytcpgejgppiclmaa.Print
