/- Functions of the translation as plain Lean functions, and their contracts: written by a program. No condition. -/
import Derived.Test.YtmpanaefdohjkaaPO
import Derived.Test.YtmpanaefdohjkaaPK40
namespace Go.Proofs.Ytmpanaefdohjkaa.Print
open Go.RowKit Go.Proofs.YtmpanaefdohjkaaW.PrintWords Go.Proofs.YtmpanaefdohjkaaW.PrintLast Go.Proofs.YtmpanaefdohjkaaW.PrintMore
attribute [local go_sem] max2_int min2_int max_two min_two max_three min_three max_four min_four   -- for this text's walks alone
set_option linter.unusedVariables false
set_option linter.unusedSimpArgs false

open Go.Proofs.Ytmpanaefdohjkaa.Opens
/-- The pure statement of FnExactMinSpeed. -/
def PureFnExactMinSpeed : Prop := ∀ (x0 : List (S24)), (wfL wf24) x0 → ∃ k, laws_FnExactMinSpeed.f k x0 = some true
end Go.Proofs.Ytmpanaefdohjkaa.Print
