/- Functions of the translation as plain Lean functions, and their contracts: written by a program. No condition. -/
import Derived.Test.YtappbijjpcaocaaPO
import Derived.Test.YtappbijjpcaocaaPK4
namespace Go.Proofs.Ytappbijjpcaocaa.Print
open Go.RowKit Go.Proofs.YtappbijjpcaocaaW.PrintWords Go.Proofs.YtappbijjpcaocaaW.PrintLast Go.Proofs.YtappbijjpcaocaaW.PrintMore
attribute [local go_sem] max2_int min2_int max_two min_two max_three min_three max_four min_four   -- for this text's walks alone
set_option linter.unusedVariables false
set_option linter.unusedSimpArgs false

open Go.Proofs.Ytappbijjpcaocaa.Opens
/-- The pure statement of FnExactOrderValid. -/
def PureFnExactOrderValid : Prop := ∀ (x0 : List (S56)) (x1 : List Int), (wfL wf56) x0 → (wfL wfI) x1 → ∃ k, laws_FnExactOrderValid.f k x0 x1 = some true
end Go.Proofs.Ytappbijjpcaocaa.Print
