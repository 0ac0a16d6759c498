/- Functions of the translation as plain Lean functions, and their contracts: written by a program. No condition. -/
import Derived.Test.YtappbijjpcaocaaDoorPO
import Derived.Test.YtappbijjpcaocaaDoorPLawsFnExactFormatTask
namespace Go.Proofs.YtappbijjpcaocaaDoor.Print
open Go.RowKit Go.Proofs.YtappbijjpcaocaaDoorW.PrintWords Go.Proofs.YtappbijjpcaocaaDoorW.PrintLast Go.Proofs.YtappbijjpcaocaaDoorW.PrintMore
attribute [local go_sem] max2_int min2_int max_two min_two max_three min_three max_four min_four   -- for this text's walks alone
set_option linter.unusedVariables false
set_option linter.unusedSimpArgs false

open Go.Proofs.YtappbijjpcaocaaDoor.Opens
/-- The pure statement of FnExactFormatTask. -/
def PureFnExactFormatTask : Prop := ∀ (x0 : S23), wf23 x0 → ∃ k, laws_FnExactFormatTask.f k x0.f0 x0.f1 x0.f2 = some true
end Go.Proofs.YtappbijjpcaocaaDoor.Print
