/- Words for walks over printed texts: of the kit's print's words those that this claim names, laid by a program of mine (wip/tools/shaken.py). No condition. -/
import Derived.Test.YtonifhkplniblaaYFnExactRunGlobalWWords
/-! ### 58. A guarded operation whose guard is known to want it: the same goal without the guard -/
namespace Go.Proofs.YtonifhkplniblaaW.PrintWords
open Go.RowKit
section
variable {P : Program} {ops : Array Oper} {rest : List Oper} {o : Oper} {a : Act} {Q : Exit → Act → World → Prop} {W : World}
end
end Go.Proofs.YtonifhkplniblaaW.PrintWords
