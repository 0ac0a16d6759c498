/- Words for walks over printed texts: of the kit's print's words those that this claim names, laid by a program of mine (wip/tools/shaken.py). No condition. -/
import Derived.Test.YtonifhkplniblaaYFnExactRunGlobalWWords
import Derived.Laws.StructEq
/-! ### 53. '==' of structs as_ one Bool -/
namespace Go.Proofs.YtonifhkplniblaaW.PrintWords
open Go.RowKit
section
variable {P : Program} {d : Nat} {xs ys : Array Value} {f : Field} {fs : List Field} {a b : Value} {r s : Bool} {w : World}
end
end Go.Proofs.YtonifhkplniblaaW.PrintWords
