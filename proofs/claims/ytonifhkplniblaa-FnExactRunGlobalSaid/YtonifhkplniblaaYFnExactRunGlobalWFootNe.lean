/- Words for walks over printed texts: of the kit's print's words those that this claim names, laid by a program of mine (wip/tools/shaken.py). No condition. -/
import Derived.Test.YtonifhkplniblaaYFnExactRunGlobalWN
/-! ### 52. A row that stays read whatever happens to a block (a set of blocks) doesn't lie there -/
namespace Go.Proofs.YtonifhkplniblaaW.PrintWords
open Go.RowKit
namespace Kd
section
variable {α : Type} {d : Kd α} {W : World} {g n : Nat} {S ok : Nat → Prop} {A : Option Addr} {ad : Addr} {xs : List α}
end
end Kd
end Go.Proofs.YtonifhkplniblaaW.PrintWords
