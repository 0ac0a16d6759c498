/- Functions of the translation as plain Lean functions, and their contracts: written by a program. No condition. -/
import Derived.Test.YtkgloicnfphmoaaDoorProg
import Derived.Below
import Derived.Deep.Draws
import Derived.Deep.AppendLies
import Derived.Maps.AppendAt
import Derived.OwnWalk
import Derived.Laws.BytesArg
import Derived.Laws.MakeOwn
import Derived.Laws.OwnMore
import Derived.Deep.OwnRows
import Derived.Tactics
import Derived.Lib.ConvBytes
import Derived.Laws.Slices
import Derived.WalkKit
import Derived.KernelRfl
import Derived.RowKit3
import Derived.Deep.LoopGhost
import Derived.Deep.QuietTactic
import Derived.BigQuiet
import Derived.WideLaws
import Derived.Deep.DeepCutAuto
import Derived.Deep.CutBlock
import Derived.Deep.RegionHeld3
import Derived.Laws.Rows
import Derived.Lib.AppendStr
import Derived.ArgAppend
import Derived.Laws.IdiomCopy
import Derived.OrdersHeld
import Derived.Laws.BitsLemmas
import Derived.RowKit
import Derived.Test.YtkgloicnfphmoaaDoorWWords
import Derived.Test.YtkgloicnfphmoaaDoorWLast
import Derived.Test.YtkgloicnfphmoaaDoorWTab
import Derived.Test.YtkgloicnfphmoaaDoorWFour
import Derived.Test.YtkgloicnfphmoaaDoorWQPut
import Derived.Test.YtkgloicnfphmoaaDoorWApart
import Derived.Test.YtkgloicnfphmoaaDoorWArr
import Derived.Test.YtkgloicnfphmoaaDoorWZeros
import Derived.Test.YtkgloicnfphmoaaDoorWFoot
import Derived.Test.YtkgloicnfphmoaaDoorWKept
import Derived.Test.YtkgloicnfphmoaaDoorWShare
import Derived.Test.YtkgloicnfphmoaaDoorWN
import Derived.Test.YtkgloicnfphmoaaDoorWFootNe
import Derived.Test.YtkgloicnfphmoaaDoorWAt
import Derived.Test.YtkgloicnfphmoaaDoorWEqStruct
import Derived.Test.YtkgloicnfphmoaaDoorWRepsOne
import Derived.Test.YtkgloicnfphmoaaDoorWInv
import Derived.Test.YtkgloicnfphmoaaDoorWInvWords
import Derived.Test.YtkgloicnfphmoaaDoorWGuard
import Derived.Test.YtkgloicnfphmoaaDoorWNEv
import Derived.Test.YtkgloicnfphmoaaDoorWMore
namespace Go.Proofs.YtkgloicnfphmoaaDoor.Print
open Go.RowKit Go.Proofs.YtkgloicnfphmoaaDoorW.PrintWords Go.Proofs.YtkgloicnfphmoaaDoorW.PrintLast Go.Proofs.YtkgloicnfphmoaaDoorW.PrintMore
attribute [local go_sem] max2_int min2_int max_two min_two max_three min_three max_four min_four   -- for this text's walks alone
set_option linter.unusedVariables false
set_option linter.unusedSimpArgs false



def errW : Option Int → Value
  | none => .nilIface
  | some c => .iface 0 (.int .i64 c)
theorem errW_none : errW none = .nilIface := rfl
theorem errW_some (c : Int) : errW (some c) = .iface 0 (.int .i64 c) := rfl

theorem info5 : (Tryd.prog.info? 5).map (fun i => (i.zero, i.size, i.bytes)) = some (some (.int .u8 0), 1, 1) := by kernel_rfl
theorem info9 : (Tryd.prog.info? 9).map (fun i => (i.zero, i.size, i.bytes)) = some (some (.string ⟨#[]⟩), 1, 16) := by kernel_rfl
-- the values' own types

end Go.Proofs.YtkgloicnfphmoaaDoor.Print
