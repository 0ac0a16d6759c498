/-
  No cell of these rows narrows 'for every input' (looked for: loops, veiled, ifaces, maps, wideKeys, modest, calm, conditions, laid).
  DERIVED. THE GIVEN ROWS OF THIS SEAT. 10 by the template 'for every input the law returns true; each argument reads behind the call as it read before'; 0 by the template 'total and deterministic' (their statements: YtappbijjpcaocaaTotals.lean).
  GIVEN WITH THE SEED: the statements are not yours to turn. If you find one false, say at which input.
  Laid BY PROGRAM, IN A SANDBOX (cutbox-rows.mjs): the forced cells as the released guide's own fill.sh prints them over the translation 51f7c97e80dd5671… (all of the seat's roots in one cut). By AI agents, Wed Nov 11 2026. No macro, syntax, notation, axiom, sorry.
-/
import Derived.Test.YtappbijjpcaocaaChecked
import GoSem.Claim
import GoSem.ClaimJoined
import GoSem.ClaimMapViews
import Derived.JoinedTies
import Derived.KernelRfl
namespace Go.Proofs.Ytappbijjpcaocaa
/- THE CELL 'sum', in the pinned program and in every row, IS THE sha256 OF THE DUMP (.gsa) THAT YtappbijjpcaocaaProg.lean LOADS. Nothing in Lean hashes anything: it is a label: what it is worth is what the hold of that sum in a sandbox is worth. -/
noncomputable def Try.pinned : Pinned := { name := "ytappbijjpcaocaa", sum := "51f7c97e80dd5671c9dc4e3403e19f8e389722730b0a068c9cfd71a1d614f0b0", checked := Try.checked }
namespace Rows
def none {H : Type} : Left H := { results := [], args := [] }

/-- 'laws.FnExactOrderValid': WHATEVER THE INPUT: true; the input reads as it did. -/
def fnExactOrderValidSpec : ChangeSpec := { name := "fnExactOrderValid", fn := fun _ => fun
  | [d1, d2] => { results := [.lit (.bool true)], args := [d1, d2] }
  | _ => none }
def fnExactOrderValidRow : OpenClaim := { program := "ytappbijjpcaocaa", sum := "51f7c97e80dd5671c9dc4e3403e19f8e389722730b0a068c9cfd71a1d614f0b0", func := "loop.example/deadlinescheduler/laws.FnExactOrderValid", spec := "fnExactOrderValid", unfollowed := true, recurses := true, apart := false }
def FnExactOrderValidSaid : Prop := fnExactOrderValidRow.holds Try.pinned (OpenSpec.ofChange fnExactOrderValidSpec)

/-- ITS FALSE NEIGHBOUR: 'it returns false'. Refute it at one input. -/
def fnExactOrderValidWrong : ChangeSpec := { name := "fnExactOrderValid", fn := fun _ => fun
  | [d1, d2] => { results := [.lit (.bool false)], args := [d1, d2] }
  | _ => none }
def FnExactOrderValidWrongFalsely : Prop := fnExactOrderValidRow.holds Try.pinned (OpenSpec.ofChange fnExactOrderValidWrong)

/-- 'laws.FnExactProgramValid': WHATEVER THE INPUT: true; the input reads as it did. -/
def fnExactProgramValidSpec : ChangeSpec := { name := "fnExactProgramValid", fn := fun _ => fun
  | [d] => { results := [.lit (.bool true)], args := [d] }
  | _ => none }
def fnExactProgramValidRow : OpenClaim := { program := "ytappbijjpcaocaa", sum := "51f7c97e80dd5671c9dc4e3403e19f8e389722730b0a068c9cfd71a1d614f0b0", func := "loop.example/deadlinescheduler/laws.FnExactProgramValid", spec := "fnExactProgramValid", apart := false }
def FnExactProgramValidSaid : Prop := fnExactProgramValidRow.holds Try.pinned (OpenSpec.ofChange fnExactProgramValidSpec)

/-- ITS FALSE NEIGHBOUR: 'it returns false'. Refute it at one input. -/
def fnExactProgramValidWrong : ChangeSpec := { name := "fnExactProgramValid", fn := fun _ => fun
  | [d] => { results := [.lit (.bool false)], args := [d] }
  | _ => none }
def FnExactProgramValidWrongFalsely : Prop := fnExactProgramValidRow.holds Try.pinned (OpenSpec.ofChange fnExactProgramValidWrong)

/-- 'laws.FnExactWcet': WHATEVER THE INPUT: true; the input reads as it did. -/
def fnExactWcetSpec : ChangeSpec := { name := "fnExactWcet", fn := fun _ => fun
  | [d] => { results := [.lit (.bool true)], args := [d] }
  | _ => none }
def fnExactWcetRow : OpenClaim := { program := "ytappbijjpcaocaa", sum := "51f7c97e80dd5671c9dc4e3403e19f8e389722730b0a068c9cfd71a1d614f0b0", func := "loop.example/deadlinescheduler/laws.FnExactWcet", spec := "fnExactWcet", apart := false }
def FnExactWcetSaid : Prop := fnExactWcetRow.holds Try.pinned (OpenSpec.ofChange fnExactWcetSpec)

/-- ITS FALSE NEIGHBOUR: 'it returns false'. Refute it at one input. -/
def fnExactWcetWrong : ChangeSpec := { name := "fnExactWcet", fn := fun _ => fun
  | [d] => { results := [.lit (.bool false)], args := [d] }
  | _ => none }
def FnExactWcetWrongFalsely : Prop := fnExactWcetRow.holds Try.pinned (OpenSpec.ofChange fnExactWcetWrong)

/-- 'laws.FnExactBcet': WHATEVER THE INPUT: true; the input reads as it did. -/
def fnExactBcetSpec : ChangeSpec := { name := "fnExactBcet", fn := fun _ => fun
  | [d] => { results := [.lit (.bool true)], args := [d] }
  | _ => none }
def fnExactBcetRow : OpenClaim := { program := "ytappbijjpcaocaa", sum := "51f7c97e80dd5671c9dc4e3403e19f8e389722730b0a068c9cfd71a1d614f0b0", func := "loop.example/deadlinescheduler/laws.FnExactBcet", spec := "fnExactBcet", apart := false }
def FnExactBcetSaid : Prop := fnExactBcetRow.holds Try.pinned (OpenSpec.ofChange fnExactBcetSpec)

/-- ITS FALSE NEIGHBOUR: 'it returns false'. Refute it at one input. -/
def fnExactBcetWrong : ChangeSpec := { name := "fnExactBcet", fn := fun _ => fun
  | [d] => { results := [.lit (.bool false)], args := [d] }
  | _ => none }
def FnExactBcetWrongFalsely : Prop := fnExactBcetRow.holds Try.pinned (OpenSpec.ofChange fnExactBcetWrong)

/-- 'laws.FnExactFixedFeasible': WHATEVER THE INPUT: true; the input reads as it did. -/
def fnExactFixedFeasibleSpec : ChangeSpec := { name := "fnExactFixedFeasible", fn := fun _ => fun
  | [d1, d2] => { results := [.lit (.bool true)], args := [d1, d2] }
  | _ => none }
def fnExactFixedFeasibleRow : OpenClaim := { program := "ytappbijjpcaocaa", sum := "51f7c97e80dd5671c9dc4e3403e19f8e389722730b0a068c9cfd71a1d614f0b0", func := "loop.example/deadlinescheduler/laws.FnExactFixedFeasible", spec := "fnExactFixedFeasible", unfollowed := true, recurses := true, apart := false }
def FnExactFixedFeasibleSaid : Prop := fnExactFixedFeasibleRow.holds Try.pinned (OpenSpec.ofChange fnExactFixedFeasibleSpec)

/-- ITS FALSE NEIGHBOUR: 'it returns false'. Refute it at one input. -/
def fnExactFixedFeasibleWrong : ChangeSpec := { name := "fnExactFixedFeasible", fn := fun _ => fun
  | [d1, d2] => { results := [.lit (.bool false)], args := [d1, d2] }
  | _ => none }
def FnExactFixedFeasibleWrongFalsely : Prop := fnExactFixedFeasibleRow.holds Try.pinned (OpenSpec.ofChange fnExactFixedFeasibleWrong)

/-- 'laws.FnExactResponseTimes': WHATEVER THE INPUT: true; the input reads as it did. -/
def fnExactResponseTimesSpec : ChangeSpec := { name := "fnExactResponseTimes", fn := fun _ => fun
  | [d1, d2] => { results := [.lit (.bool true)], args := [d1, d2] }
  | _ => none }
def fnExactResponseTimesRow : OpenClaim := { program := "ytappbijjpcaocaa", sum := "51f7c97e80dd5671c9dc4e3403e19f8e389722730b0a068c9cfd71a1d614f0b0", func := "loop.example/deadlinescheduler/laws.FnExactResponseTimes", spec := "fnExactResponseTimes", unfollowed := true, recurses := true, apart := false }
def FnExactResponseTimesSaid : Prop := fnExactResponseTimesRow.holds Try.pinned (OpenSpec.ofChange fnExactResponseTimesSpec)

/-- ITS FALSE NEIGHBOUR: 'it returns false'. Refute it at one input. -/
def fnExactResponseTimesWrong : ChangeSpec := { name := "fnExactResponseTimes", fn := fun _ => fun
  | [d1, d2] => { results := [.lit (.bool false)], args := [d1, d2] }
  | _ => none }
def FnExactResponseTimesWrongFalsely : Prop := fnExactResponseTimesRow.holds Try.pinned (OpenSpec.ofChange fnExactResponseTimesWrong)

/-- 'laws.FnExactRunProgram': WHATEVER THE INPUT: true; the input reads as it did. -/
def fnExactRunProgramSpec : ChangeSpec := { name := "fnExactRunProgram", fn := fun _ => fun
  | [d1, d2] => { results := [.lit (.bool true)], args := [d1, d2] }
  | _ => none }
def fnExactRunProgramRow : OpenClaim := { program := "ytappbijjpcaocaa", sum := "51f7c97e80dd5671c9dc4e3403e19f8e389722730b0a068c9cfd71a1d614f0b0", func := "loop.example/deadlinescheduler/laws.FnExactRunProgram", spec := "fnExactRunProgram", unfollowed := true, recurses := true, apart := false }
def FnExactRunProgramSaid : Prop := fnExactRunProgramRow.holds Try.pinned (OpenSpec.ofChange fnExactRunProgramSpec)

/-- ITS FALSE NEIGHBOUR: 'it returns false'. Refute it at one input. -/
def fnExactRunProgramWrong : ChangeSpec := { name := "fnExactRunProgram", fn := fun _ => fun
  | [d1, d2] => { results := [.lit (.bool false)], args := [d1, d2] }
  | _ => none }
def FnExactRunProgramWrongFalsely : Prop := fnExactRunProgramRow.holds Try.pinned (OpenSpec.ofChange fnExactRunProgramWrong)

/-- 'laws.FnExactAssignPriorities': WHATEVER THE INPUT: true; the input reads as it did. -/
def fnExactAssignPrioritiesSpec : ChangeSpec := { name := "fnExactAssignPriorities", fn := fun _ => fun
  | [d] => { results := [.lit (.bool true)], args := [d] }
  | _ => none }
def fnExactAssignPrioritiesRow : OpenClaim := { program := "ytappbijjpcaocaa", sum := "51f7c97e80dd5671c9dc4e3403e19f8e389722730b0a068c9cfd71a1d614f0b0", func := "loop.example/deadlinescheduler/laws.FnExactAssignPriorities", spec := "fnExactAssignPriorities", unfollowed := true, recurses := true, apart := false }
def FnExactAssignPrioritiesSaid : Prop := fnExactAssignPrioritiesRow.holds Try.pinned (OpenSpec.ofChange fnExactAssignPrioritiesSpec)

/-- ITS FALSE NEIGHBOUR: 'it returns false'. Refute it at one input. -/
def fnExactAssignPrioritiesWrong : ChangeSpec := { name := "fnExactAssignPriorities", fn := fun _ => fun
  | [d] => { results := [.lit (.bool false)], args := [d] }
  | _ => none }
def FnExactAssignPrioritiesWrongFalsely : Prop := fnExactAssignPrioritiesRow.holds Try.pinned (OpenSpec.ofChange fnExactAssignPrioritiesWrong)

/-- 'laws.FnExactWorstChoices': WHATEVER THE INPUT: true; the input reads as it did. -/
def fnExactWorstChoicesSpec : ChangeSpec := { name := "fnExactWorstChoices", fn := fun _ => fun
  | [d] => { results := [.lit (.bool true)], args := [d] }
  | _ => none }
def fnExactWorstChoicesRow : OpenClaim := { program := "ytappbijjpcaocaa", sum := "51f7c97e80dd5671c9dc4e3403e19f8e389722730b0a068c9cfd71a1d614f0b0", func := "loop.example/deadlinescheduler/laws.FnExactWorstChoices", spec := "fnExactWorstChoices", unfollowed := true, recurses := true, apart := false }
def FnExactWorstChoicesSaid : Prop := fnExactWorstChoicesRow.holds Try.pinned (OpenSpec.ofChange fnExactWorstChoicesSpec)

/-- ITS FALSE NEIGHBOUR: 'it returns false'. Refute it at one input. -/
def fnExactWorstChoicesWrong : ChangeSpec := { name := "fnExactWorstChoices", fn := fun _ => fun
  | [d] => { results := [.lit (.bool false)], args := [d] }
  | _ => none }
def FnExactWorstChoicesWrongFalsely : Prop := fnExactWorstChoicesRow.holds Try.pinned (OpenSpec.ofChange fnExactWorstChoicesWrong)

/-- 'laws.FnExactDeadlineMonotonic': WHATEVER THE INPUT: true; the input reads as it did. -/
def fnExactDeadlineMonotonicSpec : ChangeSpec := { name := "fnExactDeadlineMonotonic", fn := fun _ => fun
  | [d] => { results := [.lit (.bool true)], args := [d] }
  | _ => none }
def fnExactDeadlineMonotonicRow : OpenClaim := { program := "ytappbijjpcaocaa", sum := "51f7c97e80dd5671c9dc4e3403e19f8e389722730b0a068c9cfd71a1d614f0b0", func := "loop.example/deadlinescheduler/laws.FnExactDeadlineMonotonic", spec := "fnExactDeadlineMonotonic", unfollowed := true, recurses := true, apart := false }
def FnExactDeadlineMonotonicSaid : Prop := fnExactDeadlineMonotonicRow.holds Try.pinned (OpenSpec.ofChange fnExactDeadlineMonotonicSpec)

/-- ITS FALSE NEIGHBOUR: 'it returns false'. Refute it at one input. -/
def fnExactDeadlineMonotonicWrong : ChangeSpec := { name := "fnExactDeadlineMonotonic", fn := fun _ => fun
  | [d] => { results := [.lit (.bool false)], args := [d] }
  | _ => none }
def FnExactDeadlineMonotonicWrongFalsely : Prop := fnExactDeadlineMonotonicRow.holds Try.pinned (OpenSpec.ofChange fnExactDeadlineMonotonicWrong)

/- THE SECOND FORM. 'bulk': how many values and letters a reading holds, each counted each time it is reached (what is shared counts as often as it is met; a slice's spare places count too). A statement '..UptoSaid' is the law's where the arguments, and the package variables that the reading takes, are together of bulk at most 1048576: NARROWER than '..Said'. Prove '..Said' where nothing that the law and all that it calls make is longer than what came in: it says more and counts as full. Else prove '..UptoSaid'. A law counts once. -/
mutual
def uptoBulk {H : Type} : DataW H → Nat
  | .lit (.string bytes) => bytes.length + 1
  | .lit _ => 1
  | .nil => 1
  | .ptr d => uptoBulk d + 1
  | .slice elems spare => uptoBulkAll elems + uptoBulkAll spare + 1
  | .agg parts => uptoBulkAll parts + 1
  | .iface _ d => uptoBulk d + 1
  | .map entries => uptoBulkEntries entries + 1
  | .held _ => 1
def uptoBulkAll {H : Type} : List (DataW H) → Nat
  | [] => 0
  | d :: r => uptoBulk d + uptoBulkAll r
def uptoBulkEntries {H : Type} : List (Lit × DataW H) → Nat
  | [] => 0
  | x :: r => uptoBulkEntry x + uptoBulkEntries r
def uptoBulkEntry {H : Type} : Lit × DataW H → Nat
  | (.string bytes, d) => bytes.length + uptoBulk d + 1
  | (_, d) => uptoBulk d + 1
 end
def uptoSmall : (H : Type) → List (DataW H) → Bool := fun _ ds => decide (uptoBulkAll ds ≤ 1048576)
def OpenSpec.upto (s : _root_.Go.ChangeSpec) : _root_.Go.OpenSpec := { _root_.Go.OpenSpec.ofChange s with cond := some uptoSmall }

/-- 'laws.FnExactOrderValid', WHERE WHAT IT READS IS OF BULK AT MOST 1048576: true; the input reads as it did. -/
def fnExactOrderValidUptoRow : OpenClaim := { program := "ytappbijjpcaocaa", sum := "51f7c97e80dd5671c9dc4e3403e19f8e389722730b0a068c9cfd71a1d614f0b0", func := "loop.example/deadlinescheduler/laws.FnExactOrderValid", spec := "fnExactOrderValid", unfollowed := true, recurses := true, apart := false, narrowed := true }
def FnExactOrderValidUptoSaid : Prop := fnExactOrderValidUptoRow.holds Try.pinned (OpenSpec.upto fnExactOrderValidSpec)

/-- 'laws.FnExactProgramValid', WHERE WHAT IT READS IS OF BULK AT MOST 1048576: true; the input reads as it did. -/
def fnExactProgramValidUptoRow : OpenClaim := { program := "ytappbijjpcaocaa", sum := "51f7c97e80dd5671c9dc4e3403e19f8e389722730b0a068c9cfd71a1d614f0b0", func := "loop.example/deadlinescheduler/laws.FnExactProgramValid", spec := "fnExactProgramValid", apart := false, narrowed := true }
def FnExactProgramValidUptoSaid : Prop := fnExactProgramValidUptoRow.holds Try.pinned (OpenSpec.upto fnExactProgramValidSpec)

/-- 'laws.FnExactWcet', WHERE WHAT IT READS IS OF BULK AT MOST 1048576: true; the input reads as it did. -/
def fnExactWcetUptoRow : OpenClaim := { program := "ytappbijjpcaocaa", sum := "51f7c97e80dd5671c9dc4e3403e19f8e389722730b0a068c9cfd71a1d614f0b0", func := "loop.example/deadlinescheduler/laws.FnExactWcet", spec := "fnExactWcet", apart := false, narrowed := true }
def FnExactWcetUptoSaid : Prop := fnExactWcetUptoRow.holds Try.pinned (OpenSpec.upto fnExactWcetSpec)

/-- 'laws.FnExactBcet', WHERE WHAT IT READS IS OF BULK AT MOST 1048576: true; the input reads as it did. -/
def fnExactBcetUptoRow : OpenClaim := { program := "ytappbijjpcaocaa", sum := "51f7c97e80dd5671c9dc4e3403e19f8e389722730b0a068c9cfd71a1d614f0b0", func := "loop.example/deadlinescheduler/laws.FnExactBcet", spec := "fnExactBcet", apart := false, narrowed := true }
def FnExactBcetUptoSaid : Prop := fnExactBcetUptoRow.holds Try.pinned (OpenSpec.upto fnExactBcetSpec)

/-- 'laws.FnExactFixedFeasible', WHERE WHAT IT READS IS OF BULK AT MOST 1048576: true; the input reads as it did. -/
def fnExactFixedFeasibleUptoRow : OpenClaim := { program := "ytappbijjpcaocaa", sum := "51f7c97e80dd5671c9dc4e3403e19f8e389722730b0a068c9cfd71a1d614f0b0", func := "loop.example/deadlinescheduler/laws.FnExactFixedFeasible", spec := "fnExactFixedFeasible", unfollowed := true, recurses := true, apart := false, narrowed := true }
def FnExactFixedFeasibleUptoSaid : Prop := fnExactFixedFeasibleUptoRow.holds Try.pinned (OpenSpec.upto fnExactFixedFeasibleSpec)

/-- 'laws.FnExactResponseTimes', WHERE WHAT IT READS IS OF BULK AT MOST 1048576: true; the input reads as it did. -/
def fnExactResponseTimesUptoRow : OpenClaim := { program := "ytappbijjpcaocaa", sum := "51f7c97e80dd5671c9dc4e3403e19f8e389722730b0a068c9cfd71a1d614f0b0", func := "loop.example/deadlinescheduler/laws.FnExactResponseTimes", spec := "fnExactResponseTimes", unfollowed := true, recurses := true, apart := false, narrowed := true }
def FnExactResponseTimesUptoSaid : Prop := fnExactResponseTimesUptoRow.holds Try.pinned (OpenSpec.upto fnExactResponseTimesSpec)

/-- 'laws.FnExactRunProgram', WHERE WHAT IT READS IS OF BULK AT MOST 1048576: true; the input reads as it did. -/
def fnExactRunProgramUptoRow : OpenClaim := { program := "ytappbijjpcaocaa", sum := "51f7c97e80dd5671c9dc4e3403e19f8e389722730b0a068c9cfd71a1d614f0b0", func := "loop.example/deadlinescheduler/laws.FnExactRunProgram", spec := "fnExactRunProgram", unfollowed := true, recurses := true, apart := false, narrowed := true }
def FnExactRunProgramUptoSaid : Prop := fnExactRunProgramUptoRow.holds Try.pinned (OpenSpec.upto fnExactRunProgramSpec)

/-- 'laws.FnExactAssignPriorities', WHERE WHAT IT READS IS OF BULK AT MOST 1048576: true; the input reads as it did. -/
def fnExactAssignPrioritiesUptoRow : OpenClaim := { program := "ytappbijjpcaocaa", sum := "51f7c97e80dd5671c9dc4e3403e19f8e389722730b0a068c9cfd71a1d614f0b0", func := "loop.example/deadlinescheduler/laws.FnExactAssignPriorities", spec := "fnExactAssignPriorities", unfollowed := true, recurses := true, apart := false, narrowed := true }
def FnExactAssignPrioritiesUptoSaid : Prop := fnExactAssignPrioritiesUptoRow.holds Try.pinned (OpenSpec.upto fnExactAssignPrioritiesSpec)

/-- 'laws.FnExactWorstChoices', WHERE WHAT IT READS IS OF BULK AT MOST 1048576: true; the input reads as it did. -/
def fnExactWorstChoicesUptoRow : OpenClaim := { program := "ytappbijjpcaocaa", sum := "51f7c97e80dd5671c9dc4e3403e19f8e389722730b0a068c9cfd71a1d614f0b0", func := "loop.example/deadlinescheduler/laws.FnExactWorstChoices", spec := "fnExactWorstChoices", unfollowed := true, recurses := true, apart := false, narrowed := true }
def FnExactWorstChoicesUptoSaid : Prop := fnExactWorstChoicesUptoRow.holds Try.pinned (OpenSpec.upto fnExactWorstChoicesSpec)

/-- 'laws.FnExactDeadlineMonotonic', WHERE WHAT IT READS IS OF BULK AT MOST 1048576: true; the input reads as it did. -/
def fnExactDeadlineMonotonicUptoRow : OpenClaim := { program := "ytappbijjpcaocaa", sum := "51f7c97e80dd5671c9dc4e3403e19f8e389722730b0a068c9cfd71a1d614f0b0", func := "loop.example/deadlinescheduler/laws.FnExactDeadlineMonotonic", spec := "fnExactDeadlineMonotonic", unfollowed := true, recurses := true, apart := false, narrowed := true }
def FnExactDeadlineMonotonicUptoSaid : Prop := fnExactDeadlineMonotonicUptoRow.holds Try.pinned (OpenSpec.upto fnExactDeadlineMonotonicSpec)

end Rows
end Go.Proofs.Ytappbijjpcaocaa
