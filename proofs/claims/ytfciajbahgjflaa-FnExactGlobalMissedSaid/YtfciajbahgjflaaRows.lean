/-
  No cell of these rows narrows 'for every input' (looked for: loops, veiled, ifaces, maps, wideKeys, modest, calm, conditions, laid).
  DERIVED. THE GIVEN ROWS OF THIS SEAT. 12 by the template 'for every input the law returns true; each argument reads behind the call as it read before'; 0 by the template 'total and deterministic' (their statements: YtfciajbahgjflaaTotals.lean).
  GIVEN WITH THE SEED: the statements are not yours to turn. If you find one false, say at which input.
  Laid BY PROGRAM, IN A SANDBOX (cutbox-rows.mjs): the forced cells as the released guide's own fill.sh prints them over the translation 8d7a80ab6a500958… (all of the seat's roots in one cut). By AI agents, Wed Nov 11 2026. No macro, syntax, notation, axiom, sorry.
-/
import Derived.Test.YtfciajbahgjflaaChecked
import GoSem.Claim
import GoSem.ClaimJoined
import GoSem.ClaimMapViews
import Derived.JoinedTies
import Derived.KernelRfl
namespace Go.Proofs.Ytfciajbahgjflaa
/- THE CELL 'sum', in the pinned program and in every row, IS THE sha256 OF THE DUMP (.gsa) THAT YtfciajbahgjflaaProg.lean LOADS. Nothing in Lean hashes anything: it is a label: what it is worth is what the hold of that sum in a sandbox is worth. -/
noncomputable def Try.pinned : Pinned := { name := "ytfciajbahgjflaa", sum := "8d7a80ab6a5009585fabf608e1e6e9a12bef3489424f7b6e99a65972e5ddda83", checked := Try.checked }
namespace Rows
def none {H : Type} : Left H := { results := [], args := [] }

/-- 'laws.FnExactMissed': WHATEVER THE INPUT: true; the input reads as it did. -/
def fnExactMissedSpec : ChangeSpec := { name := "fnExactMissed", fn := fun _ => fun
  | [d1, d2] => { results := [.lit (.bool true)], args := [d1, d2] }
  | _ => none }
def fnExactMissedRow : OpenClaim := { program := "ytfciajbahgjflaa", sum := "8d7a80ab6a5009585fabf608e1e6e9a12bef3489424f7b6e99a65972e5ddda83", func := "loop.example/deadlinescheduler/laws.FnExactMissed", spec := "fnExactMissed", apart := false }
def FnExactMissedSaid : Prop := fnExactMissedRow.holds Try.pinned (OpenSpec.ofChange fnExactMissedSpec)

/-- ITS FALSE NEIGHBOUR: 'it returns false'. Refute it at one input. -/
def fnExactMissedWrong : ChangeSpec := { name := "fnExactMissed", fn := fun _ => fun
  | [d1, d2] => { results := [.lit (.bool false)], args := [d1, d2] }
  | _ => none }
def FnExactMissedWrongFalsely : Prop := fnExactMissedRow.holds Try.pinned (OpenSpec.ofChange fnExactMissedWrong)

/-- 'laws.FnFirstFitLoses': WHATEVER THE INPUT: true; the input reads as it did. -/
def fnFirstFitLosesSpec : ChangeSpec := { name := "fnFirstFitLoses", fn := fun _ => fun
  | [d] => { results := [.lit (.bool true)], args := [d] }
  | _ => none }
def fnFirstFitLosesRow : OpenClaim := { program := "ytfciajbahgjflaa", sum := "8d7a80ab6a5009585fabf608e1e6e9a12bef3489424f7b6e99a65972e5ddda83", func := "loop.example/deadlinescheduler/laws.FnFirstFitLoses", spec := "fnFirstFitLoses", unfollowed := true, recurses := true, apart := false }
def FnFirstFitLosesSaid : Prop := fnFirstFitLosesRow.holds Try.pinned (OpenSpec.ofChange fnFirstFitLosesSpec)

/-- ITS FALSE NEIGHBOUR: 'it returns false'. Refute it at one input. -/
def fnFirstFitLosesWrong : ChangeSpec := { name := "fnFirstFitLoses", fn := fun _ => fun
  | [d] => { results := [.lit (.bool false)], args := [d] }
  | _ => none }
def FnFirstFitLosesWrongFalsely : Prop := fnFirstFitLosesRow.holds Try.pinned (OpenSpec.ofChange fnFirstFitLosesWrong)

/-- 'laws.FnExactCoreTasks': WHATEVER THE INPUT: true; the input reads as it did. -/
def fnExactCoreTasksSpec : ChangeSpec := { name := "fnExactCoreTasks", fn := fun _ => fun
  | [d1, d2, d3, d4] => { results := [.lit (.bool true)], args := [d1, d2, d3, d4] }
  | _ => none }
def fnExactCoreTasksRow : OpenClaim := { program := "ytfciajbahgjflaa", sum := "8d7a80ab6a5009585fabf608e1e6e9a12bef3489424f7b6e99a65972e5ddda83", func := "loop.example/deadlinescheduler/laws.FnExactCoreTasks", spec := "fnExactCoreTasks", unfollowed := true, recurses := true, apart := false }
def FnExactCoreTasksSaid : Prop := fnExactCoreTasksRow.holds Try.pinned (OpenSpec.ofChange fnExactCoreTasksSpec)

/-- ITS FALSE NEIGHBOUR: 'it returns false'. Refute it at one input. -/
def fnExactCoreTasksWrong : ChangeSpec := { name := "fnExactCoreTasks", fn := fun _ => fun
  | [d1, d2, d3, d4] => { results := [.lit (.bool false)], args := [d1, d2, d3, d4] }
  | _ => none }
def FnExactCoreTasksWrongFalsely : Prop := fnExactCoreTasksRow.holds Try.pinned (OpenSpec.ofChange fnExactCoreTasksWrong)

/-- 'laws.FnExactTableValid': WHATEVER THE INPUT: true; the input reads as it did. -/
def fnExactTableValidSpec : ChangeSpec := { name := "fnExactTableValid", fn := fun _ => fun
  | [d1, d2] => { results := [.lit (.bool true)], args := [d1, d2] }
  | _ => none }
def fnExactTableValidRow : OpenClaim := { program := "ytfciajbahgjflaa", sum := "8d7a80ab6a5009585fabf608e1e6e9a12bef3489424f7b6e99a65972e5ddda83", func := "loop.example/deadlinescheduler/laws.FnExactTableValid", spec := "fnExactTableValid", unfollowed := true, recurses := true, apart := false }
def FnExactTableValidSaid : Prop := fnExactTableValidRow.holds Try.pinned (OpenSpec.ofChange fnExactTableValidSpec)

/-- ITS FALSE NEIGHBOUR: 'it returns false'. Refute it at one input. -/
def fnExactTableValidWrong : ChangeSpec := { name := "fnExactTableValid", fn := fun _ => fun
  | [d1, d2] => { results := [.lit (.bool false)], args := [d1, d2] }
  | _ => none }
def FnExactTableValidWrongFalsely : Prop := fnExactTableValidRow.holds Try.pinned (OpenSpec.ofChange fnExactTableValidWrong)

/-- 'laws.FnExactTableSlot': WHATEVER THE INPUT: true; the input reads as it did. -/
def fnExactTableSlotSpec : ChangeSpec := { name := "fnExactTableSlot", fn := fun _ => fun
  | [d1, d2, d3] => { results := [.lit (.bool true)], args := [d1, d2, d3] }
  | _ => none }
def fnExactTableSlotRow : OpenClaim := { program := "ytfciajbahgjflaa", sum := "8d7a80ab6a5009585fabf608e1e6e9a12bef3489424f7b6e99a65972e5ddda83", func := "loop.example/deadlinescheduler/laws.FnExactTableSlot", spec := "fnExactTableSlot", unfollowed := true, recurses := true, apart := false }
def FnExactTableSlotSaid : Prop := fnExactTableSlotRow.holds Try.pinned (OpenSpec.ofChange fnExactTableSlotSpec)

/-- ITS FALSE NEIGHBOUR: 'it returns false'. Refute it at one input. -/
def fnExactTableSlotWrong : ChangeSpec := { name := "fnExactTableSlot", fn := fun _ => fun
  | [d1, d2, d3] => { results := [.lit (.bool false)], args := [d1, d2, d3] }
  | _ => none }
def FnExactTableSlotWrongFalsely : Prop := fnExactTableSlotRow.holds Try.pinned (OpenSpec.ofChange fnExactTableSlotWrong)

/-- 'laws.FnExactGlobalMissed': WHATEVER THE INPUT: true; the input reads as it did. -/
def fnExactGlobalMissedSpec : ChangeSpec := { name := "fnExactGlobalMissed", fn := fun _ => fun
  | [d1, d2] => { results := [.lit (.bool true)], args := [d1, d2] }
  | _ => none }
def fnExactGlobalMissedRow : OpenClaim := { program := "ytfciajbahgjflaa", sum := "8d7a80ab6a5009585fabf608e1e6e9a12bef3489424f7b6e99a65972e5ddda83", func := "loop.example/deadlinescheduler/laws.FnExactGlobalMissed", spec := "fnExactGlobalMissed", apart := false }
def FnExactGlobalMissedSaid : Prop := fnExactGlobalMissedRow.holds Try.pinned (OpenSpec.ofChange fnExactGlobalMissedSpec)

/-- ITS FALSE NEIGHBOUR: 'it returns false'. Refute it at one input. -/
def fnExactGlobalMissedWrong : ChangeSpec := { name := "fnExactGlobalMissed", fn := fun _ => fun
  | [d1, d2] => { results := [.lit (.bool false)], args := [d1, d2] }
  | _ => none }
def FnExactGlobalMissedWrongFalsely : Prop := fnExactGlobalMissedRow.holds Try.pinned (OpenSpec.ofChange fnExactGlobalMissedWrong)

/-- 'laws.FnExactAssignmentFeasible': WHATEVER THE INPUT: true; the input reads as it did. -/
def fnExactAssignmentFeasibleSpec : ChangeSpec := { name := "fnExactAssignmentFeasible", fn := fun _ => fun
  | [d1, d2, d3] => { results := [.lit (.bool true)], args := [d1, d2, d3] }
  | _ => none }
def fnExactAssignmentFeasibleRow : OpenClaim := { program := "ytfciajbahgjflaa", sum := "8d7a80ab6a5009585fabf608e1e6e9a12bef3489424f7b6e99a65972e5ddda83", func := "loop.example/deadlinescheduler/laws.FnExactAssignmentFeasible", spec := "fnExactAssignmentFeasible", unfollowed := true, recurses := true, apart := false }
def FnExactAssignmentFeasibleSaid : Prop := fnExactAssignmentFeasibleRow.holds Try.pinned (OpenSpec.ofChange fnExactAssignmentFeasibleSpec)

/-- ITS FALSE NEIGHBOUR: 'it returns false'. Refute it at one input. -/
def fnExactAssignmentFeasibleWrong : ChangeSpec := { name := "fnExactAssignmentFeasible", fn := fun _ => fun
  | [d1, d2, d3] => { results := [.lit (.bool false)], args := [d1, d2, d3] }
  | _ => none }
def FnExactAssignmentFeasibleWrongFalsely : Prop := fnExactAssignmentFeasibleRow.holds Try.pinned (OpenSpec.ofChange fnExactAssignmentFeasibleWrong)

/-- 'laws.FnExactIdleSlots': WHATEVER THE INPUT: true; the input reads as it did. -/
def fnExactIdleSlotsSpec : ChangeSpec := { name := "fnExactIdleSlots", fn := fun _ => fun
  | [d1, d2] => { results := [.lit (.bool true)], args := [d1, d2] }
  | _ => none }
def fnExactIdleSlotsRow : OpenClaim := { program := "ytfciajbahgjflaa", sum := "8d7a80ab6a5009585fabf608e1e6e9a12bef3489424f7b6e99a65972e5ddda83", func := "loop.example/deadlinescheduler/laws.FnExactIdleSlots", spec := "fnExactIdleSlots", unfollowed := true, recurses := true, apart := false }
def FnExactIdleSlotsSaid : Prop := fnExactIdleSlotsRow.holds Try.pinned (OpenSpec.ofChange fnExactIdleSlotsSpec)

/-- ITS FALSE NEIGHBOUR: 'it returns false'. Refute it at one input. -/
def fnExactIdleSlotsWrong : ChangeSpec := { name := "fnExactIdleSlots", fn := fun _ => fun
  | [d1, d2] => { results := [.lit (.bool false)], args := [d1, d2] }
  | _ => none }
def FnExactIdleSlotsWrongFalsely : Prop := fnExactIdleSlotsRow.holds Try.pinned (OpenSpec.ofChange fnExactIdleSlotsWrong)

/-- 'laws.FnExactTable': WHATEVER THE INPUT: true; the input reads as it did. -/
def fnExactTableSpec : ChangeSpec := { name := "fnExactTable", fn := fun _ => fun
  | [d] => { results := [.lit (.bool true)], args := [d] }
  | _ => none }
def fnExactTableRow : OpenClaim := { program := "ytfciajbahgjflaa", sum := "8d7a80ab6a5009585fabf608e1e6e9a12bef3489424f7b6e99a65972e5ddda83", func := "loop.example/deadlinescheduler/laws.FnExactTable", spec := "fnExactTable", unfollowed := true, recurses := true, apart := false }
def FnExactTableSaid : Prop := fnExactTableRow.holds Try.pinned (OpenSpec.ofChange fnExactTableSpec)

/-- ITS FALSE NEIGHBOUR: 'it returns false'. Refute it at one input. -/
def fnExactTableWrong : ChangeSpec := { name := "fnExactTable", fn := fun _ => fun
  | [d] => { results := [.lit (.bool false)], args := [d] }
  | _ => none }
def FnExactTableWrongFalsely : Prop := fnExactTableRow.holds Try.pinned (OpenSpec.ofChange fnExactTableWrong)

/-- 'laws.FnExactMinCores': WHATEVER THE INPUT: true; the input reads as it did. -/
def fnExactMinCoresSpec : ChangeSpec := { name := "fnExactMinCores", fn := fun _ => fun
  | [d] => { results := [.lit (.bool true)], args := [d] }
  | _ => none }
def fnExactMinCoresRow : OpenClaim := { program := "ytfciajbahgjflaa", sum := "8d7a80ab6a5009585fabf608e1e6e9a12bef3489424f7b6e99a65972e5ddda83", func := "loop.example/deadlinescheduler/laws.FnExactMinCores", spec := "fnExactMinCores", unfollowed := true, recurses := true, apart := false }
def FnExactMinCoresSaid : Prop := fnExactMinCoresRow.holds Try.pinned (OpenSpec.ofChange fnExactMinCoresSpec)

/-- ITS FALSE NEIGHBOUR: 'it returns false'. Refute it at one input. -/
def fnExactMinCoresWrong : ChangeSpec := { name := "fnExactMinCores", fn := fun _ => fun
  | [d] => { results := [.lit (.bool false)], args := [d] }
  | _ => none }
def FnExactMinCoresWrongFalsely : Prop := fnExactMinCoresRow.holds Try.pinned (OpenSpec.ofChange fnExactMinCoresWrong)

/-- 'laws.FnExactFirstFit': WHATEVER THE INPUT: true; the input reads as it did. -/
def fnExactFirstFitSpec : ChangeSpec := { name := "fnExactFirstFit", fn := fun _ => fun
  | [d1, d2] => { results := [.lit (.bool true)], args := [d1, d2] }
  | _ => none }
def fnExactFirstFitRow : OpenClaim := { program := "ytfciajbahgjflaa", sum := "8d7a80ab6a5009585fabf608e1e6e9a12bef3489424f7b6e99a65972e5ddda83", func := "loop.example/deadlinescheduler/laws.FnExactFirstFit", spec := "fnExactFirstFit", unfollowed := true, recurses := true, apart := false }
def FnExactFirstFitSaid : Prop := fnExactFirstFitRow.holds Try.pinned (OpenSpec.ofChange fnExactFirstFitSpec)

/-- ITS FALSE NEIGHBOUR: 'it returns false'. Refute it at one input. -/
def fnExactFirstFitWrong : ChangeSpec := { name := "fnExactFirstFit", fn := fun _ => fun
  | [d1, d2] => { results := [.lit (.bool false)], args := [d1, d2] }
  | _ => none }
def FnExactFirstFitWrongFalsely : Prop := fnExactFirstFitRow.holds Try.pinned (OpenSpec.ofChange fnExactFirstFitWrong)

/-- 'laws.FnExactPartition': WHATEVER THE INPUT: true; the input reads as it did. -/
def fnExactPartitionSpec : ChangeSpec := { name := "fnExactPartition", fn := fun _ => fun
  | [d1, d2] => { results := [.lit (.bool true)], args := [d1, d2] }
  | _ => none }
def fnExactPartitionRow : OpenClaim := { program := "ytfciajbahgjflaa", sum := "8d7a80ab6a5009585fabf608e1e6e9a12bef3489424f7b6e99a65972e5ddda83", func := "loop.example/deadlinescheduler/laws.FnExactPartition", spec := "fnExactPartition", unfollowed := true, recurses := true, apart := false }
def FnExactPartitionSaid : Prop := fnExactPartitionRow.holds Try.pinned (OpenSpec.ofChange fnExactPartitionSpec)

/-- ITS FALSE NEIGHBOUR: 'it returns false'. Refute it at one input. -/
def fnExactPartitionWrong : ChangeSpec := { name := "fnExactPartition", fn := fun _ => fun
  | [d1, d2] => { results := [.lit (.bool false)], args := [d1, d2] }
  | _ => none }
def FnExactPartitionWrongFalsely : Prop := fnExactPartitionRow.holds Try.pinned (OpenSpec.ofChange fnExactPartitionWrong)

/- THE SECOND FORM. 'bulk': how many values and letters a reading holds, each counted each time it is reached (what is shared counts as often as it is met; a slice's spare places count too). A statement '..UptoSaid' is the law's where the arguments, and the package variables that the reading takes, are together of bulk at most 1048576: NARROWER than '..Said'. Prove '..Said' where nothing that the law and all that it calls make is longer than what came in: it says more and counts as full. Else prove '..UptoSaid'. A law counts once. -/
mutual
def uptoBulk {H : Type} : DataW H → Nat
  | .lit (.string bytes) => bytes.length + 1
  | .lit _ => 1
  | .nil => 1
  | .ptr d => uptoBulk d + 1
  | .slice elems spare => uptoBulkAll elems + uptoBulkAll spare + 1
  | .agg parts => uptoBulkAll parts + 1
  | .iface _ d => uptoBulk d + 1
  | .map entries => uptoBulkEntries entries + 1
  | .held _ => 1
def uptoBulkAll {H : Type} : List (DataW H) → Nat
  | [] => 0
  | d :: r => uptoBulk d + uptoBulkAll r
def uptoBulkEntries {H : Type} : List (Lit × DataW H) → Nat
  | [] => 0
  | x :: r => uptoBulkEntry x + uptoBulkEntries r
def uptoBulkEntry {H : Type} : Lit × DataW H → Nat
  | (.string bytes, d) => bytes.length + uptoBulk d + 1
  | (_, d) => uptoBulk d + 1
 end
def uptoSmall : (H : Type) → List (DataW H) → Bool := fun _ ds => decide (uptoBulkAll ds ≤ 1048576)
def OpenSpec.upto (s : _root_.Go.ChangeSpec) : _root_.Go.OpenSpec := { _root_.Go.OpenSpec.ofChange s with cond := some uptoSmall }

/-- 'laws.FnExactMissed', WHERE WHAT IT READS IS OF BULK AT MOST 1048576: true; the input reads as it did. -/
def fnExactMissedUptoRow : OpenClaim := { program := "ytfciajbahgjflaa", sum := "8d7a80ab6a5009585fabf608e1e6e9a12bef3489424f7b6e99a65972e5ddda83", func := "loop.example/deadlinescheduler/laws.FnExactMissed", spec := "fnExactMissed", apart := false, narrowed := true }
def FnExactMissedUptoSaid : Prop := fnExactMissedUptoRow.holds Try.pinned (OpenSpec.upto fnExactMissedSpec)

/-- 'laws.FnFirstFitLoses', WHERE WHAT IT READS IS OF BULK AT MOST 1048576: true; the input reads as it did. -/
def fnFirstFitLosesUptoRow : OpenClaim := { program := "ytfciajbahgjflaa", sum := "8d7a80ab6a5009585fabf608e1e6e9a12bef3489424f7b6e99a65972e5ddda83", func := "loop.example/deadlinescheduler/laws.FnFirstFitLoses", spec := "fnFirstFitLoses", unfollowed := true, recurses := true, apart := false, narrowed := true }
def FnFirstFitLosesUptoSaid : Prop := fnFirstFitLosesUptoRow.holds Try.pinned (OpenSpec.upto fnFirstFitLosesSpec)

/-- 'laws.FnExactCoreTasks', WHERE WHAT IT READS IS OF BULK AT MOST 1048576: true; the input reads as it did. -/
def fnExactCoreTasksUptoRow : OpenClaim := { program := "ytfciajbahgjflaa", sum := "8d7a80ab6a5009585fabf608e1e6e9a12bef3489424f7b6e99a65972e5ddda83", func := "loop.example/deadlinescheduler/laws.FnExactCoreTasks", spec := "fnExactCoreTasks", unfollowed := true, recurses := true, apart := false, narrowed := true }
def FnExactCoreTasksUptoSaid : Prop := fnExactCoreTasksUptoRow.holds Try.pinned (OpenSpec.upto fnExactCoreTasksSpec)

/-- 'laws.FnExactTableValid', WHERE WHAT IT READS IS OF BULK AT MOST 1048576: true; the input reads as it did. -/
def fnExactTableValidUptoRow : OpenClaim := { program := "ytfciajbahgjflaa", sum := "8d7a80ab6a5009585fabf608e1e6e9a12bef3489424f7b6e99a65972e5ddda83", func := "loop.example/deadlinescheduler/laws.FnExactTableValid", spec := "fnExactTableValid", unfollowed := true, recurses := true, apart := false, narrowed := true }
def FnExactTableValidUptoSaid : Prop := fnExactTableValidUptoRow.holds Try.pinned (OpenSpec.upto fnExactTableValidSpec)

/-- 'laws.FnExactTableSlot', WHERE WHAT IT READS IS OF BULK AT MOST 1048576: true; the input reads as it did. -/
def fnExactTableSlotUptoRow : OpenClaim := { program := "ytfciajbahgjflaa", sum := "8d7a80ab6a5009585fabf608e1e6e9a12bef3489424f7b6e99a65972e5ddda83", func := "loop.example/deadlinescheduler/laws.FnExactTableSlot", spec := "fnExactTableSlot", unfollowed := true, recurses := true, apart := false, narrowed := true }
def FnExactTableSlotUptoSaid : Prop := fnExactTableSlotUptoRow.holds Try.pinned (OpenSpec.upto fnExactTableSlotSpec)

/-- 'laws.FnExactGlobalMissed', WHERE WHAT IT READS IS OF BULK AT MOST 1048576: true; the input reads as it did. -/
def fnExactGlobalMissedUptoRow : OpenClaim := { program := "ytfciajbahgjflaa", sum := "8d7a80ab6a5009585fabf608e1e6e9a12bef3489424f7b6e99a65972e5ddda83", func := "loop.example/deadlinescheduler/laws.FnExactGlobalMissed", spec := "fnExactGlobalMissed", apart := false, narrowed := true }
def FnExactGlobalMissedUptoSaid : Prop := fnExactGlobalMissedUptoRow.holds Try.pinned (OpenSpec.upto fnExactGlobalMissedSpec)

/-- 'laws.FnExactAssignmentFeasible', WHERE WHAT IT READS IS OF BULK AT MOST 1048576: true; the input reads as it did. -/
def fnExactAssignmentFeasibleUptoRow : OpenClaim := { program := "ytfciajbahgjflaa", sum := "8d7a80ab6a5009585fabf608e1e6e9a12bef3489424f7b6e99a65972e5ddda83", func := "loop.example/deadlinescheduler/laws.FnExactAssignmentFeasible", spec := "fnExactAssignmentFeasible", unfollowed := true, recurses := true, apart := false, narrowed := true }
def FnExactAssignmentFeasibleUptoSaid : Prop := fnExactAssignmentFeasibleUptoRow.holds Try.pinned (OpenSpec.upto fnExactAssignmentFeasibleSpec)

/-- 'laws.FnExactIdleSlots', WHERE WHAT IT READS IS OF BULK AT MOST 1048576: true; the input reads as it did. -/
def fnExactIdleSlotsUptoRow : OpenClaim := { program := "ytfciajbahgjflaa", sum := "8d7a80ab6a5009585fabf608e1e6e9a12bef3489424f7b6e99a65972e5ddda83", func := "loop.example/deadlinescheduler/laws.FnExactIdleSlots", spec := "fnExactIdleSlots", unfollowed := true, recurses := true, apart := false, narrowed := true }
def FnExactIdleSlotsUptoSaid : Prop := fnExactIdleSlotsUptoRow.holds Try.pinned (OpenSpec.upto fnExactIdleSlotsSpec)

/-- 'laws.FnExactTable', WHERE WHAT IT READS IS OF BULK AT MOST 1048576: true; the input reads as it did. -/
def fnExactTableUptoRow : OpenClaim := { program := "ytfciajbahgjflaa", sum := "8d7a80ab6a5009585fabf608e1e6e9a12bef3489424f7b6e99a65972e5ddda83", func := "loop.example/deadlinescheduler/laws.FnExactTable", spec := "fnExactTable", unfollowed := true, recurses := true, apart := false, narrowed := true }
def FnExactTableUptoSaid : Prop := fnExactTableUptoRow.holds Try.pinned (OpenSpec.upto fnExactTableSpec)

/-- 'laws.FnExactMinCores', WHERE WHAT IT READS IS OF BULK AT MOST 1048576: true; the input reads as it did. -/
def fnExactMinCoresUptoRow : OpenClaim := { program := "ytfciajbahgjflaa", sum := "8d7a80ab6a5009585fabf608e1e6e9a12bef3489424f7b6e99a65972e5ddda83", func := "loop.example/deadlinescheduler/laws.FnExactMinCores", spec := "fnExactMinCores", unfollowed := true, recurses := true, apart := false, narrowed := true }
def FnExactMinCoresUptoSaid : Prop := fnExactMinCoresUptoRow.holds Try.pinned (OpenSpec.upto fnExactMinCoresSpec)

/-- 'laws.FnExactFirstFit', WHERE WHAT IT READS IS OF BULK AT MOST 1048576: true; the input reads as it did. -/
def fnExactFirstFitUptoRow : OpenClaim := { program := "ytfciajbahgjflaa", sum := "8d7a80ab6a5009585fabf608e1e6e9a12bef3489424f7b6e99a65972e5ddda83", func := "loop.example/deadlinescheduler/laws.FnExactFirstFit", spec := "fnExactFirstFit", unfollowed := true, recurses := true, apart := false, narrowed := true }
def FnExactFirstFitUptoSaid : Prop := fnExactFirstFitUptoRow.holds Try.pinned (OpenSpec.upto fnExactFirstFitSpec)

/-- 'laws.FnExactPartition', WHERE WHAT IT READS IS OF BULK AT MOST 1048576: true; the input reads as it did. -/
def fnExactPartitionUptoRow : OpenClaim := { program := "ytfciajbahgjflaa", sum := "8d7a80ab6a5009585fabf608e1e6e9a12bef3489424f7b6e99a65972e5ddda83", func := "loop.example/deadlinescheduler/laws.FnExactPartition", spec := "fnExactPartition", unfollowed := true, recurses := true, apart := false, narrowed := true }
def FnExactPartitionUptoSaid : Prop := fnExactPartitionUptoRow.holds Try.pinned (OpenSpec.upto fnExactPartitionSpec)

end Rows
end Go.Proofs.Ytfciajbahgjflaa
