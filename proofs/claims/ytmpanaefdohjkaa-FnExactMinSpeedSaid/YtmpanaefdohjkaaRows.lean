/-
  No cell of these rows narrows 'for every input' (looked for: loops, veiled, ifaces, maps, wideKeys, modest, calm, conditions, laid).
  DERIVED. THE GIVEN ROWS OF THIS SEAT. 12 by the template 'for every input the law returns true; each argument reads behind the call as it read before'; 0 by the template 'total and deterministic' (their statements: YtmpanaefdohjkaaTotals.lean).
  GIVEN WITH THE SEED: the statements are not yours to turn. If you find one false, say at which input.
  Laid BY PROGRAM, IN A SANDBOX (cutbox-rows.mjs): the forced cells as the released guide's own fill.sh prints them over the translation fd76fe71ec55a0b9… (all of the seat's roots in one cut). By AI agents, Wed Nov 11 2026. No macro, syntax, notation, axiom, sorry.
-/
import Derived.Test.YtmpanaefdohjkaaChecked
import GoSem.Claim
import GoSem.ClaimJoined
import GoSem.ClaimMapViews
import Derived.JoinedTies
import Derived.KernelRfl
namespace Go.Proofs.Ytmpanaefdohjkaa
/- THE CELL 'sum', in the pinned program and in every row, IS THE sha256 OF THE DUMP (.gsa) THAT YtmpanaefdohjkaaProg.lean LOADS. Nothing in Lean hashes anything: it is a label: what it is worth is what the hold of that sum in a sandbox is worth. -/
noncomputable def Try.pinned : Pinned := { name := "ytmpanaefdohjkaa", sum := "fd76fe71ec55a0b9b377ea4738c13113a04af9297b9afb1d42f932dd2f4bf4fe", checked := Try.checked }
namespace Rows
def none {H : Type} : Left H := { results := [], args := [] }

/-- 'laws.FnExactConstants': WHATEVER THE INPUT: true; the input reads as it did. -/
def fnExactConstantsSpec : ChangeSpec := { name := "fnExactConstants", fn := fun _ => fun
  | [] => { results := [.lit (.bool true)], args := [] }
  | _ => none }
def fnExactConstantsRow : OpenClaim := { program := "ytmpanaefdohjkaa", sum := "fd76fe71ec55a0b9b377ea4738c13113a04af9297b9afb1d42f932dd2f4bf4fe", func := "loop.example/deadlinescheduler/laws.FnExactConstants", spec := "fnExactConstants", apart := false }
def FnExactConstantsSaid : Prop := fnExactConstantsRow.holds Try.pinned (OpenSpec.ofChange fnExactConstantsSpec)

/-- ITS FALSE NEIGHBOUR: 'it returns false'. Refute it at one input. -/
def fnExactConstantsWrong : ChangeSpec := { name := "fnExactConstants", fn := fun _ => fun
  | [] => { results := [.lit (.bool false)], args := [] }
  | _ => none }
def FnExactConstantsWrongFalsely : Prop := fnExactConstantsRow.holds Try.pinned (OpenSpec.ofChange fnExactConstantsWrong)

/-- 'laws.FnExactTaskValid': WHATEVER THE INPUT: true; the input reads as it did. -/
def fnExactTaskValidSpec : ChangeSpec := { name := "fnExactTaskValid", fn := fun _ => fun
  | [d] => { results := [.lit (.bool true)], args := [d] }
  | _ => none }
def fnExactTaskValidRow : OpenClaim := { program := "ytmpanaefdohjkaa", sum := "fd76fe71ec55a0b9b377ea4738c13113a04af9297b9afb1d42f932dd2f4bf4fe", func := "loop.example/deadlinescheduler/laws.FnExactTaskValid", spec := "fnExactTaskValid", apart := false }
def FnExactTaskValidSaid : Prop := fnExactTaskValidRow.holds Try.pinned (OpenSpec.ofChange fnExactTaskValidSpec)

/-- ITS FALSE NEIGHBOUR: 'it returns false'. Refute it at one input. -/
def fnExactTaskValidWrong : ChangeSpec := { name := "fnExactTaskValid", fn := fun _ => fun
  | [d] => { results := [.lit (.bool false)], args := [d] }
  | _ => none }
def FnExactTaskValidWrongFalsely : Prop := fnExactTaskValidRow.holds Try.pinned (OpenSpec.ofChange fnExactTaskValidWrong)

/-- 'laws.FnExactSetValid': WHATEVER THE INPUT: true; the input reads as it did. -/
def fnExactSetValidSpec : ChangeSpec := { name := "fnExactSetValid", fn := fun _ => fun
  | [d] => { results := [.lit (.bool true)], args := [d] }
  | _ => none }
def fnExactSetValidRow : OpenClaim := { program := "ytmpanaefdohjkaa", sum := "fd76fe71ec55a0b9b377ea4738c13113a04af9297b9afb1d42f932dd2f4bf4fe", func := "loop.example/deadlinescheduler/laws.FnExactSetValid", spec := "fnExactSetValid", unfollowed := true, recurses := true, apart := false }
def FnExactSetValidSaid : Prop := fnExactSetValidRow.holds Try.pinned (OpenSpec.ofChange fnExactSetValidSpec)

/-- ITS FALSE NEIGHBOUR: 'it returns false'. Refute it at one input. -/
def fnExactSetValidWrong : ChangeSpec := { name := "fnExactSetValid", fn := fun _ => fun
  | [d] => { results := [.lit (.bool false)], args := [d] }
  | _ => none }
def FnExactSetValidWrongFalsely : Prop := fnExactSetValidRow.holds Try.pinned (OpenSpec.ofChange fnExactSetValidWrong)

/-- 'laws.FnExactHyperperiod': WHATEVER THE INPUT: true; the input reads as it did. -/
def fnExactHyperperiodSpec : ChangeSpec := { name := "fnExactHyperperiod", fn := fun _ => fun
  | [d] => { results := [.lit (.bool true)], args := [d] }
  | _ => none }
def fnExactHyperperiodRow : OpenClaim := { program := "ytmpanaefdohjkaa", sum := "fd76fe71ec55a0b9b377ea4738c13113a04af9297b9afb1d42f932dd2f4bf4fe", func := "loop.example/deadlinescheduler/laws.FnExactHyperperiod", spec := "fnExactHyperperiod", unfollowed := true, recurses := true, apart := false }
def FnExactHyperperiodSaid : Prop := fnExactHyperperiodRow.holds Try.pinned (OpenSpec.ofChange fnExactHyperperiodSpec)

/-- ITS FALSE NEIGHBOUR: 'it returns false'. Refute it at one input. -/
def fnExactHyperperiodWrong : ChangeSpec := { name := "fnExactHyperperiod", fn := fun _ => fun
  | [d] => { results := [.lit (.bool false)], args := [d] }
  | _ => none }
def FnExactHyperperiodWrongFalsely : Prop := fnExactHyperperiodRow.holds Try.pinned (OpenSpec.ofChange fnExactHyperperiodWrong)

/-- 'laws.FnExactDemand': WHATEVER THE INPUT: true; the input reads as it did. -/
def fnExactDemandSpec : ChangeSpec := { name := "fnExactDemand", fn := fun _ => fun
  | [d1, d2] => { results := [.lit (.bool true)], args := [d1, d2] }
  | _ => none }
def fnExactDemandRow : OpenClaim := { program := "ytmpanaefdohjkaa", sum := "fd76fe71ec55a0b9b377ea4738c13113a04af9297b9afb1d42f932dd2f4bf4fe", func := "loop.example/deadlinescheduler/laws.FnExactDemand", spec := "fnExactDemand", unfollowed := true, recurses := true, apart := false }
def FnExactDemandSaid : Prop := fnExactDemandRow.holds Try.pinned (OpenSpec.ofChange fnExactDemandSpec)

/-- ITS FALSE NEIGHBOUR: 'it returns false'. Refute it at one input. -/
def fnExactDemandWrong : ChangeSpec := { name := "fnExactDemand", fn := fun _ => fun
  | [d1, d2] => { results := [.lit (.bool false)], args := [d1, d2] }
  | _ => none }
def FnExactDemandWrongFalsely : Prop := fnExactDemandRow.holds Try.pinned (OpenSpec.ofChange fnExactDemandWrong)

/-- 'laws.FnExactLastDeadline': WHATEVER THE INPUT: true; the input reads as it did. -/
def fnExactLastDeadlineSpec : ChangeSpec := { name := "fnExactLastDeadline", fn := fun _ => fun
  | [d1, d2] => { results := [.lit (.bool true)], args := [d1, d2] }
  | _ => none }
def fnExactLastDeadlineRow : OpenClaim := { program := "ytmpanaefdohjkaa", sum := "fd76fe71ec55a0b9b377ea4738c13113a04af9297b9afb1d42f932dd2f4bf4fe", func := "loop.example/deadlinescheduler/laws.FnExactLastDeadline", spec := "fnExactLastDeadline", unfollowed := true, recurses := true, apart := false }
def FnExactLastDeadlineSaid : Prop := fnExactLastDeadlineRow.holds Try.pinned (OpenSpec.ofChange fnExactLastDeadlineSpec)

/-- ITS FALSE NEIGHBOUR: 'it returns false'. Refute it at one input. -/
def fnExactLastDeadlineWrong : ChangeSpec := { name := "fnExactLastDeadline", fn := fun _ => fun
  | [d1, d2] => { results := [.lit (.bool false)], args := [d1, d2] }
  | _ => none }
def FnExactLastDeadlineWrongFalsely : Prop := fnExactLastDeadlineRow.holds Try.pinned (OpenSpec.ofChange fnExactLastDeadlineWrong)

/-- 'laws.FnExactUtilization': WHATEVER THE INPUT: true; the input reads as it did. -/
def fnExactUtilizationSpec : ChangeSpec := { name := "fnExactUtilization", fn := fun _ => fun
  | [d] => { results := [.lit (.bool true)], args := [d] }
  | _ => none }
def fnExactUtilizationRow : OpenClaim := { program := "ytmpanaefdohjkaa", sum := "fd76fe71ec55a0b9b377ea4738c13113a04af9297b9afb1d42f932dd2f4bf4fe", func := "loop.example/deadlinescheduler/laws.FnExactUtilization", spec := "fnExactUtilization", unfollowed := true, recurses := true, apart := false }
def FnExactUtilizationSaid : Prop := fnExactUtilizationRow.holds Try.pinned (OpenSpec.ofChange fnExactUtilizationSpec)

/-- ITS FALSE NEIGHBOUR: 'it returns false'. Refute it at one input. -/
def fnExactUtilizationWrong : ChangeSpec := { name := "fnExactUtilization", fn := fun _ => fun
  | [d] => { results := [.lit (.bool false)], args := [d] }
  | _ => none }
def FnExactUtilizationWrongFalsely : Prop := fnExactUtilizationRow.holds Try.pinned (OpenSpec.ofChange fnExactUtilizationWrong)

/-- 'laws.FnExactSpeedFeasible': WHATEVER THE INPUT: true; the input reads as it did. -/
def fnExactSpeedFeasibleSpec : ChangeSpec := { name := "fnExactSpeedFeasible", fn := fun _ => fun
  | [d1, d2, d3] => { results := [.lit (.bool true)], args := [d1, d2, d3] }
  | _ => none }
def fnExactSpeedFeasibleRow : OpenClaim := { program := "ytmpanaefdohjkaa", sum := "fd76fe71ec55a0b9b377ea4738c13113a04af9297b9afb1d42f932dd2f4bf4fe", func := "loop.example/deadlinescheduler/laws.FnExactSpeedFeasible", spec := "fnExactSpeedFeasible", unfollowed := true, recurses := true, apart := false }
def FnExactSpeedFeasibleSaid : Prop := fnExactSpeedFeasibleRow.holds Try.pinned (OpenSpec.ofChange fnExactSpeedFeasibleSpec)

/-- ITS FALSE NEIGHBOUR: 'it returns false'. Refute it at one input. -/
def fnExactSpeedFeasibleWrong : ChangeSpec := { name := "fnExactSpeedFeasible", fn := fun _ => fun
  | [d1, d2, d3] => { results := [.lit (.bool false)], args := [d1, d2, d3] }
  | _ => none }
def FnExactSpeedFeasibleWrongFalsely : Prop := fnExactSpeedFeasibleRow.holds Try.pinned (OpenSpec.ofChange fnExactSpeedFeasibleWrong)

/-- 'laws.FnExactFirstOverload': WHATEVER THE INPUT: true; the input reads as it did. -/
def fnExactFirstOverloadSpec : ChangeSpec := { name := "fnExactFirstOverload", fn := fun _ => fun
  | [d] => { results := [.lit (.bool true)], args := [d] }
  | _ => none }
def fnExactFirstOverloadRow : OpenClaim := { program := "ytmpanaefdohjkaa", sum := "fd76fe71ec55a0b9b377ea4738c13113a04af9297b9afb1d42f932dd2f4bf4fe", func := "loop.example/deadlinescheduler/laws.FnExactFirstOverload", spec := "fnExactFirstOverload", unfollowed := true, recurses := true, apart := false }
def FnExactFirstOverloadSaid : Prop := fnExactFirstOverloadRow.holds Try.pinned (OpenSpec.ofChange fnExactFirstOverloadSpec)

/-- ITS FALSE NEIGHBOUR: 'it returns false'. Refute it at one input. -/
def fnExactFirstOverloadWrong : ChangeSpec := { name := "fnExactFirstOverload", fn := fun _ => fun
  | [d] => { results := [.lit (.bool false)], args := [d] }
  | _ => none }
def FnExactFirstOverloadWrongFalsely : Prop := fnExactFirstOverloadRow.holds Try.pinned (OpenSpec.ofChange fnExactFirstOverloadWrong)

/-- 'laws.FnExactEdfFeasible': WHATEVER THE INPUT: true; the input reads as it did. -/
def fnExactEdfFeasibleSpec : ChangeSpec := { name := "fnExactEdfFeasible", fn := fun _ => fun
  | [d] => { results := [.lit (.bool true)], args := [d] }
  | _ => none }
def fnExactEdfFeasibleRow : OpenClaim := { program := "ytmpanaefdohjkaa", sum := "fd76fe71ec55a0b9b377ea4738c13113a04af9297b9afb1d42f932dd2f4bf4fe", func := "loop.example/deadlinescheduler/laws.FnExactEdfFeasible", spec := "fnExactEdfFeasible", unfollowed := true, recurses := true, apart := false }
def FnExactEdfFeasibleSaid : Prop := fnExactEdfFeasibleRow.holds Try.pinned (OpenSpec.ofChange fnExactEdfFeasibleSpec)

/-- ITS FALSE NEIGHBOUR: 'it returns false'. Refute it at one input. -/
def fnExactEdfFeasibleWrong : ChangeSpec := { name := "fnExactEdfFeasible", fn := fun _ => fun
  | [d] => { results := [.lit (.bool false)], args := [d] }
  | _ => none }
def FnExactEdfFeasibleWrongFalsely : Prop := fnExactEdfFeasibleRow.holds Try.pinned (OpenSpec.ofChange fnExactEdfFeasibleWrong)

/-- 'laws.FnExactBusyPeriod': WHATEVER THE INPUT: true; the input reads as it did. -/
def fnExactBusyPeriodSpec : ChangeSpec := { name := "fnExactBusyPeriod", fn := fun _ => fun
  | [d] => { results := [.lit (.bool true)], args := [d] }
  | _ => none }
def fnExactBusyPeriodRow : OpenClaim := { program := "ytmpanaefdohjkaa", sum := "fd76fe71ec55a0b9b377ea4738c13113a04af9297b9afb1d42f932dd2f4bf4fe", func := "loop.example/deadlinescheduler/laws.FnExactBusyPeriod", spec := "fnExactBusyPeriod", unfollowed := true, recurses := true, apart := false }
def FnExactBusyPeriodSaid : Prop := fnExactBusyPeriodRow.holds Try.pinned (OpenSpec.ofChange fnExactBusyPeriodSpec)

/-- ITS FALSE NEIGHBOUR: 'it returns false'. Refute it at one input. -/
def fnExactBusyPeriodWrong : ChangeSpec := { name := "fnExactBusyPeriod", fn := fun _ => fun
  | [d] => { results := [.lit (.bool false)], args := [d] }
  | _ => none }
def FnExactBusyPeriodWrongFalsely : Prop := fnExactBusyPeriodRow.holds Try.pinned (OpenSpec.ofChange fnExactBusyPeriodWrong)

/-- 'laws.FnExactMinSpeed': WHATEVER THE INPUT: true; the input reads as it did. -/
def fnExactMinSpeedSpec : ChangeSpec := { name := "fnExactMinSpeed", fn := fun _ => fun
  | [d] => { results := [.lit (.bool true)], args := [d] }
  | _ => none }
def fnExactMinSpeedRow : OpenClaim := { program := "ytmpanaefdohjkaa", sum := "fd76fe71ec55a0b9b377ea4738c13113a04af9297b9afb1d42f932dd2f4bf4fe", func := "loop.example/deadlinescheduler/laws.FnExactMinSpeed", spec := "fnExactMinSpeed", unfollowed := true, recurses := true, apart := false }
def FnExactMinSpeedSaid : Prop := fnExactMinSpeedRow.holds Try.pinned (OpenSpec.ofChange fnExactMinSpeedSpec)

/-- ITS FALSE NEIGHBOUR: 'it returns false'. Refute it at one input. -/
def fnExactMinSpeedWrong : ChangeSpec := { name := "fnExactMinSpeed", fn := fun _ => fun
  | [d] => { results := [.lit (.bool false)], args := [d] }
  | _ => none }
def FnExactMinSpeedWrongFalsely : Prop := fnExactMinSpeedRow.holds Try.pinned (OpenSpec.ofChange fnExactMinSpeedWrong)

/- THE SECOND FORM. 'bulk': how many values and letters a reading holds, each counted each time it is reached (what is shared counts as often as it is met; a slice's spare places count too). A statement '..UptoSaid' is the law's where the arguments, and the package variables that the reading takes, are together of bulk at most 1048576: NARROWER than '..Said'. Prove '..Said' where nothing that the law and all that it calls make is longer than what came in: it says more and counts as full. Else prove '..UptoSaid'. A law counts once. -/
mutual
def uptoBulk {H : Type} : DataW H → Nat
  | .lit (.string bytes) => bytes.length + 1
  | .lit _ => 1
  | .nil => 1
  | .ptr d => uptoBulk d + 1
  | .slice elems spare => uptoBulkAll elems + uptoBulkAll spare + 1
  | .agg parts => uptoBulkAll parts + 1
  | .iface _ d => uptoBulk d + 1
  | .map entries => uptoBulkEntries entries + 1
  | .held _ => 1
def uptoBulkAll {H : Type} : List (DataW H) → Nat
  | [] => 0
  | d :: r => uptoBulk d + uptoBulkAll r
def uptoBulkEntries {H : Type} : List (Lit × DataW H) → Nat
  | [] => 0
  | x :: r => uptoBulkEntry x + uptoBulkEntries r
def uptoBulkEntry {H : Type} : Lit × DataW H → Nat
  | (.string bytes, d) => bytes.length + uptoBulk d + 1
  | (_, d) => uptoBulk d + 1
 end
def uptoSmall : (H : Type) → List (DataW H) → Bool := fun _ ds => decide (uptoBulkAll ds ≤ 1048576)
def OpenSpec.upto (s : _root_.Go.ChangeSpec) : _root_.Go.OpenSpec := { _root_.Go.OpenSpec.ofChange s with cond := some uptoSmall }

/-- 'laws.FnExactConstants', WHERE WHAT IT READS IS OF BULK AT MOST 1048576: true; the input reads as it did. -/
def fnExactConstantsUptoRow : OpenClaim := { program := "ytmpanaefdohjkaa", sum := "fd76fe71ec55a0b9b377ea4738c13113a04af9297b9afb1d42f932dd2f4bf4fe", func := "loop.example/deadlinescheduler/laws.FnExactConstants", spec := "fnExactConstants", apart := false, narrowed := true }
def FnExactConstantsUptoSaid : Prop := fnExactConstantsUptoRow.holds Try.pinned (OpenSpec.upto fnExactConstantsSpec)

/-- 'laws.FnExactTaskValid', WHERE WHAT IT READS IS OF BULK AT MOST 1048576: true; the input reads as it did. -/
def fnExactTaskValidUptoRow : OpenClaim := { program := "ytmpanaefdohjkaa", sum := "fd76fe71ec55a0b9b377ea4738c13113a04af9297b9afb1d42f932dd2f4bf4fe", func := "loop.example/deadlinescheduler/laws.FnExactTaskValid", spec := "fnExactTaskValid", apart := false, narrowed := true }
def FnExactTaskValidUptoSaid : Prop := fnExactTaskValidUptoRow.holds Try.pinned (OpenSpec.upto fnExactTaskValidSpec)

/-- 'laws.FnExactSetValid', WHERE WHAT IT READS IS OF BULK AT MOST 1048576: true; the input reads as it did. -/
def fnExactSetValidUptoRow : OpenClaim := { program := "ytmpanaefdohjkaa", sum := "fd76fe71ec55a0b9b377ea4738c13113a04af9297b9afb1d42f932dd2f4bf4fe", func := "loop.example/deadlinescheduler/laws.FnExactSetValid", spec := "fnExactSetValid", unfollowed := true, recurses := true, apart := false, narrowed := true }
def FnExactSetValidUptoSaid : Prop := fnExactSetValidUptoRow.holds Try.pinned (OpenSpec.upto fnExactSetValidSpec)

/-- 'laws.FnExactHyperperiod', WHERE WHAT IT READS IS OF BULK AT MOST 1048576: true; the input reads as it did. -/
def fnExactHyperperiodUptoRow : OpenClaim := { program := "ytmpanaefdohjkaa", sum := "fd76fe71ec55a0b9b377ea4738c13113a04af9297b9afb1d42f932dd2f4bf4fe", func := "loop.example/deadlinescheduler/laws.FnExactHyperperiod", spec := "fnExactHyperperiod", unfollowed := true, recurses := true, apart := false, narrowed := true }
def FnExactHyperperiodUptoSaid : Prop := fnExactHyperperiodUptoRow.holds Try.pinned (OpenSpec.upto fnExactHyperperiodSpec)

/-- 'laws.FnExactDemand', WHERE WHAT IT READS IS OF BULK AT MOST 1048576: true; the input reads as it did. -/
def fnExactDemandUptoRow : OpenClaim := { program := "ytmpanaefdohjkaa", sum := "fd76fe71ec55a0b9b377ea4738c13113a04af9297b9afb1d42f932dd2f4bf4fe", func := "loop.example/deadlinescheduler/laws.FnExactDemand", spec := "fnExactDemand", unfollowed := true, recurses := true, apart := false, narrowed := true }
def FnExactDemandUptoSaid : Prop := fnExactDemandUptoRow.holds Try.pinned (OpenSpec.upto fnExactDemandSpec)

/-- 'laws.FnExactLastDeadline', WHERE WHAT IT READS IS OF BULK AT MOST 1048576: true; the input reads as it did. -/
def fnExactLastDeadlineUptoRow : OpenClaim := { program := "ytmpanaefdohjkaa", sum := "fd76fe71ec55a0b9b377ea4738c13113a04af9297b9afb1d42f932dd2f4bf4fe", func := "loop.example/deadlinescheduler/laws.FnExactLastDeadline", spec := "fnExactLastDeadline", unfollowed := true, recurses := true, apart := false, narrowed := true }
def FnExactLastDeadlineUptoSaid : Prop := fnExactLastDeadlineUptoRow.holds Try.pinned (OpenSpec.upto fnExactLastDeadlineSpec)

/-- 'laws.FnExactUtilization', WHERE WHAT IT READS IS OF BULK AT MOST 1048576: true; the input reads as it did. -/
def fnExactUtilizationUptoRow : OpenClaim := { program := "ytmpanaefdohjkaa", sum := "fd76fe71ec55a0b9b377ea4738c13113a04af9297b9afb1d42f932dd2f4bf4fe", func := "loop.example/deadlinescheduler/laws.FnExactUtilization", spec := "fnExactUtilization", unfollowed := true, recurses := true, apart := false, narrowed := true }
def FnExactUtilizationUptoSaid : Prop := fnExactUtilizationUptoRow.holds Try.pinned (OpenSpec.upto fnExactUtilizationSpec)

/-- 'laws.FnExactSpeedFeasible', WHERE WHAT IT READS IS OF BULK AT MOST 1048576: true; the input reads as it did. -/
def fnExactSpeedFeasibleUptoRow : OpenClaim := { program := "ytmpanaefdohjkaa", sum := "fd76fe71ec55a0b9b377ea4738c13113a04af9297b9afb1d42f932dd2f4bf4fe", func := "loop.example/deadlinescheduler/laws.FnExactSpeedFeasible", spec := "fnExactSpeedFeasible", unfollowed := true, recurses := true, apart := false, narrowed := true }
def FnExactSpeedFeasibleUptoSaid : Prop := fnExactSpeedFeasibleUptoRow.holds Try.pinned (OpenSpec.upto fnExactSpeedFeasibleSpec)

/-- 'laws.FnExactFirstOverload', WHERE WHAT IT READS IS OF BULK AT MOST 1048576: true; the input reads as it did. -/
def fnExactFirstOverloadUptoRow : OpenClaim := { program := "ytmpanaefdohjkaa", sum := "fd76fe71ec55a0b9b377ea4738c13113a04af9297b9afb1d42f932dd2f4bf4fe", func := "loop.example/deadlinescheduler/laws.FnExactFirstOverload", spec := "fnExactFirstOverload", unfollowed := true, recurses := true, apart := false, narrowed := true }
def FnExactFirstOverloadUptoSaid : Prop := fnExactFirstOverloadUptoRow.holds Try.pinned (OpenSpec.upto fnExactFirstOverloadSpec)

/-- 'laws.FnExactEdfFeasible', WHERE WHAT IT READS IS OF BULK AT MOST 1048576: true; the input reads as it did. -/
def fnExactEdfFeasibleUptoRow : OpenClaim := { program := "ytmpanaefdohjkaa", sum := "fd76fe71ec55a0b9b377ea4738c13113a04af9297b9afb1d42f932dd2f4bf4fe", func := "loop.example/deadlinescheduler/laws.FnExactEdfFeasible", spec := "fnExactEdfFeasible", unfollowed := true, recurses := true, apart := false, narrowed := true }
def FnExactEdfFeasibleUptoSaid : Prop := fnExactEdfFeasibleUptoRow.holds Try.pinned (OpenSpec.upto fnExactEdfFeasibleSpec)

/-- 'laws.FnExactBusyPeriod', WHERE WHAT IT READS IS OF BULK AT MOST 1048576: true; the input reads as it did. -/
def fnExactBusyPeriodUptoRow : OpenClaim := { program := "ytmpanaefdohjkaa", sum := "fd76fe71ec55a0b9b377ea4738c13113a04af9297b9afb1d42f932dd2f4bf4fe", func := "loop.example/deadlinescheduler/laws.FnExactBusyPeriod", spec := "fnExactBusyPeriod", unfollowed := true, recurses := true, apart := false, narrowed := true }
def FnExactBusyPeriodUptoSaid : Prop := fnExactBusyPeriodUptoRow.holds Try.pinned (OpenSpec.upto fnExactBusyPeriodSpec)

/-- 'laws.FnExactMinSpeed', WHERE WHAT IT READS IS OF BULK AT MOST 1048576: true; the input reads as it did. -/
def fnExactMinSpeedUptoRow : OpenClaim := { program := "ytmpanaefdohjkaa", sum := "fd76fe71ec55a0b9b377ea4738c13113a04af9297b9afb1d42f932dd2f4bf4fe", func := "loop.example/deadlinescheduler/laws.FnExactMinSpeed", spec := "fnExactMinSpeed", unfollowed := true, recurses := true, apart := false, narrowed := true }
def FnExactMinSpeedUptoSaid : Prop := fnExactMinSpeedUptoRow.holds Try.pinned (OpenSpec.upto fnExactMinSpeedSpec)

end Rows
end Go.Proofs.Ytmpanaefdohjkaa
