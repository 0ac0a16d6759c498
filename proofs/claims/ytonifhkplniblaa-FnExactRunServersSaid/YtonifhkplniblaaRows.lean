/-
  No cell of these rows narrows 'for every input' (looked for: loops, veiled, ifaces, maps, wideKeys, modest, calm, conditions, laid).
  DERIVED. THE GIVEN ROWS OF THIS SEAT. 10 by the template 'for every input the law returns true; each argument reads behind the call as it read before'; 0 by the template 'total and deterministic' (their statements: YtonifhkplniblaaTotals.lean).
  GIVEN WITH THE SEED: the statements are not yours to turn. If you find one false, say at which input.
  Laid BY PROGRAM, IN A SANDBOX (cutbox-rows.mjs): the forced cells as the released guide's own fill.sh prints them over the translation 47a868dcc9c66bf1… (all of the seat's roots in one cut). By AI agents, Wed Nov 11 2026. No macro, syntax, notation, axiom, sorry.
-/
import Derived.Test.YtonifhkplniblaaChecked
import GoSem.Claim
import GoSem.ClaimJoined
import GoSem.ClaimMapViews
import Derived.JoinedTies
import Derived.KernelRfl
namespace Go.Proofs.Ytonifhkplniblaa
/- THE CELL 'sum', in the pinned program and in every row, IS THE sha256 OF THE DUMP (.gsa) THAT YtonifhkplniblaaProg.lean LOADS. Nothing in Lean hashes anything: it is a label: what it is worth is what the hold of that sum in a sandbox is worth. -/
noncomputable def Try.pinned : Pinned := { name := "ytonifhkplniblaa", sum := "47a868dcc9c66bf14c2defe1faa68eb717b8a4ddadbf8b214265b9c5edcc2137", checked := Try.checked }
namespace Rows
def none {H : Type} : Left H := { results := [], args := [] }

/-- 'laws.FnExactRunServers': WHATEVER THE INPUT: true; the input reads as it did. -/
def fnExactRunServersSpec : ChangeSpec := { name := "fnExactRunServers", fn := fun _ => fun
  | [d1, d2, d3, d4] => { results := [.lit (.bool true)], args := [d1, d2, d3, d4] }
  | _ => none }
def fnExactRunServersRow : OpenClaim := { program := "ytonifhkplniblaa", sum := "47a868dcc9c66bf14c2defe1faa68eb717b8a4ddadbf8b214265b9c5edcc2137", func := "loop.example/deadlinescheduler/laws.FnExactRunServers", spec := "fnExactRunServers", unfollowed := true, recurses := true, apart := false }
def FnExactRunServersSaid : Prop := fnExactRunServersRow.holds Try.pinned (OpenSpec.ofChange fnExactRunServersSpec)

/-- ITS FALSE NEIGHBOUR: 'it returns false'. Refute it at one input. -/
def fnExactRunServersWrong : ChangeSpec := { name := "fnExactRunServers", fn := fun _ => fun
  | [d1, d2, d3, d4] => { results := [.lit (.bool false)], args := [d1, d2, d3, d4] }
  | _ => none }
def FnExactRunServersWrongFalsely : Prop := fnExactRunServersRow.holds Try.pinned (OpenSpec.ofChange fnExactRunServersWrong)

/-- 'laws.FnExactJobsLegal': WHATEVER THE INPUT: true; the input reads as it did. -/
def fnExactJobsLegalSpec : ChangeSpec := { name := "fnExactJobsLegal", fn := fun _ => fun
  | [d1, d2] => { results := [.lit (.bool true)], args := [d1, d2] }
  | _ => none }
def fnExactJobsLegalRow : OpenClaim := { program := "ytonifhkplniblaa", sum := "47a868dcc9c66bf14c2defe1faa68eb717b8a4ddadbf8b214265b9c5edcc2137", func := "loop.example/deadlinescheduler/laws.FnExactJobsLegal", spec := "fnExactJobsLegal", unfollowed := true, recurses := true, apart := false }
def FnExactJobsLegalSaid : Prop := fnExactJobsLegalRow.holds Try.pinned (OpenSpec.ofChange fnExactJobsLegalSpec)

/-- ITS FALSE NEIGHBOUR: 'it returns false'. Refute it at one input. -/
def fnExactJobsLegalWrong : ChangeSpec := { name := "fnExactJobsLegal", fn := fun _ => fun
  | [d1, d2] => { results := [.lit (.bool false)], args := [d1, d2] }
  | _ => none }
def FnExactJobsLegalWrongFalsely : Prop := fnExactJobsLegalRow.holds Try.pinned (OpenSpec.ofChange fnExactJobsLegalWrong)

/-- 'laws.FnExactSynchronous': WHATEVER THE INPUT: true; the input reads as it did. -/
def fnExactSynchronousSpec : ChangeSpec := { name := "fnExactSynchronous", fn := fun _ => fun
  | [d1, d2] => { results := [.lit (.bool true)], args := [d1, d2] }
  | _ => none }
def fnExactSynchronousRow : OpenClaim := { program := "ytonifhkplniblaa", sum := "47a868dcc9c66bf14c2defe1faa68eb717b8a4ddadbf8b214265b9c5edcc2137", func := "loop.example/deadlinescheduler/laws.FnExactSynchronous", spec := "fnExactSynchronous", unfollowed := true, recurses := true, apart := false }
def FnExactSynchronousSaid : Prop := fnExactSynchronousRow.holds Try.pinned (OpenSpec.ofChange fnExactSynchronousSpec)

/-- ITS FALSE NEIGHBOUR: 'it returns false'. Refute it at one input. -/
def fnExactSynchronousWrong : ChangeSpec := { name := "fnExactSynchronous", fn := fun _ => fun
  | [d1, d2] => { results := [.lit (.bool false)], args := [d1, d2] }
  | _ => none }
def FnExactSynchronousWrongFalsely : Prop := fnExactSynchronousRow.holds Try.pinned (OpenSpec.ofChange fnExactSynchronousWrong)

/-- 'laws.FnInversion': WHATEVER THE INPUT: true; the input reads as it did. -/
def fnInversionSpec : ChangeSpec := { name := "fnInversion", fn := fun _ => fun
  | [d] => { results := [.lit (.bool true)], args := [d] }
  | _ => none }
def fnInversionRow : OpenClaim := { program := "ytonifhkplniblaa", sum := "47a868dcc9c66bf14c2defe1faa68eb717b8a4ddadbf8b214265b9c5edcc2137", func := "loop.example/deadlinescheduler/laws.FnInversion", spec := "fnInversion", unfollowed := true, recurses := true, apart := false }
def FnInversionSaid : Prop := fnInversionRow.holds Try.pinned (OpenSpec.ofChange fnInversionSpec)

/-- ITS FALSE NEIGHBOUR: 'it returns false'. Refute it at one input. -/
def fnInversionWrong : ChangeSpec := { name := "fnInversion", fn := fun _ => fun
  | [d] => { results := [.lit (.bool false)], args := [d] }
  | _ => none }
def FnInversionWrongFalsely : Prop := fnInversionRow.holds Try.pinned (OpenSpec.ofChange fnInversionWrong)

/-- 'laws.FnExactCheckSchedule': WHATEVER THE INPUT: true; the input reads as it did. -/
def fnExactCheckScheduleSpec : ChangeSpec := { name := "fnExactCheckSchedule", fn := fun _ => fun
  | [d1, d2, d3] => { results := [.lit (.bool true)], args := [d1, d2, d3] }
  | _ => none }
def fnExactCheckScheduleRow : OpenClaim := { program := "ytonifhkplniblaa", sum := "47a868dcc9c66bf14c2defe1faa68eb717b8a4ddadbf8b214265b9c5edcc2137", func := "loop.example/deadlinescheduler/laws.FnExactCheckSchedule", spec := "fnExactCheckSchedule", unfollowed := true, recurses := true, apart := false }
def FnExactCheckScheduleSaid : Prop := fnExactCheckScheduleRow.holds Try.pinned (OpenSpec.ofChange fnExactCheckScheduleSpec)

/-- ITS FALSE NEIGHBOUR: 'it returns false'. Refute it at one input. -/
def fnExactCheckScheduleWrong : ChangeSpec := { name := "fnExactCheckSchedule", fn := fun _ => fun
  | [d1, d2, d3] => { results := [.lit (.bool false)], args := [d1, d2, d3] }
  | _ => none }
def FnExactCheckScheduleWrongFalsely : Prop := fnExactCheckScheduleRow.holds Try.pinned (OpenSpec.ofChange fnExactCheckScheduleWrong)

/-- 'laws.FnExactRunEdf': WHATEVER THE INPUT: true; the input reads as it did. -/
def fnExactRunEdfSpec : ChangeSpec := { name := "fnExactRunEdf", fn := fun _ => fun
  | [d1, d2] => { results := [.lit (.bool true)], args := [d1, d2] }
  | _ => none }
def fnExactRunEdfRow : OpenClaim := { program := "ytonifhkplniblaa", sum := "47a868dcc9c66bf14c2defe1faa68eb717b8a4ddadbf8b214265b9c5edcc2137", func := "loop.example/deadlinescheduler/laws.FnExactRunEdf", spec := "fnExactRunEdf", unfollowed := true, recurses := true, apart := false }
def FnExactRunEdfSaid : Prop := fnExactRunEdfRow.holds Try.pinned (OpenSpec.ofChange fnExactRunEdfSpec)

/-- ITS FALSE NEIGHBOUR: 'it returns false'. Refute it at one input. -/
def fnExactRunEdfWrong : ChangeSpec := { name := "fnExactRunEdf", fn := fun _ => fun
  | [d1, d2] => { results := [.lit (.bool false)], args := [d1, d2] }
  | _ => none }
def FnExactRunEdfWrongFalsely : Prop := fnExactRunEdfRow.holds Try.pinned (OpenSpec.ofChange fnExactRunEdfWrong)

/-- 'laws.FnDhall': WHATEVER THE INPUT: true; the input reads as it did. -/
def fnDhallSpec : ChangeSpec := { name := "fnDhall", fn := fun _ => fun
  | [d] => { results := [.lit (.bool true)], args := [d] }
  | _ => none }
def fnDhallRow : OpenClaim := { program := "ytonifhkplniblaa", sum := "47a868dcc9c66bf14c2defe1faa68eb717b8a4ddadbf8b214265b9c5edcc2137", func := "loop.example/deadlinescheduler/laws.FnDhall", spec := "fnDhall", unfollowed := true, recurses := true, apart := false }
def FnDhallSaid : Prop := fnDhallRow.holds Try.pinned (OpenSpec.ofChange fnDhallSpec)

/-- ITS FALSE NEIGHBOUR: 'it returns false'. Refute it at one input. -/
def fnDhallWrong : ChangeSpec := { name := "fnDhall", fn := fun _ => fun
  | [d] => { results := [.lit (.bool false)], args := [d] }
  | _ => none }
def FnDhallWrongFalsely : Prop := fnDhallRow.holds Try.pinned (OpenSpec.ofChange fnDhallWrong)

/-- 'laws.FnExactRunFixed': WHATEVER THE INPUT: true; the input reads as it did. -/
def fnExactRunFixedSpec : ChangeSpec := { name := "fnExactRunFixed", fn := fun _ => fun
  | [d1, d2, d3] => { results := [.lit (.bool true)], args := [d1, d2, d3] }
  | _ => none }
def fnExactRunFixedRow : OpenClaim := { program := "ytonifhkplniblaa", sum := "47a868dcc9c66bf14c2defe1faa68eb717b8a4ddadbf8b214265b9c5edcc2137", func := "loop.example/deadlinescheduler/laws.FnExactRunFixed", spec := "fnExactRunFixed", unfollowed := true, recurses := true, apart := false }
def FnExactRunFixedSaid : Prop := fnExactRunFixedRow.holds Try.pinned (OpenSpec.ofChange fnExactRunFixedSpec)

/-- ITS FALSE NEIGHBOUR: 'it returns false'. Refute it at one input. -/
def fnExactRunFixedWrong : ChangeSpec := { name := "fnExactRunFixed", fn := fun _ => fun
  | [d1, d2, d3] => { results := [.lit (.bool false)], args := [d1, d2, d3] }
  | _ => none }
def FnExactRunFixedWrongFalsely : Prop := fnExactRunFixedRow.holds Try.pinned (OpenSpec.ofChange fnExactRunFixedWrong)

/-- 'laws.FnExactRunResources': WHATEVER THE INPUT: true; the input reads as it did. -/
def fnExactRunResourcesSpec : ChangeSpec := { name := "fnExactRunResources", fn := fun _ => fun
  | [d1, d2, d3] => { results := [.lit (.bool true)], args := [d1, d2, d3] }
  | _ => none }
def fnExactRunResourcesRow : OpenClaim := { program := "ytonifhkplniblaa", sum := "47a868dcc9c66bf14c2defe1faa68eb717b8a4ddadbf8b214265b9c5edcc2137", func := "loop.example/deadlinescheduler/laws.FnExactRunResources", spec := "fnExactRunResources", unfollowed := true, recurses := true, apart := false }
def FnExactRunResourcesSaid : Prop := fnExactRunResourcesRow.holds Try.pinned (OpenSpec.ofChange fnExactRunResourcesSpec)

/-- ITS FALSE NEIGHBOUR: 'it returns false'. Refute it at one input. -/
def fnExactRunResourcesWrong : ChangeSpec := { name := "fnExactRunResources", fn := fun _ => fun
  | [d1, d2, d3] => { results := [.lit (.bool false)], args := [d1, d2, d3] }
  | _ => none }
def FnExactRunResourcesWrongFalsely : Prop := fnExactRunResourcesRow.holds Try.pinned (OpenSpec.ofChange fnExactRunResourcesWrong)

/-- 'laws.FnExactRunGlobal': WHATEVER THE INPUT: true; the input reads as it did. -/
def fnExactRunGlobalSpec : ChangeSpec := { name := "fnExactRunGlobal", fn := fun _ => fun
  | [d1, d2, d3] => { results := [.lit (.bool true)], args := [d1, d2, d3] }
  | _ => none }
def fnExactRunGlobalRow : OpenClaim := { program := "ytonifhkplniblaa", sum := "47a868dcc9c66bf14c2defe1faa68eb717b8a4ddadbf8b214265b9c5edcc2137", func := "loop.example/deadlinescheduler/laws.FnExactRunGlobal", spec := "fnExactRunGlobal", unfollowed := true, recurses := true, apart := false }
def FnExactRunGlobalSaid : Prop := fnExactRunGlobalRow.holds Try.pinned (OpenSpec.ofChange fnExactRunGlobalSpec)

/-- ITS FALSE NEIGHBOUR: 'it returns false'. Refute it at one input. -/
def fnExactRunGlobalWrong : ChangeSpec := { name := "fnExactRunGlobal", fn := fun _ => fun
  | [d1, d2, d3] => { results := [.lit (.bool false)], args := [d1, d2, d3] }
  | _ => none }
def FnExactRunGlobalWrongFalsely : Prop := fnExactRunGlobalRow.holds Try.pinned (OpenSpec.ofChange fnExactRunGlobalWrong)

/- THE SECOND FORM. 'bulk': how many values and letters a reading holds, each counted each time it is reached (what is shared counts as often as it is met; a slice's spare places count too). A statement '..UptoSaid' is the law's where the arguments, and the package variables that the reading takes, are together of bulk at most 1048576: NARROWER than '..Said'. Prove '..Said' where nothing that the law and all that it calls make is longer than what came in: it says more and counts as full. Else prove '..UptoSaid'. A law counts once. -/
mutual
def uptoBulk {H : Type} : DataW H → Nat
  | .lit (.string bytes) => bytes.length + 1
  | .lit _ => 1
  | .nil => 1
  | .ptr d => uptoBulk d + 1
  | .slice elems spare => uptoBulkAll elems + uptoBulkAll spare + 1
  | .agg parts => uptoBulkAll parts + 1
  | .iface _ d => uptoBulk d + 1
  | .map entries => uptoBulkEntries entries + 1
  | .held _ => 1
def uptoBulkAll {H : Type} : List (DataW H) → Nat
  | [] => 0
  | d :: r => uptoBulk d + uptoBulkAll r
def uptoBulkEntries {H : Type} : List (Lit × DataW H) → Nat
  | [] => 0
  | x :: r => uptoBulkEntry x + uptoBulkEntries r
def uptoBulkEntry {H : Type} : Lit × DataW H → Nat
  | (.string bytes, d) => bytes.length + uptoBulk d + 1
  | (_, d) => uptoBulk d + 1
 end
def uptoSmall : (H : Type) → List (DataW H) → Bool := fun _ ds => decide (uptoBulkAll ds ≤ 1048576)
def OpenSpec.upto (s : _root_.Go.ChangeSpec) : _root_.Go.OpenSpec := { _root_.Go.OpenSpec.ofChange s with cond := some uptoSmall }

/-- 'laws.FnExactRunServers', WHERE WHAT IT READS IS OF BULK AT MOST 1048576: true; the input reads as it did. -/
def fnExactRunServersUptoRow : OpenClaim := { program := "ytonifhkplniblaa", sum := "47a868dcc9c66bf14c2defe1faa68eb717b8a4ddadbf8b214265b9c5edcc2137", func := "loop.example/deadlinescheduler/laws.FnExactRunServers", spec := "fnExactRunServers", unfollowed := true, recurses := true, apart := false, narrowed := true }
def FnExactRunServersUptoSaid : Prop := fnExactRunServersUptoRow.holds Try.pinned (OpenSpec.upto fnExactRunServersSpec)

/-- 'laws.FnExactJobsLegal', WHERE WHAT IT READS IS OF BULK AT MOST 1048576: true; the input reads as it did. -/
def fnExactJobsLegalUptoRow : OpenClaim := { program := "ytonifhkplniblaa", sum := "47a868dcc9c66bf14c2defe1faa68eb717b8a4ddadbf8b214265b9c5edcc2137", func := "loop.example/deadlinescheduler/laws.FnExactJobsLegal", spec := "fnExactJobsLegal", unfollowed := true, recurses := true, apart := false, narrowed := true }
def FnExactJobsLegalUptoSaid : Prop := fnExactJobsLegalUptoRow.holds Try.pinned (OpenSpec.upto fnExactJobsLegalSpec)

/-- 'laws.FnExactSynchronous', WHERE WHAT IT READS IS OF BULK AT MOST 1048576: true; the input reads as it did. -/
def fnExactSynchronousUptoRow : OpenClaim := { program := "ytonifhkplniblaa", sum := "47a868dcc9c66bf14c2defe1faa68eb717b8a4ddadbf8b214265b9c5edcc2137", func := "loop.example/deadlinescheduler/laws.FnExactSynchronous", spec := "fnExactSynchronous", unfollowed := true, recurses := true, apart := false, narrowed := true }
def FnExactSynchronousUptoSaid : Prop := fnExactSynchronousUptoRow.holds Try.pinned (OpenSpec.upto fnExactSynchronousSpec)

/-- 'laws.FnInversion', WHERE WHAT IT READS IS OF BULK AT MOST 1048576: true; the input reads as it did. -/
def fnInversionUptoRow : OpenClaim := { program := "ytonifhkplniblaa", sum := "47a868dcc9c66bf14c2defe1faa68eb717b8a4ddadbf8b214265b9c5edcc2137", func := "loop.example/deadlinescheduler/laws.FnInversion", spec := "fnInversion", unfollowed := true, recurses := true, apart := false, narrowed := true }
def FnInversionUptoSaid : Prop := fnInversionUptoRow.holds Try.pinned (OpenSpec.upto fnInversionSpec)

/-- 'laws.FnExactCheckSchedule', WHERE WHAT IT READS IS OF BULK AT MOST 1048576: true; the input reads as it did. -/
def fnExactCheckScheduleUptoRow : OpenClaim := { program := "ytonifhkplniblaa", sum := "47a868dcc9c66bf14c2defe1faa68eb717b8a4ddadbf8b214265b9c5edcc2137", func := "loop.example/deadlinescheduler/laws.FnExactCheckSchedule", spec := "fnExactCheckSchedule", unfollowed := true, recurses := true, apart := false, narrowed := true }
def FnExactCheckScheduleUptoSaid : Prop := fnExactCheckScheduleUptoRow.holds Try.pinned (OpenSpec.upto fnExactCheckScheduleSpec)

/-- 'laws.FnExactRunEdf', WHERE WHAT IT READS IS OF BULK AT MOST 1048576: true; the input reads as it did. -/
def fnExactRunEdfUptoRow : OpenClaim := { program := "ytonifhkplniblaa", sum := "47a868dcc9c66bf14c2defe1faa68eb717b8a4ddadbf8b214265b9c5edcc2137", func := "loop.example/deadlinescheduler/laws.FnExactRunEdf", spec := "fnExactRunEdf", unfollowed := true, recurses := true, apart := false, narrowed := true }
def FnExactRunEdfUptoSaid : Prop := fnExactRunEdfUptoRow.holds Try.pinned (OpenSpec.upto fnExactRunEdfSpec)

/-- 'laws.FnDhall', WHERE WHAT IT READS IS OF BULK AT MOST 1048576: true; the input reads as it did. -/
def fnDhallUptoRow : OpenClaim := { program := "ytonifhkplniblaa", sum := "47a868dcc9c66bf14c2defe1faa68eb717b8a4ddadbf8b214265b9c5edcc2137", func := "loop.example/deadlinescheduler/laws.FnDhall", spec := "fnDhall", unfollowed := true, recurses := true, apart := false, narrowed := true }
def FnDhallUptoSaid : Prop := fnDhallUptoRow.holds Try.pinned (OpenSpec.upto fnDhallSpec)

/-- 'laws.FnExactRunFixed', WHERE WHAT IT READS IS OF BULK AT MOST 1048576: true; the input reads as it did. -/
def fnExactRunFixedUptoRow : OpenClaim := { program := "ytonifhkplniblaa", sum := "47a868dcc9c66bf14c2defe1faa68eb717b8a4ddadbf8b214265b9c5edcc2137", func := "loop.example/deadlinescheduler/laws.FnExactRunFixed", spec := "fnExactRunFixed", unfollowed := true, recurses := true, apart := false, narrowed := true }
def FnExactRunFixedUptoSaid : Prop := fnExactRunFixedUptoRow.holds Try.pinned (OpenSpec.upto fnExactRunFixedSpec)

/-- 'laws.FnExactRunResources', WHERE WHAT IT READS IS OF BULK AT MOST 1048576: true; the input reads as it did. -/
def fnExactRunResourcesUptoRow : OpenClaim := { program := "ytonifhkplniblaa", sum := "47a868dcc9c66bf14c2defe1faa68eb717b8a4ddadbf8b214265b9c5edcc2137", func := "loop.example/deadlinescheduler/laws.FnExactRunResources", spec := "fnExactRunResources", unfollowed := true, recurses := true, apart := false, narrowed := true }
def FnExactRunResourcesUptoSaid : Prop := fnExactRunResourcesUptoRow.holds Try.pinned (OpenSpec.upto fnExactRunResourcesSpec)

/-- 'laws.FnExactRunGlobal', WHERE WHAT IT READS IS OF BULK AT MOST 1048576: true; the input reads as it did. -/
def fnExactRunGlobalUptoRow : OpenClaim := { program := "ytonifhkplniblaa", sum := "47a868dcc9c66bf14c2defe1faa68eb717b8a4ddadbf8b214265b9c5edcc2137", func := "loop.example/deadlinescheduler/laws.FnExactRunGlobal", spec := "fnExactRunGlobal", unfollowed := true, recurses := true, apart := false, narrowed := true }
def FnExactRunGlobalUptoSaid : Prop := fnExactRunGlobalUptoRow.holds Try.pinned (OpenSpec.upto fnExactRunGlobalSpec)

end Rows
end Go.Proofs.Ytonifhkplniblaa
