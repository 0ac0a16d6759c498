/-
  No cell of these rows narrows 'for every input' (looked for: loops, veiled, ifaces, maps, wideKeys, modest, calm, conditions, laid).
  DERIVED. THE GIVEN ROWS OF THIS SEAT. 12 by the template 'for every input the law returns true; each argument reads behind the call as it read before'; 0 by the template 'total and deterministic' (their statements: YtcpgejgppiclmaaTotals.lean).
  GIVEN WITH THE SEED: the statements are not yours to turn. If you find one false, say at which input.
  Laid BY PROGRAM, IN A SANDBOX (cutbox-rows.mjs): the forced cells as the released guide's own fill.sh prints them over the translation 6469678cf0baf458… (all of the seat's roots in one cut). By AI agents, Wed Nov 11 2026. No macro, syntax, notation, axiom, sorry.
-/
import Derived.Test.YtcpgejgppiclmaaChecked
import GoSem.Claim
import GoSem.ClaimJoined
import GoSem.ClaimMapViews
import Derived.JoinedTies
import Derived.KernelRfl
namespace Go.Proofs.Ytcpgejgppiclmaa
/- THE CELL 'sum', in the pinned program and in every row, IS THE sha256 OF THE DUMP (.gsa) THAT YtcpgejgppiclmaaProg.lean LOADS. Nothing in Lean hashes anything: it is a label: what it is worth is what the hold of that sum in a sandbox is worth. -/
noncomputable def Try.pinned : Pinned := { name := "ytcpgejgppiclmaa", sum := "6469678cf0baf458ba48fcdd755f982e79a6b3b8d1a4d3285b91941b67ad3a27", checked := Try.checked }
namespace Rows
def none {H : Type} : Left H := { results := [], args := [] }

/-- 'laws.FnExactArrivalsLegal': WHATEVER THE INPUT: true; the input reads as it did. -/
def fnExactArrivalsLegalSpec : ChangeSpec := { name := "fnExactArrivalsLegal", fn := fun _ => fun
  | [d] => { results := [.lit (.bool true)], args := [d] }
  | _ => none }
def fnExactArrivalsLegalRow : OpenClaim := { program := "ytcpgejgppiclmaa", sum := "6469678cf0baf458ba48fcdd755f982e79a6b3b8d1a4d3285b91941b67ad3a27", func := "loop.example/deadlinescheduler/laws.FnExactArrivalsLegal", spec := "fnExactArrivalsLegal", apart := false }
def FnExactArrivalsLegalSaid : Prop := fnExactArrivalsLegalRow.holds Try.pinned (OpenSpec.ofChange fnExactArrivalsLegalSpec)

/-- ITS FALSE NEIGHBOUR: 'it returns false'. Refute it at one input. -/
def fnExactArrivalsLegalWrong : ChangeSpec := { name := "fnExactArrivalsLegal", fn := fun _ => fun
  | [d] => { results := [.lit (.bool false)], args := [d] }
  | _ => none }
def FnExactArrivalsLegalWrongFalsely : Prop := fnExactArrivalsLegalRow.holds Try.pinned (OpenSpec.ofChange fnExactArrivalsLegalWrong)

/-- 'laws.FnExactServersValid': WHATEVER THE INPUT: true; the input reads as it did. -/
def fnExactServersValidSpec : ChangeSpec := { name := "fnExactServersValid", fn := fun _ => fun
  | [d] => { results := [.lit (.bool true)], args := [d] }
  | _ => none }
def fnExactServersValidRow : OpenClaim := { program := "ytcpgejgppiclmaa", sum := "6469678cf0baf458ba48fcdd755f982e79a6b3b8d1a4d3285b91941b67ad3a27", func := "loop.example/deadlinescheduler/laws.FnExactServersValid", spec := "fnExactServersValid", unfollowed := true, recurses := true, apart := false }
def FnExactServersValidSaid : Prop := fnExactServersValidRow.holds Try.pinned (OpenSpec.ofChange fnExactServersValidSpec)

/-- ITS FALSE NEIGHBOUR: 'it returns false'. Refute it at one input. -/
def fnExactServersValidWrong : ChangeSpec := { name := "fnExactServersValid", fn := fun _ => fun
  | [d] => { results := [.lit (.bool false)], args := [d] }
  | _ => none }
def FnExactServersValidWrongFalsely : Prop := fnExactServersValidRow.holds Try.pinned (OpenSpec.ofChange fnExactServersValidWrong)

/-- 'laws.FnExactAssignmentValid': WHATEVER THE INPUT: true; the input reads as it did. -/
def fnExactAssignmentValidSpec : ChangeSpec := { name := "fnExactAssignmentValid", fn := fun _ => fun
  | [d1, d2, d3] => { results := [.lit (.bool true)], args := [d1, d2, d3] }
  | _ => none }
def fnExactAssignmentValidRow : OpenClaim := { program := "ytcpgejgppiclmaa", sum := "6469678cf0baf458ba48fcdd755f982e79a6b3b8d1a4d3285b91941b67ad3a27", func := "loop.example/deadlinescheduler/laws.FnExactAssignmentValid", spec := "fnExactAssignmentValid", unfollowed := true, recurses := true, apart := false }
def FnExactAssignmentValidSaid : Prop := fnExactAssignmentValidRow.holds Try.pinned (OpenSpec.ofChange fnExactAssignmentValidSpec)

/-- ITS FALSE NEIGHBOUR: 'it returns false'. Refute it at one input. -/
def fnExactAssignmentValidWrong : ChangeSpec := { name := "fnExactAssignmentValid", fn := fun _ => fun
  | [d1, d2, d3] => { results := [.lit (.bool false)], args := [d1, d2, d3] }
  | _ => none }
def FnExactAssignmentValidWrongFalsely : Prop := fnExactAssignmentValidRow.holds Try.pinned (OpenSpec.ofChange fnExactAssignmentValidWrong)

/-- 'laws.FnExactDensityFeasible': WHATEVER THE INPUT: true; the input reads as it did. -/
def fnExactDensityFeasibleSpec : ChangeSpec := { name := "fnExactDensityFeasible", fn := fun _ => fun
  | [d1, d2] => { results := [.lit (.bool true)], args := [d1, d2] }
  | _ => none }
def fnExactDensityFeasibleRow : OpenClaim := { program := "ytcpgejgppiclmaa", sum := "6469678cf0baf458ba48fcdd755f982e79a6b3b8d1a4d3285b91941b67ad3a27", func := "loop.example/deadlinescheduler/laws.FnExactDensityFeasible", spec := "fnExactDensityFeasible", unfollowed := true, recurses := true, apart := false }
def FnExactDensityFeasibleSaid : Prop := fnExactDensityFeasibleRow.holds Try.pinned (OpenSpec.ofChange fnExactDensityFeasibleSpec)

/-- ITS FALSE NEIGHBOUR: 'it returns false'. Refute it at one input. -/
def fnExactDensityFeasibleWrong : ChangeSpec := { name := "fnExactDensityFeasible", fn := fun _ => fun
  | [d1, d2] => { results := [.lit (.bool false)], args := [d1, d2] }
  | _ => none }
def FnExactDensityFeasibleWrongFalsely : Prop := fnExactDensityFeasibleRow.holds Try.pinned (OpenSpec.ofChange fnExactDensityFeasibleWrong)

/-- 'laws.FnExactSectionsValid': WHATEVER THE INPUT: true; the input reads as it did. -/
def fnExactSectionsValidSpec : ChangeSpec := { name := "fnExactSectionsValid", fn := fun _ => fun
  | [d1, d2] => { results := [.lit (.bool true)], args := [d1, d2] }
  | _ => none }
def fnExactSectionsValidRow : OpenClaim := { program := "ytcpgejgppiclmaa", sum := "6469678cf0baf458ba48fcdd755f982e79a6b3b8d1a4d3285b91941b67ad3a27", func := "loop.example/deadlinescheduler/laws.FnExactSectionsValid", spec := "fnExactSectionsValid", unfollowed := true, recurses := true, apart := false }
def FnExactSectionsValidSaid : Prop := fnExactSectionsValidRow.holds Try.pinned (OpenSpec.ofChange fnExactSectionsValidSpec)

/-- ITS FALSE NEIGHBOUR: 'it returns false'. Refute it at one input. -/
def fnExactSectionsValidWrong : ChangeSpec := { name := "fnExactSectionsValid", fn := fun _ => fun
  | [d1, d2] => { results := [.lit (.bool false)], args := [d1, d2] }
  | _ => none }
def FnExactSectionsValidWrongFalsely : Prop := fnExactSectionsValidRow.holds Try.pinned (OpenSpec.ofChange fnExactSectionsValidWrong)

/-- 'laws.FnExactMinFeasibleDeadline': WHATEVER THE INPUT: true; the input reads as it did. -/
def fnExactMinFeasibleDeadlineSpec : ChangeSpec := { name := "fnExactMinFeasibleDeadline", fn := fun _ => fun
  | [d1, d2] => { results := [.lit (.bool true)], args := [d1, d2] }
  | _ => none }
def fnExactMinFeasibleDeadlineRow : OpenClaim := { program := "ytcpgejgppiclmaa", sum := "6469678cf0baf458ba48fcdd755f982e79a6b3b8d1a4d3285b91941b67ad3a27", func := "loop.example/deadlinescheduler/laws.FnExactMinFeasibleDeadline", spec := "fnExactMinFeasibleDeadline", unfollowed := true, recurses := true, apart := false }
def FnExactMinFeasibleDeadlineSaid : Prop := fnExactMinFeasibleDeadlineRow.holds Try.pinned (OpenSpec.ofChange fnExactMinFeasibleDeadlineSpec)

/-- ITS FALSE NEIGHBOUR: 'it returns false'. Refute it at one input. -/
def fnExactMinFeasibleDeadlineWrong : ChangeSpec := { name := "fnExactMinFeasibleDeadline", fn := fun _ => fun
  | [d1, d2] => { results := [.lit (.bool false)], args := [d1, d2] }
  | _ => none }
def FnExactMinFeasibleDeadlineWrongFalsely : Prop := fnExactMinFeasibleDeadlineRow.holds Try.pinned (OpenSpec.ofChange fnExactMinFeasibleDeadlineWrong)

/-- 'laws.FnExactMaxFeasibleCost': WHATEVER THE INPUT: true; the input reads as it did. -/
def fnExactMaxFeasibleCostSpec : ChangeSpec := { name := "fnExactMaxFeasibleCost", fn := fun _ => fun
  | [d1, d2] => { results := [.lit (.bool true)], args := [d1, d2] }
  | _ => none }
def fnExactMaxFeasibleCostRow : OpenClaim := { program := "ytcpgejgppiclmaa", sum := "6469678cf0baf458ba48fcdd755f982e79a6b3b8d1a4d3285b91941b67ad3a27", func := "loop.example/deadlinescheduler/laws.FnExactMaxFeasibleCost", spec := "fnExactMaxFeasibleCost", unfollowed := true, recurses := true, apart := false }
def FnExactMaxFeasibleCostSaid : Prop := fnExactMaxFeasibleCostRow.holds Try.pinned (OpenSpec.ofChange fnExactMaxFeasibleCostSpec)

/-- ITS FALSE NEIGHBOUR: 'it returns false'. Refute it at one input. -/
def fnExactMaxFeasibleCostWrong : ChangeSpec := { name := "fnExactMaxFeasibleCost", fn := fun _ => fun
  | [d1, d2] => { results := [.lit (.bool false)], args := [d1, d2] }
  | _ => none }
def FnExactMaxFeasibleCostWrongFalsely : Prop := fnExactMaxFeasibleCostRow.holds Try.pinned (OpenSpec.ofChange fnExactMaxFeasibleCostWrong)

/-- 'laws.FnExactBlocking': WHATEVER THE INPUT: true; the input reads as it did. -/
def fnExactBlockingSpec : ChangeSpec := { name := "fnExactBlocking", fn := fun _ => fun
  | [d1, d2, d3] => { results := [.lit (.bool true)], args := [d1, d2, d3] }
  | _ => none }
def fnExactBlockingRow : OpenClaim := { program := "ytcpgejgppiclmaa", sum := "6469678cf0baf458ba48fcdd755f982e79a6b3b8d1a4d3285b91941b67ad3a27", func := "loop.example/deadlinescheduler/laws.FnExactBlocking", spec := "fnExactBlocking", unfollowed := true, recurses := true, apart := false }
def FnExactBlockingSaid : Prop := fnExactBlockingRow.holds Try.pinned (OpenSpec.ofChange fnExactBlockingSpec)

/-- ITS FALSE NEIGHBOUR: 'it returns false'. Refute it at one input. -/
def fnExactBlockingWrong : ChangeSpec := { name := "fnExactBlocking", fn := fun _ => fun
  | [d1, d2, d3] => { results := [.lit (.bool false)], args := [d1, d2, d3] }
  | _ => none }
def FnExactBlockingWrongFalsely : Prop := fnExactBlockingRow.holds Try.pinned (OpenSpec.ofChange fnExactBlockingWrong)

/-- 'laws.FnExactServersFeasible': WHATEVER THE INPUT: true; the input reads as it did. -/
def fnExactServersFeasibleSpec : ChangeSpec := { name := "fnExactServersFeasible", fn := fun _ => fun
  | [d1, d2] => { results := [.lit (.bool true)], args := [d1, d2] }
  | _ => none }
def fnExactServersFeasibleRow : OpenClaim := { program := "ytcpgejgppiclmaa", sum := "6469678cf0baf458ba48fcdd755f982e79a6b3b8d1a4d3285b91941b67ad3a27", func := "loop.example/deadlinescheduler/laws.FnExactServersFeasible", spec := "fnExactServersFeasible", unfollowed := true, recurses := true, apart := false }
def FnExactServersFeasibleSaid : Prop := fnExactServersFeasibleRow.holds Try.pinned (OpenSpec.ofChange fnExactServersFeasibleSpec)

/-- ITS FALSE NEIGHBOUR: 'it returns false'. Refute it at one input. -/
def fnExactServersFeasibleWrong : ChangeSpec := { name := "fnExactServersFeasible", fn := fun _ => fun
  | [d1, d2] => { results := [.lit (.bool false)], args := [d1, d2] }
  | _ => none }
def FnExactServersFeasibleWrongFalsely : Prop := fnExactServersFeasibleRow.holds Try.pinned (OpenSpec.ofChange fnExactServersFeasibleWrong)

/-- 'laws.FnExactCeilings': WHATEVER THE INPUT: true; the input reads as it did. -/
def fnExactCeilingsSpec : ChangeSpec := { name := "fnExactCeilings", fn := fun _ => fun
  | [d1, d2] => { results := [.lit (.bool true)], args := [d1, d2] }
  | _ => none }
def fnExactCeilingsRow : OpenClaim := { program := "ytcpgejgppiclmaa", sum := "6469678cf0baf458ba48fcdd755f982e79a6b3b8d1a4d3285b91941b67ad3a27", func := "loop.example/deadlinescheduler/laws.FnExactCeilings", spec := "fnExactCeilings", unfollowed := true, recurses := true, apart := false }
def FnExactCeilingsSaid : Prop := fnExactCeilingsRow.holds Try.pinned (OpenSpec.ofChange fnExactCeilingsSpec)

/-- ITS FALSE NEIGHBOUR: 'it returns false'. Refute it at one input. -/
def fnExactCeilingsWrong : ChangeSpec := { name := "fnExactCeilings", fn := fun _ => fun
  | [d1, d2] => { results := [.lit (.bool false)], args := [d1, d2] }
  | _ => none }
def FnExactCeilingsWrongFalsely : Prop := fnExactCeilingsRow.holds Try.pinned (OpenSpec.ofChange fnExactCeilingsWrong)

/-- 'laws.FnExactResourcesFeasible': WHATEVER THE INPUT: true; the input reads as it did. -/
def fnExactResourcesFeasibleSpec : ChangeSpec := { name := "fnExactResourcesFeasible", fn := fun _ => fun
  | [d1, d2] => { results := [.lit (.bool true)], args := [d1, d2] }
  | _ => none }
def fnExactResourcesFeasibleRow : OpenClaim := { program := "ytcpgejgppiclmaa", sum := "6469678cf0baf458ba48fcdd755f982e79a6b3b8d1a4d3285b91941b67ad3a27", func := "loop.example/deadlinescheduler/laws.FnExactResourcesFeasible", spec := "fnExactResourcesFeasible", unfollowed := true, recurses := true, apart := false }
def FnExactResourcesFeasibleSaid : Prop := fnExactResourcesFeasibleRow.holds Try.pinned (OpenSpec.ofChange fnExactResourcesFeasibleSpec)

/-- ITS FALSE NEIGHBOUR: 'it returns false'. Refute it at one input. -/
def fnExactResourcesFeasibleWrong : ChangeSpec := { name := "fnExactResourcesFeasible", fn := fun _ => fun
  | [d1, d2] => { results := [.lit (.bool false)], args := [d1, d2] }
  | _ => none }
def FnExactResourcesFeasibleWrongFalsely : Prop := fnExactResourcesFeasibleRow.holds Try.pinned (OpenSpec.ofChange fnExactResourcesFeasibleWrong)

/-- 'laws.FnExactQuickTest': WHATEVER THE INPUT: true; the input reads as it did. -/
def fnExactQuickTestSpec : ChangeSpec := { name := "fnExactQuickTest", fn := fun _ => fun
  | [d] => { results := [.lit (.bool true)], args := [d] }
  | _ => none }
def fnExactQuickTestRow : OpenClaim := { program := "ytcpgejgppiclmaa", sum := "6469678cf0baf458ba48fcdd755f982e79a6b3b8d1a4d3285b91941b67ad3a27", func := "loop.example/deadlinescheduler/laws.FnExactQuickTest", spec := "fnExactQuickTest", unfollowed := true, recurses := true, apart := false }
def FnExactQuickTestSaid : Prop := fnExactQuickTestRow.holds Try.pinned (OpenSpec.ofChange fnExactQuickTestSpec)

/-- ITS FALSE NEIGHBOUR: 'it returns false'. Refute it at one input. -/
def fnExactQuickTestWrong : ChangeSpec := { name := "fnExactQuickTest", fn := fun _ => fun
  | [d] => { results := [.lit (.bool false)], args := [d] }
  | _ => none }
def FnExactQuickTestWrongFalsely : Prop := fnExactQuickTestRow.holds Try.pinned (OpenSpec.ofChange fnExactQuickTestWrong)

/- THE SECOND FORM. 'bulk': how many values and letters a reading holds, each counted each time it is reached (what is shared counts as often as it is met; a slice's spare places count too). A statement '..UptoSaid' is the law's where the arguments, and the package variables that the reading takes, are together of bulk at most 1048576: NARROWER than '..Said'. Prove '..Said' where nothing that the law and all that it calls make is longer than what came in: it says more and counts as full. Else prove '..UptoSaid'. A law counts once. -/
mutual
def uptoBulk {H : Type} : DataW H → Nat
  | .lit (.string bytes) => bytes.length + 1
  | .lit _ => 1
  | .nil => 1
  | .ptr d => uptoBulk d + 1
  | .slice elems spare => uptoBulkAll elems + uptoBulkAll spare + 1
  | .agg parts => uptoBulkAll parts + 1
  | .iface _ d => uptoBulk d + 1
  | .map entries => uptoBulkEntries entries + 1
  | .held _ => 1
def uptoBulkAll {H : Type} : List (DataW H) → Nat
  | [] => 0
  | d :: r => uptoBulk d + uptoBulkAll r
def uptoBulkEntries {H : Type} : List (Lit × DataW H) → Nat
  | [] => 0
  | x :: r => uptoBulkEntry x + uptoBulkEntries r
def uptoBulkEntry {H : Type} : Lit × DataW H → Nat
  | (.string bytes, d) => bytes.length + uptoBulk d + 1
  | (_, d) => uptoBulk d + 1
 end
def uptoSmall : (H : Type) → List (DataW H) → Bool := fun _ ds => decide (uptoBulkAll ds ≤ 1048576)
def OpenSpec.upto (s : _root_.Go.ChangeSpec) : _root_.Go.OpenSpec := { _root_.Go.OpenSpec.ofChange s with cond := some uptoSmall }

/-- 'laws.FnExactArrivalsLegal', WHERE WHAT IT READS IS OF BULK AT MOST 1048576: true; the input reads as it did. -/
def fnExactArrivalsLegalUptoRow : OpenClaim := { program := "ytcpgejgppiclmaa", sum := "6469678cf0baf458ba48fcdd755f982e79a6b3b8d1a4d3285b91941b67ad3a27", func := "loop.example/deadlinescheduler/laws.FnExactArrivalsLegal", spec := "fnExactArrivalsLegal", apart := false, narrowed := true }
def FnExactArrivalsLegalUptoSaid : Prop := fnExactArrivalsLegalUptoRow.holds Try.pinned (OpenSpec.upto fnExactArrivalsLegalSpec)

/-- 'laws.FnExactServersValid', WHERE WHAT IT READS IS OF BULK AT MOST 1048576: true; the input reads as it did. -/
def fnExactServersValidUptoRow : OpenClaim := { program := "ytcpgejgppiclmaa", sum := "6469678cf0baf458ba48fcdd755f982e79a6b3b8d1a4d3285b91941b67ad3a27", func := "loop.example/deadlinescheduler/laws.FnExactServersValid", spec := "fnExactServersValid", unfollowed := true, recurses := true, apart := false, narrowed := true }
def FnExactServersValidUptoSaid : Prop := fnExactServersValidUptoRow.holds Try.pinned (OpenSpec.upto fnExactServersValidSpec)

/-- 'laws.FnExactAssignmentValid', WHERE WHAT IT READS IS OF BULK AT MOST 1048576: true; the input reads as it did. -/
def fnExactAssignmentValidUptoRow : OpenClaim := { program := "ytcpgejgppiclmaa", sum := "6469678cf0baf458ba48fcdd755f982e79a6b3b8d1a4d3285b91941b67ad3a27", func := "loop.example/deadlinescheduler/laws.FnExactAssignmentValid", spec := "fnExactAssignmentValid", unfollowed := true, recurses := true, apart := false, narrowed := true }
def FnExactAssignmentValidUptoSaid : Prop := fnExactAssignmentValidUptoRow.holds Try.pinned (OpenSpec.upto fnExactAssignmentValidSpec)

/-- 'laws.FnExactDensityFeasible', WHERE WHAT IT READS IS OF BULK AT MOST 1048576: true; the input reads as it did. -/
def fnExactDensityFeasibleUptoRow : OpenClaim := { program := "ytcpgejgppiclmaa", sum := "6469678cf0baf458ba48fcdd755f982e79a6b3b8d1a4d3285b91941b67ad3a27", func := "loop.example/deadlinescheduler/laws.FnExactDensityFeasible", spec := "fnExactDensityFeasible", unfollowed := true, recurses := true, apart := false, narrowed := true }
def FnExactDensityFeasibleUptoSaid : Prop := fnExactDensityFeasibleUptoRow.holds Try.pinned (OpenSpec.upto fnExactDensityFeasibleSpec)

/-- 'laws.FnExactSectionsValid', WHERE WHAT IT READS IS OF BULK AT MOST 1048576: true; the input reads as it did. -/
def fnExactSectionsValidUptoRow : OpenClaim := { program := "ytcpgejgppiclmaa", sum := "6469678cf0baf458ba48fcdd755f982e79a6b3b8d1a4d3285b91941b67ad3a27", func := "loop.example/deadlinescheduler/laws.FnExactSectionsValid", spec := "fnExactSectionsValid", unfollowed := true, recurses := true, apart := false, narrowed := true }
def FnExactSectionsValidUptoSaid : Prop := fnExactSectionsValidUptoRow.holds Try.pinned (OpenSpec.upto fnExactSectionsValidSpec)

/-- 'laws.FnExactMinFeasibleDeadline', WHERE WHAT IT READS IS OF BULK AT MOST 1048576: true; the input reads as it did. -/
def fnExactMinFeasibleDeadlineUptoRow : OpenClaim := { program := "ytcpgejgppiclmaa", sum := "6469678cf0baf458ba48fcdd755f982e79a6b3b8d1a4d3285b91941b67ad3a27", func := "loop.example/deadlinescheduler/laws.FnExactMinFeasibleDeadline", spec := "fnExactMinFeasibleDeadline", unfollowed := true, recurses := true, apart := false, narrowed := true }
def FnExactMinFeasibleDeadlineUptoSaid : Prop := fnExactMinFeasibleDeadlineUptoRow.holds Try.pinned (OpenSpec.upto fnExactMinFeasibleDeadlineSpec)

/-- 'laws.FnExactMaxFeasibleCost', WHERE WHAT IT READS IS OF BULK AT MOST 1048576: true; the input reads as it did. -/
def fnExactMaxFeasibleCostUptoRow : OpenClaim := { program := "ytcpgejgppiclmaa", sum := "6469678cf0baf458ba48fcdd755f982e79a6b3b8d1a4d3285b91941b67ad3a27", func := "loop.example/deadlinescheduler/laws.FnExactMaxFeasibleCost", spec := "fnExactMaxFeasibleCost", unfollowed := true, recurses := true, apart := false, narrowed := true }
def FnExactMaxFeasibleCostUptoSaid : Prop := fnExactMaxFeasibleCostUptoRow.holds Try.pinned (OpenSpec.upto fnExactMaxFeasibleCostSpec)

/-- 'laws.FnExactBlocking', WHERE WHAT IT READS IS OF BULK AT MOST 1048576: true; the input reads as it did. -/
def fnExactBlockingUptoRow : OpenClaim := { program := "ytcpgejgppiclmaa", sum := "6469678cf0baf458ba48fcdd755f982e79a6b3b8d1a4d3285b91941b67ad3a27", func := "loop.example/deadlinescheduler/laws.FnExactBlocking", spec := "fnExactBlocking", unfollowed := true, recurses := true, apart := false, narrowed := true }
def FnExactBlockingUptoSaid : Prop := fnExactBlockingUptoRow.holds Try.pinned (OpenSpec.upto fnExactBlockingSpec)

/-- 'laws.FnExactServersFeasible', WHERE WHAT IT READS IS OF BULK AT MOST 1048576: true; the input reads as it did. -/
def fnExactServersFeasibleUptoRow : OpenClaim := { program := "ytcpgejgppiclmaa", sum := "6469678cf0baf458ba48fcdd755f982e79a6b3b8d1a4d3285b91941b67ad3a27", func := "loop.example/deadlinescheduler/laws.FnExactServersFeasible", spec := "fnExactServersFeasible", unfollowed := true, recurses := true, apart := false, narrowed := true }
def FnExactServersFeasibleUptoSaid : Prop := fnExactServersFeasibleUptoRow.holds Try.pinned (OpenSpec.upto fnExactServersFeasibleSpec)

/-- 'laws.FnExactCeilings', WHERE WHAT IT READS IS OF BULK AT MOST 1048576: true; the input reads as it did. -/
def fnExactCeilingsUptoRow : OpenClaim := { program := "ytcpgejgppiclmaa", sum := "6469678cf0baf458ba48fcdd755f982e79a6b3b8d1a4d3285b91941b67ad3a27", func := "loop.example/deadlinescheduler/laws.FnExactCeilings", spec := "fnExactCeilings", unfollowed := true, recurses := true, apart := false, narrowed := true }
def FnExactCeilingsUptoSaid : Prop := fnExactCeilingsUptoRow.holds Try.pinned (OpenSpec.upto fnExactCeilingsSpec)

/-- 'laws.FnExactResourcesFeasible', WHERE WHAT IT READS IS OF BULK AT MOST 1048576: true; the input reads as it did. -/
def fnExactResourcesFeasibleUptoRow : OpenClaim := { program := "ytcpgejgppiclmaa", sum := "6469678cf0baf458ba48fcdd755f982e79a6b3b8d1a4d3285b91941b67ad3a27", func := "loop.example/deadlinescheduler/laws.FnExactResourcesFeasible", spec := "fnExactResourcesFeasible", unfollowed := true, recurses := true, apart := false, narrowed := true }
def FnExactResourcesFeasibleUptoSaid : Prop := fnExactResourcesFeasibleUptoRow.holds Try.pinned (OpenSpec.upto fnExactResourcesFeasibleSpec)

/-- 'laws.FnExactQuickTest', WHERE WHAT IT READS IS OF BULK AT MOST 1048576: true; the input reads as it did. -/
def fnExactQuickTestUptoRow : OpenClaim := { program := "ytcpgejgppiclmaa", sum := "6469678cf0baf458ba48fcdd755f982e79a6b3b8d1a4d3285b91941b67ad3a27", func := "loop.example/deadlinescheduler/laws.FnExactQuickTest", spec := "fnExactQuickTest", unfollowed := true, recurses := true, apart := false, narrowed := true }
def FnExactQuickTestUptoSaid : Prop := fnExactQuickTestUptoRow.holds Try.pinned (OpenSpec.upto fnExactQuickTestSpec)

end Rows
end Go.Proofs.Ytcpgejgppiclmaa
