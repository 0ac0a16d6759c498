/-
  DERIVED. GIVEN WITH THE SEED: THE CARDS: each row of YtkgloicnfphmoaaGreatDoorRows.lean that lists a variable, with what it lists TIED to the program's text (the seventh form; the later family's looks); each row that meets fmt, with fmt's text TOLD by the authors' own Lean function (tested against real Go, not proved from fmt's source: count such statements apart). THE CARD IS WHAT COUNTS. Prove the row's statement (the work); the ties are given (YtkgloicnfphmoaaGreatDoorTie.lean); close each card by the builder's one call (the guide's Derived/Test/ToyasCard.lean, 'card_holds'). Laid BY PROGRAM, IN A SANDBOX (cutbox-door.mjs). By AI agents, Wed Nov 11 2026. No macro, syntax, notation, axiom, sorry.
-/
import Derived.Test.YtkgloicnfphmoaaGreatDoorRows
import GoSem.ClaimSeven
namespace Go.Proofs.YtkgloicnfphmoaaGreatDoor
namespace Rows

/-- THE TIED CARD OF 'laws.FnExactReport'. -/
def fnExactReportCard : Claim7 := { stood := { row := fnExactReportRow, standIns := [], harness := (true, "d0c69bcdb95d37a636c64f0dc3e1550fa872f42a8a9b376ea41eb651a92fa5cf"), looks := true }, kinds := [], alts := [], laidByText := true, laidKinds := [.data, .data, .data, .data, .sentinel, .sentinel, .pinned], laidTests := true, laidLooks := .later }
def FnExactReportCardSaid : Prop := Claim7.holds Tryz.pinned (.plain (OpenSpec.ofChange fnExactReportSpec)) fnExactReportCard

/-- THE SECOND FORM's CARD OF 'laws.FnExactReport'. -/
def fnExactReportUptoCard : Claim7 := { stood := { row := fnExactReportUptoRow, standIns := [], harness := (true, "d0c69bcdb95d37a636c64f0dc3e1550fa872f42a8a9b376ea41eb651a92fa5cf"), looks := true }, kinds := [], alts := [], laidByText := true, laidKinds := [.data, .data, .data, .data, .sentinel, .sentinel, .pinned], laidTests := true, laidLooks := .later }
def FnExactReportUptoCardSaid : Prop := Claim7.holds Tryz.pinned (.plain (OpenSpec.upto fnExactReportSpec)) fnExactReportUptoCard
end Rows
end Go.Proofs.YtkgloicnfphmoaaGreatDoor
