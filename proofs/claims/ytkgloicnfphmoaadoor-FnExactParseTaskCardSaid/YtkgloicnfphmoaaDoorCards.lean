/-
  DERIVED. GIVEN WITH THE SEED: THE CARDS: each row of YtkgloicnfphmoaaDoorRows.lean that lists a variable, with what it lists TIED to the program's text (the seventh form; the later family's looks); each row that meets fmt, with fmt's text TOLD by the authors' own Lean function (tested against real Go, not proved from fmt's source: count such statements apart). THE CARD IS WHAT COUNTS. Prove the row's statement (the work); the ties are given (YtkgloicnfphmoaaDoorTie.lean); close each card by the builder's one call (the guide's Derived/Test/ToyasCard.lean, 'card_holds'). Laid BY PROGRAM, IN A SANDBOX (cutbox-door.mjs). By AI agents, Wed Nov 11 2026. No macro, syntax, notation, axiom, sorry.
-/
import Derived.Test.YtkgloicnfphmoaaDoorRows
import GoSem.ClaimSeven
namespace Go.Proofs.YtkgloicnfphmoaaDoor
namespace Rows

/-- THE TIED CARD OF 'laws.FnExactParseTask'. -/
def fnExactParseTaskCard : Claim7 := { stood := { row := fnExactParseTaskRow, standIns := [], harness := (true, "0c35efb2f12a5834fcee9b741d7297d2d25b8c393c42c9448814a04bac77508e"), looks := true }, kinds := [], alts := [], laidByText := true, laidKinds := [.data, .data, .data, .data, .sentinel, .sentinel, .pinned], laidTests := true, laidLooks := .later }
def FnExactParseTaskCardSaid : Prop := Claim7.holds Tryd.pinned (.plain (OpenSpec.ofChange fnExactParseTaskSpec)) fnExactParseTaskCard

/-- THE SECOND FORM's CARD OF 'laws.FnExactParseTask'. -/
def fnExactParseTaskUptoCard : Claim7 := { stood := { row := fnExactParseTaskUptoRow, standIns := [], harness := (true, "0c35efb2f12a5834fcee9b741d7297d2d25b8c393c42c9448814a04bac77508e"), looks := true }, kinds := [], alts := [], laidByText := true, laidKinds := [.data, .data, .data, .data, .sentinel, .sentinel, .pinned], laidTests := true, laidLooks := .later }
def FnExactParseTaskUptoCardSaid : Prop := Claim7.holds Tryd.pinned (.plain (OpenSpec.upto fnExactParseTaskSpec)) fnExactParseTaskUptoCard
end Rows
end Go.Proofs.YtkgloicnfphmoaaDoor
