/-
  DERIVED. GIVEN WITH THE SEED: THE CARDS: each row of YtappbijjpcaocaaDoorRows.lean that lists a variable, with what it lists TIED to the program's text (the seventh form; the later family's looks); each row that meets fmt, with fmt's text TOLD by the authors' own Lean function (tested against real Go, not proved from fmt's source: count such statements apart). THE CARD IS WHAT COUNTS. Prove the row's statement (the work); the ties are given (YtappbijjpcaocaaDoorTie.lean); close each card by the builder's one call (the guide's Derived/Test/ToyasCard.lean, 'card_holds'). Laid BY PROGRAM, IN A SANDBOX (cutbox-door.mjs). By AI agents, Wed Nov 11 2026. No macro, syntax, notation, axiom, sorry.
-/
import Derived.Test.YtappbijjpcaocaaDoorRows
import GoSem.ClaimSeven
namespace Go.Proofs.YtappbijjpcaocaaDoor
namespace Rows

/-- THE TIED CARD OF 'laws.FnExactFormatTask'. -/
def fnExactFormatTaskCard : Claim7 := { stood := { row := fnExactFormatTaskRow, standIns := [], harness := (true, "82af8f4c1cca5caa425f1448403cc27490912d31185f529bc9190b80c290eab1"), looks := false }, kinds := [], alts := [], laidByText := true, laidKinds := [.data, .data, .data], laidTests := true, laidLooks := .later }
def FnExactFormatTaskCardSaid : Prop := Claim7.holds Tryd.pinned (.plain (OpenSpec.ofChange fnExactFormatTaskSpec)) fnExactFormatTaskCard

/-- THE SECOND FORM's CARD OF 'laws.FnExactFormatTask'. -/
def fnExactFormatTaskUptoCard : Claim7 := { stood := { row := fnExactFormatTaskUptoRow, standIns := [], harness := (true, "82af8f4c1cca5caa425f1448403cc27490912d31185f529bc9190b80c290eab1"), looks := false }, kinds := [], alts := [], laidByText := true, laidKinds := [.data, .data, .data], laidTests := true, laidLooks := .later }
def FnExactFormatTaskUptoCardSaid : Prop := Claim7.holds Tryd.pinned (.plain (OpenSpec.upto fnExactFormatTaskSpec)) fnExactFormatTaskUptoCard
end Rows
end Go.Proofs.YtappbijjpcaocaaDoor
