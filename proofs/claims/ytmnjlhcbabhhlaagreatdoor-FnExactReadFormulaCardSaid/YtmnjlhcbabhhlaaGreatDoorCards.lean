/-
  DERIVED. GIVEN WITH THE SEED: THE CARDS: each row of YtmnjlhcbabhhlaaGreatDoorRows.lean that lists a variable, with what it lists TIED to the program's text (the seventh form; the later family's looks); each row that meets fmt, with fmt's text TOLD by the authors' own Lean function (tested against real Go, not proved from fmt's source: count such statements apart). THE CARD IS WHAT COUNTS. Prove the row's statement (the work); the ties are given (YtmnjlhcbabhhlaaGreatDoorTie.lean); close each card by the builder's one call (the guide's Derived/Test/ToyasCard.lean, 'card_holds'). Laid BY PROGRAM, IN A SANDBOX (cutbox-door.mjs). By AI agents, Wed Nov 11 2026. No macro, syntax, notation, axiom, sorry.
-/
import Derived.Test.YtmnjlhcbabhhlaaGreatDoorRows
import GoSem.ClaimSeven
namespace Go.Proofs.YtmnjlhcbabhhlaaGreatDoor
namespace Rows

/-- THE TIED CARD OF 'laws.FnExactReadFormula'. -/
def fnExactReadFormulaCard : Claim7 := { stood := { row := fnExactReadFormulaRow, standIns := [], harness := (true, "15d11c7cd17c7f6ae537bb4b7c26d1b320cf06e369c4d33e5d75117a69f82544"), looks := true }, kinds := [], alts := [], laidByText := true, laidKinds := [.data, .data, .data, .data, .sentinel, .sentinel, .pinned], laidTests := true, laidLooks := .later }
def FnExactReadFormulaCardSaid : Prop := Claim7.holds Tryz.pinned (.plain (OpenSpec.ofChange fnExactReadFormulaSpec)) fnExactReadFormulaCard

/-- THE SECOND FORM's CARD OF 'laws.FnExactReadFormula'. -/
def fnExactReadFormulaUptoCard : Claim7 := { stood := { row := fnExactReadFormulaUptoRow, standIns := [], harness := (true, "15d11c7cd17c7f6ae537bb4b7c26d1b320cf06e369c4d33e5d75117a69f82544"), looks := true }, kinds := [], alts := [], laidByText := true, laidKinds := [.data, .data, .data, .data, .sentinel, .sentinel, .pinned], laidTests := true, laidLooks := .later }
def FnExactReadFormulaUptoCardSaid : Prop := Claim7.holds Tryz.pinned (.plain (OpenSpec.upto fnExactReadFormulaSpec)) fnExactReadFormulaUptoCard
end Rows
end Go.Proofs.YtmnjlhcbabhhlaaGreatDoor
