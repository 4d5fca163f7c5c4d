/-
  DERIVED. GIVEN WITH THE SEED: THE CARDS: each row of YtggelmbnliajeaaGreatDoorRows.lean that lists a variable, with what it lists TIED to the program's text (the seventh form; the later family's looks); each row that meets fmt, with fmt's text TOLD by the authors' own Lean function (tested against real Go, not proved from fmt's source: count such statements apart). THE CARD IS WHAT COUNTS. Prove the row's statement (the work); the ties are given (YtggelmbnliajeaaGreatDoorTie.lean); close each card by the builder's one call (the guide's Derived/Test/ToyasCard.lean, 'card_holds'). Laid BY PROGRAM, IN A SANDBOX (cutbox-door.mjs). By AI agents, Wed Nov 11 2026. No macro, syntax, notation, axiom, sorry.
-/
import Derived.Test.YtggelmbnliajeaaGreatDoorRows
import GoSem.ClaimSeven
namespace Go.Proofs.YtggelmbnliajeaaGreatDoor
namespace Rows

/-- THE TIED CARD OF 'laws.FnExactClosureOf'. -/
def fnExactClosureOfCard : Claim7 := { stood := { row := fnExactClosureOfRow, standIns := [], harness := (true, "5ce06ed78c089f0f336ac2af1ec859754ca6440360736be21d8b1aa08955e2d7"), looks := false }, kinds := [], alts := [], laidByText := true, laidKinds := [.data, .data, .data], laidTests := true, laidLooks := .later }
def FnExactClosureOfCardSaid : Prop := Claim7.holds Tryz.pinned (.plain (OpenSpec.ofChange fnExactClosureOfSpec)) fnExactClosureOfCard

/-- THE TIED CARD OF 'laws.FnKept'. -/
def fnKeptCard : Claim7 := { stood := { row := fnKeptRow, standIns := [], harness := (true, "5ce06ed78c089f0f336ac2af1ec859754ca6440360736be21d8b1aa08955e2d7"), looks := false }, kinds := [], alts := [], laidByText := true, laidKinds := [.data, .data, .data], laidTests := true, laidLooks := .later }
def FnKeptCardSaid : Prop := Claim7.holds Tryz.pinned (.plain (OpenSpec.ofChange fnKeptSpec)) fnKeptCard

/-- THE SECOND FORM's CARD OF 'laws.FnExactClosureOf'. -/
def fnExactClosureOfUptoCard : Claim7 := { stood := { row := fnExactClosureOfUptoRow, standIns := [], harness := (true, "5ce06ed78c089f0f336ac2af1ec859754ca6440360736be21d8b1aa08955e2d7"), looks := false }, kinds := [], alts := [], laidByText := true, laidKinds := [.data, .data, .data], laidTests := true, laidLooks := .later }
def FnExactClosureOfUptoCardSaid : Prop := Claim7.holds Tryz.pinned (.plain (OpenSpec.upto fnExactClosureOfSpec)) fnExactClosureOfUptoCard

/-- THE SECOND FORM's CARD OF 'laws.FnKept'. -/
def fnKeptUptoCard : Claim7 := { stood := { row := fnKeptUptoRow, standIns := [], harness := (true, "5ce06ed78c089f0f336ac2af1ec859754ca6440360736be21d8b1aa08955e2d7"), looks := false }, kinds := [], alts := [], laidByText := true, laidKinds := [.data, .data, .data], laidTests := true, laidLooks := .later }
def FnKeptUptoCardSaid : Prop := Claim7.holds Tryz.pinned (.plain (OpenSpec.upto fnKeptSpec)) fnKeptUptoCard
end Rows
end Go.Proofs.YtggelmbnliajeaaGreatDoor
