/-
  DERIVED. GIVEN WITH THE SEED: THE CARDS: each row of YtggelmbnliajeaaDoorRows.lean that lists a variable, with what it lists TIED to the program's text (the seventh form; the later family's looks); each row that meets fmt, with fmt's text TOLD by the authors' own Lean function (tested against real Go, not proved from fmt's source: count such statements apart). THE CARD IS WHAT COUNTS. Prove the row's statement (the work); the ties are given (YtggelmbnliajeaaDoorTie.lean); close each card by the builder's one call (the guide's Derived/Test/ToyasCard.lean, 'card_holds'). Laid BY PROGRAM, IN A SANDBOX (cutbox-door.mjs). By AI agents, Wed Nov 11 2026. No macro, syntax, notation, axiom, sorry.
-/
import Derived.Test.YtggelmbnliajeaaDoorRows
import GoSem.ClaimSeven
namespace Go.Proofs.YtggelmbnliajeaaDoor
namespace Rows

/-- THE TIED CARD OF 'laws.FnExactCloneUpTo'. -/
def fnExactCloneUpToCard : Claim7 := { stood := { row := fnExactCloneUpToRow, standIns := [], harness := (true, "dfd6d5ade30ea927334746474c7c533a6b48af2c902964b66019bd7957819323"), looks := false }, kinds := [], alts := [], laidByText := true, laidKinds := [.data, .data, .data], laidTests := true, laidLooks := .later }
def FnExactCloneUpToCardSaid : Prop := Claim7.holds Tryd.pinned (.plain (OpenSpec.ofChange fnExactCloneUpToSpec)) fnExactCloneUpToCard

/-- THE SECOND FORM's CARD OF 'laws.FnExactCloneUpTo'. -/
def fnExactCloneUpToUptoCard : Claim7 := { stood := { row := fnExactCloneUpToUptoRow, standIns := [], harness := (true, "dfd6d5ade30ea927334746474c7c533a6b48af2c902964b66019bd7957819323"), looks := false }, kinds := [], alts := [], laidByText := true, laidKinds := [.data, .data, .data], laidTests := true, laidLooks := .later }
def FnExactCloneUpToUptoCardSaid : Prop := Claim7.holds Tryd.pinned (.plain (OpenSpec.upto fnExactCloneUpToSpec)) fnExactCloneUpToUptoCard
end Rows
end Go.Proofs.YtggelmbnliajeaaDoor
