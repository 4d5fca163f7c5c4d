/-
  DERIVED. GIVEN WITH THE SEED: THE CARDS: each row of YtnhdohednekhjaaGreatDoorRows.lean that lists a variable, with what it lists TIED to the program's text (the seventh form; the later family's looks); each row that meets fmt, with fmt's text TOLD by the authors' own Lean function (tested against real Go, not proved from fmt's source: count such statements apart). THE CARD IS WHAT COUNTS. Prove the row's statement (the work); the ties are given (YtnhdohednekhjaaGreatDoorTie.lean); close each card by the builder's one call (the guide's Derived/Test/ToyasCard.lean, 'card_holds'). Laid BY PROGRAM, IN A SANDBOX (cutbox-door.mjs). By AI agents, Wed Nov 11 2026. No macro, syntax, notation, axiom, sorry.
-/
import Derived.Test.YtnhdohednekhjaaGreatDoorRows
import GoSem.ClaimSeven
namespace Go.Proofs.YtnhdohednekhjaaGreatDoor
namespace Rows

/-- THE TIED CARD OF 'laws.FnFormulas'. -/
def fnFormulasCard : Claim7 := { stood := { row := fnFormulasRow, standIns := [], harness := (true, "56b83b8e6653aaf53f2234b90a9e0abe6eeb22c4361f728eb84ffc86a1224cd5"), looks := true }, kinds := [], alts := [], laidByText := true, laidKinds := [.data, .data, .data, .data, .sentinel, .sentinel, .pinned], laidTests := true, laidLooks := .later }
def FnFormulasCardSaid : Prop := Claim7.holds Tryz.pinned (.plain (OpenSpec.ofChange fnFormulasSpec)) fnFormulasCard

/-- THE TIED CARD OF 'laws.FnOperations'. -/
def fnOperationsCard : Claim7 := { stood := { row := fnOperationsRow, standIns := [], harness := (true, "56b83b8e6653aaf53f2234b90a9e0abe6eeb22c4361f728eb84ffc86a1224cd5"), looks := true }, kinds := [], alts := [], laidByText := true, laidKinds := [.data, .data, .data, .data, .sentinel, .sentinel, .pinned], laidTests := true, laidLooks := .later }
def FnOperationsCardSaid : Prop := Claim7.holds Tryz.pinned (.plain (OpenSpec.ofChange fnOperationsSpec)) fnOperationsCard

/-- THE SECOND FORM's CARD OF 'laws.FnFormulas'. -/
def fnFormulasUptoCard : Claim7 := { stood := { row := fnFormulasUptoRow, standIns := [], harness := (true, "56b83b8e6653aaf53f2234b90a9e0abe6eeb22c4361f728eb84ffc86a1224cd5"), looks := true }, kinds := [], alts := [], laidByText := true, laidKinds := [.data, .data, .data, .data, .sentinel, .sentinel, .pinned], laidTests := true, laidLooks := .later }
def FnFormulasUptoCardSaid : Prop := Claim7.holds Tryz.pinned (.plain (OpenSpec.upto fnFormulasSpec)) fnFormulasUptoCard

/-- THE SECOND FORM's CARD OF 'laws.FnOperations'. -/
def fnOperationsUptoCard : Claim7 := { stood := { row := fnOperationsUptoRow, standIns := [], harness := (true, "56b83b8e6653aaf53f2234b90a9e0abe6eeb22c4361f728eb84ffc86a1224cd5"), looks := true }, kinds := [], alts := [], laidByText := true, laidKinds := [.data, .data, .data, .data, .sentinel, .sentinel, .pinned], laidTests := true, laidLooks := .later }
def FnOperationsUptoCardSaid : Prop := Claim7.holds Tryz.pinned (.plain (OpenSpec.upto fnOperationsSpec)) fnOperationsUptoCard
end Rows
end Go.Proofs.YtnhdohednekhjaaGreatDoor
