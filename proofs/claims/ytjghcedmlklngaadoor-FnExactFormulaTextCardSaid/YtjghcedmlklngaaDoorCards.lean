/-
  DERIVED. GIVEN WITH THE SEED: THE CARDS: each row of YtjghcedmlklngaaDoorRows.lean that lists a variable, with what it lists TIED to the program's text (the seventh form; the later family's looks); each row that meets fmt, with fmt's text TOLD by the authors' own Lean function (tested against real Go, not proved from fmt's source: count such statements apart). THE CARD IS WHAT COUNTS. Prove the row's statement (the work); the ties are given (YtjghcedmlklngaaDoorTie.lean); close each card by the builder's one call (the guide's Derived/Test/ToyasCard.lean, 'card_holds'). Laid BY PROGRAM, IN A SANDBOX (cutbox-door.mjs). By AI agents, Wed Nov 11 2026. No macro, syntax, notation, axiom, sorry.
-/
import Derived.Test.YtjghcedmlklngaaDoorRows
import GoSem.ClaimSeven
namespace Go.Proofs.YtjghcedmlklngaaDoor
namespace Rows

/-- THE TIED CARD OF 'laws.FnExactInstanceText'. -/
def fnExactInstanceTextCard : Claim7 := { stood := { row := fnExactInstanceTextRow, standIns := [], harness := (true, "aa28f1631c424a9555df02fd9e456c0ebe6182874e5090dbbe4fe4aa06f3003f"), looks := false }, kinds := [], alts := [], laidByText := true, laidKinds := [.data, .data, .data], laidTests := true, laidLooks := .later }
def FnExactInstanceTextCardSaid : Prop := Claim7.holds Tryd.pinned (.plain (OpenSpec.ofChange fnExactInstanceTextSpec)) fnExactInstanceTextCard

/-- THE TIED CARD OF 'laws.FnExactFormulaText'. -/
def fnExactFormulaTextCard : Claim7 := { stood := { row := fnExactFormulaTextRow, standIns := [], harness := (true, "aa28f1631c424a9555df02fd9e456c0ebe6182874e5090dbbe4fe4aa06f3003f"), looks := false }, kinds := [], alts := [], laidByText := true, laidKinds := [.data, .data, .data], laidTests := true, laidLooks := .later }
def FnExactFormulaTextCardSaid : Prop := Claim7.holds Tryd.pinned (.plain (OpenSpec.ofChange fnExactFormulaTextSpec)) fnExactFormulaTextCard

/-- THE SECOND FORM's CARD OF 'laws.FnExactInstanceText'. -/
def fnExactInstanceTextUptoCard : Claim7 := { stood := { row := fnExactInstanceTextUptoRow, standIns := [], harness := (true, "aa28f1631c424a9555df02fd9e456c0ebe6182874e5090dbbe4fe4aa06f3003f"), looks := false }, kinds := [], alts := [], laidByText := true, laidKinds := [.data, .data, .data], laidTests := true, laidLooks := .later }
def FnExactInstanceTextUptoCardSaid : Prop := Claim7.holds Tryd.pinned (.plain (OpenSpec.upto fnExactInstanceTextSpec)) fnExactInstanceTextUptoCard

/-- THE SECOND FORM's CARD OF 'laws.FnExactFormulaText'. -/
def fnExactFormulaTextUptoCard : Claim7 := { stood := { row := fnExactFormulaTextUptoRow, standIns := [], harness := (true, "aa28f1631c424a9555df02fd9e456c0ebe6182874e5090dbbe4fe4aa06f3003f"), looks := false }, kinds := [], alts := [], laidByText := true, laidKinds := [.data, .data, .data], laidTests := true, laidLooks := .later }
def FnExactFormulaTextUptoCardSaid : Prop := Claim7.holds Tryd.pinned (.plain (OpenSpec.upto fnExactFormulaTextSpec)) fnExactFormulaTextUptoCard
end Rows
end Go.Proofs.YtjghcedmlklngaaDoor
