/-
  No cell of these rows narrows 'for every input' (looked for: loops, veiled, ifaces, maps, wideKeys, modest, calm, conditions, laid).
  DERIVED. THE GIVEN ROWS OF THIS SEAT. 12 by the template 'for every input the law returns true; each argument reads behind the call as it read before'; 0 by the template 'total and deterministic' (their statements: YtigclobkmocfkaaTotals.lean).
  GIVEN WITH THE SEED: the statements are not yours to turn. If you find one false, say at which input.
  Laid BY PROGRAM, IN A SANDBOX (cutbox-rows.mjs): the forced cells as the released guide's own fill.sh prints them over the translation 873d4ddc84062600… (all of the seat's roots in one cut). By AI agents, Wed Nov 11 2026. No macro, syntax, notation, axiom, sorry.
-/
import Derived.Test.YtigclobkmocfkaaChecked
import GoSem.Claim
import GoSem.ClaimJoined
import GoSem.ClaimMapViews
import Derived.JoinedTies
import Derived.KernelRfl
namespace Go.Proofs.Ytigclobkmocfkaa
/- THE CELL 'sum', in the pinned program and in every row, IS THE sha256 OF THE DUMP (.gsa) THAT YtigclobkmocfkaaProg.lean LOADS. Nothing in Lean hashes anything: it is a label: what it is worth is what the hold of that sum in a sandbox is worth. -/
noncomputable def Try.pinned : Pinned := { name := "ytigclobkmocfkaa", sum := "873d4ddc84062600df3b093fd8f5ca169b86ed5af971660448276fe02fdb549c", checked := Try.checked }
namespace Rows
def none {H : Type} : Left H := { results := [], args := [] }

/-- 'laws.FnExactIsPolymorphism': WHATEVER THE INPUT: true; the input reads as it did. -/
def fnExactIsPolymorphismSpec : ChangeSpec := { name := "fnExactIsPolymorphism", fn := fun _ => fun
  | [d1, d2] => { results := [.lit (.bool true)], args := [d1, d2] }
  | _ => none }
def fnExactIsPolymorphismRow : OpenClaim := { program := "ytigclobkmocfkaa", sum := "873d4ddc84062600df3b093fd8f5ca169b86ed5af971660448276fe02fdb549c", func := "loop.example/g01085/laws.FnExactIsPolymorphism", spec := "fnExactIsPolymorphism", unfollowed := true, recurses := true, apart := false }
def FnExactIsPolymorphismSaid : Prop := fnExactIsPolymorphismRow.holds Try.pinned (OpenSpec.ofChange fnExactIsPolymorphismSpec)

/-- ITS FALSE NEIGHBOUR: 'it returns false'. Refute it at one input. -/
def fnExactIsPolymorphismWrong : ChangeSpec := { name := "fnExactIsPolymorphism", fn := fun _ => fun
  | [d1, d2] => { results := [.lit (.bool false)], args := [d1, d2] }
  | _ => none }
def FnExactIsPolymorphismWrongFalsely : Prop := fnExactIsPolymorphismRow.holds Try.pinned (OpenSpec.ofChange fnExactIsPolymorphismWrong)

/-- 'laws.FnExactMergeVariables': WHATEVER THE INPUT: true; the input reads as it did. -/
def fnExactMergeVariablesSpec : ChangeSpec := { name := "fnExactMergeVariables", fn := fun _ => fun
  | [d1, d2, d3, d4] => { results := [.lit (.bool true)], args := [d1, d2, d3, d4] }
  | _ => none }
def fnExactMergeVariablesRow : OpenClaim := { program := "ytigclobkmocfkaa", sum := "873d4ddc84062600df3b093fd8f5ca169b86ed5af971660448276fe02fdb549c", func := "loop.example/g01085/laws.FnExactMergeVariables", spec := "fnExactMergeVariables", unfollowed := true, recurses := true, apart := false }
def FnExactMergeVariablesSaid : Prop := fnExactMergeVariablesRow.holds Try.pinned (OpenSpec.ofChange fnExactMergeVariablesSpec)

/-- ITS FALSE NEIGHBOUR: 'it returns false'. Refute it at one input. -/
def fnExactMergeVariablesWrong : ChangeSpec := { name := "fnExactMergeVariables", fn := fun _ => fun
  | [d1, d2, d3, d4] => { results := [.lit (.bool false)], args := [d1, d2, d3, d4] }
  | _ => none }
def FnExactMergeVariablesWrongFalsely : Prop := fnExactMergeVariablesRow.holds Try.pinned (OpenSpec.ofChange fnExactMergeVariablesWrong)

/-- 'laws.FnExactInstanceFormula': WHATEVER THE INPUT: true; the input reads as it did. -/
def fnExactInstanceFormulaSpec : ChangeSpec := { name := "fnExactInstanceFormula", fn := fun _ => fun
  | [d1, d2, d3] => { results := [.lit (.bool true)], args := [d1, d2, d3] }
  | _ => none }
def fnExactInstanceFormulaRow : OpenClaim := { program := "ytigclobkmocfkaa", sum := "873d4ddc84062600df3b093fd8f5ca169b86ed5af971660448276fe02fdb549c", func := "loop.example/g01085/laws.FnExactInstanceFormula", spec := "fnExactInstanceFormula", unfollowed := true, recurses := true, apart := false }
def FnExactInstanceFormulaSaid : Prop := fnExactInstanceFormulaRow.holds Try.pinned (OpenSpec.ofChange fnExactInstanceFormulaSpec)

/-- ITS FALSE NEIGHBOUR: 'it returns false'. Refute it at one input. -/
def fnExactInstanceFormulaWrong : ChangeSpec := { name := "fnExactInstanceFormula", fn := fun _ => fun
  | [d1, d2, d3] => { results := [.lit (.bool false)], args := [d1, d2, d3] }
  | _ => none }
def FnExactInstanceFormulaWrongFalsely : Prop := fnExactInstanceFormulaRow.holds Try.pinned (OpenSpec.ofChange fnExactInstanceFormulaWrong)

/-- 'laws.FnExactCountSolutions': WHATEVER THE INPUT: true; the input reads as it did. -/
def fnExactCountSolutionsSpec : ChangeSpec := { name := "fnExactCountSolutions", fn := fun _ => fun
  | [d1, d2] => { results := [.lit (.bool true)], args := [d1, d2] }
  | _ => none }
def fnExactCountSolutionsRow : OpenClaim := { program := "ytigclobkmocfkaa", sum := "873d4ddc84062600df3b093fd8f5ca169b86ed5af971660448276fe02fdb549c", func := "loop.example/g01085/laws.FnExactCountSolutions", spec := "fnExactCountSolutions", unfollowed := true, recurses := true, apart := false }
def FnExactCountSolutionsSaid : Prop := fnExactCountSolutionsRow.holds Try.pinned (OpenSpec.ofChange fnExactCountSolutionsSpec)

/-- ITS FALSE NEIGHBOUR: 'it returns false'. Refute it at one input. -/
def fnExactCountSolutionsWrong : ChangeSpec := { name := "fnExactCountSolutions", fn := fun _ => fun
  | [d1, d2] => { results := [.lit (.bool false)], args := [d1, d2] }
  | _ => none }
def FnExactCountSolutionsWrongFalsely : Prop := fnExactCountSolutionsRow.holds Try.pinned (OpenSpec.ofChange fnExactCountSolutionsWrong)

/-- 'laws.FnExactConjoinFormulas': WHATEVER THE INPUT: true; the input reads as it did. -/
def fnExactConjoinFormulasSpec : ChangeSpec := { name := "fnExactConjoinFormulas", fn := fun _ => fun
  | [d1, d2, d3] => { results := [.lit (.bool true)], args := [d1, d2, d3] }
  | _ => none }
def fnExactConjoinFormulasRow : OpenClaim := { program := "ytigclobkmocfkaa", sum := "873d4ddc84062600df3b093fd8f5ca169b86ed5af971660448276fe02fdb549c", func := "loop.example/g01085/laws.FnExactConjoinFormulas", spec := "fnExactConjoinFormulas", unfollowed := true, recurses := true, apart := false }
def FnExactConjoinFormulasSaid : Prop := fnExactConjoinFormulasRow.holds Try.pinned (OpenSpec.ofChange fnExactConjoinFormulasSpec)

/-- ITS FALSE NEIGHBOUR: 'it returns false'. Refute it at one input. -/
def fnExactConjoinFormulasWrong : ChangeSpec := { name := "fnExactConjoinFormulas", fn := fun _ => fun
  | [d1, d2, d3] => { results := [.lit (.bool false)], args := [d1, d2, d3] }
  | _ => none }
def FnExactConjoinFormulasWrongFalsely : Prop := fnExactConjoinFormulasRow.holds Try.pinned (OpenSpec.ofChange fnExactConjoinFormulasWrong)

/-- 'laws.FnExactReplaceRel': WHATEVER THE INPUT: true; the input reads as it did. -/
def fnExactReplaceRelSpec : ChangeSpec := { name := "fnExactReplaceRel", fn := fun _ => fun
  | [d1, d2, d3, d4] => { results := [.lit (.bool true)], args := [d1, d2, d3, d4] }
  | _ => none }
def fnExactReplaceRelRow : OpenClaim := { program := "ytigclobkmocfkaa", sum := "873d4ddc84062600df3b093fd8f5ca169b86ed5af971660448276fe02fdb549c", func := "loop.example/g01085/laws.FnExactReplaceRel", spec := "fnExactReplaceRel", unfollowed := true, recurses := true, apart := false }
def FnExactReplaceRelSaid : Prop := fnExactReplaceRelRow.holds Try.pinned (OpenSpec.ofChange fnExactReplaceRelSpec)

/-- ITS FALSE NEIGHBOUR: 'it returns false'. Refute it at one input. -/
def fnExactReplaceRelWrong : ChangeSpec := { name := "fnExactReplaceRel", fn := fun _ => fun
  | [d1, d2, d3, d4] => { results := [.lit (.bool false)], args := [d1, d2, d3, d4] }
  | _ => none }
def FnExactReplaceRelWrongFalsely : Prop := fnExactReplaceRelRow.holds Try.pinned (OpenSpec.ofChange fnExactReplaceRelWrong)

/-- 'laws.FnExactFirstPairs': WHATEVER THE INPUT: true; the input reads as it did. -/
def fnExactFirstPairsSpec : ChangeSpec := { name := "fnExactFirstPairs", fn := fun _ => fun
  | [d1, d2] => { results := [.lit (.bool true)], args := [d1, d2] }
  | _ => none }
def fnExactFirstPairsRow : OpenClaim := { program := "ytigclobkmocfkaa", sum := "873d4ddc84062600df3b093fd8f5ca169b86ed5af971660448276fe02fdb549c", func := "loop.example/g01085/laws.FnExactFirstPairs", spec := "fnExactFirstPairs", unfollowed := true, recurses := true, apart := false }
def FnExactFirstPairsSaid : Prop := fnExactFirstPairsRow.holds Try.pinned (OpenSpec.ofChange fnExactFirstPairsSpec)

/-- ITS FALSE NEIGHBOUR: 'it returns false'. Refute it at one input. -/
def fnExactFirstPairsWrong : ChangeSpec := { name := "fnExactFirstPairs", fn := fun _ => fun
  | [d1, d2] => { results := [.lit (.bool false)], args := [d1, d2] }
  | _ => none }
def FnExactFirstPairsWrongFalsely : Prop := fnExactFirstPairsRow.holds Try.pinned (OpenSpec.ofChange fnExactFirstPairsWrong)

/-- 'laws.FnExactHoldsAt': WHATEVER THE INPUT: true; the input reads as it did. -/
def fnExactHoldsAtSpec : ChangeSpec := { name := "fnExactHoldsAt", fn := fun _ => fun
  | [d1, d2, d3] => { results := [.lit (.bool true)], args := [d1, d2, d3] }
  | _ => none }
def fnExactHoldsAtRow : OpenClaim := { program := "ytigclobkmocfkaa", sum := "873d4ddc84062600df3b093fd8f5ca169b86ed5af971660448276fe02fdb549c", func := "loop.example/g01085/laws.FnExactHoldsAt", spec := "fnExactHoldsAt", unfollowed := true, recurses := true, apart := false }
def FnExactHoldsAtSaid : Prop := fnExactHoldsAtRow.holds Try.pinned (OpenSpec.ofChange fnExactHoldsAtSpec)

/-- ITS FALSE NEIGHBOUR: 'it returns false'. Refute it at one input. -/
def fnExactHoldsAtWrong : ChangeSpec := { name := "fnExactHoldsAt", fn := fun _ => fun
  | [d1, d2, d3] => { results := [.lit (.bool false)], args := [d1, d2, d3] }
  | _ => none }
def FnExactHoldsAtWrongFalsely : Prop := fnExactHoldsAtRow.holds Try.pinned (OpenSpec.ofChange fnExactHoldsAtWrong)

/-- 'laws.FnExactIndicatorFormula': WHATEVER THE INPUT: true; the input reads as it did. -/
def fnExactIndicatorFormulaSpec : ChangeSpec := { name := "fnExactIndicatorFormula", fn := fun _ => fun
  | [d1, d2] => { results := [.lit (.bool true)], args := [d1, d2] }
  | _ => none }
def fnExactIndicatorFormulaRow : OpenClaim := { program := "ytigclobkmocfkaa", sum := "873d4ddc84062600df3b093fd8f5ca169b86ed5af971660448276fe02fdb549c", func := "loop.example/g01085/laws.FnExactIndicatorFormula", spec := "fnExactIndicatorFormula", unfollowed := true, recurses := true, apart := false }
def FnExactIndicatorFormulaSaid : Prop := fnExactIndicatorFormulaRow.holds Try.pinned (OpenSpec.ofChange fnExactIndicatorFormulaSpec)

/-- ITS FALSE NEIGHBOUR: 'it returns false'. Refute it at one input. -/
def fnExactIndicatorFormulaWrong : ChangeSpec := { name := "fnExactIndicatorFormula", fn := fun _ => fun
  | [d1, d2] => { results := [.lit (.bool false)], args := [d1, d2] }
  | _ => none }
def FnExactIndicatorFormulaWrongFalsely : Prop := fnExactIndicatorFormulaRow.holds Try.pinned (OpenSpec.ofChange fnExactIndicatorFormulaWrong)

/-- 'laws.FnExactAllSolutions': WHATEVER THE INPUT: true; the input reads as it did. -/
def fnExactAllSolutionsSpec : ChangeSpec := { name := "fnExactAllSolutions", fn := fun _ => fun
  | [d1, d2] => { results := [.lit (.bool true)], args := [d1, d2] }
  | _ => none }
def fnExactAllSolutionsRow : OpenClaim := { program := "ytigclobkmocfkaa", sum := "873d4ddc84062600df3b093fd8f5ca169b86ed5af971660448276fe02fdb549c", func := "loop.example/g01085/laws.FnExactAllSolutions", spec := "fnExactAllSolutions", unfollowed := true, recurses := true, apart := false }
def FnExactAllSolutionsSaid : Prop := fnExactAllSolutionsRow.holds Try.pinned (OpenSpec.ofChange fnExactAllSolutionsSpec)

/-- ITS FALSE NEIGHBOUR: 'it returns false'. Refute it at one input. -/
def fnExactAllSolutionsWrong : ChangeSpec := { name := "fnExactAllSolutions", fn := fun _ => fun
  | [d1, d2] => { results := [.lit (.bool false)], args := [d1, d2] }
  | _ => none }
def FnExactAllSolutionsWrongFalsely : Prop := fnExactAllSolutionsRow.holds Try.pinned (OpenSpec.ofChange fnExactAllSolutionsWrong)

/-- 'laws.FnExactFirstSolution': WHATEVER THE INPUT: true; the input reads as it did. -/
def fnExactFirstSolutionSpec : ChangeSpec := { name := "fnExactFirstSolution", fn := fun _ => fun
  | [d1, d2] => { results := [.lit (.bool true)], args := [d1, d2] }
  | _ => none }
def fnExactFirstSolutionRow : OpenClaim := { program := "ytigclobkmocfkaa", sum := "873d4ddc84062600df3b093fd8f5ca169b86ed5af971660448276fe02fdb549c", func := "loop.example/g01085/laws.FnExactFirstSolution", spec := "fnExactFirstSolution", unfollowed := true, recurses := true, apart := false }
def FnExactFirstSolutionSaid : Prop := fnExactFirstSolutionRow.holds Try.pinned (OpenSpec.ofChange fnExactFirstSolutionSpec)

/-- ITS FALSE NEIGHBOUR: 'it returns false'. Refute it at one input. -/
def fnExactFirstSolutionWrong : ChangeSpec := { name := "fnExactFirstSolution", fn := fun _ => fun
  | [d1, d2] => { results := [.lit (.bool false)], args := [d1, d2] }
  | _ => none }
def FnExactFirstSolutionWrongFalsely : Prop := fnExactFirstSolutionRow.holds Try.pinned (OpenSpec.ofChange fnExactFirstSolutionWrong)

/-- 'laws.FnExactCountPolymorphisms': WHATEVER THE INPUT: true; the input reads as it did. -/
def fnExactCountPolymorphismsSpec : ChangeSpec := { name := "fnExactCountPolymorphisms", fn := fun _ => fun
  | [d1, d2] => { results := [.lit (.bool true)], args := [d1, d2] }
  | _ => none }
def fnExactCountPolymorphismsRow : OpenClaim := { program := "ytigclobkmocfkaa", sum := "873d4ddc84062600df3b093fd8f5ca169b86ed5af971660448276fe02fdb549c", func := "loop.example/g01085/laws.FnExactCountPolymorphisms", spec := "fnExactCountPolymorphisms", unfollowed := true, recurses := true, apart := false }
def FnExactCountPolymorphismsSaid : Prop := fnExactCountPolymorphismsRow.holds Try.pinned (OpenSpec.ofChange fnExactCountPolymorphismsSpec)

/-- ITS FALSE NEIGHBOUR: 'it returns false'. Refute it at one input. -/
def fnExactCountPolymorphismsWrong : ChangeSpec := { name := "fnExactCountPolymorphisms", fn := fun _ => fun
  | [d1, d2] => { results := [.lit (.bool false)], args := [d1, d2] }
  | _ => none }
def FnExactCountPolymorphismsWrongFalsely : Prop := fnExactCountPolymorphismsRow.holds Try.pinned (OpenSpec.ofChange fnExactCountPolymorphismsWrong)

/- THE SECOND FORM. 'bulk': how many values and letters a reading holds, each counted each time it is reached (what is shared counts as often as it is met; a slice's spare places count too). A statement '..UptoSaid' is the law's where the arguments, and the package variables that the reading takes, are together of bulk at most 1048576: NARROWER than '..Said'. Prove '..Said' where nothing that the law and all that it calls make is longer than what came in: it says more and counts as full. Else prove '..UptoSaid'. A law counts once. -/
mutual
def uptoBulk {H : Type} : DataW H → Nat
  | .lit (.string bytes) => bytes.length + 1
  | .lit _ => 1
  | .nil => 1
  | .ptr d => uptoBulk d + 1
  | .slice elems spare => uptoBulkAll elems + uptoBulkAll spare + 1
  | .agg parts => uptoBulkAll parts + 1
  | .iface _ d => uptoBulk d + 1
  | .map entries => uptoBulkEntries entries + 1
  | .held _ => 1
def uptoBulkAll {H : Type} : List (DataW H) → Nat
  | [] => 0
  | d :: r => uptoBulk d + uptoBulkAll r
def uptoBulkEntries {H : Type} : List (Lit × DataW H) → Nat
  | [] => 0
  | x :: r => uptoBulkEntry x + uptoBulkEntries r
def uptoBulkEntry {H : Type} : Lit × DataW H → Nat
  | (.string bytes, d) => bytes.length + uptoBulk d + 1
  | (_, d) => uptoBulk d + 1
 end
def uptoSmall : (H : Type) → List (DataW H) → Bool := fun _ ds => decide (uptoBulkAll ds ≤ 1048576)
def OpenSpec.upto (s : _root_.Go.ChangeSpec) : _root_.Go.OpenSpec := { _root_.Go.OpenSpec.ofChange s with cond := some uptoSmall }

/-- 'laws.FnExactIsPolymorphism', WHERE WHAT IT READS IS OF BULK AT MOST 1048576: true; the input reads as it did. -/
def fnExactIsPolymorphismUptoRow : OpenClaim := { program := "ytigclobkmocfkaa", sum := "873d4ddc84062600df3b093fd8f5ca169b86ed5af971660448276fe02fdb549c", func := "loop.example/g01085/laws.FnExactIsPolymorphism", spec := "fnExactIsPolymorphism", unfollowed := true, recurses := true, apart := false, narrowed := true }
def FnExactIsPolymorphismUptoSaid : Prop := fnExactIsPolymorphismUptoRow.holds Try.pinned (OpenSpec.upto fnExactIsPolymorphismSpec)

/-- 'laws.FnExactMergeVariables', WHERE WHAT IT READS IS OF BULK AT MOST 1048576: true; the input reads as it did. -/
def fnExactMergeVariablesUptoRow : OpenClaim := { program := "ytigclobkmocfkaa", sum := "873d4ddc84062600df3b093fd8f5ca169b86ed5af971660448276fe02fdb549c", func := "loop.example/g01085/laws.FnExactMergeVariables", spec := "fnExactMergeVariables", unfollowed := true, recurses := true, apart := false, narrowed := true }
def FnExactMergeVariablesUptoSaid : Prop := fnExactMergeVariablesUptoRow.holds Try.pinned (OpenSpec.upto fnExactMergeVariablesSpec)

/-- 'laws.FnExactInstanceFormula', WHERE WHAT IT READS IS OF BULK AT MOST 1048576: true; the input reads as it did. -/
def fnExactInstanceFormulaUptoRow : OpenClaim := { program := "ytigclobkmocfkaa", sum := "873d4ddc84062600df3b093fd8f5ca169b86ed5af971660448276fe02fdb549c", func := "loop.example/g01085/laws.FnExactInstanceFormula", spec := "fnExactInstanceFormula", unfollowed := true, recurses := true, apart := false, narrowed := true }
def FnExactInstanceFormulaUptoSaid : Prop := fnExactInstanceFormulaUptoRow.holds Try.pinned (OpenSpec.upto fnExactInstanceFormulaSpec)

/-- 'laws.FnExactCountSolutions', WHERE WHAT IT READS IS OF BULK AT MOST 1048576: true; the input reads as it did. -/
def fnExactCountSolutionsUptoRow : OpenClaim := { program := "ytigclobkmocfkaa", sum := "873d4ddc84062600df3b093fd8f5ca169b86ed5af971660448276fe02fdb549c", func := "loop.example/g01085/laws.FnExactCountSolutions", spec := "fnExactCountSolutions", unfollowed := true, recurses := true, apart := false, narrowed := true }
def FnExactCountSolutionsUptoSaid : Prop := fnExactCountSolutionsUptoRow.holds Try.pinned (OpenSpec.upto fnExactCountSolutionsSpec)

/-- 'laws.FnExactConjoinFormulas', WHERE WHAT IT READS IS OF BULK AT MOST 1048576: true; the input reads as it did. -/
def fnExactConjoinFormulasUptoRow : OpenClaim := { program := "ytigclobkmocfkaa", sum := "873d4ddc84062600df3b093fd8f5ca169b86ed5af971660448276fe02fdb549c", func := "loop.example/g01085/laws.FnExactConjoinFormulas", spec := "fnExactConjoinFormulas", unfollowed := true, recurses := true, apart := false, narrowed := true }
def FnExactConjoinFormulasUptoSaid : Prop := fnExactConjoinFormulasUptoRow.holds Try.pinned (OpenSpec.upto fnExactConjoinFormulasSpec)

/-- 'laws.FnExactReplaceRel', WHERE WHAT IT READS IS OF BULK AT MOST 1048576: true; the input reads as it did. -/
def fnExactReplaceRelUptoRow : OpenClaim := { program := "ytigclobkmocfkaa", sum := "873d4ddc84062600df3b093fd8f5ca169b86ed5af971660448276fe02fdb549c", func := "loop.example/g01085/laws.FnExactReplaceRel", spec := "fnExactReplaceRel", unfollowed := true, recurses := true, apart := false, narrowed := true }
def FnExactReplaceRelUptoSaid : Prop := fnExactReplaceRelUptoRow.holds Try.pinned (OpenSpec.upto fnExactReplaceRelSpec)

/-- 'laws.FnExactFirstPairs', WHERE WHAT IT READS IS OF BULK AT MOST 1048576: true; the input reads as it did. -/
def fnExactFirstPairsUptoRow : OpenClaim := { program := "ytigclobkmocfkaa", sum := "873d4ddc84062600df3b093fd8f5ca169b86ed5af971660448276fe02fdb549c", func := "loop.example/g01085/laws.FnExactFirstPairs", spec := "fnExactFirstPairs", unfollowed := true, recurses := true, apart := false, narrowed := true }
def FnExactFirstPairsUptoSaid : Prop := fnExactFirstPairsUptoRow.holds Try.pinned (OpenSpec.upto fnExactFirstPairsSpec)

/-- 'laws.FnExactHoldsAt', WHERE WHAT IT READS IS OF BULK AT MOST 1048576: true; the input reads as it did. -/
def fnExactHoldsAtUptoRow : OpenClaim := { program := "ytigclobkmocfkaa", sum := "873d4ddc84062600df3b093fd8f5ca169b86ed5af971660448276fe02fdb549c", func := "loop.example/g01085/laws.FnExactHoldsAt", spec := "fnExactHoldsAt", unfollowed := true, recurses := true, apart := false, narrowed := true }
def FnExactHoldsAtUptoSaid : Prop := fnExactHoldsAtUptoRow.holds Try.pinned (OpenSpec.upto fnExactHoldsAtSpec)

/-- 'laws.FnExactIndicatorFormula', WHERE WHAT IT READS IS OF BULK AT MOST 1048576: true; the input reads as it did. -/
def fnExactIndicatorFormulaUptoRow : OpenClaim := { program := "ytigclobkmocfkaa", sum := "873d4ddc84062600df3b093fd8f5ca169b86ed5af971660448276fe02fdb549c", func := "loop.example/g01085/laws.FnExactIndicatorFormula", spec := "fnExactIndicatorFormula", unfollowed := true, recurses := true, apart := false, narrowed := true }
def FnExactIndicatorFormulaUptoSaid : Prop := fnExactIndicatorFormulaUptoRow.holds Try.pinned (OpenSpec.upto fnExactIndicatorFormulaSpec)

/-- 'laws.FnExactAllSolutions', WHERE WHAT IT READS IS OF BULK AT MOST 1048576: true; the input reads as it did. -/
def fnExactAllSolutionsUptoRow : OpenClaim := { program := "ytigclobkmocfkaa", sum := "873d4ddc84062600df3b093fd8f5ca169b86ed5af971660448276fe02fdb549c", func := "loop.example/g01085/laws.FnExactAllSolutions", spec := "fnExactAllSolutions", unfollowed := true, recurses := true, apart := false, narrowed := true }
def FnExactAllSolutionsUptoSaid : Prop := fnExactAllSolutionsUptoRow.holds Try.pinned (OpenSpec.upto fnExactAllSolutionsSpec)

/-- 'laws.FnExactFirstSolution', WHERE WHAT IT READS IS OF BULK AT MOST 1048576: true; the input reads as it did. -/
def fnExactFirstSolutionUptoRow : OpenClaim := { program := "ytigclobkmocfkaa", sum := "873d4ddc84062600df3b093fd8f5ca169b86ed5af971660448276fe02fdb549c", func := "loop.example/g01085/laws.FnExactFirstSolution", spec := "fnExactFirstSolution", unfollowed := true, recurses := true, apart := false, narrowed := true }
def FnExactFirstSolutionUptoSaid : Prop := fnExactFirstSolutionUptoRow.holds Try.pinned (OpenSpec.upto fnExactFirstSolutionSpec)

/-- 'laws.FnExactCountPolymorphisms', WHERE WHAT IT READS IS OF BULK AT MOST 1048576: true; the input reads as it did. -/
def fnExactCountPolymorphismsUptoRow : OpenClaim := { program := "ytigclobkmocfkaa", sum := "873d4ddc84062600df3b093fd8f5ca169b86ed5af971660448276fe02fdb549c", func := "loop.example/g01085/laws.FnExactCountPolymorphisms", spec := "fnExactCountPolymorphisms", unfollowed := true, recurses := true, apart := false, narrowed := true }
def FnExactCountPolymorphismsUptoSaid : Prop := fnExactCountPolymorphismsUptoRow.holds Try.pinned (OpenSpec.upto fnExactCountPolymorphismsSpec)

end Rows
end Go.Proofs.Ytigclobkmocfkaa
