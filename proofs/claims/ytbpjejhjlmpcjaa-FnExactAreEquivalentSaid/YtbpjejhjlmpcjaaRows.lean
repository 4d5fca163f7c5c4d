/-
  No cell of these rows narrows 'for every input' (looked for: loops, veiled, ifaces, maps, wideKeys, modest, calm, conditions, laid).
  DERIVED. THE GIVEN ROWS OF THIS SEAT. 7 by the template 'for every input the law returns true; each argument reads behind the call as it read before'; 0 by the template 'total and deterministic' (their statements: YtbpjejhjlmpcjaaTotals.lean).
  GIVEN WITH THE SEED: the statements are not yours to turn. If you find one false, say at which input.
  Laid BY PROGRAM, IN A SANDBOX (cutbox-rows.mjs): the forced cells as the released guide's own fill.sh prints them over the translation f77cef7befcdd3c8… (all of the seat's roots in one cut). By AI agents, Wed Nov 11 2026. No macro, syntax, notation, axiom, sorry.
-/
import Derived.Test.YtbpjejhjlmpcjaaChecked
import GoSem.Claim
import GoSem.ClaimJoined
import GoSem.ClaimMapViews
import Derived.JoinedTies
import Derived.KernelRfl
namespace Go.Proofs.Ytbpjejhjlmpcjaa
/- THE CELL 'sum', in the pinned program and in every row, IS THE sha256 OF THE DUMP (.gsa) THAT YtbpjejhjlmpcjaaProg.lean LOADS. Nothing in Lean hashes anything: it is a label: what it is worth is what the hold of that sum in a sandbox is worth. -/
noncomputable def Try.pinned : Pinned := { name := "ytbpjejhjlmpcjaa", sum := "f77cef7befcdd3c85ff3188ba374bc428f2544fe8fcbd6d5a80b80300a7700f3", checked := Try.checked }
namespace Rows
def none {H : Type} : Left H := { results := [], args := [] }

/-- 'laws.FnExactFirstPairs': WHATEVER THE INPUT: true; the input reads as it did. -/
def fnExactFirstPairsSpec : ChangeSpec := { name := "fnExactFirstPairs", fn := fun _ => fun
  | [d1, d2] => { results := [.lit (.bool true)], args := [d1, d2] }
  | _ => none }
def fnExactFirstPairsRow : OpenClaim := { program := "ytbpjejhjlmpcjaa", sum := "f77cef7befcdd3c85ff3188ba374bc428f2544fe8fcbd6d5a80b80300a7700f3", func := "loop.example/g01085/laws.FnExactFirstPairs", spec := "fnExactFirstPairs", unfollowed := true, recurses := true, apart := false }
def FnExactFirstPairsSaid : Prop := fnExactFirstPairsRow.holds Try.pinned (OpenSpec.ofChange fnExactFirstPairsSpec)

/-- ITS FALSE NEIGHBOUR: 'it returns false'. Refute it at one input. -/
def fnExactFirstPairsWrong : ChangeSpec := { name := "fnExactFirstPairs", fn := fun _ => fun
  | [d1, d2] => { results := [.lit (.bool false)], args := [d1, d2] }
  | _ => none }
def FnExactFirstPairsWrongFalsely : Prop := fnExactFirstPairsRow.holds Try.pinned (OpenSpec.ofChange fnExactFirstPairsWrong)

/-- 'laws.FnExactCountSolutions': WHATEVER THE INPUT: true; the input reads as it did. -/
def fnExactCountSolutionsSpec : ChangeSpec := { name := "fnExactCountSolutions", fn := fun _ => fun
  | [d1, d2] => { results := [.lit (.bool true)], args := [d1, d2] }
  | _ => none }
def fnExactCountSolutionsRow : OpenClaim := { program := "ytbpjejhjlmpcjaa", sum := "f77cef7befcdd3c85ff3188ba374bc428f2544fe8fcbd6d5a80b80300a7700f3", func := "loop.example/g01085/laws.FnExactCountSolutions", spec := "fnExactCountSolutions", unfollowed := true, recurses := true, apart := false }
def FnExactCountSolutionsSaid : Prop := fnExactCountSolutionsRow.holds Try.pinned (OpenSpec.ofChange fnExactCountSolutionsSpec)

/-- ITS FALSE NEIGHBOUR: 'it returns false'. Refute it at one input. -/
def fnExactCountSolutionsWrong : ChangeSpec := { name := "fnExactCountSolutions", fn := fun _ => fun
  | [d1, d2] => { results := [.lit (.bool false)], args := [d1, d2] }
  | _ => none }
def FnExactCountSolutionsWrongFalsely : Prop := fnExactCountSolutionsRow.holds Try.pinned (OpenSpec.ofChange fnExactCountSolutionsWrong)

/-- 'laws.FnExactAllSolutions': WHATEVER THE INPUT: true; the input reads as it did. -/
def fnExactAllSolutionsSpec : ChangeSpec := { name := "fnExactAllSolutions", fn := fun _ => fun
  | [d1, d2] => { results := [.lit (.bool true)], args := [d1, d2] }
  | _ => none }
def fnExactAllSolutionsRow : OpenClaim := { program := "ytbpjejhjlmpcjaa", sum := "f77cef7befcdd3c85ff3188ba374bc428f2544fe8fcbd6d5a80b80300a7700f3", func := "loop.example/g01085/laws.FnExactAllSolutions", spec := "fnExactAllSolutions", unfollowed := true, recurses := true, apart := false }
def FnExactAllSolutionsSaid : Prop := fnExactAllSolutionsRow.holds Try.pinned (OpenSpec.ofChange fnExactAllSolutionsSpec)

/-- ITS FALSE NEIGHBOUR: 'it returns false'. Refute it at one input. -/
def fnExactAllSolutionsWrong : ChangeSpec := { name := "fnExactAllSolutions", fn := fun _ => fun
  | [d1, d2] => { results := [.lit (.bool false)], args := [d1, d2] }
  | _ => none }
def FnExactAllSolutionsWrongFalsely : Prop := fnExactAllSolutionsRow.holds Try.pinned (OpenSpec.ofChange fnExactAllSolutionsWrong)

/-- 'laws.FnExactFirstSolution': WHATEVER THE INPUT: true; the input reads as it did. -/
def fnExactFirstSolutionSpec : ChangeSpec := { name := "fnExactFirstSolution", fn := fun _ => fun
  | [d1, d2] => { results := [.lit (.bool true)], args := [d1, d2] }
  | _ => none }
def fnExactFirstSolutionRow : OpenClaim := { program := "ytbpjejhjlmpcjaa", sum := "f77cef7befcdd3c85ff3188ba374bc428f2544fe8fcbd6d5a80b80300a7700f3", func := "loop.example/g01085/laws.FnExactFirstSolution", spec := "fnExactFirstSolution", unfollowed := true, recurses := true, apart := false }
def FnExactFirstSolutionSaid : Prop := fnExactFirstSolutionRow.holds Try.pinned (OpenSpec.ofChange fnExactFirstSolutionSpec)

/-- ITS FALSE NEIGHBOUR: 'it returns false'. Refute it at one input. -/
def fnExactFirstSolutionWrong : ChangeSpec := { name := "fnExactFirstSolution", fn := fun _ => fun
  | [d1, d2] => { results := [.lit (.bool false)], args := [d1, d2] }
  | _ => none }
def FnExactFirstSolutionWrongFalsely : Prop := fnExactFirstSolutionRow.holds Try.pinned (OpenSpec.ofChange fnExactFirstSolutionWrong)

/-- 'laws.FnExactHoldsAt': WHATEVER THE INPUT: true; the input reads as it did. -/
def fnExactHoldsAtSpec : ChangeSpec := { name := "fnExactHoldsAt", fn := fun _ => fun
  | [d1, d2, d3] => { results := [.lit (.bool true)], args := [d1, d2, d3] }
  | _ => none }
def fnExactHoldsAtRow : OpenClaim := { program := "ytbpjejhjlmpcjaa", sum := "f77cef7befcdd3c85ff3188ba374bc428f2544fe8fcbd6d5a80b80300a7700f3", func := "loop.example/g01085/laws.FnExactHoldsAt", spec := "fnExactHoldsAt", unfollowed := true, recurses := true, apart := false }
def FnExactHoldsAtSaid : Prop := fnExactHoldsAtRow.holds Try.pinned (OpenSpec.ofChange fnExactHoldsAtSpec)

/-- ITS FALSE NEIGHBOUR: 'it returns false'. Refute it at one input. -/
def fnExactHoldsAtWrong : ChangeSpec := { name := "fnExactHoldsAt", fn := fun _ => fun
  | [d1, d2, d3] => { results := [.lit (.bool false)], args := [d1, d2, d3] }
  | _ => none }
def FnExactHoldsAtWrongFalsely : Prop := fnExactHoldsAtRow.holds Try.pinned (OpenSpec.ofChange fnExactHoldsAtWrong)

/-- 'laws.FnExactWitnessAt': WHATEVER THE INPUT: true; the input reads as it did. -/
def fnExactWitnessAtSpec : ChangeSpec := { name := "fnExactWitnessAt", fn := fun _ => fun
  | [d1, d2, d3] => { results := [.lit (.bool true)], args := [d1, d2, d3] }
  | _ => none }
def fnExactWitnessAtRow : OpenClaim := { program := "ytbpjejhjlmpcjaa", sum := "f77cef7befcdd3c85ff3188ba374bc428f2544fe8fcbd6d5a80b80300a7700f3", func := "loop.example/g01085/laws.FnExactWitnessAt", spec := "fnExactWitnessAt", unfollowed := true, recurses := true, apart := false }
def FnExactWitnessAtSaid : Prop := fnExactWitnessAtRow.holds Try.pinned (OpenSpec.ofChange fnExactWitnessAtSpec)

/-- ITS FALSE NEIGHBOUR: 'it returns false'. Refute it at one input. -/
def fnExactWitnessAtWrong : ChangeSpec := { name := "fnExactWitnessAt", fn := fun _ => fun
  | [d1, d2, d3] => { results := [.lit (.bool false)], args := [d1, d2, d3] }
  | _ => none }
def FnExactWitnessAtWrongFalsely : Prop := fnExactWitnessAtRow.holds Try.pinned (OpenSpec.ofChange fnExactWitnessAtWrong)

/-- 'laws.FnExactAreEquivalent': WHATEVER THE INPUT: true; the input reads as it did. -/
def fnExactAreEquivalentSpec : ChangeSpec := { name := "fnExactAreEquivalent", fn := fun _ => fun
  | [d1, d2, d3] => { results := [.lit (.bool true)], args := [d1, d2, d3] }
  | _ => none }
def fnExactAreEquivalentRow : OpenClaim := { program := "ytbpjejhjlmpcjaa", sum := "f77cef7befcdd3c85ff3188ba374bc428f2544fe8fcbd6d5a80b80300a7700f3", func := "loop.example/g01085/laws.FnExactAreEquivalent", spec := "fnExactAreEquivalent", unfollowed := true, recurses := true, apart := false }
def FnExactAreEquivalentSaid : Prop := fnExactAreEquivalentRow.holds Try.pinned (OpenSpec.ofChange fnExactAreEquivalentSpec)

/-- ITS FALSE NEIGHBOUR: 'it returns false'. Refute it at one input. -/
def fnExactAreEquivalentWrong : ChangeSpec := { name := "fnExactAreEquivalent", fn := fun _ => fun
  | [d1, d2, d3] => { results := [.lit (.bool false)], args := [d1, d2, d3] }
  | _ => none }
def FnExactAreEquivalentWrongFalsely : Prop := fnExactAreEquivalentRow.holds Try.pinned (OpenSpec.ofChange fnExactAreEquivalentWrong)

/- THE SECOND FORM. 'bulk': how many values and letters a reading holds, each counted each time it is reached (what is shared counts as often as it is met; a slice's spare places count too). A statement '..UptoSaid' is the law's where the arguments, and the package variables that the reading takes, are together of bulk at most 1048576: NARROWER than '..Said'. Prove '..Said' where nothing that the law and all that it calls make is longer than what came in: it says more and counts as full. Else prove '..UptoSaid'. A law counts once. -/
mutual
def uptoBulk {H : Type} : DataW H → Nat
  | .lit (.string bytes) => bytes.length + 1
  | .lit _ => 1
  | .nil => 1
  | .ptr d => uptoBulk d + 1
  | .slice elems spare => uptoBulkAll elems + uptoBulkAll spare + 1
  | .agg parts => uptoBulkAll parts + 1
  | .iface _ d => uptoBulk d + 1
  | .map entries => uptoBulkEntries entries + 1
  | .held _ => 1
def uptoBulkAll {H : Type} : List (DataW H) → Nat
  | [] => 0
  | d :: r => uptoBulk d + uptoBulkAll r
def uptoBulkEntries {H : Type} : List (Lit × DataW H) → Nat
  | [] => 0
  | x :: r => uptoBulkEntry x + uptoBulkEntries r
def uptoBulkEntry {H : Type} : Lit × DataW H → Nat
  | (.string bytes, d) => bytes.length + uptoBulk d + 1
  | (_, d) => uptoBulk d + 1
 end
def uptoSmall : (H : Type) → List (DataW H) → Bool := fun _ ds => decide (uptoBulkAll ds ≤ 1048576)
def OpenSpec.upto (s : _root_.Go.ChangeSpec) : _root_.Go.OpenSpec := { _root_.Go.OpenSpec.ofChange s with cond := some uptoSmall }

/-- 'laws.FnExactFirstPairs', WHERE WHAT IT READS IS OF BULK AT MOST 1048576: true; the input reads as it did. -/
def fnExactFirstPairsUptoRow : OpenClaim := { program := "ytbpjejhjlmpcjaa", sum := "f77cef7befcdd3c85ff3188ba374bc428f2544fe8fcbd6d5a80b80300a7700f3", func := "loop.example/g01085/laws.FnExactFirstPairs", spec := "fnExactFirstPairs", unfollowed := true, recurses := true, apart := false, narrowed := true }
def FnExactFirstPairsUptoSaid : Prop := fnExactFirstPairsUptoRow.holds Try.pinned (OpenSpec.upto fnExactFirstPairsSpec)

/-- 'laws.FnExactCountSolutions', WHERE WHAT IT READS IS OF BULK AT MOST 1048576: true; the input reads as it did. -/
def fnExactCountSolutionsUptoRow : OpenClaim := { program := "ytbpjejhjlmpcjaa", sum := "f77cef7befcdd3c85ff3188ba374bc428f2544fe8fcbd6d5a80b80300a7700f3", func := "loop.example/g01085/laws.FnExactCountSolutions", spec := "fnExactCountSolutions", unfollowed := true, recurses := true, apart := false, narrowed := true }
def FnExactCountSolutionsUptoSaid : Prop := fnExactCountSolutionsUptoRow.holds Try.pinned (OpenSpec.upto fnExactCountSolutionsSpec)

/-- 'laws.FnExactAllSolutions', WHERE WHAT IT READS IS OF BULK AT MOST 1048576: true; the input reads as it did. -/
def fnExactAllSolutionsUptoRow : OpenClaim := { program := "ytbpjejhjlmpcjaa", sum := "f77cef7befcdd3c85ff3188ba374bc428f2544fe8fcbd6d5a80b80300a7700f3", func := "loop.example/g01085/laws.FnExactAllSolutions", spec := "fnExactAllSolutions", unfollowed := true, recurses := true, apart := false, narrowed := true }
def FnExactAllSolutionsUptoSaid : Prop := fnExactAllSolutionsUptoRow.holds Try.pinned (OpenSpec.upto fnExactAllSolutionsSpec)

/-- 'laws.FnExactFirstSolution', WHERE WHAT IT READS IS OF BULK AT MOST 1048576: true; the input reads as it did. -/
def fnExactFirstSolutionUptoRow : OpenClaim := { program := "ytbpjejhjlmpcjaa", sum := "f77cef7befcdd3c85ff3188ba374bc428f2544fe8fcbd6d5a80b80300a7700f3", func := "loop.example/g01085/laws.FnExactFirstSolution", spec := "fnExactFirstSolution", unfollowed := true, recurses := true, apart := false, narrowed := true }
def FnExactFirstSolutionUptoSaid : Prop := fnExactFirstSolutionUptoRow.holds Try.pinned (OpenSpec.upto fnExactFirstSolutionSpec)

/-- 'laws.FnExactHoldsAt', WHERE WHAT IT READS IS OF BULK AT MOST 1048576: true; the input reads as it did. -/
def fnExactHoldsAtUptoRow : OpenClaim := { program := "ytbpjejhjlmpcjaa", sum := "f77cef7befcdd3c85ff3188ba374bc428f2544fe8fcbd6d5a80b80300a7700f3", func := "loop.example/g01085/laws.FnExactHoldsAt", spec := "fnExactHoldsAt", unfollowed := true, recurses := true, apart := false, narrowed := true }
def FnExactHoldsAtUptoSaid : Prop := fnExactHoldsAtUptoRow.holds Try.pinned (OpenSpec.upto fnExactHoldsAtSpec)

/-- 'laws.FnExactWitnessAt', WHERE WHAT IT READS IS OF BULK AT MOST 1048576: true; the input reads as it did. -/
def fnExactWitnessAtUptoRow : OpenClaim := { program := "ytbpjejhjlmpcjaa", sum := "f77cef7befcdd3c85ff3188ba374bc428f2544fe8fcbd6d5a80b80300a7700f3", func := "loop.example/g01085/laws.FnExactWitnessAt", spec := "fnExactWitnessAt", unfollowed := true, recurses := true, apart := false, narrowed := true }
def FnExactWitnessAtUptoSaid : Prop := fnExactWitnessAtUptoRow.holds Try.pinned (OpenSpec.upto fnExactWitnessAtSpec)

/-- 'laws.FnExactAreEquivalent', WHERE WHAT IT READS IS OF BULK AT MOST 1048576: true; the input reads as it did. -/
def fnExactAreEquivalentUptoRow : OpenClaim := { program := "ytbpjejhjlmpcjaa", sum := "f77cef7befcdd3c85ff3188ba374bc428f2544fe8fcbd6d5a80b80300a7700f3", func := "loop.example/g01085/laws.FnExactAreEquivalent", spec := "fnExactAreEquivalent", unfollowed := true, recurses := true, apart := false, narrowed := true }
def FnExactAreEquivalentUptoSaid : Prop := fnExactAreEquivalentUptoRow.holds Try.pinned (OpenSpec.upto fnExactAreEquivalentSpec)

end Rows
end Go.Proofs.Ytbpjejhjlmpcjaa
