/-
  No cell of these rows narrows 'for every input' (looked for: loops, veiled, ifaces, maps, wideKeys, modest, calm, conditions, laid).
  DERIVED. THE GIVEN ROWS OF THIS SEAT. 9 by the template 'for every input the law returns true; each argument reads behind the call as it read before'; 0 by the template 'total and deterministic' (their statements: YtadncmlfkoolkaaTotals.lean).
  GIVEN WITH THE SEED: the statements are not yours to turn. If you find one false, say at which input.
  Laid BY PROGRAM, IN A SANDBOX (cutbox-rows.mjs): the forced cells as the released guide's own fill.sh prints them over the translation cd8f6bc608dcfcc2… (all of the seat's roots in one cut). By AI agents, Wed Nov 11 2026. No macro, syntax, notation, axiom, sorry.
-/
import Derived.Test.YtadncmlfkoolkaaChecked
import GoSem.Claim
import GoSem.ClaimJoined
import GoSem.ClaimMapViews
import Derived.JoinedTies
import Derived.KernelRfl
namespace Go.Proofs.Ytadncmlfkoolkaa
/- THE CELL 'sum', in the pinned program and in every row, IS THE sha256 OF THE DUMP (.gsa) THAT YtadncmlfkoolkaaProg.lean LOADS. Nothing in Lean hashes anything: it is a label: what it is worth is what the hold of that sum in a sandbox is worth. -/
noncomputable def Try.pinned : Pinned := { name := "ytadncmlfkoolkaa", sum := "cd8f6bc608dcfcc22f58017df71b4421b62c315270af6d52c8209d68d38dd8a0", checked := Try.checked }
namespace Rows
def none {H : Type} : Left H := { results := [], args := [] }

/-- 'laws.FnExactAtomFormula': WHATEVER THE INPUT: true; the input reads as it did. -/
def fnExactAtomFormulaSpec : ChangeSpec := { name := "fnExactAtomFormula", fn := fun _ => fun
  | [d1, d2] => { results := [.lit (.bool true)], args := [d1, d2] }
  | _ => none }
def fnExactAtomFormulaRow : OpenClaim := { program := "ytadncmlfkoolkaa", sum := "cd8f6bc608dcfcc22f58017df71b4421b62c315270af6d52c8209d68d38dd8a0", func := "loop.example/g01085/laws.FnExactAtomFormula", spec := "fnExactAtomFormula", unfollowed := true, recurses := true, apart := false }
def FnExactAtomFormulaSaid : Prop := fnExactAtomFormulaRow.holds Try.pinned (OpenSpec.ofChange fnExactAtomFormulaSpec)

/-- ITS FALSE NEIGHBOUR: 'it returns false'. Refute it at one input. -/
def fnExactAtomFormulaWrong : ChangeSpec := { name := "fnExactAtomFormula", fn := fun _ => fun
  | [d1, d2] => { results := [.lit (.bool false)], args := [d1, d2] }
  | _ => none }
def FnExactAtomFormulaWrongFalsely : Prop := fnExactAtomFormulaRow.holds Try.pinned (OpenSpec.ofChange fnExactAtomFormulaWrong)

/-- 'laws.FnExactIsPolymorphism': WHATEVER THE INPUT: true; the input reads as it did. -/
def fnExactIsPolymorphismSpec : ChangeSpec := { name := "fnExactIsPolymorphism", fn := fun _ => fun
  | [d1, d2] => { results := [.lit (.bool true)], args := [d1, d2] }
  | _ => none }
def fnExactIsPolymorphismRow : OpenClaim := { program := "ytadncmlfkoolkaa", sum := "cd8f6bc608dcfcc22f58017df71b4421b62c315270af6d52c8209d68d38dd8a0", func := "loop.example/g01085/laws.FnExactIsPolymorphism", spec := "fnExactIsPolymorphism", unfollowed := true, recurses := true, apart := false }
def FnExactIsPolymorphismSaid : Prop := fnExactIsPolymorphismRow.holds Try.pinned (OpenSpec.ofChange fnExactIsPolymorphismSpec)

/-- ITS FALSE NEIGHBOUR: 'it returns false'. Refute it at one input. -/
def fnExactIsPolymorphismWrong : ChangeSpec := { name := "fnExactIsPolymorphism", fn := fun _ => fun
  | [d1, d2] => { results := [.lit (.bool false)], args := [d1, d2] }
  | _ => none }
def FnExactIsPolymorphismWrongFalsely : Prop := fnExactIsPolymorphismRow.holds Try.pinned (OpenSpec.ofChange fnExactIsPolymorphismWrong)

/-- 'laws.FnExactFirstFailing': WHATEVER THE INPUT: true; the input reads as it did. -/
def fnExactFirstFailingSpec : ChangeSpec := { name := "fnExactFirstFailing", fn := fun _ => fun
  | [d1, d2, d3] => { results := [.lit (.bool true)], args := [d1, d2, d3] }
  | _ => none }
def fnExactFirstFailingRow : OpenClaim := { program := "ytadncmlfkoolkaa", sum := "cd8f6bc608dcfcc22f58017df71b4421b62c315270af6d52c8209d68d38dd8a0", func := "loop.example/g01085/laws.FnExactFirstFailing", spec := "fnExactFirstFailing", unfollowed := true, recurses := true, apart := false }
def FnExactFirstFailingSaid : Prop := fnExactFirstFailingRow.holds Try.pinned (OpenSpec.ofChange fnExactFirstFailingSpec)

/-- ITS FALSE NEIGHBOUR: 'it returns false'. Refute it at one input. -/
def fnExactFirstFailingWrong : ChangeSpec := { name := "fnExactFirstFailing", fn := fun _ => fun
  | [d1, d2, d3] => { results := [.lit (.bool false)], args := [d1, d2, d3] }
  | _ => none }
def FnExactFirstFailingWrongFalsely : Prop := fnExactFirstFailingRow.holds Try.pinned (OpenSpec.ofChange fnExactFirstFailingWrong)

/-- 'laws.FnExactFullDomains': WHATEVER THE INPUT: true; the input reads as it did. -/
def fnExactFullDomainsSpec : ChangeSpec := { name := "fnExactFullDomains", fn := fun _ => fun
  | [d1, d2] => { results := [.lit (.bool true)], args := [d1, d2] }
  | _ => none }
def fnExactFullDomainsRow : OpenClaim := { program := "ytadncmlfkoolkaa", sum := "cd8f6bc608dcfcc22f58017df71b4421b62c315270af6d52c8209d68d38dd8a0", func := "loop.example/g01085/laws.FnExactFullDomains", spec := "fnExactFullDomains", unfollowed := true, recurses := true, apart := false }
def FnExactFullDomainsSaid : Prop := fnExactFullDomainsRow.holds Try.pinned (OpenSpec.ofChange fnExactFullDomainsSpec)

/-- ITS FALSE NEIGHBOUR: 'it returns false'. Refute it at one input. -/
def fnExactFullDomainsWrong : ChangeSpec := { name := "fnExactFullDomains", fn := fun _ => fun
  | [d1, d2] => { results := [.lit (.bool false)], args := [d1, d2] }
  | _ => none }
def FnExactFullDomainsWrongFalsely : Prop := fnExactFullDomainsRow.holds Try.pinned (OpenSpec.ofChange fnExactFullDomainsWrong)

/-- 'laws.FnExactIsSolution': WHATEVER THE INPUT: true; the input reads as it did. -/
def fnExactIsSolutionSpec : ChangeSpec := { name := "fnExactIsSolution", fn := fun _ => fun
  | [d1, d2, d3] => { results := [.lit (.bool true)], args := [d1, d2, d3] }
  | _ => none }
def fnExactIsSolutionRow : OpenClaim := { program := "ytadncmlfkoolkaa", sum := "cd8f6bc608dcfcc22f58017df71b4421b62c315270af6d52c8209d68d38dd8a0", func := "loop.example/g01085/laws.FnExactIsSolution", spec := "fnExactIsSolution", unfollowed := true, recurses := true, apart := false }
def FnExactIsSolutionSaid : Prop := fnExactIsSolutionRow.holds Try.pinned (OpenSpec.ofChange fnExactIsSolutionSpec)

/-- ITS FALSE NEIGHBOUR: 'it returns false'. Refute it at one input. -/
def fnExactIsSolutionWrong : ChangeSpec := { name := "fnExactIsSolution", fn := fun _ => fun
  | [d1, d2, d3] => { results := [.lit (.bool false)], args := [d1, d2, d3] }
  | _ => none }
def FnExactIsSolutionWrongFalsely : Prop := fnExactIsSolutionRow.holds Try.pinned (OpenSpec.ofChange fnExactIsSolutionWrong)

/-- 'laws.FnExactMergeVariables': WHATEVER THE INPUT: true; the input reads as it did. -/
def fnExactMergeVariablesSpec : ChangeSpec := { name := "fnExactMergeVariables", fn := fun _ => fun
  | [d1, d2, d3, d4] => { results := [.lit (.bool true)], args := [d1, d2, d3, d4] }
  | _ => none }
def fnExactMergeVariablesRow : OpenClaim := { program := "ytadncmlfkoolkaa", sum := "cd8f6bc608dcfcc22f58017df71b4421b62c315270af6d52c8209d68d38dd8a0", func := "loop.example/g01085/laws.FnExactMergeVariables", spec := "fnExactMergeVariables", unfollowed := true, recurses := true, apart := false }
def FnExactMergeVariablesSaid : Prop := fnExactMergeVariablesRow.holds Try.pinned (OpenSpec.ofChange fnExactMergeVariablesSpec)

/-- ITS FALSE NEIGHBOUR: 'it returns false'. Refute it at one input. -/
def fnExactMergeVariablesWrong : ChangeSpec := { name := "fnExactMergeVariables", fn := fun _ => fun
  | [d1, d2, d3, d4] => { results := [.lit (.bool false)], args := [d1, d2, d3, d4] }
  | _ => none }
def FnExactMergeVariablesWrongFalsely : Prop := fnExactMergeVariablesRow.holds Try.pinned (OpenSpec.ofChange fnExactMergeVariablesWrong)

/-- 'laws.FnExactPlaceFormula': WHATEVER THE INPUT: true; the input reads as it did. -/
def fnExactPlaceFormulaSpec : ChangeSpec := { name := "fnExactPlaceFormula", fn := fun _ => fun
  | [d1, d2, d3, d4] => { results := [.lit (.bool true)], args := [d1, d2, d3, d4] }
  | _ => none }
def fnExactPlaceFormulaRow : OpenClaim := { program := "ytadncmlfkoolkaa", sum := "cd8f6bc608dcfcc22f58017df71b4421b62c315270af6d52c8209d68d38dd8a0", func := "loop.example/g01085/laws.FnExactPlaceFormula", spec := "fnExactPlaceFormula", unfollowed := true, recurses := true, apart := false }
def FnExactPlaceFormulaSaid : Prop := fnExactPlaceFormulaRow.holds Try.pinned (OpenSpec.ofChange fnExactPlaceFormulaSpec)

/-- ITS FALSE NEIGHBOUR: 'it returns false'. Refute it at one input. -/
def fnExactPlaceFormulaWrong : ChangeSpec := { name := "fnExactPlaceFormula", fn := fun _ => fun
  | [d1, d2, d3, d4] => { results := [.lit (.bool false)], args := [d1, d2, d3, d4] }
  | _ => none }
def FnExactPlaceFormulaWrongFalsely : Prop := fnExactPlaceFormulaRow.holds Try.pinned (OpenSpec.ofChange fnExactPlaceFormulaWrong)

/-- 'laws.FnExactHideVariable': WHATEVER THE INPUT: true; the input reads as it did. -/
def fnExactHideVariableSpec : ChangeSpec := { name := "fnExactHideVariable", fn := fun _ => fun
  | [d1, d2, d3] => { results := [.lit (.bool true)], args := [d1, d2, d3] }
  | _ => none }
def fnExactHideVariableRow : OpenClaim := { program := "ytadncmlfkoolkaa", sum := "cd8f6bc608dcfcc22f58017df71b4421b62c315270af6d52c8209d68d38dd8a0", func := "loop.example/g01085/laws.FnExactHideVariable", spec := "fnExactHideVariable", unfollowed := true, recurses := true, apart := false }
def FnExactHideVariableSaid : Prop := fnExactHideVariableRow.holds Try.pinned (OpenSpec.ofChange fnExactHideVariableSpec)

/-- ITS FALSE NEIGHBOUR: 'it returns false'. Refute it at one input. -/
def fnExactHideVariableWrong : ChangeSpec := { name := "fnExactHideVariable", fn := fun _ => fun
  | [d1, d2, d3] => { results := [.lit (.bool false)], args := [d1, d2, d3] }
  | _ => none }
def FnExactHideVariableWrongFalsely : Prop := fnExactHideVariableRow.holds Try.pinned (OpenSpec.ofChange fnExactHideVariableWrong)

/-- 'laws.FnExactInstanceFormula': WHATEVER THE INPUT: true; the input reads as it did. -/
def fnExactInstanceFormulaSpec : ChangeSpec := { name := "fnExactInstanceFormula", fn := fun _ => fun
  | [d1, d2, d3] => { results := [.lit (.bool true)], args := [d1, d2, d3] }
  | _ => none }
def fnExactInstanceFormulaRow : OpenClaim := { program := "ytadncmlfkoolkaa", sum := "cd8f6bc608dcfcc22f58017df71b4421b62c315270af6d52c8209d68d38dd8a0", func := "loop.example/g01085/laws.FnExactInstanceFormula", spec := "fnExactInstanceFormula", unfollowed := true, recurses := true, apart := false }
def FnExactInstanceFormulaSaid : Prop := fnExactInstanceFormulaRow.holds Try.pinned (OpenSpec.ofChange fnExactInstanceFormulaSpec)

/-- ITS FALSE NEIGHBOUR: 'it returns false'. Refute it at one input. -/
def fnExactInstanceFormulaWrong : ChangeSpec := { name := "fnExactInstanceFormula", fn := fun _ => fun
  | [d1, d2, d3] => { results := [.lit (.bool false)], args := [d1, d2, d3] }
  | _ => none }
def FnExactInstanceFormulaWrongFalsely : Prop := fnExactInstanceFormulaRow.holds Try.pinned (OpenSpec.ofChange fnExactInstanceFormulaWrong)

/- THE SECOND FORM. 'bulk': how many values and letters a reading holds, each counted each time it is reached (what is shared counts as often as it is met; a slice's spare places count too). A statement '..UptoSaid' is the law's where the arguments, and the package variables that the reading takes, are together of bulk at most 1048576: NARROWER than '..Said'. Prove '..Said' where nothing that the law and all that it calls make is longer than what came in: it says more and counts as full. Else prove '..UptoSaid'. A law counts once. -/
mutual
def uptoBulk {H : Type} : DataW H → Nat
  | .lit (.string bytes) => bytes.length + 1
  | .lit _ => 1
  | .nil => 1
  | .ptr d => uptoBulk d + 1
  | .slice elems spare => uptoBulkAll elems + uptoBulkAll spare + 1
  | .agg parts => uptoBulkAll parts + 1
  | .iface _ d => uptoBulk d + 1
  | .map entries => uptoBulkEntries entries + 1
  | .held _ => 1
def uptoBulkAll {H : Type} : List (DataW H) → Nat
  | [] => 0
  | d :: r => uptoBulk d + uptoBulkAll r
def uptoBulkEntries {H : Type} : List (Lit × DataW H) → Nat
  | [] => 0
  | x :: r => uptoBulkEntry x + uptoBulkEntries r
def uptoBulkEntry {H : Type} : Lit × DataW H → Nat
  | (.string bytes, d) => bytes.length + uptoBulk d + 1
  | (_, d) => uptoBulk d + 1
 end
def uptoSmall : (H : Type) → List (DataW H) → Bool := fun _ ds => decide (uptoBulkAll ds ≤ 1048576)
def OpenSpec.upto (s : _root_.Go.ChangeSpec) : _root_.Go.OpenSpec := { _root_.Go.OpenSpec.ofChange s with cond := some uptoSmall }

/-- 'laws.FnExactAtomFormula', WHERE WHAT IT READS IS OF BULK AT MOST 1048576: true; the input reads as it did. -/
def fnExactAtomFormulaUptoRow : OpenClaim := { program := "ytadncmlfkoolkaa", sum := "cd8f6bc608dcfcc22f58017df71b4421b62c315270af6d52c8209d68d38dd8a0", func := "loop.example/g01085/laws.FnExactAtomFormula", spec := "fnExactAtomFormula", unfollowed := true, recurses := true, apart := false, narrowed := true }
def FnExactAtomFormulaUptoSaid : Prop := fnExactAtomFormulaUptoRow.holds Try.pinned (OpenSpec.upto fnExactAtomFormulaSpec)

/-- 'laws.FnExactIsPolymorphism', WHERE WHAT IT READS IS OF BULK AT MOST 1048576: true; the input reads as it did. -/
def fnExactIsPolymorphismUptoRow : OpenClaim := { program := "ytadncmlfkoolkaa", sum := "cd8f6bc608dcfcc22f58017df71b4421b62c315270af6d52c8209d68d38dd8a0", func := "loop.example/g01085/laws.FnExactIsPolymorphism", spec := "fnExactIsPolymorphism", unfollowed := true, recurses := true, apart := false, narrowed := true }
def FnExactIsPolymorphismUptoSaid : Prop := fnExactIsPolymorphismUptoRow.holds Try.pinned (OpenSpec.upto fnExactIsPolymorphismSpec)

/-- 'laws.FnExactFirstFailing', WHERE WHAT IT READS IS OF BULK AT MOST 1048576: true; the input reads as it did. -/
def fnExactFirstFailingUptoRow : OpenClaim := { program := "ytadncmlfkoolkaa", sum := "cd8f6bc608dcfcc22f58017df71b4421b62c315270af6d52c8209d68d38dd8a0", func := "loop.example/g01085/laws.FnExactFirstFailing", spec := "fnExactFirstFailing", unfollowed := true, recurses := true, apart := false, narrowed := true }
def FnExactFirstFailingUptoSaid : Prop := fnExactFirstFailingUptoRow.holds Try.pinned (OpenSpec.upto fnExactFirstFailingSpec)

/-- 'laws.FnExactFullDomains', WHERE WHAT IT READS IS OF BULK AT MOST 1048576: true; the input reads as it did. -/
def fnExactFullDomainsUptoRow : OpenClaim := { program := "ytadncmlfkoolkaa", sum := "cd8f6bc608dcfcc22f58017df71b4421b62c315270af6d52c8209d68d38dd8a0", func := "loop.example/g01085/laws.FnExactFullDomains", spec := "fnExactFullDomains", unfollowed := true, recurses := true, apart := false, narrowed := true }
def FnExactFullDomainsUptoSaid : Prop := fnExactFullDomainsUptoRow.holds Try.pinned (OpenSpec.upto fnExactFullDomainsSpec)

/-- 'laws.FnExactIsSolution', WHERE WHAT IT READS IS OF BULK AT MOST 1048576: true; the input reads as it did. -/
def fnExactIsSolutionUptoRow : OpenClaim := { program := "ytadncmlfkoolkaa", sum := "cd8f6bc608dcfcc22f58017df71b4421b62c315270af6d52c8209d68d38dd8a0", func := "loop.example/g01085/laws.FnExactIsSolution", spec := "fnExactIsSolution", unfollowed := true, recurses := true, apart := false, narrowed := true }
def FnExactIsSolutionUptoSaid : Prop := fnExactIsSolutionUptoRow.holds Try.pinned (OpenSpec.upto fnExactIsSolutionSpec)

/-- 'laws.FnExactMergeVariables', WHERE WHAT IT READS IS OF BULK AT MOST 1048576: true; the input reads as it did. -/
def fnExactMergeVariablesUptoRow : OpenClaim := { program := "ytadncmlfkoolkaa", sum := "cd8f6bc608dcfcc22f58017df71b4421b62c315270af6d52c8209d68d38dd8a0", func := "loop.example/g01085/laws.FnExactMergeVariables", spec := "fnExactMergeVariables", unfollowed := true, recurses := true, apart := false, narrowed := true }
def FnExactMergeVariablesUptoSaid : Prop := fnExactMergeVariablesUptoRow.holds Try.pinned (OpenSpec.upto fnExactMergeVariablesSpec)

/-- 'laws.FnExactPlaceFormula', WHERE WHAT IT READS IS OF BULK AT MOST 1048576: true; the input reads as it did. -/
def fnExactPlaceFormulaUptoRow : OpenClaim := { program := "ytadncmlfkoolkaa", sum := "cd8f6bc608dcfcc22f58017df71b4421b62c315270af6d52c8209d68d38dd8a0", func := "loop.example/g01085/laws.FnExactPlaceFormula", spec := "fnExactPlaceFormula", unfollowed := true, recurses := true, apart := false, narrowed := true }
def FnExactPlaceFormulaUptoSaid : Prop := fnExactPlaceFormulaUptoRow.holds Try.pinned (OpenSpec.upto fnExactPlaceFormulaSpec)

/-- 'laws.FnExactHideVariable', WHERE WHAT IT READS IS OF BULK AT MOST 1048576: true; the input reads as it did. -/
def fnExactHideVariableUptoRow : OpenClaim := { program := "ytadncmlfkoolkaa", sum := "cd8f6bc608dcfcc22f58017df71b4421b62c315270af6d52c8209d68d38dd8a0", func := "loop.example/g01085/laws.FnExactHideVariable", spec := "fnExactHideVariable", unfollowed := true, recurses := true, apart := false, narrowed := true }
def FnExactHideVariableUptoSaid : Prop := fnExactHideVariableUptoRow.holds Try.pinned (OpenSpec.upto fnExactHideVariableSpec)

/-- 'laws.FnExactInstanceFormula', WHERE WHAT IT READS IS OF BULK AT MOST 1048576: true; the input reads as it did. -/
def fnExactInstanceFormulaUptoRow : OpenClaim := { program := "ytadncmlfkoolkaa", sum := "cd8f6bc608dcfcc22f58017df71b4421b62c315270af6d52c8209d68d38dd8a0", func := "loop.example/g01085/laws.FnExactInstanceFormula", spec := "fnExactInstanceFormula", unfollowed := true, recurses := true, apart := false, narrowed := true }
def FnExactInstanceFormulaUptoSaid : Prop := fnExactInstanceFormulaUptoRow.holds Try.pinned (OpenSpec.upto fnExactInstanceFormulaSpec)

end Rows
end Go.Proofs.Ytadncmlfkoolkaa
