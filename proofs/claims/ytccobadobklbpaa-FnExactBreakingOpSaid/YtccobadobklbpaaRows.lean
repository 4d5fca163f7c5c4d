/-
  No cell of these rows narrows 'for every input' (looked for: loops, veiled, ifaces, maps, wideKeys, modest, calm, conditions, laid).
  DERIVED. THE GIVEN ROWS OF THIS SEAT. 5 by the template 'for every input the law returns true; each argument reads behind the call as it read before'; 0 by the template 'total and deterministic' (their statements: YtccobadobklbpaaTotals.lean).
  GIVEN WITH THE SEED: the statements are not yours to turn. If you find one false, say at which input.
  Laid BY PROGRAM, IN A SANDBOX (cutbox-rows.mjs): the forced cells as the released guide's own fill.sh prints them over the translation ba4b0bf7946499a2… (all of the seat's roots in one cut). By AI agents, Wed Nov 11 2026. No macro, syntax, notation, axiom, sorry.
-/
import Derived.Test.YtccobadobklbpaaChecked
import GoSem.Claim
import GoSem.ClaimJoined
import GoSem.ClaimMapViews
import Derived.JoinedTies
import Derived.KernelRfl
namespace Go.Proofs.Ytccobadobklbpaa
/- THE CELL 'sum', in the pinned program and in every row, IS THE sha256 OF THE DUMP (.gsa) THAT YtccobadobklbpaaProg.lean LOADS. Nothing in Lean hashes anything: it is a label: what it is worth is what the hold of that sum in a sandbox is worth. -/
noncomputable def Try.pinned : Pinned := { name := "ytccobadobklbpaa", sum := "ba4b0bf7946499a2caaf5450cd47616798c85da463795490aaa1bdf304f1f9a1", checked := Try.checked }
namespace Rows
def none {H : Type} : Left H := { results := [], args := [] }

/-- 'laws.FnExactPolymorphismWith': WHATEVER THE INPUT: true; the input reads as it did. -/
def fnExactPolymorphismWithSpec : ChangeSpec := { name := "fnExactPolymorphismWith", fn := fun _ => fun
  | [d1, d2, d3, d4] => { results := [.lit (.bool true)], args := [d1, d2, d3, d4] }
  | _ => none }
def fnExactPolymorphismWithRow : OpenClaim := { program := "ytccobadobklbpaa", sum := "ba4b0bf7946499a2caaf5450cd47616798c85da463795490aaa1bdf304f1f9a1", func := "loop.example/g01085/laws.FnExactPolymorphismWith", spec := "fnExactPolymorphismWith", unfollowed := true, recurses := true, apart := false }
def FnExactPolymorphismWithSaid : Prop := fnExactPolymorphismWithRow.holds Try.pinned (OpenSpec.ofChange fnExactPolymorphismWithSpec)

/-- ITS FALSE NEIGHBOUR: 'it returns false'. Refute it at one input. -/
def fnExactPolymorphismWithWrong : ChangeSpec := { name := "fnExactPolymorphismWith", fn := fun _ => fun
  | [d1, d2, d3, d4] => { results := [.lit (.bool false)], args := [d1, d2, d3, d4] }
  | _ => none }
def FnExactPolymorphismWithWrongFalsely : Prop := fnExactPolymorphismWithRow.holds Try.pinned (OpenSpec.ofChange fnExactPolymorphismWithWrong)

/-- 'laws.FnExactHullOf': WHATEVER THE INPUT: true; the input reads as it did. -/
def fnExactHullOfSpec : ChangeSpec := { name := "fnExactHullOf", fn := fun _ => fun
  | [d1, d2] => { results := [.lit (.bool true)], args := [d1, d2] }
  | _ => none }
def fnExactHullOfRow : OpenClaim := { program := "ytccobadobklbpaa", sum := "ba4b0bf7946499a2caaf5450cd47616798c85da463795490aaa1bdf304f1f9a1", func := "loop.example/g01085/laws.FnExactHullOf", spec := "fnExactHullOf", unfollowed := true, recurses := true, apart := false }
def FnExactHullOfSaid : Prop := fnExactHullOfRow.holds Try.pinned (OpenSpec.ofChange fnExactHullOfSpec)

/-- ITS FALSE NEIGHBOUR: 'it returns false'. Refute it at one input. -/
def fnExactHullOfWrong : ChangeSpec := { name := "fnExactHullOf", fn := fun _ => fun
  | [d1, d2] => { results := [.lit (.bool false)], args := [d1, d2] }
  | _ => none }
def FnExactHullOfWrongFalsely : Prop := fnExactHullOfRow.holds Try.pinned (OpenSpec.ofChange fnExactHullOfWrong)

/-- 'laws.FnExactIsDefinable': WHATEVER THE INPUT: true; the input reads as it did. -/
def fnExactIsDefinableSpec : ChangeSpec := { name := "fnExactIsDefinable", fn := fun _ => fun
  | [d1, d2] => { results := [.lit (.bool true)], args := [d1, d2] }
  | _ => none }
def fnExactIsDefinableRow : OpenClaim := { program := "ytccobadobklbpaa", sum := "ba4b0bf7946499a2caaf5450cd47616798c85da463795490aaa1bdf304f1f9a1", func := "loop.example/g01085/laws.FnExactIsDefinable", spec := "fnExactIsDefinable", unfollowed := true, recurses := true, apart := false }
def FnExactIsDefinableSaid : Prop := fnExactIsDefinableRow.holds Try.pinned (OpenSpec.ofChange fnExactIsDefinableSpec)

/-- ITS FALSE NEIGHBOUR: 'it returns false'. Refute it at one input. -/
def fnExactIsDefinableWrong : ChangeSpec := { name := "fnExactIsDefinable", fn := fun _ => fun
  | [d1, d2] => { results := [.lit (.bool false)], args := [d1, d2] }
  | _ => none }
def FnExactIsDefinableWrongFalsely : Prop := fnExactIsDefinableRow.holds Try.pinned (OpenSpec.ofChange fnExactIsDefinableWrong)

/-- 'laws.FnExactBreakingOp': WHATEVER THE INPUT: true; the input reads as it did. -/
def fnExactBreakingOpSpec : ChangeSpec := { name := "fnExactBreakingOp", fn := fun _ => fun
  | [d1, d2] => { results := [.lit (.bool true)], args := [d1, d2] }
  | _ => none }
def fnExactBreakingOpRow : OpenClaim := { program := "ytccobadobklbpaa", sum := "ba4b0bf7946499a2caaf5450cd47616798c85da463795490aaa1bdf304f1f9a1", func := "loop.example/g01085/laws.FnExactBreakingOp", spec := "fnExactBreakingOp", unfollowed := true, recurses := true, apart := false }
def FnExactBreakingOpSaid : Prop := fnExactBreakingOpRow.holds Try.pinned (OpenSpec.ofChange fnExactBreakingOpSpec)

/-- ITS FALSE NEIGHBOUR: 'it returns false'. Refute it at one input. -/
def fnExactBreakingOpWrong : ChangeSpec := { name := "fnExactBreakingOp", fn := fun _ => fun
  | [d1, d2] => { results := [.lit (.bool false)], args := [d1, d2] }
  | _ => none }
def FnExactBreakingOpWrongFalsely : Prop := fnExactBreakingOpRow.holds Try.pinned (OpenSpec.ofChange fnExactBreakingOpWrong)

/-- 'laws.FnExactIndicatorFormula': WHATEVER THE INPUT: true; the input reads as it did. -/
def fnExactIndicatorFormulaSpec : ChangeSpec := { name := "fnExactIndicatorFormula", fn := fun _ => fun
  | [d1, d2] => { results := [.lit (.bool true)], args := [d1, d2] }
  | _ => none }
def fnExactIndicatorFormulaRow : OpenClaim := { program := "ytccobadobklbpaa", sum := "ba4b0bf7946499a2caaf5450cd47616798c85da463795490aaa1bdf304f1f9a1", func := "loop.example/g01085/laws.FnExactIndicatorFormula", spec := "fnExactIndicatorFormula", unfollowed := true, recurses := true, apart := false }
def FnExactIndicatorFormulaSaid : Prop := fnExactIndicatorFormulaRow.holds Try.pinned (OpenSpec.ofChange fnExactIndicatorFormulaSpec)

/-- ITS FALSE NEIGHBOUR: 'it returns false'. Refute it at one input. -/
def fnExactIndicatorFormulaWrong : ChangeSpec := { name := "fnExactIndicatorFormula", fn := fun _ => fun
  | [d1, d2] => { results := [.lit (.bool false)], args := [d1, d2] }
  | _ => none }
def FnExactIndicatorFormulaWrongFalsely : Prop := fnExactIndicatorFormulaRow.holds Try.pinned (OpenSpec.ofChange fnExactIndicatorFormulaWrong)

/- THE SECOND FORM. 'bulk': how many values and letters a reading holds, each counted each time it is reached (what is shared counts as often as it is met; a slice's spare places count too). A statement '..UptoSaid' is the law's where the arguments, and the package variables that the reading takes, are together of bulk at most 1048576: NARROWER than '..Said'. Prove '..Said' where nothing that the law and all that it calls make is longer than what came in: it says more and counts as full. Else prove '..UptoSaid'. A law counts once. -/
mutual
def uptoBulk {H : Type} : DataW H → Nat
  | .lit (.string bytes) => bytes.length + 1
  | .lit _ => 1
  | .nil => 1
  | .ptr d => uptoBulk d + 1
  | .slice elems spare => uptoBulkAll elems + uptoBulkAll spare + 1
  | .agg parts => uptoBulkAll parts + 1
  | .iface _ d => uptoBulk d + 1
  | .map entries => uptoBulkEntries entries + 1
  | .held _ => 1
def uptoBulkAll {H : Type} : List (DataW H) → Nat
  | [] => 0
  | d :: r => uptoBulk d + uptoBulkAll r
def uptoBulkEntries {H : Type} : List (Lit × DataW H) → Nat
  | [] => 0
  | x :: r => uptoBulkEntry x + uptoBulkEntries r
def uptoBulkEntry {H : Type} : Lit × DataW H → Nat
  | (.string bytes, d) => bytes.length + uptoBulk d + 1
  | (_, d) => uptoBulk d + 1
 end
def uptoSmall : (H : Type) → List (DataW H) → Bool := fun _ ds => decide (uptoBulkAll ds ≤ 1048576)
def OpenSpec.upto (s : _root_.Go.ChangeSpec) : _root_.Go.OpenSpec := { _root_.Go.OpenSpec.ofChange s with cond := some uptoSmall }

/-- 'laws.FnExactPolymorphismWith', WHERE WHAT IT READS IS OF BULK AT MOST 1048576: true; the input reads as it did. -/
def fnExactPolymorphismWithUptoRow : OpenClaim := { program := "ytccobadobklbpaa", sum := "ba4b0bf7946499a2caaf5450cd47616798c85da463795490aaa1bdf304f1f9a1", func := "loop.example/g01085/laws.FnExactPolymorphismWith", spec := "fnExactPolymorphismWith", unfollowed := true, recurses := true, apart := false, narrowed := true }
def FnExactPolymorphismWithUptoSaid : Prop := fnExactPolymorphismWithUptoRow.holds Try.pinned (OpenSpec.upto fnExactPolymorphismWithSpec)

/-- 'laws.FnExactHullOf', WHERE WHAT IT READS IS OF BULK AT MOST 1048576: true; the input reads as it did. -/
def fnExactHullOfUptoRow : OpenClaim := { program := "ytccobadobklbpaa", sum := "ba4b0bf7946499a2caaf5450cd47616798c85da463795490aaa1bdf304f1f9a1", func := "loop.example/g01085/laws.FnExactHullOf", spec := "fnExactHullOf", unfollowed := true, recurses := true, apart := false, narrowed := true }
def FnExactHullOfUptoSaid : Prop := fnExactHullOfUptoRow.holds Try.pinned (OpenSpec.upto fnExactHullOfSpec)

/-- 'laws.FnExactIsDefinable', WHERE WHAT IT READS IS OF BULK AT MOST 1048576: true; the input reads as it did. -/
def fnExactIsDefinableUptoRow : OpenClaim := { program := "ytccobadobklbpaa", sum := "ba4b0bf7946499a2caaf5450cd47616798c85da463795490aaa1bdf304f1f9a1", func := "loop.example/g01085/laws.FnExactIsDefinable", spec := "fnExactIsDefinable", unfollowed := true, recurses := true, apart := false, narrowed := true }
def FnExactIsDefinableUptoSaid : Prop := fnExactIsDefinableUptoRow.holds Try.pinned (OpenSpec.upto fnExactIsDefinableSpec)

/-- 'laws.FnExactBreakingOp', WHERE WHAT IT READS IS OF BULK AT MOST 1048576: true; the input reads as it did. -/
def fnExactBreakingOpUptoRow : OpenClaim := { program := "ytccobadobklbpaa", sum := "ba4b0bf7946499a2caaf5450cd47616798c85da463795490aaa1bdf304f1f9a1", func := "loop.example/g01085/laws.FnExactBreakingOp", spec := "fnExactBreakingOp", unfollowed := true, recurses := true, apart := false, narrowed := true }
def FnExactBreakingOpUptoSaid : Prop := fnExactBreakingOpUptoRow.holds Try.pinned (OpenSpec.upto fnExactBreakingOpSpec)

/-- 'laws.FnExactIndicatorFormula', WHERE WHAT IT READS IS OF BULK AT MOST 1048576: true; the input reads as it did. -/
def fnExactIndicatorFormulaUptoRow : OpenClaim := { program := "ytccobadobklbpaa", sum := "ba4b0bf7946499a2caaf5450cd47616798c85da463795490aaa1bdf304f1f9a1", func := "loop.example/g01085/laws.FnExactIndicatorFormula", spec := "fnExactIndicatorFormula", unfollowed := true, recurses := true, apart := false, narrowed := true }
def FnExactIndicatorFormulaUptoSaid : Prop := fnExactIndicatorFormulaUptoRow.holds Try.pinned (OpenSpec.upto fnExactIndicatorFormulaSpec)

end Rows
end Go.Proofs.Ytccobadobklbpaa
