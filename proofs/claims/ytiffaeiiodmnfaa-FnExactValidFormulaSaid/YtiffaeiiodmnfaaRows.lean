/-
  No cell of these rows narrows 'for every input' (looked for: loops, veiled, ifaces, maps, wideKeys, modest, calm, conditions, laid).
  DERIVED. THE GIVEN ROWS OF THIS SEAT. 5 by the template 'for every input the law returns true; each argument reads behind the call as it read before'; 0 by the template 'total and deterministic' (their statements: YtiffaeiiodmnfaaTotals.lean).
  GIVEN WITH THE SEED: the statements are not yours to turn. If you find one false, say at which input.
  Laid BY PROGRAM, IN A SANDBOX (cutbox-rows.mjs): the forced cells as the released guide's own fill.sh prints them over the translation c6b2541d709d2339… (all of the seat's roots in one cut). By AI agents, Wed Nov 11 2026. No macro, syntax, notation, axiom, sorry.
-/
import Derived.Test.YtiffaeiiodmnfaaChecked
import GoSem.Claim
import GoSem.ClaimJoined
import GoSem.ClaimMapViews
import Derived.JoinedTies
import Derived.KernelRfl
namespace Go.Proofs.Ytiffaeiiodmnfaa
/- THE CELL 'sum', in the pinned program and in every row, IS THE sha256 OF THE DUMP (.gsa) THAT YtiffaeiiodmnfaaProg.lean LOADS. Nothing in Lean hashes anything: it is a label: what it is worth is what the hold of that sum in a sandbox is worth. -/
noncomputable def Try.pinned : Pinned := { name := "ytiffaeiiodmnfaa", sum := "c6b2541d709d23399e4e55e1c4b392e3553a5c35a756e8e6dbcce630795acdbd", checked := Try.checked }
namespace Rows
def none {H : Type} : Left H := { results := [], args := [] }

/-- 'laws.FnExactPairIndex': WHATEVER THE INPUT: true; the input reads as it did. -/
def fnExactPairIndexSpec : ChangeSpec := { name := "fnExactPairIndex", fn := fun _ => fun
  | [d1, d2, d3] => { results := [.lit (.bool true)], args := [d1, d2, d3] }
  | _ => none }
def fnExactPairIndexRow : OpenClaim := { program := "ytiffaeiiodmnfaa", sum := "c6b2541d709d23399e4e55e1c4b392e3553a5c35a756e8e6dbcce630795acdbd", func := "loop.example/g01085/laws.FnExactPairIndex", spec := "fnExactPairIndex", apart := false }
def FnExactPairIndexSaid : Prop := fnExactPairIndexRow.holds Try.pinned (OpenSpec.ofChange fnExactPairIndexSpec)

/-- ITS FALSE NEIGHBOUR: 'it returns false'. Refute it at one input. -/
def fnExactPairIndexWrong : ChangeSpec := { name := "fnExactPairIndex", fn := fun _ => fun
  | [d1, d2, d3] => { results := [.lit (.bool false)], args := [d1, d2, d3] }
  | _ => none }
def FnExactPairIndexWrongFalsely : Prop := fnExactPairIndexRow.holds Try.pinned (OpenSpec.ofChange fnExactPairIndexWrong)

/-- 'laws.FnExactSameInstance': WHATEVER THE INPUT: true; the input reads as it did. -/
def fnExactSameInstanceSpec : ChangeSpec := { name := "fnExactSameInstance", fn := fun _ => fun
  | [d1, d2] => { results := [.lit (.bool true)], args := [d1, d2] }
  | _ => none }
def fnExactSameInstanceRow : OpenClaim := { program := "ytiffaeiiodmnfaa", sum := "c6b2541d709d23399e4e55e1c4b392e3553a5c35a756e8e6dbcce630795acdbd", func := "loop.example/g01085/laws.FnExactSameInstance", spec := "fnExactSameInstance", unfollowed := true, recurses := true, apart := false }
def FnExactSameInstanceSaid : Prop := fnExactSameInstanceRow.holds Try.pinned (OpenSpec.ofChange fnExactSameInstanceSpec)

/-- ITS FALSE NEIGHBOUR: 'it returns false'. Refute it at one input. -/
def fnExactSameInstanceWrong : ChangeSpec := { name := "fnExactSameInstance", fn := fun _ => fun
  | [d1, d2] => { results := [.lit (.bool false)], args := [d1, d2] }
  | _ => none }
def FnExactSameInstanceWrongFalsely : Prop := fnExactSameInstanceRow.holds Try.pinned (OpenSpec.ofChange fnExactSameInstanceWrong)

/-- 'laws.FnExactSameFormula': WHATEVER THE INPUT: true; the input reads as it did. -/
def fnExactSameFormulaSpec : ChangeSpec := { name := "fnExactSameFormula", fn := fun _ => fun
  | [d1, d2] => { results := [.lit (.bool true)], args := [d1, d2] }
  | _ => none }
def fnExactSameFormulaRow : OpenClaim := { program := "ytiffaeiiodmnfaa", sum := "c6b2541d709d23399e4e55e1c4b392e3553a5c35a756e8e6dbcce630795acdbd", func := "loop.example/g01085/laws.FnExactSameFormula", spec := "fnExactSameFormula", unfollowed := true, recurses := true, apart := false }
def FnExactSameFormulaSaid : Prop := fnExactSameFormulaRow.holds Try.pinned (OpenSpec.ofChange fnExactSameFormulaSpec)

/-- ITS FALSE NEIGHBOUR: 'it returns false'. Refute it at one input. -/
def fnExactSameFormulaWrong : ChangeSpec := { name := "fnExactSameFormula", fn := fun _ => fun
  | [d1, d2] => { results := [.lit (.bool false)], args := [d1, d2] }
  | _ => none }
def FnExactSameFormulaWrongFalsely : Prop := fnExactSameFormulaRow.holds Try.pinned (OpenSpec.ofChange fnExactSameFormulaWrong)

/-- 'laws.FnExactValidInstance': WHATEVER THE INPUT: true; the input reads as it did. -/
def fnExactValidInstanceSpec : ChangeSpec := { name := "fnExactValidInstance", fn := fun _ => fun
  | [d1, d2] => { results := [.lit (.bool true)], args := [d1, d2] }
  | _ => none }
def fnExactValidInstanceRow : OpenClaim := { program := "ytiffaeiiodmnfaa", sum := "c6b2541d709d23399e4e55e1c4b392e3553a5c35a756e8e6dbcce630795acdbd", func := "loop.example/g01085/laws.FnExactValidInstance", spec := "fnExactValidInstance", unfollowed := true, recurses := true, apart := false }
def FnExactValidInstanceSaid : Prop := fnExactValidInstanceRow.holds Try.pinned (OpenSpec.ofChange fnExactValidInstanceSpec)

/-- ITS FALSE NEIGHBOUR: 'it returns false'. Refute it at one input. -/
def fnExactValidInstanceWrong : ChangeSpec := { name := "fnExactValidInstance", fn := fun _ => fun
  | [d1, d2] => { results := [.lit (.bool false)], args := [d1, d2] }
  | _ => none }
def FnExactValidInstanceWrongFalsely : Prop := fnExactValidInstanceRow.holds Try.pinned (OpenSpec.ofChange fnExactValidInstanceWrong)

/-- 'laws.FnExactValidFormula': WHATEVER THE INPUT: true; the input reads as it did. -/
def fnExactValidFormulaSpec : ChangeSpec := { name := "fnExactValidFormula", fn := fun _ => fun
  | [d1, d2] => { results := [.lit (.bool true)], args := [d1, d2] }
  | _ => none }
def fnExactValidFormulaRow : OpenClaim := { program := "ytiffaeiiodmnfaa", sum := "c6b2541d709d23399e4e55e1c4b392e3553a5c35a756e8e6dbcce630795acdbd", func := "loop.example/g01085/laws.FnExactValidFormula", spec := "fnExactValidFormula", unfollowed := true, recurses := true, apart := false }
def FnExactValidFormulaSaid : Prop := fnExactValidFormulaRow.holds Try.pinned (OpenSpec.ofChange fnExactValidFormulaSpec)

/-- ITS FALSE NEIGHBOUR: 'it returns false'. Refute it at one input. -/
def fnExactValidFormulaWrong : ChangeSpec := { name := "fnExactValidFormula", fn := fun _ => fun
  | [d1, d2] => { results := [.lit (.bool false)], args := [d1, d2] }
  | _ => none }
def FnExactValidFormulaWrongFalsely : Prop := fnExactValidFormulaRow.holds Try.pinned (OpenSpec.ofChange fnExactValidFormulaWrong)

/- THE SECOND FORM. 'bulk': how many values and letters a reading holds, each counted each time it is reached (what is shared counts as often as it is met; a slice's spare places count too). A statement '..UptoSaid' is the law's where the arguments, and the package variables that the reading takes, are together of bulk at most 1048576: NARROWER than '..Said'. Prove '..Said' where nothing that the law and all that it calls make is longer than what came in: it says more and counts as full. Else prove '..UptoSaid'. A law counts once. -/
mutual
def uptoBulk {H : Type} : DataW H → Nat
  | .lit (.string bytes) => bytes.length + 1
  | .lit _ => 1
  | .nil => 1
  | .ptr d => uptoBulk d + 1
  | .slice elems spare => uptoBulkAll elems + uptoBulkAll spare + 1
  | .agg parts => uptoBulkAll parts + 1
  | .iface _ d => uptoBulk d + 1
  | .map entries => uptoBulkEntries entries + 1
  | .held _ => 1
def uptoBulkAll {H : Type} : List (DataW H) → Nat
  | [] => 0
  | d :: r => uptoBulk d + uptoBulkAll r
def uptoBulkEntries {H : Type} : List (Lit × DataW H) → Nat
  | [] => 0
  | x :: r => uptoBulkEntry x + uptoBulkEntries r
def uptoBulkEntry {H : Type} : Lit × DataW H → Nat
  | (.string bytes, d) => bytes.length + uptoBulk d + 1
  | (_, d) => uptoBulk d + 1
 end
def uptoSmall : (H : Type) → List (DataW H) → Bool := fun _ ds => decide (uptoBulkAll ds ≤ 1048576)
def OpenSpec.upto (s : _root_.Go.ChangeSpec) : _root_.Go.OpenSpec := { _root_.Go.OpenSpec.ofChange s with cond := some uptoSmall }

/-- 'laws.FnExactPairIndex', WHERE WHAT IT READS IS OF BULK AT MOST 1048576: true; the input reads as it did. -/
def fnExactPairIndexUptoRow : OpenClaim := { program := "ytiffaeiiodmnfaa", sum := "c6b2541d709d23399e4e55e1c4b392e3553a5c35a756e8e6dbcce630795acdbd", func := "loop.example/g01085/laws.FnExactPairIndex", spec := "fnExactPairIndex", apart := false, narrowed := true }
def FnExactPairIndexUptoSaid : Prop := fnExactPairIndexUptoRow.holds Try.pinned (OpenSpec.upto fnExactPairIndexSpec)

/-- 'laws.FnExactSameInstance', WHERE WHAT IT READS IS OF BULK AT MOST 1048576: true; the input reads as it did. -/
def fnExactSameInstanceUptoRow : OpenClaim := { program := "ytiffaeiiodmnfaa", sum := "c6b2541d709d23399e4e55e1c4b392e3553a5c35a756e8e6dbcce630795acdbd", func := "loop.example/g01085/laws.FnExactSameInstance", spec := "fnExactSameInstance", unfollowed := true, recurses := true, apart := false, narrowed := true }
def FnExactSameInstanceUptoSaid : Prop := fnExactSameInstanceUptoRow.holds Try.pinned (OpenSpec.upto fnExactSameInstanceSpec)

/-- 'laws.FnExactSameFormula', WHERE WHAT IT READS IS OF BULK AT MOST 1048576: true; the input reads as it did. -/
def fnExactSameFormulaUptoRow : OpenClaim := { program := "ytiffaeiiodmnfaa", sum := "c6b2541d709d23399e4e55e1c4b392e3553a5c35a756e8e6dbcce630795acdbd", func := "loop.example/g01085/laws.FnExactSameFormula", spec := "fnExactSameFormula", unfollowed := true, recurses := true, apart := false, narrowed := true }
def FnExactSameFormulaUptoSaid : Prop := fnExactSameFormulaUptoRow.holds Try.pinned (OpenSpec.upto fnExactSameFormulaSpec)

/-- 'laws.FnExactValidInstance', WHERE WHAT IT READS IS OF BULK AT MOST 1048576: true; the input reads as it did. -/
def fnExactValidInstanceUptoRow : OpenClaim := { program := "ytiffaeiiodmnfaa", sum := "c6b2541d709d23399e4e55e1c4b392e3553a5c35a756e8e6dbcce630795acdbd", func := "loop.example/g01085/laws.FnExactValidInstance", spec := "fnExactValidInstance", unfollowed := true, recurses := true, apart := false, narrowed := true }
def FnExactValidInstanceUptoSaid : Prop := fnExactValidInstanceUptoRow.holds Try.pinned (OpenSpec.upto fnExactValidInstanceSpec)

/-- 'laws.FnExactValidFormula', WHERE WHAT IT READS IS OF BULK AT MOST 1048576: true; the input reads as it did. -/
def fnExactValidFormulaUptoRow : OpenClaim := { program := "ytiffaeiiodmnfaa", sum := "c6b2541d709d23399e4e55e1c4b392e3553a5c35a756e8e6dbcce630795acdbd", func := "loop.example/g01085/laws.FnExactValidFormula", spec := "fnExactValidFormula", unfollowed := true, recurses := true, apart := false, narrowed := true }
def FnExactValidFormulaUptoSaid : Prop := fnExactValidFormulaUptoRow.holds Try.pinned (OpenSpec.upto fnExactValidFormulaSpec)

end Rows
end Go.Proofs.Ytiffaeiiodmnfaa
