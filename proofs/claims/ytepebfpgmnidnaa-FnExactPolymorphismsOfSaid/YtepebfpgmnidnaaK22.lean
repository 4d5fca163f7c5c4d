/-
  Contracts: valid operations.
-/
import Derived.Test.YtepebfpgmnidnaaK21
import Derived.Test.YtepebfpgmnidnaaK8
namespace Go.Proofs.Ytepebfpgmnidnaa
open Go.RowKit Go.Sort
def opOk (s : Int) (f : Int × List Int) : Prop := sizeOk s ∧ (1 ≤ f.1 ∧ f.1 ≤ 3) ∧ rowOk s (s ^ f.1.toNat) f.2
end Go.Proofs.Ytepebfpgmnidnaa
