/-
  Contracts: hiding a variable of a formula: the program's.
-/
import Derived.Test.YtepebfpgmnidnaaK15
namespace Go.Proofs.Ytepebfpgmnidnaa
open Go.RowKit Go.Sort
end Go.Proofs.Ytepebfpgmnidnaa
