/-
  Contracts: hiding a variable of a formula: the program's.
-/
import Derived.Test.YtigclobkmocfkaaK15
namespace Go.Proofs.Ytigclobkmocfkaa
open Go.RowKit Go.Sort
end Go.Proofs.Ytigclobkmocfkaa
