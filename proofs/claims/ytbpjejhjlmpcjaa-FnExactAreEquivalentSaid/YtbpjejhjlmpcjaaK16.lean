/-
  Contracts: hiding a variable of a formula: the program's.
-/
import Derived.Test.YtbpjejhjlmpcjaaK15
namespace Go.Proofs.Ytbpjejhjlmpcjaa
open Go.RowKit Go.Sort
end Go.Proofs.Ytbpjejhjlmpcjaa
