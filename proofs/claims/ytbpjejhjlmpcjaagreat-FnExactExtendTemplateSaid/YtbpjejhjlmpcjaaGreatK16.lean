/-
  Contracts: hiding a variable of a formula: the program's.
-/
import Derived.Test.YtbpjejhjlmpcjaaGreatK15
namespace Go.Proofs.YtbpjejhjlmpcjaaGreat
open Go.RowKit Go.Sort
end Go.Proofs.YtbpjejhjlmpcjaaGreat
