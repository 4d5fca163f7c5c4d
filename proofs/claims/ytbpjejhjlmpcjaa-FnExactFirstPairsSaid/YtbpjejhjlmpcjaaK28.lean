/-
  Contracts: the set of a relation's tuples, filled.
-/
import Derived.Test.YtbpjejhjlmpcjaaK27
namespace Go.Proofs.Ytbpjejhjlmpcjaa
open Go.RowKit Go.Sort
theorem pow_mono' {s c : Int} (h : 0 ≤ s) (h1 : s ≤ c) : ∀ k : Nat, s ^ k ≤ c ^ k
  | 0 => by rw [Int.pow_zero, Int.pow_zero]; exact Int.le_refl _
  | k + 1 => by
    rw [Int.pow_succ, Int.pow_succ]
    exact Int.mul_le_mul (pow_mono' h h1 k) h1 h (pow_nn (by omega) k)
theorem bD' {B : Nat} {w : World} : Below B w w.drew := ⟨rfl, rfl, rfl, Nat.le_refl _, fun _ _ => rfl⟩
end Go.Proofs.Ytbpjejhjlmpcjaa
