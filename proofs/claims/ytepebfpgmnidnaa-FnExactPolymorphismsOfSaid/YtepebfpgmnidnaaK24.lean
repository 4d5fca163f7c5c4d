/-
  Contracts: the tuple that an operation makes of tuples, the reference's.
-/
import Derived.Test.YtepebfpgmnidnaaK23
import Derived.Test.YtepebfpgmnidnaaK9
namespace Go.Proofs.Ytepebfpgmnidnaa
open Go.RowKit Go.Sort
theorem madeL_succ (s : Int) (tab : List Int) (ts : List (List Int)) (m : Nat) : madeL s tab ts m ++ [madeV s tab ts m] = madeL s tab ts (m + 1) := by simp [madeL, List.range_succ]
theorem sl_ex {α : Type} {E : Ty α} {base : Nat} {w : World} {u : Value} {x : List α} (h : (Ty.slice E).Fr base w [u] x) : ∃ ad n cap, u = .slice ad n cap := let ⟨a, c, h⟩ := fr_slice h; ⟨a, _, c, h⟩
end Go.Proofs.Ytepebfpgmnidnaa
