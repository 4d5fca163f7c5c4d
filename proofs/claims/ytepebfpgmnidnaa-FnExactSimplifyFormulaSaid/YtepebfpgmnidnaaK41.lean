/-
  Contracts: whether a tuple has equal values for places with the same variable.
-/
import Derived.Test.YtepebfpgmnidnaaK40
namespace Go.Proofs.Ytepebfpgmnidnaa
open Go.RowKit Go.Sort
def agR (sc tu : List Int) (i k : Nat) : Prop := sc.getD k 0 = sc.getD i 0 → tu.getD k 0 = tu.getD i 0
def agIn (sc tu : List Int) (i m : Nat) : Prop := ∀ k, k < m → agR sc tu i k
def agTo (sc tu : List Int) (n : Nat) : Prop := ∀ i, i < n → agIn sc tu i i
theorem agIn_zero {sc tu : List Int} {i : Nat} : agIn sc tu i 0 := fun _ h => absurd h (Nat.not_lt_zero _)
theorem agIn_succ {sc tu : List Int} {i m : Nat} (h : agIn sc tu i m) (h' : agR sc tu i m) : agIn sc tu i (m + 1) := fun k hk => by
  by_cases e : k = m
  · subst e; exact h'
  · exact h k (by omega)
theorem agTo_zero {sc tu : List Int} : agTo sc tu 0 := fun _ h => absurd h (Nat.not_lt_zero _)
theorem agTo_succ {sc tu : List Int} {n : Nat} (h : agTo sc tu n) (h' : agIn sc tu n n) : agTo sc tu (n + 1) := fun i hi => by
  by_cases e : i = n
  · subst e; exact h'
  · exact h i (by omega)
theorem getD_at {xs : List Int} {k : Nat} (h : k < xs.length) : xs.getD k 0 = xs[k] := by rw [List.getD_eq_getElem?_getD, List.getElem?_eq_getElem h]; rfl
theorem agR_ne {sc tu : List Int} {i k : Nat} (h1 : i < sc.length) (h2 : k < sc.length) (h : (sc[k] == sc[i]) = false) : agR sc tu i k := fun e => by
  rw [getD_at h1, getD_at h2] at e
  rw [e] at h
  simp at h
theorem agR_eq {sc tu : List Int} {i k : Nat} (h1 : i < tu.length) (h2 : k < tu.length) (h : (tu[k] != tu[i]) = false) : agR sc tu i k := fun _ => by
  rw [getD_at h1, getD_at h2]
  simpa using h
theorem agR_not {sc tu : List Int} {i k n : Nat} (hk : k < i) (hi : i < n) (h1 : i < sc.length) (h2 : k < sc.length) (h3 : i < tu.length) (h4 : k < tu.length) (h : (sc[k] == sc[i]) = true) (h' : (tu[k] != tu[i]) = true) : ¬ agTo sc tu n := fun hh => by
  have := hh i hi k hk
  unfold agR at this
  rw [getD_at h1, getD_at h2, getD_at h3, getD_at h4] at this
  have := this (by simpa using h)
  simp [this] at h'
theorem bne_swap {a b : Int} {r : Bool} (h : (a != b) = r) : (b != a) = r := by rw [← h]; exact bne_comm
theorem beq_swap {a b : Int} {r : Bool} (h : (a == b) = r) : (b == a) = r := by rw [← h]; exact BEq.comm
end Go.Proofs.Ytepebfpgmnidnaa
