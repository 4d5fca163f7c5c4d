/-
  Contracts: hiding a variable of a formula: the program's.
-/
import Derived.Test.YtbpjejhjlmpcjaaGreatK14
import Derived.Deep.RegionLaw
namespace Go.Proofs.YtbpjejhjlmpcjaaGreat
open Go.RowKit Go.Sort
theorem rnL_take {g : Int → Int} {xs : List (Int × List Int)} {k : Nat} (h : k < xs.length) : rnL g (xs.take k) ++ [((xs[k]).1, (xs[k]).2.map g)] = rnL g (xs.take (k + 1)) := by
  simp only [rnL]
  rw [List.take_succ_eq_append_getElem h, List.map_append]
  rfl
theorem rnL_len {g : Int → Int} {xs : List (Int × List Int)} : (rnL g xs).length = xs.length := by simp [rnL]
theorem map_take {g : Int → Int} {xs : List Int} {k : Nat} (h : k < xs.length) : (xs.take k).map g ++ [g xs[k]] = (xs.take (k + 1)).map g := by
  rw [List.take_succ_eq_append_getElem h, List.map_append]
  rfl
theorem size_set {w : World} {a : Addr} {u : Value} : (w.setCell a u).heap.size = w.heap.size := by simp [World.setCell]
theorem ex_slice {α : Type} {E : Ty α} {base : Nat} {w : World} {u : Value} {x : List α} (h : (Ty.slice E).Fr base w [u] x) : ∃ ad n cap, u = .slice ad n cap := let ⟨a, c, h⟩ := fr_slice h; ⟨a, _, c, h⟩
theorem rd_sl {α : Type} {E : Ty α} {w : World} {u : Value} {x : List α} (h : (Ty.slice E).Rd w [u] x) : ∃ ad n cap, u = .slice ad n cap := let ⟨a, c, h⟩ := rd_slice h; ⟨a, _, c, h⟩
end Go.Proofs.YtbpjejhjlmpcjaaGreat
