/-
  Contracts: atoms whose variables are renamed.
-/
import Derived.Test.YtbpjejhjlmpcjaaGreatK11
import Derived.Deep.RegionHeldLaw
namespace Go.Proofs.YtbpjejhjlmpcjaaGreat
open Go.RowKit Go.Sort
theorem news2 {w : World} {u u' : Value} {T : TypeId} : ∀ j x, [u, u'][j]? = some x → (w.alloc (.cells #[u, u'] T)).cell? ((⟨w.heap.size, 0, none⟩ : Addr).add j) = some x := by
  intro j x h
  match j with
  | 0 => simp at h; subst h; simp [Addr.add]
  | 1 => simp at h; subst h; simp [Addr.add]
  | j + 2 => simp at h
def movedL (to : List Int) (xs : List (Int × List Int)) : List (Int × List Int) := xs.map fun a => (a.1, atL to a.2)
theorem movedL_len {to : List Int} {xs : List (Int × List Int)} : (movedL to xs).length = xs.length := by simp [movedL]
theorem movedL_take {to : List Int} {xs : List (Int × List Int)} {k : Nat} (h : k < xs.length) : movedL to (xs.take k) ++ [((xs[k]).1, atL to (xs[k]).2)] = movedL to (xs.take (k + 1)) := by
  simp only [movedL]
  rw [List.take_succ_eq_append_getElem h, List.map_append]
  rfl
end Go.Proofs.YtbpjejhjlmpcjaaGreat
