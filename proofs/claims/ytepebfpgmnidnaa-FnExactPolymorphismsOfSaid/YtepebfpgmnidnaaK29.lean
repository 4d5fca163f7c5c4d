/-
  Contracts: whether an operation breaks a relation, the reference's.
-/
import Derived.Test.YtepebfpgmnidnaaK28
import Derived.Test.YtepebfpgmnidnaaK17
namespace Go.Proofs.Ytepebfpgmnidnaa
open Go.RowKit Go.Sort
theorem rel_len_le {s : Int} {r : Int × List (List Int)} (hr : relOk s r) : (r.2.length : Int) ≤ s ^ r.1.toNat ∧ s ^ r.1.toNat ≤ 256 := by
  have hs := hr.1
  have hm := hr.2.1
  unfold sizeOk at hs hm
  have hp : 0 ≤ s ^ r.1.toNat := pow_nn (by omega) _
  constructor
  · have hN : ((r.2.map fun x => (idxL s 0 x).toNat)).Nodup := by
      rw [List.Nodup, List.pairwise_map]
      refine List.Pairwise.imp_of_mem ?_ (sortedL_nodup (relOk_sorted hr))
      intro a b ha hb hab e
      obtain ⟨i, hi, rfl⟩ := List.mem_iff_getElem.1 ha
      obtain ⟨j, hj, rfl⟩ := List.mem_iff_getElem.1 hb
      obtain ⟨a1, a2⟩ := (hr.2.2 i hi).1
      obtain ⟨b1, b2⟩ := (hr.2.2 j hj).1
      have ha3 := idx_lt (m := r.1.toNat) hs.1 (by omega) a2
      have hb3 := idx_lt (m := r.1.toNat) hs.1 (by omega) b2
      exact hab (idxL_inj hs.1 r.1.toNat (by omega) (by omega) a2 b2 (by omega))
    have := nodup_lt_len (s ^ r.1.toNat).toNat _ hN fun x hx => by
      obtain ⟨y, hy, rfl⟩ := List.mem_map.1 hx
      obtain ⟨i, hi, rfl⟩ := List.mem_iff_getElem.1 hy
      obtain ⟨a1, a2⟩ := (hr.2.2 i hi).1
      have ha3 := idx_lt (m := r.1.toNat) hs.1 (by omega) a2
      omega
    rw [List.length_map] at this
    omega
  · refine Int.le_trans (pow_mono' (by omega) (show s ≤ 4 by omega) r.1.toNat) ?_
    rcases (show r.1.toNat = 1 ∨ r.1.toNat = 2 ∨ r.1.toNat = 3 ∨ r.1.toNat = 4 by omega) with e | e | e | e <;> rw [e] <;> decide
/-- as far as k all are kept -/
def keptTo (s : Int) (f : Int × List Int) (r : Int × List (List Int)) (k : Nat) : Prop := ∀ i : Nat, i < k → makes s f r i ∈ r.2
theorem keptTo_zero {s : Int} {f : Int × List Int} {r : Int × List (List Int)} : keptTo s f r 0 := fun _ h => absurd h (Nat.not_lt_zero _)
theorem keptTo_succ {s : Int} {f : Int × List Int} {r : Int × List (List Int)} {k : Nat} (h : keptTo s f r k) (h' : makes s f r k ∈ r.2) : keptTo s f r (k + 1) := fun i hi => by
  by_cases e : i = k
  · subst e; exact h'
  · exact h i (by omega)
theorem keepsP_of {s : Int} {f : Int × List Int} {r : Int × List (List Int)} {M : Nat} (hM : (r.2.length : Int) ^ f.1.toNat = M) (h : keptTo s f r M) : keepsP s f r := fun i hi => h i (by rw [hM] at hi; omega)
theorem keepsP_not {s : Int} {f : Int × List Int} {r : Int × List (List Int)} {M k : Nat} (hM : (r.2.length : Int) ^ f.1.toNat = M) (hk : k < M) (h : ¬ makes s f r k ∈ r.2) : ¬ keepsP s f r := fun hh => h (hh k (by rw [hM]; omega))
/-- the slices that stand in a row read as the first tuples -/
def picked (w : World) (vs : List Value) (ts : List (List Int)) : Prop := vs.length ≤ ts.length ∧ ∀ i (h : i < vs.length) (h' : i < ts.length), intsT.Rd w [vs[i]] ts[i]
theorem picked_nil {w : World} {ts : List (List Int)} : picked w [] ts := ⟨Nat.zero_le _, fun i h => by simp at h⟩
theorem picked.below {w w' : World} {vs : List Value} {ts : List (List Int)} (h : picked w vs ts) (hb : Below w.heap.size w w') : picked w' vs ts := ⟨h.1, fun i h1 h2 => (h.2 i h1 h2).below hb⟩
theorem picked_snoc {w : World} {vs : List Value} {ts : List (List Int)} {u : Value} (h : picked w vs ts) (hl : vs.length < ts.length) (hu : intsT.Rd w [u] ts[vs.length]) : picked w (vs ++ [u]) ts := by
  refine ⟨by simp; omega, fun i h1 h2 => ?_⟩
  by_cases e : i = vs.length
  · subst e; simpa using hu
  · have hi : i < vs.length := by simp at h1; omega
    rw [List.getElem_append_left hi]
    exact h.2 i hi h2
theorem picks_get {ts : List (List Int)} {ar : Nat} {i : Int} {j dn : Nat} (hj : j < (digL ts.length i ar).length) (hd : (digL ts.length i ar)[j] = (dn : Int)) (hdn : dn < ts.length) (h : j < (picks ts ar i).length) : (picks ts ar i)[j] = ts[dn] := by
  simp only [picks, List.getElem_map, hd, Int.toNat_natCast, List.getD_eq_getElem?_getD, List.getElem?_eq_getElem hdn, Option.getD_some]
theorem mem_len_pos {α : Type} {xs : List α} {k : Nat} (h : k < xs.length) : 0 < xs.length := by omega
/-- the first relation that is broken, or -1 -/
noncomputable def brokenI (t : Int × List (Int × List (List Int))) (f : Int × List Int) : Int := firstI (fun r => !tb (keepsP t.1 f r)) t.2
end Go.Proofs.Ytepebfpgmnidnaa
