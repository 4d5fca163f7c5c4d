/-
  Contracts: the tuple that an operation makes of tuples.
-/
import Derived.Test.YtepebfpgmnidnaaK22
namespace Go.Proofs.Ytepebfpgmnidnaa
open Go.RowKit Go.Sort
/-- the values of tuples at a place -/
def colL (ts : List (List Int)) (p : Nat) : List Int := ts.map fun t => t.getD p 0
def madeV (s : Int) (tab : List Int) (ts : List (List Int)) (p : Nat) : Int := tab.getD (idxL s 0 (colL ts p)).toNat 0
def madeL (s : Int) (tab : List Int) (ts : List (List Int)) (m : Nat) : List Int := (List.range m).map fun p => madeV s tab ts p
theorem colL_len {ts : List (List Int)} {p : Nat} : (colL ts p).length = ts.length := by simp [colL]
theorem colL_get {ts : List (List Int)} {p k : Nat} (h : k < ts.length) (hp : p < (ts[k]).length) (h' : k < (colL ts p).length) : (colL ts p)[k] = (ts[k])[p] := by
  simp [colL, List.getD_eq_getElem?_getD, hp]
theorem madeL_len {s : Int} {tab : List Int} {ts : List (List Int)} {m : Nat} : (madeL s tab ts m).length = m := by simp [madeL]
/-- tuples that an operation may be applied to -/
def tupsOk (s ar : Int) (m : Nat) (ts : List (List Int)) : Prop := (ts.length : Int) = ar ∧ ∀ t ∈ ts, t.length = m ∧ ∀ a ∈ t, 0 ≤ a ∧ a ≤ s - 1
theorem colL_in {s ar : Int} {m p : Nat} {ts : List (List Int)} (h : tupsOk s ar m ts) (hp : p < m) : ∀ a ∈ colL ts p, 0 ≤ a ∧ a ≤ s - 1 := by
  intro a ha
  obtain ⟨t, ht, rfl⟩ := List.mem_map.1 ha
  obtain ⟨h1, h2⟩ := h.2 t ht
  have hl : p < t.length := by omega
  rw [List.getD_eq_getElem?_getD, List.getElem?_eq_getElem hl]
  exact h2 _ (List.getElem_mem hl)
/-- the index lies in the table, and what stands there -/
theorem madeV_get {s : Int} {f : Int × List Int} {ts : List (List Int)} {m p : Nat} (hf : opOk s f) (ht : tupsOk s f.1 m ts) (hp : p < m) :
    ∃ k : Nat, idxL s 0 (colL ts p) = k ∧ ∃ h : k < f.2.length, madeV s f.2 ts p = f.2[k] := by
  obtain ⟨⟨h1, h2⟩, ⟨h3, h4⟩, h5, h6⟩ := hf
  have hb := idx_bd h1 (colL_in ht hp) (colL ts p).length (Nat.le_refl _)
  rw [List.take_length, colL_len] at hb
  have hl := ht.1
  have he : s ^ ts.length = f.2.length := by rw [h5, ← hl, Int.toNat_natCast]
  rw [he] at hb
  refine ⟨(idxL s 0 (colL ts p)).toNat, by omega, by omega, ?_⟩
  have hk : (idxL s 0 (colL ts p)).toNat < f.2.length := by omega
  rw [madeV, List.getD_eq_getElem?_getD, List.getElem?_eq_getElem hk]
  rfl
end Go.Proofs.Ytepebfpgmnidnaa
