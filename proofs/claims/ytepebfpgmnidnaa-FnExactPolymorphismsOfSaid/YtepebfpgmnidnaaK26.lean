/-
  Plain: a relation that has all tuples; what an operation makes of tuples of a relation; whether it keeps the relation.
-/
import Derived.Test.YtepebfpgmnidnaaK25
namespace Go.Proofs.Ytepebfpgmnidnaa
open Go.RowKit Go.Sort
theorem nodup_lt_len : ∀ (N : Nat) (L : List Nat), L.Nodup → (∀ x ∈ L, x < N) → L.length ≤ N
  | 0, L, _, h => by
    cases L with
    | nil => exact Nat.le_refl _
    | cons x r => exact absurd (h x (List.mem_cons_self ..)) (Nat.not_lt_zero _)
  | N + 1, L, hn, h => by
    by_cases hm : N ∈ L
    · have h1 := nodup_lt_len N (L.erase N) (hn.erase N) fun x hx => by
        have h2 := h x (List.mem_of_mem_erase hx)
        have h3 : x ≠ N := fun e => by subst e; exact hn.not_mem_erase hx
        omega
      have h4 := List.length_erase_of_mem hm
      omega
    · have := nodup_lt_len N L hn fun x hx => by
        have h2 := h x hx
        have h3 : x ≠ N := fun e => by subst e; exact hm hx
        omega
      omega
/-- a list that rises has nothing twice -/
theorem sortedL_nodup {ts : List (List Int)} (h : sortedL ts) : ts.Nodup := by
  rw [List.Nodup, List.pairwise_iff_getElem]
  intro i j hi hj hij e
  have := sortedL_lt h hj hij
  rw [e] at this
  unfold ltL at this
  rw [cmpL_self] at this
  omega
theorem idx_lt {s : Int} (hs : 1 ≤ s) {xs : List Int} {m : Nat} (hl : xs.length = m) (h : ∀ a ∈ xs, 0 ≤ a ∧ a ≤ s - 1) : 0 ≤ idxL s 0 xs ∧ idxL s 0 xs ≤ s ^ m - 1 := by
  have := idx_bd hs h xs.length (Nat.le_refl _)
  rwa [List.take_length, hl] at this
/-- as many tuples as there can be: all of them -/
theorem full_mem {s : Int} (hs : 1 ≤ s) {m : Nat} {ts : List (List Int)} (hn : ts.Nodup) (hts : ∀ t ∈ ts, t.length = m ∧ ∀ a ∈ t, 0 ≤ a ∧ a ≤ s - 1) (hl : (ts.length : Int) = s ^ m) {t : List Int} (ht : t.length = m) (hti : ∀ a ∈ t, 0 ≤ a ∧ a ≤ s - 1) : t ∈ ts := by
  apply Classical.byContradiction
  intro hno
  have hN : (((t :: ts).map fun x => (idxL s 0 x).toNat)).Nodup := by
    have hn2 : (t :: ts).Nodup := List.nodup_cons.2 ⟨hno, hn⟩
    have hall : ∀ x ∈ t :: ts, x.length = m ∧ ∀ a ∈ x, 0 ≤ a ∧ a ≤ s - 1 := fun x hx => by
      rcases List.mem_cons.1 hx with rfl | hx
      · exact ⟨ht, hti⟩
      · exact hts x hx
    rw [List.Nodup, List.pairwise_map]
    refine List.Pairwise.imp_of_mem ?_ hn2
    intro a b ha hb hab e
    obtain ⟨a1, a2⟩ := hall a ha
    obtain ⟨b1, b2⟩ := hall b hb
    have ha3 := idx_lt hs a1 a2
    have hb3 := idx_lt hs b1 b2
    exact hab (idxL_inj hs m a1 b1 a2 b2 (by omega))
  have := nodup_lt_len ts.length _ hN fun x hx => by
    obtain ⟨y, hy, rfl⟩ := List.mem_map.1 hx
    have hall : y.length = m ∧ ∀ a ∈ y, 0 ≤ a ∧ a ≤ s - 1 := by
      rcases List.mem_cons.1 hy with rfl | hy
      · exact ⟨ht, hti⟩
      · exact hts y hy
    have h3 := idx_lt hs hall.1 hall.2
    rw [← hl] at h3
    omega
  simp at this
  omega
/-- the tuples of a relation that an index picks -/
def picks (ts : List (List Int)) (ar : Nat) (i : Int) : List (List Int) := (digL ts.length i ar).map fun k => ts.getD k.toNat []
/-- what the operation makes of them -/
def makes (s : Int) (f : Int × List Int) (r : Int × List (List Int)) (i : Int) : List Int := madeL s f.2 (picks r.2 f.1.toNat i) r.1.toNat
def keepsP (s : Int) (f : Int × List Int) (r : Int × List (List Int)) : Prop := ∀ i : Nat, (i : Int) < (r.2.length : Int) ^ f.1.toNat → makes s f r i ∈ r.2
theorem picks_len {ts : List (List Int)} {ar : Nat} {i : Int} : (picks ts ar i).length = ar := by simp [picks, digL_len]
theorem dig_mem {n i : Int} {ar : Nat} (hn : 1 ≤ n) {k : Int} (h : k ∈ digL n i ar) : 0 ≤ k ∧ k < n := by
  obtain ⟨j, _, rfl⟩ := List.mem_map.1 h
  exact dig_nn hn _
theorem picks_ok {s : Int} {f : Int × List Int} {r : Int × List (List Int)} (hr : relOk s r) (hf : opOk s f) (h0 : 0 < r.2.length) (i : Int) : tupsOk s f.1 r.1.toNat (picks r.2 f.1.toNat i) := by
  have ha := hf.2.1
  refine ⟨by rw [picks_len]; omega, fun t ht => ?_⟩
  obtain ⟨k, hk, rfl⟩ := List.mem_map.1 ht
  obtain ⟨k1, k2⟩ := dig_mem (by omega) hk
  have hkl : k.toNat < r.2.length := by omega
  rw [List.getD_eq_getElem?_getD, List.getElem?_eq_getElem hkl]
  obtain ⟨h1, h2⟩ := (hr.2.2 _ hkl).1
  refine ⟨?_, h2⟩
  show (r.2[k.toNat]).length = r.1.toNat
  omega
theorem makes_in {s : Int} {f : Int × List Int} {r : Int × List (List Int)} (hr : relOk s r) (hf : opOk s f) (h0 : 0 < r.2.length) (i : Int) : (makes s f r i).length = r.1.toNat ∧ ∀ a ∈ makes s f r i, 0 ≤ a ∧ a ≤ s - 1 := by
  refine ⟨madeL_len, fun a ha => ?_⟩
  obtain ⟨p, hp, rfl⟩ := List.mem_map.1 ha
  obtain ⟨k, _, hk, he⟩ := madeV_get hf (picks_ok hr hf h0 i) (by simpa using hp)
  show 0 ≤ madeV s f.2 (picks r.2 f.1.toNat i) p ∧ madeV s f.2 (picks r.2 f.1.toNat i) p ≤ s - 1
  rw [he]
  exact hf.2.2.2 _ (List.getElem_mem hk)
/-- a relation with all tuples is kept -/
theorem keeps_full {s : Int} {f : Int × List Int} {r : Int × List (List Int)} (hr : relOk s r) (hf : opOk s f) (hl : (r.2.length : Int) = s ^ r.1.toNat) : keepsP s f r := by
  intro i hi
  have hs := hr.1
  unfold sizeOk at hs
  have h0 : 0 < r.2.length := by
    have : 0 < s ^ r.1.toNat := Int.pow_pos (by omega)
    omega
  obtain ⟨h1, h2⟩ := makes_in hr hf h0 i
  have hso := relOk_sorted hr
  refine full_mem (by omega) (sortedL_nodup hso) (fun t ht => ?_) hl h1 h2
  obtain ⟨k, hk, rfl⟩ := List.mem_iff_getElem.1 ht
  obtain ⟨g1, g2⟩ := (hr.2.2 _ hk).1
  exact ⟨by omega, g2⟩
end Go.Proofs.Ytepebfpgmnidnaa
