/-
  Contracts: the set of a relation's tuples, the reference's.
-/
import Derived.Test.YtepebfpgmnidnaaK26
import Derived.Deep.RegionHeldLaw
namespace Go.Proofs.Ytepebfpgmnidnaa
open Go.RowKit Go.Sort
/-- a set of tuples in new memory: a box whose third cell is a row of truth values -/
def SetAt (e base : Nat) (w : World) (bx g n : Nat) (L : List Bool) : Prop := base ≤ bx ∧ bx < w.heap.size ∧ g ≠ bx ∧ w.cell? ⟨bx, 2, none⟩ = some (.slice (some ⟨g, 0, none⟩) n n) ∧ BR e base w g n n L
theorem SetAt.below {e base bx g n B : Nat} {w w' : World} {L : List Bool} (h : SetAt e base w bx g n L) (hb : Below B w w') (hB : w.heap.size ≤ B) : SetAt e base w' bx g n L :=
  let ⟨h1, h2, h3, h4, h5⟩ := h
  ⟨h1, Nat.lt_of_lt_of_le h2 hb.size, h3, (hb.cell (p := ⟨bx, 2, none⟩) (Nat.lt_of_lt_of_le h2 hB)).trans h4, h5.below hb (Nat.lt_of_lt_of_le h5.lt hB)⟩
theorem infoBool : (Try.prog.info? 4).map (fun i => (i.zero, i.size, i.bytes)) = some (some (.bool false), 1, 1) := by kernel_rfl
set_option maxHeartbeats 800000 in
set_option maxRecDepth 100000 in
theorem l01Empty_any (w : World) (s m : Int) (hs : 1 ≤ s) (hs1 : s ≤ 1000) (hm : m ≤ 5) (N : Nat) (hN : s ^ m.toNat = N) (hN1 : N ≤ 1000000) :
    Calls Try.prog 185 #[.int .i64 s, .int .i64 m] w fun e w' => ∃ bx g, e = .returned (.pointer (some ⟨bx, 0, none⟩)) ∧ SetAt 4 w.heap.size w' bx g N (List.replicate N false) ∧ Below w.heap.size w w' := by
  go_enter Try.func185, Try.ntmps185
  go_wp2_with fail
  refine (l01Power_any _ s m (by omega) hs1 hm).mono ?_
  rintro e _ ⟨rfl, rfl⟩
  rw [hN]
  go_wp2_with (refine wpList_mkB _ rfl _ _ 178 4 rfl Try.underlying178 infoBool w.heap.size N rfl rfl (by omega) (by decide) (by simp) ?_; intro w1 hA hg1 hs1)
  have hb1 := below_of_grown hg1
  have HA := Lib.hid hA
  clear hA
  go_wp2_with fail
  go_ret
  exact ⟨w.heap.size + 1, w.heap.size, rfl, ⟨by omega, by simp; omega, by omega, by rw [← hs1]; simp, HA.out.below (bA (w := w1)) HA.out.lt⟩, hb1.alloc hb1.size _⟩
/-- the indices that have come up among the first k tuples -/
def seenL (s : Int) (N : Nat) (ts : List (List Int)) : List Bool := (List.range N).map fun j : Nat => ts.any fun t => idxL s 0 t == (j : Int)
theorem seenL_len {s : Int} {N : Nat} {ts : List (List Int)} : (seenL s N ts).length = N := by simp [seenL]
theorem seenL_nil {s : Int} {N : Nat} : seenL s N [] = List.replicate N false := by
  apply List.ext_getElem
  · simp [seenL]
  · intro i h1 h2; simp [seenL]
theorem seenL_set {s : Int} {N : Nat} {ts : List (List Int)} {k j : Nat} (hk : k < ts.length) (hj : idxL s 0 ts[k] = (j : Int)) (_hjN : j < N) : (seenL s N (ts.take k)).set j true = seenL s N (ts.take (k + 1)) := by
  apply List.ext_getElem
  · simp [seenL]
  · intro i h1 h2
    have hi : i < N := by simpa [seenL] using h2
    have htk : ts.take (k + 1) = ts.take k ++ [ts[k]] := List.take_succ_eq_append_getElem hk
    by_cases e : j = i
    · subst e
      rw [List.getElem_set_self]
      simp only [seenL, List.getElem_map, List.getElem_range, htk, List.any_append, List.any_cons, List.any_nil, hj, beq_self_eq_true, Bool.or_true, Bool.true_or]
    · rw [List.getElem_set_ne e]
      have : ((j : Int) == (i : Int)) = false := by simp; omega
      simp only [seenL, List.getElem_map, List.getElem_range, htk, List.any_append, List.any_cons, List.any_nil, hj, this, Bool.or_false]
theorem seenL_get {s : Int} (hs : 1 ≤ s) {m N : Nat} {ts : List (List Int)} (hts : ∀ t ∈ ts, t.length = m ∧ ∀ a ∈ t, 0 ≤ a ∧ a ≤ s - 1) {t : List Int} (ht : t.length = m) (hti : ∀ a ∈ t, 0 ≤ a ∧ a ≤ s - 1) {j : Nat} (hj : idxL s 0 t = (j : Int)) (h : j < (seenL s N ts).length) : (seenL s N ts)[j] = tb (t ∈ ts) := by
  rw [Bool.eq_iff_iff, tb_iff]
  simp only [seenL, List.getElem_map, List.getElem_range, List.any_eq_true, beq_iff_eq]
  constructor
  · rintro ⟨x, hx, he⟩
    obtain ⟨x1, x2⟩ := hts x hx
    have := idxL_inj hs m x1 ht x2 hti (by rw [he, hj])
    rwa [← this]
  · intro hm
    exact ⟨t, hm, hj⟩
end Go.Proofs.Ytepebfpgmnidnaa
