/-
Contracts: the reference's next operation.
 Contracts: the reference's search for operations: the conditions of a relation.
Contracts: how many lists a finder looks at; the code of a template and an arity; polymorphisms counted, the program's.
 Contracts: the reference's search for operations, begun. (The orders of its region are printed by gen_bg.py.)
 Contracts: polymorphisms counted, the reference's; whether there is but one, both sides.
 Contracts: whether there is but one polymorphism of one place, both sides.
 Contracts: the operations that a search finds, listed: the program's listener, and the reference's.
Contracts: whether an operation breaks a relation, the program's.
Contracts: whether an operation is a polymorphism, both sides.
Contracts: the relation of all tuples for which something is so.
Plain mathematics: lists of digits in order; the tuples of a relation made by number are in order.
Plain: the operations that a search lists are those that keep a template; how many are counted; projections and compositions keep what is kept. No program is named here.
Choices from bytes: what the source of choices is; its contracts say what a choice's bounds are, not which one it is.
Choices from bytes: a drawn relation, a drawn template.
Choices from bytes: a drawn template.
Choices from bytes: a drawn template of few tuples.
Choices from bytes: a drawn template by its bytes; a projection.
Choices from bytes: a drawn operation.
An operation drawn from its bytes; whether operations, and lists of them, are the same.
Contracts: the operation of a function of lists; projections, checked.
Contracts: a projection, checked.
Contracts: compositions of operations.
Contracts: compositions of operations, checked.
Contracts: whether the atoms that are due hold.
Contracts: the search, told to a listener.
Contracts: a search's own data, made.
Contracts: a search for an instance; the first values.
Contracts: full domains.
Contracts: the solutions of an instance, counted, listed, the first; the program's.
Contracts: the solutions of an instance, the reference's.
Contracts: the first values for which all atoms hold, the reference's.
Contracts: whether a formula holds at a tuple, and where; both sides.
Contracts: the value of a formula, both sides.
Contracts: placing a formula: the program's.
Contracts: the formula of an instance, both sides.
The law of an append of a whole row: 'append(a, b...)', where b is new data. No program is named here.
Contracts: the conjunction of two formulas.
Plain mathematics: the tuples of a relation made by number are in order; where two values of formulas are apart.
Contracts: the value of a formula with its code, both sides.
Contracts: a template in new memory; a template extended by a formula: plain parts, the program's copies.
Contracts: a set of tuples with its size and arity: made of a relation, a tuple put into it, its relation.
Contracts: the relation of a set.
Contracts: the program's search, for any listener that leans on what the operations that it is told are.
Contracts: values that are told to a search.
Plain: a polymorphism with given values. No program is named here.
Contracts: the first operation that a search finds.
Contracts: the first operation that a search finds for which a test is true, whatever the test.
Contracts: the first operation that a search finds for which a test is true: the function itself.
Contracts: the first polymorphism with given values, the program's.
Contracts: a polymorphism with given values, the program's.
Contracts: a polymorphism with given values, the program's, whole.
The library's contracts, laid at this seat's program. Written by the kit's lay-shelf and lay-plain: its numbers hold for that seat alone (shelf2.py).
The kinds of operations, in plain words; symmetric by sorting, and by swapping neighbours.
Contracts: slices.Sort and slices.Compact on new rows of numbers; the different numbers of a row.
Contracts: something of all lists; whether an operation is symmetric, the program's.
Contracts: a row of one number so many times (slices.Repeat), whatever the number: the text of F6, turned.
Contracts: whether a tuple has equal values for places with the same variable.
Contracts: whether a number is one of a list's; whether a constraint leaves values of two variables.
Contracts: the program's tests of a kind: idempotent, conservative; the different numbers of a row.
Contracts: whether a constraint leaves values of two variables, the program's.
Contracts: the pairs that constraints tell, the program's.
Contracts: the pairs that constraints tell, the reference's.
Contracts: the pairs that constraints tell, all of them.
A region that draws its order and holds one alloc and one store into it besides loads and calls that make new memory: one account serves every order. The box's block is a ghost. No program is named here.
Contracts: the program's tests of a kind that build lists: associative; three orders of two values and a third.
Contracts: sameness of formulas and instances, in the program and in the reference.
Contracts: whether an operation is of a kind, the program's.
Contracts: whether an operation is of a kind, the program's, kind by kind.
Contracts: whether an operation is of a kind, the program's: projections, semilattices; whole.
Contracts: the first polymorphism of a kind, the program's.
Contracts: a polymorphism with given values, the reference's.
-/
import Derived.Test.YtggelmbnliajeaaGreatDoorQAC
import Derived.Test.YtggelmbnliajeaaGreatDoorQAA
import Derived.Test.YtggelmbnliajeaaGreatDoorQAB
import Derived.Deep.LoopGhost
import Derived.Deep.CutRange
namespace Go.Proofs.YtggelmbnliajeaaGreatDoor
open Go.RowKit Go.Sort
section
variable {N : Nat} {pre : List Int} {cur v : Int}
end
/-- what the search turns: the table, the steps, whether it has begun -/
def Mc (e base : Nat) (w : World) (br gt N : Nat) (T : List Int) (st : Nat) (bg : Bool) : Prop :=
 br < w.heap.size ∧ w.cell? ⟨br, 5, none⟩ = some (.slice (some ⟨gt, 0, none⟩) N N) ∧ IR e base w gt N N T ∧ w.cell? ⟨br, 6, none⟩ = some (.int .i64 (st : Int)) ∧ w.cell? ⟨br, 7, none⟩ = some (.bool bg) ∧ w.frozen? ⟨br, 6, none⟩ = false ∧ w.frozen? ⟨br, 7, none⟩ = false
section
variable {e base br gt N st : Nat} {w w' : World} {T : List Int} {bg : Bool}
theorem IR.same {g n cap : Nat} {L : List Int} (h : IR e base w g n cap L) (hs : w'.heap[g]? = w.heap[g]?) : IR e base w' g n cap L := ⟨h.1, h.2.1, h.2.2.1, owns_same h.2.2.2 hs⟩
theorem Mc.same (h : Mc e base w br gt N T st bg) (h1 : w'.heap[br]? = w.heap[br]?) (h2 : w'.heap[gt]? = w.heap[gt]?) (hz : w.heap.size ≤ w'.heap.size) : Mc e base w' br gt N T st bg := by
 obtain ⟨h0, c5, hi, c6, c7, f6, f7⟩ := h
 exact ⟨Nat.lt_of_lt_of_le h0 hz, (World.cell?_of_block (a := ⟨br, 5, none⟩) h1).trans c5, hi.same h2, (World.cell?_of_block (a := ⟨br, 6, none⟩) h1).trans c6, (World.cell?_of_block (a := ⟨br, 7, none⟩) h1).trans c7, (World.frozen?_of_block (a := ⟨br, 6, none⟩) h1).trans f6, (World.frozen?_of_block (a := ⟨br, 7, none⟩) h1).trans f7⟩
theorem Mc.below (h : Mc e base w br gt N T st bg) (hb : Below w.heap.size w w') : Mc e base w' br gt N T st bg := h.same (hb.block br h.1) (hb.block gt h.2.2.1.lt) hb.size
end
/-- the box of the reference's search -/
def BxR (w : World) (br : Nat) (vt : Value) (ar : Int) (gd gf gt N : Nat) (vin : Value) : Prop :=
 br < w.heap.size ∧ w.cell? ⟨br, 0, none⟩ = some vt ∧ w.cell? ⟨br, 1, none⟩ = some (.int .i64 ar) ∧ w.cell? ⟨br, 2, none⟩ = some vin ∧ w.cell? ⟨br, 3, none⟩ = some (.slice (some ⟨gd, 0, none⟩) N N) ∧ w.cell? ⟨br, 4, none⟩ = some (.slice (some ⟨gf, 0, none⟩) N N) ∧ w.cell? ⟨br, 5, none⟩ = some (.slice (some ⟨gt, 0, none⟩) N N) ∧
  w.cell? ⟨br, 6, none⟩ = some (.int .i64 0) ∧ w.cell? ⟨br, 7, none⟩ = some (.bool false) ∧ w.frozen? ⟨br, 2, none⟩ = false ∧ w.frozen? ⟨br, 4, none⟩ = false ∧ w.frozen? ⟨br, 6, none⟩ = false ∧ w.frozen? ⟨br, 7, none⟩ = false
theorem BxR.same {w w' : World} {br : Nat} {vt : Value} {ar : Int} {gd gf gt N : Nat} {vin : Value} (h : BxR w br vt ar gd gf gt N vin) (hs : w'.heap[br]? = w.heap[br]?) (hz : w.heap.size ≤ w'.heap.size) : BxR w' br vt ar gd gf gt N vin := by
 obtain ⟨h0, c0, c1, c2, c3, c4, c5, c6, c7, f2, f4, f6, f7⟩ := h
 have c : ∀ i, w'.cell? ⟨br, i, none⟩ = w.cell? ⟨br, i, none⟩ := fun i => World.cell?_of_block (a := ⟨br, i, none⟩) hs
 have f : ∀ i, w'.frozen? ⟨br, i, none⟩ = w.frozen? ⟨br, i, none⟩ := fun i => World.frozen?_of_block (a := ⟨br, i, none⟩) hs
 exact ⟨Nat.lt_of_lt_of_le h0 hz, (c 0).trans c0, (c 1).trans c1, (c 2).trans c2, (c 3).trans c3, (c 4).trans c4, (c 5).trans c5, (c 6).trans c6, (c 7).trans c7, (f 2).trans f2, (f 4).trans f4, (f 6).trans f6, (f 7).trans f7⟩
theorem BxR.set {w : World} {br : Nat} {vt : Value} {ar : Int} {gd gf gt N : Nat} {vin v' : Value} (h : BxR w br vt ar gd gf gt N vin) : BxR (w.setCell ⟨br, 2, none⟩ v') br vt ar gd gf gt N v' := by
 obtain ⟨h0, c0, c1, c2, c3, c4, c5, c6, c7, f2, f4, f6, f7⟩ := h
 have c : ∀ i, i ≠ 2 → (w.setCell ⟨br, 2, none⟩ v').cell? ⟨br, i, none⟩ = w.cell? ⟨br, i, none⟩ := fun _ hi => World.cell?_setCell_other _ _ _ _ (fun e => hi (congrArg Addr.off e.symm))
 have f : ∀ i, (w.setCell ⟨br, 2, none⟩ v').frozen? ⟨br, i, none⟩ = w.frozen? ⟨br, i, none⟩ := fun i => World.frozen?_setCell _ _ _ _
 exact ⟨by simpa [World.setCell] using h0, (c 0 (by decide)).trans c0, (c 1 (by decide)).trans c1, World.cell?_setCell_same _ _ _ c2, (c 3 (by decide)).trans c3, (c 4 (by decide)).trans c4, (c 5 (by decide)).trans c5, (c 6 (by decide)).trans c6, (c 7 (by decide)).trans c7, (f 2).trans f2, (f 4).trans f4, (f 6).trans f6, (f 7).trans f7⟩
end Go.Proofs.YtggelmbnliajeaaGreatDoor
namespace Go.Proofs.YtggelmbnliajeaaGreatDoor
open Go.RowKit Go.Sort
section
variable {t : Tpl} {ar : Int}
end
theorem IR.fp {e base : Nat} {w : World} {g n cap : Nat} {L : List Int} (_h : IR e base w g n cap L) {fp : List Nat} (h2 : intsT.rd w [.slice (some ⟨g, 0, none⟩) n cap] L fp) : ∀ k ∈ fp, k = g := fun k hk => by
 obtain ⟨ad, cap', hv, -, -, h3⟩ := h2
 rcases h3 with ⟨_, rfl⟩ | ⟨_, b, o, fps, rfl, _, rfl, h4⟩
 ·cases hk
 ·simp only [List.cons.injEq, Value.slice.injEq, Option.some.injEq, Addr.mk.injEq, and_true] at hv
  obtain ⟨⟨rfl, rfl⟩, -, -⟩ := hv
  rcases List.mem_cons.1 hk with rfl | hk
  ·rfl
  ·obtain ⟨i, hi, hk⟩ := List.mem_flatMap.1 hk
   obtain ⟨cs, ⟨_, _, hf⟩, _⟩ := h4 i (by simpa using hi)
   rw [hf] at hk
   cases hk
section
variable {t : Tpl} {ar : Int}
end
/-- what the listener keeps: a slice at block bx, of operations in blocks of its own -/
def outF (ar : Int) (bx base : Nat) (told : List (List Int)) (O : Nat → Prop) (w : World) : Prop :=
 (∀ k, O k → k < w.heap.size ∧ base ≤ k) ∧ O bx ∧ w.frozen? ⟨bx, 0, none⟩ = false ∧ ∃ v, w.cell? ⟨bx, 0, none⟩ = some v ∧ (∀ g, v.ownBlock = some g → O g ∧ g ≠ bx) ∧ Bl (opT.on fun k => O k ∧ k ≠ bx) 44 base w.heap.size w v ((told.take 64).map fun x => (ar, x))
theorem outF.stable {ar : Int} {bx base : Nat} {told : List (List Int)} {O : Nat → Prop} {w w' : World} (h : outF ar bx base told O w) (hs : ∀ k, k < w.heap.size → O k → w'.heap[k]? = w.heap[k]?) (hz : w.heap.size ≤ w'.heap.size) : outF ar bx base told O w' := by
 obtain ⟨h1, h2, h3, v, h4, h5, h6⟩ := h
 have hb := hs bx (h1 bx h2).1 h2
 exact ⟨fun k hk => ⟨Nat.lt_of_lt_of_le (h1 k hk).1 hz, (h1 k hk).2⟩, h2, (World.frozen?_of_block (a := ⟨bx, 0, none⟩) hb).trans h3, v, (World.cell?_of_block (a := ⟨bx, 0, none⟩) hb).trans h4, h5, (on_same h6 h5 (fun k hk ho => hs k hk ho.1)).mono hz⟩
theorem rdP_lt {α : Type} {E : Ty α} {ok : Nat → Prop} {w : World} {cs : List Value} {x : α} (h : E.RdP ok w cs x) : E.RdP (fun k => ok k ∧ k < w.heap.size) w cs x := let ⟨fp, h1, h2⟩ := h; ⟨fp, h1, fun k hk => ⟨h2 k hk, E.lt h1 k hk⟩⟩
theorem Ru.lt {ok : Nat → Prop} {w : World} {br : Nat} {t : Tpl} {ar : Int} {due : List (List (Int × List Int))} {fx : List Int} (h : Ru ok w br t ar due fx) : Ru (fun k => ok k ∧ k < w.heap.size) w br t ar due fx := by
 obtain ⟨h1, tb, tq, v2, v3, v4, c0, ht, hk, ct, c1, c2, c3, c4, h3, h4, h5⟩ := h
 exact ⟨h1, tb, tq, v2, v3, v4, c0, ht, ⟨hk, ht⟩, ct, c1, c2, c3, c4, rdP_lt h3, rdP_lt h4, rdP_lt h5⟩
end Go.Proofs.YtggelmbnliajeaaGreatDoor
namespace Go.Proofs.YtggelmbnliajeaaGreatDoor
open Go.RowKit Go.Sort
/-- what broken hands back: nil in the second place just if the relation is kept -/
def BrkR (b : Bool) (e : Ending) : Prop := ∃ a o m, e = .returned (.tuple #[a, .slice o m m]) ∧ (b = true → o = none ∧ m = 0) ∧ (b = false → ∃ g : Nat, o = some ⟨g, 0, none⟩)
theorem BrkR.no {b : Bool} {a : Value} {g m : Nat} (h : b = false) : BrkR b (.returned (.tuple #[a, .slice (some ⟨g, 0, none⟩) m m])) := ⟨a, _, m, rfl, (fun h' => by rw [h] at h'; cases h'), fun _ => ⟨g, rfl⟩⟩
theorem fr_block {α : Type} {E : Ty α} {base : Nat} {w : World} {b o n cap : Nat} {xs : List α} (h : (Ty.slice E).Fr base w [.slice (some ⟨b, o, none⟩) n cap] xs) (h0 : 0 < xs.length) : base ≤ b := by
 obtain ⟨fp, ⟨ad, c, hv, -, -, h3⟩, -, h4, -⟩ := h
 rcases h3 with ⟨h3, _⟩ | ⟨_, b', o', fps, rfl, _, rfl, _⟩
 ·omega
 ·simp only [List.cons.injEq, Value.slice.injEq, Option.some.injEq, Addr.mk.injEq, and_true] at hv
  rw [hv.1.1]
  exact h4 b' (List.mem_cons_self ..)
end Go.Proofs.YtggelmbnliajeaaGreatDoor
namespace Go.Proofs.YtggelmbnliajeaaGreatDoor
open Go.RowKit Go.Sort
end Go.Proofs.YtggelmbnliajeaaGreatDoor
namespace Go.Proofs.YtggelmbnliajeaaGreatDoor
open Go.RowKit Go.Sort
/-- the tuples for which it is so, of the first k ones -/
def relL (s : Int) (ar : Nat) (p : List Int → Bool) (k : Nat) : List (List Int) := ((List.range k).map fun i : Nat => digL s i ar).filter p
theorem relL_zero {s : Int} {ar : Nat} {p : List Int → Bool} : relL s ar p 0 = [] := by simp [relL]
theorem relL_yes {s : Int} {ar : Nat} {p : List Int → Bool} {k : Nat} (h : p (digL s k ar) = true) : relL s ar p k ++ [digL s k ar] = relL s ar p (k + 1) := by simp [relL, List.range_succ, h]
theorem relL_no {s : Int} {ar : Nat} {p : List Int → Bool} {k : Nat} (h : p (digL s k ar) = false) : relL s ar p k = relL s ar p (k + 1) := by simp [relL, List.range_succ, h]
theorem relL_len {s : Int} {ar : Nat} {p : List Int → Bool} {k : Nat} : (relL s ar p k).length ≤ k := by
 unfold relL
 exact Nat.le_trans (List.length_filter_le _ _) (by simp)
end Go.Proofs.YtggelmbnliajeaaGreatDoor
namespace Go.Proofs.YtggelmbnliajeaaGreatDoor
open Go.RowKit Go.Sort
theorem dig_idx {s idx : Int} {n : Nat} (hs : 1 ≤ s) (h0 : 0 ≤ idx) (h : idx < s ^ n) : ∀ k, k ≤ n → idxL s 0 ((digL s idx n).take k) = idx / s ^ (n - k)
 | 0, _ => by
  rw [List.take_zero, Nat.sub_zero, Int.ediv_eq_zero_of_lt h0 h]
  rfl
 | k + 1, hk => by
  have hl : k < (digL s idx n).length := by rw [digL_len]; omega
  rw [idxL_take hl, dig_idx hs h0 h k (by omega)]
  have hg : (digL s idx n)[k] = dig s idx (n - 1 - k) := by simp [digL]
  rw [hg, show n - k = (n - (k + 1)) + 1 by omega, show n - 1 - k = n - (k + 1) by omega, ← quo_succ hs]
  unfold dig
  have h1 := Int.ediv_mul_add_emod (idx / s ^ (n - (k + 1))) s
  exact h1
theorem digL_in {s idx : Int} {n : Nat} (hs : 1 ≤ s) : ∀ a ∈ digL s idx n, 0 ≤ a ∧ a ≤ s - 1 := fun a ha => by
 obtain ⟨i, -, rfl⟩ := List.mem_map.1 ha
 have := dig_nn (idx := idx) hs (n - 1 - i)
 omega
theorem idx_mono {s : Int} (hs : 1 ≤ s) : ∀ {xs ys : List Int} {a b : Int}, xs.length = ys.length → (∀ x ∈ xs, 0 ≤ x ∧ x ≤ s - 1) → (∀ y ∈ ys, 0 ≤ y ∧ y ≤ s - 1) → a < b → idxL s a xs < idxL s b ys
 | [], [], _, _, _, _, _, h => h
 | [], _ :: _, _, _, hl, _, _, _ => by simp at hl
 | _ :: _, [], _, _, hl, _, _, _ => by simp at hl
 | x :: xs, y :: ys, a, b, hl, hx, hy, h => by
  simp only [idxL]
  refine idx_mono hs (by simpa using hl) (fun z hz => hx z (List.mem_cons_of_mem _ hz)) (fun z hz => hy z (List.mem_cons_of_mem _ hz)) ?_
  have h1 := hx x (List.mem_cons_self ..)
  have h2 := hy y (List.mem_cons_self ..)
  have h3 := Int.mul_le_mul_of_nonneg_right (show a + 1 ≤ b by omega) (show (0 : Int) ≤ s by omega)
  rw [Int.add_mul, Int.one_mul] at h3
  omega
theorem lt_of_idx {s : Int} (hs : 1 ≤ s) : ∀ {xs ys : List Int} {a : Int}, xs.length = ys.length → (∀ x ∈ xs, 0 ≤ x ∧ x ≤ s - 1) → (∀ y ∈ ys, 0 ≤ y ∧ y ≤ s - 1) → idxL s a xs < idxL s a ys → ltL xs ys
 | [], [], _, _, _, _, h => absurd h (Int.lt_irrefl _)
 | [], _ :: _, _, hl, _, _, _ => by simp at hl
 | _ :: _, [], _, hl, _, _, _ => by simp at hl
 | x :: xs, y :: ys, a, hl, hx, hy, h => by
  simp only [idxL] at h
  have hx' := fun z hz => hx z (List.mem_cons_of_mem x hz)
  have hy' := fun z hz => hy z (List.mem_cons_of_mem y hz)
  unfold ltL
  rcases Int.lt_trichotomy x y with hc | hc | hc
  ·rw [cmpL, if_neg (by omega), cmpI_lt hc]
   decide
  ·subst hc
   rw [cmpL, if_pos rfl]
   exact lt_of_idx hs (by simpa using hl) hx' hy' h
  ·have := idx_mono hs (a := a * s + y) (b := a * s + x) (show ys.length = xs.length by simpa using hl.symm) hy' hx' (by omega)
   omega
theorem dig_lt {s : Int} {n : Nat} {k j : Int} (hs : 1 ≤ s) (h0 : 0 ≤ k) (h : k < j) (hj : j < s ^ n) : ltL (digL s k n) (digL s j n) := by
 refine lt_of_idx hs (a := 0) (by rw [digL_len, digL_len]) (digL_in hs) (digL_in hs) ?_
 have h1 := dig_idx (n := n) hs h0 (by omega) n (Nat.le_refl _)
 have h2 := dig_idx (n := n) hs (show 0 ≤ j by omega) hj n (Nat.le_refl _)
 rw [Nat.sub_self, Int.pow_zero, Int.ediv_one, List.take_of_length_le (by rw [digL_len]; exact Nat.le_refl _)] at h1 h2
 rw [h1, h2]
 exact h
theorem relL_sorted {s : Int} {n N : Nat} {p : List Int → Bool} (hs : 1 ≤ s) (hN : s ^ n = N) : sortedL (relL s n p N) := by
 have h1 : ((List.range N).map fun i : Nat => digL s i n).Pairwise ltL := by
  rw [List.pairwise_map]
  refine List.Pairwise.imp_of_mem ?_ (List.pairwise_lt_range (n := N))
  intro a b _ hb hab
  have : b < N := by simpa using hb
  exact dig_lt hs (by omega) (by omega) (by omega)
 have h2 := h1.filter p
 intro i hi h0
 exact (List.pairwise_iff_getElem.1 h2) (i - 1) i (by unfold relL at hi; omega) hi (by omega)
/-- what is in such a relation -/
theorem relL_mem {s : Int} {n N : Nat} {p : List Int → Bool} {k : Nat} (hk : k < N) : tb (digL s k n ∈ relL s n p N) = p (digL s k n) := by
 cases h : p (digL s k n)
 ·refine tb_false fun hm => ?_
  have := (List.mem_filter.1 hm).2
  rw [h] at this
  cases this
 ·exact tb_true (List.mem_filter.2 ⟨List.mem_map.2 ⟨k, by simpa using hk, rfl⟩, h⟩)
theorem idx_of_lt {s : Int} (hs : 1 ≤ s) : ∀ {xs ys : List Int} {a : Int}, xs.length = ys.length → (∀ x ∈ xs, 0 ≤ x ∧ x ≤ s - 1) → (∀ y ∈ ys, 0 ≤ y ∧ y ≤ s - 1) → ltL xs ys → idxL s a xs < idxL s a ys
 | [], [], _, _, _, _, h => by simp [ltL, cmpL] at h
 | [], _ :: _, _, hl, _, _, _ => by simp at hl
 | _ :: _, [], _, hl, _, _, _ => by simp at hl
 | x :: xs, y :: ys, a, hl, hx, hy, h => by
  simp only [idxL]
  have hx' := fun z hz => hx z (List.mem_cons_of_mem x hz)
  have hy' := fun z hz => hy z (List.mem_cons_of_mem y hz)
  unfold ltL at h
  rcases Int.lt_trichotomy x y with hc | hc | hc
  ·exact idx_mono hs (by simpa using hl) hx' hy' (by omega)
  ·subst hc
   rw [cmpL, if_pos rfl] at h
   exact idx_of_lt hs (by simpa using hl) hx' hy' h
  ·rw [cmpL, if_neg (by omega), cmpI_gt hc] at h
   omega
theorem rel_bd {s : Int} {r : Int × List (List Int)} (h : relOk s r) : r.2.length ≤ 256 ∧ ∀ y ∈ r.2, y.length ≤ 4 := by
 obtain ⟨⟨h1, h2⟩, ⟨h3, h4⟩, h5⟩ := h
 refine ⟨?_, fun y hy => ?_⟩
 ·have key : ∀ i (hi : i < r.2.length), (i : Int) ≤ idxL s 0 r.2[i] := by
   intro i
   induction i with
   | zero =>
    intro hi
    obtain ⟨⟨e1, e2⟩, -⟩ := h5 0 hi
    have := idx_bd h1 e2 _ (Nat.le_refl _)
    rw [List.take_length] at this
    omega
   | succ i ih =>
    intro hi
    have h6 := ih (by omega)
    obtain ⟨⟨e1, e2⟩, e3⟩ := h5 (i + 1) hi
    obtain ⟨⟨d1, d2⟩, -⟩ := h5 i (by omega)
    have := idx_of_lt h1 (a := 0) (by omega) d2 e2 (e3 (by omega))
    omega
  rcases Nat.eq_zero_or_pos r.2.length with h0 | h0
  ·omega
  ·have hi : r.2.length - 1 < r.2.length := by omega
   have h6 := key _ hi
   obtain ⟨⟨e1, e2⟩, -⟩ := h5 _ hi
   have h7 := idx_bd h1 e2 _ (Nat.le_refl _)
   rw [List.take_length] at h7
   have h8 := pow_mono' (s := s) (c := 4) (by omega) (by omega) (r.2[r.2.length - 1]).length
   have h9 : (4 : Int) ^ (r.2[r.2.length - 1]).length ≤ 256 := by
    generalize (r.2[r.2.length - 1]).length = m at e1 ⊢
    rcases (show m = 0 ∨ m = 1 ∨ m = 2 ∨ m = 3 ∨ m = 4 by omega) with e | e | e | e | e <;> rw [e] <;> decide
   omega
 ·obtain ⟨i, hi, rfl⟩ := List.mem_iff_getElem.1 hy
  obtain ⟨⟨e1, -⟩, -⟩ := h5 i hi
  omega
end Go.Proofs.YtggelmbnliajeaaGreatDoor
namespace Go.Proofs.YtggelmbnliajeaaGreatDoor
open Go.RowKit Go.Sort
/-- the value of an operation -/
def opV (s : Int) (tab xs : List Int) : Int := tab.getD (idxL s 0 xs).toNat 0
theorem dig_of {s : Int} {ar : Nat} (hs : 1 ≤ s) {xs : List Int} (hl : xs.length = ar) (hx : ∀ a ∈ xs, 0 ≤ a ∧ a ≤ s - 1) : digL s (idxL s 0 xs) ar = xs := by
 have hb := idx_lt hs hl hx
 refine idxL_inj hs ar digL_len hl (digL_in hs) hx ?_
 have h1 := dig_idx (n := ar) hs hb.1 (by omega) ar (Nat.le_refl _)
 rw [Nat.sub_self, Int.pow_zero, Int.ediv_one, List.take_of_length_le (by rw [digL_len]; exact Nat.le_refl _)] at h1
 exact h1
theorem madeV_op {s : Int} {tab : List Int} {ts : List (List Int)} {p : Nat} : madeV s tab ts p = opV s tab (colL ts p) := rfl
/-- some tuples of a relation are picked by an index -/
theorem picks_some {ts L : List (List Int)} (h : ∀ x ∈ L, x ∈ ts) (h0 : 0 < ts.length) : ∃ j : Nat, (j : Int) < (ts.length : Int) ^ L.length ∧ picks ts L.length j = L := by
 obtain ⟨K, hK, hk⟩ : ∃ K : List Int, K.length = L.length ∧ ∀ i (h : i < K.length) (h' : i < L.length), 0 ≤ K[i] ∧ K[i] ≤ (ts.length : Int) - 1 ∧ ts.getD (K[i]).toNat [] = L[i] := by
  clear h0
  induction L with
  | nil => exact ⟨[], rfl, fun i h => by simp at h⟩
  | cons x L ih =>
   obtain ⟨K, hK, hk⟩ := ih fun y hy => h y (List.mem_cons_of_mem _ hy)
   obtain ⟨i, hi, hx⟩ := List.mem_iff_getElem.1 (h x (List.mem_cons_self ..))
   refine ⟨(i : Int) :: K, by simp [hK], fun q hq hq' => ?_⟩
   cases q with
   | zero =>
    refine ⟨by simp, by simp; omega, ?_⟩
    simp only [List.getElem_cons_zero, Int.toNat_natCast]
    rw [List.getD_eq_getElem?_getD, List.getElem?_eq_getElem hi]
    exact hx
   | succ q =>
    have := hk q (by simpa using hq) (by simpa using hq')
    simpa using this
 have hin : ∀ a ∈ K, 0 ≤ a ∧ a ≤ (ts.length : Int) - 1 := fun a ha => by
  obtain ⟨i, hi, rfl⟩ := List.mem_iff_getElem.1 ha
  have := hk i hi (by omega)
  exact ⟨this.1, this.2.1⟩
 have hb := idx_lt (s := (ts.length : Int)) (by omega) hK hin
 refine ⟨(idxL (ts.length : Int) 0 K).toNat, by omega, ?_⟩
 unfold picks
 rw [show (((idxL (ts.length : Int) 0 K).toNat : Nat) : Int) = idxL (ts.length : Int) 0 K by omega, dig_of (by omega) hK hin]
 refine List.ext_getElem (by simp [hK]) fun i hi hi' => ?_
 rw [List.getElem_map]
 exact (hk i (by omega) hi').2.2
end Go.Proofs.YtggelmbnliajeaaGreatDoor
namespace Go.Proofs.YtggelmbnliajeaaGreatDoor
open Go.RowKit Go.Sort
def Ty.byte : Ty Int where
 sz := 1
 rd := fun _ cs n fp => cs = [.int .u8 n] ∧ (0 ≤ n ∧ n ≤ 255) ∧ fp = []
 len := by rintro _ _ _ _ ⟨rfl, _, _⟩; rfl
 same := fun h _ => h
 lt := by rintro _ _ _ _ ⟨rfl, _, rfl⟩ k hk; cases hk
 one := by rintro _ _ _ _ ⟨rfl, _, _⟩ u hu; simp at hu; subst hu; rfl
abbrev bytesT := Ty.slice Ty.byte
/-- a source of choices at block sb, whose bytes lie below block B, read at most K times -/
def SrcR (sb B : Nat) (K : Int) (w : World) : Prop :=
 ∃ (v : Value) (code : List Int) (pos sd : Int), w.cell? ⟨sb, 0, none⟩ = some v ∧ bytesT.RdP (fun q => q < B) w [v] code ∧ w.cell? ⟨sb, 1, none⟩ = some (.int .i64 pos) ∧ 0 ≤ pos ∧ pos ≤ K ∧
  w.cell? ⟨sb, 2, none⟩ = some (.int .u64 sd) ∧ 0 ≤ sd ∧ sd ≤ 18446744073709551615 ∧ w.frozen? ⟨sb, 1, none⟩ = false ∧ w.frozen? ⟨sb, 2, none⟩ = false ∧ B ≤ sb
theorem SrcR.lt {sb B : Nat} {K : Int} {w : World} (h : SrcR sb B K w) : sb < w.heap.size := let ⟨_, _, _, _, h, _⟩ := h; cell_lt h
theorem SrcR.mono {sb B : Nat} {K K' : Int} {w : World} (h : SrcR sb B K w) (hk : K ≤ K') : SrcR sb B K' w :=
 let ⟨v, c, p, s, h1, h2, h3, h4, h5, h6⟩ := h; ⟨v, c, p, s, h1, h2, h3, h4, Int.le_trans h5 hk, h6⟩
theorem SrcR.tch {sb B : Nat} {K : Int} {w w' : World} {O : Nat → Prop} (h : SrcR sb B K w) (ht : TchP O w w') (hs : ¬ O sb) (hO : ∀ q, q < B → ¬ O q) : SrcR sb B K w' := by
 have hl := h.lt
 obtain ⟨v, c, p, s, h1, h2, h3, h4, h5, h6, h7, h8, h9, h10, h11⟩ := h
 exact ⟨v, c, p, s, (ht.cell hl hs).trans h1, h2.tchP ht (fun q _ hq => hO q hq), (ht.cell hl hs).trans h3, h4, h5, (ht.cell hl hs).trans h6, h7, h8, (ht.frozen hl hs).trans h9, (ht.frozen hl hs).trans h10, h11⟩
theorem SrcR.below {sb B : Nat} {K : Int} {w w' : World} (h : SrcR sb B K w) (hb : Below w.heap.size w w') : SrcR sb B K w' := h.tch (TchP.of_below hb (fun _ => False)) (fun h => h) (fun _ _ h => h)
end Go.Proofs.YtggelmbnliajeaaGreatDoor
namespace Go.Proofs.YtggelmbnliajeaaGreatDoor
open Go.RowKit Go.Sort
/-- tuples of some numbers below k, in order -/
def DrW (s : Int) (n k : Nat) (R : List (List Int)) : Prop := ∃ J : List Nat, R = J.map (fun i : Nat => digL s i n) ∧ J.Pairwise (· < ·) ∧ (∀ j ∈ J, j < k) ∧ J.length ≤ k
section
variable {s : Int} {n k : Nat} {R : List (List Int)}
theorem DrW.zero : DrW s n 0 [] := ⟨[], rfl, List.Pairwise.nil, by simp, Nat.zero_le _⟩
theorem DrW.no (h : DrW s n k R) : DrW s n (k + 1) R := let ⟨J, h1, h2, h3, h4⟩ := h; ⟨J, h1, h2, fun j hj => Nat.lt_succ_of_lt (h3 j hj), Nat.le_succ_of_le h4⟩
theorem DrW.len (h : DrW s n k R) : R.length ≤ k := by obtain ⟨J, rfl, -, -, h4⟩ := h; simpa using h4
theorem DrW.ok (h : DrW s n k R) (hs : sizeOk s) (hn : 1 ≤ n ∧ n ≤ 4) (hk : (k : Int) ≤ s ^ n) : relOk s ((n : Int), R) := by
 obtain ⟨J, rfl, h2, h3, -⟩ := h
 have hs' := hs
 unfold sizeOk at hs'
 refine ⟨hs, ⟨by show (1 : Int) ≤ n; omega, by show (n : Int) ≤ 4; omega⟩, fun i hi => ?_⟩
 have hi' : i < J.length := by simpa using hi
 refine ⟨⟨by simp [digL_len], fun a ha => ?_⟩, fun h0 => ?_⟩
 ·have : a ∈ digL s ((J[i] : Nat) : Int) n := by simpa using ha
  exact digL_in (by omega) a this
 ·have h5 := (List.pairwise_iff_getElem.1 h2) (i - 1) i (by omega) hi' (by omega)
  have h6 := h3 _ (List.getElem_mem hi')
  show ltL ((J.map fun i : Nat => digL s i n)[i - 1]'(by simp; omega)) ((J.map fun i : Nat => digL s i n)[i]'hi)
  rw [List.getElem_map, List.getElem_map]
  exact dig_lt (by omega) (by omega) (by omega) (by omega)
end
end Go.Proofs.YtggelmbnliajeaaGreatDoor
namespace Go.Proofs.YtggelmbnliajeaaGreatDoor
open Go.RowKit Go.Sort
end Go.Proofs.YtggelmbnliajeaaGreatDoor
namespace Go.Proofs.YtggelmbnliajeaaGreatDoor
open Go.RowKit Go.Sort
/-- new data that avoid a block -/
def FrA {α : Type} (E : Ty α) (g base : Nat) (w : World) (cs : List Value) (x : α) : Prop := ∃ fp, E.rd w cs x fp ∧ fp.Nodup ∧ (∀ b ∈ fp, base ≤ b) ∧ Unf w fp ∧ g ∉ fp
section
variable {α : Type} {E : Ty α} {g base : Nat} {w w' : World} {cs : List Value} {x : α}
theorem FrA.fr (h : FrA E g base w cs x) : E.Fr base w cs x := let ⟨fp, h1, h2, h3, h4, _⟩ := h; ⟨fp, h1, h2, h3, h4⟩
theorem FrA.lo (h : E.Fr base w cs x) (hg : g < base) : FrA E g base w cs x := let ⟨fp, h1, h2, h3, h4⟩ := h; ⟨fp, h1, h2, h3, h4, fun hm => by have := h3 g hm; omega⟩
theorem FrA.hi (h : E.Fr base w cs x) (hg : w.heap.size ≤ g) : FrA E g base w cs x := let ⟨fp, h1, h2, h3, h4⟩ := h; ⟨fp, h1, h2, h3, h4, fun hm => by have := E.lt h1 g hm; omega⟩
theorem FrA.same (h : FrA E g base w cs x) (hs : ∀ k, k < w.heap.size → k ≠ g → w'.heap[k]? = w.heap[k]?) : FrA E g base w' cs x := by
 obtain ⟨fp, h1, h2, h3, h4, h5⟩ := h
 have hs' : Same fp w w' := fun k hk => hs k (E.lt h1 k hk) (fun e => h5 (e ▸ hk))
 exact ⟨fp, E.same h1 hs', h2, h3, h4.same hs', h5⟩
theorem FrA.set (h : FrA E g base w cs x) {i : Nat} {u : Value} : FrA E g base (w.setCell ⟨g, i, none⟩ u) cs x := h.same (fun k _ hn => Below.heap_setCell _ _ _ _ (fun e => hn (by simpa using e)))
theorem FrA.below (h : FrA E g base w cs x) (hb : Below w.heap.size w w') : FrA E g base w' cs x := h.same (fun k hk _ => hb.block k hk)
theorem FrA.mono {base' : Nat} (h : FrA E g base w cs x) (hb : base' ≤ base) : FrA E g base' w cs x := let ⟨fp, h1, h2, h3, h4, h5⟩ := h; ⟨fp, h1, h2, fun b hm => Nat.le_trans hb (h3 b hm), h4, h5⟩
end
end Go.Proofs.YtggelmbnliajeaaGreatDoor
namespace Go.Proofs.YtggelmbnliajeaaGreatDoor
open Go.RowKit Go.Sort
end Go.Proofs.YtggelmbnliajeaaGreatDoor
namespace Go.Proofs.YtggelmbnliajeaaGreatDoor
open Go.RowKit Go.Sort
/-- numbers of a size -/
def inS (s : Int) (L : List Int) : Prop := ∀ a ∈ L, 0 ≤ a ∧ a ≤ s - 1
end Go.Proofs.YtggelmbnliajeaaGreatDoor
namespace Go.Proofs.YtggelmbnliajeaaGreatDoor
open Go.RowKit Go.Sort
end Go.Proofs.YtggelmbnliajeaaGreatDoor
namespace Go.Proofs.YtggelmbnliajeaaGreatDoor
open Go.RowKit Go.Sort
end Go.Proofs.YtggelmbnliajeaaGreatDoor
namespace Go.Proofs.YtggelmbnliajeaaGreatDoor
open Go.RowKit Go.Sort
end Go.Proofs.YtggelmbnliajeaaGreatDoor
namespace Go.Proofs.YtggelmbnliajeaaGreatDoor
open Go.RowKit Go.Sort
theorem opV_at {s : Int} {f : Int × List Int} (hf : opOk s f) {xs : List Int} (hl : (xs.length : Int) = f.1) (hin : inS s xs) : ∃ k, idxL s 0 xs = ((k : Nat) : Int) ∧ ∃ h : k < f.2.length, opV s f.2 xs = f.2[k] := by
 obtain ⟨hs, ha, hr, -⟩ := hf
 unfold sizeOk at hs
 have hb := idx_lt (m := xs.length) (by omega) rfl hin
 rw [show f.1.toNat = xs.length by omega] at hr
 refine ⟨(idxL s 0 xs).toNat, by omega, by omega, ?_⟩
 unfold opV
 rw [List.getD_eq_getElem?_getD, List.getElem?_eq_getElem (by omega)]
 rfl
theorem opV_in {s : Int} {f : Int × List Int} (hf : opOk s f) {xs : List Int} (hl : (xs.length : Int) = f.1) (hin : inS s xs) : 0 ≤ opV s f.2 xs ∧ opV s f.2 xs ≤ s - 1 := by
 obtain ⟨k, -, hk, e⟩ := opV_at hf hl hin
 rw [e]
 exact hf.2.2.2 _ (List.getElem_mem hk)
end Go.Proofs.YtggelmbnliajeaaGreatDoor
namespace Go.Proofs.YtggelmbnliajeaaGreatDoor
open Go.RowKit Go.Sort
theorem areOps1_any (w : World) {cs : Array Value} {g : Int × List Int} (h : opT.Rd w cs.toList g) {bs : Nat} {s : Int} (hc : w.cell? ⟨bs, 0, none⟩ = some (.int .i64 s)) :
  Calls Tryz.prog 100 #[.agg cs, .pointer (some ⟨bs, 0, none⟩)] w fun e w' => e = .returned (.bool (!tb (opOk s g))) ∧ Below w.heap.size w w' := by
 obtain ⟨u2, hv2, hI, hx⟩ := pair_ex h
 obtain rfl := agg_of hv2
 have H := Lib.hid h
 have hbs := cell_lt hc
 clear h hx hv2
 go_enter Tryz.func100, Tryz.ntmps100
 go_wp2_with fail
 refine (ValidOp_any _ (f := g) (H.out.below bA) s).mono ?_
 rintro e w1 ⟨rfl, hb1⟩
 go_wp2_with fail
 go_ret
 exact ⟨rfl, (by repeat (first | exact Below.refl _ _ | exact bA | assumption | refine Below.setCell ?_ (by first | omega | (simp; try omega)) _ | refine Below.alloc ?_ (by first | omega | (simp; try omega)) _ | refine Below.drew ?_ | refine bDN ?_ | refine bthen ?_ (by assumption)))⟩
end Go.Proofs.YtggelmbnliajeaaGreatDoor
namespace Go.Proofs.YtggelmbnliajeaaGreatDoor
open Go.RowKit Go.Sort
end Go.Proofs.YtggelmbnliajeaaGreatDoor
namespace Go.Proofs.YtggelmbnliajeaaGreatDoor
open Go.RowKit Go.Sort
end Go.Proofs.YtggelmbnliajeaaGreatDoor
namespace Go.Proofs.YtggelmbnliajeaaGreatDoor
open Go.RowKit Go.Sort
end Go.Proofs.YtggelmbnliajeaaGreatDoor
namespace Go.Proofs.YtggelmbnliajeaaGreatDoor
open Go.RowKit Go.Sort
theorem Ty.Fr.P {α : Type} {E : Ty α} {base : Nat} {w : World} {cs : List Value} {x : α} (h : E.Fr base w cs x) : E.RdP (fun k => base ≤ k) w cs x := let ⟨fp, h1, _, h3, _⟩ := h; ⟨fp, h1, h3⟩
end Go.Proofs.YtggelmbnliajeaaGreatDoor
namespace Go.Proofs.YtggelmbnliajeaaGreatDoor
open Go.RowKit Go.Sort
section
variable {t : Int × List (Int × List (List Int))} {x : Int × List (Int × List Int)}
end
end Go.Proofs.YtggelmbnliajeaaGreatDoor
namespace Go.Proofs.YtggelmbnliajeaaGreatDoor
open Go.RowKit Go.Sort
section
variable {t : Int × List (Int × List (List Int))} {x : Int × List (Int × List Int)}
end
end Go.Proofs.YtggelmbnliajeaaGreatDoor
namespace Go.Proofs.YtggelmbnliajeaaGreatDoor
open Go.RowKit Go.Sort
/-- a pointer to a datum in blocks below B -/
def Ty.PtB {α : Type} (E : Ty α) (B : Nat) (w : World) (v : Value) (x : α) : Prop := ∃ b o cs, v = .pointer (some ⟨b, o, none⟩) ∧ b < B ∧ b < w.heap.size ∧ E.RdB B w cs x ∧ ∀ j (hj : j < cs.length), w.cell? ⟨b, o + j, none⟩ = some cs[j]
theorem Ty.PtB.below {α : Type} {E : Ty α} {B : Nat} {w w' : World} {v : Value} {x : α} (h : E.PtB B w v x) (hb : Below B w w') : E.PtB B w' v x :=
 let ⟨b, o, cs, h1, h2, h3, h4, h5⟩ := h
 ⟨b, o, cs, h1, h2, Nat.lt_of_lt_of_le h3 hb.size, h4.below hb (Nat.le_refl _), fun j hj => (cellB hb h2).trans (h5 j hj)⟩
theorem Ty.Pt.B {α : Type} {E : Ty α} {w : World} {v : Value} {x : α} (h : E.Pt w v x) : E.PtB w.heap.size w v x := let ⟨b, o, cs, h1, h2, h3, h4⟩ := h; ⟨b, o, cs, h1, h2, h2, h3.B, h4⟩
/-- a search in progress, at block bf: what it was told so far -/
def Fnd (e bf most : Nat) (vt vx : Value) (told : List (List Int)) (O : List Nat) (w : World) : Prop :=
 ∃ v, O = bf :: v.ownBlock.toList ∧ bf < w.heap.size ∧ w.cell? ⟨bf, 0, none⟩ = some vt ∧ w.cell? ⟨bf, 1, none⟩ = some vx ∧ w.cell? ⟨bf, 2, none⟩ = some (.int .i64 most) ∧ w.cell? ⟨bf, 3, none⟩ = some v ∧ w.cell? ⟨bf, 4, none⟩ = some (.int .i64 told.length) ∧
  w.frozen? ⟨bf, 3, none⟩ = false ∧ w.frozen? ⟨bf, 4, none⟩ = false ∧ Bl intsT e (bf + 1) w.heap.size w v (told.take most)
theorem Fnd.below {e bf most : Nat} {vt vx : Value} {told : List (List Int)} {O : List Nat} {w w' : World} (h : Fnd e bf most vt vx told O w) (hb : Below w.heap.size w w') : Fnd e bf most vt vx told O w' := by
 obtain ⟨v, h0, h1, c0, c1, c2, c3, c4, m3, m4, hB⟩ := h
 exact ⟨v, h0, Nat.lt_of_lt_of_le h1 hb.size, (cellB hb h1).trans c0, (cellB hb h1).trans c1, (cellB hb h1).trans c2, (cellB hb h1).trans c3, (cellB hb h1).trans c4, (frozenB hb h1).trans m3, (frozenB hb h1).trans m4, (hB.below hb (Nat.le_refl _)).mono hb.size⟩
theorem Fnd.ge {e bf most : Nat} {vt vx : Value} {told : List (List Int)} {O : List Nat} {w : World} (h : Fnd e bf most vt vx told O w) : ∀ k ∈ O, bf ≤ k := by
 obtain ⟨v, rfl, h1, c0, c1, c2, c3, c4, m3, m4, hB⟩ := h
 intro k hk
 rcases List.mem_cons.1 hk with rfl | hk
 ·exact Nat.le_refl _
 ·have := hB.ge (show v.ownBlock = some k by simpa using hk)
  omega
theorem Fnd.lt {e bf most : Nat} {vt vx : Value} {told : List (List Int)} {O : List Nat} {w : World} (h : Fnd e bf most vt vx told O w) : ∀ k ∈ O, k < w.heap.size := by
 obtain ⟨v, rfl, h1, c0, c1, c2, c3, c4, m3, m4, hB⟩ := h
 intro k hk
 rcases List.mem_cons.1 hk with rfl | hk
 ·exact h1
 ·exact hB.lt_top (show v.ownBlock = some k by simpa using hk)
end Go.Proofs.YtggelmbnliajeaaGreatDoor
namespace Go.Proofs.YtggelmbnliajeaaGreatDoor
open Go.RowKit Go.Sort
end Go.Proofs.YtggelmbnliajeaaGreatDoor
namespace Go.Proofs.YtggelmbnliajeaaGreatDoor
open Go.RowKit Go.Sort
section
variable {t : Int × List (Int × List (List Int))} {f : Int × Int × List (Int × List Int)} {tu : List Int}
end
end Go.Proofs.YtggelmbnliajeaaGreatDoor
namespace Go.Proofs.YtggelmbnliajeaaGreatDoor
open Go.RowKit Go.Sort
end Go.Proofs.YtggelmbnliajeaaGreatDoor
namespace Go.Proofs.YtggelmbnliajeaaGreatDoor
open Go.RowKit Go.Sort
section
variable (t : Int × List (Int × List (List Int))) (f : Int × Int × List (Int × List Int)) (free : Int) (places : List Int)
end
section
variable {t : Int × List (Int × List (List Int))} {f : Int × Int × List (Int × List Int)} {free : Int} {places : List Int}
end
end Go.Proofs.YtggelmbnliajeaaGreatDoor
namespace Go.Proofs.YtggelmbnliajeaaGreatDoor
open Go.RowKit Go.Sort
section
variable {t : Int × List (Int × List (List Int))} {x : Int × List (Int × List Int)} {n : Int}
end
end Go.Proofs.YtggelmbnliajeaaGreatDoor
namespace Go.Proofs.YtggelmbnliajeaaGreatDoor
open Go.RowKit
end Go.Proofs.YtggelmbnliajeaaGreatDoor
namespace Go.Proofs.YtggelmbnliajeaaGreatDoor
open Go.RowKit Go.Sort
section
variable {t : Int × List (Int × List (List Int))} {f g : Int × Int × List (Int × List Int)}
end
section
variable (t : Int × List (Int × List (List Int))) (f g : Int × Int × List (Int × List Int))
end
section
variable {t : Int × List (Int × List (List Int))} {f g : Int × Int × List (Int × List Int)}
end
end Go.Proofs.YtggelmbnliajeaaGreatDoor
namespace Go.Proofs.YtggelmbnliajeaaGreatDoor
open Go.RowKit Go.Sort
section
variable (t : Int × List (Int × List (List Int))) (f g : Int × Int × List (Int × List Int))
end
section
variable {t : Int × List (Int × List (List Int))} {f g : Int × Int × List (Int × List Int)}
end
end Go.Proofs.YtggelmbnliajeaaGreatDoor
namespace Go.Proofs.YtggelmbnliajeaaGreatDoor
open Go.RowKit Go.Sort
section
variable (t : Int × List (Int × List (List Int))) (f : Int × Int × List (Int × List Int))
end
section
variable {t : Int × List (Int × List (List Int))} {f : Int × Int × List (Int × List Int)}
end
end Go.Proofs.YtggelmbnliajeaaGreatDoor
namespace Go.Proofs.YtggelmbnliajeaaGreatDoor
open Go.RowKit Go.Sort
section
variable (t : Int × List (Int × List (List Int))) (f : Int × Int × List (Int × List Int))
end
section
variable {t : Int × List (Int × List (List Int))} {f : Int × Int × List (Int × List Int)}
end
set_option maxHeartbeats 1600000 in
set_option maxRecDepth 100000 in
theorem ownLists_any (w : World) {v : Value} {xs : List (List Int)} (h : rowsT.Rd w [v] xs) (hl : xs.length ≤ 1000000) (hl2 : ∀ y ∈ xs, y.length ≤ 1000000) :
  Calls Tryz.prog 63 #[v] w (RetS rowsT w xs) := by
 obtain ⟨ad, cap, hv, -, -, hcell⟩ := slices_ex h
 obtain rfl : v = _ := by simpa using hv
 have HC := Lib.hid hcell
 have HL2 := Lib.hid hl2
 clear h hv hcell hl2
 go_enter Tryz.func63, Tryz.ntmps63
 go_wp2_with fail
 generalize hW : World.alloc w _ = W
 have hbW : Below w.heap.size w W := hW ▸ bA
 have HB0 : Hid (Bl intsT 42 w.heap.size W.heap.size W (.slice (some ⟨w.heap.size, 0, none⟩) 0 0) []) := by
  unfold Hid
  rw [← hW]
  simpa using Bl.lit0 (E := intsT) (e := 42) (base := w.heap.size) (w := w) (Nat.le_refl _)
 clear hW
 go_loopw [9, 3] (fun i o wr => ∃ k : Nat, k ≤ xs.length ∧ i = .int .i64 k ∧ Bl intsT 42 w.heap.size wr.heap.size wr o (xs.take k) ∧ Below w.heap.size w wr) (fun i _ _ => xs.length - (intOf i).toNat)
 case atStart => exact ⟨0, Nat.zero_le _, rfl, by simpa using HB0.out, hbW⟩
 case round =>
  obtain ⟨k, hk, rfl, hBl, hbe⟩ := hrel
  have HB := Lib.hid hBl
  have hse := hbe.size
  clear hBl HB0
  by_cases hkl : k < xs.length
  ·obtain ⟨b, o, rfl, hb, hce⟩ := HC.out (by omega)
   obtain ⟨uk, huk, g0⟩ := hce k hkl
   obtain ⟨ak, nk, ck, rfl⟩ := rd_sl huk
   have d0 := (hbe.cell hb).trans g0
   have HU := Lib.hid (huk.below hbe)
   have hlk := HL2.out _ (List.getElem_mem hkl)
   have HTK := Lib.hid (take_snoc hkl)
   clear hce huk g0
   go_wp2_with fail
   refine (Clone_any _ HU.out hlk).mono ?_
   rintro e w1 ⟨u2, rfl, hf, hb1⟩
   obtain ⟨a2, n2, c2, rfl⟩ := ex_slice hf
   have HF := Lib.hid hf
   have hz1 := hb1.size
   have HB1 : Hid (Bl intsT 42 w.heap.size wr.heap.size w1 _ (xs.take k)) := HB.out.below hb1 (Nat.le_refl _)
   clear hf HU d0
   go_wp2_with (refine wpList_push (E := intsT) _ rfl _ _ 23 42 rfl elInt64SS rfl (HB1.out.below (bA.mono (by omega)) (Nat.le_refl _)) rfl news1 (HF.out.below bA) (by rw [take_len hk]; omega) (by decide) (by omega) (by first | (simp; done) | (simp; omega)) ?_; intro v5 w5 hB5 hg5 _; have hb5 : Below w.heap.size w1 w5 := ((Below.refl _ w1).alloc (by omega) _).grown hg5 (by first | (simp; done) | (simp; omega)) (fun q hq => HB1.out.own hq))
   rw [HTK.out] at hB5
   have HB5 := Lib.hid hB5
   clear hB5 hg5
   go_roundw
   case rel => exact ⟨k + 1, by omega, by go_num, HB5.out, (bthen hbe hb1).trans hb5⟩
   case measure => simp [intOf]; omega
  ·obtain rfl : k = xs.length := by omega
   rw [List.take_length] at HB
   have HFO := Lib.hid (HB.out.fr (by unfold capMax; omega))
   go_wp2_with fail
   go_ret
   exact ⟨_, rfl, HFO.out, hbe⟩
end Go.Proofs.YtggelmbnliajeaaGreatDoor
namespace Go.Proofs.YtggelmbnliajeaaGreatDoor
open Go.RowKit Go.Sort
/-- the cell of a set: whether the tuple of this number is in it -/
theorem seen_dig {s : Int} (hs : 1 ≤ s) {m N k : Nat} (hN : s ^ m = N) {ts : List (List Int)} (hts : ∀ t ∈ ts, t.length = m ∧ ∀ a ∈ t, 0 ≤ a ∧ a ≤ s - 1) (hk : k < N) (h : k < (seenL s N ts).length) : (seenL s N ts)[k] = tb (digL s k m ∈ ts) := by
 have hi : idxL s 0 (digL s k m) = (k : Int) := by
  have := dig_idx (s := s) (idx := k) (n := m) hs (by omega) (by omega) m (Nat.le_refl _)
  rw [List.take_of_length_le (by rw [digL_len]; exact Nat.le_refl _)] at this
  rw [this, Nat.sub_self, Int.pow_zero, Int.ediv_one]
 exact seenL_get hs hts digL_len (digL_in hs) hi h
def Set3 (w : World) (base bx g : Nat) (s : Int) (ar N : Nat) (T : List (List Int)) : Prop := SetAt 4 base w bx g N (seenL s N T) ∧ w.cell? ⟨bx, 0, none⟩ = some (.int .i64 s) ∧ w.cell? ⟨bx, 1, none⟩ = some (.int .i64 (ar : Int))
theorem Set3.below {w w' : World} {base bx g ar N B : Nat} {s : Int} {T : List (List Int)} (h : Set3 w base bx g s ar N T) (hb : Below B w w') (hB : w.heap.size ≤ B) : Set3 w' base bx g s ar N T :=
 ⟨h.1.below hb hB, (hb.cell (p := ⟨bx, 0, none⟩) (Nat.lt_of_lt_of_le h.1.2.1 hB)).trans h.2.1, (hb.cell (p := ⟨bx, 1, none⟩) (Nat.lt_of_lt_of_le h.1.2.1 hB)).trans h.2.2⟩
theorem Set3.tch {w w' : World} {base bx g ar N : Nat} {s : Int} {T : List (List Int)} {O : Nat → Prop} (h : Set3 w base bx g s ar N T) (ht : TchP O w w') (h1 : ¬ O bx) (h2 : ¬ O g) : Set3 w' base bx g s ar N T := by
 obtain ⟨⟨q1, q2, q3, q4, q5⟩, q6, q7⟩ := h
 have hg := q5.lt
 refine ⟨⟨q1, Nat.lt_of_lt_of_le q2 ht.size, q3, (ht.cell q2 h1).trans q4, ?_⟩, (ht.cell q2 h1).trans q6, (ht.cell q2 h1).trans q7⟩
 obtain ⟨p1, p2, p3⟩ := q5
 refine ⟨p1, p2, p3.1, ?_⟩
 rcases p3.2 with h | ⟨g', c, cur, e, r1, r2, r3⟩
 ·exact .inl h
 ·simp only [Value.slice.injEq, Option.some.injEq, Addr.mk.injEq, and_true, true_and] at e
  obtain ⟨rfl, rfl⟩ := e
  exact .inr ⟨_, _, cur, rfl, r1, by rw [ht.block _ hg h2]; exact r2, r3⟩
set_option maxHeartbeats 800000 in
set_option maxRecDepth 100000 in
theorem l01Empty3_any (w : World) (s : Int) (ar : Nat) (hs : 1 ≤ s) (hs1 : s ≤ 1000) (hm : ar ≤ 5) (N : Nat) (hN : s ^ ar = N) (hN1 : N ≤ 1000000) :
  Calls Tryz.prog 91 #[.int .i64 s, .int .i64 (ar : Int)] w fun e w' => ∃ bx g, e = .returned (.pointer (some ⟨bx, 0, none⟩)) ∧ Set3 w' w.heap.size bx g s ar N [] ∧ Below w.heap.size w w' := by
 have HN : Hid (s ^ ((ar : Int)).toNat = (N : Int)) := by unfold Hid; rw [Int.toNat_natCast]; exact hN
 clear hN
 go_enter Tryz.func91, Tryz.ntmps91
 go_wp2_with fail
 refine (l01Power_any _ s (ar : Int) (by omega) hs1 (by omega)).mono ?_
 rintro e _ ⟨rfl, rfl⟩
 rw [HN.out]
 go_wp2_with (refine wpList_mkB _ rfl _ _ 120 4 rfl Tryz.underlying120 infoBool w.heap.size N rfl rfl (by omega) (by decide) (by simp) ?_; intro w1 hA hg1 hs1)
 have hb1 := below_of_grown hg1
 have HA := Lib.hid hA
 clear hA
 go_wp2_with fail
 go_ret
 exact ⟨w.heap.size + 1, w.heap.size, rfl, ⟨⟨by omega, by simp; omega, by omega, by rw [← hs1]; simp, by rw [seenL_nil]; exact HA.out.below (bA (w := w1)) HA.out.lt⟩, by rw [← hs1]; simp, by rw [← hs1]; simp⟩, hb1.alloc hb1.size _⟩
set_option maxHeartbeats 1600000 in
set_option maxRecDepth 100000 in
theorem l01SetOf3_any (w : World) {v : Value} {r : Int × List (List Int)} (h : relT.Pt w v r) {s : Int} (hr : relOk s r) (ar N : Nat) (har : r.1 = ar) (hN : s ^ ar = N) :
  Calls Tryz.prog 40 #[.int .i64 s, v] w fun e w' => ∃ bx g, e = .returned (.pointer (some ⟨bx, 0, none⟩)) ∧ Set3 w' w.heap.size bx g s ar N r.2 ∧ w.heap.size ≤ g ∧ Below w.heap.size w w' := by
 obtain ⟨b, o, ad, cap, rfl, hb, hI, c0, c1, hx⟩ := pt_pair h
 obtain ⟨_, _, e1, hle, hle2, hcell⟩ := slices_ex hx
 simp only [List.cons.injEq, Value.slice.injEq, and_true, true_and] at e1
 obtain ⟨rfl, rfl⟩ := e1
 have hs := hr.1
 have hm := hr.2.1
 unfold sizeOk at hs hm
 have HRO := Lib.hid hr
 have hNle : N ≤ 1000000 := by
  have h1 : s ^ ar ≤ 1000000 := by
   refine Int.le_trans (pow_mono' (by omega) (show s ≤ 4 by omega) ar) ?_
   rcases (show ar = 1 ∨ ar = 2 ∨ ar = 3 ∨ ar = 4 by omega) with e | e | e | e <;> rw [e] <;> decide
  omega
 have HN := Lib.hid hN
 rw [har] at c0
 have HAR := Lib.hid har
 have har5 : ar ≤ 5 := by omega
 clear h hx hr hN hI har
 go_enter Tryz.func40, Tryz.ntmps40
 go_wp2_with fail
 refine (l01Empty3_any _ s ar (by omega) (by omega) har5 N HN.out hNle).mono ?_
 rintro e w1 ⟨bx, g, rfl, hset, hb1⟩
 have HS1 := Lib.hid hset
 clear hset
 go_wp2_with fail
 go_loopw [6] (fun i wr => ∃ k : Nat, k ≤ r.2.length ∧ i = .int .i64 k ∧ Set3 wr w.heap.size bx g s ar N (r.2.take k) ∧ Below w.heap.size w wr) (fun i _ => r.2.length - (intOf i).toNat)
 case atStart => exact ⟨0, Nat.zero_le _, rfl, by rw [List.take_zero]; exact HS1.out, hb1⟩
 case round =>
  obtain ⟨k, hk, rfl, hset, hbel⟩ := hrel
  have d1 := (hbel.cell hb).trans c1
  obtain ⟨⟨s1, s2, s3, s4, s5⟩, s6, s7⟩ := id hset
  have HS := Lib.hid hset
  have hgl := s5.2.1
  clear hset
  by_cases hkl : k < r.2.length
  ·obtain ⟨a, q, rfl, haa, hce⟩ := hcell (by omega)
   obtain ⟨u, hu, hcu⟩ := hce k hkl
   obtain ⟨au, cu, rfl⟩ := rd_slice hu
   have d2 := (hbel.cell haa).trans hcu
   obtain ⟨t1, t2⟩ := (HRO.out.2.2 k hkl).1
   have htl : (r.2[k]).length = ar := by have := HAR.out; omega
   obtain ⟨i0, i1⟩ := idx_lt (s := s) (by omega) htl t2
   obtain ⟨j, hj⟩ : ∃ j : Nat, idxL s 0 r.2[k] = j := ⟨(idxL s 0 r.2[k]).toNat, by omega⟩
   have hjN : j < N := by have := HN.out; rw [this, hj] at i1; omega
   have e0 := s5.cell (j := j) (by rw [seenL_len]; exact hjN)
   have e1 := s5.free j
   have hgs := s5.lt
   have HST := Lib.hid (seenL_set hkl hj hjN)
   have HBS := Lib.hid (s5.set j true)
   have HU := Lib.hid (hu.below hbel)
   have HT2 := Lib.hid t2
   have HJ := Lib.hid hj
   have S6 := Lib.hid s6
   have S7 := Lib.hid s7
   have hlen5 : (r.2[k]).length ≤ 5 := by omega
   have q1 : 1 ≤ s := hs.1
   have q2 : s ≤ 1000 := by omega
   have n1 : g ≠ b := by omega
   have n2 : g ≠ a := by omega
   have f0 : wr.drew.cell? ⟨g, j, none⟩ = some (.bool ((seenL s N (r.2.take k))[j]'(by rw [seenL_len]; exact hjN))) := e0
   have f1 : wr.drew.frozen? ⟨g, j, none⟩ = false := e1
   clear hce hcell hu hcu t1 t2 htl hj i0 i1 s5 c0 c1 s6 s7
   go_wp2_with fail
   go_region_held_law (fun w' => w'.cell? ⟨bx, 2, none⟩ = some (.slice (some ⟨g, 0, none⟩) N N) ∧ w'.cell? ⟨b, o + 1, none⟩ = some (.slice (some ⟨a, q, none⟩) r.2.length cap) ∧ w'.cell? ⟨a, q + k, none⟩ = some (.slice au (r.2[k]).length cu)) (first | exact ⟨s4, d1, d2⟩ | go_keep)
    (first
     | (go_simp; go_at_call 97; refine (l01Code_any _ s (HU.out.below bD) q1 q2 hlen5 HT2.out).mono ?_; rintro e _ ⟨rfl, rfl⟩; rw [HJ.out]; dsimp only))
   go_wp2_with fail
   go_roundw
   case rel => exact ⟨k + 1, by omega, by go_num, ⟨⟨s1, by simpa [World.setCell] using s2, s3, (World.cell?_setCell_other _ _ _ _ (by first | (simp; done) | (simp; omega))).trans s4, by rw [← HST.out]; exact HBS.out⟩, (World.cell?_setCell_other _ _ _ _ (by first | (simp; done) | (simp; omega))).trans S6.out, (World.cell?_setCell_other _ _ _ _ (by first | (simp; done) | (simp; omega))).trans S7.out⟩, (hbel.trans bD').setCell (by first | (simp; done) | (simp; omega)) _⟩
   case measure => simp [intOf]; omega
  ·obtain rfl : k = r.2.length := by omega
   rw [List.take_length] at HS
   clear hcell
   go_wp2_with fail
   go_ret
   exact ⟨bx, g, rfl, HS.out, hgl, hbel⟩
set_option maxHeartbeats 1600000 in
set_option maxRecDepth 100000 in
theorem put_any (w : World) {base bx g ar N : Nat} {s : Int} {T : List (List Int)} (h : Set3 w base bx g s ar N T) (hs : 1 ≤ s ∧ s ≤ 4) (har : ar ≤ 5) (hN : s ^ ar = N) {u : Value} {l : List Int} (hu : intsT.Rd w [u] l) (hl : l.length = ar) (hin : ∀ a ∈ l, 0 ≤ a ∧ a ≤ s - 1) :
  Calls Tryz.prog 92 #[.pointer (some ⟨bx, 0, none⟩), u] w fun e w' => e = .returned (.tuple #[]) ∧ Set3 w' base bx g s ar N (T ++ [l]) ∧ TchP (fun q => q = g) w w' := by
 obtain ⟨⟨s1, s2, s3, s4, s5⟩, s6, s7⟩ := h
 obtain ⟨i0, i1⟩ := idx_lt (s := s) (by omega) hl hin
 obtain ⟨j, hj⟩ : ∃ j : Nat, idxL s 0 l = j := ⟨(idxL s 0 l).toNat, by omega⟩
 have hjN : j < N := by rw [hN, hj] at i1; omega
 have e0 := s5.cell (j := j) (by rw [seenL_len]; exact hjN)
 have e1 := s5.free j
 have hgs := s5.lt
 have HST : Hid ((seenL s N T).set j true = seenL s N (T ++ [l])) := by
  have := seenL_set (s := s) (N := N) (ts := T ++ [l]) (k := T.length) (j := j) (by simp) (by simpa using hj) hjN
  rw [List.take_left, List.take_of_length_le (by simp)] at this
  exact this
 have HBS := Lib.hid (s5.set j true)
 have HU := Lib.hid hu
 have HIN := Lib.hid hin
 have HJ := Lib.hid hj
 have S7 := Lib.hid s7
 have hl5 : l.length ≤ 5 := by omega
 obtain ⟨au, cu, rfl⟩ := rd_slice hu
 generalize hT : (seenL s N T)[j]'(by rw [seenL_len]; exact hjN) = old at e0
 clear hT s5 s7 hu hin hj i0 i1 hN hl
 go_enter Tryz.func92, Tryz.ntmps92
 go_wp2_with fail
 refine wp_region_T (fun w' => w'.cell? ⟨bx, 0, none⟩ = some (.int .i64 s) ∧ w'.cell? ⟨bx, 2, none⟩ = some (.slice (some ⟨g, 0, none⟩) N N) ∧ w'.cell? ⟨g, j, none⟩ = some (.bool old) ∧ w'.frozen? ⟨g, j, none⟩ = false) [11] (by kernel_rfl) ⟨s6, s4, e0, e1⟩ (fun hHeld => ?_)
 refine wpAnyT_take (i := 0) (v := ?_) rfl (by kernel_rfl) (fun _ _ _ h => h) (Or.inl ⟨by rfl, ?_⟩) (by assumption) ?_
 rotate_left
 ·(intro w hSw; (try dsimp only at hSw); go_simp <;> with_reducible rfl)
 go_simp
 refine wpAnyT_take (i := 1) (v := ?_) rfl (by kernel_rfl) (fun _ _ _ h => h) (Or.inl ⟨by rfl, ?_⟩) (by assumption) ?_
 rotate_left
 ·(intro w hSw; (try dsimp only at hSw); go_simp <;> with_reducible rfl)
 go_simp
 refine wpAnyT_take (i := 2) (v := ?_) rfl (by kernel_rfl) (fun _ _ _ h => h) (Or.inl ⟨by rfl, ?_⟩) (by assumption) ?_
 rotate_left
 ·(intro w hSw; (try dsimp only at hSw); go_simp <;> with_reducible rfl)
 go_simp
 refine wpAnyT_take (i := 3) (v := ?_) rfl (by kernel_rfl) (fun _ _ _ h => h) (Or.inl ⟨by rfl, ?_⟩) (by assumption) ?_
 rotate_left
 ·(intro w hSw; (try dsimp only at hSw); go_simp <;> with_reducible rfl)
 go_simp
 refine wpAnyT_take (i := 4) (v := ?_) rfl (by kernel_rfl) (fun _ _ _ h => h) (Or.inl ⟨by rfl, ?_⟩) (by assumption) ?_
 rotate_left
 ·(intro w hSw; (try dsimp only at hSw); go_simp <;> with_reducible rfl)
 go_simp
 refine wpAnyT_take (i := 5) (v := ?_) rfl (by kernel_rfl) (fun _ _ _ h => h) (Or.inl ⟨by rfl, ?_⟩) (by assumption) ?_
 rotate_left
 ·(intro w hSw; (try dsimp only at hSw); go_simp <;> with_reducible rfl)
 go_simp
 refine wpAnyT_take (i := 6) (v := ?_) rfl (by kernel_rfl) (fun _ _ _ h => h) (Or.inl ⟨by rfl, ?_⟩) (by assumption) ?_
 rotate_left
 ·(intro w hSw; (try dsimp only at hSw); go_simp <;> with_reducible rfl)
 go_simp
 refine wpAnyT_take (i := 7) (v := ?_) rfl (by kernel_rfl) (fun _ _ _ h => h) (Or.inl ⟨by rfl, ?_⟩) (by assumption) ?_
 rotate_left
 ·(intro w hSw; (try dsimp only at hSw); go_simp <;> with_reducible rfl)
 go_simp
 refine wpAnyT_take (i := 8) (v := ?_) rfl (by kernel_rfl) (fun _ _ _ h => h) (Or.inl ⟨by rfl, ?_⟩) (by assumption) ?_
 rotate_left
 ·(intro w hSw; (try dsimp only at hSw); go_simp <;> with_reducible rfl)
 go_simp
 refine wpAnyT_one (i := 9) rfl (by kernel_rfl) (fun K hK => ?_)
 go_simp
 go_at_call 97
 refine (l01Code_any _ s (HU.out.below bD) hs.1 (by omega) hl5 HIN.out).mono ?_
 rintro e _ ⟨rfl, rfl⟩
 rw [HJ.out]
 dsimp only
 refine hK.out _ _ hHeld (fun hHeld => ?_)
 clear hK K
 refine wpAnyT_take (i := 10) (v := ?_) rfl (by kernel_rfl) (fun _ _ _ h => h) (Or.inl ⟨by rfl, ?_⟩) (by assumption) ?_
 rotate_left
 ·(intro w hSw; (try dsimp only at hSw); go_simp <;> with_reducible rfl)
 go_simp
 obtain ⟨c0, c1, c2, c3⟩ := hHeld
 refine wpAnyT_last (i := 11) rfl (by kernel_rfl) (by kernel_rfl) (fun K hK => ?_)
 go_simp
 refine hK.out _ _ ?_
 clear hK K
 refine wpAnyT_done (by kernel_rfl) ?_ _
 go_simp
 go_wp2_with fail
 go_end0
 refine ⟨rfl, ⟨⟨s1, by simpa [World.setCell] using s2, s3, (World.cell?_setCell_other _ _ _ _ (by first | (simp; done) | (simp; omega))).trans s4, by rw [← HST.out]; exact HBS.out⟩, (World.cell?_setCell_other _ _ _ _ (by first | (simp; done) | (simp; omega))).trans s6, (World.cell?_setCell_other _ _ _ _ (by first | (simp; done) | (simp; omega))).trans S7.out⟩, (TchP.of_below (bD (w := w)) _).then (TchP.set (O := fun q => q = g) rfl) (fun _ _ h => h)⟩
end Go.Proofs.YtggelmbnliajeaaGreatDoor
namespace Go.Proofs.YtggelmbnliajeaaGreatDoor
open Go.RowKit Go.Sort
set_option maxHeartbeats 3200000 in
set_option maxRecDepth 100000 in
theorem rel_any (w : World) {base bx g ar N : Nat} {s : Int} {T : List (List Int)} (h : Set3 w base bx g s ar N T) (hs : 1 ≤ s ∧ s ≤ 4) (har : ar ≤ 5) (hN : s ^ ar = N) (hN1 : N ≤ 1000000) (hT : ∀ l ∈ T, l.length = ar ∧ ∀ a ∈ l, 0 ≤ a ∧ a ≤ s - 1) :
  Calls Tryz.prog 93 #[.pointer (some ⟨bx, 0, none⟩)] w (RetA relT w ((ar : Int), relL s ar (fun l => tb (l ∈ T)) N)) := by
 obtain ⟨⟨s1, s2, s3, s4, s5⟩, s6, s7⟩ := id h
 have HSET := Lib.hid h
 have HTT := Lib.hid hT
 have HN := Lib.hid hN
 have hgw := s5.lt
 have HBR := Lib.hid s5
 clear h hT hN s5
 go_enter Tryz.func93, Tryz.ntmps93
 go_wp2_with fail
 generalize hW : World.alloc _ _ = W
 have hbW : Below w.heap.size w W := hW ▸ bAA
 have hsW : W.heap.size = w.heap.size + 2 := by rw [← hW]; simp
 have y0 : W.cell? ⟨w.heap.size + 1, 0, none⟩ = some (.int .i64 (ar : Int)) := by rw [← hW]; simp [go_sem]
 have y1 : W.cell? ⟨w.heap.size + 1, 1, none⟩ = some (.slice none 0 0) := by rw [← hW]; simp [go_sem]
 have y2 : W.frozen? ⟨w.heap.size + 1, 1, none⟩ = false := by rw [← hW]; simp [go_sem]
 have r0 : W.cell? ⟨w.heap.size, 0, none⟩ = some (.int .i64 0) := by rw [← hW]; simp [go_sem]
 have r1 : W.cell? ⟨w.heap.size, 1, none⟩ = some (.slice none 0 0) := by rw [← hW]; simp [go_sem]
 have r2 : W.frozen? ⟨w.heap.size, 0, none⟩ = false := by rw [← hW]; simp [go_sem]
 have r3 : W.frozen? ⟨w.heap.size, 1, none⟩ = false := by rw [← hW]; simp [go_sem]
 clear hW
 go_loopw [4] (fun i wr => ∃ (k : Nat) (v : Value), k ≤ N ∧ i = .int .i64 k ∧ Bl intsT 42 (w.heap.size + 2) wr.heap.size wr v (relL s ar (fun l => tb (l ∈ T)) k) ∧ wr.cell? ⟨w.heap.size + 1, 1, none⟩ = some v ∧ wr.cell? ⟨w.heap.size + 1, 0, none⟩ = some (.int .i64 (ar : Int)) ∧ wr.frozen? ⟨w.heap.size + 1, 1, none⟩ = false ∧ Below (w.heap.size + 1) W wr ∧ w.heap.size + 2 ≤ wr.heap.size) (fun i _ => N - (intOf i).toNat)
 case atStart => exact ⟨0, _, Nat.zero_le _, rfl, by rw [relL_zero]; simpa using Bl.nil, y1, y0, y2, Below.refl _ _, by omega⟩
 case round =>
  obtain ⟨k, v, hk, rfl, hBv, z1, z0, z2, hbe, hse⟩ := hrel
  obtain ⟨wv, rfl⟩ : ∃ wv : World, wv = wr := ⟨_, rfl⟩
  have hbw : Below w.heap.size w wv := hbW.trans (hbe.mono (by omega))
  have hlk := relL_len (s := s) (ar := ar) (p := fun l => tb (l ∈ T)) (k := k)
  obtain ⟨av0, nv0, cv0, rfl⟩ := ex_slice (hBv.fr (by unfold capMax; omega))
  have HBv := Lib.hid hBv
  have u0 := (cellB hbw s2).trans s6
  have u1 := (cellB hbw s2).trans s7
  have u2 := (cellB hbw s2).trans s4
  clear hBv y0 y1 y2
  by_cases hkl : k < N
  ·have e0 := (cellB hbw hgw).trans (HBR.out.cell (j := k) (by rw [seenL_len]; exact hkl))
   rw [seen_dig hs.1 HN.out HTT.out hkl] at e0
   have HY : Hid (tb (digL s k ar ∈ T) = true → relL s ar (fun l => tb (l ∈ T)) k ++ [digL s k ar] = relL s ar (fun l => tb (l ∈ T)) (k + 1)) := fun h => relL_yes h
   have HNo : Hid (tb (digL s k ar ∈ T) = false → relL s ar (fun l => tb (l ∈ T)) k = relL s ar (fun l => tb (l ∈ T)) (k + 1)) := fun h => relL_no h
   cases hb : tb (digL s k ar ∈ T)
   ·rw [hb] at e0
    go_wp2_with fail
    go_roundw
    case rel => exact ⟨k + 1, _, by omega, by go_num, by rw [← HNo.out hb]; exact HBv.out, z1, z0, z2, hbe, hse⟩
    case measure => simp [intOf]; omega
   ·rw [hb] at e0
    go_wp2_with fail
    clear e0
    have hkb : (k : Int) ≤ 1000000 := by omega
    refine wp_region_T (fun w' => w'.cell? ⟨w.heap.size + 1, 1, none⟩ = some (.slice av0 nv0 cv0) ∧ w'.cell? ⟨bx, 0, none⟩ = some (.int .i64 s) ∧ w'.cell? ⟨bx, 1, none⟩ = some (.int .i64 (ar : Int))) [13, 15] (by kernel_rfl) ⟨z1, u0, u1⟩ (fun hHeld => ?_)
    refine wpAnyT_take (i := 0) (v := ?_) rfl (by kernel_rfl) (fun _ _ _ h => h) (Or.inl ⟨by rfl, ?_⟩) (by assumption) ?_
    rotate_left
    ·(intro w hSw; (try dsimp only at hSw); go_simp <;> with_reducible rfl)
    go_simp
    refine wpAnyT_take (i := 1) (v := ?_) rfl (by kernel_rfl) (fun _ _ _ h => h) (Or.inl ⟨by rfl, ?_⟩) (by assumption) ?_
    rotate_left
    ·(intro w hSw; (try dsimp only at hSw); go_simp <;> with_reducible rfl)
    go_simp
    refine wpAnyT_take (i := 2) (v := ?_) rfl (by kernel_rfl) (fun _ _ _ h => h) (Or.inl ⟨by rfl, ?_⟩) (by assumption) ?_
    rotate_left
    ·(intro w hSw; (try dsimp only at hSw); go_simp <;> with_reducible rfl)
    go_simp
    refine wpAnyT_take (i := 3) (v := ?_) rfl (by kernel_rfl) (fun _ _ _ h => h) (Or.inl ⟨by rfl, ?_⟩) (by assumption) ?_
    rotate_left
    ·(intro w hSw; (try dsimp only at hSw); go_simp <;> with_reducible rfl)
    go_simp
    refine wpAnyT_take (i := 4) (v := ?_) rfl (by kernel_rfl) (fun _ _ _ h => h) (Or.inl ⟨by rfl, ?_⟩) (by assumption) ?_
    rotate_left
    ·(intro w hSw; (try dsimp only at hSw); go_simp <;> with_reducible rfl)
    go_simp
    refine wpAnyT_take (i := 5) (v := ?_) rfl (by kernel_rfl) (fun _ _ _ h => h) (Or.inl ⟨by rfl, ?_⟩) (by assumption) ?_
    rotate_left
    ·(intro w hSw; (try dsimp only at hSw); go_simp <;> with_reducible rfl)
    go_simp
    refine wpAnyT_take (i := 6) (v := ?_) rfl (by kernel_rfl) (fun _ _ _ h => h) (Or.inl ⟨by rfl, ?_⟩) (by assumption) ?_
    rotate_left
    ·(intro w hSw; (try dsimp only at hSw); go_simp <;> with_reducible rfl)
    go_simp
    refine wpAnyT_take (i := 7) (v := ?_) rfl (by kernel_rfl) (fun _ _ _ h => h) (Or.inl ⟨by rfl, ?_⟩) (by assumption) ?_
    rotate_left
    ·(intro w hSw; (try dsimp only at hSw); go_simp <;> with_reducible rfl)
    go_simp
    refine wpAnyT_take (i := 8) (v := ?_) rfl (by kernel_rfl) (fun _ _ _ h => h) (Or.inl ⟨by rfl, ?_⟩) (by assumption) ?_
    rotate_left
    ·(intro w hSw; (try dsimp only at hSw); go_simp <;> with_reducible rfl)
    go_simp
    refine wpAnyT_take (i := 9) (v := ?_) rfl (by kernel_rfl) (fun _ _ _ h => h) (Or.inl ⟨by rfl, ?_⟩) (by assumption) ?_
    rotate_left
    ·(intro w hSw; (try dsimp only at hSw); go_simp <;> with_reducible rfl)
    go_simp
    refine wpAnyT_take (i := 10) (v := ?_) rfl (by kernel_rfl) (fun _ _ _ h => h) (Or.inl ⟨by rfl, ?_⟩) (by assumption) ?_
    rotate_left
    ·(intro w hSw; (try dsimp only at hSw); go_simp <;> with_reducible rfl)
    go_simp
    refine wpAnyT_one (i := 11) rfl (by kernel_rfl) (fun K hK => ?_)
    go_simp
    go_at_call 95
    refine (l01Digits_any _ s (k : Int) ar hs.1 (by omega) har (by omega) (by omega)).mono ?_
    rintro e w1 ⟨u, rfl, hf, hb1⟩
    obtain ⟨a2, n2, c2, rfl⟩ := ex_slice hf
    have HF := Lib.hid hf
    have hb2 : Below wv.heap.size wv w1 := bthen bD hb1
    have f1 := (cellB hb2 (by omega)).trans z1
    have f2 := (cellB hb2 (by omega)).trans z0
    have f3 := (frozenB hb2 (by omega)).trans z2
    have f4 := (cellB hb2 (by have := hbw.size; omega)).trans u0
    have f5 := (cellB hb2 (by have := hbw.size; omega)).trans u1
    have hz1 := hb2.size
    clear hf hb1 hHeld
    dsimp only
    refine hK.out _ _ ⟨f1, f4, f5⟩ (fun hHeld => ?_)
    clear hK K
    refine wpAnyT_one (i := 12) rfl (by kernel_rfl) (fun K hK => ?_)
    go_simp
    refine hK.out _ _ ⟨by go_keep, by go_keep, by go_keep⟩ (fun hHeld => ?_)
    clear hK K
    refine wpAnyT_last (i := 13) rfl (by kernel_rfl) (by kernel_rfl) (fun K hK => ?_)
    refine step_push (E := intsT) _ rfl _ _ 23 42 rfl elInt64SS rfl (HBv.out.below (hb2.alloc (by omega) _) (Nat.le_refl _)) rfl news1 ((HF.out.below bA).mono (by have := (bD (w := wv)).size; omega)) (by omega) (by decide) hse (by simp; omega) ?_
    intro v1 w3 hB3 hg3 _
    rw [HY.out hb] at hB3
    have hb3 : Below (w.heap.size + 2) w1 w3 := ((Below.refl _ w1).alloc (by omega) _).grown hg3 (by simp; omega) (fun q hq => HBv.out.own hq)
    have i1 := (cellB hb3 (by omega)).trans f1
    have i2 := (cellB hb3 (by omega)).trans f2
    have i3 := (frozenB hb3 (by omega)).trans f3
    have hz3 := hb3.size
    have HB3 := Lib.hid hB3
    have hlk1 := relL_len (s := s) (ar := ar) (p := fun l => tb (l ∈ T)) (k := k + 1)
    obtain ⟨a3, n3, c3, rfl⟩ := ex_slice (hB3.fr (by unfold capMax; omega))
    clear hB3 hg3 f1 f2 f3 f4 f5 hlk1
    refine hK.out _ _ ?_
    clear hK K
    refine wpAnyT_any (i := 14) (v := ?_) rfl (by kernel_rfl) (fun _ _ _ h => h) (Or.inl ⟨by rfl, ?_⟩) (by first | exact fun _ => by assumption | (intro hp; exact absurd hp (by rw [show pastB _ _ = true by kernel_rfl]; simp))) ?_
    rotate_left
    ·(intro w hSw; (try dsimp only at hSw); go_simp <;> with_reducible rfl)
    try simp only [Act.put]
    refine wpAnyT_last (i := 15) rfl (by kernel_rfl) (by kernel_rfl) (fun K hK => ?_)
    go_simp
    refine hK.out _ _ ?_
    clear hK K
    refine wpAnyT_done (by kernel_rfl) ?_ _
    go_simp
    go_wp2_with fail
    go_roundw
    case rel => exact ⟨k + 1, _, by omega, by go_num, by rw [size_set]; exact HB3.out.sameB (fun q hq1 hq2 => Below.heap_setCell _ _ _ _ (by simp; omega)), World.cell?_setCell_same _ _ _ i1, (World.cell?_setCell_other _ _ _ _ (by simp)).trans i2, (World.frozen?_setCell _ _ _ _).trans i3, (hbe.trans ((hb2.mono (by omega)).trans (hb3.mono (by omega)))).setCell (by simp) _, by rw [size_set]; omega⟩
    case measure => simp [intOf]; omega
  ·obtain rfl : k = N := by omega
   have HF := Lib.hid (HBv.out.fr (by unfold capMax; omega))
   have q0 := (cellB hbe (by omega)).trans r0
   have q1 := (cellB hbe (by omega)).trans r1
   have q2 := (frozenB hbe (by omega)).trans r2
   have q3 := (frozenB hbe (by omega)).trans r3
   have hze : w.heap.size < wv.heap.size := by omega
   obtain ⟨RL, hRL⟩ : ∃ RL, RL = relL s ar (fun l => tb (l ∈ T)) k := ⟨_, rfl⟩
   rw [← hRL] at HF hlk
   obtain ⟨x1, x2, hx⟩ := fr_slice HF.out
   simp only [Value.slice.injEq] at hx
   obtain ⟨rfl, rfl, rfl⟩ := hx
   have HRL := Lib.hid hRL
   clear HBv hRL
   go_wp2_with fail
   obtain ⟨g0, g1⟩ := set2_cells (x := .int .i64 (ar : Int)) (y := .slice av0 RL.length cv0) q0 q1
   refine bodyPost_ret (v := .agg #[.int .i64 (ar : Int), .slice av0 RL.length cv0]) (by simp [results, Tryz.results93, go_sem, g0, g1]) rfl ⟨[.int .i64 (ar : Int), .slice av0 RL.length cv0], rfl, ?_, ?_⟩
   ·rw [← HRL.out]
    refine Ty.Fr.mono (base := w.heap.size + 2) (fr_set2 (fr_cons (I64.small (by omega) (by omega)) HF.out) ?_) ?_ <;> omega
   ·exact (hbw.setCell (by simp) _).setCell (by simp) _
end Go.Proofs.YtggelmbnliajeaaGreatDoor
namespace Go.Proofs.YtggelmbnliajeaaGreatDoor
open Go.RowKit Go.Sort
/-- a listener of operations: what it keeps (I), and the blocks that are its own (O); it is told operations with the property V alone -/
structure YfV (P : Program) (ar : Int) (g : FuncId) (caps : Array Value) (yc : List (List Int) → Int) (V : List Int → Prop) (I : List (List Int) → (Nat → Prop) → World → Prop) : Prop where
 stable : ∀ {told O w w'}, I told O w → (∀ k, k < w.heap.size → O k → w'.heap[k]? = w.heap[k]?) → w.heap.size ≤ w'.heap.size → I told O w'
 lt : ∀ {told O w}, I told O w → ∀ k, O k → k < w.heap.size
 step : ∀ {told O w0 w u x}, I told O w0 → Below w0.heap.size w0 w → intsT.Fr w0.heap.size w [u] x → x.length ≤ 64 → told.length ≤ 2000000 → V x →
  Calls P g (#[.agg #[.int .i64 ar, u]] ++ caps) w fun e w' => e = .returned (.int .i64 (yc (told ++ [x]))) ∧ ∃ O', I (told ++ [x]) O' w' ∧ TchP O w w' ∧ ∀ k, O' k → O k ∨ w0.heap.size ≤ k
end Go.Proofs.YtggelmbnliajeaaGreatDoor
namespace Go.Proofs.YtggelmbnliajeaaGreatDoor
open Go.RowKit Go.Sort
section
variable {s : Int} {ls : List (List Int)} {vs f g : List Int} {k : Nat}
end
end Go.Proofs.YtggelmbnliajeaaGreatDoor
namespace Go.Proofs.YtggelmbnliajeaaGreatDoor
open Go.RowKit Go.Sort
section
variable {t : Tpl} {ar : Int} {ls : List (List Int)} {vs : List Int}
end
end Go.Proofs.YtggelmbnliajeaaGreatDoor
namespace Go.Proofs.YtggelmbnliajeaaGreatDoor
open Go.RowKit Go.Sort
end Go.Proofs.YtggelmbnliajeaaGreatDoor
namespace Go.Proofs.YtggelmbnliajeaaGreatDoor
open Go.RowKit Go.Sort
end Go.Proofs.YtggelmbnliajeaaGreatDoor
namespace Go.Proofs.YtggelmbnliajeaaGreatDoor
open Go.RowKit Go.Sort
end Go.Proofs.YtggelmbnliajeaaGreatDoor
namespace Go.Proofs.YtggelmbnliajeaaGreatDoor
open Go.RowKit Go.Sort
end Go.Proofs.YtggelmbnliajeaaGreatDoor
namespace Go.Proofs.YtggelmbnliajeaaGreatDoor
open Go.RowKit Go.Sort
end Go.Proofs.YtggelmbnliajeaaGreatDoor
namespace Go.Proofs.YtggelmbnliajeaaGreatDoor
open Go.RowKit Go.Sort
/-- a struct of two cells, laid as a result -/
theorem res2_0 {W : World} {b : Nat} {x0 x y : Value} (s0 : W.cell? ⟨b, 0, none⟩ = some x0) : ((W.setCell ⟨b, 0, none⟩ x).setCell ⟨b, 1, none⟩ y).cell? ⟨b, 0, none⟩ = some x := (World.cell?_setCell_other _ _ _ _ (by simp)).trans (World.cell?_setCell_same _ _ _ s0)
theorem res2_1 {W : World} {b : Nat} {x1 x y : Value} (s1 : W.cell? ⟨b, 1, none⟩ = some x1) : ((W.setCell ⟨b, 0, none⟩ x).setCell ⟨b, 1, none⟩ y).cell? ⟨b, 1, none⟩ = some y := World.cell?_setCell_same _ _ _ ((World.cell?_setCell_other _ _ _ _ (by simp)).trans s1)
theorem res2_b {w W : World} {B b : Nat} {x y : Value} (h : Below B w W) (hB : B ≤ b) : Below B w ((W.setCell ⟨b, 0, none⟩ x).setCell ⟨b, 1, none⟩ y) := by
 refine ⟨h.os, h.tape, h.output, by have := h.size; simpa [World.setCell] using this, fun k hk => ?_⟩
 exact ((Below.heap_setCell _ _ _ _ (by simp; omega)).trans (Below.heap_setCell _ _ _ _ (by simp; omega))).trans (h.block k hk)
end Go.Proofs.YtggelmbnliajeaaGreatDoor

namespace Go.Proofs.YtggelmbnliajeaaGreatDoor
open Go.RowKit Go.Sort
section
variable {s : Int} {f : Int × List Int}
end
end Go.Proofs.YtggelmbnliajeaaGreatDoor
namespace Go.Proofs.YtggelmbnliajeaaGreatDoor
open Go.RowKit Go.Sort
end Go.Proofs.YtggelmbnliajeaaGreatDoor
namespace Go.Proofs.YtggelmbnliajeaaGreatDoor
open Go.RowKit Go.Sort
end Go.Proofs.YtggelmbnliajeaaGreatDoor
namespace Go.Proofs.YtggelmbnliajeaaGreatDoor
open Go.RowKit Go.Sort
end Go.Proofs.YtggelmbnliajeaaGreatDoor
namespace Go.Proofs.YtggelmbnliajeaaGreatDoor
open Go.RowKit Go.Sort
def agR (sc tu : List Int) (i k : Nat) : Prop := sc.getD k 0 = sc.getD i 0 → tu.getD k 0 = tu.getD i 0
def agIn (sc tu : List Int) (i m : Nat) : Prop := ∀ k, k < m → agR sc tu i k
def agTo (sc tu : List Int) (n : Nat) : Prop := ∀ i, i < n → agIn sc tu i i
end Go.Proofs.YtggelmbnliajeaaGreatDoor
namespace Go.Proofs.YtggelmbnliajeaaGreatDoor
open Go.RowKit Go.Sort
/-- is a number one of a list's -/
def hasI (xs : List Int) (n : Int) : Bool := anyB (fun a => n == a) xs
theorem hasI_first {xs : List Int} {n : Int} : decide (0 ≤ firstI (fun a => n == a) xs) = hasI xs n := firstI_any _ _
set_option maxHeartbeats 800000 in
theorem IndexI_any (w : World) {v : Value} {xs : List Int} (h : intsT.Rd w [v] xs) (n : Int) :
  Calls Tryz.prog 153 #[v, .int .i64 n] w fun e w' => e = .returned (.int .i64 (firstI (fun a => n == a) xs)) ∧ w = w' := by
 obtain ⟨ad, cap, hv, -, hcl, hcell⟩ := ints_ex h
 obtain rfl : v = _ := by simpa using hv
 clear h hv
 go_enter Tryz.func153, Tryz.ntmps153
 go_wp2_with fail
 go_loop [8] (fun i => ∃ k : Nat, k ≤ xs.length ∧ i = .int .i64 k ∧ noneB (fun a => n == a) (xs.take k)) (fun i => xs.length - (intOf i).toNat)
 case atStart => exact ⟨0, Nat.zero_le _, rfl, noneB_zero _ _⟩
 case round =>
  obtain ⟨k, hk, rfl, hne⟩ := hrel
  have HNE := Lib.hid hne
  clear hne
  by_cases hkl : k < xs.length
  ·obtain ⟨b, o, rfl, hb, hce⟩ := hcell (by omega)
   have e0 := (hce k hkl).2
   clear hcell hce
   cases he : (n == xs[k])
   ·have HN := Lib.hid (noneB_succ (p := fun a => n == a) hkl HNE.out he)
    go_wp2_with fail
    go_round
    case rel => exact ⟨k + 1, by omega, by go_num, HN.out⟩
    case measure => simp [intOf]; omega
   ·have HN := Lib.hid (firstI_at (p := fun a => n == a) hkl HNE.out he)
    go_wp2_with fail
    go_ret
    exact ⟨ret_int HN.out.symm, rfl⟩
  ·obtain rfl : k = xs.length := by omega
   have HN : Hid (firstI (fun a => n == a) xs = -1) := firstI_none (by have := HNE.out; rwa [List.take_length] at this)
   clear hcell
   go_wp2_with fail
   go_ret
   exact ⟨ret_int HN.out.symm, rfl⟩
theorem ContainsI_any (w : World) {v : Value} {xs : List Int} (h : intsT.Rd w [v] xs) (n : Int) :
  Calls Tryz.prog 139 #[v, .int .i64 n] w fun e w' => e = .returned (.bool (hasI xs n)) ∧ w = w' := by
 have HX := Lib.hid h
 have HF := Lib.hid (hasI_first (xs := xs) (n := n))
 clear h
 go_enter Tryz.func139, Tryz.ntmps139
 go_wp2_with fail
 refine (IndexI_any _ HX.out n).mono ?_
 rintro e _ ⟨rfl, rfl⟩
 go_wp2_with fail
 go_ret
 exact ⟨ret_bool HF.out, rfl⟩
end Go.Proofs.YtggelmbnliajeaaGreatDoor
namespace Go.Proofs.YtggelmbnliajeaaGreatDoor
open Go.RowKit Go.Sort
end Go.Proofs.YtggelmbnliajeaaGreatDoor
namespace Go.Proofs.YtggelmbnliajeaaGreatDoor
open Go.RowKit Go.Sort
/-- the values of a tuple at the places of two variables are right, as far as place n -/
def okR (sc tu : List Int) (i j a b : Int) (q : Nat) : Prop := (sc.getD q 0 = i → tu.getD q 0 = a) ∧ (sc.getD q 0 = j → tu.getD q 0 = b)
def okTo (sc tu : List Int) (i j a b : Int) (n : Nat) : Prop := ∀ q, q < n → okR sc tu i j a b q
def okT (sc tu : List Int) (i j a b : Int) : Prop := okTo sc tu i j a b sc.length ∧ agTo sc tu sc.length
end Go.Proofs.YtggelmbnliajeaaGreatDoor
namespace Go.Proofs.YtggelmbnliajeaaGreatDoor
open Go.RowKit Go.Sort
theorem Bl.own_lt {α : Type} {E : Ty α} {e base top : Nat} {w : World} {v : Value} {ys : List α} (h : Bl E e base top w v ys) {g : Nat} (hg : v.ownBlock = some g) : g < top := by
 obtain ⟨L, fps, _, _, _, _, h5, _⟩ := h
 exact h5 g hg
theorem Bl.own_ne {α : Type} {E : Ty α} {e base top : Nat} {w : World} {v : Value} {ys : List α} (h : Bl E e base top w v ys) {b : Nat} (hb : top ≤ b) : v.ownBlock ≠ some b := fun hg => by have := h.own_lt hg; omega
end Go.Proofs.YtggelmbnliajeaaGreatDoor
namespace Go.Proofs.YtggelmbnliajeaaGreatDoor
open Go.RowKit Go.Sort
end Go.Proofs.YtggelmbnliajeaaGreatDoor
namespace Go.Proofs.YtggelmbnliajeaaGreatDoor
open Go.RowKit Go.Sort
end Go.Proofs.YtggelmbnliajeaaGreatDoor
namespace Go.Proofs.YtggelmbnliajeaaGreatDoor
open Go.RowKit

/-- a predicate of a value, told which block is the box -/
abbrev OP := Option Nat → VP
inductive Tag | plain | alloc | store
 deriving DecidableEq

/-- all blocks but one are as before -/
structure Bx (b : Nat) (w w' : World) : Prop where
 os : w'.os = w.os
 tape : w'.tape = w.tape
 output : w'.output = w.output
 size : w.heap.size ≤ w'.heap.size
 block : ∀ k, k < w.heap.size → k ≠ b → w'.heap[k]? = w.heap[k]?
 cells : ∀ j, (∃ u, w.cell? ⟨b, j, none⟩ = some u) → ∃ u, w'.cell? ⟨b, j, none⟩ = some u
 frozen : ∀ j, w'.frozen? ⟨b, j, none⟩ = w.frozen? ⟨b, j, none⟩
theorem Bx.setCell (b o : Nat) (w : World) (u : Value) : Bx b w (w.setCell ⟨b, o, none⟩ u) :=
 ⟨rfl, rfl, rfl, by simp [World.setCell], fun k _ hk => Below.heap_setCell _ _ _ _ hk, fun _ ⟨_, h⟩ => cell?_setCell_some h, fun _ => World.frozen?_setCell _ _ _ _⟩
theorem Bx.trans {b : Nat} {w w' w'' : World} (h : Bx b w w') (k : Bx b w' w'') : Bx b w w'' :=
 ⟨k.os.trans h.os, k.tape.trans h.tape, k.output.trans h.output, Nat.le_trans h.size k.size, fun i hi hb => (k.block i (Nat.lt_of_lt_of_le hi h.size) hb).trans (h.block i hi hb), fun j hj => k.cells j (h.cells j hj), fun j => (k.frozen j).trans (h.frozen j)⟩
theorem Bx.refl (b : Nat) (w : World) : Bx b w w := ⟨rfl, rfl, rfl, Nat.le_refl _, fun _ _ _ => rfl, fun _ h => h, fun _ => rfl⟩

/-- what an operation of a kind may do -/
def StepT : Tag → Option Nat → World → Option Nat → World → Prop
 | .plain, o, w, o', w' => o' = o ∧ Below w.heap.size w w'
 | .alloc, _, w, o', w' => o' = some w.heap.size ∧ w.heap.size < w'.heap.size ∧ Below w.heap.size w w'
 | .store, o, w, o', w' => ∃ b, o = some b ∧ o' = some b ∧ Bx b w w'

/-- predicates that outlast new memory, and the box's being made -/
def StabO (Φ : OP) : Prop := (∀ o v w1 w2, Φ o v w1 → Below w1.heap.size w1 w2 → Φ o v w2) ∧ (∀ v w1 w2, Φ none v w1 → Below w1.heap.size w1 w2 → Φ (some w1.heap.size) v w2)
/-- .. and a store into the box -/
def StabS (Φ : OP) : Prop := ∀ b v w1 w2, Φ (some b) v w1 → Bx b w1 w2 → Φ (some b) v w2
def Indep (Φ : OP) : Prop := ∀ o v v' w, Φ o v w → Φ o v' w
def StG : Tag → OP → Prop
 | .store, Φ => StabO Φ ∧ Indep Φ
 | _, Φ => StabO Φ ∧ StabS Φ
def SAll2 : List (Tag × OP) → Prop
 | Φ :: Φs => StG Φ.1 Φ.2 ∧ SAll2 Φs
 | [] => True
theorem SAll2_mem : ∀ {Φs : List (Tag × OP)}, SAll2 Φs → ∀ Φ ∈ Φs, StG Φ.1 Φ.2
 | _ :: _, h, Φ, hm => by
  rcases List.mem_cons.1 hm with rfl | hm
  ·exact h.1
  ·exact SAll2_mem h.2 Φ hm
theorem StG.o {g : Tag} {Φ : OP} (h : StG g Φ) : StabO Φ := by cases g <;> exact h.1
theorem StG.s {g : Tag} {Φ : OP} (h : StG g Φ) (hg : g ≠ .store) : StabS Φ := by
 cases g
 ·exact h.2
 ·exact h.2
 ·exact absurd rfl hg

def oneTag (g : Tag) : List Tag → Bool
 | [] => true
 | x :: r => if x = g then r.all (fun y => decide (y ≠ g)) else oneTag g r
theorem oneTag_spec {g : Tag} : ∀ {l : List Tag}, oneTag g l = true → ∀ i j : Nat, l[i]? = some g → l[j]? = some g → i = j
 | [], _, i, j, h, _ => by simp at h
 | x :: r, h, i, j, hi, hj => by
  unfold oneTag at h
  split at h
  ·rename_i hx
   have hno : ∀ k : Nat, r[k]? = some g → False := fun k hk => by
    have := List.all_eq_true.1 h g (List.mem_of_getElem? hk)
    simp at this
   match i, j with
   | 0, 0 => rfl
   | 0, j + 1 => exact (hno j (by simpa using hj)).elim
   | i + 1, _ => exact (hno i (by simpa using hi)).elim
  ·rename_i hx
   match i, j with
   | 0, _ => simp at hi; exact absurd hi hx
   | _ + 1, 0 => simp at hj; exact absurd hj hx
   | i + 1, j + 1 => rw [oneTag_spec h i j (by simpa using hi) (by simpa using hj)]
/-- what holds of the region's form -/
def boxB (l : List Oper) (gs : List Tag) (n : Nat) : Bool :=
 looseB l n && oneTag .alloc gs && oneTag .store gs && (l.zip gs).all (fun x => x.1.dst.isSome || decide (x.2 = .store))

/-- the value that an operation left, undef if it names no slot -/
def valD (a : Act) (q : Oper) : Value := match q.dst with | some d => a.eval (.tmp d) | none => undef

/-- where the region stands -/
structure BInv (l : List Oper) (Φs : List (Tag × OP)) (a : Act) (w : World) (listed : Array Bool) (a' : Act) (w' : World) (b : Option Nat) : Prop where
 below : Below w.heap.size w w'
 size : listed.size = l.length
 defers : a'.defers = a.defers
 tsize : a'.tmps.size = a.tmps.size
 old : ∀ t, (∀ (j : Nat) (o : Oper), l[j]? = some o → o.dst = some t → listed.getD j false = false) → a'.tmps[t]? = a.tmps[t]?
 new : ∀ (j : Nat) (o : Oper) (Φ : Tag × OP), l[j]? = some o → Φs[j]? = some Φ → listed.getD j false = true → Φ.2 b (valD a' o) w'
 box : ∀ k, b = some k → w.heap.size ≤ k ∧ k < w'.heap.size
 nob : ∀ (j : Nat) (Φ : Tag × OP), Φs[j]? = some Φ → Φ.1 = .alloc → listed.getD j false = false → b = none

theorem getD_set_self {listed : Array Bool} {i : Nat} (h : i < listed.size) : (listed.setIfInBounds i true).getD i false = true := by
 rw [Array.getD_eq_getD_getElem?, Array.getElem?_setIfInBounds_self_of_lt h]; rfl

theorem tag_get {Φs : List (Tag × OP)} {i : Nat} {Φ : Tag × OP} (h : Φs[i]? = some Φ) : (Φs.map Prod.fst)[i]? = some Φ.1 := by simp [h]

theorem boxB_spec {l : List Oper} {gs : List Tag} {n : Nat} (h : boxB l gs n = true) :
  looseB l n = true ∧ (∀ i j : Nat, gs[i]? = some Tag.alloc → gs[j]? = some Tag.alloc → i = j) ∧ (∀ i j : Nat, gs[i]? = some Tag.store → gs[j]? = some Tag.store → i = j) ∧
   ∀ (i : Nat) (q : Oper) (g : Tag), l[i]? = some q → gs[i]? = some g → q.dst = none → g = .store := by
 simp only [boxB, Bool.and_eq_true] at h
 obtain ⟨⟨⟨h1, h2⟩, h3⟩, h4⟩ := h
 refine ⟨h1, oneTag_spec h2, oneTag_spec h3, fun i q g hq hg hd => ?_⟩
 have hm : (q, g) ∈ l.zip gs := by
  apply List.mem_of_getElem? (i := i)
  rw [List.getElem?_zip_eq_some]
  exact ⟨hq, hg⟩
 have := List.all_eq_true.1 h4 _ hm
 simpa [hd] using this

theorem StepT.below {g : Tag} {w w' w'' : World} {o o' : Option Nat} (h : StepT g o w' o' w'') (hb : Below w.heap.size w w') (hk : ∀ k, o = some k → w.heap.size ≤ k ∧ k < w'.heap.size) : Below w.heap.size w w'' ∧ ∀ k, o' = some k → w.heap.size ≤ k ∧ k < w''.heap.size := by
 cases g with
 | plain =>
  obtain ⟨rfl, h⟩ := h
  exact ⟨bthen hb h, fun k he => ⟨(hk k he).1, Nat.lt_of_lt_of_le (hk k he).2 h.size⟩⟩
 | alloc =>
  obtain ⟨rfl, hs, h⟩ := h
  exact ⟨bthen hb h, fun k he => by simp at he; subst he; exact ⟨hb.size, hs⟩⟩
 | store =>
  obtain ⟨b, rfl, rfl, h⟩ := h
  have := hk b rfl
  exact ⟨hb.trans ⟨h.os, h.tape, h.output, h.size, fun k hlt => h.block k (Nat.lt_of_lt_of_le hlt hb.size) (by omega)⟩, fun k he => by simp at he; subst he; exact ⟨this.1, Nat.lt_of_lt_of_le this.2 h.size⟩⟩

theorem BInv.step {l : List Oper} {Φs : List (Tag × OP)} {a : Act} {w : World} {listed : Array Bool} {a' : Act} {w' w'' : World} {b b' : Option Nat} (hB : boxB l (Φs.map Prod.fst) a.tmps.size = true)
  (hst : SAll2 Φs) (h : BInv l Φs a w listed a' w' b) {i : Nat} {o : Oper} {Φ : Tag × OP} (hi : l[i]? = some o) (hΦ : Φs[i]? = some Φ) (hni : listed.getD i true = false) {v : Value} (hs : StepT Φ.1 b w' b' w'') (hv : Φ.2 b' v w'') :
  BInv l Φs a w (listed.setIfInBounds i true) (a'.put o.dst v) w'' b' := by
 have hlt : i < listed.size := by rw [h.size]; exact (List.getElem?_eq_some_iff.1 hi).1
 obtain ⟨hL, hone, hone', hdst⟩ := boxB_spec hB
 obtain ⟨_, _, hdn, hall⟩ := looseB_spec hL hi
 obtain ⟨hb1, hb2⟩ := hs.below h.below h.box
 refine ⟨hb1, by simpa using h.size, put_defers.trans h.defers, put_size.trans h.tsize, fun t ht => ?_, fun j q Ψ hj hΨ hl => ?_, hb2, fun j Ψ hΨ hg hl => ?_⟩
 ·have hne : o.dst ≠ some t := fun e => by
   have := ht i o hi e
   rw [getD_set_self hlt] at this
   cases this
  rw [put_other hne]
  refine h.old t fun j q hj hd => ?_
  have := ht j q hj hd
  by_cases e : i = j
  ·subst e; rw [getD_set_self hlt] at this; cases this
  ·rwa [getD_set_ne false e] at this
 ·by_cases e : i = j
  ·subst e
   rw [hi] at hj
   cases hj
   rw [hΦ] at hΨ
   cases hΨ
   cases hd : o.dst with
   | none =>
    have hg := hdst i o Φ.1 hi (tag_get hΦ) hd
    have hS := SAll2_mem hst Φ (List.mem_of_getElem? hΦ)
    rw [hg] at hS
    exact hS.2 _ v _ _ hv
   | some d =>
    simp only [valD, hd]
    rw [eval_put_self (by rw [h.tsize]; exact hdn d hd)]
    exact hv
  ·rw [getD_set_ne false e] at hl
   have hnew := h.new j q Ψ hj hΨ hl
   have hval : valD (a'.put o.dst v) q = valD a' q := by
    cases hd : q.dst with
    | none => simp [valD, hd]
    | some d => simp only [valD, hd]; exact eval_put_ne ((hall j q d hj hd).2 e)
   rw [hval]
   have hS := SAll2_mem hst Ψ (List.mem_of_getElem? hΨ)
   cases hg : Φ.1 with
   | plain =>
    rw [hg] at hs
    obtain ⟨rfl, hs⟩ := hs
    exact hS.o.1 _ _ _ _ hnew hs
   | alloc =>
    have hbn : b = none := h.nob i Φ hΦ hg (by
     rw [Array.getD_eq_getD_getElem?, Array.getElem?_eq_getElem hlt] at hni ⊢
     exact hni)
    rw [hg] at hs
    obtain ⟨rfl, _, hs⟩ := hs
    subst hbn
    exact hS.o.2 _ _ _ hnew hs
   | store =>
    rw [hg] at hs
    obtain ⟨k, rfl, rfl, hs⟩ := hs
    refine hS.s (fun hg' => e (hone' i j ?_ ?_)) _ _ _ _ hnew hs
    ·rw [← hg]; exact tag_get hΦ
    ·rw [← hg']; exact tag_get hΨ
 ·by_cases e : i = j
  ·subst e; rw [getD_set_self hlt] at hl; cases hl
  ·rw [getD_set_ne false e] at hl
   have hbn := h.nob j Ψ hΨ hg hl
   cases hg2 : Φ.1 with
   | plain => rw [hg2] at hs; obtain ⟨rfl, _⟩ := hs; exact hbn
   | alloc =>
    exfalso
    refine e (hone i j ?_ ?_)
    ·rw [← hg2]; exact tag_get hΦ
    ·rw [← hg]; exact tag_get hΨ
   | store => rw [hg2] at hs; obtain ⟨k, rfl, _⟩ := hs; cases hbn

def rdSO {α : Type} (E : Ty α) (x : α) : OP := fun o v W => ∃ fp, E.rd W [v] x fp ∧ ∀ k ∈ fp, o ≠ some k
theorem Bx.same {b : Nat} {w w' : World} {fp : List Nat} (h : Bx b w w') (hl : ∀ k ∈ fp, k < w.heap.size) (hn : ∀ k ∈ fp, (some b : Option Nat) ≠ some k) : Same fp w w' := fun k hk => h.block k (hl k hk) fun e => hn k hk (by rw [e])
theorem rdSO.rd {α : Type} {E : Ty α} {x : α} {W : World} {u : Value} {o : Option Nat} (h : rdSO E x o u W) : E.Rd W [u] x := let ⟨fp, h, _⟩ := h; ⟨fp, h⟩
end Go.Proofs.YtggelmbnliajeaaGreatDoor
namespace Go.Proofs.YtggelmbnliajeaaGreatDoor
open Go.RowKit Go.Sort
end Go.Proofs.YtggelmbnliajeaaGreatDoor
namespace Go.Proofs.YtggelmbnliajeaaGreatDoor
open Go.RowKit Go.Sort
end Go.Proofs.YtggelmbnliajeaaGreatDoor
namespace Go.Proofs.YtggelmbnliajeaaGreatDoor
open Go.RowKit Go.Sort
end Go.Proofs.YtggelmbnliajeaaGreatDoor
namespace Go.Proofs.YtggelmbnliajeaaGreatDoor
open Go.RowKit Go.Sort
end Go.Proofs.YtggelmbnliajeaaGreatDoor
namespace Go.Proofs.YtggelmbnliajeaaGreatDoor
open Go.RowKit Go.Sort
end Go.Proofs.YtggelmbnliajeaaGreatDoor
namespace Go.Proofs.YtggelmbnliajeaaGreatDoor
open Go.RowKit Go.Sort
section
variable {t : Tpl} {ar k : Int}
end
end Go.Proofs.YtggelmbnliajeaaGreatDoor
namespace Go.Proofs.YtggelmbnliajeaaGreatDoor
open Go.RowKit Go.Sort
section
variable {t : Tpl} {ar : Int} {ls : List (List Int)} {vs f : List Int}
end
end Go.Proofs.YtggelmbnliajeaaGreatDoor
