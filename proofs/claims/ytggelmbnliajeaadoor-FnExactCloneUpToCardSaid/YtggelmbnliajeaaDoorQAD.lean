/-
Contracts: how many lists a finder looks at; the code of a template and an arity; polymorphisms counted, the program's.
 Contracts: the reference's search for operations, begun. (The orders of its region are printed by gen_bg.py.)
 Contracts: polymorphisms counted, the reference's; whether there is but one, both sides.
 Contracts: whether there is but one polymorphism of one place, both sides.
 Contracts: the operations that a search finds, listed: the program's listener, and the reference's.
Contracts: whether an operation breaks a relation, the program's.
Contracts: whether an operation is a polymorphism, both sides.
Contracts: the relation of all tuples for which something is so.
Plain mathematics: lists of digits in order; the tuples of a relation made by number are in order.
Plain: the operations that a search lists are those that keep a template; how many are counted; projections and compositions keep what is kept. No program is named here.
Choices from bytes: what the source of choices is; its contracts say what a choice's bounds are, not which one it is.
Choices from bytes: a drawn relation, a drawn template.
Choices from bytes: a drawn template.
Choices from bytes: a drawn template of few tuples.
Choices from bytes: a drawn template by its bytes; a projection.
Choices from bytes: a drawn operation.
An operation drawn from its bytes; whether operations, and lists of them, are the same.
Contracts: the operation of a function of lists; projections, checked.
Contracts: a projection, checked.
Contracts: compositions of operations.
Contracts: compositions of operations, checked.
Contracts: whether the atoms that are due hold.
Contracts: the search, told to a listener.
Contracts: a search's own data, made.
Contracts: a search for an instance; the first values.
Contracts: full domains.
Contracts: the solutions of an instance, counted, listed, the first; the program's.
Contracts: the solutions of an instance, the reference's.
Contracts: the first values for which all atoms hold, the reference's.
Contracts: whether a formula holds at a tuple, and where; both sides.
Contracts: the value of a formula, both sides.
Contracts: placing a formula: the program's.
Contracts: the formula of an instance, both sides.
The law of an append of a whole row: 'append(a, b...)', where b is new data. No program is named here.
Contracts: the conjunction of two formulas.
Plain mathematics: the tuples of a relation made by number are in order; where two values of formulas are apart.
Contracts: the value of a formula with its code, both sides.
Contracts: a template in new memory; a template extended by a formula: plain parts, the program's copies.
Contracts: a set of tuples with its size and arity: made of a relation, a tuple put into it, its relation.
Contracts: the relation of a set.
Contracts: the program's search, for any listener that leans on what the operations that it is told are.
Contracts: values that are told to a search.
Plain: a polymorphism with given values. No program is named here.
Contracts: the first operation that a search finds.
Contracts: the first operation that a search finds for which a test is true, whatever the test.
Contracts: the first operation that a search finds for which a test is true: the function itself.
Contracts: the first polymorphism with given values, the program's.
Contracts: a polymorphism with given values, the program's.
Contracts: a polymorphism with given values, the program's, whole.
The library's contracts, laid at this seat's program. Written by the kit's lay-shelf and lay-plain: its numbers hold for that seat alone (shelf2.py).
The kinds of operations, in plain words; symmetric by sorting, and by swapping neighbours.
Contracts: slices.Sort and slices.Compact on new rows of numbers; the different numbers of a row.
Contracts: something of all lists; whether an operation is symmetric, the program's.
Contracts: a row of one number so many times (slices.Repeat), whatever the number: the text of F6, turned.
Contracts: whether a tuple has equal values for places with the same variable.
Contracts: whether a number is one of a list's; whether a constraint leaves values of two variables.
Contracts: the program's tests of a kind: idempotent, conservative; the different numbers of a row.
Contracts: whether a constraint leaves values of two variables, the program's.
Contracts: the pairs that constraints tell, the program's.
Contracts: the pairs that constraints tell, the reference's.
Contracts: the pairs that constraints tell, all of them.
A region that draws its order and holds one alloc and one store into it besides loads and calls that make new memory: one account serves every order. The box's block is a ghost. No program is named here.
Contracts: the program's tests of a kind that build lists: associative; three orders of two values and a third.
Contracts: sameness of formulas and instances, in the program and in the reference.
Contracts: whether an operation is of a kind, the program's.
Contracts: whether an operation is of a kind, the program's, kind by kind.
Contracts: whether an operation is of a kind, the program's: projections, semilattices; whole.
Contracts: the first polymorphism of a kind, the program's.
Contracts: a polymorphism with given values, the reference's.
Plain: the first operation of a kind, and the first one with a value at a list, in the list of all.
Plain: FirstPolymorphism and PolymorphismWith against the list of all operations.
Plain: when a polymorphism with given values is found: when there is one.
Contracts: a polymorphism with given values, the reference's, whole.
Plain: how great an operation with given values is.
Contracts: the lists of the values of tuples at all places, both sides.
Contracts: the code of tuples of which there may be a hull, both sides.
Some rows of new data that now stand in a newer row: it is new data, too. No program is named here.
The hull of tuples: what it is; the relation of all tuples; contracts: the reference's hull.
Contracts: the hull of tuples, the reference's.
Contracts: the hull of tuples, the program's.
Contracts: the hull of tuples, whole, both sides.
Contracts: the laws' own small functions on bytes; plain facts on the operations that are found.
Plain: the hull of tuples: what polymorphisms make of them.
Plain: the hull is a relation, and operations that keep the template keep it.
Contracts: whether two relations are the same, the reference's.
Contracts: the hull of a relation; whether a relation is definable; both sides.
Contracts: whether a relation is definable, both sides.
Contracts: an operation that breaks a relation, the program's.
Contracts: tuples drawn from bytes; an operation applied; the kind of an operation, checked.
Plain: the index of the first one of a kind, of the first one with a value; one number, just made.
Plain: whether a relation is its own hull, and the operation that breaks it where it is not.
-/
import Derived.Test.YtggelmbnliajeaaDoorQAC
import Derived.Test.YtggelmbnliajeaaDoorQAA
import Derived.Test.YtggelmbnliajeaaDoorQAB
import Derived.Deep.CutRange
namespace Go.Proofs.YtggelmbnliajeaaDoor
open Go.RowKit Go.Sort
section
variable {t : Tpl} {ar : Int}
end
theorem IR.fp {e base : Nat} {w : World} {g n cap : Nat} {L : List Int} (_h : IR e base w g n cap L) {fp : List Nat} (h2 : intsT.rd w [.slice (some ⟨g, 0, none⟩) n cap] L fp) : ∀ k ∈ fp, k = g := fun k hk => by
 obtain ⟨ad, cap', hv, -, -, h3⟩ := h2
 rcases h3 with ⟨_, rfl⟩ | ⟨_, b, o, fps, rfl, _, rfl, h4⟩
 ·cases hk
 ·simp only [List.cons.injEq, Value.slice.injEq, Option.some.injEq, Addr.mk.injEq, and_true] at hv
  obtain ⟨⟨rfl, rfl⟩, -, -⟩ := hv
  rcases List.mem_cons.1 hk with rfl | hk
  ·rfl
  ·obtain ⟨i, hi, hk⟩ := List.mem_flatMap.1 hk
   obtain ⟨cs, ⟨_, _, hf⟩, _⟩ := h4 i (by simpa using hi)
   rw [hf] at hk
   cases hk
section
variable {t : Tpl} {ar : Int}
end
/-- what the listener keeps: a slice at block bx, of operations in blocks of its own -/
def outF (ar : Int) (bx base : Nat) (told : List (List Int)) (O : Nat → Prop) (w : World) : Prop :=
 (∀ k, O k → k < w.heap.size ∧ base ≤ k) ∧ O bx ∧ w.frozen? ⟨bx, 0, none⟩ = false ∧ ∃ v, w.cell? ⟨bx, 0, none⟩ = some v ∧ (∀ g, v.ownBlock = some g → O g ∧ g ≠ bx) ∧ Bl (opT.on fun k => O k ∧ k ≠ bx) 39 base w.heap.size w v ((told.take 64).map fun x => (ar, x))
theorem outF.stable {ar : Int} {bx base : Nat} {told : List (List Int)} {O : Nat → Prop} {w w' : World} (h : outF ar bx base told O w) (hs : ∀ k, k < w.heap.size → O k → w'.heap[k]? = w.heap[k]?) (hz : w.heap.size ≤ w'.heap.size) : outF ar bx base told O w' := by
 obtain ⟨h1, h2, h3, v, h4, h5, h6⟩ := h
 have hb := hs bx (h1 bx h2).1 h2
 exact ⟨fun k hk => ⟨Nat.lt_of_lt_of_le (h1 k hk).1 hz, (h1 k hk).2⟩, h2, (World.frozen?_of_block (a := ⟨bx, 0, none⟩) hb).trans h3, v, (World.cell?_of_block (a := ⟨bx, 0, none⟩) hb).trans h4, h5, (on_same h6 h5 (fun k hk ho => hs k hk ho.1)).mono hz⟩
theorem rdP_lt {α : Type} {E : Ty α} {ok : Nat → Prop} {w : World} {cs : List Value} {x : α} (h : E.RdP ok w cs x) : E.RdP (fun k => ok k ∧ k < w.heap.size) w cs x := let ⟨fp, h1, h2⟩ := h; ⟨fp, h1, fun k hk => ⟨h2 k hk, E.lt h1 k hk⟩⟩
theorem Ru.lt {ok : Nat → Prop} {w : World} {br : Nat} {t : Tpl} {ar : Int} {due : List (List (Int × List Int))} {fx : List Int} (h : Ru ok w br t ar due fx) : Ru (fun k => ok k ∧ k < w.heap.size) w br t ar due fx := by
 obtain ⟨h1, tb, tq, v2, v3, v4, c0, ht, hk, ct, c1, c2, c3, c4, h3, h4, h5⟩ := h
 exact ⟨h1, tb, tq, v2, v3, v4, c0, ht, ⟨hk, ht⟩, ct, c1, c2, c3, c4, rdP_lt h3, rdP_lt h4, rdP_lt h5⟩
end Go.Proofs.YtggelmbnliajeaaDoor
namespace Go.Proofs.YtggelmbnliajeaaDoor
open Go.RowKit Go.Sort
/-- what broken hands back: nil in the second place just if the relation is kept -/
def BrkR (b : Bool) (e : Ending) : Prop := ∃ a o m, e = .returned (.tuple #[a, .slice o m m]) ∧ (b = true → o = none ∧ m = 0) ∧ (b = false → ∃ g : Nat, o = some ⟨g, 0, none⟩)
theorem BrkR.yes {b : Bool} {a : Value} (h : b = true) : BrkR b (.returned (.tuple #[a, .slice none 0 0])) := ⟨a, none, 0, rfl, fun _ => ⟨rfl, rfl⟩, (fun h' => by rw [h] at h'; cases h')⟩
theorem BrkR.no {b : Bool} {a : Value} {g m : Nat} (h : b = false) : BrkR b (.returned (.tuple #[a, .slice (some ⟨g, 0, none⟩) m m])) := ⟨a, _, m, rfl, (fun h' => by rw [h] at h'; cases h'), fun _ => ⟨g, rfl⟩⟩
theorem fr_block {α : Type} {E : Ty α} {base : Nat} {w : World} {b o n cap : Nat} {xs : List α} (h : (Ty.slice E).Fr base w [.slice (some ⟨b, o, none⟩) n cap] xs) (h0 : 0 < xs.length) : base ≤ b := by
 obtain ⟨fp, ⟨ad, c, hv, -, -, h3⟩, -, h4, -⟩ := h
 rcases h3 with ⟨h3, _⟩ | ⟨_, b', o', fps, rfl, _, rfl, _⟩
 ·omega
 ·simp only [List.cons.injEq, Value.slice.injEq, Option.some.injEq, Addr.mk.injEq, and_true] at hv
  rw [hv.1.1]
  exact h4 b' (List.mem_cons_self ..)
end Go.Proofs.YtggelmbnliajeaaDoor
namespace Go.Proofs.YtggelmbnliajeaaDoor
open Go.RowKit Go.Sort
end Go.Proofs.YtggelmbnliajeaaDoor
namespace Go.Proofs.YtggelmbnliajeaaDoor
open Go.RowKit Go.Sort
end Go.Proofs.YtggelmbnliajeaaDoor
namespace Go.Proofs.YtggelmbnliajeaaDoor
open Go.RowKit Go.Sort
theorem dig_idx {s idx : Int} {n : Nat} (hs : 1 ≤ s) (h0 : 0 ≤ idx) (h : idx < s ^ n) : ∀ k, k ≤ n → idxL s 0 ((digL s idx n).take k) = idx / s ^ (n - k)
 | 0, _ => by
  rw [List.take_zero, Nat.sub_zero, Int.ediv_eq_zero_of_lt h0 h]
  rfl
 | k + 1, hk => by
  have hl : k < (digL s idx n).length := by rw [digL_len]; omega
  rw [idxL_take hl, dig_idx hs h0 h k (by omega)]
  have hg : (digL s idx n)[k] = dig s idx (n - 1 - k) := by simp [digL]
  rw [hg, show n - k = (n - (k + 1)) + 1 by omega, show n - 1 - k = n - (k + 1) by omega, ← quo_succ hs]
  unfold dig
  have h1 := Int.ediv_mul_add_emod (idx / s ^ (n - (k + 1))) s
  exact h1
theorem digL_in {s idx : Int} {n : Nat} (hs : 1 ≤ s) : ∀ a ∈ digL s idx n, 0 ≤ a ∧ a ≤ s - 1 := fun a ha => by
 obtain ⟨i, -, rfl⟩ := List.mem_map.1 ha
 have := dig_nn (idx := idx) hs (n - 1 - i)
 omega
theorem idx_mono {s : Int} (hs : 1 ≤ s) : ∀ {xs ys : List Int} {a b : Int}, xs.length = ys.length → (∀ x ∈ xs, 0 ≤ x ∧ x ≤ s - 1) → (∀ y ∈ ys, 0 ≤ y ∧ y ≤ s - 1) → a < b → idxL s a xs < idxL s b ys
 | [], [], _, _, _, _, _, h => h
 | [], _ :: _, _, _, hl, _, _, _ => by simp at hl
 | _ :: _, [], _, _, hl, _, _, _ => by simp at hl
 | x :: xs, y :: ys, a, b, hl, hx, hy, h => by
  simp only [idxL]
  refine idx_mono hs (by simpa using hl) (fun z hz => hx z (List.mem_cons_of_mem _ hz)) (fun z hz => hy z (List.mem_cons_of_mem _ hz)) ?_
  have h1 := hx x (List.mem_cons_self ..)
  have h2 := hy y (List.mem_cons_self ..)
  have h3 := Int.mul_le_mul_of_nonneg_right (show a + 1 ≤ b by omega) (show (0 : Int) ≤ s by omega)
  rw [Int.add_mul, Int.one_mul] at h3
  omega
theorem lt_of_idx {s : Int} (hs : 1 ≤ s) : ∀ {xs ys : List Int} {a : Int}, xs.length = ys.length → (∀ x ∈ xs, 0 ≤ x ∧ x ≤ s - 1) → (∀ y ∈ ys, 0 ≤ y ∧ y ≤ s - 1) → idxL s a xs < idxL s a ys → ltL xs ys
 | [], [], _, _, _, _, h => absurd h (Int.lt_irrefl _)
 | [], _ :: _, _, hl, _, _, _ => by simp at hl
 | _ :: _, [], _, hl, _, _, _ => by simp at hl
 | x :: xs, y :: ys, a, hl, hx, hy, h => by
  simp only [idxL] at h
  have hx' := fun z hz => hx z (List.mem_cons_of_mem x hz)
  have hy' := fun z hz => hy z (List.mem_cons_of_mem y hz)
  unfold ltL
  rcases Int.lt_trichotomy x y with hc | hc | hc
  ·rw [cmpL, if_neg (by omega), cmpI_lt hc]
   decide
  ·subst hc
   rw [cmpL, if_pos rfl]
   exact lt_of_idx hs (by simpa using hl) hx' hy' h
  ·have := idx_mono hs (a := a * s + y) (b := a * s + x) (show ys.length = xs.length by simpa using hl.symm) hy' hx' (by omega)
   omega
theorem dig_lt {s : Int} {n : Nat} {k j : Int} (hs : 1 ≤ s) (h0 : 0 ≤ k) (h : k < j) (hj : j < s ^ n) : ltL (digL s k n) (digL s j n) := by
 refine lt_of_idx hs (a := 0) (by rw [digL_len, digL_len]) (digL_in hs) (digL_in hs) ?_
 have h1 := dig_idx (n := n) hs h0 (by omega) n (Nat.le_refl _)
 have h2 := dig_idx (n := n) hs (show 0 ≤ j by omega) hj n (Nat.le_refl _)
 rw [Nat.sub_self, Int.pow_zero, Int.ediv_one, List.take_of_length_le (by rw [digL_len]; exact Nat.le_refl _)] at h1 h2
 rw [h1, h2]
 exact h
end Go.Proofs.YtggelmbnliajeaaDoor
namespace Go.Proofs.YtggelmbnliajeaaDoor
open Go.RowKit Go.Sort
/-- the value of an operation -/
def opV (s : Int) (tab xs : List Int) : Int := tab.getD (idxL s 0 xs).toNat 0
/-- the table of a function of lists -/
def tabOf (s : Int) (ar N : Nat) (g : List Int → Int) : List Int := (List.range N).map fun i : Nat => g (digL s i ar)
theorem tabOf_len {s : Int} {ar N : Nat} {g : List Int → Int} : (tabOf s ar N g).length = N := by simp [tabOf]
theorem dig_of {s : Int} {ar : Nat} (hs : 1 ≤ s) {xs : List Int} (hl : xs.length = ar) (hx : ∀ a ∈ xs, 0 ≤ a ∧ a ≤ s - 1) : digL s (idxL s 0 xs) ar = xs := by
 have hb := idx_lt hs hl hx
 refine idxL_inj hs ar digL_len hl (digL_in hs) hx ?_
 have h1 := dig_idx (n := ar) hs hb.1 (by omega) ar (Nat.le_refl _)
 rw [Nat.sub_self, Int.pow_zero, Int.ediv_one, List.take_of_length_le (by rw [digL_len]; exact Nat.le_refl _)] at h1
 exact h1
theorem madeV_op {s : Int} {tab : List Int} {ts : List (List Int)} {p : Nat} : madeV s tab ts p = opV s tab (colL ts p) := rfl
/-- the projection to a place -/
def projT (s : Int) (ar N p : Nat) : List Int := tabOf s ar N fun xs => xs.getD p 0
/-- some tuples of a relation are picked by an index -/
theorem picks_some {ts L : List (List Int)} (h : ∀ x ∈ L, x ∈ ts) (h0 : 0 < ts.length) : ∃ j : Nat, (j : Int) < (ts.length : Int) ^ L.length ∧ picks ts L.length j = L := by
 obtain ⟨K, hK, hk⟩ : ∃ K : List Int, K.length = L.length ∧ ∀ i (h : i < K.length) (h' : i < L.length), 0 ≤ K[i] ∧ K[i] ≤ (ts.length : Int) - 1 ∧ ts.getD (K[i]).toNat [] = L[i] := by
  clear h0
  induction L with
  | nil => exact ⟨[], rfl, fun i h => by simp at h⟩
  | cons x L ih =>
   obtain ⟨K, hK, hk⟩ := ih fun y hy => h y (List.mem_cons_of_mem _ hy)
   obtain ⟨i, hi, hx⟩ := List.mem_iff_getElem.1 (h x (List.mem_cons_self ..))
   refine ⟨(i : Int) :: K, by simp [hK], fun q hq hq' => ?_⟩
   cases q with
   | zero =>
    refine ⟨by simp, by simp; omega, ?_⟩
    simp only [List.getElem_cons_zero, Int.toNat_natCast]
    rw [List.getD_eq_getElem?_getD, List.getElem?_eq_getElem hi]
    exact hx
   | succ q =>
    have := hk q (by simpa using hq) (by simpa using hq')
    simpa using this
 have hin : ∀ a ∈ K, 0 ≤ a ∧ a ≤ (ts.length : Int) - 1 := fun a ha => by
  obtain ⟨i, hi, rfl⟩ := List.mem_iff_getElem.1 ha
  have := hk i hi (by omega)
  exact ⟨this.1, this.2.1⟩
 have hb := idx_lt (s := (ts.length : Int)) (by omega) hK hin
 refine ⟨(idxL (ts.length : Int) 0 K).toNat, by omega, ?_⟩
 unfold picks
 rw [show (((idxL (ts.length : Int) 0 K).toNat : Nat) : Int) = idxL (ts.length : Int) 0 K by omega, dig_of (by omega) hK hin]
 refine List.ext_getElem (by simp [hK]) fun i hi hi' => ?_
 rw [List.getElem_map]
 exact (hk i (by omega) hi').2.2
end Go.Proofs.YtggelmbnliajeaaDoor
namespace Go.Proofs.YtggelmbnliajeaaDoor
open Go.RowKit Go.Sort
def Ty.byte : Ty Int where
 sz := 1
 rd := fun _ cs n fp => cs = [.int .u8 n] ∧ (0 ≤ n ∧ n ≤ 255) ∧ fp = []
 len := by rintro _ _ _ _ ⟨rfl, _, _⟩; rfl
 same := fun h _ => h
 lt := by rintro _ _ _ _ ⟨rfl, _, rfl⟩ k hk; cases hk
 one := by rintro _ _ _ _ ⟨rfl, _, _⟩ u hu; simp at hu; subst hu; rfl
abbrev bytesT := Ty.slice Ty.byte
/-- a source of choices at block sb, whose bytes lie below block B, read at most K times -/
def SrcR (sb B : Nat) (K : Int) (w : World) : Prop :=
 ∃ (v : Value) (code : List Int) (pos sd : Int), w.cell? ⟨sb, 0, none⟩ = some v ∧ bytesT.RdP (fun q => q < B) w [v] code ∧ w.cell? ⟨sb, 1, none⟩ = some (.int .i64 pos) ∧ 0 ≤ pos ∧ pos ≤ K ∧
  w.cell? ⟨sb, 2, none⟩ = some (.int .u64 sd) ∧ 0 ≤ sd ∧ sd ≤ 18446744073709551615 ∧ w.frozen? ⟨sb, 1, none⟩ = false ∧ w.frozen? ⟨sb, 2, none⟩ = false ∧ B ≤ sb
theorem SrcR.lt {sb B : Nat} {K : Int} {w : World} (h : SrcR sb B K w) : sb < w.heap.size := let ⟨_, _, _, _, h, _⟩ := h; cell_lt h
theorem SrcR.mono {sb B : Nat} {K K' : Int} {w : World} (h : SrcR sb B K w) (hk : K ≤ K') : SrcR sb B K' w :=
 let ⟨v, c, p, s, h1, h2, h3, h4, h5, h6⟩ := h; ⟨v, c, p, s, h1, h2, h3, h4, Int.le_trans h5 hk, h6⟩
theorem SrcR.tch {sb B : Nat} {K : Int} {w w' : World} {O : Nat → Prop} (h : SrcR sb B K w) (ht : TchP O w w') (hs : ¬ O sb) (hO : ∀ q, q < B → ¬ O q) : SrcR sb B K w' := by
 have hl := h.lt
 obtain ⟨v, c, p, s, h1, h2, h3, h4, h5, h6, h7, h8, h9, h10, h11⟩ := h
 exact ⟨v, c, p, s, (ht.cell hl hs).trans h1, h2.tchP ht (fun q _ hq => hO q hq), (ht.cell hl hs).trans h3, h4, h5, (ht.cell hl hs).trans h6, h7, h8, (ht.frozen hl hs).trans h9, (ht.frozen hl hs).trans h10, h11⟩
theorem SrcR.below {sb B : Nat} {K : Int} {w w' : World} (h : SrcR sb B K w) (hb : Below w.heap.size w w') : SrcR sb B K w' := h.tch (TchP.of_below hb (fun _ => False)) (fun h => h) (fun _ _ h => h)
end Go.Proofs.YtggelmbnliajeaaDoor
namespace Go.Proofs.YtggelmbnliajeaaDoor
open Go.RowKit Go.Sort
/-- tuples of some numbers below k, in order -/
def DrW (s : Int) (n k : Nat) (R : List (List Int)) : Prop := ∃ J : List Nat, R = J.map (fun i : Nat => digL s i n) ∧ J.Pairwise (· < ·) ∧ (∀ j ∈ J, j < k) ∧ J.length ≤ k
section
variable {s : Int} {n k : Nat} {R : List (List Int)}
theorem DrW.zero : DrW s n 0 [] := ⟨[], rfl, List.Pairwise.nil, by simp, Nat.zero_le _⟩
theorem DrW.no (h : DrW s n k R) : DrW s n (k + 1) R := let ⟨J, h1, h2, h3, h4⟩ := h; ⟨J, h1, h2, fun j hj => Nat.lt_succ_of_lt (h3 j hj), Nat.le_succ_of_le h4⟩
theorem DrW.yes (h : DrW s n k R) : DrW s n (k + 1) (R ++ [digL s k n]) := by
 obtain ⟨J, rfl, h2, h3, h4⟩ := h
 refine ⟨J ++ [k], by simp, List.pairwise_append.2 ⟨h2, List.pairwise_singleton _ _, fun a ha b hb => ?_⟩, fun j hj => ?_, by simp; omega⟩
 ·rw [List.mem_singleton.1 hb]; exact h3 a ha
 ·rcases List.mem_append.1 hj with hj | hj
  ·exact Nat.lt_succ_of_lt (h3 j hj)
  ·rw [List.mem_singleton.1 hj]; exact Nat.lt_succ_self _
theorem DrW.len (h : DrW s n k R) : R.length ≤ k := by obtain ⟨J, rfl, -, -, h4⟩ := h; simpa using h4
theorem DrW.ok (h : DrW s n k R) (hs : sizeOk s) (hn : 1 ≤ n ∧ n ≤ 4) (hk : (k : Int) ≤ s ^ n) : relOk s ((n : Int), R) := by
 obtain ⟨J, rfl, h2, h3, -⟩ := h
 have hs' := hs
 unfold sizeOk at hs'
 refine ⟨hs, ⟨by show (1 : Int) ≤ n; omega, by show (n : Int) ≤ 4; omega⟩, fun i hi => ?_⟩
 have hi' : i < J.length := by simpa using hi
 refine ⟨⟨by simp [digL_len], fun a ha => ?_⟩, fun h0 => ?_⟩
 ·have : a ∈ digL s ((J[i] : Nat) : Int) n := by simpa using ha
  exact digL_in (by omega) a this
 ·have h5 := (List.pairwise_iff_getElem.1 h2) (i - 1) i (by omega) hi' (by omega)
  have h6 := h3 _ (List.getElem_mem hi')
  show ltL ((J.map fun i : Nat => digL s i n)[i - 1]'(by simp; omega)) ((J.map fun i : Nat => digL s i n)[i]'hi)
  rw [List.getElem_map, List.getElem_map]
  exact dig_lt (by omega) (by omega) (by omega) (by omega)
end
end Go.Proofs.YtggelmbnliajeaaDoor
namespace Go.Proofs.YtggelmbnliajeaaDoor
open Go.RowKit Go.Sort
end Go.Proofs.YtggelmbnliajeaaDoor
namespace Go.Proofs.YtggelmbnliajeaaDoor
open Go.RowKit Go.Sort
/-- new data that avoid a block -/
def FrA {α : Type} (E : Ty α) (g base : Nat) (w : World) (cs : List Value) (x : α) : Prop := ∃ fp, E.rd w cs x fp ∧ fp.Nodup ∧ (∀ b ∈ fp, base ≤ b) ∧ Unf w fp ∧ g ∉ fp
section
variable {α : Type} {E : Ty α} {g base : Nat} {w w' : World} {cs : List Value} {x : α}
theorem FrA.fr (h : FrA E g base w cs x) : E.Fr base w cs x := let ⟨fp, h1, h2, h3, h4, _⟩ := h; ⟨fp, h1, h2, h3, h4⟩
theorem FrA.lo (h : E.Fr base w cs x) (hg : g < base) : FrA E g base w cs x := let ⟨fp, h1, h2, h3, h4⟩ := h; ⟨fp, h1, h2, h3, h4, fun hm => by have := h3 g hm; omega⟩
theorem FrA.hi (h : E.Fr base w cs x) (hg : w.heap.size ≤ g) : FrA E g base w cs x := let ⟨fp, h1, h2, h3, h4⟩ := h; ⟨fp, h1, h2, h3, h4, fun hm => by have := E.lt h1 g hm; omega⟩
theorem FrA.same (h : FrA E g base w cs x) (hs : ∀ k, k < w.heap.size → k ≠ g → w'.heap[k]? = w.heap[k]?) : FrA E g base w' cs x := by
 obtain ⟨fp, h1, h2, h3, h4, h5⟩ := h
 have hs' : Same fp w w' := fun k hk => hs k (E.lt h1 k hk) (fun e => h5 (e ▸ hk))
 exact ⟨fp, E.same h1 hs', h2, h3, h4.same hs', h5⟩
theorem FrA.set (h : FrA E g base w cs x) {i : Nat} {u : Value} : FrA E g base (w.setCell ⟨g, i, none⟩ u) cs x := h.same (fun k _ hn => Below.heap_setCell _ _ _ _ (fun e => hn (by simpa using e)))
theorem FrA.below (h : FrA E g base w cs x) (hb : Below w.heap.size w w') : FrA E g base w' cs x := h.same (fun k hk _ => hb.block k hk)
theorem FrA.mono {base' : Nat} (h : FrA E g base w cs x) (hb : base' ≤ base) : FrA E g base' w cs x := let ⟨fp, h1, h2, h3, h4, h5⟩ := h; ⟨fp, h1, h2, fun b hm => Nat.le_trans hb (h3 b hm), h4, h5⟩
end
end Go.Proofs.YtggelmbnliajeaaDoor
namespace Go.Proofs.YtggelmbnliajeaaDoor
open Go.RowKit Go.Sort
theorem tabOf_succ {s : Int} {ar k : Nat} {g : List Int → Int} : tabOf s ar (k + 1) g = tabOf s ar k g ++ [g (digL s k ar)] := by simp [tabOf, List.range_succ]
set_option maxHeartbeats 1600000 in
set_option maxRecDepth 100000 in
theorem l02Projection_any (w : World) {s : Int} {ar N p : Nat} (hs : 1 ≤ s ∧ s ≤ 4) (har : 1 ≤ ar ∧ ar ≤ 3) (hN : s ^ ar = N) (hp : p < ar) :
  Calls Tryd.prog 15 #[.int .i64 s, .int .i64 ar, .int .i64 p] w (RetA opT w ((ar : Int), projT s ar N p)) := by
 have HN := Lib.hid hN
 have hNb : N ≤ 64 := by
  have h1 := pow_mono' (s := s) (c := 4) (by omega) (by omega) ar
  rcases (show ar = 1 ∨ ar = 2 ∨ ar = 3 by omega) with e | e | e <;> subst e <;> simp at h1 <;> omega
 clear hN
 go_enter Tryd.func15, Tryd.ntmps15
 go_wp2_with fail
 generalize hW : World.alloc (World.alloc w _) _ = W
 have hbW : Below w.heap.size w W := hW ▸ bAA
 have hsW : w.heap.size + 2 ≤ W.heap.size := by rw [← hW]; simp
 have r0 : W.cell? ⟨w.heap.size, 0, none⟩ = some (.int .i64 0) := by rw [← hW]; simp [go_sem]
 have r1 : W.cell? ⟨w.heap.size, 1, none⟩ = some (.slice none 0 0) := by rw [← hW]; simp [go_sem]
 have q0 : W.frozen? ⟨w.heap.size, 0, none⟩ = false := by rw [← hW]; simp [go_sem]
 have q1 : W.frozen? ⟨w.heap.size, 1, none⟩ = false := by rw [← hW]; simp [go_sem]
 have c0 : W.cell? ⟨w.heap.size + 1, 0, none⟩ = some (.int .i64 (ar : Int)) := by rw [← hW]; simp [go_sem]
 have c1 : W.cell? ⟨w.heap.size + 1, 1, none⟩ = some (.slice none 0 0) := by rw [← hW]; simp [go_sem]
 have m1 : W.frozen? ⟨w.heap.size + 1, 1, none⟩ = false := by rw [← hW]; simp [go_sem]
 have HRQ := Lib.hid (And.intro r0 (And.intro r1 (And.intro q0 q1)))
 clear hW r0 r1 q0 q1
 go_loopw [8] (fun i wr => ∃ (k : Nat) (va : Value), k ≤ N ∧ i = .int .i64 k ∧ Bl Ty.int 2 (w.heap.size + 2) wr.heap.size wr va (projT s ar k p) ∧ wr.cell? ⟨w.heap.size + 1, 0, none⟩ = some (.int .i64 (ar : Int)) ∧ wr.cell? ⟨w.heap.size + 1, 1, none⟩ = some va ∧ wr.frozen? ⟨w.heap.size + 1, 1, none⟩ = false ∧ Below w.heap.size w wr ∧ (∀ i, wr.cell? ⟨w.heap.size, i, none⟩ = W.cell? ⟨w.heap.size, i, none⟩ ∧ wr.frozen? ⟨w.heap.size, i, none⟩ = W.frozen? ⟨w.heap.size, i, none⟩)) (fun i _ => N - (intOf i).toNat)
 case atStart => exact ⟨0, _, Nat.zero_le _, rfl, Bl.nil, c0, c1, m1, hbW, fun i => ⟨rfl, rfl⟩⟩
 case round =>
  clear c0 c1 m1
  obtain ⟨k, va, hk, rfl, hBa, c0, c1, m1, hbv, hrq⟩ := hrel
  have HB := Lib.hid hBa
  have HRE := Lib.hid hrq
  have hw2 : w.heap.size + 1 < wr.heap.size := cell_lt c0
  have hRl : (projT s ar k p).length = k := tabOf_len
  obtain ⟨ga, gn, gc, rfl⟩ := ex_slice (hBa.fr (by unfold capMax; omega))
  obtain ⟨wv, rfl⟩ : ∃ wv : World, wv = wr := ⟨_, rfl⟩
  clear hBa hrq
  by_cases hkl : k < N
  ·go_wp2_with (go_at_call 35; refine (l01Power_any _ s (ar : Int) (by omega) (by omega) (by omega)).mono ?_; rintro e w' ⟨rfl, rfl⟩; rw [Int.toNat_natCast, HN.out])
   refine wp_region_T (fun w' => w'.cell? ⟨w.heap.size + 1, 1, none⟩ = some (.slice ga gn gc)) [10] (by kernel_rfl) c1 (fun hHeld => ?_)
   refine wpAnyT_take (i := 0) (v := ?_) rfl (by kernel_rfl) (fun _ _ _ h => h) (Or.inl ⟨by rfl, ?_⟩) (by assumption) ?_
   rotate_left
   ·(intro w hSw; (try dsimp only at hSw); go_simp <;> with_reducible rfl)
   go_simp
   refine wpAnyT_take (i := 1) (v := ?_) rfl (by kernel_rfl) (fun _ _ _ h => h) (Or.inl ⟨by rfl, ?_⟩) (by assumption) ?_
   rotate_left
   ·(intro w hSw; (try dsimp only at hSw); go_simp <;> with_reducible rfl)
   go_simp
   refine wpAnyT_take (i := 2) (v := ?_) rfl (by kernel_rfl) (fun _ _ _ h => h) (Or.inl ⟨by rfl, ?_⟩) (by assumption) ?_
   rotate_left
   ·(intro w hSw; (try dsimp only at hSw); go_simp <;> with_reducible rfl)
   go_simp
   refine wpAnyT_take (i := 3) (v := ?_) rfl (by kernel_rfl) (fun _ _ _ h => h) (Or.inl ⟨by rfl, ?_⟩) (by assumption) ?_
   rotate_left
   ·(intro w hSw; (try dsimp only at hSw); go_simp <;> with_reducible rfl)
   go_simp
   refine wpAnyT_take (i := 4) (v := ?_) rfl (by kernel_rfl) (fun _ _ _ h => h) (Or.inl ⟨by rfl, ?_⟩) (by assumption) ?_
   rotate_left
   ·(intro w hSw; (try dsimp only at hSw); go_simp <;> with_reducible rfl)
   go_simp
   refine wpAnyT_take (i := 6) (v := ?_) rfl (by kernel_rfl) (fun _ _ _ h => h) (Or.inl ⟨by rfl, ?_⟩) (by assumption) ?_
   rotate_left
   ·(intro w hSw; (try dsimp only at hSw); go_simp <;> with_reducible rfl)
   go_simp
   refine wpAnyT_one (i := 5) rfl (by kernel_rfl) (fun K hK => ?_)
   go_simp
   go_at_call 36
   refine (l01Digits_any _ s (k : Int) ar (by omega) (by omega) (by omega) (by omega) (by omega)).mono ?_
   rintro e w5 ⟨dv, rfl, hdf, hb5⟩
   have hpl : p < (digL s (k : Int) ar).length := by rw [digL_len]; exact hp
   obtain ⟨ad, cd, hv, -, -, hce⟩ := ints_ex hdf.rd
   obtain rfl : dv = _ := by simpa using hv
   obtain ⟨db, dO, rfl, hdb, hce⟩ := hce (by omega)
   have d0 := (hce p hpl).2
   have HSC : Hid (projT s ar (k + 1) p = projT s ar k p ++ [(digL s (k : Int) ar).getD p 0]) := tabOf_succ
   have hx : (digL s (k : Int) ar).getD p 0 = (digL s (k : Int) ar)[p] := by rw [List.getD_eq_getElem?_getD, List.getElem?_eq_getElem hpl]; rfl
   have hI := (hce p hpl).1
   have hlen := digL_len (s := s) (idx := (k : Int)) (n := ar)
   rw [← hx] at d0 hI
   clear hdf hce hx
   generalize (digL s (k : Int) ar).length = nd at hpl hlen ⊢
   obtain rfl : nd = ar := hlen
   generalize hgx : (digL s (k : Int) nd).getD p 0 = x at d0 hI HSC
   clear hgx
   have hb5' : Below wv.heap.size wv w5 := bthen bD hb5
   have hz5 := hb5'.size
   replace c0 := (cellB hb5' (show w.heap.size + 1 < wv.heap.size by omega)).trans c0
   replace c1 := (cellB hb5' (show w.heap.size + 1 < wv.heap.size by omega)).trans c1
   replace m1 := (frozenB hb5' (show w.heap.size + 1 < wv.heap.size by omega)).trans m1
   clear hb5
   dsimp only
   refine hK.out _ _ c1 (fun hHeld => ?_)
   clear hK K
   refine wpAnyT_take (i := 7) (v := ?_) rfl (by kernel_rfl) (fun _ _ _ h => h) (Or.inl ⟨by rfl, ?_⟩) (by assumption) ?_
   rotate_left
   ·(intro w hSw; (try dsimp only at hSw); go_simp <;> with_reducible rfl)
   go_simp
   refine wpAnyT_one (i := 8) rfl (by kernel_rfl) (fun K hK => ?_)
   go_simp
   refine hK.out _ _ c1 (fun hHeld => ?_)
   clear hK K
   refine wpAnyT_one (i := 9) rfl (by kernel_rfl) (fun K hK => ?_)
   go_simp
   refine hK.out _ _ (by go_keep) (fun hHeld => ?_)
   clear hK K
   refine wpAnyT_last (i := 10) rfl (by kernel_rfl) (by kernel_rfl) (fun K hK => ?_)
   refine step_push (E := Ty.int) _ rfl _ _ 32 2 rfl elInt rfl (HB.out.below (hb5'.alloc hz5 _) (Nat.le_refl _)) rfl news1 (fr_int hI) (by omega) (by decide) (by omega) (by first | (simp; done) | (simp; omega)) ?_
   intro v6 w6 hB6 hg6 _
   obtain ⟨xa, xn, xc, rfl⟩ := ex_slice (hB6.fr (by rw [List.length_append]; unfold capMax; simp; omega))
   have hb6 : RowKit.Below (w.heap.size + 2) wv w6 := ((hb5'.alloc hz5 _).mono (by omega)).grown hg6 (by first | (simp; done) | (simp; omega)) (fun q hq => HB.out.own hq)
   have hb56 : RowKit.Below (w.heap.size + 2) w5 w6 := ((Below.refl _ w5).alloc (by omega) _).grown hg6 (by first | (simp; done) | (simp; omega)) (fun q hq => HB.out.own hq)
   rw [← HSC.out] at hB6
   have HB6 := Lib.hid hB6
   replace c0 := (cellB hb56 (by omega)).trans c0
   replace c1 := (cellB hb56 (by omega)).trans c1
   replace m1 := (frozenB hb56 (by omega)).trans m1
   have HR6 : Hid (∀ i, w6.cell? ⟨w.heap.size, i, none⟩ = W.cell? ⟨w.heap.size, i, none⟩ ∧ w6.frozen? ⟨w.heap.size, i, none⟩ = W.frozen? ⟨w.heap.size, i, none⟩) := fun i => ⟨(cellB hb6 (by omega)).trans (HRE.out i).1, (frozenB hb6 (by omega)).trans (HRE.out i).2⟩
   have HT6 := Lib.hid (hbv.trans (hb6.mono (by omega)))
   clear hB6 hg6 hb6 hb56
   refine hK.out _ _ ?_
   clear hK K
   refine wpAnyT_any (i := 11) (v := ?_) rfl (by kernel_rfl) (fun _ _ _ h => h) (Or.inl ⟨by rfl, ?_⟩) (by first | exact fun _ => by assumption | (intro hp; exact absurd hp (by rw [show pastB _ _ = true by kernel_rfl]; simp))) ?_
   rotate_left
   ·(intro w hSw; (try dsimp only at hSw); go_simp <;> with_reducible rfl)
   try simp only [Act.put]
   refine wpAnyT_last (i := 12) rfl (by kernel_rfl) (by kernel_rfl) (fun K hK => ?_)
   go_simp
   refine hK.out _ _ ?_
   clear hK K
   refine wpAnyT_done (by kernel_rfl) ?_ _
   go_simp
   go_wp2_with fail
   go_roundw
   case rel => exact ⟨k + 1, _, by omega, by go_num, by rw [size_set]; exact HB6.out.sameB (fun q h1 h2 => Below.heap_setCell _ _ _ _ (by simp; omega)), (World.cell?_setCell_other _ _ _ _ (by simp)).trans c0, World.cell?_setCell_same _ _ _ c1, (World.frozen?_setCell _ _ _ _).trans m1, HT6.out.setCell (by simp) _, fun i => ⟨(World.cell?_setCell_other _ _ _ _ (by simp)).trans (HR6.out i).1, (World.frozen?_setCell _ _ _ _).trans (HR6.out i).2⟩⟩
   case measure => simp [intOf]; omega
  ·obtain rfl : k = N := by omega
   have r0 := (HRE.out 0).1.trans HRQ.out.1
   have r1 := (HRE.out 1).1.trans HRQ.out.2.1
   have q0 := (HRE.out 0).2.trans HRQ.out.2.2.1
   have q1 := (HRE.out 1).2.trans HRQ.out.2.2.2
   have hw0 : w.heap.size < wv.heap.size := by omega
   have HFR := Lib.hid (HB.out.fr (by unfold capMax; omega))
   have hIa : I64 (ar : Int) := I64.small (by omega) (by omega)
   obtain ⟨g0, g1⟩ := set2_cells (x := .int .i64 (ar : Int)) (y := .slice ga gn gc) r0 r1
   have HFF : Hid (opT.Fr w.heap.size ((wv.setCell ⟨w.heap.size, 0, none⟩ (.int .i64 (ar : Int))).setCell ⟨w.heap.size, 1, none⟩ (.slice ga gn gc)) [.int .i64 (ar : Int), .slice ga gn gc] ((ar : Int), projT s ar k p)) := fr_cons hIa (((HFR.out.set (by simp)).set (by simp)).mono (by omega))
   have HBB : Hid (Below w.heap.size w ((wv.setCell ⟨w.heap.size, 0, none⟩ (.int .i64 (ar : Int))).setCell ⟨w.heap.size, 1, none⟩ (.slice ga gn gc))) := (hbv.setCell (Nat.le_refl _) _).setCell (Nat.le_refl _) _
   clear HB HFR
   go_wp2_with (go_at_call 35; refine (l01Power_any _ s (ar : Int) (by omega) (by omega) (by omega)).mono ?_; rintro e w' ⟨rfl, rfl⟩; rw [Int.toNat_natCast, HN.out])
   refine bodyPost_ret (v := .agg #[.int .i64 (ar : Int), .slice ga gn gc]) (by simp [results, Tryd.results15, go_sem, g0, g1]) rfl ⟨[.int .i64 (ar : Int), .slice ga gn gc], rfl, HFF.out, HBB.out⟩
end Go.Proofs.YtggelmbnliajeaaDoor
namespace Go.Proofs.YtggelmbnliajeaaDoor
open Go.RowKit Go.Sort
/-- numbers of a size -/
def inS (s : Int) (L : List Int) : Prop := ∀ a ∈ L, 0 ≤ a ∧ a ≤ s - 1
end Go.Proofs.YtggelmbnliajeaaDoor
namespace Go.Proofs.YtggelmbnliajeaaDoor
open Go.RowKit Go.Sort
end Go.Proofs.YtggelmbnliajeaaDoor
namespace Go.Proofs.YtggelmbnliajeaaDoor
open Go.RowKit Go.Sort
set_option maxHeartbeats 3200000 in
set_option maxRecDepth 100000 in
theorem opOf_any (w : World) (s : Int) (ar : Nat) (hs : 1 ≤ s ∧ s ≤ 4) (har : 1 ≤ ar ∧ ar ≤ 3) (g : Nat) (caps : Array Value) (eg : ∀ args w, (callFunc g args).run Tryd.prog w = .ok (.enter g args) w) (p : List Int → Int) (N : Nat) (hN : s ^ ar = N) (hI : ∀ k, k < N → I64 (p (digL s (k : Nat) ar)))
  (hto : Hid (∀ W u (k : Nat), Below w.heap.size w W → k < N → intsT.Rd W [u] (digL s k ar) → Calls Tryd.prog g (#[u] ++ caps) W fun e w' => e = .returned (.int .i64 (p (digL s k ar))) ∧ Below W.heap.size W w')) :
  Calls Tryd.prog 44 #[.int .i64 s, .int .i64 ar, .func (.func g) #[] caps] w (RetA opT w ((ar : Int), tabOf s ar N p)) := by
 have hNb : N ≤ 64 := by
  have h1 := pow_mono' (s := s) (c := 4) (by omega) (by omega) ar
  rcases (show ar = 1 ∨ ar = 2 ∨ ar = 3 by omega) with e | e | e <;> subst e <;> simp at h1 <;> omega
 have HN : Hid (s ^ ((ar : Int)).toNat = N) := by unfold Hid; rw [Int.toNat_natCast]; exact hN
 have HI := Lib.hid hI
 clear hN hI
 go_enter Tryd.func44, Tryd.ntmps44
 go_wp2_with fail
 generalize hW : World.alloc _ _ = W
 have hbW : Below w.heap.size w W := hW ▸ bAA
 have hsW : w.heap.size + 2 ≤ W.heap.size := by rw [← hW]; simp
 have r0 : W.cell? ⟨w.heap.size, 0, none⟩ = some (.int .i64 0) := by rw [← hW]; simp [go_sem]
 have r1 : W.cell? ⟨w.heap.size, 1, none⟩ = some (.slice none 0 0) := by rw [← hW]; simp [go_sem]
 have q0 : W.frozen? ⟨w.heap.size, 0, none⟩ = false := by rw [← hW]; simp [go_sem]
 have q1 : W.frozen? ⟨w.heap.size, 1, none⟩ = false := by rw [← hW]; simp [go_sem]
 have c0 : W.cell? ⟨w.heap.size + 1, 0, none⟩ = some (.int .i64 (ar : Int)) := by rw [← hW]; simp [go_sem]
 have c1 : W.cell? ⟨w.heap.size + 1, 1, none⟩ = some (.slice none 0 0) := by rw [← hW]; simp [go_sem]
 have m1 : W.frozen? ⟨w.heap.size + 1, 1, none⟩ = false := by rw [← hW]; simp [go_sem]
 have HRQ := Lib.hid (And.intro r0 (And.intro r1 (And.intro q0 q1)))
 clear hW r0 r1 q0 q1
 refine (power_any _ s (ar : Int) (by omega) (by omega) (by omega)).mono ?_
 rintro e _ ⟨rfl, rfl⟩
 rw [HN.out]
 go_wp2_with fail
 go_loopw [14] (fun i wr => ∃ (k : Nat) (va : Value), k ≤ N ∧ i = .int .i64 k ∧ Bl Ty.int 2 (w.heap.size + 2) wr.heap.size wr va (tabOf s ar k p) ∧ wr.cell? ⟨w.heap.size + 1, 0, none⟩ = some (.int .i64 (ar : Int)) ∧ wr.cell? ⟨w.heap.size + 1, 1, none⟩ = some va ∧ wr.frozen? ⟨w.heap.size + 1, 1, none⟩ = false ∧ Below w.heap.size w wr ∧ (∀ i, wr.cell? ⟨w.heap.size, i, none⟩ = W.cell? ⟨w.heap.size, i, none⟩ ∧ wr.frozen? ⟨w.heap.size, i, none⟩ = W.frozen? ⟨w.heap.size, i, none⟩)) (fun i _ => N - (intOf i).toNat)
 case atStart => exact ⟨0, _, Nat.zero_le _, rfl, Bl.nil, c0, c1, m1, hbW, fun i => ⟨rfl, rfl⟩⟩
 case round =>
  clear c0 c1 m1
  obtain ⟨k, va, hk, rfl, hBa, c0, c1, m1, hbv, hrq⟩ := hrel
  have HB := Lib.hid hBa
  have HRE := Lib.hid hrq
  have hw2 : w.heap.size + 1 < wr.heap.size := cell_lt c0
  have hRl : (tabOf s ar k p).length = k := tabOf_len
  obtain ⟨ga, gn, gc, rfl⟩ := ex_slice (hBa.fr (by unfold capMax; omega))
  obtain ⟨wv, rfl⟩ : ∃ wv : World, wv = wr := ⟨_, rfl⟩
  clear hBa hrq
  by_cases hkl : k < N
  ·have HSC : Hid (tabOf s ar (k + 1) p = tabOf s ar k p ++ [p (digL s (k : Int) ar)]) := tabOf_succ
   have hIk := HI.out k hkl
   go_wp2_with fail
   refine wp_region_T (fun w' => w'.cell? ⟨w.heap.size + 1, 1, none⟩ = some (.slice ga gn gc)) [9] (by kernel_rfl) c1 (fun hHeld => ?_)
   refine wpAnyT_take (i := 0) (v := ?_) rfl (by kernel_rfl) (fun _ _ _ h => h) (Or.inl ⟨by rfl, ?_⟩) (by assumption) ?_
   rotate_left
   ·(intro w hSw; (try dsimp only at hSw); go_simp <;> with_reducible rfl)
   go_simp
   refine wpAnyT_take (i := 1) (v := ?_) rfl (by kernel_rfl) (fun _ _ _ h => h) (Or.inl ⟨by rfl, ?_⟩) (by assumption) ?_
   rotate_left
   ·(intro w hSw; (try dsimp only at hSw); go_simp <;> with_reducible rfl)
   go_simp
   refine wpAnyT_take (i := 2) (v := ?_) rfl (by kernel_rfl) (fun _ _ _ h => h) (Or.inl ⟨by rfl, ?_⟩) (by assumption) ?_
   rotate_left
   ·(intro w hSw; (try dsimp only at hSw); go_simp <;> with_reducible rfl)
   go_simp
   refine wpAnyT_take (i := 3) (v := ?_) rfl (by kernel_rfl) (fun _ _ _ h => h) (Or.inl ⟨by rfl, ?_⟩) (by assumption) ?_
   rotate_left
   ·(intro w hSw; (try dsimp only at hSw); go_simp <;> with_reducible rfl)
   go_simp
   refine wpAnyT_take (i := 4) (v := ?_) rfl (by kernel_rfl) (fun _ _ _ h => h) (Or.inl ⟨by rfl, ?_⟩) (by assumption) ?_
   rotate_left
   ·(intro w hSw; (try dsimp only at hSw); go_simp <;> with_reducible rfl)
   go_simp
   refine wpAnyT_take (i := 5) (v := ?_) rfl (by kernel_rfl) (fun _ _ _ h => h) (Or.inl ⟨by rfl, ?_⟩) (by assumption) ?_
   rotate_left
   ·(intro w hSw; (try dsimp only at hSw); go_simp <;> with_reducible rfl)
   go_simp
   refine wpAnyT_one (i := 6) rfl (by kernel_rfl) (fun K hK => ?_)
   go_simp
   go_at_call 57
   refine (listOf_any _ s (k : Int) ar (by omega) (by omega) (by omega) (by omega) (by omega)).mono ?_
   rintro e w5 ⟨dv, rfl, hdf, hb5⟩
   obtain ⟨ad, nd, cd, rfl⟩ := ex_slice hdf
   have HDF := Lib.hid hdf
   have hb5' : Below wv.heap.size wv w5 := bthen bD hb5
   have hz5 := hb5'.size
   replace c0 := (cellB hb5' (show w.heap.size + 1 < wv.heap.size by omega)).trans c0
   replace c1 := (cellB hb5' (show w.heap.size + 1 < wv.heap.size by omega)).trans c1
   replace m1 := (frozenB hb5' (show w.heap.size + 1 < wv.heap.size by omega)).trans m1
   clear hdf hb5
   dsimp only
   refine hK.out _ _ c1 (fun hHeld => ?_)
   clear hK K
   refine wpAnyT_one (i := 7) rfl (by kernel_rfl) (fun K hK => ?_)
   go_simp
   refine (hto.out w5 _ k (bthen hbv hb5') hkl HDF.out.rd).mono ?_
   rintro e w7 ⟨rfl, hb7⟩
   have hb7' : Below wv.heap.size wv w7 := bthen hb5' hb7
   have hz7 := hb7'.size
   have hz57 := hb7.size
   replace c0 := (cellB hb7 (by omega)).trans c0
   replace c1 := (cellB hb7 (by omega)).trans c1
   replace m1 := (frozenB hb7 (by omega)).trans m1
   clear hb7 hb5' HDF
   generalize p (digL s (k : Int) ar) = x at hIk HSC ⊢
   dsimp only
   refine hK.out _ _ c1 (fun hHeld => ?_)
   clear hK K
   refine wpAnyT_one (i := 8) rfl (by kernel_rfl) (fun K hK => ?_)
   go_simp
   refine hK.out _ _ (by go_keep) (fun hHeld => ?_)
   clear hK K
   refine wpAnyT_last (i := 9) rfl (by kernel_rfl) (by kernel_rfl) (fun K hK => ?_)
   refine step_push (E := Ty.int) _ rfl _ _ 32 2 rfl elInt rfl (HB.out.below (hb7'.alloc hz7 _) (Nat.le_refl _)) rfl news1 (fr_int hIk) (by omega) (by decide) (by omega) (by first | (simp; done) | (simp; omega)) ?_
   intro v6 w6 hB6 hg6 _
   obtain ⟨xa, xn, xc, rfl⟩ := ex_slice (hB6.fr (by rw [List.length_append]; unfold capMax; simp; omega))
   have hb6 : RowKit.Below (w.heap.size + 2) wv w6 := ((hb7'.alloc hz7 _).mono (by omega)).grown hg6 (by first | (simp; done) | (simp; omega)) (fun q hq => HB.out.own hq)
   have hb56 : RowKit.Below (w.heap.size + 2) w7 w6 := ((Below.refl _ w7).alloc (by omega) _).grown hg6 (by first | (simp; done) | (simp; omega)) (fun q hq => HB.out.own hq)
   rw [← HSC.out] at hB6
   have HB6 := Lib.hid hB6
   replace c0 := (cellB hb56 (by omega)).trans c0
   replace c1 := (cellB hb56 (by omega)).trans c1
   replace m1 := (frozenB hb56 (by omega)).trans m1
   have HR6 : Hid (∀ i, w6.cell? ⟨w.heap.size, i, none⟩ = W.cell? ⟨w.heap.size, i, none⟩ ∧ w6.frozen? ⟨w.heap.size, i, none⟩ = W.frozen? ⟨w.heap.size, i, none⟩) := fun i => ⟨(cellB hb6 (by omega)).trans (HRE.out i).1, (frozenB hb6 (by omega)).trans (HRE.out i).2⟩
   have HT6 := Lib.hid (hbv.trans (hb6.mono (by omega)))
   clear hB6 hg6 hb6 hb56
   refine hK.out _ _ ?_
   clear hK K
   refine wpAnyT_any (i := 10) (v := ?_) rfl (by kernel_rfl) (fun _ _ _ h => h) (Or.inl ⟨by rfl, ?_⟩) (by first | exact fun _ => by assumption | (intro hp; exact absurd hp (by rw [show pastB _ _ = true by kernel_rfl]; simp))) ?_
   rotate_left
   ·(intro w hSw; (try dsimp only at hSw); go_simp <;> with_reducible rfl)
   try simp only [Act.put]
   refine wpAnyT_last (i := 11) rfl (by kernel_rfl) (by kernel_rfl) (fun K hK => ?_)
   go_simp
   refine hK.out _ _ ?_
   clear hK K
   refine wpAnyT_done (by kernel_rfl) ?_ _
   go_simp
   go_wp2_with fail
   go_roundw
   case rel => exact ⟨k + 1, _, by omega, by go_num, by rw [size_set]; exact HB6.out.sameB (fun q h1 h2 => Below.heap_setCell _ _ _ _ (by simp; omega)), (World.cell?_setCell_other _ _ _ _ (by simp)).trans c0, World.cell?_setCell_same _ _ _ c1, (World.frozen?_setCell _ _ _ _).trans m1, HT6.out.setCell (by simp) _, fun i => ⟨(World.cell?_setCell_other _ _ _ _ (by simp)).trans (HR6.out i).1, (World.frozen?_setCell _ _ _ _).trans (HR6.out i).2⟩⟩
   case measure => simp [intOf]; omega
  ·obtain rfl : k = N := by omega
   have r0 := (HRE.out 0).1.trans HRQ.out.1
   have r1 := (HRE.out 1).1.trans HRQ.out.2.1
   have q0 := (HRE.out 0).2.trans HRQ.out.2.2.1
   have q1 := (HRE.out 1).2.trans HRQ.out.2.2.2
   have hw0 : w.heap.size < wv.heap.size := by omega
   have HFR := Lib.hid (HB.out.fr (by unfold capMax; omega))
   have hIa : I64 (ar : Int) := I64.small (by omega) (by omega)
   obtain ⟨g0, g1⟩ := set2_cells (x := .int .i64 (ar : Int)) (y := .slice ga gn gc) r0 r1
   have HFF : Hid (opT.Fr w.heap.size ((wv.setCell ⟨w.heap.size, 0, none⟩ (.int .i64 (ar : Int))).setCell ⟨w.heap.size, 1, none⟩ (.slice ga gn gc)) [.int .i64 (ar : Int), .slice ga gn gc] ((ar : Int), tabOf s ar k p)) := fr_cons hIa (((HFR.out.set (by simp)).set (by simp)).mono (by omega))
   have HBB : Hid (Below w.heap.size w ((wv.setCell ⟨w.heap.size, 0, none⟩ (.int .i64 (ar : Int))).setCell ⟨w.heap.size, 1, none⟩ (.slice ga gn gc))) := (hbv.setCell (Nat.le_refl _) _).setCell (Nat.le_refl _) _
   clear HB HFR
   go_wp2_with fail
   refine bodyPost_ret (v := .agg #[.int .i64 (ar : Int), .slice ga gn gc]) (by simp [results, Tryd.results44, go_sem, g0, g1]) rfl ⟨[.int .i64 (ar : Int), .slice ga gn gc], rfl, HFF.out, HBB.out⟩
end Go.Proofs.YtggelmbnliajeaaDoor
namespace Go.Proofs.YtggelmbnliajeaaDoor
open Go.RowKit Go.Sort
theorem projection1_any (w : World) {u : Value} {xs : List Int} (h : intsT.Rd w [u] xs) {b p : Nat} (hp : p < xs.length) (hc : w.cell? ⟨b, 0, none⟩ = some (.int .i64 (p : Int))) :
  Calls Tryd.prog 45 #[u, .pointer (some ⟨b, 0, none⟩)] w fun e w' => e = .returned (.int .i64 (xs.getD p 0)) ∧ Below w.heap.size w w' := by
 obtain ⟨ad, cap, hv, -, -, hce⟩ := ints_ex h
 obtain rfl : u = _ := by simpa using hv
 obtain ⟨db, dO, rfl, hdb, hce⟩ := hce (by omega)
 have d0 := (hce p hp).2
 have hx : xs.getD p 0 = xs[p] := by rw [List.getD_eq_getElem?_getD, List.getElem?_eq_getElem hp]; rfl
 rw [← hx] at d0
 clear hce hv h hx
 generalize xs.getD p 0 = x at d0 ⊢
 go_enter Tryd.func45, Tryd.ntmps45
 go_wp2_with fail
 go_ret
 exact ⟨rfl, (by repeat (first | exact Below.refl _ _ | exact bA | assumption | refine Below.setCell ?_ (by first | omega | (simp; try omega)) _ | refine Below.alloc ?_ (by first | omega | (simp; try omega)) _ | refine Below.drew ?_ | refine bDN ?_ | refine bthen ?_ (by assumption)))⟩
set_option maxHeartbeats 1600000 in
theorem projection_any (w : World) {s : Int} {ar N p : Nat} (hs : 1 ≤ s ∧ s ≤ 4) (har : 1 ≤ ar ∧ ar ≤ 3) (hN : s ^ ar = N) (hp : p < ar) :
  Calls Tryd.prog 20 #[.int .i64 s, .int .i64 ar, .int .i64 p] w (RetA opT w ((ar : Int), projT s ar N p)) := by
 go_enter Tryd.func20, Tryd.ntmps20
 go_wp2_with fail
 generalize hW : World.alloc (World.alloc w _) _ = W
 have hbW : Below w.heap.size w W := hW ▸ bAA
 have hsW : w.heap.size + 2 ≤ W.heap.size := by rw [← hW]; simp
 have b0 : W.cell? ⟨w.heap.size, 0, none⟩ = some (.int .i64 (p : Int)) := by rw [← hW]; simp [go_sem]
 have r0 : W.cell? ⟨w.heap.size + 1, 0, none⟩ = some (.int .i64 0) := by rw [← hW]; simp [go_sem]
 have r1 : W.cell? ⟨w.heap.size + 1, 1, none⟩ = some (.slice none 0 0) := by rw [← hW]; simp [go_sem]
 have q0 : W.frozen? ⟨w.heap.size + 1, 0, none⟩ = false := by rw [← hW]; simp [go_sem]
 have q1 : W.frozen? ⟨w.heap.size + 1, 1, none⟩ = false := by rw [← hW]; simp [go_sem]
 clear hW
 have hpI : ∀ k, k < N → I64 ((fun xs : List Int => xs.getD p 0) (digL s ((k : Nat) : Int) ar)) := fun k hk => by
  have hpl : p < (digL s (k : Int) ar).length := by rw [digL_len]; exact hp
  have : (digL s (k : Int) ar).getD p 0 = (digL s (k : Int) ar)[p] := by rw [List.getD_eq_getElem?_getD, List.getElem?_eq_getElem hpl]; rfl
  have h2 := digL_in (s := s) (idx := (k : Int)) (n := ar) (by omega) _ (List.getElem_mem hpl)
  show I64 ((digL s (k : Int) ar).getD p 0)
  rw [this]
  exact I64.small (by omega) (by omega)
 have hto : Hid (∀ W' u (k : Nat), Below W.heap.size W W' → k < N → intsT.Rd W' [u] (digL s k ar) → Calls Tryd.prog 45 (#[u] ++ #[.pointer (some ⟨w.heap.size, 0, none⟩)]) W' fun e w' => e = .returned (.int .i64 ((fun xs : List Int => xs.getD p 0) (digL s k ar))) ∧ Below W'.heap.size W' w') := by
  intro W' u k hb _ hu
  exact projection1_any W' hu (by rw [digL_len]; exact hp) ((cellB hb (by omega)).trans b0)
 refine (opOf_any W s ar hs har 45 _ (enters Tryd.func45 (by kernel_rfl) rfl) (fun xs => xs.getD p 0) N hN hpI hto).mono ?_
 rintro e w2 ⟨cs, rfl, hf, hb2⟩
 have hz2 := hb2.size
 replace r0 := (cellB hb2 (by omega)).trans r0
 replace r1 := (cellB hb2 (by omega)).trans r1
 replace q0 := (frozenB hb2 (by omega)).trans q0
 replace q1 := (frozenB hb2 (by omega)).trans q1
 obtain ⟨ta, tc, rfl⟩ := fr_pair hf
 have hf : opT.Fr W.heap.size w2 _ ((ar : Int), projT s ar N p) := hf
 have hlT : (tabOf s ar N fun xs => xs.getD p 0) = projT s ar N p := rfl
 simp only [hlT] at hf ⊢
 have HF : Hid (opT.Fr w.heap.size ((w2.setCell ⟨w.heap.size + 1, 0, none⟩ (.int .i64 (ar : Int))).setCell ⟨w.heap.size + 1, 1, none⟩ (.slice ta (projT s ar N p).length tc)) [.int .i64 (ar : Int), .slice ta (projT s ar N p).length tc] ((ar : Int), projT s ar N p)) := ((hf.set (by simp; omega)).set (by simp; omega)).mono (by omega)
 obtain ⟨g0, g1⟩ := set2_cells (x := .int .i64 (ar : Int)) (y := .slice ta (projT s ar N p).length tc) r0 r1
 have HB : Hid (Below w.heap.size w ((w2.setCell ⟨w.heap.size + 1, 0, none⟩ (.int .i64 (ar : Int))).setCell ⟨w.heap.size + 1, 1, none⟩ (.slice ta (projT s ar N p).length tc))) := ((bthen hbW hb2).setCell (by simp) _).setCell (by simp) _
 clear hf hto hpI
 go_wp2_with fail
 refine bodyPost_ret (v := .agg #[.int .i64 (ar : Int), .slice ta (projT s ar N p).length tc]) (by simp [results, Tryd.results20, go_sem, g0, g1]) rfl ⟨[.int .i64 (ar : Int), .slice ta (projT s ar N p).length tc], rfl, HF.out, HB.out⟩
end Go.Proofs.YtggelmbnliajeaaDoor
namespace Go.Proofs.YtggelmbnliajeaaDoor
open Go.RowKit Go.Sort
theorem opV_at {s : Int} {f : Int × List Int} (hf : opOk s f) {xs : List Int} (hl : (xs.length : Int) = f.1) (hin : inS s xs) : ∃ k, idxL s 0 xs = ((k : Nat) : Int) ∧ ∃ h : k < f.2.length, opV s f.2 xs = f.2[k] := by
 obtain ⟨hs, ha, hr, -⟩ := hf
 unfold sizeOk at hs
 have hb := idx_lt (m := xs.length) (by omega) rfl hin
 rw [show f.1.toNat = xs.length by omega] at hr
 refine ⟨(idxL s 0 xs).toNat, by omega, by omega, ?_⟩
 unfold opV
 rw [List.getD_eq_getElem?_getD, List.getElem?_eq_getElem (by omega)]
 rfl
theorem opV_in {s : Int} {f : Int × List Int} (hf : opOk s f) {xs : List Int} (hl : (xs.length : Int) = f.1) (hin : inS s xs) : 0 ≤ opV s f.2 xs ∧ opV s f.2 xs ≤ s - 1 := by
 obtain ⟨k, -, hk, e⟩ := opV_at hf hl hin
 rw [e]
 exact hf.2.2.2 _ (List.getElem_mem hk)
end Go.Proofs.YtggelmbnliajeaaDoor
namespace Go.Proofs.YtggelmbnliajeaaDoor
open Go.RowKit Go.Sort
theorem areOps1_any (w : World) {cs : Array Value} {g : Int × List Int} (h : opT.Rd w cs.toList g) {bs : Nat} {s : Int} (hc : w.cell? ⟨bs, 0, none⟩ = some (.int .i64 s)) :
  Calls Tryd.prog 41 #[.agg cs, .pointer (some ⟨bs, 0, none⟩)] w fun e w' => e = .returned (.bool (!tb (opOk s g))) ∧ Below w.heap.size w w' := by
 obtain ⟨u2, hv2, hI, hx⟩ := pair_ex h
 obtain rfl := agg_of hv2
 have H := Lib.hid h
 have hbs := cell_lt hc
 clear h hx hv2
 go_enter Tryd.func41, Tryd.ntmps41
 go_wp2_with fail
 refine (ValidOp_any _ (f := g) (H.out.below bA) s).mono ?_
 rintro e w1 ⟨rfl, hb1⟩
 go_wp2_with fail
 go_ret
 exact ⟨rfl, (by repeat (first | exact Below.refl _ _ | exact bA | assumption | refine Below.setCell ?_ (by first | omega | (simp; try omega)) _ | refine Below.alloc ?_ (by first | omega | (simp; try omega)) _ | refine Below.drew ?_ | refine bDN ?_ | refine bthen ?_ (by assumption)))⟩
end Go.Proofs.YtggelmbnliajeaaDoor
namespace Go.Proofs.YtggelmbnliajeaaDoor
open Go.RowKit Go.Sort
end Go.Proofs.YtggelmbnliajeaaDoor
namespace Go.Proofs.YtggelmbnliajeaaDoor
open Go.RowKit Go.Sort
end Go.Proofs.YtggelmbnliajeaaDoor
namespace Go.Proofs.YtggelmbnliajeaaDoor
open Go.RowKit Go.Sort
end Go.Proofs.YtggelmbnliajeaaDoor
namespace Go.Proofs.YtggelmbnliajeaaDoor
open Go.RowKit Go.Sort
theorem Ty.Fr.P {α : Type} {E : Ty α} {base : Nat} {w : World} {cs : List Value} {x : α} (h : E.Fr base w cs x) : E.RdP (fun k => base ≤ k) w cs x := let ⟨fp, h1, _, h3, _⟩ := h; ⟨fp, h1, h3⟩
end Go.Proofs.YtggelmbnliajeaaDoor
namespace Go.Proofs.YtggelmbnliajeaaDoor
open Go.RowKit Go.Sort
section
variable {t : Int × List (Int × List (List Int))} {x : Int × List (Int × List Int)}
end
end Go.Proofs.YtggelmbnliajeaaDoor
namespace Go.Proofs.YtggelmbnliajeaaDoor
open Go.RowKit Go.Sort
section
variable {t : Int × List (Int × List (List Int))} {x : Int × List (Int × List Int)}
end
end Go.Proofs.YtggelmbnliajeaaDoor
namespace Go.Proofs.YtggelmbnliajeaaDoor
open Go.RowKit Go.Sort
/-- a pointer to a datum in blocks below B -/
def Ty.PtB {α : Type} (E : Ty α) (B : Nat) (w : World) (v : Value) (x : α) : Prop := ∃ b o cs, v = .pointer (some ⟨b, o, none⟩) ∧ b < B ∧ b < w.heap.size ∧ E.RdB B w cs x ∧ ∀ j (hj : j < cs.length), w.cell? ⟨b, o + j, none⟩ = some cs[j]
theorem Ty.PtB.below {α : Type} {E : Ty α} {B : Nat} {w w' : World} {v : Value} {x : α} (h : E.PtB B w v x) (hb : Below B w w') : E.PtB B w' v x :=
 let ⟨b, o, cs, h1, h2, h3, h4, h5⟩ := h
 ⟨b, o, cs, h1, h2, Nat.lt_of_lt_of_le h3 hb.size, h4.below hb (Nat.le_refl _), fun j hj => (cellB hb h2).trans (h5 j hj)⟩
theorem Ty.Pt.B {α : Type} {E : Ty α} {w : World} {v : Value} {x : α} (h : E.Pt w v x) : E.PtB w.heap.size w v x := let ⟨b, o, cs, h1, h2, h3, h4⟩ := h; ⟨b, o, cs, h1, h2, h2, h3.B, h4⟩
/-- a search in progress, at block bf: what it was told so far -/
def Fnd (e bf most : Nat) (vt vx : Value) (told : List (List Int)) (O : List Nat) (w : World) : Prop :=
 ∃ v, O = bf :: v.ownBlock.toList ∧ bf < w.heap.size ∧ w.cell? ⟨bf, 0, none⟩ = some vt ∧ w.cell? ⟨bf, 1, none⟩ = some vx ∧ w.cell? ⟨bf, 2, none⟩ = some (.int .i64 most) ∧ w.cell? ⟨bf, 3, none⟩ = some v ∧ w.cell? ⟨bf, 4, none⟩ = some (.int .i64 told.length) ∧
  w.frozen? ⟨bf, 3, none⟩ = false ∧ w.frozen? ⟨bf, 4, none⟩ = false ∧ Bl intsT e (bf + 1) w.heap.size w v (told.take most)
theorem Fnd.below {e bf most : Nat} {vt vx : Value} {told : List (List Int)} {O : List Nat} {w w' : World} (h : Fnd e bf most vt vx told O w) (hb : Below w.heap.size w w') : Fnd e bf most vt vx told O w' := by
 obtain ⟨v, h0, h1, c0, c1, c2, c3, c4, m3, m4, hB⟩ := h
 exact ⟨v, h0, Nat.lt_of_lt_of_le h1 hb.size, (cellB hb h1).trans c0, (cellB hb h1).trans c1, (cellB hb h1).trans c2, (cellB hb h1).trans c3, (cellB hb h1).trans c4, (frozenB hb h1).trans m3, (frozenB hb h1).trans m4, (hB.below hb (Nat.le_refl _)).mono hb.size⟩
theorem Fnd.ge {e bf most : Nat} {vt vx : Value} {told : List (List Int)} {O : List Nat} {w : World} (h : Fnd e bf most vt vx told O w) : ∀ k ∈ O, bf ≤ k := by
 obtain ⟨v, rfl, h1, c0, c1, c2, c3, c4, m3, m4, hB⟩ := h
 intro k hk
 rcases List.mem_cons.1 hk with rfl | hk
 ·exact Nat.le_refl _
 ·have := hB.ge (show v.ownBlock = some k by simpa using hk)
  omega
theorem Fnd.lt {e bf most : Nat} {vt vx : Value} {told : List (List Int)} {O : List Nat} {w : World} (h : Fnd e bf most vt vx told O w) : ∀ k ∈ O, k < w.heap.size := by
 obtain ⟨v, rfl, h1, c0, c1, c2, c3, c4, m3, m4, hB⟩ := h
 intro k hk
 rcases List.mem_cons.1 hk with rfl | hk
 ·exact h1
 ·exact hB.lt_top (show v.ownBlock = some k by simpa using hk)
end Go.Proofs.YtggelmbnliajeaaDoor
namespace Go.Proofs.YtggelmbnliajeaaDoor
open Go.RowKit Go.Sort
end Go.Proofs.YtggelmbnliajeaaDoor
namespace Go.Proofs.YtggelmbnliajeaaDoor
open Go.RowKit Go.Sort
section
variable {t : Int × List (Int × List (List Int))} {f : Int × Int × List (Int × List Int)} {tu : List Int}
end
end Go.Proofs.YtggelmbnliajeaaDoor
namespace Go.Proofs.YtggelmbnliajeaaDoor
open Go.RowKit Go.Sort
end Go.Proofs.YtggelmbnliajeaaDoor
namespace Go.Proofs.YtggelmbnliajeaaDoor
open Go.RowKit Go.Sort
section
variable (t : Int × List (Int × List (List Int))) (f : Int × Int × List (Int × List Int)) (free : Int) (places : List Int)
end
section
variable {t : Int × List (Int × List (List Int))} {f : Int × Int × List (Int × List Int)} {free : Int} {places : List Int}
end
end Go.Proofs.YtggelmbnliajeaaDoor
namespace Go.Proofs.YtggelmbnliajeaaDoor
open Go.RowKit Go.Sort
section
variable {t : Int × List (Int × List (List Int))} {x : Int × List (Int × List Int)} {n : Int}
end
end Go.Proofs.YtggelmbnliajeaaDoor
namespace Go.Proofs.YtggelmbnliajeaaDoor
open Go.RowKit
theorem run_load_zero {P : Program} (w : World) (a : Addr) : (loadCells a 0).run P w = .ok #[] w := by
 simp [loadCells, loadCellsFrom]
theorem run_append_zero {P : Program} (w : World) (base : Nat) (t ty e : TypeId) {sz bytes : Nat} (hT : ElT P t e sz bytes) (v : Value) (n : Nat) (xs : List Value) (hown : w.ownsRow base e sz v n xs) (ad : Option Addr) (c : Nat) :
  (Builtin.append_ #[t, t] ty #[v, .slice ad 0 c]).run P w = .ok v w := by
 obtain ⟨i, z, ht, hi, hz, rfl, rfl, hzs, hp⟩ := hT
 rcases hown.2 with ⟨rfl, rfl⟩ | ⟨g, cap, cur, rfl, _, _, hnc, _⟩
 ·cases ad <;> simp [Builtin.append_, run_underlying ht, sizeOf, typeInfo, hi, Builtin.lenOf, Builtin.firstCells, run_load_zero]
 ·cases ad <;> simp [Builtin.append_, run_underlying ht, sizeOf, typeInfo, hi, Builtin.lenOf, Builtin.firstCells, hnc, storeCells, run_load_zero]
end Go.Proofs.YtggelmbnliajeaaDoor
namespace Go.Proofs.YtggelmbnliajeaaDoor
open Go.RowKit Go.Sort
section
variable {t : Int × List (Int × List (List Int))} {f g : Int × Int × List (Int × List Int)}
end
section
variable (t : Int × List (Int × List (List Int))) (f g : Int × Int × List (Int × List Int))
end
section
variable {t : Int × List (Int × List (List Int))} {f g : Int × Int × List (Int × List Int)}
end
end Go.Proofs.YtggelmbnliajeaaDoor
namespace Go.Proofs.YtggelmbnliajeaaDoor
open Go.RowKit Go.Sort
section
variable (t : Int × List (Int × List (List Int))) (f g : Int × Int × List (Int × List Int))
end
section
variable {t : Int × List (Int × List (List Int))} {f g : Int × Int × List (Int × List Int)}
end
end Go.Proofs.YtggelmbnliajeaaDoor
namespace Go.Proofs.YtggelmbnliajeaaDoor
open Go.RowKit Go.Sort
section
variable (t : Int × List (Int × List (List Int))) (f : Int × Int × List (Int × List Int))
end
section
variable {t : Int × List (Int × List (List Int))} {f : Int × Int × List (Int × List Int)}
end
end Go.Proofs.YtggelmbnliajeaaDoor
namespace Go.Proofs.YtggelmbnliajeaaDoor
open Go.RowKit Go.Sort
section
variable (t : Int × List (Int × List (List Int))) (f : Int × Int × List (Int × List Int))
end
section
variable {t : Int × List (Int × List (List Int))} {f : Int × Int × List (Int × List Int)}
end
end Go.Proofs.YtggelmbnliajeaaDoor
namespace Go.Proofs.YtggelmbnliajeaaDoor
open Go.RowKit Go.Sort
end Go.Proofs.YtggelmbnliajeaaDoor
namespace Go.Proofs.YtggelmbnliajeaaDoor
open Go.RowKit Go.Sort
end Go.Proofs.YtggelmbnliajeaaDoor
namespace Go.Proofs.YtggelmbnliajeaaDoor
open Go.RowKit Go.Sort
/-- a listener of operations: what it keeps (I), and the blocks that are its own (O); it is told operations with the property V alone -/
structure YfV (P : Program) (ar : Int) (g : FuncId) (caps : Array Value) (yc : List (List Int) → Int) (V : List Int → Prop) (I : List (List Int) → (Nat → Prop) → World → Prop) : Prop where
 stable : ∀ {told O w w'}, I told O w → (∀ k, k < w.heap.size → O k → w'.heap[k]? = w.heap[k]?) → w.heap.size ≤ w'.heap.size → I told O w'
 lt : ∀ {told O w}, I told O w → ∀ k, O k → k < w.heap.size
 step : ∀ {told O w0 w u x}, I told O w0 → Below w0.heap.size w0 w → intsT.Fr w0.heap.size w [u] x → x.length ≤ 64 → told.length ≤ 2000000 → V x →
  Calls P g (#[.agg #[.int .i64 ar, u]] ++ caps) w fun e w' => e = .returned (.int .i64 (yc (told ++ [x]))) ∧ ∃ O', I (told ++ [x]) O' w' ∧ TchP O w w' ∧ ∀ k, O' k → O k ∨ w0.heap.size ≤ k
end Go.Proofs.YtggelmbnliajeaaDoor
namespace Go.Proofs.YtggelmbnliajeaaDoor
open Go.RowKit Go.Sort
section
variable {s : Int} {ls : List (List Int)} {vs f g : List Int} {k : Nat}
end
end Go.Proofs.YtggelmbnliajeaaDoor
namespace Go.Proofs.YtggelmbnliajeaaDoor
open Go.RowKit Go.Sort
section
variable {t : Tpl} {ar : Int} {ls : List (List Int)} {vs : List Int}
end
end Go.Proofs.YtggelmbnliajeaaDoor
namespace Go.Proofs.YtggelmbnliajeaaDoor
open Go.RowKit Go.Sort
end Go.Proofs.YtggelmbnliajeaaDoor
namespace Go.Proofs.YtggelmbnliajeaaDoor
open Go.RowKit Go.Sort
end Go.Proofs.YtggelmbnliajeaaDoor
namespace Go.Proofs.YtggelmbnliajeaaDoor
open Go.RowKit Go.Sort
end Go.Proofs.YtggelmbnliajeaaDoor
namespace Go.Proofs.YtggelmbnliajeaaDoor
open Go.RowKit Go.Sort
end Go.Proofs.YtggelmbnliajeaaDoor
namespace Go.Proofs.YtggelmbnliajeaaDoor
open Go.RowKit Go.Sort
end Go.Proofs.YtggelmbnliajeaaDoor
namespace Go.Proofs.YtggelmbnliajeaaDoor
open Go.RowKit Go.Sort
end Go.Proofs.YtggelmbnliajeaaDoor

namespace Go.Proofs.YtggelmbnliajeaaDoor
open Go.RowKit Go.Sort
section
variable {s : Int} {f : Int × List Int}
end
end Go.Proofs.YtggelmbnliajeaaDoor
namespace Go.Proofs.YtggelmbnliajeaaDoor
open Go.RowKit Go.Sort
end Go.Proofs.YtggelmbnliajeaaDoor
namespace Go.Proofs.YtggelmbnliajeaaDoor
open Go.RowKit Go.Sort
end Go.Proofs.YtggelmbnliajeaaDoor
namespace Go.Proofs.YtggelmbnliajeaaDoor
open Go.RowKit Go.Sort
end Go.Proofs.YtggelmbnliajeaaDoor
namespace Go.Proofs.YtggelmbnliajeaaDoor
open Go.RowKit Go.Sort
def agR (sc tu : List Int) (i k : Nat) : Prop := sc.getD k 0 = sc.getD i 0 → tu.getD k 0 = tu.getD i 0
def agIn (sc tu : List Int) (i m : Nat) : Prop := ∀ k, k < m → agR sc tu i k
def agTo (sc tu : List Int) (n : Nat) : Prop := ∀ i, i < n → agIn sc tu i i
end Go.Proofs.YtggelmbnliajeaaDoor
namespace Go.Proofs.YtggelmbnliajeaaDoor
open Go.RowKit Go.Sort
/-- is a number one of a list's -/
def hasI (xs : List Int) (n : Int) : Bool := anyB (fun a => n == a) xs
theorem hasI_first {xs : List Int} {n : Int} : decide (0 ≤ firstI (fun a => n == a) xs) = hasI xs n := firstI_any _ _
set_option maxHeartbeats 800000 in
theorem IndexI_any (w : World) {v : Value} {xs : List Int} (h : intsT.Rd w [v] xs) (n : Int) :
  Calls Tryd.prog 78 #[v, .int .i64 n] w fun e w' => e = .returned (.int .i64 (firstI (fun a => n == a) xs)) ∧ w = w' := by
 obtain ⟨ad, cap, hv, -, hcl, hcell⟩ := ints_ex h
 obtain rfl : v = _ := by simpa using hv
 clear h hv
 go_enter Tryd.func78, Tryd.ntmps78
 go_wp2_with fail
 go_loop [8] (fun i => ∃ k : Nat, k ≤ xs.length ∧ i = .int .i64 k ∧ noneB (fun a => n == a) (xs.take k)) (fun i => xs.length - (intOf i).toNat)
 case atStart => exact ⟨0, Nat.zero_le _, rfl, noneB_zero _ _⟩
 case round =>
  obtain ⟨k, hk, rfl, hne⟩ := hrel
  have HNE := Lib.hid hne
  clear hne
  by_cases hkl : k < xs.length
  ·obtain ⟨b, o, rfl, hb, hce⟩ := hcell (by omega)
   have e0 := (hce k hkl).2
   clear hcell hce
   cases he : (n == xs[k])
   ·have HN := Lib.hid (noneB_succ (p := fun a => n == a) hkl HNE.out he)
    go_wp2_with fail
    go_round
    case rel => exact ⟨k + 1, by omega, by go_num, HN.out⟩
    case measure => simp [intOf]; omega
   ·have HN := Lib.hid (firstI_at (p := fun a => n == a) hkl HNE.out he)
    go_wp2_with fail
    go_ret
    exact ⟨ret_int HN.out.symm, rfl⟩
  ·obtain rfl : k = xs.length := by omega
   have HN : Hid (firstI (fun a => n == a) xs = -1) := firstI_none (by have := HNE.out; rwa [List.take_length] at this)
   clear hcell
   go_wp2_with fail
   go_ret
   exact ⟨ret_int HN.out.symm, rfl⟩
theorem ContainsI_any (w : World) {v : Value} {xs : List Int} (h : intsT.Rd w [v] xs) (n : Int) :
  Calls Tryd.prog 59 #[v, .int .i64 n] w fun e w' => e = .returned (.bool (hasI xs n)) ∧ w = w' := by
 have HX := Lib.hid h
 have HF := Lib.hid (hasI_first (xs := xs) (n := n))
 clear h
 go_enter Tryd.func59, Tryd.ntmps59
 go_wp2_with fail
 refine (IndexI_any _ HX.out n).mono ?_
 rintro e _ ⟨rfl, rfl⟩
 go_wp2_with fail
 go_ret
 exact ⟨ret_bool HF.out, rfl⟩
end Go.Proofs.YtggelmbnliajeaaDoor
namespace Go.Proofs.YtggelmbnliajeaaDoor
open Go.RowKit Go.Sort
end Go.Proofs.YtggelmbnliajeaaDoor
namespace Go.Proofs.YtggelmbnliajeaaDoor
open Go.RowKit Go.Sort
/-- the values of a tuple at the places of two variables are right, as far as place n -/
def okR (sc tu : List Int) (i j a b : Int) (q : Nat) : Prop := (sc.getD q 0 = i → tu.getD q 0 = a) ∧ (sc.getD q 0 = j → tu.getD q 0 = b)
def okTo (sc tu : List Int) (i j a b : Int) (n : Nat) : Prop := ∀ q, q < n → okR sc tu i j a b q
def okT (sc tu : List Int) (i j a b : Int) : Prop := okTo sc tu i j a b sc.length ∧ agTo sc tu sc.length
end Go.Proofs.YtggelmbnliajeaaDoor
namespace Go.Proofs.YtggelmbnliajeaaDoor
open Go.RowKit Go.Sort
theorem Bl.own_lt {α : Type} {E : Ty α} {e base top : Nat} {w : World} {v : Value} {ys : List α} (h : Bl E e base top w v ys) {g : Nat} (hg : v.ownBlock = some g) : g < top := by
 obtain ⟨L, fps, _, _, _, _, h5, _⟩ := h
 exact h5 g hg
theorem Bl.own_ne {α : Type} {E : Ty α} {e base top : Nat} {w : World} {v : Value} {ys : List α} (h : Bl E e base top w v ys) {b : Nat} (hb : top ≤ b) : v.ownBlock ≠ some b := fun hg => by have := h.own_lt hg; omega
end Go.Proofs.YtggelmbnliajeaaDoor
namespace Go.Proofs.YtggelmbnliajeaaDoor
open Go.RowKit Go.Sort
end Go.Proofs.YtggelmbnliajeaaDoor
namespace Go.Proofs.YtggelmbnliajeaaDoor
open Go.RowKit Go.Sort
end Go.Proofs.YtggelmbnliajeaaDoor
namespace Go.Proofs.YtggelmbnliajeaaDoor
open Go.RowKit

/-- a predicate of a value, told which block is the box -/
abbrev OP := Option Nat → VP
inductive Tag | plain | alloc | store
 deriving DecidableEq

/-- all blocks but one are as before -/
structure Bx (b : Nat) (w w' : World) : Prop where
 os : w'.os = w.os
 tape : w'.tape = w.tape
 output : w'.output = w.output
 size : w.heap.size ≤ w'.heap.size
 block : ∀ k, k < w.heap.size → k ≠ b → w'.heap[k]? = w.heap[k]?
 cells : ∀ j, (∃ u, w.cell? ⟨b, j, none⟩ = some u) → ∃ u, w'.cell? ⟨b, j, none⟩ = some u
 frozen : ∀ j, w'.frozen? ⟨b, j, none⟩ = w.frozen? ⟨b, j, none⟩
theorem Bx.setCell (b o : Nat) (w : World) (u : Value) : Bx b w (w.setCell ⟨b, o, none⟩ u) :=
 ⟨rfl, rfl, rfl, by simp [World.setCell], fun k _ hk => Below.heap_setCell _ _ _ _ hk, fun _ ⟨_, h⟩ => cell?_setCell_some h, fun _ => World.frozen?_setCell _ _ _ _⟩
theorem Bx.trans {b : Nat} {w w' w'' : World} (h : Bx b w w') (k : Bx b w' w'') : Bx b w w'' :=
 ⟨k.os.trans h.os, k.tape.trans h.tape, k.output.trans h.output, Nat.le_trans h.size k.size, fun i hi hb => (k.block i (Nat.lt_of_lt_of_le hi h.size) hb).trans (h.block i hi hb), fun j hj => k.cells j (h.cells j hj), fun j => (k.frozen j).trans (h.frozen j)⟩
theorem Bx.refl (b : Nat) (w : World) : Bx b w w := ⟨rfl, rfl, rfl, Nat.le_refl _, fun _ _ _ => rfl, fun _ h => h, fun _ => rfl⟩

/-- what an operation of a kind may do -/
def StepT : Tag → Option Nat → World → Option Nat → World → Prop
 | .plain, o, w, o', w' => o' = o ∧ Below w.heap.size w w'
 | .alloc, _, w, o', w' => o' = some w.heap.size ∧ w.heap.size < w'.heap.size ∧ Below w.heap.size w w'
 | .store, o, w, o', w' => ∃ b, o = some b ∧ o' = some b ∧ Bx b w w'

/-- predicates that outlast new memory, and the box's being made -/
def StabO (Φ : OP) : Prop := (∀ o v w1 w2, Φ o v w1 → Below w1.heap.size w1 w2 → Φ o v w2) ∧ (∀ v w1 w2, Φ none v w1 → Below w1.heap.size w1 w2 → Φ (some w1.heap.size) v w2)
/-- .. and a store into the box -/
def StabS (Φ : OP) : Prop := ∀ b v w1 w2, Φ (some b) v w1 → Bx b w1 w2 → Φ (some b) v w2
def Indep (Φ : OP) : Prop := ∀ o v v' w, Φ o v w → Φ o v' w
def StG : Tag → OP → Prop
 | .store, Φ => StabO Φ ∧ Indep Φ
 | _, Φ => StabO Φ ∧ StabS Φ
def SAll2 : List (Tag × OP) → Prop
 | Φ :: Φs => StG Φ.1 Φ.2 ∧ SAll2 Φs
 | [] => True
theorem SAll2_mem : ∀ {Φs : List (Tag × OP)}, SAll2 Φs → ∀ Φ ∈ Φs, StG Φ.1 Φ.2
 | _ :: _, h, Φ, hm => by
  rcases List.mem_cons.1 hm with rfl | hm
  ·exact h.1
  ·exact SAll2_mem h.2 Φ hm
theorem StG.o {g : Tag} {Φ : OP} (h : StG g Φ) : StabO Φ := by cases g <;> exact h.1
theorem StG.s {g : Tag} {Φ : OP} (h : StG g Φ) (hg : g ≠ .store) : StabS Φ := by
 cases g
 ·exact h.2
 ·exact h.2
 ·exact absurd rfl hg

def oneTag (g : Tag) : List Tag → Bool
 | [] => true
 | x :: r => if x = g then r.all (fun y => decide (y ≠ g)) else oneTag g r
theorem oneTag_spec {g : Tag} : ∀ {l : List Tag}, oneTag g l = true → ∀ i j : Nat, l[i]? = some g → l[j]? = some g → i = j
 | [], _, i, j, h, _ => by simp at h
 | x :: r, h, i, j, hi, hj => by
  unfold oneTag at h
  split at h
  ·rename_i hx
   have hno : ∀ k : Nat, r[k]? = some g → False := fun k hk => by
    have := List.all_eq_true.1 h g (List.mem_of_getElem? hk)
    simp at this
   match i, j with
   | 0, 0 => rfl
   | 0, j + 1 => exact (hno j (by simpa using hj)).elim
   | i + 1, _ => exact (hno i (by simpa using hi)).elim
  ·rename_i hx
   match i, j with
   | 0, _ => simp at hi; exact absurd hi hx
   | _ + 1, 0 => simp at hj; exact absurd hj hx
   | i + 1, j + 1 => rw [oneTag_spec h i j (by simpa using hi) (by simpa using hj)]
/-- what holds of the region's form -/
def boxB (l : List Oper) (gs : List Tag) (n : Nat) : Bool :=
 looseB l n && oneTag .alloc gs && oneTag .store gs && (l.zip gs).all (fun x => x.1.dst.isSome || decide (x.2 = .store))

/-- the value that an operation left, undef if it names no slot -/
def valD (a : Act) (q : Oper) : Value := match q.dst with | some d => a.eval (.tmp d) | none => undef

/-- where the region stands -/
structure BInv (l : List Oper) (Φs : List (Tag × OP)) (a : Act) (w : World) (listed : Array Bool) (a' : Act) (w' : World) (b : Option Nat) : Prop where
 below : Below w.heap.size w w'
 size : listed.size = l.length
 defers : a'.defers = a.defers
 tsize : a'.tmps.size = a.tmps.size
 old : ∀ t, (∀ (j : Nat) (o : Oper), l[j]? = some o → o.dst = some t → listed.getD j false = false) → a'.tmps[t]? = a.tmps[t]?
 new : ∀ (j : Nat) (o : Oper) (Φ : Tag × OP), l[j]? = some o → Φs[j]? = some Φ → listed.getD j false = true → Φ.2 b (valD a' o) w'
 box : ∀ k, b = some k → w.heap.size ≤ k ∧ k < w'.heap.size
 nob : ∀ (j : Nat) (Φ : Tag × OP), Φs[j]? = some Φ → Φ.1 = .alloc → listed.getD j false = false → b = none

theorem getD_set_self {listed : Array Bool} {i : Nat} (h : i < listed.size) : (listed.setIfInBounds i true).getD i false = true := by
 rw [Array.getD_eq_getD_getElem?, Array.getElem?_setIfInBounds_self_of_lt h]; rfl

theorem tag_get {Φs : List (Tag × OP)} {i : Nat} {Φ : Tag × OP} (h : Φs[i]? = some Φ) : (Φs.map Prod.fst)[i]? = some Φ.1 := by simp [h]

theorem boxB_spec {l : List Oper} {gs : List Tag} {n : Nat} (h : boxB l gs n = true) :
  looseB l n = true ∧ (∀ i j : Nat, gs[i]? = some Tag.alloc → gs[j]? = some Tag.alloc → i = j) ∧ (∀ i j : Nat, gs[i]? = some Tag.store → gs[j]? = some Tag.store → i = j) ∧
   ∀ (i : Nat) (q : Oper) (g : Tag), l[i]? = some q → gs[i]? = some g → q.dst = none → g = .store := by
 simp only [boxB, Bool.and_eq_true] at h
 obtain ⟨⟨⟨h1, h2⟩, h3⟩, h4⟩ := h
 refine ⟨h1, oneTag_spec h2, oneTag_spec h3, fun i q g hq hg hd => ?_⟩
 have hm : (q, g) ∈ l.zip gs := by
  apply List.mem_of_getElem? (i := i)
  rw [List.getElem?_zip_eq_some]
  exact ⟨hq, hg⟩
 have := List.all_eq_true.1 h4 _ hm
 simpa [hd] using this

theorem StepT.below {g : Tag} {w w' w'' : World} {o o' : Option Nat} (h : StepT g o w' o' w'') (hb : Below w.heap.size w w') (hk : ∀ k, o = some k → w.heap.size ≤ k ∧ k < w'.heap.size) : Below w.heap.size w w'' ∧ ∀ k, o' = some k → w.heap.size ≤ k ∧ k < w''.heap.size := by
 cases g with
 | plain =>
  obtain ⟨rfl, h⟩ := h
  exact ⟨bthen hb h, fun k he => ⟨(hk k he).1, Nat.lt_of_lt_of_le (hk k he).2 h.size⟩⟩
 | alloc =>
  obtain ⟨rfl, hs, h⟩ := h
  exact ⟨bthen hb h, fun k he => by simp at he; subst he; exact ⟨hb.size, hs⟩⟩
 | store =>
  obtain ⟨b, rfl, rfl, h⟩ := h
  have := hk b rfl
  exact ⟨hb.trans ⟨h.os, h.tape, h.output, h.size, fun k hlt => h.block k (Nat.lt_of_lt_of_le hlt hb.size) (by omega)⟩, fun k he => by simp at he; subst he; exact ⟨this.1, Nat.lt_of_lt_of_le this.2 h.size⟩⟩

theorem BInv.step {l : List Oper} {Φs : List (Tag × OP)} {a : Act} {w : World} {listed : Array Bool} {a' : Act} {w' w'' : World} {b b' : Option Nat} (hB : boxB l (Φs.map Prod.fst) a.tmps.size = true)
  (hst : SAll2 Φs) (h : BInv l Φs a w listed a' w' b) {i : Nat} {o : Oper} {Φ : Tag × OP} (hi : l[i]? = some o) (hΦ : Φs[i]? = some Φ) (hni : listed.getD i true = false) {v : Value} (hs : StepT Φ.1 b w' b' w'') (hv : Φ.2 b' v w'') :
  BInv l Φs a w (listed.setIfInBounds i true) (a'.put o.dst v) w'' b' := by
 have hlt : i < listed.size := by rw [h.size]; exact (List.getElem?_eq_some_iff.1 hi).1
 obtain ⟨hL, hone, hone', hdst⟩ := boxB_spec hB
 obtain ⟨_, _, hdn, hall⟩ := looseB_spec hL hi
 obtain ⟨hb1, hb2⟩ := hs.below h.below h.box
 refine ⟨hb1, by simpa using h.size, put_defers.trans h.defers, put_size.trans h.tsize, fun t ht => ?_, fun j q Ψ hj hΨ hl => ?_, hb2, fun j Ψ hΨ hg hl => ?_⟩
 ·have hne : o.dst ≠ some t := fun e => by
   have := ht i o hi e
   rw [getD_set_self hlt] at this
   cases this
  rw [put_other hne]
  refine h.old t fun j q hj hd => ?_
  have := ht j q hj hd
  by_cases e : i = j
  ·subst e; rw [getD_set_self hlt] at this; cases this
  ·rwa [getD_set_ne false e] at this
 ·by_cases e : i = j
  ·subst e
   rw [hi] at hj
   cases hj
   rw [hΦ] at hΨ
   cases hΨ
   cases hd : o.dst with
   | none =>
    have hg := hdst i o Φ.1 hi (tag_get hΦ) hd
    have hS := SAll2_mem hst Φ (List.mem_of_getElem? hΦ)
    rw [hg] at hS
    exact hS.2 _ v _ _ hv
   | some d =>
    simp only [valD, hd]
    rw [eval_put_self (by rw [h.tsize]; exact hdn d hd)]
    exact hv
  ·rw [getD_set_ne false e] at hl
   have hnew := h.new j q Ψ hj hΨ hl
   have hval : valD (a'.put o.dst v) q = valD a' q := by
    cases hd : q.dst with
    | none => simp [valD, hd]
    | some d => simp only [valD, hd]; exact eval_put_ne ((hall j q d hj hd).2 e)
   rw [hval]
   have hS := SAll2_mem hst Ψ (List.mem_of_getElem? hΨ)
   cases hg : Φ.1 with
   | plain =>
    rw [hg] at hs
    obtain ⟨rfl, hs⟩ := hs
    exact hS.o.1 _ _ _ _ hnew hs
   | alloc =>
    have hbn : b = none := h.nob i Φ hΦ hg (by
     rw [Array.getD_eq_getD_getElem?, Array.getElem?_eq_getElem hlt] at hni ⊢
     exact hni)
    rw [hg] at hs
    obtain ⟨rfl, _, hs⟩ := hs
    subst hbn
    exact hS.o.2 _ _ _ hnew hs
   | store =>
    rw [hg] at hs
    obtain ⟨k, rfl, rfl, hs⟩ := hs
    refine hS.s (fun hg' => e (hone' i j ?_ ?_)) _ _ _ _ hnew hs
    ·rw [← hg]; exact tag_get hΦ
    ·rw [← hg']; exact tag_get hΨ
 ·by_cases e : i = j
  ·subst e; rw [getD_set_self hlt] at hl; cases hl
  ·rw [getD_set_ne false e] at hl
   have hbn := h.nob j Ψ hΨ hg hl
   cases hg2 : Φ.1 with
   | plain => rw [hg2] at hs; obtain ⟨rfl, _⟩ := hs; exact hbn
   | alloc =>
    exfalso
    refine e (hone i j ?_ ?_)
    ·rw [← hg2]; exact tag_get hΦ
    ·rw [← hg]; exact tag_get hΨ
   | store => rw [hg2] at hs; obtain ⟨k, rfl, _⟩ := hs; cases hbn

def rdSO {α : Type} (E : Ty α) (x : α) : OP := fun o v W => ∃ fp, E.rd W [v] x fp ∧ ∀ k ∈ fp, o ≠ some k
theorem Bx.same {b : Nat} {w w' : World} {fp : List Nat} (h : Bx b w w') (hl : ∀ k ∈ fp, k < w.heap.size) (hn : ∀ k ∈ fp, (some b : Option Nat) ≠ some k) : Same fp w w' := fun k hk => h.block k (hl k hk) fun e => hn k hk (by rw [e])
theorem rdSO.rd {α : Type} {E : Ty α} {x : α} {W : World} {u : Value} {o : Option Nat} (h : rdSO E x o u W) : E.Rd W [u] x := let ⟨fp, h, _⟩ := h; ⟨fp, h⟩
end Go.Proofs.YtggelmbnliajeaaDoor
namespace Go.Proofs.YtggelmbnliajeaaDoor
open Go.RowKit Go.Sort
end Go.Proofs.YtggelmbnliajeaaDoor
namespace Go.Proofs.YtggelmbnliajeaaDoor
open Go.RowKit Go.Sort
end Go.Proofs.YtggelmbnliajeaaDoor
namespace Go.Proofs.YtggelmbnliajeaaDoor
open Go.RowKit Go.Sort
end Go.Proofs.YtggelmbnliajeaaDoor
namespace Go.Proofs.YtggelmbnliajeaaDoor
open Go.RowKit Go.Sort
end Go.Proofs.YtggelmbnliajeaaDoor
namespace Go.Proofs.YtggelmbnliajeaaDoor
open Go.RowKit Go.Sort
end Go.Proofs.YtggelmbnliajeaaDoor
namespace Go.Proofs.YtggelmbnliajeaaDoor
open Go.RowKit Go.Sort
section
variable {t : Tpl} {ar k : Int}
end
end Go.Proofs.YtggelmbnliajeaaDoor
namespace Go.Proofs.YtggelmbnliajeaaDoor
open Go.RowKit Go.Sort
section
variable {t : Tpl} {ar : Int} {ls : List (List Int)} {vs f : List Int}
end
end Go.Proofs.YtggelmbnliajeaaDoor
namespace Go.Proofs.YtggelmbnliajeaaDoor
open Go.RowKit Go.Sort
/-- the first one of a list for which p, or none -/
def FstR {α : Type} (p : α → Bool) (K : List α) (hit : List α → α → Prop) (miss : Prop) : Prop := (∃ K1 x K2, K = K1 ++ x :: K2 ∧ (∀ y ∈ K1, p y = false) ∧ p x = true ∧ hit K1 x) ∨ ((∀ y ∈ K, p y = false) ∧ miss)
theorem FstR.pre {α : Type} {p : α → Bool} {A B : List α} {hit hit' : List α → α → Prop} {miss miss' : Prop} (hA : ∀ y ∈ A, p y = false) (h : FstR p B hit miss) (h1 : ∀ K x, hit K x → hit' (A ++ K) x) (h2 : miss → miss') : FstR p (A ++ B) hit' miss' := by
 rcases h with ⟨K1, x, K2, rfl, g1, g2, g3⟩ | ⟨g1, g2⟩
 ·refine .inl ⟨A ++ K1, x, K2, by simp, fun y hy => (List.mem_append.1 hy).elim (hA y) (g1 y), g2, h1 _ _ g3⟩
 ·exact .inr ⟨fun y hy => (List.mem_append.1 hy).elim (hA y) (g1 y), h2 g2⟩
theorem FstR.post {α : Type} {p : α → Bool} {A B : List α} {hit' : List α → α → Prop} {K1 : List α} {x : α} {K2 : List α} {miss : Prop} (hA : A = K1 ++ x :: K2) (g1 : ∀ y ∈ K1, p y = false) (g2 : p x = true) (g3 : hit' K1 x) : FstR p (A ++ B) hit' miss :=
 .inl ⟨K1, x, K2 ++ B, by rw [hA]; simp, g1, g2, g3⟩
end Go.Proofs.YtggelmbnliajeaaDoor
namespace Go.Proofs.YtggelmbnliajeaaDoor
open Go.RowKit Go.Sort
theorem FstR.map {α β : Type} {g : α → β} {p : α → Bool} {p' : β → Bool} {K : List α} {hit : List α → α → Prop} {hit' : β → Prop} {miss miss' : Prop} (hp : ∀ y, p' (g y) = p y) (h : FstR p K hit miss) (h1 : ∀ K1 x, hit K1 x → hit' (g x)) (h2 : miss → miss') : FstR p' (K.map g) (fun _ x => hit' x) miss' := by
 rcases h with ⟨K1, x, K2, rfl, g1, g2, g3⟩ | ⟨g1, g2⟩
 ·refine .inl ⟨K1.map g, g x, K2.map g, by simp, fun y hy => ?_, by rw [hp]; exact g2, h1 _ _ g3⟩
  obtain ⟨z, hz, rfl⟩ := List.mem_map.1 hy
  rw [hp]; exact g1 z hz
 ·refine .inr ⟨fun y hy => ?_, h2 g2⟩
  obtain ⟨z, hz, rfl⟩ := List.mem_map.1 hy
  rw [hp]; exact g1 z hz
theorem FstR.idx {α : Type} {p : α → Bool} {K : List α} {hit : α → Prop} {miss : Prop} (h : FstR p K (fun _ x => hit x) miss) :
  (∃ i, ∃ h : i < K.length, p K[i] = true ∧ (∀ j (hj : j < i), p (K[j]'(by omega)) = false) ∧ hit K[i]) ∨ ((∀ j (h : j < K.length), p K[j] = false) ∧ miss) := by
 rcases h with ⟨K1, x, K2, rfl, g1, g2, g3⟩ | ⟨g1, g2⟩
 ·refine .inl ⟨K1.length, by simp, ?_, fun j hj => ?_, ?_⟩
  ·simpa using g2
  ·rw [List.getElem_append_left hj]
   exact g1 _ (List.getElem_mem hj)
  ·simpa using g3
 ·exact .inr ⟨fun j hj => g1 _ (List.getElem_mem hj), g2⟩
section
variable {t : Tpl} {ar : Int}
end
end Go.Proofs.YtggelmbnliajeaaDoor
namespace Go.Proofs.YtggelmbnliajeaaDoor
open Go.RowKit Go.Sort
section
variable {t : Tpl} {ar : Int} {ls : List (List Int)} {vs : List Int}
end
end Go.Proofs.YtggelmbnliajeaaDoor
namespace Go.Proofs.YtggelmbnliajeaaDoor
open Go.RowKit Go.Sort
section
variable {t : Tpl} {ar : Int} {ls : List (List Int)} {vs : List Int}
end
end Go.Proofs.YtggelmbnliajeaaDoor
namespace Go.Proofs.YtggelmbnliajeaaDoor
open Go.RowKit Go.Sort
end Go.Proofs.YtggelmbnliajeaaDoor
namespace Go.Proofs.YtggelmbnliajeaaDoor
open Go.RowKit Go.Sort
end Go.Proofs.YtggelmbnliajeaaDoor
namespace Go.Proofs.YtggelmbnliajeaaDoor
open Go.RowKit Go.Sort
section
variable {t : Tpl} {u : List (List Int)}
end
end Go.Proofs.YtggelmbnliajeaaDoor
namespace Go.Proofs.YtggelmbnliajeaaDoor
open Go.RowKit Go.Sort
end Go.Proofs.YtggelmbnliajeaaDoor
namespace Go.Proofs.YtggelmbnliajeaaDoor
open Go.RowKit Go.Sort
section
variable {t : Tpl} {u : List (List Int)} {k : Nat}
end
end Go.Proofs.YtggelmbnliajeaaDoor
namespace Go.Proofs.YtggelmbnliajeaaDoor
open Go.RowKit Go.Sort
end Go.Proofs.YtggelmbnliajeaaDoor
namespace Go.Proofs.YtggelmbnliajeaaDoor
open Go.RowKit Go.Sort
end Go.Proofs.YtggelmbnliajeaaDoor
namespace Go.Proofs.YtggelmbnliajeaaDoor
open Go.RowKit Go.Sort
end Go.Proofs.YtggelmbnliajeaaDoor
namespace Go.Proofs.YtggelmbnliajeaaDoor
open Go.RowKit Go.Sort
section
variable {t : Tpl} {ar : Nat}
end
end Go.Proofs.YtggelmbnliajeaaDoor
namespace Go.Proofs.YtggelmbnliajeaaDoor
open Go.RowKit Go.Sort
section
variable {t : Tpl} {u : List (List Int)}
end
end Go.Proofs.YtggelmbnliajeaaDoor
namespace Go.Proofs.YtggelmbnliajeaaDoor
open Go.RowKit Go.Sort
section
variable {t : Tpl} {u : List (List Int)}
end
end Go.Proofs.YtggelmbnliajeaaDoor
namespace Go.Proofs.YtggelmbnliajeaaDoor
open Go.RowKit Go.Sort
end Go.Proofs.YtggelmbnliajeaaDoor
namespace Go.Proofs.YtggelmbnliajeaaDoor
open Go.RowKit Go.Sort
abbrev RelV := Int × List (List Int)
section
variable {t : Tpl} {r : RelV}
end
end Go.Proofs.YtggelmbnliajeaaDoor
namespace Go.Proofs.YtggelmbnliajeaaDoor
open Go.RowKit Go.Sort
end Go.Proofs.YtggelmbnliajeaaDoor
namespace Go.Proofs.YtggelmbnliajeaaDoor
open Go.RowKit Go.Sort
section
variable {t : Tpl} {r : RelV}
end
end Go.Proofs.YtggelmbnliajeaaDoor
namespace Go.Proofs.YtggelmbnliajeaaDoor
open Go.RowKit Go.Sort
end Go.Proofs.YtggelmbnliajeaaDoor
namespace Go.Proofs.YtggelmbnliajeaaDoor
open Go.RowKit Go.Sort
section
variable {t : Tpl} {ar : Int}
end
end Go.Proofs.YtggelmbnliajeaaDoor
namespace Go.Proofs.YtggelmbnliajeaaDoor
open Go.RowKit Go.Sort
theorem ltL_irrefl {x : List Int} : ¬ ltL x x := by unfold ltL; rw [cmpL_self]; omega
theorem pw_ext : ∀ {xs ys : List (List Int)}, xs.Pairwise ltL → ys.Pairwise ltL → (∀ a, a ∈ xs ↔ a ∈ ys) → xs = ys
 | [], [], _, _, _ => rfl
 | [], y :: ys, _, _, h => absurd ((h y).2 (List.mem_cons_self ..)) (by simp)
 | x :: xs, [], _, _, h => absurd ((h x).1 (List.mem_cons_self ..)) (by simp)
 | x :: xs, y :: ys, hx, hy, h => by
  obtain ⟨x1, x2⟩ := List.pairwise_cons.1 hx
  obtain ⟨y1, y2⟩ := List.pairwise_cons.1 hy
  have e : x = y := by
   rcases List.mem_cons.1 ((h x).1 (List.mem_cons_self ..)) with e | e
   ·exact e
   ·rcases List.mem_cons.1 ((h y).2 (List.mem_cons_self ..)) with e' | e'
    ·exact e'.symm
    ·exact absurd (ltL_trans (y1 x e) (x1 y e')) ltL_irrefl
  subst e
  rw [pw_ext x2 y2 fun a => ⟨fun ha => ?_, fun ha => ?_⟩]
  ·rcases List.mem_cons.1 ((h a).1 (List.mem_cons_of_mem _ ha)) with e | e
   ·subst e; exact absurd (x1 _ ha) ltL_irrefl
   ·exact e
  ·rcases List.mem_cons.1 ((h a).2 (List.mem_cons_of_mem _ ha)) with e | e
   ·subst e; exact absurd (y1 _ ha) ltL_irrefl
   ·exact e
section
variable {t : Tpl} {r : RelV}
end
end Go.Proofs.YtggelmbnliajeaaDoor
