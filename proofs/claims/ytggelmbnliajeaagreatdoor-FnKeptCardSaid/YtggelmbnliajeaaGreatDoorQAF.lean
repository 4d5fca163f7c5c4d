/-
Contracts: the relation of a set.
Contracts: the program's search, for any listener that leans on what the operations that it is told are.
Contracts: values that are told to a search.
Plain: a polymorphism with given values. No program is named here.
Contracts: the first operation that a search finds.
Contracts: the first operation that a search finds for which a test is true, whatever the test.
Contracts: the first operation that a search finds for which a test is true: the function itself.
Contracts: the first polymorphism with given values, the program's.
Contracts: a polymorphism with given values, the program's.
Contracts: a polymorphism with given values, the program's, whole.
The library's contracts, laid at this seat's program. Written by the kit's lay-shelf and lay-plain: its numbers hold for that seat alone (shelf2.py).
The kinds of operations, in plain words; symmetric by sorting, and by swapping neighbours.
Contracts: slices.Sort and slices.Compact on new rows of numbers; the different numbers of a row.
Contracts: something of all lists; whether an operation is symmetric, the program's.
Contracts: a row of one number so many times (slices.Repeat), whatever the number: the text of F6, turned.
Contracts: whether a tuple has equal values for places with the same variable.
Contracts: whether a number is one of a list's; whether a constraint leaves values of two variables.
Contracts: the program's tests of a kind: idempotent, conservative; the different numbers of a row.
Contracts: whether a constraint leaves values of two variables, the program's.
Contracts: the pairs that constraints tell, the program's.
Contracts: the pairs that constraints tell, the reference's.
Contracts: the pairs that constraints tell, all of them.
A region that draws its order and holds one alloc and one store into it besides loads and calls that make new memory: one account serves every order. The box's block is a ghost. No program is named here.
Contracts: the program's tests of a kind that build lists: associative; three orders of two values and a third.
Contracts: sameness of formulas and instances, in the program and in the reference.
Contracts: whether an operation is of a kind, the program's.
Contracts: whether an operation is of a kind, the program's, kind by kind.
Contracts: whether an operation is of a kind, the program's: projections, semilattices; whole.
Contracts: the first polymorphism of a kind, the program's.
Contracts: a polymorphism with given values, the reference's.
Plain: the first operation of a kind, and the first one with a value at a list, in the list of all.
Plain: FirstPolymorphism and PolymorphismWith against the list of all operations.
Plain: when a polymorphism with given values is found: when there is one.
Contracts: a polymorphism with given values, the reference's, whole.
Plain: how great an operation with given values is.
Contracts: the lists of the values of tuples at all places, both sides.
Contracts: the code of tuples of which there may be a hull, both sides.
Some rows of new data that now stand in a newer row: it is new data, too. No program is named here.
The hull of tuples: what it is; the relation of all tuples; contracts: the reference's hull.
Contracts: the hull of tuples, the reference's.
Contracts: the hull of tuples, the program's.
Contracts: the hull of tuples, whole, both sides.
Contracts: the laws' own small functions on bytes; plain facts on the operations that are found.
Plain: the hull of tuples: what polymorphisms make of them.
Plain: the hull is a relation, and operations that keep the template keep it.
Contracts: whether two relations are the same, the reference's.
Contracts: the hull of a relation; whether a relation is definable; both sides.
Contracts: whether a relation is definable, both sides.
Contracts: an operation that breaks a relation, the program's.
Contracts: tuples drawn from bytes; an operation applied; the kind of an operation, checked.
Plain: the index of the first one of a kind, of the first one with a value; one number, just made.
Plain: whether a relation is its own hull, and the operation that breaks it where it is not.
Plain: the closure of a set of tuples under operations.
Contracts: the closure of a set of tuples under operations, the reference's.
-/
import Derived.Test.YtggelmbnliajeaaGreatDoorQAE
import Derived.Test.YtggelmbnliajeaaGreatDoorQAC
import Derived.Test.YtggelmbnliajeaaGreatDoorQAD
import Derived.Test.YtggelmbnliajeaaGreatDoorQAA
import Derived.Test.YtggelmbnliajeaaGreatDoorQAB
import Derived.Deep.LoopGhost
namespace Go.Proofs.YtggelmbnliajeaaGreatDoor
open Go.RowKit Go.Sort
set_option maxHeartbeats 3200000 in
set_option maxRecDepth 100000 in
theorem rel_any (w : World) {base bx g ar N : Nat} {s : Int} {T : List (List Int)} (h : Set3 w base bx g s ar N T) (hs : 1 ≤ s ∧ s ≤ 4) (har : ar ≤ 5) (hN : s ^ ar = N) (hN1 : N ≤ 1000000) (hT : ∀ l ∈ T, l.length = ar ∧ ∀ a ∈ l, 0 ≤ a ∧ a ≤ s - 1) :
  Calls Tryz.prog 93 #[.pointer (some ⟨bx, 0, none⟩)] w (RetA relT w ((ar : Int), relL s ar (fun l => tb (l ∈ T)) N)) := by
 obtain ⟨⟨s1, s2, s3, s4, s5⟩, s6, s7⟩ := id h
 have HSET := Lib.hid h
 have HTT := Lib.hid hT
 have HN := Lib.hid hN
 have hgw := s5.lt
 have HBR := Lib.hid s5
 clear h hT hN s5
 go_enter Tryz.func93, Tryz.ntmps93
 go_wp2_with fail
 generalize hW : World.alloc _ _ = W
 have hbW : Below w.heap.size w W := hW ▸ bAA
 have hsW : W.heap.size = w.heap.size + 2 := by rw [← hW]; simp
 have y0 : W.cell? ⟨w.heap.size + 1, 0, none⟩ = some (.int .i64 (ar : Int)) := by rw [← hW]; simp [go_sem]
 have y1 : W.cell? ⟨w.heap.size + 1, 1, none⟩ = some (.slice none 0 0) := by rw [← hW]; simp [go_sem]
 have y2 : W.frozen? ⟨w.heap.size + 1, 1, none⟩ = false := by rw [← hW]; simp [go_sem]
 have r0 : W.cell? ⟨w.heap.size, 0, none⟩ = some (.int .i64 0) := by rw [← hW]; simp [go_sem]
 have r1 : W.cell? ⟨w.heap.size, 1, none⟩ = some (.slice none 0 0) := by rw [← hW]; simp [go_sem]
 have r2 : W.frozen? ⟨w.heap.size, 0, none⟩ = false := by rw [← hW]; simp [go_sem]
 have r3 : W.frozen? ⟨w.heap.size, 1, none⟩ = false := by rw [← hW]; simp [go_sem]
 clear hW
 go_loopw [4] (fun i wr => ∃ (k : Nat) (v : Value), k ≤ N ∧ i = .int .i64 k ∧ Bl intsT 42 (w.heap.size + 2) wr.heap.size wr v (relL s ar (fun l => tb (l ∈ T)) k) ∧ wr.cell? ⟨w.heap.size + 1, 1, none⟩ = some v ∧ wr.cell? ⟨w.heap.size + 1, 0, none⟩ = some (.int .i64 (ar : Int)) ∧ wr.frozen? ⟨w.heap.size + 1, 1, none⟩ = false ∧ Below (w.heap.size + 1) W wr ∧ w.heap.size + 2 ≤ wr.heap.size) (fun i _ => N - (intOf i).toNat)
 case atStart => exact ⟨0, _, Nat.zero_le _, rfl, by rw [relL_zero]; simpa using Bl.nil, y1, y0, y2, Below.refl _ _, by omega⟩
 case round =>
  obtain ⟨k, v, hk, rfl, hBv, z1, z0, z2, hbe, hse⟩ := hrel
  obtain ⟨wv, rfl⟩ : ∃ wv : World, wv = wr := ⟨_, rfl⟩
  have hbw : Below w.heap.size w wv := hbW.trans (hbe.mono (by omega))
  have hlk := relL_len (s := s) (ar := ar) (p := fun l => tb (l ∈ T)) (k := k)
  obtain ⟨av0, nv0, cv0, rfl⟩ := ex_slice (hBv.fr (by unfold capMax; omega))
  have HBv := Lib.hid hBv
  have u0 := (cellB hbw s2).trans s6
  have u1 := (cellB hbw s2).trans s7
  have u2 := (cellB hbw s2).trans s4
  clear hBv y0 y1 y2
  by_cases hkl : k < N
  ·have e0 := (cellB hbw hgw).trans (HBR.out.cell (j := k) (by rw [seenL_len]; exact hkl))
   rw [seen_dig hs.1 HN.out HTT.out hkl] at e0
   have HY : Hid (tb (digL s k ar ∈ T) = true → relL s ar (fun l => tb (l ∈ T)) k ++ [digL s k ar] = relL s ar (fun l => tb (l ∈ T)) (k + 1)) := fun h => relL_yes h
   have HNo : Hid (tb (digL s k ar ∈ T) = false → relL s ar (fun l => tb (l ∈ T)) k = relL s ar (fun l => tb (l ∈ T)) (k + 1)) := fun h => relL_no h
   cases hb : tb (digL s k ar ∈ T)
   ·rw [hb] at e0
    go_wp2_with fail
    go_roundw
    case rel => exact ⟨k + 1, _, by omega, by go_num, by rw [← HNo.out hb]; exact HBv.out, z1, z0, z2, hbe, hse⟩
    case measure => simp [intOf]; omega
   ·rw [hb] at e0
    go_wp2_with fail
    clear e0
    have hkb : (k : Int) ≤ 1000000 := by omega
    refine wp_region_T (fun w' => w'.cell? ⟨w.heap.size + 1, 1, none⟩ = some (.slice av0 nv0 cv0) ∧ w'.cell? ⟨bx, 0, none⟩ = some (.int .i64 s) ∧ w'.cell? ⟨bx, 1, none⟩ = some (.int .i64 (ar : Int))) [13, 15] (by kernel_rfl) ⟨z1, u0, u1⟩ (fun hHeld => ?_)
    refine wpAnyT_take (i := 0) (v := ?_) rfl (by kernel_rfl) (fun _ _ _ h => h) (Or.inl ⟨by rfl, ?_⟩) (by assumption) ?_
    rotate_left
    ·(intro w hSw; (try dsimp only at hSw); go_simp <;> with_reducible rfl)
    go_simp
    refine wpAnyT_take (i := 1) (v := ?_) rfl (by kernel_rfl) (fun _ _ _ h => h) (Or.inl ⟨by rfl, ?_⟩) (by assumption) ?_
    rotate_left
    ·(intro w hSw; (try dsimp only at hSw); go_simp <;> with_reducible rfl)
    go_simp
    refine wpAnyT_take (i := 2) (v := ?_) rfl (by kernel_rfl) (fun _ _ _ h => h) (Or.inl ⟨by rfl, ?_⟩) (by assumption) ?_
    rotate_left
    ·(intro w hSw; (try dsimp only at hSw); go_simp <;> with_reducible rfl)
    go_simp
    refine wpAnyT_take (i := 3) (v := ?_) rfl (by kernel_rfl) (fun _ _ _ h => h) (Or.inl ⟨by rfl, ?_⟩) (by assumption) ?_
    rotate_left
    ·(intro w hSw; (try dsimp only at hSw); go_simp <;> with_reducible rfl)
    go_simp
    refine wpAnyT_take (i := 4) (v := ?_) rfl (by kernel_rfl) (fun _ _ _ h => h) (Or.inl ⟨by rfl, ?_⟩) (by assumption) ?_
    rotate_left
    ·(intro w hSw; (try dsimp only at hSw); go_simp <;> with_reducible rfl)
    go_simp
    refine wpAnyT_take (i := 5) (v := ?_) rfl (by kernel_rfl) (fun _ _ _ h => h) (Or.inl ⟨by rfl, ?_⟩) (by assumption) ?_
    rotate_left
    ·(intro w hSw; (try dsimp only at hSw); go_simp <;> with_reducible rfl)
    go_simp
    refine wpAnyT_take (i := 6) (v := ?_) rfl (by kernel_rfl) (fun _ _ _ h => h) (Or.inl ⟨by rfl, ?_⟩) (by assumption) ?_
    rotate_left
    ·(intro w hSw; (try dsimp only at hSw); go_simp <;> with_reducible rfl)
    go_simp
    refine wpAnyT_take (i := 7) (v := ?_) rfl (by kernel_rfl) (fun _ _ _ h => h) (Or.inl ⟨by rfl, ?_⟩) (by assumption) ?_
    rotate_left
    ·(intro w hSw; (try dsimp only at hSw); go_simp <;> with_reducible rfl)
    go_simp
    refine wpAnyT_take (i := 8) (v := ?_) rfl (by kernel_rfl) (fun _ _ _ h => h) (Or.inl ⟨by rfl, ?_⟩) (by assumption) ?_
    rotate_left
    ·(intro w hSw; (try dsimp only at hSw); go_simp <;> with_reducible rfl)
    go_simp
    refine wpAnyT_take (i := 9) (v := ?_) rfl (by kernel_rfl) (fun _ _ _ h => h) (Or.inl ⟨by rfl, ?_⟩) (by assumption) ?_
    rotate_left
    ·(intro w hSw; (try dsimp only at hSw); go_simp <;> with_reducible rfl)
    go_simp
    refine wpAnyT_take (i := 10) (v := ?_) rfl (by kernel_rfl) (fun _ _ _ h => h) (Or.inl ⟨by rfl, ?_⟩) (by assumption) ?_
    rotate_left
    ·(intro w hSw; (try dsimp only at hSw); go_simp <;> with_reducible rfl)
    go_simp
    refine wpAnyT_one (i := 11) rfl (by kernel_rfl) (fun K hK => ?_)
    go_simp
    go_at_call 95
    refine (l01Digits_any _ s (k : Int) ar hs.1 (by omega) har (by omega) (by omega)).mono ?_
    rintro e w1 ⟨u, rfl, hf, hb1⟩
    obtain ⟨a2, n2, c2, rfl⟩ := ex_slice hf
    have HF := Lib.hid hf
    have hb2 : Below wv.heap.size wv w1 := bthen bD hb1
    have f1 := (cellB hb2 (by omega)).trans z1
    have f2 := (cellB hb2 (by omega)).trans z0
    have f3 := (frozenB hb2 (by omega)).trans z2
    have f4 := (cellB hb2 (by have := hbw.size; omega)).trans u0
    have f5 := (cellB hb2 (by have := hbw.size; omega)).trans u1
    have hz1 := hb2.size
    clear hf hb1 hHeld
    dsimp only
    refine hK.out _ _ ⟨f1, f4, f5⟩ (fun hHeld => ?_)
    clear hK K
    refine wpAnyT_one (i := 12) rfl (by kernel_rfl) (fun K hK => ?_)
    go_simp
    refine hK.out _ _ ⟨by go_keep, by go_keep, by go_keep⟩ (fun hHeld => ?_)
    clear hK K
    refine wpAnyT_last (i := 13) rfl (by kernel_rfl) (by kernel_rfl) (fun K hK => ?_)
    refine step_push (E := intsT) _ rfl _ _ 23 42 rfl elInt64SS rfl (HBv.out.below (hb2.alloc (by omega) _) (Nat.le_refl _)) rfl news1 ((HF.out.below bA).mono (by have := (bD (w := wv)).size; omega)) (by omega) (by decide) hse (by simp; omega) ?_
    intro v1 w3 hB3 hg3 _
    rw [HY.out hb] at hB3
    have hb3 : Below (w.heap.size + 2) w1 w3 := ((Below.refl _ w1).alloc (by omega) _).grown hg3 (by simp; omega) (fun q hq => HBv.out.own hq)
    have i1 := (cellB hb3 (by omega)).trans f1
    have i2 := (cellB hb3 (by omega)).trans f2
    have i3 := (frozenB hb3 (by omega)).trans f3
    have hz3 := hb3.size
    have HB3 := Lib.hid hB3
    have hlk1 := relL_len (s := s) (ar := ar) (p := fun l => tb (l ∈ T)) (k := k + 1)
    obtain ⟨a3, n3, c3, rfl⟩ := ex_slice (hB3.fr (by unfold capMax; omega))
    clear hB3 hg3 f1 f2 f3 f4 f5 hlk1
    refine hK.out _ _ ?_
    clear hK K
    refine wpAnyT_any (i := 14) (v := ?_) rfl (by kernel_rfl) (fun _ _ _ h => h) (Or.inl ⟨by rfl, ?_⟩) (by first | exact fun _ => by assumption | (intro hp; exact absurd hp (by rw [show pastB _ _ = true by kernel_rfl]; simp))) ?_
    rotate_left
    ·(intro w hSw; (try dsimp only at hSw); go_simp <;> with_reducible rfl)
    try simp only [Act.put]
    refine wpAnyT_last (i := 15) rfl (by kernel_rfl) (by kernel_rfl) (fun K hK => ?_)
    go_simp
    refine hK.out _ _ ?_
    clear hK K
    refine wpAnyT_done (by kernel_rfl) ?_ _
    go_simp
    go_wp2_with fail
    go_roundw
    case rel => exact ⟨k + 1, _, by omega, by go_num, by rw [size_set]; exact HB3.out.sameB (fun q hq1 hq2 => Below.heap_setCell _ _ _ _ (by simp; omega)), World.cell?_setCell_same _ _ _ i1, (World.cell?_setCell_other _ _ _ _ (by simp)).trans i2, (World.frozen?_setCell _ _ _ _).trans i3, (hbe.trans ((hb2.mono (by omega)).trans (hb3.mono (by omega)))).setCell (by simp) _, by rw [size_set]; omega⟩
    case measure => simp [intOf]; omega
  ·obtain rfl : k = N := by omega
   have HF := Lib.hid (HBv.out.fr (by unfold capMax; omega))
   have q0 := (cellB hbe (by omega)).trans r0
   have q1 := (cellB hbe (by omega)).trans r1
   have q2 := (frozenB hbe (by omega)).trans r2
   have q3 := (frozenB hbe (by omega)).trans r3
   have hze : w.heap.size < wv.heap.size := by omega
   obtain ⟨RL, hRL⟩ : ∃ RL, RL = relL s ar (fun l => tb (l ∈ T)) k := ⟨_, rfl⟩
   rw [← hRL] at HF hlk
   obtain ⟨x1, x2, hx⟩ := fr_slice HF.out
   simp only [Value.slice.injEq] at hx
   obtain ⟨rfl, rfl, rfl⟩ := hx
   have HRL := Lib.hid hRL
   clear HBv hRL
   go_wp2_with fail
   obtain ⟨g0, g1⟩ := set2_cells (x := .int .i64 (ar : Int)) (y := .slice av0 RL.length cv0) q0 q1
   refine bodyPost_ret (v := .agg #[.int .i64 (ar : Int), .slice av0 RL.length cv0]) (by simp [results, Tryz.results93, go_sem, g0, g1]) rfl ⟨[.int .i64 (ar : Int), .slice av0 RL.length cv0], rfl, ?_, ?_⟩
   ·rw [← HRL.out]
    refine Ty.Fr.mono (base := w.heap.size + 2) (fr_set2 (fr_cons (I64.small (by omega) (by omega)) HF.out) ?_) ?_ <;> omega
   ·exact (hbw.setCell (by simp) _).setCell (by simp) _
end Go.Proofs.YtggelmbnliajeaaGreatDoor
namespace Go.Proofs.YtggelmbnliajeaaGreatDoor
open Go.RowKit Go.Sort
/-- a listener of operations: what it keeps (I), and the blocks that are its own (O); it is told operations with the property V alone -/
structure YfV (P : Program) (ar : Int) (g : FuncId) (caps : Array Value) (yc : List (List Int) → Int) (V : List Int → Prop) (I : List (List Int) → (Nat → Prop) → World → Prop) : Prop where
 stable : ∀ {told O w w'}, I told O w → (∀ k, k < w.heap.size → O k → w'.heap[k]? = w.heap[k]?) → w.heap.size ≤ w'.heap.size → I told O w'
 lt : ∀ {told O w}, I told O w → ∀ k, O k → k < w.heap.size
 step : ∀ {told O w0 w u x}, I told O w0 → Below w0.heap.size w0 w → intsT.Fr w0.heap.size w [u] x → x.length ≤ 64 → told.length ≤ 2000000 → V x →
  Calls P g (#[.agg #[.int .i64 ar, u]] ++ caps) w fun e w' => e = .returned (.int .i64 (yc (told ++ [x]))) ∧ ∃ O', I (told ++ [x]) O' w' ∧ TchP O w w' ∧ ∀ k, O' k → O k ∨ w0.heap.size ≤ k
end Go.Proofs.YtggelmbnliajeaaGreatDoor
namespace Go.Proofs.YtggelmbnliajeaaGreatDoor
open Go.RowKit Go.Sort
section
variable {s : Int} {ls : List (List Int)} {vs f g : List Int} {k : Nat}
end
end Go.Proofs.YtggelmbnliajeaaGreatDoor
namespace Go.Proofs.YtggelmbnliajeaaGreatDoor
open Go.RowKit Go.Sort
section
variable {t : Tpl} {ar : Int} {ls : List (List Int)} {vs : List Int}
end
end Go.Proofs.YtggelmbnliajeaaGreatDoor
namespace Go.Proofs.YtggelmbnliajeaaGreatDoor
open Go.RowKit Go.Sort
end Go.Proofs.YtggelmbnliajeaaGreatDoor
namespace Go.Proofs.YtggelmbnliajeaaGreatDoor
open Go.RowKit Go.Sort
end Go.Proofs.YtggelmbnliajeaaGreatDoor
namespace Go.Proofs.YtggelmbnliajeaaGreatDoor
open Go.RowKit Go.Sort
end Go.Proofs.YtggelmbnliajeaaGreatDoor
namespace Go.Proofs.YtggelmbnliajeaaGreatDoor
open Go.RowKit Go.Sort
end Go.Proofs.YtggelmbnliajeaaGreatDoor
namespace Go.Proofs.YtggelmbnliajeaaGreatDoor
open Go.RowKit Go.Sort
end Go.Proofs.YtggelmbnliajeaaGreatDoor
namespace Go.Proofs.YtggelmbnliajeaaGreatDoor
open Go.RowKit Go.Sort
/-- a struct of two cells, laid as a result -/
theorem res2_0 {W : World} {b : Nat} {x0 x y : Value} (s0 : W.cell? ⟨b, 0, none⟩ = some x0) : ((W.setCell ⟨b, 0, none⟩ x).setCell ⟨b, 1, none⟩ y).cell? ⟨b, 0, none⟩ = some x := (World.cell?_setCell_other _ _ _ _ (by simp)).trans (World.cell?_setCell_same _ _ _ s0)
theorem res2_1 {W : World} {b : Nat} {x1 x y : Value} (s1 : W.cell? ⟨b, 1, none⟩ = some x1) : ((W.setCell ⟨b, 0, none⟩ x).setCell ⟨b, 1, none⟩ y).cell? ⟨b, 1, none⟩ = some y := World.cell?_setCell_same _ _ _ ((World.cell?_setCell_other _ _ _ _ (by simp)).trans s1)
theorem res2_b {w W : World} {B b : Nat} {x y : Value} (h : Below B w W) (hB : B ≤ b) : Below B w ((W.setCell ⟨b, 0, none⟩ x).setCell ⟨b, 1, none⟩ y) := by
 refine ⟨h.os, h.tape, h.output, by have := h.size; simpa [World.setCell] using this, fun k hk => ?_⟩
 exact ((Below.heap_setCell _ _ _ _ (by simp; omega)).trans (Below.heap_setCell _ _ _ _ (by simp; omega))).trans (h.block k hk)
end Go.Proofs.YtggelmbnliajeaaGreatDoor

namespace Go.Proofs.YtggelmbnliajeaaGreatDoor
open Go.RowKit Go.Sort
section
variable {s : Int} {f : Int × List Int}
end
end Go.Proofs.YtggelmbnliajeaaGreatDoor
namespace Go.Proofs.YtggelmbnliajeaaGreatDoor
open Go.RowKit Go.Sort
end Go.Proofs.YtggelmbnliajeaaGreatDoor
namespace Go.Proofs.YtggelmbnliajeaaGreatDoor
open Go.RowKit Go.Sort
end Go.Proofs.YtggelmbnliajeaaGreatDoor
namespace Go.Proofs.YtggelmbnliajeaaGreatDoor
open Go.RowKit Go.Sort
end Go.Proofs.YtggelmbnliajeaaGreatDoor
namespace Go.Proofs.YtggelmbnliajeaaGreatDoor
open Go.RowKit Go.Sort
def agR (sc tu : List Int) (i k : Nat) : Prop := sc.getD k 0 = sc.getD i 0 → tu.getD k 0 = tu.getD i 0
def agIn (sc tu : List Int) (i m : Nat) : Prop := ∀ k, k < m → agR sc tu i k
def agTo (sc tu : List Int) (n : Nat) : Prop := ∀ i, i < n → agIn sc tu i i
end Go.Proofs.YtggelmbnliajeaaGreatDoor
namespace Go.Proofs.YtggelmbnliajeaaGreatDoor
open Go.RowKit Go.Sort
/-- is a number one of a list's -/
def hasI (xs : List Int) (n : Int) : Bool := anyB (fun a => n == a) xs
theorem hasI_first {xs : List Int} {n : Int} : decide (0 ≤ firstI (fun a => n == a) xs) = hasI xs n := firstI_any _ _
set_option maxHeartbeats 800000 in
theorem IndexI_any (w : World) {v : Value} {xs : List Int} (h : intsT.Rd w [v] xs) (n : Int) :
  Calls Tryz.prog 153 #[v, .int .i64 n] w fun e w' => e = .returned (.int .i64 (firstI (fun a => n == a) xs)) ∧ w = w' := by
 obtain ⟨ad, cap, hv, -, hcl, hcell⟩ := ints_ex h
 obtain rfl : v = _ := by simpa using hv
 clear h hv
 go_enter Tryz.func153, Tryz.ntmps153
 go_wp2_with fail
 go_loop [8] (fun i => ∃ k : Nat, k ≤ xs.length ∧ i = .int .i64 k ∧ noneB (fun a => n == a) (xs.take k)) (fun i => xs.length - (intOf i).toNat)
 case atStart => exact ⟨0, Nat.zero_le _, rfl, noneB_zero _ _⟩
 case round =>
  obtain ⟨k, hk, rfl, hne⟩ := hrel
  have HNE := Lib.hid hne
  clear hne
  by_cases hkl : k < xs.length
  ·obtain ⟨b, o, rfl, hb, hce⟩ := hcell (by omega)
   have e0 := (hce k hkl).2
   clear hcell hce
   cases he : (n == xs[k])
   ·have HN := Lib.hid (noneB_succ (p := fun a => n == a) hkl HNE.out he)
    go_wp2_with fail
    go_round
    case rel => exact ⟨k + 1, by omega, by go_num, HN.out⟩
    case measure => simp [intOf]; omega
   ·have HN := Lib.hid (firstI_at (p := fun a => n == a) hkl HNE.out he)
    go_wp2_with fail
    go_ret
    exact ⟨ret_int HN.out.symm, rfl⟩
  ·obtain rfl : k = xs.length := by omega
   have HN : Hid (firstI (fun a => n == a) xs = -1) := firstI_none (by have := HNE.out; rwa [List.take_length] at this)
   clear hcell
   go_wp2_with fail
   go_ret
   exact ⟨ret_int HN.out.symm, rfl⟩
theorem ContainsI_any (w : World) {v : Value} {xs : List Int} (h : intsT.Rd w [v] xs) (n : Int) :
  Calls Tryz.prog 139 #[v, .int .i64 n] w fun e w' => e = .returned (.bool (hasI xs n)) ∧ w = w' := by
 have HX := Lib.hid h
 have HF := Lib.hid (hasI_first (xs := xs) (n := n))
 clear h
 go_enter Tryz.func139, Tryz.ntmps139
 go_wp2_with fail
 refine (IndexI_any _ HX.out n).mono ?_
 rintro e _ ⟨rfl, rfl⟩
 go_wp2_with fail
 go_ret
 exact ⟨ret_bool HF.out, rfl⟩
end Go.Proofs.YtggelmbnliajeaaGreatDoor
namespace Go.Proofs.YtggelmbnliajeaaGreatDoor
open Go.RowKit Go.Sort
end Go.Proofs.YtggelmbnliajeaaGreatDoor
namespace Go.Proofs.YtggelmbnliajeaaGreatDoor
open Go.RowKit Go.Sort
/-- the values of a tuple at the places of two variables are right, as far as place n -/
def okR (sc tu : List Int) (i j a b : Int) (q : Nat) : Prop := (sc.getD q 0 = i → tu.getD q 0 = a) ∧ (sc.getD q 0 = j → tu.getD q 0 = b)
def okTo (sc tu : List Int) (i j a b : Int) (n : Nat) : Prop := ∀ q, q < n → okR sc tu i j a b q
def okT (sc tu : List Int) (i j a b : Int) : Prop := okTo sc tu i j a b sc.length ∧ agTo sc tu sc.length
end Go.Proofs.YtggelmbnliajeaaGreatDoor
namespace Go.Proofs.YtggelmbnliajeaaGreatDoor
open Go.RowKit Go.Sort
theorem Bl.own_lt {α : Type} {E : Ty α} {e base top : Nat} {w : World} {v : Value} {ys : List α} (h : Bl E e base top w v ys) {g : Nat} (hg : v.ownBlock = some g) : g < top := by
 obtain ⟨L, fps, _, _, _, _, h5, _⟩ := h
 exact h5 g hg
theorem Bl.own_ne {α : Type} {E : Ty α} {e base top : Nat} {w : World} {v : Value} {ys : List α} (h : Bl E e base top w v ys) {b : Nat} (hb : top ≤ b) : v.ownBlock ≠ some b := fun hg => by have := h.own_lt hg; omega
end Go.Proofs.YtggelmbnliajeaaGreatDoor
namespace Go.Proofs.YtggelmbnliajeaaGreatDoor
open Go.RowKit Go.Sort
end Go.Proofs.YtggelmbnliajeaaGreatDoor
namespace Go.Proofs.YtggelmbnliajeaaGreatDoor
open Go.RowKit Go.Sort
end Go.Proofs.YtggelmbnliajeaaGreatDoor
namespace Go.Proofs.YtggelmbnliajeaaGreatDoor
open Go.RowKit

/-- a predicate of a value, told which block is the box -/
abbrev OP := Option Nat → VP
inductive Tag | plain | alloc | store
 deriving DecidableEq

/-- all blocks but one are as before -/
structure Bx (b : Nat) (w w' : World) : Prop where
 os : w'.os = w.os
 tape : w'.tape = w.tape
 output : w'.output = w.output
 size : w.heap.size ≤ w'.heap.size
 block : ∀ k, k < w.heap.size → k ≠ b → w'.heap[k]? = w.heap[k]?
 cells : ∀ j, (∃ u, w.cell? ⟨b, j, none⟩ = some u) → ∃ u, w'.cell? ⟨b, j, none⟩ = some u
 frozen : ∀ j, w'.frozen? ⟨b, j, none⟩ = w.frozen? ⟨b, j, none⟩
theorem Bx.setCell (b o : Nat) (w : World) (u : Value) : Bx b w (w.setCell ⟨b, o, none⟩ u) :=
 ⟨rfl, rfl, rfl, by simp [World.setCell], fun k _ hk => Below.heap_setCell _ _ _ _ hk, fun _ ⟨_, h⟩ => cell?_setCell_some h, fun _ => World.frozen?_setCell _ _ _ _⟩
theorem Bx.trans {b : Nat} {w w' w'' : World} (h : Bx b w w') (k : Bx b w' w'') : Bx b w w'' :=
 ⟨k.os.trans h.os, k.tape.trans h.tape, k.output.trans h.output, Nat.le_trans h.size k.size, fun i hi hb => (k.block i (Nat.lt_of_lt_of_le hi h.size) hb).trans (h.block i hi hb), fun j hj => k.cells j (h.cells j hj), fun j => (k.frozen j).trans (h.frozen j)⟩
theorem Bx.refl (b : Nat) (w : World) : Bx b w w := ⟨rfl, rfl, rfl, Nat.le_refl _, fun _ _ _ => rfl, fun _ h => h, fun _ => rfl⟩

/-- what an operation of a kind may do -/
def StepT : Tag → Option Nat → World → Option Nat → World → Prop
 | .plain, o, w, o', w' => o' = o ∧ Below w.heap.size w w'
 | .alloc, _, w, o', w' => o' = some w.heap.size ∧ w.heap.size < w'.heap.size ∧ Below w.heap.size w w'
 | .store, o, w, o', w' => ∃ b, o = some b ∧ o' = some b ∧ Bx b w w'

/-- predicates that outlast new memory, and the box's being made -/
def StabO (Φ : OP) : Prop := (∀ o v w1 w2, Φ o v w1 → Below w1.heap.size w1 w2 → Φ o v w2) ∧ (∀ v w1 w2, Φ none v w1 → Below w1.heap.size w1 w2 → Φ (some w1.heap.size) v w2)
/-- .. and a store into the box -/
def StabS (Φ : OP) : Prop := ∀ b v w1 w2, Φ (some b) v w1 → Bx b w1 w2 → Φ (some b) v w2
def Indep (Φ : OP) : Prop := ∀ o v v' w, Φ o v w → Φ o v' w
def StG : Tag → OP → Prop
 | .store, Φ => StabO Φ ∧ Indep Φ
 | _, Φ => StabO Φ ∧ StabS Φ
def SAll2 : List (Tag × OP) → Prop
 | Φ :: Φs => StG Φ.1 Φ.2 ∧ SAll2 Φs
 | [] => True
theorem SAll2_mem : ∀ {Φs : List (Tag × OP)}, SAll2 Φs → ∀ Φ ∈ Φs, StG Φ.1 Φ.2
 | _ :: _, h, Φ, hm => by
  rcases List.mem_cons.1 hm with rfl | hm
  ·exact h.1
  ·exact SAll2_mem h.2 Φ hm
theorem StG.o {g : Tag} {Φ : OP} (h : StG g Φ) : StabO Φ := by cases g <;> exact h.1
theorem StG.s {g : Tag} {Φ : OP} (h : StG g Φ) (hg : g ≠ .store) : StabS Φ := by
 cases g
 ·exact h.2
 ·exact h.2
 ·exact absurd rfl hg

def oneTag (g : Tag) : List Tag → Bool
 | [] => true
 | x :: r => if x = g then r.all (fun y => decide (y ≠ g)) else oneTag g r
theorem oneTag_spec {g : Tag} : ∀ {l : List Tag}, oneTag g l = true → ∀ i j : Nat, l[i]? = some g → l[j]? = some g → i = j
 | [], _, i, j, h, _ => by simp at h
 | x :: r, h, i, j, hi, hj => by
  unfold oneTag at h
  split at h
  ·rename_i hx
   have hno : ∀ k : Nat, r[k]? = some g → False := fun k hk => by
    have := List.all_eq_true.1 h g (List.mem_of_getElem? hk)
    simp at this
   match i, j with
   | 0, 0 => rfl
   | 0, j + 1 => exact (hno j (by simpa using hj)).elim
   | i + 1, _ => exact (hno i (by simpa using hi)).elim
  ·rename_i hx
   match i, j with
   | 0, _ => simp at hi; exact absurd hi hx
   | _ + 1, 0 => simp at hj; exact absurd hj hx
   | i + 1, j + 1 => rw [oneTag_spec h i j (by simpa using hi) (by simpa using hj)]
/-- what holds of the region's form -/
def boxB (l : List Oper) (gs : List Tag) (n : Nat) : Bool :=
 looseB l n && oneTag .alloc gs && oneTag .store gs && (l.zip gs).all (fun x => x.1.dst.isSome || decide (x.2 = .store))

/-- the value that an operation left, undef if it names no slot -/
def valD (a : Act) (q : Oper) : Value := match q.dst with | some d => a.eval (.tmp d) | none => undef

/-- where the region stands -/
structure BInv (l : List Oper) (Φs : List (Tag × OP)) (a : Act) (w : World) (listed : Array Bool) (a' : Act) (w' : World) (b : Option Nat) : Prop where
 below : Below w.heap.size w w'
 size : listed.size = l.length
 defers : a'.defers = a.defers
 tsize : a'.tmps.size = a.tmps.size
 old : ∀ t, (∀ (j : Nat) (o : Oper), l[j]? = some o → o.dst = some t → listed.getD j false = false) → a'.tmps[t]? = a.tmps[t]?
 new : ∀ (j : Nat) (o : Oper) (Φ : Tag × OP), l[j]? = some o → Φs[j]? = some Φ → listed.getD j false = true → Φ.2 b (valD a' o) w'
 box : ∀ k, b = some k → w.heap.size ≤ k ∧ k < w'.heap.size
 nob : ∀ (j : Nat) (Φ : Tag × OP), Φs[j]? = some Φ → Φ.1 = .alloc → listed.getD j false = false → b = none

theorem getD_set_self {listed : Array Bool} {i : Nat} (h : i < listed.size) : (listed.setIfInBounds i true).getD i false = true := by
 rw [Array.getD_eq_getD_getElem?, Array.getElem?_setIfInBounds_self_of_lt h]; rfl

theorem tag_get {Φs : List (Tag × OP)} {i : Nat} {Φ : Tag × OP} (h : Φs[i]? = some Φ) : (Φs.map Prod.fst)[i]? = some Φ.1 := by simp [h]

theorem boxB_spec {l : List Oper} {gs : List Tag} {n : Nat} (h : boxB l gs n = true) :
  looseB l n = true ∧ (∀ i j : Nat, gs[i]? = some Tag.alloc → gs[j]? = some Tag.alloc → i = j) ∧ (∀ i j : Nat, gs[i]? = some Tag.store → gs[j]? = some Tag.store → i = j) ∧
   ∀ (i : Nat) (q : Oper) (g : Tag), l[i]? = some q → gs[i]? = some g → q.dst = none → g = .store := by
 simp only [boxB, Bool.and_eq_true] at h
 obtain ⟨⟨⟨h1, h2⟩, h3⟩, h4⟩ := h
 refine ⟨h1, oneTag_spec h2, oneTag_spec h3, fun i q g hq hg hd => ?_⟩
 have hm : (q, g) ∈ l.zip gs := by
  apply List.mem_of_getElem? (i := i)
  rw [List.getElem?_zip_eq_some]
  exact ⟨hq, hg⟩
 have := List.all_eq_true.1 h4 _ hm
 simpa [hd] using this

theorem StepT.below {g : Tag} {w w' w'' : World} {o o' : Option Nat} (h : StepT g o w' o' w'') (hb : Below w.heap.size w w') (hk : ∀ k, o = some k → w.heap.size ≤ k ∧ k < w'.heap.size) : Below w.heap.size w w'' ∧ ∀ k, o' = some k → w.heap.size ≤ k ∧ k < w''.heap.size := by
 cases g with
 | plain =>
  obtain ⟨rfl, h⟩ := h
  exact ⟨bthen hb h, fun k he => ⟨(hk k he).1, Nat.lt_of_lt_of_le (hk k he).2 h.size⟩⟩
 | alloc =>
  obtain ⟨rfl, hs, h⟩ := h
  exact ⟨bthen hb h, fun k he => by simp at he; subst he; exact ⟨hb.size, hs⟩⟩
 | store =>
  obtain ⟨b, rfl, rfl, h⟩ := h
  have := hk b rfl
  exact ⟨hb.trans ⟨h.os, h.tape, h.output, h.size, fun k hlt => h.block k (Nat.lt_of_lt_of_le hlt hb.size) (by omega)⟩, fun k he => by simp at he; subst he; exact ⟨this.1, Nat.lt_of_lt_of_le this.2 h.size⟩⟩

theorem BInv.step {l : List Oper} {Φs : List (Tag × OP)} {a : Act} {w : World} {listed : Array Bool} {a' : Act} {w' w'' : World} {b b' : Option Nat} (hB : boxB l (Φs.map Prod.fst) a.tmps.size = true)
  (hst : SAll2 Φs) (h : BInv l Φs a w listed a' w' b) {i : Nat} {o : Oper} {Φ : Tag × OP} (hi : l[i]? = some o) (hΦ : Φs[i]? = some Φ) (hni : listed.getD i true = false) {v : Value} (hs : StepT Φ.1 b w' b' w'') (hv : Φ.2 b' v w'') :
  BInv l Φs a w (listed.setIfInBounds i true) (a'.put o.dst v) w'' b' := by
 have hlt : i < listed.size := by rw [h.size]; exact (List.getElem?_eq_some_iff.1 hi).1
 obtain ⟨hL, hone, hone', hdst⟩ := boxB_spec hB
 obtain ⟨_, _, hdn, hall⟩ := looseB_spec hL hi
 obtain ⟨hb1, hb2⟩ := hs.below h.below h.box
 refine ⟨hb1, by simpa using h.size, put_defers.trans h.defers, put_size.trans h.tsize, fun t ht => ?_, fun j q Ψ hj hΨ hl => ?_, hb2, fun j Ψ hΨ hg hl => ?_⟩
 ·have hne : o.dst ≠ some t := fun e => by
   have := ht i o hi e
   rw [getD_set_self hlt] at this
   cases this
  rw [put_other hne]
  refine h.old t fun j q hj hd => ?_
  have := ht j q hj hd
  by_cases e : i = j
  ·subst e; rw [getD_set_self hlt] at this; cases this
  ·rwa [getD_set_ne false e] at this
 ·by_cases e : i = j
  ·subst e
   rw [hi] at hj
   cases hj
   rw [hΦ] at hΨ
   cases hΨ
   cases hd : o.dst with
   | none =>
    have hg := hdst i o Φ.1 hi (tag_get hΦ) hd
    have hS := SAll2_mem hst Φ (List.mem_of_getElem? hΦ)
    rw [hg] at hS
    exact hS.2 _ v _ _ hv
   | some d =>
    simp only [valD, hd]
    rw [eval_put_self (by rw [h.tsize]; exact hdn d hd)]
    exact hv
  ·rw [getD_set_ne false e] at hl
   have hnew := h.new j q Ψ hj hΨ hl
   have hval : valD (a'.put o.dst v) q = valD a' q := by
    cases hd : q.dst with
    | none => simp [valD, hd]
    | some d => simp only [valD, hd]; exact eval_put_ne ((hall j q d hj hd).2 e)
   rw [hval]
   have hS := SAll2_mem hst Ψ (List.mem_of_getElem? hΨ)
   cases hg : Φ.1 with
   | plain =>
    rw [hg] at hs
    obtain ⟨rfl, hs⟩ := hs
    exact hS.o.1 _ _ _ _ hnew hs
   | alloc =>
    have hbn : b = none := h.nob i Φ hΦ hg (by
     rw [Array.getD_eq_getD_getElem?, Array.getElem?_eq_getElem hlt] at hni ⊢
     exact hni)
    rw [hg] at hs
    obtain ⟨rfl, _, hs⟩ := hs
    subst hbn
    exact hS.o.2 _ _ _ hnew hs
   | store =>
    rw [hg] at hs
    obtain ⟨k, rfl, rfl, hs⟩ := hs
    refine hS.s (fun hg' => e (hone' i j ?_ ?_)) _ _ _ _ hnew hs
    ·rw [← hg]; exact tag_get hΦ
    ·rw [← hg']; exact tag_get hΨ
 ·by_cases e : i = j
  ·subst e; rw [getD_set_self hlt] at hl; cases hl
  ·rw [getD_set_ne false e] at hl
   have hbn := h.nob j Ψ hΨ hg hl
   cases hg2 : Φ.1 with
   | plain => rw [hg2] at hs; obtain ⟨rfl, _⟩ := hs; exact hbn
   | alloc =>
    exfalso
    refine e (hone i j ?_ ?_)
    ·rw [← hg2]; exact tag_get hΦ
    ·rw [← hg]; exact tag_get hΨ
   | store => rw [hg2] at hs; obtain ⟨k, rfl, _⟩ := hs; cases hbn

def rdSO {α : Type} (E : Ty α) (x : α) : OP := fun o v W => ∃ fp, E.rd W [v] x fp ∧ ∀ k ∈ fp, o ≠ some k
theorem Bx.same {b : Nat} {w w' : World} {fp : List Nat} (h : Bx b w w') (hl : ∀ k ∈ fp, k < w.heap.size) (hn : ∀ k ∈ fp, (some b : Option Nat) ≠ some k) : Same fp w w' := fun k hk => h.block k (hl k hk) fun e => hn k hk (by rw [e])
theorem rdSO.rd {α : Type} {E : Ty α} {x : α} {W : World} {u : Value} {o : Option Nat} (h : rdSO E x o u W) : E.Rd W [u] x := let ⟨fp, h, _⟩ := h; ⟨fp, h⟩
end Go.Proofs.YtggelmbnliajeaaGreatDoor
namespace Go.Proofs.YtggelmbnliajeaaGreatDoor
open Go.RowKit Go.Sort
end Go.Proofs.YtggelmbnliajeaaGreatDoor
namespace Go.Proofs.YtggelmbnliajeaaGreatDoor
open Go.RowKit Go.Sort
end Go.Proofs.YtggelmbnliajeaaGreatDoor
namespace Go.Proofs.YtggelmbnliajeaaGreatDoor
open Go.RowKit Go.Sort
end Go.Proofs.YtggelmbnliajeaaGreatDoor
namespace Go.Proofs.YtggelmbnliajeaaGreatDoor
open Go.RowKit Go.Sort
end Go.Proofs.YtggelmbnliajeaaGreatDoor
namespace Go.Proofs.YtggelmbnliajeaaGreatDoor
open Go.RowKit Go.Sort
end Go.Proofs.YtggelmbnliajeaaGreatDoor
namespace Go.Proofs.YtggelmbnliajeaaGreatDoor
open Go.RowKit Go.Sort
section
variable {t : Tpl} {ar k : Int}
end
end Go.Proofs.YtggelmbnliajeaaGreatDoor
namespace Go.Proofs.YtggelmbnliajeaaGreatDoor
open Go.RowKit Go.Sort
section
variable {t : Tpl} {ar : Int} {ls : List (List Int)} {vs f : List Int}
end
end Go.Proofs.YtggelmbnliajeaaGreatDoor
namespace Go.Proofs.YtggelmbnliajeaaGreatDoor
open Go.RowKit Go.Sort
/-- the first one of a list for which p, or none -/
def FstR {α : Type} (p : α → Bool) (K : List α) (hit : List α → α → Prop) (miss : Prop) : Prop := (∃ K1 x K2, K = K1 ++ x :: K2 ∧ (∀ y ∈ K1, p y = false) ∧ p x = true ∧ hit K1 x) ∨ ((∀ y ∈ K, p y = false) ∧ miss)
theorem FstR.pre {α : Type} {p : α → Bool} {A B : List α} {hit hit' : List α → α → Prop} {miss miss' : Prop} (hA : ∀ y ∈ A, p y = false) (h : FstR p B hit miss) (h1 : ∀ K x, hit K x → hit' (A ++ K) x) (h2 : miss → miss') : FstR p (A ++ B) hit' miss' := by
 rcases h with ⟨K1, x, K2, rfl, g1, g2, g3⟩ | ⟨g1, g2⟩
 ·refine .inl ⟨A ++ K1, x, K2, by simp, fun y hy => (List.mem_append.1 hy).elim (hA y) (g1 y), g2, h1 _ _ g3⟩
 ·exact .inr ⟨fun y hy => (List.mem_append.1 hy).elim (hA y) (g1 y), h2 g2⟩
theorem FstR.post {α : Type} {p : α → Bool} {A B : List α} {hit' : List α → α → Prop} {K1 : List α} {x : α} {K2 : List α} {miss : Prop} (hA : A = K1 ++ x :: K2) (g1 : ∀ y ∈ K1, p y = false) (g2 : p x = true) (g3 : hit' K1 x) : FstR p (A ++ B) hit' miss :=
 .inl ⟨K1, x, K2 ++ B, by rw [hA]; simp, g1, g2, g3⟩
end Go.Proofs.YtggelmbnliajeaaGreatDoor
namespace Go.Proofs.YtggelmbnliajeaaGreatDoor
open Go.RowKit Go.Sort
theorem FstR.map {α β : Type} {g : α → β} {p : α → Bool} {p' : β → Bool} {K : List α} {hit : List α → α → Prop} {hit' : β → Prop} {miss miss' : Prop} (hp : ∀ y, p' (g y) = p y) (h : FstR p K hit miss) (h1 : ∀ K1 x, hit K1 x → hit' (g x)) (h2 : miss → miss') : FstR p' (K.map g) (fun _ x => hit' x) miss' := by
 rcases h with ⟨K1, x, K2, rfl, g1, g2, g3⟩ | ⟨g1, g2⟩
 ·refine .inl ⟨K1.map g, g x, K2.map g, by simp, fun y hy => ?_, by rw [hp]; exact g2, h1 _ _ g3⟩
  obtain ⟨z, hz, rfl⟩ := List.mem_map.1 hy
  rw [hp]; exact g1 z hz
 ·refine .inr ⟨fun y hy => ?_, h2 g2⟩
  obtain ⟨z, hz, rfl⟩ := List.mem_map.1 hy
  rw [hp]; exact g1 z hz
theorem FstR.idx {α : Type} {p : α → Bool} {K : List α} {hit : α → Prop} {miss : Prop} (h : FstR p K (fun _ x => hit x) miss) :
  (∃ i, ∃ h : i < K.length, p K[i] = true ∧ (∀ j (hj : j < i), p (K[j]'(by omega)) = false) ∧ hit K[i]) ∨ ((∀ j (h : j < K.length), p K[j] = false) ∧ miss) := by
 rcases h with ⟨K1, x, K2, rfl, g1, g2, g3⟩ | ⟨g1, g2⟩
 ·refine .inl ⟨K1.length, by simp, ?_, fun j hj => ?_, ?_⟩
  ·simpa using g2
  ·rw [List.getElem_append_left hj]
   exact g1 _ (List.getElem_mem hj)
  ·simpa using g3
 ·exact .inr ⟨fun j hj => g1 _ (List.getElem_mem hj), g2⟩
section
variable {t : Tpl} {ar : Int}
end
end Go.Proofs.YtggelmbnliajeaaGreatDoor
namespace Go.Proofs.YtggelmbnliajeaaGreatDoor
open Go.RowKit Go.Sort
section
variable {t : Tpl} {ar : Int} {ls : List (List Int)} {vs : List Int}
end
end Go.Proofs.YtggelmbnliajeaaGreatDoor
namespace Go.Proofs.YtggelmbnliajeaaGreatDoor
open Go.RowKit Go.Sort
section
variable {t : Tpl} {ar : Int} {ls : List (List Int)} {vs : List Int}
end
end Go.Proofs.YtggelmbnliajeaaGreatDoor
namespace Go.Proofs.YtggelmbnliajeaaGreatDoor
open Go.RowKit Go.Sort
end Go.Proofs.YtggelmbnliajeaaGreatDoor
namespace Go.Proofs.YtggelmbnliajeaaGreatDoor
open Go.RowKit Go.Sort
end Go.Proofs.YtggelmbnliajeaaGreatDoor
namespace Go.Proofs.YtggelmbnliajeaaGreatDoor
open Go.RowKit Go.Sort
section
variable {t : Tpl} {u : List (List Int)}
end
end Go.Proofs.YtggelmbnliajeaaGreatDoor
namespace Go.Proofs.YtggelmbnliajeaaGreatDoor
open Go.RowKit Go.Sort
end Go.Proofs.YtggelmbnliajeaaGreatDoor
namespace Go.Proofs.YtggelmbnliajeaaGreatDoor
open Go.RowKit Go.Sort
section
variable {t : Tpl} {u : List (List Int)} {k : Nat}
end
end Go.Proofs.YtggelmbnliajeaaGreatDoor
namespace Go.Proofs.YtggelmbnliajeaaGreatDoor
open Go.RowKit Go.Sort
theorem fr_rel0 {base : Nat} {w : World} : relT.Fr base w [.int .i64 0, .slice none 0 0] (0, []) := fr_cons (I64.small (by omega) (by omega)) fr_nil
end Go.Proofs.YtggelmbnliajeaaGreatDoor
namespace Go.Proofs.YtggelmbnliajeaaGreatDoor
open Go.RowKit Go.Sort
end Go.Proofs.YtggelmbnliajeaaGreatDoor
namespace Go.Proofs.YtggelmbnliajeaaGreatDoor
open Go.RowKit Go.Sort
end Go.Proofs.YtggelmbnliajeaaGreatDoor
namespace Go.Proofs.YtggelmbnliajeaaGreatDoor
open Go.RowKit Go.Sort
section
variable {t : Tpl} {ar : Nat}
end
end Go.Proofs.YtggelmbnliajeaaGreatDoor
namespace Go.Proofs.YtggelmbnliajeaaGreatDoor
open Go.RowKit Go.Sort
section
variable {t : Tpl} {u : List (List Int)}
end
end Go.Proofs.YtggelmbnliajeaaGreatDoor
namespace Go.Proofs.YtggelmbnliajeaaGreatDoor
open Go.RowKit Go.Sort
section
variable {t : Tpl} {u : List (List Int)}
end
end Go.Proofs.YtggelmbnliajeaaGreatDoor
namespace Go.Proofs.YtggelmbnliajeaaGreatDoor
open Go.RowKit Go.Sort
set_option maxHeartbeats 3200000 in
set_option maxRecDepth 100000 in
theorem l01Same_quiet (w : World) {va vb : Value} {r q : Int × List (List Int)} (h1 : relT.Pt w va r) (h2 : relT.Pt w vb q) :
    Calls Tryz.prog 70 #[va, vb] w fun e w' => e = .returned (.bool (eqB r q)) ∧ Quiet w w' := by
  obtain ⟨b1, o1, a1, c1, rfl, hb1, -, p0, p1, hr1⟩ := pt_pair h1
  obtain ⟨b2, o2, a2, c2, rfl, hb2, -, q0, q1, hr2⟩ := pt_pair h2
  have HR1 := Lib.hid hr1
  have HR2 := Lib.hid hr2
  have hle1 : r.2.length ≤ 140737488351232 := by obtain ⟨_, _, he, _, h, _⟩ := slices_ex hr1; exact h
  have hle2 : q.2.length ≤ 140737488351232 := by obtain ⟨_, _, he, _, h, _⟩ := slices_ex hr2; exact h
  clear h1 h2 hr1 hr2
  cases hA : (r.1 != q.1)
  rotate_left
  · have HE : Hid (eqB r q = false) := eqB_fst (by simpa using hA)
    go_enter Tryz.func70, Tryz.ntmps70
    go_wp2_with fail
    go_quiet (fail)
    go_wp2_with fail
    go_ret
    exact ⟨ret_bool HE.out.symm, Quiet.drewN _ _⟩
  have hA' : r.1 = q.1 := by simpa using hA
  cases hL : ((r.2.length : Int) != (q.2.length : Int))
  rotate_left
  · have HE : Hid (eqB r q = false) := by
      unfold Hid
      refine eqB_snd hA' (eqB_len ?_)
      have : (r.2.length : Int) ≠ (q.2.length : Int) := by simpa using hL
      omega
    go_enter Tryz.func70, Tryz.ntmps70
    go_wp2_with fail
    go_quiet (fail)
    go_wp2_with fail
    go_ret
    exact ⟨ret_bool HE.out.symm, Quiet.drewN _ _⟩
  have hL' : r.2.length = q.2.length := by have : (r.2.length : Int) = (q.2.length : Int) := by simpa using hL
                                           omega
  have HLL := Lib.hid hL'
  have HA := Lib.hid hA'
  clear hA' hL'
  go_enter Tryz.func70, Tryz.ntmps70
  go_wp2_with fail
  go_quiet (fail)
  rename_i nq
  generalize hWq : w.drewN nq = wq
  have hq0 : Quiet w wq := ⟨nq, hWq.symm⟩
  have hbq := hq0.below
  replace p1 := (cellB hbq (by omega)).trans p1
  replace q1 := (cellB hbq (by omega)).trans q1
  have hzq := hbq.size
  have HS1 := Lib.hid (HR1.out.below hbq)
  have HS2 := Lib.hid (HR2.out.below hbq)
  clear hWq p0 q0 hA hL
  go_wp2_with fail
  obtain ⟨wz, rfl⟩ : ∃ wz : World, wz = wq := ⟨_, rfl⟩
  go_loopw [5] (fun i wr => ∃ k : Nat, k ≤ r.2.length ∧ i = .int .i64 k ∧ r.2.take k = q.2.take k ∧ Quiet wz wr) (fun i _ => r.2.length - (intOf i).toNat)
  case atStart => exact ⟨0, Nat.zero_le _, rfl, by simp, Quiet.refl _⟩
  case round =>
    obtain ⟨k, hk, rfl, htk, hq⟩ := hrel
    have HTK := Lib.hid htk
    have hbe := hq.below
    have d1 := (cellB hbe (show b1 < wz.heap.size by omega)).trans p1
    have d2 := (cellB hbe (show b2 < wz.heap.size by omega)).trans q1
    clear htk
    by_cases hkl : k < r.2.length
    · have hkl2 : k < q.2.length := by have := HLL.out; omega
      obtain ⟨_, _, e1, -, -, hc1⟩ := slices_ex HS1.out
      simp only [List.cons.injEq, Value.slice.injEq, and_true, true_and] at e1
      obtain ⟨rfl, rfl⟩ := e1
      obtain ⟨_, _, e2, -, -, hc2⟩ := slices_ex HS2.out
      simp only [List.cons.injEq, Value.slice.injEq, and_true, true_and] at e2
      obtain ⟨rfl, rfl⟩ := e2
      obtain ⟨ba, oa, rfl, hba, hca⟩ := hc1 (by omega)
      obtain ⟨bb, ob, rfl, hbb, hcb⟩ := hc2 (by omega)
      obtain ⟨u1, hu1, g1⟩ := hca k hkl
      obtain ⟨u2, hu2, g2⟩ := hcb k hkl2
      obtain ⟨x1, y1, rfl⟩ := rd_slice hu1
      obtain ⟨x2, y2, rfl⟩ := rd_slice hu2
      have s1 := (cellB hbe hba).trans g1
      have s2 := (cellB hbe hbb).trans g2
      have cS : ∀ n, Calls Tryz.prog 69 #[.slice x1 (r.2[k]).length y1, .slice x2 (q.2[k]).length y2] (wr.drewN n) fun e w'' => e = .returned (.bool (eqB r.2[k] q.2[k])) ∧ ∃ m, w'' = wr.drewN m := fun n => quiet_call (l00Same_quiet _ ((hu1.below hbe).below (Quiet.drewN wr n).below) ((hu2.below hbe).below (Quiet.drewN wr n).below))
      clear hc1 hc2 hca hcb hu1 hu2 g1 g2
      cases he : eqB r.2[k] q.2[k]
      · have HE : Hid (eqB r q = false) := by
          unfold Hid
          have hne : r.2[k] ≠ q.2[k] := fun e => by rw [eqB_true e] at he; cases he
          exact eqB_snd HA.out (eqB_get hkl hkl2 hne)
        rw [he] at cS
        clear he
        go_wp2_with fail
        go_quiet (exact cS _)
        go_wp2_with fail
        go_ret
        exact ⟨ret_bool HE.out.symm, (hq0.then hq).then (Quiet.drewN _ _)⟩
      · have HN := Lib.hid (take_eq_succ hkl hkl2 HTK.out (eqB_iff.1 he))
        rw [he] at cS
        clear he
        go_wp2_with fail
        go_quiet (exact cS _)
        go_wp2_with fail
        go_roundw
        case rel => exact ⟨k + 1, by omega, by go_num, HN.out, hq.then (Quiet.drewN _ _)⟩
        case measure => simp [intOf]; omega
    · obtain rfl : k = r.2.length := by omega
      have HE : Hid (eqB r q = true) := by
        unfold Hid
        refine eqB_true (Prod.ext HA.out ?_)
        have h1 := HTK.out
        have h2 := HLL.out
        rw [List.take_of_length_le (Nat.le_refl _), List.take_of_length_le (by omega)] at h1
        exact h1
      go_wp2_with fail
      go_ret
      exact ⟨ret_bool HE.out.symm, hq0.then hq⟩
end Go.Proofs.YtggelmbnliajeaaGreatDoor
namespace Go.Proofs.YtggelmbnliajeaaGreatDoor
open Go.RowKit Go.Sort
abbrev RelV := Int × List (List Int)
section
variable {t : Tpl} {r : RelV}
end
end Go.Proofs.YtggelmbnliajeaaGreatDoor
namespace Go.Proofs.YtggelmbnliajeaaGreatDoor
open Go.RowKit Go.Sort
end Go.Proofs.YtggelmbnliajeaaGreatDoor
namespace Go.Proofs.YtggelmbnliajeaaGreatDoor
open Go.RowKit Go.Sort
section
variable {t : Tpl} {r : RelV}
end
end Go.Proofs.YtggelmbnliajeaaGreatDoor
namespace Go.Proofs.YtggelmbnliajeaaGreatDoor
open Go.RowKit Go.Sort
end Go.Proofs.YtggelmbnliajeaaGreatDoor
namespace Go.Proofs.YtggelmbnliajeaaGreatDoor
open Go.RowKit Go.Sort
section
variable {t : Tpl} {ar : Int}
end
end Go.Proofs.YtggelmbnliajeaaGreatDoor
namespace Go.Proofs.YtggelmbnliajeaaGreatDoor
open Go.RowKit Go.Sort
theorem ltL_irrefl {x : List Int} : ¬ ltL x x := by unfold ltL; rw [cmpL_self]; omega
theorem pw_ext : ∀ {xs ys : List (List Int)}, xs.Pairwise ltL → ys.Pairwise ltL → (∀ a, a ∈ xs ↔ a ∈ ys) → xs = ys
 | [], [], _, _, _ => rfl
 | [], y :: ys, _, _, h => absurd ((h y).2 (List.mem_cons_self ..)) (by simp)
 | x :: xs, [], _, _, h => absurd ((h x).1 (List.mem_cons_self ..)) (by simp)
 | x :: xs, y :: ys, hx, hy, h => by
  obtain ⟨x1, x2⟩ := List.pairwise_cons.1 hx
  obtain ⟨y1, y2⟩ := List.pairwise_cons.1 hy
  have e : x = y := by
   rcases List.mem_cons.1 ((h x).1 (List.mem_cons_self ..)) with e | e
   ·exact e
   ·rcases List.mem_cons.1 ((h y).2 (List.mem_cons_self ..)) with e' | e'
    ·exact e'.symm
    ·exact absurd (ltL_trans (y1 x e) (x1 y e')) ltL_irrefl
  subst e
  rw [pw_ext x2 y2 fun a => ⟨fun ha => ?_, fun ha => ?_⟩]
  ·rcases List.mem_cons.1 ((h a).1 (List.mem_cons_of_mem _ ha)) with e | e
   ·subst e; exact absurd (x1 _ ha) ltL_irrefl
   ·exact e
  ·rcases List.mem_cons.1 ((h a).2 (List.mem_cons_of_mem _ ha)) with e | e
   ·subst e; exact absurd (y1 _ ha) ltL_irrefl
   ·exact e
theorem sortedL_pw {xs : List (List Int)} (h : sortedL xs) : xs.Pairwise ltL := List.pairwise_iff_getElem.2 fun _ _ _ hj hij => sortedL_lt h hj hij
section
variable {t : Tpl} {r : RelV}
end
end Go.Proofs.YtggelmbnliajeaaGreatDoor
namespace Go.Proofs.YtggelmbnliajeaaGreatDoor
open Go.RowKit Go.Sort
/-- what operations make of tuples, and of what they make -/
inductive Clo (s : Int) (ops : List (Int × List Int)) (ar : Nat) (T : List (List Int)) : List Int → Prop
 | base {l : List Int} (h : l ∈ T) : Clo s ops ar T l
 | step {f : Int × List Int} {ts : List (List Int)} (hf : f ∈ ops) (hl : (ts.length : Int) = f.1) (h : ∀ l ∈ ts, Clo s ops ar T l) : Clo s ops ar T (madeL s f.2 ts ar)
def tupP (s : Int) (ar : Nat) (l : List Int) : Prop := l.length = ar ∧ ∀ a ∈ l, 0 ≤ a ∧ a ≤ s - 1
theorem madeL_in {s : Int} {f : Int × List Int} {ts : List (List Int)} {m : Nat} (hf : opOk s f) (ht : tupsOk s f.1 m ts) : tupP s m (madeL s f.2 ts m) := by
 refine ⟨madeL_len, fun a ha => ?_⟩
 obtain ⟨p, hp, rfl⟩ := List.mem_map.1 ha
 rw [madeV_op]
 have hp' : p < m := by simpa using hp
 exact opV_in hf (by rw [colL_len]; exact ht.1) (colL_in ht hp')
theorem clo_in {s : Int} {ops : List (Int × List Int)} {ar : Nat} {T : List (List Int)} (ho : ∀ f ∈ ops, opOk s f) (hT : ∀ l ∈ T, tupP s ar l) {l : List Int} (h : Clo s ops ar T l) : tupP s ar l := by
 induction h with
 | base h => exact hT _ h
 | step hf hl _ ih => exact madeL_in (ho _ hf) ⟨hl, fun l hl => ih l hl⟩
/-- all tuples for which something is so, in order -/
theorem relL_iff {s : Int} {ar N : Nat} {p : List Int → Bool} (hs : 1 ≤ s) (hN : s ^ ar = N) {l : List Int} (hl : tupP s ar l) : l ∈ relL s ar p N ↔ p l = true := by
 have hb := idx_lt hs hl.1 hl.2
 rw [hN] at hb
 have e := dig_of hs hl.1 hl.2
 have h := relL_mem (s := s) (n := ar) (N := N) (p := p) (k := (idxL s 0 l).toNat) (by omega)
 rw [show (((idxL s 0 l).toNat : Nat) : Int) = idxL s 0 l by omega, e] at h
 rw [← h, tb_iff]
theorem relL_tup {s : Int} {ar N : Nat} {p : List Int → Bool} (hs : 1 ≤ s) {l : List Int} (h : l ∈ relL s ar p N) : tupP s ar l := by
 obtain ⟨h1, -⟩ := List.mem_filter.1 h
 obtain ⟨k, -, rfl⟩ := List.mem_map.1 h1
 exact ⟨digL_len, digL_in hs⟩
theorem relL_ok {s : Int} {ar N : Nat} {p : List Int → Bool} (hs : sizeOk s) (har : 1 ≤ ar ∧ ar ≤ 4) (hN : s ^ ar = N) : relOk s ((ar : Int), relL s ar p N) := by
 have h1 := hs.1
 refine ⟨hs, ⟨by show (1 : Int) ≤ ar; omega, by show (ar : Int) ≤ 4; omega⟩, fun i hi => ⟨?_, relL_sorted h1 hN i hi⟩⟩
 have := relL_tup h1 (List.getElem_mem hi)
 exact ⟨by show ((_ : Nat) : Int) = (ar : Int); rw [this.1], this.2⟩
theorem relL_sub {s : Int} {ar N : Nat} {p q : List Int → Bool} (h : ∀ l, p l = true → q l = true) : (relL s ar p N).Sublist (relL s ar q N) := by
 unfold relL
 generalize (List.range N).map (fun i : Nat => digL s i ar) = L
 induction L with
 | nil => exact List.Sublist.refl _
 | cons a L ih =>
  cases hp : p a
  ·rw [List.filter_cons_of_neg (by simp [hp])]
   cases hq : q a
   ·rw [List.filter_cons_of_neg (by simp [hq])]; exact ih
   ·rw [List.filter_cons_of_pos hq]; exact ih.cons _
  ·rw [List.filter_cons_of_pos hp, List.filter_cons_of_pos (h a hp)]
   exact ih.cons_cons _
/-- the set as a relation -/
noncomputable def setR (s : Int) (ar N : Nat) (T : List (List Int)) : List (List Int) := relL s ar (fun l => tb (l ∈ T)) N
theorem setR_mem {s : Int} {ar N : Nat} {T : List (List Int)} (hs : 1 ≤ s) (hN : s ^ ar = N) (hT : ∀ l ∈ T, tupP s ar l) {l : List Int} : l ∈ setR s ar N T ↔ l ∈ T :=
 ⟨fun h => tb_iff.1 ((relL_iff hs hN (relL_tup hs h)).1 h), fun h => (relL_iff hs hN (hT l h)).2 (tb_true h)⟩
/-- an operation keeps a relation just if it makes a tuple of it of any tuples of it -/
theorem keeps_iff {s : Int} {f : Int × List Int} {ar : Nat} {R : List (List Int)} (hf : 1 ≤ f.1) : keepsP s f ((ar : Int), R) ↔ ∀ ts : List (List Int), (ts.length : Int) = f.1 → (∀ l ∈ ts, l ∈ R) → madeL s f.2 ts ar ∈ R := by
 constructor
 ·intro h ts hl hts
  have h0 : 0 < R.length := by
   cases ts with
   | nil => simp at hl; omega
   | cons a ts => exact List.length_pos_of_mem (hts a (List.mem_cons_self ..))
  obtain ⟨j, hj, hpj⟩ := picks_some (ts := R) (L := ts) hts h0
  have := h j (by rw [← hl, Int.toNat_natCast]; exact hj)
  unfold makes at this
  rw [← hl, Int.toNat_natCast] at this
  simp only [Int.toNat_natCast] at this
  rwa [hpj] at this
 ·intro h i hi
  have h0 : 0 < R.length := by
   rcases Nat.eq_zero_or_pos R.length with h | h
   ·have hi' : (i : Int) < (R.length : Int) ^ f.1.toNat := hi
    rw [h, show ((0 : Nat) : Int) = 0 from rfl, Int.zero_pow (by omega)] at hi'
    omega
   ·exact h
  have := h (picks R f.1.toNat i) (by rw [picks_len]; omega) (fun l hl => by
   obtain ⟨k, hk, rfl⟩ := List.mem_map.1 hl
   obtain ⟨k1, k2⟩ := dig_mem (by omega) hk
   have hkl : k.toNat < R.length := by omega
   rw [List.getD_eq_getElem?_getD, List.getElem?_eq_getElem hkl]
   exact List.getElem_mem hkl)
  unfold makes
  simpa using this
/-- a relation that is closed, and lies in the closure of what lies in it, is the closure -/
theorem clo_closed {s : Int} {ops : List (Int × List Int)} {ar : Nat} {T R : List (List Int)} (ho : ∀ f ∈ ops, opOk s f) (h1 : ∀ l ∈ T, l ∈ R) (h2 : ∀ l ∈ R, Clo s ops ar T l) (h3 : ∀ f ∈ ops, keepsP s f ((ar : Int), R)) {l : List Int} : l ∈ R ↔ Clo s ops ar T l := by
 refine ⟨h2 l, fun h => ?_⟩
 induction h with
 | base h => exact h1 _ h
 | step hf hl _ ih => exact (keeps_iff (ho _ hf).2.1.1).1 (h3 _ hf) _ hl ih
/-- a round that adds nothing: all is closed -/
theorem round_end {s : Int} {ops : List (Int × List Int)} {ar N : Nat} {T0 T : List (List Int)} (hs : 1 ≤ s) (hN : s ^ ar = N) (hT : ∀ l ∈ T, tupP s ar l) (hsub : ∀ l ∈ T0, l ∈ T)
  (hall : ∀ f ∈ ops, ∀ k : Nat, (k : Int) < ((setR s ar N T0).length : Int) ^ f.1.toNat → makes s f ((ar : Int), setR s ar N T0) k ∈ T) (hlen : (setR s ar N T).length = (setR s ar N T0).length) :
  setR s ar N T = setR s ar N T0 ∧ ∀ f ∈ ops, keepsP s f ((ar : Int), setR s ar N T) := by
 have e : setR s ar N T0 = setR s ar N T := (relL_sub (fun l h => tb_true (hsub l (tb_iff.1 h)))).eq_of_length hlen.symm
 refine ⟨e.symm, fun f hf k hk => ?_⟩
 rw [← e] at hk ⊢
 rw [e]
 rw [setR_mem hs hN hT, ← e]
 exact hall f hf k hk
theorem round_more {s : Int} {ar N : Nat} {T0 T : List (List Int)} (hsub : ∀ l ∈ T0, l ∈ T) : (setR s ar N T0).length ≤ (setR s ar N T).length ∧ (setR s ar N T).length ≤ N :=
 ⟨(relL_sub (fun l h => tb_true (hsub l (tb_iff.1 h)))).length_le, relL_len⟩
end Go.Proofs.YtggelmbnliajeaaGreatDoor
namespace Go.Proofs.YtggelmbnliajeaaGreatDoor
open Go.RowKit Go.Sort
theorem pairs_exPb {ok : Nat → Prop} {w : World} {u : Value} {xs : List (Int × List Int)} (h : opsT.RdP ok w [u] xs) :
  ∃ ad cap, u = .slice ad xs.length cap ∧ xs.length ≤ 140737488351232 ∧ (0 < xs.length → ∃ b o, ad = some ⟨b, o, none⟩ ∧ b < w.heap.size ∧ ok b ∧ ∀ i (h : i < xs.length), w.cell? ⟨b, o + i * 2, none⟩ = some (.int .i64 xs[i].1)) := by
 obtain ⟨ad, cap, h1, h2, h3, h4⟩ := slice_exP h
 refine ⟨ad, cap, by simpa using h1, h3, fun hp => ?_⟩
 obtain ⟨b, o, h5, h6, hok, h7⟩ := h4 hp
 refine ⟨b, o, h5, h6, hok, fun i hi => ?_⟩
 obtain ⟨cs, ⟨fp, ⟨cs', rfl, hI, h8⟩, hf⟩, h10⟩ := h7 i hi
 have h11 := h10 0 (by simp)
 rw [List.getElem_cons_zero] at h11
 simpa [Ty.slice, Ty.cons] using h11
/-- between some tuples and their closure -/
def Mid (s : Int) (ops : List (Int × List Int)) (ar : Nat) (T0 T : List (List Int)) : Prop := (∀ l ∈ T, tupP s ar l) ∧ (∀ l ∈ T0, l ∈ T) ∧ ∀ l ∈ T, Clo s ops ar T0 l
theorem Mid.add {s : Int} {ops : List (Int × List Int)} {ar : Nat} {T0 T : List (List Int)} (h : Mid s ops ar T0 T) {l : List Int} (h1 : tupP s ar l) (h2 : Clo s ops ar T0 l) : Mid s ops ar T0 (T ++ [l]) :=
 ⟨fun x hx => (List.mem_append.1 hx).elim (h.1 x) (fun h => by rw [List.mem_singleton.1 h]; exact h1), fun x hx => List.mem_append_left _ (h.2.1 x hx), fun x hx => (List.mem_append.1 hx).elim (h.2.2 x) (fun h => by rw [List.mem_singleton.1 h]; exact h2)⟩
/-- a relation of the tuples in the closure -/
def CloR (s : Int) (ops : List (Int × List Int)) (ar : Nat) (T0 : List (List Int)) (g : Nat) (w : World) (e : Ending) (w' : World) : Prop :=
 ∃ (cs : List Value) (M : List (List Int)), e = .returned (.agg cs.toArray) ∧ relT.Fr w.heap.size w' cs ((ar : Int), M) ∧ relOk s ((ar : Int), M) ∧ (∀ l, l ∈ M ↔ Clo s ops ar T0 l) ∧ TchP (fun q => q = g) w w'
set_option maxHeartbeats 6400000 in
set_option maxRecDepth 100000 in
theorem l02Closure_any (w : World) {base bx g ar N : Nat} {s : Int} {T0 : List (List Int)} (h : Set3 w base bx g s ar N T0) (hs : sizeOk s) (har : 1 ≤ ar ∧ ar ≤ 4) (hN : s ^ ar = N) (hT0 : ∀ l ∈ T0, tupP s ar l) {v : Value} {ops : List (Int × List Int)} (hv : opsT.RdP (fun q => q ≠ g) w [v] ops) (ho : ∀ f ∈ ops, opOk s f) :
  Calls Tryz.prog 39 #[.int .i64 s, v, .pointer (some ⟨bx, 0, none⟩)] w (CloR s ops ar T0 g w) := by
 have hs4 := hs
 unfold sizeOk at hs4
 have hgw := h.1.2.2.2.2.lt
 have hbg : g ≠ bx := h.1.2.2.1
 have hbx := h.1.2.1
 have hN256 : N ≤ 256 := by
  have h1 : s ^ ar ≤ 256 := by
   refine Int.le_trans (pow_mono' (by omega) (show s ≤ 4 by omega) ar) ?_
   rcases (show ar = 1 ∨ ar = 2 ∨ ar = 3 ∨ ar = 4 by omega) with e | e | e | e <;> rw [e] <;> decide
  omega
 obtain ⟨oad, ocap, hvv, hol, hoc⟩ := pairs_exPb hv
 have HOPS : Hid (∀ X, TchP (fun q => q = g) w X → opsT.RdP (fun q => q ≠ g) X [v] ops) := fun X hX => hv.tchP hX (fun k _ h1 h2 => h1 h2)
 subst hvv
 have HSET := Lib.hid h
 have HN := Lib.hid hN
 have HT0 := Lib.hid hT0
 have HO := Lib.hid ho
 have HS := Lib.hid hs
 have HOC := Lib.hid hoc
 have hrl : ∀ T, (setR s ar N T).length ≤ N := fun T => relL_len
 have HRL := Lib.hid hrl
 clear h hN hT0 hv ho hs hoc hrl
 go_enter Tryz.func39, Tryz.ntmps39
 go_wp2_with fail
 generalize hW : World.alloc w _ = W
 have hbW : Below w.heap.size w W := hW ▸ bA
 have hsW : W.heap.size = w.heap.size + 1 := by rw [← hW]; simp
 have r0 : W.cell? ⟨w.heap.size, 0, none⟩ = some (.int .i64 0) := by rw [← hW]; simp [go_sem]
 have r1 : W.cell? ⟨w.heap.size, 1, none⟩ = some (.slice none 0 0) := by rw [← hW]; simp [go_sem]
 have r2 : W.frozen? ⟨w.heap.size, 0, none⟩ = false := by rw [← hW]; simp [go_sem]
 have r3 : W.frozen? ⟨w.heap.size, 1, none⟩ = false := by rw [← hW]; simp [go_sem]
 clear hW
 have HS0 : Hid (Set3 W base bx g s ar N T0) := HSET.out.below hbW (Nat.le_refl _)
 have HTW : Hid (TchP (fun q => q = g) w W) := TchP.of_below hbW _
 have HM0 : Hid (Mid s ops ar T0 T0) := ⟨HT0.out, fun _ h => h, fun _ h => .base h⟩
 clear HSET
 go_loopg [] N (fun gm wr => ∃ T : List (List Int), Set3 wr base bx g s ar N T ∧ Mid s ops ar T0 T ∧ TchP (fun q => q = g) W wr ∧ N - (setR s ar N T).length ≤ gm)
 case atStart => exact ⟨T0, HS0.out, HM0.out, TchP.refl _ _, by omega⟩
 case round =>
  obtain ⟨T, hS, hM, hT, hgm⟩ := hrel
  obtain ⟨wv, rfl⟩ : ∃ wv : World, wv = wr := ⟨_, rfl⟩
  have HS1 := Lib.hid hS
  have HM1 := Lib.hid hM
  have HT1 := Lib.hid hT
  have hzv := hT.size
  clear hS hM hT HS0 HM0
  go_wp2_with fail
  refine (rel_any wv HS1.out hs4 (by omega) HN.out (by omega) (fun l hl => HM1.out.1 l hl)).mono ?_
  rintro e w1 ⟨cs, rfl, hf, hb1⟩
  obtain ⟨R, hR⟩ : ∃ R, R = setR s ar N T := ⟨_, rfl⟩
  change relT.Fr wv.heap.size w1 cs ((ar : Int), setR s ar N T) at hf
  rw [← hR] at hf hgm
  have hRN : R.length ≤ N := by rw [hR]; exact HRL.out T
  have HR := Lib.hid hR
  obtain ⟨a1, c1, rfl⟩ := fr_pair hf
  have hROK : relOk s ((ar : Int), R) := by rw [hR]; exact relL_ok HS.out har HN.out
  have HROK := Lib.hid hROK
  have hz1 := hb1.size
  have HRP : Hid (rowsT.RdP (fun q => wv.heap.size ≤ q) w1 [.slice a1 R.length c1] R) := by
   obtain ⟨fp, hfp, -, hge, -⟩ := hf
   obtain ⟨cs', he, -, h3⟩ := hfp
   simp only [List.cons.injEq, true_and] at he
   rw [← he] at h3
   exact ⟨fp, h3, hge⟩
  clear hf hR hROK
  go_wp2_with fail
  generalize hWb : World.alloc w1 _ = wb
  have hbb : Below w1.heap.size w1 wb := hWb ▸ bA
  have hsb : wb.heap.size = w1.heap.size + 1 := by rw [← hWb]; simp
  have b0 : wb.cell? ⟨w1.heap.size, 0, none⟩ = some (.int .i64 (ar : Int)) := by rw [← hWb]; simp [go_sem]
  have b1 : wb.cell? ⟨w1.heap.size, 1, none⟩ = some (.slice a1 R.length c1) := by rw [← hWb]; simp [go_sem]
  have b2 : wb.frozen? ⟨w1.heap.size, 0, none⟩ = false := by rw [← hWb]; simp [go_sem]
  have b3 : wb.frozen? ⟨w1.heap.size, 1, none⟩ = false := by rw [← hWb]; simp [go_sem]
  clear hWb
  have hbvb : Below wv.heap.size wv wb := bthen hb1 hbb
  have HSb : Hid (Set3 wb base bx g s ar N T) := HS1.out.below hbvb (Nat.le_refl _)
  have HRb : Hid (rowsT.RdP (fun q => wv.heap.size ≤ q) wb [.slice a1 R.length c1] R) := HRP.out.below hbb
  have HTb : Hid (TchP (fun q => q = g) w wb) := (HTW.out.then HT1.out (fun _ _ h => h)).then (TchP.of_below hbvb _) (fun _ _ h => h)
  have hgv : g < wv.heap.size := by omega
  clear HS1 HRP hbb hb1
  go_loopw [9] (fun i wr => ∃ (ii : Nat) (T' : List (List Int)), ii ≤ ops.length ∧ i = .int .i64 ii ∧ Set3 wr base bx g s ar N T' ∧ Mid s ops ar T0 T' ∧ (∀ l ∈ T, l ∈ T') ∧ (∀ j (hj : j < ops.length), j < ii → ∀ k : Nat, (k : Int) < (R.length : Int) ^ (ops[j]).1.toNat → makes s ops[j] ((ar : Int), R) k ∈ T') ∧ TchP (fun q => q = g) wb wr) (fun i _ => ops.length - (intOf i).toNat)
  case atStart => exact ⟨0, T, Nat.zero_le _, rfl, HSb.out, HM1.out, fun _ h => h, fun j hj h => absurd h (Nat.not_lt_zero _), TchP.refl _ _⟩
  case round =>
   obtain ⟨ii, T1, hii, rfl, hS2, hM2, hsub2, hdone, hT2⟩ := hrel
   obtain ⟨wq, rfl⟩ : ∃ wq : World, wq = wr := ⟨_, rfl⟩
   have HS2 := Lib.hid hS2
   have HM2 := Lib.hid hM2
   have HSUB2 := Lib.hid hsub2
   have HDONE := Lib.hid hdone
   have HT2 := Lib.hid hT2
   have hzq := hT2.size
   have d0 := (hT2.cell (i := 0) (b := w1.heap.size) (by omega) (by omega)).trans b0
   have d1 := (hT2.cell (i := 1) (b := w1.heap.size) (by omega) (by omega)).trans b1
   have d2 := (hT2.frozen (i := 0) (b := w1.heap.size) (by omega) (by omega)).trans b2
   have d3 := (hT2.frozen (i := 1) (b := w1.heap.size) (by omega) (by omega)).trans b3
   have HTQ : Hid (TchP (fun q => q = g) w wq) := HTb.out.then hT2 (fun _ _ h => h)
   clear hS2 hM2 hsub2 hdone hT2
   by_cases hil : ii < ops.length
   ·obtain ⟨ob, oo, rfl, hob, hobg, hoc⟩ := HOC.out (by omega)
    have e0 := (HTQ.out.cell hob hobg).trans (hoc ii hil)
    have hfo : opOk s ops[ii] := HO.out _ (List.getElem_mem hil)
    have haf := hfo.2.1
    obtain ⟨af, haf2⟩ : ∃ af : Nat, (ops[ii]).1 = (af : Int) := ⟨(ops[ii]).1.toNat, by omega⟩
    have hafn : (ops[ii]).1.toNat = af := by omega
    have haf3 : 1 ≤ af ∧ af ≤ 3 := by omega
    rw [haf2] at e0
    have HMEM := Lib.hid (List.getElem_mem hil)
    have HPT : Hid (∀ X, TchP (fun q => q = g) w X → opT.Pt X (.pointer (some ⟨ob, oo + ii * 2, none⟩)) ops[ii]) := fun X hX => pt_elem (E := opT) (HOPS.out X hX).rd hil
    have HDN : Hid (∀ T'' : List (List Int), (∀ l ∈ T1, l ∈ T'') → (∀ k : Nat, (k : Int) < (R.length : Int) ^ af → makes s ops[ii] ((ar : Int), R) k ∈ T'') → ∀ j (hj : j < ops.length), j < ii + 1 → ∀ k : Nat, (k : Int) < (R.length : Int) ^ (ops[j]).1.toNat → makes s ops[j] ((ar : Int), R) k ∈ T'') := fun T'' h1 h2 j hj hlt k hk => by
     by_cases e : j = ii
     ·subst e; rw [hafn] at hk; exact h2 k hk
     ·exact h1 _ (HDONE.out j hj (by omega) k hk)
    have HFO := Lib.hid hfo
    have HAF := Lib.hid haf2
    have HAFN := Lib.hid hafn
    generalize ops[ii] = f at HFO HAF HAFN HMEM HPT HDN
    obtain ⟨Mf, hMf⟩ : ∃ Mf : Nat, (R.length : Int) ^ af = (Mf : Int) := ⟨((R.length : Int) ^ af).toNat, by have := pow_nn (s := (R.length : Int)) (by omega) af; omega⟩
    have HMF := Lib.hid hMf
    have hMle : (Mf : Int) ≤ 1000000000000000 := by rw [← hMf]; exact pow_le (by omega) (by omega) (by omega)
    have HR0 : Hid (0 < Mf → 0 < R.length) := fun h => by
     rcases Nat.eq_zero_or_pos R.length with h0 | h0
     ·rw [h0, show af = (af - 1) + 1 by omega, Int.pow_succ] at hMf
      simp at hMf
      omega
     ·exact h0
    clear hfo haf haf2 hafn hMf HDONE hoc
    go_wp2_with fail
    refine (l01Power_any _ (R.length : Int) (af : Int) (by omega) (by omega) (by omega)).mono ?_
    rintro e _ ⟨rfl, rfl⟩
    rw [Int.toNat_natCast, HMF.out]
    clear e0
    go_wp2_with fail
    go_loopw [12] (fun i wr => ∃ (k : Nat) (T'' : List (List Int)), k ≤ Mf ∧ i = .int .i64 k ∧ Set3 wr base bx g s ar N T'' ∧ Mid s ops ar T0 T'' ∧ (∀ l ∈ T1, l ∈ T'') ∧ (∀ k' : Nat, k' < k → makes s f ((ar : Int), R) k' ∈ T'') ∧ TchP (fun q => q = g) wq wr) (fun i _ => Mf - (intOf i).toNat)
    case atStart => exact ⟨0, T1, Nat.zero_le _, rfl, HS2.out, HM2.out, fun _ h => h, fun _ h => absurd h (Nat.not_lt_zero _), TchP.refl _ _⟩
    case round =>
     obtain ⟨k, T2, hk, rfl, hS3, hM3, hsub3, hkd, hT3⟩ := hrel
     obtain ⟨wp, rfl⟩ : ∃ wp : World, wp = wr := ⟨_, rfl⟩
     have HS3 := Lib.hid hS3
     have HM3 := Lib.hid hM3
     have HSUB3 := Lib.hid hsub3
     have HKD := Lib.hid hkd
     have HT3 := Lib.hid hT3
     have hzp := hT3.size
     have d1' := (hT3.cell (i := 1) (b := w1.heap.size) (by omega) (by omega)).trans d1
     have HTP : Hid (TchP (fun q => q = g) w wp) := HTQ.out.then hT3 (fun _ _ h => h)
     clear hS3 hM3 hsub3 hkd hT3
     by_cases hkl : k < Mf
     ·have h0 : 0 < R.length := HR0.out (by omega)
      have e0 : wp.cell? ⟨ob, oo + ii * 2, none⟩ = some (.int .i64 (af : Int)) := by
       have hp := HPT.out wp HTP.out
       obtain ⟨_, _, _, _, hpv, -, -, hp0, -⟩ := pt_pair hp
       simp only [Value.pointer.injEq, Option.some.injEq, Addr.mk.injEq, and_true] at hpv
       rw [← hpv.1, ← hpv.2, HAF.out] at hp0
       exact hp0
      go_wp2_with fail
      refine (l01Digits_any _ (R.length : Int) (k : Int) af (by omega) (by omega) (by omega) (by omega) (by omega)).mono ?_
      rintro e w2 ⟨u, rfl, hfr, hb2⟩
      obtain ⟨dad, dcap, hdv, -, -, hdc⟩ := ints_ex hfr.rd
      obtain rfl : u = _ := by simpa using hdv
      obtain ⟨db, dof, rfl, hdb, hdce⟩ := hdc (by rw [digL_len]; omega)
      rw [digL_len]
      have HDC := Lib.hid hdce
      have hz2 := hb2.size
      have HT2w : Hid (TchP (fun q => q = g) w w2) := HTP.out.then (TchP.of_below hb2 _) (fun _ _ h => h)
      have dd1 := (cellB hb2 (show w1.heap.size < wp.heap.size by omega)).trans d1'
      have HR2 : Hid (rowsT.RdP (fun q => wv.heap.size ≤ q) w2 [.slice a1 R.length c1] R) := ((HRb.out.tchP (HT2.out.then HT3.out (fun _ _ h => h)) (fun q _ h1 h2 => by omega)).below hb2)
      have HS4 : Hid (Set3 w2 base bx g s ar N T2) := HS3.out.below hb2 (Nat.le_refl _)
      obtain ⟨ra, rcp, hrv, -, -, hrc⟩ := slices_ex HR2.out.rd
      obtain ⟨rfl, rfl⟩ : a1 = ra ∧ c1 = rcp := by simpa using hrv
      obtain ⟨rb, ro, rfl, hrb, hrc⟩ := hrc h0
      have HRC := Lib.hid hrc
      clear hdv hdc hdce hfr e0 hrv hrc HS3
      go_wp2_with fail
      go_loopw [15, 14] (fun i q wr => ∃ (j : Nat) (vs : List Value), j ≤ af ∧ i = .int .i64 j ∧ vs.length = j ∧ picked w2 vs (picks R af k) ∧ Bl Ty.val 42 w2.heap.size wr.heap.size wr q vs ∧ Below w2.heap.size w2 wr) (fun i _ _ => af - (intOf i).toNat)
      case atStart => exact ⟨0, [], Nat.zero_le _, rfl, rfl, picked_nil, by simpa using Bl.lit0 (E := Ty.val) (e := 42) (w := w2) (Nat.le_refl _), bA⟩
      case round =>
       obtain ⟨j, vs, hj, rfl, hvl, hpk, hBl, hb3⟩ := hrel
       obtain ⟨wz', rfl⟩ : ∃ wz' : World, wz' = wr := ⟨_, rfl⟩
       have HB := Lib.hid hBl
       have HVL := Lib.hid hvl
       have HPK := Lib.hid hpk
       have hz3 := hb3.size
       clear hBl hvl hpk
       by_cases hjl : j < af
       ·have hjd : j < (digL (R.length : Int) k af).length := by rw [digL_len]; exact hjl
        have hdm := dig_mem (n := (R.length : Int)) (i := (k : Int)) (ar := af) (by omega) (List.getElem_mem hjd)
        obtain ⟨dn, hdn⟩ : ∃ dn : Nat, (digL (R.length : Int) k af)[j] = (dn : Int) := ⟨((digL (R.length : Int) k af)[j]).toNat, by omega⟩
        have hdl : dn < R.length := by omega
        have hDC0 := (HDC.out j hjd).2
        rw [hdn] at hDC0
        have e0 := (hb3.cell hdb).trans hDC0
        obtain ⟨u, hu, hcu⟩ := HRC.out dn hdl
        obtain ⟨ua, un, uc, rfl⟩ := rd_sl hu
        have l1 : w1.heap.size < w2.heap.size := by omega
        have e1 := (hb3.cell (p := ⟨w1.heap.size, 1, none⟩) l1).trans dd1
        have e2 := (hb3.cell hrb).trans hcu
        have HPN : Hid (picked w2 (vs ++ [.slice ua un uc]) (picks R af k)) := by
         have hl : j < (picks R af k).length := by rw [picks_len]; exact hjl
         have hg := picks_get hjd hdn hdl hl
         have hv := HVL.out
         subst hv
         exact picked_snoc HPK.out hl (by rw [hg]; exact hu)
        have hvj : vs.length ≤ 1000000000 := by rw [HVL.out]; omega
        have HE0 := Lib.hid ((hDC0 : w2.cell? ⟨db, dof + j, none⟩ = some (.int .i64 (dn : Int))))
        have HE1 := Lib.hid dd1
        have HE2 := Lib.hid hcu
        clear hdm hdn hu hcu hDC0
        go_wp2_with fail
        refine wp_region_T (fun w' => w'.cell? ⟨w1.heap.size, 1, none⟩ = some (.slice (some ⟨rb, ro, none⟩) R.length c1) ∧ w'.cell? ⟨db, dof + j, none⟩ = some (.int .i64 (dn : Int)) ∧ w'.cell? ⟨rb, ro + dn, none⟩ = some (.slice ua un uc)) [10, 11] (by kernel_rfl) ⟨e1, e0, e2⟩ (fun hHeld => ?_)
        refine wpAnyT_take (i := 0) (v := ?_) rfl (by kernel_rfl) (fun _ _ _ h => h) (Or.inl ⟨by rfl, ?_⟩) (by assumption) ?_
        rotate_left
        ·(intro w hSw; (try dsimp only at hSw); go_simp <;> with_reducible rfl)
        go_simp
        refine wpAnyT_take (i := 1) (v := ?_) rfl (by kernel_rfl) (fun _ _ _ h => h) (Or.inl ⟨by rfl, ?_⟩) (by assumption) ?_
        rotate_left
        ·(intro w hSw; (try dsimp only at hSw); go_simp <;> with_reducible rfl)
        go_simp
        refine wpAnyT_take (i := 2) (v := ?_) rfl (by kernel_rfl) (fun _ _ _ h => h) (Or.inl ⟨by rfl, ?_⟩) (by assumption) ?_
        rotate_left
        ·(intro w hSw; (try dsimp only at hSw); go_simp <;> with_reducible rfl)
        go_simp
        refine wpAnyT_take (i := 3) (v := ?_) rfl (by kernel_rfl) (fun _ _ _ h => h) (Or.inl ⟨by rfl, ?_⟩) (by assumption) ?_
        rotate_left
        ·(intro w hSw; (try dsimp only at hSw); go_simp <;> with_reducible rfl)
        go_simp
        refine wpAnyT_take (i := 4) (v := ?_) rfl (by kernel_rfl) (fun _ _ _ h => h) (Or.inl ⟨by rfl, ?_⟩) (by assumption) ?_
        rotate_left
        ·(intro w hSw; (try dsimp only at hSw); go_simp <;> with_reducible rfl)
        go_simp
        refine wpAnyT_take (i := 5) (v := ?_) rfl (by kernel_rfl) (fun _ _ _ h => h) (Or.inl ⟨by rfl, ?_⟩) (by assumption) ?_
        rotate_left
        ·(intro w hSw; (try dsimp only at hSw); go_simp <;> with_reducible rfl)
        go_simp
        refine wpAnyT_take (i := 6) (v := ?_) rfl (by kernel_rfl) (fun _ _ _ h => h) (Or.inl ⟨by rfl, ?_⟩) (by assumption) ?_
        rotate_left
        ·(intro w hSw; (try dsimp only at hSw); go_simp <;> with_reducible rfl)
        go_simp
        refine wpAnyT_take (i := 7) (v := ?_) rfl (by kernel_rfl) (fun _ _ _ h => h) (Or.inl ⟨by rfl, ?_⟩) (by assumption) ?_
        rotate_left
        ·(intro w hSw; (try dsimp only at hSw); go_simp <;> with_reducible rfl)
        go_simp
        refine wpAnyT_take (i := 8) (v := ?_) rfl (by kernel_rfl) (fun _ _ _ h => h) (Or.inl ⟨by rfl, ?_⟩) (by assumption) ?_
        rotate_left
        ·(intro w hSw; (try dsimp only at hSw); go_simp <;> with_reducible rfl)
        go_simp
        refine wpAnyT_one (i := 9) rfl (by kernel_rfl) (fun K hK => ?_)
        go_simp
        refine hK.out _ _ ⟨by go_keep, by go_keep, by go_keep⟩ (fun hHeld => ?_)
        clear hK K
        refine wpAnyT_last (i := 10) rfl (by kernel_rfl) (by kernel_rfl) (fun K hK => ?_)
        refine step_push (E := Ty.val) _ rfl _ _ 23 42 rfl elInt64SS rfl (HB.out.below (bD.alloc (by simp) _) (Nat.le_refl _)) rfl news1 (fr_val rfl) hvj (by decide) hz3 (by simp) ?_
        intro v1 wz hB1 hg1 _
        have hbz : Below w2.heap.size w2 wz := (hb3.trans (((bD (w := wz')).alloc (by simp) _).mono hz3)).grown hg1 (by simp; omega) (fun q hq => HB.out.own hq)
        have HB1 := Lib.hid hB1
        clear hB1 hg1
        refine hK.out _ _ ?_
        clear hK K
        refine wpAnyT_last (i := 11) rfl (by kernel_rfl) (by kernel_rfl) (fun K hK => ?_)
        go_simp
        refine hK.out _ _ ?_
        clear hK K
        refine wpAnyT_done (by kernel_rfl) ?_ _
        go_simp
        go_wp2_with fail
        go_roundw
        case rel => exact ⟨j + 1, _, by omega, by go_num, by rw [List.length_append, HVL.out]; rfl, HPN.out, HB1.out, hbz⟩
        case measure => simp [intOf]; omega
       ·obtain rfl : j = af := by omega
        have hfv := HB.out.fr (by rw [HVL.out]; unfold capMax; omega)
        obtain ⟨lad, lcap, hqv, -, -, hlc⟩ := Ty.slice_ex hfv.rd
        simp only [List.cons.injEq, and_true] at hqv
        subst hqv
        have HLR := Lib.hid (rows_of_vals hfv.rd (by rw [HVL.out, picks_len]) (fun i h h' => (HPK.out.2 i h h').below hb3))
        rw [HVL.out] at HLR
        rw [HVL.out]
        clear hfv hlc
        have HTO := Lib.hid (picks_ok HROK.out HFO.out h0 (k : Int))
        rw [HAFN.out, show (((ar : Int), R) : Int × List (List Int)).1.toNat = ar by simp] at HTO
        have HT3w : Hid (TchP (fun q => q = g) w wz') := HT2w.out.then (TchP.of_below hb3 _) (fun _ _ h => h)
        go_wp2_with fail
        refine (l02Make_any _ (HPT.out wz' HT3w.out) HLR.out HFO.out HTO.out (by omega)).mono ?_
        rintro e w4 ⟨t, rfl, hft, hb4⟩
        obtain ⟨ta, tn, tc, rfl⟩ := rd_sl hft.rd
        have HTR := Lib.hid hft.rd
        have HMK : Hid (madeL s f.2 (picks R j k) ar = makes s f ((ar : Int), R) k) := by
         unfold Hid
         rw [makes, HAFN.out]
         simp only [Int.toNat_natCast]
        have HTI := Lib.hid (madeL_in HFO.out HTO.out)
        have HCL : Hid (Clo s ops ar T0 (madeL s f.2 (picks R j k) ar)) := .step HMEM.out (by rw [picks_len, HAF.out]) (fun l hl => by
         obtain ⟨z, hz, rfl⟩ := List.mem_map.1 hl
         obtain ⟨z1, z2⟩ := dig_mem (by omega) hz
         have hzl : z.toNat < R.length := by omega
         rw [List.getD_eq_getElem?_getD, List.getElem?_eq_getElem hzl]
         have hmr : R[z.toNat] ∈ R := List.getElem_mem hzl
         have hmr2 : R[z.toNat] ∈ setR s ar N T := by rw [← HR.out]; exact hmr
         exact HM1.out.2.2 _ ((setR_mem hs4.1 HN.out HM1.out.1).1 hmr2))
        have hb24 : Below w2.heap.size w2 w4 := hb3.trans (hb4.mono hz3)
        have HS5 : Hid (Set3 w4 base bx g s ar N T2) := HS4.out.below hb24 (Nat.le_refl _)
        have hz4 := hb4.size
        clear hft HS4
        go_wp2_with fail
        refine (put_any w4 HS5.out hs4 (by omega) HN.out HTR.out HTI.out.1 HTI.out.2).mono ?_
        rintro e w5 ⟨rfl, hS5, hT5⟩
        have HS6 := Lib.hid hS5
        have HT5 : Hid (TchP (fun q => q = g) wq w5) := ((HT3.out.then (TchP.of_below hb2 _) (fun _ _ h => h)).then (TchP.of_below (hb24.mono (Nat.le_refl _)) _) (fun _ _ h => h)).then hT5 (fun _ _ h => h)
        have HM6 := Lib.hid (HM3.out.add HTI.out HCL.out)
        rw [HMK.out] at HS6 HM6
        clear hS5 hT5
        go_wp2_with fail
        go_roundw
        case rel => exact ⟨k + 1, _, by omega, by go_num, HS6.out, HM6.out, fun l hl => List.mem_append_left _ (HSUB3.out l hl), fun k' hk' => by
         by_cases e : k' = k
         ·subst e; exact List.mem_append_right _ (List.mem_singleton.2 rfl)
         ·exact List.mem_append_left _ (HKD.out k' (by omega)), HT5.out⟩
        case measure => simp [intOf]; omega
     ·obtain rfl : k = Mf := by omega
      go_wp2_with fail
      go_roundw
      case rel => exact ⟨ii + 1, T2, by omega, by go_num, HS3.out, HM3.out, fun l hl => HSUB3.out l (HSUB2.out l hl), HDN.out T2 HSUB3.out (fun k' hk' => HKD.out k' (by rw [HMF.out] at hk'; omega)), HT2.out.then HT3.out (fun _ _ h => h)⟩
      case measure => simp [intOf]; omega
   ·obtain rfl : ii = ops.length := by omega
    go_wp2_with fail
    refine (rel_any wq HS2.out hs4 (by omega) HN.out (by omega) (fun l hl => HM2.out.1 l hl)).mono ?_
    rintro e w6 ⟨cs, rfl, hf, hb6⟩
    obtain ⟨R2, hR2⟩ : ∃ R2, R2 = setR s ar N T1 := ⟨_, rfl⟩
    change relT.Fr wq.heap.size w6 cs ((ar : Int), setR s ar N T1) at hf
    rw [← hR2] at hf
    have hRN2 : R2.length ≤ N := by rw [hR2]; exact HRL.out T1
    have HR2 := Lib.hid hR2
    obtain ⟨a6, c6, rfl⟩ := fr_pair hf
    have HF6 := Lib.hid hf
    have hz6 := hb6.size
    have hle : R.length ≤ R2.length := by
     rw [HR.out, hR2]
     exact (round_more HSUB2.out).1
    have HEND : Hid (R2.length = R.length → relOk s ((ar : Int), R2) ∧ ∀ l, l ∈ R2 ↔ Clo s ops ar T0 l) := fun he => by
     have hst : ∀ l, l ∈ R2 ↔ l ∈ T1 := fun l => by rw [HR2.out]; exact setR_mem hs4.1 HN.out HM2.out.1
     obtain ⟨g1, g2⟩ := round_end (ops := ops) hs4.1 HN.out HM2.out.1 HSUB2.out (fun f hf k hk => by
      obtain ⟨j, hj, rfl⟩ := List.mem_iff_getElem.1 hf
      rw [← HR.out] at hk ⊢
      exact HDONE.out j hj hj k hk) (by rw [← HR.out, ← HR2.out]; exact he)
     rw [← HR2.out] at g2
     exact ⟨by rw [HR2.out]; exact relL_ok HS.out har HN.out, fun l => clo_closed HO.out (fun l hl => (hst l).2 (HM2.out.2.1 l hl)) (fun l hl => HM2.out.2.2 l ((hst l).1 hl)) g2⟩
    clear hf hR2
    replace d0 := (cellB hb6 (show w1.heap.size < wq.heap.size by omega)).trans d0
    replace d1 := (cellB hb6 (show w1.heap.size < wq.heap.size by omega)).trans d1
    replace d2 := (frozenB hb6 (show w1.heap.size < wq.heap.size by omega)).trans d2
    replace d3 := (frozenB hb6 (show w1.heap.size < wq.heap.size by omega)).trans d3
    have HS6 : Hid (Set3 w6 base bx g s ar N T1) := HS2.out.below hb6 (Nat.le_refl _)
    have HT6 : Hid (TchP (fun q => q = g) w w6) := HTQ.out.then (TchP.of_below hb6 _) (fun _ _ h => h)
    have HT61 : Hid (TchP (fun q => q = g) W w6) := ((HT1.out.then (TchP.of_below hbvb _) (fun _ _ h => h)).then HT2.out (fun _ _ h => h)).then (TchP.of_below hb6 _) (fun _ _ h => h)
    clear HS2
    have hgw1 : w1.heap.size ≠ g := by omega
    have HST : ∀ x y : Value, TchP (fun q => q = w1.heap.size) w6 ((w6.setCell ⟨w1.heap.size, 0, none⟩ x).setCell ⟨w1.heap.size, 1, none⟩ y) := fun x y => (TchP.set (O := fun q => q = w1.heap.size) rfl).then (TchP.set (O := fun q => q = w1.heap.size) rfl) (fun _ _ h => h)
    have HSTH := Lib.hid HST
    clear HST
    cases hq : (((R2.length : Nat) : Int) == ((R.length : Nat) : Int))
    ·have hlt : R.length < R2.length := by
      have : ¬ ((R2.length : Int) = (R.length : Int)) := by simpa using hq
      omega
     have HSN := Lib.hid (HS6.out.tch (HSTH.out (.int .i64 (ar : Int)) (.slice a6 R2.length c6)) (by omega) (by omega))
     have HTN : Hid (TchP (fun q => q = g) W ((w6.setCell ⟨w1.heap.size, 0, none⟩ (.int .i64 (ar : Int))).setCell ⟨w1.heap.size, 1, none⟩ (.slice a6 R2.length c6))) := HT61.out.then (HSTH.out _ _) (fun k hk h => by omega)
     have HM7 : Hid (N - (setR s ar N T1).length ≤ N - R2.length) := by unfold Hid; rw [← HR2.out]; exact Nat.le_refl _
     go_wp2_with fail
     go_roundg (N - R2.length)
     case measure => omega
     case rel => exact ⟨T1, HSN.out, HM2.out, HTN.out, HM7.out⟩
    ·have heq : R2.length = R.length := by
      have : ((R2.length : Int) = (R.length : Int)) := by simpa using hq
      omega
     obtain ⟨hok, hmem⟩ := HEND.out heq
     have HOKE := Lib.hid hok
     have HMEME := Lib.hid hmem
     have q0 := (HT61.out.cell (b := w.heap.size) (i := 0) (by omega) (by omega)).trans r0
     have q1 := (HT61.out.cell (b := w.heap.size) (i := 1) (by omega) (by omega)).trans r1
     have q2 := (HT61.out.frozen (b := w.heap.size) (i := 0) (by omega) (by omega)).trans r2
     have q3 := (HT61.out.frozen (b := w.heap.size) (i := 1) (by omega) (by omega)).trans r3
     clear hok hmem heq
     obtain ⟨k0, k1⟩ := set2_cells (x := .int .i64 (ar : Int)) (y := .slice a6 R2.length c6) d0 d1
     have p0 := (World.cell?_setCell_other (w6.setCell ⟨w1.heap.size, 0, none⟩ (.int .i64 (ar : Int))) ⟨w1.heap.size, 1, none⟩ ⟨w.heap.size, 0, none⟩ (.slice a6 R2.length c6) (by first | (simp; done) | (simp; omega))).trans ((World.cell?_setCell_other w6 ⟨w1.heap.size, 0, none⟩ ⟨w.heap.size, 0, none⟩ (.int .i64 (ar : Int)) (by first | (simp; done) | (simp; omega))).trans q0)
     have p1 := (World.cell?_setCell_other (w6.setCell ⟨w1.heap.size, 0, none⟩ (.int .i64 (ar : Int))) ⟨w1.heap.size, 1, none⟩ ⟨w.heap.size, 1, none⟩ (.slice a6 R2.length c6) (by first | (simp; done) | (simp; omega))).trans ((World.cell?_setCell_other w6 ⟨w1.heap.size, 0, none⟩ ⟨w.heap.size, 1, none⟩ (.int .i64 (ar : Int)) (by first | (simp; done) | (simp; omega))).trans q1)
     go_wp2_with fail
     obtain ⟨g0, g1⟩ := set2_cells (x := .int .i64 (ar : Int)) (y := .slice a6 R2.length c6) p0 p1
     refine bodyPost_ret (v := .agg #[.int .i64 (ar : Int), .slice a6 R2.length c6]) (by simp [results, Tryz.results39, go_sem, g0, g1]) rfl ⟨[.int .i64 (ar : Int), .slice a6 R2.length c6], R2, rfl, ?_, HOKE.out, HMEME.out, ?_⟩
     ·exact (fr_set2 (fr_set2 HF6.out (by omega)) (by omega)).mono (by omega)
     ·exact ((HT6.out.then (HSTH.out _ _) (fun k hk h => by omega)).then (TchP.set (O := fun q => q = w.heap.size) rfl) (fun k hk h => by omega)).then (TchP.set (O := fun q => q = w.heap.size) rfl) (fun k hk h => by omega)
end Go.Proofs.YtggelmbnliajeaaGreatDoor
