/-
A struct of a number and a row, in a box of the call's own, while a source is read and the row grows; result boxes. Contract: a drawn template.
An instance in a box of the call's own, its scopes in other blocks. Contract: a drawn instance.
Contracts: a relation and a template that are drawn, seldom ones that are not valid.
Contracts: a template that is drawn, seldom one that is not valid.
Contracts: a template and an instance that are drawn, seldom ones that are not valid.
Contracts: a template and an instance that are hard; valid ones of a text of bytes.
Contracts: relations and tuples compared; whether a relation has a tuple, and whether an operation keeps a relation, checked.
Contracts: a valid template and a valid instance of a text of bytes; whether a relation is part of another one.
Contracts: an operation applied to tuples, checked.
Literals of one and two pairs; a draw, the full relation and the parts at numbers that are told by equations.
-/
import Derived.Test.YtggelmbnliajeaaGreatDoorQBA
import Derived.Test.YtggelmbnliajeaaGreatDoorQAC
import Derived.Test.YtggelmbnliajeaaGreatDoorQAE
import Derived.Test.YtggelmbnliajeaaGreatDoorQAF
import Derived.Deep.LoopGhost
import Derived.Test.YtggelmbnliajeaaGreatDoorQAB
import Derived.Test.YtggelmbnliajeaaGreatDoorQAD
import Derived.Test.YtggelmbnliajeaaGreatDoorQAJ
namespace Go.Proofs.YtggelmbnliajeaaGreatDoor
open Go.RowKit Go.Sort
/-- box g holds a number and a row of the call's own -/
structure DrS {α : Type} (E : Ty α) (e : TypeId) (sb : Nat) (w0 : World) (lo g top : Nat) (n : Int) (v : Value) (T : List α) (w : World) : Prop where
 bl : Bl (E.off g) e lo top w v T
 own : v.ownBlock ≠ some g
 c0 : w.cell? ⟨g, 0, none⟩ = some (.int .i64 n)
 c1 : w.cell? ⟨g, 1, none⟩ = some v
 m0 : w.frozen? ⟨g, 0, none⟩ = false
 m1 : w.frozen? ⟨g, 1, none⟩ = false
 lw : w0.heap.size ≤ lo
 lg : lo ≤ g
 hi : g < top
 le : top ≤ w.heap.size
 hs : sb < w0.heap.size
theorem bl_off {α : Type} {E : Ty α} {e base top g : Nat} {w : World} {v : Value} {T : List α} (h : Bl E e base top w v T) (hg : g < base ∨ top ≤ g) : Bl (E.off g) e base top w v T := by
 obtain ⟨L, fps, h1, h2, h3, h4, h5, h6⟩ := h
 refine ⟨L, fps, h1, fun i hi => ?_, h3, h4, h5, h6⟩
 obtain ⟨cs, h7, h8⟩ := h2 i hi
 refine ⟨cs, ⟨h7, fun hm => ?_⟩, h8⟩
 have := h4 g (List.mem_flatMap.2 ⟨i, by simpa using hi, hm⟩)
 omega
section
variable {α : Type} {E : Ty α} {e : TypeId} {sb lo g top : Nat} {w0 w w' : World} {n : Int} {v : Value} {T : List α}
theorem DrS.same (h : DrS E e sb w0 lo g top n v T w) (hs : ∀ k, lo ≤ k → k < top → w'.heap[k]? = w.heap[k]?) (hz : top ≤ w'.heap.size) : DrS E e sb w0 lo g top n v T w' :=
 have hg := hs g h.lg h.hi
 ⟨h.bl.sameB hs, h.own, (World.cell?_of_block (a := ⟨g, 0, none⟩) hg).trans h.c0, (World.cell?_of_block (a := ⟨g, 1, none⟩) hg).trans h.c1, (World.frozen?_of_block (a := ⟨g, 0, none⟩) hg).trans h.m0, (World.frozen?_of_block (a := ⟨g, 1, none⟩) hg).trans h.m1, h.lw, h.lg, h.hi, hz, h.hs⟩
theorem DrS.tch (h : DrS E e sb w0 lo g top n v T w) (ht : TchP (fun q => q = sb) w w') : DrS E e sb w0 lo g top n v T w' :=
 h.same (fun k h1 h2 => ht.block k (by have := h.le; omega) (by have := h.lw; have := h.hs; omega)) (Nat.le_trans h.le ht.size)
theorem DrS.below {C : Nat} (h : DrS E e sb w0 lo g top n v T w) (hb : Below C w w') (hC : top ≤ C) : DrS E e sb w0 lo g top n v T w' :=
 h.same (fun k _ h2 => hb.block k (by omega)) (Nat.le_trans h.le hb.size)
theorem DrS.grown {row : Option Nat} (h : DrS E e sb w0 lo g top n v T w) (hg : w.grownBy w' row) (hr : ∀ b, row = some b → b < lo ∨ top ≤ b) : DrS E e sb w0 lo g top n v T w' :=
 h.same (fun k h1 h2 => hg.block k (by have := h.le; omega) (fun e => by have := hr k e.symm; omega)) (Nat.le_trans h.le hg.size)
theorem DrS.other {b i : Nat} {u : Value} (h : DrS E e sb w0 lo g top n v T w) (hb : b < lo ∨ top ≤ b) : DrS E e sb w0 lo g top n v T (w.setCell ⟨b, i, none⟩ u) :=
 h.same (fun k h1 h2 => Below.heap_setCell _ _ _ _ (fun e => by simp at e; omega)) (by rw [size_set]; exact h.le)
theorem DrS.cells (h : DrS E e sb w0 lo g top n v T w) (hg : w.grownBy w' v.ownBlock) : w'.cell? ⟨g, 1, none⟩ = some v ∧ w'.frozen? ⟨g, 1, none⟩ = false := by
 have hk := hg.block g (Nat.lt_of_lt_of_le h.hi h.le) (fun e => h.own e.symm)
 exact ⟨(World.cell?_of_block (a := ⟨g, 1, none⟩) hk).trans h.c1, (World.frozen?_of_block (a := ⟨g, 1, none⟩) hk).trans h.m1⟩
/-- the row has grown, and its new value is laid into the box -/
theorem DrS.row {v' : Value} {T' : List α} (h : DrS E e sb w0 lo g top n v T w) (hB : Bl (E.off g) e lo w'.heap.size w' v' T') (hg : w.grownBy w' v.ownBlock) (ho : v'.ownBlock = v.ownBlock ∨ v'.ownBlock = some w.heap.size) : DrS E e sb w0 lo g w'.heap.size n v' T' (w'.setCell ⟨g, 1, none⟩ v') := by
 have hlt : g < w.heap.size := Nat.lt_of_lt_of_le h.hi h.le
 have hk := hg.block g hlt (fun e => h.own e.symm)
 have hz := hg.size
 have h1 := h.le
 have h2 := h.hi
 have own' : v'.ownBlock ≠ some g := by
  rcases ho with e | e <;> rw [e]
  ·exact h.own
  ·exact fun e' => by simp at e'; omega
 exact ⟨off_same hB own' (fun k hk => Below.heap_setCell _ _ _ _ (fun e => hk (by simpa using e))), own', (World.cell?_setCell_other _ _ _ _ (by simp)).trans ((World.cell?_of_block (a := ⟨g, 0, none⟩) hk).trans h.c0), World.cell?_setCell_same _ _ _ ((World.cell?_of_block (a := ⟨g, 1, none⟩) hk).trans h.c1), (World.frozen?_setCell _ _ _ _).trans ((World.frozen?_of_block (a := ⟨g, 0, none⟩) hk).trans h.m0), (World.frozen?_setCell _ _ _ _).trans ((World.frozen?_of_block (a := ⟨g, 1, none⟩) hk).trans h.m1), h.lw, h.lg, by omega, by rw [size_set]; exact Nat.le_refl _, h.hs⟩
/-- a box that has just been made for what a callee has handed back -/
theorem DrS.box {t : TypeId} {b0 : Nat} (hw : w' = w.alloc (.cells #[.int .i64 n, v] t)) (hg : w.heap.size = g) (hB : Bl E e b0 w.heap.size w v T) (hb : b0 ≤ w.heap.size) (hlo : w0.heap.size ≤ b0) (hs : sb < w0.heap.size) : DrS E e sb w0 b0 g (g + 1) n v T w' := by
 subst hw hg
 have hown : v.ownBlock ≠ some w.heap.size := fun e => by have := hB.lt_top e; omega
 refine ⟨(bl_off ((hB.below bA (Nat.le_refl _)).mono (Nat.le_refl _)) (.inr (Nat.le_refl _))).mono (by omega), hown, by simp [go_sem], by simp [go_sem], by simp [go_sem], by simp [go_sem], hlo, hb, Nat.lt_succ_self _, by simp, hs⟩
theorem DrS.new {t : TypeId} (hw : w' = w.alloc (.cells #[.int .i64 n, .slice none 0 0] t)) (hg : w.heap.size = g) (hlo : w0.heap.size ≤ g) (hs : sb < w0.heap.size) : DrS E e sb w0 g g (g + 1) n (.slice none 0 0) [] w' := by
 subst hw hg
 exact ⟨Bl.nil, by simp [Value.ownBlock], by simp [go_sem], by simp [go_sem], by simp [go_sem], by simp [go_sem], hlo, Nat.le_refl _, Nat.lt_succ_self _, by simp, hs⟩
end
/-- a box of two cells that may be written -/
def ResB (r : Nat) (w : World) : Prop := r < w.heap.size ∧ (∃ u, w.cell? ⟨r, 0, none⟩ = some u) ∧ (∃ u, w.cell? ⟨r, 1, none⟩ = some u) ∧ w.frozen? ⟨r, 0, none⟩ = false ∧ w.frozen? ⟨r, 1, none⟩ = false
section
variable {r sb : Nat} {w w' W : World}
theorem ResB.same (h : ResB r w) (hs : w'.heap[r]? = w.heap[r]?) (hz : w.heap.size ≤ w'.heap.size) : ResB r w' := by
 obtain ⟨h0, ⟨u, h1⟩, ⟨x, h2⟩, h3, h4⟩ := h
 exact ⟨by omega, ⟨u, (World.cell?_of_block (a := ⟨r, 0, none⟩) hs).trans h1⟩, ⟨x, (World.cell?_of_block (a := ⟨r, 1, none⟩) hs).trans h2⟩, (World.frozen?_of_block (a := ⟨r, 0, none⟩) hs).trans h3, (World.frozen?_of_block (a := ⟨r, 1, none⟩) hs).trans h4⟩
theorem ResB.tch (h : ResB r w) (ht : TchP (fun q => q = sb) w w') (hr : r ≠ sb) : ResB r w' := h.same (ht.block r h.1 hr) ht.size
theorem ResB.below {C : Nat} (h : ResB r w) (hb : Below C w w') (hC : r < C) : ResB r w' := h.same (hb.block r hC) hb.size
theorem ResB.other {b i : Nat} {u : Value} (h : ResB r w) (hb : b ≠ r) : ResB r (w.setCell ⟨b, i, none⟩ u) := h.same (Below.heap_setCell _ _ _ _ (fun e => hb (by simpa using e.symm))) (by rw [size_set]; exact Nat.le_refl _)
theorem ResB.new {a b : Value} {t : TypeId} (hw : w' = w.alloc (.cells #[a, b] t)) (hr : w.heap.size = r) : ResB r w' := by
 subst hw hr
 exact ⟨by simp, ⟨a, by simp [go_sem]⟩, ⟨b, by simp [go_sem]⟩, by simp [go_sem], by simp [go_sem]⟩
theorem ResB.grown {row : Option Nat} (h : ResB r w) (hg : w.grownBy w' row) (hr : row ≠ some r) : ResB r w' := h.same (hg.block r h.1 (fun e => hr e.symm)) hg.size
end
end Go.Proofs.YtggelmbnliajeaaGreatDoor
namespace Go.Proofs.YtggelmbnliajeaaGreatDoor
open Go.RowKit Go.Sort
theorem pvR.same {ok : Nat → Prop} {w w' : World} {z : (Int × List Int) × (Int × Value)} (h : pvR ok w z) (hs : ∀ k, ok k → w'.heap[k]? = w.heap[k]?) : pvR ok w' z := by
 obtain ⟨h1, h2, fp, h3, h4⟩ := h
 exact ⟨h1, h2, fp, intsT.same h3 (fun k hk => hs k (h4 k hk)), h4⟩
def XrS (e : TypeId) (sb : Nat) (w0 : World) (lo g top : Nat) (n : Int) (v : Value) (Z : List ((Int × List Int) × (Int × Value))) (w : World) : Prop :=
 DrS pvT e sb w0 lo g top n v (Z.map (·.2)) w ∧ ∀ z ∈ Z, pvR (fun q => lo ≤ q ∧ q ≠ g ∧ v.ownBlock ≠ some q ∧ q < top) w z
section
variable {e : TypeId} {sb lo g top : Nat} {w0 w w' : World} {n : Int} {v : Value} {Z : List ((Int × List Int) × (Int × Value))}
theorem XrS.same (h : XrS e sb w0 lo g top n v Z w) (hs : ∀ k, lo ≤ k → k < top → w'.heap[k]? = w.heap[k]?) (hz : top ≤ w'.heap.size) : XrS e sb w0 lo g top n v Z w' :=
 ⟨h.1.same hs hz, fun z hm => (h.2 z hm).same (fun k hk => hs k hk.1 hk.2.2.2)⟩
theorem XrS.tch (h : XrS e sb w0 lo g top n v Z w) (ht : TchP (fun q => q = sb) w w') : XrS e sb w0 lo g top n v Z w' :=
 h.same (fun k h1 h2 => ht.block k (by have := h.1.le; omega) (by have := h.1.lw; have := h.1.hs; omega)) (Nat.le_trans h.1.le ht.size)
theorem XrS.below {C : Nat} (h : XrS e sb w0 lo g top n v Z w) (hb : Below C w w') (hC : top ≤ C) : XrS e sb w0 lo g top n v Z w' :=
 h.same (fun k _ h2 => hb.block k (by omega)) (Nat.le_trans h.1.le hb.size)
theorem XrS.grown {row : Option Nat} (h : XrS e sb w0 lo g top n v Z w) (hg : w.grownBy w' row) (hr : ∀ b, row = some b → b < lo ∨ top ≤ b) : XrS e sb w0 lo g top n v Z w' :=
 h.same (fun k h1 h2 => hg.block k (by have := h.1.le; omega) (fun e => by have := hr k e.symm; omega)) (Nat.le_trans h.1.le hg.size)
theorem XrS.other {b i : Nat} {u : Value} (h : XrS e sb w0 lo g top n v Z w) (hb : b < lo ∨ top ≤ b) : XrS e sb w0 lo g top n v Z (w.setCell ⟨b, i, none⟩ u) :=
 h.same (fun k h1 h2 => Below.heap_setCell _ _ _ _ (fun e => by simp at e; omega)) (by rw [size_set]; exact h.1.le)
end
end Go.Proofs.YtggelmbnliajeaaGreatDoor
namespace Go.Proofs.YtggelmbnliajeaaGreatDoor
open Go.RowKit Go.Sort
end Go.Proofs.YtggelmbnliajeaaGreatDoor
namespace Go.Proofs.YtggelmbnliajeaaGreatDoor
open Go.RowKit Go.Sort
end Go.Proofs.YtggelmbnliajeaaGreatDoor
namespace Go.Proofs.YtggelmbnliajeaaGreatDoor
open Go.RowKit Go.Sort
end Go.Proofs.YtggelmbnliajeaaGreatDoor
namespace Go.Proofs.YtggelmbnliajeaaGreatDoor
open Go.RowKit Go.Sort
end Go.Proofs.YtggelmbnliajeaaGreatDoor
namespace Go.Proofs.YtggelmbnliajeaaGreatDoor
open Go.RowKit Go.Sort
theorem specSameRel_any (w : World) {cs cs' : Array Value} {x y : Int × List (List Int)} (h : relT.Rd w cs.toList x) (h' : relT.Rd w cs'.toList y) :
  Calls Tryz.prog 28 #[.agg cs, .agg cs'] w fun e w' => e = .returned (.bool (eqB x y)) ∧ Below w.heap.size w w' := by
 have p1 := (pt_box (T := 27) h)
 have p2 := (pt_box (T := 27) (h'.below (bA (o := .cells cs.toList.toArray 27))))
 obtain ⟨u, hv, _⟩ := pair_ex h
 obtain rfl := agg_of hv
 obtain ⟨u', hv', _⟩ := pair_ex h'
 obtain rfl := agg_of hv'
 have p1' := p1.below (bA (o := .cells [.int .i64 y.1, u'].toArray 27))
 clear hv hv' h h' p1
 go_enter Tryz.func28, Tryz.ntmps28
 go_wp2_with fail
 rw [World.size_alloc] at p2
 refine (l01Same_quiet _ p1' p2).mono ?_
 rintro e w1 ⟨rfl, n, rfl⟩
 go_wp2_with fail
 go_ret
 exact ⟨rfl, (by repeat (first | exact Below.refl _ _ | exact bA | assumption | refine Below.setCell ?_ (by first | omega | (simp; try omega)) _ | refine Below.alloc ?_ (by first | omega | (simp; try omega)) _ | refine Below.drew ?_ | refine bDN ?_ | refine bthen ?_ (by assumption)))⟩
set_option maxHeartbeats 1600000 in
theorem HasTuple_any (w : World) {cs : Array Value} {r : Int × List (List Int)} {u : Value} {ys : List Int} (h : relT.Rd w cs.toList r) (hu : intsT.Rd w [u] ys) {s : Int} (hr : relOk s r) :
  Calls Tryz.prog 26 #[.int .i64 s, .agg cs, u] w fun e w' => e = .returned (.tuple #[.bool (tb (ys ∈ r.2)), .int .i64 0]) ∧ Below w.heap.size w w' := by
 have hvo : tb (relOk s r) = true := tb_true hr
 obtain ⟨u2, hv2, hI, hx⟩ := pair_ex h
 obtain rfl := agg_of hv2
 have H := Lib.hid h
 have HU := Lib.hid hu
 have HS : Hid (sortedL r.2) := fun i h h0 => (hr.2.2 i h).2 h0
 clear h hx hv2 hu hr
 go_enter Tryz.func26, Tryz.ntmps26
 go_wp2_with fail
 generalize hW : World.alloc w _ = W
 have hbW : Below w.heap.size w W := hW ▸ bA
 have hsW : w.heap.size + 1 ≤ W.heap.size := by rw [← hW]; simp
 have f0 : W.cell? ⟨w.heap.size, 0, none⟩ = some (.int .i64 r.1) := by rw [← hW]; simp [go_sem]
 have f1 : W.cell? ⟨w.heap.size, 1, none⟩ = some u2 := by rw [← hW]; simp [go_sem]
 clear hW
 refine (ValidRel_any W (r := r) (H.out.below hbW) s).mono ?_
 rintro e w1 ⟨rfl, hb1⟩
 rw [hvo]
 have hz1 := hb1.size
 have hbw1 := bthen hbW hb1
 replace f0 := (cellB hb1 (by omega)).trans f0
 replace f1 := (cellB hb1 (by omega)).trans f1
 clear hvo
 go_wp2_with fail
 refine (has_any w1 (r := r) (H.out.below hbw1) (HU.out.below hbw1) (HS.out)).mono ?_
 rintro e w2 ⟨rfl, hb2⟩
 go_wp2_with fail
 go_ret2
 exact ⟨rfl, bthen hbw1 hb2⟩
set_option maxHeartbeats 1600000 in
theorem Keeps_any (w : World) {cs cs' : Array Value} {f : Int × List Int} {r : Int × List (List Int)} (hf : opT.Rd w cs.toList f) (h : relT.Rd w cs'.toList r) {s : Int} (hr : relOk s r) (ho : opOk s f) :
  Calls Tryz.prog 22 #[.int .i64 s, .agg cs, .agg cs'] w fun e w' => e = .returned (.tuple #[.bool (tb (keepsP s f r)), .int .i64 0]) ∧ Below w.heap.size w w' := by
 have hvo : tb (opOk s f) = true := tb_true ho
 have hvr : tb (relOk s r) = true := tb_true hr
 obtain ⟨u2, hv2, hI, hx⟩ := pair_ex hf
 obtain rfl := agg_of hv2
 obtain ⟨u3, hv3, hI3, hx3⟩ := pair_ex h
 obtain rfl := agg_of hv3
 have HF := Lib.hid hf
 have H := Lib.hid h
 have HR := Lib.hid hr
 have HO := Lib.hid ho
 clear h hx hv2 hf hr ho hv3 hx3
 go_enter Tryz.func22, Tryz.ntmps22
 go_wp2_with fail
 generalize hW : World.alloc (World.alloc w _) _ = W
 have hbW : Below w.heap.size w W := hW ▸ bthen bA bA
 have hsW : w.heap.size + 2 ≤ W.heap.size := by rw [← hW]; simp
 have f0 : W.cell? ⟨w.heap.size, 0, none⟩ = some (.int .i64 f.1) := by rw [← hW]; simp [go_sem]
 have f1 : W.cell? ⟨w.heap.size, 1, none⟩ = some u2 := by rw [← hW]; simp [go_sem]
 have g0 : W.cell? ⟨w.heap.size + 1, 0, none⟩ = some (.int .i64 r.1) := by rw [← hW]; simp [go_sem]
 have g1 : W.cell? ⟨w.heap.size + 1, 1, none⟩ = some u3 := by rw [← hW]; simp [go_sem]
 clear hW
 refine (ValidOp_any W (f := f) (HF.out.below hbW) s).mono ?_
 rintro e w1 ⟨rfl, hb1⟩
 rw [hvo]
 have hz1 := hb1.size
 have hbw1 := bthen hbW hb1
 replace f0 := (cellB hb1 (by omega)).trans f0
 replace f1 := (cellB hb1 (by omega)).trans f1
 replace g0 := (cellB hb1 (by omega)).trans g0
 replace g1 := (cellB hb1 (by omega)).trans g1
 clear hvo
 go_wp2_with fail
 refine (ValidRel_any w1 (r := r) (H.out.below hbw1) s).mono ?_
 rintro e w2 ⟨rfl, hb2⟩
 rw [hvr]
 have hz2 := hb2.size
 have hbw2 := bthen hbw1 hb2
 replace f0 := (cellB hb2 (by omega)).trans f0
 replace f1 := (cellB hb2 (by omega)).trans f1
 replace g0 := (cellB hb2 (by omega)).trans g0
 replace g1 := (cellB hb2 (by omega)).trans g1
 clear hvr
 go_wp2_with fail
 refine (keeps_any w2 (f := f) (r := r) (HF.out.below hbw2) (H.out.below hbw2) HR.out HO.out).mono ?_
 rintro e w3 ⟨rfl, hb3⟩
 go_wp2_with fail
 go_ret2
 exact ⟨rfl, bthen hbw2 hb3⟩
end Go.Proofs.YtggelmbnliajeaaGreatDoor
namespace Go.Proofs.YtggelmbnliajeaaGreatDoor
open Go.RowKit Go.Sort
set_option maxHeartbeats 1600000 in
set_option maxRecDepth 100000 in
theorem pairFault_any (w : World) {cs cs' : Array Value} {r q : Int × List (List Int)} (h : relT.Rd w cs.toList r) (h' : relT.Rd w cs'.toList q) {s : Int} (hr : relOk s r) (hq : relOk s q) (ha : r.1 = q.1) :
  Calls Tryz.prog 73 #[.int .i64 s, .agg cs, .agg cs'] w fun e w' => e = .returned (.int .i64 0) ∧ Below w.heap.size w w' := by
 obtain ⟨v, hv, hI, hx⟩ := pair_ex h
 obtain rfl := agg_of hv
 obtain ⟨v', hv', hI', hx'⟩ := pair_ex h'
 obtain rfl := agg_of hv'
 obtain ⟨ra, rn, rc, rfl⟩ := rd_sl hx
 obtain ⟨qa, qn, qc, rfl⟩ := rd_sl hx'
 have H := Lib.hid h
 have H' := Lib.hid h'
 have HR := Lib.hid hr
 have HQ := Lib.hid hq
 have HA : Hid ((r.1 != q.1) = false) := by unfold Hid; rw [ha]; simp
 clear h h' hv hv' hx hx' hr hq ha
 go_enter Tryz.func73, Tryz.ntmps73
 go_upto_region 1 with (fail)
 generalize hW : World.alloc (World.alloc w _) _ = W
 have hbW : Below w.heap.size w W := hW ▸ bAA
 have a0 : W.cell? ⟨w.heap.size, 0, none⟩ = some (.int .i64 r.1) := by rw [← hW]; simp [go_sem]
 have a1 : W.cell? ⟨w.heap.size, 1, none⟩ = some (.slice ra rn rc) := by rw [← hW]; simp [go_sem]
 have b0 : W.cell? ⟨w.heap.size + 1, 0, none⟩ = some (.int .i64 q.1) := by rw [← hW]; simp [go_sem]
 have b1 : W.cell? ⟨w.heap.size + 1, 1, none⟩ = some (.slice qa qn qc) := by rw [← hW]; simp [go_sem]
 have hsW : w.heap.size + 2 = W.heap.size := by rw [← hW]; simp
 clear hW
 go_wp2_with fail
 refine (ValidRel_any W (cs := #[.int .i64 r.1, .slice ra rn rc]) (H.out.below hbW) s).mono ?_
 rw [tb_true HR.out]
 rintro e w1 ⟨rfl, hb1⟩
 have hz1 := hb1.size
 replace a0 := (cellB hb1 (by omega)).trans a0
 replace a1 := (cellB hb1 (by omega)).trans a1
 replace b0 := (cellB hb1 (by omega)).trans b0
 replace b1 := (cellB hb1 (by omega)).trans b1
 go_wp2_with fail
 refine (ValidRel_any w1 (cs := #[.int .i64 q.1, .slice qa qn qc]) ((H'.out.below hbW).below hb1) s).mono ?_
 rw [tb_true HQ.out]
 rintro e w2 ⟨rfl, hb2⟩
 have hne := HA.out
 replace a0 := (cellB hb2 (by omega)).trans a0
 replace a1 := (cellB hb2 (by omega)).trans a1
 replace b0 := (cellB hb2 (by omega)).trans b0
 replace b1 := (cellB hb2 (by omega)).trans b1
 go_wp2_with fail
 go_ret
 exact ⟨rfl, bthen (bthen hbW hb1) hb2⟩
set_option maxHeartbeats 1600000 in
set_option maxRecDepth 100000 in
theorem IsPartOf1_any (w : World) {v : Value} {x : List Int} (h : intsT.Rd w [v] x) {q : Int × List (List Int)} {s : Int} (hq : relOk s q) {bq : Nat} {ad : Option Addr} {n c : Nat} (c0 : w.cell? ⟨bq, 0, none⟩ = some (.int .i64 q.1)) (c1 : w.cell? ⟨bq, 1, none⟩ = some (.slice ad n c)) (hr : relT.Rd w [.int .i64 q.1, .slice ad n c] q) :
  Calls Tryz.prog 74 #[v, .pointer (some ⟨bq, 0, none⟩)] w fun e w' => e = .returned (.bool (!tb (x ∈ q.2))) ∧ Below w.heap.size w w' := by
 have H := Lib.hid h
 have HR := Lib.hid hr
 have HQ := Lib.hid hq
 obtain ⟨va, vc, rfl⟩ := rd_slice h
 clear h hr hq
 go_enter Tryz.func74, Tryz.ntmps74
 go_wp2_with fail
 refine (has_any (cs := #[.int .i64 q.1, .slice ad n c]) w HR.out H.out (relOk_sorted HQ.out)).mono ?_
 rintro e w1 ⟨rfl, hb1⟩
 go_wp2_with fail
 go_ret
 exact ⟨rfl, hb1⟩
theorem IsPartOf_any (w : World) {cs cs' : Array Value} {r q : Int × List (List Int)} (h : relT.Rd w cs.toList r) (h' : relT.Rd w cs'.toList q) {s : Int} (hr : relOk s r) (hq : relOk s q) (ha : r.1 = q.1) :
  Calls Tryz.prog 30 #[.int .i64 s, .agg cs, .agg cs'] w fun e w' => e = .returned (.tuple #[.bool (!anyB (fun l => !tb (l ∈ q.2)) r.2), .int .i64 0]) ∧ Below w.heap.size w w' := by
 obtain ⟨v, hv, hI, hx⟩ := pair_ex h
 obtain rfl := agg_of hv
 obtain ⟨v', hv', hI', hx'⟩ := pair_ex h'
 obtain rfl := agg_of hv'
 obtain ⟨ra, rn, rc, rfl⟩ := rd_sl hx
 obtain ⟨qa, qn, qc, rfl⟩ := rd_sl hx'
 have H := Lib.hid h
 have H' := Lib.hid h'
 have HX := Lib.hid hx
 have HR := Lib.hid hr
 have HQ := Lib.hid hq
 have HA := Lib.hid ha
 clear h h' hv hv' hx hx' hr hq ha
 go_enter Tryz.func30, Tryz.ntmps30
 go_upto_region 1 with (fail)
 generalize hW : World.alloc (World.alloc w _) _ = W
 have hbW : Below w.heap.size w W := hW ▸ bAA
 have a0 : W.cell? ⟨w.heap.size, 0, none⟩ = some (.int .i64 r.1) := by rw [← hW]; simp [go_sem]
 have a1 : W.cell? ⟨w.heap.size, 1, none⟩ = some (.slice ra rn rc) := by rw [← hW]; simp [go_sem]
 have b0 : W.cell? ⟨w.heap.size + 1, 0, none⟩ = some (.int .i64 q.1) := by rw [← hW]; simp [go_sem]
 have b1 : W.cell? ⟨w.heap.size + 1, 1, none⟩ = some (.slice qa qn qc) := by rw [← hW]; simp [go_sem]
 have hsW : w.heap.size + 2 = W.heap.size := by rw [← hW]; simp
 clear hW
 go_wp2_with fail
 refine (pairFault_any W (cs := #[.int .i64 r.1, .slice ra rn rc]) (cs' := #[.int .i64 q.1, .slice qa qn qc]) (H.out.below hbW) (H'.out.below hbW) HR.out HQ.out HA.out).mono ?_
 rintro e w1 ⟨rfl, hb1⟩
 have hz1 := hb1.size
 replace a0 := (cellB hb1 (by omega)).trans a0
 replace a1 := (cellB hb1 (by omega)).trans a1
 replace b0 := (cellB hb1 (by omega)).trans b0
 replace b1 := (cellB hb1 (by omega)).trans b1
 have hbw1 := bthen hbW hb1
 have HX1 := Lib.hid (HX.out.below hbw1)
 have HQ1 := Lib.hid (H'.out.below hbw1)
 go_wp2_with fail
 refine (ContainsFuncInts_any w1 HX1.out (fun l => !tb (l ∈ q.2)) 74 #[.pointer (some ⟨w.heap.size + 1, 0, none⟩)] (enters Tryz.func74 (by kernel_rfl) rfl) (Lib.hid fun W' hW' k hk u hu => ?_)).mono ?_
 ·exact IsPartOf1_any W' hu HQ.out ((hW'.cell (cell_lt b0)).trans b0) ((hW'.cell (cell_lt b1)).trans b1) (HQ1.out.below hW')
 rintro e w2 ⟨rfl, hb2⟩
 have hbw2 := bthen hbw1 hb2
 go_wp2_with fail
 go_ret2
 exact ⟨rfl, hbw2⟩
end Go.Proofs.YtggelmbnliajeaaGreatDoor
namespace Go.Proofs.YtggelmbnliajeaaGreatDoor
open Go.RowKit Go.Sort
set_option maxHeartbeats 800000 in
theorem applyTo1_any (w : World) {bt bu b o n k0 : Nat} {a0 : Option Addr} {c : Nat} {m : Nat} {s : Int} {u : Value} {x : List Int} (h : intsT.Rd w [u] x) (hs : 0 ≤ s ∧ s ≤ 1000) (hn : 0 < n) (t0 : w.cell? ⟨bt, 0, none⟩ = some (.int .i64 s)) (u0 : w.cell? ⟨bu, 0, none⟩ = some (.slice (some ⟨b, o, none⟩) n c)) (c0 : w.cell? ⟨b, o, none⟩ = some (.slice a0 m k0)) :
  Calls Tryz.prog 66 #[u, .pointer (some ⟨bt, 0, none⟩), .pointer (some ⟨bu, 0, none⟩)] w fun e w' => e = .returned (.bool (!(tb (rowOk s m x)))) ∧ Below w.heap.size w w' := by
 have HX := Lib.hid h
 obtain ⟨ad, cap, rfl⟩ := rd_slice h
 clear h
 go_enter Tryz.func66, Tryz.ntmps66
 go_wp2_with fail
 have k0 := cell_regrown t0
 have k1 := cell_regrown u0
 have k2 := cell_regrown c0
 have cV : ∀ d os, Calls Tryz.prog 47 #[.int .i64 s, .slice ad x.length cap, .int .i64 (m : Int)] (grow (redrawn w d) os) fun e w'' => e = .returned (.bool (tb (rowOk s m x))) ∧ ∃ p : Regrown, w'' = grow (redrawn w p.d) p.os := fun d os =>
  Calls.regrown_of (areValues_any _ (HX.out.below (below_regrown _ d os)) _ _ hs.1 (by omega))
 refine wp_region_quiet_below (by kernel_rfl) (by kernel_rfl) ?_
 repeat (go_big_quiet_step (exact cV _ _))
 refine wpQuiet_nil ?_
 rintro w2 ⟨p, rfl⟩
 have hb2 := below_regrown w p.d p.os
 go_wp2_with fail
 go_ret
 exact ⟨rfl, hb2⟩
set_option maxHeartbeats 1600000 in
set_option maxRecDepth 100000 in
theorem ApplyToTuples_any (w : World) {cs : Array Value} {f : Int × List Int} (h : opT.Rd w cs.toList f) {v : Value} {u : List (List Int)} (hu : rowsT.Rd w [v] u) {s : Int} {m : Nat} (ho : opOk s f) (ht : tupsOk s f.1 m u) (hm : m ≤ 1000) :
  Calls Tryz.prog 25 #[.int .i64 s, .agg cs, v] w fun e w' => ∃ x, e = .returned (.tuple #[x, .int .i64 0]) ∧ intsT.Fr w.heap.size w' [x] (madeL s f.2 u m) ∧ Below w.heap.size w w' := by
 have hvo : tb (opOk s f) = true := tb_true ho
 have hlen : ((((u.length : Nat) : Int) != f.1) : Bool) = false := by simp [ht.1]
 have hs := ho.1
 unfold sizeOk at hs
 have h0 : 0 < u.length := by have := ho.2.1; have := ht.1; unfold sizeOk at *; omega
 have hno : anyB (fun l => !(tb (rowOk s (m : Int) l))) u = false := by
  unfold anyB
  rw [List.any_eq_false]
  intro l hl
  obtain ⟨g1, g2⟩ := ht.2 l hl
  rw [tb_true (show rowOk s (m : Int) l from ⟨by omega, g2⟩)]
  simp
 obtain ⟨v1, hv1, -, -⟩ := pair_ex h
 obtain rfl := agg_of hv1
 obtain ⟨la, lc, hv, -, -, hcell⟩ := slices_ex hu
 obtain rfl : v = _ := by simpa using hv
 obtain ⟨b, o, rfl, hb, hce⟩ := hcell h0
 obtain ⟨ux, hux, hc0⟩ := hce 0 h0
 obtain ⟨a0, k0, rfl⟩ := rd_slice hux
 rw [(ht.2 _ (List.getElem_mem h0)).1, Nat.add_zero] at hc0
 have HF := Lib.hid h
 have HU := Lib.hid hu
 have HO := Lib.hid ho
 have HT := Lib.hid ht
 clear h hv1 hu hv hcell hce hux ho ht
 go_enter Tryz.func25, Tryz.ntmps25
 go_wp2_with fail
 generalize hW : World.alloc (World.alloc (World.alloc w _) _) _ = W
 have hbW : Below w.heap.size w W := hW ▸ bthen bAA bA
 have hsW : w.heap.size + 3 ≤ W.heap.size := by rw [← hW]; simp
 have s0 : W.cell? ⟨w.heap.size, 0, none⟩ = some (.int .i64 s) := by rw [← hW]; simp [go_sem]
 have f0 : W.cell? ⟨w.heap.size + 1, 0, none⟩ = some (.int .i64 f.1) := by rw [← hW]; simp [go_sem]
 have f1 : W.cell? ⟨w.heap.size + 1, 1, none⟩ = some v1 := by rw [← hW]; simp [go_sem]
 have u0 : W.cell? ⟨w.heap.size + 1 + 1, 0, none⟩ = some (.slice (some ⟨b, o, none⟩) u.length lc) := by rw [← hW]; simp [go_sem]
 have c0 := (cellB hbW hb).trans hc0
 have hbl : b < W.heap.size := by omega
 clear hW hc0
 refine (ValidOp_any W (f := f) (HF.out.below hbW) s).mono ?_
 rintro e w1 ⟨rfl, hb1⟩
 rw [hvo]
 have hz1 := hb1.size
 have hbw1 := bthen hbW hb1
 replace s0 := (cellB hb1 (by omega)).trans s0
 replace f0 := (cellB hb1 (by omega)).trans f0
 replace f1 := (cellB hb1 (by omega)).trans f1
 replace u0 := (cellB hb1 (by omega)).trans u0
 replace c0 := (cellB hb1 (by omega)).trans c0
 clear hvo
 have HPF : Hid (∀ W', Below w1.heap.size w1 W' → ∀ k (h : k < u.length) (x : Value), intsT.Rd W' [x] u[k] → Calls Tryz.prog 66 (#[x] ++ #[.pointer (some ⟨w.heap.size, 0, none⟩), .pointer (some ⟨w.heap.size + 1 + 1, 0, none⟩)]) W' fun e W'' => e = .returned (.bool ((fun l => !(tb (rowOk s (m : Int) l))) u[k])) ∧ Below W'.heap.size W' W'') := by
  intro W' hW' k hk x hx
  exact applyTo1_any W' hx (by omega) h0 ((cellB hW' (by omega)).trans s0) ((cellB hW' (by omega)).trans u0) ((cellB hW' (by omega)).trans c0)
 go_wp2_with fail
 refine (ContainsFuncInts_any _ (HU.out.below hbw1) (fun l => !(tb (rowOk s (m : Int) l))) 66 _ (enters Tryz.func66 (by kernel_rfl) rfl) HPF.out).mono ?_
 rintro e w2 ⟨rfl, hb2⟩
 rw [hno]
 have hz2 := hb2.size
 have hbw2 := bthen hbw1 hb2
 replace s0 := (cellB hb2 (by omega)).trans s0
 replace f0 := (cellB hb2 (by omega)).trans f0
 replace f1 := (cellB hb2 (by omega)).trans f1
 replace u0 := (cellB hb2 (by omega)).trans u0
 clear hno HPF
 go_wp2_with fail
 refine (made_any w2 (f := f) (HF.out.below hbw2) (HU.out.below hbw2) HO.out HT.out hm).mono ?_
 rintro e w3 ⟨g, rfl, hf3, hb3⟩
 go_wp2_with fail
 go_ret2
 exact ⟨_, rfl, hf3.mono hbw2.size, bthen hbw2 hb3⟩
end Go.Proofs.YtggelmbnliajeaaGreatDoor
namespace Go.Proofs.YtggelmbnliajeaaGreatDoor
open Go.RowKit Go.Sort
theorem cons_tail {α : Type} {E : Ty α} {w : World} {a b : Value} {x : Int × List α} (h : (Ty.cons (Ty.slice E)).Rd w [a, b] x) : (Ty.slice E).Rd w [b] x.2 := by
 obtain ⟨v, hv, -, hx⟩ := pair_ex h
 simp only [List.cons.injEq, and_true] at hv
 rw [hv.2]
 exact hx
theorem lit_one {α : Type} {F : Ty α} {w : World} {c1 c2 : Value} {x : Int × List α} {T : TypeId} (h : (Ty.cons (Ty.slice F)).Rd w [c1, c2] x) : (Ty.slice (Ty.cons (Ty.slice F))).Rd (w.alloc (.cells #[c1, c2] T)) [.slice (some ⟨w.heap.size, 0, none⟩) 1 1] [x] := by
 obtain ⟨fp, h1⟩ := h
 have hs : Same fp w (w.alloc (.cells #[c1, c2] T)) := Same.below bA ((Ty.cons (Ty.slice F)).lt h1)
 refine ⟨w.heap.size :: fp, some ⟨w.heap.size, 0, none⟩, 1, rfl, Nat.le_refl _, by simp [capMax], .inr ⟨by simp, w.heap.size, 0, fun _ => fp, rfl, by simp, by simp, fun i hi => ?_⟩⟩
 obtain rfl : i = 0 := by simpa using hi
 refine ⟨[c1, c2], (Ty.cons (Ty.slice F)).same h1 hs, fun j hj => ?_⟩
 rcases (show j = 0 ∨ j = 1 by simp at hj; omega) with rfl | rfl <;> simp
theorem lit_two {α : Type} {F : Ty α} {w : World} {c1 c2 c3 c4 : Value} {x y : Int × List α} {T : TypeId} (h : (Ty.cons (Ty.slice F)).Rd w [c1, c2] x) (h' : (Ty.cons (Ty.slice F)).Rd w [c3, c4] y) : (Ty.slice (Ty.cons (Ty.slice F))).Rd (w.alloc (.cells #[c1, c2, c3, c4] T)) [.slice (some ⟨w.heap.size, 0, none⟩) 2 2] [x, y] := by
 obtain ⟨fp, h1⟩ := h
 obtain ⟨fq, h2⟩ := h'
 have hs : Same fp w (w.alloc (.cells #[c1, c2, c3, c4] T)) := Same.below bA ((Ty.cons (Ty.slice F)).lt h1)
 have hs' : Same fq w (w.alloc (.cells #[c1, c2, c3, c4] T)) := Same.below bA ((Ty.cons (Ty.slice F)).lt h2)
 refine ⟨w.heap.size :: (fp ++ fq), some ⟨w.heap.size, 0, none⟩, 2, rfl, Nat.le_refl _, by simp [capMax], .inr ⟨by simp, w.heap.size, 0, fun i => match i with | 0 => fp | _ => fq, rfl, by simp, by simp [List.range_succ], fun i hi => ?_⟩⟩
 rcases (show i = 0 ∨ i = 1 by simp at hi; omega) with rfl | rfl
 ·refine ⟨[c1, c2], (Ty.cons (Ty.slice F)).same h1 hs, fun j hj => ?_⟩
  rcases (show j = 0 ∨ j = 1 by simp at hj; omega) with rfl | rfl <;> simp [Ty.slice, Ty.cons]
 ·refine ⟨[c3, c4], (Ty.cons (Ty.slice F)).same h2 hs', fun j hj => ?_⟩
  rcases (show j = 0 ∨ j = 1 by simp at hj; omega) with rfl | rfl <;> simp [Ty.slice, Ty.cons]
theorem part_yes {R Q : List (List Int)} (h : ∀ l ∈ R, l ∈ Q) : (!anyB (fun l => !tb (l ∈ Q)) R) = true := by
 unfold anyB
 rw [List.any_eq_false.2]
 ·rfl
 intro l hl
 simp [tb_true (h l hl)]
theorem brk_pos {s : Int} {f : Int × List Int} {r : Int × List (List Int)} {k : Nat} (ho : opOk s f) (h : brkAt s f r k) : 0 < r.2.length := by
 have ha := ho.2.1
 rcases Nat.eq_zero_or_pos r.2.length with h0 | h0
 ·have hk := h.2.2
  rw [h0, show f.1.toNat = (f.1.toNat - 1) + 1 by omega, Int.pow_succ] at hk
  simp at hk
  omega
 ·exact h0
theorem rel_lim {s : Int} {r : Int × List (List Int)} (hr : relOk s r) : r.2.length ≤ 1000000 := by
 obtain ⟨h1, h2⟩ := rel_len_le hr
 omega
theorem FullRel_at (w : World) {s a : Int} {ar N : Nat} (ha : a = (ar : Int)) (hs : 1 ≤ s ∧ s ≤ 4) (har : 1 ≤ ar ∧ ar ≤ 2) (hN : s ^ ar = (N : Int)) :
  Calls Tryz.prog 31 #[.int .i64 s, .int .i64 a] w (RetAC relT w (a, allT s ar N) 0) := by
 subst ha
 exact FullRel_any w hs har hN
theorem P6Op2_any (w : World) {v : Value} {code : List Int} (h : bytesT.Rd w [v] code) {s : Int} (hs : 1 ≤ s ∧ s ≤ 4) :
  Calls Tryz.prog 20 #[v, .int .i64 s, .int .i64 2] w fun e w' => ∃ (cs : List Value) (f : Int × List Int), e = .returned (.agg cs.toArray) ∧ opT.Fr w.heap.size w' cs f ∧ opOk s f ∧ f.1 = 2 ∧ Below w.heap.size w w' := by
 have := P6Op_any w h (s := s) (ar := 2) hs (by omega)
 exact this
end Go.Proofs.YtggelmbnliajeaaGreatDoor
