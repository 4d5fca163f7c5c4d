/-
Contracts: relations and templates that are drawn, seldom ones that are not valid.
A struct of a number and a row, in a box of the call's own, while a source is read and the row grows; result boxes. Contract: a drawn template.
An instance in a box of the call's own, its scopes in other blocks. Contract: a drawn instance.
Contracts: a relation and a template that are drawn, seldom ones that are not valid.
Contracts: a template that is drawn, seldom one that is not valid.
-/
import Derived.Test.YtmnjlhcbabhhlaaGreatQAD
import Derived.Test.YtmnjlhcbabhhlaaGreatQAB
import Derived.Test.YtmnjlhcbabhhlaaGreatQAC
import Derived.Test.YtmnjlhcbabhhlaaGreatQAG
import Derived.Test.YtmnjlhcbabhhlaaGreatQAE
import Derived.Deep.LoopGhost
namespace Go.Proofs.YtmnjlhcbabhhlaaGreat
open Go.RowKit Go.Sort
theorem fr_intsL {base : Nat} {w : World} {xs : List Int} {e : TypeId} {g n : Nat} {cs : Array Value} (hcs : cs = (xs.map (Value.int .i64)).toArray) (hn : xs.length = n) (hI : ∀ a ∈ xs, I64 a) (hg : w.heap.size = g) (hbs : base ≤ g) (hl : n ≤ 1000) :
  intsT.Fr base (w.alloc (.cells cs e)) [.slice (some ⟨g, 0, none⟩) n n] xs := by
 subst hg hcs hn
 exact IR.fr (e := e) ⟨rfl, hI, hbs, World.ownsRow_lit w _ xs.length hbs (by unfold maxLen; omega) (by simp)⟩ (by unfold capMax; omega)
/-- new data come back, of which something is so; the source has turned -/
def FxR {α : Type} (E : Ty α) (Q : α → Prop) (sb B : Nat) (K : Int) (w : World) (e : Ending) (w' : World) : Prop := ∃ (cs : List Value) (x : α), e = .returned (.agg cs.toArray) ∧ E.Fr w.heap.size w' cs x ∧ Q x ∧ SrcR sb B K w' ∧ TchP (fun q => q = sb) w w'
set_option maxHeartbeats 1600000 in
set_option maxRecDepth 100000 in
theorem l01SizeDrawn_any (w : World) {sb B : Nat} {K : Int} (h : SrcR sb B K w) (hK0 : 0 ≤ K) (hK : K ≤ 100000000) :
  Calls Tryz.prog 94 #[.pointer (some ⟨sb, 0, none⟩)] w (NxS sb B (K + 1) 1 4 w) := by
 have H := Lib.hid h
 have hsb := h.lt
 clear h
 go_enter Tryz.func94, Tryz.ntmps94
 go_wp2_with fail
 generalize hW : World.alloc w _ = W
 have hbW : Below w.heap.size w W := hW ▸ bA
 have HL : Hid (intsT.Fr w.heap.size W [.slice (some ⟨w.heap.size, 0, none⟩) 7 7] [2, 2, 3, 3, 1, 4, 2]) := by
  rw [← hW]
  exact fr_intsL rfl rfl (fun a ha => by simp at ha; unfold I64; omega) rfl (Nat.le_refl _) (by decide)
 have HS := Lib.hid (H.out.below hbW)
 clear hW
 refine (among_any W HS.out hK0 (by omega) HL.out.rd (by simp) (rdP_fr' HL.out (by omega))).mono ?_
 rintro e w2 ⟨s, hs, rfl, hs2, ht2⟩
 have hx : 1 ≤ s ∧ s ≤ 4 := by simp at hs; omega
 have HS2 := Lib.hid hs2
 have HT2 := Lib.hid ((TchP.of_below hbW (fun q => q = sb)).then ht2 (fun q _ h => h))
 clear hs hs2 ht2
 go_wp2_with fail
 go_ret
 exact ⟨s, rfl, hx.1, hx.2, HS2.out, HT2.out⟩
set_option maxHeartbeats 1600000 in
set_option maxRecDepth 100000 in
theorem l01Any_any (w : World) {sb B : Nat} {K s : Int} (h : SrcR sb B K w) (hK0 : 0 ≤ K) (hK : K ≤ 10000000) (hs : 1 ≤ s ∧ s ≤ 4) :
  Calls Tryz.prog 102 #[.pointer (some ⟨sb, 0, none⟩), .int .i64 s] w (FbR intsT 50 (fun r => relOk s r ∧ r.1 ≤ 3) sb B (K + 200) w) := by
 have H := Lib.hid h
 have hsb := h.lt
 have hBs : B ≤ sb := let ⟨_, _, _, _, _, _, _, _, _, _, _, _, _, _, h⟩ := h; h
 clear h
 go_enter Tryz.func102, Tryz.ntmps102
 go_wp2_with fail
 generalize hW : World.alloc w _ = W
 have hbW : Below w.heap.size w W := hW ▸ bA
 have hsW : w.heap.size + 1 ≤ W.heap.size := by rw [← hW]; simp
 have r0 : W.cell? ⟨w.heap.size, 0, none⟩ = some (.int .i64 0) := by rw [← hW]; simp [go_sem]
 have r1 : W.cell? ⟨w.heap.size, 1, none⟩ = some (.slice none 0 0) := by rw [← hW]; simp [go_sem]
 have q0 : W.frozen? ⟨w.heap.size, 0, none⟩ = false := by rw [← hW]; simp [go_sem]
 have q1 : W.frozen? ⟨w.heap.size, 1, none⟩ = false := by rw [← hW]; simp [go_sem]
 have HS := Lib.hid (H.out.below hbW)
 clear hW
 refine (pick_any W HS.out hK0 (by omega) (n := 3) (by omega)).mono ?_
 rintro e w2 ⟨p, rfl, hp0, hp1, hs2, ht2⟩
 have hz2 := ht2.size
 replace r0 := (ht2.cell (i := 0) (show w.heap.size < W.heap.size by omega) (by omega)).trans r0
 replace r1 := (ht2.cell (i := 1) (show w.heap.size < W.heap.size by omega) (by omega)).trans r1
 replace q0 := (ht2.frozen (i := 0) (show w.heap.size < W.heap.size by omega) (by omega)).trans q0
 replace q1 := (ht2.frozen (i := 1) (show w.heap.size < W.heap.size by omega) (by omega)).trans q1
 have HS2 := Lib.hid hs2
 have HT2 := Lib.hid ((TchP.of_below hbW (fun q => q = sb)).then ht2 (fun q _ h => h))
 clear hs2 ht2
 obtain ⟨ar, har⟩ : ∃ ar : Nat, 1 + p = (ar : Int) := ⟨(1 + p).toNat, by omega⟩
 have hwr : IntKind.i64.wrap (1 + p) = (ar : Int) := by rw [har]; exact wrap_small (by omega) (by omega)
 have har3 : 1 ≤ ar ∧ ar ≤ 3 := by omega
 obtain ⟨N, hN⟩ : ∃ N : Nat, s ^ ar = (N : Int) := ⟨(s ^ ar).toNat, by have h0 : 0 < s ^ ar := Int.pow_pos (by omega); omega⟩
 have hNb : N ≤ 64 := by
  have h1 := pow_mono' (s := s) (c := 4) (by omega) (by omega) ar
  rcases (show ar = 1 ∨ ar = 2 ∨ ar = 3 by omega) with e | e | e <;> subst e <;> simp at h1 <;> omega
 have HN := Lib.hid hN
 clear hN har
 go_wp2_with fail
 refine (l01DrawnB_any w2 HS2.out (by omega) (by omega) hs (by omega) HN.out).mono ?_
 rintro e w3 ⟨v, n, T, b0, rfl, hI, hb0, hb1, hB, hTl, hq, hs3, ht3⟩
 obtain ⟨ga, gn, gc, rfl⟩ := ex_slice (hB.fr (by unfold capMax; omega))
 have hz3 := ht3.size
 replace r0 := (ht3.cell (i := 0) (show w.heap.size < w2.heap.size by omega) (by omega)).trans r0
 replace r1 := (ht3.cell (i := 1) (show w.heap.size < w2.heap.size by omega) (by omega)).trans r1
 replace q0 := (ht3.frozen (i := 0) (show w.heap.size < w2.heap.size by omega) (by omega)).trans q0
 replace q1 := (ht3.frozen (i := 1) (show w.heap.size < w2.heap.size by omega) (by omega)).trans q1
 have HB := Lib.hid hB
 have HQ : Hid (relOk s (n, T) ∧ n ≤ 3) := ⟨hq.1, by have h1 := hq.2; dsimp only at h1; omega⟩
 have HS3 := Lib.hid hs3
 have HT3 := Lib.hid (HT2.out.then ht3 (fun q _ h => h))
 obtain ⟨g0, g1⟩ := set2_cells (x := .int .i64 n) (y := .slice ga gn gc) r0 r1
 have HI := Lib.hid hI
 have HF : Hid (Bl intsT 50 b0 ((w3.setCell ⟨w.heap.size, 0, none⟩ (.int .i64 n)).setCell ⟨w.heap.size, 1, none⟩ (.slice ga gn gc)).heap.size ((w3.setCell ⟨w.heap.size, 0, none⟩ (.int .i64 n)).setCell ⟨w.heap.size, 1, none⟩ (.slice ga gn gc)) (.slice ga gn gc) T) := by
  rw [size_set, size_set]
  exact (HB.out.sameB (fun q h1 h2 => Below.heap_setCell _ _ _ _ (by simp; omega))).sameB (fun q h1 h2 => Below.heap_setCell _ _ _ _ (by simp; omega))
 clear hB hq hs3 ht3 hI
 go_wp2_with fail
 refine bodyPost_ret (v := .agg #[.int .i64 n, .slice ga gn gc]) (by simp [results, Tryz.results102, go_sem, g0, g1]) rfl ⟨.slice ga gn gc, n, T, b0, rfl, HI.out, by omega, by rw [size_set, size_set]; omega, HF.out, hTl, HQ.out, ((HS3.out.tch (TchP.set (O := fun q => q = w.heap.size) rfl) (by omega) (by omega)).tch (TchP.set (O := fun q => q = w.heap.size) rfl) (by omega) (by omega)).mono (by omega), tchS (tchS HT3.out (Nat.le_refl _)) (Nat.le_refl _)⟩
end Go.Proofs.YtmnjlhcbabhhlaaGreat
namespace Go.Proofs.YtmnjlhcbabhhlaaGreat
open Go.RowKit Go.Sort
/-- box g holds a number and a row of the call's own -/
structure DrS {α : Type} (E : Ty α) (e : TypeId) (sb : Nat) (w0 : World) (lo g top : Nat) (n : Int) (v : Value) (T : List α) (w : World) : Prop where
 bl : Bl (E.off g) e lo top w v T
 own : v.ownBlock ≠ some g
 c0 : w.cell? ⟨g, 0, none⟩ = some (.int .i64 n)
 c1 : w.cell? ⟨g, 1, none⟩ = some v
 m0 : w.frozen? ⟨g, 0, none⟩ = false
 m1 : w.frozen? ⟨g, 1, none⟩ = false
 lw : w0.heap.size ≤ lo
 lg : lo ≤ g
 hi : g < top
 le : top ≤ w.heap.size
 hs : sb < w0.heap.size
theorem bl_off {α : Type} {E : Ty α} {e base top g : Nat} {w : World} {v : Value} {T : List α} (h : Bl E e base top w v T) (hg : g < base ∨ top ≤ g) : Bl (E.off g) e base top w v T := by
 obtain ⟨L, fps, h1, h2, h3, h4, h5, h6⟩ := h
 refine ⟨L, fps, h1, fun i hi => ?_, h3, h4, h5, h6⟩
 obtain ⟨cs, h7, h8⟩ := h2 i hi
 refine ⟨cs, ⟨h7, fun hm => ?_⟩, h8⟩
 have := h4 g (List.mem_flatMap.2 ⟨i, by simpa using hi, hm⟩)
 omega
section
variable {α : Type} {E : Ty α} {e : TypeId} {sb lo g top : Nat} {w0 w w' : World} {n : Int} {v : Value} {T : List α}
theorem DrS.same (h : DrS E e sb w0 lo g top n v T w) (hs : ∀ k, lo ≤ k → k < top → w'.heap[k]? = w.heap[k]?) (hz : top ≤ w'.heap.size) : DrS E e sb w0 lo g top n v T w' :=
 have hg := hs g h.lg h.hi
 ⟨h.bl.sameB hs, h.own, (World.cell?_of_block (a := ⟨g, 0, none⟩) hg).trans h.c0, (World.cell?_of_block (a := ⟨g, 1, none⟩) hg).trans h.c1, (World.frozen?_of_block (a := ⟨g, 0, none⟩) hg).trans h.m0, (World.frozen?_of_block (a := ⟨g, 1, none⟩) hg).trans h.m1, h.lw, h.lg, h.hi, hz, h.hs⟩
theorem DrS.tch (h : DrS E e sb w0 lo g top n v T w) (ht : TchP (fun q => q = sb) w w') : DrS E e sb w0 lo g top n v T w' :=
 h.same (fun k h1 h2 => ht.block k (by have := h.le; omega) (by have := h.lw; have := h.hs; omega)) (Nat.le_trans h.le ht.size)
theorem DrS.below {C : Nat} (h : DrS E e sb w0 lo g top n v T w) (hb : Below C w w') (hC : top ≤ C) : DrS E e sb w0 lo g top n v T w' :=
 h.same (fun k _ h2 => hb.block k (by omega)) (Nat.le_trans h.le hb.size)
theorem DrS.grown {row : Option Nat} (h : DrS E e sb w0 lo g top n v T w) (hg : w.grownBy w' row) (hr : ∀ b, row = some b → b < lo ∨ top ≤ b) : DrS E e sb w0 lo g top n v T w' :=
 h.same (fun k h1 h2 => hg.block k (by have := h.le; omega) (fun e => by have := hr k e.symm; omega)) (Nat.le_trans h.le hg.size)
theorem DrS.other {b i : Nat} {u : Value} (h : DrS E e sb w0 lo g top n v T w) (hb : b < lo ∨ top ≤ b) : DrS E e sb w0 lo g top n v T (w.setCell ⟨b, i, none⟩ u) :=
 h.same (fun k h1 h2 => Below.heap_setCell _ _ _ _ (fun e => by simp at e; omega)) (by rw [size_set]; exact h.le)
theorem DrS.num (h : DrS E e sb w0 lo g top n v T w) (n' : Int) : DrS E e sb w0 lo g top n' v T (w.setCell ⟨g, 0, none⟩ (.int .i64 n')) :=
 ⟨off_same h.bl h.own (fun k hk => Below.heap_setCell _ _ _ _ (fun e => hk (by simpa using e))), h.own, World.cell?_setCell_same _ _ _ h.c0, (World.cell?_setCell_other _ _ _ _ (by simp)).trans h.c1, (World.frozen?_setCell _ _ _ _).trans h.m0, (World.frozen?_setCell _ _ _ _).trans h.m1, h.lw, h.lg, h.hi, by rw [size_set]; exact h.le, h.hs⟩
theorem DrS.cells (h : DrS E e sb w0 lo g top n v T w) (hg : w.grownBy w' v.ownBlock) : w'.cell? ⟨g, 1, none⟩ = some v ∧ w'.frozen? ⟨g, 1, none⟩ = false := by
 have hk := hg.block g (Nat.lt_of_lt_of_le h.hi h.le) (fun e => h.own e.symm)
 exact ⟨(World.cell?_of_block (a := ⟨g, 1, none⟩) hk).trans h.c1, (World.frozen?_of_block (a := ⟨g, 1, none⟩) hk).trans h.m1⟩
/-- the row has grown, and its new value is laid into the box -/
theorem DrS.row {v' : Value} {T' : List α} (h : DrS E e sb w0 lo g top n v T w) (hB : Bl (E.off g) e lo w'.heap.size w' v' T') (hg : w.grownBy w' v.ownBlock) (ho : v'.ownBlock = v.ownBlock ∨ v'.ownBlock = some w.heap.size) : DrS E e sb w0 lo g w'.heap.size n v' T' (w'.setCell ⟨g, 1, none⟩ v') := by
 have hlt : g < w.heap.size := Nat.lt_of_lt_of_le h.hi h.le
 have hk := hg.block g hlt (fun e => h.own e.symm)
 have hz := hg.size
 have h1 := h.le
 have h2 := h.hi
 have own' : v'.ownBlock ≠ some g := by
  rcases ho with e | e <;> rw [e]
  ·exact h.own
  ·exact fun e' => by simp at e'; omega
 exact ⟨off_same hB own' (fun k hk => Below.heap_setCell _ _ _ _ (fun e => hk (by simpa using e))), own', (World.cell?_setCell_other _ _ _ _ (by simp)).trans ((World.cell?_of_block (a := ⟨g, 0, none⟩) hk).trans h.c0), World.cell?_setCell_same _ _ _ ((World.cell?_of_block (a := ⟨g, 1, none⟩) hk).trans h.c1), (World.frozen?_setCell _ _ _ _).trans ((World.frozen?_of_block (a := ⟨g, 0, none⟩) hk).trans h.m0), (World.frozen?_setCell _ _ _ _).trans ((World.frozen?_of_block (a := ⟨g, 1, none⟩) hk).trans h.m1), h.lw, h.lg, by omega, by rw [size_set]; exact Nat.le_refl _, h.hs⟩
/-- a box that has just been made for what a callee has handed back -/
theorem DrS.box {t : TypeId} {b0 : Nat} (hw : w' = w.alloc (.cells #[.int .i64 n, v] t)) (hg : w.heap.size = g) (hB : Bl E e b0 w.heap.size w v T) (hb : b0 ≤ w.heap.size) (hlo : w0.heap.size ≤ b0) (hs : sb < w0.heap.size) : DrS E e sb w0 b0 g (g + 1) n v T w' := by
 subst hw hg
 have hown : v.ownBlock ≠ some w.heap.size := fun e => by have := hB.lt_top e; omega
 refine ⟨(bl_off ((hB.below bA (Nat.le_refl _)).mono (Nat.le_refl _)) (.inr (Nat.le_refl _))).mono (by omega), hown, by simp [go_sem], by simp [go_sem], by simp [go_sem], by simp [go_sem], hlo, hb, Nat.lt_succ_self _, by simp, hs⟩
theorem DrS.new {t : TypeId} (hw : w' = w.alloc (.cells #[.int .i64 n, .slice none 0 0] t)) (hg : w.heap.size = g) (hlo : w0.heap.size ≤ g) (hs : sb < w0.heap.size) : DrS E e sb w0 g g (g + 1) n (.slice none 0 0) [] w' := by
 subst hw hg
 exact ⟨Bl.nil, by simp [Value.ownBlock], by simp [go_sem], by simp [go_sem], by simp [go_sem], by simp [go_sem], hlo, Nat.le_refl _, Nat.lt_succ_self _, by simp, hs⟩
theorem off_bl {α : Type} {E : Ty α} {g e base top : Nat} {w : World} {v : Value} {ys : List α} (h : Bl (E.off g) e base top w v ys) : Bl E e base top w v ys := by
 obtain ⟨L, fps, h1, h2, h3⟩ := h
 exact ⟨L, fps, h1, fun i hi => let ⟨cs, h7, h8⟩ := h2 i hi; ⟨cs, h7.1, h8⟩, h3⟩
end
/-- a box of two cells that may be written -/
def ResB (r : Nat) (w : World) : Prop := r < w.heap.size ∧ (∃ u, w.cell? ⟨r, 0, none⟩ = some u) ∧ (∃ u, w.cell? ⟨r, 1, none⟩ = some u) ∧ w.frozen? ⟨r, 0, none⟩ = false ∧ w.frozen? ⟨r, 1, none⟩ = false
section
variable {r sb : Nat} {w w' W : World}
theorem ResB.same (h : ResB r w) (hs : w'.heap[r]? = w.heap[r]?) (hz : w.heap.size ≤ w'.heap.size) : ResB r w' := by
 obtain ⟨h0, ⟨u, h1⟩, ⟨x, h2⟩, h3, h4⟩ := h
 exact ⟨by omega, ⟨u, (World.cell?_of_block (a := ⟨r, 0, none⟩) hs).trans h1⟩, ⟨x, (World.cell?_of_block (a := ⟨r, 1, none⟩) hs).trans h2⟩, (World.frozen?_of_block (a := ⟨r, 0, none⟩) hs).trans h3, (World.frozen?_of_block (a := ⟨r, 1, none⟩) hs).trans h4⟩
theorem ResB.tch (h : ResB r w) (ht : TchP (fun q => q = sb) w w') (hr : r ≠ sb) : ResB r w' := h.same (ht.block r h.1 hr) ht.size
theorem ResB.below {C : Nat} (h : ResB r w) (hb : Below C w w') (hC : r < C) : ResB r w' := h.same (hb.block r hC) hb.size
theorem ResB.other {b i : Nat} {u : Value} (h : ResB r w) (hb : b ≠ r) : ResB r (w.setCell ⟨b, i, none⟩ u) := h.same (Below.heap_setCell _ _ _ _ (fun e => hb (by simpa using e.symm))) (by rw [size_set]; exact Nat.le_refl _)
theorem ResB.new {a b : Value} {t : TypeId} (hw : w' = w.alloc (.cells #[a, b] t)) (hr : w.heap.size = r) : ResB r w' := by
 subst hw hr
 exact ⟨by simp, ⟨a, by simp [go_sem]⟩, ⟨b, by simp [go_sem]⟩, by simp [go_sem], by simp [go_sem]⟩
theorem ResB.grown {row : Option Nat} (h : ResB r w) (hg : w.grownBy w' row) (hr : row ≠ some r) : ResB r w' := h.same (hg.block r h.1 (fun e => hr e.symm)) hg.size
theorem tchG {row : Option Nat} (h : TchP (fun q => q = sb) W w) (hg : w.grownBy w' row) (hr : ∀ b, row = some b → W.heap.size ≤ b) : TchP (fun q => q = sb) W w' :=
 h.then (TchP.grown (O := fun q => row = some q) hg (fun k e => e)) (fun k hk e => by have := hr k e; omega)
theorem srcG {row : Option Nat} {B : Nat} {K : Int} (h : SrcR sb B K w) (hg : w.grownBy w' row) (hr : ∀ b, row = some b → sb < b ∧ B ≤ b) : SrcR sb B K w' :=
 h.tch (TchP.grown (O := fun q => row = some q) hg (fun k e => e)) (fun e => by have := (hr sb e).1; omega) (fun q hq e => by have := (hr q e).2; omega)
theorem tchW {C : Nat} (h : TchP (fun q => q = sb) W w) (hb : Below C w w') (hC : W.heap.size ≤ C) : TchP (fun q => q = sb) W w' :=
 ⟨hb.os.trans h.os, hb.tape.trans h.tape, hb.output.trans h.output, Nat.le_trans h.size hb.size, fun k hk hn => (hb.block k (by omega)).trans (h.block k hk hn)⟩
theorem srcS {B b i : Nat} {K : Int} {u : Value} (h : SrcR sb B K w) (hb : b ≠ sb) (hB : B ≤ b) : SrcR sb B K (w.setCell ⟨b, i, none⟩ u) := h.tch (TchP.set (O := fun q => q = b) rfl) (fun e => hb e.symm) (fun q hq e => by omega)
end
theorem elRel : ElT Tryz.prog 24 43 2 32 := .mk (z := .agg #[.int .i64 0, .slice none 0 0]) Tryz.underlying24 (by kernel_rfl) rfl (by decide)
set_option maxHeartbeats 6400000 in
set_option maxRecDepth 100000 in
theorem l01TemplateDrawn_any (w : World) {sb B : Nat} {K s : Int} (h : SrcR sb B K w) (hK0 : 0 ≤ K) (hK : K ≤ 1000000) (hs : 1 ≤ s ∧ s ≤ 4) :
  Calls Tryz.prog 67 #[.pointer (some ⟨sb, 0, none⟩), .int .i64 s] w (FbR relT 43 (fun t => t.1 = s ∧ t.2.length ≤ 3 ∧ ∀ r ∈ t.2, relOk s r ∧ r.1 ≤ 3) sb B (K + 1000) w) := by
 have H := Lib.hid h
 have hsb := h.lt
 have hBs : B ≤ sb := let ⟨_, _, _, _, _, _, _, _, _, _, _, _, _, _, h⟩ := h; h
 clear h
 go_enter Tryz.func67, Tryz.ntmps67
 go_wp2_with fail
 generalize hW : World.alloc (World.alloc w _) _ = W
 have hbW : Below w.heap.size w W := hW ▸ bAA
 have hsW : w.heap.size + 2 ≤ W.heap.size := by rw [← hW]; simp
 have HR : Hid (ResB w.heap.size W) := by
  rw [← hW]
  exact (ResB.new rfl rfl).below bA (by simp)
 have HD : Hid (DrS relT 43 sb w (w.heap.size + 1) (w.heap.size + 1) (w.heap.size + 2) s (.slice none 0 0) [] W) := by
  rw [← hW]
  exact DrS.new rfl (by simp) (by omega) hsb
 have HS := Lib.hid (H.out.below hbW)
 clear hW
 refine (pick_any W HS.out hK0 (by omega) (n := 4) (by omega)).mono ?_
 rintro e w2 ⟨m, rfl, hm0, hm1, hs2, ht2⟩
 have hz2 := ht2.size
 replace HR := Lib.hid (HR.out.tch ht2 (by omega))
 replace HD := Lib.hid (HD.out.tch ht2)
 replace HS := Lib.hid hs2
 have HT := Lib.hid ((TchP.of_below hbW (fun q => q = sb)).then ht2 (fun q _ h => h))
 clear hs2 ht2
 go_wp2_with fail
 go_loopw [6] (fun i wr => ∃ (k : Nat) (va : Value) (T : List (Int × List (List Int))) (top : Nat), i = .int .i64 k ∧ k + T.length ≤ 3 ∧ (∀ r ∈ T, relOk s r ∧ r.1 ≤ 3) ∧ DrS relT 43 sb w (w.heap.size + 1) (w.heap.size + 1) top s va T wr ∧ ResB w.heap.size wr ∧ SrcR sb B (K + 1 + 200 * (3 - (k : Int))) wr ∧ TchP (fun q => q = sb) w wr) (fun i _ => (intOf i).toNat)
 case atStart =>
  refine ⟨m.toNat, _, [], _, ?_, ?_, fun r hr => (by cases hr), HD.out, HR.out, HS.out.mono (by omega), HT.out⟩
  ·rw [Int.toNat_of_nonneg hm0]
  ·simp; omega
 case round =>
  clear HD HR HS HT
  obtain ⟨k, va, T, top, rfl, hkl, hok, hd, hr, hsr, htc⟩ := hrel
  obtain ⟨wv, rfl⟩ : ∃ wv : World, wv = wr := ⟨_, rfl⟩
  have HD := Lib.hid hd
  have HOK := Lib.hid hok
  have HR := Lib.hid hr
  have HS := Lib.hid hsr
  have HT := Lib.hid htc
  have hw1 : w.heap.size + 2 ≤ wv.heap.size := by have := hd.hi; have := hd.le; omega
  have c1 := hd.c1
  obtain ⟨ta, tn, tc, rfl⟩ := ex_slice (hd.bl.fr (by unfold capMax; omega))
  clear hd hok hr hsr htc
  by_cases hk : 0 < k
  ·have hv0 : Below wv.heap.size wv wv.drew := bD
   have hkI : (0 : Int) < (k : Int) := by omega
   go_wp2_with fail
   refine wp_region_T (fun w' => w'.cell? ⟨w.heap.size + 1, 1, none⟩ = some (.slice ta tn tc)) [9] (by kernel_rfl) c1 (fun hHeld => ?_)
   refine wpAnyT_take (i := 0) (v := ?_) rfl (by kernel_rfl) (fun _ _ _ h => h) (Or.inl ⟨by rfl, ?_⟩) (by assumption) ?_
   rotate_left
   ·(intro w hSw; (try dsimp only at hSw); go_simp <;> with_reducible rfl)
   go_simp
   refine wpAnyT_take (i := 1) (v := ?_) rfl (by kernel_rfl) (fun _ _ _ h => h) (Or.inl ⟨by rfl, ?_⟩) (by assumption) ?_
   rotate_left
   ·(intro w hSw; (try dsimp only at hSw); go_simp <;> with_reducible rfl)
   go_simp
   refine wpAnyT_take (i := 2) (v := ?_) rfl (by kernel_rfl) (fun _ _ _ h => h) (Or.inl ⟨by rfl, ?_⟩) (by assumption) ?_
   rotate_left
   ·(intro w hSw; (try dsimp only at hSw); go_simp <;> with_reducible rfl)
   go_simp
   refine wpAnyT_take (i := 3) (v := ?_) rfl (by kernel_rfl) (fun _ _ _ h => h) (Or.inl ⟨by rfl, ?_⟩) (by assumption) ?_
   rotate_left
   ·(intro w hSw; (try dsimp only at hSw); go_simp <;> with_reducible rfl)
   go_simp
   refine wpAnyT_take (i := 4) (v := ?_) rfl (by kernel_rfl) (fun _ _ _ h => h) (Or.inl ⟨by rfl, ?_⟩) (by assumption) ?_
   rotate_left
   ·(intro w hSw; (try dsimp only at hSw); go_simp <;> with_reducible rfl)
   go_simp
   replace HD := Lib.hid (HD.out.below hv0 HD.out.le)
   replace HR := Lib.hid (HR.out.below hv0 HR.out.1)
   replace HS := Lib.hid (HS.out.below hv0)
   replace HT := Lib.hid (tchW HT.out hv0 (by omega))
   clear c1
   generalize wv.drew = x0 at *
   have hz0 := hv0.size
   refine wpAnyT_one (i := 5) rfl (by kernel_rfl) (fun K' hK' => ?_)
   go_simp
   generalize hWx : World.alloc x0 _ = x1
   have hb1 : Below x0.heap.size x0 x1 := by rw [← hWx]; exact bA
   have HL : Hid (intsT.Fr x0.heap.size x1 [.slice (some ⟨x0.heap.size, 0, none⟩) 5 5] [1, 2, 2, 2, 3]) := by
    rw [← hWx]
    exact fr_intsL rfl rfl (fun a ha => by simp at ha; unfold I64; omega) rfl (Nat.le_refl _) (by decide)
   clear hWx
   have hz1 := hb1.size
   replace HD := Lib.hid (HD.out.below hb1 HD.out.le)
   replace HR := Lib.hid (HR.out.below hb1 HR.out.1)
   replace HS := Lib.hid (HS.out.below hb1)
   replace HT := Lib.hid (tchW HT.out hb1 (by omega))
   refine hK'.out _ _ HD.out.c1 (fun hHeld => ?_)
   clear hK' K'
   refine wpAnyT_one (i := 6) rfl (by kernel_rfl) (fun K' hK' => ?_)
   go_simp
   go_at_call 68
   refine (among_any x1 HS.out (by omega) (by omega) HL.out.rd (by simp) (rdP_fr' HL.out (by omega))).mono ?_
   rintro e x2 ⟨p, hp, rfl, hs2, ht2⟩
   have hpx : 1 ≤ p ∧ p ≤ 3 := by simp at hp; omega
   have hz2' := ht2.size
   replace HD := Lib.hid (HD.out.tch ht2)
   replace HR := Lib.hid (HR.out.tch ht2 (by omega))
   replace HS := Lib.hid hs2
   replace HT := Lib.hid (HT.out.then ht2 (fun q _ h => h))
   clear hp hs2 ht2 HL
   dsimp only
   refine hK'.out _ _ HD.out.c1 (fun hHeld => ?_)
   clear hK' K'
   obtain ⟨ar, rfl⟩ : ∃ ar : Nat, p = (ar : Int) := ⟨p.toNat, by omega⟩
   obtain ⟨N, hN⟩ : ∃ N : Nat, s ^ ar = (N : Int) := ⟨(s ^ ar).toNat, by have h0 : 0 < s ^ ar := Int.pow_pos (by omega); omega⟩
   have hNb : N ≤ 64 := by
    have h1 := pow_mono' (s := s) (c := 4) (by omega) (by omega) ar
    rcases (show ar = 1 ∨ ar = 2 ∨ ar = 3 by omega) with e | e | e <;> subst e <;> simp at h1 <;> omega
   have HN := Lib.hid hN
   clear hN
   refine wpAnyT_one (i := 7) rfl (by kernel_rfl) (fun K' hK' => ?_)
   go_simp
   go_at_call 40
   refine (l01DrawnN_any x2 HS.out (by omega) (by omega) hs (by omega) HN.out).mono ?_
   rintro e x3 ⟨cs, r, rfl, hf, hrok, hr1, hs3, ht3⟩
   obtain ⟨ga, gc, rfl⟩ := fr_pair hf
   have hz3 := ht3.size
   have hto := HD.out.le
   replace HD := Lib.hid (HD.out.tch ht3)
   replace HR := Lib.hid (HR.out.tch ht3 (by omega))
   replace HS := Lib.hid hs3
   replace HT := Lib.hid (HT.out.then ht3 (fun q _ h => h))
   have HF := Lib.hid hf
   have HQ : Hid (relOk s r ∧ r.1 ≤ 3) := ⟨hrok, by omega⟩
   have htop : top ≤ x2.heap.size := hto
   clear hf hrok hr1 hs3 ht3
   dsimp only
   refine hK'.out _ _ HD.out.c1 (fun hHeld => ?_)
   clear hK' K'
   refine wpAnyT_one (i := 8) rfl (by kernel_rfl) (fun K' hK' => ?_)
   go_simp
   refine hK'.out _ _ (by go_keep) (fun hHeld => ?_)
   clear hK' K'
   refine wpAnyT_last (i := 9) rfl (by kernel_rfl) (by kernel_rfl) (fun K' hK' => ?_)
   have hgx := HD.out.hi
   refine step_push (E := relT.off (w.heap.size + 1)) _ rfl _ _ 24 43 rfl elRel rfl ((HD.out.bl.mono htop).below (bA (w := x3)) (by omega)) rfl news2 (fr_off (HF.out.below bA) (by omega)) (by omega) (by decide) (by omega) (by first | (simp; done) | (simp; omega)) ?_
   intro v6 w6 hB6 hg6 hown6
   obtain ⟨xa, xn, xc, rfl⟩ := ex_slice (hB6.fr (by rw [List.length_append]; unfold capMax; simp; omega))
   have hrow : ∀ b, (Value.slice ta tn tc).ownBlock = some b → w.heap.size + 1 ≤ b ∧ b ≠ w.heap.size + 1 := fun b hb => ⟨HD.out.bl.own hb, fun e => HD.out.own (by rw [hb, e])⟩
   obtain ⟨d1, dm⟩ := (HD.out.below (bA (w := x3)) HD.out.le).cells hg6
   have HDx := Lib.hid ((HD.out.below (bA (w := x3)) HD.out.le).row hB6 hg6 hown6)
   replace HR := Lib.hid (((HR.out.below (bA (w := x3)) HR.out.1).grown hg6 (fun e => by have := hrow _ e; omega)).other (b := w.heap.size + 1) (i := 1) (u := .slice xa xn xc) (by omega))
   replace HS := Lib.hid (srcS (b := w.heap.size + 1) (i := 1) (u := .slice xa xn xc) (srcG (HS.out.below (bA (w := x3))) hg6 (fun b hb => by have := hrow b hb; omega)) (by omega) (by omega))
   replace HT := Lib.hid (tchS (g := w.heap.size + 1) (i := 1) (v := .slice xa xn xc) (tchG (tchW HT.out (bA (w := x3)) (by omega)) hg6 (fun b hb => by have := hrow b hb; omega)) (by omega))
   have HOK2 : Hid (∀ r' ∈ T ++ [r], relOk s r' ∧ r'.1 ≤ 3) := fun r' hr' => by
    rcases List.mem_append.1 hr' with hr' | hr'
    ·exact HOK.out r' hr'
    ·rw [List.mem_singleton.1 hr']; exact HQ.out
   clear hB6 hg6 hown6 hrow HD HF HQ HOK
   refine hK'.out _ _ ?_
   clear hK' K'
   refine wpAnyT_any (i := 10) (v := ?_) rfl (by kernel_rfl) (fun _ _ _ h => h) (Or.inl ⟨by rfl, ?_⟩) (by first | exact fun _ => by assumption | (intro hp; exact absurd hp (by rw [show pastB _ _ = true by kernel_rfl]; simp))) ?_
   rotate_left
   ·(intro w hSw; (try dsimp only at hSw); go_simp <;> with_reducible rfl)
   try simp only [Act.put]
   refine wpAnyT_last (i := 11) rfl (by kernel_rfl) (by kernel_rfl) (fun K' hK' => ?_)
   go_simp
   refine hK'.out _ _ ?_
   clear hK' K'
   refine wpAnyT_done (by kernel_rfl) ?_ _
   go_simp
   go_wp2_with fail
   go_roundw
   case rel => exact ⟨k - 1, _, T ++ [r], _, by go_num, by rw [List.length_append, List.length_singleton]; omega, HOK2.out, HDx.out, HR.out, HS.out.mono (by omega), HT.out⟩
   case measure => simp [intOf]; omega
  ·obtain rfl : k = 0 := by omega
   have c0 := HD.out.c0
   have hI : I64 s := I64.small (by omega) (by omega)
   obtain ⟨⟨u0, r0⟩, ⟨u1, r1⟩, q0, q1⟩ := HR.out.2
   obtain ⟨g0, g1⟩ := set2_cells (x := .int .i64 s) (y := .slice ta tn tc) r0 r1
   go_wp2_with fail
   have HF : Hid (Bl relT 43 (w.heap.size + 1) ((wv.setCell ⟨w.heap.size, 0, none⟩ (.int .i64 s)).setCell ⟨w.heap.size, 1, none⟩ (.slice ta tn tc)).heap.size ((wv.setCell ⟨w.heap.size, 0, none⟩ (.int .i64 s)).setCell ⟨w.heap.size, 1, none⟩ (.slice ta tn tc)) (.slice ta tn tc) T) := by
    rw [size_set, size_set]
    exact (((off_bl HD.out.bl).mono HD.out.le).sameB (fun q h1 h2 => Below.heap_setCell _ _ _ _ (by simp; omega))).sameB (fun q h1 h2 => Below.heap_setCell _ _ _ _ (by simp; omega))
   refine bodyPost_ret (v := .agg #[.int .i64 s, .slice ta tn tc]) (by simp [results, Tryz.results67, go_sem, g0, g1]) rfl ⟨.slice ta tn tc, s, T, w.heap.size + 1, rfl, hI, by omega, by rw [size_set, size_set]; omega, HF.out, by omega, ⟨rfl, by show T.length ≤ 3; omega, HOK.out⟩, (srcS (srcS HS.out (by omega) (by omega)) (by omega) (by omega)).mono (by omega), tchS (tchS HT.out (Nat.le_refl _)) (Nat.le_refl _)⟩
end Go.Proofs.YtmnjlhcbabhhlaaGreat
namespace Go.Proofs.YtmnjlhcbabhhlaaGreat
open Go.RowKit Go.Sort
theorem pvR.same {ok : Nat → Prop} {w w' : World} {z : (Int × List Int) × (Int × Value)} (h : pvR ok w z) (hs : ∀ k, ok k → w'.heap[k]? = w.heap[k]?) : pvR ok w' z := by
 obtain ⟨h1, h2, fp, h3, h4⟩ := h
 exact ⟨h1, h2, fp, intsT.same h3 (fun k hk => hs k (h4 k hk)), h4⟩
def XrS (e : TypeId) (sb : Nat) (w0 : World) (lo g top : Nat) (n : Int) (v : Value) (Z : List ((Int × List Int) × (Int × Value))) (w : World) : Prop :=
 DrS pvT e sb w0 lo g top n v (Z.map (·.2)) w ∧ ∀ z ∈ Z, pvR (fun q => lo ≤ q ∧ q ≠ g ∧ v.ownBlock ≠ some q ∧ q < top) w z
section
variable {e : TypeId} {sb lo g top : Nat} {w0 w w' : World} {n : Int} {v : Value} {Z : List ((Int × List Int) × (Int × Value))}
theorem XrS.same (h : XrS e sb w0 lo g top n v Z w) (hs : ∀ k, lo ≤ k → k < top → w'.heap[k]? = w.heap[k]?) (hz : top ≤ w'.heap.size) : XrS e sb w0 lo g top n v Z w' :=
 ⟨h.1.same hs hz, fun z hm => (h.2 z hm).same (fun k hk => hs k hk.1 hk.2.2.2)⟩
theorem XrS.tch (h : XrS e sb w0 lo g top n v Z w) (ht : TchP (fun q => q = sb) w w') : XrS e sb w0 lo g top n v Z w' :=
 h.same (fun k h1 h2 => ht.block k (by have := h.1.le; omega) (by have := h.1.lw; have := h.1.hs; omega)) (Nat.le_trans h.1.le ht.size)
theorem XrS.below {C : Nat} (h : XrS e sb w0 lo g top n v Z w) (hb : Below C w w') (hC : top ≤ C) : XrS e sb w0 lo g top n v Z w' :=
 h.same (fun k _ h2 => hb.block k (by omega)) (Nat.le_trans h.1.le hb.size)
theorem XrS.grown {row : Option Nat} (h : XrS e sb w0 lo g top n v Z w) (hg : w.grownBy w' row) (hr : ∀ b, row = some b → b < lo ∨ top ≤ b) : XrS e sb w0 lo g top n v Z w' :=
 h.same (fun k h1 h2 => hg.block k (by have := h.1.le; omega) (fun e => by have := hr k e.symm; omega)) (Nat.le_trans h.1.le hg.size)
theorem XrS.other {b i : Nat} {u : Value} (h : XrS e sb w0 lo g top n v Z w) (hb : b < lo ∨ top ≤ b) : XrS e sb w0 lo g top n v Z (w.setCell ⟨b, i, none⟩ u) :=
 h.same (fun k h1 h2 => Below.heap_setCell _ _ _ _ (fun e => by simp at e; omega)) (by rw [size_set]; exact h.1.le)
theorem XrS.num (h : XrS e sb w0 lo g top n v Z w) (n' : Int) : XrS e sb w0 lo g top n' v Z (w.setCell ⟨g, 0, none⟩ (.int .i64 n')) :=
 ⟨h.1.num n', fun z hm => (h.2 z hm).same (fun k hk => Below.heap_setCell _ _ _ _ (fun e => hk.2.1 (by simpa using e)))⟩
theorem XrS.push {v' : Value} {z : (Int × List Int) × (Int × Value)} (h : XrS e sb w0 lo g top n v Z w) (hB : Bl (pvT.off g) e lo w'.heap.size w' v' (Z.map (·.2) ++ [z.2])) (hg : w.grownBy w' v.ownBlock) (ho : v'.ownBlock = v.ownBlock ∨ v'.ownBlock = some w.heap.size)
  (hz : pvR (fun q => lo ≤ q ∧ q ≠ g ∧ v.ownBlock ≠ some q ∧ q < w.heap.size) w z) : XrS e sb w0 lo g w'.heap.size n v' (Z ++ [z]) (w'.setCell ⟨g, 1, none⟩ v') := by
 refine ⟨h.1.row (by rw [List.map_append]; exact hB) hg ho, fun y hy => ?_⟩
 have hle := h.1.le
 have hgs := hg.size
 have h1 : pvR (fun q => lo ≤ q ∧ q ≠ g ∧ v.ownBlock ≠ some q ∧ q < w.heap.size) w y := by
  rcases List.mem_append.1 hy with hy | hy
  ·exact (h.2 y hy).mono (fun k _ hk => ⟨hk.1, hk.2.1, hk.2.2.1, by omega⟩)
  ·rw [List.mem_singleton.1 hy]; exact hz
 have h2 : pvR (fun q => lo ≤ q ∧ q ≠ g ∧ v.ownBlock ≠ some q ∧ q < w.heap.size) (w'.setCell ⟨g, 1, none⟩ v') y :=
  h1.same (fun k hk => (Below.heap_setCell _ _ _ _ (fun e => hk.2.1 (by simpa using e))).trans (hg.block k hk.2.2.2 (fun e => hk.2.2.1 e.symm)))
 refine h2.mono (fun k _ hk => ⟨hk.1, hk.2.1, fun e => ?_, by omega⟩)
 rcases ho with eo | eo
 ·rw [eo] at e; exact hk.2.2.1 e
 ·rw [eo] at e; simp at e; omega
end
theorem rels_exPa {ok : Nat → Prop} {w : World} {v : Value} {xs : List (Int × List (List Int))} (h : relsT.RdP ok w [v] xs) : ∃ ad cap, v = .slice ad xs.length cap ∧ (0 < xs.length → ∃ b o, ad = some ⟨b, o, none⟩ ∧ b < w.heap.size ∧ ok b ∧ ∀ i (h : i < xs.length), w.cell? ⟨b, o + i * 2, none⟩ = some (.int .i64 (xs[i]).1)) := by
 obtain ⟨ad, cap, hv, -, -, h3⟩ := slice_exP h
 refine ⟨ad, cap, by simpa using hv, fun h0 => ?_⟩
 obtain ⟨b, o, e, hb, hok, he⟩ := h3 h0
 refine ⟨b, o, e, hb, hok, fun i hi => ?_⟩
 obtain ⟨cs, ⟨fp, ⟨cs', rfl, _, _⟩, _⟩, h6⟩ := he i hi
 exact h6 0 (by simp)
/-- a drawn instance comes back -/
def InR (e : TypeId) (sb B : Nat) (K : Int) (w : World) (en : Ending) (w' : World) : Prop := ∃ (v : Value) (n : Int) (Z : List ((Int × List Int) × (Int × Value))) (b0 : Nat), en = .returned (.agg #[.int .i64 n, v]) ∧ (1 ≤ n ∧ n ≤ 5) ∧ w.heap.size ≤ b0 ∧ b0 ≤ w'.heap.size ∧ Bl pvT e b0 w'.heap.size w' v (Z.map (·.2)) ∧ Z.length ≤ 6 ∧ (∀ z ∈ Z, pvR (fun q => b0 ≤ q ∧ v.ownBlock ≠ some q) w' z) ∧ SrcR sb B K w' ∧ TchP (fun q => q = sb) w w'
theorem elCon : ElT Tryz.prog 27 62 2 32 := .mk (z := .agg #[.int .i64 0, .slice none 0 0]) Tryz.underlying27 (by kernel_rfl) rfl (by decide)
set_option maxHeartbeats 6400000 in
set_option maxRecDepth 100000 in
theorem l05Drawn_any (w : World) {sb B : Nat} {K : Int} (h : SrcR sb B K w) (hK0 : 0 ≤ K) (hK : K ≤ 1000000) {bt : Nat} {vt : Value} {R : List (Int × List (List Int))} (t1 : w.cell? ⟨bt, 1, none⟩ = some vt) (hbt : bt ≠ sb) (ht : relsT.RdP (fun q => q ≠ sb) w [vt] R) (hR : R.length ≤ 100) (har : ∀ r ∈ R, 1 ≤ r.1 ∧ r.1 ≤ 3) :
  Calls Tryz.prog 69 #[.pointer (some ⟨sb, 0, none⟩), .pointer (some ⟨bt, 0, none⟩), .int .i64 5] w (InR 62 sb B (K + 100) w) := by
 have H := Lib.hid h
 have hsb := h.lt
 have hBs : B ≤ sb := let ⟨_, _, _, _, _, _, _, _, _, _, _, _, _, _, h⟩ := h; h
 obtain ⟨ta, tc, rfl, hrel⟩ := rels_exPa ht
 have HA := Lib.hid har
 have HREL := Lib.hid hrel
 have hbt1 := cell_lt t1
 clear h ht har hrel
 go_enter Tryz.func69, Tryz.ntmps69
 go_wp2_with fail
 generalize hW : World.alloc w _ = W
 have hbW : Below w.heap.size w W := hW ▸ bA
 have hsW : w.heap.size + 1 = W.heap.size := by rw [← hW]; simp
 have HR : Hid (ResB w.heap.size W) := by
  rw [← hW]
  exact ResB.new rfl rfl
 have HS := Lib.hid (H.out.below hbW)
 clear hW
 refine (pick_any W HS.out hK0 (by omega) (n := 5) (by omega)).mono ?_
 rintro e w2 ⟨p, rfl, hp0, hp1, hs2, ht2⟩
 have hz2 := ht2.size
 replace HR := Lib.hid (HR.out.tch ht2 (by omega))
 replace HS := Lib.hid hs2
 have HT := Lib.hid ((TchP.of_below hbW (fun q => q = sb)).then ht2 (fun q _ h => h))
 obtain ⟨xn, hxn⟩ : ∃ xn : Nat, 1 + p = (xn : Int) := ⟨(1 + p).toNat, by omega⟩
 have hwr : IntKind.i64.wrap (1 + p) = (xn : Int) := by rw [hxn]; exact wrap_small (by omega) (by omega)
 have hx5 : 1 ≤ xn ∧ xn ≤ 5 := by omega
 clear hs2 ht2 hxn
 go_wp2_with fail
 clear hwr
 generalize hW3 : World.alloc w2 _ = w3
 have hb3 : Below w2.heap.size w2 w3 := hW3 ▸ bA
 have hs3 : w2.heap.size + 1 = w3.heap.size := by rw [← hW3]; simp
 have HD : Hid (XrS 62 sb w w2.heap.size w2.heap.size (w2.heap.size + 1) (xn : Int) (.slice none 0 0) [] w3) := ⟨by
  rw [← hW3]
  exact DrS.new rfl rfl (by omega) hsb, fun z hz => by cases hz⟩
 clear hW3
 replace HR := Lib.hid (HR.out.below hb3 HR.out.1)
 replace HS := Lib.hid (HS.out.below hb3)
 replace HT := Lib.hid (tchW HT.out hb3 (by omega))
 generalize w2.heap.size = g at *
 refine (pick_any w3 HS.out (by omega) (by omega) (n := 7) (by omega)).mono ?_
 rintro e w4 ⟨m, rfl, hm0, hm1, hs4, ht4⟩
 have hz4 := ht4.size
 replace HR := Lib.hid (HR.out.tch ht4 (by omega))
 replace HD := Lib.hid (HD.out.tch ht4)
 replace HS := Lib.hid hs4
 replace HT := Lib.hid (HT.out.then ht4 (fun q _ h => h))
 have hgw : w.heap.size + 1 ≤ g := by omega
 clear hs4 ht4
 go_wp2_with fail
 go_loopw [8] (fun i wr => ∃ (k : Nat) (va : Value) (Z : List ((Int × List Int) × (Int × Value))) (top : Nat), i = .int .i64 k ∧ k + Z.length ≤ 6 ∧ XrS 62 sb w g g top (xn : Int) va Z wr ∧ ResB w.heap.size wr ∧ SrcR sb B (K + 2 + 10 * (6 - (k : Int))) wr ∧ TchP (fun q => q = sb) w wr) (fun i _ => (intOf i).toNat)
 case atStart =>
  refine ⟨m.toNat, _, [], _, ?_, ?_, HD.out, HR.out, HS.out.mono (by omega), HT.out⟩
  ·rw [Int.toNat_of_nonneg hm0]
  ·simp; omega
 case round =>
  clear HD HR HS HT
  obtain ⟨k, va, Z, top, rfl, hkl, hd, hr, hsr, htc⟩ := hrel
  obtain ⟨wv, rfl⟩ : ∃ wv : World, wv = wr := ⟨_, rfl⟩
  have HD := Lib.hid hd
  have HR := Lib.hid hr
  have HS := Lib.hid hsr
  have HT := Lib.hid htc
  have hto := hd.1.le
  have hgt := hd.1.hi
  have hZm : (Z.map (·.2)).length = Z.length := List.length_map _
  obtain ⟨xa, xn', xc, rfl⟩ := ex_slice (hd.1.bl.fr (by rw [hZm]; unfold capMax; omega))
  have e1 := (htc.cell (i := 1) hbt1 hbt).trans t1
  clear hd hr hsr htc
  by_cases hgo : 0 < k ∧ 0 < R.length
  ·obtain ⟨hk, hR0⟩ := hgo
   obtain ⟨rb, ro, rfl, hrb, hrs, hrc⟩ := HREL.out hR0
   have hkI : (0 : Int) < (k : Int) := by omega
   have hRI : (0 : Int) < (R.length : Int) := by omega
   clear hZm
   go_wp2_with fail
   refine (pick_any wv HS.out (by omega) (by omega) (n := (R.length : Int)) (by omega)).mono ?_
   rintro e x1 ⟨q, rfl, hq0, hq1, hs1, ht1⟩
   obtain ⟨q, rfl⟩ : ∃ q' : Nat, q = (q' : Int) := ⟨q.toNat, by omega⟩
   have hqR : q < R.length := by omega
   have hz1 := ht1.size
   have HTw := Lib.hid (HT.out.then ht1 (fun q _ h => h))
   replace HR := Lib.hid (HR.out.tch ht1 (by omega))
   replace HD := Lib.hid (HD.out.tch ht1)
   replace HS := Lib.hid hs1
   clear HT hs1 ht1 e1
   go_wp2_with fail
   generalize hWx : World.alloc x1 _ = x2
   have hb2 : Below x1.heap.size x1 x2 := hWx ▸ bA
   have hsx : x1.heap.size + 1 = x2.heap.size := by rw [← hWx]; simp
   have HC : Hid (DrS Ty.int 2 sb w x1.heap.size x1.heap.size (x1.heap.size + 1) (q : Int) (.slice none 0 0) [] x2) := by
    rw [← hWx]
    exact DrS.new rfl rfl (by omega) hsb
   clear hWx
   replace HR := Lib.hid (HR.out.below hb2 HR.out.1)
   replace HD := Lib.hid (HD.out.below hb2 (by omega))
   replace HS := Lib.hid (HS.out.below hb2)
   have HT := Lib.hid (tchW HTw.out hb2 (by omega))
   have hg2 : top ≤ x1.heap.size := by omega
   clear HTw
   generalize x1.heap.size = g2 at *
   have f1 := (HT.out.cell (i := 1) hbt1 hbt).trans t1
   have f2 := (HT.out.cell (i := ro + q * 2) hrb hrs).trans (hrc q hqR)
   have f3 := HC.out.c0
   have hAR := HA.out _ (List.getElem_mem hqR)
   obtain ⟨ar, har⟩ : ∃ ar : Nat, (R[q]).1 = (ar : Int) := ⟨(R[q]).1.toNat, by omega⟩
   rw [har] at f2 hAR
   clear har hrc
   refine wp_region_T (fun w' => w'.cell? ⟨bt, 1, none⟩ = some (.slice (some ⟨rb, ro, none⟩) R.length tc) ∧ w'.cell? ⟨g2, 0, none⟩ = some (.int .i64 (q : Int)) ∧ w'.cell? ⟨rb, ro + q * 2, none⟩ = some (.int .i64 (ar : Int))) [] (by kernel_rfl) ⟨f1, f3, f2⟩ (fun hHeld => ?_)
   refine wpAnyT_take (i := 0) (v := ?_) rfl (by as_aux_lemma => kernel_rfl) (fun _ _ _ h => h) (Or.inl ⟨by rfl, ?_⟩) (by assumption) ?_
   rotate_left
   ·(intro w hSw; (try dsimp only at hSw); go_simp <;> with_reducible rfl)
   go_simp
   refine wpAnyT_take (i := 1) (v := ?_) rfl (by as_aux_lemma => kernel_rfl) (fun _ _ _ h => h) (Or.inl ⟨by rfl, ?_⟩) (by assumption) ?_
   rotate_left
   ·(intro w hSw; (try dsimp only at hSw); go_simp <;> with_reducible rfl)
   go_simp
   refine wpAnyT_take (i := 2) (v := ?_) rfl (by as_aux_lemma => kernel_rfl) (fun _ _ _ h => h) (Or.inl ⟨by rfl, ?_⟩) (by assumption) ?_
   rotate_left
   ·(intro w hSw; (try dsimp only at hSw); go_simp <;> with_reducible rfl)
   go_simp
   refine wpAnyT_take (i := 3) (v := ?_) rfl (by as_aux_lemma => kernel_rfl) (fun _ _ _ h => h) (Or.inl ⟨by rfl, ?_⟩) (by assumption) ?_
   rotate_left
   ·(intro w hSw; (try dsimp only at hSw); go_simp <;> with_reducible rfl)
   go_simp
   refine wpAnyT_take (i := 4) (v := ?_) rfl (by as_aux_lemma => kernel_rfl) (fun _ _ _ h => h) (Or.inl ⟨by rfl, ?_⟩) (by assumption) ?_
   rotate_left
   ·(intro w hSw; (try dsimp only at hSw); go_simp <;> with_reducible rfl)
   go_simp
   refine wpAnyT_take (i := 5) (v := ?_) rfl (by as_aux_lemma => kernel_rfl) (fun _ _ _ h => h) (Or.inl ⟨by rfl, ?_⟩) (by assumption) ?_
   rotate_left
   ·(intro w hSw; (try dsimp only at hSw); go_simp <;> with_reducible rfl)
   go_simp
   refine wpAnyT_take (i := 6) (v := ?_) rfl (by as_aux_lemma => kernel_rfl) (fun _ _ _ h => h) (Or.inl ⟨by rfl, ?_⟩) (by assumption) ?_
   rotate_left
   ·(intro w hSw; (try dsimp only at hSw); go_simp <;> with_reducible rfl)
   go_simp
   refine wpAnyT_take (i := 7) (v := ?_) rfl (by as_aux_lemma => kernel_rfl) (fun _ _ _ h => h) (Or.inl ⟨by rfl, ?_⟩) (by assumption) ?_
   rotate_left
   ·(intro w hSw; (try dsimp only at hSw); go_simp <;> with_reducible rfl)
   go_simp
   refine wpAnyT_take (i := 8) (v := ?_) rfl (by as_aux_lemma => kernel_rfl) (fun _ _ _ h => h) (Or.inl ⟨by rfl, ?_⟩) (by assumption) ?_
   rotate_left
   ·(intro w hSw; (try dsimp only at hSw); go_simp <;> with_reducible rfl)
   go_simp
   refine wpAnyT_take (i := 9) (v := ?_) rfl (by as_aux_lemma => kernel_rfl) (fun _ _ _ h => h) (Or.inl ⟨by rfl, ?_⟩) (by assumption) ?_
   rotate_left
   ·(intro w hSw; (try dsimp only at hSw); go_simp <;> with_reducible rfl)
   go_simp
   refine wpAnyT_done (by kernel_rfl) ?_ _
   go_simp
   have hv0 : Below x2.heap.size x2 x2.drew := bD
   replace HR := Lib.hid (HR.out.below hv0 HR.out.1)
   replace HD := Lib.hid (HD.out.below hv0 (by omega))
   replace HC := Lib.hid (HC.out.below hv0 (by omega))
   replace HS := Lib.hid (HS.out.below hv0)
   replace HT := Lib.hid (tchW HT.out hv0 (by omega))
   have hz0 := hv0.size
   clear f1 f2 f3 hHeld hv0
   generalize x2.drew = x3 at *
   go_wp2_with fail
   go_loopw [10] (fun i wr => ∃ (j : Nat) (vc : Value) (S : List Int) (tp2 : Nat), i = .int .i64 j ∧ j + S.length ≤ 3 ∧ DrS Ty.int 2 sb w g2 g2 tp2 (q : Int) vc S wr ∧ XrS 62 sb w g g top (xn : Int) (.slice xa xn' xc) Z wr ∧ ResB w.heap.size wr ∧ SrcR sb B (K + 2 + 10 * (6 - (k : Int)) + 1 + (3 - (j : Int))) wr ∧ TchP (fun q => q = sb) w wr) (fun i _ => (intOf i).toNat)
   case atStart => exact ⟨ar, _, [], _, rfl, by simp; omega, HC.out, HD.out, HR.out, HS.out.mono (by omega), HT.out⟩
   case round =>
    clear HC HD HR HS HT
    obtain ⟨j, vc, S, tp2, rfl, hjl, hc, hd, hr, hsr, htc⟩ := hrel
    obtain ⟨wy, rfl⟩ : ∃ wy : World, wy = wr := ⟨_, rfl⟩
    have HC := Lib.hid hc
    have HD := Lib.hid hd
    have HR := Lib.hid hr
    have HS := Lib.hid hsr
    have HT := Lib.hid htc
    have hto2 := hc.le
    have hgt2 := hc.hi
    have htox := hd.1.le
    obtain ⟨ca, cn, cc, rfl⟩ := ex_slice (hc.bl.fr (by unfold capMax; omega))
    have c0 := hc.c0
    have c1 := hc.c1
    have d0 := hd.1.c0
    have d1 := hd.1.c1
    have dm := hd.1.m1
    clear hc hd hr hsr htc
    by_cases hj : 0 < j
    ·have hjI : (0 : Int) < (j : Int) := by omega
     have hv0 : Below wy.heap.size wy wy.drew := bD
     go_wp2_with fail
     refine wp_region_T (fun w' => w'.cell? ⟨g2, 1, none⟩ = some (.slice ca cn cc) ∧ w'.cell? ⟨g, 0, none⟩ = some (.int .i64 (xn : Int))) [7] (by kernel_rfl) ⟨c1, d0⟩ (fun hHeld => ?_)
     refine wpAnyT_take (i := 0) (v := ?_) rfl (by kernel_rfl) (fun _ _ _ h => h) (Or.inl ⟨by rfl, ?_⟩) (by assumption) ?_
     rotate_left
     ·(intro w hSw; (try dsimp only at hSw); go_simp <;> with_reducible rfl)
     go_simp
     refine wpAnyT_take (i := 1) (v := ?_) rfl (by kernel_rfl) (fun _ _ _ h => h) (Or.inl ⟨by rfl, ?_⟩) (by assumption) ?_
     rotate_left
     ·(intro w hSw; (try dsimp only at hSw); go_simp <;> with_reducible rfl)
     go_simp
     refine wpAnyT_take (i := 2) (v := ?_) rfl (by kernel_rfl) (fun _ _ _ h => h) (Or.inl ⟨by rfl, ?_⟩) (by assumption) ?_
     rotate_left
     ·(intro w hSw; (try dsimp only at hSw); go_simp <;> with_reducible rfl)
     go_simp
     refine wpAnyT_take (i := 3) (v := ?_) rfl (by kernel_rfl) (fun _ _ _ h => h) (Or.inl ⟨by rfl, ?_⟩) (by assumption) ?_
     rotate_left
     ·(intro w hSw; (try dsimp only at hSw); go_simp <;> with_reducible rfl)
     go_simp
     refine wpAnyT_take (i := 4) (v := ?_) rfl (by kernel_rfl) (fun _ _ _ h => h) (Or.inl ⟨by rfl, ?_⟩) (by assumption) ?_
     rotate_left
     ·(intro w hSw; (try dsimp only at hSw); go_simp <;> with_reducible rfl)
     go_simp
     replace HC := Lib.hid (HC.out.below hv0 hto2)
     replace HD := Lib.hid (HD.out.below hv0 htox)
     replace HR := Lib.hid (HR.out.below hv0 HR.out.1)
     replace HS := Lib.hid (HS.out.below hv0)
     replace HT := Lib.hid (tchW HT.out hv0 (by omega))
     clear c0 c1 d0 d1 dm
     have hzv := hv0.size
     clear hv0
     generalize wy.drew = y0 at *
     refine wpAnyT_one (i := 5) rfl (by kernel_rfl) (fun K' hK' => ?_)
     go_simp
     go_at_call 39
     refine (pick_any y0 HS.out (by omega) (by omega) (n := (xn : Int)) (by omega)).mono ?_
     rintro e y1 ⟨p, rfl, hp0, hp1, hs1, ht1⟩
     have hzy := ht1.size
     have htc1 := HC.out.le
     replace HC := Lib.hid (HC.out.tch ht1)
     replace HD := Lib.hid (HD.out.tch ht1)
     replace HR := Lib.hid (HR.out.tch ht1 (by omega))
     replace HS := Lib.hid hs1
     replace HT := Lib.hid (HT.out.then ht1 (fun q _ h => h))
     have hIp : I64 p := I64.small (by omega) (by omega)
     clear hs1 ht1
     dsimp only
     refine hK'.out _ _ ⟨HC.out.c1, HD.out.1.c0⟩ (fun hHeld => ?_)
     clear hK' K'
     refine wpAnyT_one (i := 6) rfl (by kernel_rfl) (fun K' hK' => ?_)
     go_simp
     refine hK'.out _ _ ⟨by go_keep, by go_keep⟩ (fun hHeld => ?_)
     clear hK' K'
     refine wpAnyT_last (i := 7) rfl (by kernel_rfl) (by kernel_rfl) (fun K' hK' => ?_)
     refine step_push (E := Ty.int.off g2) _ rfl _ _ 50 2 rfl elInt rfl ((HC.out.bl.mono (show tp2 ≤ y1.heap.size by omega)).below (bA (w := y1)) (by omega)) rfl news1 (fr_off (fr_int (base := y1.heap.size) hIp) (by omega)) (by omega) (by decide) (by omega) (by first | (simp; done) | (simp; omega)) ?_
     intro v6 w6 hB6 hg6 hown6
     obtain ⟨pa, pn, pc, rfl⟩ := ex_slice (hB6.fr (by rw [List.length_append]; unfold capMax; simp; omega))
     have hrow : ∀ b, (Value.slice ca cn cc).ownBlock = some b → g2 ≤ b := fun b hb => HC.out.bl.own hb
     obtain ⟨k1, km⟩ := (HC.out.below (bA (w := y1)) HC.out.le).cells hg6
     replace HC := Lib.hid ((HC.out.below (bA (w := y1)) HC.out.le).row hB6 hg6 hown6)
     replace HD := Lib.hid (((HD.out.below (bA (w := y1)) HD.out.1.le).grown hg6 (fun b hb => .inr (by have := hrow b hb; omega))).other (b := g2) (i := 1) (u := .slice pa pn pc) (.inr (by omega)))
     replace HR := Lib.hid (((HR.out.below (bA (w := y1)) HR.out.1).grown hg6 (fun e => by have := hrow _ e; omega)).other (b := g2) (i := 1) (u := .slice pa pn pc) (by omega))
     replace HS := Lib.hid (srcS (b := g2) (i := 1) (u := .slice pa pn pc) (srcG (HS.out.below (bA (w := y1))) hg6 (fun b hb => by have := hrow b hb; omega)) (by omega) (by omega))
     replace HT := Lib.hid (tchS (g := g2) (i := 1) (v := .slice pa pn pc) (tchG (tchW HT.out (bA (w := y1)) (by omega)) hg6 (fun b hb => by have := hrow b hb; omega)) (by omega))
     clear hB6 hg6 hown6 hrow
     refine hK'.out _ _ ?_
     clear hK' K'
     refine wpAnyT_any (i := 8) (v := ?_) rfl (by kernel_rfl) (fun _ _ _ h => h) (Or.inl ⟨by rfl, ?_⟩) (by first | exact fun _ => by assumption | (intro hp; exact absurd hp (by rw [show pastB _ _ = true by kernel_rfl]; simp))) ?_
     rotate_left
     ·(intro w hSw; (try dsimp only at hSw); go_simp <;> with_reducible rfl)
     try simp only [Act.put]
     refine wpAnyT_last (i := 9) rfl (by kernel_rfl) (by kernel_rfl) (fun K' hK' => ?_)
     go_simp
     refine hK'.out _ _ ?_
     clear hK' K'
     refine wpAnyT_done (by kernel_rfl) ?_ _
     go_simp
     go_wp2_with fail
     go_roundw
     case rel => exact ⟨j - 1, _, S ++ [p], _, by go_num, by rw [List.length_append, List.length_singleton]; omega, HC.out, HD.out, HR.out, HS.out.mono (by omega), HT.out⟩
     case measure => simp [intOf]; omega
    ·obtain rfl : j = 0 := by omega
     have hIq : I64 (q : Int) := I64.small (by omega) (by omega)
     have HZ : Hid (pvR (fun z => g ≤ z ∧ z ≠ g ∧ (Value.slice xa xn' xc).ownBlock ≠ some z ∧ z < wy.heap.size) wy (((q : Int), S), ((q : Int), Value.slice ca cn cc))) := by
      obtain ⟨fp, h1, h2, h3, h4⟩ := (off_bl HC.out.bl).fr (by unfold capMax; omega)
      refine ⟨rfl, hIq, fp, h1, fun z hz => ?_⟩
      have hz1 := h3 z hz
      have hz2 := (Ty.slice Ty.int).lt h1 z hz
      exact ⟨by omega, by omega, fun e => by have := HD.out.1.bl.lt_top e; omega, hz2⟩
     go_wp2_with (refine wpList_push (E := pvT.off g) _ rfl _ _ 27 62 rfl elCon rfl ((HD.out.1.bl.mono htox).below (bA (w := wy)) (Nat.le_refl _)) rfl news2 (fr_off (fr_pv (base := wy.heap.size) hIq rfl) (by omega)) (by rw [List.length_map]; omega) (by decide) (by omega) (by first | (simp; done) | (simp; omega)) ?_; intro v5 w5 hB5 hg5 hown5; obtain ⟨a5, n5, c5, rfl⟩ := ex_slice (hB5.fr (by rw [List.length_append, List.length_map]; unfold capMax; simp only [List.length_singleton]; omega)); obtain ⟨k1, km⟩ := (HD.out.1.below (bA (w := wy)) HD.out.1.le).cells hg5)
     have hrow : ∀ b, (Value.slice xa xn' xc).ownBlock = some b → g ≤ b := fun b hb => HD.out.1.bl.own hb
     have HX := Lib.hid ((HD.out.below (bA (w := wy)) HD.out.1.le).push (z := (((q : Int), S), ((q : Int), Value.slice ca cn cc))) hB5 hg5 hown5 ((HZ.out.below bA).mono (fun z _ hz => ⟨hz.1, hz.2.1, hz.2.2.1, by have := hz.2.2.2; simp; omega⟩)))
     replace HR := Lib.hid (((HR.out.below (bA (w := wy)) HR.out.1).grown hg5 (fun e => by have := hrow _ e; omega)).other (b := g) (i := 1) (u := .slice a5 n5 c5) (by omega))
     replace HS := Lib.hid (srcS (b := g) (i := 1) (u := .slice a5 n5 c5) (srcG (HS.out.below (bA (w := wy))) hg5 (fun b hb => by have := hrow b hb; omega)) (by omega) (by omega))
     replace HT := Lib.hid (tchS (g := g) (i := 1) (v := .slice a5 n5 c5) (tchG (tchW HT.out (bA (w := wy)) (by omega)) hg5 (fun b hb => by have := hrow b hb; omega)) (by omega))
     clear hB5 hg5 hown5 hrow HD HC HZ
     go_wp2_with fail
     go_roundw
     case rel => exact ⟨k - 1, _, Z ++ [(((q : Int), S), ((q : Int), Value.slice ca cn cc))], _, by go_num, by rw [List.length_append, List.length_singleton]; omega, HX.out, HR.out, HS.out.mono (by omega), HT.out⟩
     case measure => simp [intOf]; omega
  ·have d0 := HD.out.1.c0
   have d1 := HD.out.1.c1
   have hIx : I64 (xn : Int) := I64.small (by omega) (by omega)
   obtain ⟨⟨u0, r0⟩, ⟨u1, r1⟩, q0, q1⟩ := HR.out.2
   obtain ⟨g0, g1⟩ := set2_cells (x := .int .i64 (xn : Int)) (y := .slice xa xn' xc) r0 r1
   have HB : Hid (Bl pvT 62 g ((wv.setCell ⟨w.heap.size, 0, none⟩ (.int .i64 (xn : Int))).setCell ⟨w.heap.size, 1, none⟩ (.slice xa xn' xc)).heap.size ((wv.setCell ⟨w.heap.size, 0, none⟩ (.int .i64 (xn : Int))).setCell ⟨w.heap.size, 1, none⟩ (.slice xa xn' xc)) (.slice xa xn' xc) (Z.map (·.2))) := by
    rw [size_set, size_set]
    exact (((off_bl HD.out.1.bl).mono hto).sameB (fun q h1 h2 => Below.heap_setCell _ _ _ _ (by simp; omega))).sameB (fun q h1 h2 => Below.heap_setCell _ _ _ _ (by simp; omega))
   have HV : Hid (∀ z ∈ Z, pvR (fun q => g ≤ q ∧ (Value.slice xa xn' xc).ownBlock ≠ some q) ((wv.setCell ⟨w.heap.size, 0, none⟩ (.int .i64 (xn : Int))).setCell ⟨w.heap.size, 1, none⟩ (.slice xa xn' xc)) z) := fun z hz =>
    (((HD.out.2 z hz).mono (fun k _ hk => ⟨hk.1, hk.2.2.1⟩)).same (fun k hk => Below.heap_setCell _ _ _ _ (fun e => by simp at e; omega))).same (fun k hk => Below.heap_setCell _ _ _ _ (fun e => by simp at e; omega))
   have hZl : Z.length ≤ 6 := by omega
   have HF : InR 62 sb B (K + 100) w (.returned (.agg #[.int .i64 (xn : Int), .slice xa xn' xc])) ((wv.setCell ⟨w.heap.size, 0, none⟩ (.int .i64 (xn : Int))).setCell ⟨w.heap.size, 1, none⟩ (.slice xa xn' xc)) :=
    ⟨.slice xa xn' xc, (xn : Int), Z, g, rfl, by omega, by omega, by rw [size_set, size_set]; omega, HB.out, hZl, HV.out, (srcS (srcS HS.out (by omega) (by omega)) (by omega) (by omega)).mono (by omega), tchS (tchS HT.out (Nat.le_refl _)) (Nat.le_refl _)⟩
   have HFF := Lib.hid HF
   clear HF HB HV HD HS HT HR hZm
   rcases Nat.eq_zero_or_pos k with hk | hk
   ·subst hk
    go_wp2_with fail
    exact bodyPost_ret (v := .agg #[.int .i64 (xn : Int), .slice xa xn' xc]) (by simp [results, Tryz.results69, go_sem, g0, g1]) rfl HFF.out
   ·obtain rfl : R = [] := List.eq_nil_of_length_eq_zero (by omega)
    have hkI : (0 : Int) < (k : Int) := by omega
    go_wp2_with fail
    exact bodyPost_ret (v := .agg #[.int .i64 (xn : Int), .slice xa xn' xc]) (by simp [results, Tryz.results69, go_sem, g0, g1]) rfl HFF.out
end Go.Proofs.YtmnjlhcbabhhlaaGreat
namespace Go.Proofs.YtmnjlhcbabhhlaaGreat
open Go.RowKit Go.Sort
/-- a number and a relation come back -/
def BnR (sb B : Nat) (K : Int) (w : World) (en : Ending) (w' : World) : Prop := ∃ (sz : Int) (cs : List Value) (r : Int × List (List Int)), en = .returned (.tuple #[.int .i64 sz, .agg cs.toArray]) ∧ relT.Fr w.heap.size w' cs r ∧ SrcR sb B K w' ∧ TchP (fun q => q = sb) w w'
/-- what a drawn relation is behind the changes -/
def BnS (sb B : Nat) (K : Int) (w : World) (b0 g : Nat) (wv : World) : Prop := ∃ (n : Int) (a : Option Addr) (m c : Nat) (T : List (List Int)), wv.cell? ⟨g, 0, none⟩ = some (.int .i64 n) ∧ wv.cell? ⟨g, 1, none⟩ = some (.slice a m c) ∧ relT.Fr b0 wv [.int .i64 n, .slice a m c] (n, T) ∧ ResB w.heap.size wv ∧ SrcR sb B (K + 299) wv ∧ TchP (fun q => q = sb) w wv
theorem fra_of_off {α : Type} {E : Ty α} {e base top g : Nat} {w : World} {v : Value} {ys : List α} (h : Bl (E.off g) e base top w v ys) (hown : v.ownBlock ≠ some g) (hl : ys.length ≤ capMax) : FrA (Ty.slice E) g base w [v] ys := by
 obtain ⟨fp, h1, h2, h3, h4⟩ := h.fr hl
 obtain ⟨ad, cap, hv, h5, h6, h7⟩ := h1
 obtain rfl : v = _ := by simpa using hv
 refine ⟨fp, ⟨ad, cap, rfl, h5, h6, ?_⟩, h2, h3, h4, ?_⟩
 ·rcases h7 with h7 | ⟨h7, b, o, fps, rfl, hb, rfl, h8⟩
  ·exact .inl h7
  ·exact .inr ⟨h7, b, o, fps, rfl, hb, rfl, fun i hi => let ⟨cs, g1, g2⟩ := h8 i hi; ⟨cs, g1.1, g2⟩⟩
 ·rcases h7 with ⟨_, rfl⟩ | ⟨h7, b, o, fps, rfl, hb, rfl, h8⟩
  ·simp
  ·intro hm
   rcases List.mem_cons.1 hm with e1 | hm
   ·subst e1; exact hown rfl
   ·obtain ⟨i, hi, hk⟩ := List.mem_flatMap.1 hm
    obtain ⟨cs, g1, g2⟩ := h8 i (by simpa using hi)
    exact g1.2 hk
/-- the first number of the first row is written -/
theorem rows_put00 {base g : Nat} {w : World} {v : Value} {T : List (List Int)} (h : FrA rowsT g base w [v] T) (h0 : 0 < T.length) (h1 : 0 < (T[0]).length) :
  ∃ b o cap b' o' cap', v = .slice (some ⟨b, o, none⟩) T.length cap ∧ w.cell? ⟨b, o, none⟩ = some (.slice (some ⟨b', o', none⟩) (T[0]).length cap') ∧ (∃ u, w.cell? ⟨b', o', none⟩ = some u) ∧ w.frozen? ⟨b', o', none⟩ = false ∧ base ≤ b' ∧ b' < w.heap.size ∧ base ≤ b ∧ b' ≠ g ∧
   ∀ n, I64 n → rowsT.Fr base (w.setCell ⟨b', o', none⟩ (.int .i64 n)) [v] (T.set 0 ((T[0]).set 0 n)) := by
 obtain ⟨fp, h2, h3, h4, h5, h6⟩ := h
 obtain ⟨b, o, cap, u, f, rfl, hb, hc, hr, hn, hu, hput⟩ := rows_mark h2 h3 h5 h0
 obtain ⟨b', o', cap', rfl, hb', hc', hf', hp'⟩ := ints_mark hr hn hu h1
 have hmem : b' ∈ fp := by
  obtain ⟨_, _, _, fps, e1, _, e2, e3, _⟩ := sl_open h2 h0
  simp only [Value.slice.injEq, Option.some.injEq, Addr.mk.injEq, and_true, true_and] at e1
  obtain ⟨⟨rfl, rfl⟩, rfl⟩ := e1
  obtain ⟨cs, g1, g2⟩ := e3 0 h0
  obtain ⟨ad, cp, rfl, _, _, g3⟩ := g1
  have g4 := g2 0 (by simp)
  simp only [Nat.zero_mul, Nat.add_zero, List.getElem_cons_zero] at g4 hc
  rw [hc] at g4
  simp only [Option.some.injEq, Value.slice.injEq, true_and] at g4
  rcases g3 with ⟨g3, _⟩ | ⟨_, b2, o2, fps2, g5, _, g6, _⟩
  ·omega
  ·rw [← g4.1] at g5
   simp only [Option.some.injEq, Addr.mk.injEq, and_true] at g5
   rw [e2]
   refine List.mem_cons_of_mem _ (List.mem_flatMap.2 ⟨0, by simpa using h0, ?_⟩)
   rw [g6, g5.1]
   exact List.mem_cons_self ..
 have hmem2 : b ∈ fp := by
  obtain ⟨_, _, _, fps, e1, _, e2, _, _⟩ := sl_open h2 h0
  simp only [Value.slice.injEq, Option.some.injEq, Addr.mk.injEq, and_true, true_and] at e1
  obtain ⟨⟨rfl, rfl⟩, rfl⟩ := e1
  rw [e2]
  exact List.mem_cons_self ..
 refine ⟨b, o, cap, b', o', cap', rfl, by simpa using hc, ⟨_, by simpa using hc'⟩, by simpa using hf', h4 _ hmem, hb', h4 _ hmem2, fun e => h6 (e ▸ hmem), fun n hI => ?_⟩
 obtain ⟨q1, q2, q3⟩ := hp' n hI
 simp only [Nat.add_zero] at q1 q2 q3
 obtain ⟨z1, z2, z3⟩ := hput _ _ q3 q1 q2
 exact ⟨fp, z1, h3, h4, z2⟩
set_option maxHeartbeats 6400000 in
set_option maxRecDepth 100000 in
theorem l01Bent_any (w : World) {sb B : Nat} {K : Int} (h : SrcR sb B K w) (hK0 : 0 ≤ K) (hK : K ≤ 1000000) :
  Calls Tryz.prog 95 #[.pointer (some ⟨sb, 0, none⟩)] w (BnR sb B (K + 300) w) := by
 have H := Lib.hid h
 have hsb := h.lt
 have hBs : B ≤ sb := let ⟨_, _, _, _, _, _, _, _, _, _, _, _, _, _, h⟩ := h; h
 clear h
 go_enter Tryz.func95, Tryz.ntmps95
 go_wp2_with fail
 generalize hW : World.alloc w _ = W
 have hbW : Below w.heap.size w W := hW ▸ bA
 have hsW : w.heap.size + 1 = W.heap.size := by rw [← hW]; simp
 have HR : Hid (ResB w.heap.size W) := by
  rw [← hW]
  exact ResB.new rfl rfl
 have HS := Lib.hid (H.out.below hbW)
 clear hW
 refine (l01SizeDrawn_any W HS.out hK0 (by omega)).mono ?_
 rintro e w2 ⟨s, rfl, hs0, hs1, hs2, ht2⟩
 have hz2 := ht2.size
 replace HR := Lib.hid (HR.out.tch ht2 (by omega))
 replace HS := Lib.hid hs2
 have HT := Lib.hid ((TchP.of_below hbW (fun q => q = sb)).then ht2 (fun q _ h => h))
 clear hs2 ht2
 go_wp2_with fail
 refine (l01Any_any w2 HS.out (by omega) (by omega) ⟨hs0, hs1⟩).mono ?_
 rintro e w3 ⟨v, n, T, b0, rfl, hI, hb0, hb1, hB, hTl, hq, hs3, ht3⟩
 obtain ⟨ta, tn, tc, rfl⟩ := ex_slice (hB.fr (by unfold capMax; omega))
 have hz3 := ht3.size
 replace HR := Lib.hid (HR.out.tch ht3 (by omega))
 replace HS := Lib.hid hs3
 replace HT := Lib.hid (HT.out.then ht3 (fun q _ h => h))
 have HB := Lib.hid hB
 have HQ := Lib.hid hq.1
 have hn3 : 1 ≤ n ∧ n ≤ 3 := ⟨hq.1.2.1.1, hq.2⟩
 clear hs3 ht3 hB hq hI
 go_wp2_with fail
 generalize hW4 : World.alloc w3 _ = w4
 have hb4 : Below w3.heap.size w3 w4 := hW4 ▸ bA
 have HD : Hid (DrS intsT 50 sb w b0 w3.heap.size (w3.heap.size + 1) n (.slice ta tn tc) T w4) := DrS.box hW4.symm rfl HB.out hb1 (by omega) hsb
 clear hW4 HB
 replace HR := Lib.hid (HR.out.below hb4 HR.out.1)
 replace HS := Lib.hid (HS.out.below hb4)
 replace HT := Lib.hid (tchW HT.out hb4 (by omega))
 have hz4 : w3.heap.size + 1 ≤ w4.heap.size := HD.out.le
 generalize w3.heap.size = g at *
 refine (pick_any w4 HS.out (by omega) (by omega) (n := 24) (by omega)).mono ?_
 rintro e w5 ⟨x, rfl, hx0, hx1, hs5, ht5⟩
 have hz5 := ht5.size
 replace HR := Lib.hid (HR.out.tch ht5 (by omega))
 replace HD := Lib.hid (HD.out.tch ht5)
 replace HS := Lib.hid hs5
 replace HT := Lib.hid (HT.out.then ht5 (fun q _ h => h))
 clear hs5 ht5
 have c0 := HD.out.c0
 have c1 := HD.out.c1
 have m0 := HD.out.m0
 have m1 := HD.out.m1
 have hgw : w.heap.size + 1 ≤ b0 := by omega
 have hIn : I64 n := I64.small (by omega) (by omega)
 rcases (show x = 0 ∨ x = 1 ∨ x = 2 ∨ x = 3 ∨ (x ≠ 0 ∧ x ≠ 1 ∧ x ≠ 2 ∧ x ≠ 3) by omega) with rfl | rfl | rfl | rfl | hx
 rotate_left 4
 focus
  have e0 : (x == 0) = false := beq_eq_false_iff_ne.2 hx.1
  have e1 : (x == 1) = false := beq_eq_false_iff_ne.2 hx.2.1
  have e2 : (x == 2) = false := beq_eq_false_iff_ne.2 hx.2.2.1
  have e3 : (x == 3) = false := beq_eq_false_iff_ne.2 hx.2.2.2
  clear hx
  go_wp2_with fail
  have HX : Hid (BnS sb B K w b0 g w5) := ⟨n, ta, tn, tc, T, c0, c1, fr_cons hIn ((off_bl HD.out.bl).fr (by unfold capMax; omega)), HR.out, HS.out.mono (by omega), HT.out⟩
  obtain ⟨wv, rfl⟩ : ∃ wv : World, wv = w5 := ⟨_, rfl⟩
 rotate_left
 focus -- another size
  go_wp2_with fail
  generalize hW6 : World.alloc w5 _ = w6
  have hb6 : Below w5.heap.size w5 w6 := hW6 ▸ bA
  have HL : Hid (intsT.Fr w5.heap.size w6 [.slice (some ⟨w5.heap.size, 0, none⟩) 4 4] [0, 5, -1, 1]) := by
   rw [← hW6]
   exact fr_intsL rfl rfl (fun a ha => by simp at ha; unfold I64; omega) rfl (Nat.le_refl _) (by decide)
  clear hW6
  refine (among_any w6 (HS.out.below hb6) (by omega) (by omega) HL.out.rd (by simp) (rdP_fr' HL.out (by omega))).mono ?_
  rintro e w7 ⟨p, -, rfl, hs7, ht7⟩
  have HX : Hid (BnS sb B K w b0 g w7) := by
   have HD7 := (HD.out.below hb6 HD.out.le).tch ht7
   exact ⟨n, ta, tn, tc, T, HD7.c0, HD7.c1, fr_cons hIn ((off_bl HD7.bl).fr (by unfold capMax; omega)), (HR.out.below hb6 HR.out.1).tch ht7 (by omega), hs7.mono (by omega), (tchW HT.out hb6 (by omega)).then ht7 (fun q _ h => h)⟩
  clear hs7 ht7 HL c0 c1 m0 m1
  go_wp2_with fail
  obtain ⟨wv, rfl⟩ : ∃ wv : World, wv = w7 := ⟨_, rfl⟩
 rotate_left
 focus -- another arity
  go_wp2_with fail
  generalize hW6 : World.alloc w5 _ = w6
  have hb6 : Below w5.heap.size w5 w6 := hW6 ▸ bA
  have HL : Hid (intsT.Fr w5.heap.size w6 [.slice (some ⟨w5.heap.size, 0, none⟩) 3 3] [0, 5, n + 1]) := by
   rw [← hW6]
   exact fr_intsL rfl rfl (fun a ha => by simp at ha; unfold I64; omega) rfl (Nat.le_refl _) (by decide)
  clear hW6
  refine (among_any w6 (HS.out.below hb6) (by omega) (by omega) HL.out.rd (by simp) (rdP_fr' HL.out (by omega))).mono ?_
  rintro e w7 ⟨p, hp, rfl, hs7, ht7⟩
  have hIp : I64 p := by simp at hp; unfold I64; omega
  have HD7 := Lib.hid ((HD.out.below hb6 HD.out.le).tch ht7)
  replace c0 := HD7.out.c0
  replace m0 := HD7.out.m0
  have HX : Hid (BnS sb B K w b0 g (w7.setCell ⟨g, 0, none⟩ (.int .i64 p))) := by
   have HD8 := HD7.out.num p
   exact ⟨p, ta, tn, tc, T, HD8.c0, HD8.c1, fr_cons hIp ((off_bl HD8.bl).fr (by unfold capMax; omega)), ((HR.out.below hb6 HR.out.1).tch ht7 (by omega)).other (by omega), (srcS hs7 (by omega) (by omega)).mono (by omega), tchS ((tchW HT.out hb6 (by omega)).then ht7 (fun q _ h => h)) (by omega)⟩
  clear hs7 ht7 HL c1 m1 HD7 hp
  go_wp2_with fail
  generalize w7.setCell ⟨g, 0, none⟩ (.int .i64 p) = wv at HX ⊢
 rotate_left
 focus -- one more row
  go_wp2_with (refine wpList_push (E := intsT.off g) _ rfl _ _ 41 50 rfl elSS rfl ((HD.out.bl.mono (show g + 1 ≤ w5.heap.size by omega)).below (bAA (w := w5)) (Nat.le_refl _)) rfl (news1' (by simp)) (fr_off ((fr_intsL (base := w5.heap.size) (xs := [0, 0]) rfl rfl (fun a ha => by simp at ha; unfold I64; omega) rfl (Nat.le_refl _) (by decide)).below bA) (by omega)) (by omega) (by decide) (by omega) (by first | (simp; done) | (simp; omega)) ?_; intro v6 w6 hB6 hg6 hown6; obtain ⟨a6, n6, c6, rfl⟩ := ex_slice (hB6.fr (by rw [List.length_append]; unfold capMax; simp only [List.length_singleton]; omega)); obtain ⟨k1, km⟩ := (HD.out.below (bAA (w := w5)) HD.out.le).cells hg6)
  have hrow : ∀ b, (Value.slice ta tn tc).ownBlock = some b → b0 ≤ b := fun b hb => HD.out.bl.own hb
  have hrow2 : ∀ b, (Value.slice ta tn tc).ownBlock = some b → b ≠ w.heap.size := fun b hb => by have := hrow b hb; omega
  have HX : Hid (BnS sb B K w b0 g (w6.setCell ⟨g, 1, none⟩ (.slice a6 n6 c6))) := by
   have HD8 := (HD.out.below (bAA (w := w5)) HD.out.le).row hB6 hg6 hown6
   exact ⟨n, a6, n6, c6, _, HD8.c0, HD8.c1, fr_cons hIn ((off_bl HD8.bl).fr (by rw [List.length_append]; unfold capMax; simp only [List.length_singleton]; omega)), ((HR.out.below (bAA (w := w5)) HR.out.1).grown hg6 (fun e => hrow2 _ e rfl)).other (by omega), (srcS (srcG (HS.out.below (bAA (w := w5))) hg6 (fun b hb => by have := hrow b hb; omega)) (by omega) (by omega)).mono (by omega), tchS (tchG (tchW HT.out (bAA (w := w5)) (by omega)) hg6 (fun b hb => by have := hrow b hb; omega)) (by omega)⟩
  clear hrow hrow2 hB6 hg6 hown6 c0 c1 m0 m1
  go_wp2_with fail
  generalize w6.setCell ⟨g, 1, none⟩ (.slice a6 n6 c6) = wv at HX ⊢
 rotate_left
 focus -- the first number
  have HF := Lib.hid ((off_bl HD.out.bl).fr (by unfold capMax; omega))
  rcases Nat.eq_zero_or_pos T.length with h0 | h0
  focus
   obtain rfl := List.eq_nil_of_length_eq_zero h0
   obtain ⟨ad, cap, hv⟩ := fr_slice HF.out
   simp only [Value.slice.injEq, List.length_nil] at hv
   obtain ⟨rfl, rfl, rfl⟩ := hv
   clear h0
   have HX : Hid (BnS sb B K w b0 g w5) := ⟨n, ta, 0, tc, [], c0, c1, fr_cons hIn HF.out, HR.out, HS.out.mono (by omega), HT.out⟩
   go_wp2_with fail
   obtain ⟨wv, rfl⟩ : ∃ wv : World, wv = w5 := ⟨_, rfl⟩
  rotate_left
  focus
   have hr0 := (HQ.out.2.2 0 h0).1.1
   have hT0 : 0 < (T[0]).length := by simp only at hr0; omega
   obtain ⟨b, o, cap, b', o', cap', hv, p0, ⟨u', p1⟩, p2, hb', hbl', hbb, hbg, hput⟩ := rows_put00 (fra_of_off HD.out.bl HD.out.own (by unfold capMax; omega)) h0 hT0
   simp only [Value.slice.injEq] at hv
   obtain ⟨rfl, rfl, rfl⟩ := hv
   have HPUT := Lib.hid hput
   have hTI : (0 : Int) < (T.length : Int) := by omega
   clear hput hr0
   have hv0 : Below w5.heap.size w5 w5.drew := bD
   go_wp2_with fail
   refine wp_region_T (fun w' => w'.cell? ⟨g, 1, none⟩ = some (.slice (some ⟨b, o, none⟩) T.length tc) ∧ w'.cell? ⟨b, o, none⟩ = some (.slice (some ⟨b', o', none⟩) (T[0]).length cap')) [9] (by kernel_rfl) ⟨c1, p0⟩ (fun hHeld => ?_)
   refine wpAnyT_take (i := 0) (v := ?_) rfl (by kernel_rfl) (fun _ _ _ h => h) (Or.inl ⟨by rfl, ?_⟩) (by assumption) ?_
   rotate_left
   ·(intro w hSw; (try dsimp only at hSw); go_simp <;> with_reducible rfl)
   go_simp
   refine wpAnyT_take (i := 1) (v := ?_) rfl (by kernel_rfl) (fun _ _ _ h => h) (Or.inl ⟨by rfl, ?_⟩) (by assumption) ?_
   rotate_left
   ·(intro w hSw; (try dsimp only at hSw); go_simp <;> with_reducible rfl)
   go_simp
   refine wpAnyT_take (i := 2) (v := ?_) rfl (by kernel_rfl) (fun _ _ _ h => h) (Or.inl ⟨by rfl, ?_⟩) (by assumption) ?_
   rotate_left
   ·(intro w hSw; (try dsimp only at hSw); go_simp <;> with_reducible rfl)
   go_simp
   refine wpAnyT_take (i := 3) (v := ?_) rfl (by kernel_rfl) (fun _ _ _ h => h) (Or.inl ⟨by rfl, ?_⟩) (by assumption) ?_
   rotate_left
   ·(intro w hSw; (try dsimp only at hSw); go_simp <;> with_reducible rfl)
   go_simp
   refine wpAnyT_take (i := 4) (v := ?_) rfl (by kernel_rfl) (fun _ _ _ h => h) (Or.inl ⟨by rfl, ?_⟩) (by assumption) ?_
   rotate_left
   ·(intro w hSw; (try dsimp only at hSw); go_simp <;> with_reducible rfl)
   go_simp
   refine wpAnyT_take (i := 5) (v := ?_) rfl (by kernel_rfl) (fun _ _ _ h => h) (Or.inl ⟨by rfl, ?_⟩) (by assumption) ?_
   rotate_left
   ·(intro w hSw; (try dsimp only at hSw); go_simp <;> with_reducible rfl)
   go_simp
   have hbl : b < w5.heap.size := cell_lt p0
   replace HD := Lib.hid (HD.out.below hv0 HD.out.le)
   replace HR := Lib.hid (HR.out.below hv0 HR.out.1)
   replace HS := Lib.hid (HS.out.below hv0)
   replace HT := Lib.hid (tchW HT.out hv0 (by omega))
   replace p0 := (cellB hv0 hbl).trans p0
   have hz0 := hv0.size
   clear c0 c1 m0 m1 HPUT p1 p2 HF hv0
   generalize w5.drew = x0 at *
   refine wpAnyT_one (i := 6) rfl (by kernel_rfl) (fun K' hK' => ?_)
   go_simp
   generalize hWx : World.alloc x0 _ = x1
   have hb1 : Below x0.heap.size x0 x1 := by rw [← hWx]; exact bA
   have HL : Hid (intsT.Fr x0.heap.size x1 [.slice (some ⟨x0.heap.size, 0, none⟩) 2 2] [-1, s]) := by
    rw [← hWx]
    exact fr_intsL rfl rfl (fun a ha => by simp at ha; unfold I64; omega) rfl (Nat.le_refl _) (by decide)
   clear hWx
   have hz1 := hb1.size
   replace HD := Lib.hid (HD.out.below hb1 HD.out.le)
   replace HR := Lib.hid (HR.out.below hb1 HR.out.1)
   replace HS := Lib.hid (HS.out.below hb1)
   replace HT := Lib.hid (tchW HT.out hb1 (by omega))
   replace p0 := (cellB hb1 (by omega)).trans p0
   refine hK'.out _ _ ⟨HD.out.c1, p0⟩ (fun hHeld => ?_)
   clear hK' K'
   refine wpAnyT_one (i := 7) rfl (by kernel_rfl) (fun K' hK' => ?_)
   go_simp
   go_at_call 68
   refine (among_any x1 HS.out (by omega) (by omega) HL.out.rd (by simp) (rdP_fr' HL.out (by omega))).mono ?_
   rintro e x2 ⟨p, hp, rfl, hs2, ht2⟩
   have hIp : I64 p := by simp at hp; unfold I64; omega
   have hz2' := ht2.size
   replace HD := Lib.hid (HD.out.tch ht2)
   replace HR := Lib.hid (HR.out.tch ht2 (by omega))
   replace HS := Lib.hid hs2
   replace HT := Lib.hid (HT.out.then ht2 (fun q _ h => h))
   replace p0 := (ht2.cell (by omega) (by omega)).trans p0
   clear hp hs2 ht2 HL
   dsimp only
   refine hK'.out _ _ ⟨HD.out.c1, p0⟩ (fun hHeld => ?_)
   clear hK' K'
   refine wpAnyT_any (i := 8) (v := ?_) rfl (by kernel_rfl) (fun _ _ _ h => h) (Or.inl ⟨by rfl, ?_⟩) (by first | exact fun _ => by assumption | (intro hp; exact absurd hp (by rw [show pastB _ _ = true by kernel_rfl]; simp))) ?_
   rotate_left
   ·(intro w hSw; (try dsimp only at hSw); go_simp <;> with_reducible rfl)
   try simp only [Act.put]
   obtain ⟨b2, o2, cap2, b3, o3, cap3, hv2, p3, ⟨u4, p4⟩, p5, hb3, hbl3, hbb3, hbg3, hput3⟩ := rows_put00 (fra_of_off HD.out.bl HD.out.own (by unfold capMax; omega)) h0 (by omega)
   simp only [Value.slice.injEq, Option.some.injEq, Addr.mk.injEq, and_true, true_and] at hv2
   obtain ⟨⟨rfl, rfl⟩, rfl⟩ := hv2
   rw [p0] at p3
   simp only [Option.some.injEq, Value.slice.injEq, Addr.mk.injEq, and_true, true_and] at p3
   obtain ⟨⟨rfl, rfl⟩, rfl⟩ := p3
   have HX : Hid (BnS sb B K w b0 g (x2.setCell ⟨b', o', none⟩ (.int .i64 p))) :=
    ⟨n, some ⟨b, o, none⟩, T.length, tc, _, (World.cell?_setCell_other _ _ _ _ (fun e => hbg3 (by simp only [Addr.mk.injEq] at e; exact e.1))).trans HD.out.c0, (World.cell?_setCell_other _ _ _ _ (fun e => hbg3 (by simp only [Addr.mk.injEq] at e; exact e.1))).trans HD.out.c1, fr_cons hIn (hput3 p hIp), HR.out.other (by omega), (srcS HS.out (by omega) (by omega)).mono (by omega), tchS HT.out (by omega)⟩
   refine wpAnyT_last (i := 9) rfl (by kernel_rfl) (by kernel_rfl) (fun K' hK' => ?_)
   go_simp
   refine hK'.out _ _ ?_
   clear hK' K'
   refine wpAnyT_done (by kernel_rfl) ?_ _
   go_simp
   go_wp2_with fail
   generalize x2.setCell ⟨b', o', none⟩ (.int .i64 p) = wv at HX ⊢
 rotate_left
 all_goals
  obtain ⟨n', a', m', c', T', d0, d1, hf, hr, hs, ht⟩ := HX.out
  have HF := Lib.hid hf
  have HRr := Lib.hid hr
  have HSs := Lib.hid hs
  have HTt := Lib.hid ht
  clear hf hr hs ht HX
  refine wp_region_T (fun w' => w'.cell? ⟨g, 0, none⟩ = some (.int .i64 n') ∧ w'.cell? ⟨g, 1, none⟩ = some (.slice a' m' c')) [3] (by kernel_rfl) ⟨d0, d1⟩ (fun hHeld => ?_)
  refine wpAnyT_take (i := 0) (v := ?_) rfl (by kernel_rfl) (fun _ _ _ h => h) (Or.inl ⟨by rfl, ?_⟩) (by assumption) ?_
  rotate_left
  ·(intro w hSw; (try dsimp only at hSw); go_simp <;> with_reducible rfl)
  go_simp
  refine wpAnyT_take (i := 1) (v := ?_) rfl (by kernel_rfl) (fun _ _ _ h => h) (Or.inl ⟨by rfl, ?_⟩) (by assumption) ?_
  rotate_left
  ·(intro w hSw; (try dsimp only at hSw); go_simp <;> with_reducible rfl)
  go_simp
  refine wpAnyT_any (i := 2) (v := ?_) rfl (by kernel_rfl) (fun _ _ _ h => h) (Or.inl ⟨by rfl, ?_⟩) (by first | exact fun _ => by assumption | (intro hp; exact absurd hp (by rw [show pastB _ _ = true by kernel_rfl]; simp))) ?_
  rotate_left
  ·(intro w hSw; (try dsimp only at hSw); go_simp <;> with_reducible rfl)
  try simp only [Act.put]
  obtain ⟨⟨u0, r0⟩, ⟨u1, r1⟩, q0, q1⟩ := HRr.out.2
  have HFv : Hid (relT.Fr w.heap.size ((wv.setCell ⟨w.heap.size, 0, none⟩ (.int .i64 n')).setCell ⟨w.heap.size, 1, none⟩ (.slice a' m' c')) [.int .i64 n', .slice a' m' c'] (n', T')) := ((HF.out.set (a := ⟨w.heap.size, 0, none⟩) (by show w.heap.size < b0; omega)).set (a := ⟨w.heap.size, 1, none⟩) (by show w.heap.size < b0; omega)).mono (by omega)
  have HSv : Hid (SrcR sb B (K + 300) ((wv.setCell ⟨w.heap.size, 0, none⟩ (.int .i64 n')).setCell ⟨w.heap.size, 1, none⟩ (.slice a' m' c'))) := (srcS (srcS HSs.out (by omega) (by omega)) (by omega) (by omega)).mono (by omega)
  have HTv : Hid (TchP (fun q => q = sb) w ((wv.setCell ⟨w.heap.size, 0, none⟩ (.int .i64 n')).setCell ⟨w.heap.size, 1, none⟩ (.slice a' m' c'))) := tchS (tchS HTt.out (Nat.le_refl _)) (Nat.le_refl _)
  obtain ⟨g0, g1⟩ := set2_cells (x := .int .i64 n') (y := .slice a' m' c') r0 r1
  refine wpAnyT_last (i := 3) rfl (by kernel_rfl) (by kernel_rfl) (fun K' hK' => ?_)
  go_simp
  refine hK'.out _ _ ?_
  clear hK' K'
  refine wpAnyT_done (by kernel_rfl) ?_ _
  go_simp
  go_wp2_with fail
  first
   | (refine bodyPost_ret (v := .tuple #[.int .i64 s, .agg #[.int .i64 n', .slice a' m' c']]) ?_ rfl ⟨s, [.int .i64 n', .slice a' m' c'], (n', T'), rfl, HFv.out.below bD, HSv.out.below bD, tchW HTv.out bD (Nat.le_trans HTv.out.size (Nat.le_refl _))⟩; simp [results, Tryz.results95, go_sem, g0, g1]; done)
   | (refine bodyPost_ret (v := .tuple #[.int .i64 p, .agg #[.int .i64 n', .slice a' m' c']]) ?_ rfl ⟨p, [.int .i64 n', .slice a' m' c'], (n', T'), rfl, HFv.out.below bD, HSv.out.below bD, tchW HTv.out bD (Nat.le_trans HTv.out.size (Nat.le_refl _))⟩; simp [results, Tryz.results95, go_sem, g0, g1]; done)
end Go.Proofs.YtmnjlhcbabhhlaaGreat
namespace Go.Proofs.YtmnjlhcbabhhlaaGreat
open Go.RowKit Go.Sort
/-- what a drawn template is behind the changes -/
def TbS (sb B : Nat) (K : Int) (w : World) (b0 g : Nat) (wv : World) : Prop := ∃ (n : Int) (a : Option Addr) (m c : Nat) (T : List (Int × List (List Int))), wv.cell? ⟨g, 0, none⟩ = some (.int .i64 n) ∧ wv.cell? ⟨g, 1, none⟩ = some (.slice a m c) ∧ tplT.Fr b0 wv [.int .i64 n, .slice a m c] (n, T) ∧ T.length ≤ 100 ∧ ResB w.heap.size wv ∧ SrcR sb B (K + 1990) wv ∧ TchP (fun q => q = sb) w wv
theorem elRel2 : ElT Tryz.prog 24 43 2 32 := .mk (z := .agg #[.int .i64 0, .slice none 0 0]) Tryz.underlying24 (by kernel_rfl) rfl (by decide)
set_option maxHeartbeats 6400000 in
set_option maxRecDepth 100000 in
theorem l01TemplateBent_any (w : World) {sb B : Nat} {K : Int} (h : SrcR sb B K w) (hK0 : 0 ≤ K) (hK : K ≤ 100000) :
  Calls Tryz.prog 70 #[.pointer (some ⟨sb, 0, none⟩)] w (FxR tplT (fun t => t.2.length ≤ 100) sb B (K + 2000) w) := by
 have H := Lib.hid h
 have hsb := h.lt
 have hBs : B ≤ sb := let ⟨_, _, _, _, _, _, _, _, _, _, _, _, _, _, h⟩ := h; h
 clear h
 go_enter Tryz.func70, Tryz.ntmps70
 go_wp2_with fail
 generalize hW : World.alloc w _ = W
 have hbW : Below w.heap.size w W := hW ▸ bA
 have hsW : w.heap.size + 1 = W.heap.size := by rw [← hW]; simp
 have HR : Hid (ResB w.heap.size W) := by
  rw [← hW]
  exact ResB.new rfl rfl
 have HS := Lib.hid (H.out.below hbW)
 clear hW
 refine (l01SizeDrawn_any W HS.out hK0 (by omega)).mono ?_
 rintro e w2 ⟨s, rfl, hs0, hs1, hs2, ht2⟩
 have hz2 := ht2.size
 replace HR := Lib.hid (HR.out.tch ht2 (by omega))
 replace HS := Lib.hid hs2
 have HT := Lib.hid ((TchP.of_below hbW (fun q => q = sb)).then ht2 (fun q _ h => h))
 clear hs2 ht2
 go_wp2_with fail
 refine (l01TemplateDrawn_any w2 HS.out (by omega) (by omega) ⟨hs0, hs1⟩).mono ?_
 rintro e w3 ⟨v, n, T, b0, rfl, hI, hb0, hb1, hB, hTl, hq, hs3, ht3⟩
 obtain ⟨ta, tn, tc, rfl⟩ := ex_slice (hB.fr (by unfold capMax; omega))
 have hz3 := ht3.size
 replace HR := Lib.hid (HR.out.tch ht3 (by omega))
 replace HS := Lib.hid hs3
 replace HT := Lib.hid (HT.out.then ht3 (fun q _ h => h))
 have HB := Lib.hid hB
 have hT3 : T.length ≤ 3 := hq.2.1
 have HI := Lib.hid hI
 clear hs3 ht3 hB hq hI hTl
 go_wp2_with fail
 generalize hW4 : World.alloc w3 _ = w4
 have hb4 : Below w3.heap.size w3 w4 := hW4 ▸ bA
 have HD : Hid (DrS relT 43 sb w b0 w3.heap.size (w3.heap.size + 1) n (.slice ta tn tc) T w4) := DrS.box hW4.symm rfl HB.out hb1 (by omega) hsb
 clear hW4 HB
 replace HR := Lib.hid (HR.out.below hb4 HR.out.1)
 replace HS := Lib.hid (HS.out.below hb4)
 replace HT := Lib.hid (tchW HT.out hb4 (by omega))
 have hz4 : w3.heap.size + 1 ≤ w4.heap.size := HD.out.le
 generalize w3.heap.size = g at *
 refine (pick_any w4 HS.out (by omega) (by omega) (n := 20) (by omega)).mono ?_
 rintro e w5 ⟨x, rfl, hx0, hx1, hs5, ht5⟩
 have hz5 := ht5.size
 replace HR := Lib.hid (HR.out.tch ht5 (by omega))
 replace HD := Lib.hid (HD.out.tch ht5)
 replace HS := Lib.hid hs5
 replace HT := Lib.hid (HT.out.then ht5 (fun q _ h => h))
 clear hs5 ht5
 have c0 := HD.out.c0
 have c1 := HD.out.c1
 have m0 := HD.out.m0
 have m1 := HD.out.m1
 have hgw : w.heap.size + 1 ≤ b0 := by omega
 rcases (show x = 0 ∨ x = 1 ∨ x = 2 ∨ (x ≠ 0 ∧ x ≠ 1 ∧ x ≠ 2) by omega) with rfl | rfl | rfl | hx
 rotate_left 3
 focus
  have e0 : (x == 0) = false := beq_eq_false_iff_ne.2 hx.1
  have e1 : (x == 1) = false := beq_eq_false_iff_ne.2 hx.2.1
  have e2 : (x == 2) = false := beq_eq_false_iff_ne.2 hx.2.2
  clear hx
  have HX : Hid (TbS sb B K w b0 g w5) := ⟨n, ta, tn, tc, T, c0, c1, fr_cons HI.out ((off_bl HD.out.bl).fr (by unfold capMax; omega)), by omega, HR.out, HS.out.mono (by omega), HT.out⟩
  obtain ⟨n', a', m', c', T', d0, d1, hf, hTl', hr, hs, ht⟩ := HX.out
  have HF := Lib.hid hf
  have HRr := Lib.hid hr
  have HSs := Lib.hid hs
  have HTt := Lib.hid ht
  obtain ⟨⟨u0, r0⟩, ⟨u1, r1⟩, q0, q1⟩ := hr.2
  obtain ⟨g0, g1⟩ := set2_cells (x := .int .i64 n') (y := .slice a' m' c') r0 r1
  clear hf hr hs ht HX c0 c1 m0 m1
  obtain ⟨wv, rfl⟩ : ∃ wv : World, wv = w5 := ⟨_, rfl⟩
  go_wp2_with fail
 rotate_left
 focus -- another size
  go_wp2_with fail
  generalize hW6 : World.alloc w5 _ = w6
  have hb6 : Below w5.heap.size w5 w6 := hW6 ▸ bA
  have HL : Hid (intsT.Fr w5.heap.size w6 [.slice (some ⟨w5.heap.size, 0, none⟩) 3 3] [0, 5, 1]) := by
   rw [← hW6]
   exact fr_intsL rfl rfl (fun a ha => by simp at ha; unfold I64; omega) rfl (Nat.le_refl _) (by decide)
  clear hW6
  refine (among_any w6 (HS.out.below hb6) (by omega) (by omega) HL.out.rd (by simp) (rdP_fr' HL.out (by omega))).mono ?_
  rintro e w7 ⟨p, hp, rfl, hs7, ht7⟩
  have hIp : I64 p := by simp at hp; unfold I64; omega
  have HD7 := Lib.hid ((HD.out.below hb6 HD.out.le).tch ht7)
  replace c0 := HD7.out.c0
  replace m0 := HD7.out.m0
  have HX : Hid (TbS sb B K w b0 g (w7.setCell ⟨g, 0, none⟩ (.int .i64 p))) := by
   have HD8 := HD7.out.num p
   exact ⟨p, ta, tn, tc, T, HD8.c0, HD8.c1, fr_cons hIp ((off_bl HD8.bl).fr (by unfold capMax; omega)), by omega, ((HR.out.below hb6 HR.out.1).tch ht7 (by omega)).other (by omega), (srcS hs7 (by omega) (by omega)).mono (by omega), tchS ((tchW HT.out hb6 (by omega)).then ht7 (fun q _ h => h)) (by omega)⟩
  obtain ⟨n', a', m', c', T', d0, d1, hf, hTl', hr, hs, ht⟩ := HX.out
  have HF := Lib.hid hf
  have HRr := Lib.hid hr
  have HSs := Lib.hid hs
  have HTt := Lib.hid ht
  obtain ⟨⟨u0, r0⟩, ⟨u1, r1⟩, q0, q1⟩ := hr.2
  obtain ⟨g0, g1⟩ := set2_cells (x := .int .i64 n') (y := .slice a' m' c') r0 r1
  clear hs7 ht7 HL c1 m1 HD7 hp hf hr hs ht HX
  go_upto_region 11 with (fail)
  generalize w7.setCell ⟨g, 0, none⟩ (.int .i64 p) = wv at *
  go_wp2_with fail
 rotate_left
 focus -- one more relation
  go_wp2_with fail
  refine (l01Bent_any w5 HS.out (by omega) (by omega)).mono ?_
  rintro e w6 ⟨sz, cs, r, rfl, hf6, hs6, ht6⟩
  obtain ⟨ga, gc, rfl⟩ := fr_pair hf6
  have hz6 := ht6.size
  replace HR := Lib.hid (HR.out.tch ht6 (by omega))
  replace HD := Lib.hid (HD.out.tch ht6)
  replace HS := Lib.hid hs6
  replace HT := Lib.hid (HT.out.then ht6 (fun q _ h => h))
  have HF6 := Lib.hid hf6
  clear hf6 hs6 ht6 c0 c1 m0 m1
  go_upto_region 7 with (fail)
  generalize hW7 : World.alloc w6 _ = w7
  have hb7 : Below w6.heap.size w6 w7 := hW7 ▸ bA
  have hz7 : w6.heap.size + 1 = w7.heap.size := by rw [← hW7]; simp
  have y0 : w7.cell? ⟨w6.heap.size, 0, none⟩ = some (.int .i64 r.1) := by rw [← hW7]; simp [go_sem]
  have y1 : w7.cell? ⟨w6.heap.size, 1, none⟩ = some (.slice ga r.2.length gc) := by rw [← hW7]; simp [go_sem]
  clear hW7
  replace HR := Lib.hid (HR.out.below hb7 HR.out.1)
  replace HD := Lib.hid (HD.out.below hb7 HD.out.le)
  replace HS := Lib.hid (HS.out.below hb7)
  replace HT := Lib.hid (tchW HT.out hb7 (by omega))
  replace HF6 := Lib.hid (HF6.out.below hb7)
  have c1 := HD.out.c1
  go_upto_region 11 with (refine wpList_push (E := relT.off g) _ rfl _ _ 24 43 rfl elRel2 rfl ((HD.out.bl.mono (show g + 1 ≤ w5.heap.size by omega)).below (bA (w := w7)) (by omega)) rfl (news2' (by simp)) (fr_off (HF6.out.below bA) (by omega)) (by omega) (by decide) (by omega) (by first | (simp; done) | (simp; omega)) ?_; intro v8 w8 hB8 hg8 hown8; obtain ⟨a8, n8, c8, rfl⟩ := ex_slice (hB8.fr (by rw [List.length_append]; unfold capMax; simp only [List.length_singleton]; omega)); obtain ⟨k1, km⟩ := (HD.out.below (bA (w := w7)) HD.out.le).cells hg8)
  have hrow : ∀ b, (Value.slice ta tn tc).ownBlock = some b → b0 ≤ b := fun b hb => HD.out.bl.own hb
  have hrow2 : ∀ b, (Value.slice ta tn tc).ownBlock = some b → b ≠ w.heap.size := fun b hb => by have := hrow b hb; omega
  have HX : Hid (TbS sb B K w b0 g (w8.setCell ⟨g, 1, none⟩ (.slice a8 n8 c8))) := by
   have HD8 := (HD.out.below (bA (w := w7)) HD.out.le).row hB8 hg8 hown8
   exact ⟨n, a8, n8, c8, _, HD8.c0, HD8.c1, fr_cons HI.out ((off_bl HD8.bl).fr (by rw [List.length_append]; unfold capMax; simp only [List.length_singleton]; omega)), by rw [List.length_append, List.length_singleton]; omega, ((HR.out.below (bA (w := w7)) HR.out.1).grown hg8 (fun e => hrow2 _ e rfl)).other (by omega), (srcS (srcG (HS.out.below (bA (w := w7))) hg8 (fun b hb => by have := hrow b hb; omega)) (by omega) (by omega)).mono (by omega), tchS (tchG (tchW HT.out (bA (w := w7)) (by omega)) hg8 (fun b hb => by have := hrow b hb; omega)) (by omega)⟩
  obtain ⟨n', a', m', c', T', d0, d1, hf, hTl', hr, hs, ht⟩ := HX.out
  have HF := Lib.hid hf
  have HRr := Lib.hid hr
  have HSs := Lib.hid hs
  have HTt := Lib.hid ht
  obtain ⟨⟨u0, r0⟩, ⟨u1, r1⟩, q0, q1⟩ := hr.2
  obtain ⟨g0, g1⟩ := set2_cells (x := .int .i64 n') (y := .slice a' m' c') r0 r1
  clear hrow hrow2 hB8 hg8 hown8 c1 hf hr hs ht HX k1 km y0 y1
  generalize w8.setCell ⟨g, 1, none⟩ (.slice a8 n8 c8) = wv at *
  go_wp2_with fail
 rotate_left
 focus -- more relations
  clear c0 c1 m0 m1
  go_wp2_with fail
  go_loopg [38] (20 - T.length) (fun gh _ wr => ∃ (q : Nat) (va : Value) (T2 : List (Int × List (List Int))) (top : Nat), q = gh ∧ q + T2.length = 20 ∧ T2.length ≤ 8 ∧ DrS relT 43 sb w b0 g top n va T2 wr ∧ ResB w.heap.size wr ∧ SrcR sb B (K + 1010 + (T2.length : Int)) wr ∧ TchP (fun q => q = sb) w wr)
  case atStart => exact ⟨_, _, T, _, rfl, by omega, by omega, HD.out, HR.out, HS.out.mono (by omega), HT.out⟩
  clear HD HR HS HT
  obtain ⟨q, va, T2, top, hgq, hgh, hT8, hd, hr, hsr, htc⟩ := hrel
  obtain ⟨wx, rfl⟩ : ∃ wx : World, wx = wr := ⟨_, rfl⟩
  obtain ⟨xa, xn, xc, rfl⟩ := ex_slice (hd.bl.fr (by unfold capMax; omega))
  have HD := Lib.hid hd
  have HR := Lib.hid hr
  have HS := Lib.hid hsr
  have HT := Lib.hid htc
  have hgt := hd.hi
  have hto := hd.le
  have hlen : xn = T2.length := by
   obtain ⟨_, _, hv⟩ := fr_slice (hd.bl.fr (by unfold capMax; omega))
   simp only [Value.slice.injEq] at hv
   exact hv.2.1
  subst hlen
  have c1 := hd.c1
  clear hd hr hsr htc
  have hv0 : Below wx.heap.size wx wx.drew := bD
  go_wp2_with fail
  refine wp_region_T (fun w' => w'.cell? ⟨g, 1, none⟩ = some (.slice xa T2.length xc)) [] (by kernel_rfl) c1 (fun hHeld => ?_)
  refine wpAnyT_take (i := 0) (v := ?_) rfl (by kernel_rfl) (fun _ _ _ h => h) (Or.inl ⟨by rfl, ?_⟩) (by assumption) ?_
  rotate_left
  ·(intro w hSw; (try dsimp only at hSw); go_simp <;> with_reducible rfl)
  go_simp
  refine wpAnyT_take (i := 1) (v := ?_) rfl (by kernel_rfl) (fun _ _ _ h => h) (Or.inl ⟨by rfl, ?_⟩) (by assumption) ?_
  rotate_left
  ·(intro w hSw; (try dsimp only at hSw); go_simp <;> with_reducible rfl)
  go_simp
  refine wpAnyT_take (i := 2) (v := ?_) rfl (by kernel_rfl) (fun _ _ _ h => h) (Or.inl ⟨by rfl, ?_⟩) (by assumption) ?_
  rotate_left
  ·(intro w hSw; (try dsimp only at hSw); go_simp <;> with_reducible rfl)
  go_simp
  refine wpAnyT_take (i := 3) (v := ?_) rfl (by kernel_rfl) (fun _ _ _ h => h) (Or.inl ⟨by rfl, ?_⟩) (by assumption) ?_
  rotate_left
  ·(intro w hSw; (try dsimp only at hSw); go_simp <;> with_reducible rfl)
  go_simp
  replace HD := Lib.hid (HD.out.below hv0 hto)
  replace HR := Lib.hid (HR.out.below hv0 HR.out.1)
  replace HS := Lib.hid (HS.out.below hv0)
  replace HT := Lib.hid (tchW HT.out hv0 (by omega))
  have hzv := hv0.size
  clear c1 hv0
  generalize wx.drew = x0 at *
  refine wpAnyT_one (i := 4) rfl (by kernel_rfl) (fun K' hK' => ?_)
  go_simp
  go_at_call 39
  refine (pick_any x0 HS.out (by omega) (by omega) (n := 2) (by omega)).mono ?_
  rintro e x1 ⟨p, rfl, hp0, hp1, hs1, ht1⟩
  have hzy := ht1.size
  replace HD := Lib.hid (HD.out.tch ht1)
  replace HR := Lib.hid (HR.out.tch ht1 (by omega))
  replace HS := Lib.hid hs1
  replace HT := Lib.hid (HT.out.then ht1 (fun q _ h => h))
  clear hs1 ht1
  obtain ⟨kk, hkk⟩ : ∃ kk : Nat, 6 + p = (kk : Int) := ⟨(6 + p).toNat, by omega⟩
  have hwr : IntKind.i64.wrap (6 + p) = (kk : Int) := by rw [hkk]; exact wrap_small (by omega) (by omega)
  have hk7 : kk ≤ 7 := by omega
  clear hkk
  dsimp only
  refine hK'.out _ _ HD.out.c1 (fun hHeld => ?_)
  clear hK' K'
  refine wpAnyT_take (i := 5) (v := ?_) rfl (by kernel_rfl) (fun _ _ _ h => h) (Or.inl ⟨by rfl, ?_⟩) (by assumption) ?_
  rotate_left
  ·(intro w hSw; (try dsimp only at hSw); go_simp <;> with_reducible rfl)
  go_simp
  refine wpAnyT_take (i := 6) (v := ?_) rfl (by kernel_rfl) (fun _ _ _ h => h) (Or.inl ⟨by rfl, ?_⟩) (by assumption) ?_
  rotate_left
  ·(intro w hSw; (try dsimp only at hSw); go_simp <;> with_reducible rfl)
  go_simp
  clear hwr
  refine wpAnyT_done (by kernel_rfl) ?_ _
  go_simp
  have c1 := HD.out.c1
  have hto1 := HD.out.le
  by_cases hlt : T2.length < kk
  ·have hltI : ((T2.length : Nat) : Int) < (kk : Int) := by omega
   go_wp2_with (refine wpList_push (E := relT.off g) _ rfl _ _ 24 43 rfl elRel2 rfl ((HD.out.bl.mono hto1).below (bA (w := x1)) (Nat.le_refl _)) rfl (news2' (by simp)) (fr_off (fr_cons (base := x1.heap.size) (x := []) (I64.small (n := 1) (by omega) (by omega)) fr_nil) (by omega)) (by omega) (by decide) (by omega) (by first | (simp; done) | (simp; omega)) ?_; intro v8 w8 hB8 hg8 hown8; obtain ⟨a8, n8, c8, rfl⟩ := ex_slice (hB8.fr (by rw [List.length_append]; unfold capMax; simp only [List.length_singleton]; omega)); obtain ⟨k1, km⟩ := (HD.out.below (bA (w := x1)) HD.out.le).cells hg8)
   have hrow : ∀ b, (Value.slice xa T2.length xc).ownBlock = some b → b0 ≤ b := fun b hb => HD.out.bl.own hb
   have hrow2 : ∀ b, (Value.slice xa T2.length xc).ownBlock = some b → b ≠ w.heap.size := fun b hb => by have := hrow b hb; omega
   have HD8 := Lib.hid ((HD.out.below (bA (w := x1)) HD.out.le).row hB8 hg8 hown8)
   have HR8 := Lib.hid (((HR.out.below (bA (w := x1)) HR.out.1).grown hg8 (fun e => hrow2 _ e rfl)).other (b := g) (i := 1) (u := .slice a8 n8 c8) (by omega))
   have HS8 := Lib.hid (srcS (b := g) (i := 1) (u := .slice a8 n8 c8) (srcG (HS.out.below (bA (w := x1))) hg8 (fun b hb => by have := hrow b hb; omega)) (by omega) (by omega))
   have HT8 := Lib.hid (tchS (g := g) (i := 1) (v := .slice a8 n8 c8) (tchG (tchW HT.out (bA (w := x1)) (by omega)) hg8 (fun b hb => by have := hrow b hb; omega)) (by omega))
   clear hrow hrow2 hB8 hg8 hown8 k1 km HD HR HS HT
   obtain ⟨q', rfl⟩ : ∃ q', q = q' + 1 := ⟨q - 1, by omega⟩
   go_roundg q'
   case measure => omega
   case rel => exact ⟨_, _, _, _, rfl, by rw [List.length_append, List.length_singleton]; omega, by rw [List.length_append, List.length_singleton]; omega, HD8.out, HR8.out, HS8.out.mono (by rw [List.length_append, List.length_singleton]; omega), HT8.out⟩
  ·have hltI : ¬ ((T2.length : Nat) : Int) < (kk : Int) := by omega
   have HX : Hid (TbS sb B K w b0 g x1) := ⟨n, xa, T2.length, xc, T2, HD.out.c0, HD.out.c1, fr_cons HI.out ((off_bl HD.out.bl).fr (by unfold capMax; omega)), by omega, HR.out, HS.out.mono (by omega), HT.out⟩
   obtain ⟨n', a', m', c', T', d0, d1, hf, hTl', hr, hs, ht⟩ := HX.out
   have HF := Lib.hid hf
   have HRr := Lib.hid hr
   have HSs := Lib.hid hs
   have HTt := Lib.hid ht
   obtain ⟨⟨u0, r0⟩, ⟨u1, r1⟩, q0, q1⟩ := hr.2
   obtain ⟨g0, g1⟩ := set2_cells (x := .int .i64 n') (y := .slice a' m' c') r0 r1
   clear hf hr hs ht HX c1 HD HR HS HT hHeld
   obtain ⟨wv, rfl⟩ : ∃ wv : World, wv = x1 := ⟨_, rfl⟩
   go_wp2_with fail
   exact bodyPost_ret (v := .agg #[.int .i64 n', .slice a' m' c']) (by simp [results, Tryz.results70, go_sem, g0, g1]) rfl ⟨[.int .i64 n', .slice a' m' c'], (n', T'), rfl, ((HF.out.set (a := ⟨w.heap.size, 0, none⟩) (by show w.heap.size < b0; omega)).set (a := ⟨w.heap.size, 1, none⟩) (by show w.heap.size < b0; omega)).mono (by omega), hTl', (srcS (srcS HSs.out (by omega) (by omega)) (by omega) (by omega)).mono (by omega), tchS (tchS HTt.out (Nat.le_refl _)) (Nat.le_refl _)⟩
 all_goals
  exact bodyPost_ret (v := .agg #[.int .i64 n', .slice a' m' c']) (by simp [results, Tryz.results70, go_sem, g0, g1]) rfl ⟨[.int .i64 n', .slice a' m' c'], (n', T'), rfl, ((HF.out.set (a := ⟨w.heap.size, 0, none⟩) (by show w.heap.size < b0; omega)).set (a := ⟨w.heap.size, 1, none⟩) (by show w.heap.size < b0; omega)).mono (by omega), hTl', (srcS (srcS HSs.out (by omega) (by omega)) (by omega) (by omega)).mono (by omega), tchS (tchS HTt.out (Nat.le_refl _)) (Nat.le_refl _)⟩
end Go.Proofs.YtmnjlhcbabhhlaaGreat
