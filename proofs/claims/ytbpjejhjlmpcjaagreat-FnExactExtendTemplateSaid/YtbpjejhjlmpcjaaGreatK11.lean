/-
  Contracts: counting lists, formulas of one atom; results that lie in new memory.
-/
import Derived.Test.YtbpjejhjlmpcjaaGreatK10
import Derived.Test.YtbpjejhjlmpcjaaGreatMark
namespace Go.Proofs.YtbpjejhjlmpcjaaGreat
open Go.RowKit Go.Sort

/-- a struct in new memory, and a code -/
def RetAC {α : Type} (E : Ty α) (w : World) (x : α) (c : Int) (e : Ending) (w' : World) : Prop := ∃ cs : List Value, e = .returned (.tuple #[.agg cs.toArray, .int .i64 c]) ∧ E.Fr w.heap.size w' cs x ∧ Below w.heap.size w w'
/-- a slice in new memory, and a code -/
def RetSC {α : Type} (E : Ty α) (w : World) (x : α) (c : Int) (e : Ending) (w' : World) : Prop := ∃ u, e = .returned (.tuple #[u, .int .i64 c]) ∧ E.Fr w.heap.size w' [u] x ∧ Below w.heap.size w w'
def frm0 : Int × Int × List (Int × List Int) := (0, 0, [])
theorem fr_frm0 {base : Nat} {w : World} : frmT.Fr base w [.int .i64 0, .int .i64 0, .slice none 0 0] frm0 := fr_cons (I64.small (by omega) (by omega)) (fr_cons (I64.small (by omega) (by omega)) fr_nil)
def upL (from0 : Int) (n : Nat) : List Int := (List.range n).map fun i : Nat => from0 + (i : Int)
theorem upL_len {a : Int} {n : Nat} : (upL a n).length = n := by simp [upL]
theorem upL_succ (a : Int) (n : Nat) : upL a n ++ [a + (n : Int)] = upL a (n + 1) := by simp [upL, List.range_succ]
theorem upL_zero (a : Int) : upL a 0 = [] := rfl
/-- a slice of one pair, just made -/
theorem fr_one {α : Type} {E : Ty α} {base : Nat} {w : World} {n : Int} {u : Value} {x : List α} {T : TypeId} {g : Nat} (hI : I64 n) (h : (Ty.slice E).Fr base w [u] x) (hg : w.heap.size = g) (hb : base ≤ g) :
    (Ty.slice (Ty.cons (Ty.slice E))).Fr base (w.alloc (.cells #[.int .i64 n, u] T)) [.slice (some ⟨g, 0, none⟩) 1 1] [(n, x)] := by
  subst hg
  obtain ⟨fp, h1, h2, h3, h4⟩ := h
  have hs : Same fp w (w.alloc (.cells #[.int .i64 n, u] T)) := Same.below bA ((Ty.slice E).lt h1)
  have hlt := (Ty.slice E).lt h1
  refine ⟨w.heap.size :: fp, ⟨some ⟨w.heap.size, 0, none⟩, 1, rfl, Nat.le_refl _, by simp [capMax], .inr ⟨by simp, w.heap.size, 0, fun _ => fp, rfl, by simp, by simp, fun i hi => ?_⟩⟩, ?_, ?_, ?_⟩
  · obtain rfl : i = 0 := by simpa using hi
    refine ⟨[.int .i64 n, u], ⟨[u], rfl, hI, (Ty.slice E).same h1 hs⟩, fun j hj => ?_⟩
    rcases (show j = 0 ∨ j = 1 by simp at hj; omega) with rfl | rfl <;> simp
  · exact List.nodup_cons.2 ⟨fun hm => by have := hlt _ hm; omega, h2⟩
  · intro b hb'
    rcases List.mem_cons.1 hb' with rfl | hb'
    · exact hb
    · exact h3 b hb'
  · intro b hb' o
    rcases List.mem_cons.1 hb' with rfl | hb'
    · unfold World.frozen?; rw [heap_alloc_new]; simp
    · exact h4.same hs b hb' o
/-- a result of three cells, stored -/
abbrev set3 (w : World) (b : Nat) (x y z : Value) : World := ((w.setCell ⟨b, 0, none⟩ x).setCell ⟨b, 1, none⟩ y).setCell ⟨b, 2, none⟩ z
theorem set3_cells {w : World} {b : Nat} {x y z x' y' z' : Value} (h0 : w.cell? ⟨b, 0, none⟩ = some x') (h1 : w.cell? ⟨b, 1, none⟩ = some y') (h2 : w.cell? ⟨b, 2, none⟩ = some z') :
    (set3 w b x y z).cell? ⟨b, 0, none⟩ = some x ∧ (set3 w b x y z).cell? ⟨b, 1, none⟩ = some y ∧ (set3 w b x y z).cell? ⟨b, 2, none⟩ = some z := by
  have e1 : (w.setCell ⟨b, 0, none⟩ x).cell? ⟨b, 1, none⟩ = some y' := (World.cell?_setCell_other _ _ _ _ (by simp)).trans h1
  have e2 : ((w.setCell ⟨b, 0, none⟩ x).setCell ⟨b, 1, none⟩ y).cell? ⟨b, 2, none⟩ = some z' := (World.cell?_setCell_other _ _ _ _ (by simp)).trans ((World.cell?_setCell_other _ _ _ _ (by simp)).trans h2)
  exact ⟨(World.cell?_setCell_other _ _ _ _ (by simp)).trans ((World.cell?_setCell_other _ _ _ _ (by simp)).trans (World.cell?_setCell_same _ _ _ h0)), (World.cell?_setCell_other _ _ _ _ (by simp)).trans (World.cell?_setCell_same _ _ _ e1), World.cell?_setCell_same _ _ _ e2⟩
theorem set3_alloc {w : World} {b : Nat} {x y z x' y' z' : Value} {o : Obj} (h0 : w.cell? ⟨b, 0, none⟩ = some x') (h1 : w.cell? ⟨b, 1, none⟩ = some y') (h2 : w.cell? ⟨b, 2, none⟩ = some z') :
    ((set3 w b x y z).alloc o).cell? ⟨b, 0, none⟩ = some x ∧ ((set3 w b x y z).alloc o).cell? ⟨b, 1, none⟩ = some y ∧ ((set3 w b x y z).alloc o).cell? ⟨b, 2, none⟩ = some z := by
  obtain ⟨g0, g1, g2⟩ := set3_cells (x := x) (y := y) (z := z) h0 h1 h2
  have hb := cell_lt g0
  exact ⟨(World.cell?_alloc_lt _ _ _ hb).trans g0, (World.cell?_alloc_lt _ _ _ hb).trans g1, (World.cell?_alloc_lt _ _ _ hb).trans g2⟩
theorem Ty.Fr.set3 {α : Type} {E : Ty α} {base : Nat} {w : World} {cs : List Value} {v : α} {b : Nat} {x y z : Value} (h : E.Fr base w cs v) (hb : b < base) : E.Fr base (set3 w b x y z) cs v := ((h.set hb).set hb).set hb
theorem set3_size {w : World} {b : Nat} {x y z : Value} : (set3 w b x y z).heap.size = w.heap.size := by simp [World.setCell]
theorem set3_below {B : Nat} {a w : World} {b : Nat} {x y z : Value} (h : Below B a w) (hb : B ≤ b) : Below B a (set3 w b x y z) := ((h.setCell hb _).setCell hb _).setCell hb _

noncomputable def atomV (t : Int × List (Int × List (List Int))) (rel : Int) : Int × Int × List (Int × List Int) :=
  match tb (tplOk t) && inB rel 0 ((t.2.length : Int) - 1) with
  | true => (arOf t rel, arOf t rel, [(rel, upL 0 (arOf t rel).toNat)])
  | false => frm0
noncomputable def atomC (t : Int × List (Int × List (List Int))) (rel : Int) : Int :=
  match tb (tplOk t), inB rel 0 ((t.2.length : Int) - 1) with
  | false, _ => 1
  | true, false => 2
  | true, true => 0
section
variable {t : Int × List (Int × List (List Int))} {rel : Int}
theorem atom_1 (h : tb (tplOk t) = false) : atomV t rel = frm0 ∧ atomC t rel = 1 := by simp [atomV, atomC, h]
theorem atom_2 (h : tb (tplOk t) = true) (h2 : inB rel 0 ((t.2.length : Int) - 1) = false) : atomV t rel = frm0 ∧ atomC t rel = 2 := by simp [atomV, atomC, h, h2]
theorem atom_0 (h : tb (tplOk t) = true) (h2 : inB rel 0 ((t.2.length : Int) - 1) = true) : atomV t rel = (arOf t rel, arOf t rel, [(rel, upL 0 (arOf t rel).toNat)]) ∧ atomC t rel = 0 := by simp [atomV, atomC, h, h2]
theorem arOf_bd (h : tplOk t) (h2 : inB rel 0 ((t.2.length : Int) - 1) = true) : 0 ≤ arOf t rel ∧ arOf t rel ≤ 4 := by
  have h3 := inB_true.1 h2
  obtain ⟨k, rfl⟩ : ∃ k : Nat, rel = k := ⟨rel.toNat, by omega⟩
  have hk : k < t.2.length := by omega
  rw [arOf_nat hk]
  have := (h.2.2 _ (List.getElem_mem hk)).2.1
  unfold sizeOk at this
  omega
theorem atom_cnt : cntFrm (atomV t rel) ≤ 1000000 := by
  unfold atomV
  cases h : tb (tplOk t) && inB rel 0 ((t.2.length : Int) - 1)
  · simp [frm0, cntFrm, cntOps, sumL]
  · rw [Bool.and_eq_true] at h
    have := arOf_bd (tb_iff.1 h.1) h.2
    simp only [cntFrm, cntOps, sumL, cntOp1, cntI, upL_len]
    omega
end
end Go.Proofs.YtbpjejhjlmpcjaaGreat
