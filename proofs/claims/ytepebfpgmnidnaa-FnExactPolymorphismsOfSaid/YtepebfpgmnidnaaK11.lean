/-
  Contracts: counting lists, formulas of one atom; results that lie in new memory.
-/
import Derived.Test.YtepebfpgmnidnaaK10
import Derived.Test.YtepebfpgmnidnaaMark
namespace Go.Proofs.Ytepebfpgmnidnaa
open Go.RowKit Go.Sort

/-- a struct in new memory, and a code -/
def RetAC {α : Type} (E : Ty α) (w : World) (x : α) (c : Int) (e : Ending) (w' : World) : Prop := ∃ cs : List Value, e = .returned (.tuple #[.agg cs.toArray, .int .i64 c]) ∧ E.Fr w.heap.size w' cs x ∧ Below w.heap.size w w'
/-- a slice in new memory, and a code -/
def RetSC {α : Type} (E : Ty α) (w : World) (x : α) (c : Int) (e : Ending) (w' : World) : Prop := ∃ u, e = .returned (.tuple #[u, .int .i64 c]) ∧ E.Fr w.heap.size w' [u] x ∧ Below w.heap.size w w'
def frm0 : Int × Int × List (Int × List Int) := (0, 0, [])
theorem fr_frm0 {base : Nat} {w : World} : frmT.Fr base w [.int .i64 0, .int .i64 0, .slice none 0 0] frm0 := fr_cons (I64.small (by omega) (by omega)) (fr_cons (I64.small (by omega) (by omega)) fr_nil)
def upL (from0 : Int) (n : Nat) : List Int := (List.range n).map fun i : Nat => from0 + (i : Int)
theorem upL_len {a : Int} {n : Nat} : (upL a n).length = n := by simp [upL]
theorem upL_succ (a : Int) (n : Nat) : upL a n ++ [a + (n : Int)] = upL a (n + 1) := by simp [upL, List.range_succ]
theorem upL_zero (a : Int) : upL a 0 = [] := rfl
set_option maxHeartbeats 1600000 in
set_option maxRecDepth 100000 in
theorem upTo_any (w : World) (from0 many : Int) (h0 : 0 ≤ from0) (h1 : from0 ≤ 1000000) (h2 : many ≤ 1000000) :
    Calls Try.prog 146 #[.int .i64 from0, .int .i64 many] w (RetS intsT w (upL from0 many.toNat)) := by
  go_enter Try.func146, Try.ntmps146
  go_wp2_with fail
  go_loopw [9, 5] (fun i o wr => ∃ k : Nat, k ≤ many.toNat ∧ i = .int .i64 k ∧ Bl Ty.int 2 w.heap.size wr.heap.size wr o (upL from0 k) ∧ Below w.heap.size w wr) (fun i _ _ => many.toNat - (intOf i).toNat)
  case atStart => exact ⟨0, Nat.zero_le _, rfl, by simpa [upL] using Bl.lit0 (E := Ty.int) (e := 2) (w := w) (Nat.le_refl _), bA⟩
  case round =>
    obtain ⟨k, hk, rfl, hBl, hbel⟩ := hrel
    have HB := Lib.hid hBl
    clear hBl
    by_cases hkl : (k : Int) < many
    · have hI : I64 (from0 + (k : Int)) := I64.small (by omega) (by omega)
      go_wp2_with (refine wpList_push (E := Ty.int) _ rfl _ _ 62 2 rfl elInt rfl (HB.out.below bA (Nat.le_refl _)) rfl news1 (fr_int hI) (by rw [upL_len]; omega) (by decide) hbel.size (by simp) ?_; intro v1 w1 hB1 hg1 _)
      have hbel1 : Below w.heap.size w w1 := (hbel.alloc hbel.size _).grown hg1 (by have := hbel.size; simp; omega) (fun k hk => HB.out.own hk)
      rw [upL_succ] at hB1
      have HB1 := Lib.hid hB1
      clear hB1
      go_wp2_with fail
      go_roundw
      case rel => exact ⟨k + 1, by omega, by go_num, HB1.out, hbel1⟩
      case measure => simp [intOf]; omega
    · obtain rfl : k = many.toNat := by omega
      go_wp2_with fail
      go_ret
      exact ⟨_, rfl, HB.out.fr (by rw [upL_len]; unfold capMax; omega), hbel⟩
set_option maxHeartbeats 1600000 in
set_option maxRecDepth 100000 in
theorem l03Count_bl (w : World) (many : Int) (h2 : many ≤ 1000000) :
    Calls Try.prog 127 #[.int .i64 many] w fun e w' => ∃ u, e = .returned u ∧ Bl Ty.int 2 w.heap.size w'.heap.size w' u (upL 0 many.toNat) ∧ Below w.heap.size w w' := by
  go_enter Try.func127, Try.ntmps127
  go_wp2_with fail
  go_loopw [4, 3] (fun i o wr => ∃ k : Nat, k ≤ many.toNat ∧ i = .int .i64 k ∧ Bl Ty.int 2 w.heap.size wr.heap.size wr o (upL 0 k) ∧ Below w.heap.size w wr) (fun i _ _ => many.toNat - (intOf i).toNat)
  case atStart => exact ⟨0, Nat.zero_le _, rfl, by simpa [upL] using Bl.lit0 (E := Ty.int) (e := 2) (w := w) (Nat.le_refl _), bA⟩
  case round =>
    obtain ⟨k, hk, rfl, hBl, hbel⟩ := hrel
    have HB := Lib.hid hBl
    clear hBl
    by_cases hkl : (k : Int) < many
    · have hI : I64 (k : Int) := I64.small (by omega) (by omega)
      go_wp2_with (refine wpList_push (E := Ty.int) _ rfl _ _ 62 2 rfl elInt rfl (HB.out.below bA (Nat.le_refl _)) rfl news1 (fr_int hI) (by rw [upL_len]; omega) (by decide) hbel.size (by simp) ?_; intro v1 w1 hB1 hg1 _)
      have hbel1 : Below w.heap.size w w1 := (hbel.alloc hbel.size _).grown hg1 (by have := hbel.size; simp; omega) (fun k hk => HB.out.own hk)
      have hup := upL_succ 0 k
      rw [Int.zero_add] at hup
      rw [hup] at hB1
      have HB1 := Lib.hid hB1
      clear hB1
      go_wp2_with fail
      go_roundw
      case rel => exact ⟨k + 1, by omega, by go_num, HB1.out, hbel1⟩
      case measure => simp [intOf]; omega
    · obtain rfl : k = many.toNat := by omega
      go_wp2_with fail
      go_ret
      exact ⟨_, rfl, HB.out, hbel⟩
theorem l03Count_any (w : World) (many : Int) (h2 : many ≤ 1000000) :
    Calls Try.prog 127 #[.int .i64 many] w (RetS intsT w (upL 0 many.toNat)) :=
  (l03Count_bl w many h2).mono fun _ _ ⟨u, he, hB, hb⟩ => ⟨u, he, hB.fr (by rw [upL_len]; unfold capMax; omega), hb⟩
/-- a slice of one pair, just made -/
theorem fr_one {α : Type} {E : Ty α} {base : Nat} {w : World} {n : Int} {u : Value} {x : List α} {T : TypeId} {g : Nat} (hI : I64 n) (h : (Ty.slice E).Fr base w [u] x) (hg : w.heap.size = g) (hb : base ≤ g) :
    (Ty.slice (Ty.cons (Ty.slice E))).Fr base (w.alloc (.cells #[.int .i64 n, u] T)) [.slice (some ⟨g, 0, none⟩) 1 1] [(n, x)] := by
  subst hg
  obtain ⟨fp, h1, h2, h3, h4⟩ := h
  have hs : Same fp w (w.alloc (.cells #[.int .i64 n, u] T)) := Same.below bA ((Ty.slice E).lt h1)
  have hlt := (Ty.slice E).lt h1
  refine ⟨w.heap.size :: fp, ⟨some ⟨w.heap.size, 0, none⟩, 1, rfl, Nat.le_refl _, by simp [capMax], .inr ⟨by simp, w.heap.size, 0, fun _ => fp, rfl, by simp, by simp, fun i hi => ?_⟩⟩, ?_, ?_, ?_⟩
  · obtain rfl : i = 0 := by simpa using hi
    refine ⟨[.int .i64 n, u], ⟨[u], rfl, hI, (Ty.slice E).same h1 hs⟩, fun j hj => ?_⟩
    rcases (show j = 0 ∨ j = 1 by simp at hj; omega) with rfl | rfl <;> simp
  · exact List.nodup_cons.2 ⟨fun hm => by have := hlt _ hm; omega, h2⟩
  · intro b hb'
    rcases List.mem_cons.1 hb' with rfl | hb'
    · exact hb
    · exact h3 b hb'
  · intro b hb' o
    rcases List.mem_cons.1 hb' with rfl | hb'
    · unfold World.frozen?; rw [heap_alloc_new]; simp
    · exact h4.same hs b hb' o
/-- a result of three cells, stored -/
abbrev set3 (w : World) (b : Nat) (x y z : Value) : World := ((w.setCell ⟨b, 0, none⟩ x).setCell ⟨b, 1, none⟩ y).setCell ⟨b, 2, none⟩ z
theorem set3_cells {w : World} {b : Nat} {x y z x' y' z' : Value} (h0 : w.cell? ⟨b, 0, none⟩ = some x') (h1 : w.cell? ⟨b, 1, none⟩ = some y') (h2 : w.cell? ⟨b, 2, none⟩ = some z') :
    (set3 w b x y z).cell? ⟨b, 0, none⟩ = some x ∧ (set3 w b x y z).cell? ⟨b, 1, none⟩ = some y ∧ (set3 w b x y z).cell? ⟨b, 2, none⟩ = some z := by
  have e1 : (w.setCell ⟨b, 0, none⟩ x).cell? ⟨b, 1, none⟩ = some y' := (World.cell?_setCell_other _ _ _ _ (by simp)).trans h1
  have e2 : ((w.setCell ⟨b, 0, none⟩ x).setCell ⟨b, 1, none⟩ y).cell? ⟨b, 2, none⟩ = some z' := (World.cell?_setCell_other _ _ _ _ (by simp)).trans ((World.cell?_setCell_other _ _ _ _ (by simp)).trans h2)
  exact ⟨(World.cell?_setCell_other _ _ _ _ (by simp)).trans ((World.cell?_setCell_other _ _ _ _ (by simp)).trans (World.cell?_setCell_same _ _ _ h0)), (World.cell?_setCell_other _ _ _ _ (by simp)).trans (World.cell?_setCell_same _ _ _ e1), World.cell?_setCell_same _ _ _ e2⟩
theorem set3_alloc {w : World} {b : Nat} {x y z x' y' z' : Value} {o : Obj} (h0 : w.cell? ⟨b, 0, none⟩ = some x') (h1 : w.cell? ⟨b, 1, none⟩ = some y') (h2 : w.cell? ⟨b, 2, none⟩ = some z') :
    ((set3 w b x y z).alloc o).cell? ⟨b, 0, none⟩ = some x ∧ ((set3 w b x y z).alloc o).cell? ⟨b, 1, none⟩ = some y ∧ ((set3 w b x y z).alloc o).cell? ⟨b, 2, none⟩ = some z := by
  obtain ⟨g0, g1, g2⟩ := set3_cells (x := x) (y := y) (z := z) h0 h1 h2
  have hb := cell_lt g0
  exact ⟨(World.cell?_alloc_lt _ _ _ hb).trans g0, (World.cell?_alloc_lt _ _ _ hb).trans g1, (World.cell?_alloc_lt _ _ _ hb).trans g2⟩
theorem Ty.Fr.set3 {α : Type} {E : Ty α} {base : Nat} {w : World} {cs : List Value} {v : α} {b : Nat} {x y z : Value} (h : E.Fr base w cs v) (hb : b < base) : E.Fr base (set3 w b x y z) cs v := ((h.set hb).set hb).set hb
theorem set3_size {w : World} {b : Nat} {x y z : Value} : (set3 w b x y z).heap.size = w.heap.size := by simp [World.setCell]
theorem set3_below {B : Nat} {a w : World} {b : Nat} {x y z : Value} (h : Below B a w) (hb : B ≤ b) : Below B a (set3 w b x y z) := ((h.setCell hb _).setCell hb _).setCell hb _

noncomputable def atomV (t : Int × List (Int × List (List Int))) (rel : Int) : Int × Int × List (Int × List Int) :=
  match tb (tplOk t) && inB rel 0 ((t.2.length : Int) - 1) with
  | true => (arOf t rel, arOf t rel, [(rel, upL 0 (arOf t rel).toNat)])
  | false => frm0
noncomputable def atomC (t : Int × List (Int × List (List Int))) (rel : Int) : Int :=
  match tb (tplOk t), inB rel 0 ((t.2.length : Int) - 1) with
  | false, _ => 1
  | true, false => 2
  | true, true => 0
section
variable {t : Int × List (Int × List (List Int))} {rel : Int}
theorem atom_1 (h : tb (tplOk t) = false) : atomV t rel = frm0 ∧ atomC t rel = 1 := by simp [atomV, atomC, h]
theorem atom_2 (h : tb (tplOk t) = true) (h2 : inB rel 0 ((t.2.length : Int) - 1) = false) : atomV t rel = frm0 ∧ atomC t rel = 2 := by simp [atomV, atomC, h, h2]
theorem atom_0 (h : tb (tplOk t) = true) (h2 : inB rel 0 ((t.2.length : Int) - 1) = true) : atomV t rel = (arOf t rel, arOf t rel, [(rel, upL 0 (arOf t rel).toNat)]) ∧ atomC t rel = 0 := by simp [atomV, atomC, h, h2]
theorem arOf_bd (h : tplOk t) (h2 : inB rel 0 ((t.2.length : Int) - 1) = true) : 0 ≤ arOf t rel ∧ arOf t rel ≤ 4 := by
  have h3 := inB_true.1 h2
  obtain ⟨k, rfl⟩ : ∃ k : Nat, rel = k := ⟨rel.toNat, by omega⟩
  have hk : k < t.2.length := by omega
  rw [arOf_nat hk]
  have := (h.2.2 _ (List.getElem_mem hk)).2.1
  unfold sizeOk at this
  omega
theorem atom_cnt : cntFrm (atomV t rel) ≤ 1000000 := by
  unfold atomV
  cases h : tb (tplOk t) && inB rel 0 ((t.2.length : Int) - 1)
  · simp [frm0, cntFrm, cntOps, sumL]
  · rw [Bool.and_eq_true] at h
    have := arOf_bd (tb_iff.1 h.1) h.2
    simp only [cntFrm, cntOps, sumL, cntOp1, cntI, upL_len]
    omega
end
end Go.Proofs.Ytepebfpgmnidnaa
