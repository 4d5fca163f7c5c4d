/-
  Contracts: hiding a variable of a formula: the reference's.
-/
import Derived.Test.YtepebfpgmnidnaaK13
namespace Go.Proofs.Ytepebfpgmnidnaa
open Go.RowKit Go.Sort
/-- variables renamed by a function -/
def rnL (g : Int → Int) (xs : List (Int × List Int)) : List (Int × List Int) := xs.map fun a => (a.1, a.2.map g)
def toL (g : Int → Int) (n : Nat) : List Int := (List.range n).map fun i : Nat => g (i : Int)
theorem toL_len {g : Int → Int} {n : Nat} : (toL g n).length = n := by simp [toL]
theorem toL_succ (g : Int → Int) (n : Nat) : toL g n ++ [g (n : Int)] = toL g (n + 1) := by simp [toL, List.range_succ]
theorem atL_toL {g : Int → Int} {n : Nat} {ps : List Int} (h : ∀ p ∈ ps, 0 ≤ p ∧ p < (n : Int)) : atL (toL g n) ps = ps.map g := by
  unfold atL
  apply List.map_congr_left
  intro p hp
  obtain ⟨h1, h2⟩ := h p hp
  have h3 : p.toNat < n := by omega
  rw [List.getD_eq_getElem?_getD, List.getElem?_eq_getElem (by rw [toL_len]; exact h3)]
  simp only [toL, List.getElem_map, List.getElem_range, Option.getD_some]
  congr 1
  omega
theorem movedL_toL {g : Int → Int} {n : Nat} {xs : List (Int × List Int)} (h : ∀ a ∈ xs, ∀ p ∈ a.2, 0 ≤ p ∧ p < (n : Int)) : movedL (toL g n) xs = rnL g xs := by
  unfold movedL rnL
  apply List.map_congr_left
  intro a ha
  rw [atL_toL (h a ha)]
theorem rnL_cnt {g : Int → Int} (xs : List (Int × List Int)) : cntOps (rnL g xs) = cntOps xs := by
  induction xs with
  | nil => rfl
  | cons a r ih =>
    have h1 : cntOps (rnL g (a :: r)) = cntOp1 (a.1, a.2.map g) + cntOps (rnL g r) := rfl
    have h2 : cntOps (a :: r) = cntOp1 a + cntOps r := rfl
    rw [h1, h2, ih]
    simp [cntOp1, cntI]
def hideTo (vars var v : Int) : Int := match decide (v = var), decide (var < v) with
  | true, _ => vars - 1
  | false, true => v - 1
  | false, false => v
theorem hideTo_eq {vars var v : Int} (h : v = var) : hideTo vars var v = vars - 1 := by simp [hideTo, h]
theorem hideTo_gt {vars var v : Int} (h : var < v) : hideTo vars var v = v - 1 := by
  have : ¬ v = var := by omega
  simp [hideTo, h, this]
theorem hideTo_lt {vars var v : Int} (h : v < var) : hideTo vars var v = v := by
  have h1 : ¬ v = var := by omega
  have h2 : ¬ var < v := by omega
  simp [hideTo, h1, h2]
theorem hideTo_I {vars var v : Int} (h : 0 ≤ v ∧ v ≤ 1000) (h2 : 0 ≤ vars ∧ vars ≤ 1000) : I64 (hideTo vars var v) := by
  rcases Int.lt_trichotomy v var with h3 | h3 | h3
  · rw [hideTo_lt h3]; exact I64.small (by omega) (by omega)
  · rw [hideTo_eq h3]; exact I64.small (by omega) (by omega)
  · rw [hideTo_gt h3]; exact I64.small (by omega) (by omega)
section
variable (t : Int × List (Int × List (List Int))) (f : Int × Int × List (Int × List Int)) (v : Int)
noncomputable def hideC : Int := match tb (frmOk t f), inB v 0 (f.1 - 1), (f.1 == 1) with
  | false, _, _ => 1
  | true, false, _ => 2
  | true, true, true => 4
  | true, true, false => 0
noncomputable def hideV : Int × Int × List (Int × List Int) := match tb (frmOk t f), inB v 0 (f.1 - 1), (f.1 == 1) with
  | true, true, false => (f.1 - 1, f.2.1, rnL (hideTo f.2.1 v) f.2.2)
  | _, _, _ => frm0
end
section
variable {t : Int × List (Int × List (List Int))} {f : Int × Int × List (Int × List Int)} {v : Int}
theorem hide_1 (h : tb (frmOk t f) = false) : hideV t f v = frm0 ∧ hideC t f v = 1 := by simp [hideV, hideC, h]
theorem hide_2 (h : tb (frmOk t f) = true) (h2 : inB v 0 (f.1 - 1) = false) : hideV t f v = frm0 ∧ hideC t f v = 2 := by simp [hideV, hideC, h, h2]
theorem hide_4 (h : tb (frmOk t f) = true) (h2 : inB v 0 (f.1 - 1) = true) (h3 : (f.1 == 1) = true) : hideV t f v = frm0 ∧ hideC t f v = 4 := by simp [hideV, hideC, h, h2, h3]
theorem hide_0 (h : tb (frmOk t f) = true) (h2 : inB v 0 (f.1 - 1) = true) (h3 : (f.1 == 1) = false) : hideV t f v = (f.1 - 1, f.2.1, rnL (hideTo f.2.1 v) f.2.2) ∧ hideC t f v = 0 := by simp [hideV, hideC, h, h2, h3]
theorem arOf_le (h : tplOk t) (rel : Int) : 0 ≤ arOf t rel ∧ arOf t rel ≤ 4 := by
  by_cases h1 : rel = -1
  · subst h1; rw [arOf_eq]; omega
  · cases h2 : inB rel 0 ((t.2.length : Int) - 1)
    · rw [arOf_no h1 h2]; omega
    · exact arOf_bd h h2
theorem frm_bd (h : tb (frmOk t f) = true) : 1 ≤ f.1 ∧ f.1 ≤ f.2.1 ∧ f.2.1 ≤ 8 ∧ f.2.2.length ≤ 16 ∧ ∀ a ∈ f.2.2, (∀ p ∈ a.2, 0 ≤ p ∧ p < f.2.1) ∧ a.2.length ≤ 4 := by
  have h := tb_iff.1 h
  obtain ⟨h1, ⟨h2, h3, h4⟩, h5⟩ := h
  refine ⟨by omega, by omega, by omega, h4, fun a ha => ?_⟩
  obtain ⟨_, h6, h7⟩ := h5 a ha
  have h8 := arOf_le h1 a.1
  refine ⟨fun p hp => ?_, by omega⟩
  have := h7 p hp
  omega
theorem cntOps_bd : ∀ {xs : List (Int × List Int)}, (∀ a ∈ xs, a.2.length ≤ 4) → cntOps xs ≤ 5 * xs.length
  | [], _ => by simp [cntOps, sumL]
  | a :: r, h => by
    have h1 := h a (List.mem_cons_self ..)
    have h2 := cntOps_bd (xs := r) fun b hb => h b (List.mem_cons_of_mem _ hb)
    have h3 : cntOps (a :: r) = cntOp1 a + cntOps r := rfl
    rw [h3, List.length_cons]
    simp only [cntOp1, cntI]
    omega
theorem hide_cnt : cntFrm (hideV t f v) ≤ 1000000 := by
  cases h1 : tb (frmOk t f)
  · rw [(hide_1 h1).1]; simp [frm0, cntFrm, cntOps, sumL]
  cases h2 : inB v 0 (f.1 - 1)
  · rw [(hide_2 h1 h2).1]; simp [frm0, cntFrm, cntOps, sumL]
  cases h3 : (f.1 == 1)
  · rw [(hide_0 h1 h2 h3).1]
    obtain ⟨_, _, _, h4, h5⟩ := frm_bd h1
    have := cntOps_bd (xs := f.2.2) fun a ha => (h5 a ha).2
    simp only [cntFrm, rnL_cnt]
    omega
  · rw [(hide_4 h1 h2 h3).1]; simp [frm0, cntFrm, cntOps, sumL]
end
theorem wrap_small {n : Int} (h0 : -1000000000000000000 ≤ n) (h1 : n ≤ 1000000000000000000) : IntKind.i64.wrap n = n := by
  simp [IntKind.wrap, IntKind.signed, IntKind.bits]
  omega
end Go.Proofs.Ytepebfpgmnidnaa
