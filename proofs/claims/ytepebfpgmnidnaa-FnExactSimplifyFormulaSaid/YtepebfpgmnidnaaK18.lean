/-
  Contracts: placing a formula: the program's.
-/
import Derived.Test.YtepebfpgmnidnaaK17
namespace Go.Proofs.Ytepebfpgmnidnaa
open Go.RowKit Go.Sort
def placeTo (ff free : Int) (places : List Int) (v : Int) : Int := match decide (v < ff) with
  | true => places.getD v.toNat 0
  | false => v - ff + free
theorem placeTo_lt {ff free : Int} {places : List Int} {v : Int} (h : v < ff) : placeTo ff free places v = places.getD v.toNat 0 := by simp [placeTo, h]
theorem placeTo_ge {ff free : Int} {places : List Int} {v : Int} (h : ff ≤ v) : placeTo ff free places v = v - ff + free := by
  have : ¬ v < ff := by omega
  simp [placeTo, this]
def placeF (f : Int × Int × List (Int × List Int)) (free : Int) (places : List Int) : Int × Int × List (Int × List Int) := (free, free + f.2.1 - f.1, rnL (placeTo f.1 free places) f.2.2)
section
variable (t : Int × List (Int × List (List Int))) (f : Int × Int × List (Int × List Int)) (free : Int) (places : List Int)
noncomputable def placeC : Int := match tb (frmOk t f), inB free 1 4, tb (rowOk free f.1 places) with
  | false, _, _ => 1
  | true, false, _ => 2
  | true, true, false => 2
  | true, true, true => limC (placeF f free places)
noncomputable def placeV : Int × Int × List (Int × List Int) := match tb (frmOk t f), inB free 1 4, tb (rowOk free f.1 places) with
  | true, true, true => limV (placeF f free places)
  | _, _, _ => frm0
end
section
variable {t : Int × List (Int × List (List Int))} {f : Int × Int × List (Int × List Int)} {free : Int} {places : List Int}
theorem place_1 (h : tb (frmOk t f) = false) : placeV t f free places = frm0 ∧ placeC t f free places = 1 := by simp [placeV, placeC, h]
theorem place_2 (h : tb (frmOk t f) = true) (h2 : inB free 1 4 = false) : placeV t f free places = frm0 ∧ placeC t f free places = 2 := by simp [placeV, placeC, h, h2]
theorem place_3 (h : tb (frmOk t f) = true) (h2 : inB free 1 4 = true) (h3 : tb (rowOk free f.1 places) = false) : placeV t f free places = frm0 ∧ placeC t f free places = 2 := by simp [placeV, placeC, h, h2, h3]
theorem place_0 (h : tb (frmOk t f) = true) (h2 : inB free 1 4 = true) (h3 : tb (rowOk free f.1 places) = true) : placeV t f free places = limV (placeF f free places) ∧ placeC t f free places = limC (placeF f free places) := by simp [placeV, placeC, h, h2, h3]
theorem cnt_frm0 : cntFrm frm0 = 0 := by simp [frm0, cntFrm, cntOps, sumL]
theorem place_cnt : cntFrm (placeV t f free places) ≤ 1000000 := by
  cases h1 : tb (frmOk t f)
  · rw [(place_1 h1).1, cnt_frm0]; omega
  cases h2 : inB free 1 4
  · rw [(place_2 h1 h2).1, cnt_frm0]; omega
  cases h3 : tb (rowOk free f.1 places)
  · rw [(place_3 h1 h2 h3).1, cnt_frm0]; omega
  · rw [(place_0 h1 h2 h3).1]
    obtain ⟨_, _, _, h4, h5⟩ := frm_bd h1
    have := cntOps_bd (xs := f.2.2) fun a ha => (h5 a ha).2
    by_cases hl : (placeF f free places).2.1 ≤ 8 ∧ (placeF f free places).2.2.length ≤ 16
    · rw [(lim_yes hl).1]
      simp only [placeF, cntFrm, rnL_cnt]
      omega
    · rw [(lim_no hl).1, cnt_frm0]; omega
theorem placeTo_I (h : rowOk free f.1 places) (h1 : inB free 1 4 = true) (h2 : 1 ≤ f.1 ∧ f.1 ≤ f.2.1 ∧ f.2.1 ≤ 8) {v : Int} (hv : 0 ≤ v ∧ v < f.2.1) : I64 (placeTo f.1 free places v) := by
  have h3 := inB_true.1 h1
  rcases ilt v f.1 with h4 | h4
  · rw [placeTo_lt h4]
    have h5 : v.toNat < places.length := by have := h.1; omega
    rw [List.getD_eq_getElem?_getD, List.getElem?_eq_getElem h5]
    have := h.2 _ (List.getElem_mem h5)
    exact I64.small (by simp; omega) (by simp; omega)
  · rw [placeTo_ge h4]; exact I64.small (by omega) (by omega)
end
end Go.Proofs.Ytepebfpgmnidnaa
