/-
  Contracts: the conjunction of two formulas.
-/
import Derived.Test.YtepebfpgmnidnaaK33
import Derived.Test.YtepebfpgmnidnaaApp
namespace Go.Proofs.Ytepebfpgmnidnaa
open Go.RowKit Go.Sort
noncomputable def twoC (t : Int × List (Int × List (List Int))) (f g : Int × Int × List (Int × List Int)) : Int := match tb (frmOk t f), tb (frmOk t g), (f.1 != g.1) with
  | false, _, _ => 1
  | true, false, _ => 1
  | true, true, true => 4
  | true, true, false => 0
section
variable {t : Int × List (Int × List (List Int))} {f g : Int × Int × List (Int × List Int)}
theorem two_1 (h : tb (frmOk t f) = false) : twoC t f g = 1 := by simp [twoC, h]
theorem two_2 (h : tb (frmOk t f) = true) (h2 : tb (frmOk t g) = false) : twoC t f g = 1 := by simp [twoC, h, h2]
theorem two_4 (h : tb (frmOk t f) = true) (h2 : tb (frmOk t g) = true) (h3 : (f.1 != g.1) = true) : twoC t f g = 4 := by simp only [twoC, h, h2, h3]
theorem two_0 (h : tb (frmOk t f) = true) (h2 : tb (frmOk t g) = true) (h3 : (f.1 != g.1) = false) : twoC t f g = 0 := by simp only [twoC, h, h2, h3]
theorem two_ok (h : twoC t f g = 0) : tb (frmOk t f) = true ∧ tb (frmOk t g) = true ∧ f.1 = g.1 := by
  cases h1 : tb (frmOk t f)
  · rw [two_1 h1] at h; cases h
  cases h2 : tb (frmOk t g)
  · rw [two_2 h1 h2] at h; cases h
  cases h3 : (f.1 != g.1)
  · exact ⟨rfl, rfl, by simpa using h3⟩
  · rw [two_4 h1 h2 h3] at h; cases h
end
def conjTo (f g : Int × Int × List (Int × List Int)) (v : Int) : Int := match decide (g.1 ≤ v) with
  | true => v + (f.2.1 - f.1)
  | false => v
theorem conj_ge {f g : Int × Int × List (Int × List Int)} {v : Int} (h : g.1 ≤ v) : conjTo f g v = v + (f.2.1 - f.1) := by simp [conjTo, h]
theorem conj_lt {f g : Int × Int × List (Int × List Int)} {v : Int} (h : v < g.1) : conjTo f g v = v := by
  have : ¬ g.1 ≤ v := by omega
  simp [conjTo, this]
theorem conj_I {f g : Int × Int × List (Int × List Int)} {v : Int} (h : 0 ≤ v ∧ v ≤ 1000) (h2 : 0 ≤ f.1 ∧ f.1 ≤ 1000) (h3 : 0 ≤ f.2.1 ∧ f.2.1 ≤ 1000) : I64 (conjTo f g v) := by
  rcases ilt v g.1 with h4 | h4
  · rw [conj_lt h4]; exact I64.small (by omega) (by omega)
  · rw [conj_ge h4]; exact I64.small (by omega) (by omega)
def conjF (f g : Int × Int × List (Int × List Int)) : Int × Int × List (Int × List Int) := (f.1, f.2.1 + g.2.1 - g.1, f.2.2 ++ rnL (conjTo f g) g.2.2)
theorem rnL_id (xs : List (Int × List Int)) : rnL (fun v => v) xs = xs := by
  unfold rnL
  exact (List.map_congr_left (g := id) fun a _ => by simp).trans (List.map_id xs)
theorem toL_id (n : Nat) : toL (fun v => v) n = upL 0 n := by simp [toL, upL]
section
variable (t : Int × List (Int × List (List Int))) (f g : Int × Int × List (Int × List Int))
noncomputable def conjV : Int × Int × List (Int × List Int) := if twoC t f g = 0 then limV (conjF f g) else frm0
noncomputable def conjC : Int := if twoC t f g = 0 then limC (conjF f g) else twoC t f g
end
section
variable {t : Int × List (Int × List (List Int))} {f g : Int × Int × List (Int × List Int)}
theorem conj_no (h : twoC t f g ≠ 0) : conjV t f g = frm0 ∧ conjC t f g = twoC t f g := by simp [conjV, conjC, h]
theorem conj_yes (h : twoC t f g = 0) : conjV t f g = limV (conjF f g) ∧ conjC t f g = limC (conjF f g) := by simp [conjV, conjC, h]
theorem cntOps_app (a b : List (Int × List Int)) : cntOps (a ++ b) = cntOps a + cntOps b := sumL_append _ _ _
theorem conj_cnt : cntFrm (conjV t f g) ≤ 1000000 := by
  by_cases h : twoC t f g = 0
  · rw [(conj_yes h).1]
    obtain ⟨h1, h2, h3⟩ := two_ok h
    obtain ⟨_, _, _, h4, h5⟩ := frm_bd h1
    obtain ⟨_, _, _, h6, h7⟩ := frm_bd h2
    have e1 := cntOps_bd (xs := f.2.2) fun a ha => (h5 a ha).2
    have e2 := cntOps_bd (xs := g.2.2) fun a ha => (h7 a ha).2
    by_cases hl : (conjF f g).2.1 ≤ 8 ∧ (conjF f g).2.2.length ≤ 16
    · rw [(lim_yes hl).1]
      simp only [conjF, cntFrm, cntOps_app, rnL_cnt]
      omega
    · rw [(lim_no hl).1, cnt_frm0]; omega
  · rw [(conj_no h).1, cnt_frm0]; omega
end
theorem same_any (w : World) (a : Int) : Calls Try.prog 139 #[.int .i64 a] w fun e w' => e = .returned (.int .i64 a) ∧ w = w' := by
  go_enter Try.func139, Try.ntmps139
  go_wp2_with fail
  go_ret
  exact ⟨rfl, rfl⟩
end Go.Proofs.Ytepebfpgmnidnaa
