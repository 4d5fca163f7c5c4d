/-
  Contracts: the conjunction of two formulas.
-/
import Derived.Test.YtbpjejhjlmpcjaaGreatK33
import Derived.Test.YtbpjejhjlmpcjaaGreatApp
namespace Go.Proofs.YtbpjejhjlmpcjaaGreat
open Go.RowKit Go.Sort
noncomputable def twoC (t : Int × List (Int × List (List Int))) (f g : Int × Int × List (Int × List Int)) : Int := match tb (frmOk t f), tb (frmOk t g), (f.1 != g.1) with
  | false, _, _ => 1
  | true, false, _ => 1
  | true, true, true => 4
  | true, true, false => 0
section
variable {t : Int × List (Int × List (List Int))} {f g : Int × Int × List (Int × List Int)}
theorem two_1 (h : tb (frmOk t f) = false) : twoC t f g = 1 := by simp [twoC, h]
theorem two_2 (h : tb (frmOk t f) = true) (h2 : tb (frmOk t g) = false) : twoC t f g = 1 := by simp [twoC, h, h2]
theorem two_4 (h : tb (frmOk t f) = true) (h2 : tb (frmOk t g) = true) (h3 : (f.1 != g.1) = true) : twoC t f g = 4 := by simp only [twoC, h, h2, h3]
theorem two_0 (h : tb (frmOk t f) = true) (h2 : tb (frmOk t g) = true) (h3 : (f.1 != g.1) = false) : twoC t f g = 0 := by simp only [twoC, h, h2, h3]
theorem two_ok (h : twoC t f g = 0) : tb (frmOk t f) = true ∧ tb (frmOk t g) = true ∧ f.1 = g.1 := by
  cases h1 : tb (frmOk t f)
  · rw [two_1 h1] at h; cases h
  cases h2 : tb (frmOk t g)
  · rw [two_2 h1 h2] at h; cases h
  cases h3 : (f.1 != g.1)
  · exact ⟨rfl, rfl, by simpa using h3⟩
  · rw [two_4 h1 h2 h3] at h; cases h
end
set_option maxHeartbeats 1600000 in
set_option maxRecDepth 100000 in
theorem twoFault_any (w : World) {cs cf cg : Array Value} {t : Int × List (Int × List (List Int))} {f g : Int × Int × List (Int × List Int)} (h : tplT.Rd w cs.toList t) (hf : frmT.Rd w cf.toList f) (hg : frmT.Rd w cg.toList g) :
    Calls Tryz.prog 46 #[.agg cs, .agg cf, .agg cg] w fun e w' => e = .returned (.int .i64 (twoC t f g)) ∧ Below w.heap.size w w' := by
  have HT0 := Lib.hid h
  have HF0 := Lib.hid hf
  have HG0 := Lib.hid hg
  obtain ⟨v1, hv, hI, -⟩ := pair_ex h
  obtain rfl := agg_of hv
  obtain ⟨v2, hv2, -, -, -⟩ := trip_ex hf
  obtain rfl := agg_of hv2
  obtain ⟨v3, hv3, -, -, -⟩ := trip_ex hg
  obtain rfl := agg_of hv3
  clear h hf hg hv hv2 hv3
  go_enter Tryz.func46, Tryz.ntmps46
  go_wp2_with fail
  generalize hW : World.alloc _ _ = W
  have hbW : Below w.heap.size w W := hW ▸ ((bAA (w := w)).alloc (by simp; omega) _)
  have hsW : W.heap.size = w.heap.size + 3 := by rw [← hW]; simp
  have t0 : W.cell? ⟨w.heap.size, 0, none⟩ = some (.int .i64 t.1) := by rw [← hW]; simp [go_sem]
  have t1 : W.cell? ⟨w.heap.size, 1, none⟩ = some v1 := by rw [← hW]; simp [go_sem]
  have f0 : W.cell? ⟨w.heap.size + 1, 0, none⟩ = some (.int .i64 f.1) := by rw [← hW]; simp [go_sem]
  have g0 : W.cell? ⟨w.heap.size + 2, 0, none⟩ = some (.int .i64 g.1) := by rw [← hW]; simp [go_sem]
  have g1 : W.cell? ⟨w.heap.size + 2, 1, none⟩ = some (.int .i64 g.2.1) := by rw [← hW]; simp [go_sem]
  have g2 : W.cell? ⟨w.heap.size + 2, 2, none⟩ = some v3 := by rw [← hW]; simp [go_sem]
  clear hW
  refine (ValidFormula_any _ (HT0.out.below hbW) (HF0.out.below hbW)).mono ?_
  rintro e w1 ⟨rfl, hb1⟩
  have hz1 := hb1.size
  have hB1 := bthen hbW hb1
  replace t0 := (cellB hb1 (by omega)).trans t0
  replace t1 := (cellB hb1 (by omega)).trans t1
  replace f0 := (cellB hb1 (by omega)).trans f0
  replace g0 := (cellB hb1 (by omega)).trans g0
  replace g1 := (cellB hb1 (by omega)).trans g1
  replace g2 := (cellB hb1 (by omega)).trans g2
  cases hT : tb (frmOk t f)
  · have HR := Lib.hid (two_1 (g := g) hT)
    clear hT
    go_wp2_with fail
    go_ret
    exact ⟨ret_int HR.out.symm, hB1⟩
  go_wp2_with fail
  refine (ValidFormula_any _ (HT0.out.below hB1) (HG0.out.below hB1)).mono ?_
  rintro e w2 ⟨rfl, hb2⟩
  have hz2 := hb2.size
  have hB2 := bthen hB1 hb2
  replace t0 := (cellB hb2 (by omega)).trans t0
  replace t1 := (cellB hb2 (by omega)).trans t1
  replace f0 := (cellB hb2 (by omega)).trans f0
  replace g0 := (cellB hb2 (by omega)).trans g0
  replace g1 := (cellB hb2 (by omega)).trans g1
  replace g2 := (cellB hb2 (by omega)).trans g2
  cases hT2 : tb (frmOk t g)
  · have HR := Lib.hid (two_2 hT hT2)
    clear hT hT2
    go_wp2_with fail
    go_ret
    exact ⟨ret_int HR.out.symm, hB2⟩
  cases hE : (f.1 != g.1)
  · have HR := Lib.hid (two_0 hT hT2 hE)
    clear hT hT2
    go_wp2_with fail
    go_ret
    exact ⟨ret_int HR.out.symm, hB2⟩
  · have HR := Lib.hid (two_4 hT hT2 hE)
    clear hT hT2
    go_wp2_with fail
    go_ret
    exact ⟨ret_int HR.out.symm, hB2⟩
set_option maxHeartbeats 1600000 in
set_option maxRecDepth 100000 in
theorem l03Two_quiet (w : World) {vt vf vg : Value} {t : Int × List (Int × List (List Int))} {f g : Int × Int × List (Int × List Int)} (h : tplT.Pt w vt t) (hf : frmT.Pt w vf f) (hg : frmT.Pt w vg g) :
    Calls Tryz.prog 42 #[vt, vf, vg] w fun e w' => e = .returned (.int .i64 (twoC t f g)) ∧ Quiet w w' := by
  have HT0 := Lib.hid h
  have HF0 := Lib.hid hf
  have HG0 := Lib.hid hg
  obtain ⟨b, o, _, _, rfl, hb, -, -, -, -⟩ := pt_pair h
  obtain ⟨b2, o2, _, _, rfl, hb2, -, -, f0, -⟩ := pt_trip hf
  obtain ⟨b3, o3, _, _, rfl, hb3, -, -, g0, -⟩ := pt_trip hg
  clear h hf hg
  go_enter Tryz.func42, Tryz.ntmps42
  go_wp2_with fail
  refine (l03Ok_quiet _ HT0.out HF0.out).mono ?_
  rintro e w1 ⟨rfl, hq1⟩
  have hbb1 := hq1.below
  replace f0 := (cellB hbb1 (by omega)).trans f0
  replace g0 := (cellB hbb1 (by omega)).trans g0
  cases hT : tb (frmOk t f)
  · have HR := Lib.hid (two_1 (g := g) hT)
    clear hT
    go_wp2_with fail
    go_ret
    exact ⟨ret_int HR.out.symm, hq1⟩
  go_wp2_with fail
  refine (l03Ok_quiet _ (HT0.out.below hbb1) (HG0.out.below hbb1)).mono ?_
  rintro e w2 ⟨rfl, hq2⟩
  have hbb2 := hq2.below
  have hz1 := hbb1.size
  replace f0 := (cellB hbb2 (by omega)).trans f0
  replace g0 := (cellB hbb2 (by omega)).trans g0
  cases hT2 : tb (frmOk t g)
  · have HR := Lib.hid (two_2 hT hT2)
    clear hT hT2
    go_wp2_with fail
    go_ret
    exact ⟨ret_int HR.out.symm, hq1.then hq2⟩
  cases hE : (f.1 != g.1)
  · have HR := Lib.hid (two_0 hT hT2 hE)
    clear hT hT2
    go_wp2_with fail
    go_quiet (fail)
    go_wp2_with fail
    go_ret
    exact ⟨ret_int HR.out.symm, (hq1.then hq2).then (by first | exact Quiet.refl _ | exact Quiet.drewN _ _ | exact (Quiet.drewN _ _).then (Quiet.drewN _ _) | exact ((Quiet.drewN _ _).then (Quiet.drewN _ _)).then (Quiet.drewN _ _))⟩
  · have HR := Lib.hid (two_4 hT hT2 hE)
    clear hT hT2
    go_wp2_with fail
    go_quiet (fail)
    go_wp2_with fail
    go_ret
    exact ⟨ret_int HR.out.symm, (hq1.then hq2).then (by first | exact Quiet.refl _ | exact Quiet.drewN _ _ | exact (Quiet.drewN _ _).then (Quiet.drewN _ _) | exact ((Quiet.drewN _ _).then (Quiet.drewN _ _)).then (Quiet.drewN _ _))⟩
def conjTo (f g : Int × Int × List (Int × List Int)) (v : Int) : Int := match decide (g.1 ≤ v) with
  | true => v + (f.2.1 - f.1)
  | false => v
theorem conj_ge {f g : Int × Int × List (Int × List Int)} {v : Int} (h : g.1 ≤ v) : conjTo f g v = v + (f.2.1 - f.1) := by simp [conjTo, h]
theorem conj_lt {f g : Int × Int × List (Int × List Int)} {v : Int} (h : v < g.1) : conjTo f g v = v := by
  have : ¬ g.1 ≤ v := by omega
  simp [conjTo, this]
theorem conj_I {f g : Int × Int × List (Int × List Int)} {v : Int} (h : 0 ≤ v ∧ v ≤ 1000) (h2 : 0 ≤ f.1 ∧ f.1 ≤ 1000) (h3 : 0 ≤ f.2.1 ∧ f.2.1 ≤ 1000) : I64 (conjTo f g v) := by
  rcases ilt v g.1 with h4 | h4
  · rw [conj_lt h4]; exact I64.small (by omega) (by omega)
  · rw [conj_ge h4]; exact I64.small (by omega) (by omega)
def conjF (f g : Int × Int × List (Int × List Int)) : Int × Int × List (Int × List Int) := (f.1, f.2.1 + g.2.1 - g.1, f.2.2 ++ rnL (conjTo f g) g.2.2)
theorem rnL_id (xs : List (Int × List Int)) : rnL (fun v => v) xs = xs := by
  unfold rnL
  exact (List.map_congr_left (g := id) fun a _ => by simp).trans (List.map_id xs)
theorem toL_id (n : Nat) : toL (fun v => v) n = upL 0 n := by simp [toL, upL]
section
variable (t : Int × List (Int × List (List Int))) (f g : Int × Int × List (Int × List Int))
noncomputable def conjV : Int × Int × List (Int × List Int) := if twoC t f g = 0 then limV (conjF f g) else frm0
noncomputable def conjC : Int := if twoC t f g = 0 then limC (conjF f g) else twoC t f g
end
section
variable {t : Int × List (Int × List (List Int))} {f g : Int × Int × List (Int × List Int)}
theorem conj_no (h : twoC t f g ≠ 0) : conjV t f g = frm0 ∧ conjC t f g = twoC t f g := by simp [conjV, conjC, h]
theorem conj_yes (h : twoC t f g = 0) : conjV t f g = limV (conjF f g) ∧ conjC t f g = limC (conjF f g) := by simp [conjV, conjC, h]
theorem cntOps_app (a b : List (Int × List Int)) : cntOps (a ++ b) = cntOps a + cntOps b := sumL_append _ _ _
theorem conj_cnt : cntFrm (conjV t f g) ≤ 1000000 := by
  by_cases h : twoC t f g = 0
  · rw [(conj_yes h).1]
    obtain ⟨h1, h2, h3⟩ := two_ok h
    obtain ⟨_, _, _, h4, h5⟩ := frm_bd h1
    obtain ⟨_, _, _, h6, h7⟩ := frm_bd h2
    have e1 := cntOps_bd (xs := f.2.2) fun a ha => (h5 a ha).2
    have e2 := cntOps_bd (xs := g.2.2) fun a ha => (h7 a ha).2
    by_cases hl : (conjF f g).2.1 ≤ 8 ∧ (conjF f g).2.2.length ≤ 16
    · rw [(lim_yes hl).1]
      simp only [conjF, cntFrm, cntOps_app, rnL_cnt]
      omega
    · rw [(lim_no hl).1, cnt_frm0]; omega
  · rw [(conj_no h).1, cnt_frm0]; omega
end
end Go.Proofs.YtbpjejhjlmpcjaaGreat
