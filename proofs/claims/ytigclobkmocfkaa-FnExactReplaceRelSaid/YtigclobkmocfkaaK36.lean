/-
  Contracts: the conjunction of two formulas.
-/
import Derived.Test.YtigclobkmocfkaaK33
import Derived.Test.YtigclobkmocfkaaApp
namespace Go.Proofs.Ytigclobkmocfkaa
open Go.RowKit Go.Sort
noncomputable def twoC (t : Int × List (Int × List (List Int))) (f g : Int × Int × List (Int × List Int)) : Int := match tb (frmOk t f), tb (frmOk t g), (f.1 != g.1) with
  | false, _, _ => 1
  | true, false, _ => 1
  | true, true, true => 4
  | true, true, false => 0
section
variable {t : Int × List (Int × List (List Int))} {f g : Int × Int × List (Int × List Int)}
theorem two_1 (h : tb (frmOk t f) = false) : twoC t f g = 1 := by simp [twoC, h]
theorem two_2 (h : tb (frmOk t f) = true) (h2 : tb (frmOk t g) = false) : twoC t f g = 1 := by simp [twoC, h, h2]
theorem two_4 (h : tb (frmOk t f) = true) (h2 : tb (frmOk t g) = true) (h3 : (f.1 != g.1) = true) : twoC t f g = 4 := by simp only [twoC, h, h2, h3]
theorem two_0 (h : tb (frmOk t f) = true) (h2 : tb (frmOk t g) = true) (h3 : (f.1 != g.1) = false) : twoC t f g = 0 := by simp only [twoC, h, h2, h3]
theorem two_ok (h : twoC t f g = 0) : tb (frmOk t f) = true ∧ tb (frmOk t g) = true ∧ f.1 = g.1 := by
  cases h1 : tb (frmOk t f)
  · rw [two_1 h1] at h; cases h
  cases h2 : tb (frmOk t g)
  · rw [two_2 h1 h2] at h; cases h
  cases h3 : (f.1 != g.1)
  · exact ⟨rfl, rfl, by simpa using h3⟩
  · rw [two_4 h1 h2 h3] at h; cases h
end
set_option maxHeartbeats 1600000 in
set_option maxRecDepth 100000 in
theorem twoFault_any (w : World) {cs cf cg : Array Value} {t : Int × List (Int × List (List Int))} {f g : Int × Int × List (Int × List Int)} (h : tplT.Rd w cs.toList t) (hf : frmT.Rd w cf.toList f) (hg : frmT.Rd w cg.toList g) :
    Calls Try.prog 108 #[.agg cs, .agg cf, .agg cg] w fun e w' => e = .returned (.int .i64 (twoC t f g)) ∧ Below w.heap.size w w' := by
  have HT0 := Lib.hid h
  have HF0 := Lib.hid hf
  have HG0 := Lib.hid hg
  obtain ⟨v1, hv, hI, -⟩ := pair_ex h
  obtain rfl := agg_of hv
  obtain ⟨v2, hv2, -, -, -⟩ := trip_ex hf
  obtain rfl := agg_of hv2
  obtain ⟨v3, hv3, -, -, -⟩ := trip_ex hg
  obtain rfl := agg_of hv3
  clear h hf hg hv hv2 hv3
  go_enter Try.func108, Try.ntmps108
  go_wp2_with fail
  generalize hW : World.alloc _ _ = W
  have hbW : Below w.heap.size w W := hW ▸ ((bAA (w := w)).alloc (by simp; omega) _)
  have hsW : W.heap.size = w.heap.size + 3 := by rw [← hW]; simp
  have t0 : W.cell? ⟨w.heap.size, 0, none⟩ = some (.int .i64 t.1) := by rw [← hW]; simp [go_sem]
  have t1 : W.cell? ⟨w.heap.size, 1, none⟩ = some v1 := by rw [← hW]; simp [go_sem]
  have f0 : W.cell? ⟨w.heap.size + 1, 0, none⟩ = some (.int .i64 f.1) := by rw [← hW]; simp [go_sem]
  have g0 : W.cell? ⟨w.heap.size + 2, 0, none⟩ = some (.int .i64 g.1) := by rw [← hW]; simp [go_sem]
  have g1 : W.cell? ⟨w.heap.size + 2, 1, none⟩ = some (.int .i64 g.2.1) := by rw [← hW]; simp [go_sem]
  have g2 : W.cell? ⟨w.heap.size + 2, 2, none⟩ = some v3 := by rw [← hW]; simp [go_sem]
  clear hW
  refine (ValidFormula_any _ (HT0.out.below hbW) (HF0.out.below hbW)).mono ?_
  rintro e w1 ⟨rfl, hb1⟩
  have hz1 := hb1.size
  have hB1 := bthen hbW hb1
  replace t0 := (cellB hb1 (by omega)).trans t0
  replace t1 := (cellB hb1 (by omega)).trans t1
  replace f0 := (cellB hb1 (by omega)).trans f0
  replace g0 := (cellB hb1 (by omega)).trans g0
  replace g1 := (cellB hb1 (by omega)).trans g1
  replace g2 := (cellB hb1 (by omega)).trans g2
  cases hT : tb (frmOk t f)
  · have HR := Lib.hid (two_1 (g := g) hT)
    clear hT
    go_wp2_with fail
    go_ret
    exact ⟨ret_int HR.out.symm, hB1⟩
  go_wp2_with fail
  refine (ValidFormula_any _ (HT0.out.below hB1) (HG0.out.below hB1)).mono ?_
  rintro e w2 ⟨rfl, hb2⟩
  have hz2 := hb2.size
  have hB2 := bthen hB1 hb2
  replace t0 := (cellB hb2 (by omega)).trans t0
  replace t1 := (cellB hb2 (by omega)).trans t1
  replace f0 := (cellB hb2 (by omega)).trans f0
  replace g0 := (cellB hb2 (by omega)).trans g0
  replace g1 := (cellB hb2 (by omega)).trans g1
  replace g2 := (cellB hb2 (by omega)).trans g2
  cases hT2 : tb (frmOk t g)
  · have HR := Lib.hid (two_2 hT hT2)
    clear hT hT2
    go_wp2_with fail
    go_ret
    exact ⟨ret_int HR.out.symm, hB2⟩
  cases hE : (f.1 != g.1)
  · have HR := Lib.hid (two_0 hT hT2 hE)
    clear hT hT2
    go_wp2_with fail
    go_ret
    exact ⟨ret_int HR.out.symm, hB2⟩
  · have HR := Lib.hid (two_4 hT hT2 hE)
    clear hT hT2
    go_wp2_with fail
    go_ret
    exact ⟨ret_int HR.out.symm, hB2⟩
set_option maxHeartbeats 1600000 in
set_option maxRecDepth 100000 in
theorem l03Two_quiet (w : World) {vt vf vg : Value} {t : Int × List (Int × List (List Int))} {f g : Int × Int × List (Int × List Int)} (h : tplT.Pt w vt t) (hf : frmT.Pt w vf f) (hg : frmT.Pt w vg g) :
    Calls Try.prog 103 #[vt, vf, vg] w fun e w' => e = .returned (.int .i64 (twoC t f g)) ∧ Quiet w w' := by
  have HT0 := Lib.hid h
  have HF0 := Lib.hid hf
  have HG0 := Lib.hid hg
  obtain ⟨b, o, _, _, rfl, hb, -, -, -, -⟩ := pt_pair h
  obtain ⟨b2, o2, _, _, rfl, hb2, -, -, f0, -⟩ := pt_trip hf
  obtain ⟨b3, o3, _, _, rfl, hb3, -, -, g0, -⟩ := pt_trip hg
  clear h hf hg
  go_enter Try.func103, Try.ntmps103
  go_wp2_with fail
  refine (l03Ok_quiet _ HT0.out HF0.out).mono ?_
  rintro e w1 ⟨rfl, hq1⟩
  have hbb1 := hq1.below
  replace f0 := (cellB hbb1 (by omega)).trans f0
  replace g0 := (cellB hbb1 (by omega)).trans g0
  cases hT : tb (frmOk t f)
  · have HR := Lib.hid (two_1 (g := g) hT)
    clear hT
    go_wp2_with fail
    go_ret
    exact ⟨ret_int HR.out.symm, hq1⟩
  go_wp2_with fail
  refine (l03Ok_quiet _ (HT0.out.below hbb1) (HG0.out.below hbb1)).mono ?_
  rintro e w2 ⟨rfl, hq2⟩
  have hbb2 := hq2.below
  have hz1 := hbb1.size
  replace f0 := (cellB hbb2 (by omega)).trans f0
  replace g0 := (cellB hbb2 (by omega)).trans g0
  cases hT2 : tb (frmOk t g)
  · have HR := Lib.hid (two_2 hT hT2)
    clear hT hT2
    go_wp2_with fail
    go_ret
    exact ⟨ret_int HR.out.symm, hq1.then hq2⟩
  cases hE : (f.1 != g.1)
  · have HR := Lib.hid (two_0 hT hT2 hE)
    clear hT hT2
    go_wp2_with fail
    go_quiet (fail)
    go_wp2_with fail
    go_ret
    exact ⟨ret_int HR.out.symm, (hq1.then hq2).then (by first | exact Quiet.refl _ | exact Quiet.drewN _ _ | exact (Quiet.drewN _ _).then (Quiet.drewN _ _) | exact ((Quiet.drewN _ _).then (Quiet.drewN _ _)).then (Quiet.drewN _ _))⟩
  · have HR := Lib.hid (two_4 hT hT2 hE)
    clear hT hT2
    go_wp2_with fail
    go_quiet (fail)
    go_wp2_with fail
    go_ret
    exact ⟨ret_int HR.out.symm, (hq1.then hq2).then (by first | exact Quiet.refl _ | exact Quiet.drewN _ _ | exact (Quiet.drewN _ _).then (Quiet.drewN _ _) | exact ((Quiet.drewN _ _).then (Quiet.drewN _ _)).then (Quiet.drewN _ _))⟩
def conjTo (f g : Int × Int × List (Int × List Int)) (v : Int) : Int := match decide (g.1 ≤ v) with
  | true => v + (f.2.1 - f.1)
  | false => v
theorem conj_ge {f g : Int × Int × List (Int × List Int)} {v : Int} (h : g.1 ≤ v) : conjTo f g v = v + (f.2.1 - f.1) := by simp [conjTo, h]
theorem conj_lt {f g : Int × Int × List (Int × List Int)} {v : Int} (h : v < g.1) : conjTo f g v = v := by
  have : ¬ g.1 ≤ v := by omega
  simp [conjTo, this]
theorem conj_I {f g : Int × Int × List (Int × List Int)} {v : Int} (h : 0 ≤ v ∧ v ≤ 1000) (h2 : 0 ≤ f.1 ∧ f.1 ≤ 1000) (h3 : 0 ≤ f.2.1 ∧ f.2.1 ≤ 1000) : I64 (conjTo f g v) := by
  rcases ilt v g.1 with h4 | h4
  · rw [conj_lt h4]; exact I64.small (by omega) (by omega)
  · rw [conj_ge h4]; exact I64.small (by omega) (by omega)
def conjF (f g : Int × Int × List (Int × List Int)) : Int × Int × List (Int × List Int) := (f.1, f.2.1 + g.2.1 - g.1, f.2.2 ++ rnL (conjTo f g) g.2.2)
theorem rnL_id (xs : List (Int × List Int)) : rnL (fun v => v) xs = xs := by
  unfold rnL
  exact (List.map_congr_left (g := id) fun a _ => by simp).trans (List.map_id xs)
theorem toL_id (n : Nat) : toL (fun v => v) n = upL 0 n := by simp [toL, upL]
section
variable (t : Int × List (Int × List (List Int))) (f g : Int × Int × List (Int × List Int))
noncomputable def conjV : Int × Int × List (Int × List Int) := if twoC t f g = 0 then limV (conjF f g) else frm0
noncomputable def conjC : Int := if twoC t f g = 0 then limC (conjF f g) else twoC t f g
end
section
variable {t : Int × List (Int × List (List Int))} {f g : Int × Int × List (Int × List Int)}
theorem conj_no (h : twoC t f g ≠ 0) : conjV t f g = frm0 ∧ conjC t f g = twoC t f g := by simp [conjV, conjC, h]
theorem conj_yes (h : twoC t f g = 0) : conjV t f g = limV (conjF f g) ∧ conjC t f g = limC (conjF f g) := by simp [conjV, conjC, h]
theorem cntOps_app (a b : List (Int × List Int)) : cntOps (a ++ b) = cntOps a + cntOps b := sumL_append _ _ _
theorem conj_cnt : cntFrm (conjV t f g) ≤ 1000000 := by
  by_cases h : twoC t f g = 0
  · rw [(conj_yes h).1]
    obtain ⟨h1, h2, h3⟩ := two_ok h
    obtain ⟨_, _, _, h4, h5⟩ := frm_bd h1
    obtain ⟨_, _, _, h6, h7⟩ := frm_bd h2
    have e1 := cntOps_bd (xs := f.2.2) fun a ha => (h5 a ha).2
    have e2 := cntOps_bd (xs := g.2.2) fun a ha => (h7 a ha).2
    by_cases hl : (conjF f g).2.1 ≤ 8 ∧ (conjF f g).2.2.length ≤ 16
    · rw [(lim_yes hl).1]
      simp only [conjF, cntFrm, cntOps_app, rnL_cnt]
      omega
    · rw [(lim_no hl).1, cnt_frm0]; omega
  · rw [(conj_no h).1, cnt_frm0]; omega
end
theorem same_any (w : World) (a : Int) : Calls Try.prog 111 #[.int .i64 a] w fun e w' => e = .returned (.int .i64 a) ∧ w = w' := by
  go_enter Try.func111, Try.ntmps111
  go_wp2_with fail
  go_ret
  exact ⟨rfl, rfl⟩
theorem ConjoinFormulas1_any (w : World) (a : Int) {f g : Int × Int × List (Int × List Int)} (b1 b2 : Nat) (h1 : w.cell? ⟨b1, 0, none⟩ = some (.int .i64 g.1)) (h2 : w.cell? ⟨b2, 1, none⟩ = some (.int .i64 f.2.1)) (h3 : w.cell? ⟨b2, 0, none⟩ = some (.int .i64 f.1)) (h4 : 0 ≤ a ∧ a ≤ 1000) (h5 : 0 ≤ f.1 ∧ f.1 ≤ 1000) (h6 : 0 ≤ f.2.1 ∧ f.2.1 ≤ 1000) :
    Calls Try.prog 110 #[.int .i64 a, .pointer (some ⟨b1, 0, none⟩), .pointer (some ⟨b2, 0, none⟩)] w fun e w' => e = .returned (.int .i64 (conjTo f g a)) ∧ w = w' := by
  rcases ilt a g.1 with hc | hc
  · have HE := Lib.hid (conj_lt (f := f) hc)
    go_enter Try.func110, Try.ntmps110
    go_wp2_with fail
    go_ret
    exact ⟨ret_int HE.out.symm, rfl⟩
  · have HE := Lib.hid (conj_ge (f := f) hc)
    go_enter Try.func110, Try.ntmps110
    go_wp2_with fail
    go_ret
    exact ⟨ret_int HE.out.symm, rfl⟩
set_option maxHeartbeats 3200000 in
set_option maxRecDepth 100000 in
theorem ConjoinFormulas_any (w : World) {cs cf cg : Array Value} {t : Int × List (Int × List (List Int))} {f g : Int × Int × List (Int × List Int)} (h : tplT.Rd w cs.toList t) (hf : frmT.Rd w cf.toList f) (hg : frmT.Rd w cg.toList g) :
    Calls Try.prog 41 #[.agg cs, .agg cf, .agg cg] w (RetAC frmT w (conjV t f g) (conjC t f g)) := by
  have HT0 := Lib.hid h
  have HF0 := Lib.hid hf
  have HG0 := Lib.hid hg
  obtain ⟨v1, hv, hI, -⟩ := pair_ex h
  obtain rfl := agg_of hv
  obtain ⟨v2, hv2, hIf, hIf2, hfx⟩ := trip_ex hf
  obtain rfl := agg_of hv2
  obtain ⟨v3, hv3, -, -, hgx⟩ := trip_ex hg
  obtain rfl := agg_of hv3
  obtain ⟨fa, fn, fc, rfl⟩ := rd_sl hfx
  obtain ⟨ga, gn, gc, rfl⟩ := rd_sl hgx
  have HFX := Lib.hid hfx
  have HGX := Lib.hid hgx
  clear h hf hg hv hv2 hv3 hfx hgx
  go_enter Try.func41, Try.ntmps41
  go_wp2_with fail
  generalize hW : World.alloc _ _ = W
  have hbW : Below w.heap.size w W := hW ▸ (((bAA (w := w)).alloc (by simp; omega) _).alloc (by simp; omega) _)
  have hsW : W.heap.size = w.heap.size + 4 := by rw [← hW]; simp
  have f0 : W.cell? ⟨w.heap.size + 1, 0, none⟩ = some (.int .i64 f.1) := by rw [← hW]; simp [go_sem]
  have f1 : W.cell? ⟨w.heap.size + 1, 1, none⟩ = some (.int .i64 f.2.1) := by rw [← hW]; simp [go_sem]
  have f2 : W.cell? ⟨w.heap.size + 1, 2, none⟩ = some (.slice fa fn fc) := by rw [← hW]; simp [go_sem]
  have g0 : W.cell? ⟨w.heap.size + 2, 0, none⟩ = some (.int .i64 g.1) := by rw [← hW]; simp [go_sem]
  have g1 : W.cell? ⟨w.heap.size + 2, 1, none⟩ = some (.int .i64 g.2.1) := by rw [← hW]; simp [go_sem]
  have g2 : W.cell? ⟨w.heap.size + 2, 2, none⟩ = some (.slice ga gn gc) := by rw [← hW]; simp [go_sem]
  have r0 : W.cell? ⟨w.heap.size + 3, 0, none⟩ = some (.int .i64 0) := by rw [← hW]; simp [go_sem]
  have r1 : W.cell? ⟨w.heap.size + 3, 1, none⟩ = some (.int .i64 0) := by rw [← hW]; simp [go_sem]
  have r2 : W.cell? ⟨w.heap.size + 3, 2, none⟩ = some (.slice none 0 0) := by rw [← hW]; simp [go_sem]
  have m0 : W.frozen? ⟨w.heap.size + 3, 0, none⟩ = false := by rw [← hW]; simp [go_sem]
  have m1 : W.frozen? ⟨w.heap.size + 3, 1, none⟩ = false := by rw [← hW]; simp [go_sem]
  have m2 : W.frozen? ⟨w.heap.size + 3, 2, none⟩ = false := by rw [← hW]; simp [go_sem]
  clear hW
  refine (twoFault_any (cs := #[.int .i64 t.1, v1]) (cf := #[.int .i64 f.1, .int .i64 f.2.1, .slice fa fn fc]) (cg := #[.int .i64 g.1, .int .i64 g.2.1, .slice ga gn gc]) _ (HT0.out.below hbW) (HF0.out.below hbW) (HG0.out.below hbW)).mono ?_
  rintro e w1 ⟨rfl, hb1⟩
  have hz1 := hb1.size
  have hB1 := bthen hbW hb1
  replace f0 := (cellB hb1 (by omega)).trans f0
  replace f1 := (cellB hb1 (by omega)).trans f1
  replace f2 := (cellB hb1 (by omega)).trans f2
  replace g0 := (cellB hb1 (by omega)).trans g0
  replace g1 := (cellB hb1 (by omega)).trans g1
  replace g2 := (cellB hb1 (by omega)).trans g2
  replace r0 := (cellB hb1 (by omega)).trans r0
  replace r1 := (cellB hb1 (by omega)).trans r1
  replace r2 := (cellB hb1 (by omega)).trans r2
  replace m0 := (frozenB hb1 (by omega)).trans m0
  replace m1 := (frozenB hb1 (by omega)).trans m1
  replace m2 := (frozenB hb1 (by omega)).trans m2
  cases hE : (twoC t f g != 0)
  rotate_left
  · have HR := Lib.hid (conj_no (show twoC t f g ≠ 0 by simpa using hE))
    obtain ⟨q0, q1, q2⟩ := set3_cells (x := .int .i64 0) (y := .int .i64 0) (z := .slice none 0 0) r0 r1 r2
    go_wp2_with fail
    exact bodyPost_ret (v := .tuple #[.agg #[.int .i64 0, .int .i64 0, .slice none 0 0], .int .i64 (twoC t f g)]) (by simp [results, Try.results41, go_sem, q0, q1, q2]) rfl ⟨[.int .i64 0, .int .i64 0, .slice none 0 0], by rw [HR.out.2], by rw [HR.out.1]; exact fr_frm0, set3_below hB1 (by omega)⟩
  have hE0 : twoC t f g = 0 := by simpa using hE
  have HR := Lib.hid (conj_yes hE0)
  obtain ⟨e1, e2, e3⟩ := two_ok hE0
  obtain ⟨a1, a2, a3, a4, a5⟩ := frm_bd e1
  obtain ⟨c1, c2, c3, c4, c5⟩ := frm_bd e2
  have A5 := Lib.hid a5
  have C5 := Lib.hid c5
  have hgx1 : opsT.Rd w1 [.slice ga gn gc] g.2.2 := HGX.out.below hB1
  have HGF := Lib.hid e3
  clear e1 e2 a5 c5 hE0 e3
  go_wp2_with fail
  have hto : Hid (∀ W a, Below w1.heap.size w1 W → (∃ c ∈ g.2.2, a ∈ c.2) → Calls Try.prog 110 (#[.int .i64 a] ++ #[.pointer (some ⟨w.heap.size + 2, 0, none⟩), .pointer (some ⟨w.heap.size + 1, 0, none⟩)]) W fun e w' => e = .returned (.int .i64 (conjTo f g a)) ∧ W = w') := by
    intro W' a hW ⟨c, hc, ha⟩
    have h5 := (C5.out c hc).1 a ha
    exact ConjoinFormulas1_any W' a _ _ ((cellB hW (by omega)).trans g0) ((cellB hW (by omega)).trans f1) ((cellB hW (by omega)).trans f0) (by omega) (by omega) (by omega)
  have HGH := Lib.hid (show ∀ c ∈ g.2.2, (∀ a ∈ c.2, I64 (conjTo f g a)) ∧ c.2.length ≤ 1000000 from fun c hc => ⟨fun a ha => conj_I (by have := (C5.out c hc).1 a ha; omega) (by omega) (by omega), by have := (C5.out c hc).2; omega⟩)
  refine (renamed_any _ hgx1 110 _ (enters Try.func110 (by kernel_rfl) rfl) (conjTo f g) hto HGH.out (by omega)).mono ?_
  rintro e w2 ⟨u2, rfl, hf2, hb2⟩
  obtain ⟨ba, bn, bc, rfl⟩ := ex_slice hf2
  have HF2 := Lib.hid hf2
  have hz2 := hb2.size
  have hB2 := bthen hB1 hb2
  replace f0 := (cellB hb2 (by omega)).trans f0
  replace f1 := (cellB hb2 (by omega)).trans f1
  replace f2 := (cellB hb2 (by omega)).trans f2
  replace g0 := (cellB hb2 (by omega)).trans g0
  replace g1 := (cellB hb2 (by omega)).trans g1
  replace g2 := (cellB hb2 (by omega)).trans g2
  replace r0 := (cellB hb2 (by omega)).trans r0
  replace r1 := (cellB hb2 (by omega)).trans r1
  replace r2 := (cellB hb2 (by omega)).trans r2
  replace m0 := (frozenB hb2 (by omega)).trans m0
  replace m1 := (frozenB hb2 (by omega)).trans m1
  replace m2 := (frozenB hb2 (by omega)).trans m2
  have HFX2 := Lib.hid (HFX.out.below hB2)
  have hl1 : w.heap.size + 3 < w2.heap.size := by omega
  have hl2 : w.heap.size + 2 < w2.heap.size := by omega
  have hl3 : w.heap.size + 1 < w2.heap.size := by omega
  have HFXB := Lib.hid hf2.fx
  clear hf2 hto hgx1
  go_wp2_with fail
  refine wp_region_T (fun w' => w'.cell? ⟨w.heap.size + 1, 0, none⟩ = some (.int .i64 f.1) ∧ w'.cell? ⟨w.heap.size + 1, 1, none⟩ = some (.int .i64 f.2.1) ∧ w'.cell? ⟨w.heap.size + 2, 1, none⟩ = some (.int .i64 g.2.1) ∧ w'.cell? ⟨w.heap.size + 2, 0, none⟩ = some (.int .i64 g.1) ∧ w'.cell? ⟨w.heap.size + 1, 2, none⟩ = some (.slice fa fn fc)) [19] (by kernel_rfl) ⟨f0, f1, g1, g0, f2⟩ (fun hHeld => ?_)
  refine wpAnyT_take (i := 0) (v := ?_) rfl (by kernel_rfl) (fun _ _ _ h => h) (Or.inl ⟨by rfl, ?_⟩) (by assumption) ?_
  rotate_left
  · (intro w hSw; (try dsimp only at hSw); go_simp <;> with_reducible rfl)
  try simp only [Act.put]
  refine wpAnyT_take (i := 1) (v := ?_) rfl (by kernel_rfl) (fun _ _ _ h => h) (Or.inl ⟨by rfl, ?_⟩) (by assumption) ?_
  rotate_left
  · (intro w hSw; (try dsimp only at hSw); go_simp <;> with_reducible rfl)
  try simp only [Act.put]
  refine wpAnyT_take (i := 2) (v := ?_) rfl (by kernel_rfl) (fun _ _ _ h => h) (Or.inl ⟨by rfl, ?_⟩) (by assumption) ?_
  rotate_left
  · (intro w hSw; (try dsimp only at hSw); go_simp <;> with_reducible rfl)
  try simp only [Act.put]
  refine wpAnyT_take (i := 3) (v := ?_) rfl (by kernel_rfl) (fun _ _ _ h => h) (Or.inl ⟨by rfl, ?_⟩) (by assumption) ?_
  rotate_left
  · (intro w hSw; (try dsimp only at hSw); go_simp <;> with_reducible rfl)
  try simp only [Act.put]
  refine wpAnyT_take (i := 4) (v := ?_) rfl (by kernel_rfl) (fun _ _ _ h => h) (Or.inl ⟨by rfl, ?_⟩) (by assumption) ?_
  rotate_left
  · (intro w hSw; (try dsimp only at hSw); go_simp <;> with_reducible rfl)
  try simp only [Act.put]
  refine wpAnyT_take (i := 5) (v := ?_) rfl (by kernel_rfl) (fun _ _ _ h => h) (Or.inl ⟨by rfl, ?_⟩) (by assumption) ?_
  rotate_left
  · (intro w hSw; (try dsimp only at hSw); go_simp <;> with_reducible rfl)
  try simp only [Act.put]
  refine wpAnyT_take (i := 6) (v := ?_) rfl (by kernel_rfl) (fun _ _ _ h => h) (Or.inl ⟨by rfl, ?_⟩) (by assumption) ?_
  rotate_left
  · (intro w hSw; (try dsimp only at hSw); go_simp <;> with_reducible rfl)
  try simp only [Act.put]
  refine wpAnyT_take (i := 7) (v := ?_) rfl (by kernel_rfl) (fun _ _ _ h => h) (Or.inl ⟨by rfl, ?_⟩) (by assumption) ?_
  rotate_left
  · (intro w hSw; (try dsimp only at hSw); go_simp <;> with_reducible rfl)
  try simp only [Act.put]
  refine wpAnyT_take (i := 8) (v := ?_) rfl (by kernel_rfl) (fun _ _ _ h => h) (Or.inl ⟨by rfl, ?_⟩) (by assumption) ?_
  rotate_left
  · (intro w hSw; (try dsimp only at hSw); go_simp <;> with_reducible rfl)
  try simp only [Act.put]
  refine wpAnyT_take (i := 9) (v := ?_) rfl (by kernel_rfl) (fun _ _ _ h => h) (Or.inl ⟨by rfl, ?_⟩) (by assumption) ?_
  rotate_left
  · (intro w hSw; (try dsimp only at hSw); go_simp <;> with_reducible rfl)
  try simp only [Act.put]
  refine wpAnyT_take (i := 10) (v := ?_) rfl (by kernel_rfl) (fun _ _ _ h => h) (Or.inl ⟨by rfl, ?_⟩) (by assumption) ?_
  rotate_left
  · (intro w hSw; (try dsimp only at hSw); go_simp <;> with_reducible rfl)
  try simp only [Act.put]
  refine wpAnyT_take (i := 11) (v := ?_) rfl (by kernel_rfl) (fun _ _ _ h => h) (Or.inl ⟨by rfl, ?_⟩) (by assumption) ?_
  rotate_left
  · (intro w hSw; (try dsimp only at hSw); go_simp <;> with_reducible rfl)
  try simp only [Act.put]
  refine wpAnyT_take (i := 13) (v := ?_) rfl (by kernel_rfl) (fun _ _ _ h => h) (Or.inl ⟨by rfl, ?_⟩) (by assumption) ?_
  rotate_left
  · (intro w hSw; (try dsimp only at hSw); go_simp <;> with_reducible rfl)
  try simp only [Act.put]
  refine wpAnyT_one (i := 12) rfl (by kernel_rfl) (fun K hK => ?_)
  go_simp
  go_at_call 109
  refine (renamed_bl _ (HFX2.out.below bD) 111 #[] (enters Try.func111 (by kernel_rfl) rfl) (fun v => v) (fun W' a _ _ => same_any W' a) (fun c hc => ⟨fun a ha => I64.small (by have := (A5.out c hc).1 a ha; omega) (by have := (A5.out c hc).1 a ha; omega), by have := (A5.out c hc).2; omega⟩) (by omega)).mono ?_
  rintro e w3 ⟨u3, rfl, hB3, hb3⟩
  obtain ⟨a3, n3, c3, rfl⟩ := ex_slice (hB3.fr (by rw [rnL_len]; unfold capMax; omega))
  rw [rnL_id] at hB3
  have HB3 := Lib.hid hB3
  have hb3' : Below w2.heap.size w2 w3 := bthen bD hb3
  have hz3 := hb3'.size
  have HFX3 := Lib.hid (HFXB.out.below hb3')
  replace f0 := (cellB hb3' (by omega)).trans f0
  replace f1 := (cellB hb3' (by omega)).trans f1
  replace f2 := (cellB hb3' (by omega)).trans f2
  replace g0 := (cellB hb3' (by omega)).trans g0
  replace g1 := (cellB hb3' (by omega)).trans g1
  replace r0 := (cellB hb3' (by omega)).trans r0
  replace r1 := (cellB hb3' (by omega)).trans r1
  replace r2 := (cellB hb3' (by omega)).trans r2
  replace m0 := (frozenB hb3' (by omega)).trans m0
  replace m1 := (frozenB hb3' (by omega)).trans m1
  replace m2 := (frozenB hb3' (by omega)).trans m2
  clear hB3
  dsimp only
  refine hK.out _ _ ⟨f0, f1, g1, g0, f2⟩ (fun hHeld => ?_)
  clear hK K
  refine wpAnyT_one (i := 14) rfl (by kernel_rfl) (fun K hK => ?_)
  refine step_pushOld (E := opT) _ rfl _ _ 55 121 rfl elAtomS rfl HB3.out rfl HFX3.out (by have := hb2.size; simp; omega) (by rw [rnL_len]; omega) (by decide) (by simp; omega) (Nat.le_refl _) ?_
  intro v4 w4 hB4 hg4 _
  have hF4 := hB4.fr (by rw [List.length_append, rnL_len]; unfold capMax; omega)
  obtain ⟨a4, n4, c4, rfl⟩ := ex_slice hF4
  have HF4 := Lib.hid hF4
  have hb4 : Below w2.heap.size w3 w4 := (Below.refl _ w3).grown hg4 (by omega) (fun q hq => by have := HB3.out.own hq; simpa using this)
  have hz4 := hb4.size
  replace f0 := (cellB hb4 (by omega)).trans f0
  replace f1 := (cellB hb4 (by omega)).trans f1
  replace f2 := (cellB hb4 (by omega)).trans f2
  replace g0 := (cellB hb4 (by omega)).trans g0
  replace g1 := (cellB hb4 (by omega)).trans g1
  replace r0 := (cellB hb4 (by omega)).trans r0
  replace r1 := (cellB hb4 (by omega)).trans r1
  replace r2 := (cellB hb4 (by omega)).trans r2
  replace m0 := (frozenB hb4 (by omega)).trans m0
  replace m1 := (frozenB hb4 (by omega)).trans m1
  replace m2 := (frozenB hb4 (by omega)).trans m2
  clear hB4 hF4 hg4
  refine hK.out _ _ ⟨f0, f1, g1, g0, f2⟩ (fun hHeld => ?_)
  clear hK K
  refine wpAnyT_take (i := 15) (v := ?_) rfl (by kernel_rfl) (fun _ _ _ h => h) (Or.inl ⟨by rfl, ?_⟩) (by assumption) ?_
  rotate_left
  · (intro w hSw; (try dsimp only at hSw); go_simp <;> with_reducible rfl)
  try simp only [Act.put]
  refine wpAnyT_one (i := 16) rfl (by kernel_rfl) (fun K hK => ?_)
  go_simp
  go_at_call 94
  rw [wrap_small (n := f.2.1 + g.2.1) (by omega) (by omega), wrap_small (n := f.2.1 + g.2.1 - g.1) (by omega) (by omega)]
  refine (limited_any _ (base := w1.heap.size) (f := conjF f g) (cs := #[.int .i64 f.1, .int .i64 (f.2.1 + g.2.1 - g.1), .slice a4 n4 c4]) (fr_cons hIf (fr_cons (I64.small (by omega) (by omega)) HF4.out)) (by omega)).mono ?_
  rintro e w5 ⟨cs5, rfl, hf5, hb5⟩
  obtain ⟨ad5, cap5, rfl⟩ := fr_trip hf5
  have HF5 := Lib.hid hf5
  have hz5 := hb5.size
  replace f0 := (cellB hb5 (by omega)).trans f0
  replace f1 := (cellB hb5 (by omega)).trans f1
  replace f2 := (cellB hb5 (by omega)).trans f2
  replace g0 := (cellB hb5 (by omega)).trans g0
  replace g1 := (cellB hb5 (by omega)).trans g1
  replace r0 := (cellB hb5 (by omega)).trans r0
  replace r1 := (cellB hb5 (by omega)).trans r1
  replace r2 := (cellB hb5 (by omega)).trans r2
  replace m0 := (frozenB hb5 (by omega)).trans m0
  replace m1 := (frozenB hb5 (by omega)).trans m1
  replace m2 := (frozenB hb5 (by omega)).trans m2
  clear hf5
  dsimp only
  refine hK.out _ _ ⟨f0, f1, g1, g0, f2⟩ (fun hHeld => ?_)
  clear hK K
  refine wpAnyT_any (i := 17) (v := ?_) rfl (by kernel_rfl) (fun _ _ _ h => h) (Or.inl ⟨by rfl, ?_⟩) (by first | exact fun _ => by assumption | (intro hp; exact absurd hp (by rw [show pastB _ _ = true by kernel_rfl]; simp))) ?_
  rotate_left
  · (intro w hSw; (try dsimp only at hSw); go_simp <;> with_reducible rfl)
  try simp only [Act.put]
  refine wpAnyT_any (i := 18) (v := ?_) rfl (by kernel_rfl) (fun _ _ _ h => h) (Or.inl ⟨by rfl, ?_⟩) (by first | exact fun _ => by assumption | (intro hp; exact absurd hp (by rw [show pastB _ _ = true by kernel_rfl]; simp))) ?_
  rotate_left
  · (intro w hSw; (try dsimp only at hSw); go_simp <;> with_reducible rfl)
  try simp only [Act.put]
  obtain ⟨q0, q1, q2⟩ := set3_cells (x := .int .i64 (limV (conjF f g)).1) (y := .int .i64 (limV (conjF f g)).2.1) (z := .slice ad5 (limV (conjF f g)).2.2.length cap5) r0 r1 r2
  refine wpAnyT_last (i := 19) rfl (by kernel_rfl) (by kernel_rfl) (fun K hK => ?_)
  go_simp
  refine hK.out _ _ ?_
  clear hK K
  refine wpAnyT_any (i := 20) (v := ?_) rfl (by kernel_rfl) (fun _ _ _ h => h) (Or.inl ⟨by rfl, ?_⟩) (by first | exact fun _ => by assumption | (intro hp; exact absurd hp (by rw [show pastB _ _ = true by kernel_rfl]; simp))) ?_
  rotate_left
  · (intro w hSw; (try dsimp only at hSw); go_simp <;> with_reducible rfl)
  try simp only [Act.put]
  refine wpAnyT_done (by kernel_rfl) ?_ _
  go_simp
  go_wp2_with fail
  refine bodyPost_ret (v := .tuple #[.agg #[.int .i64 (limV (conjF f g)).1, .int .i64 (limV (conjF f g)).2.1, .slice ad5 (limV (conjF f g)).2.2.length cap5], .int .i64 (limC (conjF f g))]) (by simp [results, Try.results41, go_sem, q0, q1, q2]) rfl ⟨[.int .i64 (limV (conjF f g)).1, .int .i64 (limV (conjF f g)).2.1, .slice ad5 (limV (conjF f g)).2.2.length cap5], by rw [HR.out.2], ?_, ?_⟩
  · rw [HR.out.1]
    exact (HF5.out.set3 (by omega)).mono (by omega)
  · exact set3_below (hB2.trans ((hb3'.mono (by omega)).trans ((hb4.mono (by omega)).trans (hb5.mono (by omega))))) (by omega)
end Go.Proofs.Ytigclobkmocfkaa
