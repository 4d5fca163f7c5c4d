/-
  The law FnExactFirstApart, walked: its contract.
-/
import Derived.Test.YtbpjejhjlmpcjaaGreatS17
import Derived.Test.YtbpjejhjlmpcjaaGreatKM
import Derived.Test.YtbpjejhjlmpcjaaGreatKT
import Derived.Test.YtbpjejhjlmpcjaaGreatLoose2
namespace Go.Proofs.YtbpjejhjlmpcjaaGreat
open Go.RowKit Go.Sort
set_option maxHeartbeats 6400000 in
set_option maxRecDepth 100000 in
theorem fnExactFirstApart_any (w : World) {c0 : Array Value} {x0 : Int × List (Int × List (List Int))} (h0 : tplT.Rd w c0.toList x0) {c1 : Array Value} {x1 : Int × Int × List (Int × List Int)} (h1 : frmT.Rd w c1.toList x1) {c2 : Array Value} {x2 : Int × Int × List (Int × List Int)} (h2 : frmT.Rd w c2.toList x2) :
    Calls Tryz.prog 4 #[.agg c0, .agg c1, .agg c2] w fun e w' => e = .returned (.bool true) ∧ Below w.heap.size w w' := by
  have hx0 := h0
  obtain ⟨u0, hv0, -, hy0⟩ := pair_ex h0
  obtain rfl := agg_of hv0
  clear hv0 h0
  have hn0 := szTpl_nn x0
  have hcn0 : cntTpl x0 ≤ szTpl x0 := cntRels_sz x0.2
  have hcz0 : 0 ≤ cntTpl x0 := cntRels_nn x0.2
  have hx1 := h1
  obtain ⟨u1, hv1, -, -, hy1⟩ := trip_ex h1
  obtain rfl := agg_of hv1
  clear hv1 h1
  have hn1 := szFrm_nn x1
  have hcn1 : cntFrm x1 ≤ szFrm x1 := cntOps_sz x1.2.2
  have hcz1 : 0 ≤ cntFrm x1 := cntOps_nn x1.2.2
  have hx2 := h2
  obtain ⟨u2, hv2, -, -, hy2⟩ := trip_ex h2
  obtain rfl := agg_of hv2
  clear hv2 h2
  have hn2 := szFrm_nn x2
  have hcn2 : cntFrm x2 ≤ szFrm x2 := cntOps_sz x2.2.2
  have hcz2 : 0 ≤ cntFrm x2 := cntOps_nn x2.2.2
  have H_w : Below w.heap.size w w := Below.refl _ _
  go_enter Tryz.func4, Tryz.ntmps4
  go_wp2_with fail
  refine (szTemplate_any _ (hx0.below (by repeat (first | exact Below.refl _ _ | exact bA | assumption | refine Below.setCell ?_ (by first | omega | (simp; try omega)) _ | refine Below.alloc ?_ (by first | omega | (simp; try omega)) _ | refine Below.drew ?_ | refine bDN ?_ | refine bthen ?_ (by assumption)))) _ (by omega) (by omega)).mono ?_
  rintro e w1 ⟨rfl, hb1⟩
  have gw1 : Below w.heap.size w w1 := bthen (by repeat (first | exact Below.refl _ _ | exact bA | assumption | refine Below.setCell ?_ (by first | omega | (simp; try omega)) _ | refine Below.alloc ?_ (by first | omega | (simp; try omega)) _ | refine Below.drew ?_ | refine bDN ?_ | refine bthen ?_ (by assumption))) hb1
  have sw1 : w.heap.size + 3 ≤ w1.heap.size := by have := hb1.size; (try simp at this); omega
  have H_w1 : Below w.heap.size w w1 := bthen H_w gw1
  have f1 : w1.cell? ⟨w.heap.size, 0, none⟩ = some (.int .i64 x0.1) := by rw [(bcell hb1).1 _ _ (by first | omega | (simp; try omega))]; first | (simp; done) | simp [go_sem]
  have f2 : w1.cell? ⟨w.heap.size, 1, none⟩ = some (u0) := by rw [(bcell hb1).1 _ _ (by first | omega | (simp; try omega))]; first | (simp; done) | simp [go_sem]
  have f3 : w1.cell? ⟨w.heap.size + 1, 0, none⟩ = some (.int .i64 x1.1) := by rw [(bcell hb1).1 _ _ (by first | omega | (simp; try omega))]; first | (simp; done) | simp [go_sem]
  have f4 : w1.cell? ⟨w.heap.size + 1, 1, none⟩ = some (.int .i64 x1.2.1) := by rw [(bcell hb1).1 _ _ (by first | omega | (simp; try omega))]; first | (simp; done) | simp [go_sem]
  have f5 : w1.cell? ⟨w.heap.size + 1, 2, none⟩ = some (u1) := by rw [(bcell hb1).1 _ _ (by first | omega | (simp; try omega))]; first | (simp; done) | simp [go_sem]
  have f6 : w1.cell? ⟨w.heap.size + 2, 0, none⟩ = some (.int .i64 x2.1) := by rw [(bcell hb1).1 _ _ (by first | omega | (simp; try omega))]; first | (simp; done) | simp [go_sem]
  have f7 : w1.cell? ⟨w.heap.size + 2, 1, none⟩ = some (.int .i64 x2.2.1) := by rw [(bcell hb1).1 _ _ (by first | omega | (simp; try omega))]; first | (simp; done) | simp [go_sem]
  have f8 : w1.cell? ⟨w.heap.size + 2, 2, none⟩ = some (u2) := by rw [(bcell hb1).1 _ _ (by first | omega | (simp; try omega))]; first | (simp; done) | simp [go_sem]
  have z9 : w.heap.size < w1.heap.size := by omega
  have z10 : w.heap.size + 1 < w1.heap.size := by omega
  have z11 : w.heap.size + 2 < w1.heap.size := by omega
  clear hb1 gw1
  rcases ilt 1048576 (szTpl x0) with hl2 | hl2
  · rw [szR_lt hl2]
    go_wp2_with fail
    go_ret
    exact ⟨rfl, (by repeat (first | exact Below.refl _ _ | exact bA | assumption | refine Below.setCell ?_ (by first | omega | (simp; try omega)) _ | refine Below.alloc ?_ (by first | omega | (simp; try omega)) _ | refine Below.drew ?_ | refine bDN ?_ | refine bthen ?_ (by assumption)))⟩
  rw [szR_ge hl2]
  go_wp2_with fail
  refine (szFormula_any _ (hx1.below (by repeat (first | exact Below.refl _ _ | exact bA | assumption | refine Below.setCell ?_ (by first | omega | (simp; try omega)) _ | refine Below.alloc ?_ (by first | omega | (simp; try omega)) _ | refine Below.drew ?_ | refine bDN ?_ | refine bthen ?_ (by assumption)))) _ (by omega) (by omega)).mono ?_
  rintro e w2 ⟨rfl, hb2⟩
  have gw2 : Below w1.heap.size w1 w2 := bthen (by repeat (first | exact Below.refl _ _ | exact bA | assumption | refine Below.setCell ?_ (by first | omega | (simp; try omega)) _ | refine Below.alloc ?_ (by first | omega | (simp; try omega)) _ | refine Below.drew ?_ | refine bDN ?_ | refine bthen ?_ (by assumption))) hb2
  have sw2 : w1.heap.size + 0 ≤ w2.heap.size := by have := hb2.size; (try simp at this); omega
  have H_w2 : Below w.heap.size w w2 := bthen H_w1 gw2
  have f12 : w2.cell? ⟨w.heap.size, 0, none⟩ = some (.int .i64 x0.1) := (gw2.cell (by first | omega | (simp; try omega))).trans f1
  have f13 : w2.cell? ⟨w.heap.size, 1, none⟩ = some (u0) := (gw2.cell (by first | omega | (simp; try omega))).trans f2
  have f14 : w2.cell? ⟨w.heap.size + 1, 0, none⟩ = some (.int .i64 x1.1) := (gw2.cell (by first | omega | (simp; try omega))).trans f3
  have f15 : w2.cell? ⟨w.heap.size + 1, 1, none⟩ = some (.int .i64 x1.2.1) := (gw2.cell (by first | omega | (simp; try omega))).trans f4
  have f16 : w2.cell? ⟨w.heap.size + 1, 2, none⟩ = some (u1) := (gw2.cell (by first | omega | (simp; try omega))).trans f5
  have f17 : w2.cell? ⟨w.heap.size + 2, 0, none⟩ = some (.int .i64 x2.1) := (gw2.cell (by first | omega | (simp; try omega))).trans f6
  have f18 : w2.cell? ⟨w.heap.size + 2, 1, none⟩ = some (.int .i64 x2.2.1) := (gw2.cell (by first | omega | (simp; try omega))).trans f7
  have f19 : w2.cell? ⟨w.heap.size + 2, 2, none⟩ = some (u2) := (gw2.cell (by first | omega | (simp; try omega))).trans f8
  have z20 : w.heap.size < w2.heap.size := by omega
  have z21 : w.heap.size + 1 < w2.heap.size := by omega
  have z22 : w.heap.size + 2 < w2.heap.size := by omega
  clear hb2 H_w1 f1 f2 f3 f4 f5 f6 f7 f8 z9 z10 z11 gw2
  rcases ilt (1048576 - szTpl x0) (szFrm x1) with hl5 | hl5
  · rw [szR_lt hl5]
    go_wp2_with fail
    go_ret
    exact ⟨rfl, (by repeat (first | exact Below.refl _ _ | exact bA | assumption | refine Below.setCell ?_ (by first | omega | (simp; try omega)) _ | refine Below.alloc ?_ (by first | omega | (simp; try omega)) _ | refine Below.drew ?_ | refine bDN ?_ | refine bthen ?_ (by assumption)))⟩
  rw [szR_ge hl5]
  go_wp2_with fail
  refine (szFormula_any _ (hx2.below (by repeat (first | exact Below.refl _ _ | exact bA | assumption | refine Below.setCell ?_ (by first | omega | (simp; try omega)) _ | refine Below.alloc ?_ (by first | omega | (simp; try omega)) _ | refine Below.drew ?_ | refine bDN ?_ | refine bthen ?_ (by assumption)))) _ (by omega) (by omega)).mono ?_
  rintro e w3 ⟨rfl, hb3⟩
  have gw3 : Below w2.heap.size w2 w3 := bthen (by repeat (first | exact Below.refl _ _ | exact bA | assumption | refine Below.setCell ?_ (by first | omega | (simp; try omega)) _ | refine Below.alloc ?_ (by first | omega | (simp; try omega)) _ | refine Below.drew ?_ | refine bDN ?_ | refine bthen ?_ (by assumption))) hb3
  have sw3 : w2.heap.size + 0 ≤ w3.heap.size := by have := hb3.size; (try simp at this); omega
  have H_w3 : Below w.heap.size w w3 := bthen H_w2 gw3
  have f23 : w3.cell? ⟨w.heap.size, 0, none⟩ = some (.int .i64 x0.1) := (gw3.cell (by first | omega | (simp; try omega))).trans f12
  have f24 : w3.cell? ⟨w.heap.size, 1, none⟩ = some (u0) := (gw3.cell (by first | omega | (simp; try omega))).trans f13
  have f25 : w3.cell? ⟨w.heap.size + 1, 0, none⟩ = some (.int .i64 x1.1) := (gw3.cell (by first | omega | (simp; try omega))).trans f14
  have f26 : w3.cell? ⟨w.heap.size + 1, 1, none⟩ = some (.int .i64 x1.2.1) := (gw3.cell (by first | omega | (simp; try omega))).trans f15
  have f27 : w3.cell? ⟨w.heap.size + 1, 2, none⟩ = some (u1) := (gw3.cell (by first | omega | (simp; try omega))).trans f16
  have f28 : w3.cell? ⟨w.heap.size + 2, 0, none⟩ = some (.int .i64 x2.1) := (gw3.cell (by first | omega | (simp; try omega))).trans f17
  have f29 : w3.cell? ⟨w.heap.size + 2, 1, none⟩ = some (.int .i64 x2.2.1) := (gw3.cell (by first | omega | (simp; try omega))).trans f18
  have f30 : w3.cell? ⟨w.heap.size + 2, 2, none⟩ = some (u2) := (gw3.cell (by first | omega | (simp; try omega))).trans f19
  have z31 : w.heap.size < w3.heap.size := by omega
  have z32 : w.heap.size + 1 < w3.heap.size := by omega
  have z33 : w.heap.size + 2 < w3.heap.size := by omega
  clear hb3 H_w2 f12 f13 f14 f15 f16 f17 f18 f19 z20 z21 z22 gw3
  rcases ilt (1048576 - szTpl x0 - szFrm x1) (szFrm x2) with hl8 | hl8
  · rw [szR_lt hl8]
    go_wp2_with fail
    go_ret
    exact ⟨rfl, (by repeat (first | exact Below.refl _ _ | exact bA | assumption | refine Below.setCell ?_ (by first | omega | (simp; try omega)) _ | refine Below.alloc ?_ (by first | omega | (simp; try omega)) _ | refine Below.drew ?_ | refine bDN ?_ | refine bthen ?_ (by assumption)))⟩
  rw [szR_ge hl8]
  go_wp2_with fail
  have hcr1 : cntI (faV x0 x1 x2) ≤ 1000000000 := (Int.le_trans fa_cnt (by omega))
  have hcrz1 : 0 ≤ cntI (faV x0 x1 x2) := cntI_nn _
  refine wp_region_loose [exV (.agg #[.int .i64 x0.1, u0]), rdA tplT x0, exV (.agg #[.int .i64 x1.1, .int .i64 x1.2.1, u1]), rdA frmT x1, exV (.agg #[.int .i64 x2.1, .int .i64 x2.2.1, u2]), rdA frmT x2, frTS intsT w3.heap.size (faV x0 x1 x2) (.int .i64 (faC x0 x1 x2)), frTS intsT w3.heap.size (faV x0 x1 x2) (.int .i64 (faC x0 x1 x2)), frS intsT w3.heap.size (faV x0 x1 x2), exV (.int .i64 (faC x0 x1 x2)), frS intsT w3.heap.size (faV x0 x1 x2), exV (.int .i64 (faC x0 x1 x2))] (by kernel_rfl) (by kernel_rfl) ⟨st_exV, st_rdA, st_exV, st_rdA, st_exV, st_rdA, st_frTS, st_frTS, st_frS, st_exV, st_frS, st_exV, trivial⟩ ⟨?j11_0, ?j11_1, ?j11_2, ?j11_3, ?j11_4, ?j11_5, ?j11_6, ?j11_7, ?j11_8, ?j11_9, ?j11_10, ?j11_11, trivial⟩ ?hQ11
  case j11_0 =>
    intro a' w' hb hd
    have e0 : a'.tmps[3]?.getD undef = .pointer (some ⟨w.heap.size, 0, none⟩) := ev (slot_o hd 3 rfl rfl)
    have q : ∀ b o, b < w3.heap.size → w'.cell? ⟨b, o, none⟩ = w3.cell? ⟨b, o, none⟩ := (bcell hb).1
    go_simp
    exact ⟨Below.refl _ _, rfl⟩
  case j11_1 =>
    intro a' w' hb hd
    have e36 : a'.tmps[36]?.getD undef = .agg #[.int .i64 x0.1, u0] := ev (slot_w hd 36 (exV (.agg #[.int .i64 x0.1, u0])) rfl rfl)
    have r36 : tplT.Rd w3 (#[.int .i64 x0.1, u0] : Array Value).toList x0 := hx0.below H_w3
    have r36' := r36.below hb
    go_simp
    exact ⟨Below.refl _ _, (toTemplate_any w' r36' (by first | omega | (unfold szInts; omega))).mono fun e w'' ⟨cs, he, hf, hb⟩ => ⟨_, he, hb, cs, rfl, hf.rd⟩⟩
  case j11_2 =>
    intro a' w' hb hd
    have e0 : a'.tmps[4]?.getD undef = .pointer (some ⟨w.heap.size + 1, 0, none⟩) := ev (slot_o hd 4 rfl rfl)
    have q : ∀ b o, b < w3.heap.size → w'.cell? ⟨b, o, none⟩ = w3.cell? ⟨b, o, none⟩ := (bcell hb).1
    go_simp
    exact ⟨Below.refl _ _, rfl⟩
  case j11_3 =>
    intro a' w' hb hd
    have e38 : a'.tmps[38]?.getD undef = .agg #[.int .i64 x1.1, .int .i64 x1.2.1, u1] := ev (slot_w hd 38 (exV (.agg #[.int .i64 x1.1, .int .i64 x1.2.1, u1])) rfl rfl)
    have r38 : frmT.Rd w3 (#[.int .i64 x1.1, .int .i64 x1.2.1, u1] : Array Value).toList x1 := hx1.below H_w3
    have r38' := r38.below hb
    go_simp
    exact ⟨Below.refl _ _, (toFormula_any w' r38' (by first | omega | (unfold szInts; omega))).mono fun e w'' ⟨cs, he, hf, hb⟩ => ⟨_, he, hb, cs, rfl, hf.rd⟩⟩
  case j11_4 =>
    intro a' w' hb hd
    have e0 : a'.tmps[5]?.getD undef = .pointer (some ⟨w.heap.size + 2, 0, none⟩) := ev (slot_o hd 5 rfl rfl)
    have q : ∀ b o, b < w3.heap.size → w'.cell? ⟨b, o, none⟩ = w3.cell? ⟨b, o, none⟩ := (bcell hb).1
    go_simp
    exact ⟨Below.refl _ _, rfl⟩
  case j11_5 =>
    intro a' w' hb hd
    have e40 : a'.tmps[40]?.getD undef = .agg #[.int .i64 x2.1, .int .i64 x2.2.1, u2] := ev (slot_w hd 40 (exV (.agg #[.int .i64 x2.1, .int .i64 x2.2.1, u2])) rfl rfl)
    have r40 : frmT.Rd w3 (#[.int .i64 x2.1, .int .i64 x2.2.1, u2] : Array Value).toList x2 := hx2.below H_w3
    have r40' := r40.below hb
    go_simp
    exact ⟨Below.refl _ _, (toFormula_any w' r40' (by first | omega | (unfold szInts; omega))).mono fun e w'' ⟨cs, he, hf, hb⟩ => ⟨_, he, hb, cs, rfl, hf.rd⟩⟩
  case j11_6 =>
    intro a' w' hb hd
    have d37 := slot_w hd 37 (rdA tplT x0) rfl rfl
    obtain ⟨cs37, e37, hf37⟩ := d37
    have e37' := ev e37
    have d39 := slot_w hd 39 (rdA frmT x1) rfl rfl
    obtain ⟨cs39, e39, hf39⟩ := d39
    have e39' := ev e39
    have d41 := slot_w hd 41 (rdA frmT x2) rfl rfl
    obtain ⟨cs41, e41, hf41⟩ := d41
    have e41' := ev e41
    go_simp
    exact ⟨Below.refl _ _, (specFirstApart_any _ hf37 hf39 hf41).mono fun e w'' ⟨cs, he, hf, hb2⟩ => ⟨_, he, hb2, cs, rfl, hf.mono hb.size⟩⟩
  case j11_7 =>
    intro a' w' hb hd
    have d42 := slot_w hd 42 (frTS intsT w3.heap.size (faV x0 x1 x2) (.int .i64 (faC x0 x1 x2))) rfl rfl
    obtain ⟨cs42, e42, hf42⟩ := d42
    have e42' := ev e42
    go_simp
    exact ⟨Below.refl _ _, cs42, rfl, hf42⟩
  case j11_8 =>
    intro a' w' hb hd
    have d35 := slot_w hd 35 (frTS intsT w3.heap.size (faV x0 x1 x2) (.int .i64 (faC x0 x1 x2))) rfl rfl
    obtain ⟨cs35, e35, hf35⟩ := d35
    have e35' := ev e35
    go_simp
    exact ⟨Below.refl _ _, hf35⟩
  case j11_9 =>
    intro a' w' hb hd
    have d35 := slot_w hd 35 (frTS intsT w3.heap.size (faV x0 x1 x2) (.int .i64 (faC x0 x1 x2))) rfl rfl
    obtain ⟨cs35, e35, hf35⟩ := d35
    have e35' := ev e35
    go_simp
    exact ⟨Below.refl _ _, rfl⟩
  case j11_10 =>
    intro a' w' hb hd
    have d43 := slot_w hd 43 (frS intsT w3.heap.size (faV x0 x1 x2)) rfl rfl
    obtain ⟨ad43', cap43', e43⟩ := fr_slice d43
    rw [e43] at d43
    have hf43 := d43
    have e43' := ev e43
    go_simp
    exact ⟨Below.refl _ _, hf43⟩
  case j11_11 =>
    intro a' w' hb hd
    have e0 : a'.tmps[44]?.getD undef = .int .i64 (faC x0 x1 x2) := ev (slot_w hd 44 (exV (.int .i64 (faC x0 x1 x2))) rfl rfl)
    go_simp
    exact ⟨Below.refl _ _, rfl⟩
  intro vs11 w4 hb4 H0
  obtain ⟨v11_0, _, rfl, p0, H1⟩ := HAll_cons H0
  obtain ⟨v11_1, _, rfl, p1, H2⟩ := HAll_cons H1
  obtain ⟨v11_2, _, rfl, p2, H3⟩ := HAll_cons H2
  obtain ⟨v11_3, _, rfl, p3, H4⟩ := HAll_cons H3
  obtain ⟨v11_4, _, rfl, p4, H5⟩ := HAll_cons H4
  obtain ⟨v11_5, _, rfl, p5, H6⟩ := HAll_cons H5
  obtain ⟨v11_6, _, rfl, p6, H7⟩ := HAll_cons H6
  obtain ⟨v11_7, _, rfl, p7, H8⟩ := HAll_cons H7
  obtain ⟨v11_8, _, rfl, p8, H9⟩ := HAll_cons H8
  obtain ⟨v11_9, _, rfl, p9, H10⟩ := HAll_cons H9
  obtain ⟨v11_10, _, rfl, p10, H11⟩ := HAll_cons H10
  obtain ⟨v11_11, _, rfl, p11, H12⟩ := HAll_cons H11
  obtain rfl := HAll_nil H12
  obtain rfl := p0 rfl
  obtain rfl := p2 rfl
  obtain rfl := p4 rfl
  obtain rfl := p9 rfl
  obtain rfl := p11 rfl
  have hc34 := p10 rfl
  clear p0 p1 p2 p3 p4 p5 p6 p7 p8 p9 p10 p11 H0 H1 H2 H3 H4 H5 H6 H7 H8 H9 H10 H11 H12
  have gw4 : Below w3.heap.size w3 w4 := bthen (by repeat (first | exact Below.refl _ _ | exact bA | assumption | refine Below.setCell ?_ (by first | omega | (simp; try omega)) _ | refine Below.alloc ?_ (by first | omega | (simp; try omega)) _ | refine Below.drew ?_ | refine bDN ?_ | refine bthen ?_ (by assumption))) hb4
  have sw4 : w3.heap.size + 0 ≤ w4.heap.size := by have := hb4.size; (try simp at this); omega
  have H_w4 : Below w.heap.size w w4 := bthen H_w3 gw4
  have f35 : w4.cell? ⟨w.heap.size, 0, none⟩ = some (.int .i64 x0.1) := (gw4.cell (by first | omega | (simp; try omega))).trans f23
  have f36 : w4.cell? ⟨w.heap.size, 1, none⟩ = some (u0) := (gw4.cell (by first | omega | (simp; try omega))).trans f24
  have f37 : w4.cell? ⟨w.heap.size + 1, 0, none⟩ = some (.int .i64 x1.1) := (gw4.cell (by first | omega | (simp; try omega))).trans f25
  have f38 : w4.cell? ⟨w.heap.size + 1, 1, none⟩ = some (.int .i64 x1.2.1) := (gw4.cell (by first | omega | (simp; try omega))).trans f26
  have f39 : w4.cell? ⟨w.heap.size + 1, 2, none⟩ = some (u1) := (gw4.cell (by first | omega | (simp; try omega))).trans f27
  have f40 : w4.cell? ⟨w.heap.size + 2, 0, none⟩ = some (.int .i64 x2.1) := (gw4.cell (by first | omega | (simp; try omega))).trans f28
  have f41 : w4.cell? ⟨w.heap.size + 2, 1, none⟩ = some (.int .i64 x2.2.1) := (gw4.cell (by first | omega | (simp; try omega))).trans f29
  have f42 : w4.cell? ⟨w.heap.size + 2, 2, none⟩ = some (u2) := (gw4.cell (by first | omega | (simp; try omega))).trans f30
  have z43 : w.heap.size < w4.heap.size := by omega
  have z44 : w.heap.size + 1 < w4.heap.size := by omega
  have z45 : w.heap.size + 2 < w4.heap.size := by omega
  clear hb4 H_w3 f23 f24 f25 f26 f27 f28 f29 f30 z31 z32 z33 gw4
  obtain ⟨ad46, ad46', rfl⟩ := fr_slice hc34
  have d47 : intsT.Fx w3.heap.size w4.heap.size w4 [.slice ad46 (faV x0 x1 x2).length ad46'] (faV x0 x1 x2) := (Ty.Fr.mono hc34 (by first | exact Nat.le_refl _ | (simp; try omega))).fx
  clear hc34
  simp only [putAll, Act.put]
  go_simp
  go_wp2_with fail
  refine (toTemplate_any _ (hx0.below (by repeat (first | exact Below.refl _ _ | exact bA | assumption | refine Below.setCell ?_ (by first | omega | (simp; try omega)) _ | refine Below.alloc ?_ (by first | omega | (simp; try omega)) _ | refine Below.drew ?_ | refine bDN ?_ | refine bthen ?_ (by assumption)))) (by first | omega | (unfold szInts; omega))).mono ?_
  rintro e w5 ⟨cs, rfl, hc49, hb5⟩
  have gw5 : Below w4.heap.size w4 w5 := bthen (by repeat (first | exact Below.refl _ _ | exact bA | assumption | refine Below.setCell ?_ (by first | omega | (simp; try omega)) _ | refine Below.alloc ?_ (by first | omega | (simp; try omega)) _ | refine Below.drew ?_ | refine bDN ?_ | refine bthen ?_ (by assumption))) hb5
  have sw5 : w4.heap.size + 0 ≤ w5.heap.size := by have := hb5.size; (try simp at this); omega
  have H_w5 : Below w.heap.size w w5 := bthen H_w4 gw5
  have f50 : w5.cell? ⟨w.heap.size, 0, none⟩ = some (.int .i64 x0.1) := (gw5.cell (by first | omega | (simp; try omega))).trans f35
  have f51 : w5.cell? ⟨w.heap.size, 1, none⟩ = some (u0) := (gw5.cell (by first | omega | (simp; try omega))).trans f36
  have f52 : w5.cell? ⟨w.heap.size + 1, 0, none⟩ = some (.int .i64 x1.1) := (gw5.cell (by first | omega | (simp; try omega))).trans f37
  have f53 : w5.cell? ⟨w.heap.size + 1, 1, none⟩ = some (.int .i64 x1.2.1) := (gw5.cell (by first | omega | (simp; try omega))).trans f38
  have f54 : w5.cell? ⟨w.heap.size + 1, 2, none⟩ = some (u1) := (gw5.cell (by first | omega | (simp; try omega))).trans f39
  have f55 : w5.cell? ⟨w.heap.size + 2, 0, none⟩ = some (.int .i64 x2.1) := (gw5.cell (by first | omega | (simp; try omega))).trans f40
  have f56 : w5.cell? ⟨w.heap.size + 2, 1, none⟩ = some (.int .i64 x2.2.1) := (gw5.cell (by first | omega | (simp; try omega))).trans f41
  have f57 : w5.cell? ⟨w.heap.size + 2, 2, none⟩ = some (u2) := (gw5.cell (by first | omega | (simp; try omega))).trans f42
  have z58 : w.heap.size < w5.heap.size := by omega
  have z59 : w.heap.size + 1 < w5.heap.size := by omega
  have z60 : w.heap.size + 2 < w5.heap.size := by omega
  have d61 : intsT.Fx w3.heap.size w4.heap.size w5 [.slice ad46 (faV x0 x1 x2).length ad46'] (faV x0 x1 x2) := d47.below gw5
  clear hb5 H_w4 f35 f36 f37 f38 f39 f40 f41 f42 d47 z43 z44 z45 gw5
  obtain ⟨ad62, ad62', rfl⟩ := fr_pair hc49
  have d63 : tplT.Fx w4.heap.size w5.heap.size w5 [.int .i64 x0.1, .slice ad62 x0.2.length ad62'] x0 := (Ty.Fr.mono hc49 (by first | exact Nat.le_refl _ | (simp; try omega))).fx
  clear hc49
  go_wp2_with fail
  refine (toFormula_any _ (hx1.below (by repeat (first | exact Below.refl _ _ | exact bA | assumption | refine Below.setCell ?_ (by first | omega | (simp; try omega)) _ | refine Below.alloc ?_ (by first | omega | (simp; try omega)) _ | refine Below.drew ?_ | refine bDN ?_ | refine bthen ?_ (by assumption)))) (by first | omega | (unfold szInts; omega))).mono ?_
  rintro e w6 ⟨cs, rfl, hc65, hb6⟩
  have gw6 : Below w5.heap.size w5 w6 := bthen (by repeat (first | exact Below.refl _ _ | exact bA | assumption | refine Below.setCell ?_ (by first | omega | (simp; try omega)) _ | refine Below.alloc ?_ (by first | omega | (simp; try omega)) _ | refine Below.drew ?_ | refine bDN ?_ | refine bthen ?_ (by assumption))) hb6
  have sw6 : w5.heap.size + 1 ≤ w6.heap.size := by have := hb6.size; (try simp at this); omega
  have H_w6 : Below w.heap.size w w6 := bthen H_w5 gw6
  have f66 : w6.cell? ⟨w.heap.size, 0, none⟩ = some (.int .i64 x0.1) := (gw6.cell (by first | omega | (simp; try omega))).trans f50
  have f67 : w6.cell? ⟨w.heap.size, 1, none⟩ = some (u0) := (gw6.cell (by first | omega | (simp; try omega))).trans f51
  have f68 : w6.cell? ⟨w.heap.size + 1, 0, none⟩ = some (.int .i64 x1.1) := (gw6.cell (by first | omega | (simp; try omega))).trans f52
  have f69 : w6.cell? ⟨w.heap.size + 1, 1, none⟩ = some (.int .i64 x1.2.1) := (gw6.cell (by first | omega | (simp; try omega))).trans f53
  have f70 : w6.cell? ⟨w.heap.size + 1, 2, none⟩ = some (u1) := (gw6.cell (by first | omega | (simp; try omega))).trans f54
  have f71 : w6.cell? ⟨w.heap.size + 2, 0, none⟩ = some (.int .i64 x2.1) := (gw6.cell (by first | omega | (simp; try omega))).trans f55
  have f72 : w6.cell? ⟨w.heap.size + 2, 1, none⟩ = some (.int .i64 x2.2.1) := (gw6.cell (by first | omega | (simp; try omega))).trans f56
  have f73 : w6.cell? ⟨w.heap.size + 2, 2, none⟩ = some (u2) := (gw6.cell (by first | omega | (simp; try omega))).trans f57
  have f74 : w6.cell? ⟨w5.heap.size, 0, none⟩ = some (.int .i64 x0.1) := by rw [(bcell hb6).1 _ _ (by first | omega | (simp; try omega))]; first | (simp; done) | simp [go_sem]
  have f75 : w6.cell? ⟨w5.heap.size, 1, none⟩ = some (.slice ad62 x0.2.length ad62') := by rw [(bcell hb6).1 _ _ (by first | omega | (simp; try omega))]; first | (simp; done) | simp [go_sem]
  have z76 : w.heap.size < w6.heap.size := by omega
  have z77 : w.heap.size + 1 < w6.heap.size := by omega
  have z78 : w.heap.size + 2 < w6.heap.size := by omega
  have z79 : w5.heap.size < w6.heap.size := by omega
  have d80 : intsT.Fx w3.heap.size w4.heap.size w6 [.slice ad46 (faV x0 x1 x2).length ad46'] (faV x0 x1 x2) := d61.below gw6
  have d81 : tplT.Fx w4.heap.size w5.heap.size w6 [.int .i64 x0.1, .slice ad62 x0.2.length ad62'] x0 := d63.below gw6
  clear hb6 H_w5 f50 f51 f52 f53 f54 f55 f56 f57 d61 d63 z58 z59 z60 gw6
  obtain ⟨ad82, ad82', rfl⟩ := fr_trip hc65
  have d83 : frmT.Fx (w5.heap.size + 1) w6.heap.size w6 [.int .i64 x1.1, .int .i64 x1.2.1, .slice ad82 x1.2.2.length ad82'] x1 := (Ty.Fr.mono hc65 (by first | exact Nat.le_refl _ | (simp; try omega))).fx
  clear hc65
  go_wp2_with fail
  refine (toFormula_any _ (hx2.below (by repeat (first | exact Below.refl _ _ | exact bA | assumption | refine Below.setCell ?_ (by first | omega | (simp; try omega)) _ | refine Below.alloc ?_ (by first | omega | (simp; try omega)) _ | refine Below.drew ?_ | refine bDN ?_ | refine bthen ?_ (by assumption)))) (by first | omega | (unfold szInts; omega))).mono ?_
  rintro e w7 ⟨cs, rfl, hc85, hb7⟩
  have gw7 : Below w6.heap.size w6 w7 := bthen (by repeat (first | exact Below.refl _ _ | exact bA | assumption | refine Below.setCell ?_ (by first | omega | (simp; try omega)) _ | refine Below.alloc ?_ (by first | omega | (simp; try omega)) _ | refine Below.drew ?_ | refine bDN ?_ | refine bthen ?_ (by assumption))) hb7
  have sw7 : w6.heap.size + 1 ≤ w7.heap.size := by have := hb7.size; (try simp at this); omega
  have H_w7 : Below w.heap.size w w7 := bthen H_w6 gw7
  have f86 : w7.cell? ⟨w.heap.size, 0, none⟩ = some (.int .i64 x0.1) := (gw7.cell (by first | omega | (simp; try omega))).trans f66
  have f87 : w7.cell? ⟨w.heap.size, 1, none⟩ = some (u0) := (gw7.cell (by first | omega | (simp; try omega))).trans f67
  have f88 : w7.cell? ⟨w.heap.size + 1, 0, none⟩ = some (.int .i64 x1.1) := (gw7.cell (by first | omega | (simp; try omega))).trans f68
  have f89 : w7.cell? ⟨w.heap.size + 1, 1, none⟩ = some (.int .i64 x1.2.1) := (gw7.cell (by first | omega | (simp; try omega))).trans f69
  have f90 : w7.cell? ⟨w.heap.size + 1, 2, none⟩ = some (u1) := (gw7.cell (by first | omega | (simp; try omega))).trans f70
  have f91 : w7.cell? ⟨w.heap.size + 2, 0, none⟩ = some (.int .i64 x2.1) := (gw7.cell (by first | omega | (simp; try omega))).trans f71
  have f92 : w7.cell? ⟨w.heap.size + 2, 1, none⟩ = some (.int .i64 x2.2.1) := (gw7.cell (by first | omega | (simp; try omega))).trans f72
  have f93 : w7.cell? ⟨w.heap.size + 2, 2, none⟩ = some (u2) := (gw7.cell (by first | omega | (simp; try omega))).trans f73
  have f94 : w7.cell? ⟨w5.heap.size, 0, none⟩ = some (.int .i64 x0.1) := (gw7.cell (by first | omega | (simp; try omega))).trans f74
  have f95 : w7.cell? ⟨w5.heap.size, 1, none⟩ = some (.slice ad62 x0.2.length ad62') := (gw7.cell (by first | omega | (simp; try omega))).trans f75
  have f96 : w7.cell? ⟨w6.heap.size, 0, none⟩ = some (.int .i64 x1.1) := by rw [(bcell hb7).1 _ _ (by first | omega | (simp; try omega))]; first | (simp; done) | simp [go_sem]
  have f97 : w7.cell? ⟨w6.heap.size, 1, none⟩ = some (.int .i64 x1.2.1) := by rw [(bcell hb7).1 _ _ (by first | omega | (simp; try omega))]; first | (simp; done) | simp [go_sem]
  have f98 : w7.cell? ⟨w6.heap.size, 2, none⟩ = some (.slice ad82 x1.2.2.length ad82') := by rw [(bcell hb7).1 _ _ (by first | omega | (simp; try omega))]; first | (simp; done) | simp [go_sem]
  have z99 : w.heap.size < w7.heap.size := by omega
  have z100 : w.heap.size + 1 < w7.heap.size := by omega
  have z101 : w.heap.size + 2 < w7.heap.size := by omega
  have z102 : w5.heap.size < w7.heap.size := by omega
  have z103 : w6.heap.size < w7.heap.size := by omega
  have d104 : intsT.Fx w3.heap.size w4.heap.size w7 [.slice ad46 (faV x0 x1 x2).length ad46'] (faV x0 x1 x2) := d80.below gw7
  have d105 : tplT.Fx w4.heap.size w5.heap.size w7 [.int .i64 x0.1, .slice ad62 x0.2.length ad62'] x0 := d81.below gw7
  have d106 : frmT.Fx (w5.heap.size + 1) w6.heap.size w7 [.int .i64 x1.1, .int .i64 x1.2.1, .slice ad82 x1.2.2.length ad82'] x1 := d83.below gw7
  clear hb7 H_w6 f66 f67 f68 f69 f70 f71 f72 f73 f74 f75 d80 d81 d83 z76 z77 z78 z79 gw7
  obtain ⟨ad107, ad107', rfl⟩ := fr_trip hc85
  have d108 : frmT.Fx (w6.heap.size + 1) w7.heap.size w7 [.int .i64 x2.1, .int .i64 x2.2.1, .slice ad107 x2.2.2.length ad107'] x2 := (Ty.Fr.mono hc85 (by first | exact Nat.le_refl _ | (simp; try omega))).fx
  clear hc85
  go_wp2_with fail
  refine (FirstApart_any _ (d105.rd.below (by repeat (first | exact Below.refl _ _ | exact bA | assumption | refine Below.setCell ?_ (by first | omega | (simp; try omega)) _ | refine Below.alloc ?_ (by first | omega | (simp; try omega)) _ | refine Below.drew ?_ | refine bDN ?_ | refine bthen ?_ (by assumption)))) (d106.rd.below (by repeat (first | exact Below.refl _ _ | exact bA | assumption | refine Below.setCell ?_ (by first | omega | (simp; try omega)) _ | refine Below.alloc ?_ (by first | omega | (simp; try omega)) _ | refine Below.drew ?_ | refine bDN ?_ | refine bthen ?_ (by assumption)))) (d108.rd.below (by repeat (first | exact Below.refl _ _ | exact bA | assumption | refine Below.setCell ?_ (by first | omega | (simp; try omega)) _ | refine Below.alloc ?_ (by first | omega | (simp; try omega)) _ | refine Below.drew ?_ | refine bDN ?_ | refine bthen ?_ (by assumption))))).mono ?_
  rintro e w8 ⟨cs, rfl, hc110, hb8⟩
  have gw8 : Below w7.heap.size w7 w8 := bthen (by repeat (first | exact Below.refl _ _ | exact bA | assumption | refine Below.setCell ?_ (by first | omega | (simp; try omega)) _ | refine Below.alloc ?_ (by first | omega | (simp; try omega)) _ | refine Below.drew ?_ | refine bDN ?_ | refine bthen ?_ (by assumption))) hb8
  have sw8 : w7.heap.size + 1 ≤ w8.heap.size := by have := hb8.size; (try simp at this); omega
  have H_w8 : Below w.heap.size w w8 := bthen H_w7 gw8
  have f111 : w8.cell? ⟨w.heap.size, 0, none⟩ = some (.int .i64 x0.1) := (gw8.cell (by first | omega | (simp; try omega))).trans f86
  have f112 : w8.cell? ⟨w.heap.size, 1, none⟩ = some (u0) := (gw8.cell (by first | omega | (simp; try omega))).trans f87
  have f113 : w8.cell? ⟨w.heap.size + 1, 0, none⟩ = some (.int .i64 x1.1) := (gw8.cell (by first | omega | (simp; try omega))).trans f88
  have f114 : w8.cell? ⟨w.heap.size + 1, 1, none⟩ = some (.int .i64 x1.2.1) := (gw8.cell (by first | omega | (simp; try omega))).trans f89
  have f115 : w8.cell? ⟨w.heap.size + 1, 2, none⟩ = some (u1) := (gw8.cell (by first | omega | (simp; try omega))).trans f90
  have f116 : w8.cell? ⟨w.heap.size + 2, 0, none⟩ = some (.int .i64 x2.1) := (gw8.cell (by first | omega | (simp; try omega))).trans f91
  have f117 : w8.cell? ⟨w.heap.size + 2, 1, none⟩ = some (.int .i64 x2.2.1) := (gw8.cell (by first | omega | (simp; try omega))).trans f92
  have f118 : w8.cell? ⟨w.heap.size + 2, 2, none⟩ = some (u2) := (gw8.cell (by first | omega | (simp; try omega))).trans f93
  have f119 : w8.cell? ⟨w5.heap.size, 0, none⟩ = some (.int .i64 x0.1) := (gw8.cell (by first | omega | (simp; try omega))).trans f94
  have f120 : w8.cell? ⟨w5.heap.size, 1, none⟩ = some (.slice ad62 x0.2.length ad62') := (gw8.cell (by first | omega | (simp; try omega))).trans f95
  have f121 : w8.cell? ⟨w6.heap.size, 0, none⟩ = some (.int .i64 x1.1) := (gw8.cell (by first | omega | (simp; try omega))).trans f96
  have f122 : w8.cell? ⟨w6.heap.size, 1, none⟩ = some (.int .i64 x1.2.1) := (gw8.cell (by first | omega | (simp; try omega))).trans f97
  have f123 : w8.cell? ⟨w6.heap.size, 2, none⟩ = some (.slice ad82 x1.2.2.length ad82') := (gw8.cell (by first | omega | (simp; try omega))).trans f98
  have f124 : w8.cell? ⟨w7.heap.size, 0, none⟩ = some (.int .i64 x2.1) := by rw [(bcell hb8).1 _ _ (by first | omega | (simp; try omega))]; first | (simp; done) | simp [go_sem]
  have f125 : w8.cell? ⟨w7.heap.size, 1, none⟩ = some (.int .i64 x2.2.1) := by rw [(bcell hb8).1 _ _ (by first | omega | (simp; try omega))]; first | (simp; done) | simp [go_sem]
  have f126 : w8.cell? ⟨w7.heap.size, 2, none⟩ = some (.slice ad107 x2.2.2.length ad107') := by rw [(bcell hb8).1 _ _ (by first | omega | (simp; try omega))]; first | (simp; done) | simp [go_sem]
  have z127 : w.heap.size < w8.heap.size := by omega
  have z128 : w.heap.size + 1 < w8.heap.size := by omega
  have z129 : w.heap.size + 2 < w8.heap.size := by omega
  have z130 : w5.heap.size < w8.heap.size := by omega
  have z131 : w6.heap.size < w8.heap.size := by omega
  have z132 : w7.heap.size < w8.heap.size := by omega
  have d133 : intsT.Fx w3.heap.size w4.heap.size w8 [.slice ad46 (faV x0 x1 x2).length ad46'] (faV x0 x1 x2) := d104.below gw8
  have d134 : tplT.Fx w4.heap.size w5.heap.size w8 [.int .i64 x0.1, .slice ad62 x0.2.length ad62'] x0 := d105.below gw8
  have d135 : frmT.Fx (w5.heap.size + 1) w6.heap.size w8 [.int .i64 x1.1, .int .i64 x1.2.1, .slice ad82 x1.2.2.length ad82'] x1 := d106.below gw8
  have d136 : frmT.Fx (w6.heap.size + 1) w7.heap.size w8 [.int .i64 x2.1, .int .i64 x2.2.1, .slice ad107 x2.2.2.length ad107'] x2 := d108.below gw8
  clear hb8 H_w7 f86 f87 f88 f89 f90 f91 f92 f93 f94 f95 f96 f97 f98 d104 d105 d106 d108 z99 z100 z101 z102 z103 gw8
  obtain ⟨ad137, ad137', rfl⟩ := fr_slice hc110
  have d138 : intsT.Fx (w7.heap.size + 1) w8.heap.size w8 [.slice ad137 (faV x0 x1 x2).length ad137'] (faV x0 x1 x2) := (Ty.Fr.mono hc110 (by first | exact Nat.le_refl _ | (simp; try omega))).fx
  clear hc110
  go_wp2_with fail
  refine (eqInt64S_any _ (d138.rd.below (by repeat (first | exact Below.refl _ _ | exact bA | assumption | refine Below.setCell ?_ (by first | omega | (simp; try omega)) _ | refine Below.alloc ?_ (by first | omega | (simp; try omega)) _ | refine Below.drew ?_ | refine bDN ?_ | refine bthen ?_ (by assumption)))) (d133.rd.below (by repeat (first | exact Below.refl _ _ | exact bA | assumption | refine Below.setCell ?_ (by first | omega | (simp; try omega)) _ | refine Below.alloc ?_ (by first | omega | (simp; try omega)) _ | refine Below.drew ?_ | refine bDN ?_ | refine bthen ?_ (by assumption))))).mono ?_
  rintro e w9 ⟨rfl, hb9⟩
  have gw9 : Below w8.heap.size w8 w9 := bthen (by repeat (first | exact Below.refl _ _ | exact bA | assumption | refine Below.setCell ?_ (by first | omega | (simp; try omega)) _ | refine Below.alloc ?_ (by first | omega | (simp; try omega)) _ | refine Below.drew ?_ | refine bDN ?_ | refine bthen ?_ (by assumption))) hb9
  have sw9 : w8.heap.size + 0 ≤ w9.heap.size := by have := hb9.size; (try simp at this); omega
  have H_w9 : Below w.heap.size w w9 := bthen H_w8 gw9
  have f140 : w9.cell? ⟨w.heap.size, 0, none⟩ = some (.int .i64 x0.1) := (gw9.cell (by first | omega | (simp; try omega))).trans f111
  have f141 : w9.cell? ⟨w.heap.size, 1, none⟩ = some (u0) := (gw9.cell (by first | omega | (simp; try omega))).trans f112
  have f142 : w9.cell? ⟨w.heap.size + 1, 0, none⟩ = some (.int .i64 x1.1) := (gw9.cell (by first | omega | (simp; try omega))).trans f113
  have f143 : w9.cell? ⟨w.heap.size + 1, 1, none⟩ = some (.int .i64 x1.2.1) := (gw9.cell (by first | omega | (simp; try omega))).trans f114
  have f144 : w9.cell? ⟨w.heap.size + 1, 2, none⟩ = some (u1) := (gw9.cell (by first | omega | (simp; try omega))).trans f115
  have f145 : w9.cell? ⟨w.heap.size + 2, 0, none⟩ = some (.int .i64 x2.1) := (gw9.cell (by first | omega | (simp; try omega))).trans f116
  have f146 : w9.cell? ⟨w.heap.size + 2, 1, none⟩ = some (.int .i64 x2.2.1) := (gw9.cell (by first | omega | (simp; try omega))).trans f117
  have f147 : w9.cell? ⟨w.heap.size + 2, 2, none⟩ = some (u2) := (gw9.cell (by first | omega | (simp; try omega))).trans f118
  have f148 : w9.cell? ⟨w5.heap.size, 0, none⟩ = some (.int .i64 x0.1) := (gw9.cell (by first | omega | (simp; try omega))).trans f119
  have f149 : w9.cell? ⟨w5.heap.size, 1, none⟩ = some (.slice ad62 x0.2.length ad62') := (gw9.cell (by first | omega | (simp; try omega))).trans f120
  have f150 : w9.cell? ⟨w6.heap.size, 0, none⟩ = some (.int .i64 x1.1) := (gw9.cell (by first | omega | (simp; try omega))).trans f121
  have f151 : w9.cell? ⟨w6.heap.size, 1, none⟩ = some (.int .i64 x1.2.1) := (gw9.cell (by first | omega | (simp; try omega))).trans f122
  have f152 : w9.cell? ⟨w6.heap.size, 2, none⟩ = some (.slice ad82 x1.2.2.length ad82') := (gw9.cell (by first | omega | (simp; try omega))).trans f123
  have f153 : w9.cell? ⟨w7.heap.size, 0, none⟩ = some (.int .i64 x2.1) := (gw9.cell (by first | omega | (simp; try omega))).trans f124
  have f154 : w9.cell? ⟨w7.heap.size, 1, none⟩ = some (.int .i64 x2.2.1) := (gw9.cell (by first | omega | (simp; try omega))).trans f125
  have f155 : w9.cell? ⟨w7.heap.size, 2, none⟩ = some (.slice ad107 x2.2.2.length ad107') := (gw9.cell (by first | omega | (simp; try omega))).trans f126
  have z156 : w.heap.size < w9.heap.size := by omega
  have z157 : w.heap.size + 1 < w9.heap.size := by omega
  have z158 : w.heap.size + 2 < w9.heap.size := by omega
  have z159 : w5.heap.size < w9.heap.size := by omega
  have z160 : w6.heap.size < w9.heap.size := by omega
  have z161 : w7.heap.size < w9.heap.size := by omega
  have d162 : intsT.Fx w3.heap.size w4.heap.size w9 [.slice ad46 (faV x0 x1 x2).length ad46'] (faV x0 x1 x2) := d133.below gw9
  have d163 : tplT.Fx w4.heap.size w5.heap.size w9 [.int .i64 x0.1, .slice ad62 x0.2.length ad62'] x0 := d134.below gw9
  have d164 : frmT.Fx (w5.heap.size + 1) w6.heap.size w9 [.int .i64 x1.1, .int .i64 x1.2.1, .slice ad82 x1.2.2.length ad82'] x1 := d135.below gw9
  have d165 : frmT.Fx (w6.heap.size + 1) w7.heap.size w9 [.int .i64 x2.1, .int .i64 x2.2.1, .slice ad107 x2.2.2.length ad107'] x2 := d136.below gw9
  have d166 : intsT.Fx (w7.heap.size + 1) w8.heap.size w9 [.slice ad137 (faV x0 x1 x2).length ad137'] (faV x0 x1 x2) := d138.below gw9
  clear hb9 H_w8 f111 f112 f113 f114 f115 f116 f117 f118 f119 f120 f121 f122 f123 f124 f125 f126 d133 d134 d135 d136 d138 z127 z128 z129 z130 z131 z132 gw9
  rw [eqB_true rfl]
  go_wp2_with fail
  refine wp_region_loose [exV (.agg #[.int .i64 x0.1, .slice ad62 x0.2.length ad62']), exV (.agg #[.int .i64 x0.1, u0]), rdA tplT x0, exV (.bool true), exV (.bool false)] (by kernel_rfl) (by kernel_rfl) ⟨st_exV, st_exV, st_rdA, st_exV, st_exV, trivial⟩ ⟨?j18_0, ?j18_1, ?j18_2, ?j18_3, ?j18_4, trivial⟩ ?hQ18
  case j18_0 =>
    intro a' w' hb hd
    have e0 : a'.tmps[10]?.getD undef = .pointer (some ⟨w5.heap.size, 0, none⟩) := ev (slot_o hd 10 rfl rfl)
    have q : ∀ b o, b < w9.heap.size → w'.cell? ⟨b, o, none⟩ = w9.cell? ⟨b, o, none⟩ := (bcell hb).1
    go_simp
    exact ⟨Below.refl _ _, rfl⟩
  case j18_1 =>
    intro a' w' hb hd
    have e0 : a'.tmps[3]?.getD undef = .pointer (some ⟨w.heap.size, 0, none⟩) := ev (slot_o hd 3 rfl rfl)
    have q : ∀ b o, b < w9.heap.size → w'.cell? ⟨b, o, none⟩ = w9.cell? ⟨b, o, none⟩ := (bcell hb).1
    go_simp
    exact ⟨Below.refl _ _, rfl⟩
  case j18_2 =>
    intro a' w' hb hd
    have e68 : a'.tmps[68]?.getD undef = .agg #[.int .i64 x0.1, u0] := ev (slot_w hd 68 (exV (.agg #[.int .i64 x0.1, u0])) rfl rfl)
    have r68 : tplT.Rd w9 (#[.int .i64 x0.1, u0] : Array Value).toList x0 := hx0.below H_w9
    have r68' := r68.below hb
    go_simp
    exact ⟨Below.refl _ _, (toTemplate_any w' r68' (by first | omega | (unfold szInts; omega))).mono fun e w'' ⟨cs, he, hf, hb⟩ => ⟨_, he, hb, cs, rfl, hf.rd⟩⟩
  case j18_3 =>
    intro a' w' hb hd
    have e67 : a'.tmps[67]?.getD undef = .agg #[.int .i64 x0.1, .slice ad62 x0.2.length ad62'] := ev (slot_w hd 67 (exV (.agg #[.int .i64 x0.1, .slice ad62 x0.2.length ad62'])) rfl rfl)
    have r67 : tplT.Rd w9 (#[.int .i64 x0.1, .slice ad62 x0.2.length ad62'] : Array Value).toList x0 := d163.rd
    have r67' := r67.below hb
    have d69 := slot_w hd 69 (rdA tplT x0) rfl rfl
    obtain ⟨cs69, e69, hf69⟩ := d69
    have e69' := ev e69
    go_simp
    exact ⟨Below.refl _ _, (eqTemplate_any w' r67' hf69).mono fun e w'' ⟨he, hb⟩ => ⟨_, he, hb, exV_eqB⟩⟩
  case j18_4 =>
    intro a' w' hb hd
    have e0 : a'.tmps[70]?.getD undef = .bool true := ev (slot_w hd 70 (exV (.bool true)) rfl rfl)
    go_simp
    exact ⟨Below.refl _ _, rfl⟩
  intro vs18 w10 hb10 H0
  obtain ⟨v18_0, _, rfl, p0, H1⟩ := HAll_cons H0
  obtain ⟨v18_1, _, rfl, p1, H2⟩ := HAll_cons H1
  obtain ⟨v18_2, _, rfl, p2, H3⟩ := HAll_cons H2
  obtain ⟨v18_3, _, rfl, p3, H4⟩ := HAll_cons H3
  obtain ⟨v18_4, _, rfl, p4, H5⟩ := HAll_cons H4
  obtain rfl := HAll_nil H5
  obtain rfl := p0 rfl
  obtain rfl := p1 rfl
  obtain rfl := p3 rfl
  obtain rfl := p4 rfl
  clear p0 p1 p2 p3 p4 H0 H1 H2 H3 H4 H5
  have gw10 : Below w9.heap.size w9 w10 := bthen (by repeat (first | exact Below.refl _ _ | exact bA | assumption | refine Below.setCell ?_ (by first | omega | (simp; try omega)) _ | refine Below.alloc ?_ (by first | omega | (simp; try omega)) _ | refine Below.drew ?_ | refine bDN ?_ | refine bthen ?_ (by assumption))) hb10
  have sw10 : w9.heap.size + 0 ≤ w10.heap.size := by have := hb10.size; (try simp at this); omega
  have H_w10 : Below w.heap.size w w10 := bthen H_w9 gw10
  have f167 : w10.cell? ⟨w.heap.size, 0, none⟩ = some (.int .i64 x0.1) := (gw10.cell (by first | omega | (simp; try omega))).trans f140
  have f168 : w10.cell? ⟨w.heap.size, 1, none⟩ = some (u0) := (gw10.cell (by first | omega | (simp; try omega))).trans f141
  have f169 : w10.cell? ⟨w.heap.size + 1, 0, none⟩ = some (.int .i64 x1.1) := (gw10.cell (by first | omega | (simp; try omega))).trans f142
  have f170 : w10.cell? ⟨w.heap.size + 1, 1, none⟩ = some (.int .i64 x1.2.1) := (gw10.cell (by first | omega | (simp; try omega))).trans f143
  have f171 : w10.cell? ⟨w.heap.size + 1, 2, none⟩ = some (u1) := (gw10.cell (by first | omega | (simp; try omega))).trans f144
  have f172 : w10.cell? ⟨w.heap.size + 2, 0, none⟩ = some (.int .i64 x2.1) := (gw10.cell (by first | omega | (simp; try omega))).trans f145
  have f173 : w10.cell? ⟨w.heap.size + 2, 1, none⟩ = some (.int .i64 x2.2.1) := (gw10.cell (by first | omega | (simp; try omega))).trans f146
  have f174 : w10.cell? ⟨w.heap.size + 2, 2, none⟩ = some (u2) := (gw10.cell (by first | omega | (simp; try omega))).trans f147
  have f175 : w10.cell? ⟨w5.heap.size, 0, none⟩ = some (.int .i64 x0.1) := (gw10.cell (by first | omega | (simp; try omega))).trans f148
  have f176 : w10.cell? ⟨w5.heap.size, 1, none⟩ = some (.slice ad62 x0.2.length ad62') := (gw10.cell (by first | omega | (simp; try omega))).trans f149
  have f177 : w10.cell? ⟨w6.heap.size, 0, none⟩ = some (.int .i64 x1.1) := (gw10.cell (by first | omega | (simp; try omega))).trans f150
  have f178 : w10.cell? ⟨w6.heap.size, 1, none⟩ = some (.int .i64 x1.2.1) := (gw10.cell (by first | omega | (simp; try omega))).trans f151
  have f179 : w10.cell? ⟨w6.heap.size, 2, none⟩ = some (.slice ad82 x1.2.2.length ad82') := (gw10.cell (by first | omega | (simp; try omega))).trans f152
  have f180 : w10.cell? ⟨w7.heap.size, 0, none⟩ = some (.int .i64 x2.1) := (gw10.cell (by first | omega | (simp; try omega))).trans f153
  have f181 : w10.cell? ⟨w7.heap.size, 1, none⟩ = some (.int .i64 x2.2.1) := (gw10.cell (by first | omega | (simp; try omega))).trans f154
  have f182 : w10.cell? ⟨w7.heap.size, 2, none⟩ = some (.slice ad107 x2.2.2.length ad107') := (gw10.cell (by first | omega | (simp; try omega))).trans f155
  have z183 : w.heap.size < w10.heap.size := by omega
  have z184 : w.heap.size + 1 < w10.heap.size := by omega
  have z185 : w.heap.size + 2 < w10.heap.size := by omega
  have z186 : w5.heap.size < w10.heap.size := by omega
  have z187 : w6.heap.size < w10.heap.size := by omega
  have z188 : w7.heap.size < w10.heap.size := by omega
  have d189 : intsT.Fx w3.heap.size w4.heap.size w10 [.slice ad46 (faV x0 x1 x2).length ad46'] (faV x0 x1 x2) := d162.below gw10
  have d190 : tplT.Fx w4.heap.size w5.heap.size w10 [.int .i64 x0.1, .slice ad62 x0.2.length ad62'] x0 := d163.below gw10
  have d191 : frmT.Fx (w5.heap.size + 1) w6.heap.size w10 [.int .i64 x1.1, .int .i64 x1.2.1, .slice ad82 x1.2.2.length ad82'] x1 := d164.below gw10
  have d192 : frmT.Fx (w6.heap.size + 1) w7.heap.size w10 [.int .i64 x2.1, .int .i64 x2.2.1, .slice ad107 x2.2.2.length ad107'] x2 := d165.below gw10
  have d193 : intsT.Fx (w7.heap.size + 1) w8.heap.size w10 [.slice ad137 (faV x0 x1 x2).length ad137'] (faV x0 x1 x2) := d166.below gw10
  clear hb10 H_w9 f140 f141 f142 f143 f144 f145 f146 f147 f148 f149 f150 f151 f152 f153 f154 f155 d162 d163 d164 d165 d166 z156 z157 z158 z159 z160 z161 gw10
  simp only [putAll, Act.put]
  go_simp
  go_wp2_with fail
  refine wp_region_loose [exV (.agg #[.int .i64 x1.1, .int .i64 x1.2.1, .slice ad82 x1.2.2.length ad82']), exV (.agg #[.int .i64 x1.1, .int .i64 x1.2.1, u1]), rdA frmT x1, exV (.bool true), exV (.bool false)] (by kernel_rfl) (by kernel_rfl) ⟨st_exV, st_exV, st_rdA, st_exV, st_exV, trivial⟩ ⟨?j20_0, ?j20_1, ?j20_2, ?j20_3, ?j20_4, trivial⟩ ?hQ20
  case j20_0 =>
    intro a' w' hb hd
    have e0 : a'.tmps[11]?.getD undef = .pointer (some ⟨w6.heap.size, 0, none⟩) := ev (slot_o hd 11 rfl rfl)
    have q : ∀ b o, b < w10.heap.size → w'.cell? ⟨b, o, none⟩ = w10.cell? ⟨b, o, none⟩ := (bcell hb).1
    go_simp
    exact ⟨Below.refl _ _, rfl⟩
  case j20_1 =>
    intro a' w' hb hd
    have e0 : a'.tmps[4]?.getD undef = .pointer (some ⟨w.heap.size + 1, 0, none⟩) := ev (slot_o hd 4 rfl rfl)
    have q : ∀ b o, b < w10.heap.size → w'.cell? ⟨b, o, none⟩ = w10.cell? ⟨b, o, none⟩ := (bcell hb).1
    go_simp
    exact ⟨Below.refl _ _, rfl⟩
  case j20_2 =>
    intro a' w' hb hd
    have e73 : a'.tmps[73]?.getD undef = .agg #[.int .i64 x1.1, .int .i64 x1.2.1, u1] := ev (slot_w hd 73 (exV (.agg #[.int .i64 x1.1, .int .i64 x1.2.1, u1])) rfl rfl)
    have r73 : frmT.Rd w10 (#[.int .i64 x1.1, .int .i64 x1.2.1, u1] : Array Value).toList x1 := hx1.below H_w10
    have r73' := r73.below hb
    go_simp
    exact ⟨Below.refl _ _, (toFormula_any w' r73' (by first | omega | (unfold szInts; omega))).mono fun e w'' ⟨cs, he, hf, hb⟩ => ⟨_, he, hb, cs, rfl, hf.rd⟩⟩
  case j20_3 =>
    intro a' w' hb hd
    have e72 : a'.tmps[72]?.getD undef = .agg #[.int .i64 x1.1, .int .i64 x1.2.1, .slice ad82 x1.2.2.length ad82'] := ev (slot_w hd 72 (exV (.agg #[.int .i64 x1.1, .int .i64 x1.2.1, .slice ad82 x1.2.2.length ad82'])) rfl rfl)
    have r72 : frmT.Rd w10 (#[.int .i64 x1.1, .int .i64 x1.2.1, .slice ad82 x1.2.2.length ad82'] : Array Value).toList x1 := d191.rd
    have r72' := r72.below hb
    have d74 := slot_w hd 74 (rdA frmT x1) rfl rfl
    obtain ⟨cs74, e74, hf74⟩ := d74
    have e74' := ev e74
    go_simp
    exact ⟨Below.refl _ _, (eqFormula_any w' r72' hf74).mono fun e w'' ⟨he, hb⟩ => ⟨_, he, hb, exV_eqB⟩⟩
  case j20_4 =>
    intro a' w' hb hd
    have e0 : a'.tmps[75]?.getD undef = .bool true := ev (slot_w hd 75 (exV (.bool true)) rfl rfl)
    go_simp
    exact ⟨Below.refl _ _, rfl⟩
  intro vs20 w11 hb11 H0
  obtain ⟨v20_0, _, rfl, p0, H1⟩ := HAll_cons H0
  obtain ⟨v20_1, _, rfl, p1, H2⟩ := HAll_cons H1
  obtain ⟨v20_2, _, rfl, p2, H3⟩ := HAll_cons H2
  obtain ⟨v20_3, _, rfl, p3, H4⟩ := HAll_cons H3
  obtain ⟨v20_4, _, rfl, p4, H5⟩ := HAll_cons H4
  obtain rfl := HAll_nil H5
  obtain rfl := p0 rfl
  obtain rfl := p1 rfl
  obtain rfl := p3 rfl
  obtain rfl := p4 rfl
  clear p0 p1 p2 p3 p4 H0 H1 H2 H3 H4 H5
  have gw11 : Below w10.heap.size w10 w11 := bthen (by repeat (first | exact Below.refl _ _ | exact bA | assumption | refine Below.setCell ?_ (by first | omega | (simp; try omega)) _ | refine Below.alloc ?_ (by first | omega | (simp; try omega)) _ | refine Below.drew ?_ | refine bDN ?_ | refine bthen ?_ (by assumption))) hb11
  have sw11 : w10.heap.size + 0 ≤ w11.heap.size := by have := hb11.size; (try simp at this); omega
  have H_w11 : Below w.heap.size w w11 := bthen H_w10 gw11
  have f194 : w11.cell? ⟨w.heap.size, 0, none⟩ = some (.int .i64 x0.1) := (gw11.cell (by first | omega | (simp; try omega))).trans f167
  have f195 : w11.cell? ⟨w.heap.size, 1, none⟩ = some (u0) := (gw11.cell (by first | omega | (simp; try omega))).trans f168
  have f196 : w11.cell? ⟨w.heap.size + 1, 0, none⟩ = some (.int .i64 x1.1) := (gw11.cell (by first | omega | (simp; try omega))).trans f169
  have f197 : w11.cell? ⟨w.heap.size + 1, 1, none⟩ = some (.int .i64 x1.2.1) := (gw11.cell (by first | omega | (simp; try omega))).trans f170
  have f198 : w11.cell? ⟨w.heap.size + 1, 2, none⟩ = some (u1) := (gw11.cell (by first | omega | (simp; try omega))).trans f171
  have f199 : w11.cell? ⟨w.heap.size + 2, 0, none⟩ = some (.int .i64 x2.1) := (gw11.cell (by first | omega | (simp; try omega))).trans f172
  have f200 : w11.cell? ⟨w.heap.size + 2, 1, none⟩ = some (.int .i64 x2.2.1) := (gw11.cell (by first | omega | (simp; try omega))).trans f173
  have f201 : w11.cell? ⟨w.heap.size + 2, 2, none⟩ = some (u2) := (gw11.cell (by first | omega | (simp; try omega))).trans f174
  have f202 : w11.cell? ⟨w5.heap.size, 0, none⟩ = some (.int .i64 x0.1) := (gw11.cell (by first | omega | (simp; try omega))).trans f175
  have f203 : w11.cell? ⟨w5.heap.size, 1, none⟩ = some (.slice ad62 x0.2.length ad62') := (gw11.cell (by first | omega | (simp; try omega))).trans f176
  have f204 : w11.cell? ⟨w6.heap.size, 0, none⟩ = some (.int .i64 x1.1) := (gw11.cell (by first | omega | (simp; try omega))).trans f177
  have f205 : w11.cell? ⟨w6.heap.size, 1, none⟩ = some (.int .i64 x1.2.1) := (gw11.cell (by first | omega | (simp; try omega))).trans f178
  have f206 : w11.cell? ⟨w6.heap.size, 2, none⟩ = some (.slice ad82 x1.2.2.length ad82') := (gw11.cell (by first | omega | (simp; try omega))).trans f179
  have f207 : w11.cell? ⟨w7.heap.size, 0, none⟩ = some (.int .i64 x2.1) := (gw11.cell (by first | omega | (simp; try omega))).trans f180
  have f208 : w11.cell? ⟨w7.heap.size, 1, none⟩ = some (.int .i64 x2.2.1) := (gw11.cell (by first | omega | (simp; try omega))).trans f181
  have f209 : w11.cell? ⟨w7.heap.size, 2, none⟩ = some (.slice ad107 x2.2.2.length ad107') := (gw11.cell (by first | omega | (simp; try omega))).trans f182
  have z210 : w.heap.size < w11.heap.size := by omega
  have z211 : w.heap.size + 1 < w11.heap.size := by omega
  have z212 : w.heap.size + 2 < w11.heap.size := by omega
  have z213 : w5.heap.size < w11.heap.size := by omega
  have z214 : w6.heap.size < w11.heap.size := by omega
  have z215 : w7.heap.size < w11.heap.size := by omega
  have d216 : intsT.Fx w3.heap.size w4.heap.size w11 [.slice ad46 (faV x0 x1 x2).length ad46'] (faV x0 x1 x2) := d189.below gw11
  have d217 : tplT.Fx w4.heap.size w5.heap.size w11 [.int .i64 x0.1, .slice ad62 x0.2.length ad62'] x0 := d190.below gw11
  have d218 : frmT.Fx (w5.heap.size + 1) w6.heap.size w11 [.int .i64 x1.1, .int .i64 x1.2.1, .slice ad82 x1.2.2.length ad82'] x1 := d191.below gw11
  have d219 : frmT.Fx (w6.heap.size + 1) w7.heap.size w11 [.int .i64 x2.1, .int .i64 x2.2.1, .slice ad107 x2.2.2.length ad107'] x2 := d192.below gw11
  have d220 : intsT.Fx (w7.heap.size + 1) w8.heap.size w11 [.slice ad137 (faV x0 x1 x2).length ad137'] (faV x0 x1 x2) := d193.below gw11
  clear hb11 H_w10 f167 f168 f169 f170 f171 f172 f173 f174 f175 f176 f177 f178 f179 f180 f181 f182 d189 d190 d191 d192 d193 z183 z184 z185 z186 z187 z188 gw11
  simp only [putAll, Act.put]
  go_simp
  go_wp2_with fail
  refine wp_region_loose [exV (.agg #[.int .i64 x2.1, .int .i64 x2.2.1, .slice ad107 x2.2.2.length ad107']), exV (.agg #[.int .i64 x2.1, .int .i64 x2.2.1, u2]), rdA frmT x2, exV (.bool true), exV (.bool false)] (by kernel_rfl) (by kernel_rfl) ⟨st_exV, st_exV, st_rdA, st_exV, st_exV, trivial⟩ ⟨?j22_0, ?j22_1, ?j22_2, ?j22_3, ?j22_4, trivial⟩ ?hQ22
  case j22_0 =>
    intro a' w' hb hd
    have e0 : a'.tmps[12]?.getD undef = .pointer (some ⟨w7.heap.size, 0, none⟩) := ev (slot_o hd 12 rfl rfl)
    have q : ∀ b o, b < w11.heap.size → w'.cell? ⟨b, o, none⟩ = w11.cell? ⟨b, o, none⟩ := (bcell hb).1
    go_simp
    exact ⟨Below.refl _ _, rfl⟩
  case j22_1 =>
    intro a' w' hb hd
    have e0 : a'.tmps[5]?.getD undef = .pointer (some ⟨w.heap.size + 2, 0, none⟩) := ev (slot_o hd 5 rfl rfl)
    have q : ∀ b o, b < w11.heap.size → w'.cell? ⟨b, o, none⟩ = w11.cell? ⟨b, o, none⟩ := (bcell hb).1
    go_simp
    exact ⟨Below.refl _ _, rfl⟩
  case j22_2 =>
    intro a' w' hb hd
    have e78 : a'.tmps[78]?.getD undef = .agg #[.int .i64 x2.1, .int .i64 x2.2.1, u2] := ev (slot_w hd 78 (exV (.agg #[.int .i64 x2.1, .int .i64 x2.2.1, u2])) rfl rfl)
    have r78 : frmT.Rd w11 (#[.int .i64 x2.1, .int .i64 x2.2.1, u2] : Array Value).toList x2 := hx2.below H_w11
    have r78' := r78.below hb
    go_simp
    exact ⟨Below.refl _ _, (toFormula_any w' r78' (by first | omega | (unfold szInts; omega))).mono fun e w'' ⟨cs, he, hf, hb⟩ => ⟨_, he, hb, cs, rfl, hf.rd⟩⟩
  case j22_3 =>
    intro a' w' hb hd
    have e77 : a'.tmps[77]?.getD undef = .agg #[.int .i64 x2.1, .int .i64 x2.2.1, .slice ad107 x2.2.2.length ad107'] := ev (slot_w hd 77 (exV (.agg #[.int .i64 x2.1, .int .i64 x2.2.1, .slice ad107 x2.2.2.length ad107'])) rfl rfl)
    have r77 : frmT.Rd w11 (#[.int .i64 x2.1, .int .i64 x2.2.1, .slice ad107 x2.2.2.length ad107'] : Array Value).toList x2 := d219.rd
    have r77' := r77.below hb
    have d79 := slot_w hd 79 (rdA frmT x2) rfl rfl
    obtain ⟨cs79, e79, hf79⟩ := d79
    have e79' := ev e79
    go_simp
    exact ⟨Below.refl _ _, (eqFormula_any w' r77' hf79).mono fun e w'' ⟨he, hb⟩ => ⟨_, he, hb, exV_eqB⟩⟩
  case j22_4 =>
    intro a' w' hb hd
    have e0 : a'.tmps[80]?.getD undef = .bool true := ev (slot_w hd 80 (exV (.bool true)) rfl rfl)
    go_simp
    exact ⟨Below.refl _ _, rfl⟩
  intro vs22 w12 hb12 H0
  obtain ⟨v22_0, _, rfl, p0, H1⟩ := HAll_cons H0
  obtain ⟨v22_1, _, rfl, p1, H2⟩ := HAll_cons H1
  obtain ⟨v22_2, _, rfl, p2, H3⟩ := HAll_cons H2
  obtain ⟨v22_3, _, rfl, p3, H4⟩ := HAll_cons H3
  obtain ⟨v22_4, _, rfl, p4, H5⟩ := HAll_cons H4
  obtain rfl := HAll_nil H5
  obtain rfl := p0 rfl
  obtain rfl := p1 rfl
  obtain rfl := p3 rfl
  obtain rfl := p4 rfl
  clear p0 p1 p2 p3 p4 H0 H1 H2 H3 H4 H5
  have gw12 : Below w11.heap.size w11 w12 := bthen (by repeat (first | exact Below.refl _ _ | exact bA | assumption | refine Below.setCell ?_ (by first | omega | (simp; try omega)) _ | refine Below.alloc ?_ (by first | omega | (simp; try omega)) _ | refine Below.drew ?_ | refine bDN ?_ | refine bthen ?_ (by assumption))) hb12
  have sw12 : w11.heap.size + 0 ≤ w12.heap.size := by have := hb12.size; (try simp at this); omega
  have H_w12 : Below w.heap.size w w12 := bthen H_w11 gw12
  have f221 : w12.cell? ⟨w.heap.size, 0, none⟩ = some (.int .i64 x0.1) := (gw12.cell (by first | omega | (simp; try omega))).trans f194
  have f222 : w12.cell? ⟨w.heap.size, 1, none⟩ = some (u0) := (gw12.cell (by first | omega | (simp; try omega))).trans f195
  have f223 : w12.cell? ⟨w.heap.size + 1, 0, none⟩ = some (.int .i64 x1.1) := (gw12.cell (by first | omega | (simp; try omega))).trans f196
  have f224 : w12.cell? ⟨w.heap.size + 1, 1, none⟩ = some (.int .i64 x1.2.1) := (gw12.cell (by first | omega | (simp; try omega))).trans f197
  have f225 : w12.cell? ⟨w.heap.size + 1, 2, none⟩ = some (u1) := (gw12.cell (by first | omega | (simp; try omega))).trans f198
  have f226 : w12.cell? ⟨w.heap.size + 2, 0, none⟩ = some (.int .i64 x2.1) := (gw12.cell (by first | omega | (simp; try omega))).trans f199
  have f227 : w12.cell? ⟨w.heap.size + 2, 1, none⟩ = some (.int .i64 x2.2.1) := (gw12.cell (by first | omega | (simp; try omega))).trans f200
  have f228 : w12.cell? ⟨w.heap.size + 2, 2, none⟩ = some (u2) := (gw12.cell (by first | omega | (simp; try omega))).trans f201
  have f229 : w12.cell? ⟨w5.heap.size, 0, none⟩ = some (.int .i64 x0.1) := (gw12.cell (by first | omega | (simp; try omega))).trans f202
  have f230 : w12.cell? ⟨w5.heap.size, 1, none⟩ = some (.slice ad62 x0.2.length ad62') := (gw12.cell (by first | omega | (simp; try omega))).trans f203
  have f231 : w12.cell? ⟨w6.heap.size, 0, none⟩ = some (.int .i64 x1.1) := (gw12.cell (by first | omega | (simp; try omega))).trans f204
  have f232 : w12.cell? ⟨w6.heap.size, 1, none⟩ = some (.int .i64 x1.2.1) := (gw12.cell (by first | omega | (simp; try omega))).trans f205
  have f233 : w12.cell? ⟨w6.heap.size, 2, none⟩ = some (.slice ad82 x1.2.2.length ad82') := (gw12.cell (by first | omega | (simp; try omega))).trans f206
  have f234 : w12.cell? ⟨w7.heap.size, 0, none⟩ = some (.int .i64 x2.1) := (gw12.cell (by first | omega | (simp; try omega))).trans f207
  have f235 : w12.cell? ⟨w7.heap.size, 1, none⟩ = some (.int .i64 x2.2.1) := (gw12.cell (by first | omega | (simp; try omega))).trans f208
  have f236 : w12.cell? ⟨w7.heap.size, 2, none⟩ = some (.slice ad107 x2.2.2.length ad107') := (gw12.cell (by first | omega | (simp; try omega))).trans f209
  have z237 : w.heap.size < w12.heap.size := by omega
  have z238 : w.heap.size + 1 < w12.heap.size := by omega
  have z239 : w.heap.size + 2 < w12.heap.size := by omega
  have z240 : w5.heap.size < w12.heap.size := by omega
  have z241 : w6.heap.size < w12.heap.size := by omega
  have z242 : w7.heap.size < w12.heap.size := by omega
  have d243 : intsT.Fx w3.heap.size w4.heap.size w12 [.slice ad46 (faV x0 x1 x2).length ad46'] (faV x0 x1 x2) := d216.below gw12
  have d244 : tplT.Fx w4.heap.size w5.heap.size w12 [.int .i64 x0.1, .slice ad62 x0.2.length ad62'] x0 := d217.below gw12
  have d245 : frmT.Fx (w5.heap.size + 1) w6.heap.size w12 [.int .i64 x1.1, .int .i64 x1.2.1, .slice ad82 x1.2.2.length ad82'] x1 := d218.below gw12
  have d246 : frmT.Fx (w6.heap.size + 1) w7.heap.size w12 [.int .i64 x2.1, .int .i64 x2.2.1, .slice ad107 x2.2.2.length ad107'] x2 := d219.below gw12
  have d247 : intsT.Fx (w7.heap.size + 1) w8.heap.size w12 [.slice ad137 (faV x0 x1 x2).length ad137'] (faV x0 x1 x2) := d220.below gw12
  clear hb12 H_w11 f194 f195 f196 f197 f198 f199 f200 f201 f202 f203 f204 f205 f206 f207 f208 f209 d216 d217 d218 d219 d220 z210 z211 z212 z213 z214 z215 gw12
  simp only [putAll, Act.put]
  go_simp
  go_wp2_with fail
  refine (markTemplate_fx _ d244 _ (by omega) (by omega)).mono ?_
  rintro e w13 ⟨rfl, hb13, d248⟩
  clear d244
  have sw13 : w12.heap.size ≤ w13.heap.size := hb13.size
  have H_w13 : Below w.heap.size w w13 := below_tch H_w12 hb13 (by omega) (by omega)
  have f249 : w13.cell? ⟨w.heap.size, 0, none⟩ = some (.int .i64 x0.1) := (hb13.cell (by omega) (by omega)).trans f221
  have f250 : w13.cell? ⟨w.heap.size, 1, none⟩ = some (u0) := (hb13.cell (by omega) (by omega)).trans f222
  have f251 : w13.cell? ⟨w.heap.size + 1, 0, none⟩ = some (.int .i64 x1.1) := (hb13.cell (by omega) (by omega)).trans f223
  have f252 : w13.cell? ⟨w.heap.size + 1, 1, none⟩ = some (.int .i64 x1.2.1) := (hb13.cell (by omega) (by omega)).trans f224
  have f253 : w13.cell? ⟨w.heap.size + 1, 2, none⟩ = some (u1) := (hb13.cell (by omega) (by omega)).trans f225
  have f254 : w13.cell? ⟨w.heap.size + 2, 0, none⟩ = some (.int .i64 x2.1) := (hb13.cell (by omega) (by omega)).trans f226
  have f255 : w13.cell? ⟨w.heap.size + 2, 1, none⟩ = some (.int .i64 x2.2.1) := (hb13.cell (by omega) (by omega)).trans f227
  have f256 : w13.cell? ⟨w.heap.size + 2, 2, none⟩ = some (u2) := (hb13.cell (by omega) (by omega)).trans f228
  have f257 : w13.cell? ⟨w5.heap.size, 0, none⟩ = some (.int .i64 x0.1) := (hb13.cell (by omega) (by omega)).trans f229
  have f258 : w13.cell? ⟨w5.heap.size, 1, none⟩ = some (.slice ad62 x0.2.length ad62') := (hb13.cell (by omega) (by omega)).trans f230
  have f259 : w13.cell? ⟨w6.heap.size, 0, none⟩ = some (.int .i64 x1.1) := (hb13.cell (by omega) (by omega)).trans f231
  have f260 : w13.cell? ⟨w6.heap.size, 1, none⟩ = some (.int .i64 x1.2.1) := (hb13.cell (by omega) (by omega)).trans f232
  have f261 : w13.cell? ⟨w6.heap.size, 2, none⟩ = some (.slice ad82 x1.2.2.length ad82') := (hb13.cell (by omega) (by omega)).trans f233
  have f262 : w13.cell? ⟨w7.heap.size, 0, none⟩ = some (.int .i64 x2.1) := (hb13.cell (by omega) (by omega)).trans f234
  have f263 : w13.cell? ⟨w7.heap.size, 1, none⟩ = some (.int .i64 x2.2.1) := (hb13.cell (by omega) (by omega)).trans f235
  have f264 : w13.cell? ⟨w7.heap.size, 2, none⟩ = some (.slice ad107 x2.2.2.length ad107') := (hb13.cell (by omega) (by omega)).trans f236
  have z265 : w.heap.size < w13.heap.size := by omega
  have z266 : w.heap.size + 1 < w13.heap.size := by omega
  have z267 : w.heap.size + 2 < w13.heap.size := by omega
  have z268 : w5.heap.size < w13.heap.size := by omega
  have z269 : w6.heap.size < w13.heap.size := by omega
  have z270 : w7.heap.size < w13.heap.size := by omega
  have d271 : intsT.Fx w3.heap.size w4.heap.size w13 [.slice ad46 (faV x0 x1 x2).length ad46'] (faV x0 x1 x2) := d243.tch hb13 (by omega)
  have d272 : frmT.Fx (w5.heap.size + 1) w6.heap.size w13 [.int .i64 x1.1, .int .i64 x1.2.1, .slice ad82 x1.2.2.length ad82'] x1 := d245.tch hb13 (by omega)
  have d273 : frmT.Fx (w6.heap.size + 1) w7.heap.size w13 [.int .i64 x2.1, .int .i64 x2.2.1, .slice ad107 x2.2.2.length ad107'] x2 := d246.tch hb13 (by omega)
  have d274 : intsT.Fx (w7.heap.size + 1) w8.heap.size w13 [.slice ad137 (faV x0 x1 x2).length ad137'] (faV x0 x1 x2) := d247.tch hb13 (by omega)
  clear hb13 H_w12 f221 f222 f223 f224 f225 f226 f227 f228 f229 f230 f231 f232 f233 f234 f235 f236 d243 d245 d246 d247 z237 z238 z239 z240 z241 z242
  have hk275 : 0 ≤ (1 + cntTpl x0) := by omega
  go_wp2_with fail
  refine (markFormula_fx _ d272 _ (by omega) (by omega)).mono ?_
  rintro e w14 ⟨rfl, hb14, d276⟩
  clear d272
  have sw14 : w13.heap.size ≤ w14.heap.size := hb14.size
  have H_w14 : Below w.heap.size w w14 := below_tch H_w13 hb14 (by omega) (by omega)
  have f277 : w14.cell? ⟨w.heap.size, 0, none⟩ = some (.int .i64 x0.1) := (hb14.cell (by omega) (by omega)).trans f249
  have f278 : w14.cell? ⟨w.heap.size, 1, none⟩ = some (u0) := (hb14.cell (by omega) (by omega)).trans f250
  have f279 : w14.cell? ⟨w.heap.size + 1, 0, none⟩ = some (.int .i64 x1.1) := (hb14.cell (by omega) (by omega)).trans f251
  have f280 : w14.cell? ⟨w.heap.size + 1, 1, none⟩ = some (.int .i64 x1.2.1) := (hb14.cell (by omega) (by omega)).trans f252
  have f281 : w14.cell? ⟨w.heap.size + 1, 2, none⟩ = some (u1) := (hb14.cell (by omega) (by omega)).trans f253
  have f282 : w14.cell? ⟨w.heap.size + 2, 0, none⟩ = some (.int .i64 x2.1) := (hb14.cell (by omega) (by omega)).trans f254
  have f283 : w14.cell? ⟨w.heap.size + 2, 1, none⟩ = some (.int .i64 x2.2.1) := (hb14.cell (by omega) (by omega)).trans f255
  have f284 : w14.cell? ⟨w.heap.size + 2, 2, none⟩ = some (u2) := (hb14.cell (by omega) (by omega)).trans f256
  have f285 : w14.cell? ⟨w5.heap.size, 0, none⟩ = some (.int .i64 x0.1) := (hb14.cell (by omega) (by omega)).trans f257
  have f286 : w14.cell? ⟨w5.heap.size, 1, none⟩ = some (.slice ad62 x0.2.length ad62') := (hb14.cell (by omega) (by omega)).trans f258
  have f287 : w14.cell? ⟨w6.heap.size, 0, none⟩ = some (.int .i64 x1.1) := (hb14.cell (by omega) (by omega)).trans f259
  have f288 : w14.cell? ⟨w6.heap.size, 1, none⟩ = some (.int .i64 x1.2.1) := (hb14.cell (by omega) (by omega)).trans f260
  have f289 : w14.cell? ⟨w6.heap.size, 2, none⟩ = some (.slice ad82 x1.2.2.length ad82') := (hb14.cell (by omega) (by omega)).trans f261
  have f290 : w14.cell? ⟨w7.heap.size, 0, none⟩ = some (.int .i64 x2.1) := (hb14.cell (by omega) (by omega)).trans f262
  have f291 : w14.cell? ⟨w7.heap.size, 1, none⟩ = some (.int .i64 x2.2.1) := (hb14.cell (by omega) (by omega)).trans f263
  have f292 : w14.cell? ⟨w7.heap.size, 2, none⟩ = some (.slice ad107 x2.2.2.length ad107') := (hb14.cell (by omega) (by omega)).trans f264
  have z293 : w.heap.size < w14.heap.size := by omega
  have z294 : w.heap.size + 1 < w14.heap.size := by omega
  have z295 : w.heap.size + 2 < w14.heap.size := by omega
  have z296 : w5.heap.size < w14.heap.size := by omega
  have z297 : w6.heap.size < w14.heap.size := by omega
  have z298 : w7.heap.size < w14.heap.size := by omega
  have d299 : intsT.Fx w3.heap.size w4.heap.size w14 [.slice ad46 (faV x0 x1 x2).length ad46'] (faV x0 x1 x2) := d271.tch hb14 (by omega)
  have d300 : tplT.Fx w4.heap.size w5.heap.size w14 [.int .i64 x0.1, .slice ad62 x0.2.length ad62'] (mkTpl 1 x0) := d248.tch hb14 (by omega)
  have d301 : frmT.Fx (w6.heap.size + 1) w7.heap.size w14 [.int .i64 x2.1, .int .i64 x2.2.1, .slice ad107 x2.2.2.length ad107'] x2 := d273.tch hb14 (by omega)
  have d302 : intsT.Fx (w7.heap.size + 1) w8.heap.size w14 [.slice ad137 (faV x0 x1 x2).length ad137'] (faV x0 x1 x2) := d274.tch hb14 (by omega)
  clear hb14 H_w13 f249 f250 f251 f252 f253 f254 f255 f256 f257 f258 f259 f260 f261 f262 f263 f264 d271 d248 d273 d274 z265 z266 z267 z268 z269 z270
  have hk303 : 0 ≤ ((1 + cntTpl x0) + cntFrm x1) := by omega
  go_wp2_with fail
  refine (markFormula_fx _ d301 _ (by omega) (by omega)).mono ?_
  rintro e w15 ⟨rfl, hb15, d304⟩
  clear d301
  have sw15 : w14.heap.size ≤ w15.heap.size := hb15.size
  have H_w15 : Below w.heap.size w w15 := below_tch H_w14 hb15 (by omega) (by omega)
  have f305 : w15.cell? ⟨w.heap.size, 0, none⟩ = some (.int .i64 x0.1) := (hb15.cell (by omega) (by omega)).trans f277
  have f306 : w15.cell? ⟨w.heap.size, 1, none⟩ = some (u0) := (hb15.cell (by omega) (by omega)).trans f278
  have f307 : w15.cell? ⟨w.heap.size + 1, 0, none⟩ = some (.int .i64 x1.1) := (hb15.cell (by omega) (by omega)).trans f279
  have f308 : w15.cell? ⟨w.heap.size + 1, 1, none⟩ = some (.int .i64 x1.2.1) := (hb15.cell (by omega) (by omega)).trans f280
  have f309 : w15.cell? ⟨w.heap.size + 1, 2, none⟩ = some (u1) := (hb15.cell (by omega) (by omega)).trans f281
  have f310 : w15.cell? ⟨w.heap.size + 2, 0, none⟩ = some (.int .i64 x2.1) := (hb15.cell (by omega) (by omega)).trans f282
  have f311 : w15.cell? ⟨w.heap.size + 2, 1, none⟩ = some (.int .i64 x2.2.1) := (hb15.cell (by omega) (by omega)).trans f283
  have f312 : w15.cell? ⟨w.heap.size + 2, 2, none⟩ = some (u2) := (hb15.cell (by omega) (by omega)).trans f284
  have f313 : w15.cell? ⟨w5.heap.size, 0, none⟩ = some (.int .i64 x0.1) := (hb15.cell (by omega) (by omega)).trans f285
  have f314 : w15.cell? ⟨w5.heap.size, 1, none⟩ = some (.slice ad62 x0.2.length ad62') := (hb15.cell (by omega) (by omega)).trans f286
  have f315 : w15.cell? ⟨w6.heap.size, 0, none⟩ = some (.int .i64 x1.1) := (hb15.cell (by omega) (by omega)).trans f287
  have f316 : w15.cell? ⟨w6.heap.size, 1, none⟩ = some (.int .i64 x1.2.1) := (hb15.cell (by omega) (by omega)).trans f288
  have f317 : w15.cell? ⟨w6.heap.size, 2, none⟩ = some (.slice ad82 x1.2.2.length ad82') := (hb15.cell (by omega) (by omega)).trans f289
  have f318 : w15.cell? ⟨w7.heap.size, 0, none⟩ = some (.int .i64 x2.1) := (hb15.cell (by omega) (by omega)).trans f290
  have f319 : w15.cell? ⟨w7.heap.size, 1, none⟩ = some (.int .i64 x2.2.1) := (hb15.cell (by omega) (by omega)).trans f291
  have f320 : w15.cell? ⟨w7.heap.size, 2, none⟩ = some (.slice ad107 x2.2.2.length ad107') := (hb15.cell (by omega) (by omega)).trans f292
  have z321 : w.heap.size < w15.heap.size := by omega
  have z322 : w.heap.size + 1 < w15.heap.size := by omega
  have z323 : w.heap.size + 2 < w15.heap.size := by omega
  have z324 : w5.heap.size < w15.heap.size := by omega
  have z325 : w6.heap.size < w15.heap.size := by omega
  have z326 : w7.heap.size < w15.heap.size := by omega
  have d327 : intsT.Fx w3.heap.size w4.heap.size w15 [.slice ad46 (faV x0 x1 x2).length ad46'] (faV x0 x1 x2) := d299.tch hb15 (by omega)
  have d328 : tplT.Fx w4.heap.size w5.heap.size w15 [.int .i64 x0.1, .slice ad62 x0.2.length ad62'] (mkTpl 1 x0) := d300.tch hb15 (by omega)
  have d329 : frmT.Fx (w5.heap.size + 1) w6.heap.size w15 [.int .i64 x1.1, .int .i64 x1.2.1, .slice ad82 x1.2.2.length ad82'] (mkFrm (1 + cntTpl x0) x1) := d276.tch hb15 (by omega)
  have d330 : intsT.Fx (w7.heap.size + 1) w8.heap.size w15 [.slice ad137 (faV x0 x1 x2).length ad137'] (faV x0 x1 x2) := d302.tch hb15 (by omega)
  clear hb15 H_w14 f277 f278 f279 f280 f281 f282 f283 f284 f285 f286 f287 f288 f289 f290 f291 f292 d299 d300 d276 d302 z293 z294 z295 z296 z297 z298
  have hk331 : 0 ≤ (((1 + cntTpl x0) + cntFrm x1) + cntFrm x2) := by omega
  go_wp2_with fail
  refine (eqInt64S_any _ (d330.rd.below (by repeat (first | exact Below.refl _ _ | exact bA | assumption | refine Below.setCell ?_ (by first | omega | (simp; try omega)) _ | refine Below.alloc ?_ (by first | omega | (simp; try omega)) _ | refine Below.drew ?_ | refine bDN ?_ | refine bthen ?_ (by assumption)))) (d327.rd.below (by repeat (first | exact Below.refl _ _ | exact bA | assumption | refine Below.setCell ?_ (by first | omega | (simp; try omega)) _ | refine Below.alloc ?_ (by first | omega | (simp; try omega)) _ | refine Below.drew ?_ | refine bDN ?_ | refine bthen ?_ (by assumption))))).mono ?_
  rintro e w16 ⟨rfl, hb16⟩
  have gw16 : Below w15.heap.size w15 w16 := bthen (by repeat (first | exact Below.refl _ _ | exact bA | assumption | refine Below.setCell ?_ (by first | omega | (simp; try omega)) _ | refine Below.alloc ?_ (by first | omega | (simp; try omega)) _ | refine Below.drew ?_ | refine bDN ?_ | refine bthen ?_ (by assumption))) hb16
  have sw16 : w15.heap.size + 0 ≤ w16.heap.size := by have := hb16.size; (try simp at this); omega
  have H_w16 : Below w.heap.size w w16 := bthen H_w15 gw16
  have f332 : w16.cell? ⟨w.heap.size, 0, none⟩ = some (.int .i64 x0.1) := (gw16.cell (by first | omega | (simp; try omega))).trans f305
  have f333 : w16.cell? ⟨w.heap.size, 1, none⟩ = some (u0) := (gw16.cell (by first | omega | (simp; try omega))).trans f306
  have f334 : w16.cell? ⟨w.heap.size + 1, 0, none⟩ = some (.int .i64 x1.1) := (gw16.cell (by first | omega | (simp; try omega))).trans f307
  have f335 : w16.cell? ⟨w.heap.size + 1, 1, none⟩ = some (.int .i64 x1.2.1) := (gw16.cell (by first | omega | (simp; try omega))).trans f308
  have f336 : w16.cell? ⟨w.heap.size + 1, 2, none⟩ = some (u1) := (gw16.cell (by first | omega | (simp; try omega))).trans f309
  have f337 : w16.cell? ⟨w.heap.size + 2, 0, none⟩ = some (.int .i64 x2.1) := (gw16.cell (by first | omega | (simp; try omega))).trans f310
  have f338 : w16.cell? ⟨w.heap.size + 2, 1, none⟩ = some (.int .i64 x2.2.1) := (gw16.cell (by first | omega | (simp; try omega))).trans f311
  have f339 : w16.cell? ⟨w.heap.size + 2, 2, none⟩ = some (u2) := (gw16.cell (by first | omega | (simp; try omega))).trans f312
  have f340 : w16.cell? ⟨w5.heap.size, 0, none⟩ = some (.int .i64 x0.1) := (gw16.cell (by first | omega | (simp; try omega))).trans f313
  have f341 : w16.cell? ⟨w5.heap.size, 1, none⟩ = some (.slice ad62 x0.2.length ad62') := (gw16.cell (by first | omega | (simp; try omega))).trans f314
  have f342 : w16.cell? ⟨w6.heap.size, 0, none⟩ = some (.int .i64 x1.1) := (gw16.cell (by first | omega | (simp; try omega))).trans f315
  have f343 : w16.cell? ⟨w6.heap.size, 1, none⟩ = some (.int .i64 x1.2.1) := (gw16.cell (by first | omega | (simp; try omega))).trans f316
  have f344 : w16.cell? ⟨w6.heap.size, 2, none⟩ = some (.slice ad82 x1.2.2.length ad82') := (gw16.cell (by first | omega | (simp; try omega))).trans f317
  have f345 : w16.cell? ⟨w7.heap.size, 0, none⟩ = some (.int .i64 x2.1) := (gw16.cell (by first | omega | (simp; try omega))).trans f318
  have f346 : w16.cell? ⟨w7.heap.size, 1, none⟩ = some (.int .i64 x2.2.1) := (gw16.cell (by first | omega | (simp; try omega))).trans f319
  have f347 : w16.cell? ⟨w7.heap.size, 2, none⟩ = some (.slice ad107 x2.2.2.length ad107') := (gw16.cell (by first | omega | (simp; try omega))).trans f320
  have z348 : w.heap.size < w16.heap.size := by omega
  have z349 : w.heap.size + 1 < w16.heap.size := by omega
  have z350 : w.heap.size + 2 < w16.heap.size := by omega
  have z351 : w5.heap.size < w16.heap.size := by omega
  have z352 : w6.heap.size < w16.heap.size := by omega
  have z353 : w7.heap.size < w16.heap.size := by omega
  have d354 : intsT.Fx w3.heap.size w4.heap.size w16 [.slice ad46 (faV x0 x1 x2).length ad46'] (faV x0 x1 x2) := d327.below gw16
  have d355 : tplT.Fx w4.heap.size w5.heap.size w16 [.int .i64 x0.1, .slice ad62 x0.2.length ad62'] (mkTpl 1 x0) := d328.below gw16
  have d356 : frmT.Fx (w5.heap.size + 1) w6.heap.size w16 [.int .i64 x1.1, .int .i64 x1.2.1, .slice ad82 x1.2.2.length ad82'] (mkFrm (1 + cntTpl x0) x1) := d329.below gw16
  have d357 : frmT.Fx (w6.heap.size + 1) w7.heap.size w16 [.int .i64 x2.1, .int .i64 x2.2.1, .slice ad107 x2.2.2.length ad107'] (mkFrm ((1 + cntTpl x0) + cntFrm x1) x2) := d304.below gw16
  have d358 : intsT.Fx (w7.heap.size + 1) w8.heap.size w16 [.slice ad137 (faV x0 x1 x2).length ad137'] (faV x0 x1 x2) := d330.below gw16
  clear hb16 H_w15 f305 f306 f307 f308 f309 f310 f311 f312 f313 f314 f315 f316 f317 f318 f319 f320 d327 d328 d329 d304 d330 z321 z322 z323 z324 z325 z326 gw16
  rw [eqB_true rfl]
  go_wp2_with fail
  refine (markInt64S_fx _ d358 _ (by omega) (by omega)).mono ?_
  rintro e w17 ⟨rfl, hb17, d359⟩
  clear d358
  have sw17 : w16.heap.size ≤ w17.heap.size := hb17.size
  have H_w17 : Below w.heap.size w w17 := below_tch H_w16 hb17 (by omega) (by omega)
  have f360 : w17.cell? ⟨w.heap.size, 0, none⟩ = some (.int .i64 x0.1) := (hb17.cell (by omega) (by omega)).trans f332
  have f361 : w17.cell? ⟨w.heap.size, 1, none⟩ = some (u0) := (hb17.cell (by omega) (by omega)).trans f333
  have f362 : w17.cell? ⟨w.heap.size + 1, 0, none⟩ = some (.int .i64 x1.1) := (hb17.cell (by omega) (by omega)).trans f334
  have f363 : w17.cell? ⟨w.heap.size + 1, 1, none⟩ = some (.int .i64 x1.2.1) := (hb17.cell (by omega) (by omega)).trans f335
  have f364 : w17.cell? ⟨w.heap.size + 1, 2, none⟩ = some (u1) := (hb17.cell (by omega) (by omega)).trans f336
  have f365 : w17.cell? ⟨w.heap.size + 2, 0, none⟩ = some (.int .i64 x2.1) := (hb17.cell (by omega) (by omega)).trans f337
  have f366 : w17.cell? ⟨w.heap.size + 2, 1, none⟩ = some (.int .i64 x2.2.1) := (hb17.cell (by omega) (by omega)).trans f338
  have f367 : w17.cell? ⟨w.heap.size + 2, 2, none⟩ = some (u2) := (hb17.cell (by omega) (by omega)).trans f339
  have f368 : w17.cell? ⟨w5.heap.size, 0, none⟩ = some (.int .i64 x0.1) := (hb17.cell (by omega) (by omega)).trans f340
  have f369 : w17.cell? ⟨w5.heap.size, 1, none⟩ = some (.slice ad62 x0.2.length ad62') := (hb17.cell (by omega) (by omega)).trans f341
  have f370 : w17.cell? ⟨w6.heap.size, 0, none⟩ = some (.int .i64 x1.1) := (hb17.cell (by omega) (by omega)).trans f342
  have f371 : w17.cell? ⟨w6.heap.size, 1, none⟩ = some (.int .i64 x1.2.1) := (hb17.cell (by omega) (by omega)).trans f343
  have f372 : w17.cell? ⟨w6.heap.size, 2, none⟩ = some (.slice ad82 x1.2.2.length ad82') := (hb17.cell (by omega) (by omega)).trans f344
  have f373 : w17.cell? ⟨w7.heap.size, 0, none⟩ = some (.int .i64 x2.1) := (hb17.cell (by omega) (by omega)).trans f345
  have f374 : w17.cell? ⟨w7.heap.size, 1, none⟩ = some (.int .i64 x2.2.1) := (hb17.cell (by omega) (by omega)).trans f346
  have f375 : w17.cell? ⟨w7.heap.size, 2, none⟩ = some (.slice ad107 x2.2.2.length ad107') := (hb17.cell (by omega) (by omega)).trans f347
  have z376 : w.heap.size < w17.heap.size := by omega
  have z377 : w.heap.size + 1 < w17.heap.size := by omega
  have z378 : w.heap.size + 2 < w17.heap.size := by omega
  have z379 : w5.heap.size < w17.heap.size := by omega
  have z380 : w6.heap.size < w17.heap.size := by omega
  have z381 : w7.heap.size < w17.heap.size := by omega
  have d382 : intsT.Fx w3.heap.size w4.heap.size w17 [.slice ad46 (faV x0 x1 x2).length ad46'] (faV x0 x1 x2) := d354.tch hb17 (by omega)
  have d383 : tplT.Fx w4.heap.size w5.heap.size w17 [.int .i64 x0.1, .slice ad62 x0.2.length ad62'] (mkTpl 1 x0) := d355.tch hb17 (by omega)
  have d384 : frmT.Fx (w5.heap.size + 1) w6.heap.size w17 [.int .i64 x1.1, .int .i64 x1.2.1, .slice ad82 x1.2.2.length ad82'] (mkFrm (1 + cntTpl x0) x1) := d356.tch hb17 (by omega)
  have d385 : frmT.Fx (w6.heap.size + 1) w7.heap.size w17 [.int .i64 x2.1, .int .i64 x2.2.1, .slice ad107 x2.2.2.length ad107'] (mkFrm ((1 + cntTpl x0) + cntFrm x1) x2) := d357.tch hb17 (by omega)
  clear hb17 H_w16 f332 f333 f334 f335 f336 f337 f338 f339 f340 f341 f342 f343 f344 f345 f346 f347 d354 d355 d356 d357 z348 z349 z350 z351 z352 z353
  have hk386 : 0 ≤ (1 + cntI (faV x0 x1 x2)) := by omega
  go_wp2_with fail
  refine (heldInt64S_any _ _ d359.rd (by omega) (by omega)).mono ?_
  rintro e w18 ⟨rfl, hb18⟩
  have gw18 : Below w17.heap.size w17 w18 := bthen (by repeat (first | exact Below.refl _ _ | exact bA | assumption | refine Below.setCell ?_ (by first | omega | (simp; try omega)) _ | refine Below.alloc ?_ (by first | omega | (simp; try omega)) _ | refine Below.drew ?_ | refine bDN ?_ | refine bthen ?_ (by assumption))) hb18
  have sw18 : w17.heap.size + 0 ≤ w18.heap.size := by have := hb18.size; (try simp at this); omega
  have H_w18 : Below w.heap.size w w18 := bthen H_w17 gw18
  have f387 : w18.cell? ⟨w.heap.size, 0, none⟩ = some (.int .i64 x0.1) := (gw18.cell (by first | omega | (simp; try omega))).trans f360
  have f388 : w18.cell? ⟨w.heap.size, 1, none⟩ = some (u0) := (gw18.cell (by first | omega | (simp; try omega))).trans f361
  have f389 : w18.cell? ⟨w.heap.size + 1, 0, none⟩ = some (.int .i64 x1.1) := (gw18.cell (by first | omega | (simp; try omega))).trans f362
  have f390 : w18.cell? ⟨w.heap.size + 1, 1, none⟩ = some (.int .i64 x1.2.1) := (gw18.cell (by first | omega | (simp; try omega))).trans f363
  have f391 : w18.cell? ⟨w.heap.size + 1, 2, none⟩ = some (u1) := (gw18.cell (by first | omega | (simp; try omega))).trans f364
  have f392 : w18.cell? ⟨w.heap.size + 2, 0, none⟩ = some (.int .i64 x2.1) := (gw18.cell (by first | omega | (simp; try omega))).trans f365
  have f393 : w18.cell? ⟨w.heap.size + 2, 1, none⟩ = some (.int .i64 x2.2.1) := (gw18.cell (by first | omega | (simp; try omega))).trans f366
  have f394 : w18.cell? ⟨w.heap.size + 2, 2, none⟩ = some (u2) := (gw18.cell (by first | omega | (simp; try omega))).trans f367
  have f395 : w18.cell? ⟨w5.heap.size, 0, none⟩ = some (.int .i64 x0.1) := (gw18.cell (by first | omega | (simp; try omega))).trans f368
  have f396 : w18.cell? ⟨w5.heap.size, 1, none⟩ = some (.slice ad62 x0.2.length ad62') := (gw18.cell (by first | omega | (simp; try omega))).trans f369
  have f397 : w18.cell? ⟨w6.heap.size, 0, none⟩ = some (.int .i64 x1.1) := (gw18.cell (by first | omega | (simp; try omega))).trans f370
  have f398 : w18.cell? ⟨w6.heap.size, 1, none⟩ = some (.int .i64 x1.2.1) := (gw18.cell (by first | omega | (simp; try omega))).trans f371
  have f399 : w18.cell? ⟨w6.heap.size, 2, none⟩ = some (.slice ad82 x1.2.2.length ad82') := (gw18.cell (by first | omega | (simp; try omega))).trans f372
  have f400 : w18.cell? ⟨w7.heap.size, 0, none⟩ = some (.int .i64 x2.1) := (gw18.cell (by first | omega | (simp; try omega))).trans f373
  have f401 : w18.cell? ⟨w7.heap.size, 1, none⟩ = some (.int .i64 x2.2.1) := (gw18.cell (by first | omega | (simp; try omega))).trans f374
  have f402 : w18.cell? ⟨w7.heap.size, 2, none⟩ = some (.slice ad107 x2.2.2.length ad107') := (gw18.cell (by first | omega | (simp; try omega))).trans f375
  have z403 : w.heap.size < w18.heap.size := by omega
  have z404 : w.heap.size + 1 < w18.heap.size := by omega
  have z405 : w.heap.size + 2 < w18.heap.size := by omega
  have z406 : w5.heap.size < w18.heap.size := by omega
  have z407 : w6.heap.size < w18.heap.size := by omega
  have z408 : w7.heap.size < w18.heap.size := by omega
  have d409 : intsT.Fx w3.heap.size w4.heap.size w18 [.slice ad46 (faV x0 x1 x2).length ad46'] (faV x0 x1 x2) := d382.below gw18
  have d410 : tplT.Fx w4.heap.size w5.heap.size w18 [.int .i64 x0.1, .slice ad62 x0.2.length ad62'] (mkTpl 1 x0) := d383.below gw18
  have d411 : frmT.Fx (w5.heap.size + 1) w6.heap.size w18 [.int .i64 x1.1, .int .i64 x1.2.1, .slice ad82 x1.2.2.length ad82'] (mkFrm (1 + cntTpl x0) x1) := d384.below gw18
  have d412 : frmT.Fx (w6.heap.size + 1) w7.heap.size w18 [.int .i64 x2.1, .int .i64 x2.2.1, .slice ad107 x2.2.2.length ad107'] (mkFrm ((1 + cntTpl x0) + cntFrm x1) x2) := d385.below gw18
  have d413 : intsT.Fx (w7.heap.size + 1) w8.heap.size w18 [.slice ad137 (faV x0 x1 x2).length ad137'] (mkI 1 (faV x0 x1 x2)) := d359.below gw18
  clear hb18 H_w17 f360 f361 f362 f363 f364 f365 f366 f367 f368 f369 f370 f371 f372 f373 f374 f375 d382 d383 d384 d385 d359 z376 z377 z378 z379 z380 z381 gw18
  go_wp2_with fail
  refine wp_region_loose [exV (.agg #[.int .i64 x0.1, u0]), rdA tplT x0, exV (.agg #[.int .i64 x1.1, .int .i64 x1.2.1, u1]), rdA frmT x1, exV (.agg #[.int .i64 x2.1, .int .i64 x2.2.1, u2]), rdA frmT x2, frTS intsT w18.heap.size (faV x0 x1 x2) (.int .i64 (faC x0 x1 x2)), frTS intsT w18.heap.size (faV x0 x1 x2) (.int .i64 (faC x0 x1 x2)), frS intsT w18.heap.size (faV x0 x1 x2), exV (.int .i64 (faC x0 x1 x2)), frS intsT w18.heap.size (faV x0 x1 x2), exV (.int .i64 (faC x0 x1 x2))] (by kernel_rfl) (by kernel_rfl) ⟨st_exV, st_rdA, st_exV, st_rdA, st_exV, st_rdA, st_frTS, st_frTS, st_frS, st_exV, st_frS, st_exV, trivial⟩ ⟨?j38_0, ?j38_1, ?j38_2, ?j38_3, ?j38_4, ?j38_5, ?j38_6, ?j38_7, ?j38_8, ?j38_9, ?j38_10, ?j38_11, trivial⟩ ?hQ38
  case j38_0 =>
    intro a' w' hb hd
    have e0 : a'.tmps[3]?.getD undef = .pointer (some ⟨w.heap.size, 0, none⟩) := ev (slot_o hd 3 rfl rfl)
    have q : ∀ b o, b < w18.heap.size → w'.cell? ⟨b, o, none⟩ = w18.cell? ⟨b, o, none⟩ := (bcell hb).1
    go_simp
    exact ⟨Below.refl _ _, rfl⟩
  case j38_1 =>
    intro a' w' hb hd
    have e116 : a'.tmps[116]?.getD undef = .agg #[.int .i64 x0.1, u0] := ev (slot_w hd 116 (exV (.agg #[.int .i64 x0.1, u0])) rfl rfl)
    have r116 : tplT.Rd w18 (#[.int .i64 x0.1, u0] : Array Value).toList x0 := hx0.below H_w18
    have r116' := r116.below hb
    go_simp
    exact ⟨Below.refl _ _, (toTemplate_any w' r116' (by first | omega | (unfold szInts; omega))).mono fun e w'' ⟨cs, he, hf, hb⟩ => ⟨_, he, hb, cs, rfl, hf.rd⟩⟩
  case j38_2 =>
    intro a' w' hb hd
    have e0 : a'.tmps[4]?.getD undef = .pointer (some ⟨w.heap.size + 1, 0, none⟩) := ev (slot_o hd 4 rfl rfl)
    have q : ∀ b o, b < w18.heap.size → w'.cell? ⟨b, o, none⟩ = w18.cell? ⟨b, o, none⟩ := (bcell hb).1
    go_simp
    exact ⟨Below.refl _ _, rfl⟩
  case j38_3 =>
    intro a' w' hb hd
    have e118 : a'.tmps[118]?.getD undef = .agg #[.int .i64 x1.1, .int .i64 x1.2.1, u1] := ev (slot_w hd 118 (exV (.agg #[.int .i64 x1.1, .int .i64 x1.2.1, u1])) rfl rfl)
    have r118 : frmT.Rd w18 (#[.int .i64 x1.1, .int .i64 x1.2.1, u1] : Array Value).toList x1 := hx1.below H_w18
    have r118' := r118.below hb
    go_simp
    exact ⟨Below.refl _ _, (toFormula_any w' r118' (by first | omega | (unfold szInts; omega))).mono fun e w'' ⟨cs, he, hf, hb⟩ => ⟨_, he, hb, cs, rfl, hf.rd⟩⟩
  case j38_4 =>
    intro a' w' hb hd
    have e0 : a'.tmps[5]?.getD undef = .pointer (some ⟨w.heap.size + 2, 0, none⟩) := ev (slot_o hd 5 rfl rfl)
    have q : ∀ b o, b < w18.heap.size → w'.cell? ⟨b, o, none⟩ = w18.cell? ⟨b, o, none⟩ := (bcell hb).1
    go_simp
    exact ⟨Below.refl _ _, rfl⟩
  case j38_5 =>
    intro a' w' hb hd
    have e120 : a'.tmps[120]?.getD undef = .agg #[.int .i64 x2.1, .int .i64 x2.2.1, u2] := ev (slot_w hd 120 (exV (.agg #[.int .i64 x2.1, .int .i64 x2.2.1, u2])) rfl rfl)
    have r120 : frmT.Rd w18 (#[.int .i64 x2.1, .int .i64 x2.2.1, u2] : Array Value).toList x2 := hx2.below H_w18
    have r120' := r120.below hb
    go_simp
    exact ⟨Below.refl _ _, (toFormula_any w' r120' (by first | omega | (unfold szInts; omega))).mono fun e w'' ⟨cs, he, hf, hb⟩ => ⟨_, he, hb, cs, rfl, hf.rd⟩⟩
  case j38_6 =>
    intro a' w' hb hd
    have d117 := slot_w hd 117 (rdA tplT x0) rfl rfl
    obtain ⟨cs117, e117, hf117⟩ := d117
    have e117' := ev e117
    have d119 := slot_w hd 119 (rdA frmT x1) rfl rfl
    obtain ⟨cs119, e119, hf119⟩ := d119
    have e119' := ev e119
    have d121 := slot_w hd 121 (rdA frmT x2) rfl rfl
    obtain ⟨cs121, e121, hf121⟩ := d121
    have e121' := ev e121
    go_simp
    exact ⟨Below.refl _ _, (FirstApart_any _ hf117 hf119 hf121).mono fun e w'' ⟨cs, he, hf, hb2⟩ => ⟨_, he, hb2, cs, rfl, hf.mono hb.size⟩⟩
  case j38_7 =>
    intro a' w' hb hd
    have d122 := slot_w hd 122 (frTS intsT w18.heap.size (faV x0 x1 x2) (.int .i64 (faC x0 x1 x2))) rfl rfl
    obtain ⟨cs122, e122, hf122⟩ := d122
    have e122' := ev e122
    go_simp
    exact ⟨Below.refl _ _, cs122, rfl, hf122⟩
  case j38_8 =>
    intro a' w' hb hd
    have d115 := slot_w hd 115 (frTS intsT w18.heap.size (faV x0 x1 x2) (.int .i64 (faC x0 x1 x2))) rfl rfl
    obtain ⟨cs115, e115, hf115⟩ := d115
    have e115' := ev e115
    go_simp
    exact ⟨Below.refl _ _, hf115⟩
  case j38_9 =>
    intro a' w' hb hd
    have d115 := slot_w hd 115 (frTS intsT w18.heap.size (faV x0 x1 x2) (.int .i64 (faC x0 x1 x2))) rfl rfl
    obtain ⟨cs115, e115, hf115⟩ := d115
    have e115' := ev e115
    go_simp
    exact ⟨Below.refl _ _, rfl⟩
  case j38_10 =>
    intro a' w' hb hd
    have d123 := slot_w hd 123 (frS intsT w18.heap.size (faV x0 x1 x2)) rfl rfl
    obtain ⟨ad123', cap123', e123⟩ := fr_slice d123
    rw [e123] at d123
    have hf123 := d123
    have e123' := ev e123
    go_simp
    exact ⟨Below.refl _ _, hf123⟩
  case j38_11 =>
    intro a' w' hb hd
    have e0 : a'.tmps[124]?.getD undef = .int .i64 (faC x0 x1 x2) := ev (slot_w hd 124 (exV (.int .i64 (faC x0 x1 x2))) rfl rfl)
    go_simp
    exact ⟨Below.refl _ _, rfl⟩
  intro vs38 w19 hb19 H0
  obtain ⟨v38_0, _, rfl, p0, H1⟩ := HAll_cons H0
  obtain ⟨v38_1, _, rfl, p1, H2⟩ := HAll_cons H1
  obtain ⟨v38_2, _, rfl, p2, H3⟩ := HAll_cons H2
  obtain ⟨v38_3, _, rfl, p3, H4⟩ := HAll_cons H3
  obtain ⟨v38_4, _, rfl, p4, H5⟩ := HAll_cons H4
  obtain ⟨v38_5, _, rfl, p5, H6⟩ := HAll_cons H5
  obtain ⟨v38_6, _, rfl, p6, H7⟩ := HAll_cons H6
  obtain ⟨v38_7, _, rfl, p7, H8⟩ := HAll_cons H7
  obtain ⟨v38_8, _, rfl, p8, H9⟩ := HAll_cons H8
  obtain ⟨v38_9, _, rfl, p9, H10⟩ := HAll_cons H9
  obtain ⟨v38_10, _, rfl, p10, H11⟩ := HAll_cons H10
  obtain ⟨v38_11, _, rfl, p11, H12⟩ := HAll_cons H11
  obtain rfl := HAll_nil H12
  obtain rfl := p0 rfl
  obtain rfl := p2 rfl
  obtain rfl := p4 rfl
  obtain rfl := p9 rfl
  obtain rfl := p11 rfl
  have hc414 := p10 rfl
  clear p0 p1 p2 p3 p4 p5 p6 p7 p8 p9 p10 p11 H0 H1 H2 H3 H4 H5 H6 H7 H8 H9 H10 H11 H12
  have gw19 : Below w18.heap.size w18 w19 := bthen (by repeat (first | exact Below.refl _ _ | exact bA | assumption | refine Below.setCell ?_ (by first | omega | (simp; try omega)) _ | refine Below.alloc ?_ (by first | omega | (simp; try omega)) _ | refine Below.drew ?_ | refine bDN ?_ | refine bthen ?_ (by assumption))) hb19
  have sw19 : w18.heap.size + 0 ≤ w19.heap.size := by have := hb19.size; (try simp at this); omega
  have H_w19 : Below w.heap.size w w19 := bthen H_w18 gw19
  have f415 : w19.cell? ⟨w.heap.size, 0, none⟩ = some (.int .i64 x0.1) := (gw19.cell (by first | omega | (simp; try omega))).trans f387
  have f416 : w19.cell? ⟨w.heap.size, 1, none⟩ = some (u0) := (gw19.cell (by first | omega | (simp; try omega))).trans f388
  have f417 : w19.cell? ⟨w.heap.size + 1, 0, none⟩ = some (.int .i64 x1.1) := (gw19.cell (by first | omega | (simp; try omega))).trans f389
  have f418 : w19.cell? ⟨w.heap.size + 1, 1, none⟩ = some (.int .i64 x1.2.1) := (gw19.cell (by first | omega | (simp; try omega))).trans f390
  have f419 : w19.cell? ⟨w.heap.size + 1, 2, none⟩ = some (u1) := (gw19.cell (by first | omega | (simp; try omega))).trans f391
  have f420 : w19.cell? ⟨w.heap.size + 2, 0, none⟩ = some (.int .i64 x2.1) := (gw19.cell (by first | omega | (simp; try omega))).trans f392
  have f421 : w19.cell? ⟨w.heap.size + 2, 1, none⟩ = some (.int .i64 x2.2.1) := (gw19.cell (by first | omega | (simp; try omega))).trans f393
  have f422 : w19.cell? ⟨w.heap.size + 2, 2, none⟩ = some (u2) := (gw19.cell (by first | omega | (simp; try omega))).trans f394
  have f423 : w19.cell? ⟨w5.heap.size, 0, none⟩ = some (.int .i64 x0.1) := (gw19.cell (by first | omega | (simp; try omega))).trans f395
  have f424 : w19.cell? ⟨w5.heap.size, 1, none⟩ = some (.slice ad62 x0.2.length ad62') := (gw19.cell (by first | omega | (simp; try omega))).trans f396
  have f425 : w19.cell? ⟨w6.heap.size, 0, none⟩ = some (.int .i64 x1.1) := (gw19.cell (by first | omega | (simp; try omega))).trans f397
  have f426 : w19.cell? ⟨w6.heap.size, 1, none⟩ = some (.int .i64 x1.2.1) := (gw19.cell (by first | omega | (simp; try omega))).trans f398
  have f427 : w19.cell? ⟨w6.heap.size, 2, none⟩ = some (.slice ad82 x1.2.2.length ad82') := (gw19.cell (by first | omega | (simp; try omega))).trans f399
  have f428 : w19.cell? ⟨w7.heap.size, 0, none⟩ = some (.int .i64 x2.1) := (gw19.cell (by first | omega | (simp; try omega))).trans f400
  have f429 : w19.cell? ⟨w7.heap.size, 1, none⟩ = some (.int .i64 x2.2.1) := (gw19.cell (by first | omega | (simp; try omega))).trans f401
  have f430 : w19.cell? ⟨w7.heap.size, 2, none⟩ = some (.slice ad107 x2.2.2.length ad107') := (gw19.cell (by first | omega | (simp; try omega))).trans f402
  have z431 : w.heap.size < w19.heap.size := by omega
  have z432 : w.heap.size + 1 < w19.heap.size := by omega
  have z433 : w.heap.size + 2 < w19.heap.size := by omega
  have z434 : w5.heap.size < w19.heap.size := by omega
  have z435 : w6.heap.size < w19.heap.size := by omega
  have z436 : w7.heap.size < w19.heap.size := by omega
  have d437 : intsT.Fx w3.heap.size w4.heap.size w19 [.slice ad46 (faV x0 x1 x2).length ad46'] (faV x0 x1 x2) := d409.below gw19
  have d438 : tplT.Fx w4.heap.size w5.heap.size w19 [.int .i64 x0.1, .slice ad62 x0.2.length ad62'] (mkTpl 1 x0) := d410.below gw19
  have d439 : frmT.Fx (w5.heap.size + 1) w6.heap.size w19 [.int .i64 x1.1, .int .i64 x1.2.1, .slice ad82 x1.2.2.length ad82'] (mkFrm (1 + cntTpl x0) x1) := d411.below gw19
  have d440 : frmT.Fx (w6.heap.size + 1) w7.heap.size w19 [.int .i64 x2.1, .int .i64 x2.2.1, .slice ad107 x2.2.2.length ad107'] (mkFrm ((1 + cntTpl x0) + cntFrm x1) x2) := d412.below gw19
  have d441 : intsT.Fx (w7.heap.size + 1) w8.heap.size w19 [.slice ad137 (faV x0 x1 x2).length ad137'] (mkI 1 (faV x0 x1 x2)) := d413.below gw19
  clear hb19 H_w18 f387 f388 f389 f390 f391 f392 f393 f394 f395 f396 f397 f398 f399 f400 f401 f402 d409 d410 d411 d412 d413 z403 z404 z405 z406 z407 z408 gw19
  obtain ⟨ad442, ad442', rfl⟩ := fr_slice hc414
  have d443 : intsT.Fx w18.heap.size w19.heap.size w19 [.slice ad442 (faV x0 x1 x2).length ad442'] (faV x0 x1 x2) := (Ty.Fr.mono hc414 (by first | exact Nat.le_refl _ | (simp; try omega))).fx
  clear hc414
  simp only [putAll, Act.put]
  go_simp
  go_wp2_with fail
  refine (eqInt64S_any _ (d443.rd.below (by repeat (first | exact Below.refl _ _ | exact bA | assumption | refine Below.setCell ?_ (by first | omega | (simp; try omega)) _ | refine Below.alloc ?_ (by first | omega | (simp; try omega)) _ | refine Below.drew ?_ | refine bDN ?_ | refine bthen ?_ (by assumption)))) (d437.rd.below (by repeat (first | exact Below.refl _ _ | exact bA | assumption | refine Below.setCell ?_ (by first | omega | (simp; try omega)) _ | refine Below.alloc ?_ (by first | omega | (simp; try omega)) _ | refine Below.drew ?_ | refine bDN ?_ | refine bthen ?_ (by assumption))))).mono ?_
  rintro e w20 ⟨rfl, hb20⟩
  have gw20 : Below w19.heap.size w19 w20 := bthen (by repeat (first | exact Below.refl _ _ | exact bA | assumption | refine Below.setCell ?_ (by first | omega | (simp; try omega)) _ | refine Below.alloc ?_ (by first | omega | (simp; try omega)) _ | refine Below.drew ?_ | refine bDN ?_ | refine bthen ?_ (by assumption))) hb20
  have sw20 : w19.heap.size + 0 ≤ w20.heap.size := by have := hb20.size; (try simp at this); omega
  have H_w20 : Below w.heap.size w w20 := bthen H_w19 gw20
  have f445 : w20.cell? ⟨w.heap.size, 0, none⟩ = some (.int .i64 x0.1) := (gw20.cell (by first | omega | (simp; try omega))).trans f415
  have f446 : w20.cell? ⟨w.heap.size, 1, none⟩ = some (u0) := (gw20.cell (by first | omega | (simp; try omega))).trans f416
  have f447 : w20.cell? ⟨w.heap.size + 1, 0, none⟩ = some (.int .i64 x1.1) := (gw20.cell (by first | omega | (simp; try omega))).trans f417
  have f448 : w20.cell? ⟨w.heap.size + 1, 1, none⟩ = some (.int .i64 x1.2.1) := (gw20.cell (by first | omega | (simp; try omega))).trans f418
  have f449 : w20.cell? ⟨w.heap.size + 1, 2, none⟩ = some (u1) := (gw20.cell (by first | omega | (simp; try omega))).trans f419
  have f450 : w20.cell? ⟨w.heap.size + 2, 0, none⟩ = some (.int .i64 x2.1) := (gw20.cell (by first | omega | (simp; try omega))).trans f420
  have f451 : w20.cell? ⟨w.heap.size + 2, 1, none⟩ = some (.int .i64 x2.2.1) := (gw20.cell (by first | omega | (simp; try omega))).trans f421
  have f452 : w20.cell? ⟨w.heap.size + 2, 2, none⟩ = some (u2) := (gw20.cell (by first | omega | (simp; try omega))).trans f422
  have f453 : w20.cell? ⟨w5.heap.size, 0, none⟩ = some (.int .i64 x0.1) := (gw20.cell (by first | omega | (simp; try omega))).trans f423
  have f454 : w20.cell? ⟨w5.heap.size, 1, none⟩ = some (.slice ad62 x0.2.length ad62') := (gw20.cell (by first | omega | (simp; try omega))).trans f424
  have f455 : w20.cell? ⟨w6.heap.size, 0, none⟩ = some (.int .i64 x1.1) := (gw20.cell (by first | omega | (simp; try omega))).trans f425
  have f456 : w20.cell? ⟨w6.heap.size, 1, none⟩ = some (.int .i64 x1.2.1) := (gw20.cell (by first | omega | (simp; try omega))).trans f426
  have f457 : w20.cell? ⟨w6.heap.size, 2, none⟩ = some (.slice ad82 x1.2.2.length ad82') := (gw20.cell (by first | omega | (simp; try omega))).trans f427
  have f458 : w20.cell? ⟨w7.heap.size, 0, none⟩ = some (.int .i64 x2.1) := (gw20.cell (by first | omega | (simp; try omega))).trans f428
  have f459 : w20.cell? ⟨w7.heap.size, 1, none⟩ = some (.int .i64 x2.2.1) := (gw20.cell (by first | omega | (simp; try omega))).trans f429
  have f460 : w20.cell? ⟨w7.heap.size, 2, none⟩ = some (.slice ad107 x2.2.2.length ad107') := (gw20.cell (by first | omega | (simp; try omega))).trans f430
  have z461 : w.heap.size < w20.heap.size := by omega
  have z462 : w.heap.size + 1 < w20.heap.size := by omega
  have z463 : w.heap.size + 2 < w20.heap.size := by omega
  have z464 : w5.heap.size < w20.heap.size := by omega
  have z465 : w6.heap.size < w20.heap.size := by omega
  have z466 : w7.heap.size < w20.heap.size := by omega
  have d467 : intsT.Fx w3.heap.size w4.heap.size w20 [.slice ad46 (faV x0 x1 x2).length ad46'] (faV x0 x1 x2) := d437.below gw20
  have d468 : tplT.Fx w4.heap.size w5.heap.size w20 [.int .i64 x0.1, .slice ad62 x0.2.length ad62'] (mkTpl 1 x0) := d438.below gw20
  have d469 : frmT.Fx (w5.heap.size + 1) w6.heap.size w20 [.int .i64 x1.1, .int .i64 x1.2.1, .slice ad82 x1.2.2.length ad82'] (mkFrm (1 + cntTpl x0) x1) := d439.below gw20
  have d470 : frmT.Fx (w6.heap.size + 1) w7.heap.size w20 [.int .i64 x2.1, .int .i64 x2.2.1, .slice ad107 x2.2.2.length ad107'] (mkFrm ((1 + cntTpl x0) + cntFrm x1) x2) := d440.below gw20
  have d471 : intsT.Fx (w7.heap.size + 1) w8.heap.size w20 [.slice ad137 (faV x0 x1 x2).length ad137'] (mkI 1 (faV x0 x1 x2)) := d441.below gw20
  have d472 : intsT.Fx w18.heap.size w19.heap.size w20 [.slice ad442 (faV x0 x1 x2).length ad442'] (faV x0 x1 x2) := d443.below gw20
  clear hb20 H_w19 f415 f416 f417 f418 f419 f420 f421 f422 f423 f424 f425 f426 f427 f428 f429 f430 d437 d438 d439 d440 d441 d443 z431 z432 z433 z434 z435 z436 gw20
  rw [eqB_true rfl]
  go_wp2_with fail
  refine (heldInt64S_any _ _ d471.rd (by omega) (by omega)).mono ?_
  rintro e w21 ⟨rfl, hb21⟩
  have gw21 : Below w20.heap.size w20 w21 := bthen (by repeat (first | exact Below.refl _ _ | exact bA | assumption | refine Below.setCell ?_ (by first | omega | (simp; try omega)) _ | refine Below.alloc ?_ (by first | omega | (simp; try omega)) _ | refine Below.drew ?_ | refine bDN ?_ | refine bthen ?_ (by assumption))) hb21
  have sw21 : w20.heap.size + 0 ≤ w21.heap.size := by have := hb21.size; (try simp at this); omega
  have H_w21 : Below w.heap.size w w21 := bthen H_w20 gw21
  have f473 : w21.cell? ⟨w.heap.size, 0, none⟩ = some (.int .i64 x0.1) := (gw21.cell (by first | omega | (simp; try omega))).trans f445
  have f474 : w21.cell? ⟨w.heap.size, 1, none⟩ = some (u0) := (gw21.cell (by first | omega | (simp; try omega))).trans f446
  have f475 : w21.cell? ⟨w.heap.size + 1, 0, none⟩ = some (.int .i64 x1.1) := (gw21.cell (by first | omega | (simp; try omega))).trans f447
  have f476 : w21.cell? ⟨w.heap.size + 1, 1, none⟩ = some (.int .i64 x1.2.1) := (gw21.cell (by first | omega | (simp; try omega))).trans f448
  have f477 : w21.cell? ⟨w.heap.size + 1, 2, none⟩ = some (u1) := (gw21.cell (by first | omega | (simp; try omega))).trans f449
  have f478 : w21.cell? ⟨w.heap.size + 2, 0, none⟩ = some (.int .i64 x2.1) := (gw21.cell (by first | omega | (simp; try omega))).trans f450
  have f479 : w21.cell? ⟨w.heap.size + 2, 1, none⟩ = some (.int .i64 x2.2.1) := (gw21.cell (by first | omega | (simp; try omega))).trans f451
  have f480 : w21.cell? ⟨w.heap.size + 2, 2, none⟩ = some (u2) := (gw21.cell (by first | omega | (simp; try omega))).trans f452
  have f481 : w21.cell? ⟨w5.heap.size, 0, none⟩ = some (.int .i64 x0.1) := (gw21.cell (by first | omega | (simp; try omega))).trans f453
  have f482 : w21.cell? ⟨w5.heap.size, 1, none⟩ = some (.slice ad62 x0.2.length ad62') := (gw21.cell (by first | omega | (simp; try omega))).trans f454
  have f483 : w21.cell? ⟨w6.heap.size, 0, none⟩ = some (.int .i64 x1.1) := (gw21.cell (by first | omega | (simp; try omega))).trans f455
  have f484 : w21.cell? ⟨w6.heap.size, 1, none⟩ = some (.int .i64 x1.2.1) := (gw21.cell (by first | omega | (simp; try omega))).trans f456
  have f485 : w21.cell? ⟨w6.heap.size, 2, none⟩ = some (.slice ad82 x1.2.2.length ad82') := (gw21.cell (by first | omega | (simp; try omega))).trans f457
  have f486 : w21.cell? ⟨w7.heap.size, 0, none⟩ = some (.int .i64 x2.1) := (gw21.cell (by first | omega | (simp; try omega))).trans f458
  have f487 : w21.cell? ⟨w7.heap.size, 1, none⟩ = some (.int .i64 x2.2.1) := (gw21.cell (by first | omega | (simp; try omega))).trans f459
  have f488 : w21.cell? ⟨w7.heap.size, 2, none⟩ = some (.slice ad107 x2.2.2.length ad107') := (gw21.cell (by first | omega | (simp; try omega))).trans f460
  have z489 : w.heap.size < w21.heap.size := by omega
  have z490 : w.heap.size + 1 < w21.heap.size := by omega
  have z491 : w.heap.size + 2 < w21.heap.size := by omega
  have z492 : w5.heap.size < w21.heap.size := by omega
  have z493 : w6.heap.size < w21.heap.size := by omega
  have z494 : w7.heap.size < w21.heap.size := by omega
  have d495 : intsT.Fx w3.heap.size w4.heap.size w21 [.slice ad46 (faV x0 x1 x2).length ad46'] (faV x0 x1 x2) := d467.below gw21
  have d496 : tplT.Fx w4.heap.size w5.heap.size w21 [.int .i64 x0.1, .slice ad62 x0.2.length ad62'] (mkTpl 1 x0) := d468.below gw21
  have d497 : frmT.Fx (w5.heap.size + 1) w6.heap.size w21 [.int .i64 x1.1, .int .i64 x1.2.1, .slice ad82 x1.2.2.length ad82'] (mkFrm (1 + cntTpl x0) x1) := d469.below gw21
  have d498 : frmT.Fx (w6.heap.size + 1) w7.heap.size w21 [.int .i64 x2.1, .int .i64 x2.2.1, .slice ad107 x2.2.2.length ad107'] (mkFrm ((1 + cntTpl x0) + cntFrm x1) x2) := d470.below gw21
  have d499 : intsT.Fx (w7.heap.size + 1) w8.heap.size w21 [.slice ad137 (faV x0 x1 x2).length ad137'] (mkI 1 (faV x0 x1 x2)) := d471.below gw21
  have d500 : intsT.Fx w18.heap.size w19.heap.size w21 [.slice ad442 (faV x0 x1 x2).length ad442'] (faV x0 x1 x2) := d472.below gw21
  clear hb21 H_w20 f445 f446 f447 f448 f449 f450 f451 f452 f453 f454 f455 f456 f457 f458 f459 f460 d467 d468 d469 d470 d471 d472 z461 z462 z463 z464 z465 z466 gw21
  go_wp2_with fail
  go_ret
  exact ⟨rfl, (by repeat (first | exact Below.refl _ _ | exact bA | assumption | refine Below.setCell ?_ (by first | omega | (simp; try omega)) _ | refine Below.alloc ?_ (by first | omega | (simp; try omega)) _ | refine Below.drew ?_ | refine bDN ?_ | refine bthen ?_ (by assumption)))⟩
end Go.Proofs.YtbpjejhjlmpcjaaGreat
