/-
  The law FnExactWitnessAt, walked: its contract.
-/
import Derived.Test.YtbpjejhjlmpcjaaS11
import Derived.Test.YtbpjejhjlmpcjaaKM
import Derived.Test.YtbpjejhjlmpcjaaKT
import Derived.Test.YtbpjejhjlmpcjaaLoose2
namespace Go.Proofs.Ytbpjejhjlmpcjaa
open Go.RowKit Go.Sort
set_option maxHeartbeats 6400000 in
set_option maxRecDepth 100000 in
theorem fnExactWitnessAt_any (w : World) {c0 : Array Value} {x0 : Int × List (Int × List (List Int))} (h0 : tplT.Rd w c0.toList x0) {c1 : Array Value} {x1 : Int × Int × List (Int × List Int)} (h1 : frmT.Rd w c1.toList x1) {v2 : Value} {x2 : List Int} (h2 : intsT.Rd w [v2] x2) :
    Calls Try.prog 8 #[.agg c0, .agg c1, v2] w fun e w' => e = .returned (.bool true) ∧ Below w.heap.size w w' := by
  have hx0 := h0
  obtain ⟨u0, hv0, -, hy0⟩ := pair_ex h0
  obtain rfl := agg_of hv0
  clear hv0 h0
  have hn0 := szTpl_nn x0
  have hcn0 : cntTpl x0 ≤ szTpl x0 := cntRels_sz x0.2
  have hcz0 : 0 ≤ cntTpl x0 := cntRels_nn x0.2
  have hx1 := h1
  obtain ⟨u1, hv1, -, -, hy1⟩ := trip_ex h1
  obtain rfl := agg_of hv1
  clear hv1 h1
  have hn1 := szFrm_nn x1
  have hcn1 : cntFrm x1 ≤ szFrm x1 := cntOps_sz x1.2.2
  have hcz1 : 0 ≤ cntFrm x1 := cntOps_nn x1.2.2
  have hx2 := h2
  obtain ⟨ad2, cap2, rfl⟩ := rd_slice hx2
  clear h2
  have hn2 := szInts_nn x2
  have hcn2 : cntI x2 ≤ szInts x2 := cntI_sz x2
  have hcz2 : 0 ≤ cntI x2 := cntI_nn x2
  have H_w : Below w.heap.size w w := Below.refl _ _
  rcases ilt 1048576 (x2.length : Int) with hl1 | hl1
  · have hl : decide (1048576 < (x2.length : Int)) = true := by simpa using hl1
    go_enter Try.func8, Try.ntmps8
    go_wp2_with fail
    go_ret
    exact ⟨rfl, (by repeat (first | exact Below.refl _ _ | exact bA | assumption | refine Below.setCell ?_ (by first | omega | (simp; try omega)) _ | refine Below.alloc ?_ (by first | omega | (simp; try omega)) _ | refine Below.drew ?_ | refine bDN ?_ | refine bthen ?_ (by assumption)))⟩
  have hd1 : decide (1048576 < (x2.length : Int)) = false := by simp; omega
  have hle1 : cntI x2 ≤ 1048576 := hl1
  go_enter Try.func8, Try.ntmps8
  go_wp2_with fail
  refine (szTemplate_any _ (hx0.below (by repeat (first | exact Below.refl _ _ | exact bA | assumption | refine Below.setCell ?_ (by first | omega | (simp; try omega)) _ | refine Below.alloc ?_ (by first | omega | (simp; try omega)) _ | refine Below.drew ?_ | refine bDN ?_ | refine bthen ?_ (by assumption)))) _ (by omega) (by omega)).mono ?_
  rintro e w1 ⟨rfl, hb1⟩
  have gw1 : Below w.heap.size w w1 := bthen (by repeat (first | exact Below.refl _ _ | exact bA | assumption | refine Below.setCell ?_ (by first | omega | (simp; try omega)) _ | refine Below.alloc ?_ (by first | omega | (simp; try omega)) _ | refine Below.drew ?_ | refine bDN ?_ | refine bthen ?_ (by assumption))) hb1
  have sw1 : w.heap.size + 2 ≤ w1.heap.size := by have := hb1.size; (try simp at this); omega
  have H_w1 : Below w.heap.size w w1 := bthen H_w gw1
  have f1 : w1.cell? ⟨w.heap.size, 0, none⟩ = some (.int .i64 x0.1) := by rw [(bcell hb1).1 _ _ (by first | omega | (simp; try omega))]; first | (simp; done) | simp [go_sem]
  have f2 : w1.cell? ⟨w.heap.size, 1, none⟩ = some (u0) := by rw [(bcell hb1).1 _ _ (by first | omega | (simp; try omega))]; first | (simp; done) | simp [go_sem]
  have f3 : w1.cell? ⟨w.heap.size + 1, 0, none⟩ = some (.int .i64 x1.1) := by rw [(bcell hb1).1 _ _ (by first | omega | (simp; try omega))]; first | (simp; done) | simp [go_sem]
  have f4 : w1.cell? ⟨w.heap.size + 1, 1, none⟩ = some (.int .i64 x1.2.1) := by rw [(bcell hb1).1 _ _ (by first | omega | (simp; try omega))]; first | (simp; done) | simp [go_sem]
  have f5 : w1.cell? ⟨w.heap.size + 1, 2, none⟩ = some (u1) := by rw [(bcell hb1).1 _ _ (by first | omega | (simp; try omega))]; first | (simp; done) | simp [go_sem]
  have z6 : w.heap.size < w1.heap.size := by omega
  have z7 : w.heap.size + 1 < w1.heap.size := by omega
  clear hb1 gw1
  rcases ilt 1048576 (szTpl x0) with hl4 | hl4
  · rw [szR_lt hl4]
    go_wp2_with fail
    go_ret
    exact ⟨rfl, (by repeat (first | exact Below.refl _ _ | exact bA | assumption | refine Below.setCell ?_ (by first | omega | (simp; try omega)) _ | refine Below.alloc ?_ (by first | omega | (simp; try omega)) _ | refine Below.drew ?_ | refine bDN ?_ | refine bthen ?_ (by assumption)))⟩
  rw [szR_ge hl4]
  go_wp2_with fail
  refine (szFormula_any _ (hx1.below (by repeat (first | exact Below.refl _ _ | exact bA | assumption | refine Below.setCell ?_ (by first | omega | (simp; try omega)) _ | refine Below.alloc ?_ (by first | omega | (simp; try omega)) _ | refine Below.drew ?_ | refine bDN ?_ | refine bthen ?_ (by assumption)))) _ (by omega) (by omega)).mono ?_
  rintro e w2 ⟨rfl, hb2⟩
  have gw2 : Below w1.heap.size w1 w2 := bthen (by repeat (first | exact Below.refl _ _ | exact bA | assumption | refine Below.setCell ?_ (by first | omega | (simp; try omega)) _ | refine Below.alloc ?_ (by first | omega | (simp; try omega)) _ | refine Below.drew ?_ | refine bDN ?_ | refine bthen ?_ (by assumption))) hb2
  have sw2 : w1.heap.size + 0 ≤ w2.heap.size := by have := hb2.size; (try simp at this); omega
  have H_w2 : Below w.heap.size w w2 := bthen H_w1 gw2
  have f8 : w2.cell? ⟨w.heap.size, 0, none⟩ = some (.int .i64 x0.1) := (gw2.cell (by first | omega | (simp; try omega))).trans f1
  have f9 : w2.cell? ⟨w.heap.size, 1, none⟩ = some (u0) := (gw2.cell (by first | omega | (simp; try omega))).trans f2
  have f10 : w2.cell? ⟨w.heap.size + 1, 0, none⟩ = some (.int .i64 x1.1) := (gw2.cell (by first | omega | (simp; try omega))).trans f3
  have f11 : w2.cell? ⟨w.heap.size + 1, 1, none⟩ = some (.int .i64 x1.2.1) := (gw2.cell (by first | omega | (simp; try omega))).trans f4
  have f12 : w2.cell? ⟨w.heap.size + 1, 2, none⟩ = some (u1) := (gw2.cell (by first | omega | (simp; try omega))).trans f5
  have z13 : w.heap.size < w2.heap.size := by omega
  have z14 : w.heap.size + 1 < w2.heap.size := by omega
  clear hb2 H_w1 f1 f2 f3 f4 f5 z6 z7 gw2
  rcases ilt (1048576 - szTpl x0) (szFrm x1) with hl7 | hl7
  · rw [szR_lt hl7]
    go_wp2_with fail
    go_ret
    exact ⟨rfl, (by repeat (first | exact Below.refl _ _ | exact bA | assumption | refine Below.setCell ?_ (by first | omega | (simp; try omega)) _ | refine Below.alloc ?_ (by first | omega | (simp; try omega)) _ | refine Below.drew ?_ | refine bDN ?_ | refine bthen ?_ (by assumption)))⟩
  rw [szR_ge hl7]
  go_wp2_with fail
  have hcr1 : cntI (waV x0 x1 x2) ≤ 1000000000 := (Int.le_trans wa_cnt (by omega))
  have hcrz1 : 0 ≤ cntI (waV x0 x1 x2) := cntI_nn _
  refine wp_region_loose [exV (.agg #[.int .i64 x0.1, u0]), rdA tplT x0, exV (.agg #[.int .i64 x1.1, .int .i64 x1.2.1, u1]), rdA frmT x1, exV (.slice ad2 x2.length cap2), rdS intsT x2, frTS intsT w2.heap.size (waV x0 x1 x2) (.int .i64 (waC x0 x1 x2)), frTS intsT w2.heap.size (waV x0 x1 x2) (.int .i64 (waC x0 x1 x2)), frS intsT w2.heap.size (waV x0 x1 x2), exV (.int .i64 (waC x0 x1 x2)), frS intsT w2.heap.size (waV x0 x1 x2), exV (.int .i64 (waC x0 x1 x2))] (by kernel_rfl) (by kernel_rfl) ⟨st_exV, st_rdA, st_exV, st_rdA, st_exV, st_rdS, st_frTS, st_frTS, st_frS, st_exV, st_frS, st_exV, trivial⟩ ⟨?j10_0, ?j10_1, ?j10_2, ?j10_3, ?j10_4, ?j10_5, ?j10_6, ?j10_7, ?j10_8, ?j10_9, ?j10_10, ?j10_11, trivial⟩ ?hQ10
  case j10_0 =>
    intro a' w' hb hd
    have e0 : a'.tmps[3]?.getD undef = .pointer (some ⟨w.heap.size, 0, none⟩) := ev (slot_o hd 3 rfl rfl)
    have q : ∀ b o, b < w2.heap.size → w'.cell? ⟨b, o, none⟩ = w2.cell? ⟨b, o, none⟩ := (bcell hb).1
    go_simp
    exact ⟨Below.refl _ _, rfl⟩
  case j10_1 =>
    intro a' w' hb hd
    have e34 : a'.tmps[34]?.getD undef = .agg #[.int .i64 x0.1, u0] := ev (slot_w hd 34 (exV (.agg #[.int .i64 x0.1, u0])) rfl rfl)
    have r34 : tplT.Rd w2 (#[.int .i64 x0.1, u0] : Array Value).toList x0 := hx0.below H_w2
    have r34' := r34.below hb
    go_simp
    exact ⟨Below.refl _ _, (toTemplate_any w' r34' (by first | omega | (unfold szInts; omega))).mono fun e w'' ⟨cs, he, hf, hb⟩ => ⟨_, he, hb, cs, rfl, hf.rd⟩⟩
  case j10_2 =>
    intro a' w' hb hd
    have e0 : a'.tmps[4]?.getD undef = .pointer (some ⟨w.heap.size + 1, 0, none⟩) := ev (slot_o hd 4 rfl rfl)
    have q : ∀ b o, b < w2.heap.size → w'.cell? ⟨b, o, none⟩ = w2.cell? ⟨b, o, none⟩ := (bcell hb).1
    go_simp
    exact ⟨Below.refl _ _, rfl⟩
  case j10_3 =>
    intro a' w' hb hd
    have e36 : a'.tmps[36]?.getD undef = .agg #[.int .i64 x1.1, .int .i64 x1.2.1, u1] := ev (slot_w hd 36 (exV (.agg #[.int .i64 x1.1, .int .i64 x1.2.1, u1])) rfl rfl)
    have r36 : frmT.Rd w2 (#[.int .i64 x1.1, .int .i64 x1.2.1, u1] : Array Value).toList x1 := hx1.below H_w2
    have r36' := r36.below hb
    go_simp
    exact ⟨Below.refl _ _, (toFormula_any w' r36' (by first | omega | (unfold szInts; omega))).mono fun e w'' ⟨cs, he, hf, hb⟩ => ⟨_, he, hb, cs, rfl, hf.rd⟩⟩
  case j10_4 =>
    intro a' w' hb hd
    have e0 : a'.tmps[2]?.getD undef = .slice ad2 x2.length cap2 := ev (slot_o hd 2 rfl rfl)
    go_simp
    exact ⟨Below.refl _ _, rfl⟩
  case j10_5 =>
    intro a' w' hb hd
    have e38 : a'.tmps[38]?.getD undef = .slice ad2 x2.length cap2 := ev (slot_w hd 38 (exV (.slice ad2 x2.length cap2)) rfl rfl)
    have r38 : intsT.Rd w2 [.slice ad2 x2.length cap2] x2 := hx2.below H_w2
    have r38' := r38.below hb
    go_simp
    exact ⟨Below.refl _ _, (toInt64S_any w' r38' (by first | omega | (unfold szInts; omega))).mono fun e w'' ⟨u, he, hf, hb⟩ => ⟨_, he, hb, hf.rd⟩⟩
  case j10_6 =>
    intro a' w' hb hd
    have d35 := slot_w hd 35 (rdA tplT x0) rfl rfl
    obtain ⟨cs35, e35, hf35⟩ := d35
    have e35' := ev e35
    have d37 := slot_w hd 37 (rdA frmT x1) rfl rfl
    obtain ⟨cs37, e37, hf37⟩ := d37
    have e37' := ev e37
    have d39 := slot_w hd 39 (rdS intsT x2) rfl rfl
    obtain ⟨ad39', cap39', e39⟩ := rd_slice d39
    rw [e39] at d39
    have hf39 := d39
    have e39' := ev e39
    go_simp
    exact ⟨Below.refl _ _, (specWitnessAt_any _ hf35 hf37 hf39).mono fun e w'' ⟨cs, he, hf, hb2⟩ => ⟨_, he, hb2, cs, rfl, hf.mono hb.size⟩⟩
  case j10_7 =>
    intro a' w' hb hd
    have d40 := slot_w hd 40 (frTS intsT w2.heap.size (waV x0 x1 x2) (.int .i64 (waC x0 x1 x2))) rfl rfl
    obtain ⟨cs40, e40, hf40⟩ := d40
    have e40' := ev e40
    go_simp
    exact ⟨Below.refl _ _, cs40, rfl, hf40⟩
  case j10_8 =>
    intro a' w' hb hd
    have d33 := slot_w hd 33 (frTS intsT w2.heap.size (waV x0 x1 x2) (.int .i64 (waC x0 x1 x2))) rfl rfl
    obtain ⟨cs33, e33, hf33⟩ := d33
    have e33' := ev e33
    go_simp
    exact ⟨Below.refl _ _, hf33⟩
  case j10_9 =>
    intro a' w' hb hd
    have d33 := slot_w hd 33 (frTS intsT w2.heap.size (waV x0 x1 x2) (.int .i64 (waC x0 x1 x2))) rfl rfl
    obtain ⟨cs33, e33, hf33⟩ := d33
    have e33' := ev e33
    go_simp
    exact ⟨Below.refl _ _, rfl⟩
  case j10_10 =>
    intro a' w' hb hd
    have d41 := slot_w hd 41 (frS intsT w2.heap.size (waV x0 x1 x2)) rfl rfl
    obtain ⟨ad41', cap41', e41⟩ := fr_slice d41
    rw [e41] at d41
    have hf41 := d41
    have e41' := ev e41
    go_simp
    exact ⟨Below.refl _ _, hf41⟩
  case j10_11 =>
    intro a' w' hb hd
    have e0 : a'.tmps[42]?.getD undef = .int .i64 (waC x0 x1 x2) := ev (slot_w hd 42 (exV (.int .i64 (waC x0 x1 x2))) rfl rfl)
    go_simp
    exact ⟨Below.refl _ _, rfl⟩
  intro vs10 w3 hb3 H0
  obtain ⟨v10_0, _, rfl, p0, H1⟩ := HAll_cons H0
  obtain ⟨v10_1, _, rfl, p1, H2⟩ := HAll_cons H1
  obtain ⟨v10_2, _, rfl, p2, H3⟩ := HAll_cons H2
  obtain ⟨v10_3, _, rfl, p3, H4⟩ := HAll_cons H3
  obtain ⟨v10_4, _, rfl, p4, H5⟩ := HAll_cons H4
  obtain ⟨v10_5, _, rfl, p5, H6⟩ := HAll_cons H5
  obtain ⟨v10_6, _, rfl, p6, H7⟩ := HAll_cons H6
  obtain ⟨v10_7, _, rfl, p7, H8⟩ := HAll_cons H7
  obtain ⟨v10_8, _, rfl, p8, H9⟩ := HAll_cons H8
  obtain ⟨v10_9, _, rfl, p9, H10⟩ := HAll_cons H9
  obtain ⟨v10_10, _, rfl, p10, H11⟩ := HAll_cons H10
  obtain ⟨v10_11, _, rfl, p11, H12⟩ := HAll_cons H11
  obtain rfl := HAll_nil H12
  obtain rfl := p0 rfl
  obtain rfl := p2 rfl
  obtain rfl := p4 rfl
  obtain rfl := p9 rfl
  obtain rfl := p11 rfl
  have hc15 := p10 rfl
  clear p0 p1 p2 p3 p4 p5 p6 p7 p8 p9 p10 p11 H0 H1 H2 H3 H4 H5 H6 H7 H8 H9 H10 H11 H12
  have gw3 : Below w2.heap.size w2 w3 := bthen (by repeat (first | exact Below.refl _ _ | exact bA | assumption | refine Below.setCell ?_ (by first | omega | (simp; try omega)) _ | refine Below.alloc ?_ (by first | omega | (simp; try omega)) _ | refine Below.drew ?_ | refine bDN ?_ | refine bthen ?_ (by assumption))) hb3
  have sw3 : w2.heap.size + 0 ≤ w3.heap.size := by have := hb3.size; (try simp at this); omega
  have H_w3 : Below w.heap.size w w3 := bthen H_w2 gw3
  have f16 : w3.cell? ⟨w.heap.size, 0, none⟩ = some (.int .i64 x0.1) := (gw3.cell (by first | omega | (simp; try omega))).trans f8
  have f17 : w3.cell? ⟨w.heap.size, 1, none⟩ = some (u0) := (gw3.cell (by first | omega | (simp; try omega))).trans f9
  have f18 : w3.cell? ⟨w.heap.size + 1, 0, none⟩ = some (.int .i64 x1.1) := (gw3.cell (by first | omega | (simp; try omega))).trans f10
  have f19 : w3.cell? ⟨w.heap.size + 1, 1, none⟩ = some (.int .i64 x1.2.1) := (gw3.cell (by first | omega | (simp; try omega))).trans f11
  have f20 : w3.cell? ⟨w.heap.size + 1, 2, none⟩ = some (u1) := (gw3.cell (by first | omega | (simp; try omega))).trans f12
  have z21 : w.heap.size < w3.heap.size := by omega
  have z22 : w.heap.size + 1 < w3.heap.size := by omega
  clear hb3 H_w2 f8 f9 f10 f11 f12 z13 z14 gw3
  obtain ⟨ad23, ad23', rfl⟩ := fr_slice hc15
  have d24 : intsT.Fx w2.heap.size w3.heap.size w3 [.slice ad23 (waV x0 x1 x2).length ad23'] (waV x0 x1 x2) := (Ty.Fr.mono hc15 (by first | exact Nat.le_refl _ | (simp; try omega))).fx
  clear hc15
  simp only [putAll, Act.put]
  go_simp
  go_wp2_with fail
  refine (toTemplate_any _ (hx0.below (by repeat (first | exact Below.refl _ _ | exact bA | assumption | refine Below.setCell ?_ (by first | omega | (simp; try omega)) _ | refine Below.alloc ?_ (by first | omega | (simp; try omega)) _ | refine Below.drew ?_ | refine bDN ?_ | refine bthen ?_ (by assumption)))) (by first | omega | (unfold szInts; omega))).mono ?_
  rintro e w4 ⟨cs, rfl, hc26, hb4⟩
  have gw4 : Below w3.heap.size w3 w4 := bthen (by repeat (first | exact Below.refl _ _ | exact bA | assumption | refine Below.setCell ?_ (by first | omega | (simp; try omega)) _ | refine Below.alloc ?_ (by first | omega | (simp; try omega)) _ | refine Below.drew ?_ | refine bDN ?_ | refine bthen ?_ (by assumption))) hb4
  have sw4 : w3.heap.size + 0 ≤ w4.heap.size := by have := hb4.size; (try simp at this); omega
  have H_w4 : Below w.heap.size w w4 := bthen H_w3 gw4
  have f27 : w4.cell? ⟨w.heap.size, 0, none⟩ = some (.int .i64 x0.1) := (gw4.cell (by first | omega | (simp; try omega))).trans f16
  have f28 : w4.cell? ⟨w.heap.size, 1, none⟩ = some (u0) := (gw4.cell (by first | omega | (simp; try omega))).trans f17
  have f29 : w4.cell? ⟨w.heap.size + 1, 0, none⟩ = some (.int .i64 x1.1) := (gw4.cell (by first | omega | (simp; try omega))).trans f18
  have f30 : w4.cell? ⟨w.heap.size + 1, 1, none⟩ = some (.int .i64 x1.2.1) := (gw4.cell (by first | omega | (simp; try omega))).trans f19
  have f31 : w4.cell? ⟨w.heap.size + 1, 2, none⟩ = some (u1) := (gw4.cell (by first | omega | (simp; try omega))).trans f20
  have z32 : w.heap.size < w4.heap.size := by omega
  have z33 : w.heap.size + 1 < w4.heap.size := by omega
  have d34 : intsT.Fx w2.heap.size w3.heap.size w4 [.slice ad23 (waV x0 x1 x2).length ad23'] (waV x0 x1 x2) := d24.below gw4
  clear hb4 H_w3 f16 f17 f18 f19 f20 d24 z21 z22 gw4
  obtain ⟨ad35, ad35', rfl⟩ := fr_pair hc26
  have d36 : tplT.Fx w3.heap.size w4.heap.size w4 [.int .i64 x0.1, .slice ad35 x0.2.length ad35'] x0 := (Ty.Fr.mono hc26 (by first | exact Nat.le_refl _ | (simp; try omega))).fx
  clear hc26
  go_wp2_with fail
  refine (toFormula_any _ (hx1.below (by repeat (first | exact Below.refl _ _ | exact bA | assumption | refine Below.setCell ?_ (by first | omega | (simp; try omega)) _ | refine Below.alloc ?_ (by first | omega | (simp; try omega)) _ | refine Below.drew ?_ | refine bDN ?_ | refine bthen ?_ (by assumption)))) (by first | omega | (unfold szInts; omega))).mono ?_
  rintro e w5 ⟨cs, rfl, hc38, hb5⟩
  have gw5 : Below w4.heap.size w4 w5 := bthen (by repeat (first | exact Below.refl _ _ | exact bA | assumption | refine Below.setCell ?_ (by first | omega | (simp; try omega)) _ | refine Below.alloc ?_ (by first | omega | (simp; try omega)) _ | refine Below.drew ?_ | refine bDN ?_ | refine bthen ?_ (by assumption))) hb5
  have sw5 : w4.heap.size + 1 ≤ w5.heap.size := by have := hb5.size; (try simp at this); omega
  have H_w5 : Below w.heap.size w w5 := bthen H_w4 gw5
  have f39 : w5.cell? ⟨w.heap.size, 0, none⟩ = some (.int .i64 x0.1) := (gw5.cell (by first | omega | (simp; try omega))).trans f27
  have f40 : w5.cell? ⟨w.heap.size, 1, none⟩ = some (u0) := (gw5.cell (by first | omega | (simp; try omega))).trans f28
  have f41 : w5.cell? ⟨w.heap.size + 1, 0, none⟩ = some (.int .i64 x1.1) := (gw5.cell (by first | omega | (simp; try omega))).trans f29
  have f42 : w5.cell? ⟨w.heap.size + 1, 1, none⟩ = some (.int .i64 x1.2.1) := (gw5.cell (by first | omega | (simp; try omega))).trans f30
  have f43 : w5.cell? ⟨w.heap.size + 1, 2, none⟩ = some (u1) := (gw5.cell (by first | omega | (simp; try omega))).trans f31
  have f44 : w5.cell? ⟨w4.heap.size, 0, none⟩ = some (.int .i64 x0.1) := by rw [(bcell hb5).1 _ _ (by first | omega | (simp; try omega))]; first | (simp; done) | simp [go_sem]
  have f45 : w5.cell? ⟨w4.heap.size, 1, none⟩ = some (.slice ad35 x0.2.length ad35') := by rw [(bcell hb5).1 _ _ (by first | omega | (simp; try omega))]; first | (simp; done) | simp [go_sem]
  have z46 : w.heap.size < w5.heap.size := by omega
  have z47 : w.heap.size + 1 < w5.heap.size := by omega
  have z48 : w4.heap.size < w5.heap.size := by omega
  have d49 : intsT.Fx w2.heap.size w3.heap.size w5 [.slice ad23 (waV x0 x1 x2).length ad23'] (waV x0 x1 x2) := d34.below gw5
  have d50 : tplT.Fx w3.heap.size w4.heap.size w5 [.int .i64 x0.1, .slice ad35 x0.2.length ad35'] x0 := d36.below gw5
  clear hb5 H_w4 f27 f28 f29 f30 f31 d34 d36 z32 z33 gw5
  obtain ⟨ad51, ad51', rfl⟩ := fr_trip hc38
  have d52 : frmT.Fx (w4.heap.size + 1) w5.heap.size w5 [.int .i64 x1.1, .int .i64 x1.2.1, .slice ad51 x1.2.2.length ad51'] x1 := (Ty.Fr.mono hc38 (by first | exact Nat.le_refl _ | (simp; try omega))).fx
  clear hc38
  go_wp2_with fail
  refine (toInt64S_any _ (hx2.below (by repeat (first | exact Below.refl _ _ | exact bA | assumption | refine Below.setCell ?_ (by first | omega | (simp; try omega)) _ | refine Below.alloc ?_ (by first | omega | (simp; try omega)) _ | refine Below.drew ?_ | refine bDN ?_ | refine bthen ?_ (by assumption)))) (by first | omega | (unfold szInts; omega))).mono ?_
  rintro e w6 ⟨cs, rfl, hc54, hb6⟩
  have gw6 : Below w5.heap.size w5 w6 := bthen (by repeat (first | exact Below.refl _ _ | exact bA | assumption | refine Below.setCell ?_ (by first | omega | (simp; try omega)) _ | refine Below.alloc ?_ (by first | omega | (simp; try omega)) _ | refine Below.drew ?_ | refine bDN ?_ | refine bthen ?_ (by assumption))) hb6
  have sw6 : w5.heap.size + 1 ≤ w6.heap.size := by have := hb6.size; (try simp at this); omega
  have H_w6 : Below w.heap.size w w6 := bthen H_w5 gw6
  have f55 : w6.cell? ⟨w.heap.size, 0, none⟩ = some (.int .i64 x0.1) := (gw6.cell (by first | omega | (simp; try omega))).trans f39
  have f56 : w6.cell? ⟨w.heap.size, 1, none⟩ = some (u0) := (gw6.cell (by first | omega | (simp; try omega))).trans f40
  have f57 : w6.cell? ⟨w.heap.size + 1, 0, none⟩ = some (.int .i64 x1.1) := (gw6.cell (by first | omega | (simp; try omega))).trans f41
  have f58 : w6.cell? ⟨w.heap.size + 1, 1, none⟩ = some (.int .i64 x1.2.1) := (gw6.cell (by first | omega | (simp; try omega))).trans f42
  have f59 : w6.cell? ⟨w.heap.size + 1, 2, none⟩ = some (u1) := (gw6.cell (by first | omega | (simp; try omega))).trans f43
  have f60 : w6.cell? ⟨w4.heap.size, 0, none⟩ = some (.int .i64 x0.1) := (gw6.cell (by first | omega | (simp; try omega))).trans f44
  have f61 : w6.cell? ⟨w4.heap.size, 1, none⟩ = some (.slice ad35 x0.2.length ad35') := (gw6.cell (by first | omega | (simp; try omega))).trans f45
  have f62 : w6.cell? ⟨w5.heap.size, 0, none⟩ = some (.int .i64 x1.1) := by rw [(bcell hb6).1 _ _ (by first | omega | (simp; try omega))]; first | (simp; done) | simp [go_sem]
  have f63 : w6.cell? ⟨w5.heap.size, 1, none⟩ = some (.int .i64 x1.2.1) := by rw [(bcell hb6).1 _ _ (by first | omega | (simp; try omega))]; first | (simp; done) | simp [go_sem]
  have f64 : w6.cell? ⟨w5.heap.size, 2, none⟩ = some (.slice ad51 x1.2.2.length ad51') := by rw [(bcell hb6).1 _ _ (by first | omega | (simp; try omega))]; first | (simp; done) | simp [go_sem]
  have z65 : w.heap.size < w6.heap.size := by omega
  have z66 : w.heap.size + 1 < w6.heap.size := by omega
  have z67 : w4.heap.size < w6.heap.size := by omega
  have z68 : w5.heap.size < w6.heap.size := by omega
  have d69 : intsT.Fx w2.heap.size w3.heap.size w6 [.slice ad23 (waV x0 x1 x2).length ad23'] (waV x0 x1 x2) := d49.below gw6
  have d70 : tplT.Fx w3.heap.size w4.heap.size w6 [.int .i64 x0.1, .slice ad35 x0.2.length ad35'] x0 := d50.below gw6
  have d71 : frmT.Fx (w4.heap.size + 1) w5.heap.size w6 [.int .i64 x1.1, .int .i64 x1.2.1, .slice ad51 x1.2.2.length ad51'] x1 := d52.below gw6
  clear hb6 H_w5 f39 f40 f41 f42 f43 f44 f45 d49 d50 d52 z46 z47 z48 gw6
  obtain ⟨ad72, ad72', rfl⟩ := fr_slice hc54
  have d73 : intsT.Fx (w5.heap.size + 1) w6.heap.size w6 [.slice ad72 x2.length ad72'] x2 := (Ty.Fr.mono hc54 (by first | exact Nat.le_refl _ | (simp; try omega))).fx
  clear hc54
  go_wp2_with fail
  refine (WitnessAt_any _ (d70.rd.below (by repeat (first | exact Below.refl _ _ | exact bA | assumption | refine Below.setCell ?_ (by first | omega | (simp; try omega)) _ | refine Below.alloc ?_ (by first | omega | (simp; try omega)) _ | refine Below.drew ?_ | refine bDN ?_ | refine bthen ?_ (by assumption)))) (d71.rd.below (by repeat (first | exact Below.refl _ _ | exact bA | assumption | refine Below.setCell ?_ (by first | omega | (simp; try omega)) _ | refine Below.alloc ?_ (by first | omega | (simp; try omega)) _ | refine Below.drew ?_ | refine bDN ?_ | refine bthen ?_ (by assumption)))) (d73.rd.below (by repeat (first | exact Below.refl _ _ | exact bA | assumption | refine Below.setCell ?_ (by first | omega | (simp; try omega)) _ | refine Below.alloc ?_ (by first | omega | (simp; try omega)) _ | refine Below.drew ?_ | refine bDN ?_ | refine bthen ?_ (by assumption))))).mono ?_
  rintro e w7 ⟨cs, rfl, hc75, hb7⟩
  have gw7 : Below w6.heap.size w6 w7 := bthen (by repeat (first | exact Below.refl _ _ | exact bA | assumption | refine Below.setCell ?_ (by first | omega | (simp; try omega)) _ | refine Below.alloc ?_ (by first | omega | (simp; try omega)) _ | refine Below.drew ?_ | refine bDN ?_ | refine bthen ?_ (by assumption))) hb7
  have sw7 : w6.heap.size + 0 ≤ w7.heap.size := by have := hb7.size; (try simp at this); omega
  have H_w7 : Below w.heap.size w w7 := bthen H_w6 gw7
  have f76 : w7.cell? ⟨w.heap.size, 0, none⟩ = some (.int .i64 x0.1) := (gw7.cell (by first | omega | (simp; try omega))).trans f55
  have f77 : w7.cell? ⟨w.heap.size, 1, none⟩ = some (u0) := (gw7.cell (by first | omega | (simp; try omega))).trans f56
  have f78 : w7.cell? ⟨w.heap.size + 1, 0, none⟩ = some (.int .i64 x1.1) := (gw7.cell (by first | omega | (simp; try omega))).trans f57
  have f79 : w7.cell? ⟨w.heap.size + 1, 1, none⟩ = some (.int .i64 x1.2.1) := (gw7.cell (by first | omega | (simp; try omega))).trans f58
  have f80 : w7.cell? ⟨w.heap.size + 1, 2, none⟩ = some (u1) := (gw7.cell (by first | omega | (simp; try omega))).trans f59
  have f81 : w7.cell? ⟨w4.heap.size, 0, none⟩ = some (.int .i64 x0.1) := (gw7.cell (by first | omega | (simp; try omega))).trans f60
  have f82 : w7.cell? ⟨w4.heap.size, 1, none⟩ = some (.slice ad35 x0.2.length ad35') := (gw7.cell (by first | omega | (simp; try omega))).trans f61
  have f83 : w7.cell? ⟨w5.heap.size, 0, none⟩ = some (.int .i64 x1.1) := (gw7.cell (by first | omega | (simp; try omega))).trans f62
  have f84 : w7.cell? ⟨w5.heap.size, 1, none⟩ = some (.int .i64 x1.2.1) := (gw7.cell (by first | omega | (simp; try omega))).trans f63
  have f85 : w7.cell? ⟨w5.heap.size, 2, none⟩ = some (.slice ad51 x1.2.2.length ad51') := (gw7.cell (by first | omega | (simp; try omega))).trans f64
  have z86 : w.heap.size < w7.heap.size := by omega
  have z87 : w.heap.size + 1 < w7.heap.size := by omega
  have z88 : w4.heap.size < w7.heap.size := by omega
  have z89 : w5.heap.size < w7.heap.size := by omega
  have d90 : intsT.Fx w2.heap.size w3.heap.size w7 [.slice ad23 (waV x0 x1 x2).length ad23'] (waV x0 x1 x2) := d69.below gw7
  have d91 : tplT.Fx w3.heap.size w4.heap.size w7 [.int .i64 x0.1, .slice ad35 x0.2.length ad35'] x0 := d70.below gw7
  have d92 : frmT.Fx (w4.heap.size + 1) w5.heap.size w7 [.int .i64 x1.1, .int .i64 x1.2.1, .slice ad51 x1.2.2.length ad51'] x1 := d71.below gw7
  have d93 : intsT.Fx (w5.heap.size + 1) w6.heap.size w7 [.slice ad72 x2.length ad72'] x2 := d73.below gw7
  clear hb7 H_w6 f55 f56 f57 f58 f59 f60 f61 f62 f63 f64 d69 d70 d71 d73 z65 z66 z67 z68 gw7
  obtain ⟨ad94, ad94', rfl⟩ := fr_slice hc75
  have d95 : intsT.Fx w6.heap.size w7.heap.size w7 [.slice ad94 (waV x0 x1 x2).length ad94'] (waV x0 x1 x2) := (Ty.Fr.mono hc75 (by first | exact Nat.le_refl _ | (simp; try omega))).fx
  clear hc75
  go_wp2_with fail
  refine (eqInt64S_any _ (d95.rd.below (by repeat (first | exact Below.refl _ _ | exact bA | assumption | refine Below.setCell ?_ (by first | omega | (simp; try omega)) _ | refine Below.alloc ?_ (by first | omega | (simp; try omega)) _ | refine Below.drew ?_ | refine bDN ?_ | refine bthen ?_ (by assumption)))) (d90.rd.below (by repeat (first | exact Below.refl _ _ | exact bA | assumption | refine Below.setCell ?_ (by first | omega | (simp; try omega)) _ | refine Below.alloc ?_ (by first | omega | (simp; try omega)) _ | refine Below.drew ?_ | refine bDN ?_ | refine bthen ?_ (by assumption))))).mono ?_
  rintro e w8 ⟨rfl, hb8⟩
  have gw8 : Below w7.heap.size w7 w8 := bthen (by repeat (first | exact Below.refl _ _ | exact bA | assumption | refine Below.setCell ?_ (by first | omega | (simp; try omega)) _ | refine Below.alloc ?_ (by first | omega | (simp; try omega)) _ | refine Below.drew ?_ | refine bDN ?_ | refine bthen ?_ (by assumption))) hb8
  have sw8 : w7.heap.size + 0 ≤ w8.heap.size := by have := hb8.size; (try simp at this); omega
  have H_w8 : Below w.heap.size w w8 := bthen H_w7 gw8
  have f97 : w8.cell? ⟨w.heap.size, 0, none⟩ = some (.int .i64 x0.1) := (gw8.cell (by first | omega | (simp; try omega))).trans f76
  have f98 : w8.cell? ⟨w.heap.size, 1, none⟩ = some (u0) := (gw8.cell (by first | omega | (simp; try omega))).trans f77
  have f99 : w8.cell? ⟨w.heap.size + 1, 0, none⟩ = some (.int .i64 x1.1) := (gw8.cell (by first | omega | (simp; try omega))).trans f78
  have f100 : w8.cell? ⟨w.heap.size + 1, 1, none⟩ = some (.int .i64 x1.2.1) := (gw8.cell (by first | omega | (simp; try omega))).trans f79
  have f101 : w8.cell? ⟨w.heap.size + 1, 2, none⟩ = some (u1) := (gw8.cell (by first | omega | (simp; try omega))).trans f80
  have f102 : w8.cell? ⟨w4.heap.size, 0, none⟩ = some (.int .i64 x0.1) := (gw8.cell (by first | omega | (simp; try omega))).trans f81
  have f103 : w8.cell? ⟨w4.heap.size, 1, none⟩ = some (.slice ad35 x0.2.length ad35') := (gw8.cell (by first | omega | (simp; try omega))).trans f82
  have f104 : w8.cell? ⟨w5.heap.size, 0, none⟩ = some (.int .i64 x1.1) := (gw8.cell (by first | omega | (simp; try omega))).trans f83
  have f105 : w8.cell? ⟨w5.heap.size, 1, none⟩ = some (.int .i64 x1.2.1) := (gw8.cell (by first | omega | (simp; try omega))).trans f84
  have f106 : w8.cell? ⟨w5.heap.size, 2, none⟩ = some (.slice ad51 x1.2.2.length ad51') := (gw8.cell (by first | omega | (simp; try omega))).trans f85
  have z107 : w.heap.size < w8.heap.size := by omega
  have z108 : w.heap.size + 1 < w8.heap.size := by omega
  have z109 : w4.heap.size < w8.heap.size := by omega
  have z110 : w5.heap.size < w8.heap.size := by omega
  have d111 : intsT.Fx w2.heap.size w3.heap.size w8 [.slice ad23 (waV x0 x1 x2).length ad23'] (waV x0 x1 x2) := d90.below gw8
  have d112 : tplT.Fx w3.heap.size w4.heap.size w8 [.int .i64 x0.1, .slice ad35 x0.2.length ad35'] x0 := d91.below gw8
  have d113 : frmT.Fx (w4.heap.size + 1) w5.heap.size w8 [.int .i64 x1.1, .int .i64 x1.2.1, .slice ad51 x1.2.2.length ad51'] x1 := d92.below gw8
  have d114 : intsT.Fx (w5.heap.size + 1) w6.heap.size w8 [.slice ad72 x2.length ad72'] x2 := d93.below gw8
  have d115 : intsT.Fx w6.heap.size w7.heap.size w8 [.slice ad94 (waV x0 x1 x2).length ad94'] (waV x0 x1 x2) := d95.below gw8
  clear hb8 H_w7 f76 f77 f78 f79 f80 f81 f82 f83 f84 f85 d90 d91 d92 d93 d95 z86 z87 z88 z89 gw8
  rw [eqB_true rfl]
  go_wp2_with fail
  refine wp_region_loose [exV (.agg #[.int .i64 x0.1, .slice ad35 x0.2.length ad35']), exV (.agg #[.int .i64 x0.1, u0]), rdA tplT x0, exV (.bool true), exV (.bool false)] (by kernel_rfl) (by kernel_rfl) ⟨st_exV, st_exV, st_rdA, st_exV, st_exV, trivial⟩ ⟨?j17_0, ?j17_1, ?j17_2, ?j17_3, ?j17_4, trivial⟩ ?hQ17
  case j17_0 =>
    intro a' w' hb hd
    have e0 : a'.tmps[10]?.getD undef = .pointer (some ⟨w4.heap.size, 0, none⟩) := ev (slot_o hd 10 rfl rfl)
    have q : ∀ b o, b < w8.heap.size → w'.cell? ⟨b, o, none⟩ = w8.cell? ⟨b, o, none⟩ := (bcell hb).1
    go_simp
    exact ⟨Below.refl _ _, rfl⟩
  case j17_1 =>
    intro a' w' hb hd
    have e0 : a'.tmps[3]?.getD undef = .pointer (some ⟨w.heap.size, 0, none⟩) := ev (slot_o hd 3 rfl rfl)
    have q : ∀ b o, b < w8.heap.size → w'.cell? ⟨b, o, none⟩ = w8.cell? ⟨b, o, none⟩ := (bcell hb).1
    go_simp
    exact ⟨Below.refl _ _, rfl⟩
  case j17_2 =>
    intro a' w' hb hd
    have e66 : a'.tmps[66]?.getD undef = .agg #[.int .i64 x0.1, u0] := ev (slot_w hd 66 (exV (.agg #[.int .i64 x0.1, u0])) rfl rfl)
    have r66 : tplT.Rd w8 (#[.int .i64 x0.1, u0] : Array Value).toList x0 := hx0.below H_w8
    have r66' := r66.below hb
    go_simp
    exact ⟨Below.refl _ _, (toTemplate_any w' r66' (by first | omega | (unfold szInts; omega))).mono fun e w'' ⟨cs, he, hf, hb⟩ => ⟨_, he, hb, cs, rfl, hf.rd⟩⟩
  case j17_3 =>
    intro a' w' hb hd
    have e65 : a'.tmps[65]?.getD undef = .agg #[.int .i64 x0.1, .slice ad35 x0.2.length ad35'] := ev (slot_w hd 65 (exV (.agg #[.int .i64 x0.1, .slice ad35 x0.2.length ad35'])) rfl rfl)
    have r65 : tplT.Rd w8 (#[.int .i64 x0.1, .slice ad35 x0.2.length ad35'] : Array Value).toList x0 := d112.rd
    have r65' := r65.below hb
    have d67 := slot_w hd 67 (rdA tplT x0) rfl rfl
    obtain ⟨cs67, e67, hf67⟩ := d67
    have e67' := ev e67
    go_simp
    exact ⟨Below.refl _ _, (eqTemplate_any w' r65' hf67).mono fun e w'' ⟨he, hb⟩ => ⟨_, he, hb, exV_eqB⟩⟩
  case j17_4 =>
    intro a' w' hb hd
    have e0 : a'.tmps[68]?.getD undef = .bool true := ev (slot_w hd 68 (exV (.bool true)) rfl rfl)
    go_simp
    exact ⟨Below.refl _ _, rfl⟩
  intro vs17 w9 hb9 H0
  obtain ⟨v17_0, _, rfl, p0, H1⟩ := HAll_cons H0
  obtain ⟨v17_1, _, rfl, p1, H2⟩ := HAll_cons H1
  obtain ⟨v17_2, _, rfl, p2, H3⟩ := HAll_cons H2
  obtain ⟨v17_3, _, rfl, p3, H4⟩ := HAll_cons H3
  obtain ⟨v17_4, _, rfl, p4, H5⟩ := HAll_cons H4
  obtain rfl := HAll_nil H5
  obtain rfl := p0 rfl
  obtain rfl := p1 rfl
  obtain rfl := p3 rfl
  obtain rfl := p4 rfl
  clear p0 p1 p2 p3 p4 H0 H1 H2 H3 H4 H5
  have gw9 : Below w8.heap.size w8 w9 := bthen (by repeat (first | exact Below.refl _ _ | exact bA | assumption | refine Below.setCell ?_ (by first | omega | (simp; try omega)) _ | refine Below.alloc ?_ (by first | omega | (simp; try omega)) _ | refine Below.drew ?_ | refine bDN ?_ | refine bthen ?_ (by assumption))) hb9
  have sw9 : w8.heap.size + 0 ≤ w9.heap.size := by have := hb9.size; (try simp at this); omega
  have H_w9 : Below w.heap.size w w9 := bthen H_w8 gw9
  have f116 : w9.cell? ⟨w.heap.size, 0, none⟩ = some (.int .i64 x0.1) := (gw9.cell (by first | omega | (simp; try omega))).trans f97
  have f117 : w9.cell? ⟨w.heap.size, 1, none⟩ = some (u0) := (gw9.cell (by first | omega | (simp; try omega))).trans f98
  have f118 : w9.cell? ⟨w.heap.size + 1, 0, none⟩ = some (.int .i64 x1.1) := (gw9.cell (by first | omega | (simp; try omega))).trans f99
  have f119 : w9.cell? ⟨w.heap.size + 1, 1, none⟩ = some (.int .i64 x1.2.1) := (gw9.cell (by first | omega | (simp; try omega))).trans f100
  have f120 : w9.cell? ⟨w.heap.size + 1, 2, none⟩ = some (u1) := (gw9.cell (by first | omega | (simp; try omega))).trans f101
  have f121 : w9.cell? ⟨w4.heap.size, 0, none⟩ = some (.int .i64 x0.1) := (gw9.cell (by first | omega | (simp; try omega))).trans f102
  have f122 : w9.cell? ⟨w4.heap.size, 1, none⟩ = some (.slice ad35 x0.2.length ad35') := (gw9.cell (by first | omega | (simp; try omega))).trans f103
  have f123 : w9.cell? ⟨w5.heap.size, 0, none⟩ = some (.int .i64 x1.1) := (gw9.cell (by first | omega | (simp; try omega))).trans f104
  have f124 : w9.cell? ⟨w5.heap.size, 1, none⟩ = some (.int .i64 x1.2.1) := (gw9.cell (by first | omega | (simp; try omega))).trans f105
  have f125 : w9.cell? ⟨w5.heap.size, 2, none⟩ = some (.slice ad51 x1.2.2.length ad51') := (gw9.cell (by first | omega | (simp; try omega))).trans f106
  have z126 : w.heap.size < w9.heap.size := by omega
  have z127 : w.heap.size + 1 < w9.heap.size := by omega
  have z128 : w4.heap.size < w9.heap.size := by omega
  have z129 : w5.heap.size < w9.heap.size := by omega
  have d130 : intsT.Fx w2.heap.size w3.heap.size w9 [.slice ad23 (waV x0 x1 x2).length ad23'] (waV x0 x1 x2) := d111.below gw9
  have d131 : tplT.Fx w3.heap.size w4.heap.size w9 [.int .i64 x0.1, .slice ad35 x0.2.length ad35'] x0 := d112.below gw9
  have d132 : frmT.Fx (w4.heap.size + 1) w5.heap.size w9 [.int .i64 x1.1, .int .i64 x1.2.1, .slice ad51 x1.2.2.length ad51'] x1 := d113.below gw9
  have d133 : intsT.Fx (w5.heap.size + 1) w6.heap.size w9 [.slice ad72 x2.length ad72'] x2 := d114.below gw9
  have d134 : intsT.Fx w6.heap.size w7.heap.size w9 [.slice ad94 (waV x0 x1 x2).length ad94'] (waV x0 x1 x2) := d115.below gw9
  clear hb9 H_w8 f97 f98 f99 f100 f101 f102 f103 f104 f105 f106 d111 d112 d113 d114 d115 z107 z108 z109 z110 gw9
  simp only [putAll, Act.put]
  go_simp
  go_wp2_with fail
  refine wp_region_loose [exV (.agg #[.int .i64 x1.1, .int .i64 x1.2.1, .slice ad51 x1.2.2.length ad51']), exV (.agg #[.int .i64 x1.1, .int .i64 x1.2.1, u1]), rdA frmT x1, exV (.bool true), exV (.bool false)] (by kernel_rfl) (by kernel_rfl) ⟨st_exV, st_exV, st_rdA, st_exV, st_exV, trivial⟩ ⟨?j19_0, ?j19_1, ?j19_2, ?j19_3, ?j19_4, trivial⟩ ?hQ19
  case j19_0 =>
    intro a' w' hb hd
    have e0 : a'.tmps[11]?.getD undef = .pointer (some ⟨w5.heap.size, 0, none⟩) := ev (slot_o hd 11 rfl rfl)
    have q : ∀ b o, b < w9.heap.size → w'.cell? ⟨b, o, none⟩ = w9.cell? ⟨b, o, none⟩ := (bcell hb).1
    go_simp
    exact ⟨Below.refl _ _, rfl⟩
  case j19_1 =>
    intro a' w' hb hd
    have e0 : a'.tmps[4]?.getD undef = .pointer (some ⟨w.heap.size + 1, 0, none⟩) := ev (slot_o hd 4 rfl rfl)
    have q : ∀ b o, b < w9.heap.size → w'.cell? ⟨b, o, none⟩ = w9.cell? ⟨b, o, none⟩ := (bcell hb).1
    go_simp
    exact ⟨Below.refl _ _, rfl⟩
  case j19_2 =>
    intro a' w' hb hd
    have e71 : a'.tmps[71]?.getD undef = .agg #[.int .i64 x1.1, .int .i64 x1.2.1, u1] := ev (slot_w hd 71 (exV (.agg #[.int .i64 x1.1, .int .i64 x1.2.1, u1])) rfl rfl)
    have r71 : frmT.Rd w9 (#[.int .i64 x1.1, .int .i64 x1.2.1, u1] : Array Value).toList x1 := hx1.below H_w9
    have r71' := r71.below hb
    go_simp
    exact ⟨Below.refl _ _, (toFormula_any w' r71' (by first | omega | (unfold szInts; omega))).mono fun e w'' ⟨cs, he, hf, hb⟩ => ⟨_, he, hb, cs, rfl, hf.rd⟩⟩
  case j19_3 =>
    intro a' w' hb hd
    have e70 : a'.tmps[70]?.getD undef = .agg #[.int .i64 x1.1, .int .i64 x1.2.1, .slice ad51 x1.2.2.length ad51'] := ev (slot_w hd 70 (exV (.agg #[.int .i64 x1.1, .int .i64 x1.2.1, .slice ad51 x1.2.2.length ad51'])) rfl rfl)
    have r70 : frmT.Rd w9 (#[.int .i64 x1.1, .int .i64 x1.2.1, .slice ad51 x1.2.2.length ad51'] : Array Value).toList x1 := d132.rd
    have r70' := r70.below hb
    have d72 := slot_w hd 72 (rdA frmT x1) rfl rfl
    obtain ⟨cs72, e72, hf72⟩ := d72
    have e72' := ev e72
    go_simp
    exact ⟨Below.refl _ _, (eqFormula_any w' r70' hf72).mono fun e w'' ⟨he, hb⟩ => ⟨_, he, hb, exV_eqB⟩⟩
  case j19_4 =>
    intro a' w' hb hd
    have e0 : a'.tmps[73]?.getD undef = .bool true := ev (slot_w hd 73 (exV (.bool true)) rfl rfl)
    go_simp
    exact ⟨Below.refl _ _, rfl⟩
  intro vs19 w10 hb10 H0
  obtain ⟨v19_0, _, rfl, p0, H1⟩ := HAll_cons H0
  obtain ⟨v19_1, _, rfl, p1, H2⟩ := HAll_cons H1
  obtain ⟨v19_2, _, rfl, p2, H3⟩ := HAll_cons H2
  obtain ⟨v19_3, _, rfl, p3, H4⟩ := HAll_cons H3
  obtain ⟨v19_4, _, rfl, p4, H5⟩ := HAll_cons H4
  obtain rfl := HAll_nil H5
  obtain rfl := p0 rfl
  obtain rfl := p1 rfl
  obtain rfl := p3 rfl
  obtain rfl := p4 rfl
  clear p0 p1 p2 p3 p4 H0 H1 H2 H3 H4 H5
  have gw10 : Below w9.heap.size w9 w10 := bthen (by repeat (first | exact Below.refl _ _ | exact bA | assumption | refine Below.setCell ?_ (by first | omega | (simp; try omega)) _ | refine Below.alloc ?_ (by first | omega | (simp; try omega)) _ | refine Below.drew ?_ | refine bDN ?_ | refine bthen ?_ (by assumption))) hb10
  have sw10 : w9.heap.size + 0 ≤ w10.heap.size := by have := hb10.size; (try simp at this); omega
  have H_w10 : Below w.heap.size w w10 := bthen H_w9 gw10
  have f135 : w10.cell? ⟨w.heap.size, 0, none⟩ = some (.int .i64 x0.1) := (gw10.cell (by first | omega | (simp; try omega))).trans f116
  have f136 : w10.cell? ⟨w.heap.size, 1, none⟩ = some (u0) := (gw10.cell (by first | omega | (simp; try omega))).trans f117
  have f137 : w10.cell? ⟨w.heap.size + 1, 0, none⟩ = some (.int .i64 x1.1) := (gw10.cell (by first | omega | (simp; try omega))).trans f118
  have f138 : w10.cell? ⟨w.heap.size + 1, 1, none⟩ = some (.int .i64 x1.2.1) := (gw10.cell (by first | omega | (simp; try omega))).trans f119
  have f139 : w10.cell? ⟨w.heap.size + 1, 2, none⟩ = some (u1) := (gw10.cell (by first | omega | (simp; try omega))).trans f120
  have f140 : w10.cell? ⟨w4.heap.size, 0, none⟩ = some (.int .i64 x0.1) := (gw10.cell (by first | omega | (simp; try omega))).trans f121
  have f141 : w10.cell? ⟨w4.heap.size, 1, none⟩ = some (.slice ad35 x0.2.length ad35') := (gw10.cell (by first | omega | (simp; try omega))).trans f122
  have f142 : w10.cell? ⟨w5.heap.size, 0, none⟩ = some (.int .i64 x1.1) := (gw10.cell (by first | omega | (simp; try omega))).trans f123
  have f143 : w10.cell? ⟨w5.heap.size, 1, none⟩ = some (.int .i64 x1.2.1) := (gw10.cell (by first | omega | (simp; try omega))).trans f124
  have f144 : w10.cell? ⟨w5.heap.size, 2, none⟩ = some (.slice ad51 x1.2.2.length ad51') := (gw10.cell (by first | omega | (simp; try omega))).trans f125
  have z145 : w.heap.size < w10.heap.size := by omega
  have z146 : w.heap.size + 1 < w10.heap.size := by omega
  have z147 : w4.heap.size < w10.heap.size := by omega
  have z148 : w5.heap.size < w10.heap.size := by omega
  have d149 : intsT.Fx w2.heap.size w3.heap.size w10 [.slice ad23 (waV x0 x1 x2).length ad23'] (waV x0 x1 x2) := d130.below gw10
  have d150 : tplT.Fx w3.heap.size w4.heap.size w10 [.int .i64 x0.1, .slice ad35 x0.2.length ad35'] x0 := d131.below gw10
  have d151 : frmT.Fx (w4.heap.size + 1) w5.heap.size w10 [.int .i64 x1.1, .int .i64 x1.2.1, .slice ad51 x1.2.2.length ad51'] x1 := d132.below gw10
  have d152 : intsT.Fx (w5.heap.size + 1) w6.heap.size w10 [.slice ad72 x2.length ad72'] x2 := d133.below gw10
  have d153 : intsT.Fx w6.heap.size w7.heap.size w10 [.slice ad94 (waV x0 x1 x2).length ad94'] (waV x0 x1 x2) := d134.below gw10
  clear hb10 H_w9 f116 f117 f118 f119 f120 f121 f122 f123 f124 f125 d130 d131 d132 d133 d134 z126 z127 z128 z129 gw10
  simp only [putAll, Act.put]
  go_simp
  go_wp2_with fail
  refine (toInt64S_any _ (hx2.below (by repeat (first | exact Below.refl _ _ | exact bA | assumption | refine Below.setCell ?_ (by first | omega | (simp; try omega)) _ | refine Below.alloc ?_ (by first | omega | (simp; try omega)) _ | refine Below.drew ?_ | refine bDN ?_ | refine bthen ?_ (by assumption)))) (by first | omega | (unfold szInts; omega))).mono ?_
  rintro e w11 ⟨cs, rfl, hc154, hb11⟩
  have gw11 : Below w10.heap.size w10 w11 := bthen (by repeat (first | exact Below.refl _ _ | exact bA | assumption | refine Below.setCell ?_ (by first | omega | (simp; try omega)) _ | refine Below.alloc ?_ (by first | omega | (simp; try omega)) _ | refine Below.drew ?_ | refine bDN ?_ | refine bthen ?_ (by assumption))) hb11
  have sw11 : w10.heap.size + 0 ≤ w11.heap.size := by have := hb11.size; (try simp at this); omega
  have H_w11 : Below w.heap.size w w11 := bthen H_w10 gw11
  have f155 : w11.cell? ⟨w.heap.size, 0, none⟩ = some (.int .i64 x0.1) := (gw11.cell (by first | omega | (simp; try omega))).trans f135
  have f156 : w11.cell? ⟨w.heap.size, 1, none⟩ = some (u0) := (gw11.cell (by first | omega | (simp; try omega))).trans f136
  have f157 : w11.cell? ⟨w.heap.size + 1, 0, none⟩ = some (.int .i64 x1.1) := (gw11.cell (by first | omega | (simp; try omega))).trans f137
  have f158 : w11.cell? ⟨w.heap.size + 1, 1, none⟩ = some (.int .i64 x1.2.1) := (gw11.cell (by first | omega | (simp; try omega))).trans f138
  have f159 : w11.cell? ⟨w.heap.size + 1, 2, none⟩ = some (u1) := (gw11.cell (by first | omega | (simp; try omega))).trans f139
  have f160 : w11.cell? ⟨w4.heap.size, 0, none⟩ = some (.int .i64 x0.1) := (gw11.cell (by first | omega | (simp; try omega))).trans f140
  have f161 : w11.cell? ⟨w4.heap.size, 1, none⟩ = some (.slice ad35 x0.2.length ad35') := (gw11.cell (by first | omega | (simp; try omega))).trans f141
  have f162 : w11.cell? ⟨w5.heap.size, 0, none⟩ = some (.int .i64 x1.1) := (gw11.cell (by first | omega | (simp; try omega))).trans f142
  have f163 : w11.cell? ⟨w5.heap.size, 1, none⟩ = some (.int .i64 x1.2.1) := (gw11.cell (by first | omega | (simp; try omega))).trans f143
  have f164 : w11.cell? ⟨w5.heap.size, 2, none⟩ = some (.slice ad51 x1.2.2.length ad51') := (gw11.cell (by first | omega | (simp; try omega))).trans f144
  have z165 : w.heap.size < w11.heap.size := by omega
  have z166 : w.heap.size + 1 < w11.heap.size := by omega
  have z167 : w4.heap.size < w11.heap.size := by omega
  have z168 : w5.heap.size < w11.heap.size := by omega
  have d169 : intsT.Fx w2.heap.size w3.heap.size w11 [.slice ad23 (waV x0 x1 x2).length ad23'] (waV x0 x1 x2) := d149.below gw11
  have d170 : tplT.Fx w3.heap.size w4.heap.size w11 [.int .i64 x0.1, .slice ad35 x0.2.length ad35'] x0 := d150.below gw11
  have d171 : frmT.Fx (w4.heap.size + 1) w5.heap.size w11 [.int .i64 x1.1, .int .i64 x1.2.1, .slice ad51 x1.2.2.length ad51'] x1 := d151.below gw11
  have d172 : intsT.Fx (w5.heap.size + 1) w6.heap.size w11 [.slice ad72 x2.length ad72'] x2 := d152.below gw11
  have d173 : intsT.Fx w6.heap.size w7.heap.size w11 [.slice ad94 (waV x0 x1 x2).length ad94'] (waV x0 x1 x2) := d153.below gw11
  clear hb11 H_w10 f135 f136 f137 f138 f139 f140 f141 f142 f143 f144 d149 d150 d151 d152 d153 z145 z146 z147 z148 gw11
  obtain ⟨ad174, ad174', rfl⟩ := fr_slice hc154
  have d175 : intsT.Fx w10.heap.size w11.heap.size w11 [.slice ad174 x2.length ad174'] x2 := (Ty.Fr.mono hc154 (by first | exact Nat.le_refl _ | (simp; try omega))).fx
  clear hc154
  go_wp2_with fail
  refine (eqInt64S_any _ (d172.rd.below (by repeat (first | exact Below.refl _ _ | exact bA | assumption | refine Below.setCell ?_ (by first | omega | (simp; try omega)) _ | refine Below.alloc ?_ (by first | omega | (simp; try omega)) _ | refine Below.drew ?_ | refine bDN ?_ | refine bthen ?_ (by assumption)))) (d175.rd.below (by repeat (first | exact Below.refl _ _ | exact bA | assumption | refine Below.setCell ?_ (by first | omega | (simp; try omega)) _ | refine Below.alloc ?_ (by first | omega | (simp; try omega)) _ | refine Below.drew ?_ | refine bDN ?_ | refine bthen ?_ (by assumption))))).mono ?_
  rintro e w12 ⟨rfl, hb12⟩
  have gw12 : Below w11.heap.size w11 w12 := bthen (by repeat (first | exact Below.refl _ _ | exact bA | assumption | refine Below.setCell ?_ (by first | omega | (simp; try omega)) _ | refine Below.alloc ?_ (by first | omega | (simp; try omega)) _ | refine Below.drew ?_ | refine bDN ?_ | refine bthen ?_ (by assumption))) hb12
  have sw12 : w11.heap.size + 0 ≤ w12.heap.size := by have := hb12.size; (try simp at this); omega
  have H_w12 : Below w.heap.size w w12 := bthen H_w11 gw12
  have f177 : w12.cell? ⟨w.heap.size, 0, none⟩ = some (.int .i64 x0.1) := (gw12.cell (by first | omega | (simp; try omega))).trans f155
  have f178 : w12.cell? ⟨w.heap.size, 1, none⟩ = some (u0) := (gw12.cell (by first | omega | (simp; try omega))).trans f156
  have f179 : w12.cell? ⟨w.heap.size + 1, 0, none⟩ = some (.int .i64 x1.1) := (gw12.cell (by first | omega | (simp; try omega))).trans f157
  have f180 : w12.cell? ⟨w.heap.size + 1, 1, none⟩ = some (.int .i64 x1.2.1) := (gw12.cell (by first | omega | (simp; try omega))).trans f158
  have f181 : w12.cell? ⟨w.heap.size + 1, 2, none⟩ = some (u1) := (gw12.cell (by first | omega | (simp; try omega))).trans f159
  have f182 : w12.cell? ⟨w4.heap.size, 0, none⟩ = some (.int .i64 x0.1) := (gw12.cell (by first | omega | (simp; try omega))).trans f160
  have f183 : w12.cell? ⟨w4.heap.size, 1, none⟩ = some (.slice ad35 x0.2.length ad35') := (gw12.cell (by first | omega | (simp; try omega))).trans f161
  have f184 : w12.cell? ⟨w5.heap.size, 0, none⟩ = some (.int .i64 x1.1) := (gw12.cell (by first | omega | (simp; try omega))).trans f162
  have f185 : w12.cell? ⟨w5.heap.size, 1, none⟩ = some (.int .i64 x1.2.1) := (gw12.cell (by first | omega | (simp; try omega))).trans f163
  have f186 : w12.cell? ⟨w5.heap.size, 2, none⟩ = some (.slice ad51 x1.2.2.length ad51') := (gw12.cell (by first | omega | (simp; try omega))).trans f164
  have z187 : w.heap.size < w12.heap.size := by omega
  have z188 : w.heap.size + 1 < w12.heap.size := by omega
  have z189 : w4.heap.size < w12.heap.size := by omega
  have z190 : w5.heap.size < w12.heap.size := by omega
  have d191 : intsT.Fx w2.heap.size w3.heap.size w12 [.slice ad23 (waV x0 x1 x2).length ad23'] (waV x0 x1 x2) := d169.below gw12
  have d192 : tplT.Fx w3.heap.size w4.heap.size w12 [.int .i64 x0.1, .slice ad35 x0.2.length ad35'] x0 := d170.below gw12
  have d193 : frmT.Fx (w4.heap.size + 1) w5.heap.size w12 [.int .i64 x1.1, .int .i64 x1.2.1, .slice ad51 x1.2.2.length ad51'] x1 := d171.below gw12
  have d194 : intsT.Fx (w5.heap.size + 1) w6.heap.size w12 [.slice ad72 x2.length ad72'] x2 := d172.below gw12
  have d195 : intsT.Fx w6.heap.size w7.heap.size w12 [.slice ad94 (waV x0 x1 x2).length ad94'] (waV x0 x1 x2) := d173.below gw12
  have d196 : intsT.Fx w10.heap.size w11.heap.size w12 [.slice ad174 x2.length ad174'] x2 := d175.below gw12
  clear hb12 H_w11 f155 f156 f157 f158 f159 f160 f161 f162 f163 f164 d169 d170 d171 d172 d173 d175 z165 z166 z167 z168 gw12
  rw [eqB_true rfl]
  go_wp2_with fail
  refine (markTemplate_fx _ d192 _ (by omega) (by omega)).mono ?_
  rintro e w13 ⟨rfl, hb13, d197⟩
  clear d192
  have sw13 : w12.heap.size ≤ w13.heap.size := hb13.size
  have H_w13 : Below w.heap.size w w13 := below_tch H_w12 hb13 (by omega) (by omega)
  have f198 : w13.cell? ⟨w.heap.size, 0, none⟩ = some (.int .i64 x0.1) := (hb13.cell (by omega) (by omega)).trans f177
  have f199 : w13.cell? ⟨w.heap.size, 1, none⟩ = some (u0) := (hb13.cell (by omega) (by omega)).trans f178
  have f200 : w13.cell? ⟨w.heap.size + 1, 0, none⟩ = some (.int .i64 x1.1) := (hb13.cell (by omega) (by omega)).trans f179
  have f201 : w13.cell? ⟨w.heap.size + 1, 1, none⟩ = some (.int .i64 x1.2.1) := (hb13.cell (by omega) (by omega)).trans f180
  have f202 : w13.cell? ⟨w.heap.size + 1, 2, none⟩ = some (u1) := (hb13.cell (by omega) (by omega)).trans f181
  have f203 : w13.cell? ⟨w4.heap.size, 0, none⟩ = some (.int .i64 x0.1) := (hb13.cell (by omega) (by omega)).trans f182
  have f204 : w13.cell? ⟨w4.heap.size, 1, none⟩ = some (.slice ad35 x0.2.length ad35') := (hb13.cell (by omega) (by omega)).trans f183
  have f205 : w13.cell? ⟨w5.heap.size, 0, none⟩ = some (.int .i64 x1.1) := (hb13.cell (by omega) (by omega)).trans f184
  have f206 : w13.cell? ⟨w5.heap.size, 1, none⟩ = some (.int .i64 x1.2.1) := (hb13.cell (by omega) (by omega)).trans f185
  have f207 : w13.cell? ⟨w5.heap.size, 2, none⟩ = some (.slice ad51 x1.2.2.length ad51') := (hb13.cell (by omega) (by omega)).trans f186
  have z208 : w.heap.size < w13.heap.size := by omega
  have z209 : w.heap.size + 1 < w13.heap.size := by omega
  have z210 : w4.heap.size < w13.heap.size := by omega
  have z211 : w5.heap.size < w13.heap.size := by omega
  have d212 : intsT.Fx w2.heap.size w3.heap.size w13 [.slice ad23 (waV x0 x1 x2).length ad23'] (waV x0 x1 x2) := d191.tch hb13 (by omega)
  have d213 : frmT.Fx (w4.heap.size + 1) w5.heap.size w13 [.int .i64 x1.1, .int .i64 x1.2.1, .slice ad51 x1.2.2.length ad51'] x1 := d193.tch hb13 (by omega)
  have d214 : intsT.Fx (w5.heap.size + 1) w6.heap.size w13 [.slice ad72 x2.length ad72'] x2 := d194.tch hb13 (by omega)
  have d215 : intsT.Fx w6.heap.size w7.heap.size w13 [.slice ad94 (waV x0 x1 x2).length ad94'] (waV x0 x1 x2) := d195.tch hb13 (by omega)
  have d216 : intsT.Fx w10.heap.size w11.heap.size w13 [.slice ad174 x2.length ad174'] x2 := d196.tch hb13 (by omega)
  clear hb13 H_w12 f177 f178 f179 f180 f181 f182 f183 f184 f185 f186 d191 d193 d194 d195 d196 z187 z188 z189 z190
  have hk217 : 0 ≤ (1 + cntTpl x0) := by omega
  go_wp2_with fail
  refine (markFormula_fx _ d213 _ (by omega) (by omega)).mono ?_
  rintro e w14 ⟨rfl, hb14, d218⟩
  clear d213
  have sw14 : w13.heap.size ≤ w14.heap.size := hb14.size
  have H_w14 : Below w.heap.size w w14 := below_tch H_w13 hb14 (by omega) (by omega)
  have f219 : w14.cell? ⟨w.heap.size, 0, none⟩ = some (.int .i64 x0.1) := (hb14.cell (by omega) (by omega)).trans f198
  have f220 : w14.cell? ⟨w.heap.size, 1, none⟩ = some (u0) := (hb14.cell (by omega) (by omega)).trans f199
  have f221 : w14.cell? ⟨w.heap.size + 1, 0, none⟩ = some (.int .i64 x1.1) := (hb14.cell (by omega) (by omega)).trans f200
  have f222 : w14.cell? ⟨w.heap.size + 1, 1, none⟩ = some (.int .i64 x1.2.1) := (hb14.cell (by omega) (by omega)).trans f201
  have f223 : w14.cell? ⟨w.heap.size + 1, 2, none⟩ = some (u1) := (hb14.cell (by omega) (by omega)).trans f202
  have f224 : w14.cell? ⟨w4.heap.size, 0, none⟩ = some (.int .i64 x0.1) := (hb14.cell (by omega) (by omega)).trans f203
  have f225 : w14.cell? ⟨w4.heap.size, 1, none⟩ = some (.slice ad35 x0.2.length ad35') := (hb14.cell (by omega) (by omega)).trans f204
  have f226 : w14.cell? ⟨w5.heap.size, 0, none⟩ = some (.int .i64 x1.1) := (hb14.cell (by omega) (by omega)).trans f205
  have f227 : w14.cell? ⟨w5.heap.size, 1, none⟩ = some (.int .i64 x1.2.1) := (hb14.cell (by omega) (by omega)).trans f206
  have f228 : w14.cell? ⟨w5.heap.size, 2, none⟩ = some (.slice ad51 x1.2.2.length ad51') := (hb14.cell (by omega) (by omega)).trans f207
  have z229 : w.heap.size < w14.heap.size := by omega
  have z230 : w.heap.size + 1 < w14.heap.size := by omega
  have z231 : w4.heap.size < w14.heap.size := by omega
  have z232 : w5.heap.size < w14.heap.size := by omega
  have d233 : intsT.Fx w2.heap.size w3.heap.size w14 [.slice ad23 (waV x0 x1 x2).length ad23'] (waV x0 x1 x2) := d212.tch hb14 (by omega)
  have d234 : tplT.Fx w3.heap.size w4.heap.size w14 [.int .i64 x0.1, .slice ad35 x0.2.length ad35'] (mkTpl 1 x0) := d197.tch hb14 (by omega)
  have d235 : intsT.Fx (w5.heap.size + 1) w6.heap.size w14 [.slice ad72 x2.length ad72'] x2 := d214.tch hb14 (by omega)
  have d236 : intsT.Fx w6.heap.size w7.heap.size w14 [.slice ad94 (waV x0 x1 x2).length ad94'] (waV x0 x1 x2) := d215.tch hb14 (by omega)
  have d237 : intsT.Fx w10.heap.size w11.heap.size w14 [.slice ad174 x2.length ad174'] x2 := d216.tch hb14 (by omega)
  clear hb14 H_w13 f198 f199 f200 f201 f202 f203 f204 f205 f206 f207 d212 d197 d214 d215 d216 z208 z209 z210 z211
  have hk238 : 0 ≤ ((1 + cntTpl x0) + cntFrm x1) := by omega
  go_wp2_with fail
  refine (markInt64S_fx _ d235 _ (by omega) (by omega)).mono ?_
  rintro e w15 ⟨rfl, hb15, d239⟩
  clear d235
  have sw15 : w14.heap.size ≤ w15.heap.size := hb15.size
  have H_w15 : Below w.heap.size w w15 := below_tch H_w14 hb15 (by omega) (by omega)
  have f240 : w15.cell? ⟨w.heap.size, 0, none⟩ = some (.int .i64 x0.1) := (hb15.cell (by omega) (by omega)).trans f219
  have f241 : w15.cell? ⟨w.heap.size, 1, none⟩ = some (u0) := (hb15.cell (by omega) (by omega)).trans f220
  have f242 : w15.cell? ⟨w.heap.size + 1, 0, none⟩ = some (.int .i64 x1.1) := (hb15.cell (by omega) (by omega)).trans f221
  have f243 : w15.cell? ⟨w.heap.size + 1, 1, none⟩ = some (.int .i64 x1.2.1) := (hb15.cell (by omega) (by omega)).trans f222
  have f244 : w15.cell? ⟨w.heap.size + 1, 2, none⟩ = some (u1) := (hb15.cell (by omega) (by omega)).trans f223
  have f245 : w15.cell? ⟨w4.heap.size, 0, none⟩ = some (.int .i64 x0.1) := (hb15.cell (by omega) (by omega)).trans f224
  have f246 : w15.cell? ⟨w4.heap.size, 1, none⟩ = some (.slice ad35 x0.2.length ad35') := (hb15.cell (by omega) (by omega)).trans f225
  have f247 : w15.cell? ⟨w5.heap.size, 0, none⟩ = some (.int .i64 x1.1) := (hb15.cell (by omega) (by omega)).trans f226
  have f248 : w15.cell? ⟨w5.heap.size, 1, none⟩ = some (.int .i64 x1.2.1) := (hb15.cell (by omega) (by omega)).trans f227
  have f249 : w15.cell? ⟨w5.heap.size, 2, none⟩ = some (.slice ad51 x1.2.2.length ad51') := (hb15.cell (by omega) (by omega)).trans f228
  have z250 : w.heap.size < w15.heap.size := by omega
  have z251 : w.heap.size + 1 < w15.heap.size := by omega
  have z252 : w4.heap.size < w15.heap.size := by omega
  have z253 : w5.heap.size < w15.heap.size := by omega
  have d254 : intsT.Fx w2.heap.size w3.heap.size w15 [.slice ad23 (waV x0 x1 x2).length ad23'] (waV x0 x1 x2) := d233.tch hb15 (by omega)
  have d255 : tplT.Fx w3.heap.size w4.heap.size w15 [.int .i64 x0.1, .slice ad35 x0.2.length ad35'] (mkTpl 1 x0) := d234.tch hb15 (by omega)
  have d256 : frmT.Fx (w4.heap.size + 1) w5.heap.size w15 [.int .i64 x1.1, .int .i64 x1.2.1, .slice ad51 x1.2.2.length ad51'] (mkFrm (1 + cntTpl x0) x1) := d218.tch hb15 (by omega)
  have d257 : intsT.Fx w6.heap.size w7.heap.size w15 [.slice ad94 (waV x0 x1 x2).length ad94'] (waV x0 x1 x2) := d236.tch hb15 (by omega)
  have d258 : intsT.Fx w10.heap.size w11.heap.size w15 [.slice ad174 x2.length ad174'] x2 := d237.tch hb15 (by omega)
  clear hb15 H_w14 f219 f220 f221 f222 f223 f224 f225 f226 f227 f228 d233 d234 d218 d236 d237 z229 z230 z231 z232
  have hk259 : 0 ≤ (((1 + cntTpl x0) + cntFrm x1) + cntI x2) := by omega
  go_wp2_with fail
  refine (eqInt64S_any _ (d257.rd.below (by repeat (first | exact Below.refl _ _ | exact bA | assumption | refine Below.setCell ?_ (by first | omega | (simp; try omega)) _ | refine Below.alloc ?_ (by first | omega | (simp; try omega)) _ | refine Below.drew ?_ | refine bDN ?_ | refine bthen ?_ (by assumption)))) (d254.rd.below (by repeat (first | exact Below.refl _ _ | exact bA | assumption | refine Below.setCell ?_ (by first | omega | (simp; try omega)) _ | refine Below.alloc ?_ (by first | omega | (simp; try omega)) _ | refine Below.drew ?_ | refine bDN ?_ | refine bthen ?_ (by assumption))))).mono ?_
  rintro e w16 ⟨rfl, hb16⟩
  have gw16 : Below w15.heap.size w15 w16 := bthen (by repeat (first | exact Below.refl _ _ | exact bA | assumption | refine Below.setCell ?_ (by first | omega | (simp; try omega)) _ | refine Below.alloc ?_ (by first | omega | (simp; try omega)) _ | refine Below.drew ?_ | refine bDN ?_ | refine bthen ?_ (by assumption))) hb16
  have sw16 : w15.heap.size + 0 ≤ w16.heap.size := by have := hb16.size; (try simp at this); omega
  have H_w16 : Below w.heap.size w w16 := bthen H_w15 gw16
  have f260 : w16.cell? ⟨w.heap.size, 0, none⟩ = some (.int .i64 x0.1) := (gw16.cell (by first | omega | (simp; try omega))).trans f240
  have f261 : w16.cell? ⟨w.heap.size, 1, none⟩ = some (u0) := (gw16.cell (by first | omega | (simp; try omega))).trans f241
  have f262 : w16.cell? ⟨w.heap.size + 1, 0, none⟩ = some (.int .i64 x1.1) := (gw16.cell (by first | omega | (simp; try omega))).trans f242
  have f263 : w16.cell? ⟨w.heap.size + 1, 1, none⟩ = some (.int .i64 x1.2.1) := (gw16.cell (by first | omega | (simp; try omega))).trans f243
  have f264 : w16.cell? ⟨w.heap.size + 1, 2, none⟩ = some (u1) := (gw16.cell (by first | omega | (simp; try omega))).trans f244
  have f265 : w16.cell? ⟨w4.heap.size, 0, none⟩ = some (.int .i64 x0.1) := (gw16.cell (by first | omega | (simp; try omega))).trans f245
  have f266 : w16.cell? ⟨w4.heap.size, 1, none⟩ = some (.slice ad35 x0.2.length ad35') := (gw16.cell (by first | omega | (simp; try omega))).trans f246
  have f267 : w16.cell? ⟨w5.heap.size, 0, none⟩ = some (.int .i64 x1.1) := (gw16.cell (by first | omega | (simp; try omega))).trans f247
  have f268 : w16.cell? ⟨w5.heap.size, 1, none⟩ = some (.int .i64 x1.2.1) := (gw16.cell (by first | omega | (simp; try omega))).trans f248
  have f269 : w16.cell? ⟨w5.heap.size, 2, none⟩ = some (.slice ad51 x1.2.2.length ad51') := (gw16.cell (by first | omega | (simp; try omega))).trans f249
  have z270 : w.heap.size < w16.heap.size := by omega
  have z271 : w.heap.size + 1 < w16.heap.size := by omega
  have z272 : w4.heap.size < w16.heap.size := by omega
  have z273 : w5.heap.size < w16.heap.size := by omega
  have d274 : intsT.Fx w2.heap.size w3.heap.size w16 [.slice ad23 (waV x0 x1 x2).length ad23'] (waV x0 x1 x2) := d254.below gw16
  have d275 : tplT.Fx w3.heap.size w4.heap.size w16 [.int .i64 x0.1, .slice ad35 x0.2.length ad35'] (mkTpl 1 x0) := d255.below gw16
  have d276 : frmT.Fx (w4.heap.size + 1) w5.heap.size w16 [.int .i64 x1.1, .int .i64 x1.2.1, .slice ad51 x1.2.2.length ad51'] (mkFrm (1 + cntTpl x0) x1) := d256.below gw16
  have d277 : intsT.Fx (w5.heap.size + 1) w6.heap.size w16 [.slice ad72 x2.length ad72'] (mkI ((1 + cntTpl x0) + cntFrm x1) x2) := d239.below gw16
  have d278 : intsT.Fx w6.heap.size w7.heap.size w16 [.slice ad94 (waV x0 x1 x2).length ad94'] (waV x0 x1 x2) := d257.below gw16
  have d279 : intsT.Fx w10.heap.size w11.heap.size w16 [.slice ad174 x2.length ad174'] x2 := d258.below gw16
  clear hb16 H_w15 f240 f241 f242 f243 f244 f245 f246 f247 f248 f249 d254 d255 d256 d239 d257 d258 z250 z251 z252 z253 gw16
  rw [eqB_true rfl]
  go_wp2_with fail
  refine (markInt64S_fx _ d278 _ (by omega) (by omega)).mono ?_
  rintro e w17 ⟨rfl, hb17, d280⟩
  clear d278
  have sw17 : w16.heap.size ≤ w17.heap.size := hb17.size
  have H_w17 : Below w.heap.size w w17 := below_tch H_w16 hb17 (by omega) (by omega)
  have f281 : w17.cell? ⟨w.heap.size, 0, none⟩ = some (.int .i64 x0.1) := (hb17.cell (by omega) (by omega)).trans f260
  have f282 : w17.cell? ⟨w.heap.size, 1, none⟩ = some (u0) := (hb17.cell (by omega) (by omega)).trans f261
  have f283 : w17.cell? ⟨w.heap.size + 1, 0, none⟩ = some (.int .i64 x1.1) := (hb17.cell (by omega) (by omega)).trans f262
  have f284 : w17.cell? ⟨w.heap.size + 1, 1, none⟩ = some (.int .i64 x1.2.1) := (hb17.cell (by omega) (by omega)).trans f263
  have f285 : w17.cell? ⟨w.heap.size + 1, 2, none⟩ = some (u1) := (hb17.cell (by omega) (by omega)).trans f264
  have f286 : w17.cell? ⟨w4.heap.size, 0, none⟩ = some (.int .i64 x0.1) := (hb17.cell (by omega) (by omega)).trans f265
  have f287 : w17.cell? ⟨w4.heap.size, 1, none⟩ = some (.slice ad35 x0.2.length ad35') := (hb17.cell (by omega) (by omega)).trans f266
  have f288 : w17.cell? ⟨w5.heap.size, 0, none⟩ = some (.int .i64 x1.1) := (hb17.cell (by omega) (by omega)).trans f267
  have f289 : w17.cell? ⟨w5.heap.size, 1, none⟩ = some (.int .i64 x1.2.1) := (hb17.cell (by omega) (by omega)).trans f268
  have f290 : w17.cell? ⟨w5.heap.size, 2, none⟩ = some (.slice ad51 x1.2.2.length ad51') := (hb17.cell (by omega) (by omega)).trans f269
  have z291 : w.heap.size < w17.heap.size := by omega
  have z292 : w.heap.size + 1 < w17.heap.size := by omega
  have z293 : w4.heap.size < w17.heap.size := by omega
  have z294 : w5.heap.size < w17.heap.size := by omega
  have d295 : intsT.Fx w2.heap.size w3.heap.size w17 [.slice ad23 (waV x0 x1 x2).length ad23'] (waV x0 x1 x2) := d274.tch hb17 (by omega)
  have d296 : tplT.Fx w3.heap.size w4.heap.size w17 [.int .i64 x0.1, .slice ad35 x0.2.length ad35'] (mkTpl 1 x0) := d275.tch hb17 (by omega)
  have d297 : frmT.Fx (w4.heap.size + 1) w5.heap.size w17 [.int .i64 x1.1, .int .i64 x1.2.1, .slice ad51 x1.2.2.length ad51'] (mkFrm (1 + cntTpl x0) x1) := d276.tch hb17 (by omega)
  have d298 : intsT.Fx (w5.heap.size + 1) w6.heap.size w17 [.slice ad72 x2.length ad72'] (mkI ((1 + cntTpl x0) + cntFrm x1) x2) := d277.tch hb17 (by omega)
  have d299 : intsT.Fx w10.heap.size w11.heap.size w17 [.slice ad174 x2.length ad174'] x2 := d279.tch hb17 (by omega)
  clear hb17 H_w16 f260 f261 f262 f263 f264 f265 f266 f267 f268 f269 d274 d275 d276 d277 d279 z270 z271 z272 z273
  have hk300 : 0 ≤ (1 + cntI (waV x0 x1 x2)) := by omega
  go_wp2_with fail
  refine (heldInt64S_any _ _ d280.rd (by omega) (by omega)).mono ?_
  rintro e w18 ⟨rfl, hb18⟩
  have gw18 : Below w17.heap.size w17 w18 := bthen (by repeat (first | exact Below.refl _ _ | exact bA | assumption | refine Below.setCell ?_ (by first | omega | (simp; try omega)) _ | refine Below.alloc ?_ (by first | omega | (simp; try omega)) _ | refine Below.drew ?_ | refine bDN ?_ | refine bthen ?_ (by assumption))) hb18
  have sw18 : w17.heap.size + 0 ≤ w18.heap.size := by have := hb18.size; (try simp at this); omega
  have H_w18 : Below w.heap.size w w18 := bthen H_w17 gw18
  have f301 : w18.cell? ⟨w.heap.size, 0, none⟩ = some (.int .i64 x0.1) := (gw18.cell (by first | omega | (simp; try omega))).trans f281
  have f302 : w18.cell? ⟨w.heap.size, 1, none⟩ = some (u0) := (gw18.cell (by first | omega | (simp; try omega))).trans f282
  have f303 : w18.cell? ⟨w.heap.size + 1, 0, none⟩ = some (.int .i64 x1.1) := (gw18.cell (by first | omega | (simp; try omega))).trans f283
  have f304 : w18.cell? ⟨w.heap.size + 1, 1, none⟩ = some (.int .i64 x1.2.1) := (gw18.cell (by first | omega | (simp; try omega))).trans f284
  have f305 : w18.cell? ⟨w.heap.size + 1, 2, none⟩ = some (u1) := (gw18.cell (by first | omega | (simp; try omega))).trans f285
  have f306 : w18.cell? ⟨w4.heap.size, 0, none⟩ = some (.int .i64 x0.1) := (gw18.cell (by first | omega | (simp; try omega))).trans f286
  have f307 : w18.cell? ⟨w4.heap.size, 1, none⟩ = some (.slice ad35 x0.2.length ad35') := (gw18.cell (by first | omega | (simp; try omega))).trans f287
  have f308 : w18.cell? ⟨w5.heap.size, 0, none⟩ = some (.int .i64 x1.1) := (gw18.cell (by first | omega | (simp; try omega))).trans f288
  have f309 : w18.cell? ⟨w5.heap.size, 1, none⟩ = some (.int .i64 x1.2.1) := (gw18.cell (by first | omega | (simp; try omega))).trans f289
  have f310 : w18.cell? ⟨w5.heap.size, 2, none⟩ = some (.slice ad51 x1.2.2.length ad51') := (gw18.cell (by first | omega | (simp; try omega))).trans f290
  have z311 : w.heap.size < w18.heap.size := by omega
  have z312 : w.heap.size + 1 < w18.heap.size := by omega
  have z313 : w4.heap.size < w18.heap.size := by omega
  have z314 : w5.heap.size < w18.heap.size := by omega
  have d315 : intsT.Fx w2.heap.size w3.heap.size w18 [.slice ad23 (waV x0 x1 x2).length ad23'] (waV x0 x1 x2) := d295.below gw18
  have d316 : tplT.Fx w3.heap.size w4.heap.size w18 [.int .i64 x0.1, .slice ad35 x0.2.length ad35'] (mkTpl 1 x0) := d296.below gw18
  have d317 : frmT.Fx (w4.heap.size + 1) w5.heap.size w18 [.int .i64 x1.1, .int .i64 x1.2.1, .slice ad51 x1.2.2.length ad51'] (mkFrm (1 + cntTpl x0) x1) := d297.below gw18
  have d318 : intsT.Fx (w5.heap.size + 1) w6.heap.size w18 [.slice ad72 x2.length ad72'] (mkI ((1 + cntTpl x0) + cntFrm x1) x2) := d298.below gw18
  have d319 : intsT.Fx w6.heap.size w7.heap.size w18 [.slice ad94 (waV x0 x1 x2).length ad94'] (mkI 1 (waV x0 x1 x2)) := d280.below gw18
  have d320 : intsT.Fx w10.heap.size w11.heap.size w18 [.slice ad174 x2.length ad174'] x2 := d299.below gw18
  clear hb18 H_w17 f281 f282 f283 f284 f285 f286 f287 f288 f289 f290 d295 d296 d297 d298 d280 d299 z291 z292 z293 z294 gw18
  go_wp2_with fail
  refine wp_region_loose [exV (.agg #[.int .i64 x0.1, u0]), rdA tplT x0, exV (.agg #[.int .i64 x1.1, .int .i64 x1.2.1, u1]), rdA frmT x1, exV (.slice ad2 x2.length cap2), rdS intsT x2, frTS intsT w18.heap.size (waV x0 x1 x2) (.int .i64 (waC x0 x1 x2)), frTS intsT w18.heap.size (waV x0 x1 x2) (.int .i64 (waC x0 x1 x2)), frS intsT w18.heap.size (waV x0 x1 x2), exV (.int .i64 (waC x0 x1 x2)), frS intsT w18.heap.size (waV x0 x1 x2), exV (.int .i64 (waC x0 x1 x2))] (by kernel_rfl) (by kernel_rfl) ⟨st_exV, st_rdA, st_exV, st_rdA, st_exV, st_rdS, st_frTS, st_frTS, st_frS, st_exV, st_frS, st_exV, trivial⟩ ⟨?j37_0, ?j37_1, ?j37_2, ?j37_3, ?j37_4, ?j37_5, ?j37_6, ?j37_7, ?j37_8, ?j37_9, ?j37_10, ?j37_11, trivial⟩ ?hQ37
  case j37_0 =>
    intro a' w' hb hd
    have e0 : a'.tmps[3]?.getD undef = .pointer (some ⟨w.heap.size, 0, none⟩) := ev (slot_o hd 3 rfl rfl)
    have q : ∀ b o, b < w18.heap.size → w'.cell? ⟨b, o, none⟩ = w18.cell? ⟨b, o, none⟩ := (bcell hb).1
    go_simp
    exact ⟨Below.refl _ _, rfl⟩
  case j37_1 =>
    intro a' w' hb hd
    have e114 : a'.tmps[114]?.getD undef = .agg #[.int .i64 x0.1, u0] := ev (slot_w hd 114 (exV (.agg #[.int .i64 x0.1, u0])) rfl rfl)
    have r114 : tplT.Rd w18 (#[.int .i64 x0.1, u0] : Array Value).toList x0 := hx0.below H_w18
    have r114' := r114.below hb
    go_simp
    exact ⟨Below.refl _ _, (toTemplate_any w' r114' (by first | omega | (unfold szInts; omega))).mono fun e w'' ⟨cs, he, hf, hb⟩ => ⟨_, he, hb, cs, rfl, hf.rd⟩⟩
  case j37_2 =>
    intro a' w' hb hd
    have e0 : a'.tmps[4]?.getD undef = .pointer (some ⟨w.heap.size + 1, 0, none⟩) := ev (slot_o hd 4 rfl rfl)
    have q : ∀ b o, b < w18.heap.size → w'.cell? ⟨b, o, none⟩ = w18.cell? ⟨b, o, none⟩ := (bcell hb).1
    go_simp
    exact ⟨Below.refl _ _, rfl⟩
  case j37_3 =>
    intro a' w' hb hd
    have e116 : a'.tmps[116]?.getD undef = .agg #[.int .i64 x1.1, .int .i64 x1.2.1, u1] := ev (slot_w hd 116 (exV (.agg #[.int .i64 x1.1, .int .i64 x1.2.1, u1])) rfl rfl)
    have r116 : frmT.Rd w18 (#[.int .i64 x1.1, .int .i64 x1.2.1, u1] : Array Value).toList x1 := hx1.below H_w18
    have r116' := r116.below hb
    go_simp
    exact ⟨Below.refl _ _, (toFormula_any w' r116' (by first | omega | (unfold szInts; omega))).mono fun e w'' ⟨cs, he, hf, hb⟩ => ⟨_, he, hb, cs, rfl, hf.rd⟩⟩
  case j37_4 =>
    intro a' w' hb hd
    have e0 : a'.tmps[2]?.getD undef = .slice ad2 x2.length cap2 := ev (slot_o hd 2 rfl rfl)
    go_simp
    exact ⟨Below.refl _ _, rfl⟩
  case j37_5 =>
    intro a' w' hb hd
    have e118 : a'.tmps[118]?.getD undef = .slice ad2 x2.length cap2 := ev (slot_w hd 118 (exV (.slice ad2 x2.length cap2)) rfl rfl)
    have r118 : intsT.Rd w18 [.slice ad2 x2.length cap2] x2 := hx2.below H_w18
    have r118' := r118.below hb
    go_simp
    exact ⟨Below.refl _ _, (toInt64S_any w' r118' (by first | omega | (unfold szInts; omega))).mono fun e w'' ⟨u, he, hf, hb⟩ => ⟨_, he, hb, hf.rd⟩⟩
  case j37_6 =>
    intro a' w' hb hd
    have d115 := slot_w hd 115 (rdA tplT x0) rfl rfl
    obtain ⟨cs115, e115, hf115⟩ := d115
    have e115' := ev e115
    have d117 := slot_w hd 117 (rdA frmT x1) rfl rfl
    obtain ⟨cs117, e117, hf117⟩ := d117
    have e117' := ev e117
    have d119 := slot_w hd 119 (rdS intsT x2) rfl rfl
    obtain ⟨ad119', cap119', e119⟩ := rd_slice d119
    rw [e119] at d119
    have hf119 := d119
    have e119' := ev e119
    go_simp
    exact ⟨Below.refl _ _, (WitnessAt_any _ hf115 hf117 hf119).mono fun e w'' ⟨cs, he, hf, hb2⟩ => ⟨_, he, hb2, cs, rfl, hf.mono hb.size⟩⟩
  case j37_7 =>
    intro a' w' hb hd
    have d120 := slot_w hd 120 (frTS intsT w18.heap.size (waV x0 x1 x2) (.int .i64 (waC x0 x1 x2))) rfl rfl
    obtain ⟨cs120, e120, hf120⟩ := d120
    have e120' := ev e120
    go_simp
    exact ⟨Below.refl _ _, cs120, rfl, hf120⟩
  case j37_8 =>
    intro a' w' hb hd
    have d113 := slot_w hd 113 (frTS intsT w18.heap.size (waV x0 x1 x2) (.int .i64 (waC x0 x1 x2))) rfl rfl
    obtain ⟨cs113, e113, hf113⟩ := d113
    have e113' := ev e113
    go_simp
    exact ⟨Below.refl _ _, hf113⟩
  case j37_9 =>
    intro a' w' hb hd
    have d113 := slot_w hd 113 (frTS intsT w18.heap.size (waV x0 x1 x2) (.int .i64 (waC x0 x1 x2))) rfl rfl
    obtain ⟨cs113, e113, hf113⟩ := d113
    have e113' := ev e113
    go_simp
    exact ⟨Below.refl _ _, rfl⟩
  case j37_10 =>
    intro a' w' hb hd
    have d121 := slot_w hd 121 (frS intsT w18.heap.size (waV x0 x1 x2)) rfl rfl
    obtain ⟨ad121', cap121', e121⟩ := fr_slice d121
    rw [e121] at d121
    have hf121 := d121
    have e121' := ev e121
    go_simp
    exact ⟨Below.refl _ _, hf121⟩
  case j37_11 =>
    intro a' w' hb hd
    have e0 : a'.tmps[122]?.getD undef = .int .i64 (waC x0 x1 x2) := ev (slot_w hd 122 (exV (.int .i64 (waC x0 x1 x2))) rfl rfl)
    go_simp
    exact ⟨Below.refl _ _, rfl⟩
  intro vs37 w19 hb19 H0
  obtain ⟨v37_0, _, rfl, p0, H1⟩ := HAll_cons H0
  obtain ⟨v37_1, _, rfl, p1, H2⟩ := HAll_cons H1
  obtain ⟨v37_2, _, rfl, p2, H3⟩ := HAll_cons H2
  obtain ⟨v37_3, _, rfl, p3, H4⟩ := HAll_cons H3
  obtain ⟨v37_4, _, rfl, p4, H5⟩ := HAll_cons H4
  obtain ⟨v37_5, _, rfl, p5, H6⟩ := HAll_cons H5
  obtain ⟨v37_6, _, rfl, p6, H7⟩ := HAll_cons H6
  obtain ⟨v37_7, _, rfl, p7, H8⟩ := HAll_cons H7
  obtain ⟨v37_8, _, rfl, p8, H9⟩ := HAll_cons H8
  obtain ⟨v37_9, _, rfl, p9, H10⟩ := HAll_cons H9
  obtain ⟨v37_10, _, rfl, p10, H11⟩ := HAll_cons H10
  obtain ⟨v37_11, _, rfl, p11, H12⟩ := HAll_cons H11
  obtain rfl := HAll_nil H12
  obtain rfl := p0 rfl
  obtain rfl := p2 rfl
  obtain rfl := p4 rfl
  obtain rfl := p9 rfl
  obtain rfl := p11 rfl
  have hc321 := p10 rfl
  clear p0 p1 p2 p3 p4 p5 p6 p7 p8 p9 p10 p11 H0 H1 H2 H3 H4 H5 H6 H7 H8 H9 H10 H11 H12
  have gw19 : Below w18.heap.size w18 w19 := bthen (by repeat (first | exact Below.refl _ _ | exact bA | assumption | refine Below.setCell ?_ (by first | omega | (simp; try omega)) _ | refine Below.alloc ?_ (by first | omega | (simp; try omega)) _ | refine Below.drew ?_ | refine bDN ?_ | refine bthen ?_ (by assumption))) hb19
  have sw19 : w18.heap.size + 0 ≤ w19.heap.size := by have := hb19.size; (try simp at this); omega
  have H_w19 : Below w.heap.size w w19 := bthen H_w18 gw19
  have f322 : w19.cell? ⟨w.heap.size, 0, none⟩ = some (.int .i64 x0.1) := (gw19.cell (by first | omega | (simp; try omega))).trans f301
  have f323 : w19.cell? ⟨w.heap.size, 1, none⟩ = some (u0) := (gw19.cell (by first | omega | (simp; try omega))).trans f302
  have f324 : w19.cell? ⟨w.heap.size + 1, 0, none⟩ = some (.int .i64 x1.1) := (gw19.cell (by first | omega | (simp; try omega))).trans f303
  have f325 : w19.cell? ⟨w.heap.size + 1, 1, none⟩ = some (.int .i64 x1.2.1) := (gw19.cell (by first | omega | (simp; try omega))).trans f304
  have f326 : w19.cell? ⟨w.heap.size + 1, 2, none⟩ = some (u1) := (gw19.cell (by first | omega | (simp; try omega))).trans f305
  have f327 : w19.cell? ⟨w4.heap.size, 0, none⟩ = some (.int .i64 x0.1) := (gw19.cell (by first | omega | (simp; try omega))).trans f306
  have f328 : w19.cell? ⟨w4.heap.size, 1, none⟩ = some (.slice ad35 x0.2.length ad35') := (gw19.cell (by first | omega | (simp; try omega))).trans f307
  have f329 : w19.cell? ⟨w5.heap.size, 0, none⟩ = some (.int .i64 x1.1) := (gw19.cell (by first | omega | (simp; try omega))).trans f308
  have f330 : w19.cell? ⟨w5.heap.size, 1, none⟩ = some (.int .i64 x1.2.1) := (gw19.cell (by first | omega | (simp; try omega))).trans f309
  have f331 : w19.cell? ⟨w5.heap.size, 2, none⟩ = some (.slice ad51 x1.2.2.length ad51') := (gw19.cell (by first | omega | (simp; try omega))).trans f310
  have z332 : w.heap.size < w19.heap.size := by omega
  have z333 : w.heap.size + 1 < w19.heap.size := by omega
  have z334 : w4.heap.size < w19.heap.size := by omega
  have z335 : w5.heap.size < w19.heap.size := by omega
  have d336 : intsT.Fx w2.heap.size w3.heap.size w19 [.slice ad23 (waV x0 x1 x2).length ad23'] (waV x0 x1 x2) := d315.below gw19
  have d337 : tplT.Fx w3.heap.size w4.heap.size w19 [.int .i64 x0.1, .slice ad35 x0.2.length ad35'] (mkTpl 1 x0) := d316.below gw19
  have d338 : frmT.Fx (w4.heap.size + 1) w5.heap.size w19 [.int .i64 x1.1, .int .i64 x1.2.1, .slice ad51 x1.2.2.length ad51'] (mkFrm (1 + cntTpl x0) x1) := d317.below gw19
  have d339 : intsT.Fx (w5.heap.size + 1) w6.heap.size w19 [.slice ad72 x2.length ad72'] (mkI ((1 + cntTpl x0) + cntFrm x1) x2) := d318.below gw19
  have d340 : intsT.Fx w6.heap.size w7.heap.size w19 [.slice ad94 (waV x0 x1 x2).length ad94'] (mkI 1 (waV x0 x1 x2)) := d319.below gw19
  have d341 : intsT.Fx w10.heap.size w11.heap.size w19 [.slice ad174 x2.length ad174'] x2 := d320.below gw19
  clear hb19 H_w18 f301 f302 f303 f304 f305 f306 f307 f308 f309 f310 d315 d316 d317 d318 d319 d320 z311 z312 z313 z314 gw19
  obtain ⟨ad342, ad342', rfl⟩ := fr_slice hc321
  have d343 : intsT.Fx w18.heap.size w19.heap.size w19 [.slice ad342 (waV x0 x1 x2).length ad342'] (waV x0 x1 x2) := (Ty.Fr.mono hc321 (by first | exact Nat.le_refl _ | (simp; try omega))).fx
  clear hc321
  simp only [putAll, Act.put]
  go_simp
  go_wp2_with fail
  refine (eqInt64S_any _ (d343.rd.below (by repeat (first | exact Below.refl _ _ | exact bA | assumption | refine Below.setCell ?_ (by first | omega | (simp; try omega)) _ | refine Below.alloc ?_ (by first | omega | (simp; try omega)) _ | refine Below.drew ?_ | refine bDN ?_ | refine bthen ?_ (by assumption)))) (d336.rd.below (by repeat (first | exact Below.refl _ _ | exact bA | assumption | refine Below.setCell ?_ (by first | omega | (simp; try omega)) _ | refine Below.alloc ?_ (by first | omega | (simp; try omega)) _ | refine Below.drew ?_ | refine bDN ?_ | refine bthen ?_ (by assumption))))).mono ?_
  rintro e w20 ⟨rfl, hb20⟩
  have gw20 : Below w19.heap.size w19 w20 := bthen (by repeat (first | exact Below.refl _ _ | exact bA | assumption | refine Below.setCell ?_ (by first | omega | (simp; try omega)) _ | refine Below.alloc ?_ (by first | omega | (simp; try omega)) _ | refine Below.drew ?_ | refine bDN ?_ | refine bthen ?_ (by assumption))) hb20
  have sw20 : w19.heap.size + 0 ≤ w20.heap.size := by have := hb20.size; (try simp at this); omega
  have H_w20 : Below w.heap.size w w20 := bthen H_w19 gw20
  have f345 : w20.cell? ⟨w.heap.size, 0, none⟩ = some (.int .i64 x0.1) := (gw20.cell (by first | omega | (simp; try omega))).trans f322
  have f346 : w20.cell? ⟨w.heap.size, 1, none⟩ = some (u0) := (gw20.cell (by first | omega | (simp; try omega))).trans f323
  have f347 : w20.cell? ⟨w.heap.size + 1, 0, none⟩ = some (.int .i64 x1.1) := (gw20.cell (by first | omega | (simp; try omega))).trans f324
  have f348 : w20.cell? ⟨w.heap.size + 1, 1, none⟩ = some (.int .i64 x1.2.1) := (gw20.cell (by first | omega | (simp; try omega))).trans f325
  have f349 : w20.cell? ⟨w.heap.size + 1, 2, none⟩ = some (u1) := (gw20.cell (by first | omega | (simp; try omega))).trans f326
  have f350 : w20.cell? ⟨w4.heap.size, 0, none⟩ = some (.int .i64 x0.1) := (gw20.cell (by first | omega | (simp; try omega))).trans f327
  have f351 : w20.cell? ⟨w4.heap.size, 1, none⟩ = some (.slice ad35 x0.2.length ad35') := (gw20.cell (by first | omega | (simp; try omega))).trans f328
  have f352 : w20.cell? ⟨w5.heap.size, 0, none⟩ = some (.int .i64 x1.1) := (gw20.cell (by first | omega | (simp; try omega))).trans f329
  have f353 : w20.cell? ⟨w5.heap.size, 1, none⟩ = some (.int .i64 x1.2.1) := (gw20.cell (by first | omega | (simp; try omega))).trans f330
  have f354 : w20.cell? ⟨w5.heap.size, 2, none⟩ = some (.slice ad51 x1.2.2.length ad51') := (gw20.cell (by first | omega | (simp; try omega))).trans f331
  have z355 : w.heap.size < w20.heap.size := by omega
  have z356 : w.heap.size + 1 < w20.heap.size := by omega
  have z357 : w4.heap.size < w20.heap.size := by omega
  have z358 : w5.heap.size < w20.heap.size := by omega
  have d359 : intsT.Fx w2.heap.size w3.heap.size w20 [.slice ad23 (waV x0 x1 x2).length ad23'] (waV x0 x1 x2) := d336.below gw20
  have d360 : tplT.Fx w3.heap.size w4.heap.size w20 [.int .i64 x0.1, .slice ad35 x0.2.length ad35'] (mkTpl 1 x0) := d337.below gw20
  have d361 : frmT.Fx (w4.heap.size + 1) w5.heap.size w20 [.int .i64 x1.1, .int .i64 x1.2.1, .slice ad51 x1.2.2.length ad51'] (mkFrm (1 + cntTpl x0) x1) := d338.below gw20
  have d362 : intsT.Fx (w5.heap.size + 1) w6.heap.size w20 [.slice ad72 x2.length ad72'] (mkI ((1 + cntTpl x0) + cntFrm x1) x2) := d339.below gw20
  have d363 : intsT.Fx w6.heap.size w7.heap.size w20 [.slice ad94 (waV x0 x1 x2).length ad94'] (mkI 1 (waV x0 x1 x2)) := d340.below gw20
  have d364 : intsT.Fx w10.heap.size w11.heap.size w20 [.slice ad174 x2.length ad174'] x2 := d341.below gw20
  have d365 : intsT.Fx w18.heap.size w19.heap.size w20 [.slice ad342 (waV x0 x1 x2).length ad342'] (waV x0 x1 x2) := d343.below gw20
  clear hb20 H_w19 f322 f323 f324 f325 f326 f327 f328 f329 f330 f331 d336 d337 d338 d339 d340 d341 d343 z332 z333 z334 z335 gw20
  rw [eqB_true rfl]
  go_wp2_with fail
  refine (heldInt64S_any _ _ d363.rd (by omega) (by omega)).mono ?_
  rintro e w21 ⟨rfl, hb21⟩
  have gw21 : Below w20.heap.size w20 w21 := bthen (by repeat (first | exact Below.refl _ _ | exact bA | assumption | refine Below.setCell ?_ (by first | omega | (simp; try omega)) _ | refine Below.alloc ?_ (by first | omega | (simp; try omega)) _ | refine Below.drew ?_ | refine bDN ?_ | refine bthen ?_ (by assumption))) hb21
  have sw21 : w20.heap.size + 0 ≤ w21.heap.size := by have := hb21.size; (try simp at this); omega
  have H_w21 : Below w.heap.size w w21 := bthen H_w20 gw21
  have f366 : w21.cell? ⟨w.heap.size, 0, none⟩ = some (.int .i64 x0.1) := (gw21.cell (by first | omega | (simp; try omega))).trans f345
  have f367 : w21.cell? ⟨w.heap.size, 1, none⟩ = some (u0) := (gw21.cell (by first | omega | (simp; try omega))).trans f346
  have f368 : w21.cell? ⟨w.heap.size + 1, 0, none⟩ = some (.int .i64 x1.1) := (gw21.cell (by first | omega | (simp; try omega))).trans f347
  have f369 : w21.cell? ⟨w.heap.size + 1, 1, none⟩ = some (.int .i64 x1.2.1) := (gw21.cell (by first | omega | (simp; try omega))).trans f348
  have f370 : w21.cell? ⟨w.heap.size + 1, 2, none⟩ = some (u1) := (gw21.cell (by first | omega | (simp; try omega))).trans f349
  have f371 : w21.cell? ⟨w4.heap.size, 0, none⟩ = some (.int .i64 x0.1) := (gw21.cell (by first | omega | (simp; try omega))).trans f350
  have f372 : w21.cell? ⟨w4.heap.size, 1, none⟩ = some (.slice ad35 x0.2.length ad35') := (gw21.cell (by first | omega | (simp; try omega))).trans f351
  have f373 : w21.cell? ⟨w5.heap.size, 0, none⟩ = some (.int .i64 x1.1) := (gw21.cell (by first | omega | (simp; try omega))).trans f352
  have f374 : w21.cell? ⟨w5.heap.size, 1, none⟩ = some (.int .i64 x1.2.1) := (gw21.cell (by first | omega | (simp; try omega))).trans f353
  have f375 : w21.cell? ⟨w5.heap.size, 2, none⟩ = some (.slice ad51 x1.2.2.length ad51') := (gw21.cell (by first | omega | (simp; try omega))).trans f354
  have z376 : w.heap.size < w21.heap.size := by omega
  have z377 : w.heap.size + 1 < w21.heap.size := by omega
  have z378 : w4.heap.size < w21.heap.size := by omega
  have z379 : w5.heap.size < w21.heap.size := by omega
  have d380 : intsT.Fx w2.heap.size w3.heap.size w21 [.slice ad23 (waV x0 x1 x2).length ad23'] (waV x0 x1 x2) := d359.below gw21
  have d381 : tplT.Fx w3.heap.size w4.heap.size w21 [.int .i64 x0.1, .slice ad35 x0.2.length ad35'] (mkTpl 1 x0) := d360.below gw21
  have d382 : frmT.Fx (w4.heap.size + 1) w5.heap.size w21 [.int .i64 x1.1, .int .i64 x1.2.1, .slice ad51 x1.2.2.length ad51'] (mkFrm (1 + cntTpl x0) x1) := d361.below gw21
  have d383 : intsT.Fx (w5.heap.size + 1) w6.heap.size w21 [.slice ad72 x2.length ad72'] (mkI ((1 + cntTpl x0) + cntFrm x1) x2) := d362.below gw21
  have d384 : intsT.Fx w6.heap.size w7.heap.size w21 [.slice ad94 (waV x0 x1 x2).length ad94'] (mkI 1 (waV x0 x1 x2)) := d363.below gw21
  have d385 : intsT.Fx w10.heap.size w11.heap.size w21 [.slice ad174 x2.length ad174'] x2 := d364.below gw21
  have d386 : intsT.Fx w18.heap.size w19.heap.size w21 [.slice ad342 (waV x0 x1 x2).length ad342'] (waV x0 x1 x2) := d365.below gw21
  clear hb21 H_w20 f345 f346 f347 f348 f349 f350 f351 f352 f353 f354 d359 d360 d361 d362 d363 d364 d365 z355 z356 z357 z358 gw21
  go_wp2_with fail
  go_ret
  exact ⟨rfl, (by repeat (first | exact Below.refl _ _ | exact bA | assumption | refine Below.setCell ?_ (by first | omega | (simp; try omega)) _ | refine Below.alloc ?_ (by first | omega | (simp; try omega)) _ | refine Below.drew ?_ | refine bDN ?_ | refine bthen ?_ (by assumption)))⟩
end Go.Proofs.Ytbpjejhjlmpcjaa
