/-
  The law FnExactHoldsAt, walked: its contract.
-/
import Derived.Test.YtbpjejhjlmpcjaaS11
import Derived.Test.YtbpjejhjlmpcjaaKT
import Derived.Test.YtbpjejhjlmpcjaaLoose
namespace Go.Proofs.Ytbpjejhjlmpcjaa
open Go.RowKit Go.Sort
set_option maxHeartbeats 3200000 in
set_option maxRecDepth 100000 in
theorem fnExactHoldsAt_any (w : World) {c0 : Array Value} {x0 : Int × List (Int × List (List Int))} (h0 : tplT.Rd w c0.toList x0) {c1 : Array Value} {x1 : Int × Int × List (Int × List Int)} (h1 : frmT.Rd w c1.toList x1) {v2 : Value} {x2 : List Int} (h2 : intsT.Rd w [v2] x2) :
    Calls Try.prog 7 #[.agg c0, .agg c1, v2] w fun e w' => e = .returned (.bool true) ∧ Below w.heap.size w w' := by
  have hx0 := h0
  obtain ⟨u0, hv0, -, hy0⟩ := pair_ex h0
  obtain rfl := agg_of hv0
  clear hv0 h0
  have hn0 := szTpl_nn x0
  have hx1 := h1
  obtain ⟨u1, hv1, -, -, hy1⟩ := trip_ex h1
  obtain rfl := agg_of hv1
  clear hv1 h1
  have hn1 := szFrm_nn x1
  have hx2 := h2
  obtain ⟨ad2, cap2, rfl⟩ := rd_slice hx2
  clear h2
  have hn2 := szInts_nn x2
  rcases ilt 1048576 (x2.length : Int) with hl1 | hl1
  · have hl : decide (1048576 < (x2.length : Int)) = true := by simpa using hl1
    go_enter Try.func7, Try.ntmps7
    go_wp2_with fail
    go_ret
    exact ⟨rfl, (by repeat (first | exact Below.refl _ _ | exact bA | assumption | refine Below.setCell ?_ (by first | omega | (simp; try omega)) _ | refine Below.alloc ?_ (by first | omega | (simp; try omega)) _ | refine Below.drew ?_ | refine bDN ?_ | refine bthen ?_ (by assumption)))⟩
  have hd1 : decide (1048576 < (x2.length : Int)) = false := by simp; omega
  go_enter Try.func7, Try.ntmps7
  go_wp2_with fail
  refine (szTemplate_any _ (hx0.below (by repeat (first | exact Below.refl _ _ | exact bA | assumption | refine Below.setCell ?_ (by first | omega | (simp; try omega)) _ | refine Below.alloc ?_ (by first | omega | (simp; try omega)) _ | refine Below.drew ?_ | refine bDN ?_ | refine bthen ?_ (by assumption)))) _ (by omega) (by omega)).mono ?_
  rintro e w1 ⟨rfl, hb1⟩
  have gw1 : Below w.heap.size w w1 := bthen (by repeat (first | exact Below.refl _ _ | exact bA | assumption | refine Below.setCell ?_ (by first | omega | (simp; try omega)) _ | refine Below.alloc ?_ (by first | omega | (simp; try omega)) _ | refine Below.drew ?_ | refine bDN ?_ | refine bthen ?_ (by assumption))) hb1
  have sw1 : w.heap.size + 2 ≤ w1.heap.size := by have := hb1.size; (try simp at this); omega
  have f1 : w1.cell? ⟨w.heap.size, 0, none⟩ = some (.int .i64 x0.1) := by rw [(bcell hb1).1 _ _ (by first | omega | (simp; try omega))]; first | (simp; done) | simp [go_sem]
  have f2 : w1.cell? ⟨w.heap.size, 1, none⟩ = some (u0) := by rw [(bcell hb1).1 _ _ (by first | omega | (simp; try omega))]; first | (simp; done) | simp [go_sem]
  have f3 : w1.cell? ⟨w.heap.size + 1, 0, none⟩ = some (.int .i64 x1.1) := by rw [(bcell hb1).1 _ _ (by first | omega | (simp; try omega))]; first | (simp; done) | simp [go_sem]
  have f4 : w1.cell? ⟨w.heap.size + 1, 1, none⟩ = some (.int .i64 x1.2.1) := by rw [(bcell hb1).1 _ _ (by first | omega | (simp; try omega))]; first | (simp; done) | simp [go_sem]
  have f5 : w1.cell? ⟨w.heap.size + 1, 2, none⟩ = some (u1) := by rw [(bcell hb1).1 _ _ (by first | omega | (simp; try omega))]; first | (simp; done) | simp [go_sem]
  have z6 : w.heap.size < w1.heap.size := by omega
  have z7 : w.heap.size + 1 < w1.heap.size := by omega
  clear hb1 
  rcases ilt 1048576 (szTpl x0) with hl4 | hl4
  · rw [szR_lt hl4]
    go_wp2_with fail
    go_ret
    exact ⟨rfl, (by repeat (first | exact Below.refl _ _ | exact bA | assumption | refine Below.setCell ?_ (by first | omega | (simp; try omega)) _ | refine Below.alloc ?_ (by first | omega | (simp; try omega)) _ | refine Below.drew ?_ | refine bDN ?_ | refine bthen ?_ (by assumption)))⟩
  rw [szR_ge hl4]
  go_wp2_with fail
  refine (szFormula_any _ (hx1.below (by repeat (first | exact Below.refl _ _ | exact bA | assumption | refine Below.setCell ?_ (by first | omega | (simp; try omega)) _ | refine Below.alloc ?_ (by first | omega | (simp; try omega)) _ | refine Below.drew ?_ | refine bDN ?_ | refine bthen ?_ (by assumption)))) _ (by omega) (by omega)).mono ?_
  rintro e w2 ⟨rfl, hb2⟩
  have gw2 : Below w1.heap.size w1 w2 := bthen (by repeat (first | exact Below.refl _ _ | exact bA | assumption | refine Below.setCell ?_ (by first | omega | (simp; try omega)) _ | refine Below.alloc ?_ (by first | omega | (simp; try omega)) _ | refine Below.drew ?_ | refine bDN ?_ | refine bthen ?_ (by assumption))) hb2
  have sw2 : w1.heap.size + 0 ≤ w2.heap.size := by have := hb2.size; (try simp at this); omega
  have f8 : w2.cell? ⟨w.heap.size, 0, none⟩ = some (.int .i64 x0.1) := (gw2.cell (by first | omega | (simp; try omega))).trans f1
  have f9 : w2.cell? ⟨w.heap.size, 1, none⟩ = some (u0) := (gw2.cell (by first | omega | (simp; try omega))).trans f2
  have f10 : w2.cell? ⟨w.heap.size + 1, 0, none⟩ = some (.int .i64 x1.1) := (gw2.cell (by first | omega | (simp; try omega))).trans f3
  have f11 : w2.cell? ⟨w.heap.size + 1, 1, none⟩ = some (.int .i64 x1.2.1) := (gw2.cell (by first | omega | (simp; try omega))).trans f4
  have f12 : w2.cell? ⟨w.heap.size + 1, 2, none⟩ = some (u1) := (gw2.cell (by first | omega | (simp; try omega))).trans f5
  have z13 : w.heap.size < w2.heap.size := by omega
  have z14 : w.heap.size + 1 < w2.heap.size := by omega
  have hB15 : Below w.heap.size w w2 := bthen gw1 gw2
  clear hb2 f1 f2 f3 f4 f5 gw1 z6 z7
  rcases ilt (1048576 - szTpl x0) (szFrm x1) with hl7 | hl7
  · rw [szR_lt hl7]
    go_wp2_with fail
    go_ret
    exact ⟨rfl, (by repeat (first | exact Below.refl _ _ | exact bA | assumption | refine Below.setCell ?_ (by first | omega | (simp; try omega)) _ | refine Below.alloc ?_ (by first | omega | (simp; try omega)) _ | refine Below.drew ?_ | refine bDN ?_ | refine bthen ?_ (by assumption)))⟩
  rw [szR_ge hl7]
  go_wp2_with fail
  refine wp_region_loose [exV (.agg #[.int .i64 x0.1, u0]), rdA tplT x0, exV (.agg #[.int .i64 x1.1, .int .i64 x1.2.1, u1]), rdA frmT x1, exV (.slice ad2 x2.length cap2), rdS intsT x2, exV (.tuple #[.bool (haB x0 x1 x2), .int .i64 (atC x0 x1 x2)]), exV (.tuple #[.bool (haB x0 x1 x2), .int .i64 (atC x0 x1 x2)]), exV (.bool (haB x0 x1 x2)), exV (.int .i64 (atC x0 x1 x2)), exV (.bool (haB x0 x1 x2)), exV (.int .i64 (atC x0 x1 x2))] (by kernel_rfl) (by kernel_rfl) ⟨st_exV, st_rdA, st_exV, st_rdA, st_exV, st_rdS, st_exV, st_exV, st_exV, st_exV, st_exV, st_exV, trivial⟩ ⟨?j10_0, ?j10_1, ?j10_2, ?j10_3, ?j10_4, ?j10_5, ?j10_6, ?j10_7, ?j10_8, ?j10_9, ?j10_10, ?j10_11, trivial⟩ ?hQ10
  case j10_0 =>
    intro a' w' hb hd
    have e0 : a'.tmps[3]?.getD undef = .pointer (some ⟨w.heap.size, 0, none⟩) := ev (slot_o hd 3 rfl rfl)
    have q : ∀ b o, b < w2.heap.size → w'.cell? ⟨b, o, none⟩ = w2.cell? ⟨b, o, none⟩ := (bcell hb).1
    go_simp
    exact ⟨Below.refl _ _, rfl⟩
  case j10_1 =>
    intro a' w' hb hd
    have e29 : a'.tmps[29]?.getD undef = .agg #[.int .i64 x0.1, u0] := ev (slot_w hd 29 (exV (.agg #[.int .i64 x0.1, u0])) rfl rfl)
    have r29 : tplT.Rd w2 (#[.int .i64 x0.1, u0] : Array Value).toList x0 := hx0.below (by repeat (first | exact Below.refl _ _ | exact bA | assumption | refine Below.setCell ?_ (by first | omega | (simp; try omega)) _ | refine Below.alloc ?_ (by first | omega | (simp; try omega)) _ | refine Below.drew ?_ | refine bDN ?_ | refine bthen ?_ (by assumption)))
    have r29' := r29.below hb
    go_simp
    exact ⟨Below.refl _ _, (toTemplate_any w' r29' (by first | omega | (unfold szInts; omega))).mono fun e w'' ⟨cs, he, hf, hb⟩ => ⟨_, he, hb, cs, rfl, hf.rd⟩⟩
  case j10_2 =>
    intro a' w' hb hd
    have e0 : a'.tmps[4]?.getD undef = .pointer (some ⟨w.heap.size + 1, 0, none⟩) := ev (slot_o hd 4 rfl rfl)
    have q : ∀ b o, b < w2.heap.size → w'.cell? ⟨b, o, none⟩ = w2.cell? ⟨b, o, none⟩ := (bcell hb).1
    go_simp
    exact ⟨Below.refl _ _, rfl⟩
  case j10_3 =>
    intro a' w' hb hd
    have e31 : a'.tmps[31]?.getD undef = .agg #[.int .i64 x1.1, .int .i64 x1.2.1, u1] := ev (slot_w hd 31 (exV (.agg #[.int .i64 x1.1, .int .i64 x1.2.1, u1])) rfl rfl)
    have r31 : frmT.Rd w2 (#[.int .i64 x1.1, .int .i64 x1.2.1, u1] : Array Value).toList x1 := hx1.below (by repeat (first | exact Below.refl _ _ | exact bA | assumption | refine Below.setCell ?_ (by first | omega | (simp; try omega)) _ | refine Below.alloc ?_ (by first | omega | (simp; try omega)) _ | refine Below.drew ?_ | refine bDN ?_ | refine bthen ?_ (by assumption)))
    have r31' := r31.below hb
    go_simp
    exact ⟨Below.refl _ _, (toFormula_any w' r31' (by first | omega | (unfold szInts; omega))).mono fun e w'' ⟨cs, he, hf, hb⟩ => ⟨_, he, hb, cs, rfl, hf.rd⟩⟩
  case j10_4 =>
    intro a' w' hb hd
    have e0 : a'.tmps[2]?.getD undef = .slice ad2 x2.length cap2 := ev (slot_o hd 2 rfl rfl)
    go_simp
    exact ⟨Below.refl _ _, rfl⟩
  case j10_5 =>
    intro a' w' hb hd
    have e33 : a'.tmps[33]?.getD undef = .slice ad2 x2.length cap2 := ev (slot_w hd 33 (exV (.slice ad2 x2.length cap2)) rfl rfl)
    have r33 : intsT.Rd w2 [.slice ad2 x2.length cap2] x2 := hx2.below (by repeat (first | exact Below.refl _ _ | exact bA | assumption | refine Below.setCell ?_ (by first | omega | (simp; try omega)) _ | refine Below.alloc ?_ (by first | omega | (simp; try omega)) _ | refine Below.drew ?_ | refine bDN ?_ | refine bthen ?_ (by assumption)))
    have r33' := r33.below hb
    go_simp
    exact ⟨Below.refl _ _, (toInt64S_any w' r33' (by first | omega | (unfold szInts; omega))).mono fun e w'' ⟨u, he, hf, hb⟩ => ⟨_, he, hb, hf.rd⟩⟩
  case j10_6 =>
    intro a' w' hb hd
    have d30 := slot_w hd 30 (rdA tplT x0) rfl rfl
    obtain ⟨cs30, e30, hf30⟩ := d30
    have e30' := ev e30
    have d32 := slot_w hd 32 (rdA frmT x1) rfl rfl
    obtain ⟨cs32, e32, hf32⟩ := d32
    have e32' := ev e32
    have d34 := slot_w hd 34 (rdS intsT x2) rfl rfl
    obtain ⟨ad34', cap34', e34⟩ := rd_slice d34
    rw [e34] at d34
    have hf34 := d34
    have e34' := ev e34
    go_simp
    exact ⟨Below.refl _ _, (specHoldsAt_any _ hf30 hf32 hf34).mono fun e w'' ⟨he, hb⟩ => ⟨_, he, hb, rfl⟩⟩
  case j10_7 =>
    intro a' w' hb hd
    have e0 : a'.tmps[35]?.getD undef = .tuple #[.bool (haB x0 x1 x2), .int .i64 (atC x0 x1 x2)] := ev (slot_w hd 35 (exV (.tuple #[.bool (haB x0 x1 x2), .int .i64 (atC x0 x1 x2)])) rfl rfl)
    go_simp
    exact ⟨Below.refl _ _, rfl⟩
  case j10_8 =>
    intro a' w' hb hd
    have e0 : a'.tmps[28]?.getD undef = .tuple #[.bool (haB x0 x1 x2), .int .i64 (atC x0 x1 x2)] := ev (slot_w hd 28 (exV (.tuple #[.bool (haB x0 x1 x2), .int .i64 (atC x0 x1 x2)])) rfl rfl)
    go_simp
    exact ⟨Below.refl _ _, rfl⟩
  case j10_9 =>
    intro a' w' hb hd
    have e0 : a'.tmps[28]?.getD undef = .tuple #[.bool (haB x0 x1 x2), .int .i64 (atC x0 x1 x2)] := ev (slot_w hd 28 (exV (.tuple #[.bool (haB x0 x1 x2), .int .i64 (atC x0 x1 x2)])) rfl rfl)
    go_simp
    exact ⟨Below.refl _ _, rfl⟩
  case j10_10 =>
    intro a' w' hb hd
    have e0 : a'.tmps[36]?.getD undef = .bool (haB x0 x1 x2) := ev (slot_w hd 36 (exV (.bool (haB x0 x1 x2))) rfl rfl)
    go_simp
    exact ⟨Below.refl _ _, rfl⟩
  case j10_11 =>
    intro a' w' hb hd
    have e0 : a'.tmps[37]?.getD undef = .int .i64 (atC x0 x1 x2) := ev (slot_w hd 37 (exV (.int .i64 (atC x0 x1 x2))) rfl rfl)
    go_simp
    exact ⟨Below.refl _ _, rfl⟩
  intro vs10 w3 hb3 H0
  obtain ⟨v10_0, _, rfl, p0, H1⟩ := HAll_cons H0
  obtain ⟨v10_1, _, rfl, p1, H2⟩ := HAll_cons H1
  obtain ⟨v10_2, _, rfl, p2, H3⟩ := HAll_cons H2
  obtain ⟨v10_3, _, rfl, p3, H4⟩ := HAll_cons H3
  obtain ⟨v10_4, _, rfl, p4, H5⟩ := HAll_cons H4
  obtain ⟨v10_5, _, rfl, p5, H6⟩ := HAll_cons H5
  obtain ⟨v10_6, _, rfl, p6, H7⟩ := HAll_cons H6
  obtain ⟨v10_7, _, rfl, p7, H8⟩ := HAll_cons H7
  obtain ⟨v10_8, _, rfl, p8, H9⟩ := HAll_cons H8
  obtain ⟨v10_9, _, rfl, p9, H10⟩ := HAll_cons H9
  obtain ⟨v10_10, _, rfl, p10, H11⟩ := HAll_cons H10
  obtain ⟨v10_11, _, rfl, p11, H12⟩ := HAll_cons H11
  obtain rfl := HAll_nil H12
  obtain rfl := p0 rfl
  obtain rfl := p2 rfl
  obtain rfl := p4 rfl
  obtain rfl := p6 rfl
  obtain rfl := p7 rfl
  obtain rfl := p8 rfl
  obtain rfl := p9 rfl
  obtain rfl := p10 rfl
  obtain rfl := p11 rfl
  clear p0 p1 p2 p3 p4 p5 p6 p7 p8 p9 p10 p11 H0 H1 H2 H3 H4 H5 H6 H7 H8 H9 H10 H11 H12
  have gw3 : Below w2.heap.size w2 w3 := bthen (by repeat (first | exact Below.refl _ _ | exact bA | assumption | refine Below.setCell ?_ (by first | omega | (simp; try omega)) _ | refine Below.alloc ?_ (by first | omega | (simp; try omega)) _ | refine Below.drew ?_ | refine bDN ?_ | refine bthen ?_ (by assumption))) hb3
  have sw3 : w2.heap.size + 0 ≤ w3.heap.size := by have := hb3.size; (try simp at this); omega
  have f16 : w3.cell? ⟨w.heap.size, 0, none⟩ = some (.int .i64 x0.1) := (gw3.cell (by first | omega | (simp; try omega))).trans f8
  have f17 : w3.cell? ⟨w.heap.size, 1, none⟩ = some (u0) := (gw3.cell (by first | omega | (simp; try omega))).trans f9
  have f18 : w3.cell? ⟨w.heap.size + 1, 0, none⟩ = some (.int .i64 x1.1) := (gw3.cell (by first | omega | (simp; try omega))).trans f10
  have f19 : w3.cell? ⟨w.heap.size + 1, 1, none⟩ = some (.int .i64 x1.2.1) := (gw3.cell (by first | omega | (simp; try omega))).trans f11
  have f20 : w3.cell? ⟨w.heap.size + 1, 2, none⟩ = some (u1) := (gw3.cell (by first | omega | (simp; try omega))).trans f12
  have z21 : w.heap.size < w3.heap.size := by omega
  have z22 : w.heap.size + 1 < w3.heap.size := by omega
  have hB23 : Below w.heap.size w w3 := bthen hB15 gw3
  have hB24 : Below w1.heap.size w1 w3 := bthen gw2 gw3
  clear hb3 f8 f9 f10 f11 f12 hB15 gw2 z13 z14
  simp only [putAll, Act.put]
  go_simp
  go_wp2_with fail
  refine (toTemplate_any _ (hx0.below (by repeat (first | exact Below.refl _ _ | exact bA | assumption | refine Below.setCell ?_ (by first | omega | (simp; try omega)) _ | refine Below.alloc ?_ (by first | omega | (simp; try omega)) _ | refine Below.drew ?_ | refine bDN ?_ | refine bthen ?_ (by assumption)))) (by first | omega | (unfold szInts; omega))).mono ?_
  rintro e w4 ⟨cs, rfl, hc25, hb4⟩
  have gw4 : Below w3.heap.size w3 w4 := bthen (by repeat (first | exact Below.refl _ _ | exact bA | assumption | refine Below.setCell ?_ (by first | omega | (simp; try omega)) _ | refine Below.alloc ?_ (by first | omega | (simp; try omega)) _ | refine Below.drew ?_ | refine bDN ?_ | refine bthen ?_ (by assumption))) hb4
  have sw4 : w3.heap.size + 0 ≤ w4.heap.size := by have := hb4.size; (try simp at this); omega
  have f26 : w4.cell? ⟨w.heap.size, 0, none⟩ = some (.int .i64 x0.1) := (gw4.cell (by first | omega | (simp; try omega))).trans f16
  have f27 : w4.cell? ⟨w.heap.size, 1, none⟩ = some (u0) := (gw4.cell (by first | omega | (simp; try omega))).trans f17
  have f28 : w4.cell? ⟨w.heap.size + 1, 0, none⟩ = some (.int .i64 x1.1) := (gw4.cell (by first | omega | (simp; try omega))).trans f18
  have f29 : w4.cell? ⟨w.heap.size + 1, 1, none⟩ = some (.int .i64 x1.2.1) := (gw4.cell (by first | omega | (simp; try omega))).trans f19
  have f30 : w4.cell? ⟨w.heap.size + 1, 2, none⟩ = some (u1) := (gw4.cell (by first | omega | (simp; try omega))).trans f20
  have z31 : w.heap.size < w4.heap.size := by omega
  have z32 : w.heap.size + 1 < w4.heap.size := by omega
  have hB33 : Below w.heap.size w w4 := bthen hB23 gw4
  have hB34 : Below w1.heap.size w1 w4 := bthen hB24 gw4
  have hB35 : Below w2.heap.size w2 w4 := bthen gw3 gw4
  clear hb4 f16 f17 f18 f19 f20 hB23 hB24 gw3 z21 z22
  obtain ⟨ad36, ad36', rfl⟩ := fr_pair hc25
  go_wp2_with fail
  refine (toFormula_any _ (hx1.below (by repeat (first | exact Below.refl _ _ | exact bA | assumption | refine Below.setCell ?_ (by first | omega | (simp; try omega)) _ | refine Below.alloc ?_ (by first | omega | (simp; try omega)) _ | refine Below.drew ?_ | refine bDN ?_ | refine bthen ?_ (by assumption)))) (by first | omega | (unfold szInts; omega))).mono ?_
  rintro e w5 ⟨cs, rfl, hc37, hb5⟩
  have gw5 : Below w4.heap.size w4 w5 := bthen (by repeat (first | exact Below.refl _ _ | exact bA | assumption | refine Below.setCell ?_ (by first | omega | (simp; try omega)) _ | refine Below.alloc ?_ (by first | omega | (simp; try omega)) _ | refine Below.drew ?_ | refine bDN ?_ | refine bthen ?_ (by assumption))) hb5
  have sw5 : w4.heap.size + 1 ≤ w5.heap.size := by have := hb5.size; (try simp at this); omega
  have f38 : w5.cell? ⟨w.heap.size, 0, none⟩ = some (.int .i64 x0.1) := (gw5.cell (by first | omega | (simp; try omega))).trans f26
  have f39 : w5.cell? ⟨w.heap.size, 1, none⟩ = some (u0) := (gw5.cell (by first | omega | (simp; try omega))).trans f27
  have f40 : w5.cell? ⟨w.heap.size + 1, 0, none⟩ = some (.int .i64 x1.1) := (gw5.cell (by first | omega | (simp; try omega))).trans f28
  have f41 : w5.cell? ⟨w.heap.size + 1, 1, none⟩ = some (.int .i64 x1.2.1) := (gw5.cell (by first | omega | (simp; try omega))).trans f29
  have f42 : w5.cell? ⟨w.heap.size + 1, 2, none⟩ = some (u1) := (gw5.cell (by first | omega | (simp; try omega))).trans f30
  have f43 : w5.cell? ⟨w4.heap.size, 0, none⟩ = some (.int .i64 x0.1) := by rw [(bcell hb5).1 _ _ (by first | omega | (simp; try omega))]; first | (simp; done) | simp [go_sem]
  have f44 : w5.cell? ⟨w4.heap.size, 1, none⟩ = some (.slice ad36 x0.2.length ad36') := by rw [(bcell hb5).1 _ _ (by first | omega | (simp; try omega))]; first | (simp; done) | simp [go_sem]
  have z45 : w.heap.size < w5.heap.size := by omega
  have z46 : w.heap.size + 1 < w5.heap.size := by omega
  have z47 : w4.heap.size < w5.heap.size := by omega
  have hB48 : Below w.heap.size w w5 := bthen hB33 gw5
  have hB49 : Below w1.heap.size w1 w5 := bthen hB34 gw5
  have hB50 : Below w2.heap.size w2 w5 := bthen hB35 gw5
  have hB51 : Below w3.heap.size w3 w5 := bthen gw4 gw5
  clear hb5 f26 f27 f28 f29 f30 hB33 hB34 hB35 gw4 z31 z32
  obtain ⟨ad52, ad52', rfl⟩ := fr_trip hc37
  go_wp2_with fail
  refine (toInt64S_any _ (hx2.below (by repeat (first | exact Below.refl _ _ | exact bA | assumption | refine Below.setCell ?_ (by first | omega | (simp; try omega)) _ | refine Below.alloc ?_ (by first | omega | (simp; try omega)) _ | refine Below.drew ?_ | refine bDN ?_ | refine bthen ?_ (by assumption)))) (by first | omega | (unfold szInts; omega))).mono ?_
  rintro e w6 ⟨u, rfl, hc53, hb6⟩
  have gw6 : Below w5.heap.size w5 w6 := bthen (by repeat (first | exact Below.refl _ _ | exact bA | assumption | refine Below.setCell ?_ (by first | omega | (simp; try omega)) _ | refine Below.alloc ?_ (by first | omega | (simp; try omega)) _ | refine Below.drew ?_ | refine bDN ?_ | refine bthen ?_ (by assumption))) hb6
  have sw6 : w5.heap.size + 1 ≤ w6.heap.size := by have := hb6.size; (try simp at this); omega
  have f54 : w6.cell? ⟨w.heap.size, 0, none⟩ = some (.int .i64 x0.1) := (gw6.cell (by first | omega | (simp; try omega))).trans f38
  have f55 : w6.cell? ⟨w.heap.size, 1, none⟩ = some (u0) := (gw6.cell (by first | omega | (simp; try omega))).trans f39
  have f56 : w6.cell? ⟨w.heap.size + 1, 0, none⟩ = some (.int .i64 x1.1) := (gw6.cell (by first | omega | (simp; try omega))).trans f40
  have f57 : w6.cell? ⟨w.heap.size + 1, 1, none⟩ = some (.int .i64 x1.2.1) := (gw6.cell (by first | omega | (simp; try omega))).trans f41
  have f58 : w6.cell? ⟨w.heap.size + 1, 2, none⟩ = some (u1) := (gw6.cell (by first | omega | (simp; try omega))).trans f42
  have f59 : w6.cell? ⟨w4.heap.size, 0, none⟩ = some (.int .i64 x0.1) := (gw6.cell (by first | omega | (simp; try omega))).trans f43
  have f60 : w6.cell? ⟨w4.heap.size, 1, none⟩ = some (.slice ad36 x0.2.length ad36') := (gw6.cell (by first | omega | (simp; try omega))).trans f44
  have f61 : w6.cell? ⟨w5.heap.size, 0, none⟩ = some (.int .i64 x1.1) := by rw [(bcell hb6).1 _ _ (by first | omega | (simp; try omega))]; first | (simp; done) | simp [go_sem]
  have f62 : w6.cell? ⟨w5.heap.size, 1, none⟩ = some (.int .i64 x1.2.1) := by rw [(bcell hb6).1 _ _ (by first | omega | (simp; try omega))]; first | (simp; done) | simp [go_sem]
  have f63 : w6.cell? ⟨w5.heap.size, 2, none⟩ = some (.slice ad52 x1.2.2.length ad52') := by rw [(bcell hb6).1 _ _ (by first | omega | (simp; try omega))]; first | (simp; done) | simp [go_sem]
  have z64 : w.heap.size < w6.heap.size := by omega
  have z65 : w.heap.size + 1 < w6.heap.size := by omega
  have z66 : w4.heap.size < w6.heap.size := by omega
  have z67 : w5.heap.size < w6.heap.size := by omega
  have hB68 : Below w.heap.size w w6 := bthen hB48 gw6
  have hB69 : Below w1.heap.size w1 w6 := bthen hB49 gw6
  have hB70 : Below w2.heap.size w2 w6 := bthen hB50 gw6
  have hB71 : Below w3.heap.size w3 w6 := bthen hB51 gw6
  have hB72 : Below w4.heap.size w4 w6 := bthen gw5 gw6
  clear hb6 f38 f39 f40 f41 f42 f43 f44 hB48 hB49 hB50 hB51 gw5 z45 z46 z47
  obtain ⟨ad73, ad73', rfl⟩ := fr_slice hc53
  go_wp2_with fail
  refine (HoldsAt_any _ (hc25.rd.below (by repeat (first | exact Below.refl _ _ | exact bA | assumption | refine Below.setCell ?_ (by first | omega | (simp; try omega)) _ | refine Below.alloc ?_ (by first | omega | (simp; try omega)) _ | refine Below.drew ?_ | refine bDN ?_ | refine bthen ?_ (by assumption)))) (hc37.rd.below (by repeat (first | exact Below.refl _ _ | exact bA | assumption | refine Below.setCell ?_ (by first | omega | (simp; try omega)) _ | refine Below.alloc ?_ (by first | omega | (simp; try omega)) _ | refine Below.drew ?_ | refine bDN ?_ | refine bthen ?_ (by assumption)))) (hc53.rd.below (by repeat (first | exact Below.refl _ _ | exact bA | assumption | refine Below.setCell ?_ (by first | omega | (simp; try omega)) _ | refine Below.alloc ?_ (by first | omega | (simp; try omega)) _ | refine Below.drew ?_ | refine bDN ?_ | refine bthen ?_ (by assumption))))).mono ?_
  rintro e w7 ⟨rfl, hb7⟩
  have gw7 : Below w6.heap.size w6 w7 := bthen (by repeat (first | exact Below.refl _ _ | exact bA | assumption | refine Below.setCell ?_ (by first | omega | (simp; try omega)) _ | refine Below.alloc ?_ (by first | omega | (simp; try omega)) _ | refine Below.drew ?_ | refine bDN ?_ | refine bthen ?_ (by assumption))) hb7
  have sw7 : w6.heap.size + 0 ≤ w7.heap.size := by have := hb7.size; (try simp at this); omega
  have f74 : w7.cell? ⟨w.heap.size, 0, none⟩ = some (.int .i64 x0.1) := (gw7.cell (by first | omega | (simp; try omega))).trans f54
  have f75 : w7.cell? ⟨w.heap.size, 1, none⟩ = some (u0) := (gw7.cell (by first | omega | (simp; try omega))).trans f55
  have f76 : w7.cell? ⟨w.heap.size + 1, 0, none⟩ = some (.int .i64 x1.1) := (gw7.cell (by first | omega | (simp; try omega))).trans f56
  have f77 : w7.cell? ⟨w.heap.size + 1, 1, none⟩ = some (.int .i64 x1.2.1) := (gw7.cell (by first | omega | (simp; try omega))).trans f57
  have f78 : w7.cell? ⟨w.heap.size + 1, 2, none⟩ = some (u1) := (gw7.cell (by first | omega | (simp; try omega))).trans f58
  have f79 : w7.cell? ⟨w4.heap.size, 0, none⟩ = some (.int .i64 x0.1) := (gw7.cell (by first | omega | (simp; try omega))).trans f59
  have f80 : w7.cell? ⟨w4.heap.size, 1, none⟩ = some (.slice ad36 x0.2.length ad36') := (gw7.cell (by first | omega | (simp; try omega))).trans f60
  have f81 : w7.cell? ⟨w5.heap.size, 0, none⟩ = some (.int .i64 x1.1) := (gw7.cell (by first | omega | (simp; try omega))).trans f61
  have f82 : w7.cell? ⟨w5.heap.size, 1, none⟩ = some (.int .i64 x1.2.1) := (gw7.cell (by first | omega | (simp; try omega))).trans f62
  have f83 : w7.cell? ⟨w5.heap.size, 2, none⟩ = some (.slice ad52 x1.2.2.length ad52') := (gw7.cell (by first | omega | (simp; try omega))).trans f63
  have z84 : w.heap.size < w7.heap.size := by omega
  have z85 : w.heap.size + 1 < w7.heap.size := by omega
  have z86 : w4.heap.size < w7.heap.size := by omega
  have z87 : w5.heap.size < w7.heap.size := by omega
  have hB88 : Below w.heap.size w w7 := bthen hB68 gw7
  have hB89 : Below w1.heap.size w1 w7 := bthen hB69 gw7
  have hB90 : Below w2.heap.size w2 w7 := bthen hB70 gw7
  have hB91 : Below w3.heap.size w3 w7 := bthen hB71 gw7
  have hB92 : Below w4.heap.size w4 w7 := bthen hB72 gw7
  have hB93 : Below w5.heap.size w5 w7 := bthen gw6 gw7
  clear hb7 f54 f55 f56 f57 f58 f59 f60 f61 f62 f63 hB68 hB69 hB70 hB71 hB72 gw6 z64 z65 z66 z67
  go_wp2_with fail
  refine wp_region_loose [exV (.agg #[.int .i64 x0.1, .slice ad36 x0.2.length ad36']), exV (.agg #[.int .i64 x0.1, u0]), rdA tplT x0, exV (.bool true), exV (.bool false)] (by kernel_rfl) (by kernel_rfl) ⟨st_exV, st_exV, st_rdA, st_exV, st_exV, trivial⟩ ⟨?j17_0, ?j17_1, ?j17_2, ?j17_3, ?j17_4, trivial⟩ ?hQ17
  case j17_0 =>
    intro a' w' hb hd
    have e0 : a'.tmps[10]?.getD undef = .pointer (some ⟨w4.heap.size, 0, none⟩) := ev (slot_o hd 10 rfl rfl)
    have q : ∀ b o, b < w7.heap.size → w'.cell? ⟨b, o, none⟩ = w7.cell? ⟨b, o, none⟩ := (bcell hb).1
    go_simp
    exact ⟨Below.refl _ _, rfl⟩
  case j17_1 =>
    intro a' w' hb hd
    have e0 : a'.tmps[3]?.getD undef = .pointer (some ⟨w.heap.size, 0, none⟩) := ev (slot_o hd 3 rfl rfl)
    have q : ∀ b o, b < w7.heap.size → w'.cell? ⟨b, o, none⟩ = w7.cell? ⟨b, o, none⟩ := (bcell hb).1
    go_simp
    exact ⟨Below.refl _ _, rfl⟩
  case j17_2 =>
    intro a' w' hb hd
    have e60 : a'.tmps[60]?.getD undef = .agg #[.int .i64 x0.1, u0] := ev (slot_w hd 60 (exV (.agg #[.int .i64 x0.1, u0])) rfl rfl)
    have r60 : tplT.Rd w7 (#[.int .i64 x0.1, u0] : Array Value).toList x0 := hx0.below (by repeat (first | exact Below.refl _ _ | exact bA | assumption | refine Below.setCell ?_ (by first | omega | (simp; try omega)) _ | refine Below.alloc ?_ (by first | omega | (simp; try omega)) _ | refine Below.drew ?_ | refine bDN ?_ | refine bthen ?_ (by assumption)))
    have r60' := r60.below hb
    go_simp
    exact ⟨Below.refl _ _, (toTemplate_any w' r60' (by first | omega | (unfold szInts; omega))).mono fun e w'' ⟨cs, he, hf, hb⟩ => ⟨_, he, hb, cs, rfl, hf.rd⟩⟩
  case j17_3 =>
    intro a' w' hb hd
    have e59 : a'.tmps[59]?.getD undef = .agg #[.int .i64 x0.1, .slice ad36 x0.2.length ad36'] := ev (slot_w hd 59 (exV (.agg #[.int .i64 x0.1, .slice ad36 x0.2.length ad36'])) rfl rfl)
    have r59 : tplT.Rd w7 (#[.int .i64 x0.1, .slice ad36 x0.2.length ad36'] : Array Value).toList x0 := hc25.rd.below (by repeat (first | exact Below.refl _ _ | exact bA | assumption | refine Below.setCell ?_ (by first | omega | (simp; try omega)) _ | refine Below.alloc ?_ (by first | omega | (simp; try omega)) _ | refine Below.drew ?_ | refine bDN ?_ | refine bthen ?_ (by assumption)))
    have r59' := r59.below hb
    have d61 := slot_w hd 61 (rdA tplT x0) rfl rfl
    obtain ⟨cs61, e61, hf61⟩ := d61
    have e61' := ev e61
    go_simp
    exact ⟨Below.refl _ _, (eqTemplate_any w' r59' hf61).mono fun e w'' ⟨he, hb⟩ => ⟨_, he, hb, exV_eqB⟩⟩
  case j17_4 =>
    intro a' w' hb hd
    have e0 : a'.tmps[62]?.getD undef = .bool true := ev (slot_w hd 62 (exV (.bool true)) rfl rfl)
    go_simp
    exact ⟨Below.refl _ _, rfl⟩
  intro vs17 w8 hb8 H0
  obtain ⟨v17_0, _, rfl, p0, H1⟩ := HAll_cons H0
  obtain ⟨v17_1, _, rfl, p1, H2⟩ := HAll_cons H1
  obtain ⟨v17_2, _, rfl, p2, H3⟩ := HAll_cons H2
  obtain ⟨v17_3, _, rfl, p3, H4⟩ := HAll_cons H3
  obtain ⟨v17_4, _, rfl, p4, H5⟩ := HAll_cons H4
  obtain rfl := HAll_nil H5
  obtain rfl := p0 rfl
  obtain rfl := p1 rfl
  obtain rfl := p3 rfl
  obtain rfl := p4 rfl
  clear p0 p1 p2 p3 p4 H0 H1 H2 H3 H4 H5
  have gw8 : Below w7.heap.size w7 w8 := bthen (by repeat (first | exact Below.refl _ _ | exact bA | assumption | refine Below.setCell ?_ (by first | omega | (simp; try omega)) _ | refine Below.alloc ?_ (by first | omega | (simp; try omega)) _ | refine Below.drew ?_ | refine bDN ?_ | refine bthen ?_ (by assumption))) hb8
  have sw8 : w7.heap.size + 0 ≤ w8.heap.size := by have := hb8.size; (try simp at this); omega
  have f94 : w8.cell? ⟨w.heap.size, 0, none⟩ = some (.int .i64 x0.1) := (gw8.cell (by first | omega | (simp; try omega))).trans f74
  have f95 : w8.cell? ⟨w.heap.size, 1, none⟩ = some (u0) := (gw8.cell (by first | omega | (simp; try omega))).trans f75
  have f96 : w8.cell? ⟨w.heap.size + 1, 0, none⟩ = some (.int .i64 x1.1) := (gw8.cell (by first | omega | (simp; try omega))).trans f76
  have f97 : w8.cell? ⟨w.heap.size + 1, 1, none⟩ = some (.int .i64 x1.2.1) := (gw8.cell (by first | omega | (simp; try omega))).trans f77
  have f98 : w8.cell? ⟨w.heap.size + 1, 2, none⟩ = some (u1) := (gw8.cell (by first | omega | (simp; try omega))).trans f78
  have f99 : w8.cell? ⟨w4.heap.size, 0, none⟩ = some (.int .i64 x0.1) := (gw8.cell (by first | omega | (simp; try omega))).trans f79
  have f100 : w8.cell? ⟨w4.heap.size, 1, none⟩ = some (.slice ad36 x0.2.length ad36') := (gw8.cell (by first | omega | (simp; try omega))).trans f80
  have f101 : w8.cell? ⟨w5.heap.size, 0, none⟩ = some (.int .i64 x1.1) := (gw8.cell (by first | omega | (simp; try omega))).trans f81
  have f102 : w8.cell? ⟨w5.heap.size, 1, none⟩ = some (.int .i64 x1.2.1) := (gw8.cell (by first | omega | (simp; try omega))).trans f82
  have f103 : w8.cell? ⟨w5.heap.size, 2, none⟩ = some (.slice ad52 x1.2.2.length ad52') := (gw8.cell (by first | omega | (simp; try omega))).trans f83
  have z104 : w.heap.size < w8.heap.size := by omega
  have z105 : w.heap.size + 1 < w8.heap.size := by omega
  have z106 : w4.heap.size < w8.heap.size := by omega
  have z107 : w5.heap.size < w8.heap.size := by omega
  have hB108 : Below w.heap.size w w8 := bthen hB88 gw8
  have hB109 : Below w1.heap.size w1 w8 := bthen hB89 gw8
  have hB110 : Below w2.heap.size w2 w8 := bthen hB90 gw8
  have hB111 : Below w3.heap.size w3 w8 := bthen hB91 gw8
  have hB112 : Below w4.heap.size w4 w8 := bthen hB92 gw8
  have hB113 : Below w5.heap.size w5 w8 := bthen hB93 gw8
  have hB114 : Below w6.heap.size w6 w8 := bthen gw7 gw8
  clear hb8 f74 f75 f76 f77 f78 f79 f80 f81 f82 f83 hB88 hB89 hB90 hB91 hB92 hB93 gw7 z84 z85 z86 z87
  simp only [putAll, Act.put]
  go_simp
  go_wp2_with fail
  refine wp_region_loose [exV (.agg #[.int .i64 x1.1, .int .i64 x1.2.1, .slice ad52 x1.2.2.length ad52']), exV (.agg #[.int .i64 x1.1, .int .i64 x1.2.1, u1]), rdA frmT x1, exV (.bool true), exV (.bool false)] (by kernel_rfl) (by kernel_rfl) ⟨st_exV, st_exV, st_rdA, st_exV, st_exV, trivial⟩ ⟨?j19_0, ?j19_1, ?j19_2, ?j19_3, ?j19_4, trivial⟩ ?hQ19
  case j19_0 =>
    intro a' w' hb hd
    have e0 : a'.tmps[11]?.getD undef = .pointer (some ⟨w5.heap.size, 0, none⟩) := ev (slot_o hd 11 rfl rfl)
    have q : ∀ b o, b < w8.heap.size → w'.cell? ⟨b, o, none⟩ = w8.cell? ⟨b, o, none⟩ := (bcell hb).1
    go_simp
    exact ⟨Below.refl _ _, rfl⟩
  case j19_1 =>
    intro a' w' hb hd
    have e0 : a'.tmps[4]?.getD undef = .pointer (some ⟨w.heap.size + 1, 0, none⟩) := ev (slot_o hd 4 rfl rfl)
    have q : ∀ b o, b < w8.heap.size → w'.cell? ⟨b, o, none⟩ = w8.cell? ⟨b, o, none⟩ := (bcell hb).1
    go_simp
    exact ⟨Below.refl _ _, rfl⟩
  case j19_2 =>
    intro a' w' hb hd
    have e65 : a'.tmps[65]?.getD undef = .agg #[.int .i64 x1.1, .int .i64 x1.2.1, u1] := ev (slot_w hd 65 (exV (.agg #[.int .i64 x1.1, .int .i64 x1.2.1, u1])) rfl rfl)
    have r65 : frmT.Rd w8 (#[.int .i64 x1.1, .int .i64 x1.2.1, u1] : Array Value).toList x1 := hx1.below (by repeat (first | exact Below.refl _ _ | exact bA | assumption | refine Below.setCell ?_ (by first | omega | (simp; try omega)) _ | refine Below.alloc ?_ (by first | omega | (simp; try omega)) _ | refine Below.drew ?_ | refine bDN ?_ | refine bthen ?_ (by assumption)))
    have r65' := r65.below hb
    go_simp
    exact ⟨Below.refl _ _, (toFormula_any w' r65' (by first | omega | (unfold szInts; omega))).mono fun e w'' ⟨cs, he, hf, hb⟩ => ⟨_, he, hb, cs, rfl, hf.rd⟩⟩
  case j19_3 =>
    intro a' w' hb hd
    have e64 : a'.tmps[64]?.getD undef = .agg #[.int .i64 x1.1, .int .i64 x1.2.1, .slice ad52 x1.2.2.length ad52'] := ev (slot_w hd 64 (exV (.agg #[.int .i64 x1.1, .int .i64 x1.2.1, .slice ad52 x1.2.2.length ad52'])) rfl rfl)
    have r64 : frmT.Rd w8 (#[.int .i64 x1.1, .int .i64 x1.2.1, .slice ad52 x1.2.2.length ad52'] : Array Value).toList x1 := hc37.rd.below (by repeat (first | exact Below.refl _ _ | exact bA | assumption | refine Below.setCell ?_ (by first | omega | (simp; try omega)) _ | refine Below.alloc ?_ (by first | omega | (simp; try omega)) _ | refine Below.drew ?_ | refine bDN ?_ | refine bthen ?_ (by assumption)))
    have r64' := r64.below hb
    have d66 := slot_w hd 66 (rdA frmT x1) rfl rfl
    obtain ⟨cs66, e66, hf66⟩ := d66
    have e66' := ev e66
    go_simp
    exact ⟨Below.refl _ _, (eqFormula_any w' r64' hf66).mono fun e w'' ⟨he, hb⟩ => ⟨_, he, hb, exV_eqB⟩⟩
  case j19_4 =>
    intro a' w' hb hd
    have e0 : a'.tmps[67]?.getD undef = .bool true := ev (slot_w hd 67 (exV (.bool true)) rfl rfl)
    go_simp
    exact ⟨Below.refl _ _, rfl⟩
  intro vs19 w9 hb9 H0
  obtain ⟨v19_0, _, rfl, p0, H1⟩ := HAll_cons H0
  obtain ⟨v19_1, _, rfl, p1, H2⟩ := HAll_cons H1
  obtain ⟨v19_2, _, rfl, p2, H3⟩ := HAll_cons H2
  obtain ⟨v19_3, _, rfl, p3, H4⟩ := HAll_cons H3
  obtain ⟨v19_4, _, rfl, p4, H5⟩ := HAll_cons H4
  obtain rfl := HAll_nil H5
  obtain rfl := p0 rfl
  obtain rfl := p1 rfl
  obtain rfl := p3 rfl
  obtain rfl := p4 rfl
  clear p0 p1 p2 p3 p4 H0 H1 H2 H3 H4 H5
  have gw9 : Below w8.heap.size w8 w9 := bthen (by repeat (first | exact Below.refl _ _ | exact bA | assumption | refine Below.setCell ?_ (by first | omega | (simp; try omega)) _ | refine Below.alloc ?_ (by first | omega | (simp; try omega)) _ | refine Below.drew ?_ | refine bDN ?_ | refine bthen ?_ (by assumption))) hb9
  have sw9 : w8.heap.size + 0 ≤ w9.heap.size := by have := hb9.size; (try simp at this); omega
  have f115 : w9.cell? ⟨w.heap.size, 0, none⟩ = some (.int .i64 x0.1) := (gw9.cell (by first | omega | (simp; try omega))).trans f94
  have f116 : w9.cell? ⟨w.heap.size, 1, none⟩ = some (u0) := (gw9.cell (by first | omega | (simp; try omega))).trans f95
  have f117 : w9.cell? ⟨w.heap.size + 1, 0, none⟩ = some (.int .i64 x1.1) := (gw9.cell (by first | omega | (simp; try omega))).trans f96
  have f118 : w9.cell? ⟨w.heap.size + 1, 1, none⟩ = some (.int .i64 x1.2.1) := (gw9.cell (by first | omega | (simp; try omega))).trans f97
  have f119 : w9.cell? ⟨w.heap.size + 1, 2, none⟩ = some (u1) := (gw9.cell (by first | omega | (simp; try omega))).trans f98
  have f120 : w9.cell? ⟨w4.heap.size, 0, none⟩ = some (.int .i64 x0.1) := (gw9.cell (by first | omega | (simp; try omega))).trans f99
  have f121 : w9.cell? ⟨w4.heap.size, 1, none⟩ = some (.slice ad36 x0.2.length ad36') := (gw9.cell (by first | omega | (simp; try omega))).trans f100
  have f122 : w9.cell? ⟨w5.heap.size, 0, none⟩ = some (.int .i64 x1.1) := (gw9.cell (by first | omega | (simp; try omega))).trans f101
  have f123 : w9.cell? ⟨w5.heap.size, 1, none⟩ = some (.int .i64 x1.2.1) := (gw9.cell (by first | omega | (simp; try omega))).trans f102
  have f124 : w9.cell? ⟨w5.heap.size, 2, none⟩ = some (.slice ad52 x1.2.2.length ad52') := (gw9.cell (by first | omega | (simp; try omega))).trans f103
  have z125 : w.heap.size < w9.heap.size := by omega
  have z126 : w.heap.size + 1 < w9.heap.size := by omega
  have z127 : w4.heap.size < w9.heap.size := by omega
  have z128 : w5.heap.size < w9.heap.size := by omega
  have hB129 : Below w.heap.size w w9 := bthen hB108 gw9
  have hB130 : Below w1.heap.size w1 w9 := bthen hB109 gw9
  have hB131 : Below w2.heap.size w2 w9 := bthen hB110 gw9
  have hB132 : Below w3.heap.size w3 w9 := bthen hB111 gw9
  have hB133 : Below w4.heap.size w4 w9 := bthen hB112 gw9
  have hB134 : Below w5.heap.size w5 w9 := bthen hB113 gw9
  have hB135 : Below w6.heap.size w6 w9 := bthen hB114 gw9
  have hB136 : Below w7.heap.size w7 w9 := bthen gw8 gw9
  clear hb9 f94 f95 f96 f97 f98 f99 f100 f101 f102 f103 hB108 hB109 hB110 hB111 hB112 hB113 hB114 gw8 z104 z105 z106 z107
  simp only [putAll, Act.put]
  go_simp
  go_wp2_with fail
  refine (toInt64S_any _ (hx2.below (by repeat (first | exact Below.refl _ _ | exact bA | assumption | refine Below.setCell ?_ (by first | omega | (simp; try omega)) _ | refine Below.alloc ?_ (by first | omega | (simp; try omega)) _ | refine Below.drew ?_ | refine bDN ?_ | refine bthen ?_ (by assumption)))) (by first | omega | (unfold szInts; omega))).mono ?_
  rintro e w10 ⟨u, rfl, hc137, hb10⟩
  have gw10 : Below w9.heap.size w9 w10 := bthen (by repeat (first | exact Below.refl _ _ | exact bA | assumption | refine Below.setCell ?_ (by first | omega | (simp; try omega)) _ | refine Below.alloc ?_ (by first | omega | (simp; try omega)) _ | refine Below.drew ?_ | refine bDN ?_ | refine bthen ?_ (by assumption))) hb10
  have sw10 : w9.heap.size + 0 ≤ w10.heap.size := by have := hb10.size; (try simp at this); omega
  have f138 : w10.cell? ⟨w.heap.size, 0, none⟩ = some (.int .i64 x0.1) := (gw10.cell (by first | omega | (simp; try omega))).trans f115
  have f139 : w10.cell? ⟨w.heap.size, 1, none⟩ = some (u0) := (gw10.cell (by first | omega | (simp; try omega))).trans f116
  have f140 : w10.cell? ⟨w.heap.size + 1, 0, none⟩ = some (.int .i64 x1.1) := (gw10.cell (by first | omega | (simp; try omega))).trans f117
  have f141 : w10.cell? ⟨w.heap.size + 1, 1, none⟩ = some (.int .i64 x1.2.1) := (gw10.cell (by first | omega | (simp; try omega))).trans f118
  have f142 : w10.cell? ⟨w.heap.size + 1, 2, none⟩ = some (u1) := (gw10.cell (by first | omega | (simp; try omega))).trans f119
  have f143 : w10.cell? ⟨w4.heap.size, 0, none⟩ = some (.int .i64 x0.1) := (gw10.cell (by first | omega | (simp; try omega))).trans f120
  have f144 : w10.cell? ⟨w4.heap.size, 1, none⟩ = some (.slice ad36 x0.2.length ad36') := (gw10.cell (by first | omega | (simp; try omega))).trans f121
  have f145 : w10.cell? ⟨w5.heap.size, 0, none⟩ = some (.int .i64 x1.1) := (gw10.cell (by first | omega | (simp; try omega))).trans f122
  have f146 : w10.cell? ⟨w5.heap.size, 1, none⟩ = some (.int .i64 x1.2.1) := (gw10.cell (by first | omega | (simp; try omega))).trans f123
  have f147 : w10.cell? ⟨w5.heap.size, 2, none⟩ = some (.slice ad52 x1.2.2.length ad52') := (gw10.cell (by first | omega | (simp; try omega))).trans f124
  have z148 : w.heap.size < w10.heap.size := by omega
  have z149 : w.heap.size + 1 < w10.heap.size := by omega
  have z150 : w4.heap.size < w10.heap.size := by omega
  have z151 : w5.heap.size < w10.heap.size := by omega
  have hB152 : Below w.heap.size w w10 := bthen hB129 gw10
  have hB153 : Below w1.heap.size w1 w10 := bthen hB130 gw10
  have hB154 : Below w2.heap.size w2 w10 := bthen hB131 gw10
  have hB155 : Below w3.heap.size w3 w10 := bthen hB132 gw10
  have hB156 : Below w4.heap.size w4 w10 := bthen hB133 gw10
  have hB157 : Below w5.heap.size w5 w10 := bthen hB134 gw10
  have hB158 : Below w6.heap.size w6 w10 := bthen hB135 gw10
  have hB159 : Below w7.heap.size w7 w10 := bthen hB136 gw10
  have hB160 : Below w8.heap.size w8 w10 := bthen gw9 gw10
  clear hb10 f115 f116 f117 f118 f119 f120 f121 f122 f123 f124 hB129 hB130 hB131 hB132 hB133 hB134 hB135 hB136 gw9 z125 z126 z127 z128
  obtain ⟨ad161, ad161', rfl⟩ := fr_slice hc137
  go_wp2_with fail
  refine (eqInt64S_any _ (hc53.rd.below (by repeat (first | exact Below.refl _ _ | exact bA | assumption | refine Below.setCell ?_ (by first | omega | (simp; try omega)) _ | refine Below.alloc ?_ (by first | omega | (simp; try omega)) _ | refine Below.drew ?_ | refine bDN ?_ | refine bthen ?_ (by assumption)))) (hc137.rd.below (by repeat (first | exact Below.refl _ _ | exact bA | assumption | refine Below.setCell ?_ (by first | omega | (simp; try omega)) _ | refine Below.alloc ?_ (by first | omega | (simp; try omega)) _ | refine Below.drew ?_ | refine bDN ?_ | refine bthen ?_ (by assumption))))).mono ?_
  rintro e w11 ⟨rfl, hb11⟩
  have gw11 : Below w10.heap.size w10 w11 := bthen (by repeat (first | exact Below.refl _ _ | exact bA | assumption | refine Below.setCell ?_ (by first | omega | (simp; try omega)) _ | refine Below.alloc ?_ (by first | omega | (simp; try omega)) _ | refine Below.drew ?_ | refine bDN ?_ | refine bthen ?_ (by assumption))) hb11
  have sw11 : w10.heap.size + 0 ≤ w11.heap.size := by have := hb11.size; (try simp at this); omega
  have f162 : w11.cell? ⟨w.heap.size, 0, none⟩ = some (.int .i64 x0.1) := (gw11.cell (by first | omega | (simp; try omega))).trans f138
  have f163 : w11.cell? ⟨w.heap.size, 1, none⟩ = some (u0) := (gw11.cell (by first | omega | (simp; try omega))).trans f139
  have f164 : w11.cell? ⟨w.heap.size + 1, 0, none⟩ = some (.int .i64 x1.1) := (gw11.cell (by first | omega | (simp; try omega))).trans f140
  have f165 : w11.cell? ⟨w.heap.size + 1, 1, none⟩ = some (.int .i64 x1.2.1) := (gw11.cell (by first | omega | (simp; try omega))).trans f141
  have f166 : w11.cell? ⟨w.heap.size + 1, 2, none⟩ = some (u1) := (gw11.cell (by first | omega | (simp; try omega))).trans f142
  have f167 : w11.cell? ⟨w4.heap.size, 0, none⟩ = some (.int .i64 x0.1) := (gw11.cell (by first | omega | (simp; try omega))).trans f143
  have f168 : w11.cell? ⟨w4.heap.size, 1, none⟩ = some (.slice ad36 x0.2.length ad36') := (gw11.cell (by first | omega | (simp; try omega))).trans f144
  have f169 : w11.cell? ⟨w5.heap.size, 0, none⟩ = some (.int .i64 x1.1) := (gw11.cell (by first | omega | (simp; try omega))).trans f145
  have f170 : w11.cell? ⟨w5.heap.size, 1, none⟩ = some (.int .i64 x1.2.1) := (gw11.cell (by first | omega | (simp; try omega))).trans f146
  have f171 : w11.cell? ⟨w5.heap.size, 2, none⟩ = some (.slice ad52 x1.2.2.length ad52') := (gw11.cell (by first | omega | (simp; try omega))).trans f147
  have z172 : w.heap.size < w11.heap.size := by omega
  have z173 : w.heap.size + 1 < w11.heap.size := by omega
  have z174 : w4.heap.size < w11.heap.size := by omega
  have z175 : w5.heap.size < w11.heap.size := by omega
  have hB176 : Below w.heap.size w w11 := bthen hB152 gw11
  have hB177 : Below w1.heap.size w1 w11 := bthen hB153 gw11
  have hB178 : Below w2.heap.size w2 w11 := bthen hB154 gw11
  have hB179 : Below w3.heap.size w3 w11 := bthen hB155 gw11
  have hB180 : Below w4.heap.size w4 w11 := bthen hB156 gw11
  have hB181 : Below w5.heap.size w5 w11 := bthen hB157 gw11
  have hB182 : Below w6.heap.size w6 w11 := bthen hB158 gw11
  have hB183 : Below w7.heap.size w7 w11 := bthen hB159 gw11
  have hB184 : Below w8.heap.size w8 w11 := bthen hB160 gw11
  have hB185 : Below w9.heap.size w9 w11 := bthen gw10 gw11
  clear hb11 f138 f139 f140 f141 f142 f143 f144 f145 f146 f147 hB152 hB153 hB154 hB155 hB156 hB157 hB158 hB159 hB160 gw10 z148 z149 z150 z151
  rw [eqB_true rfl]
  go_wp2_with fail
  go_ret
  exact ⟨rfl, (by repeat (first | exact Below.refl _ _ | exact bA | assumption | refine Below.setCell ?_ (by first | omega | (simp; try omega)) _ | refine Below.alloc ?_ (by first | omega | (simp; try omega)) _ | refine Below.drew ?_ | refine bDN ?_ | refine bthen ?_ (by assumption)))⟩
end Go.Proofs.Ytbpjejhjlmpcjaa
