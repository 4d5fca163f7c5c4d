/-
  The law FnExactAreEquivalent, walked: its contract.
-/
import Derived.Test.YtbpjejhjlmpcjaaS15
import Derived.Test.YtbpjejhjlmpcjaaKT
import Derived.Test.YtbpjejhjlmpcjaaLoose
namespace Go.Proofs.Ytbpjejhjlmpcjaa
open Go.RowKit Go.Sort
set_option maxHeartbeats 3200000 in
set_option maxRecDepth 100000 in
theorem fnExactAreEquivalent_any (w : World) {c0 : Array Value} {x0 : Int × List (Int × List (List Int))} (h0 : tplT.Rd w c0.toList x0) {c1 : Array Value} {x1 : Int × Int × List (Int × List Int)} (h1 : frmT.Rd w c1.toList x1) {c2 : Array Value} {x2 : Int × Int × List (Int × List Int)} (h2 : frmT.Rd w c2.toList x2) :
    Calls Try.prog 9 #[.agg c0, .agg c1, .agg c2] w fun e w' => e = .returned (.bool true) ∧ Below w.heap.size w w' := by
  have hx0 := h0
  obtain ⟨u0, hv0, -, hy0⟩ := pair_ex h0
  obtain rfl := agg_of hv0
  clear hv0 h0
  have hn0 := szTpl_nn x0
  have hx1 := h1
  obtain ⟨u1, hv1, -, -, hy1⟩ := trip_ex h1
  obtain rfl := agg_of hv1
  clear hv1 h1
  have hn1 := szFrm_nn x1
  have hx2 := h2
  obtain ⟨u2, hv2, -, -, hy2⟩ := trip_ex h2
  obtain rfl := agg_of hv2
  clear hv2 h2
  have hn2 := szFrm_nn x2
  go_enter Try.func9, Try.ntmps9
  go_wp2_with fail
  refine (szTemplate_any _ (hx0.below (by repeat (first | exact Below.refl _ _ | exact bA | assumption | refine Below.setCell ?_ (by first | omega | (simp; try omega)) _ | refine Below.alloc ?_ (by first | omega | (simp; try omega)) _ | refine Below.drew ?_ | refine bDN ?_ | refine bthen ?_ (by assumption)))) _ (by omega) (by omega)).mono ?_
  rintro e w1 ⟨rfl, hb1⟩
  have gw1 : Below w.heap.size w w1 := bthen (by repeat (first | exact Below.refl _ _ | exact bA | assumption | refine Below.setCell ?_ (by first | omega | (simp; try omega)) _ | refine Below.alloc ?_ (by first | omega | (simp; try omega)) _ | refine Below.drew ?_ | refine bDN ?_ | refine bthen ?_ (by assumption))) hb1
  have sw1 : w.heap.size + 3 ≤ w1.heap.size := by have := hb1.size; (try simp at this); omega
  have f1 : w1.cell? ⟨w.heap.size, 0, none⟩ = some (.int .i64 x0.1) := by rw [(bcell hb1).1 _ _ (by first | omega | (simp; try omega))]; first | (simp; done) | simp [go_sem]
  have f2 : w1.cell? ⟨w.heap.size, 1, none⟩ = some (u0) := by rw [(bcell hb1).1 _ _ (by first | omega | (simp; try omega))]; first | (simp; done) | simp [go_sem]
  have f3 : w1.cell? ⟨w.heap.size + 1, 0, none⟩ = some (.int .i64 x1.1) := by rw [(bcell hb1).1 _ _ (by first | omega | (simp; try omega))]; first | (simp; done) | simp [go_sem]
  have f4 : w1.cell? ⟨w.heap.size + 1, 1, none⟩ = some (.int .i64 x1.2.1) := by rw [(bcell hb1).1 _ _ (by first | omega | (simp; try omega))]; first | (simp; done) | simp [go_sem]
  have f5 : w1.cell? ⟨w.heap.size + 1, 2, none⟩ = some (u1) := by rw [(bcell hb1).1 _ _ (by first | omega | (simp; try omega))]; first | (simp; done) | simp [go_sem]
  have f6 : w1.cell? ⟨w.heap.size + 2, 0, none⟩ = some (.int .i64 x2.1) := by rw [(bcell hb1).1 _ _ (by first | omega | (simp; try omega))]; first | (simp; done) | simp [go_sem]
  have f7 : w1.cell? ⟨w.heap.size + 2, 1, none⟩ = some (.int .i64 x2.2.1) := by rw [(bcell hb1).1 _ _ (by first | omega | (simp; try omega))]; first | (simp; done) | simp [go_sem]
  have f8 : w1.cell? ⟨w.heap.size + 2, 2, none⟩ = some (u2) := by rw [(bcell hb1).1 _ _ (by first | omega | (simp; try omega))]; first | (simp; done) | simp [go_sem]
  have z9 : w.heap.size < w1.heap.size := by omega
  have z10 : w.heap.size + 1 < w1.heap.size := by omega
  have z11 : w.heap.size + 2 < w1.heap.size := by omega
  clear hb1 
  rcases ilt 1048576 (szTpl x0) with hl2 | hl2
  · rw [szR_lt hl2]
    go_wp2_with fail
    go_ret
    exact ⟨rfl, (by repeat (first | exact Below.refl _ _ | exact bA | assumption | refine Below.setCell ?_ (by first | omega | (simp; try omega)) _ | refine Below.alloc ?_ (by first | omega | (simp; try omega)) _ | refine Below.drew ?_ | refine bDN ?_ | refine bthen ?_ (by assumption)))⟩
  rw [szR_ge hl2]
  go_wp2_with fail
  refine (szFormula_any _ (hx1.below (by repeat (first | exact Below.refl _ _ | exact bA | assumption | refine Below.setCell ?_ (by first | omega | (simp; try omega)) _ | refine Below.alloc ?_ (by first | omega | (simp; try omega)) _ | refine Below.drew ?_ | refine bDN ?_ | refine bthen ?_ (by assumption)))) _ (by omega) (by omega)).mono ?_
  rintro e w2 ⟨rfl, hb2⟩
  have gw2 : Below w1.heap.size w1 w2 := bthen (by repeat (first | exact Below.refl _ _ | exact bA | assumption | refine Below.setCell ?_ (by first | omega | (simp; try omega)) _ | refine Below.alloc ?_ (by first | omega | (simp; try omega)) _ | refine Below.drew ?_ | refine bDN ?_ | refine bthen ?_ (by assumption))) hb2
  have sw2 : w1.heap.size + 0 ≤ w2.heap.size := by have := hb2.size; (try simp at this); omega
  have f12 : w2.cell? ⟨w.heap.size, 0, none⟩ = some (.int .i64 x0.1) := (gw2.cell (by first | omega | (simp; try omega))).trans f1
  have f13 : w2.cell? ⟨w.heap.size, 1, none⟩ = some (u0) := (gw2.cell (by first | omega | (simp; try omega))).trans f2
  have f14 : w2.cell? ⟨w.heap.size + 1, 0, none⟩ = some (.int .i64 x1.1) := (gw2.cell (by first | omega | (simp; try omega))).trans f3
  have f15 : w2.cell? ⟨w.heap.size + 1, 1, none⟩ = some (.int .i64 x1.2.1) := (gw2.cell (by first | omega | (simp; try omega))).trans f4
  have f16 : w2.cell? ⟨w.heap.size + 1, 2, none⟩ = some (u1) := (gw2.cell (by first | omega | (simp; try omega))).trans f5
  have f17 : w2.cell? ⟨w.heap.size + 2, 0, none⟩ = some (.int .i64 x2.1) := (gw2.cell (by first | omega | (simp; try omega))).trans f6
  have f18 : w2.cell? ⟨w.heap.size + 2, 1, none⟩ = some (.int .i64 x2.2.1) := (gw2.cell (by first | omega | (simp; try omega))).trans f7
  have f19 : w2.cell? ⟨w.heap.size + 2, 2, none⟩ = some (u2) := (gw2.cell (by first | omega | (simp; try omega))).trans f8
  have z20 : w.heap.size < w2.heap.size := by omega
  have z21 : w.heap.size + 1 < w2.heap.size := by omega
  have z22 : w.heap.size + 2 < w2.heap.size := by omega
  have hB23 : Below w.heap.size w w2 := bthen gw1 gw2
  clear hb2 f1 f2 f3 f4 f5 f6 f7 f8 gw1 z9 z10 z11
  rcases ilt (1048576 - szTpl x0) (szFrm x1) with hl5 | hl5
  · rw [szR_lt hl5]
    go_wp2_with fail
    go_ret
    exact ⟨rfl, (by repeat (first | exact Below.refl _ _ | exact bA | assumption | refine Below.setCell ?_ (by first | omega | (simp; try omega)) _ | refine Below.alloc ?_ (by first | omega | (simp; try omega)) _ | refine Below.drew ?_ | refine bDN ?_ | refine bthen ?_ (by assumption)))⟩
  rw [szR_ge hl5]
  go_wp2_with fail
  refine (szFormula_any _ (hx2.below (by repeat (first | exact Below.refl _ _ | exact bA | assumption | refine Below.setCell ?_ (by first | omega | (simp; try omega)) _ | refine Below.alloc ?_ (by first | omega | (simp; try omega)) _ | refine Below.drew ?_ | refine bDN ?_ | refine bthen ?_ (by assumption)))) _ (by omega) (by omega)).mono ?_
  rintro e w3 ⟨rfl, hb3⟩
  have gw3 : Below w2.heap.size w2 w3 := bthen (by repeat (first | exact Below.refl _ _ | exact bA | assumption | refine Below.setCell ?_ (by first | omega | (simp; try omega)) _ | refine Below.alloc ?_ (by first | omega | (simp; try omega)) _ | refine Below.drew ?_ | refine bDN ?_ | refine bthen ?_ (by assumption))) hb3
  have sw3 : w2.heap.size + 0 ≤ w3.heap.size := by have := hb3.size; (try simp at this); omega
  have f24 : w3.cell? ⟨w.heap.size, 0, none⟩ = some (.int .i64 x0.1) := (gw3.cell (by first | omega | (simp; try omega))).trans f12
  have f25 : w3.cell? ⟨w.heap.size, 1, none⟩ = some (u0) := (gw3.cell (by first | omega | (simp; try omega))).trans f13
  have f26 : w3.cell? ⟨w.heap.size + 1, 0, none⟩ = some (.int .i64 x1.1) := (gw3.cell (by first | omega | (simp; try omega))).trans f14
  have f27 : w3.cell? ⟨w.heap.size + 1, 1, none⟩ = some (.int .i64 x1.2.1) := (gw3.cell (by first | omega | (simp; try omega))).trans f15
  have f28 : w3.cell? ⟨w.heap.size + 1, 2, none⟩ = some (u1) := (gw3.cell (by first | omega | (simp; try omega))).trans f16
  have f29 : w3.cell? ⟨w.heap.size + 2, 0, none⟩ = some (.int .i64 x2.1) := (gw3.cell (by first | omega | (simp; try omega))).trans f17
  have f30 : w3.cell? ⟨w.heap.size + 2, 1, none⟩ = some (.int .i64 x2.2.1) := (gw3.cell (by first | omega | (simp; try omega))).trans f18
  have f31 : w3.cell? ⟨w.heap.size + 2, 2, none⟩ = some (u2) := (gw3.cell (by first | omega | (simp; try omega))).trans f19
  have z32 : w.heap.size < w3.heap.size := by omega
  have z33 : w.heap.size + 1 < w3.heap.size := by omega
  have z34 : w.heap.size + 2 < w3.heap.size := by omega
  have hB35 : Below w.heap.size w w3 := bthen hB23 gw3
  have hB36 : Below w1.heap.size w1 w3 := bthen gw2 gw3
  clear hb3 f12 f13 f14 f15 f16 f17 f18 f19 hB23 gw2 z20 z21 z22
  rcases ilt (1048576 - szTpl x0 - szFrm x1) (szFrm x2) with hl8 | hl8
  · rw [szR_lt hl8]
    go_wp2_with fail
    go_ret
    exact ⟨rfl, (by repeat (first | exact Below.refl _ _ | exact bA | assumption | refine Below.setCell ?_ (by first | omega | (simp; try omega)) _ | refine Below.alloc ?_ (by first | omega | (simp; try omega)) _ | refine Below.drew ?_ | refine bDN ?_ | refine bthen ?_ (by assumption)))⟩
  rw [szR_ge hl8]
  go_wp2_with fail
  refine wp_region_loose [exV (.agg #[.int .i64 x0.1, u0]), rdA tplT x0, exV (.agg #[.int .i64 x1.1, .int .i64 x1.2.1, u1]), rdA frmT x1, exV (.agg #[.int .i64 x2.1, .int .i64 x2.2.1, u2]), rdA frmT x2, exV (.tuple #[.bool (aeB x0 x1 x2), .int .i64 (twoC x0 x1 x2)]), exV (.tuple #[.bool (aeB x0 x1 x2), .int .i64 (twoC x0 x1 x2)]), exV (.bool (aeB x0 x1 x2)), exV (.int .i64 (twoC x0 x1 x2)), exV (.bool (aeB x0 x1 x2)), exV (.int .i64 (twoC x0 x1 x2))] (by kernel_rfl) (by kernel_rfl) ⟨st_exV, st_rdA, st_exV, st_rdA, st_exV, st_rdA, st_exV, st_exV, st_exV, st_exV, st_exV, st_exV, trivial⟩ ⟨?j11_0, ?j11_1, ?j11_2, ?j11_3, ?j11_4, ?j11_5, ?j11_6, ?j11_7, ?j11_8, ?j11_9, ?j11_10, ?j11_11, trivial⟩ ?hQ11
  case j11_0 =>
    intro a' w' hb hd
    have e0 : a'.tmps[3]?.getD undef = .pointer (some ⟨w.heap.size, 0, none⟩) := ev (slot_o hd 3 rfl rfl)
    have q : ∀ b o, b < w3.heap.size → w'.cell? ⟨b, o, none⟩ = w3.cell? ⟨b, o, none⟩ := (bcell hb).1
    go_simp
    exact ⟨Below.refl _ _, rfl⟩
  case j11_1 =>
    intro a' w' hb hd
    have e31 : a'.tmps[31]?.getD undef = .agg #[.int .i64 x0.1, u0] := ev (slot_w hd 31 (exV (.agg #[.int .i64 x0.1, u0])) rfl rfl)
    have r31 : tplT.Rd w3 (#[.int .i64 x0.1, u0] : Array Value).toList x0 := hx0.below (by repeat (first | exact Below.refl _ _ | exact bA | assumption | refine Below.setCell ?_ (by first | omega | (simp; try omega)) _ | refine Below.alloc ?_ (by first | omega | (simp; try omega)) _ | refine Below.drew ?_ | refine bDN ?_ | refine bthen ?_ (by assumption)))
    have r31' := r31.below hb
    go_simp
    exact ⟨Below.refl _ _, (toTemplate_any w' r31' (by first | omega | (unfold szInts; omega))).mono fun e w'' ⟨cs, he, hf, hb⟩ => ⟨_, he, hb, cs, rfl, hf.rd⟩⟩
  case j11_2 =>
    intro a' w' hb hd
    have e0 : a'.tmps[4]?.getD undef = .pointer (some ⟨w.heap.size + 1, 0, none⟩) := ev (slot_o hd 4 rfl rfl)
    have q : ∀ b o, b < w3.heap.size → w'.cell? ⟨b, o, none⟩ = w3.cell? ⟨b, o, none⟩ := (bcell hb).1
    go_simp
    exact ⟨Below.refl _ _, rfl⟩
  case j11_3 =>
    intro a' w' hb hd
    have e33 : a'.tmps[33]?.getD undef = .agg #[.int .i64 x1.1, .int .i64 x1.2.1, u1] := ev (slot_w hd 33 (exV (.agg #[.int .i64 x1.1, .int .i64 x1.2.1, u1])) rfl rfl)
    have r33 : frmT.Rd w3 (#[.int .i64 x1.1, .int .i64 x1.2.1, u1] : Array Value).toList x1 := hx1.below (by repeat (first | exact Below.refl _ _ | exact bA | assumption | refine Below.setCell ?_ (by first | omega | (simp; try omega)) _ | refine Below.alloc ?_ (by first | omega | (simp; try omega)) _ | refine Below.drew ?_ | refine bDN ?_ | refine bthen ?_ (by assumption)))
    have r33' := r33.below hb
    go_simp
    exact ⟨Below.refl _ _, (toFormula_any w' r33' (by first | omega | (unfold szInts; omega))).mono fun e w'' ⟨cs, he, hf, hb⟩ => ⟨_, he, hb, cs, rfl, hf.rd⟩⟩
  case j11_4 =>
    intro a' w' hb hd
    have e0 : a'.tmps[5]?.getD undef = .pointer (some ⟨w.heap.size + 2, 0, none⟩) := ev (slot_o hd 5 rfl rfl)
    have q : ∀ b o, b < w3.heap.size → w'.cell? ⟨b, o, none⟩ = w3.cell? ⟨b, o, none⟩ := (bcell hb).1
    go_simp
    exact ⟨Below.refl _ _, rfl⟩
  case j11_5 =>
    intro a' w' hb hd
    have e35 : a'.tmps[35]?.getD undef = .agg #[.int .i64 x2.1, .int .i64 x2.2.1, u2] := ev (slot_w hd 35 (exV (.agg #[.int .i64 x2.1, .int .i64 x2.2.1, u2])) rfl rfl)
    have r35 : frmT.Rd w3 (#[.int .i64 x2.1, .int .i64 x2.2.1, u2] : Array Value).toList x2 := hx2.below (by repeat (first | exact Below.refl _ _ | exact bA | assumption | refine Below.setCell ?_ (by first | omega | (simp; try omega)) _ | refine Below.alloc ?_ (by first | omega | (simp; try omega)) _ | refine Below.drew ?_ | refine bDN ?_ | refine bthen ?_ (by assumption)))
    have r35' := r35.below hb
    go_simp
    exact ⟨Below.refl _ _, (toFormula_any w' r35' (by first | omega | (unfold szInts; omega))).mono fun e w'' ⟨cs, he, hf, hb⟩ => ⟨_, he, hb, cs, rfl, hf.rd⟩⟩
  case j11_6 =>
    intro a' w' hb hd
    have d32 := slot_w hd 32 (rdA tplT x0) rfl rfl
    obtain ⟨cs32, e32, hf32⟩ := d32
    have e32' := ev e32
    have d34 := slot_w hd 34 (rdA frmT x1) rfl rfl
    obtain ⟨cs34, e34, hf34⟩ := d34
    have e34' := ev e34
    have d36 := slot_w hd 36 (rdA frmT x2) rfl rfl
    obtain ⟨cs36, e36, hf36⟩ := d36
    have e36' := ev e36
    go_simp
    exact ⟨Below.refl _ _, (specAreEquivalent_any _ hf32 hf34 hf36).mono fun e w'' ⟨he, hb⟩ => ⟨_, he, hb, rfl⟩⟩
  case j11_7 =>
    intro a' w' hb hd
    have e0 : a'.tmps[37]?.getD undef = .tuple #[.bool (aeB x0 x1 x2), .int .i64 (twoC x0 x1 x2)] := ev (slot_w hd 37 (exV (.tuple #[.bool (aeB x0 x1 x2), .int .i64 (twoC x0 x1 x2)])) rfl rfl)
    go_simp
    exact ⟨Below.refl _ _, rfl⟩
  case j11_8 =>
    intro a' w' hb hd
    have e0 : a'.tmps[30]?.getD undef = .tuple #[.bool (aeB x0 x1 x2), .int .i64 (twoC x0 x1 x2)] := ev (slot_w hd 30 (exV (.tuple #[.bool (aeB x0 x1 x2), .int .i64 (twoC x0 x1 x2)])) rfl rfl)
    go_simp
    exact ⟨Below.refl _ _, rfl⟩
  case j11_9 =>
    intro a' w' hb hd
    have e0 : a'.tmps[30]?.getD undef = .tuple #[.bool (aeB x0 x1 x2), .int .i64 (twoC x0 x1 x2)] := ev (slot_w hd 30 (exV (.tuple #[.bool (aeB x0 x1 x2), .int .i64 (twoC x0 x1 x2)])) rfl rfl)
    go_simp
    exact ⟨Below.refl _ _, rfl⟩
  case j11_10 =>
    intro a' w' hb hd
    have e0 : a'.tmps[38]?.getD undef = .bool (aeB x0 x1 x2) := ev (slot_w hd 38 (exV (.bool (aeB x0 x1 x2))) rfl rfl)
    go_simp
    exact ⟨Below.refl _ _, rfl⟩
  case j11_11 =>
    intro a' w' hb hd
    have e0 : a'.tmps[39]?.getD undef = .int .i64 (twoC x0 x1 x2) := ev (slot_w hd 39 (exV (.int .i64 (twoC x0 x1 x2))) rfl rfl)
    go_simp
    exact ⟨Below.refl _ _, rfl⟩
  intro vs11 w4 hb4 H0
  obtain ⟨v11_0, _, rfl, p0, H1⟩ := HAll_cons H0
  obtain ⟨v11_1, _, rfl, p1, H2⟩ := HAll_cons H1
  obtain ⟨v11_2, _, rfl, p2, H3⟩ := HAll_cons H2
  obtain ⟨v11_3, _, rfl, p3, H4⟩ := HAll_cons H3
  obtain ⟨v11_4, _, rfl, p4, H5⟩ := HAll_cons H4
  obtain ⟨v11_5, _, rfl, p5, H6⟩ := HAll_cons H5
  obtain ⟨v11_6, _, rfl, p6, H7⟩ := HAll_cons H6
  obtain ⟨v11_7, _, rfl, p7, H8⟩ := HAll_cons H7
  obtain ⟨v11_8, _, rfl, p8, H9⟩ := HAll_cons H8
  obtain ⟨v11_9, _, rfl, p9, H10⟩ := HAll_cons H9
  obtain ⟨v11_10, _, rfl, p10, H11⟩ := HAll_cons H10
  obtain ⟨v11_11, _, rfl, p11, H12⟩ := HAll_cons H11
  obtain rfl := HAll_nil H12
  obtain rfl := p0 rfl
  obtain rfl := p2 rfl
  obtain rfl := p4 rfl
  obtain rfl := p6 rfl
  obtain rfl := p7 rfl
  obtain rfl := p8 rfl
  obtain rfl := p9 rfl
  obtain rfl := p10 rfl
  obtain rfl := p11 rfl
  clear p0 p1 p2 p3 p4 p5 p6 p7 p8 p9 p10 p11 H0 H1 H2 H3 H4 H5 H6 H7 H8 H9 H10 H11 H12
  have gw4 : Below w3.heap.size w3 w4 := bthen (by repeat (first | exact Below.refl _ _ | exact bA | assumption | refine Below.setCell ?_ (by first | omega | (simp; try omega)) _ | refine Below.alloc ?_ (by first | omega | (simp; try omega)) _ | refine Below.drew ?_ | refine bDN ?_ | refine bthen ?_ (by assumption))) hb4
  have sw4 : w3.heap.size + 0 ≤ w4.heap.size := by have := hb4.size; (try simp at this); omega
  have f37 : w4.cell? ⟨w.heap.size, 0, none⟩ = some (.int .i64 x0.1) := (gw4.cell (by first | omega | (simp; try omega))).trans f24
  have f38 : w4.cell? ⟨w.heap.size, 1, none⟩ = some (u0) := (gw4.cell (by first | omega | (simp; try omega))).trans f25
  have f39 : w4.cell? ⟨w.heap.size + 1, 0, none⟩ = some (.int .i64 x1.1) := (gw4.cell (by first | omega | (simp; try omega))).trans f26
  have f40 : w4.cell? ⟨w.heap.size + 1, 1, none⟩ = some (.int .i64 x1.2.1) := (gw4.cell (by first | omega | (simp; try omega))).trans f27
  have f41 : w4.cell? ⟨w.heap.size + 1, 2, none⟩ = some (u1) := (gw4.cell (by first | omega | (simp; try omega))).trans f28
  have f42 : w4.cell? ⟨w.heap.size + 2, 0, none⟩ = some (.int .i64 x2.1) := (gw4.cell (by first | omega | (simp; try omega))).trans f29
  have f43 : w4.cell? ⟨w.heap.size + 2, 1, none⟩ = some (.int .i64 x2.2.1) := (gw4.cell (by first | omega | (simp; try omega))).trans f30
  have f44 : w4.cell? ⟨w.heap.size + 2, 2, none⟩ = some (u2) := (gw4.cell (by first | omega | (simp; try omega))).trans f31
  have z45 : w.heap.size < w4.heap.size := by omega
  have z46 : w.heap.size + 1 < w4.heap.size := by omega
  have z47 : w.heap.size + 2 < w4.heap.size := by omega
  have hB48 : Below w.heap.size w w4 := bthen hB35 gw4
  have hB49 : Below w1.heap.size w1 w4 := bthen hB36 gw4
  have hB50 : Below w2.heap.size w2 w4 := bthen gw3 gw4
  clear hb4 f24 f25 f26 f27 f28 f29 f30 f31 hB35 hB36 gw3 z32 z33 z34
  simp only [putAll, Act.put]
  go_simp
  go_wp2_with fail
  refine (toTemplate_any _ (hx0.below (by repeat (first | exact Below.refl _ _ | exact bA | assumption | refine Below.setCell ?_ (by first | omega | (simp; try omega)) _ | refine Below.alloc ?_ (by first | omega | (simp; try omega)) _ | refine Below.drew ?_ | refine bDN ?_ | refine bthen ?_ (by assumption)))) (by first | omega | (unfold szInts; omega))).mono ?_
  rintro e w5 ⟨cs, rfl, hc51, hb5⟩
  have gw5 : Below w4.heap.size w4 w5 := bthen (by repeat (first | exact Below.refl _ _ | exact bA | assumption | refine Below.setCell ?_ (by first | omega | (simp; try omega)) _ | refine Below.alloc ?_ (by first | omega | (simp; try omega)) _ | refine Below.drew ?_ | refine bDN ?_ | refine bthen ?_ (by assumption))) hb5
  have sw5 : w4.heap.size + 0 ≤ w5.heap.size := by have := hb5.size; (try simp at this); omega
  have f52 : w5.cell? ⟨w.heap.size, 0, none⟩ = some (.int .i64 x0.1) := (gw5.cell (by first | omega | (simp; try omega))).trans f37
  have f53 : w5.cell? ⟨w.heap.size, 1, none⟩ = some (u0) := (gw5.cell (by first | omega | (simp; try omega))).trans f38
  have f54 : w5.cell? ⟨w.heap.size + 1, 0, none⟩ = some (.int .i64 x1.1) := (gw5.cell (by first | omega | (simp; try omega))).trans f39
  have f55 : w5.cell? ⟨w.heap.size + 1, 1, none⟩ = some (.int .i64 x1.2.1) := (gw5.cell (by first | omega | (simp; try omega))).trans f40
  have f56 : w5.cell? ⟨w.heap.size + 1, 2, none⟩ = some (u1) := (gw5.cell (by first | omega | (simp; try omega))).trans f41
  have f57 : w5.cell? ⟨w.heap.size + 2, 0, none⟩ = some (.int .i64 x2.1) := (gw5.cell (by first | omega | (simp; try omega))).trans f42
  have f58 : w5.cell? ⟨w.heap.size + 2, 1, none⟩ = some (.int .i64 x2.2.1) := (gw5.cell (by first | omega | (simp; try omega))).trans f43
  have f59 : w5.cell? ⟨w.heap.size + 2, 2, none⟩ = some (u2) := (gw5.cell (by first | omega | (simp; try omega))).trans f44
  have z60 : w.heap.size < w5.heap.size := by omega
  have z61 : w.heap.size + 1 < w5.heap.size := by omega
  have z62 : w.heap.size + 2 < w5.heap.size := by omega
  have hB63 : Below w.heap.size w w5 := bthen hB48 gw5
  have hB64 : Below w1.heap.size w1 w5 := bthen hB49 gw5
  have hB65 : Below w2.heap.size w2 w5 := bthen hB50 gw5
  have hB66 : Below w3.heap.size w3 w5 := bthen gw4 gw5
  clear hb5 f37 f38 f39 f40 f41 f42 f43 f44 hB48 hB49 hB50 gw4 z45 z46 z47
  obtain ⟨ad67, ad67', rfl⟩ := fr_pair hc51
  go_wp2_with fail
  refine (toFormula_any _ (hx1.below (by repeat (first | exact Below.refl _ _ | exact bA | assumption | refine Below.setCell ?_ (by first | omega | (simp; try omega)) _ | refine Below.alloc ?_ (by first | omega | (simp; try omega)) _ | refine Below.drew ?_ | refine bDN ?_ | refine bthen ?_ (by assumption)))) (by first | omega | (unfold szInts; omega))).mono ?_
  rintro e w6 ⟨cs, rfl, hc68, hb6⟩
  have gw6 : Below w5.heap.size w5 w6 := bthen (by repeat (first | exact Below.refl _ _ | exact bA | assumption | refine Below.setCell ?_ (by first | omega | (simp; try omega)) _ | refine Below.alloc ?_ (by first | omega | (simp; try omega)) _ | refine Below.drew ?_ | refine bDN ?_ | refine bthen ?_ (by assumption))) hb6
  have sw6 : w5.heap.size + 1 ≤ w6.heap.size := by have := hb6.size; (try simp at this); omega
  have f69 : w6.cell? ⟨w.heap.size, 0, none⟩ = some (.int .i64 x0.1) := (gw6.cell (by first | omega | (simp; try omega))).trans f52
  have f70 : w6.cell? ⟨w.heap.size, 1, none⟩ = some (u0) := (gw6.cell (by first | omega | (simp; try omega))).trans f53
  have f71 : w6.cell? ⟨w.heap.size + 1, 0, none⟩ = some (.int .i64 x1.1) := (gw6.cell (by first | omega | (simp; try omega))).trans f54
  have f72 : w6.cell? ⟨w.heap.size + 1, 1, none⟩ = some (.int .i64 x1.2.1) := (gw6.cell (by first | omega | (simp; try omega))).trans f55
  have f73 : w6.cell? ⟨w.heap.size + 1, 2, none⟩ = some (u1) := (gw6.cell (by first | omega | (simp; try omega))).trans f56
  have f74 : w6.cell? ⟨w.heap.size + 2, 0, none⟩ = some (.int .i64 x2.1) := (gw6.cell (by first | omega | (simp; try omega))).trans f57
  have f75 : w6.cell? ⟨w.heap.size + 2, 1, none⟩ = some (.int .i64 x2.2.1) := (gw6.cell (by first | omega | (simp; try omega))).trans f58
  have f76 : w6.cell? ⟨w.heap.size + 2, 2, none⟩ = some (u2) := (gw6.cell (by first | omega | (simp; try omega))).trans f59
  have f77 : w6.cell? ⟨w5.heap.size, 0, none⟩ = some (.int .i64 x0.1) := by rw [(bcell hb6).1 _ _ (by first | omega | (simp; try omega))]; first | (simp; done) | simp [go_sem]
  have f78 : w6.cell? ⟨w5.heap.size, 1, none⟩ = some (.slice ad67 x0.2.length ad67') := by rw [(bcell hb6).1 _ _ (by first | omega | (simp; try omega))]; first | (simp; done) | simp [go_sem]
  have z79 : w.heap.size < w6.heap.size := by omega
  have z80 : w.heap.size + 1 < w6.heap.size := by omega
  have z81 : w.heap.size + 2 < w6.heap.size := by omega
  have z82 : w5.heap.size < w6.heap.size := by omega
  have hB83 : Below w.heap.size w w6 := bthen hB63 gw6
  have hB84 : Below w1.heap.size w1 w6 := bthen hB64 gw6
  have hB85 : Below w2.heap.size w2 w6 := bthen hB65 gw6
  have hB86 : Below w3.heap.size w3 w6 := bthen hB66 gw6
  have hB87 : Below w4.heap.size w4 w6 := bthen gw5 gw6
  clear hb6 f52 f53 f54 f55 f56 f57 f58 f59 hB63 hB64 hB65 hB66 gw5 z60 z61 z62
  obtain ⟨ad88, ad88', rfl⟩ := fr_trip hc68
  go_wp2_with fail
  refine (toFormula_any _ (hx2.below (by repeat (first | exact Below.refl _ _ | exact bA | assumption | refine Below.setCell ?_ (by first | omega | (simp; try omega)) _ | refine Below.alloc ?_ (by first | omega | (simp; try omega)) _ | refine Below.drew ?_ | refine bDN ?_ | refine bthen ?_ (by assumption)))) (by first | omega | (unfold szInts; omega))).mono ?_
  rintro e w7 ⟨cs, rfl, hc89, hb7⟩
  have gw7 : Below w6.heap.size w6 w7 := bthen (by repeat (first | exact Below.refl _ _ | exact bA | assumption | refine Below.setCell ?_ (by first | omega | (simp; try omega)) _ | refine Below.alloc ?_ (by first | omega | (simp; try omega)) _ | refine Below.drew ?_ | refine bDN ?_ | refine bthen ?_ (by assumption))) hb7
  have sw7 : w6.heap.size + 1 ≤ w7.heap.size := by have := hb7.size; (try simp at this); omega
  have f90 : w7.cell? ⟨w.heap.size, 0, none⟩ = some (.int .i64 x0.1) := (gw7.cell (by first | omega | (simp; try omega))).trans f69
  have f91 : w7.cell? ⟨w.heap.size, 1, none⟩ = some (u0) := (gw7.cell (by first | omega | (simp; try omega))).trans f70
  have f92 : w7.cell? ⟨w.heap.size + 1, 0, none⟩ = some (.int .i64 x1.1) := (gw7.cell (by first | omega | (simp; try omega))).trans f71
  have f93 : w7.cell? ⟨w.heap.size + 1, 1, none⟩ = some (.int .i64 x1.2.1) := (gw7.cell (by first | omega | (simp; try omega))).trans f72
  have f94 : w7.cell? ⟨w.heap.size + 1, 2, none⟩ = some (u1) := (gw7.cell (by first | omega | (simp; try omega))).trans f73
  have f95 : w7.cell? ⟨w.heap.size + 2, 0, none⟩ = some (.int .i64 x2.1) := (gw7.cell (by first | omega | (simp; try omega))).trans f74
  have f96 : w7.cell? ⟨w.heap.size + 2, 1, none⟩ = some (.int .i64 x2.2.1) := (gw7.cell (by first | omega | (simp; try omega))).trans f75
  have f97 : w7.cell? ⟨w.heap.size + 2, 2, none⟩ = some (u2) := (gw7.cell (by first | omega | (simp; try omega))).trans f76
  have f98 : w7.cell? ⟨w5.heap.size, 0, none⟩ = some (.int .i64 x0.1) := (gw7.cell (by first | omega | (simp; try omega))).trans f77
  have f99 : w7.cell? ⟨w5.heap.size, 1, none⟩ = some (.slice ad67 x0.2.length ad67') := (gw7.cell (by first | omega | (simp; try omega))).trans f78
  have f100 : w7.cell? ⟨w6.heap.size, 0, none⟩ = some (.int .i64 x1.1) := by rw [(bcell hb7).1 _ _ (by first | omega | (simp; try omega))]; first | (simp; done) | simp [go_sem]
  have f101 : w7.cell? ⟨w6.heap.size, 1, none⟩ = some (.int .i64 x1.2.1) := by rw [(bcell hb7).1 _ _ (by first | omega | (simp; try omega))]; first | (simp; done) | simp [go_sem]
  have f102 : w7.cell? ⟨w6.heap.size, 2, none⟩ = some (.slice ad88 x1.2.2.length ad88') := by rw [(bcell hb7).1 _ _ (by first | omega | (simp; try omega))]; first | (simp; done) | simp [go_sem]
  have z103 : w.heap.size < w7.heap.size := by omega
  have z104 : w.heap.size + 1 < w7.heap.size := by omega
  have z105 : w.heap.size + 2 < w7.heap.size := by omega
  have z106 : w5.heap.size < w7.heap.size := by omega
  have z107 : w6.heap.size < w7.heap.size := by omega
  have hB108 : Below w.heap.size w w7 := bthen hB83 gw7
  have hB109 : Below w1.heap.size w1 w7 := bthen hB84 gw7
  have hB110 : Below w2.heap.size w2 w7 := bthen hB85 gw7
  have hB111 : Below w3.heap.size w3 w7 := bthen hB86 gw7
  have hB112 : Below w4.heap.size w4 w7 := bthen hB87 gw7
  have hB113 : Below w5.heap.size w5 w7 := bthen gw6 gw7
  clear hb7 f69 f70 f71 f72 f73 f74 f75 f76 f77 f78 hB83 hB84 hB85 hB86 hB87 gw6 z79 z80 z81 z82
  obtain ⟨ad114, ad114', rfl⟩ := fr_trip hc89
  go_wp2_with fail
  refine (AreEquivalent_any _ (hc51.rd.below (by repeat (first | exact Below.refl _ _ | exact bA | assumption | refine Below.setCell ?_ (by first | omega | (simp; try omega)) _ | refine Below.alloc ?_ (by first | omega | (simp; try omega)) _ | refine Below.drew ?_ | refine bDN ?_ | refine bthen ?_ (by assumption)))) (hc68.rd.below (by repeat (first | exact Below.refl _ _ | exact bA | assumption | refine Below.setCell ?_ (by first | omega | (simp; try omega)) _ | refine Below.alloc ?_ (by first | omega | (simp; try omega)) _ | refine Below.drew ?_ | refine bDN ?_ | refine bthen ?_ (by assumption)))) (hc89.rd.below (by repeat (first | exact Below.refl _ _ | exact bA | assumption | refine Below.setCell ?_ (by first | omega | (simp; try omega)) _ | refine Below.alloc ?_ (by first | omega | (simp; try omega)) _ | refine Below.drew ?_ | refine bDN ?_ | refine bthen ?_ (by assumption))))).mono ?_
  rintro e w8 ⟨rfl, hb8⟩
  have gw8 : Below w7.heap.size w7 w8 := bthen (by repeat (first | exact Below.refl _ _ | exact bA | assumption | refine Below.setCell ?_ (by first | omega | (simp; try omega)) _ | refine Below.alloc ?_ (by first | omega | (simp; try omega)) _ | refine Below.drew ?_ | refine bDN ?_ | refine bthen ?_ (by assumption))) hb8
  have sw8 : w7.heap.size + 1 ≤ w8.heap.size := by have := hb8.size; (try simp at this); omega
  have f115 : w8.cell? ⟨w.heap.size, 0, none⟩ = some (.int .i64 x0.1) := (gw8.cell (by first | omega | (simp; try omega))).trans f90
  have f116 : w8.cell? ⟨w.heap.size, 1, none⟩ = some (u0) := (gw8.cell (by first | omega | (simp; try omega))).trans f91
  have f117 : w8.cell? ⟨w.heap.size + 1, 0, none⟩ = some (.int .i64 x1.1) := (gw8.cell (by first | omega | (simp; try omega))).trans f92
  have f118 : w8.cell? ⟨w.heap.size + 1, 1, none⟩ = some (.int .i64 x1.2.1) := (gw8.cell (by first | omega | (simp; try omega))).trans f93
  have f119 : w8.cell? ⟨w.heap.size + 1, 2, none⟩ = some (u1) := (gw8.cell (by first | omega | (simp; try omega))).trans f94
  have f120 : w8.cell? ⟨w.heap.size + 2, 0, none⟩ = some (.int .i64 x2.1) := (gw8.cell (by first | omega | (simp; try omega))).trans f95
  have f121 : w8.cell? ⟨w.heap.size + 2, 1, none⟩ = some (.int .i64 x2.2.1) := (gw8.cell (by first | omega | (simp; try omega))).trans f96
  have f122 : w8.cell? ⟨w.heap.size + 2, 2, none⟩ = some (u2) := (gw8.cell (by first | omega | (simp; try omega))).trans f97
  have f123 : w8.cell? ⟨w5.heap.size, 0, none⟩ = some (.int .i64 x0.1) := (gw8.cell (by first | omega | (simp; try omega))).trans f98
  have f124 : w8.cell? ⟨w5.heap.size, 1, none⟩ = some (.slice ad67 x0.2.length ad67') := (gw8.cell (by first | omega | (simp; try omega))).trans f99
  have f125 : w8.cell? ⟨w6.heap.size, 0, none⟩ = some (.int .i64 x1.1) := (gw8.cell (by first | omega | (simp; try omega))).trans f100
  have f126 : w8.cell? ⟨w6.heap.size, 1, none⟩ = some (.int .i64 x1.2.1) := (gw8.cell (by first | omega | (simp; try omega))).trans f101
  have f127 : w8.cell? ⟨w6.heap.size, 2, none⟩ = some (.slice ad88 x1.2.2.length ad88') := (gw8.cell (by first | omega | (simp; try omega))).trans f102
  have f128 : w8.cell? ⟨w7.heap.size, 0, none⟩ = some (.int .i64 x2.1) := by rw [(bcell hb8).1 _ _ (by first | omega | (simp; try omega))]; first | (simp; done) | simp [go_sem]
  have f129 : w8.cell? ⟨w7.heap.size, 1, none⟩ = some (.int .i64 x2.2.1) := by rw [(bcell hb8).1 _ _ (by first | omega | (simp; try omega))]; first | (simp; done) | simp [go_sem]
  have f130 : w8.cell? ⟨w7.heap.size, 2, none⟩ = some (.slice ad114 x2.2.2.length ad114') := by rw [(bcell hb8).1 _ _ (by first | omega | (simp; try omega))]; first | (simp; done) | simp [go_sem]
  have z131 : w.heap.size < w8.heap.size := by omega
  have z132 : w.heap.size + 1 < w8.heap.size := by omega
  have z133 : w.heap.size + 2 < w8.heap.size := by omega
  have z134 : w5.heap.size < w8.heap.size := by omega
  have z135 : w6.heap.size < w8.heap.size := by omega
  have z136 : w7.heap.size < w8.heap.size := by omega
  have hB137 : Below w.heap.size w w8 := bthen hB108 gw8
  have hB138 : Below w1.heap.size w1 w8 := bthen hB109 gw8
  have hB139 : Below w2.heap.size w2 w8 := bthen hB110 gw8
  have hB140 : Below w3.heap.size w3 w8 := bthen hB111 gw8
  have hB141 : Below w4.heap.size w4 w8 := bthen hB112 gw8
  have hB142 : Below w5.heap.size w5 w8 := bthen hB113 gw8
  have hB143 : Below w6.heap.size w6 w8 := bthen gw7 gw8
  clear hb8 f90 f91 f92 f93 f94 f95 f96 f97 f98 f99 f100 f101 f102 hB108 hB109 hB110 hB111 hB112 hB113 gw7 z103 z104 z105 z106 z107
  go_wp2_with fail
  refine wp_region_loose [exV (.agg #[.int .i64 x0.1, .slice ad67 x0.2.length ad67']), exV (.agg #[.int .i64 x0.1, u0]), rdA tplT x0, exV (.bool true), exV (.bool false)] (by kernel_rfl) (by kernel_rfl) ⟨st_exV, st_exV, st_rdA, st_exV, st_exV, trivial⟩ ⟨?j18_0, ?j18_1, ?j18_2, ?j18_3, ?j18_4, trivial⟩ ?hQ18
  case j18_0 =>
    intro a' w' hb hd
    have e0 : a'.tmps[10]?.getD undef = .pointer (some ⟨w5.heap.size, 0, none⟩) := ev (slot_o hd 10 rfl rfl)
    have q : ∀ b o, b < w8.heap.size → w'.cell? ⟨b, o, none⟩ = w8.cell? ⟨b, o, none⟩ := (bcell hb).1
    go_simp
    exact ⟨Below.refl _ _, rfl⟩
  case j18_1 =>
    intro a' w' hb hd
    have e0 : a'.tmps[3]?.getD undef = .pointer (some ⟨w.heap.size, 0, none⟩) := ev (slot_o hd 3 rfl rfl)
    have q : ∀ b o, b < w8.heap.size → w'.cell? ⟨b, o, none⟩ = w8.cell? ⟨b, o, none⟩ := (bcell hb).1
    go_simp
    exact ⟨Below.refl _ _, rfl⟩
  case j18_2 =>
    intro a' w' hb hd
    have e62 : a'.tmps[62]?.getD undef = .agg #[.int .i64 x0.1, u0] := ev (slot_w hd 62 (exV (.agg #[.int .i64 x0.1, u0])) rfl rfl)
    have r62 : tplT.Rd w8 (#[.int .i64 x0.1, u0] : Array Value).toList x0 := hx0.below (by repeat (first | exact Below.refl _ _ | exact bA | assumption | refine Below.setCell ?_ (by first | omega | (simp; try omega)) _ | refine Below.alloc ?_ (by first | omega | (simp; try omega)) _ | refine Below.drew ?_ | refine bDN ?_ | refine bthen ?_ (by assumption)))
    have r62' := r62.below hb
    go_simp
    exact ⟨Below.refl _ _, (toTemplate_any w' r62' (by first | omega | (unfold szInts; omega))).mono fun e w'' ⟨cs, he, hf, hb⟩ => ⟨_, he, hb, cs, rfl, hf.rd⟩⟩
  case j18_3 =>
    intro a' w' hb hd
    have e61 : a'.tmps[61]?.getD undef = .agg #[.int .i64 x0.1, .slice ad67 x0.2.length ad67'] := ev (slot_w hd 61 (exV (.agg #[.int .i64 x0.1, .slice ad67 x0.2.length ad67'])) rfl rfl)
    have r61 : tplT.Rd w8 (#[.int .i64 x0.1, .slice ad67 x0.2.length ad67'] : Array Value).toList x0 := hc51.rd.below (by repeat (first | exact Below.refl _ _ | exact bA | assumption | refine Below.setCell ?_ (by first | omega | (simp; try omega)) _ | refine Below.alloc ?_ (by first | omega | (simp; try omega)) _ | refine Below.drew ?_ | refine bDN ?_ | refine bthen ?_ (by assumption)))
    have r61' := r61.below hb
    have d63 := slot_w hd 63 (rdA tplT x0) rfl rfl
    obtain ⟨cs63, e63, hf63⟩ := d63
    have e63' := ev e63
    go_simp
    exact ⟨Below.refl _ _, (eqTemplate_any w' r61' hf63).mono fun e w'' ⟨he, hb⟩ => ⟨_, he, hb, exV_eqB⟩⟩
  case j18_4 =>
    intro a' w' hb hd
    have e0 : a'.tmps[64]?.getD undef = .bool true := ev (slot_w hd 64 (exV (.bool true)) rfl rfl)
    go_simp
    exact ⟨Below.refl _ _, rfl⟩
  intro vs18 w9 hb9 H0
  obtain ⟨v18_0, _, rfl, p0, H1⟩ := HAll_cons H0
  obtain ⟨v18_1, _, rfl, p1, H2⟩ := HAll_cons H1
  obtain ⟨v18_2, _, rfl, p2, H3⟩ := HAll_cons H2
  obtain ⟨v18_3, _, rfl, p3, H4⟩ := HAll_cons H3
  obtain ⟨v18_4, _, rfl, p4, H5⟩ := HAll_cons H4
  obtain rfl := HAll_nil H5
  obtain rfl := p0 rfl
  obtain rfl := p1 rfl
  obtain rfl := p3 rfl
  obtain rfl := p4 rfl
  clear p0 p1 p2 p3 p4 H0 H1 H2 H3 H4 H5
  have gw9 : Below w8.heap.size w8 w9 := bthen (by repeat (first | exact Below.refl _ _ | exact bA | assumption | refine Below.setCell ?_ (by first | omega | (simp; try omega)) _ | refine Below.alloc ?_ (by first | omega | (simp; try omega)) _ | refine Below.drew ?_ | refine bDN ?_ | refine bthen ?_ (by assumption))) hb9
  have sw9 : w8.heap.size + 0 ≤ w9.heap.size := by have := hb9.size; (try simp at this); omega
  have f144 : w9.cell? ⟨w.heap.size, 0, none⟩ = some (.int .i64 x0.1) := (gw9.cell (by first | omega | (simp; try omega))).trans f115
  have f145 : w9.cell? ⟨w.heap.size, 1, none⟩ = some (u0) := (gw9.cell (by first | omega | (simp; try omega))).trans f116
  have f146 : w9.cell? ⟨w.heap.size + 1, 0, none⟩ = some (.int .i64 x1.1) := (gw9.cell (by first | omega | (simp; try omega))).trans f117
  have f147 : w9.cell? ⟨w.heap.size + 1, 1, none⟩ = some (.int .i64 x1.2.1) := (gw9.cell (by first | omega | (simp; try omega))).trans f118
  have f148 : w9.cell? ⟨w.heap.size + 1, 2, none⟩ = some (u1) := (gw9.cell (by first | omega | (simp; try omega))).trans f119
  have f149 : w9.cell? ⟨w.heap.size + 2, 0, none⟩ = some (.int .i64 x2.1) := (gw9.cell (by first | omega | (simp; try omega))).trans f120
  have f150 : w9.cell? ⟨w.heap.size + 2, 1, none⟩ = some (.int .i64 x2.2.1) := (gw9.cell (by first | omega | (simp; try omega))).trans f121
  have f151 : w9.cell? ⟨w.heap.size + 2, 2, none⟩ = some (u2) := (gw9.cell (by first | omega | (simp; try omega))).trans f122
  have f152 : w9.cell? ⟨w5.heap.size, 0, none⟩ = some (.int .i64 x0.1) := (gw9.cell (by first | omega | (simp; try omega))).trans f123
  have f153 : w9.cell? ⟨w5.heap.size, 1, none⟩ = some (.slice ad67 x0.2.length ad67') := (gw9.cell (by first | omega | (simp; try omega))).trans f124
  have f154 : w9.cell? ⟨w6.heap.size, 0, none⟩ = some (.int .i64 x1.1) := (gw9.cell (by first | omega | (simp; try omega))).trans f125
  have f155 : w9.cell? ⟨w6.heap.size, 1, none⟩ = some (.int .i64 x1.2.1) := (gw9.cell (by first | omega | (simp; try omega))).trans f126
  have f156 : w9.cell? ⟨w6.heap.size, 2, none⟩ = some (.slice ad88 x1.2.2.length ad88') := (gw9.cell (by first | omega | (simp; try omega))).trans f127
  have f157 : w9.cell? ⟨w7.heap.size, 0, none⟩ = some (.int .i64 x2.1) := (gw9.cell (by first | omega | (simp; try omega))).trans f128
  have f158 : w9.cell? ⟨w7.heap.size, 1, none⟩ = some (.int .i64 x2.2.1) := (gw9.cell (by first | omega | (simp; try omega))).trans f129
  have f159 : w9.cell? ⟨w7.heap.size, 2, none⟩ = some (.slice ad114 x2.2.2.length ad114') := (gw9.cell (by first | omega | (simp; try omega))).trans f130
  have z160 : w.heap.size < w9.heap.size := by omega
  have z161 : w.heap.size + 1 < w9.heap.size := by omega
  have z162 : w.heap.size + 2 < w9.heap.size := by omega
  have z163 : w5.heap.size < w9.heap.size := by omega
  have z164 : w6.heap.size < w9.heap.size := by omega
  have z165 : w7.heap.size < w9.heap.size := by omega
  have hB166 : Below w.heap.size w w9 := bthen hB137 gw9
  have hB167 : Below w1.heap.size w1 w9 := bthen hB138 gw9
  have hB168 : Below w2.heap.size w2 w9 := bthen hB139 gw9
  have hB169 : Below w3.heap.size w3 w9 := bthen hB140 gw9
  have hB170 : Below w4.heap.size w4 w9 := bthen hB141 gw9
  have hB171 : Below w5.heap.size w5 w9 := bthen hB142 gw9
  have hB172 : Below w6.heap.size w6 w9 := bthen hB143 gw9
  have hB173 : Below w7.heap.size w7 w9 := bthen gw8 gw9
  clear hb9 f115 f116 f117 f118 f119 f120 f121 f122 f123 f124 f125 f126 f127 f128 f129 f130 hB137 hB138 hB139 hB140 hB141 hB142 hB143 gw8 z131 z132 z133 z134 z135 z136
  simp only [putAll, Act.put]
  go_simp
  go_wp2_with fail
  refine wp_region_loose [exV (.agg #[.int .i64 x1.1, .int .i64 x1.2.1, .slice ad88 x1.2.2.length ad88']), exV (.agg #[.int .i64 x1.1, .int .i64 x1.2.1, u1]), rdA frmT x1, exV (.bool true), exV (.bool false)] (by kernel_rfl) (by kernel_rfl) ⟨st_exV, st_exV, st_rdA, st_exV, st_exV, trivial⟩ ⟨?j20_0, ?j20_1, ?j20_2, ?j20_3, ?j20_4, trivial⟩ ?hQ20
  case j20_0 =>
    intro a' w' hb hd
    have e0 : a'.tmps[11]?.getD undef = .pointer (some ⟨w6.heap.size, 0, none⟩) := ev (slot_o hd 11 rfl rfl)
    have q : ∀ b o, b < w9.heap.size → w'.cell? ⟨b, o, none⟩ = w9.cell? ⟨b, o, none⟩ := (bcell hb).1
    go_simp
    exact ⟨Below.refl _ _, rfl⟩
  case j20_1 =>
    intro a' w' hb hd
    have e0 : a'.tmps[4]?.getD undef = .pointer (some ⟨w.heap.size + 1, 0, none⟩) := ev (slot_o hd 4 rfl rfl)
    have q : ∀ b o, b < w9.heap.size → w'.cell? ⟨b, o, none⟩ = w9.cell? ⟨b, o, none⟩ := (bcell hb).1
    go_simp
    exact ⟨Below.refl _ _, rfl⟩
  case j20_2 =>
    intro a' w' hb hd
    have e67 : a'.tmps[67]?.getD undef = .agg #[.int .i64 x1.1, .int .i64 x1.2.1, u1] := ev (slot_w hd 67 (exV (.agg #[.int .i64 x1.1, .int .i64 x1.2.1, u1])) rfl rfl)
    have r67 : frmT.Rd w9 (#[.int .i64 x1.1, .int .i64 x1.2.1, u1] : Array Value).toList x1 := hx1.below (by repeat (first | exact Below.refl _ _ | exact bA | assumption | refine Below.setCell ?_ (by first | omega | (simp; try omega)) _ | refine Below.alloc ?_ (by first | omega | (simp; try omega)) _ | refine Below.drew ?_ | refine bDN ?_ | refine bthen ?_ (by assumption)))
    have r67' := r67.below hb
    go_simp
    exact ⟨Below.refl _ _, (toFormula_any w' r67' (by first | omega | (unfold szInts; omega))).mono fun e w'' ⟨cs, he, hf, hb⟩ => ⟨_, he, hb, cs, rfl, hf.rd⟩⟩
  case j20_3 =>
    intro a' w' hb hd
    have e66 : a'.tmps[66]?.getD undef = .agg #[.int .i64 x1.1, .int .i64 x1.2.1, .slice ad88 x1.2.2.length ad88'] := ev (slot_w hd 66 (exV (.agg #[.int .i64 x1.1, .int .i64 x1.2.1, .slice ad88 x1.2.2.length ad88'])) rfl rfl)
    have r66 : frmT.Rd w9 (#[.int .i64 x1.1, .int .i64 x1.2.1, .slice ad88 x1.2.2.length ad88'] : Array Value).toList x1 := hc68.rd.below (by repeat (first | exact Below.refl _ _ | exact bA | assumption | refine Below.setCell ?_ (by first | omega | (simp; try omega)) _ | refine Below.alloc ?_ (by first | omega | (simp; try omega)) _ | refine Below.drew ?_ | refine bDN ?_ | refine bthen ?_ (by assumption)))
    have r66' := r66.below hb
    have d68 := slot_w hd 68 (rdA frmT x1) rfl rfl
    obtain ⟨cs68, e68, hf68⟩ := d68
    have e68' := ev e68
    go_simp
    exact ⟨Below.refl _ _, (eqFormula_any w' r66' hf68).mono fun e w'' ⟨he, hb⟩ => ⟨_, he, hb, exV_eqB⟩⟩
  case j20_4 =>
    intro a' w' hb hd
    have e0 : a'.tmps[69]?.getD undef = .bool true := ev (slot_w hd 69 (exV (.bool true)) rfl rfl)
    go_simp
    exact ⟨Below.refl _ _, rfl⟩
  intro vs20 w10 hb10 H0
  obtain ⟨v20_0, _, rfl, p0, H1⟩ := HAll_cons H0
  obtain ⟨v20_1, _, rfl, p1, H2⟩ := HAll_cons H1
  obtain ⟨v20_2, _, rfl, p2, H3⟩ := HAll_cons H2
  obtain ⟨v20_3, _, rfl, p3, H4⟩ := HAll_cons H3
  obtain ⟨v20_4, _, rfl, p4, H5⟩ := HAll_cons H4
  obtain rfl := HAll_nil H5
  obtain rfl := p0 rfl
  obtain rfl := p1 rfl
  obtain rfl := p3 rfl
  obtain rfl := p4 rfl
  clear p0 p1 p2 p3 p4 H0 H1 H2 H3 H4 H5
  have gw10 : Below w9.heap.size w9 w10 := bthen (by repeat (first | exact Below.refl _ _ | exact bA | assumption | refine Below.setCell ?_ (by first | omega | (simp; try omega)) _ | refine Below.alloc ?_ (by first | omega | (simp; try omega)) _ | refine Below.drew ?_ | refine bDN ?_ | refine bthen ?_ (by assumption))) hb10
  have sw10 : w9.heap.size + 0 ≤ w10.heap.size := by have := hb10.size; (try simp at this); omega
  have f174 : w10.cell? ⟨w.heap.size, 0, none⟩ = some (.int .i64 x0.1) := (gw10.cell (by first | omega | (simp; try omega))).trans f144
  have f175 : w10.cell? ⟨w.heap.size, 1, none⟩ = some (u0) := (gw10.cell (by first | omega | (simp; try omega))).trans f145
  have f176 : w10.cell? ⟨w.heap.size + 1, 0, none⟩ = some (.int .i64 x1.1) := (gw10.cell (by first | omega | (simp; try omega))).trans f146
  have f177 : w10.cell? ⟨w.heap.size + 1, 1, none⟩ = some (.int .i64 x1.2.1) := (gw10.cell (by first | omega | (simp; try omega))).trans f147
  have f178 : w10.cell? ⟨w.heap.size + 1, 2, none⟩ = some (u1) := (gw10.cell (by first | omega | (simp; try omega))).trans f148
  have f179 : w10.cell? ⟨w.heap.size + 2, 0, none⟩ = some (.int .i64 x2.1) := (gw10.cell (by first | omega | (simp; try omega))).trans f149
  have f180 : w10.cell? ⟨w.heap.size + 2, 1, none⟩ = some (.int .i64 x2.2.1) := (gw10.cell (by first | omega | (simp; try omega))).trans f150
  have f181 : w10.cell? ⟨w.heap.size + 2, 2, none⟩ = some (u2) := (gw10.cell (by first | omega | (simp; try omega))).trans f151
  have f182 : w10.cell? ⟨w5.heap.size, 0, none⟩ = some (.int .i64 x0.1) := (gw10.cell (by first | omega | (simp; try omega))).trans f152
  have f183 : w10.cell? ⟨w5.heap.size, 1, none⟩ = some (.slice ad67 x0.2.length ad67') := (gw10.cell (by first | omega | (simp; try omega))).trans f153
  have f184 : w10.cell? ⟨w6.heap.size, 0, none⟩ = some (.int .i64 x1.1) := (gw10.cell (by first | omega | (simp; try omega))).trans f154
  have f185 : w10.cell? ⟨w6.heap.size, 1, none⟩ = some (.int .i64 x1.2.1) := (gw10.cell (by first | omega | (simp; try omega))).trans f155
  have f186 : w10.cell? ⟨w6.heap.size, 2, none⟩ = some (.slice ad88 x1.2.2.length ad88') := (gw10.cell (by first | omega | (simp; try omega))).trans f156
  have f187 : w10.cell? ⟨w7.heap.size, 0, none⟩ = some (.int .i64 x2.1) := (gw10.cell (by first | omega | (simp; try omega))).trans f157
  have f188 : w10.cell? ⟨w7.heap.size, 1, none⟩ = some (.int .i64 x2.2.1) := (gw10.cell (by first | omega | (simp; try omega))).trans f158
  have f189 : w10.cell? ⟨w7.heap.size, 2, none⟩ = some (.slice ad114 x2.2.2.length ad114') := (gw10.cell (by first | omega | (simp; try omega))).trans f159
  have z190 : w.heap.size < w10.heap.size := by omega
  have z191 : w.heap.size + 1 < w10.heap.size := by omega
  have z192 : w.heap.size + 2 < w10.heap.size := by omega
  have z193 : w5.heap.size < w10.heap.size := by omega
  have z194 : w6.heap.size < w10.heap.size := by omega
  have z195 : w7.heap.size < w10.heap.size := by omega
  have hB196 : Below w.heap.size w w10 := bthen hB166 gw10
  have hB197 : Below w1.heap.size w1 w10 := bthen hB167 gw10
  have hB198 : Below w2.heap.size w2 w10 := bthen hB168 gw10
  have hB199 : Below w3.heap.size w3 w10 := bthen hB169 gw10
  have hB200 : Below w4.heap.size w4 w10 := bthen hB170 gw10
  have hB201 : Below w5.heap.size w5 w10 := bthen hB171 gw10
  have hB202 : Below w6.heap.size w6 w10 := bthen hB172 gw10
  have hB203 : Below w7.heap.size w7 w10 := bthen hB173 gw10
  have hB204 : Below w8.heap.size w8 w10 := bthen gw9 gw10
  clear hb10 f144 f145 f146 f147 f148 f149 f150 f151 f152 f153 f154 f155 f156 f157 f158 f159 hB166 hB167 hB168 hB169 hB170 hB171 hB172 hB173 gw9 z160 z161 z162 z163 z164 z165
  simp only [putAll, Act.put]
  go_simp
  go_wp2_with fail
  refine wp_region_loose [exV (.agg #[.int .i64 x2.1, .int .i64 x2.2.1, .slice ad114 x2.2.2.length ad114']), exV (.agg #[.int .i64 x2.1, .int .i64 x2.2.1, u2]), rdA frmT x2, exV (.bool true), exV (.bool false)] (by kernel_rfl) (by kernel_rfl) ⟨st_exV, st_exV, st_rdA, st_exV, st_exV, trivial⟩ ⟨?j22_0, ?j22_1, ?j22_2, ?j22_3, ?j22_4, trivial⟩ ?hQ22
  case j22_0 =>
    intro a' w' hb hd
    have e0 : a'.tmps[12]?.getD undef = .pointer (some ⟨w7.heap.size, 0, none⟩) := ev (slot_o hd 12 rfl rfl)
    have q : ∀ b o, b < w10.heap.size → w'.cell? ⟨b, o, none⟩ = w10.cell? ⟨b, o, none⟩ := (bcell hb).1
    go_simp
    exact ⟨Below.refl _ _, rfl⟩
  case j22_1 =>
    intro a' w' hb hd
    have e0 : a'.tmps[5]?.getD undef = .pointer (some ⟨w.heap.size + 2, 0, none⟩) := ev (slot_o hd 5 rfl rfl)
    have q : ∀ b o, b < w10.heap.size → w'.cell? ⟨b, o, none⟩ = w10.cell? ⟨b, o, none⟩ := (bcell hb).1
    go_simp
    exact ⟨Below.refl _ _, rfl⟩
  case j22_2 =>
    intro a' w' hb hd
    have e72 : a'.tmps[72]?.getD undef = .agg #[.int .i64 x2.1, .int .i64 x2.2.1, u2] := ev (slot_w hd 72 (exV (.agg #[.int .i64 x2.1, .int .i64 x2.2.1, u2])) rfl rfl)
    have r72 : frmT.Rd w10 (#[.int .i64 x2.1, .int .i64 x2.2.1, u2] : Array Value).toList x2 := hx2.below (by repeat (first | exact Below.refl _ _ | exact bA | assumption | refine Below.setCell ?_ (by first | omega | (simp; try omega)) _ | refine Below.alloc ?_ (by first | omega | (simp; try omega)) _ | refine Below.drew ?_ | refine bDN ?_ | refine bthen ?_ (by assumption)))
    have r72' := r72.below hb
    go_simp
    exact ⟨Below.refl _ _, (toFormula_any w' r72' (by first | omega | (unfold szInts; omega))).mono fun e w'' ⟨cs, he, hf, hb⟩ => ⟨_, he, hb, cs, rfl, hf.rd⟩⟩
  case j22_3 =>
    intro a' w' hb hd
    have e71 : a'.tmps[71]?.getD undef = .agg #[.int .i64 x2.1, .int .i64 x2.2.1, .slice ad114 x2.2.2.length ad114'] := ev (slot_w hd 71 (exV (.agg #[.int .i64 x2.1, .int .i64 x2.2.1, .slice ad114 x2.2.2.length ad114'])) rfl rfl)
    have r71 : frmT.Rd w10 (#[.int .i64 x2.1, .int .i64 x2.2.1, .slice ad114 x2.2.2.length ad114'] : Array Value).toList x2 := hc89.rd.below (by repeat (first | exact Below.refl _ _ | exact bA | assumption | refine Below.setCell ?_ (by first | omega | (simp; try omega)) _ | refine Below.alloc ?_ (by first | omega | (simp; try omega)) _ | refine Below.drew ?_ | refine bDN ?_ | refine bthen ?_ (by assumption)))
    have r71' := r71.below hb
    have d73 := slot_w hd 73 (rdA frmT x2) rfl rfl
    obtain ⟨cs73, e73, hf73⟩ := d73
    have e73' := ev e73
    go_simp
    exact ⟨Below.refl _ _, (eqFormula_any w' r71' hf73).mono fun e w'' ⟨he, hb⟩ => ⟨_, he, hb, exV_eqB⟩⟩
  case j22_4 =>
    intro a' w' hb hd
    have e0 : a'.tmps[74]?.getD undef = .bool true := ev (slot_w hd 74 (exV (.bool true)) rfl rfl)
    go_simp
    exact ⟨Below.refl _ _, rfl⟩
  intro vs22 w11 hb11 H0
  obtain ⟨v22_0, _, rfl, p0, H1⟩ := HAll_cons H0
  obtain ⟨v22_1, _, rfl, p1, H2⟩ := HAll_cons H1
  obtain ⟨v22_2, _, rfl, p2, H3⟩ := HAll_cons H2
  obtain ⟨v22_3, _, rfl, p3, H4⟩ := HAll_cons H3
  obtain ⟨v22_4, _, rfl, p4, H5⟩ := HAll_cons H4
  obtain rfl := HAll_nil H5
  obtain rfl := p0 rfl
  obtain rfl := p1 rfl
  obtain rfl := p3 rfl
  obtain rfl := p4 rfl
  clear p0 p1 p2 p3 p4 H0 H1 H2 H3 H4 H5
  have gw11 : Below w10.heap.size w10 w11 := bthen (by repeat (first | exact Below.refl _ _ | exact bA | assumption | refine Below.setCell ?_ (by first | omega | (simp; try omega)) _ | refine Below.alloc ?_ (by first | omega | (simp; try omega)) _ | refine Below.drew ?_ | refine bDN ?_ | refine bthen ?_ (by assumption))) hb11
  have sw11 : w10.heap.size + 0 ≤ w11.heap.size := by have := hb11.size; (try simp at this); omega
  have f205 : w11.cell? ⟨w.heap.size, 0, none⟩ = some (.int .i64 x0.1) := (gw11.cell (by first | omega | (simp; try omega))).trans f174
  have f206 : w11.cell? ⟨w.heap.size, 1, none⟩ = some (u0) := (gw11.cell (by first | omega | (simp; try omega))).trans f175
  have f207 : w11.cell? ⟨w.heap.size + 1, 0, none⟩ = some (.int .i64 x1.1) := (gw11.cell (by first | omega | (simp; try omega))).trans f176
  have f208 : w11.cell? ⟨w.heap.size + 1, 1, none⟩ = some (.int .i64 x1.2.1) := (gw11.cell (by first | omega | (simp; try omega))).trans f177
  have f209 : w11.cell? ⟨w.heap.size + 1, 2, none⟩ = some (u1) := (gw11.cell (by first | omega | (simp; try omega))).trans f178
  have f210 : w11.cell? ⟨w.heap.size + 2, 0, none⟩ = some (.int .i64 x2.1) := (gw11.cell (by first | omega | (simp; try omega))).trans f179
  have f211 : w11.cell? ⟨w.heap.size + 2, 1, none⟩ = some (.int .i64 x2.2.1) := (gw11.cell (by first | omega | (simp; try omega))).trans f180
  have f212 : w11.cell? ⟨w.heap.size + 2, 2, none⟩ = some (u2) := (gw11.cell (by first | omega | (simp; try omega))).trans f181
  have f213 : w11.cell? ⟨w5.heap.size, 0, none⟩ = some (.int .i64 x0.1) := (gw11.cell (by first | omega | (simp; try omega))).trans f182
  have f214 : w11.cell? ⟨w5.heap.size, 1, none⟩ = some (.slice ad67 x0.2.length ad67') := (gw11.cell (by first | omega | (simp; try omega))).trans f183
  have f215 : w11.cell? ⟨w6.heap.size, 0, none⟩ = some (.int .i64 x1.1) := (gw11.cell (by first | omega | (simp; try omega))).trans f184
  have f216 : w11.cell? ⟨w6.heap.size, 1, none⟩ = some (.int .i64 x1.2.1) := (gw11.cell (by first | omega | (simp; try omega))).trans f185
  have f217 : w11.cell? ⟨w6.heap.size, 2, none⟩ = some (.slice ad88 x1.2.2.length ad88') := (gw11.cell (by first | omega | (simp; try omega))).trans f186
  have f218 : w11.cell? ⟨w7.heap.size, 0, none⟩ = some (.int .i64 x2.1) := (gw11.cell (by first | omega | (simp; try omega))).trans f187
  have f219 : w11.cell? ⟨w7.heap.size, 1, none⟩ = some (.int .i64 x2.2.1) := (gw11.cell (by first | omega | (simp; try omega))).trans f188
  have f220 : w11.cell? ⟨w7.heap.size, 2, none⟩ = some (.slice ad114 x2.2.2.length ad114') := (gw11.cell (by first | omega | (simp; try omega))).trans f189
  have z221 : w.heap.size < w11.heap.size := by omega
  have z222 : w.heap.size + 1 < w11.heap.size := by omega
  have z223 : w.heap.size + 2 < w11.heap.size := by omega
  have z224 : w5.heap.size < w11.heap.size := by omega
  have z225 : w6.heap.size < w11.heap.size := by omega
  have z226 : w7.heap.size < w11.heap.size := by omega
  have hB227 : Below w.heap.size w w11 := bthen hB196 gw11
  have hB228 : Below w1.heap.size w1 w11 := bthen hB197 gw11
  have hB229 : Below w2.heap.size w2 w11 := bthen hB198 gw11
  have hB230 : Below w3.heap.size w3 w11 := bthen hB199 gw11
  have hB231 : Below w4.heap.size w4 w11 := bthen hB200 gw11
  have hB232 : Below w5.heap.size w5 w11 := bthen hB201 gw11
  have hB233 : Below w6.heap.size w6 w11 := bthen hB202 gw11
  have hB234 : Below w7.heap.size w7 w11 := bthen hB203 gw11
  have hB235 : Below w8.heap.size w8 w11 := bthen hB204 gw11
  have hB236 : Below w9.heap.size w9 w11 := bthen gw10 gw11
  clear hb11 f174 f175 f176 f177 f178 f179 f180 f181 f182 f183 f184 f185 f186 f187 f188 f189 hB196 hB197 hB198 hB199 hB200 hB201 hB202 hB203 hB204 gw10 z190 z191 z192 z193 z194 z195
  simp only [putAll, Act.put]
  go_simp
  go_wp2_with fail
  go_ret
  exact ⟨rfl, (by repeat (first | exact Below.refl _ _ | exact bA | assumption | refine Below.setCell ?_ (by first | omega | (simp; try omega)) _ | refine Below.alloc ?_ (by first | omega | (simp; try omega)) _ | refine Below.drew ?_ | refine bDN ?_ | refine bthen ?_ (by assumption)))⟩
end Go.Proofs.Ytbpjejhjlmpcjaa
