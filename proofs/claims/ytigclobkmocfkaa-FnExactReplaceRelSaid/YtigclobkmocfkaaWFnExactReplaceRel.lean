/-
  The law FnExactReplaceRel, walked: its contract.
-/
import Derived.Test.YtigclobkmocfkaaK39
import Derived.Test.YtigclobkmocfkaaKM
import Derived.Test.YtigclobkmocfkaaKT
import Derived.Test.YtigclobkmocfkaaLoose2
namespace Go.Proofs.Ytigclobkmocfkaa
open Go.RowKit Go.Sort
set_option maxHeartbeats 6400000 in
set_option maxRecDepth 100000 in
theorem fnExactReplaceRel_any (w : World) {c0 : Array Value} {x0 : Int × List (Int × List (List Int))} (h0 : tplT.Rd w c0.toList x0) {c1 : Array Value} {x1 : Int × Int × List (Int × List Int)} (h1 : frmT.Rd w c1.toList x1) {n2 : Int} (_h2 : I64 n2) {c3 : Array Value} {x3 : Int × Int × List (Int × List Int)} (h3 : frmT.Rd w c3.toList x3) :
    Calls Try.prog 8 #[.agg c0, .agg c1, .int .i64 n2, .agg c3] w fun e w' => e = .returned (.bool true) ∧ Below w.heap.size w w' := by
  have hx0 := h0
  obtain ⟨u0, hv0, -, hy0⟩ := pair_ex h0
  obtain rfl := agg_of hv0
  clear hv0 h0
  have hn0 := szTpl_nn x0
  have hcn0 : cntTpl x0 ≤ szTpl x0 := cntRels_sz x0.2
  have hcz0 : 0 ≤ cntTpl x0 := cntRels_nn x0.2
  have hx1 := h1
  obtain ⟨u1, hv1, -, -, hy1⟩ := trip_ex h1
  obtain rfl := agg_of hv1
  clear hv1 h1
  have hn1 := szFrm_nn x1
  have hcn1 : cntFrm x1 ≤ szFrm x1 := cntOps_sz x1.2.2
  have hcz1 : 0 ≤ cntFrm x1 := cntOps_nn x1.2.2
  have hx3 := h3
  obtain ⟨u3, hv3, -, -, hy3⟩ := trip_ex h3
  obtain rfl := agg_of hv3
  clear hv3 h3
  have hn3 := szFrm_nn x3
  have hcn3 : cntFrm x3 ≤ szFrm x3 := cntOps_sz x3.2.2
  have hcz3 : 0 ≤ cntFrm x3 := cntOps_nn x3.2.2
  have H_w : Below w.heap.size w w := Below.refl _ _
  go_enter Try.func8, Try.ntmps8
  go_wp2_with fail
  refine (szTemplate_any _ (hx0.below (by repeat (first | exact Below.refl _ _ | exact bA | assumption | refine Below.setCell ?_ (by first | omega | (simp; try omega)) _ | refine Below.alloc ?_ (by first | omega | (simp; try omega)) _ | refine Below.drew ?_ | refine bDN ?_ | refine bthen ?_ (by assumption)))) _ (by omega) (by omega)).mono ?_
  rintro e w1 ⟨rfl, hb1⟩
  have gw1 : Below w.heap.size w w1 := bthen (by repeat (first | exact Below.refl _ _ | exact bA | assumption | refine Below.setCell ?_ (by first | omega | (simp; try omega)) _ | refine Below.alloc ?_ (by first | omega | (simp; try omega)) _ | refine Below.drew ?_ | refine bDN ?_ | refine bthen ?_ (by assumption))) hb1
  have sw1 : w.heap.size + 3 ≤ w1.heap.size := by have := hb1.size; (try simp at this); omega
  have H_w1 : Below w.heap.size w w1 := bthen H_w gw1
  have f1 : w1.cell? ⟨w.heap.size, 0, none⟩ = some (.int .i64 x0.1) := by rw [(bcell hb1).1 _ _ (by first | omega | (simp; try omega))]; first | (simp; done) | simp [go_sem]
  have f2 : w1.cell? ⟨w.heap.size, 1, none⟩ = some (u0) := by rw [(bcell hb1).1 _ _ (by first | omega | (simp; try omega))]; first | (simp; done) | simp [go_sem]
  have f3 : w1.cell? ⟨w.heap.size + 1, 0, none⟩ = some (.int .i64 x1.1) := by rw [(bcell hb1).1 _ _ (by first | omega | (simp; try omega))]; first | (simp; done) | simp [go_sem]
  have f4 : w1.cell? ⟨w.heap.size + 1, 1, none⟩ = some (.int .i64 x1.2.1) := by rw [(bcell hb1).1 _ _ (by first | omega | (simp; try omega))]; first | (simp; done) | simp [go_sem]
  have f5 : w1.cell? ⟨w.heap.size + 1, 2, none⟩ = some (u1) := by rw [(bcell hb1).1 _ _ (by first | omega | (simp; try omega))]; first | (simp; done) | simp [go_sem]
  have f6 : w1.cell? ⟨w.heap.size + 2, 0, none⟩ = some (.int .i64 x3.1) := by rw [(bcell hb1).1 _ _ (by first | omega | (simp; try omega))]; first | (simp; done) | simp [go_sem]
  have f7 : w1.cell? ⟨w.heap.size + 2, 1, none⟩ = some (.int .i64 x3.2.1) := by rw [(bcell hb1).1 _ _ (by first | omega | (simp; try omega))]; first | (simp; done) | simp [go_sem]
  have f8 : w1.cell? ⟨w.heap.size + 2, 2, none⟩ = some (u3) := by rw [(bcell hb1).1 _ _ (by first | omega | (simp; try omega))]; first | (simp; done) | simp [go_sem]
  have z9 : w.heap.size < w1.heap.size := by omega
  have z10 : w.heap.size + 1 < w1.heap.size := by omega
  have z11 : w.heap.size + 2 < w1.heap.size := by omega
  clear hb1 gw1
  rcases ilt 1048576 (szTpl x0) with hl2 | hl2
  · rw [szR_lt hl2]
    go_wp2_with fail
    go_ret
    exact ⟨rfl, (by repeat (first | exact Below.refl _ _ | exact bA | assumption | refine Below.setCell ?_ (by first | omega | (simp; try omega)) _ | refine Below.alloc ?_ (by first | omega | (simp; try omega)) _ | refine Below.drew ?_ | refine bDN ?_ | refine bthen ?_ (by assumption)))⟩
  rw [szR_ge hl2]
  go_wp2_with fail
  refine (szFormula_any _ (hx1.below (by repeat (first | exact Below.refl _ _ | exact bA | assumption | refine Below.setCell ?_ (by first | omega | (simp; try omega)) _ | refine Below.alloc ?_ (by first | omega | (simp; try omega)) _ | refine Below.drew ?_ | refine bDN ?_ | refine bthen ?_ (by assumption)))) _ (by omega) (by omega)).mono ?_
  rintro e w2 ⟨rfl, hb2⟩
  have gw2 : Below w1.heap.size w1 w2 := bthen (by repeat (first | exact Below.refl _ _ | exact bA | assumption | refine Below.setCell ?_ (by first | omega | (simp; try omega)) _ | refine Below.alloc ?_ (by first | omega | (simp; try omega)) _ | refine Below.drew ?_ | refine bDN ?_ | refine bthen ?_ (by assumption))) hb2
  have sw2 : w1.heap.size + 0 ≤ w2.heap.size := by have := hb2.size; (try simp at this); omega
  have H_w2 : Below w.heap.size w w2 := bthen H_w1 gw2
  have f12 : w2.cell? ⟨w.heap.size, 0, none⟩ = some (.int .i64 x0.1) := (gw2.cell (by first | omega | (simp; try omega))).trans f1
  have f13 : w2.cell? ⟨w.heap.size, 1, none⟩ = some (u0) := (gw2.cell (by first | omega | (simp; try omega))).trans f2
  have f14 : w2.cell? ⟨w.heap.size + 1, 0, none⟩ = some (.int .i64 x1.1) := (gw2.cell (by first | omega | (simp; try omega))).trans f3
  have f15 : w2.cell? ⟨w.heap.size + 1, 1, none⟩ = some (.int .i64 x1.2.1) := (gw2.cell (by first | omega | (simp; try omega))).trans f4
  have f16 : w2.cell? ⟨w.heap.size + 1, 2, none⟩ = some (u1) := (gw2.cell (by first | omega | (simp; try omega))).trans f5
  have f17 : w2.cell? ⟨w.heap.size + 2, 0, none⟩ = some (.int .i64 x3.1) := (gw2.cell (by first | omega | (simp; try omega))).trans f6
  have f18 : w2.cell? ⟨w.heap.size + 2, 1, none⟩ = some (.int .i64 x3.2.1) := (gw2.cell (by first | omega | (simp; try omega))).trans f7
  have f19 : w2.cell? ⟨w.heap.size + 2, 2, none⟩ = some (u3) := (gw2.cell (by first | omega | (simp; try omega))).trans f8
  have z20 : w.heap.size < w2.heap.size := by omega
  have z21 : w.heap.size + 1 < w2.heap.size := by omega
  have z22 : w.heap.size + 2 < w2.heap.size := by omega
  clear hb2 H_w1 f1 f2 f3 f4 f5 f6 f7 f8 z9 z10 z11 gw2
  rcases ilt (1048576 - szTpl x0) (szFrm x1) with hl5 | hl5
  · rw [szR_lt hl5]
    go_wp2_with fail
    go_ret
    exact ⟨rfl, (by repeat (first | exact Below.refl _ _ | exact bA | assumption | refine Below.setCell ?_ (by first | omega | (simp; try omega)) _ | refine Below.alloc ?_ (by first | omega | (simp; try omega)) _ | refine Below.drew ?_ | refine bDN ?_ | refine bthen ?_ (by assumption)))⟩
  rw [szR_ge hl5]
  go_wp2_with fail
  refine (szFormula_any _ (hx3.below (by repeat (first | exact Below.refl _ _ | exact bA | assumption | refine Below.setCell ?_ (by first | omega | (simp; try omega)) _ | refine Below.alloc ?_ (by first | omega | (simp; try omega)) _ | refine Below.drew ?_ | refine bDN ?_ | refine bthen ?_ (by assumption)))) _ (by omega) (by omega)).mono ?_
  rintro e w3 ⟨rfl, hb3⟩
  have gw3 : Below w2.heap.size w2 w3 := bthen (by repeat (first | exact Below.refl _ _ | exact bA | assumption | refine Below.setCell ?_ (by first | omega | (simp; try omega)) _ | refine Below.alloc ?_ (by first | omega | (simp; try omega)) _ | refine Below.drew ?_ | refine bDN ?_ | refine bthen ?_ (by assumption))) hb3
  have sw3 : w2.heap.size + 0 ≤ w3.heap.size := by have := hb3.size; (try simp at this); omega
  have H_w3 : Below w.heap.size w w3 := bthen H_w2 gw3
  have f23 : w3.cell? ⟨w.heap.size, 0, none⟩ = some (.int .i64 x0.1) := (gw3.cell (by first | omega | (simp; try omega))).trans f12
  have f24 : w3.cell? ⟨w.heap.size, 1, none⟩ = some (u0) := (gw3.cell (by first | omega | (simp; try omega))).trans f13
  have f25 : w3.cell? ⟨w.heap.size + 1, 0, none⟩ = some (.int .i64 x1.1) := (gw3.cell (by first | omega | (simp; try omega))).trans f14
  have f26 : w3.cell? ⟨w.heap.size + 1, 1, none⟩ = some (.int .i64 x1.2.1) := (gw3.cell (by first | omega | (simp; try omega))).trans f15
  have f27 : w3.cell? ⟨w.heap.size + 1, 2, none⟩ = some (u1) := (gw3.cell (by first | omega | (simp; try omega))).trans f16
  have f28 : w3.cell? ⟨w.heap.size + 2, 0, none⟩ = some (.int .i64 x3.1) := (gw3.cell (by first | omega | (simp; try omega))).trans f17
  have f29 : w3.cell? ⟨w.heap.size + 2, 1, none⟩ = some (.int .i64 x3.2.1) := (gw3.cell (by first | omega | (simp; try omega))).trans f18
  have f30 : w3.cell? ⟨w.heap.size + 2, 2, none⟩ = some (u3) := (gw3.cell (by first | omega | (simp; try omega))).trans f19
  have z31 : w.heap.size < w3.heap.size := by omega
  have z32 : w.heap.size + 1 < w3.heap.size := by omega
  have z33 : w.heap.size + 2 < w3.heap.size := by omega
  clear hb3 H_w2 f12 f13 f14 f15 f16 f17 f18 f19 z20 z21 z22 gw3
  rcases ilt (1048576 - szTpl x0 - szFrm x1) (szFrm x3) with hl8 | hl8
  · rw [szR_lt hl8]
    go_wp2_with fail
    go_ret
    exact ⟨rfl, (by repeat (first | exact Below.refl _ _ | exact bA | assumption | refine Below.setCell ?_ (by first | omega | (simp; try omega)) _ | refine Below.alloc ?_ (by first | omega | (simp; try omega)) _ | refine Below.drew ?_ | refine bDN ?_ | refine bthen ?_ (by assumption)))⟩
  rw [szR_ge hl8]
  go_wp2_with fail
  have hcr1 : cntFrm (repV x0 x1 n2 x3) ≤ 1000000000 := (Int.le_trans rep_cnt (by omega))
  have hcrz1 : 0 ≤ cntFrm (repV x0 x1 n2 x3) := cntOps_nn _
  refine wp_region_box [(.plain, exO (.agg #[.int .i64 x0.1, u0])), (.plain, rdAO tplT x0), (.plain, exO (.agg #[.int .i64 x1.1, .int .i64 x1.2.1, u1])), (.plain, rdAO frmT x1), (.plain, exO (.int .i64 n2)), (.plain, exO (.agg #[.int .i64 x3.1, .int .i64 x3.2.1, u3])), (.plain, rdAO frmT x3), (.plain, frTO frmT w3.heap.size (repV x0 x1 n2 x3) (.int .i64 (repC x0 x1 n2 x3))), (.plain, frTO frmT w3.heap.size (repV x0 x1 n2 x3) (.int .i64 (repC x0 x1 n2 x3))), (.plain, frAO frmT w3.heap.size (repV x0 x1 n2 x3)), (.plain, exO (.int .i64 (repC x0 x1 n2 x3))), (.alloc, boxO 3), (.store, heldO frmT w3.heap.size (repV x0 x1 n2 x3)), (.plain, exO (.int .i64 (repC x0 x1 n2 x3)))] (by kernel_rfl) (by kernel_rfl) ⟨st_exO, st_rdAO, st_exO, st_rdAO, st_exO, st_exO, st_rdAO, st_frTO, st_frTO, st_frAO, st_exO, st_boxO, st_heldO, st_exO, trivial⟩ ⟨?j11_0, ?j11_1, ?j11_2, ?j11_3, ?j11_4, ?j11_5, ?j11_6, ?j11_7, ?j11_8, ?j11_9, ?j11_10, ?j11_11, ?j11_12, ?j11_13, trivial⟩ ?hQ11
  case j11_0 =>
    intro a' w' ob hb hbo hal hd
    have e0 : a'.tmps[4]?.getD undef = .pointer (some ⟨w.heap.size, 0, none⟩) := ev (slot_o2 hd 4 rfl rfl)
    have q : ∀ b o, b < w3.heap.size → w'.cell? ⟨b, o, none⟩ = w3.cell? ⟨b, o, none⟩ := (bcell hb).1
    go_simp
    exact ⟨_, ⟨rfl, Below.refl _ _⟩, rfl⟩
  case j11_1 =>
    intro a' w' ob hb hbo hal hd
    have e38 : a'.tmps[38]?.getD undef = .agg #[.int .i64 x0.1, u0] := ev (slot_w2 hd 38 (exO (.agg #[.int .i64 x0.1, u0])) rfl rfl)
    have r38 : tplT.Rd w3 (#[.int .i64 x0.1, u0] : Array Value).toList x0 := hx0.below H_w3
    have r38' := r38.below hb
    go_simp
    exact ⟨rfl, Below.refl _ _, (toTemplate_any w' r38' (by first | omega | (unfold szInts; omega))).mono fun e w'' ⟨cs, he, hf, hb⟩ => ⟨_, he, hb, rdAO_mk hf hbo⟩⟩
  case j11_2 =>
    intro a' w' ob hb hbo hal hd
    have e0 : a'.tmps[5]?.getD undef = .pointer (some ⟨w.heap.size + 1, 0, none⟩) := ev (slot_o2 hd 5 rfl rfl)
    have q : ∀ b o, b < w3.heap.size → w'.cell? ⟨b, o, none⟩ = w3.cell? ⟨b, o, none⟩ := (bcell hb).1
    go_simp
    exact ⟨_, ⟨rfl, Below.refl _ _⟩, rfl⟩
  case j11_3 =>
    intro a' w' ob hb hbo hal hd
    have e40 : a'.tmps[40]?.getD undef = .agg #[.int .i64 x1.1, .int .i64 x1.2.1, u1] := ev (slot_w2 hd 40 (exO (.agg #[.int .i64 x1.1, .int .i64 x1.2.1, u1])) rfl rfl)
    have r40 : frmT.Rd w3 (#[.int .i64 x1.1, .int .i64 x1.2.1, u1] : Array Value).toList x1 := hx1.below H_w3
    have r40' := r40.below hb
    go_simp
    exact ⟨rfl, Below.refl _ _, (toFormula_any w' r40' (by first | omega | (unfold szInts; omega))).mono fun e w'' ⟨cs, he, hf, hb⟩ => ⟨_, he, hb, rdAO_mk hf hbo⟩⟩
  case j11_4 =>
    intro a' w' ob hb hbo hal hd
    have e0 : a'.tmps[2]?.getD undef = .int .i64 n2 := ev (slot_o2 hd 2 rfl rfl)
    go_simp
    exact ⟨_, ⟨rfl, Below.refl _ _⟩, rfl⟩
  case j11_5 =>
    intro a' w' ob hb hbo hal hd
    have e0 : a'.tmps[7]?.getD undef = .pointer (some ⟨w.heap.size + 2, 0, none⟩) := ev (slot_o2 hd 7 rfl rfl)
    have q : ∀ b o, b < w3.heap.size → w'.cell? ⟨b, o, none⟩ = w3.cell? ⟨b, o, none⟩ := (bcell hb).1
    go_simp
    exact ⟨_, ⟨rfl, Below.refl _ _⟩, rfl⟩
  case j11_6 =>
    intro a' w' ob hb hbo hal hd
    have e43 : a'.tmps[43]?.getD undef = .agg #[.int .i64 x3.1, .int .i64 x3.2.1, u3] := ev (slot_w2 hd 43 (exO (.agg #[.int .i64 x3.1, .int .i64 x3.2.1, u3])) rfl rfl)
    have r43 : frmT.Rd w3 (#[.int .i64 x3.1, .int .i64 x3.2.1, u3] : Array Value).toList x3 := hx3.below H_w3
    have r43' := r43.below hb
    go_simp
    exact ⟨rfl, Below.refl _ _, (toFormula_any w' r43' (by first | omega | (unfold szInts; omega))).mono fun e w'' ⟨cs, he, hf, hb⟩ => ⟨_, he, hb, rdAO_mk hf hbo⟩⟩
  case j11_7 =>
    intro a' w' ob hb hbo hal hd
    have d39 := slot_w2 hd 39 (rdAO tplT x0) rfl rfl
    obtain ⟨cs39, fp39, e39, hr39, -⟩ := d39
    have rd39 : tplT.Rd w' cs39 x0 := ⟨_, hr39⟩
    have e39' := ev e39
    have d41 := slot_w2 hd 41 (rdAO frmT x1) rfl rfl
    obtain ⟨cs41, fp41, e41, hr41, -⟩ := d41
    have rd41 : frmT.Rd w' cs41 x1 := ⟨_, hr41⟩
    have e41' := ev e41
    have e42 : a'.tmps[42]?.getD undef = .int .i64 n2 := ev (slot_w2 hd 42 (exO (.int .i64 n2)) rfl rfl)
    have d44 := slot_w2 hd 44 (rdAO frmT x3) rfl rfl
    obtain ⟨cs44, fp44, e44, hr44, -⟩ := d44
    have rd44 : frmT.Rd w' cs44 x3 := ⟨_, hr44⟩
    have e44' := ev e44
    go_simp
    exact ⟨rfl, Below.refl _ _, (specReplaceRel_any _ rd39 rd41 rd44).mono fun e w'' ⟨cs, he, hf, hb2⟩ => ⟨_, he, hb2, frTO_mk hb.size hf hbo⟩⟩
  case j11_8 =>
    intro a' w' ob hb hbo hal hd
    have d45 := slot_w2 hd 45 (frTO frmT w3.heap.size (repV x0 x1 n2 x3) (.int .i64 (repC x0 x1 n2 x3))) rfl rfl
    obtain ⟨cs45, e45, hf45⟩ := d45
    have e45' := ev e45
    go_simp
    exact ⟨_, ⟨rfl, Below.refl _ _⟩, cs45, rfl, hf45⟩
  case j11_9 =>
    intro a' w' ob hb hbo hal hd
    have d37 := slot_w2 hd 37 (frTO frmT w3.heap.size (repV x0 x1 n2 x3) (.int .i64 (repC x0 x1 n2 x3))) rfl rfl
    obtain ⟨cs37, e37, hf37⟩ := d37
    have e37' := ev e37
    go_simp
    exact ⟨_, ⟨rfl, Below.refl _ _⟩, hf37⟩
  case j11_10 =>
    intro a' w' ob hb hbo hal hd
    have d37 := slot_w2 hd 37 (frTO frmT w3.heap.size (repV x0 x1 n2 x3) (.int .i64 (repC x0 x1 n2 x3))) rfl rfl
    obtain ⟨cs37, e37, hf37⟩ := d37
    have e37' := ev e37
    go_simp
    exact ⟨_, ⟨rfl, Below.refl _ _⟩, rfl⟩
  case j11_11 =>
    intro a' w' ob hb hbo hal hd
    obtain rfl := hal rfl
    go_simp
    exact ⟨_, ⟨rfl, by simp, bA⟩, _, rfl, rfl, by simp, box3⟩
  case j11_12 =>
    intro a' w' ob hb hbo hal hd
    obtain ⟨bb, rfl, e10, hbb, hcl⟩ := slot_w2 hd 10 (boxO 3) rfl rfl
    have e10' := ev e10
    have d46 := slot_w2 hd 46 (frAO frmT w3.heap.size (repV x0 x1 n2 x3)) rfl rfl
    obtain ⟨cs46, fp46, e46, hr46, hn46, hg46, hu46, ho46⟩ := d46
    obtain ⟨u46, rfl, hr46', -⟩ := rd_trip hr46
    obtain ⟨ad46', cap46', rfl⟩ := rd_slice ⟨_, hr46'⟩
    have e46' := ev e46
    obtain ⟨⟨y0, c0⟩, f0⟩ := hcl 0 (by decide)
    obtain ⟨⟨y1, c1⟩, f1⟩ := hcl 1 (by decide)
    obtain ⟨⟨y2, c2⟩, f2⟩ := hcl 2 (by decide)
    go_simp
    exact held3 c0 c1 c2 hr46 hn46 hg46 hu46 ho46 _
  case j11_13 =>
    intro a' w' ob hb hbo hal hd
    have e0 : a'.tmps[47]?.getD undef = .int .i64 (repC x0 x1 n2 x3) := ev (slot_w2 hd 47 (exO (.int .i64 (repC x0 x1 n2 x3))) rfl rfl)
    go_simp
    exact ⟨_, ⟨rfl, Below.refl _ _⟩, rfl⟩
  intro vs11 w4 ob11 hb4 hbo11 H0
  obtain ⟨v11_0, _, rfl, p0, H1⟩ := HAll2_cons H0
  obtain ⟨v11_1, _, rfl, p1, H2⟩ := HAll2_cons H1
  obtain ⟨v11_2, _, rfl, p2, H3⟩ := HAll2_cons H2
  obtain ⟨v11_3, _, rfl, p3, H4⟩ := HAll2_cons H3
  obtain ⟨v11_4, _, rfl, p4, H5⟩ := HAll2_cons H4
  obtain ⟨v11_5, _, rfl, p5, H6⟩ := HAll2_cons H5
  obtain ⟨v11_6, _, rfl, p6, H7⟩ := HAll2_cons H6
  obtain ⟨v11_7, _, rfl, p7, H8⟩ := HAll2_cons H7
  obtain ⟨v11_8, _, rfl, p8, H9⟩ := HAll2_cons H8
  obtain ⟨v11_9, _, rfl, p9, H10⟩ := HAll2_cons H9
  obtain ⟨v11_10, _, rfl, p10, H11⟩ := HAll2_cons H10
  obtain ⟨v11_11, _, rfl, p11, H12⟩ := HAll2_cons H11
  obtain ⟨v11_12, _, rfl, p12, H13⟩ := HAll2_cons H12
  obtain ⟨v11_13, _, rfl, p13, H14⟩ := HAll2_cons H13
  obtain rfl := HAll2_nil H14
  obtain rfl := id p0
  obtain rfl := id p2
  obtain rfl := id p4
  obtain rfl := id p5
  obtain rfl := id p10
  obtain rfl := id p13
  obtain ⟨bb34, rfl, rfl, hltbb34, -⟩ := id p11
  obtain ⟨_, cs, fp37, hob, hr1, hr2, hr3, hr4, -, cc36⟩ := id p12
  simp only [Option.some.injEq] at hob
  subst hob
  have hc35 : frmT.Fr w3.heap.size w4 cs (repV x0 x1 n2 x3) := ⟨fp37, hr1, hr2, hr3, hr4⟩
  have hlobb34 : w3.heap.size ≤ bb34 := (hbo11 bb34 rfl).1
  obtain ⟨ad38, ad38', rfl⟩ := fr_trip hc35
  have f39 : w4.cell? ⟨bb34, 0, none⟩ = some (.int .i64 (repV x0 x1 n2 x3).1) := cc36 0 (by simp)
  have f40 : w4.cell? ⟨bb34, 1, none⟩ = some (.int .i64 (repV x0 x1 n2 x3).2.1) := cc36 1 (by simp)
  have f41 : w4.cell? ⟨bb34, 2, none⟩ = some (.slice ad38 (repV x0 x1 n2 x3).2.2.length ad38') := cc36 2 (by simp)
  clear cc36 hr1 hr2 hr3 hr4
  clear p0 p1 p2 p3 p4 p5 p6 p7 p8 p9 p10 p11 p12 p13 H0 H1 H2 H3 H4 H5 H6 H7 H8 H9 H10 H11 H12 H13 H14
  have gw4 : Below w3.heap.size w3 w4 := bthen (by repeat (first | exact Below.refl _ _ | exact bA | assumption | refine Below.setCell ?_ (by first | omega | (simp; try omega)) _ | refine Below.alloc ?_ (by first | omega | (simp; try omega)) _ | refine Below.drew ?_ | refine bDN ?_ | refine bthen ?_ (by assumption))) hb4
  have sw4 : w3.heap.size + 0 ≤ w4.heap.size := by have := hb4.size; (try simp at this); omega
  have H_w4 : Below w.heap.size w w4 := bthen H_w3 gw4
  have f42 : w4.cell? ⟨w.heap.size, 0, none⟩ = some (.int .i64 x0.1) := (gw4.cell (by first | omega | (simp; try omega))).trans f23
  have f43 : w4.cell? ⟨w.heap.size, 1, none⟩ = some (u0) := (gw4.cell (by first | omega | (simp; try omega))).trans f24
  have f44 : w4.cell? ⟨w.heap.size + 1, 0, none⟩ = some (.int .i64 x1.1) := (gw4.cell (by first | omega | (simp; try omega))).trans f25
  have f45 : w4.cell? ⟨w.heap.size + 1, 1, none⟩ = some (.int .i64 x1.2.1) := (gw4.cell (by first | omega | (simp; try omega))).trans f26
  have f46 : w4.cell? ⟨w.heap.size + 1, 2, none⟩ = some (u1) := (gw4.cell (by first | omega | (simp; try omega))).trans f27
  have f47 : w4.cell? ⟨w.heap.size + 2, 0, none⟩ = some (.int .i64 x3.1) := (gw4.cell (by first | omega | (simp; try omega))).trans f28
  have f48 : w4.cell? ⟨w.heap.size + 2, 1, none⟩ = some (.int .i64 x3.2.1) := (gw4.cell (by first | omega | (simp; try omega))).trans f29
  have f49 : w4.cell? ⟨w.heap.size + 2, 2, none⟩ = some (u3) := (gw4.cell (by first | omega | (simp; try omega))).trans f30
  have z50 : w.heap.size < w4.heap.size := by omega
  have z51 : w.heap.size + 1 < w4.heap.size := by omega
  have z52 : w.heap.size + 2 < w4.heap.size := by omega
  clear hb4 H_w3 f23 f24 f25 f26 f27 f28 f29 f30 z31 z32 z33 gw4
  have d53 : frmT.Fx w3.heap.size w4.heap.size w4 [.int .i64 (repV x0 x1 n2 x3).1, .int .i64 (repV x0 x1 n2 x3).2.1, .slice ad38 (repV x0 x1 n2 x3).2.2.length ad38'] (repV x0 x1 n2 x3) := hc35.fx
  clear hc35
  simp only [putAll, Act.put]
  go_simp
  go_wp2_with fail
  refine (toTemplate_any _ (hx0.below (by repeat (first | exact Below.refl _ _ | exact bA | assumption | refine Below.setCell ?_ (by first | omega | (simp; try omega)) _ | refine Below.alloc ?_ (by first | omega | (simp; try omega)) _ | refine Below.drew ?_ | refine bDN ?_ | refine bthen ?_ (by assumption)))) (by first | omega | (unfold szInts; omega))).mono ?_
  rintro e w5 ⟨cs, rfl, hc55, hb5⟩
  have gw5 : Below w4.heap.size w4 w5 := bthen (by repeat (first | exact Below.refl _ _ | exact bA | assumption | refine Below.setCell ?_ (by first | omega | (simp; try omega)) _ | refine Below.alloc ?_ (by first | omega | (simp; try omega)) _ | refine Below.drew ?_ | refine bDN ?_ | refine bthen ?_ (by assumption))) hb5
  have sw5 : w4.heap.size + 0 ≤ w5.heap.size := by have := hb5.size; (try simp at this); omega
  have H_w5 : Below w.heap.size w w5 := bthen H_w4 gw5
  have f56 : w5.cell? ⟨w.heap.size, 0, none⟩ = some (.int .i64 x0.1) := (gw5.cell (by first | omega | (simp; try omega))).trans f42
  have f57 : w5.cell? ⟨w.heap.size, 1, none⟩ = some (u0) := (gw5.cell (by first | omega | (simp; try omega))).trans f43
  have f58 : w5.cell? ⟨w.heap.size + 1, 0, none⟩ = some (.int .i64 x1.1) := (gw5.cell (by first | omega | (simp; try omega))).trans f44
  have f59 : w5.cell? ⟨w.heap.size + 1, 1, none⟩ = some (.int .i64 x1.2.1) := (gw5.cell (by first | omega | (simp; try omega))).trans f45
  have f60 : w5.cell? ⟨w.heap.size + 1, 2, none⟩ = some (u1) := (gw5.cell (by first | omega | (simp; try omega))).trans f46
  have f61 : w5.cell? ⟨w.heap.size + 2, 0, none⟩ = some (.int .i64 x3.1) := (gw5.cell (by first | omega | (simp; try omega))).trans f47
  have f62 : w5.cell? ⟨w.heap.size + 2, 1, none⟩ = some (.int .i64 x3.2.1) := (gw5.cell (by first | omega | (simp; try omega))).trans f48
  have f63 : w5.cell? ⟨w.heap.size + 2, 2, none⟩ = some (u3) := (gw5.cell (by first | omega | (simp; try omega))).trans f49
  have f64 : w5.cell? ⟨bb34, 0, none⟩ = some (.int .i64 (repV x0 x1 n2 x3).1) := (gw5.cell (by first | omega | (simp; try omega))).trans f39
  have f65 : w5.cell? ⟨bb34, 1, none⟩ = some (.int .i64 (repV x0 x1 n2 x3).2.1) := (gw5.cell (by first | omega | (simp; try omega))).trans f40
  have f66 : w5.cell? ⟨bb34, 2, none⟩ = some (.slice ad38 (repV x0 x1 n2 x3).2.2.length ad38') := (gw5.cell (by first | omega | (simp; try omega))).trans f41
  have z67 : w.heap.size < w5.heap.size := by omega
  have z68 : w.heap.size + 1 < w5.heap.size := by omega
  have z69 : w.heap.size + 2 < w5.heap.size := by omega
  have z70 : bb34 < w5.heap.size := by omega
  have d71 : frmT.Fx w3.heap.size w4.heap.size w5 [.int .i64 (repV x0 x1 n2 x3).1, .int .i64 (repV x0 x1 n2 x3).2.1, .slice ad38 (repV x0 x1 n2 x3).2.2.length ad38'] (repV x0 x1 n2 x3) := d53.below gw5
  clear hb5 H_w4 f42 f43 f44 f45 f46 f47 f48 f49 f39 f40 f41 d53 z50 z51 z52 gw5
  obtain ⟨ad72, ad72', rfl⟩ := fr_pair hc55
  have d73 : tplT.Fx w4.heap.size w5.heap.size w5 [.int .i64 x0.1, .slice ad72 x0.2.length ad72'] x0 := (Ty.Fr.mono hc55 (by first | exact Nat.le_refl _ | (simp; try omega))).fx
  clear hc55
  go_wp2_with fail
  refine (toFormula_any _ (hx1.below (by repeat (first | exact Below.refl _ _ | exact bA | assumption | refine Below.setCell ?_ (by first | omega | (simp; try omega)) _ | refine Below.alloc ?_ (by first | omega | (simp; try omega)) _ | refine Below.drew ?_ | refine bDN ?_ | refine bthen ?_ (by assumption)))) (by first | omega | (unfold szInts; omega))).mono ?_
  rintro e w6 ⟨cs, rfl, hc75, hb6⟩
  have gw6 : Below w5.heap.size w5 w6 := bthen (by repeat (first | exact Below.refl _ _ | exact bA | assumption | refine Below.setCell ?_ (by first | omega | (simp; try omega)) _ | refine Below.alloc ?_ (by first | omega | (simp; try omega)) _ | refine Below.drew ?_ | refine bDN ?_ | refine bthen ?_ (by assumption))) hb6
  have sw6 : w5.heap.size + 1 ≤ w6.heap.size := by have := hb6.size; (try simp at this); omega
  have H_w6 : Below w.heap.size w w6 := bthen H_w5 gw6
  have f76 : w6.cell? ⟨w.heap.size, 0, none⟩ = some (.int .i64 x0.1) := (gw6.cell (by first | omega | (simp; try omega))).trans f56
  have f77 : w6.cell? ⟨w.heap.size, 1, none⟩ = some (u0) := (gw6.cell (by first | omega | (simp; try omega))).trans f57
  have f78 : w6.cell? ⟨w.heap.size + 1, 0, none⟩ = some (.int .i64 x1.1) := (gw6.cell (by first | omega | (simp; try omega))).trans f58
  have f79 : w6.cell? ⟨w.heap.size + 1, 1, none⟩ = some (.int .i64 x1.2.1) := (gw6.cell (by first | omega | (simp; try omega))).trans f59
  have f80 : w6.cell? ⟨w.heap.size + 1, 2, none⟩ = some (u1) := (gw6.cell (by first | omega | (simp; try omega))).trans f60
  have f81 : w6.cell? ⟨w.heap.size + 2, 0, none⟩ = some (.int .i64 x3.1) := (gw6.cell (by first | omega | (simp; try omega))).trans f61
  have f82 : w6.cell? ⟨w.heap.size + 2, 1, none⟩ = some (.int .i64 x3.2.1) := (gw6.cell (by first | omega | (simp; try omega))).trans f62
  have f83 : w6.cell? ⟨w.heap.size + 2, 2, none⟩ = some (u3) := (gw6.cell (by first | omega | (simp; try omega))).trans f63
  have f84 : w6.cell? ⟨bb34, 0, none⟩ = some (.int .i64 (repV x0 x1 n2 x3).1) := (gw6.cell (by first | omega | (simp; try omega))).trans f64
  have f85 : w6.cell? ⟨bb34, 1, none⟩ = some (.int .i64 (repV x0 x1 n2 x3).2.1) := (gw6.cell (by first | omega | (simp; try omega))).trans f65
  have f86 : w6.cell? ⟨bb34, 2, none⟩ = some (.slice ad38 (repV x0 x1 n2 x3).2.2.length ad38') := (gw6.cell (by first | omega | (simp; try omega))).trans f66
  have f87 : w6.cell? ⟨w5.heap.size, 0, none⟩ = some (.int .i64 x0.1) := by rw [(bcell hb6).1 _ _ (by first | omega | (simp; try omega))]; first | (simp; done) | simp [go_sem]
  have f88 : w6.cell? ⟨w5.heap.size, 1, none⟩ = some (.slice ad72 x0.2.length ad72') := by rw [(bcell hb6).1 _ _ (by first | omega | (simp; try omega))]; first | (simp; done) | simp [go_sem]
  have z89 : w.heap.size < w6.heap.size := by omega
  have z90 : w.heap.size + 1 < w6.heap.size := by omega
  have z91 : w.heap.size + 2 < w6.heap.size := by omega
  have z92 : bb34 < w6.heap.size := by omega
  have z93 : w5.heap.size < w6.heap.size := by omega
  have d94 : frmT.Fx w3.heap.size w4.heap.size w6 [.int .i64 (repV x0 x1 n2 x3).1, .int .i64 (repV x0 x1 n2 x3).2.1, .slice ad38 (repV x0 x1 n2 x3).2.2.length ad38'] (repV x0 x1 n2 x3) := d71.below gw6
  have d95 : tplT.Fx w4.heap.size w5.heap.size w6 [.int .i64 x0.1, .slice ad72 x0.2.length ad72'] x0 := d73.below gw6
  clear hb6 H_w5 f56 f57 f58 f59 f60 f61 f62 f63 f64 f65 f66 d71 d73 z67 z68 z69 z70 gw6
  obtain ⟨ad96, ad96', rfl⟩ := fr_trip hc75
  have d97 : frmT.Fx (w5.heap.size + 1) w6.heap.size w6 [.int .i64 x1.1, .int .i64 x1.2.1, .slice ad96 x1.2.2.length ad96'] x1 := (Ty.Fr.mono hc75 (by first | exact Nat.le_refl _ | (simp; try omega))).fx
  clear hc75
  go_wp2_with fail
  refine (toFormula_any _ (hx3.below (by repeat (first | exact Below.refl _ _ | exact bA | assumption | refine Below.setCell ?_ (by first | omega | (simp; try omega)) _ | refine Below.alloc ?_ (by first | omega | (simp; try omega)) _ | refine Below.drew ?_ | refine bDN ?_ | refine bthen ?_ (by assumption)))) (by first | omega | (unfold szInts; omega))).mono ?_
  rintro e w7 ⟨cs, rfl, hc99, hb7⟩
  have gw7 : Below w6.heap.size w6 w7 := bthen (by repeat (first | exact Below.refl _ _ | exact bA | assumption | refine Below.setCell ?_ (by first | omega | (simp; try omega)) _ | refine Below.alloc ?_ (by first | omega | (simp; try omega)) _ | refine Below.drew ?_ | refine bDN ?_ | refine bthen ?_ (by assumption))) hb7
  have sw7 : w6.heap.size + 1 ≤ w7.heap.size := by have := hb7.size; (try simp at this); omega
  have H_w7 : Below w.heap.size w w7 := bthen H_w6 gw7
  have f100 : w7.cell? ⟨w.heap.size, 0, none⟩ = some (.int .i64 x0.1) := (gw7.cell (by first | omega | (simp; try omega))).trans f76
  have f101 : w7.cell? ⟨w.heap.size, 1, none⟩ = some (u0) := (gw7.cell (by first | omega | (simp; try omega))).trans f77
  have f102 : w7.cell? ⟨w.heap.size + 1, 0, none⟩ = some (.int .i64 x1.1) := (gw7.cell (by first | omega | (simp; try omega))).trans f78
  have f103 : w7.cell? ⟨w.heap.size + 1, 1, none⟩ = some (.int .i64 x1.2.1) := (gw7.cell (by first | omega | (simp; try omega))).trans f79
  have f104 : w7.cell? ⟨w.heap.size + 1, 2, none⟩ = some (u1) := (gw7.cell (by first | omega | (simp; try omega))).trans f80
  have f105 : w7.cell? ⟨w.heap.size + 2, 0, none⟩ = some (.int .i64 x3.1) := (gw7.cell (by first | omega | (simp; try omega))).trans f81
  have f106 : w7.cell? ⟨w.heap.size + 2, 1, none⟩ = some (.int .i64 x3.2.1) := (gw7.cell (by first | omega | (simp; try omega))).trans f82
  have f107 : w7.cell? ⟨w.heap.size + 2, 2, none⟩ = some (u3) := (gw7.cell (by first | omega | (simp; try omega))).trans f83
  have f108 : w7.cell? ⟨bb34, 0, none⟩ = some (.int .i64 (repV x0 x1 n2 x3).1) := (gw7.cell (by first | omega | (simp; try omega))).trans f84
  have f109 : w7.cell? ⟨bb34, 1, none⟩ = some (.int .i64 (repV x0 x1 n2 x3).2.1) := (gw7.cell (by first | omega | (simp; try omega))).trans f85
  have f110 : w7.cell? ⟨bb34, 2, none⟩ = some (.slice ad38 (repV x0 x1 n2 x3).2.2.length ad38') := (gw7.cell (by first | omega | (simp; try omega))).trans f86
  have f111 : w7.cell? ⟨w5.heap.size, 0, none⟩ = some (.int .i64 x0.1) := (gw7.cell (by first | omega | (simp; try omega))).trans f87
  have f112 : w7.cell? ⟨w5.heap.size, 1, none⟩ = some (.slice ad72 x0.2.length ad72') := (gw7.cell (by first | omega | (simp; try omega))).trans f88
  have f113 : w7.cell? ⟨w6.heap.size, 0, none⟩ = some (.int .i64 x1.1) := by rw [(bcell hb7).1 _ _ (by first | omega | (simp; try omega))]; first | (simp; done) | simp [go_sem]
  have f114 : w7.cell? ⟨w6.heap.size, 1, none⟩ = some (.int .i64 x1.2.1) := by rw [(bcell hb7).1 _ _ (by first | omega | (simp; try omega))]; first | (simp; done) | simp [go_sem]
  have f115 : w7.cell? ⟨w6.heap.size, 2, none⟩ = some (.slice ad96 x1.2.2.length ad96') := by rw [(bcell hb7).1 _ _ (by first | omega | (simp; try omega))]; first | (simp; done) | simp [go_sem]
  have z116 : w.heap.size < w7.heap.size := by omega
  have z117 : w.heap.size + 1 < w7.heap.size := by omega
  have z118 : w.heap.size + 2 < w7.heap.size := by omega
  have z119 : bb34 < w7.heap.size := by omega
  have z120 : w5.heap.size < w7.heap.size := by omega
  have z121 : w6.heap.size < w7.heap.size := by omega
  have d122 : frmT.Fx w3.heap.size w4.heap.size w7 [.int .i64 (repV x0 x1 n2 x3).1, .int .i64 (repV x0 x1 n2 x3).2.1, .slice ad38 (repV x0 x1 n2 x3).2.2.length ad38'] (repV x0 x1 n2 x3) := d94.below gw7
  have d123 : tplT.Fx w4.heap.size w5.heap.size w7 [.int .i64 x0.1, .slice ad72 x0.2.length ad72'] x0 := d95.below gw7
  have d124 : frmT.Fx (w5.heap.size + 1) w6.heap.size w7 [.int .i64 x1.1, .int .i64 x1.2.1, .slice ad96 x1.2.2.length ad96'] x1 := d97.below gw7
  clear hb7 H_w6 f76 f77 f78 f79 f80 f81 f82 f83 f84 f85 f86 f87 f88 d94 d95 d97 z89 z90 z91 z92 z93 gw7
  obtain ⟨ad125, ad125', rfl⟩ := fr_trip hc99
  have d126 : frmT.Fx (w6.heap.size + 1) w7.heap.size w7 [.int .i64 x3.1, .int .i64 x3.2.1, .slice ad125 x3.2.2.length ad125'] x3 := (Ty.Fr.mono hc99 (by first | exact Nat.le_refl _ | (simp; try omega))).fx
  clear hc99
  go_wp2_with fail
  refine (ReplaceRel_any _ (d123.rd.below (by repeat (first | exact Below.refl _ _ | exact bA | assumption | refine Below.setCell ?_ (by first | omega | (simp; try omega)) _ | refine Below.alloc ?_ (by first | omega | (simp; try omega)) _ | refine Below.drew ?_ | refine bDN ?_ | refine bthen ?_ (by assumption)))) (d124.rd.below (by repeat (first | exact Below.refl _ _ | exact bA | assumption | refine Below.setCell ?_ (by first | omega | (simp; try omega)) _ | refine Below.alloc ?_ (by first | omega | (simp; try omega)) _ | refine Below.drew ?_ | refine bDN ?_ | refine bthen ?_ (by assumption)))) (d126.rd.below (by repeat (first | exact Below.refl _ _ | exact bA | assumption | refine Below.setCell ?_ (by first | omega | (simp; try omega)) _ | refine Below.alloc ?_ (by first | omega | (simp; try omega)) _ | refine Below.drew ?_ | refine bDN ?_ | refine bthen ?_ (by assumption))))).mono ?_
  rintro e w8 ⟨cs, rfl, hc128, hb8⟩
  have gw8 : Below w7.heap.size w7 w8 := bthen (by repeat (first | exact Below.refl _ _ | exact bA | assumption | refine Below.setCell ?_ (by first | omega | (simp; try omega)) _ | refine Below.alloc ?_ (by first | omega | (simp; try omega)) _ | refine Below.drew ?_ | refine bDN ?_ | refine bthen ?_ (by assumption))) hb8
  have sw8 : w7.heap.size + 1 ≤ w8.heap.size := by have := hb8.size; (try simp at this); omega
  have H_w8 : Below w.heap.size w w8 := bthen H_w7 gw8
  have f129 : w8.cell? ⟨w.heap.size, 0, none⟩ = some (.int .i64 x0.1) := (gw8.cell (by first | omega | (simp; try omega))).trans f100
  have f130 : w8.cell? ⟨w.heap.size, 1, none⟩ = some (u0) := (gw8.cell (by first | omega | (simp; try omega))).trans f101
  have f131 : w8.cell? ⟨w.heap.size + 1, 0, none⟩ = some (.int .i64 x1.1) := (gw8.cell (by first | omega | (simp; try omega))).trans f102
  have f132 : w8.cell? ⟨w.heap.size + 1, 1, none⟩ = some (.int .i64 x1.2.1) := (gw8.cell (by first | omega | (simp; try omega))).trans f103
  have f133 : w8.cell? ⟨w.heap.size + 1, 2, none⟩ = some (u1) := (gw8.cell (by first | omega | (simp; try omega))).trans f104
  have f134 : w8.cell? ⟨w.heap.size + 2, 0, none⟩ = some (.int .i64 x3.1) := (gw8.cell (by first | omega | (simp; try omega))).trans f105
  have f135 : w8.cell? ⟨w.heap.size + 2, 1, none⟩ = some (.int .i64 x3.2.1) := (gw8.cell (by first | omega | (simp; try omega))).trans f106
  have f136 : w8.cell? ⟨w.heap.size + 2, 2, none⟩ = some (u3) := (gw8.cell (by first | omega | (simp; try omega))).trans f107
  have f137 : w8.cell? ⟨bb34, 0, none⟩ = some (.int .i64 (repV x0 x1 n2 x3).1) := (gw8.cell (by first | omega | (simp; try omega))).trans f108
  have f138 : w8.cell? ⟨bb34, 1, none⟩ = some (.int .i64 (repV x0 x1 n2 x3).2.1) := (gw8.cell (by first | omega | (simp; try omega))).trans f109
  have f139 : w8.cell? ⟨bb34, 2, none⟩ = some (.slice ad38 (repV x0 x1 n2 x3).2.2.length ad38') := (gw8.cell (by first | omega | (simp; try omega))).trans f110
  have f140 : w8.cell? ⟨w5.heap.size, 0, none⟩ = some (.int .i64 x0.1) := (gw8.cell (by first | omega | (simp; try omega))).trans f111
  have f141 : w8.cell? ⟨w5.heap.size, 1, none⟩ = some (.slice ad72 x0.2.length ad72') := (gw8.cell (by first | omega | (simp; try omega))).trans f112
  have f142 : w8.cell? ⟨w6.heap.size, 0, none⟩ = some (.int .i64 x1.1) := (gw8.cell (by first | omega | (simp; try omega))).trans f113
  have f143 : w8.cell? ⟨w6.heap.size, 1, none⟩ = some (.int .i64 x1.2.1) := (gw8.cell (by first | omega | (simp; try omega))).trans f114
  have f144 : w8.cell? ⟨w6.heap.size, 2, none⟩ = some (.slice ad96 x1.2.2.length ad96') := (gw8.cell (by first | omega | (simp; try omega))).trans f115
  have f145 : w8.cell? ⟨w7.heap.size, 0, none⟩ = some (.int .i64 x3.1) := by rw [(bcell hb8).1 _ _ (by first | omega | (simp; try omega))]; first | (simp; done) | simp [go_sem]
  have f146 : w8.cell? ⟨w7.heap.size, 1, none⟩ = some (.int .i64 x3.2.1) := by rw [(bcell hb8).1 _ _ (by first | omega | (simp; try omega))]; first | (simp; done) | simp [go_sem]
  have f147 : w8.cell? ⟨w7.heap.size, 2, none⟩ = some (.slice ad125 x3.2.2.length ad125') := by rw [(bcell hb8).1 _ _ (by first | omega | (simp; try omega))]; first | (simp; done) | simp [go_sem]
  have z148 : w.heap.size < w8.heap.size := by omega
  have z149 : w.heap.size + 1 < w8.heap.size := by omega
  have z150 : w.heap.size + 2 < w8.heap.size := by omega
  have z151 : bb34 < w8.heap.size := by omega
  have z152 : w5.heap.size < w8.heap.size := by omega
  have z153 : w6.heap.size < w8.heap.size := by omega
  have z154 : w7.heap.size < w8.heap.size := by omega
  have d155 : frmT.Fx w3.heap.size w4.heap.size w8 [.int .i64 (repV x0 x1 n2 x3).1, .int .i64 (repV x0 x1 n2 x3).2.1, .slice ad38 (repV x0 x1 n2 x3).2.2.length ad38'] (repV x0 x1 n2 x3) := d122.below gw8
  have d156 : tplT.Fx w4.heap.size w5.heap.size w8 [.int .i64 x0.1, .slice ad72 x0.2.length ad72'] x0 := d123.below gw8
  have d157 : frmT.Fx (w5.heap.size + 1) w6.heap.size w8 [.int .i64 x1.1, .int .i64 x1.2.1, .slice ad96 x1.2.2.length ad96'] x1 := d124.below gw8
  have d158 : frmT.Fx (w6.heap.size + 1) w7.heap.size w8 [.int .i64 x3.1, .int .i64 x3.2.1, .slice ad125 x3.2.2.length ad125'] x3 := d126.below gw8
  clear hb8 H_w7 f100 f101 f102 f103 f104 f105 f106 f107 f108 f109 f110 f111 f112 f113 f114 f115 d122 d123 d124 d126 z116 z117 z118 z119 z120 z121 gw8
  obtain ⟨ad159, ad159', rfl⟩ := fr_trip hc128
  have d160 : frmT.Fx (w7.heap.size + 1) w8.heap.size w8 [.int .i64 (repV x0 x1 n2 x3).1, .int .i64 (repV x0 x1 n2 x3).2.1, .slice ad159 (repV x0 x1 n2 x3).2.2.length ad159'] (repV x0 x1 n2 x3) := (Ty.Fr.mono hc128 (by first | exact Nat.le_refl _ | (simp; try omega))).fx
  clear hc128
  go_wp2_with fail
  refine (eqFormula_any _ (d160.rd.below (by repeat (first | exact Below.refl _ _ | exact bA | assumption | refine Below.setCell ?_ (by first | omega | (simp; try omega)) _ | refine Below.alloc ?_ (by first | omega | (simp; try omega)) _ | refine Below.drew ?_ | refine bDN ?_ | refine bthen ?_ (by assumption)))) (d155.rd.below (by repeat (first | exact Below.refl _ _ | exact bA | assumption | refine Below.setCell ?_ (by first | omega | (simp; try omega)) _ | refine Below.alloc ?_ (by first | omega | (simp; try omega)) _ | refine Below.drew ?_ | refine bDN ?_ | refine bthen ?_ (by assumption))))).mono ?_
  rintro e w9 ⟨rfl, hb9⟩
  have gw9 : Below w8.heap.size w8 w9 := bthen (by repeat (first | exact Below.refl _ _ | exact bA | assumption | refine Below.setCell ?_ (by first | omega | (simp; try omega)) _ | refine Below.alloc ?_ (by first | omega | (simp; try omega)) _ | refine Below.drew ?_ | refine bDN ?_ | refine bthen ?_ (by assumption))) hb9
  have sw9 : w8.heap.size + 1 ≤ w9.heap.size := by have := hb9.size; (try simp at this); omega
  have H_w9 : Below w.heap.size w w9 := bthen H_w8 gw9
  have f162 : w9.cell? ⟨w.heap.size, 0, none⟩ = some (.int .i64 x0.1) := (gw9.cell (by first | omega | (simp; try omega))).trans f129
  have f163 : w9.cell? ⟨w.heap.size, 1, none⟩ = some (u0) := (gw9.cell (by first | omega | (simp; try omega))).trans f130
  have f164 : w9.cell? ⟨w.heap.size + 1, 0, none⟩ = some (.int .i64 x1.1) := (gw9.cell (by first | omega | (simp; try omega))).trans f131
  have f165 : w9.cell? ⟨w.heap.size + 1, 1, none⟩ = some (.int .i64 x1.2.1) := (gw9.cell (by first | omega | (simp; try omega))).trans f132
  have f166 : w9.cell? ⟨w.heap.size + 1, 2, none⟩ = some (u1) := (gw9.cell (by first | omega | (simp; try omega))).trans f133
  have f167 : w9.cell? ⟨w.heap.size + 2, 0, none⟩ = some (.int .i64 x3.1) := (gw9.cell (by first | omega | (simp; try omega))).trans f134
  have f168 : w9.cell? ⟨w.heap.size + 2, 1, none⟩ = some (.int .i64 x3.2.1) := (gw9.cell (by first | omega | (simp; try omega))).trans f135
  have f169 : w9.cell? ⟨w.heap.size + 2, 2, none⟩ = some (u3) := (gw9.cell (by first | omega | (simp; try omega))).trans f136
  have f170 : w9.cell? ⟨bb34, 0, none⟩ = some (.int .i64 (repV x0 x1 n2 x3).1) := (gw9.cell (by first | omega | (simp; try omega))).trans f137
  have f171 : w9.cell? ⟨bb34, 1, none⟩ = some (.int .i64 (repV x0 x1 n2 x3).2.1) := (gw9.cell (by first | omega | (simp; try omega))).trans f138
  have f172 : w9.cell? ⟨bb34, 2, none⟩ = some (.slice ad38 (repV x0 x1 n2 x3).2.2.length ad38') := (gw9.cell (by first | omega | (simp; try omega))).trans f139
  have f173 : w9.cell? ⟨w5.heap.size, 0, none⟩ = some (.int .i64 x0.1) := (gw9.cell (by first | omega | (simp; try omega))).trans f140
  have f174 : w9.cell? ⟨w5.heap.size, 1, none⟩ = some (.slice ad72 x0.2.length ad72') := (gw9.cell (by first | omega | (simp; try omega))).trans f141
  have f175 : w9.cell? ⟨w6.heap.size, 0, none⟩ = some (.int .i64 x1.1) := (gw9.cell (by first | omega | (simp; try omega))).trans f142
  have f176 : w9.cell? ⟨w6.heap.size, 1, none⟩ = some (.int .i64 x1.2.1) := (gw9.cell (by first | omega | (simp; try omega))).trans f143
  have f177 : w9.cell? ⟨w6.heap.size, 2, none⟩ = some (.slice ad96 x1.2.2.length ad96') := (gw9.cell (by first | omega | (simp; try omega))).trans f144
  have f178 : w9.cell? ⟨w7.heap.size, 0, none⟩ = some (.int .i64 x3.1) := (gw9.cell (by first | omega | (simp; try omega))).trans f145
  have f179 : w9.cell? ⟨w7.heap.size, 1, none⟩ = some (.int .i64 x3.2.1) := (gw9.cell (by first | omega | (simp; try omega))).trans f146
  have f180 : w9.cell? ⟨w7.heap.size, 2, none⟩ = some (.slice ad125 x3.2.2.length ad125') := (gw9.cell (by first | omega | (simp; try omega))).trans f147
  have f181 : w9.cell? ⟨w8.heap.size, 0, none⟩ = some (.int .i64 (repV x0 x1 n2 x3).1) := by rw [(bcell hb9).1 _ _ (by first | omega | (simp; try omega))]; first | (simp; done) | simp [go_sem]
  have f182 : w9.cell? ⟨w8.heap.size, 1, none⟩ = some (.int .i64 (repV x0 x1 n2 x3).2.1) := by rw [(bcell hb9).1 _ _ (by first | omega | (simp; try omega))]; first | (simp; done) | simp [go_sem]
  have f183 : w9.cell? ⟨w8.heap.size, 2, none⟩ = some (.slice ad159 (repV x0 x1 n2 x3).2.2.length ad159') := by rw [(bcell hb9).1 _ _ (by first | omega | (simp; try omega))]; first | (simp; done) | simp [go_sem]
  have z184 : w.heap.size < w9.heap.size := by omega
  have z185 : w.heap.size + 1 < w9.heap.size := by omega
  have z186 : w.heap.size + 2 < w9.heap.size := by omega
  have z187 : bb34 < w9.heap.size := by omega
  have z188 : w5.heap.size < w9.heap.size := by omega
  have z189 : w6.heap.size < w9.heap.size := by omega
  have z190 : w7.heap.size < w9.heap.size := by omega
  have z191 : w8.heap.size < w9.heap.size := by omega
  have d192 : frmT.Fx w3.heap.size w4.heap.size w9 [.int .i64 (repV x0 x1 n2 x3).1, .int .i64 (repV x0 x1 n2 x3).2.1, .slice ad38 (repV x0 x1 n2 x3).2.2.length ad38'] (repV x0 x1 n2 x3) := d155.below gw9
  have d193 : tplT.Fx w4.heap.size w5.heap.size w9 [.int .i64 x0.1, .slice ad72 x0.2.length ad72'] x0 := d156.below gw9
  have d194 : frmT.Fx (w5.heap.size + 1) w6.heap.size w9 [.int .i64 x1.1, .int .i64 x1.2.1, .slice ad96 x1.2.2.length ad96'] x1 := d157.below gw9
  have d195 : frmT.Fx (w6.heap.size + 1) w7.heap.size w9 [.int .i64 x3.1, .int .i64 x3.2.1, .slice ad125 x3.2.2.length ad125'] x3 := d158.below gw9
  have d196 : frmT.Fx (w7.heap.size + 1) w8.heap.size w9 [.int .i64 (repV x0 x1 n2 x3).1, .int .i64 (repV x0 x1 n2 x3).2.1, .slice ad159 (repV x0 x1 n2 x3).2.2.length ad159'] (repV x0 x1 n2 x3) := d160.below gw9
  clear hb9 H_w8 f129 f130 f131 f132 f133 f134 f135 f136 f137 f138 f139 f140 f141 f142 f143 f144 f145 f146 f147 d155 d156 d157 d158 d160 z148 z149 z150 z151 z152 z153 z154 gw9
  rw [eqB_true rfl]
  go_wp2_with fail
  refine wp_region_loose [exV (.agg #[.int .i64 x0.1, .slice ad72 x0.2.length ad72']), exV (.agg #[.int .i64 x0.1, u0]), rdA tplT x0, exV (.bool true), exV (.bool false)] (by kernel_rfl) (by kernel_rfl) ⟨st_exV, st_exV, st_rdA, st_exV, st_exV, trivial⟩ ⟨?j18_0, ?j18_1, ?j18_2, ?j18_3, ?j18_4, trivial⟩ ?hQ18
  case j18_0 =>
    intro a' w' hb hd
    have e0 : a'.tmps[12]?.getD undef = .pointer (some ⟨w5.heap.size, 0, none⟩) := ev (slot_o hd 12 rfl rfl)
    have q : ∀ b o, b < w9.heap.size → w'.cell? ⟨b, o, none⟩ = w9.cell? ⟨b, o, none⟩ := (bcell hb).1
    go_simp
    exact ⟨Below.refl _ _, rfl⟩
  case j18_1 =>
    intro a' w' hb hd
    have e0 : a'.tmps[4]?.getD undef = .pointer (some ⟨w.heap.size, 0, none⟩) := ev (slot_o hd 4 rfl rfl)
    have q : ∀ b o, b < w9.heap.size → w'.cell? ⟨b, o, none⟩ = w9.cell? ⟨b, o, none⟩ := (bcell hb).1
    go_simp
    exact ⟨Below.refl _ _, rfl⟩
  case j18_2 =>
    intro a' w' hb hd
    have e72 : a'.tmps[72]?.getD undef = .agg #[.int .i64 x0.1, u0] := ev (slot_w hd 72 (exV (.agg #[.int .i64 x0.1, u0])) rfl rfl)
    have r72 : tplT.Rd w9 (#[.int .i64 x0.1, u0] : Array Value).toList x0 := hx0.below H_w9
    have r72' := r72.below hb
    go_simp
    exact ⟨Below.refl _ _, (toTemplate_any w' r72' (by first | omega | (unfold szInts; omega))).mono fun e w'' ⟨cs, he, hf, hb⟩ => ⟨_, he, hb, cs, rfl, hf.rd⟩⟩
  case j18_3 =>
    intro a' w' hb hd
    have e71 : a'.tmps[71]?.getD undef = .agg #[.int .i64 x0.1, .slice ad72 x0.2.length ad72'] := ev (slot_w hd 71 (exV (.agg #[.int .i64 x0.1, .slice ad72 x0.2.length ad72'])) rfl rfl)
    have r71 : tplT.Rd w9 (#[.int .i64 x0.1, .slice ad72 x0.2.length ad72'] : Array Value).toList x0 := d193.rd
    have r71' := r71.below hb
    have d73 := slot_w hd 73 (rdA tplT x0) rfl rfl
    obtain ⟨cs73, e73, hf73⟩ := d73
    have e73' := ev e73
    go_simp
    exact ⟨Below.refl _ _, (eqTemplate_any w' r71' hf73).mono fun e w'' ⟨he, hb⟩ => ⟨_, he, hb, exV_eqB⟩⟩
  case j18_4 =>
    intro a' w' hb hd
    have e0 : a'.tmps[74]?.getD undef = .bool true := ev (slot_w hd 74 (exV (.bool true)) rfl rfl)
    go_simp
    exact ⟨Below.refl _ _, rfl⟩
  intro vs18 w10 hb10 H0
  obtain ⟨v18_0, _, rfl, p0, H1⟩ := HAll_cons H0
  obtain ⟨v18_1, _, rfl, p1, H2⟩ := HAll_cons H1
  obtain ⟨v18_2, _, rfl, p2, H3⟩ := HAll_cons H2
  obtain ⟨v18_3, _, rfl, p3, H4⟩ := HAll_cons H3
  obtain ⟨v18_4, _, rfl, p4, H5⟩ := HAll_cons H4
  obtain rfl := HAll_nil H5
  obtain rfl := p0 rfl
  obtain rfl := p1 rfl
  obtain rfl := p3 rfl
  obtain rfl := p4 rfl
  clear p0 p1 p2 p3 p4 H0 H1 H2 H3 H4 H5
  have gw10 : Below w9.heap.size w9 w10 := bthen (by repeat (first | exact Below.refl _ _ | exact bA | assumption | refine Below.setCell ?_ (by first | omega | (simp; try omega)) _ | refine Below.alloc ?_ (by first | omega | (simp; try omega)) _ | refine Below.drew ?_ | refine bDN ?_ | refine bthen ?_ (by assumption))) hb10
  have sw10 : w9.heap.size + 0 ≤ w10.heap.size := by have := hb10.size; (try simp at this); omega
  have H_w10 : Below w.heap.size w w10 := bthen H_w9 gw10
  have f197 : w10.cell? ⟨w.heap.size, 0, none⟩ = some (.int .i64 x0.1) := (gw10.cell (by first | omega | (simp; try omega))).trans f162
  have f198 : w10.cell? ⟨w.heap.size, 1, none⟩ = some (u0) := (gw10.cell (by first | omega | (simp; try omega))).trans f163
  have f199 : w10.cell? ⟨w.heap.size + 1, 0, none⟩ = some (.int .i64 x1.1) := (gw10.cell (by first | omega | (simp; try omega))).trans f164
  have f200 : w10.cell? ⟨w.heap.size + 1, 1, none⟩ = some (.int .i64 x1.2.1) := (gw10.cell (by first | omega | (simp; try omega))).trans f165
  have f201 : w10.cell? ⟨w.heap.size + 1, 2, none⟩ = some (u1) := (gw10.cell (by first | omega | (simp; try omega))).trans f166
  have f202 : w10.cell? ⟨w.heap.size + 2, 0, none⟩ = some (.int .i64 x3.1) := (gw10.cell (by first | omega | (simp; try omega))).trans f167
  have f203 : w10.cell? ⟨w.heap.size + 2, 1, none⟩ = some (.int .i64 x3.2.1) := (gw10.cell (by first | omega | (simp; try omega))).trans f168
  have f204 : w10.cell? ⟨w.heap.size + 2, 2, none⟩ = some (u3) := (gw10.cell (by first | omega | (simp; try omega))).trans f169
  have f205 : w10.cell? ⟨bb34, 0, none⟩ = some (.int .i64 (repV x0 x1 n2 x3).1) := (gw10.cell (by first | omega | (simp; try omega))).trans f170
  have f206 : w10.cell? ⟨bb34, 1, none⟩ = some (.int .i64 (repV x0 x1 n2 x3).2.1) := (gw10.cell (by first | omega | (simp; try omega))).trans f171
  have f207 : w10.cell? ⟨bb34, 2, none⟩ = some (.slice ad38 (repV x0 x1 n2 x3).2.2.length ad38') := (gw10.cell (by first | omega | (simp; try omega))).trans f172
  have f208 : w10.cell? ⟨w5.heap.size, 0, none⟩ = some (.int .i64 x0.1) := (gw10.cell (by first | omega | (simp; try omega))).trans f173
  have f209 : w10.cell? ⟨w5.heap.size, 1, none⟩ = some (.slice ad72 x0.2.length ad72') := (gw10.cell (by first | omega | (simp; try omega))).trans f174
  have f210 : w10.cell? ⟨w6.heap.size, 0, none⟩ = some (.int .i64 x1.1) := (gw10.cell (by first | omega | (simp; try omega))).trans f175
  have f211 : w10.cell? ⟨w6.heap.size, 1, none⟩ = some (.int .i64 x1.2.1) := (gw10.cell (by first | omega | (simp; try omega))).trans f176
  have f212 : w10.cell? ⟨w6.heap.size, 2, none⟩ = some (.slice ad96 x1.2.2.length ad96') := (gw10.cell (by first | omega | (simp; try omega))).trans f177
  have f213 : w10.cell? ⟨w7.heap.size, 0, none⟩ = some (.int .i64 x3.1) := (gw10.cell (by first | omega | (simp; try omega))).trans f178
  have f214 : w10.cell? ⟨w7.heap.size, 1, none⟩ = some (.int .i64 x3.2.1) := (gw10.cell (by first | omega | (simp; try omega))).trans f179
  have f215 : w10.cell? ⟨w7.heap.size, 2, none⟩ = some (.slice ad125 x3.2.2.length ad125') := (gw10.cell (by first | omega | (simp; try omega))).trans f180
  have f216 : w10.cell? ⟨w8.heap.size, 0, none⟩ = some (.int .i64 (repV x0 x1 n2 x3).1) := (gw10.cell (by first | omega | (simp; try omega))).trans f181
  have f217 : w10.cell? ⟨w8.heap.size, 1, none⟩ = some (.int .i64 (repV x0 x1 n2 x3).2.1) := (gw10.cell (by first | omega | (simp; try omega))).trans f182
  have f218 : w10.cell? ⟨w8.heap.size, 2, none⟩ = some (.slice ad159 (repV x0 x1 n2 x3).2.2.length ad159') := (gw10.cell (by first | omega | (simp; try omega))).trans f183
  have z219 : w.heap.size < w10.heap.size := by omega
  have z220 : w.heap.size + 1 < w10.heap.size := by omega
  have z221 : w.heap.size + 2 < w10.heap.size := by omega
  have z222 : bb34 < w10.heap.size := by omega
  have z223 : w5.heap.size < w10.heap.size := by omega
  have z224 : w6.heap.size < w10.heap.size := by omega
  have z225 : w7.heap.size < w10.heap.size := by omega
  have z226 : w8.heap.size < w10.heap.size := by omega
  have d227 : frmT.Fx w3.heap.size w4.heap.size w10 [.int .i64 (repV x0 x1 n2 x3).1, .int .i64 (repV x0 x1 n2 x3).2.1, .slice ad38 (repV x0 x1 n2 x3).2.2.length ad38'] (repV x0 x1 n2 x3) := d192.below gw10
  have d228 : tplT.Fx w4.heap.size w5.heap.size w10 [.int .i64 x0.1, .slice ad72 x0.2.length ad72'] x0 := d193.below gw10
  have d229 : frmT.Fx (w5.heap.size + 1) w6.heap.size w10 [.int .i64 x1.1, .int .i64 x1.2.1, .slice ad96 x1.2.2.length ad96'] x1 := d194.below gw10
  have d230 : frmT.Fx (w6.heap.size + 1) w7.heap.size w10 [.int .i64 x3.1, .int .i64 x3.2.1, .slice ad125 x3.2.2.length ad125'] x3 := d195.below gw10
  have d231 : frmT.Fx (w7.heap.size + 1) w8.heap.size w10 [.int .i64 (repV x0 x1 n2 x3).1, .int .i64 (repV x0 x1 n2 x3).2.1, .slice ad159 (repV x0 x1 n2 x3).2.2.length ad159'] (repV x0 x1 n2 x3) := d196.below gw10
  clear hb10 H_w9 f162 f163 f164 f165 f166 f167 f168 f169 f170 f171 f172 f173 f174 f175 f176 f177 f178 f179 f180 f181 f182 f183 d192 d193 d194 d195 d196 z184 z185 z186 z187 z188 z189 z190 z191 gw10
  simp only [putAll, Act.put]
  go_simp
  go_wp2_with fail
  refine wp_region_loose [exV (.agg #[.int .i64 x1.1, .int .i64 x1.2.1, .slice ad96 x1.2.2.length ad96']), exV (.agg #[.int .i64 x1.1, .int .i64 x1.2.1, u1]), rdA frmT x1, exV (.bool true), exV (.bool false)] (by kernel_rfl) (by kernel_rfl) ⟨st_exV, st_exV, st_rdA, st_exV, st_exV, trivial⟩ ⟨?j20_0, ?j20_1, ?j20_2, ?j20_3, ?j20_4, trivial⟩ ?hQ20
  case j20_0 =>
    intro a' w' hb hd
    have e0 : a'.tmps[13]?.getD undef = .pointer (some ⟨w6.heap.size, 0, none⟩) := ev (slot_o hd 13 rfl rfl)
    have q : ∀ b o, b < w10.heap.size → w'.cell? ⟨b, o, none⟩ = w10.cell? ⟨b, o, none⟩ := (bcell hb).1
    go_simp
    exact ⟨Below.refl _ _, rfl⟩
  case j20_1 =>
    intro a' w' hb hd
    have e0 : a'.tmps[5]?.getD undef = .pointer (some ⟨w.heap.size + 1, 0, none⟩) := ev (slot_o hd 5 rfl rfl)
    have q : ∀ b o, b < w10.heap.size → w'.cell? ⟨b, o, none⟩ = w10.cell? ⟨b, o, none⟩ := (bcell hb).1
    go_simp
    exact ⟨Below.refl _ _, rfl⟩
  case j20_2 =>
    intro a' w' hb hd
    have e77 : a'.tmps[77]?.getD undef = .agg #[.int .i64 x1.1, .int .i64 x1.2.1, u1] := ev (slot_w hd 77 (exV (.agg #[.int .i64 x1.1, .int .i64 x1.2.1, u1])) rfl rfl)
    have r77 : frmT.Rd w10 (#[.int .i64 x1.1, .int .i64 x1.2.1, u1] : Array Value).toList x1 := hx1.below H_w10
    have r77' := r77.below hb
    go_simp
    exact ⟨Below.refl _ _, (toFormula_any w' r77' (by first | omega | (unfold szInts; omega))).mono fun e w'' ⟨cs, he, hf, hb⟩ => ⟨_, he, hb, cs, rfl, hf.rd⟩⟩
  case j20_3 =>
    intro a' w' hb hd
    have e76 : a'.tmps[76]?.getD undef = .agg #[.int .i64 x1.1, .int .i64 x1.2.1, .slice ad96 x1.2.2.length ad96'] := ev (slot_w hd 76 (exV (.agg #[.int .i64 x1.1, .int .i64 x1.2.1, .slice ad96 x1.2.2.length ad96'])) rfl rfl)
    have r76 : frmT.Rd w10 (#[.int .i64 x1.1, .int .i64 x1.2.1, .slice ad96 x1.2.2.length ad96'] : Array Value).toList x1 := d229.rd
    have r76' := r76.below hb
    have d78 := slot_w hd 78 (rdA frmT x1) rfl rfl
    obtain ⟨cs78, e78, hf78⟩ := d78
    have e78' := ev e78
    go_simp
    exact ⟨Below.refl _ _, (eqFormula_any w' r76' hf78).mono fun e w'' ⟨he, hb⟩ => ⟨_, he, hb, exV_eqB⟩⟩
  case j20_4 =>
    intro a' w' hb hd
    have e0 : a'.tmps[79]?.getD undef = .bool true := ev (slot_w hd 79 (exV (.bool true)) rfl rfl)
    go_simp
    exact ⟨Below.refl _ _, rfl⟩
  intro vs20 w11 hb11 H0
  obtain ⟨v20_0, _, rfl, p0, H1⟩ := HAll_cons H0
  obtain ⟨v20_1, _, rfl, p1, H2⟩ := HAll_cons H1
  obtain ⟨v20_2, _, rfl, p2, H3⟩ := HAll_cons H2
  obtain ⟨v20_3, _, rfl, p3, H4⟩ := HAll_cons H3
  obtain ⟨v20_4, _, rfl, p4, H5⟩ := HAll_cons H4
  obtain rfl := HAll_nil H5
  obtain rfl := p0 rfl
  obtain rfl := p1 rfl
  obtain rfl := p3 rfl
  obtain rfl := p4 rfl
  clear p0 p1 p2 p3 p4 H0 H1 H2 H3 H4 H5
  have gw11 : Below w10.heap.size w10 w11 := bthen (by repeat (first | exact Below.refl _ _ | exact bA | assumption | refine Below.setCell ?_ (by first | omega | (simp; try omega)) _ | refine Below.alloc ?_ (by first | omega | (simp; try omega)) _ | refine Below.drew ?_ | refine bDN ?_ | refine bthen ?_ (by assumption))) hb11
  have sw11 : w10.heap.size + 0 ≤ w11.heap.size := by have := hb11.size; (try simp at this); omega
  have H_w11 : Below w.heap.size w w11 := bthen H_w10 gw11
  have f232 : w11.cell? ⟨w.heap.size, 0, none⟩ = some (.int .i64 x0.1) := (gw11.cell (by first | omega | (simp; try omega))).trans f197
  have f233 : w11.cell? ⟨w.heap.size, 1, none⟩ = some (u0) := (gw11.cell (by first | omega | (simp; try omega))).trans f198
  have f234 : w11.cell? ⟨w.heap.size + 1, 0, none⟩ = some (.int .i64 x1.1) := (gw11.cell (by first | omega | (simp; try omega))).trans f199
  have f235 : w11.cell? ⟨w.heap.size + 1, 1, none⟩ = some (.int .i64 x1.2.1) := (gw11.cell (by first | omega | (simp; try omega))).trans f200
  have f236 : w11.cell? ⟨w.heap.size + 1, 2, none⟩ = some (u1) := (gw11.cell (by first | omega | (simp; try omega))).trans f201
  have f237 : w11.cell? ⟨w.heap.size + 2, 0, none⟩ = some (.int .i64 x3.1) := (gw11.cell (by first | omega | (simp; try omega))).trans f202
  have f238 : w11.cell? ⟨w.heap.size + 2, 1, none⟩ = some (.int .i64 x3.2.1) := (gw11.cell (by first | omega | (simp; try omega))).trans f203
  have f239 : w11.cell? ⟨w.heap.size + 2, 2, none⟩ = some (u3) := (gw11.cell (by first | omega | (simp; try omega))).trans f204
  have f240 : w11.cell? ⟨bb34, 0, none⟩ = some (.int .i64 (repV x0 x1 n2 x3).1) := (gw11.cell (by first | omega | (simp; try omega))).trans f205
  have f241 : w11.cell? ⟨bb34, 1, none⟩ = some (.int .i64 (repV x0 x1 n2 x3).2.1) := (gw11.cell (by first | omega | (simp; try omega))).trans f206
  have f242 : w11.cell? ⟨bb34, 2, none⟩ = some (.slice ad38 (repV x0 x1 n2 x3).2.2.length ad38') := (gw11.cell (by first | omega | (simp; try omega))).trans f207
  have f243 : w11.cell? ⟨w5.heap.size, 0, none⟩ = some (.int .i64 x0.1) := (gw11.cell (by first | omega | (simp; try omega))).trans f208
  have f244 : w11.cell? ⟨w5.heap.size, 1, none⟩ = some (.slice ad72 x0.2.length ad72') := (gw11.cell (by first | omega | (simp; try omega))).trans f209
  have f245 : w11.cell? ⟨w6.heap.size, 0, none⟩ = some (.int .i64 x1.1) := (gw11.cell (by first | omega | (simp; try omega))).trans f210
  have f246 : w11.cell? ⟨w6.heap.size, 1, none⟩ = some (.int .i64 x1.2.1) := (gw11.cell (by first | omega | (simp; try omega))).trans f211
  have f247 : w11.cell? ⟨w6.heap.size, 2, none⟩ = some (.slice ad96 x1.2.2.length ad96') := (gw11.cell (by first | omega | (simp; try omega))).trans f212
  have f248 : w11.cell? ⟨w7.heap.size, 0, none⟩ = some (.int .i64 x3.1) := (gw11.cell (by first | omega | (simp; try omega))).trans f213
  have f249 : w11.cell? ⟨w7.heap.size, 1, none⟩ = some (.int .i64 x3.2.1) := (gw11.cell (by first | omega | (simp; try omega))).trans f214
  have f250 : w11.cell? ⟨w7.heap.size, 2, none⟩ = some (.slice ad125 x3.2.2.length ad125') := (gw11.cell (by first | omega | (simp; try omega))).trans f215
  have f251 : w11.cell? ⟨w8.heap.size, 0, none⟩ = some (.int .i64 (repV x0 x1 n2 x3).1) := (gw11.cell (by first | omega | (simp; try omega))).trans f216
  have f252 : w11.cell? ⟨w8.heap.size, 1, none⟩ = some (.int .i64 (repV x0 x1 n2 x3).2.1) := (gw11.cell (by first | omega | (simp; try omega))).trans f217
  have f253 : w11.cell? ⟨w8.heap.size, 2, none⟩ = some (.slice ad159 (repV x0 x1 n2 x3).2.2.length ad159') := (gw11.cell (by first | omega | (simp; try omega))).trans f218
  have z254 : w.heap.size < w11.heap.size := by omega
  have z255 : w.heap.size + 1 < w11.heap.size := by omega
  have z256 : w.heap.size + 2 < w11.heap.size := by omega
  have z257 : bb34 < w11.heap.size := by omega
  have z258 : w5.heap.size < w11.heap.size := by omega
  have z259 : w6.heap.size < w11.heap.size := by omega
  have z260 : w7.heap.size < w11.heap.size := by omega
  have z261 : w8.heap.size < w11.heap.size := by omega
  have d262 : frmT.Fx w3.heap.size w4.heap.size w11 [.int .i64 (repV x0 x1 n2 x3).1, .int .i64 (repV x0 x1 n2 x3).2.1, .slice ad38 (repV x0 x1 n2 x3).2.2.length ad38'] (repV x0 x1 n2 x3) := d227.below gw11
  have d263 : tplT.Fx w4.heap.size w5.heap.size w11 [.int .i64 x0.1, .slice ad72 x0.2.length ad72'] x0 := d228.below gw11
  have d264 : frmT.Fx (w5.heap.size + 1) w6.heap.size w11 [.int .i64 x1.1, .int .i64 x1.2.1, .slice ad96 x1.2.2.length ad96'] x1 := d229.below gw11
  have d265 : frmT.Fx (w6.heap.size + 1) w7.heap.size w11 [.int .i64 x3.1, .int .i64 x3.2.1, .slice ad125 x3.2.2.length ad125'] x3 := d230.below gw11
  have d266 : frmT.Fx (w7.heap.size + 1) w8.heap.size w11 [.int .i64 (repV x0 x1 n2 x3).1, .int .i64 (repV x0 x1 n2 x3).2.1, .slice ad159 (repV x0 x1 n2 x3).2.2.length ad159'] (repV x0 x1 n2 x3) := d231.below gw11
  clear hb11 H_w10 f197 f198 f199 f200 f201 f202 f203 f204 f205 f206 f207 f208 f209 f210 f211 f212 f213 f214 f215 f216 f217 f218 d227 d228 d229 d230 d231 z219 z220 z221 z222 z223 z224 z225 z226 gw11
  simp only [putAll, Act.put]
  go_simp
  go_wp2_with fail
  refine wp_region_loose [exV (.agg #[.int .i64 x3.1, .int .i64 x3.2.1, .slice ad125 x3.2.2.length ad125']), exV (.agg #[.int .i64 x3.1, .int .i64 x3.2.1, u3]), rdA frmT x3, exV (.bool true), exV (.bool false)] (by kernel_rfl) (by kernel_rfl) ⟨st_exV, st_exV, st_rdA, st_exV, st_exV, trivial⟩ ⟨?j22_0, ?j22_1, ?j22_2, ?j22_3, ?j22_4, trivial⟩ ?hQ22
  case j22_0 =>
    intro a' w' hb hd
    have e0 : a'.tmps[14]?.getD undef = .pointer (some ⟨w7.heap.size, 0, none⟩) := ev (slot_o hd 14 rfl rfl)
    have q : ∀ b o, b < w11.heap.size → w'.cell? ⟨b, o, none⟩ = w11.cell? ⟨b, o, none⟩ := (bcell hb).1
    go_simp
    exact ⟨Below.refl _ _, rfl⟩
  case j22_1 =>
    intro a' w' hb hd
    have e0 : a'.tmps[7]?.getD undef = .pointer (some ⟨w.heap.size + 2, 0, none⟩) := ev (slot_o hd 7 rfl rfl)
    have q : ∀ b o, b < w11.heap.size → w'.cell? ⟨b, o, none⟩ = w11.cell? ⟨b, o, none⟩ := (bcell hb).1
    go_simp
    exact ⟨Below.refl _ _, rfl⟩
  case j22_2 =>
    intro a' w' hb hd
    have e82 : a'.tmps[82]?.getD undef = .agg #[.int .i64 x3.1, .int .i64 x3.2.1, u3] := ev (slot_w hd 82 (exV (.agg #[.int .i64 x3.1, .int .i64 x3.2.1, u3])) rfl rfl)
    have r82 : frmT.Rd w11 (#[.int .i64 x3.1, .int .i64 x3.2.1, u3] : Array Value).toList x3 := hx3.below H_w11
    have r82' := r82.below hb
    go_simp
    exact ⟨Below.refl _ _, (toFormula_any w' r82' (by first | omega | (unfold szInts; omega))).mono fun e w'' ⟨cs, he, hf, hb⟩ => ⟨_, he, hb, cs, rfl, hf.rd⟩⟩
  case j22_3 =>
    intro a' w' hb hd
    have e81 : a'.tmps[81]?.getD undef = .agg #[.int .i64 x3.1, .int .i64 x3.2.1, .slice ad125 x3.2.2.length ad125'] := ev (slot_w hd 81 (exV (.agg #[.int .i64 x3.1, .int .i64 x3.2.1, .slice ad125 x3.2.2.length ad125'])) rfl rfl)
    have r81 : frmT.Rd w11 (#[.int .i64 x3.1, .int .i64 x3.2.1, .slice ad125 x3.2.2.length ad125'] : Array Value).toList x3 := d265.rd
    have r81' := r81.below hb
    have d83 := slot_w hd 83 (rdA frmT x3) rfl rfl
    obtain ⟨cs83, e83, hf83⟩ := d83
    have e83' := ev e83
    go_simp
    exact ⟨Below.refl _ _, (eqFormula_any w' r81' hf83).mono fun e w'' ⟨he, hb⟩ => ⟨_, he, hb, exV_eqB⟩⟩
  case j22_4 =>
    intro a' w' hb hd
    have e0 : a'.tmps[84]?.getD undef = .bool true := ev (slot_w hd 84 (exV (.bool true)) rfl rfl)
    go_simp
    exact ⟨Below.refl _ _, rfl⟩
  intro vs22 w12 hb12 H0
  obtain ⟨v22_0, _, rfl, p0, H1⟩ := HAll_cons H0
  obtain ⟨v22_1, _, rfl, p1, H2⟩ := HAll_cons H1
  obtain ⟨v22_2, _, rfl, p2, H3⟩ := HAll_cons H2
  obtain ⟨v22_3, _, rfl, p3, H4⟩ := HAll_cons H3
  obtain ⟨v22_4, _, rfl, p4, H5⟩ := HAll_cons H4
  obtain rfl := HAll_nil H5
  obtain rfl := p0 rfl
  obtain rfl := p1 rfl
  obtain rfl := p3 rfl
  obtain rfl := p4 rfl
  clear p0 p1 p2 p3 p4 H0 H1 H2 H3 H4 H5
  have gw12 : Below w11.heap.size w11 w12 := bthen (by repeat (first | exact Below.refl _ _ | exact bA | assumption | refine Below.setCell ?_ (by first | omega | (simp; try omega)) _ | refine Below.alloc ?_ (by first | omega | (simp; try omega)) _ | refine Below.drew ?_ | refine bDN ?_ | refine bthen ?_ (by assumption))) hb12
  have sw12 : w11.heap.size + 0 ≤ w12.heap.size := by have := hb12.size; (try simp at this); omega
  have H_w12 : Below w.heap.size w w12 := bthen H_w11 gw12
  have f267 : w12.cell? ⟨w.heap.size, 0, none⟩ = some (.int .i64 x0.1) := (gw12.cell (by first | omega | (simp; try omega))).trans f232
  have f268 : w12.cell? ⟨w.heap.size, 1, none⟩ = some (u0) := (gw12.cell (by first | omega | (simp; try omega))).trans f233
  have f269 : w12.cell? ⟨w.heap.size + 1, 0, none⟩ = some (.int .i64 x1.1) := (gw12.cell (by first | omega | (simp; try omega))).trans f234
  have f270 : w12.cell? ⟨w.heap.size + 1, 1, none⟩ = some (.int .i64 x1.2.1) := (gw12.cell (by first | omega | (simp; try omega))).trans f235
  have f271 : w12.cell? ⟨w.heap.size + 1, 2, none⟩ = some (u1) := (gw12.cell (by first | omega | (simp; try omega))).trans f236
  have f272 : w12.cell? ⟨w.heap.size + 2, 0, none⟩ = some (.int .i64 x3.1) := (gw12.cell (by first | omega | (simp; try omega))).trans f237
  have f273 : w12.cell? ⟨w.heap.size + 2, 1, none⟩ = some (.int .i64 x3.2.1) := (gw12.cell (by first | omega | (simp; try omega))).trans f238
  have f274 : w12.cell? ⟨w.heap.size + 2, 2, none⟩ = some (u3) := (gw12.cell (by first | omega | (simp; try omega))).trans f239
  have f275 : w12.cell? ⟨bb34, 0, none⟩ = some (.int .i64 (repV x0 x1 n2 x3).1) := (gw12.cell (by first | omega | (simp; try omega))).trans f240
  have f276 : w12.cell? ⟨bb34, 1, none⟩ = some (.int .i64 (repV x0 x1 n2 x3).2.1) := (gw12.cell (by first | omega | (simp; try omega))).trans f241
  have f277 : w12.cell? ⟨bb34, 2, none⟩ = some (.slice ad38 (repV x0 x1 n2 x3).2.2.length ad38') := (gw12.cell (by first | omega | (simp; try omega))).trans f242
  have f278 : w12.cell? ⟨w5.heap.size, 0, none⟩ = some (.int .i64 x0.1) := (gw12.cell (by first | omega | (simp; try omega))).trans f243
  have f279 : w12.cell? ⟨w5.heap.size, 1, none⟩ = some (.slice ad72 x0.2.length ad72') := (gw12.cell (by first | omega | (simp; try omega))).trans f244
  have f280 : w12.cell? ⟨w6.heap.size, 0, none⟩ = some (.int .i64 x1.1) := (gw12.cell (by first | omega | (simp; try omega))).trans f245
  have f281 : w12.cell? ⟨w6.heap.size, 1, none⟩ = some (.int .i64 x1.2.1) := (gw12.cell (by first | omega | (simp; try omega))).trans f246
  have f282 : w12.cell? ⟨w6.heap.size, 2, none⟩ = some (.slice ad96 x1.2.2.length ad96') := (gw12.cell (by first | omega | (simp; try omega))).trans f247
  have f283 : w12.cell? ⟨w7.heap.size, 0, none⟩ = some (.int .i64 x3.1) := (gw12.cell (by first | omega | (simp; try omega))).trans f248
  have f284 : w12.cell? ⟨w7.heap.size, 1, none⟩ = some (.int .i64 x3.2.1) := (gw12.cell (by first | omega | (simp; try omega))).trans f249
  have f285 : w12.cell? ⟨w7.heap.size, 2, none⟩ = some (.slice ad125 x3.2.2.length ad125') := (gw12.cell (by first | omega | (simp; try omega))).trans f250
  have f286 : w12.cell? ⟨w8.heap.size, 0, none⟩ = some (.int .i64 (repV x0 x1 n2 x3).1) := (gw12.cell (by first | omega | (simp; try omega))).trans f251
  have f287 : w12.cell? ⟨w8.heap.size, 1, none⟩ = some (.int .i64 (repV x0 x1 n2 x3).2.1) := (gw12.cell (by first | omega | (simp; try omega))).trans f252
  have f288 : w12.cell? ⟨w8.heap.size, 2, none⟩ = some (.slice ad159 (repV x0 x1 n2 x3).2.2.length ad159') := (gw12.cell (by first | omega | (simp; try omega))).trans f253
  have z289 : w.heap.size < w12.heap.size := by omega
  have z290 : w.heap.size + 1 < w12.heap.size := by omega
  have z291 : w.heap.size + 2 < w12.heap.size := by omega
  have z292 : bb34 < w12.heap.size := by omega
  have z293 : w5.heap.size < w12.heap.size := by omega
  have z294 : w6.heap.size < w12.heap.size := by omega
  have z295 : w7.heap.size < w12.heap.size := by omega
  have z296 : w8.heap.size < w12.heap.size := by omega
  have d297 : frmT.Fx w3.heap.size w4.heap.size w12 [.int .i64 (repV x0 x1 n2 x3).1, .int .i64 (repV x0 x1 n2 x3).2.1, .slice ad38 (repV x0 x1 n2 x3).2.2.length ad38'] (repV x0 x1 n2 x3) := d262.below gw12
  have d298 : tplT.Fx w4.heap.size w5.heap.size w12 [.int .i64 x0.1, .slice ad72 x0.2.length ad72'] x0 := d263.below gw12
  have d299 : frmT.Fx (w5.heap.size + 1) w6.heap.size w12 [.int .i64 x1.1, .int .i64 x1.2.1, .slice ad96 x1.2.2.length ad96'] x1 := d264.below gw12
  have d300 : frmT.Fx (w6.heap.size + 1) w7.heap.size w12 [.int .i64 x3.1, .int .i64 x3.2.1, .slice ad125 x3.2.2.length ad125'] x3 := d265.below gw12
  have d301 : frmT.Fx (w7.heap.size + 1) w8.heap.size w12 [.int .i64 (repV x0 x1 n2 x3).1, .int .i64 (repV x0 x1 n2 x3).2.1, .slice ad159 (repV x0 x1 n2 x3).2.2.length ad159'] (repV x0 x1 n2 x3) := d266.below gw12
  clear hb12 H_w11 f232 f233 f234 f235 f236 f237 f238 f239 f240 f241 f242 f243 f244 f245 f246 f247 f248 f249 f250 f251 f252 f253 d262 d263 d264 d265 d266 z254 z255 z256 z257 z258 z259 z260 z261 gw12
  simp only [putAll, Act.put]
  go_simp
  go_wp2_with fail
  refine (markTemplate_fx _ d298 _ (by omega) (by omega)).mono ?_
  rintro e w13 ⟨rfl, hb13, d302⟩
  clear d298
  have sw13 : w12.heap.size ≤ w13.heap.size := hb13.size
  have H_w13 : Below w.heap.size w w13 := below_tch H_w12 hb13 (by omega) (by omega)
  have f303 : w13.cell? ⟨w.heap.size, 0, none⟩ = some (.int .i64 x0.1) := (hb13.cell (by omega) (by omega)).trans f267
  have f304 : w13.cell? ⟨w.heap.size, 1, none⟩ = some (u0) := (hb13.cell (by omega) (by omega)).trans f268
  have f305 : w13.cell? ⟨w.heap.size + 1, 0, none⟩ = some (.int .i64 x1.1) := (hb13.cell (by omega) (by omega)).trans f269
  have f306 : w13.cell? ⟨w.heap.size + 1, 1, none⟩ = some (.int .i64 x1.2.1) := (hb13.cell (by omega) (by omega)).trans f270
  have f307 : w13.cell? ⟨w.heap.size + 1, 2, none⟩ = some (u1) := (hb13.cell (by omega) (by omega)).trans f271
  have f308 : w13.cell? ⟨w.heap.size + 2, 0, none⟩ = some (.int .i64 x3.1) := (hb13.cell (by omega) (by omega)).trans f272
  have f309 : w13.cell? ⟨w.heap.size + 2, 1, none⟩ = some (.int .i64 x3.2.1) := (hb13.cell (by omega) (by omega)).trans f273
  have f310 : w13.cell? ⟨w.heap.size + 2, 2, none⟩ = some (u3) := (hb13.cell (by omega) (by omega)).trans f274
  have f311 : w13.cell? ⟨bb34, 0, none⟩ = some (.int .i64 (repV x0 x1 n2 x3).1) := (hb13.cell (by omega) (by omega)).trans f275
  have f312 : w13.cell? ⟨bb34, 1, none⟩ = some (.int .i64 (repV x0 x1 n2 x3).2.1) := (hb13.cell (by omega) (by omega)).trans f276
  have f313 : w13.cell? ⟨bb34, 2, none⟩ = some (.slice ad38 (repV x0 x1 n2 x3).2.2.length ad38') := (hb13.cell (by omega) (by omega)).trans f277
  have f314 : w13.cell? ⟨w5.heap.size, 0, none⟩ = some (.int .i64 x0.1) := (hb13.cell (by omega) (by omega)).trans f278
  have f315 : w13.cell? ⟨w5.heap.size, 1, none⟩ = some (.slice ad72 x0.2.length ad72') := (hb13.cell (by omega) (by omega)).trans f279
  have f316 : w13.cell? ⟨w6.heap.size, 0, none⟩ = some (.int .i64 x1.1) := (hb13.cell (by omega) (by omega)).trans f280
  have f317 : w13.cell? ⟨w6.heap.size, 1, none⟩ = some (.int .i64 x1.2.1) := (hb13.cell (by omega) (by omega)).trans f281
  have f318 : w13.cell? ⟨w6.heap.size, 2, none⟩ = some (.slice ad96 x1.2.2.length ad96') := (hb13.cell (by omega) (by omega)).trans f282
  have f319 : w13.cell? ⟨w7.heap.size, 0, none⟩ = some (.int .i64 x3.1) := (hb13.cell (by omega) (by omega)).trans f283
  have f320 : w13.cell? ⟨w7.heap.size, 1, none⟩ = some (.int .i64 x3.2.1) := (hb13.cell (by omega) (by omega)).trans f284
  have f321 : w13.cell? ⟨w7.heap.size, 2, none⟩ = some (.slice ad125 x3.2.2.length ad125') := (hb13.cell (by omega) (by omega)).trans f285
  have f322 : w13.cell? ⟨w8.heap.size, 0, none⟩ = some (.int .i64 (repV x0 x1 n2 x3).1) := (hb13.cell (by omega) (by omega)).trans f286
  have f323 : w13.cell? ⟨w8.heap.size, 1, none⟩ = some (.int .i64 (repV x0 x1 n2 x3).2.1) := (hb13.cell (by omega) (by omega)).trans f287
  have f324 : w13.cell? ⟨w8.heap.size, 2, none⟩ = some (.slice ad159 (repV x0 x1 n2 x3).2.2.length ad159') := (hb13.cell (by omega) (by omega)).trans f288
  have z325 : w.heap.size < w13.heap.size := by omega
  have z326 : w.heap.size + 1 < w13.heap.size := by omega
  have z327 : w.heap.size + 2 < w13.heap.size := by omega
  have z328 : bb34 < w13.heap.size := by omega
  have z329 : w5.heap.size < w13.heap.size := by omega
  have z330 : w6.heap.size < w13.heap.size := by omega
  have z331 : w7.heap.size < w13.heap.size := by omega
  have z332 : w8.heap.size < w13.heap.size := by omega
  have d333 : frmT.Fx w3.heap.size w4.heap.size w13 [.int .i64 (repV x0 x1 n2 x3).1, .int .i64 (repV x0 x1 n2 x3).2.1, .slice ad38 (repV x0 x1 n2 x3).2.2.length ad38'] (repV x0 x1 n2 x3) := d297.tch hb13 (by omega)
  have d334 : frmT.Fx (w5.heap.size + 1) w6.heap.size w13 [.int .i64 x1.1, .int .i64 x1.2.1, .slice ad96 x1.2.2.length ad96'] x1 := d299.tch hb13 (by omega)
  have d335 : frmT.Fx (w6.heap.size + 1) w7.heap.size w13 [.int .i64 x3.1, .int .i64 x3.2.1, .slice ad125 x3.2.2.length ad125'] x3 := d300.tch hb13 (by omega)
  have d336 : frmT.Fx (w7.heap.size + 1) w8.heap.size w13 [.int .i64 (repV x0 x1 n2 x3).1, .int .i64 (repV x0 x1 n2 x3).2.1, .slice ad159 (repV x0 x1 n2 x3).2.2.length ad159'] (repV x0 x1 n2 x3) := d301.tch hb13 (by omega)
  clear hb13 H_w12 f267 f268 f269 f270 f271 f272 f273 f274 f275 f276 f277 f278 f279 f280 f281 f282 f283 f284 f285 f286 f287 f288 d297 d299 d300 d301 z289 z290 z291 z292 z293 z294 z295 z296
  have hk337 : 0 ≤ (1 + cntTpl x0) := by omega
  go_wp2_with fail
  refine (markFormula_fx _ d334 _ (by omega) (by omega)).mono ?_
  rintro e w14 ⟨rfl, hb14, d338⟩
  clear d334
  have sw14 : w13.heap.size ≤ w14.heap.size := hb14.size
  have H_w14 : Below w.heap.size w w14 := below_tch H_w13 hb14 (by omega) (by omega)
  have f339 : w14.cell? ⟨w.heap.size, 0, none⟩ = some (.int .i64 x0.1) := (hb14.cell (by omega) (by omega)).trans f303
  have f340 : w14.cell? ⟨w.heap.size, 1, none⟩ = some (u0) := (hb14.cell (by omega) (by omega)).trans f304
  have f341 : w14.cell? ⟨w.heap.size + 1, 0, none⟩ = some (.int .i64 x1.1) := (hb14.cell (by omega) (by omega)).trans f305
  have f342 : w14.cell? ⟨w.heap.size + 1, 1, none⟩ = some (.int .i64 x1.2.1) := (hb14.cell (by omega) (by omega)).trans f306
  have f343 : w14.cell? ⟨w.heap.size + 1, 2, none⟩ = some (u1) := (hb14.cell (by omega) (by omega)).trans f307
  have f344 : w14.cell? ⟨w.heap.size + 2, 0, none⟩ = some (.int .i64 x3.1) := (hb14.cell (by omega) (by omega)).trans f308
  have f345 : w14.cell? ⟨w.heap.size + 2, 1, none⟩ = some (.int .i64 x3.2.1) := (hb14.cell (by omega) (by omega)).trans f309
  have f346 : w14.cell? ⟨w.heap.size + 2, 2, none⟩ = some (u3) := (hb14.cell (by omega) (by omega)).trans f310
  have f347 : w14.cell? ⟨bb34, 0, none⟩ = some (.int .i64 (repV x0 x1 n2 x3).1) := (hb14.cell (by omega) (by omega)).trans f311
  have f348 : w14.cell? ⟨bb34, 1, none⟩ = some (.int .i64 (repV x0 x1 n2 x3).2.1) := (hb14.cell (by omega) (by omega)).trans f312
  have f349 : w14.cell? ⟨bb34, 2, none⟩ = some (.slice ad38 (repV x0 x1 n2 x3).2.2.length ad38') := (hb14.cell (by omega) (by omega)).trans f313
  have f350 : w14.cell? ⟨w5.heap.size, 0, none⟩ = some (.int .i64 x0.1) := (hb14.cell (by omega) (by omega)).trans f314
  have f351 : w14.cell? ⟨w5.heap.size, 1, none⟩ = some (.slice ad72 x0.2.length ad72') := (hb14.cell (by omega) (by omega)).trans f315
  have f352 : w14.cell? ⟨w6.heap.size, 0, none⟩ = some (.int .i64 x1.1) := (hb14.cell (by omega) (by omega)).trans f316
  have f353 : w14.cell? ⟨w6.heap.size, 1, none⟩ = some (.int .i64 x1.2.1) := (hb14.cell (by omega) (by omega)).trans f317
  have f354 : w14.cell? ⟨w6.heap.size, 2, none⟩ = some (.slice ad96 x1.2.2.length ad96') := (hb14.cell (by omega) (by omega)).trans f318
  have f355 : w14.cell? ⟨w7.heap.size, 0, none⟩ = some (.int .i64 x3.1) := (hb14.cell (by omega) (by omega)).trans f319
  have f356 : w14.cell? ⟨w7.heap.size, 1, none⟩ = some (.int .i64 x3.2.1) := (hb14.cell (by omega) (by omega)).trans f320
  have f357 : w14.cell? ⟨w7.heap.size, 2, none⟩ = some (.slice ad125 x3.2.2.length ad125') := (hb14.cell (by omega) (by omega)).trans f321
  have f358 : w14.cell? ⟨w8.heap.size, 0, none⟩ = some (.int .i64 (repV x0 x1 n2 x3).1) := (hb14.cell (by omega) (by omega)).trans f322
  have f359 : w14.cell? ⟨w8.heap.size, 1, none⟩ = some (.int .i64 (repV x0 x1 n2 x3).2.1) := (hb14.cell (by omega) (by omega)).trans f323
  have f360 : w14.cell? ⟨w8.heap.size, 2, none⟩ = some (.slice ad159 (repV x0 x1 n2 x3).2.2.length ad159') := (hb14.cell (by omega) (by omega)).trans f324
  have z361 : w.heap.size < w14.heap.size := by omega
  have z362 : w.heap.size + 1 < w14.heap.size := by omega
  have z363 : w.heap.size + 2 < w14.heap.size := by omega
  have z364 : bb34 < w14.heap.size := by omega
  have z365 : w5.heap.size < w14.heap.size := by omega
  have z366 : w6.heap.size < w14.heap.size := by omega
  have z367 : w7.heap.size < w14.heap.size := by omega
  have z368 : w8.heap.size < w14.heap.size := by omega
  have d369 : frmT.Fx w3.heap.size w4.heap.size w14 [.int .i64 (repV x0 x1 n2 x3).1, .int .i64 (repV x0 x1 n2 x3).2.1, .slice ad38 (repV x0 x1 n2 x3).2.2.length ad38'] (repV x0 x1 n2 x3) := d333.tch hb14 (by omega)
  have d370 : tplT.Fx w4.heap.size w5.heap.size w14 [.int .i64 x0.1, .slice ad72 x0.2.length ad72'] (mkTpl 1 x0) := d302.tch hb14 (by omega)
  have d371 : frmT.Fx (w6.heap.size + 1) w7.heap.size w14 [.int .i64 x3.1, .int .i64 x3.2.1, .slice ad125 x3.2.2.length ad125'] x3 := d335.tch hb14 (by omega)
  have d372 : frmT.Fx (w7.heap.size + 1) w8.heap.size w14 [.int .i64 (repV x0 x1 n2 x3).1, .int .i64 (repV x0 x1 n2 x3).2.1, .slice ad159 (repV x0 x1 n2 x3).2.2.length ad159'] (repV x0 x1 n2 x3) := d336.tch hb14 (by omega)
  clear hb14 H_w13 f303 f304 f305 f306 f307 f308 f309 f310 f311 f312 f313 f314 f315 f316 f317 f318 f319 f320 f321 f322 f323 f324 d333 d302 d335 d336 z325 z326 z327 z328 z329 z330 z331 z332
  have hk373 : 0 ≤ ((1 + cntTpl x0) + cntFrm x1) := by omega
  go_wp2_with fail
  refine (markFormula_fx _ d371 _ (by omega) (by omega)).mono ?_
  rintro e w15 ⟨rfl, hb15, d374⟩
  clear d371
  have sw15 : w14.heap.size ≤ w15.heap.size := hb15.size
  have H_w15 : Below w.heap.size w w15 := below_tch H_w14 hb15 (by omega) (by omega)
  have f375 : w15.cell? ⟨w.heap.size, 0, none⟩ = some (.int .i64 x0.1) := (hb15.cell (by omega) (by omega)).trans f339
  have f376 : w15.cell? ⟨w.heap.size, 1, none⟩ = some (u0) := (hb15.cell (by omega) (by omega)).trans f340
  have f377 : w15.cell? ⟨w.heap.size + 1, 0, none⟩ = some (.int .i64 x1.1) := (hb15.cell (by omega) (by omega)).trans f341
  have f378 : w15.cell? ⟨w.heap.size + 1, 1, none⟩ = some (.int .i64 x1.2.1) := (hb15.cell (by omega) (by omega)).trans f342
  have f379 : w15.cell? ⟨w.heap.size + 1, 2, none⟩ = some (u1) := (hb15.cell (by omega) (by omega)).trans f343
  have f380 : w15.cell? ⟨w.heap.size + 2, 0, none⟩ = some (.int .i64 x3.1) := (hb15.cell (by omega) (by omega)).trans f344
  have f381 : w15.cell? ⟨w.heap.size + 2, 1, none⟩ = some (.int .i64 x3.2.1) := (hb15.cell (by omega) (by omega)).trans f345
  have f382 : w15.cell? ⟨w.heap.size + 2, 2, none⟩ = some (u3) := (hb15.cell (by omega) (by omega)).trans f346
  have f383 : w15.cell? ⟨bb34, 0, none⟩ = some (.int .i64 (repV x0 x1 n2 x3).1) := (hb15.cell (by omega) (by omega)).trans f347
  have f384 : w15.cell? ⟨bb34, 1, none⟩ = some (.int .i64 (repV x0 x1 n2 x3).2.1) := (hb15.cell (by omega) (by omega)).trans f348
  have f385 : w15.cell? ⟨bb34, 2, none⟩ = some (.slice ad38 (repV x0 x1 n2 x3).2.2.length ad38') := (hb15.cell (by omega) (by omega)).trans f349
  have f386 : w15.cell? ⟨w5.heap.size, 0, none⟩ = some (.int .i64 x0.1) := (hb15.cell (by omega) (by omega)).trans f350
  have f387 : w15.cell? ⟨w5.heap.size, 1, none⟩ = some (.slice ad72 x0.2.length ad72') := (hb15.cell (by omega) (by omega)).trans f351
  have f388 : w15.cell? ⟨w6.heap.size, 0, none⟩ = some (.int .i64 x1.1) := (hb15.cell (by omega) (by omega)).trans f352
  have f389 : w15.cell? ⟨w6.heap.size, 1, none⟩ = some (.int .i64 x1.2.1) := (hb15.cell (by omega) (by omega)).trans f353
  have f390 : w15.cell? ⟨w6.heap.size, 2, none⟩ = some (.slice ad96 x1.2.2.length ad96') := (hb15.cell (by omega) (by omega)).trans f354
  have f391 : w15.cell? ⟨w7.heap.size, 0, none⟩ = some (.int .i64 x3.1) := (hb15.cell (by omega) (by omega)).trans f355
  have f392 : w15.cell? ⟨w7.heap.size, 1, none⟩ = some (.int .i64 x3.2.1) := (hb15.cell (by omega) (by omega)).trans f356
  have f393 : w15.cell? ⟨w7.heap.size, 2, none⟩ = some (.slice ad125 x3.2.2.length ad125') := (hb15.cell (by omega) (by omega)).trans f357
  have f394 : w15.cell? ⟨w8.heap.size, 0, none⟩ = some (.int .i64 (repV x0 x1 n2 x3).1) := (hb15.cell (by omega) (by omega)).trans f358
  have f395 : w15.cell? ⟨w8.heap.size, 1, none⟩ = some (.int .i64 (repV x0 x1 n2 x3).2.1) := (hb15.cell (by omega) (by omega)).trans f359
  have f396 : w15.cell? ⟨w8.heap.size, 2, none⟩ = some (.slice ad159 (repV x0 x1 n2 x3).2.2.length ad159') := (hb15.cell (by omega) (by omega)).trans f360
  have z397 : w.heap.size < w15.heap.size := by omega
  have z398 : w.heap.size + 1 < w15.heap.size := by omega
  have z399 : w.heap.size + 2 < w15.heap.size := by omega
  have z400 : bb34 < w15.heap.size := by omega
  have z401 : w5.heap.size < w15.heap.size := by omega
  have z402 : w6.heap.size < w15.heap.size := by omega
  have z403 : w7.heap.size < w15.heap.size := by omega
  have z404 : w8.heap.size < w15.heap.size := by omega
  have d405 : frmT.Fx w3.heap.size w4.heap.size w15 [.int .i64 (repV x0 x1 n2 x3).1, .int .i64 (repV x0 x1 n2 x3).2.1, .slice ad38 (repV x0 x1 n2 x3).2.2.length ad38'] (repV x0 x1 n2 x3) := d369.tch hb15 (by omega)
  have d406 : tplT.Fx w4.heap.size w5.heap.size w15 [.int .i64 x0.1, .slice ad72 x0.2.length ad72'] (mkTpl 1 x0) := d370.tch hb15 (by omega)
  have d407 : frmT.Fx (w5.heap.size + 1) w6.heap.size w15 [.int .i64 x1.1, .int .i64 x1.2.1, .slice ad96 x1.2.2.length ad96'] (mkFrm (1 + cntTpl x0) x1) := d338.tch hb15 (by omega)
  have d408 : frmT.Fx (w7.heap.size + 1) w8.heap.size w15 [.int .i64 (repV x0 x1 n2 x3).1, .int .i64 (repV x0 x1 n2 x3).2.1, .slice ad159 (repV x0 x1 n2 x3).2.2.length ad159'] (repV x0 x1 n2 x3) := d372.tch hb15 (by omega)
  clear hb15 H_w14 f339 f340 f341 f342 f343 f344 f345 f346 f347 f348 f349 f350 f351 f352 f353 f354 f355 f356 f357 f358 f359 f360 d369 d370 d338 d372 z361 z362 z363 z364 z365 z366 z367 z368
  have hk409 : 0 ≤ (((1 + cntTpl x0) + cntFrm x1) + cntFrm x3) := by omega
  go_wp2_with fail
  refine (eqFormula_any _ (d408.rd.below (by repeat (first | exact Below.refl _ _ | exact bA | assumption | refine Below.setCell ?_ (by first | omega | (simp; try omega)) _ | refine Below.alloc ?_ (by first | omega | (simp; try omega)) _ | refine Below.drew ?_ | refine bDN ?_ | refine bthen ?_ (by assumption)))) (d405.rd.below (by repeat (first | exact Below.refl _ _ | exact bA | assumption | refine Below.setCell ?_ (by first | omega | (simp; try omega)) _ | refine Below.alloc ?_ (by first | omega | (simp; try omega)) _ | refine Below.drew ?_ | refine bDN ?_ | refine bthen ?_ (by assumption))))).mono ?_
  rintro e w16 ⟨rfl, hb16⟩
  have gw16 : Below w15.heap.size w15 w16 := bthen (by repeat (first | exact Below.refl _ _ | exact bA | assumption | refine Below.setCell ?_ (by first | omega | (simp; try omega)) _ | refine Below.alloc ?_ (by first | omega | (simp; try omega)) _ | refine Below.drew ?_ | refine bDN ?_ | refine bthen ?_ (by assumption))) hb16
  have sw16 : w15.heap.size + 0 ≤ w16.heap.size := by have := hb16.size; (try simp at this); omega
  have H_w16 : Below w.heap.size w w16 := bthen H_w15 gw16
  have f410 : w16.cell? ⟨w.heap.size, 0, none⟩ = some (.int .i64 x0.1) := (gw16.cell (by first | omega | (simp; try omega))).trans f375
  have f411 : w16.cell? ⟨w.heap.size, 1, none⟩ = some (u0) := (gw16.cell (by first | omega | (simp; try omega))).trans f376
  have f412 : w16.cell? ⟨w.heap.size + 1, 0, none⟩ = some (.int .i64 x1.1) := (gw16.cell (by first | omega | (simp; try omega))).trans f377
  have f413 : w16.cell? ⟨w.heap.size + 1, 1, none⟩ = some (.int .i64 x1.2.1) := (gw16.cell (by first | omega | (simp; try omega))).trans f378
  have f414 : w16.cell? ⟨w.heap.size + 1, 2, none⟩ = some (u1) := (gw16.cell (by first | omega | (simp; try omega))).trans f379
  have f415 : w16.cell? ⟨w.heap.size + 2, 0, none⟩ = some (.int .i64 x3.1) := (gw16.cell (by first | omega | (simp; try omega))).trans f380
  have f416 : w16.cell? ⟨w.heap.size + 2, 1, none⟩ = some (.int .i64 x3.2.1) := (gw16.cell (by first | omega | (simp; try omega))).trans f381
  have f417 : w16.cell? ⟨w.heap.size + 2, 2, none⟩ = some (u3) := (gw16.cell (by first | omega | (simp; try omega))).trans f382
  have f418 : w16.cell? ⟨bb34, 0, none⟩ = some (.int .i64 (repV x0 x1 n2 x3).1) := (gw16.cell (by first | omega | (simp; try omega))).trans f383
  have f419 : w16.cell? ⟨bb34, 1, none⟩ = some (.int .i64 (repV x0 x1 n2 x3).2.1) := (gw16.cell (by first | omega | (simp; try omega))).trans f384
  have f420 : w16.cell? ⟨bb34, 2, none⟩ = some (.slice ad38 (repV x0 x1 n2 x3).2.2.length ad38') := (gw16.cell (by first | omega | (simp; try omega))).trans f385
  have f421 : w16.cell? ⟨w5.heap.size, 0, none⟩ = some (.int .i64 x0.1) := (gw16.cell (by first | omega | (simp; try omega))).trans f386
  have f422 : w16.cell? ⟨w5.heap.size, 1, none⟩ = some (.slice ad72 x0.2.length ad72') := (gw16.cell (by first | omega | (simp; try omega))).trans f387
  have f423 : w16.cell? ⟨w6.heap.size, 0, none⟩ = some (.int .i64 x1.1) := (gw16.cell (by first | omega | (simp; try omega))).trans f388
  have f424 : w16.cell? ⟨w6.heap.size, 1, none⟩ = some (.int .i64 x1.2.1) := (gw16.cell (by first | omega | (simp; try omega))).trans f389
  have f425 : w16.cell? ⟨w6.heap.size, 2, none⟩ = some (.slice ad96 x1.2.2.length ad96') := (gw16.cell (by first | omega | (simp; try omega))).trans f390
  have f426 : w16.cell? ⟨w7.heap.size, 0, none⟩ = some (.int .i64 x3.1) := (gw16.cell (by first | omega | (simp; try omega))).trans f391
  have f427 : w16.cell? ⟨w7.heap.size, 1, none⟩ = some (.int .i64 x3.2.1) := (gw16.cell (by first | omega | (simp; try omega))).trans f392
  have f428 : w16.cell? ⟨w7.heap.size, 2, none⟩ = some (.slice ad125 x3.2.2.length ad125') := (gw16.cell (by first | omega | (simp; try omega))).trans f393
  have f429 : w16.cell? ⟨w8.heap.size, 0, none⟩ = some (.int .i64 (repV x0 x1 n2 x3).1) := (gw16.cell (by first | omega | (simp; try omega))).trans f394
  have f430 : w16.cell? ⟨w8.heap.size, 1, none⟩ = some (.int .i64 (repV x0 x1 n2 x3).2.1) := (gw16.cell (by first | omega | (simp; try omega))).trans f395
  have f431 : w16.cell? ⟨w8.heap.size, 2, none⟩ = some (.slice ad159 (repV x0 x1 n2 x3).2.2.length ad159') := (gw16.cell (by first | omega | (simp; try omega))).trans f396
  have z432 : w.heap.size < w16.heap.size := by omega
  have z433 : w.heap.size + 1 < w16.heap.size := by omega
  have z434 : w.heap.size + 2 < w16.heap.size := by omega
  have z435 : bb34 < w16.heap.size := by omega
  have z436 : w5.heap.size < w16.heap.size := by omega
  have z437 : w6.heap.size < w16.heap.size := by omega
  have z438 : w7.heap.size < w16.heap.size := by omega
  have z439 : w8.heap.size < w16.heap.size := by omega
  have d440 : frmT.Fx w3.heap.size w4.heap.size w16 [.int .i64 (repV x0 x1 n2 x3).1, .int .i64 (repV x0 x1 n2 x3).2.1, .slice ad38 (repV x0 x1 n2 x3).2.2.length ad38'] (repV x0 x1 n2 x3) := d405.below gw16
  have d441 : tplT.Fx w4.heap.size w5.heap.size w16 [.int .i64 x0.1, .slice ad72 x0.2.length ad72'] (mkTpl 1 x0) := d406.below gw16
  have d442 : frmT.Fx (w5.heap.size + 1) w6.heap.size w16 [.int .i64 x1.1, .int .i64 x1.2.1, .slice ad96 x1.2.2.length ad96'] (mkFrm (1 + cntTpl x0) x1) := d407.below gw16
  have d443 : frmT.Fx (w6.heap.size + 1) w7.heap.size w16 [.int .i64 x3.1, .int .i64 x3.2.1, .slice ad125 x3.2.2.length ad125'] (mkFrm ((1 + cntTpl x0) + cntFrm x1) x3) := d374.below gw16
  have d444 : frmT.Fx (w7.heap.size + 1) w8.heap.size w16 [.int .i64 (repV x0 x1 n2 x3).1, .int .i64 (repV x0 x1 n2 x3).2.1, .slice ad159 (repV x0 x1 n2 x3).2.2.length ad159'] (repV x0 x1 n2 x3) := d408.below gw16
  clear hb16 H_w15 f375 f376 f377 f378 f379 f380 f381 f382 f383 f384 f385 f386 f387 f388 f389 f390 f391 f392 f393 f394 f395 f396 d405 d406 d407 d374 d408 z397 z398 z399 z400 z401 z402 z403 z404 gw16
  rw [eqB_true rfl]
  go_wp2_with fail
  refine (markFormula_fx _ d444 _ (by omega) (by omega)).mono ?_
  rintro e w17 ⟨rfl, hb17, d445⟩
  clear d444
  have sw17 : w16.heap.size ≤ w17.heap.size := hb17.size
  have H_w17 : Below w.heap.size w w17 := below_tch H_w16 hb17 (by omega) (by omega)
  have f446 : w17.cell? ⟨w.heap.size, 0, none⟩ = some (.int .i64 x0.1) := (hb17.cell (by omega) (by omega)).trans f410
  have f447 : w17.cell? ⟨w.heap.size, 1, none⟩ = some (u0) := (hb17.cell (by omega) (by omega)).trans f411
  have f448 : w17.cell? ⟨w.heap.size + 1, 0, none⟩ = some (.int .i64 x1.1) := (hb17.cell (by omega) (by omega)).trans f412
  have f449 : w17.cell? ⟨w.heap.size + 1, 1, none⟩ = some (.int .i64 x1.2.1) := (hb17.cell (by omega) (by omega)).trans f413
  have f450 : w17.cell? ⟨w.heap.size + 1, 2, none⟩ = some (u1) := (hb17.cell (by omega) (by omega)).trans f414
  have f451 : w17.cell? ⟨w.heap.size + 2, 0, none⟩ = some (.int .i64 x3.1) := (hb17.cell (by omega) (by omega)).trans f415
  have f452 : w17.cell? ⟨w.heap.size + 2, 1, none⟩ = some (.int .i64 x3.2.1) := (hb17.cell (by omega) (by omega)).trans f416
  have f453 : w17.cell? ⟨w.heap.size + 2, 2, none⟩ = some (u3) := (hb17.cell (by omega) (by omega)).trans f417
  have f454 : w17.cell? ⟨bb34, 0, none⟩ = some (.int .i64 (repV x0 x1 n2 x3).1) := (hb17.cell (by omega) (by omega)).trans f418
  have f455 : w17.cell? ⟨bb34, 1, none⟩ = some (.int .i64 (repV x0 x1 n2 x3).2.1) := (hb17.cell (by omega) (by omega)).trans f419
  have f456 : w17.cell? ⟨bb34, 2, none⟩ = some (.slice ad38 (repV x0 x1 n2 x3).2.2.length ad38') := (hb17.cell (by omega) (by omega)).trans f420
  have f457 : w17.cell? ⟨w5.heap.size, 0, none⟩ = some (.int .i64 x0.1) := (hb17.cell (by omega) (by omega)).trans f421
  have f458 : w17.cell? ⟨w5.heap.size, 1, none⟩ = some (.slice ad72 x0.2.length ad72') := (hb17.cell (by omega) (by omega)).trans f422
  have f459 : w17.cell? ⟨w6.heap.size, 0, none⟩ = some (.int .i64 x1.1) := (hb17.cell (by omega) (by omega)).trans f423
  have f460 : w17.cell? ⟨w6.heap.size, 1, none⟩ = some (.int .i64 x1.2.1) := (hb17.cell (by omega) (by omega)).trans f424
  have f461 : w17.cell? ⟨w6.heap.size, 2, none⟩ = some (.slice ad96 x1.2.2.length ad96') := (hb17.cell (by omega) (by omega)).trans f425
  have f462 : w17.cell? ⟨w7.heap.size, 0, none⟩ = some (.int .i64 x3.1) := (hb17.cell (by omega) (by omega)).trans f426
  have f463 : w17.cell? ⟨w7.heap.size, 1, none⟩ = some (.int .i64 x3.2.1) := (hb17.cell (by omega) (by omega)).trans f427
  have f464 : w17.cell? ⟨w7.heap.size, 2, none⟩ = some (.slice ad125 x3.2.2.length ad125') := (hb17.cell (by omega) (by omega)).trans f428
  have f465 : w17.cell? ⟨w8.heap.size, 0, none⟩ = some (.int .i64 (repV x0 x1 n2 x3).1) := (hb17.cell (by omega) (by omega)).trans f429
  have f466 : w17.cell? ⟨w8.heap.size, 1, none⟩ = some (.int .i64 (repV x0 x1 n2 x3).2.1) := (hb17.cell (by omega) (by omega)).trans f430
  have f467 : w17.cell? ⟨w8.heap.size, 2, none⟩ = some (.slice ad159 (repV x0 x1 n2 x3).2.2.length ad159') := (hb17.cell (by omega) (by omega)).trans f431
  have z468 : w.heap.size < w17.heap.size := by omega
  have z469 : w.heap.size + 1 < w17.heap.size := by omega
  have z470 : w.heap.size + 2 < w17.heap.size := by omega
  have z471 : bb34 < w17.heap.size := by omega
  have z472 : w5.heap.size < w17.heap.size := by omega
  have z473 : w6.heap.size < w17.heap.size := by omega
  have z474 : w7.heap.size < w17.heap.size := by omega
  have z475 : w8.heap.size < w17.heap.size := by omega
  have d476 : frmT.Fx w3.heap.size w4.heap.size w17 [.int .i64 (repV x0 x1 n2 x3).1, .int .i64 (repV x0 x1 n2 x3).2.1, .slice ad38 (repV x0 x1 n2 x3).2.2.length ad38'] (repV x0 x1 n2 x3) := d440.tch hb17 (by omega)
  have d477 : tplT.Fx w4.heap.size w5.heap.size w17 [.int .i64 x0.1, .slice ad72 x0.2.length ad72'] (mkTpl 1 x0) := d441.tch hb17 (by omega)
  have d478 : frmT.Fx (w5.heap.size + 1) w6.heap.size w17 [.int .i64 x1.1, .int .i64 x1.2.1, .slice ad96 x1.2.2.length ad96'] (mkFrm (1 + cntTpl x0) x1) := d442.tch hb17 (by omega)
  have d479 : frmT.Fx (w6.heap.size + 1) w7.heap.size w17 [.int .i64 x3.1, .int .i64 x3.2.1, .slice ad125 x3.2.2.length ad125'] (mkFrm ((1 + cntTpl x0) + cntFrm x1) x3) := d443.tch hb17 (by omega)
  clear hb17 H_w16 f410 f411 f412 f413 f414 f415 f416 f417 f418 f419 f420 f421 f422 f423 f424 f425 f426 f427 f428 f429 f430 f431 d440 d441 d442 d443 z432 z433 z434 z435 z436 z437 z438 z439
  have hk480 : 0 ≤ (1 + cntFrm (repV x0 x1 n2 x3)) := by omega
  go_wp2_with fail
  refine (heldFormula_any _ _ d445.rd (by omega) (by omega)).mono ?_
  rintro e w18 ⟨rfl, hb18⟩
  have gw18 : Below w17.heap.size w17 w18 := bthen (by repeat (first | exact Below.refl _ _ | exact bA | assumption | refine Below.setCell ?_ (by first | omega | (simp; try omega)) _ | refine Below.alloc ?_ (by first | omega | (simp; try omega)) _ | refine Below.drew ?_ | refine bDN ?_ | refine bthen ?_ (by assumption))) hb18
  have sw18 : w17.heap.size + 0 ≤ w18.heap.size := by have := hb18.size; (try simp at this); omega
  have H_w18 : Below w.heap.size w w18 := bthen H_w17 gw18
  have f481 : w18.cell? ⟨w.heap.size, 0, none⟩ = some (.int .i64 x0.1) := (gw18.cell (by first | omega | (simp; try omega))).trans f446
  have f482 : w18.cell? ⟨w.heap.size, 1, none⟩ = some (u0) := (gw18.cell (by first | omega | (simp; try omega))).trans f447
  have f483 : w18.cell? ⟨w.heap.size + 1, 0, none⟩ = some (.int .i64 x1.1) := (gw18.cell (by first | omega | (simp; try omega))).trans f448
  have f484 : w18.cell? ⟨w.heap.size + 1, 1, none⟩ = some (.int .i64 x1.2.1) := (gw18.cell (by first | omega | (simp; try omega))).trans f449
  have f485 : w18.cell? ⟨w.heap.size + 1, 2, none⟩ = some (u1) := (gw18.cell (by first | omega | (simp; try omega))).trans f450
  have f486 : w18.cell? ⟨w.heap.size + 2, 0, none⟩ = some (.int .i64 x3.1) := (gw18.cell (by first | omega | (simp; try omega))).trans f451
  have f487 : w18.cell? ⟨w.heap.size + 2, 1, none⟩ = some (.int .i64 x3.2.1) := (gw18.cell (by first | omega | (simp; try omega))).trans f452
  have f488 : w18.cell? ⟨w.heap.size + 2, 2, none⟩ = some (u3) := (gw18.cell (by first | omega | (simp; try omega))).trans f453
  have f489 : w18.cell? ⟨bb34, 0, none⟩ = some (.int .i64 (repV x0 x1 n2 x3).1) := (gw18.cell (by first | omega | (simp; try omega))).trans f454
  have f490 : w18.cell? ⟨bb34, 1, none⟩ = some (.int .i64 (repV x0 x1 n2 x3).2.1) := (gw18.cell (by first | omega | (simp; try omega))).trans f455
  have f491 : w18.cell? ⟨bb34, 2, none⟩ = some (.slice ad38 (repV x0 x1 n2 x3).2.2.length ad38') := (gw18.cell (by first | omega | (simp; try omega))).trans f456
  have f492 : w18.cell? ⟨w5.heap.size, 0, none⟩ = some (.int .i64 x0.1) := (gw18.cell (by first | omega | (simp; try omega))).trans f457
  have f493 : w18.cell? ⟨w5.heap.size, 1, none⟩ = some (.slice ad72 x0.2.length ad72') := (gw18.cell (by first | omega | (simp; try omega))).trans f458
  have f494 : w18.cell? ⟨w6.heap.size, 0, none⟩ = some (.int .i64 x1.1) := (gw18.cell (by first | omega | (simp; try omega))).trans f459
  have f495 : w18.cell? ⟨w6.heap.size, 1, none⟩ = some (.int .i64 x1.2.1) := (gw18.cell (by first | omega | (simp; try omega))).trans f460
  have f496 : w18.cell? ⟨w6.heap.size, 2, none⟩ = some (.slice ad96 x1.2.2.length ad96') := (gw18.cell (by first | omega | (simp; try omega))).trans f461
  have f497 : w18.cell? ⟨w7.heap.size, 0, none⟩ = some (.int .i64 x3.1) := (gw18.cell (by first | omega | (simp; try omega))).trans f462
  have f498 : w18.cell? ⟨w7.heap.size, 1, none⟩ = some (.int .i64 x3.2.1) := (gw18.cell (by first | omega | (simp; try omega))).trans f463
  have f499 : w18.cell? ⟨w7.heap.size, 2, none⟩ = some (.slice ad125 x3.2.2.length ad125') := (gw18.cell (by first | omega | (simp; try omega))).trans f464
  have f500 : w18.cell? ⟨w8.heap.size, 0, none⟩ = some (.int .i64 (repV x0 x1 n2 x3).1) := (gw18.cell (by first | omega | (simp; try omega))).trans f465
  have f501 : w18.cell? ⟨w8.heap.size, 1, none⟩ = some (.int .i64 (repV x0 x1 n2 x3).2.1) := (gw18.cell (by first | omega | (simp; try omega))).trans f466
  have f502 : w18.cell? ⟨w8.heap.size, 2, none⟩ = some (.slice ad159 (repV x0 x1 n2 x3).2.2.length ad159') := (gw18.cell (by first | omega | (simp; try omega))).trans f467
  have z503 : w.heap.size < w18.heap.size := by omega
  have z504 : w.heap.size + 1 < w18.heap.size := by omega
  have z505 : w.heap.size + 2 < w18.heap.size := by omega
  have z506 : bb34 < w18.heap.size := by omega
  have z507 : w5.heap.size < w18.heap.size := by omega
  have z508 : w6.heap.size < w18.heap.size := by omega
  have z509 : w7.heap.size < w18.heap.size := by omega
  have z510 : w8.heap.size < w18.heap.size := by omega
  have d511 : frmT.Fx w3.heap.size w4.heap.size w18 [.int .i64 (repV x0 x1 n2 x3).1, .int .i64 (repV x0 x1 n2 x3).2.1, .slice ad38 (repV x0 x1 n2 x3).2.2.length ad38'] (repV x0 x1 n2 x3) := d476.below gw18
  have d512 : tplT.Fx w4.heap.size w5.heap.size w18 [.int .i64 x0.1, .slice ad72 x0.2.length ad72'] (mkTpl 1 x0) := d477.below gw18
  have d513 : frmT.Fx (w5.heap.size + 1) w6.heap.size w18 [.int .i64 x1.1, .int .i64 x1.2.1, .slice ad96 x1.2.2.length ad96'] (mkFrm (1 + cntTpl x0) x1) := d478.below gw18
  have d514 : frmT.Fx (w6.heap.size + 1) w7.heap.size w18 [.int .i64 x3.1, .int .i64 x3.2.1, .slice ad125 x3.2.2.length ad125'] (mkFrm ((1 + cntTpl x0) + cntFrm x1) x3) := d479.below gw18
  have d515 : frmT.Fx (w7.heap.size + 1) w8.heap.size w18 [.int .i64 (repV x0 x1 n2 x3).1, .int .i64 (repV x0 x1 n2 x3).2.1, .slice ad159 (repV x0 x1 n2 x3).2.2.length ad159'] (mkFrm 1 (repV x0 x1 n2 x3)) := d445.below gw18
  clear hb18 H_w17 f446 f447 f448 f449 f450 f451 f452 f453 f454 f455 f456 f457 f458 f459 f460 f461 f462 f463 f464 f465 f466 f467 d476 d477 d478 d479 d445 z468 z469 z470 z471 z472 z473 z474 z475 gw18
  go_wp2_with fail
  refine wp_region_box [(.plain, exO (.agg #[.int .i64 x0.1, u0])), (.plain, rdAO tplT x0), (.plain, exO (.agg #[.int .i64 x1.1, .int .i64 x1.2.1, u1])), (.plain, rdAO frmT x1), (.plain, exO (.int .i64 n2)), (.plain, exO (.agg #[.int .i64 x3.1, .int .i64 x3.2.1, u3])), (.plain, rdAO frmT x3), (.plain, frTO frmT w18.heap.size (repV x0 x1 n2 x3) (.int .i64 (repC x0 x1 n2 x3))), (.plain, frTO frmT w18.heap.size (repV x0 x1 n2 x3) (.int .i64 (repC x0 x1 n2 x3))), (.plain, frAO frmT w18.heap.size (repV x0 x1 n2 x3)), (.plain, exO (.int .i64 (repC x0 x1 n2 x3))), (.alloc, boxO 3), (.store, heldO frmT w18.heap.size (repV x0 x1 n2 x3)), (.plain, exO (.int .i64 (repC x0 x1 n2 x3)))] (by kernel_rfl) (by kernel_rfl) ⟨st_exO, st_rdAO, st_exO, st_rdAO, st_exO, st_exO, st_rdAO, st_frTO, st_frTO, st_frAO, st_exO, st_boxO, st_heldO, st_exO, trivial⟩ ⟨?j38_0, ?j38_1, ?j38_2, ?j38_3, ?j38_4, ?j38_5, ?j38_6, ?j38_7, ?j38_8, ?j38_9, ?j38_10, ?j38_11, ?j38_12, ?j38_13, trivial⟩ ?hQ38
  case j38_0 =>
    intro a' w' ob hb hbo hal hd
    have e0 : a'.tmps[4]?.getD undef = .pointer (some ⟨w.heap.size, 0, none⟩) := ev (slot_o2 hd 4 rfl rfl)
    have q : ∀ b o, b < w18.heap.size → w'.cell? ⟨b, o, none⟩ = w18.cell? ⟨b, o, none⟩ := (bcell hb).1
    go_simp
    exact ⟨_, ⟨rfl, Below.refl _ _⟩, rfl⟩
  case j38_1 =>
    intro a' w' ob hb hbo hal hd
    have e120 : a'.tmps[120]?.getD undef = .agg #[.int .i64 x0.1, u0] := ev (slot_w2 hd 120 (exO (.agg #[.int .i64 x0.1, u0])) rfl rfl)
    have r120 : tplT.Rd w18 (#[.int .i64 x0.1, u0] : Array Value).toList x0 := hx0.below H_w18
    have r120' := r120.below hb
    go_simp
    exact ⟨rfl, Below.refl _ _, (toTemplate_any w' r120' (by first | omega | (unfold szInts; omega))).mono fun e w'' ⟨cs, he, hf, hb⟩ => ⟨_, he, hb, rdAO_mk hf hbo⟩⟩
  case j38_2 =>
    intro a' w' ob hb hbo hal hd
    have e0 : a'.tmps[5]?.getD undef = .pointer (some ⟨w.heap.size + 1, 0, none⟩) := ev (slot_o2 hd 5 rfl rfl)
    have q : ∀ b o, b < w18.heap.size → w'.cell? ⟨b, o, none⟩ = w18.cell? ⟨b, o, none⟩ := (bcell hb).1
    go_simp
    exact ⟨_, ⟨rfl, Below.refl _ _⟩, rfl⟩
  case j38_3 =>
    intro a' w' ob hb hbo hal hd
    have e122 : a'.tmps[122]?.getD undef = .agg #[.int .i64 x1.1, .int .i64 x1.2.1, u1] := ev (slot_w2 hd 122 (exO (.agg #[.int .i64 x1.1, .int .i64 x1.2.1, u1])) rfl rfl)
    have r122 : frmT.Rd w18 (#[.int .i64 x1.1, .int .i64 x1.2.1, u1] : Array Value).toList x1 := hx1.below H_w18
    have r122' := r122.below hb
    go_simp
    exact ⟨rfl, Below.refl _ _, (toFormula_any w' r122' (by first | omega | (unfold szInts; omega))).mono fun e w'' ⟨cs, he, hf, hb⟩ => ⟨_, he, hb, rdAO_mk hf hbo⟩⟩
  case j38_4 =>
    intro a' w' ob hb hbo hal hd
    have e0 : a'.tmps[2]?.getD undef = .int .i64 n2 := ev (slot_o2 hd 2 rfl rfl)
    go_simp
    exact ⟨_, ⟨rfl, Below.refl _ _⟩, rfl⟩
  case j38_5 =>
    intro a' w' ob hb hbo hal hd
    have e0 : a'.tmps[7]?.getD undef = .pointer (some ⟨w.heap.size + 2, 0, none⟩) := ev (slot_o2 hd 7 rfl rfl)
    have q : ∀ b o, b < w18.heap.size → w'.cell? ⟨b, o, none⟩ = w18.cell? ⟨b, o, none⟩ := (bcell hb).1
    go_simp
    exact ⟨_, ⟨rfl, Below.refl _ _⟩, rfl⟩
  case j38_6 =>
    intro a' w' ob hb hbo hal hd
    have e125 : a'.tmps[125]?.getD undef = .agg #[.int .i64 x3.1, .int .i64 x3.2.1, u3] := ev (slot_w2 hd 125 (exO (.agg #[.int .i64 x3.1, .int .i64 x3.2.1, u3])) rfl rfl)
    have r125 : frmT.Rd w18 (#[.int .i64 x3.1, .int .i64 x3.2.1, u3] : Array Value).toList x3 := hx3.below H_w18
    have r125' := r125.below hb
    go_simp
    exact ⟨rfl, Below.refl _ _, (toFormula_any w' r125' (by first | omega | (unfold szInts; omega))).mono fun e w'' ⟨cs, he, hf, hb⟩ => ⟨_, he, hb, rdAO_mk hf hbo⟩⟩
  case j38_7 =>
    intro a' w' ob hb hbo hal hd
    have d121 := slot_w2 hd 121 (rdAO tplT x0) rfl rfl
    obtain ⟨cs121, fp121, e121, hr121, -⟩ := d121
    have rd121 : tplT.Rd w' cs121 x0 := ⟨_, hr121⟩
    have e121' := ev e121
    have d123 := slot_w2 hd 123 (rdAO frmT x1) rfl rfl
    obtain ⟨cs123, fp123, e123, hr123, -⟩ := d123
    have rd123 : frmT.Rd w' cs123 x1 := ⟨_, hr123⟩
    have e123' := ev e123
    have e124 : a'.tmps[124]?.getD undef = .int .i64 n2 := ev (slot_w2 hd 124 (exO (.int .i64 n2)) rfl rfl)
    have d126 := slot_w2 hd 126 (rdAO frmT x3) rfl rfl
    obtain ⟨cs126, fp126, e126, hr126, -⟩ := d126
    have rd126 : frmT.Rd w' cs126 x3 := ⟨_, hr126⟩
    have e126' := ev e126
    go_simp
    exact ⟨rfl, Below.refl _ _, (ReplaceRel_any _ rd121 rd123 rd126).mono fun e w'' ⟨cs, he, hf, hb2⟩ => ⟨_, he, hb2, frTO_mk hb.size hf hbo⟩⟩
  case j38_8 =>
    intro a' w' ob hb hbo hal hd
    have d127 := slot_w2 hd 127 (frTO frmT w18.heap.size (repV x0 x1 n2 x3) (.int .i64 (repC x0 x1 n2 x3))) rfl rfl
    obtain ⟨cs127, e127, hf127⟩ := d127
    have e127' := ev e127
    go_simp
    exact ⟨_, ⟨rfl, Below.refl _ _⟩, cs127, rfl, hf127⟩
  case j38_9 =>
    intro a' w' ob hb hbo hal hd
    have d119 := slot_w2 hd 119 (frTO frmT w18.heap.size (repV x0 x1 n2 x3) (.int .i64 (repC x0 x1 n2 x3))) rfl rfl
    obtain ⟨cs119, e119, hf119⟩ := d119
    have e119' := ev e119
    go_simp
    exact ⟨_, ⟨rfl, Below.refl _ _⟩, hf119⟩
  case j38_10 =>
    intro a' w' ob hb hbo hal hd
    have d119 := slot_w2 hd 119 (frTO frmT w18.heap.size (repV x0 x1 n2 x3) (.int .i64 (repC x0 x1 n2 x3))) rfl rfl
    obtain ⟨cs119, e119, hf119⟩ := d119
    have e119' := ev e119
    go_simp
    exact ⟨_, ⟨rfl, Below.refl _ _⟩, rfl⟩
  case j38_11 =>
    intro a' w' ob hb hbo hal hd
    obtain rfl := hal rfl
    go_simp
    exact ⟨_, ⟨rfl, by simp, bA⟩, _, rfl, rfl, by simp, box3⟩
  case j38_12 =>
    intro a' w' ob hb hbo hal hd
    obtain ⟨bb, rfl, e20, hbb, hcl⟩ := slot_w2 hd 20 (boxO 3) rfl rfl
    have e20' := ev e20
    have d128 := slot_w2 hd 128 (frAO frmT w18.heap.size (repV x0 x1 n2 x3)) rfl rfl
    obtain ⟨cs128, fp128, e128, hr128, hn128, hg128, hu128, ho128⟩ := d128
    obtain ⟨u128, rfl, hr128', -⟩ := rd_trip hr128
    obtain ⟨ad128', cap128', rfl⟩ := rd_slice ⟨_, hr128'⟩
    have e128' := ev e128
    obtain ⟨⟨y0, c0⟩, f0⟩ := hcl 0 (by decide)
    obtain ⟨⟨y1, c1⟩, f1⟩ := hcl 1 (by decide)
    obtain ⟨⟨y2, c2⟩, f2⟩ := hcl 2 (by decide)
    go_simp
    exact held3 c0 c1 c2 hr128 hn128 hg128 hu128 ho128 _
  case j38_13 =>
    intro a' w' ob hb hbo hal hd
    have e0 : a'.tmps[129]?.getD undef = .int .i64 (repC x0 x1 n2 x3) := ev (slot_w2 hd 129 (exO (.int .i64 (repC x0 x1 n2 x3))) rfl rfl)
    go_simp
    exact ⟨_, ⟨rfl, Below.refl _ _⟩, rfl⟩
  intro vs38 w19 ob38 hb19 hbo38 H0
  obtain ⟨v38_0, _, rfl, p0, H1⟩ := HAll2_cons H0
  obtain ⟨v38_1, _, rfl, p1, H2⟩ := HAll2_cons H1
  obtain ⟨v38_2, _, rfl, p2, H3⟩ := HAll2_cons H2
  obtain ⟨v38_3, _, rfl, p3, H4⟩ := HAll2_cons H3
  obtain ⟨v38_4, _, rfl, p4, H5⟩ := HAll2_cons H4
  obtain ⟨v38_5, _, rfl, p5, H6⟩ := HAll2_cons H5
  obtain ⟨v38_6, _, rfl, p6, H7⟩ := HAll2_cons H6
  obtain ⟨v38_7, _, rfl, p7, H8⟩ := HAll2_cons H7
  obtain ⟨v38_8, _, rfl, p8, H9⟩ := HAll2_cons H8
  obtain ⟨v38_9, _, rfl, p9, H10⟩ := HAll2_cons H9
  obtain ⟨v38_10, _, rfl, p10, H11⟩ := HAll2_cons H10
  obtain ⟨v38_11, _, rfl, p11, H12⟩ := HAll2_cons H11
  obtain ⟨v38_12, _, rfl, p12, H13⟩ := HAll2_cons H12
  obtain ⟨v38_13, _, rfl, p13, H14⟩ := HAll2_cons H13
  obtain rfl := HAll2_nil H14
  obtain rfl := id p0
  obtain rfl := id p2
  obtain rfl := id p4
  obtain rfl := id p5
  obtain rfl := id p10
  obtain rfl := id p13
  obtain ⟨bb516, rfl, rfl, hltbb516, -⟩ := id p11
  obtain ⟨_, cs, fp519, hob, hr1, hr2, hr3, hr4, -, cc518⟩ := id p12
  simp only [Option.some.injEq] at hob
  subst hob
  have hc517 : frmT.Fr w18.heap.size w19 cs (repV x0 x1 n2 x3) := ⟨fp519, hr1, hr2, hr3, hr4⟩
  have hlobb516 : w18.heap.size ≤ bb516 := (hbo38 bb516 rfl).1
  obtain ⟨ad520, ad520', rfl⟩ := fr_trip hc517
  have f521 : w19.cell? ⟨bb516, 0, none⟩ = some (.int .i64 (repV x0 x1 n2 x3).1) := cc518 0 (by simp)
  have f522 : w19.cell? ⟨bb516, 1, none⟩ = some (.int .i64 (repV x0 x1 n2 x3).2.1) := cc518 1 (by simp)
  have f523 : w19.cell? ⟨bb516, 2, none⟩ = some (.slice ad520 (repV x0 x1 n2 x3).2.2.length ad520') := cc518 2 (by simp)
  clear cc518 hr1 hr2 hr3 hr4
  clear p0 p1 p2 p3 p4 p5 p6 p7 p8 p9 p10 p11 p12 p13 H0 H1 H2 H3 H4 H5 H6 H7 H8 H9 H10 H11 H12 H13 H14
  have gw19 : Below w18.heap.size w18 w19 := bthen (by repeat (first | exact Below.refl _ _ | exact bA | assumption | refine Below.setCell ?_ (by first | omega | (simp; try omega)) _ | refine Below.alloc ?_ (by first | omega | (simp; try omega)) _ | refine Below.drew ?_ | refine bDN ?_ | refine bthen ?_ (by assumption))) hb19
  have sw19 : w18.heap.size + 0 ≤ w19.heap.size := by have := hb19.size; (try simp at this); omega
  have H_w19 : Below w.heap.size w w19 := bthen H_w18 gw19
  have f524 : w19.cell? ⟨w.heap.size, 0, none⟩ = some (.int .i64 x0.1) := (gw19.cell (by first | omega | (simp; try omega))).trans f481
  have f525 : w19.cell? ⟨w.heap.size, 1, none⟩ = some (u0) := (gw19.cell (by first | omega | (simp; try omega))).trans f482
  have f526 : w19.cell? ⟨w.heap.size + 1, 0, none⟩ = some (.int .i64 x1.1) := (gw19.cell (by first | omega | (simp; try omega))).trans f483
  have f527 : w19.cell? ⟨w.heap.size + 1, 1, none⟩ = some (.int .i64 x1.2.1) := (gw19.cell (by first | omega | (simp; try omega))).trans f484
  have f528 : w19.cell? ⟨w.heap.size + 1, 2, none⟩ = some (u1) := (gw19.cell (by first | omega | (simp; try omega))).trans f485
  have f529 : w19.cell? ⟨w.heap.size + 2, 0, none⟩ = some (.int .i64 x3.1) := (gw19.cell (by first | omega | (simp; try omega))).trans f486
  have f530 : w19.cell? ⟨w.heap.size + 2, 1, none⟩ = some (.int .i64 x3.2.1) := (gw19.cell (by first | omega | (simp; try omega))).trans f487
  have f531 : w19.cell? ⟨w.heap.size + 2, 2, none⟩ = some (u3) := (gw19.cell (by first | omega | (simp; try omega))).trans f488
  have f532 : w19.cell? ⟨bb34, 0, none⟩ = some (.int .i64 (repV x0 x1 n2 x3).1) := (gw19.cell (by first | omega | (simp; try omega))).trans f489
  have f533 : w19.cell? ⟨bb34, 1, none⟩ = some (.int .i64 (repV x0 x1 n2 x3).2.1) := (gw19.cell (by first | omega | (simp; try omega))).trans f490
  have f534 : w19.cell? ⟨bb34, 2, none⟩ = some (.slice ad38 (repV x0 x1 n2 x3).2.2.length ad38') := (gw19.cell (by first | omega | (simp; try omega))).trans f491
  have f535 : w19.cell? ⟨w5.heap.size, 0, none⟩ = some (.int .i64 x0.1) := (gw19.cell (by first | omega | (simp; try omega))).trans f492
  have f536 : w19.cell? ⟨w5.heap.size, 1, none⟩ = some (.slice ad72 x0.2.length ad72') := (gw19.cell (by first | omega | (simp; try omega))).trans f493
  have f537 : w19.cell? ⟨w6.heap.size, 0, none⟩ = some (.int .i64 x1.1) := (gw19.cell (by first | omega | (simp; try omega))).trans f494
  have f538 : w19.cell? ⟨w6.heap.size, 1, none⟩ = some (.int .i64 x1.2.1) := (gw19.cell (by first | omega | (simp; try omega))).trans f495
  have f539 : w19.cell? ⟨w6.heap.size, 2, none⟩ = some (.slice ad96 x1.2.2.length ad96') := (gw19.cell (by first | omega | (simp; try omega))).trans f496
  have f540 : w19.cell? ⟨w7.heap.size, 0, none⟩ = some (.int .i64 x3.1) := (gw19.cell (by first | omega | (simp; try omega))).trans f497
  have f541 : w19.cell? ⟨w7.heap.size, 1, none⟩ = some (.int .i64 x3.2.1) := (gw19.cell (by first | omega | (simp; try omega))).trans f498
  have f542 : w19.cell? ⟨w7.heap.size, 2, none⟩ = some (.slice ad125 x3.2.2.length ad125') := (gw19.cell (by first | omega | (simp; try omega))).trans f499
  have f543 : w19.cell? ⟨w8.heap.size, 0, none⟩ = some (.int .i64 (repV x0 x1 n2 x3).1) := (gw19.cell (by first | omega | (simp; try omega))).trans f500
  have f544 : w19.cell? ⟨w8.heap.size, 1, none⟩ = some (.int .i64 (repV x0 x1 n2 x3).2.1) := (gw19.cell (by first | omega | (simp; try omega))).trans f501
  have f545 : w19.cell? ⟨w8.heap.size, 2, none⟩ = some (.slice ad159 (repV x0 x1 n2 x3).2.2.length ad159') := (gw19.cell (by first | omega | (simp; try omega))).trans f502
  have z546 : w.heap.size < w19.heap.size := by omega
  have z547 : w.heap.size + 1 < w19.heap.size := by omega
  have z548 : w.heap.size + 2 < w19.heap.size := by omega
  have z549 : bb34 < w19.heap.size := by omega
  have z550 : w5.heap.size < w19.heap.size := by omega
  have z551 : w6.heap.size < w19.heap.size := by omega
  have z552 : w7.heap.size < w19.heap.size := by omega
  have z553 : w8.heap.size < w19.heap.size := by omega
  have d554 : frmT.Fx w3.heap.size w4.heap.size w19 [.int .i64 (repV x0 x1 n2 x3).1, .int .i64 (repV x0 x1 n2 x3).2.1, .slice ad38 (repV x0 x1 n2 x3).2.2.length ad38'] (repV x0 x1 n2 x3) := d511.below gw19
  have d555 : tplT.Fx w4.heap.size w5.heap.size w19 [.int .i64 x0.1, .slice ad72 x0.2.length ad72'] (mkTpl 1 x0) := d512.below gw19
  have d556 : frmT.Fx (w5.heap.size + 1) w6.heap.size w19 [.int .i64 x1.1, .int .i64 x1.2.1, .slice ad96 x1.2.2.length ad96'] (mkFrm (1 + cntTpl x0) x1) := d513.below gw19
  have d557 : frmT.Fx (w6.heap.size + 1) w7.heap.size w19 [.int .i64 x3.1, .int .i64 x3.2.1, .slice ad125 x3.2.2.length ad125'] (mkFrm ((1 + cntTpl x0) + cntFrm x1) x3) := d514.below gw19
  have d558 : frmT.Fx (w7.heap.size + 1) w8.heap.size w19 [.int .i64 (repV x0 x1 n2 x3).1, .int .i64 (repV x0 x1 n2 x3).2.1, .slice ad159 (repV x0 x1 n2 x3).2.2.length ad159'] (mkFrm 1 (repV x0 x1 n2 x3)) := d515.below gw19
  clear hb19 H_w18 f481 f482 f483 f484 f485 f486 f487 f488 f489 f490 f491 f492 f493 f494 f495 f496 f497 f498 f499 f500 f501 f502 d511 d512 d513 d514 d515 z503 z504 z505 z506 z507 z508 z509 z510 gw19
  have d559 : frmT.Fx w18.heap.size w19.heap.size w19 [.int .i64 (repV x0 x1 n2 x3).1, .int .i64 (repV x0 x1 n2 x3).2.1, .slice ad520 (repV x0 x1 n2 x3).2.2.length ad520'] (repV x0 x1 n2 x3) := hc517.fx
  clear hc517
  simp only [putAll, Act.put]
  go_simp
  go_wp2_with fail
  refine (eqFormula_any _ (d559.rd.below (by repeat (first | exact Below.refl _ _ | exact bA | assumption | refine Below.setCell ?_ (by first | omega | (simp; try omega)) _ | refine Below.alloc ?_ (by first | omega | (simp; try omega)) _ | refine Below.drew ?_ | refine bDN ?_ | refine bthen ?_ (by assumption)))) (d554.rd.below (by repeat (first | exact Below.refl _ _ | exact bA | assumption | refine Below.setCell ?_ (by first | omega | (simp; try omega)) _ | refine Below.alloc ?_ (by first | omega | (simp; try omega)) _ | refine Below.drew ?_ | refine bDN ?_ | refine bthen ?_ (by assumption))))).mono ?_
  rintro e w20 ⟨rfl, hb20⟩
  have gw20 : Below w19.heap.size w19 w20 := bthen (by repeat (first | exact Below.refl _ _ | exact bA | assumption | refine Below.setCell ?_ (by first | omega | (simp; try omega)) _ | refine Below.alloc ?_ (by first | omega | (simp; try omega)) _ | refine Below.drew ?_ | refine bDN ?_ | refine bthen ?_ (by assumption))) hb20
  have sw20 : w19.heap.size + 0 ≤ w20.heap.size := by have := hb20.size; (try simp at this); omega
  have H_w20 : Below w.heap.size w w20 := bthen H_w19 gw20
  have f561 : w20.cell? ⟨w.heap.size, 0, none⟩ = some (.int .i64 x0.1) := (gw20.cell (by first | omega | (simp; try omega))).trans f524
  have f562 : w20.cell? ⟨w.heap.size, 1, none⟩ = some (u0) := (gw20.cell (by first | omega | (simp; try omega))).trans f525
  have f563 : w20.cell? ⟨w.heap.size + 1, 0, none⟩ = some (.int .i64 x1.1) := (gw20.cell (by first | omega | (simp; try omega))).trans f526
  have f564 : w20.cell? ⟨w.heap.size + 1, 1, none⟩ = some (.int .i64 x1.2.1) := (gw20.cell (by first | omega | (simp; try omega))).trans f527
  have f565 : w20.cell? ⟨w.heap.size + 1, 2, none⟩ = some (u1) := (gw20.cell (by first | omega | (simp; try omega))).trans f528
  have f566 : w20.cell? ⟨w.heap.size + 2, 0, none⟩ = some (.int .i64 x3.1) := (gw20.cell (by first | omega | (simp; try omega))).trans f529
  have f567 : w20.cell? ⟨w.heap.size + 2, 1, none⟩ = some (.int .i64 x3.2.1) := (gw20.cell (by first | omega | (simp; try omega))).trans f530
  have f568 : w20.cell? ⟨w.heap.size + 2, 2, none⟩ = some (u3) := (gw20.cell (by first | omega | (simp; try omega))).trans f531
  have f569 : w20.cell? ⟨bb34, 0, none⟩ = some (.int .i64 (repV x0 x1 n2 x3).1) := (gw20.cell (by first | omega | (simp; try omega))).trans f532
  have f570 : w20.cell? ⟨bb34, 1, none⟩ = some (.int .i64 (repV x0 x1 n2 x3).2.1) := (gw20.cell (by first | omega | (simp; try omega))).trans f533
  have f571 : w20.cell? ⟨bb34, 2, none⟩ = some (.slice ad38 (repV x0 x1 n2 x3).2.2.length ad38') := (gw20.cell (by first | omega | (simp; try omega))).trans f534
  have f572 : w20.cell? ⟨w5.heap.size, 0, none⟩ = some (.int .i64 x0.1) := (gw20.cell (by first | omega | (simp; try omega))).trans f535
  have f573 : w20.cell? ⟨w5.heap.size, 1, none⟩ = some (.slice ad72 x0.2.length ad72') := (gw20.cell (by first | omega | (simp; try omega))).trans f536
  have f574 : w20.cell? ⟨w6.heap.size, 0, none⟩ = some (.int .i64 x1.1) := (gw20.cell (by first | omega | (simp; try omega))).trans f537
  have f575 : w20.cell? ⟨w6.heap.size, 1, none⟩ = some (.int .i64 x1.2.1) := (gw20.cell (by first | omega | (simp; try omega))).trans f538
  have f576 : w20.cell? ⟨w6.heap.size, 2, none⟩ = some (.slice ad96 x1.2.2.length ad96') := (gw20.cell (by first | omega | (simp; try omega))).trans f539
  have f577 : w20.cell? ⟨w7.heap.size, 0, none⟩ = some (.int .i64 x3.1) := (gw20.cell (by first | omega | (simp; try omega))).trans f540
  have f578 : w20.cell? ⟨w7.heap.size, 1, none⟩ = some (.int .i64 x3.2.1) := (gw20.cell (by first | omega | (simp; try omega))).trans f541
  have f579 : w20.cell? ⟨w7.heap.size, 2, none⟩ = some (.slice ad125 x3.2.2.length ad125') := (gw20.cell (by first | omega | (simp; try omega))).trans f542
  have f580 : w20.cell? ⟨w8.heap.size, 0, none⟩ = some (.int .i64 (repV x0 x1 n2 x3).1) := (gw20.cell (by first | omega | (simp; try omega))).trans f543
  have f581 : w20.cell? ⟨w8.heap.size, 1, none⟩ = some (.int .i64 (repV x0 x1 n2 x3).2.1) := (gw20.cell (by first | omega | (simp; try omega))).trans f544
  have f582 : w20.cell? ⟨w8.heap.size, 2, none⟩ = some (.slice ad159 (repV x0 x1 n2 x3).2.2.length ad159') := (gw20.cell (by first | omega | (simp; try omega))).trans f545
  have f583 : w20.cell? ⟨bb516, 0, none⟩ = some (.int .i64 (repV x0 x1 n2 x3).1) := (gw20.cell (by first | omega | (simp; try omega))).trans f521
  have f584 : w20.cell? ⟨bb516, 1, none⟩ = some (.int .i64 (repV x0 x1 n2 x3).2.1) := (gw20.cell (by first | omega | (simp; try omega))).trans f522
  have f585 : w20.cell? ⟨bb516, 2, none⟩ = some (.slice ad520 (repV x0 x1 n2 x3).2.2.length ad520') := (gw20.cell (by first | omega | (simp; try omega))).trans f523
  have z586 : w.heap.size < w20.heap.size := by omega
  have z587 : w.heap.size + 1 < w20.heap.size := by omega
  have z588 : w.heap.size + 2 < w20.heap.size := by omega
  have z589 : bb34 < w20.heap.size := by omega
  have z590 : w5.heap.size < w20.heap.size := by omega
  have z591 : w6.heap.size < w20.heap.size := by omega
  have z592 : w7.heap.size < w20.heap.size := by omega
  have z593 : w8.heap.size < w20.heap.size := by omega
  have z594 : bb516 < w20.heap.size := by omega
  have d595 : frmT.Fx w3.heap.size w4.heap.size w20 [.int .i64 (repV x0 x1 n2 x3).1, .int .i64 (repV x0 x1 n2 x3).2.1, .slice ad38 (repV x0 x1 n2 x3).2.2.length ad38'] (repV x0 x1 n2 x3) := d554.below gw20
  have d596 : tplT.Fx w4.heap.size w5.heap.size w20 [.int .i64 x0.1, .slice ad72 x0.2.length ad72'] (mkTpl 1 x0) := d555.below gw20
  have d597 : frmT.Fx (w5.heap.size + 1) w6.heap.size w20 [.int .i64 x1.1, .int .i64 x1.2.1, .slice ad96 x1.2.2.length ad96'] (mkFrm (1 + cntTpl x0) x1) := d556.below gw20
  have d598 : frmT.Fx (w6.heap.size + 1) w7.heap.size w20 [.int .i64 x3.1, .int .i64 x3.2.1, .slice ad125 x3.2.2.length ad125'] (mkFrm ((1 + cntTpl x0) + cntFrm x1) x3) := d557.below gw20
  have d599 : frmT.Fx (w7.heap.size + 1) w8.heap.size w20 [.int .i64 (repV x0 x1 n2 x3).1, .int .i64 (repV x0 x1 n2 x3).2.1, .slice ad159 (repV x0 x1 n2 x3).2.2.length ad159'] (mkFrm 1 (repV x0 x1 n2 x3)) := d558.below gw20
  have d600 : frmT.Fx w18.heap.size w19.heap.size w20 [.int .i64 (repV x0 x1 n2 x3).1, .int .i64 (repV x0 x1 n2 x3).2.1, .slice ad520 (repV x0 x1 n2 x3).2.2.length ad520'] (repV x0 x1 n2 x3) := d559.below gw20
  clear hb20 H_w19 f524 f525 f526 f527 f528 f529 f530 f531 f532 f533 f534 f535 f536 f537 f538 f539 f540 f541 f542 f543 f544 f545 f521 f522 f523 d554 d555 d556 d557 d558 d559 z546 z547 z548 z549 z550 z551 z552 z553 gw20
  rw [eqB_true rfl]
  go_wp2_with fail
  refine (heldFormula_any _ _ d599.rd (by omega) (by omega)).mono ?_
  rintro e w21 ⟨rfl, hb21⟩
  have gw21 : Below w20.heap.size w20 w21 := bthen (by repeat (first | exact Below.refl _ _ | exact bA | assumption | refine Below.setCell ?_ (by first | omega | (simp; try omega)) _ | refine Below.alloc ?_ (by first | omega | (simp; try omega)) _ | refine Below.drew ?_ | refine bDN ?_ | refine bthen ?_ (by assumption))) hb21
  have sw21 : w20.heap.size + 0 ≤ w21.heap.size := by have := hb21.size; (try simp at this); omega
  have H_w21 : Below w.heap.size w w21 := bthen H_w20 gw21
  have f601 : w21.cell? ⟨w.heap.size, 0, none⟩ = some (.int .i64 x0.1) := (gw21.cell (by first | omega | (simp; try omega))).trans f561
  have f602 : w21.cell? ⟨w.heap.size, 1, none⟩ = some (u0) := (gw21.cell (by first | omega | (simp; try omega))).trans f562
  have f603 : w21.cell? ⟨w.heap.size + 1, 0, none⟩ = some (.int .i64 x1.1) := (gw21.cell (by first | omega | (simp; try omega))).trans f563
  have f604 : w21.cell? ⟨w.heap.size + 1, 1, none⟩ = some (.int .i64 x1.2.1) := (gw21.cell (by first | omega | (simp; try omega))).trans f564
  have f605 : w21.cell? ⟨w.heap.size + 1, 2, none⟩ = some (u1) := (gw21.cell (by first | omega | (simp; try omega))).trans f565
  have f606 : w21.cell? ⟨w.heap.size + 2, 0, none⟩ = some (.int .i64 x3.1) := (gw21.cell (by first | omega | (simp; try omega))).trans f566
  have f607 : w21.cell? ⟨w.heap.size + 2, 1, none⟩ = some (.int .i64 x3.2.1) := (gw21.cell (by first | omega | (simp; try omega))).trans f567
  have f608 : w21.cell? ⟨w.heap.size + 2, 2, none⟩ = some (u3) := (gw21.cell (by first | omega | (simp; try omega))).trans f568
  have f609 : w21.cell? ⟨bb34, 0, none⟩ = some (.int .i64 (repV x0 x1 n2 x3).1) := (gw21.cell (by first | omega | (simp; try omega))).trans f569
  have f610 : w21.cell? ⟨bb34, 1, none⟩ = some (.int .i64 (repV x0 x1 n2 x3).2.1) := (gw21.cell (by first | omega | (simp; try omega))).trans f570
  have f611 : w21.cell? ⟨bb34, 2, none⟩ = some (.slice ad38 (repV x0 x1 n2 x3).2.2.length ad38') := (gw21.cell (by first | omega | (simp; try omega))).trans f571
  have f612 : w21.cell? ⟨w5.heap.size, 0, none⟩ = some (.int .i64 x0.1) := (gw21.cell (by first | omega | (simp; try omega))).trans f572
  have f613 : w21.cell? ⟨w5.heap.size, 1, none⟩ = some (.slice ad72 x0.2.length ad72') := (gw21.cell (by first | omega | (simp; try omega))).trans f573
  have f614 : w21.cell? ⟨w6.heap.size, 0, none⟩ = some (.int .i64 x1.1) := (gw21.cell (by first | omega | (simp; try omega))).trans f574
  have f615 : w21.cell? ⟨w6.heap.size, 1, none⟩ = some (.int .i64 x1.2.1) := (gw21.cell (by first | omega | (simp; try omega))).trans f575
  have f616 : w21.cell? ⟨w6.heap.size, 2, none⟩ = some (.slice ad96 x1.2.2.length ad96') := (gw21.cell (by first | omega | (simp; try omega))).trans f576
  have f617 : w21.cell? ⟨w7.heap.size, 0, none⟩ = some (.int .i64 x3.1) := (gw21.cell (by first | omega | (simp; try omega))).trans f577
  have f618 : w21.cell? ⟨w7.heap.size, 1, none⟩ = some (.int .i64 x3.2.1) := (gw21.cell (by first | omega | (simp; try omega))).trans f578
  have f619 : w21.cell? ⟨w7.heap.size, 2, none⟩ = some (.slice ad125 x3.2.2.length ad125') := (gw21.cell (by first | omega | (simp; try omega))).trans f579
  have f620 : w21.cell? ⟨w8.heap.size, 0, none⟩ = some (.int .i64 (repV x0 x1 n2 x3).1) := (gw21.cell (by first | omega | (simp; try omega))).trans f580
  have f621 : w21.cell? ⟨w8.heap.size, 1, none⟩ = some (.int .i64 (repV x0 x1 n2 x3).2.1) := (gw21.cell (by first | omega | (simp; try omega))).trans f581
  have f622 : w21.cell? ⟨w8.heap.size, 2, none⟩ = some (.slice ad159 (repV x0 x1 n2 x3).2.2.length ad159') := (gw21.cell (by first | omega | (simp; try omega))).trans f582
  have f623 : w21.cell? ⟨bb516, 0, none⟩ = some (.int .i64 (repV x0 x1 n2 x3).1) := (gw21.cell (by first | omega | (simp; try omega))).trans f583
  have f624 : w21.cell? ⟨bb516, 1, none⟩ = some (.int .i64 (repV x0 x1 n2 x3).2.1) := (gw21.cell (by first | omega | (simp; try omega))).trans f584
  have f625 : w21.cell? ⟨bb516, 2, none⟩ = some (.slice ad520 (repV x0 x1 n2 x3).2.2.length ad520') := (gw21.cell (by first | omega | (simp; try omega))).trans f585
  have z626 : w.heap.size < w21.heap.size := by omega
  have z627 : w.heap.size + 1 < w21.heap.size := by omega
  have z628 : w.heap.size + 2 < w21.heap.size := by omega
  have z629 : bb34 < w21.heap.size := by omega
  have z630 : w5.heap.size < w21.heap.size := by omega
  have z631 : w6.heap.size < w21.heap.size := by omega
  have z632 : w7.heap.size < w21.heap.size := by omega
  have z633 : w8.heap.size < w21.heap.size := by omega
  have z634 : bb516 < w21.heap.size := by omega
  have d635 : frmT.Fx w3.heap.size w4.heap.size w21 [.int .i64 (repV x0 x1 n2 x3).1, .int .i64 (repV x0 x1 n2 x3).2.1, .slice ad38 (repV x0 x1 n2 x3).2.2.length ad38'] (repV x0 x1 n2 x3) := d595.below gw21
  have d636 : tplT.Fx w4.heap.size w5.heap.size w21 [.int .i64 x0.1, .slice ad72 x0.2.length ad72'] (mkTpl 1 x0) := d596.below gw21
  have d637 : frmT.Fx (w5.heap.size + 1) w6.heap.size w21 [.int .i64 x1.1, .int .i64 x1.2.1, .slice ad96 x1.2.2.length ad96'] (mkFrm (1 + cntTpl x0) x1) := d597.below gw21
  have d638 : frmT.Fx (w6.heap.size + 1) w7.heap.size w21 [.int .i64 x3.1, .int .i64 x3.2.1, .slice ad125 x3.2.2.length ad125'] (mkFrm ((1 + cntTpl x0) + cntFrm x1) x3) := d598.below gw21
  have d639 : frmT.Fx (w7.heap.size + 1) w8.heap.size w21 [.int .i64 (repV x0 x1 n2 x3).1, .int .i64 (repV x0 x1 n2 x3).2.1, .slice ad159 (repV x0 x1 n2 x3).2.2.length ad159'] (mkFrm 1 (repV x0 x1 n2 x3)) := d599.below gw21
  have d640 : frmT.Fx w18.heap.size w19.heap.size w21 [.int .i64 (repV x0 x1 n2 x3).1, .int .i64 (repV x0 x1 n2 x3).2.1, .slice ad520 (repV x0 x1 n2 x3).2.2.length ad520'] (repV x0 x1 n2 x3) := d600.below gw21
  clear hb21 H_w20 f561 f562 f563 f564 f565 f566 f567 f568 f569 f570 f571 f572 f573 f574 f575 f576 f577 f578 f579 f580 f581 f582 f583 f584 f585 d595 d596 d597 d598 d599 d600 z586 z587 z588 z589 z590 z591 z592 z593 z594 gw21
  go_wp2_with fail
  go_ret
  exact ⟨rfl, (by repeat (first | exact Below.refl _ _ | exact bA | assumption | refine Below.setCell ?_ (by first | omega | (simp; try omega)) _ | refine Below.alloc ?_ (by first | omega | (simp; try omega)) _ | refine Below.drew ?_ | refine bDN ?_ | refine bthen ?_ (by assumption)))⟩
end Go.Proofs.Ytigclobkmocfkaa
