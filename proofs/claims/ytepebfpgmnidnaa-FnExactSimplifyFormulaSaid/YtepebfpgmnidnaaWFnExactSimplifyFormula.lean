/-
  The law FnExactSimplifyFormula, walked: its contract.
-/
import Derived.Test.YtepebfpgmnidnaaM6
import Derived.Test.YtepebfpgmnidnaaM7
import Derived.Test.YtepebfpgmnidnaaKM
import Derived.Test.YtepebfpgmnidnaaKT
import Derived.Test.YtepebfpgmnidnaaLoose2
namespace Go.Proofs.Ytepebfpgmnidnaa
open Go.RowKit Go.Sort
set_option maxHeartbeats 6400000 in
set_option maxRecDepth 100000 in
theorem fnExactSimplifyFormula_any (w : World) {c0 : Array Value} {x0 : Int × List (Int × List (List Int))} (h0 : tplT.Rd w c0.toList x0) {c1 : Array Value} {x1 : Int × Int × List (Int × List Int)} (h1 : frmT.Rd w c1.toList x1) :
    Calls Try.prog 3 #[.agg c0, .agg c1] w fun e w' => e = .returned (.bool true) ∧ Below w.heap.size w w' := by
  have hx0 := h0
  obtain ⟨u0, hv0, -, hy0⟩ := pair_ex h0
  obtain rfl := agg_of hv0
  clear hv0 h0
  have hn0 := szTpl_nn x0
  have hcn0 : cntTpl x0 ≤ szTpl x0 := cntRels_sz x0.2
  have hcz0 : 0 ≤ cntTpl x0 := cntRels_nn x0.2
  have hx1 := h1
  obtain ⟨u1, hv1, -, -, hy1⟩ := trip_ex h1
  obtain rfl := agg_of hv1
  clear hv1 h1
  have hn1 := szFrm_nn x1
  have hcn1 : cntFrm x1 ≤ szFrm x1 := cntOps_sz x1.2.2
  have hcz1 : 0 ≤ cntFrm x1 := cntOps_nn x1.2.2
  have H_w : Below w.heap.size w w := Below.refl _ _
  go_enter Try.func3, Try.ntmps3
  go_wp2_with fail
  refine (szTemplate_any _ (hx0.below (by repeat (first | exact Below.refl _ _ | exact bA | assumption | refine Below.setCell ?_ (by first | omega | (simp; try omega)) _ | refine Below.alloc ?_ (by first | omega | (simp; try omega)) _ | refine Below.drew ?_ | refine bDN ?_ | refine bthen ?_ (by assumption)))) _ (by omega) (by omega)).mono ?_
  rintro e w1 ⟨rfl, hb1⟩
  have gw1 : Below w.heap.size w w1 := bthen (by repeat (first | exact Below.refl _ _ | exact bA | assumption | refine Below.setCell ?_ (by first | omega | (simp; try omega)) _ | refine Below.alloc ?_ (by first | omega | (simp; try omega)) _ | refine Below.drew ?_ | refine bDN ?_ | refine bthen ?_ (by assumption))) hb1
  have sw1 : w.heap.size + 2 ≤ w1.heap.size := by have := hb1.size; (try simp at this); omega
  have H_w1 : Below w.heap.size w w1 := bthen H_w gw1
  have f1 : w1.cell? ⟨w.heap.size, 0, none⟩ = some (.int .i64 x0.1) := by rw [(bcell hb1).1 _ _ (by first | omega | (simp; try omega))]; first | (simp; done) | simp [go_sem]
  have f2 : w1.cell? ⟨w.heap.size, 1, none⟩ = some (u0) := by rw [(bcell hb1).1 _ _ (by first | omega | (simp; try omega))]; first | (simp; done) | simp [go_sem]
  have f3 : w1.cell? ⟨w.heap.size + 1, 0, none⟩ = some (.int .i64 x1.1) := by rw [(bcell hb1).1 _ _ (by first | omega | (simp; try omega))]; first | (simp; done) | simp [go_sem]
  have f4 : w1.cell? ⟨w.heap.size + 1, 1, none⟩ = some (.int .i64 x1.2.1) := by rw [(bcell hb1).1 _ _ (by first | omega | (simp; try omega))]; first | (simp; done) | simp [go_sem]
  have f5 : w1.cell? ⟨w.heap.size + 1, 2, none⟩ = some (u1) := by rw [(bcell hb1).1 _ _ (by first | omega | (simp; try omega))]; first | (simp; done) | simp [go_sem]
  have z6 : w.heap.size < w1.heap.size := by omega
  have z7 : w.heap.size + 1 < w1.heap.size := by omega
  clear hb1 gw1
  rcases ilt 1048576 (szTpl x0) with hl2 | hl2
  · rw [szR_lt hl2]
    go_wp2_with fail
    go_ret
    exact ⟨rfl, (by repeat (first | exact Below.refl _ _ | exact bA | assumption | refine Below.setCell ?_ (by first | omega | (simp; try omega)) _ | refine Below.alloc ?_ (by first | omega | (simp; try omega)) _ | refine Below.drew ?_ | refine bDN ?_ | refine bthen ?_ (by assumption)))⟩
  rw [szR_ge hl2]
  go_wp2_with fail
  refine (szFormula_any _ (hx1.below (by repeat (first | exact Below.refl _ _ | exact bA | assumption | refine Below.setCell ?_ (by first | omega | (simp; try omega)) _ | refine Below.alloc ?_ (by first | omega | (simp; try omega)) _ | refine Below.drew ?_ | refine bDN ?_ | refine bthen ?_ (by assumption)))) _ (by omega) (by omega)).mono ?_
  rintro e w2 ⟨rfl, hb2⟩
  have gw2 : Below w1.heap.size w1 w2 := bthen (by repeat (first | exact Below.refl _ _ | exact bA | assumption | refine Below.setCell ?_ (by first | omega | (simp; try omega)) _ | refine Below.alloc ?_ (by first | omega | (simp; try omega)) _ | refine Below.drew ?_ | refine bDN ?_ | refine bthen ?_ (by assumption))) hb2
  have sw2 : w1.heap.size + 0 ≤ w2.heap.size := by have := hb2.size; (try simp at this); omega
  have H_w2 : Below w.heap.size w w2 := bthen H_w1 gw2
  have f8 : w2.cell? ⟨w.heap.size, 0, none⟩ = some (.int .i64 x0.1) := (gw2.cell (by first | omega | (simp; try omega))).trans f1
  have f9 : w2.cell? ⟨w.heap.size, 1, none⟩ = some (u0) := (gw2.cell (by first | omega | (simp; try omega))).trans f2
  have f10 : w2.cell? ⟨w.heap.size + 1, 0, none⟩ = some (.int .i64 x1.1) := (gw2.cell (by first | omega | (simp; try omega))).trans f3
  have f11 : w2.cell? ⟨w.heap.size + 1, 1, none⟩ = some (.int .i64 x1.2.1) := (gw2.cell (by first | omega | (simp; try omega))).trans f4
  have f12 : w2.cell? ⟨w.heap.size + 1, 2, none⟩ = some (u1) := (gw2.cell (by first | omega | (simp; try omega))).trans f5
  have z13 : w.heap.size < w2.heap.size := by omega
  have z14 : w.heap.size + 1 < w2.heap.size := by omega
  clear hb2 H_w1 f1 f2 f3 f4 f5 z6 z7 gw2
  rcases ilt (1048576 - szTpl x0) (szFrm x1) with hl5 | hl5
  · rw [szR_lt hl5]
    go_wp2_with fail
    go_ret
    exact ⟨rfl, (by repeat (first | exact Below.refl _ _ | exact bA | assumption | refine Below.setCell ?_ (by first | omega | (simp; try omega)) _ | refine Below.alloc ?_ (by first | omega | (simp; try omega)) _ | refine Below.drew ?_ | refine bDN ?_ | refine bthen ?_ (by assumption)))⟩
  rw [szR_ge hl5]
  go_wp2_with fail
  have hcr1 : cntFrm (simV x0 x1) ≤ 1000000000 := (Int.le_trans sim_cnt (by omega))
  have hcrz1 : 0 ≤ cntFrm (simV x0 x1) := cntOps_nn _
  refine wp_region_box [(.plain, exO (.agg #[.int .i64 x0.1, u0])), (.plain, rdAO tplT x0), (.plain, exO (.agg #[.int .i64 x1.1, .int .i64 x1.2.1, u1])), (.plain, rdAO frmT x1), (.plain, frTO frmT w2.heap.size (simV x0 x1) (.int .i64 (simC x0 x1))), (.plain, frTO frmT w2.heap.size (simV x0 x1) (.int .i64 (simC x0 x1))), (.plain, frAO frmT w2.heap.size (simV x0 x1)), (.plain, exO (.int .i64 (simC x0 x1))), (.alloc, boxO 3), (.store, heldO frmT w2.heap.size (simV x0 x1)), (.plain, exO (.int .i64 (simC x0 x1)))] (by kernel_rfl) (by kernel_rfl) ⟨st_exO, st_rdAO, st_exO, st_rdAO, st_frTO, st_frTO, st_frAO, st_exO, st_boxO, st_heldO, st_exO, trivial⟩ ⟨?j8_0, ?j8_1, ?j8_2, ?j8_3, ?j8_4, ?j8_5, ?j8_6, ?j8_7, ?j8_8, ?j8_9, ?j8_10, trivial⟩ ?hQ8
  case j8_0 =>
    intro a' w' ob hb hbo hal hd
    have e0 : a'.tmps[2]?.getD undef = .pointer (some ⟨w.heap.size, 0, none⟩) := ev (slot_o2 hd 2 rfl rfl)
    have q : ∀ b o, b < w2.heap.size → w'.cell? ⟨b, o, none⟩ = w2.cell? ⟨b, o, none⟩ := (bcell hb).1
    go_simp
    exact ⟨_, ⟨rfl, Below.refl _ _⟩, rfl⟩
  case j8_1 =>
    intro a' w' ob hb hbo hal hd
    have e28 : a'.tmps[28]?.getD undef = .agg #[.int .i64 x0.1, u0] := ev (slot_w2 hd 28 (exO (.agg #[.int .i64 x0.1, u0])) rfl rfl)
    have r28 : tplT.Rd w2 (#[.int .i64 x0.1, u0] : Array Value).toList x0 := hx0.below H_w2
    have r28' := r28.below hb
    go_simp
    exact ⟨rfl, Below.refl _ _, (toTemplate_any w' r28' (by first | omega | (unfold szInts; omega))).mono fun e w'' ⟨cs, he, hf, hb⟩ => ⟨_, he, hb, rdAO_mk hf hbo⟩⟩
  case j8_2 =>
    intro a' w' ob hb hbo hal hd
    have e0 : a'.tmps[3]?.getD undef = .pointer (some ⟨w.heap.size + 1, 0, none⟩) := ev (slot_o2 hd 3 rfl rfl)
    have q : ∀ b o, b < w2.heap.size → w'.cell? ⟨b, o, none⟩ = w2.cell? ⟨b, o, none⟩ := (bcell hb).1
    go_simp
    exact ⟨_, ⟨rfl, Below.refl _ _⟩, rfl⟩
  case j8_3 =>
    intro a' w' ob hb hbo hal hd
    have e30 : a'.tmps[30]?.getD undef = .agg #[.int .i64 x1.1, .int .i64 x1.2.1, u1] := ev (slot_w2 hd 30 (exO (.agg #[.int .i64 x1.1, .int .i64 x1.2.1, u1])) rfl rfl)
    have r30 : frmT.Rd w2 (#[.int .i64 x1.1, .int .i64 x1.2.1, u1] : Array Value).toList x1 := hx1.below H_w2
    have r30' := r30.below hb
    go_simp
    exact ⟨rfl, Below.refl _ _, (toFormula_any w' r30' (by first | omega | (unfold szInts; omega))).mono fun e w'' ⟨cs, he, hf, hb⟩ => ⟨_, he, hb, rdAO_mk hf hbo⟩⟩
  case j8_4 =>
    intro a' w' ob hb hbo hal hd
    have d29 := slot_w2 hd 29 (rdAO tplT x0) rfl rfl
    obtain ⟨cs29, fp29, e29, hr29, -⟩ := d29
    have rd29 : tplT.Rd w' cs29 x0 := ⟨_, hr29⟩
    have e29' := ev e29
    have d31 := slot_w2 hd 31 (rdAO frmT x1) rfl rfl
    obtain ⟨cs31, fp31, e31, hr31, -⟩ := d31
    have rd31 : frmT.Rd w' cs31 x1 := ⟨_, hr31⟩
    have e31' := ev e31
    go_simp
    exact ⟨rfl, Below.refl _ _, (specSimplifyFormula_any _ rd29 rd31).mono fun e w'' ⟨cs, he, hf, hb2⟩ => ⟨_, he, hb2, frTO_mk hb.size hf hbo⟩⟩
  case j8_5 =>
    intro a' w' ob hb hbo hal hd
    have d32 := slot_w2 hd 32 (frTO frmT w2.heap.size (simV x0 x1) (.int .i64 (simC x0 x1))) rfl rfl
    obtain ⟨cs32, e32, hf32⟩ := d32
    have e32' := ev e32
    go_simp
    exact ⟨_, ⟨rfl, Below.refl _ _⟩, cs32, rfl, hf32⟩
  case j8_6 =>
    intro a' w' ob hb hbo hal hd
    have d27 := slot_w2 hd 27 (frTO frmT w2.heap.size (simV x0 x1) (.int .i64 (simC x0 x1))) rfl rfl
    obtain ⟨cs27, e27, hf27⟩ := d27
    have e27' := ev e27
    go_simp
    exact ⟨_, ⟨rfl, Below.refl _ _⟩, hf27⟩
  case j8_7 =>
    intro a' w' ob hb hbo hal hd
    have d27 := slot_w2 hd 27 (frTO frmT w2.heap.size (simV x0 x1) (.int .i64 (simC x0 x1))) rfl rfl
    obtain ⟨cs27, e27, hf27⟩ := d27
    have e27' := ev e27
    go_simp
    exact ⟨_, ⟨rfl, Below.refl _ _⟩, rfl⟩
  case j8_8 =>
    intro a' w' ob hb hbo hal hd
    obtain rfl := hal rfl
    go_simp
    exact ⟨_, ⟨rfl, by simp, bA⟩, _, rfl, rfl, by simp, box3⟩
  case j8_9 =>
    intro a' w' ob hb hbo hal hd
    obtain ⟨bb, rfl, e6, hbb, hcl⟩ := slot_w2 hd 6 (boxO 3) rfl rfl
    have e6' := ev e6
    have d33 := slot_w2 hd 33 (frAO frmT w2.heap.size (simV x0 x1)) rfl rfl
    obtain ⟨cs33, fp33, e33, hr33, hn33, hg33, hu33, ho33⟩ := d33
    obtain ⟨u33, rfl, hr33', -⟩ := rd_trip hr33
    obtain ⟨ad33', cap33', rfl⟩ := rd_slice ⟨_, hr33'⟩
    have e33' := ev e33
    obtain ⟨⟨y0, c0⟩, f0⟩ := hcl 0 (by decide)
    obtain ⟨⟨y1, c1⟩, f1⟩ := hcl 1 (by decide)
    obtain ⟨⟨y2, c2⟩, f2⟩ := hcl 2 (by decide)
    go_simp
    exact held3 c0 c1 c2 hr33 hn33 hg33 hu33 ho33 _
  case j8_10 =>
    intro a' w' ob hb hbo hal hd
    have e0 : a'.tmps[34]?.getD undef = .int .i64 (simC x0 x1) := ev (slot_w2 hd 34 (exO (.int .i64 (simC x0 x1))) rfl rfl)
    go_simp
    exact ⟨_, ⟨rfl, Below.refl _ _⟩, rfl⟩
  intro vs8 w3 ob8 hb3 hbo8 H0
  obtain ⟨v8_0, _, rfl, p0, H1⟩ := HAll2_cons H0
  obtain ⟨v8_1, _, rfl, p1, H2⟩ := HAll2_cons H1
  obtain ⟨v8_2, _, rfl, p2, H3⟩ := HAll2_cons H2
  obtain ⟨v8_3, _, rfl, p3, H4⟩ := HAll2_cons H3
  obtain ⟨v8_4, _, rfl, p4, H5⟩ := HAll2_cons H4
  obtain ⟨v8_5, _, rfl, p5, H6⟩ := HAll2_cons H5
  obtain ⟨v8_6, _, rfl, p6, H7⟩ := HAll2_cons H6
  obtain ⟨v8_7, _, rfl, p7, H8⟩ := HAll2_cons H7
  obtain ⟨v8_8, _, rfl, p8, H9⟩ := HAll2_cons H8
  obtain ⟨v8_9, _, rfl, p9, H10⟩ := HAll2_cons H9
  obtain ⟨v8_10, _, rfl, p10, H11⟩ := HAll2_cons H10
  obtain rfl := HAll2_nil H11
  obtain rfl := id p0
  obtain rfl := id p2
  obtain rfl := id p7
  obtain rfl := id p10
  obtain ⟨bb15, rfl, rfl, hltbb15, -⟩ := id p8
  obtain ⟨_, cs, fp18, hob, hr1, hr2, hr3, hr4, -, cc17⟩ := id p9
  simp only [Option.some.injEq] at hob
  subst hob
  have hc16 : frmT.Fr w2.heap.size w3 cs (simV x0 x1) := ⟨fp18, hr1, hr2, hr3, hr4⟩
  have hlobb15 : w2.heap.size ≤ bb15 := (hbo8 bb15 rfl).1
  obtain ⟨ad19, ad19', rfl⟩ := fr_trip hc16
  have f20 : w3.cell? ⟨bb15, 0, none⟩ = some (.int .i64 (simV x0 x1).1) := cc17 0 (by simp)
  have f21 : w3.cell? ⟨bb15, 1, none⟩ = some (.int .i64 (simV x0 x1).2.1) := cc17 1 (by simp)
  have f22 : w3.cell? ⟨bb15, 2, none⟩ = some (.slice ad19 (simV x0 x1).2.2.length ad19') := cc17 2 (by simp)
  clear cc17 hr1 hr2 hr3 hr4
  clear p0 p1 p2 p3 p4 p5 p6 p7 p8 p9 p10 H0 H1 H2 H3 H4 H5 H6 H7 H8 H9 H10 H11
  have gw3 : Below w2.heap.size w2 w3 := bthen (by repeat (first | exact Below.refl _ _ | exact bA | assumption | refine Below.setCell ?_ (by first | omega | (simp; try omega)) _ | refine Below.alloc ?_ (by first | omega | (simp; try omega)) _ | refine Below.drew ?_ | refine bDN ?_ | refine bthen ?_ (by assumption))) hb3
  have sw3 : w2.heap.size + 0 ≤ w3.heap.size := by have := hb3.size; (try simp at this); omega
  have H_w3 : Below w.heap.size w w3 := bthen H_w2 gw3
  have f23 : w3.cell? ⟨w.heap.size, 0, none⟩ = some (.int .i64 x0.1) := (gw3.cell (by first | omega | (simp; try omega))).trans f8
  have f24 : w3.cell? ⟨w.heap.size, 1, none⟩ = some (u0) := (gw3.cell (by first | omega | (simp; try omega))).trans f9
  have f25 : w3.cell? ⟨w.heap.size + 1, 0, none⟩ = some (.int .i64 x1.1) := (gw3.cell (by first | omega | (simp; try omega))).trans f10
  have f26 : w3.cell? ⟨w.heap.size + 1, 1, none⟩ = some (.int .i64 x1.2.1) := (gw3.cell (by first | omega | (simp; try omega))).trans f11
  have f27 : w3.cell? ⟨w.heap.size + 1, 2, none⟩ = some (u1) := (gw3.cell (by first | omega | (simp; try omega))).trans f12
  have z28 : w.heap.size < w3.heap.size := by omega
  have z29 : w.heap.size + 1 < w3.heap.size := by omega
  clear hb3 H_w2 f8 f9 f10 f11 f12 z13 z14 gw3
  have d30 : frmT.Fx w2.heap.size w3.heap.size w3 [.int .i64 (simV x0 x1).1, .int .i64 (simV x0 x1).2.1, .slice ad19 (simV x0 x1).2.2.length ad19'] (simV x0 x1) := hc16.fx
  clear hc16
  simp only [putAll, Act.put]
  go_simp
  go_wp2_with fail
  refine (toTemplate_any _ (hx0.below (by repeat (first | exact Below.refl _ _ | exact bA | assumption | refine Below.setCell ?_ (by first | omega | (simp; try omega)) _ | refine Below.alloc ?_ (by first | omega | (simp; try omega)) _ | refine Below.drew ?_ | refine bDN ?_ | refine bthen ?_ (by assumption)))) (by first | omega | (unfold szInts; omega))).mono ?_
  rintro e w4 ⟨cs, rfl, hc32, hb4⟩
  have gw4 : Below w3.heap.size w3 w4 := bthen (by repeat (first | exact Below.refl _ _ | exact bA | assumption | refine Below.setCell ?_ (by first | omega | (simp; try omega)) _ | refine Below.alloc ?_ (by first | omega | (simp; try omega)) _ | refine Below.drew ?_ | refine bDN ?_ | refine bthen ?_ (by assumption))) hb4
  have sw4 : w3.heap.size + 0 ≤ w4.heap.size := by have := hb4.size; (try simp at this); omega
  have H_w4 : Below w.heap.size w w4 := bthen H_w3 gw4
  have f33 : w4.cell? ⟨w.heap.size, 0, none⟩ = some (.int .i64 x0.1) := (gw4.cell (by first | omega | (simp; try omega))).trans f23
  have f34 : w4.cell? ⟨w.heap.size, 1, none⟩ = some (u0) := (gw4.cell (by first | omega | (simp; try omega))).trans f24
  have f35 : w4.cell? ⟨w.heap.size + 1, 0, none⟩ = some (.int .i64 x1.1) := (gw4.cell (by first | omega | (simp; try omega))).trans f25
  have f36 : w4.cell? ⟨w.heap.size + 1, 1, none⟩ = some (.int .i64 x1.2.1) := (gw4.cell (by first | omega | (simp; try omega))).trans f26
  have f37 : w4.cell? ⟨w.heap.size + 1, 2, none⟩ = some (u1) := (gw4.cell (by first | omega | (simp; try omega))).trans f27
  have f38 : w4.cell? ⟨bb15, 0, none⟩ = some (.int .i64 (simV x0 x1).1) := (gw4.cell (by first | omega | (simp; try omega))).trans f20
  have f39 : w4.cell? ⟨bb15, 1, none⟩ = some (.int .i64 (simV x0 x1).2.1) := (gw4.cell (by first | omega | (simp; try omega))).trans f21
  have f40 : w4.cell? ⟨bb15, 2, none⟩ = some (.slice ad19 (simV x0 x1).2.2.length ad19') := (gw4.cell (by first | omega | (simp; try omega))).trans f22
  have z41 : w.heap.size < w4.heap.size := by omega
  have z42 : w.heap.size + 1 < w4.heap.size := by omega
  have z43 : bb15 < w4.heap.size := by omega
  have d44 : frmT.Fx w2.heap.size w3.heap.size w4 [.int .i64 (simV x0 x1).1, .int .i64 (simV x0 x1).2.1, .slice ad19 (simV x0 x1).2.2.length ad19'] (simV x0 x1) := d30.below gw4
  clear hb4 H_w3 f23 f24 f25 f26 f27 f20 f21 f22 d30 z28 z29 gw4
  obtain ⟨ad45, ad45', rfl⟩ := fr_pair hc32
  have d46 : tplT.Fx w3.heap.size w4.heap.size w4 [.int .i64 x0.1, .slice ad45 x0.2.length ad45'] x0 := (Ty.Fr.mono hc32 (by first | exact Nat.le_refl _ | (simp; try omega))).fx
  clear hc32
  go_wp2_with fail
  refine (toFormula_any _ (hx1.below (by repeat (first | exact Below.refl _ _ | exact bA | assumption | refine Below.setCell ?_ (by first | omega | (simp; try omega)) _ | refine Below.alloc ?_ (by first | omega | (simp; try omega)) _ | refine Below.drew ?_ | refine bDN ?_ | refine bthen ?_ (by assumption)))) (by first | omega | (unfold szInts; omega))).mono ?_
  rintro e w5 ⟨cs, rfl, hc48, hb5⟩
  have gw5 : Below w4.heap.size w4 w5 := bthen (by repeat (first | exact Below.refl _ _ | exact bA | assumption | refine Below.setCell ?_ (by first | omega | (simp; try omega)) _ | refine Below.alloc ?_ (by first | omega | (simp; try omega)) _ | refine Below.drew ?_ | refine bDN ?_ | refine bthen ?_ (by assumption))) hb5
  have sw5 : w4.heap.size + 1 ≤ w5.heap.size := by have := hb5.size; (try simp at this); omega
  have H_w5 : Below w.heap.size w w5 := bthen H_w4 gw5
  have f49 : w5.cell? ⟨w.heap.size, 0, none⟩ = some (.int .i64 x0.1) := (gw5.cell (by first | omega | (simp; try omega))).trans f33
  have f50 : w5.cell? ⟨w.heap.size, 1, none⟩ = some (u0) := (gw5.cell (by first | omega | (simp; try omega))).trans f34
  have f51 : w5.cell? ⟨w.heap.size + 1, 0, none⟩ = some (.int .i64 x1.1) := (gw5.cell (by first | omega | (simp; try omega))).trans f35
  have f52 : w5.cell? ⟨w.heap.size + 1, 1, none⟩ = some (.int .i64 x1.2.1) := (gw5.cell (by first | omega | (simp; try omega))).trans f36
  have f53 : w5.cell? ⟨w.heap.size + 1, 2, none⟩ = some (u1) := (gw5.cell (by first | omega | (simp; try omega))).trans f37
  have f54 : w5.cell? ⟨bb15, 0, none⟩ = some (.int .i64 (simV x0 x1).1) := (gw5.cell (by first | omega | (simp; try omega))).trans f38
  have f55 : w5.cell? ⟨bb15, 1, none⟩ = some (.int .i64 (simV x0 x1).2.1) := (gw5.cell (by first | omega | (simp; try omega))).trans f39
  have f56 : w5.cell? ⟨bb15, 2, none⟩ = some (.slice ad19 (simV x0 x1).2.2.length ad19') := (gw5.cell (by first | omega | (simp; try omega))).trans f40
  have f57 : w5.cell? ⟨w4.heap.size, 0, none⟩ = some (.int .i64 x0.1) := by rw [(bcell hb5).1 _ _ (by first | omega | (simp; try omega))]; first | (simp; done) | simp [go_sem]
  have f58 : w5.cell? ⟨w4.heap.size, 1, none⟩ = some (.slice ad45 x0.2.length ad45') := by rw [(bcell hb5).1 _ _ (by first | omega | (simp; try omega))]; first | (simp; done) | simp [go_sem]
  have z59 : w.heap.size < w5.heap.size := by omega
  have z60 : w.heap.size + 1 < w5.heap.size := by omega
  have z61 : bb15 < w5.heap.size := by omega
  have z62 : w4.heap.size < w5.heap.size := by omega
  have d63 : frmT.Fx w2.heap.size w3.heap.size w5 [.int .i64 (simV x0 x1).1, .int .i64 (simV x0 x1).2.1, .slice ad19 (simV x0 x1).2.2.length ad19'] (simV x0 x1) := d44.below gw5
  have d64 : tplT.Fx w3.heap.size w4.heap.size w5 [.int .i64 x0.1, .slice ad45 x0.2.length ad45'] x0 := d46.below gw5
  clear hb5 H_w4 f33 f34 f35 f36 f37 f38 f39 f40 d44 d46 z41 z42 z43 gw5
  obtain ⟨ad65, ad65', rfl⟩ := fr_trip hc48
  have d66 : frmT.Fx (w4.heap.size + 1) w5.heap.size w5 [.int .i64 x1.1, .int .i64 x1.2.1, .slice ad65 x1.2.2.length ad65'] x1 := (Ty.Fr.mono hc48 (by first | exact Nat.le_refl _ | (simp; try omega))).fx
  clear hc48
  go_wp2_with fail
  refine (SimplifyFormula_any _ (d64.rd.below (by repeat (first | exact Below.refl _ _ | exact bA | assumption | refine Below.setCell ?_ (by first | omega | (simp; try omega)) _ | refine Below.alloc ?_ (by first | omega | (simp; try omega)) _ | refine Below.drew ?_ | refine bDN ?_ | refine bthen ?_ (by assumption)))) (d66.rd.below (by repeat (first | exact Below.refl _ _ | exact bA | assumption | refine Below.setCell ?_ (by first | omega | (simp; try omega)) _ | refine Below.alloc ?_ (by first | omega | (simp; try omega)) _ | refine Below.drew ?_ | refine bDN ?_ | refine bthen ?_ (by assumption))))).mono ?_
  rintro e w6 ⟨cs, rfl, hc68, hb6⟩
  have gw6 : Below w5.heap.size w5 w6 := bthen (by repeat (first | exact Below.refl _ _ | exact bA | assumption | refine Below.setCell ?_ (by first | omega | (simp; try omega)) _ | refine Below.alloc ?_ (by first | omega | (simp; try omega)) _ | refine Below.drew ?_ | refine bDN ?_ | refine bthen ?_ (by assumption))) hb6
  have sw6 : w5.heap.size + 1 ≤ w6.heap.size := by have := hb6.size; (try simp at this); omega
  have H_w6 : Below w.heap.size w w6 := bthen H_w5 gw6
  have f69 : w6.cell? ⟨w.heap.size, 0, none⟩ = some (.int .i64 x0.1) := (gw6.cell (by first | omega | (simp; try omega))).trans f49
  have f70 : w6.cell? ⟨w.heap.size, 1, none⟩ = some (u0) := (gw6.cell (by first | omega | (simp; try omega))).trans f50
  have f71 : w6.cell? ⟨w.heap.size + 1, 0, none⟩ = some (.int .i64 x1.1) := (gw6.cell (by first | omega | (simp; try omega))).trans f51
  have f72 : w6.cell? ⟨w.heap.size + 1, 1, none⟩ = some (.int .i64 x1.2.1) := (gw6.cell (by first | omega | (simp; try omega))).trans f52
  have f73 : w6.cell? ⟨w.heap.size + 1, 2, none⟩ = some (u1) := (gw6.cell (by first | omega | (simp; try omega))).trans f53
  have f74 : w6.cell? ⟨bb15, 0, none⟩ = some (.int .i64 (simV x0 x1).1) := (gw6.cell (by first | omega | (simp; try omega))).trans f54
  have f75 : w6.cell? ⟨bb15, 1, none⟩ = some (.int .i64 (simV x0 x1).2.1) := (gw6.cell (by first | omega | (simp; try omega))).trans f55
  have f76 : w6.cell? ⟨bb15, 2, none⟩ = some (.slice ad19 (simV x0 x1).2.2.length ad19') := (gw6.cell (by first | omega | (simp; try omega))).trans f56
  have f77 : w6.cell? ⟨w4.heap.size, 0, none⟩ = some (.int .i64 x0.1) := (gw6.cell (by first | omega | (simp; try omega))).trans f57
  have f78 : w6.cell? ⟨w4.heap.size, 1, none⟩ = some (.slice ad45 x0.2.length ad45') := (gw6.cell (by first | omega | (simp; try omega))).trans f58
  have f79 : w6.cell? ⟨w5.heap.size, 0, none⟩ = some (.int .i64 x1.1) := by rw [(bcell hb6).1 _ _ (by first | omega | (simp; try omega))]; first | (simp; done) | simp [go_sem]
  have f80 : w6.cell? ⟨w5.heap.size, 1, none⟩ = some (.int .i64 x1.2.1) := by rw [(bcell hb6).1 _ _ (by first | omega | (simp; try omega))]; first | (simp; done) | simp [go_sem]
  have f81 : w6.cell? ⟨w5.heap.size, 2, none⟩ = some (.slice ad65 x1.2.2.length ad65') := by rw [(bcell hb6).1 _ _ (by first | omega | (simp; try omega))]; first | (simp; done) | simp [go_sem]
  have z82 : w.heap.size < w6.heap.size := by omega
  have z83 : w.heap.size + 1 < w6.heap.size := by omega
  have z84 : bb15 < w6.heap.size := by omega
  have z85 : w4.heap.size < w6.heap.size := by omega
  have z86 : w5.heap.size < w6.heap.size := by omega
  have d87 : frmT.Fx w2.heap.size w3.heap.size w6 [.int .i64 (simV x0 x1).1, .int .i64 (simV x0 x1).2.1, .slice ad19 (simV x0 x1).2.2.length ad19'] (simV x0 x1) := d63.below gw6
  have d88 : tplT.Fx w3.heap.size w4.heap.size w6 [.int .i64 x0.1, .slice ad45 x0.2.length ad45'] x0 := d64.below gw6
  have d89 : frmT.Fx (w4.heap.size + 1) w5.heap.size w6 [.int .i64 x1.1, .int .i64 x1.2.1, .slice ad65 x1.2.2.length ad65'] x1 := d66.below gw6
  clear hb6 H_w5 f49 f50 f51 f52 f53 f54 f55 f56 f57 f58 d63 d64 d66 z59 z60 z61 z62 gw6
  obtain ⟨ad90, ad90', rfl⟩ := fr_trip hc68
  have d91 : frmT.Fx (w5.heap.size + 1) w6.heap.size w6 [.int .i64 (simV x0 x1).1, .int .i64 (simV x0 x1).2.1, .slice ad90 (simV x0 x1).2.2.length ad90'] (simV x0 x1) := (Ty.Fr.mono hc68 (by first | exact Nat.le_refl _ | (simp; try omega))).fx
  clear hc68
  go_wp2_with fail
  refine (eqFormula_any _ (d91.rd.below (by repeat (first | exact Below.refl _ _ | exact bA | assumption | refine Below.setCell ?_ (by first | omega | (simp; try omega)) _ | refine Below.alloc ?_ (by first | omega | (simp; try omega)) _ | refine Below.drew ?_ | refine bDN ?_ | refine bthen ?_ (by assumption)))) (d87.rd.below (by repeat (first | exact Below.refl _ _ | exact bA | assumption | refine Below.setCell ?_ (by first | omega | (simp; try omega)) _ | refine Below.alloc ?_ (by first | omega | (simp; try omega)) _ | refine Below.drew ?_ | refine bDN ?_ | refine bthen ?_ (by assumption))))).mono ?_
  rintro e w7 ⟨rfl, hb7⟩
  have gw7 : Below w6.heap.size w6 w7 := bthen (by repeat (first | exact Below.refl _ _ | exact bA | assumption | refine Below.setCell ?_ (by first | omega | (simp; try omega)) _ | refine Below.alloc ?_ (by first | omega | (simp; try omega)) _ | refine Below.drew ?_ | refine bDN ?_ | refine bthen ?_ (by assumption))) hb7
  have sw7 : w6.heap.size + 1 ≤ w7.heap.size := by have := hb7.size; (try simp at this); omega
  have H_w7 : Below w.heap.size w w7 := bthen H_w6 gw7
  have f93 : w7.cell? ⟨w.heap.size, 0, none⟩ = some (.int .i64 x0.1) := (gw7.cell (by first | omega | (simp; try omega))).trans f69
  have f94 : w7.cell? ⟨w.heap.size, 1, none⟩ = some (u0) := (gw7.cell (by first | omega | (simp; try omega))).trans f70
  have f95 : w7.cell? ⟨w.heap.size + 1, 0, none⟩ = some (.int .i64 x1.1) := (gw7.cell (by first | omega | (simp; try omega))).trans f71
  have f96 : w7.cell? ⟨w.heap.size + 1, 1, none⟩ = some (.int .i64 x1.2.1) := (gw7.cell (by first | omega | (simp; try omega))).trans f72
  have f97 : w7.cell? ⟨w.heap.size + 1, 2, none⟩ = some (u1) := (gw7.cell (by first | omega | (simp; try omega))).trans f73
  have f98 : w7.cell? ⟨bb15, 0, none⟩ = some (.int .i64 (simV x0 x1).1) := (gw7.cell (by first | omega | (simp; try omega))).trans f74
  have f99 : w7.cell? ⟨bb15, 1, none⟩ = some (.int .i64 (simV x0 x1).2.1) := (gw7.cell (by first | omega | (simp; try omega))).trans f75
  have f100 : w7.cell? ⟨bb15, 2, none⟩ = some (.slice ad19 (simV x0 x1).2.2.length ad19') := (gw7.cell (by first | omega | (simp; try omega))).trans f76
  have f101 : w7.cell? ⟨w4.heap.size, 0, none⟩ = some (.int .i64 x0.1) := (gw7.cell (by first | omega | (simp; try omega))).trans f77
  have f102 : w7.cell? ⟨w4.heap.size, 1, none⟩ = some (.slice ad45 x0.2.length ad45') := (gw7.cell (by first | omega | (simp; try omega))).trans f78
  have f103 : w7.cell? ⟨w5.heap.size, 0, none⟩ = some (.int .i64 x1.1) := (gw7.cell (by first | omega | (simp; try omega))).trans f79
  have f104 : w7.cell? ⟨w5.heap.size, 1, none⟩ = some (.int .i64 x1.2.1) := (gw7.cell (by first | omega | (simp; try omega))).trans f80
  have f105 : w7.cell? ⟨w5.heap.size, 2, none⟩ = some (.slice ad65 x1.2.2.length ad65') := (gw7.cell (by first | omega | (simp; try omega))).trans f81
  have f106 : w7.cell? ⟨w6.heap.size, 0, none⟩ = some (.int .i64 (simV x0 x1).1) := by rw [(bcell hb7).1 _ _ (by first | omega | (simp; try omega))]; first | (simp; done) | simp [go_sem]
  have f107 : w7.cell? ⟨w6.heap.size, 1, none⟩ = some (.int .i64 (simV x0 x1).2.1) := by rw [(bcell hb7).1 _ _ (by first | omega | (simp; try omega))]; first | (simp; done) | simp [go_sem]
  have f108 : w7.cell? ⟨w6.heap.size, 2, none⟩ = some (.slice ad90 (simV x0 x1).2.2.length ad90') := by rw [(bcell hb7).1 _ _ (by first | omega | (simp; try omega))]; first | (simp; done) | simp [go_sem]
  have z109 : w.heap.size < w7.heap.size := by omega
  have z110 : w.heap.size + 1 < w7.heap.size := by omega
  have z111 : bb15 < w7.heap.size := by omega
  have z112 : w4.heap.size < w7.heap.size := by omega
  have z113 : w5.heap.size < w7.heap.size := by omega
  have z114 : w6.heap.size < w7.heap.size := by omega
  have d115 : frmT.Fx w2.heap.size w3.heap.size w7 [.int .i64 (simV x0 x1).1, .int .i64 (simV x0 x1).2.1, .slice ad19 (simV x0 x1).2.2.length ad19'] (simV x0 x1) := d87.below gw7
  have d116 : tplT.Fx w3.heap.size w4.heap.size w7 [.int .i64 x0.1, .slice ad45 x0.2.length ad45'] x0 := d88.below gw7
  have d117 : frmT.Fx (w4.heap.size + 1) w5.heap.size w7 [.int .i64 x1.1, .int .i64 x1.2.1, .slice ad65 x1.2.2.length ad65'] x1 := d89.below gw7
  have d118 : frmT.Fx (w5.heap.size + 1) w6.heap.size w7 [.int .i64 (simV x0 x1).1, .int .i64 (simV x0 x1).2.1, .slice ad90 (simV x0 x1).2.2.length ad90'] (simV x0 x1) := d91.below gw7
  clear hb7 H_w6 f69 f70 f71 f72 f73 f74 f75 f76 f77 f78 f79 f80 f81 d87 d88 d89 d91 z82 z83 z84 z85 z86 gw7
  rw [eqB_true rfl]
  go_wp2_with fail
  refine wp_region_loose [exV (.agg #[.int .i64 x0.1, .slice ad45 x0.2.length ad45']), exV (.agg #[.int .i64 x0.1, u0]), rdA tplT x0, exV (.bool true), exV (.bool false)] (by kernel_rfl) (by kernel_rfl) ⟨st_exV, st_exV, st_rdA, st_exV, st_exV, trivial⟩ ⟨?j14_0, ?j14_1, ?j14_2, ?j14_3, ?j14_4, trivial⟩ ?hQ14
  case j14_0 =>
    intro a' w' hb hd
    have e0 : a'.tmps[8]?.getD undef = .pointer (some ⟨w4.heap.size, 0, none⟩) := ev (slot_o hd 8 rfl rfl)
    have q : ∀ b o, b < w7.heap.size → w'.cell? ⟨b, o, none⟩ = w7.cell? ⟨b, o, none⟩ := (bcell hb).1
    go_simp
    exact ⟨Below.refl _ _, rfl⟩
  case j14_1 =>
    intro a' w' hb hd
    have e0 : a'.tmps[2]?.getD undef = .pointer (some ⟨w.heap.size, 0, none⟩) := ev (slot_o hd 2 rfl rfl)
    have q : ∀ b o, b < w7.heap.size → w'.cell? ⟨b, o, none⟩ = w7.cell? ⟨b, o, none⟩ := (bcell hb).1
    go_simp
    exact ⟨Below.refl _ _, rfl⟩
  case j14_2 =>
    intro a' w' hb hd
    have e55 : a'.tmps[55]?.getD undef = .agg #[.int .i64 x0.1, u0] := ev (slot_w hd 55 (exV (.agg #[.int .i64 x0.1, u0])) rfl rfl)
    have r55 : tplT.Rd w7 (#[.int .i64 x0.1, u0] : Array Value).toList x0 := hx0.below H_w7
    have r55' := r55.below hb
    go_simp
    exact ⟨Below.refl _ _, (toTemplate_any w' r55' (by first | omega | (unfold szInts; omega))).mono fun e w'' ⟨cs, he, hf, hb⟩ => ⟨_, he, hb, cs, rfl, hf.rd⟩⟩
  case j14_3 =>
    intro a' w' hb hd
    have e54 : a'.tmps[54]?.getD undef = .agg #[.int .i64 x0.1, .slice ad45 x0.2.length ad45'] := ev (slot_w hd 54 (exV (.agg #[.int .i64 x0.1, .slice ad45 x0.2.length ad45'])) rfl rfl)
    have r54 : tplT.Rd w7 (#[.int .i64 x0.1, .slice ad45 x0.2.length ad45'] : Array Value).toList x0 := d116.rd
    have r54' := r54.below hb
    have d56 := slot_w hd 56 (rdA tplT x0) rfl rfl
    obtain ⟨cs56, e56, hf56⟩ := d56
    have e56' := ev e56
    go_simp
    exact ⟨Below.refl _ _, (eqTemplate_any w' r54' hf56).mono fun e w'' ⟨he, hb⟩ => ⟨_, he, hb, exV_eqB⟩⟩
  case j14_4 =>
    intro a' w' hb hd
    have e0 : a'.tmps[57]?.getD undef = .bool true := ev (slot_w hd 57 (exV (.bool true)) rfl rfl)
    go_simp
    exact ⟨Below.refl _ _, rfl⟩
  intro vs14 w8 hb8 H0
  obtain ⟨v14_0, _, rfl, p0, H1⟩ := HAll_cons H0
  obtain ⟨v14_1, _, rfl, p1, H2⟩ := HAll_cons H1
  obtain ⟨v14_2, _, rfl, p2, H3⟩ := HAll_cons H2
  obtain ⟨v14_3, _, rfl, p3, H4⟩ := HAll_cons H3
  obtain ⟨v14_4, _, rfl, p4, H5⟩ := HAll_cons H4
  obtain rfl := HAll_nil H5
  obtain rfl := p0 rfl
  obtain rfl := p1 rfl
  obtain rfl := p3 rfl
  obtain rfl := p4 rfl
  clear p0 p1 p2 p3 p4 H0 H1 H2 H3 H4 H5
  have gw8 : Below w7.heap.size w7 w8 := bthen (by repeat (first | exact Below.refl _ _ | exact bA | assumption | refine Below.setCell ?_ (by first | omega | (simp; try omega)) _ | refine Below.alloc ?_ (by first | omega | (simp; try omega)) _ | refine Below.drew ?_ | refine bDN ?_ | refine bthen ?_ (by assumption))) hb8
  have sw8 : w7.heap.size + 0 ≤ w8.heap.size := by have := hb8.size; (try simp at this); omega
  have H_w8 : Below w.heap.size w w8 := bthen H_w7 gw8
  have f119 : w8.cell? ⟨w.heap.size, 0, none⟩ = some (.int .i64 x0.1) := (gw8.cell (by first | omega | (simp; try omega))).trans f93
  have f120 : w8.cell? ⟨w.heap.size, 1, none⟩ = some (u0) := (gw8.cell (by first | omega | (simp; try omega))).trans f94
  have f121 : w8.cell? ⟨w.heap.size + 1, 0, none⟩ = some (.int .i64 x1.1) := (gw8.cell (by first | omega | (simp; try omega))).trans f95
  have f122 : w8.cell? ⟨w.heap.size + 1, 1, none⟩ = some (.int .i64 x1.2.1) := (gw8.cell (by first | omega | (simp; try omega))).trans f96
  have f123 : w8.cell? ⟨w.heap.size + 1, 2, none⟩ = some (u1) := (gw8.cell (by first | omega | (simp; try omega))).trans f97
  have f124 : w8.cell? ⟨bb15, 0, none⟩ = some (.int .i64 (simV x0 x1).1) := (gw8.cell (by first | omega | (simp; try omega))).trans f98
  have f125 : w8.cell? ⟨bb15, 1, none⟩ = some (.int .i64 (simV x0 x1).2.1) := (gw8.cell (by first | omega | (simp; try omega))).trans f99
  have f126 : w8.cell? ⟨bb15, 2, none⟩ = some (.slice ad19 (simV x0 x1).2.2.length ad19') := (gw8.cell (by first | omega | (simp; try omega))).trans f100
  have f127 : w8.cell? ⟨w4.heap.size, 0, none⟩ = some (.int .i64 x0.1) := (gw8.cell (by first | omega | (simp; try omega))).trans f101
  have f128 : w8.cell? ⟨w4.heap.size, 1, none⟩ = some (.slice ad45 x0.2.length ad45') := (gw8.cell (by first | omega | (simp; try omega))).trans f102
  have f129 : w8.cell? ⟨w5.heap.size, 0, none⟩ = some (.int .i64 x1.1) := (gw8.cell (by first | omega | (simp; try omega))).trans f103
  have f130 : w8.cell? ⟨w5.heap.size, 1, none⟩ = some (.int .i64 x1.2.1) := (gw8.cell (by first | omega | (simp; try omega))).trans f104
  have f131 : w8.cell? ⟨w5.heap.size, 2, none⟩ = some (.slice ad65 x1.2.2.length ad65') := (gw8.cell (by first | omega | (simp; try omega))).trans f105
  have f132 : w8.cell? ⟨w6.heap.size, 0, none⟩ = some (.int .i64 (simV x0 x1).1) := (gw8.cell (by first | omega | (simp; try omega))).trans f106
  have f133 : w8.cell? ⟨w6.heap.size, 1, none⟩ = some (.int .i64 (simV x0 x1).2.1) := (gw8.cell (by first | omega | (simp; try omega))).trans f107
  have f134 : w8.cell? ⟨w6.heap.size, 2, none⟩ = some (.slice ad90 (simV x0 x1).2.2.length ad90') := (gw8.cell (by first | omega | (simp; try omega))).trans f108
  have z135 : w.heap.size < w8.heap.size := by omega
  have z136 : w.heap.size + 1 < w8.heap.size := by omega
  have z137 : bb15 < w8.heap.size := by omega
  have z138 : w4.heap.size < w8.heap.size := by omega
  have z139 : w5.heap.size < w8.heap.size := by omega
  have z140 : w6.heap.size < w8.heap.size := by omega
  have d141 : frmT.Fx w2.heap.size w3.heap.size w8 [.int .i64 (simV x0 x1).1, .int .i64 (simV x0 x1).2.1, .slice ad19 (simV x0 x1).2.2.length ad19'] (simV x0 x1) := d115.below gw8
  have d142 : tplT.Fx w3.heap.size w4.heap.size w8 [.int .i64 x0.1, .slice ad45 x0.2.length ad45'] x0 := d116.below gw8
  have d143 : frmT.Fx (w4.heap.size + 1) w5.heap.size w8 [.int .i64 x1.1, .int .i64 x1.2.1, .slice ad65 x1.2.2.length ad65'] x1 := d117.below gw8
  have d144 : frmT.Fx (w5.heap.size + 1) w6.heap.size w8 [.int .i64 (simV x0 x1).1, .int .i64 (simV x0 x1).2.1, .slice ad90 (simV x0 x1).2.2.length ad90'] (simV x0 x1) := d118.below gw8
  clear hb8 H_w7 f93 f94 f95 f96 f97 f98 f99 f100 f101 f102 f103 f104 f105 f106 f107 f108 d115 d116 d117 d118 z109 z110 z111 z112 z113 z114 gw8
  simp only [putAll, Act.put]
  go_simp
  go_wp2_with fail
  refine wp_region_loose [exV (.agg #[.int .i64 x1.1, .int .i64 x1.2.1, .slice ad65 x1.2.2.length ad65']), exV (.agg #[.int .i64 x1.1, .int .i64 x1.2.1, u1]), rdA frmT x1, exV (.bool true), exV (.bool false)] (by kernel_rfl) (by kernel_rfl) ⟨st_exV, st_exV, st_rdA, st_exV, st_exV, trivial⟩ ⟨?j16_0, ?j16_1, ?j16_2, ?j16_3, ?j16_4, trivial⟩ ?hQ16
  case j16_0 =>
    intro a' w' hb hd
    have e0 : a'.tmps[9]?.getD undef = .pointer (some ⟨w5.heap.size, 0, none⟩) := ev (slot_o hd 9 rfl rfl)
    have q : ∀ b o, b < w8.heap.size → w'.cell? ⟨b, o, none⟩ = w8.cell? ⟨b, o, none⟩ := (bcell hb).1
    go_simp
    exact ⟨Below.refl _ _, rfl⟩
  case j16_1 =>
    intro a' w' hb hd
    have e0 : a'.tmps[3]?.getD undef = .pointer (some ⟨w.heap.size + 1, 0, none⟩) := ev (slot_o hd 3 rfl rfl)
    have q : ∀ b o, b < w8.heap.size → w'.cell? ⟨b, o, none⟩ = w8.cell? ⟨b, o, none⟩ := (bcell hb).1
    go_simp
    exact ⟨Below.refl _ _, rfl⟩
  case j16_2 =>
    intro a' w' hb hd
    have e60 : a'.tmps[60]?.getD undef = .agg #[.int .i64 x1.1, .int .i64 x1.2.1, u1] := ev (slot_w hd 60 (exV (.agg #[.int .i64 x1.1, .int .i64 x1.2.1, u1])) rfl rfl)
    have r60 : frmT.Rd w8 (#[.int .i64 x1.1, .int .i64 x1.2.1, u1] : Array Value).toList x1 := hx1.below H_w8
    have r60' := r60.below hb
    go_simp
    exact ⟨Below.refl _ _, (toFormula_any w' r60' (by first | omega | (unfold szInts; omega))).mono fun e w'' ⟨cs, he, hf, hb⟩ => ⟨_, he, hb, cs, rfl, hf.rd⟩⟩
  case j16_3 =>
    intro a' w' hb hd
    have e59 : a'.tmps[59]?.getD undef = .agg #[.int .i64 x1.1, .int .i64 x1.2.1, .slice ad65 x1.2.2.length ad65'] := ev (slot_w hd 59 (exV (.agg #[.int .i64 x1.1, .int .i64 x1.2.1, .slice ad65 x1.2.2.length ad65'])) rfl rfl)
    have r59 : frmT.Rd w8 (#[.int .i64 x1.1, .int .i64 x1.2.1, .slice ad65 x1.2.2.length ad65'] : Array Value).toList x1 := d143.rd
    have r59' := r59.below hb
    have d61 := slot_w hd 61 (rdA frmT x1) rfl rfl
    obtain ⟨cs61, e61, hf61⟩ := d61
    have e61' := ev e61
    go_simp
    exact ⟨Below.refl _ _, (eqFormula_any w' r59' hf61).mono fun e w'' ⟨he, hb⟩ => ⟨_, he, hb, exV_eqB⟩⟩
  case j16_4 =>
    intro a' w' hb hd
    have e0 : a'.tmps[62]?.getD undef = .bool true := ev (slot_w hd 62 (exV (.bool true)) rfl rfl)
    go_simp
    exact ⟨Below.refl _ _, rfl⟩
  intro vs16 w9 hb9 H0
  obtain ⟨v16_0, _, rfl, p0, H1⟩ := HAll_cons H0
  obtain ⟨v16_1, _, rfl, p1, H2⟩ := HAll_cons H1
  obtain ⟨v16_2, _, rfl, p2, H3⟩ := HAll_cons H2
  obtain ⟨v16_3, _, rfl, p3, H4⟩ := HAll_cons H3
  obtain ⟨v16_4, _, rfl, p4, H5⟩ := HAll_cons H4
  obtain rfl := HAll_nil H5
  obtain rfl := p0 rfl
  obtain rfl := p1 rfl
  obtain rfl := p3 rfl
  obtain rfl := p4 rfl
  clear p0 p1 p2 p3 p4 H0 H1 H2 H3 H4 H5
  have gw9 : Below w8.heap.size w8 w9 := bthen (by repeat (first | exact Below.refl _ _ | exact bA | assumption | refine Below.setCell ?_ (by first | omega | (simp; try omega)) _ | refine Below.alloc ?_ (by first | omega | (simp; try omega)) _ | refine Below.drew ?_ | refine bDN ?_ | refine bthen ?_ (by assumption))) hb9
  have sw9 : w8.heap.size + 0 ≤ w9.heap.size := by have := hb9.size; (try simp at this); omega
  have H_w9 : Below w.heap.size w w9 := bthen H_w8 gw9
  have f145 : w9.cell? ⟨w.heap.size, 0, none⟩ = some (.int .i64 x0.1) := (gw9.cell (by first | omega | (simp; try omega))).trans f119
  have f146 : w9.cell? ⟨w.heap.size, 1, none⟩ = some (u0) := (gw9.cell (by first | omega | (simp; try omega))).trans f120
  have f147 : w9.cell? ⟨w.heap.size + 1, 0, none⟩ = some (.int .i64 x1.1) := (gw9.cell (by first | omega | (simp; try omega))).trans f121
  have f148 : w9.cell? ⟨w.heap.size + 1, 1, none⟩ = some (.int .i64 x1.2.1) := (gw9.cell (by first | omega | (simp; try omega))).trans f122
  have f149 : w9.cell? ⟨w.heap.size + 1, 2, none⟩ = some (u1) := (gw9.cell (by first | omega | (simp; try omega))).trans f123
  have f150 : w9.cell? ⟨bb15, 0, none⟩ = some (.int .i64 (simV x0 x1).1) := (gw9.cell (by first | omega | (simp; try omega))).trans f124
  have f151 : w9.cell? ⟨bb15, 1, none⟩ = some (.int .i64 (simV x0 x1).2.1) := (gw9.cell (by first | omega | (simp; try omega))).trans f125
  have f152 : w9.cell? ⟨bb15, 2, none⟩ = some (.slice ad19 (simV x0 x1).2.2.length ad19') := (gw9.cell (by first | omega | (simp; try omega))).trans f126
  have f153 : w9.cell? ⟨w4.heap.size, 0, none⟩ = some (.int .i64 x0.1) := (gw9.cell (by first | omega | (simp; try omega))).trans f127
  have f154 : w9.cell? ⟨w4.heap.size, 1, none⟩ = some (.slice ad45 x0.2.length ad45') := (gw9.cell (by first | omega | (simp; try omega))).trans f128
  have f155 : w9.cell? ⟨w5.heap.size, 0, none⟩ = some (.int .i64 x1.1) := (gw9.cell (by first | omega | (simp; try omega))).trans f129
  have f156 : w9.cell? ⟨w5.heap.size, 1, none⟩ = some (.int .i64 x1.2.1) := (gw9.cell (by first | omega | (simp; try omega))).trans f130
  have f157 : w9.cell? ⟨w5.heap.size, 2, none⟩ = some (.slice ad65 x1.2.2.length ad65') := (gw9.cell (by first | omega | (simp; try omega))).trans f131
  have f158 : w9.cell? ⟨w6.heap.size, 0, none⟩ = some (.int .i64 (simV x0 x1).1) := (gw9.cell (by first | omega | (simp; try omega))).trans f132
  have f159 : w9.cell? ⟨w6.heap.size, 1, none⟩ = some (.int .i64 (simV x0 x1).2.1) := (gw9.cell (by first | omega | (simp; try omega))).trans f133
  have f160 : w9.cell? ⟨w6.heap.size, 2, none⟩ = some (.slice ad90 (simV x0 x1).2.2.length ad90') := (gw9.cell (by first | omega | (simp; try omega))).trans f134
  have z161 : w.heap.size < w9.heap.size := by omega
  have z162 : w.heap.size + 1 < w9.heap.size := by omega
  have z163 : bb15 < w9.heap.size := by omega
  have z164 : w4.heap.size < w9.heap.size := by omega
  have z165 : w5.heap.size < w9.heap.size := by omega
  have z166 : w6.heap.size < w9.heap.size := by omega
  have d167 : frmT.Fx w2.heap.size w3.heap.size w9 [.int .i64 (simV x0 x1).1, .int .i64 (simV x0 x1).2.1, .slice ad19 (simV x0 x1).2.2.length ad19'] (simV x0 x1) := d141.below gw9
  have d168 : tplT.Fx w3.heap.size w4.heap.size w9 [.int .i64 x0.1, .slice ad45 x0.2.length ad45'] x0 := d142.below gw9
  have d169 : frmT.Fx (w4.heap.size + 1) w5.heap.size w9 [.int .i64 x1.1, .int .i64 x1.2.1, .slice ad65 x1.2.2.length ad65'] x1 := d143.below gw9
  have d170 : frmT.Fx (w5.heap.size + 1) w6.heap.size w9 [.int .i64 (simV x0 x1).1, .int .i64 (simV x0 x1).2.1, .slice ad90 (simV x0 x1).2.2.length ad90'] (simV x0 x1) := d144.below gw9
  clear hb9 H_w8 f119 f120 f121 f122 f123 f124 f125 f126 f127 f128 f129 f130 f131 f132 f133 f134 d141 d142 d143 d144 z135 z136 z137 z138 z139 z140 gw9
  simp only [putAll, Act.put]
  go_simp
  go_wp2_with fail
  refine (markTemplate_fx _ d168 _ (by omega) (by omega)).mono ?_
  rintro e w10 ⟨rfl, hb10, d171⟩
  clear d168
  have sw10 : w9.heap.size ≤ w10.heap.size := hb10.size
  have H_w10 : Below w.heap.size w w10 := below_tch H_w9 hb10 (by omega) (by omega)
  have f172 : w10.cell? ⟨w.heap.size, 0, none⟩ = some (.int .i64 x0.1) := (hb10.cell (by omega) (by omega)).trans f145
  have f173 : w10.cell? ⟨w.heap.size, 1, none⟩ = some (u0) := (hb10.cell (by omega) (by omega)).trans f146
  have f174 : w10.cell? ⟨w.heap.size + 1, 0, none⟩ = some (.int .i64 x1.1) := (hb10.cell (by omega) (by omega)).trans f147
  have f175 : w10.cell? ⟨w.heap.size + 1, 1, none⟩ = some (.int .i64 x1.2.1) := (hb10.cell (by omega) (by omega)).trans f148
  have f176 : w10.cell? ⟨w.heap.size + 1, 2, none⟩ = some (u1) := (hb10.cell (by omega) (by omega)).trans f149
  have f177 : w10.cell? ⟨bb15, 0, none⟩ = some (.int .i64 (simV x0 x1).1) := (hb10.cell (by omega) (by omega)).trans f150
  have f178 : w10.cell? ⟨bb15, 1, none⟩ = some (.int .i64 (simV x0 x1).2.1) := (hb10.cell (by omega) (by omega)).trans f151
  have f179 : w10.cell? ⟨bb15, 2, none⟩ = some (.slice ad19 (simV x0 x1).2.2.length ad19') := (hb10.cell (by omega) (by omega)).trans f152
  have f180 : w10.cell? ⟨w4.heap.size, 0, none⟩ = some (.int .i64 x0.1) := (hb10.cell (by omega) (by omega)).trans f153
  have f181 : w10.cell? ⟨w4.heap.size, 1, none⟩ = some (.slice ad45 x0.2.length ad45') := (hb10.cell (by omega) (by omega)).trans f154
  have f182 : w10.cell? ⟨w5.heap.size, 0, none⟩ = some (.int .i64 x1.1) := (hb10.cell (by omega) (by omega)).trans f155
  have f183 : w10.cell? ⟨w5.heap.size, 1, none⟩ = some (.int .i64 x1.2.1) := (hb10.cell (by omega) (by omega)).trans f156
  have f184 : w10.cell? ⟨w5.heap.size, 2, none⟩ = some (.slice ad65 x1.2.2.length ad65') := (hb10.cell (by omega) (by omega)).trans f157
  have f185 : w10.cell? ⟨w6.heap.size, 0, none⟩ = some (.int .i64 (simV x0 x1).1) := (hb10.cell (by omega) (by omega)).trans f158
  have f186 : w10.cell? ⟨w6.heap.size, 1, none⟩ = some (.int .i64 (simV x0 x1).2.1) := (hb10.cell (by omega) (by omega)).trans f159
  have f187 : w10.cell? ⟨w6.heap.size, 2, none⟩ = some (.slice ad90 (simV x0 x1).2.2.length ad90') := (hb10.cell (by omega) (by omega)).trans f160
  have z188 : w.heap.size < w10.heap.size := by omega
  have z189 : w.heap.size + 1 < w10.heap.size := by omega
  have z190 : bb15 < w10.heap.size := by omega
  have z191 : w4.heap.size < w10.heap.size := by omega
  have z192 : w5.heap.size < w10.heap.size := by omega
  have z193 : w6.heap.size < w10.heap.size := by omega
  have d194 : frmT.Fx w2.heap.size w3.heap.size w10 [.int .i64 (simV x0 x1).1, .int .i64 (simV x0 x1).2.1, .slice ad19 (simV x0 x1).2.2.length ad19'] (simV x0 x1) := d167.tch hb10 (by omega)
  have d195 : frmT.Fx (w4.heap.size + 1) w5.heap.size w10 [.int .i64 x1.1, .int .i64 x1.2.1, .slice ad65 x1.2.2.length ad65'] x1 := d169.tch hb10 (by omega)
  have d196 : frmT.Fx (w5.heap.size + 1) w6.heap.size w10 [.int .i64 (simV x0 x1).1, .int .i64 (simV x0 x1).2.1, .slice ad90 (simV x0 x1).2.2.length ad90'] (simV x0 x1) := d170.tch hb10 (by omega)
  clear hb10 H_w9 f145 f146 f147 f148 f149 f150 f151 f152 f153 f154 f155 f156 f157 f158 f159 f160 d167 d169 d170 z161 z162 z163 z164 z165 z166
  have hk197 : 0 ≤ (1 + cntTpl x0) := by omega
  go_wp2_with fail
  refine (markFormula_fx _ d195 _ (by omega) (by omega)).mono ?_
  rintro e w11 ⟨rfl, hb11, d198⟩
  clear d195
  have sw11 : w10.heap.size ≤ w11.heap.size := hb11.size
  have H_w11 : Below w.heap.size w w11 := below_tch H_w10 hb11 (by omega) (by omega)
  have f199 : w11.cell? ⟨w.heap.size, 0, none⟩ = some (.int .i64 x0.1) := (hb11.cell (by omega) (by omega)).trans f172
  have f200 : w11.cell? ⟨w.heap.size, 1, none⟩ = some (u0) := (hb11.cell (by omega) (by omega)).trans f173
  have f201 : w11.cell? ⟨w.heap.size + 1, 0, none⟩ = some (.int .i64 x1.1) := (hb11.cell (by omega) (by omega)).trans f174
  have f202 : w11.cell? ⟨w.heap.size + 1, 1, none⟩ = some (.int .i64 x1.2.1) := (hb11.cell (by omega) (by omega)).trans f175
  have f203 : w11.cell? ⟨w.heap.size + 1, 2, none⟩ = some (u1) := (hb11.cell (by omega) (by omega)).trans f176
  have f204 : w11.cell? ⟨bb15, 0, none⟩ = some (.int .i64 (simV x0 x1).1) := (hb11.cell (by omega) (by omega)).trans f177
  have f205 : w11.cell? ⟨bb15, 1, none⟩ = some (.int .i64 (simV x0 x1).2.1) := (hb11.cell (by omega) (by omega)).trans f178
  have f206 : w11.cell? ⟨bb15, 2, none⟩ = some (.slice ad19 (simV x0 x1).2.2.length ad19') := (hb11.cell (by omega) (by omega)).trans f179
  have f207 : w11.cell? ⟨w4.heap.size, 0, none⟩ = some (.int .i64 x0.1) := (hb11.cell (by omega) (by omega)).trans f180
  have f208 : w11.cell? ⟨w4.heap.size, 1, none⟩ = some (.slice ad45 x0.2.length ad45') := (hb11.cell (by omega) (by omega)).trans f181
  have f209 : w11.cell? ⟨w5.heap.size, 0, none⟩ = some (.int .i64 x1.1) := (hb11.cell (by omega) (by omega)).trans f182
  have f210 : w11.cell? ⟨w5.heap.size, 1, none⟩ = some (.int .i64 x1.2.1) := (hb11.cell (by omega) (by omega)).trans f183
  have f211 : w11.cell? ⟨w5.heap.size, 2, none⟩ = some (.slice ad65 x1.2.2.length ad65') := (hb11.cell (by omega) (by omega)).trans f184
  have f212 : w11.cell? ⟨w6.heap.size, 0, none⟩ = some (.int .i64 (simV x0 x1).1) := (hb11.cell (by omega) (by omega)).trans f185
  have f213 : w11.cell? ⟨w6.heap.size, 1, none⟩ = some (.int .i64 (simV x0 x1).2.1) := (hb11.cell (by omega) (by omega)).trans f186
  have f214 : w11.cell? ⟨w6.heap.size, 2, none⟩ = some (.slice ad90 (simV x0 x1).2.2.length ad90') := (hb11.cell (by omega) (by omega)).trans f187
  have z215 : w.heap.size < w11.heap.size := by omega
  have z216 : w.heap.size + 1 < w11.heap.size := by omega
  have z217 : bb15 < w11.heap.size := by omega
  have z218 : w4.heap.size < w11.heap.size := by omega
  have z219 : w5.heap.size < w11.heap.size := by omega
  have z220 : w6.heap.size < w11.heap.size := by omega
  have d221 : frmT.Fx w2.heap.size w3.heap.size w11 [.int .i64 (simV x0 x1).1, .int .i64 (simV x0 x1).2.1, .slice ad19 (simV x0 x1).2.2.length ad19'] (simV x0 x1) := d194.tch hb11 (by omega)
  have d222 : tplT.Fx w3.heap.size w4.heap.size w11 [.int .i64 x0.1, .slice ad45 x0.2.length ad45'] (mkTpl 1 x0) := d171.tch hb11 (by omega)
  have d223 : frmT.Fx (w5.heap.size + 1) w6.heap.size w11 [.int .i64 (simV x0 x1).1, .int .i64 (simV x0 x1).2.1, .slice ad90 (simV x0 x1).2.2.length ad90'] (simV x0 x1) := d196.tch hb11 (by omega)
  clear hb11 H_w10 f172 f173 f174 f175 f176 f177 f178 f179 f180 f181 f182 f183 f184 f185 f186 f187 d194 d171 d196 z188 z189 z190 z191 z192 z193
  have hk224 : 0 ≤ ((1 + cntTpl x0) + cntFrm x1) := by omega
  go_wp2_with fail
  refine (eqFormula_any _ (d223.rd.below (by repeat (first | exact Below.refl _ _ | exact bA | assumption | refine Below.setCell ?_ (by first | omega | (simp; try omega)) _ | refine Below.alloc ?_ (by first | omega | (simp; try omega)) _ | refine Below.drew ?_ | refine bDN ?_ | refine bthen ?_ (by assumption)))) (d221.rd.below (by repeat (first | exact Below.refl _ _ | exact bA | assumption | refine Below.setCell ?_ (by first | omega | (simp; try omega)) _ | refine Below.alloc ?_ (by first | omega | (simp; try omega)) _ | refine Below.drew ?_ | refine bDN ?_ | refine bthen ?_ (by assumption))))).mono ?_
  rintro e w12 ⟨rfl, hb12⟩
  have gw12 : Below w11.heap.size w11 w12 := bthen (by repeat (first | exact Below.refl _ _ | exact bA | assumption | refine Below.setCell ?_ (by first | omega | (simp; try omega)) _ | refine Below.alloc ?_ (by first | omega | (simp; try omega)) _ | refine Below.drew ?_ | refine bDN ?_ | refine bthen ?_ (by assumption))) hb12
  have sw12 : w11.heap.size + 0 ≤ w12.heap.size := by have := hb12.size; (try simp at this); omega
  have H_w12 : Below w.heap.size w w12 := bthen H_w11 gw12
  have f225 : w12.cell? ⟨w.heap.size, 0, none⟩ = some (.int .i64 x0.1) := (gw12.cell (by first | omega | (simp; try omega))).trans f199
  have f226 : w12.cell? ⟨w.heap.size, 1, none⟩ = some (u0) := (gw12.cell (by first | omega | (simp; try omega))).trans f200
  have f227 : w12.cell? ⟨w.heap.size + 1, 0, none⟩ = some (.int .i64 x1.1) := (gw12.cell (by first | omega | (simp; try omega))).trans f201
  have f228 : w12.cell? ⟨w.heap.size + 1, 1, none⟩ = some (.int .i64 x1.2.1) := (gw12.cell (by first | omega | (simp; try omega))).trans f202
  have f229 : w12.cell? ⟨w.heap.size + 1, 2, none⟩ = some (u1) := (gw12.cell (by first | omega | (simp; try omega))).trans f203
  have f230 : w12.cell? ⟨bb15, 0, none⟩ = some (.int .i64 (simV x0 x1).1) := (gw12.cell (by first | omega | (simp; try omega))).trans f204
  have f231 : w12.cell? ⟨bb15, 1, none⟩ = some (.int .i64 (simV x0 x1).2.1) := (gw12.cell (by first | omega | (simp; try omega))).trans f205
  have f232 : w12.cell? ⟨bb15, 2, none⟩ = some (.slice ad19 (simV x0 x1).2.2.length ad19') := (gw12.cell (by first | omega | (simp; try omega))).trans f206
  have f233 : w12.cell? ⟨w4.heap.size, 0, none⟩ = some (.int .i64 x0.1) := (gw12.cell (by first | omega | (simp; try omega))).trans f207
  have f234 : w12.cell? ⟨w4.heap.size, 1, none⟩ = some (.slice ad45 x0.2.length ad45') := (gw12.cell (by first | omega | (simp; try omega))).trans f208
  have f235 : w12.cell? ⟨w5.heap.size, 0, none⟩ = some (.int .i64 x1.1) := (gw12.cell (by first | omega | (simp; try omega))).trans f209
  have f236 : w12.cell? ⟨w5.heap.size, 1, none⟩ = some (.int .i64 x1.2.1) := (gw12.cell (by first | omega | (simp; try omega))).trans f210
  have f237 : w12.cell? ⟨w5.heap.size, 2, none⟩ = some (.slice ad65 x1.2.2.length ad65') := (gw12.cell (by first | omega | (simp; try omega))).trans f211
  have f238 : w12.cell? ⟨w6.heap.size, 0, none⟩ = some (.int .i64 (simV x0 x1).1) := (gw12.cell (by first | omega | (simp; try omega))).trans f212
  have f239 : w12.cell? ⟨w6.heap.size, 1, none⟩ = some (.int .i64 (simV x0 x1).2.1) := (gw12.cell (by first | omega | (simp; try omega))).trans f213
  have f240 : w12.cell? ⟨w6.heap.size, 2, none⟩ = some (.slice ad90 (simV x0 x1).2.2.length ad90') := (gw12.cell (by first | omega | (simp; try omega))).trans f214
  have z241 : w.heap.size < w12.heap.size := by omega
  have z242 : w.heap.size + 1 < w12.heap.size := by omega
  have z243 : bb15 < w12.heap.size := by omega
  have z244 : w4.heap.size < w12.heap.size := by omega
  have z245 : w5.heap.size < w12.heap.size := by omega
  have z246 : w6.heap.size < w12.heap.size := by omega
  have d247 : frmT.Fx w2.heap.size w3.heap.size w12 [.int .i64 (simV x0 x1).1, .int .i64 (simV x0 x1).2.1, .slice ad19 (simV x0 x1).2.2.length ad19'] (simV x0 x1) := d221.below gw12
  have d248 : tplT.Fx w3.heap.size w4.heap.size w12 [.int .i64 x0.1, .slice ad45 x0.2.length ad45'] (mkTpl 1 x0) := d222.below gw12
  have d249 : frmT.Fx (w4.heap.size + 1) w5.heap.size w12 [.int .i64 x1.1, .int .i64 x1.2.1, .slice ad65 x1.2.2.length ad65'] (mkFrm (1 + cntTpl x0) x1) := d198.below gw12
  have d250 : frmT.Fx (w5.heap.size + 1) w6.heap.size w12 [.int .i64 (simV x0 x1).1, .int .i64 (simV x0 x1).2.1, .slice ad90 (simV x0 x1).2.2.length ad90'] (simV x0 x1) := d223.below gw12
  clear hb12 H_w11 f199 f200 f201 f202 f203 f204 f205 f206 f207 f208 f209 f210 f211 f212 f213 f214 d221 d222 d198 d223 z215 z216 z217 z218 z219 z220 gw12
  rw [eqB_true rfl]
  go_wp2_with fail
  refine (markFormula_fx _ d250 _ (by omega) (by omega)).mono ?_
  rintro e w13 ⟨rfl, hb13, d251⟩
  clear d250
  have sw13 : w12.heap.size ≤ w13.heap.size := hb13.size
  have H_w13 : Below w.heap.size w w13 := below_tch H_w12 hb13 (by omega) (by omega)
  have f252 : w13.cell? ⟨w.heap.size, 0, none⟩ = some (.int .i64 x0.1) := (hb13.cell (by omega) (by omega)).trans f225
  have f253 : w13.cell? ⟨w.heap.size, 1, none⟩ = some (u0) := (hb13.cell (by omega) (by omega)).trans f226
  have f254 : w13.cell? ⟨w.heap.size + 1, 0, none⟩ = some (.int .i64 x1.1) := (hb13.cell (by omega) (by omega)).trans f227
  have f255 : w13.cell? ⟨w.heap.size + 1, 1, none⟩ = some (.int .i64 x1.2.1) := (hb13.cell (by omega) (by omega)).trans f228
  have f256 : w13.cell? ⟨w.heap.size + 1, 2, none⟩ = some (u1) := (hb13.cell (by omega) (by omega)).trans f229
  have f257 : w13.cell? ⟨bb15, 0, none⟩ = some (.int .i64 (simV x0 x1).1) := (hb13.cell (by omega) (by omega)).trans f230
  have f258 : w13.cell? ⟨bb15, 1, none⟩ = some (.int .i64 (simV x0 x1).2.1) := (hb13.cell (by omega) (by omega)).trans f231
  have f259 : w13.cell? ⟨bb15, 2, none⟩ = some (.slice ad19 (simV x0 x1).2.2.length ad19') := (hb13.cell (by omega) (by omega)).trans f232
  have f260 : w13.cell? ⟨w4.heap.size, 0, none⟩ = some (.int .i64 x0.1) := (hb13.cell (by omega) (by omega)).trans f233
  have f261 : w13.cell? ⟨w4.heap.size, 1, none⟩ = some (.slice ad45 x0.2.length ad45') := (hb13.cell (by omega) (by omega)).trans f234
  have f262 : w13.cell? ⟨w5.heap.size, 0, none⟩ = some (.int .i64 x1.1) := (hb13.cell (by omega) (by omega)).trans f235
  have f263 : w13.cell? ⟨w5.heap.size, 1, none⟩ = some (.int .i64 x1.2.1) := (hb13.cell (by omega) (by omega)).trans f236
  have f264 : w13.cell? ⟨w5.heap.size, 2, none⟩ = some (.slice ad65 x1.2.2.length ad65') := (hb13.cell (by omega) (by omega)).trans f237
  have f265 : w13.cell? ⟨w6.heap.size, 0, none⟩ = some (.int .i64 (simV x0 x1).1) := (hb13.cell (by omega) (by omega)).trans f238
  have f266 : w13.cell? ⟨w6.heap.size, 1, none⟩ = some (.int .i64 (simV x0 x1).2.1) := (hb13.cell (by omega) (by omega)).trans f239
  have f267 : w13.cell? ⟨w6.heap.size, 2, none⟩ = some (.slice ad90 (simV x0 x1).2.2.length ad90') := (hb13.cell (by omega) (by omega)).trans f240
  have z268 : w.heap.size < w13.heap.size := by omega
  have z269 : w.heap.size + 1 < w13.heap.size := by omega
  have z270 : bb15 < w13.heap.size := by omega
  have z271 : w4.heap.size < w13.heap.size := by omega
  have z272 : w5.heap.size < w13.heap.size := by omega
  have z273 : w6.heap.size < w13.heap.size := by omega
  have d274 : frmT.Fx w2.heap.size w3.heap.size w13 [.int .i64 (simV x0 x1).1, .int .i64 (simV x0 x1).2.1, .slice ad19 (simV x0 x1).2.2.length ad19'] (simV x0 x1) := d247.tch hb13 (by omega)
  have d275 : tplT.Fx w3.heap.size w4.heap.size w13 [.int .i64 x0.1, .slice ad45 x0.2.length ad45'] (mkTpl 1 x0) := d248.tch hb13 (by omega)
  have d276 : frmT.Fx (w4.heap.size + 1) w5.heap.size w13 [.int .i64 x1.1, .int .i64 x1.2.1, .slice ad65 x1.2.2.length ad65'] (mkFrm (1 + cntTpl x0) x1) := d249.tch hb13 (by omega)
  clear hb13 H_w12 f225 f226 f227 f228 f229 f230 f231 f232 f233 f234 f235 f236 f237 f238 f239 f240 d247 d248 d249 z241 z242 z243 z244 z245 z246
  have hk277 : 0 ≤ (1 + cntFrm (simV x0 x1)) := by omega
  go_wp2_with fail
  refine (heldFormula_any _ _ d251.rd (by omega) (by omega)).mono ?_
  rintro e w14 ⟨rfl, hb14⟩
  have gw14 : Below w13.heap.size w13 w14 := bthen (by repeat (first | exact Below.refl _ _ | exact bA | assumption | refine Below.setCell ?_ (by first | omega | (simp; try omega)) _ | refine Below.alloc ?_ (by first | omega | (simp; try omega)) _ | refine Below.drew ?_ | refine bDN ?_ | refine bthen ?_ (by assumption))) hb14
  have sw14 : w13.heap.size + 0 ≤ w14.heap.size := by have := hb14.size; (try simp at this); omega
  have H_w14 : Below w.heap.size w w14 := bthen H_w13 gw14
  have f278 : w14.cell? ⟨w.heap.size, 0, none⟩ = some (.int .i64 x0.1) := (gw14.cell (by first | omega | (simp; try omega))).trans f252
  have f279 : w14.cell? ⟨w.heap.size, 1, none⟩ = some (u0) := (gw14.cell (by first | omega | (simp; try omega))).trans f253
  have f280 : w14.cell? ⟨w.heap.size + 1, 0, none⟩ = some (.int .i64 x1.1) := (gw14.cell (by first | omega | (simp; try omega))).trans f254
  have f281 : w14.cell? ⟨w.heap.size + 1, 1, none⟩ = some (.int .i64 x1.2.1) := (gw14.cell (by first | omega | (simp; try omega))).trans f255
  have f282 : w14.cell? ⟨w.heap.size + 1, 2, none⟩ = some (u1) := (gw14.cell (by first | omega | (simp; try omega))).trans f256
  have f283 : w14.cell? ⟨bb15, 0, none⟩ = some (.int .i64 (simV x0 x1).1) := (gw14.cell (by first | omega | (simp; try omega))).trans f257
  have f284 : w14.cell? ⟨bb15, 1, none⟩ = some (.int .i64 (simV x0 x1).2.1) := (gw14.cell (by first | omega | (simp; try omega))).trans f258
  have f285 : w14.cell? ⟨bb15, 2, none⟩ = some (.slice ad19 (simV x0 x1).2.2.length ad19') := (gw14.cell (by first | omega | (simp; try omega))).trans f259
  have f286 : w14.cell? ⟨w4.heap.size, 0, none⟩ = some (.int .i64 x0.1) := (gw14.cell (by first | omega | (simp; try omega))).trans f260
  have f287 : w14.cell? ⟨w4.heap.size, 1, none⟩ = some (.slice ad45 x0.2.length ad45') := (gw14.cell (by first | omega | (simp; try omega))).trans f261
  have f288 : w14.cell? ⟨w5.heap.size, 0, none⟩ = some (.int .i64 x1.1) := (gw14.cell (by first | omega | (simp; try omega))).trans f262
  have f289 : w14.cell? ⟨w5.heap.size, 1, none⟩ = some (.int .i64 x1.2.1) := (gw14.cell (by first | omega | (simp; try omega))).trans f263
  have f290 : w14.cell? ⟨w5.heap.size, 2, none⟩ = some (.slice ad65 x1.2.2.length ad65') := (gw14.cell (by first | omega | (simp; try omega))).trans f264
  have f291 : w14.cell? ⟨w6.heap.size, 0, none⟩ = some (.int .i64 (simV x0 x1).1) := (gw14.cell (by first | omega | (simp; try omega))).trans f265
  have f292 : w14.cell? ⟨w6.heap.size, 1, none⟩ = some (.int .i64 (simV x0 x1).2.1) := (gw14.cell (by first | omega | (simp; try omega))).trans f266
  have f293 : w14.cell? ⟨w6.heap.size, 2, none⟩ = some (.slice ad90 (simV x0 x1).2.2.length ad90') := (gw14.cell (by first | omega | (simp; try omega))).trans f267
  have z294 : w.heap.size < w14.heap.size := by omega
  have z295 : w.heap.size + 1 < w14.heap.size := by omega
  have z296 : bb15 < w14.heap.size := by omega
  have z297 : w4.heap.size < w14.heap.size := by omega
  have z298 : w5.heap.size < w14.heap.size := by omega
  have z299 : w6.heap.size < w14.heap.size := by omega
  have d300 : frmT.Fx w2.heap.size w3.heap.size w14 [.int .i64 (simV x0 x1).1, .int .i64 (simV x0 x1).2.1, .slice ad19 (simV x0 x1).2.2.length ad19'] (simV x0 x1) := d274.below gw14
  have d301 : tplT.Fx w3.heap.size w4.heap.size w14 [.int .i64 x0.1, .slice ad45 x0.2.length ad45'] (mkTpl 1 x0) := d275.below gw14
  have d302 : frmT.Fx (w4.heap.size + 1) w5.heap.size w14 [.int .i64 x1.1, .int .i64 x1.2.1, .slice ad65 x1.2.2.length ad65'] (mkFrm (1 + cntTpl x0) x1) := d276.below gw14
  have d303 : frmT.Fx (w5.heap.size + 1) w6.heap.size w14 [.int .i64 (simV x0 x1).1, .int .i64 (simV x0 x1).2.1, .slice ad90 (simV x0 x1).2.2.length ad90'] (mkFrm 1 (simV x0 x1)) := d251.below gw14
  clear hb14 H_w13 f252 f253 f254 f255 f256 f257 f258 f259 f260 f261 f262 f263 f264 f265 f266 f267 d274 d275 d276 d251 z268 z269 z270 z271 z272 z273 gw14
  go_wp2_with fail
  refine wp_region_box [(.plain, exO (.agg #[.int .i64 x0.1, u0])), (.plain, rdAO tplT x0), (.plain, exO (.agg #[.int .i64 x1.1, .int .i64 x1.2.1, u1])), (.plain, rdAO frmT x1), (.plain, frTO frmT w14.heap.size (simV x0 x1) (.int .i64 (simC x0 x1))), (.plain, frTO frmT w14.heap.size (simV x0 x1) (.int .i64 (simC x0 x1))), (.plain, frAO frmT w14.heap.size (simV x0 x1)), (.plain, exO (.int .i64 (simC x0 x1))), (.alloc, boxO 3), (.store, heldO frmT w14.heap.size (simV x0 x1)), (.plain, exO (.int .i64 (simC x0 x1)))] (by kernel_rfl) (by kernel_rfl) ⟨st_exO, st_rdAO, st_exO, st_rdAO, st_frTO, st_frTO, st_frAO, st_exO, st_boxO, st_heldO, st_exO, trivial⟩ ⟨?j31_0, ?j31_1, ?j31_2, ?j31_3, ?j31_4, ?j31_5, ?j31_6, ?j31_7, ?j31_8, ?j31_9, ?j31_10, trivial⟩ ?hQ31
  case j31_0 =>
    intro a' w' ob hb hbo hal hd
    have e0 : a'.tmps[2]?.getD undef = .pointer (some ⟨w.heap.size, 0, none⟩) := ev (slot_o2 hd 2 rfl rfl)
    have q : ∀ b o, b < w14.heap.size → w'.cell? ⟨b, o, none⟩ = w14.cell? ⟨b, o, none⟩ := (bcell hb).1
    go_simp
    exact ⟨_, ⟨rfl, Below.refl _ _⟩, rfl⟩
  case j31_1 =>
    intro a' w' ob hb hbo hal hd
    have e95 : a'.tmps[95]?.getD undef = .agg #[.int .i64 x0.1, u0] := ev (slot_w2 hd 95 (exO (.agg #[.int .i64 x0.1, u0])) rfl rfl)
    have r95 : tplT.Rd w14 (#[.int .i64 x0.1, u0] : Array Value).toList x0 := hx0.below H_w14
    have r95' := r95.below hb
    go_simp
    exact ⟨rfl, Below.refl _ _, (toTemplate_any w' r95' (by first | omega | (unfold szInts; omega))).mono fun e w'' ⟨cs, he, hf, hb⟩ => ⟨_, he, hb, rdAO_mk hf hbo⟩⟩
  case j31_2 =>
    intro a' w' ob hb hbo hal hd
    have e0 : a'.tmps[3]?.getD undef = .pointer (some ⟨w.heap.size + 1, 0, none⟩) := ev (slot_o2 hd 3 rfl rfl)
    have q : ∀ b o, b < w14.heap.size → w'.cell? ⟨b, o, none⟩ = w14.cell? ⟨b, o, none⟩ := (bcell hb).1
    go_simp
    exact ⟨_, ⟨rfl, Below.refl _ _⟩, rfl⟩
  case j31_3 =>
    intro a' w' ob hb hbo hal hd
    have e97 : a'.tmps[97]?.getD undef = .agg #[.int .i64 x1.1, .int .i64 x1.2.1, u1] := ev (slot_w2 hd 97 (exO (.agg #[.int .i64 x1.1, .int .i64 x1.2.1, u1])) rfl rfl)
    have r97 : frmT.Rd w14 (#[.int .i64 x1.1, .int .i64 x1.2.1, u1] : Array Value).toList x1 := hx1.below H_w14
    have r97' := r97.below hb
    go_simp
    exact ⟨rfl, Below.refl _ _, (toFormula_any w' r97' (by first | omega | (unfold szInts; omega))).mono fun e w'' ⟨cs, he, hf, hb⟩ => ⟨_, he, hb, rdAO_mk hf hbo⟩⟩
  case j31_4 =>
    intro a' w' ob hb hbo hal hd
    have d96 := slot_w2 hd 96 (rdAO tplT x0) rfl rfl
    obtain ⟨cs96, fp96, e96, hr96, -⟩ := d96
    have rd96 : tplT.Rd w' cs96 x0 := ⟨_, hr96⟩
    have e96' := ev e96
    have d98 := slot_w2 hd 98 (rdAO frmT x1) rfl rfl
    obtain ⟨cs98, fp98, e98, hr98, -⟩ := d98
    have rd98 : frmT.Rd w' cs98 x1 := ⟨_, hr98⟩
    have e98' := ev e98
    go_simp
    exact ⟨rfl, Below.refl _ _, (SimplifyFormula_any _ rd96 rd98).mono fun e w'' ⟨cs, he, hf, hb2⟩ => ⟨_, he, hb2, frTO_mk hb.size hf hbo⟩⟩
  case j31_5 =>
    intro a' w' ob hb hbo hal hd
    have d99 := slot_w2 hd 99 (frTO frmT w14.heap.size (simV x0 x1) (.int .i64 (simC x0 x1))) rfl rfl
    obtain ⟨cs99, e99, hf99⟩ := d99
    have e99' := ev e99
    go_simp
    exact ⟨_, ⟨rfl, Below.refl _ _⟩, cs99, rfl, hf99⟩
  case j31_6 =>
    intro a' w' ob hb hbo hal hd
    have d94 := slot_w2 hd 94 (frTO frmT w14.heap.size (simV x0 x1) (.int .i64 (simC x0 x1))) rfl rfl
    obtain ⟨cs94, e94, hf94⟩ := d94
    have e94' := ev e94
    go_simp
    exact ⟨_, ⟨rfl, Below.refl _ _⟩, hf94⟩
  case j31_7 =>
    intro a' w' ob hb hbo hal hd
    have d94 := slot_w2 hd 94 (frTO frmT w14.heap.size (simV x0 x1) (.int .i64 (simC x0 x1))) rfl rfl
    obtain ⟨cs94, e94, hf94⟩ := d94
    have e94' := ev e94
    go_simp
    exact ⟨_, ⟨rfl, Below.refl _ _⟩, rfl⟩
  case j31_8 =>
    intro a' w' ob hb hbo hal hd
    obtain rfl := hal rfl
    go_simp
    exact ⟨_, ⟨rfl, by simp, bA⟩, _, rfl, rfl, by simp, box3⟩
  case j31_9 =>
    intro a' w' ob hb hbo hal hd
    obtain ⟨bb, rfl, e15, hbb, hcl⟩ := slot_w2 hd 15 (boxO 3) rfl rfl
    have e15' := ev e15
    have d100 := slot_w2 hd 100 (frAO frmT w14.heap.size (simV x0 x1)) rfl rfl
    obtain ⟨cs100, fp100, e100, hr100, hn100, hg100, hu100, ho100⟩ := d100
    obtain ⟨u100, rfl, hr100', -⟩ := rd_trip hr100
    obtain ⟨ad100', cap100', rfl⟩ := rd_slice ⟨_, hr100'⟩
    have e100' := ev e100
    obtain ⟨⟨y0, c0⟩, f0⟩ := hcl 0 (by decide)
    obtain ⟨⟨y1, c1⟩, f1⟩ := hcl 1 (by decide)
    obtain ⟨⟨y2, c2⟩, f2⟩ := hcl 2 (by decide)
    go_simp
    exact held3 c0 c1 c2 hr100 hn100 hg100 hu100 ho100 _
  case j31_10 =>
    intro a' w' ob hb hbo hal hd
    have e0 : a'.tmps[101]?.getD undef = .int .i64 (simC x0 x1) := ev (slot_w2 hd 101 (exO (.int .i64 (simC x0 x1))) rfl rfl)
    go_simp
    exact ⟨_, ⟨rfl, Below.refl _ _⟩, rfl⟩
  intro vs31 w15 ob31 hb15 hbo31 H0
  obtain ⟨v31_0, _, rfl, p0, H1⟩ := HAll2_cons H0
  obtain ⟨v31_1, _, rfl, p1, H2⟩ := HAll2_cons H1
  obtain ⟨v31_2, _, rfl, p2, H3⟩ := HAll2_cons H2
  obtain ⟨v31_3, _, rfl, p3, H4⟩ := HAll2_cons H3
  obtain ⟨v31_4, _, rfl, p4, H5⟩ := HAll2_cons H4
  obtain ⟨v31_5, _, rfl, p5, H6⟩ := HAll2_cons H5
  obtain ⟨v31_6, _, rfl, p6, H7⟩ := HAll2_cons H6
  obtain ⟨v31_7, _, rfl, p7, H8⟩ := HAll2_cons H7
  obtain ⟨v31_8, _, rfl, p8, H9⟩ := HAll2_cons H8
  obtain ⟨v31_9, _, rfl, p9, H10⟩ := HAll2_cons H9
  obtain ⟨v31_10, _, rfl, p10, H11⟩ := HAll2_cons H10
  obtain rfl := HAll2_nil H11
  obtain rfl := id p0
  obtain rfl := id p2
  obtain rfl := id p7
  obtain rfl := id p10
  obtain ⟨bb304, rfl, rfl, hltbb304, -⟩ := id p8
  obtain ⟨_, cs, fp307, hob, hr1, hr2, hr3, hr4, -, cc306⟩ := id p9
  simp only [Option.some.injEq] at hob
  subst hob
  have hc305 : frmT.Fr w14.heap.size w15 cs (simV x0 x1) := ⟨fp307, hr1, hr2, hr3, hr4⟩
  have hlobb304 : w14.heap.size ≤ bb304 := (hbo31 bb304 rfl).1
  obtain ⟨ad308, ad308', rfl⟩ := fr_trip hc305
  have f309 : w15.cell? ⟨bb304, 0, none⟩ = some (.int .i64 (simV x0 x1).1) := cc306 0 (by simp)
  have f310 : w15.cell? ⟨bb304, 1, none⟩ = some (.int .i64 (simV x0 x1).2.1) := cc306 1 (by simp)
  have f311 : w15.cell? ⟨bb304, 2, none⟩ = some (.slice ad308 (simV x0 x1).2.2.length ad308') := cc306 2 (by simp)
  clear cc306 hr1 hr2 hr3 hr4
  clear p0 p1 p2 p3 p4 p5 p6 p7 p8 p9 p10 H0 H1 H2 H3 H4 H5 H6 H7 H8 H9 H10 H11
  have gw15 : Below w14.heap.size w14 w15 := bthen (by repeat (first | exact Below.refl _ _ | exact bA | assumption | refine Below.setCell ?_ (by first | omega | (simp; try omega)) _ | refine Below.alloc ?_ (by first | omega | (simp; try omega)) _ | refine Below.drew ?_ | refine bDN ?_ | refine bthen ?_ (by assumption))) hb15
  have sw15 : w14.heap.size + 0 ≤ w15.heap.size := by have := hb15.size; (try simp at this); omega
  have H_w15 : Below w.heap.size w w15 := bthen H_w14 gw15
  have f312 : w15.cell? ⟨w.heap.size, 0, none⟩ = some (.int .i64 x0.1) := (gw15.cell (by first | omega | (simp; try omega))).trans f278
  have f313 : w15.cell? ⟨w.heap.size, 1, none⟩ = some (u0) := (gw15.cell (by first | omega | (simp; try omega))).trans f279
  have f314 : w15.cell? ⟨w.heap.size + 1, 0, none⟩ = some (.int .i64 x1.1) := (gw15.cell (by first | omega | (simp; try omega))).trans f280
  have f315 : w15.cell? ⟨w.heap.size + 1, 1, none⟩ = some (.int .i64 x1.2.1) := (gw15.cell (by first | omega | (simp; try omega))).trans f281
  have f316 : w15.cell? ⟨w.heap.size + 1, 2, none⟩ = some (u1) := (gw15.cell (by first | omega | (simp; try omega))).trans f282
  have f317 : w15.cell? ⟨bb15, 0, none⟩ = some (.int .i64 (simV x0 x1).1) := (gw15.cell (by first | omega | (simp; try omega))).trans f283
  have f318 : w15.cell? ⟨bb15, 1, none⟩ = some (.int .i64 (simV x0 x1).2.1) := (gw15.cell (by first | omega | (simp; try omega))).trans f284
  have f319 : w15.cell? ⟨bb15, 2, none⟩ = some (.slice ad19 (simV x0 x1).2.2.length ad19') := (gw15.cell (by first | omega | (simp; try omega))).trans f285
  have f320 : w15.cell? ⟨w4.heap.size, 0, none⟩ = some (.int .i64 x0.1) := (gw15.cell (by first | omega | (simp; try omega))).trans f286
  have f321 : w15.cell? ⟨w4.heap.size, 1, none⟩ = some (.slice ad45 x0.2.length ad45') := (gw15.cell (by first | omega | (simp; try omega))).trans f287
  have f322 : w15.cell? ⟨w5.heap.size, 0, none⟩ = some (.int .i64 x1.1) := (gw15.cell (by first | omega | (simp; try omega))).trans f288
  have f323 : w15.cell? ⟨w5.heap.size, 1, none⟩ = some (.int .i64 x1.2.1) := (gw15.cell (by first | omega | (simp; try omega))).trans f289
  have f324 : w15.cell? ⟨w5.heap.size, 2, none⟩ = some (.slice ad65 x1.2.2.length ad65') := (gw15.cell (by first | omega | (simp; try omega))).trans f290
  have f325 : w15.cell? ⟨w6.heap.size, 0, none⟩ = some (.int .i64 (simV x0 x1).1) := (gw15.cell (by first | omega | (simp; try omega))).trans f291
  have f326 : w15.cell? ⟨w6.heap.size, 1, none⟩ = some (.int .i64 (simV x0 x1).2.1) := (gw15.cell (by first | omega | (simp; try omega))).trans f292
  have f327 : w15.cell? ⟨w6.heap.size, 2, none⟩ = some (.slice ad90 (simV x0 x1).2.2.length ad90') := (gw15.cell (by first | omega | (simp; try omega))).trans f293
  have z328 : w.heap.size < w15.heap.size := by omega
  have z329 : w.heap.size + 1 < w15.heap.size := by omega
  have z330 : bb15 < w15.heap.size := by omega
  have z331 : w4.heap.size < w15.heap.size := by omega
  have z332 : w5.heap.size < w15.heap.size := by omega
  have z333 : w6.heap.size < w15.heap.size := by omega
  have d334 : frmT.Fx w2.heap.size w3.heap.size w15 [.int .i64 (simV x0 x1).1, .int .i64 (simV x0 x1).2.1, .slice ad19 (simV x0 x1).2.2.length ad19'] (simV x0 x1) := d300.below gw15
  have d335 : tplT.Fx w3.heap.size w4.heap.size w15 [.int .i64 x0.1, .slice ad45 x0.2.length ad45'] (mkTpl 1 x0) := d301.below gw15
  have d336 : frmT.Fx (w4.heap.size + 1) w5.heap.size w15 [.int .i64 x1.1, .int .i64 x1.2.1, .slice ad65 x1.2.2.length ad65'] (mkFrm (1 + cntTpl x0) x1) := d302.below gw15
  have d337 : frmT.Fx (w5.heap.size + 1) w6.heap.size w15 [.int .i64 (simV x0 x1).1, .int .i64 (simV x0 x1).2.1, .slice ad90 (simV x0 x1).2.2.length ad90'] (mkFrm 1 (simV x0 x1)) := d303.below gw15
  clear hb15 H_w14 f278 f279 f280 f281 f282 f283 f284 f285 f286 f287 f288 f289 f290 f291 f292 f293 d300 d301 d302 d303 z294 z295 z296 z297 z298 z299 gw15
  have d338 : frmT.Fx w14.heap.size w15.heap.size w15 [.int .i64 (simV x0 x1).1, .int .i64 (simV x0 x1).2.1, .slice ad308 (simV x0 x1).2.2.length ad308'] (simV x0 x1) := hc305.fx
  clear hc305
  simp only [putAll, Act.put]
  go_simp
  go_wp2_with fail
  refine (eqFormula_any _ (d338.rd.below (by repeat (first | exact Below.refl _ _ | exact bA | assumption | refine Below.setCell ?_ (by first | omega | (simp; try omega)) _ | refine Below.alloc ?_ (by first | omega | (simp; try omega)) _ | refine Below.drew ?_ | refine bDN ?_ | refine bthen ?_ (by assumption)))) (d334.rd.below (by repeat (first | exact Below.refl _ _ | exact bA | assumption | refine Below.setCell ?_ (by first | omega | (simp; try omega)) _ | refine Below.alloc ?_ (by first | omega | (simp; try omega)) _ | refine Below.drew ?_ | refine bDN ?_ | refine bthen ?_ (by assumption))))).mono ?_
  rintro e w16 ⟨rfl, hb16⟩
  have gw16 : Below w15.heap.size w15 w16 := bthen (by repeat (first | exact Below.refl _ _ | exact bA | assumption | refine Below.setCell ?_ (by first | omega | (simp; try omega)) _ | refine Below.alloc ?_ (by first | omega | (simp; try omega)) _ | refine Below.drew ?_ | refine bDN ?_ | refine bthen ?_ (by assumption))) hb16
  have sw16 : w15.heap.size + 0 ≤ w16.heap.size := by have := hb16.size; (try simp at this); omega
  have H_w16 : Below w.heap.size w w16 := bthen H_w15 gw16
  have f340 : w16.cell? ⟨w.heap.size, 0, none⟩ = some (.int .i64 x0.1) := (gw16.cell (by first | omega | (simp; try omega))).trans f312
  have f341 : w16.cell? ⟨w.heap.size, 1, none⟩ = some (u0) := (gw16.cell (by first | omega | (simp; try omega))).trans f313
  have f342 : w16.cell? ⟨w.heap.size + 1, 0, none⟩ = some (.int .i64 x1.1) := (gw16.cell (by first | omega | (simp; try omega))).trans f314
  have f343 : w16.cell? ⟨w.heap.size + 1, 1, none⟩ = some (.int .i64 x1.2.1) := (gw16.cell (by first | omega | (simp; try omega))).trans f315
  have f344 : w16.cell? ⟨w.heap.size + 1, 2, none⟩ = some (u1) := (gw16.cell (by first | omega | (simp; try omega))).trans f316
  have f345 : w16.cell? ⟨bb15, 0, none⟩ = some (.int .i64 (simV x0 x1).1) := (gw16.cell (by first | omega | (simp; try omega))).trans f317
  have f346 : w16.cell? ⟨bb15, 1, none⟩ = some (.int .i64 (simV x0 x1).2.1) := (gw16.cell (by first | omega | (simp; try omega))).trans f318
  have f347 : w16.cell? ⟨bb15, 2, none⟩ = some (.slice ad19 (simV x0 x1).2.2.length ad19') := (gw16.cell (by first | omega | (simp; try omega))).trans f319
  have f348 : w16.cell? ⟨w4.heap.size, 0, none⟩ = some (.int .i64 x0.1) := (gw16.cell (by first | omega | (simp; try omega))).trans f320
  have f349 : w16.cell? ⟨w4.heap.size, 1, none⟩ = some (.slice ad45 x0.2.length ad45') := (gw16.cell (by first | omega | (simp; try omega))).trans f321
  have f350 : w16.cell? ⟨w5.heap.size, 0, none⟩ = some (.int .i64 x1.1) := (gw16.cell (by first | omega | (simp; try omega))).trans f322
  have f351 : w16.cell? ⟨w5.heap.size, 1, none⟩ = some (.int .i64 x1.2.1) := (gw16.cell (by first | omega | (simp; try omega))).trans f323
  have f352 : w16.cell? ⟨w5.heap.size, 2, none⟩ = some (.slice ad65 x1.2.2.length ad65') := (gw16.cell (by first | omega | (simp; try omega))).trans f324
  have f353 : w16.cell? ⟨w6.heap.size, 0, none⟩ = some (.int .i64 (simV x0 x1).1) := (gw16.cell (by first | omega | (simp; try omega))).trans f325
  have f354 : w16.cell? ⟨w6.heap.size, 1, none⟩ = some (.int .i64 (simV x0 x1).2.1) := (gw16.cell (by first | omega | (simp; try omega))).trans f326
  have f355 : w16.cell? ⟨w6.heap.size, 2, none⟩ = some (.slice ad90 (simV x0 x1).2.2.length ad90') := (gw16.cell (by first | omega | (simp; try omega))).trans f327
  have f356 : w16.cell? ⟨bb304, 0, none⟩ = some (.int .i64 (simV x0 x1).1) := (gw16.cell (by first | omega | (simp; try omega))).trans f309
  have f357 : w16.cell? ⟨bb304, 1, none⟩ = some (.int .i64 (simV x0 x1).2.1) := (gw16.cell (by first | omega | (simp; try omega))).trans f310
  have f358 : w16.cell? ⟨bb304, 2, none⟩ = some (.slice ad308 (simV x0 x1).2.2.length ad308') := (gw16.cell (by first | omega | (simp; try omega))).trans f311
  have z359 : w.heap.size < w16.heap.size := by omega
  have z360 : w.heap.size + 1 < w16.heap.size := by omega
  have z361 : bb15 < w16.heap.size := by omega
  have z362 : w4.heap.size < w16.heap.size := by omega
  have z363 : w5.heap.size < w16.heap.size := by omega
  have z364 : w6.heap.size < w16.heap.size := by omega
  have z365 : bb304 < w16.heap.size := by omega
  have d366 : frmT.Fx w2.heap.size w3.heap.size w16 [.int .i64 (simV x0 x1).1, .int .i64 (simV x0 x1).2.1, .slice ad19 (simV x0 x1).2.2.length ad19'] (simV x0 x1) := d334.below gw16
  have d367 : tplT.Fx w3.heap.size w4.heap.size w16 [.int .i64 x0.1, .slice ad45 x0.2.length ad45'] (mkTpl 1 x0) := d335.below gw16
  have d368 : frmT.Fx (w4.heap.size + 1) w5.heap.size w16 [.int .i64 x1.1, .int .i64 x1.2.1, .slice ad65 x1.2.2.length ad65'] (mkFrm (1 + cntTpl x0) x1) := d336.below gw16
  have d369 : frmT.Fx (w5.heap.size + 1) w6.heap.size w16 [.int .i64 (simV x0 x1).1, .int .i64 (simV x0 x1).2.1, .slice ad90 (simV x0 x1).2.2.length ad90'] (mkFrm 1 (simV x0 x1)) := d337.below gw16
  have d370 : frmT.Fx w14.heap.size w15.heap.size w16 [.int .i64 (simV x0 x1).1, .int .i64 (simV x0 x1).2.1, .slice ad308 (simV x0 x1).2.2.length ad308'] (simV x0 x1) := d338.below gw16
  clear hb16 H_w15 f312 f313 f314 f315 f316 f317 f318 f319 f320 f321 f322 f323 f324 f325 f326 f327 f309 f310 f311 d334 d335 d336 d337 d338 z328 z329 z330 z331 z332 z333 gw16
  rw [eqB_true rfl]
  go_wp2_with fail
  refine (heldFormula_any _ _ d369.rd (by omega) (by omega)).mono ?_
  rintro e w17 ⟨rfl, hb17⟩
  have gw17 : Below w16.heap.size w16 w17 := bthen (by repeat (first | exact Below.refl _ _ | exact bA | assumption | refine Below.setCell ?_ (by first | omega | (simp; try omega)) _ | refine Below.alloc ?_ (by first | omega | (simp; try omega)) _ | refine Below.drew ?_ | refine bDN ?_ | refine bthen ?_ (by assumption))) hb17
  have sw17 : w16.heap.size + 0 ≤ w17.heap.size := by have := hb17.size; (try simp at this); omega
  have H_w17 : Below w.heap.size w w17 := bthen H_w16 gw17
  have f371 : w17.cell? ⟨w.heap.size, 0, none⟩ = some (.int .i64 x0.1) := (gw17.cell (by first | omega | (simp; try omega))).trans f340
  have f372 : w17.cell? ⟨w.heap.size, 1, none⟩ = some (u0) := (gw17.cell (by first | omega | (simp; try omega))).trans f341
  have f373 : w17.cell? ⟨w.heap.size + 1, 0, none⟩ = some (.int .i64 x1.1) := (gw17.cell (by first | omega | (simp; try omega))).trans f342
  have f374 : w17.cell? ⟨w.heap.size + 1, 1, none⟩ = some (.int .i64 x1.2.1) := (gw17.cell (by first | omega | (simp; try omega))).trans f343
  have f375 : w17.cell? ⟨w.heap.size + 1, 2, none⟩ = some (u1) := (gw17.cell (by first | omega | (simp; try omega))).trans f344
  have f376 : w17.cell? ⟨bb15, 0, none⟩ = some (.int .i64 (simV x0 x1).1) := (gw17.cell (by first | omega | (simp; try omega))).trans f345
  have f377 : w17.cell? ⟨bb15, 1, none⟩ = some (.int .i64 (simV x0 x1).2.1) := (gw17.cell (by first | omega | (simp; try omega))).trans f346
  have f378 : w17.cell? ⟨bb15, 2, none⟩ = some (.slice ad19 (simV x0 x1).2.2.length ad19') := (gw17.cell (by first | omega | (simp; try omega))).trans f347
  have f379 : w17.cell? ⟨w4.heap.size, 0, none⟩ = some (.int .i64 x0.1) := (gw17.cell (by first | omega | (simp; try omega))).trans f348
  have f380 : w17.cell? ⟨w4.heap.size, 1, none⟩ = some (.slice ad45 x0.2.length ad45') := (gw17.cell (by first | omega | (simp; try omega))).trans f349
  have f381 : w17.cell? ⟨w5.heap.size, 0, none⟩ = some (.int .i64 x1.1) := (gw17.cell (by first | omega | (simp; try omega))).trans f350
  have f382 : w17.cell? ⟨w5.heap.size, 1, none⟩ = some (.int .i64 x1.2.1) := (gw17.cell (by first | omega | (simp; try omega))).trans f351
  have f383 : w17.cell? ⟨w5.heap.size, 2, none⟩ = some (.slice ad65 x1.2.2.length ad65') := (gw17.cell (by first | omega | (simp; try omega))).trans f352
  have f384 : w17.cell? ⟨w6.heap.size, 0, none⟩ = some (.int .i64 (simV x0 x1).1) := (gw17.cell (by first | omega | (simp; try omega))).trans f353
  have f385 : w17.cell? ⟨w6.heap.size, 1, none⟩ = some (.int .i64 (simV x0 x1).2.1) := (gw17.cell (by first | omega | (simp; try omega))).trans f354
  have f386 : w17.cell? ⟨w6.heap.size, 2, none⟩ = some (.slice ad90 (simV x0 x1).2.2.length ad90') := (gw17.cell (by first | omega | (simp; try omega))).trans f355
  have f387 : w17.cell? ⟨bb304, 0, none⟩ = some (.int .i64 (simV x0 x1).1) := (gw17.cell (by first | omega | (simp; try omega))).trans f356
  have f388 : w17.cell? ⟨bb304, 1, none⟩ = some (.int .i64 (simV x0 x1).2.1) := (gw17.cell (by first | omega | (simp; try omega))).trans f357
  have f389 : w17.cell? ⟨bb304, 2, none⟩ = some (.slice ad308 (simV x0 x1).2.2.length ad308') := (gw17.cell (by first | omega | (simp; try omega))).trans f358
  have z390 : w.heap.size < w17.heap.size := by omega
  have z391 : w.heap.size + 1 < w17.heap.size := by omega
  have z392 : bb15 < w17.heap.size := by omega
  have z393 : w4.heap.size < w17.heap.size := by omega
  have z394 : w5.heap.size < w17.heap.size := by omega
  have z395 : w6.heap.size < w17.heap.size := by omega
  have z396 : bb304 < w17.heap.size := by omega
  have d397 : frmT.Fx w2.heap.size w3.heap.size w17 [.int .i64 (simV x0 x1).1, .int .i64 (simV x0 x1).2.1, .slice ad19 (simV x0 x1).2.2.length ad19'] (simV x0 x1) := d366.below gw17
  have d398 : tplT.Fx w3.heap.size w4.heap.size w17 [.int .i64 x0.1, .slice ad45 x0.2.length ad45'] (mkTpl 1 x0) := d367.below gw17
  have d399 : frmT.Fx (w4.heap.size + 1) w5.heap.size w17 [.int .i64 x1.1, .int .i64 x1.2.1, .slice ad65 x1.2.2.length ad65'] (mkFrm (1 + cntTpl x0) x1) := d368.below gw17
  have d400 : frmT.Fx (w5.heap.size + 1) w6.heap.size w17 [.int .i64 (simV x0 x1).1, .int .i64 (simV x0 x1).2.1, .slice ad90 (simV x0 x1).2.2.length ad90'] (mkFrm 1 (simV x0 x1)) := d369.below gw17
  have d401 : frmT.Fx w14.heap.size w15.heap.size w17 [.int .i64 (simV x0 x1).1, .int .i64 (simV x0 x1).2.1, .slice ad308 (simV x0 x1).2.2.length ad308'] (simV x0 x1) := d370.below gw17
  clear hb17 H_w16 f340 f341 f342 f343 f344 f345 f346 f347 f348 f349 f350 f351 f352 f353 f354 f355 f356 f357 f358 d366 d367 d368 d369 d370 z359 z360 z361 z362 z363 z364 z365 gw17
  go_wp2_with fail
  go_ret
  exact ⟨rfl, (by repeat (first | exact Below.refl _ _ | exact bA | assumption | refine Below.setCell ?_ (by first | omega | (simp; try omega)) _ | refine Below.alloc ?_ (by first | omega | (simp; try omega)) _ | refine Below.drew ?_ | refine bDN ?_ | refine bthen ?_ (by assumption)))⟩
end Go.Proofs.Ytepebfpgmnidnaa
