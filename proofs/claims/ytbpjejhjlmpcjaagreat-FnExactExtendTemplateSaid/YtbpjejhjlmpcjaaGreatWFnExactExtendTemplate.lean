/-
  The law FnExactExtendTemplate, walked: its contract.
-/
import Derived.Test.YtbpjejhjlmpcjaaGreatS20
import Derived.Test.YtbpjejhjlmpcjaaGreatKM
import Derived.Test.YtbpjejhjlmpcjaaGreatKT
import Derived.Test.YtbpjejhjlmpcjaaGreatLoose2
namespace Go.Proofs.YtbpjejhjlmpcjaaGreat
open Go.RowKit Go.Sort
set_option maxHeartbeats 6400000 in
set_option maxRecDepth 100000 in
theorem fnExactExtendTemplate_any (w : World) {c0 : Array Value} {x0 : Int × List (Int × List (List Int))} (h0 : tplT.Rd w c0.toList x0) {c1 : Array Value} {x1 : Int × Int × List (Int × List Int)} (h1 : frmT.Rd w c1.toList x1) :
    Calls Tryz.prog 5 #[.agg c0, .agg c1] w fun e w' => e = .returned (.bool true) ∧ Below w.heap.size w w' := by
  have hx0 := h0
  obtain ⟨u0, hv0, -, hy0⟩ := pair_ex h0
  obtain rfl := agg_of hv0
  clear hv0 h0
  have hn0 := szTpl_nn x0
  have hcn0 : cntTpl x0 ≤ szTpl x0 := cntRels_sz x0.2
  have hcz0 : 0 ≤ cntTpl x0 := cntRels_nn x0.2
  have hx1 := h1
  obtain ⟨u1, hv1, -, -, hy1⟩ := trip_ex h1
  obtain rfl := agg_of hv1
  clear hv1 h1
  have hn1 := szFrm_nn x1
  have hcn1 : cntFrm x1 ≤ szFrm x1 := cntOps_sz x1.2.2
  have hcz1 : 0 ≤ cntFrm x1 := cntOps_nn x1.2.2
  have H_w : Below w.heap.size w w := Below.refl _ _
  go_enter Tryz.func5, Tryz.ntmps5
  go_wp2_with fail
  refine (szTemplate_any _ (hx0.below (by repeat (first | exact Below.refl _ _ | exact bA | assumption | refine Below.setCell ?_ (by first | omega | (simp; try omega)) _ | refine Below.alloc ?_ (by first | omega | (simp; try omega)) _ | refine Below.drew ?_ | refine bDN ?_ | refine bthen ?_ (by assumption)))) _ (by omega) (by omega)).mono ?_
  rintro e w1 ⟨rfl, hb1⟩
  have gw1 : Below w.heap.size w w1 := bthen (by repeat (first | exact Below.refl _ _ | exact bA | assumption | refine Below.setCell ?_ (by first | omega | (simp; try omega)) _ | refine Below.alloc ?_ (by first | omega | (simp; try omega)) _ | refine Below.drew ?_ | refine bDN ?_ | refine bthen ?_ (by assumption))) hb1
  have sw1 : w.heap.size + 2 ≤ w1.heap.size := by have := hb1.size; (try simp at this); omega
  have H_w1 : Below w.heap.size w w1 := bthen H_w gw1
  have f1 : w1.cell? ⟨w.heap.size, 0, none⟩ = some (.int .i64 x0.1) := by rw [(bcell hb1).1 _ _ (by first | omega | (simp; try omega))]; first | (simp; done) | simp [go_sem]
  have f2 : w1.cell? ⟨w.heap.size, 1, none⟩ = some (u0) := by rw [(bcell hb1).1 _ _ (by first | omega | (simp; try omega))]; first | (simp; done) | simp [go_sem]
  have f3 : w1.cell? ⟨w.heap.size + 1, 0, none⟩ = some (.int .i64 x1.1) := by rw [(bcell hb1).1 _ _ (by first | omega | (simp; try omega))]; first | (simp; done) | simp [go_sem]
  have f4 : w1.cell? ⟨w.heap.size + 1, 1, none⟩ = some (.int .i64 x1.2.1) := by rw [(bcell hb1).1 _ _ (by first | omega | (simp; try omega))]; first | (simp; done) | simp [go_sem]
  have f5 : w1.cell? ⟨w.heap.size + 1, 2, none⟩ = some (u1) := by rw [(bcell hb1).1 _ _ (by first | omega | (simp; try omega))]; first | (simp; done) | simp [go_sem]
  have z6 : w.heap.size < w1.heap.size := by omega
  have z7 : w.heap.size + 1 < w1.heap.size := by omega
  clear hb1 gw1
  rcases ilt 1048576 (szTpl x0) with hl2 | hl2
  · rw [szR_lt hl2]
    go_wp2_with fail
    go_ret
    exact ⟨rfl, (by repeat (first | exact Below.refl _ _ | exact bA | assumption | refine Below.setCell ?_ (by first | omega | (simp; try omega)) _ | refine Below.alloc ?_ (by first | omega | (simp; try omega)) _ | refine Below.drew ?_ | refine bDN ?_ | refine bthen ?_ (by assumption)))⟩
  rw [szR_ge hl2]
  go_wp2_with fail
  refine (szFormula_any _ (hx1.below (by repeat (first | exact Below.refl _ _ | exact bA | assumption | refine Below.setCell ?_ (by first | omega | (simp; try omega)) _ | refine Below.alloc ?_ (by first | omega | (simp; try omega)) _ | refine Below.drew ?_ | refine bDN ?_ | refine bthen ?_ (by assumption)))) _ (by omega) (by omega)).mono ?_
  rintro e w2 ⟨rfl, hb2⟩
  have gw2 : Below w1.heap.size w1 w2 := bthen (by repeat (first | exact Below.refl _ _ | exact bA | assumption | refine Below.setCell ?_ (by first | omega | (simp; try omega)) _ | refine Below.alloc ?_ (by first | omega | (simp; try omega)) _ | refine Below.drew ?_ | refine bDN ?_ | refine bthen ?_ (by assumption))) hb2
  have sw2 : w1.heap.size + 0 ≤ w2.heap.size := by have := hb2.size; (try simp at this); omega
  have H_w2 : Below w.heap.size w w2 := bthen H_w1 gw2
  have f8 : w2.cell? ⟨w.heap.size, 0, none⟩ = some (.int .i64 x0.1) := (gw2.cell (by first | omega | (simp; try omega))).trans f1
  have f9 : w2.cell? ⟨w.heap.size, 1, none⟩ = some (u0) := (gw2.cell (by first | omega | (simp; try omega))).trans f2
  have f10 : w2.cell? ⟨w.heap.size + 1, 0, none⟩ = some (.int .i64 x1.1) := (gw2.cell (by first | omega | (simp; try omega))).trans f3
  have f11 : w2.cell? ⟨w.heap.size + 1, 1, none⟩ = some (.int .i64 x1.2.1) := (gw2.cell (by first | omega | (simp; try omega))).trans f4
  have f12 : w2.cell? ⟨w.heap.size + 1, 2, none⟩ = some (u1) := (gw2.cell (by first | omega | (simp; try omega))).trans f5
  have z13 : w.heap.size < w2.heap.size := by omega
  have z14 : w.heap.size + 1 < w2.heap.size := by omega
  clear hb2 H_w1 f1 f2 f3 f4 f5 z6 z7 gw2
  rcases ilt (1048576 - szTpl x0) (szFrm x1) with hl5 | hl5
  · rw [szR_lt hl5]
    go_wp2_with fail
    go_ret
    exact ⟨rfl, (by repeat (first | exact Below.refl _ _ | exact bA | assumption | refine Below.setCell ?_ (by first | omega | (simp; try omega)) _ | refine Below.alloc ?_ (by first | omega | (simp; try omega)) _ | refine Below.drew ?_ | refine bDN ?_ | refine bthen ?_ (by assumption)))⟩
  rw [szR_ge hl5]
  go_wp2_with fail
  have hcr1 : cntTpl (xtV x0 x1) ≤ 1000000000 := (Int.le_trans xt_cnt (by omega))
  have hcrz1 : 0 ≤ cntTpl (xtV x0 x1) := cntRels_nn _
  refine wp_region_box [(.plain, exO (.agg #[.int .i64 x0.1, u0])), (.plain, rdAO tplT x0), (.plain, exO (.agg #[.int .i64 x1.1, .int .i64 x1.2.1, u1])), (.plain, rdAO frmT x1), (.plain, frTO tplT w2.heap.size (xtV x0 x1) (.int .i64 (xtC x0 x1))), (.plain, frTO tplT w2.heap.size (xtV x0 x1) (.int .i64 (xtC x0 x1))), (.plain, frAO tplT w2.heap.size (xtV x0 x1)), (.plain, exO (.int .i64 (xtC x0 x1))), (.alloc, boxO 2), (.store, heldO tplT w2.heap.size (xtV x0 x1)), (.plain, exO (.int .i64 (xtC x0 x1)))] (by kernel_rfl) (by kernel_rfl) ⟨st_exO, st_rdAO, st_exO, st_rdAO, st_frTO, st_frTO, st_frAO, st_exO, st_boxO, st_heldO, st_exO, trivial⟩ ⟨?j8_0, ?j8_1, ?j8_2, ?j8_3, ?j8_4, ?j8_5, ?j8_6, ?j8_7, ?j8_8, ?j8_9, ?j8_10, trivial⟩ ?hQ8
  case j8_0 =>
    intro a' w' ob hb hbo hal hd
    have e0 : a'.tmps[2]?.getD undef = .pointer (some ⟨w.heap.size, 0, none⟩) := ev (slot_o2 hd 2 rfl rfl)
    have q : ∀ b o, b < w2.heap.size → w'.cell? ⟨b, o, none⟩ = w2.cell? ⟨b, o, none⟩ := (bcell hb).1
    go_simp
    exact ⟨_, ⟨rfl, Below.refl _ _⟩, rfl⟩
  case j8_1 =>
    intro a' w' ob hb hbo hal hd
    have e28 : a'.tmps[28]?.getD undef = .agg #[.int .i64 x0.1, u0] := ev (slot_w2 hd 28 (exO (.agg #[.int .i64 x0.1, u0])) rfl rfl)
    have r28 : tplT.Rd w2 (#[.int .i64 x0.1, u0] : Array Value).toList x0 := hx0.below H_w2
    have r28' := r28.below hb
    go_simp
    exact ⟨rfl, Below.refl _ _, (toTemplate_any w' r28' (by first | omega | (unfold szInts; omega))).mono fun e w'' ⟨cs, he, hf, hb⟩ => ⟨_, he, hb, rdAO_mk hf hbo⟩⟩
  case j8_2 =>
    intro a' w' ob hb hbo hal hd
    have e0 : a'.tmps[3]?.getD undef = .pointer (some ⟨w.heap.size + 1, 0, none⟩) := ev (slot_o2 hd 3 rfl rfl)
    have q : ∀ b o, b < w2.heap.size → w'.cell? ⟨b, o, none⟩ = w2.cell? ⟨b, o, none⟩ := (bcell hb).1
    go_simp
    exact ⟨_, ⟨rfl, Below.refl _ _⟩, rfl⟩
  case j8_3 =>
    intro a' w' ob hb hbo hal hd
    have e30 : a'.tmps[30]?.getD undef = .agg #[.int .i64 x1.1, .int .i64 x1.2.1, u1] := ev (slot_w2 hd 30 (exO (.agg #[.int .i64 x1.1, .int .i64 x1.2.1, u1])) rfl rfl)
    have r30 : frmT.Rd w2 (#[.int .i64 x1.1, .int .i64 x1.2.1, u1] : Array Value).toList x1 := hx1.below H_w2
    have r30' := r30.below hb
    go_simp
    exact ⟨rfl, Below.refl _ _, (toFormula_any w' r30' (by first | omega | (unfold szInts; omega))).mono fun e w'' ⟨cs, he, hf, hb⟩ => ⟨_, he, hb, rdAO_mk hf hbo⟩⟩
  case j8_4 =>
    intro a' w' ob hb hbo hal hd
    have d29 := slot_w2 hd 29 (rdAO tplT x0) rfl rfl
    obtain ⟨cs29, fp29, e29, hr29, -⟩ := d29
    have rd29 : tplT.Rd w' cs29 x0 := ⟨_, hr29⟩
    have e29' := ev e29
    have d31 := slot_w2 hd 31 (rdAO frmT x1) rfl rfl
    obtain ⟨cs31, fp31, e31, hr31, -⟩ := d31
    have rd31 : frmT.Rd w' cs31 x1 := ⟨_, hr31⟩
    have e31' := ev e31
    go_simp
    exact ⟨rfl, Below.refl _ _, (specExtendTemplate_any _ rd29 rd31).mono fun e w'' ⟨cs, he, hf, hb2⟩ => ⟨_, he, hb2, frTO_mk hb.size hf hbo⟩⟩
  case j8_5 =>
    intro a' w' ob hb hbo hal hd
    have d32 := slot_w2 hd 32 (frTO tplT w2.heap.size (xtV x0 x1) (.int .i64 (xtC x0 x1))) rfl rfl
    obtain ⟨cs32, e32, hf32⟩ := d32
    have e32' := ev e32
    go_simp
    exact ⟨_, ⟨rfl, Below.refl _ _⟩, cs32, rfl, hf32⟩
  case j8_6 =>
    intro a' w' ob hb hbo hal hd
    have d27 := slot_w2 hd 27 (frTO tplT w2.heap.size (xtV x0 x1) (.int .i64 (xtC x0 x1))) rfl rfl
    obtain ⟨cs27, e27, hf27⟩ := d27
    have e27' := ev e27
    go_simp
    exact ⟨_, ⟨rfl, Below.refl _ _⟩, hf27⟩
  case j8_7 =>
    intro a' w' ob hb hbo hal hd
    have d27 := slot_w2 hd 27 (frTO tplT w2.heap.size (xtV x0 x1) (.int .i64 (xtC x0 x1))) rfl rfl
    obtain ⟨cs27, e27, hf27⟩ := d27
    have e27' := ev e27
    go_simp
    exact ⟨_, ⟨rfl, Below.refl _ _⟩, rfl⟩
  case j8_8 =>
    intro a' w' ob hb hbo hal hd
    obtain rfl := hal rfl
    go_simp
    exact ⟨_, ⟨rfl, by simp, bA⟩, _, rfl, rfl, by simp, box2n⟩
  case j8_9 =>
    intro a' w' ob hb hbo hal hd
    obtain ⟨bb, rfl, e6, hbb, hcl⟩ := slot_w2 hd 6 (boxO 2) rfl rfl
    have e6' := ev e6
    have d33 := slot_w2 hd 33 (frAO tplT w2.heap.size (xtV x0 x1)) rfl rfl
    obtain ⟨cs33, fp33, e33, hr33, hn33, hg33, hu33, ho33⟩ := d33
    obtain ⟨u33, rfl, hr33', -⟩ := rd_pair hr33
    obtain ⟨ad33', cap33', rfl⟩ := rd_slice ⟨_, hr33'⟩
    have e33' := ev e33
    obtain ⟨⟨y0, c0⟩, f0⟩ := hcl 0 (by decide)
    obtain ⟨⟨y1, c1⟩, f1⟩ := hcl 1 (by decide)
    go_simp
    exact held2 c0 c1 hr33 hn33 hg33 hu33 ho33 _
  case j8_10 =>
    intro a' w' ob hb hbo hal hd
    have e0 : a'.tmps[34]?.getD undef = .int .i64 (xtC x0 x1) := ev (slot_w2 hd 34 (exO (.int .i64 (xtC x0 x1))) rfl rfl)
    go_simp
    exact ⟨_, ⟨rfl, Below.refl _ _⟩, rfl⟩
  intro vs8 w3 ob8 hb3 hbo8 H0
  obtain ⟨v8_0, _, rfl, p0, H1⟩ := HAll2_cons H0
  obtain ⟨v8_1, _, rfl, p1, H2⟩ := HAll2_cons H1
  obtain ⟨v8_2, _, rfl, p2, H3⟩ := HAll2_cons H2
  obtain ⟨v8_3, _, rfl, p3, H4⟩ := HAll2_cons H3
  obtain ⟨v8_4, _, rfl, p4, H5⟩ := HAll2_cons H4
  obtain ⟨v8_5, _, rfl, p5, H6⟩ := HAll2_cons H5
  obtain ⟨v8_6, _, rfl, p6, H7⟩ := HAll2_cons H6
  obtain ⟨v8_7, _, rfl, p7, H8⟩ := HAll2_cons H7
  obtain ⟨v8_8, _, rfl, p8, H9⟩ := HAll2_cons H8
  obtain ⟨v8_9, _, rfl, p9, H10⟩ := HAll2_cons H9
  obtain ⟨v8_10, _, rfl, p10, H11⟩ := HAll2_cons H10
  obtain rfl := HAll2_nil H11
  obtain rfl := id p0
  obtain rfl := id p2
  obtain rfl := id p7
  obtain rfl := id p10
  obtain ⟨bb15, rfl, rfl, hltbb15, -⟩ := id p8
  obtain ⟨_, cs, fp18, hob, hr1, hr2, hr3, hr4, -, cc17⟩ := id p9
  simp only [Option.some.injEq] at hob
  subst hob
  have hc16 : tplT.Fr w2.heap.size w3 cs (xtV x0 x1) := ⟨fp18, hr1, hr2, hr3, hr4⟩
  have hlobb15 : w2.heap.size ≤ bb15 := (hbo8 bb15 rfl).1
  obtain ⟨ad19, ad19', rfl⟩ := fr_pair hc16
  have f20 : w3.cell? ⟨bb15, 0, none⟩ = some (.int .i64 (xtV x0 x1).1) := cc17 0 (by simp)
  have f21 : w3.cell? ⟨bb15, 1, none⟩ = some (.slice ad19 (xtV x0 x1).2.length ad19') := cc17 1 (by simp)
  clear cc17 hr1 hr2 hr3 hr4
  clear p0 p1 p2 p3 p4 p5 p6 p7 p8 p9 p10 H0 H1 H2 H3 H4 H5 H6 H7 H8 H9 H10 H11
  have gw3 : Below w2.heap.size w2 w3 := bthen (by repeat (first | exact Below.refl _ _ | exact bA | assumption | refine Below.setCell ?_ (by first | omega | (simp; try omega)) _ | refine Below.alloc ?_ (by first | omega | (simp; try omega)) _ | refine Below.drew ?_ | refine bDN ?_ | refine bthen ?_ (by assumption))) hb3
  have sw3 : w2.heap.size + 0 ≤ w3.heap.size := by have := hb3.size; (try simp at this); omega
  have H_w3 : Below w.heap.size w w3 := bthen H_w2 gw3
  have f22 : w3.cell? ⟨w.heap.size, 0, none⟩ = some (.int .i64 x0.1) := (gw3.cell (by first | omega | (simp; try omega))).trans f8
  have f23 : w3.cell? ⟨w.heap.size, 1, none⟩ = some (u0) := (gw3.cell (by first | omega | (simp; try omega))).trans f9
  have f24 : w3.cell? ⟨w.heap.size + 1, 0, none⟩ = some (.int .i64 x1.1) := (gw3.cell (by first | omega | (simp; try omega))).trans f10
  have f25 : w3.cell? ⟨w.heap.size + 1, 1, none⟩ = some (.int .i64 x1.2.1) := (gw3.cell (by first | omega | (simp; try omega))).trans f11
  have f26 : w3.cell? ⟨w.heap.size + 1, 2, none⟩ = some (u1) := (gw3.cell (by first | omega | (simp; try omega))).trans f12
  have z27 : w.heap.size < w3.heap.size := by omega
  have z28 : w.heap.size + 1 < w3.heap.size := by omega
  clear hb3 H_w2 f8 f9 f10 f11 f12 z13 z14 gw3
  have d29 : tplT.Fx w2.heap.size w3.heap.size w3 [.int .i64 (xtV x0 x1).1, .slice ad19 (xtV x0 x1).2.length ad19'] (xtV x0 x1) := hc16.fx
  clear hc16
  simp only [putAll, Act.put]
  go_simp
  go_wp2_with fail
  refine (toTemplate_any _ (hx0.below (by repeat (first | exact Below.refl _ _ | exact bA | assumption | refine Below.setCell ?_ (by first | omega | (simp; try omega)) _ | refine Below.alloc ?_ (by first | omega | (simp; try omega)) _ | refine Below.drew ?_ | refine bDN ?_ | refine bthen ?_ (by assumption)))) (by first | omega | (unfold szInts; omega))).mono ?_
  rintro e w4 ⟨cs, rfl, hc31, hb4⟩
  have gw4 : Below w3.heap.size w3 w4 := bthen (by repeat (first | exact Below.refl _ _ | exact bA | assumption | refine Below.setCell ?_ (by first | omega | (simp; try omega)) _ | refine Below.alloc ?_ (by first | omega | (simp; try omega)) _ | refine Below.drew ?_ | refine bDN ?_ | refine bthen ?_ (by assumption))) hb4
  have sw4 : w3.heap.size + 0 ≤ w4.heap.size := by have := hb4.size; (try simp at this); omega
  have H_w4 : Below w.heap.size w w4 := bthen H_w3 gw4
  have f32 : w4.cell? ⟨w.heap.size, 0, none⟩ = some (.int .i64 x0.1) := (gw4.cell (by first | omega | (simp; try omega))).trans f22
  have f33 : w4.cell? ⟨w.heap.size, 1, none⟩ = some (u0) := (gw4.cell (by first | omega | (simp; try omega))).trans f23
  have f34 : w4.cell? ⟨w.heap.size + 1, 0, none⟩ = some (.int .i64 x1.1) := (gw4.cell (by first | omega | (simp; try omega))).trans f24
  have f35 : w4.cell? ⟨w.heap.size + 1, 1, none⟩ = some (.int .i64 x1.2.1) := (gw4.cell (by first | omega | (simp; try omega))).trans f25
  have f36 : w4.cell? ⟨w.heap.size + 1, 2, none⟩ = some (u1) := (gw4.cell (by first | omega | (simp; try omega))).trans f26
  have f37 : w4.cell? ⟨bb15, 0, none⟩ = some (.int .i64 (xtV x0 x1).1) := (gw4.cell (by first | omega | (simp; try omega))).trans f20
  have f38 : w4.cell? ⟨bb15, 1, none⟩ = some (.slice ad19 (xtV x0 x1).2.length ad19') := (gw4.cell (by first | omega | (simp; try omega))).trans f21
  have z39 : w.heap.size < w4.heap.size := by omega
  have z40 : w.heap.size + 1 < w4.heap.size := by omega
  have z41 : bb15 < w4.heap.size := by omega
  have d42 : tplT.Fx w2.heap.size w3.heap.size w4 [.int .i64 (xtV x0 x1).1, .slice ad19 (xtV x0 x1).2.length ad19'] (xtV x0 x1) := d29.below gw4
  clear hb4 H_w3 f22 f23 f24 f25 f26 f20 f21 d29 z27 z28 gw4
  obtain ⟨ad43, ad43', rfl⟩ := fr_pair hc31
  have d44 : tplT.Fx w3.heap.size w4.heap.size w4 [.int .i64 x0.1, .slice ad43 x0.2.length ad43'] x0 := (Ty.Fr.mono hc31 (by first | exact Nat.le_refl _ | (simp; try omega))).fx
  clear hc31
  go_wp2_with fail
  refine (toFormula_any _ (hx1.below (by repeat (first | exact Below.refl _ _ | exact bA | assumption | refine Below.setCell ?_ (by first | omega | (simp; try omega)) _ | refine Below.alloc ?_ (by first | omega | (simp; try omega)) _ | refine Below.drew ?_ | refine bDN ?_ | refine bthen ?_ (by assumption)))) (by first | omega | (unfold szInts; omega))).mono ?_
  rintro e w5 ⟨cs, rfl, hc46, hb5⟩
  have gw5 : Below w4.heap.size w4 w5 := bthen (by repeat (first | exact Below.refl _ _ | exact bA | assumption | refine Below.setCell ?_ (by first | omega | (simp; try omega)) _ | refine Below.alloc ?_ (by first | omega | (simp; try omega)) _ | refine Below.drew ?_ | refine bDN ?_ | refine bthen ?_ (by assumption))) hb5
  have sw5 : w4.heap.size + 1 ≤ w5.heap.size := by have := hb5.size; (try simp at this); omega
  have H_w5 : Below w.heap.size w w5 := bthen H_w4 gw5
  have f47 : w5.cell? ⟨w.heap.size, 0, none⟩ = some (.int .i64 x0.1) := (gw5.cell (by first | omega | (simp; try omega))).trans f32
  have f48 : w5.cell? ⟨w.heap.size, 1, none⟩ = some (u0) := (gw5.cell (by first | omega | (simp; try omega))).trans f33
  have f49 : w5.cell? ⟨w.heap.size + 1, 0, none⟩ = some (.int .i64 x1.1) := (gw5.cell (by first | omega | (simp; try omega))).trans f34
  have f50 : w5.cell? ⟨w.heap.size + 1, 1, none⟩ = some (.int .i64 x1.2.1) := (gw5.cell (by first | omega | (simp; try omega))).trans f35
  have f51 : w5.cell? ⟨w.heap.size + 1, 2, none⟩ = some (u1) := (gw5.cell (by first | omega | (simp; try omega))).trans f36
  have f52 : w5.cell? ⟨bb15, 0, none⟩ = some (.int .i64 (xtV x0 x1).1) := (gw5.cell (by first | omega | (simp; try omega))).trans f37
  have f53 : w5.cell? ⟨bb15, 1, none⟩ = some (.slice ad19 (xtV x0 x1).2.length ad19') := (gw5.cell (by first | omega | (simp; try omega))).trans f38
  have f54 : w5.cell? ⟨w4.heap.size, 0, none⟩ = some (.int .i64 x0.1) := by rw [(bcell hb5).1 _ _ (by first | omega | (simp; try omega))]; first | (simp; done) | simp [go_sem]
  have f55 : w5.cell? ⟨w4.heap.size, 1, none⟩ = some (.slice ad43 x0.2.length ad43') := by rw [(bcell hb5).1 _ _ (by first | omega | (simp; try omega))]; first | (simp; done) | simp [go_sem]
  have z56 : w.heap.size < w5.heap.size := by omega
  have z57 : w.heap.size + 1 < w5.heap.size := by omega
  have z58 : bb15 < w5.heap.size := by omega
  have z59 : w4.heap.size < w5.heap.size := by omega
  have d60 : tplT.Fx w2.heap.size w3.heap.size w5 [.int .i64 (xtV x0 x1).1, .slice ad19 (xtV x0 x1).2.length ad19'] (xtV x0 x1) := d42.below gw5
  have d61 : tplT.Fx w3.heap.size w4.heap.size w5 [.int .i64 x0.1, .slice ad43 x0.2.length ad43'] x0 := d44.below gw5
  clear hb5 H_w4 f32 f33 f34 f35 f36 f37 f38 d42 d44 z39 z40 z41 gw5
  obtain ⟨ad62, ad62', rfl⟩ := fr_trip hc46
  have d63 : frmT.Fx (w4.heap.size + 1) w5.heap.size w5 [.int .i64 x1.1, .int .i64 x1.2.1, .slice ad62 x1.2.2.length ad62'] x1 := (Ty.Fr.mono hc46 (by first | exact Nat.le_refl _ | (simp; try omega))).fx
  clear hc46
  go_wp2_with fail
  refine (ExtendTemplate_any _ (d61.rd.below (by repeat (first | exact Below.refl _ _ | exact bA | assumption | refine Below.setCell ?_ (by first | omega | (simp; try omega)) _ | refine Below.alloc ?_ (by first | omega | (simp; try omega)) _ | refine Below.drew ?_ | refine bDN ?_ | refine bthen ?_ (by assumption)))) (d63.rd.below (by repeat (first | exact Below.refl _ _ | exact bA | assumption | refine Below.setCell ?_ (by first | omega | (simp; try omega)) _ | refine Below.alloc ?_ (by first | omega | (simp; try omega)) _ | refine Below.drew ?_ | refine bDN ?_ | refine bthen ?_ (by assumption))))).mono ?_
  rintro e w6 ⟨cs, rfl, hc65, hb6⟩
  have gw6 : Below w5.heap.size w5 w6 := bthen (by repeat (first | exact Below.refl _ _ | exact bA | assumption | refine Below.setCell ?_ (by first | omega | (simp; try omega)) _ | refine Below.alloc ?_ (by first | omega | (simp; try omega)) _ | refine Below.drew ?_ | refine bDN ?_ | refine bthen ?_ (by assumption))) hb6
  have sw6 : w5.heap.size + 1 ≤ w6.heap.size := by have := hb6.size; (try simp at this); omega
  have H_w6 : Below w.heap.size w w6 := bthen H_w5 gw6
  have f66 : w6.cell? ⟨w.heap.size, 0, none⟩ = some (.int .i64 x0.1) := (gw6.cell (by first | omega | (simp; try omega))).trans f47
  have f67 : w6.cell? ⟨w.heap.size, 1, none⟩ = some (u0) := (gw6.cell (by first | omega | (simp; try omega))).trans f48
  have f68 : w6.cell? ⟨w.heap.size + 1, 0, none⟩ = some (.int .i64 x1.1) := (gw6.cell (by first | omega | (simp; try omega))).trans f49
  have f69 : w6.cell? ⟨w.heap.size + 1, 1, none⟩ = some (.int .i64 x1.2.1) := (gw6.cell (by first | omega | (simp; try omega))).trans f50
  have f70 : w6.cell? ⟨w.heap.size + 1, 2, none⟩ = some (u1) := (gw6.cell (by first | omega | (simp; try omega))).trans f51
  have f71 : w6.cell? ⟨bb15, 0, none⟩ = some (.int .i64 (xtV x0 x1).1) := (gw6.cell (by first | omega | (simp; try omega))).trans f52
  have f72 : w6.cell? ⟨bb15, 1, none⟩ = some (.slice ad19 (xtV x0 x1).2.length ad19') := (gw6.cell (by first | omega | (simp; try omega))).trans f53
  have f73 : w6.cell? ⟨w4.heap.size, 0, none⟩ = some (.int .i64 x0.1) := (gw6.cell (by first | omega | (simp; try omega))).trans f54
  have f74 : w6.cell? ⟨w4.heap.size, 1, none⟩ = some (.slice ad43 x0.2.length ad43') := (gw6.cell (by first | omega | (simp; try omega))).trans f55
  have f75 : w6.cell? ⟨w5.heap.size, 0, none⟩ = some (.int .i64 x1.1) := by rw [(bcell hb6).1 _ _ (by first | omega | (simp; try omega))]; first | (simp; done) | simp [go_sem]
  have f76 : w6.cell? ⟨w5.heap.size, 1, none⟩ = some (.int .i64 x1.2.1) := by rw [(bcell hb6).1 _ _ (by first | omega | (simp; try omega))]; first | (simp; done) | simp [go_sem]
  have f77 : w6.cell? ⟨w5.heap.size, 2, none⟩ = some (.slice ad62 x1.2.2.length ad62') := by rw [(bcell hb6).1 _ _ (by first | omega | (simp; try omega))]; first | (simp; done) | simp [go_sem]
  have z78 : w.heap.size < w6.heap.size := by omega
  have z79 : w.heap.size + 1 < w6.heap.size := by omega
  have z80 : bb15 < w6.heap.size := by omega
  have z81 : w4.heap.size < w6.heap.size := by omega
  have z82 : w5.heap.size < w6.heap.size := by omega
  have d83 : tplT.Fx w2.heap.size w3.heap.size w6 [.int .i64 (xtV x0 x1).1, .slice ad19 (xtV x0 x1).2.length ad19'] (xtV x0 x1) := d60.below gw6
  have d84 : tplT.Fx w3.heap.size w4.heap.size w6 [.int .i64 x0.1, .slice ad43 x0.2.length ad43'] x0 := d61.below gw6
  have d85 : frmT.Fx (w4.heap.size + 1) w5.heap.size w6 [.int .i64 x1.1, .int .i64 x1.2.1, .slice ad62 x1.2.2.length ad62'] x1 := d63.below gw6
  clear hb6 H_w5 f47 f48 f49 f50 f51 f52 f53 f54 f55 d60 d61 d63 z56 z57 z58 z59 gw6
  obtain ⟨ad86, ad86', rfl⟩ := fr_pair hc65
  have d87 : tplT.Fx (w5.heap.size + 1) w6.heap.size w6 [.int .i64 (xtV x0 x1).1, .slice ad86 (xtV x0 x1).2.length ad86'] (xtV x0 x1) := (Ty.Fr.mono hc65 (by first | exact Nat.le_refl _ | (simp; try omega))).fx
  clear hc65
  go_wp2_with fail
  refine (eqTemplate_any _ (d87.rd.below (by repeat (first | exact Below.refl _ _ | exact bA | assumption | refine Below.setCell ?_ (by first | omega | (simp; try omega)) _ | refine Below.alloc ?_ (by first | omega | (simp; try omega)) _ | refine Below.drew ?_ | refine bDN ?_ | refine bthen ?_ (by assumption)))) (d83.rd.below (by repeat (first | exact Below.refl _ _ | exact bA | assumption | refine Below.setCell ?_ (by first | omega | (simp; try omega)) _ | refine Below.alloc ?_ (by first | omega | (simp; try omega)) _ | refine Below.drew ?_ | refine bDN ?_ | refine bthen ?_ (by assumption))))).mono ?_
  rintro e w7 ⟨rfl, hb7⟩
  have gw7 : Below w6.heap.size w6 w7 := bthen (by repeat (first | exact Below.refl _ _ | exact bA | assumption | refine Below.setCell ?_ (by first | omega | (simp; try omega)) _ | refine Below.alloc ?_ (by first | omega | (simp; try omega)) _ | refine Below.drew ?_ | refine bDN ?_ | refine bthen ?_ (by assumption))) hb7
  have sw7 : w6.heap.size + 1 ≤ w7.heap.size := by have := hb7.size; (try simp at this); omega
  have H_w7 : Below w.heap.size w w7 := bthen H_w6 gw7
  have f89 : w7.cell? ⟨w.heap.size, 0, none⟩ = some (.int .i64 x0.1) := (gw7.cell (by first | omega | (simp; try omega))).trans f66
  have f90 : w7.cell? ⟨w.heap.size, 1, none⟩ = some (u0) := (gw7.cell (by first | omega | (simp; try omega))).trans f67
  have f91 : w7.cell? ⟨w.heap.size + 1, 0, none⟩ = some (.int .i64 x1.1) := (gw7.cell (by first | omega | (simp; try omega))).trans f68
  have f92 : w7.cell? ⟨w.heap.size + 1, 1, none⟩ = some (.int .i64 x1.2.1) := (gw7.cell (by first | omega | (simp; try omega))).trans f69
  have f93 : w7.cell? ⟨w.heap.size + 1, 2, none⟩ = some (u1) := (gw7.cell (by first | omega | (simp; try omega))).trans f70
  have f94 : w7.cell? ⟨bb15, 0, none⟩ = some (.int .i64 (xtV x0 x1).1) := (gw7.cell (by first | omega | (simp; try omega))).trans f71
  have f95 : w7.cell? ⟨bb15, 1, none⟩ = some (.slice ad19 (xtV x0 x1).2.length ad19') := (gw7.cell (by first | omega | (simp; try omega))).trans f72
  have f96 : w7.cell? ⟨w4.heap.size, 0, none⟩ = some (.int .i64 x0.1) := (gw7.cell (by first | omega | (simp; try omega))).trans f73
  have f97 : w7.cell? ⟨w4.heap.size, 1, none⟩ = some (.slice ad43 x0.2.length ad43') := (gw7.cell (by first | omega | (simp; try omega))).trans f74
  have f98 : w7.cell? ⟨w5.heap.size, 0, none⟩ = some (.int .i64 x1.1) := (gw7.cell (by first | omega | (simp; try omega))).trans f75
  have f99 : w7.cell? ⟨w5.heap.size, 1, none⟩ = some (.int .i64 x1.2.1) := (gw7.cell (by first | omega | (simp; try omega))).trans f76
  have f100 : w7.cell? ⟨w5.heap.size, 2, none⟩ = some (.slice ad62 x1.2.2.length ad62') := (gw7.cell (by first | omega | (simp; try omega))).trans f77
  have f101 : w7.cell? ⟨w6.heap.size, 0, none⟩ = some (.int .i64 (xtV x0 x1).1) := by rw [(bcell hb7).1 _ _ (by first | omega | (simp; try omega))]; first | (simp; done) | simp [go_sem]
  have f102 : w7.cell? ⟨w6.heap.size, 1, none⟩ = some (.slice ad86 (xtV x0 x1).2.length ad86') := by rw [(bcell hb7).1 _ _ (by first | omega | (simp; try omega))]; first | (simp; done) | simp [go_sem]
  have z103 : w.heap.size < w7.heap.size := by omega
  have z104 : w.heap.size + 1 < w7.heap.size := by omega
  have z105 : bb15 < w7.heap.size := by omega
  have z106 : w4.heap.size < w7.heap.size := by omega
  have z107 : w5.heap.size < w7.heap.size := by omega
  have z108 : w6.heap.size < w7.heap.size := by omega
  have d109 : tplT.Fx w2.heap.size w3.heap.size w7 [.int .i64 (xtV x0 x1).1, .slice ad19 (xtV x0 x1).2.length ad19'] (xtV x0 x1) := d83.below gw7
  have d110 : tplT.Fx w3.heap.size w4.heap.size w7 [.int .i64 x0.1, .slice ad43 x0.2.length ad43'] x0 := d84.below gw7
  have d111 : frmT.Fx (w4.heap.size + 1) w5.heap.size w7 [.int .i64 x1.1, .int .i64 x1.2.1, .slice ad62 x1.2.2.length ad62'] x1 := d85.below gw7
  have d112 : tplT.Fx (w5.heap.size + 1) w6.heap.size w7 [.int .i64 (xtV x0 x1).1, .slice ad86 (xtV x0 x1).2.length ad86'] (xtV x0 x1) := d87.below gw7
  clear hb7 H_w6 f66 f67 f68 f69 f70 f71 f72 f73 f74 f75 f76 f77 d83 d84 d85 d87 z78 z79 z80 z81 z82 gw7
  rw [eqB_true rfl]
  go_wp2_with fail
  refine wp_region_loose [exV (.agg #[.int .i64 x0.1, .slice ad43 x0.2.length ad43']), exV (.agg #[.int .i64 x0.1, u0]), rdA tplT x0, exV (.bool true), exV (.bool false)] (by kernel_rfl) (by kernel_rfl) ⟨st_exV, st_exV, st_rdA, st_exV, st_exV, trivial⟩ ⟨?j14_0, ?j14_1, ?j14_2, ?j14_3, ?j14_4, trivial⟩ ?hQ14
  case j14_0 =>
    intro a' w' hb hd
    have e0 : a'.tmps[8]?.getD undef = .pointer (some ⟨w4.heap.size, 0, none⟩) := ev (slot_o hd 8 rfl rfl)
    have q : ∀ b o, b < w7.heap.size → w'.cell? ⟨b, o, none⟩ = w7.cell? ⟨b, o, none⟩ := (bcell hb).1
    go_simp
    exact ⟨Below.refl _ _, rfl⟩
  case j14_1 =>
    intro a' w' hb hd
    have e0 : a'.tmps[2]?.getD undef = .pointer (some ⟨w.heap.size, 0, none⟩) := ev (slot_o hd 2 rfl rfl)
    have q : ∀ b o, b < w7.heap.size → w'.cell? ⟨b, o, none⟩ = w7.cell? ⟨b, o, none⟩ := (bcell hb).1
    go_simp
    exact ⟨Below.refl _ _, rfl⟩
  case j14_2 =>
    intro a' w' hb hd
    have e55 : a'.tmps[55]?.getD undef = .agg #[.int .i64 x0.1, u0] := ev (slot_w hd 55 (exV (.agg #[.int .i64 x0.1, u0])) rfl rfl)
    have r55 : tplT.Rd w7 (#[.int .i64 x0.1, u0] : Array Value).toList x0 := hx0.below H_w7
    have r55' := r55.below hb
    go_simp
    exact ⟨Below.refl _ _, (toTemplate_any w' r55' (by first | omega | (unfold szInts; omega))).mono fun e w'' ⟨cs, he, hf, hb⟩ => ⟨_, he, hb, cs, rfl, hf.rd⟩⟩
  case j14_3 =>
    intro a' w' hb hd
    have e54 : a'.tmps[54]?.getD undef = .agg #[.int .i64 x0.1, .slice ad43 x0.2.length ad43'] := ev (slot_w hd 54 (exV (.agg #[.int .i64 x0.1, .slice ad43 x0.2.length ad43'])) rfl rfl)
    have r54 : tplT.Rd w7 (#[.int .i64 x0.1, .slice ad43 x0.2.length ad43'] : Array Value).toList x0 := d110.rd
    have r54' := r54.below hb
    have d56 := slot_w hd 56 (rdA tplT x0) rfl rfl
    obtain ⟨cs56, e56, hf56⟩ := d56
    have e56' := ev e56
    go_simp
    exact ⟨Below.refl _ _, (eqTemplate_any w' r54' hf56).mono fun e w'' ⟨he, hb⟩ => ⟨_, he, hb, exV_eqB⟩⟩
  case j14_4 =>
    intro a' w' hb hd
    have e0 : a'.tmps[57]?.getD undef = .bool true := ev (slot_w hd 57 (exV (.bool true)) rfl rfl)
    go_simp
    exact ⟨Below.refl _ _, rfl⟩
  intro vs14 w8 hb8 H0
  obtain ⟨v14_0, _, rfl, p0, H1⟩ := HAll_cons H0
  obtain ⟨v14_1, _, rfl, p1, H2⟩ := HAll_cons H1
  obtain ⟨v14_2, _, rfl, p2, H3⟩ := HAll_cons H2
  obtain ⟨v14_3, _, rfl, p3, H4⟩ := HAll_cons H3
  obtain ⟨v14_4, _, rfl, p4, H5⟩ := HAll_cons H4
  obtain rfl := HAll_nil H5
  obtain rfl := p0 rfl
  obtain rfl := p1 rfl
  obtain rfl := p3 rfl
  obtain rfl := p4 rfl
  clear p0 p1 p2 p3 p4 H0 H1 H2 H3 H4 H5
  have gw8 : Below w7.heap.size w7 w8 := bthen (by repeat (first | exact Below.refl _ _ | exact bA | assumption | refine Below.setCell ?_ (by first | omega | (simp; try omega)) _ | refine Below.alloc ?_ (by first | omega | (simp; try omega)) _ | refine Below.drew ?_ | refine bDN ?_ | refine bthen ?_ (by assumption))) hb8
  have sw8 : w7.heap.size + 0 ≤ w8.heap.size := by have := hb8.size; (try simp at this); omega
  have H_w8 : Below w.heap.size w w8 := bthen H_w7 gw8
  have f113 : w8.cell? ⟨w.heap.size, 0, none⟩ = some (.int .i64 x0.1) := (gw8.cell (by first | omega | (simp; try omega))).trans f89
  have f114 : w8.cell? ⟨w.heap.size, 1, none⟩ = some (u0) := (gw8.cell (by first | omega | (simp; try omega))).trans f90
  have f115 : w8.cell? ⟨w.heap.size + 1, 0, none⟩ = some (.int .i64 x1.1) := (gw8.cell (by first | omega | (simp; try omega))).trans f91
  have f116 : w8.cell? ⟨w.heap.size + 1, 1, none⟩ = some (.int .i64 x1.2.1) := (gw8.cell (by first | omega | (simp; try omega))).trans f92
  have f117 : w8.cell? ⟨w.heap.size + 1, 2, none⟩ = some (u1) := (gw8.cell (by first | omega | (simp; try omega))).trans f93
  have f118 : w8.cell? ⟨bb15, 0, none⟩ = some (.int .i64 (xtV x0 x1).1) := (gw8.cell (by first | omega | (simp; try omega))).trans f94
  have f119 : w8.cell? ⟨bb15, 1, none⟩ = some (.slice ad19 (xtV x0 x1).2.length ad19') := (gw8.cell (by first | omega | (simp; try omega))).trans f95
  have f120 : w8.cell? ⟨w4.heap.size, 0, none⟩ = some (.int .i64 x0.1) := (gw8.cell (by first | omega | (simp; try omega))).trans f96
  have f121 : w8.cell? ⟨w4.heap.size, 1, none⟩ = some (.slice ad43 x0.2.length ad43') := (gw8.cell (by first | omega | (simp; try omega))).trans f97
  have f122 : w8.cell? ⟨w5.heap.size, 0, none⟩ = some (.int .i64 x1.1) := (gw8.cell (by first | omega | (simp; try omega))).trans f98
  have f123 : w8.cell? ⟨w5.heap.size, 1, none⟩ = some (.int .i64 x1.2.1) := (gw8.cell (by first | omega | (simp; try omega))).trans f99
  have f124 : w8.cell? ⟨w5.heap.size, 2, none⟩ = some (.slice ad62 x1.2.2.length ad62') := (gw8.cell (by first | omega | (simp; try omega))).trans f100
  have f125 : w8.cell? ⟨w6.heap.size, 0, none⟩ = some (.int .i64 (xtV x0 x1).1) := (gw8.cell (by first | omega | (simp; try omega))).trans f101
  have f126 : w8.cell? ⟨w6.heap.size, 1, none⟩ = some (.slice ad86 (xtV x0 x1).2.length ad86') := (gw8.cell (by first | omega | (simp; try omega))).trans f102
  have z127 : w.heap.size < w8.heap.size := by omega
  have z128 : w.heap.size + 1 < w8.heap.size := by omega
  have z129 : bb15 < w8.heap.size := by omega
  have z130 : w4.heap.size < w8.heap.size := by omega
  have z131 : w5.heap.size < w8.heap.size := by omega
  have z132 : w6.heap.size < w8.heap.size := by omega
  have d133 : tplT.Fx w2.heap.size w3.heap.size w8 [.int .i64 (xtV x0 x1).1, .slice ad19 (xtV x0 x1).2.length ad19'] (xtV x0 x1) := d109.below gw8
  have d134 : tplT.Fx w3.heap.size w4.heap.size w8 [.int .i64 x0.1, .slice ad43 x0.2.length ad43'] x0 := d110.below gw8
  have d135 : frmT.Fx (w4.heap.size + 1) w5.heap.size w8 [.int .i64 x1.1, .int .i64 x1.2.1, .slice ad62 x1.2.2.length ad62'] x1 := d111.below gw8
  have d136 : tplT.Fx (w5.heap.size + 1) w6.heap.size w8 [.int .i64 (xtV x0 x1).1, .slice ad86 (xtV x0 x1).2.length ad86'] (xtV x0 x1) := d112.below gw8
  clear hb8 H_w7 f89 f90 f91 f92 f93 f94 f95 f96 f97 f98 f99 f100 f101 f102 d109 d110 d111 d112 z103 z104 z105 z106 z107 z108 gw8
  simp only [putAll, Act.put]
  go_simp
  go_wp2_with fail
  refine wp_region_loose [exV (.agg #[.int .i64 x1.1, .int .i64 x1.2.1, .slice ad62 x1.2.2.length ad62']), exV (.agg #[.int .i64 x1.1, .int .i64 x1.2.1, u1]), rdA frmT x1, exV (.bool true), exV (.bool false)] (by kernel_rfl) (by kernel_rfl) ⟨st_exV, st_exV, st_rdA, st_exV, st_exV, trivial⟩ ⟨?j16_0, ?j16_1, ?j16_2, ?j16_3, ?j16_4, trivial⟩ ?hQ16
  case j16_0 =>
    intro a' w' hb hd
    have e0 : a'.tmps[9]?.getD undef = .pointer (some ⟨w5.heap.size, 0, none⟩) := ev (slot_o hd 9 rfl rfl)
    have q : ∀ b o, b < w8.heap.size → w'.cell? ⟨b, o, none⟩ = w8.cell? ⟨b, o, none⟩ := (bcell hb).1
    go_simp
    exact ⟨Below.refl _ _, rfl⟩
  case j16_1 =>
    intro a' w' hb hd
    have e0 : a'.tmps[3]?.getD undef = .pointer (some ⟨w.heap.size + 1, 0, none⟩) := ev (slot_o hd 3 rfl rfl)
    have q : ∀ b o, b < w8.heap.size → w'.cell? ⟨b, o, none⟩ = w8.cell? ⟨b, o, none⟩ := (bcell hb).1
    go_simp
    exact ⟨Below.refl _ _, rfl⟩
  case j16_2 =>
    intro a' w' hb hd
    have e60 : a'.tmps[60]?.getD undef = .agg #[.int .i64 x1.1, .int .i64 x1.2.1, u1] := ev (slot_w hd 60 (exV (.agg #[.int .i64 x1.1, .int .i64 x1.2.1, u1])) rfl rfl)
    have r60 : frmT.Rd w8 (#[.int .i64 x1.1, .int .i64 x1.2.1, u1] : Array Value).toList x1 := hx1.below H_w8
    have r60' := r60.below hb
    go_simp
    exact ⟨Below.refl _ _, (toFormula_any w' r60' (by first | omega | (unfold szInts; omega))).mono fun e w'' ⟨cs, he, hf, hb⟩ => ⟨_, he, hb, cs, rfl, hf.rd⟩⟩
  case j16_3 =>
    intro a' w' hb hd
    have e59 : a'.tmps[59]?.getD undef = .agg #[.int .i64 x1.1, .int .i64 x1.2.1, .slice ad62 x1.2.2.length ad62'] := ev (slot_w hd 59 (exV (.agg #[.int .i64 x1.1, .int .i64 x1.2.1, .slice ad62 x1.2.2.length ad62'])) rfl rfl)
    have r59 : frmT.Rd w8 (#[.int .i64 x1.1, .int .i64 x1.2.1, .slice ad62 x1.2.2.length ad62'] : Array Value).toList x1 := d135.rd
    have r59' := r59.below hb
    have d61 := slot_w hd 61 (rdA frmT x1) rfl rfl
    obtain ⟨cs61, e61, hf61⟩ := d61
    have e61' := ev e61
    go_simp
    exact ⟨Below.refl _ _, (eqFormula_any w' r59' hf61).mono fun e w'' ⟨he, hb⟩ => ⟨_, he, hb, exV_eqB⟩⟩
  case j16_4 =>
    intro a' w' hb hd
    have e0 : a'.tmps[62]?.getD undef = .bool true := ev (slot_w hd 62 (exV (.bool true)) rfl rfl)
    go_simp
    exact ⟨Below.refl _ _, rfl⟩
  intro vs16 w9 hb9 H0
  obtain ⟨v16_0, _, rfl, p0, H1⟩ := HAll_cons H0
  obtain ⟨v16_1, _, rfl, p1, H2⟩ := HAll_cons H1
  obtain ⟨v16_2, _, rfl, p2, H3⟩ := HAll_cons H2
  obtain ⟨v16_3, _, rfl, p3, H4⟩ := HAll_cons H3
  obtain ⟨v16_4, _, rfl, p4, H5⟩ := HAll_cons H4
  obtain rfl := HAll_nil H5
  obtain rfl := p0 rfl
  obtain rfl := p1 rfl
  obtain rfl := p3 rfl
  obtain rfl := p4 rfl
  clear p0 p1 p2 p3 p4 H0 H1 H2 H3 H4 H5
  have gw9 : Below w8.heap.size w8 w9 := bthen (by repeat (first | exact Below.refl _ _ | exact bA | assumption | refine Below.setCell ?_ (by first | omega | (simp; try omega)) _ | refine Below.alloc ?_ (by first | omega | (simp; try omega)) _ | refine Below.drew ?_ | refine bDN ?_ | refine bthen ?_ (by assumption))) hb9
  have sw9 : w8.heap.size + 0 ≤ w9.heap.size := by have := hb9.size; (try simp at this); omega
  have H_w9 : Below w.heap.size w w9 := bthen H_w8 gw9
  have f137 : w9.cell? ⟨w.heap.size, 0, none⟩ = some (.int .i64 x0.1) := (gw9.cell (by first | omega | (simp; try omega))).trans f113
  have f138 : w9.cell? ⟨w.heap.size, 1, none⟩ = some (u0) := (gw9.cell (by first | omega | (simp; try omega))).trans f114
  have f139 : w9.cell? ⟨w.heap.size + 1, 0, none⟩ = some (.int .i64 x1.1) := (gw9.cell (by first | omega | (simp; try omega))).trans f115
  have f140 : w9.cell? ⟨w.heap.size + 1, 1, none⟩ = some (.int .i64 x1.2.1) := (gw9.cell (by first | omega | (simp; try omega))).trans f116
  have f141 : w9.cell? ⟨w.heap.size + 1, 2, none⟩ = some (u1) := (gw9.cell (by first | omega | (simp; try omega))).trans f117
  have f142 : w9.cell? ⟨bb15, 0, none⟩ = some (.int .i64 (xtV x0 x1).1) := (gw9.cell (by first | omega | (simp; try omega))).trans f118
  have f143 : w9.cell? ⟨bb15, 1, none⟩ = some (.slice ad19 (xtV x0 x1).2.length ad19') := (gw9.cell (by first | omega | (simp; try omega))).trans f119
  have f144 : w9.cell? ⟨w4.heap.size, 0, none⟩ = some (.int .i64 x0.1) := (gw9.cell (by first | omega | (simp; try omega))).trans f120
  have f145 : w9.cell? ⟨w4.heap.size, 1, none⟩ = some (.slice ad43 x0.2.length ad43') := (gw9.cell (by first | omega | (simp; try omega))).trans f121
  have f146 : w9.cell? ⟨w5.heap.size, 0, none⟩ = some (.int .i64 x1.1) := (gw9.cell (by first | omega | (simp; try omega))).trans f122
  have f147 : w9.cell? ⟨w5.heap.size, 1, none⟩ = some (.int .i64 x1.2.1) := (gw9.cell (by first | omega | (simp; try omega))).trans f123
  have f148 : w9.cell? ⟨w5.heap.size, 2, none⟩ = some (.slice ad62 x1.2.2.length ad62') := (gw9.cell (by first | omega | (simp; try omega))).trans f124
  have f149 : w9.cell? ⟨w6.heap.size, 0, none⟩ = some (.int .i64 (xtV x0 x1).1) := (gw9.cell (by first | omega | (simp; try omega))).trans f125
  have f150 : w9.cell? ⟨w6.heap.size, 1, none⟩ = some (.slice ad86 (xtV x0 x1).2.length ad86') := (gw9.cell (by first | omega | (simp; try omega))).trans f126
  have z151 : w.heap.size < w9.heap.size := by omega
  have z152 : w.heap.size + 1 < w9.heap.size := by omega
  have z153 : bb15 < w9.heap.size := by omega
  have z154 : w4.heap.size < w9.heap.size := by omega
  have z155 : w5.heap.size < w9.heap.size := by omega
  have z156 : w6.heap.size < w9.heap.size := by omega
  have d157 : tplT.Fx w2.heap.size w3.heap.size w9 [.int .i64 (xtV x0 x1).1, .slice ad19 (xtV x0 x1).2.length ad19'] (xtV x0 x1) := d133.below gw9
  have d158 : tplT.Fx w3.heap.size w4.heap.size w9 [.int .i64 x0.1, .slice ad43 x0.2.length ad43'] x0 := d134.below gw9
  have d159 : frmT.Fx (w4.heap.size + 1) w5.heap.size w9 [.int .i64 x1.1, .int .i64 x1.2.1, .slice ad62 x1.2.2.length ad62'] x1 := d135.below gw9
  have d160 : tplT.Fx (w5.heap.size + 1) w6.heap.size w9 [.int .i64 (xtV x0 x1).1, .slice ad86 (xtV x0 x1).2.length ad86'] (xtV x0 x1) := d136.below gw9
  clear hb9 H_w8 f113 f114 f115 f116 f117 f118 f119 f120 f121 f122 f123 f124 f125 f126 d133 d134 d135 d136 z127 z128 z129 z130 z131 z132 gw9
  simp only [putAll, Act.put]
  go_simp
  go_wp2_with fail
  refine (markTemplate_fx _ d158 _ (by omega) (by omega)).mono ?_
  rintro e w10 ⟨rfl, hb10, d161⟩
  clear d158
  have sw10 : w9.heap.size ≤ w10.heap.size := hb10.size
  have H_w10 : Below w.heap.size w w10 := below_tch H_w9 hb10 (by omega) (by omega)
  have f162 : w10.cell? ⟨w.heap.size, 0, none⟩ = some (.int .i64 x0.1) := (hb10.cell (by omega) (by omega)).trans f137
  have f163 : w10.cell? ⟨w.heap.size, 1, none⟩ = some (u0) := (hb10.cell (by omega) (by omega)).trans f138
  have f164 : w10.cell? ⟨w.heap.size + 1, 0, none⟩ = some (.int .i64 x1.1) := (hb10.cell (by omega) (by omega)).trans f139
  have f165 : w10.cell? ⟨w.heap.size + 1, 1, none⟩ = some (.int .i64 x1.2.1) := (hb10.cell (by omega) (by omega)).trans f140
  have f166 : w10.cell? ⟨w.heap.size + 1, 2, none⟩ = some (u1) := (hb10.cell (by omega) (by omega)).trans f141
  have f167 : w10.cell? ⟨bb15, 0, none⟩ = some (.int .i64 (xtV x0 x1).1) := (hb10.cell (by omega) (by omega)).trans f142
  have f168 : w10.cell? ⟨bb15, 1, none⟩ = some (.slice ad19 (xtV x0 x1).2.length ad19') := (hb10.cell (by omega) (by omega)).trans f143
  have f169 : w10.cell? ⟨w4.heap.size, 0, none⟩ = some (.int .i64 x0.1) := (hb10.cell (by omega) (by omega)).trans f144
  have f170 : w10.cell? ⟨w4.heap.size, 1, none⟩ = some (.slice ad43 x0.2.length ad43') := (hb10.cell (by omega) (by omega)).trans f145
  have f171 : w10.cell? ⟨w5.heap.size, 0, none⟩ = some (.int .i64 x1.1) := (hb10.cell (by omega) (by omega)).trans f146
  have f172 : w10.cell? ⟨w5.heap.size, 1, none⟩ = some (.int .i64 x1.2.1) := (hb10.cell (by omega) (by omega)).trans f147
  have f173 : w10.cell? ⟨w5.heap.size, 2, none⟩ = some (.slice ad62 x1.2.2.length ad62') := (hb10.cell (by omega) (by omega)).trans f148
  have f174 : w10.cell? ⟨w6.heap.size, 0, none⟩ = some (.int .i64 (xtV x0 x1).1) := (hb10.cell (by omega) (by omega)).trans f149
  have f175 : w10.cell? ⟨w6.heap.size, 1, none⟩ = some (.slice ad86 (xtV x0 x1).2.length ad86') := (hb10.cell (by omega) (by omega)).trans f150
  have z176 : w.heap.size < w10.heap.size := by omega
  have z177 : w.heap.size + 1 < w10.heap.size := by omega
  have z178 : bb15 < w10.heap.size := by omega
  have z179 : w4.heap.size < w10.heap.size := by omega
  have z180 : w5.heap.size < w10.heap.size := by omega
  have z181 : w6.heap.size < w10.heap.size := by omega
  have d182 : tplT.Fx w2.heap.size w3.heap.size w10 [.int .i64 (xtV x0 x1).1, .slice ad19 (xtV x0 x1).2.length ad19'] (xtV x0 x1) := d157.tch hb10 (by omega)
  have d183 : frmT.Fx (w4.heap.size + 1) w5.heap.size w10 [.int .i64 x1.1, .int .i64 x1.2.1, .slice ad62 x1.2.2.length ad62'] x1 := d159.tch hb10 (by omega)
  have d184 : tplT.Fx (w5.heap.size + 1) w6.heap.size w10 [.int .i64 (xtV x0 x1).1, .slice ad86 (xtV x0 x1).2.length ad86'] (xtV x0 x1) := d160.tch hb10 (by omega)
  clear hb10 H_w9 f137 f138 f139 f140 f141 f142 f143 f144 f145 f146 f147 f148 f149 f150 d157 d159 d160 z151 z152 z153 z154 z155 z156
  have hk185 : 0 ≤ (1 + cntTpl x0) := by omega
  go_wp2_with fail
  refine (markFormula_fx _ d183 _ (by omega) (by omega)).mono ?_
  rintro e w11 ⟨rfl, hb11, d186⟩
  clear d183
  have sw11 : w10.heap.size ≤ w11.heap.size := hb11.size
  have H_w11 : Below w.heap.size w w11 := below_tch H_w10 hb11 (by omega) (by omega)
  have f187 : w11.cell? ⟨w.heap.size, 0, none⟩ = some (.int .i64 x0.1) := (hb11.cell (by omega) (by omega)).trans f162
  have f188 : w11.cell? ⟨w.heap.size, 1, none⟩ = some (u0) := (hb11.cell (by omega) (by omega)).trans f163
  have f189 : w11.cell? ⟨w.heap.size + 1, 0, none⟩ = some (.int .i64 x1.1) := (hb11.cell (by omega) (by omega)).trans f164
  have f190 : w11.cell? ⟨w.heap.size + 1, 1, none⟩ = some (.int .i64 x1.2.1) := (hb11.cell (by omega) (by omega)).trans f165
  have f191 : w11.cell? ⟨w.heap.size + 1, 2, none⟩ = some (u1) := (hb11.cell (by omega) (by omega)).trans f166
  have f192 : w11.cell? ⟨bb15, 0, none⟩ = some (.int .i64 (xtV x0 x1).1) := (hb11.cell (by omega) (by omega)).trans f167
  have f193 : w11.cell? ⟨bb15, 1, none⟩ = some (.slice ad19 (xtV x0 x1).2.length ad19') := (hb11.cell (by omega) (by omega)).trans f168
  have f194 : w11.cell? ⟨w4.heap.size, 0, none⟩ = some (.int .i64 x0.1) := (hb11.cell (by omega) (by omega)).trans f169
  have f195 : w11.cell? ⟨w4.heap.size, 1, none⟩ = some (.slice ad43 x0.2.length ad43') := (hb11.cell (by omega) (by omega)).trans f170
  have f196 : w11.cell? ⟨w5.heap.size, 0, none⟩ = some (.int .i64 x1.1) := (hb11.cell (by omega) (by omega)).trans f171
  have f197 : w11.cell? ⟨w5.heap.size, 1, none⟩ = some (.int .i64 x1.2.1) := (hb11.cell (by omega) (by omega)).trans f172
  have f198 : w11.cell? ⟨w5.heap.size, 2, none⟩ = some (.slice ad62 x1.2.2.length ad62') := (hb11.cell (by omega) (by omega)).trans f173
  have f199 : w11.cell? ⟨w6.heap.size, 0, none⟩ = some (.int .i64 (xtV x0 x1).1) := (hb11.cell (by omega) (by omega)).trans f174
  have f200 : w11.cell? ⟨w6.heap.size, 1, none⟩ = some (.slice ad86 (xtV x0 x1).2.length ad86') := (hb11.cell (by omega) (by omega)).trans f175
  have z201 : w.heap.size < w11.heap.size := by omega
  have z202 : w.heap.size + 1 < w11.heap.size := by omega
  have z203 : bb15 < w11.heap.size := by omega
  have z204 : w4.heap.size < w11.heap.size := by omega
  have z205 : w5.heap.size < w11.heap.size := by omega
  have z206 : w6.heap.size < w11.heap.size := by omega
  have d207 : tplT.Fx w2.heap.size w3.heap.size w11 [.int .i64 (xtV x0 x1).1, .slice ad19 (xtV x0 x1).2.length ad19'] (xtV x0 x1) := d182.tch hb11 (by omega)
  have d208 : tplT.Fx w3.heap.size w4.heap.size w11 [.int .i64 x0.1, .slice ad43 x0.2.length ad43'] (mkTpl 1 x0) := d161.tch hb11 (by omega)
  have d209 : tplT.Fx (w5.heap.size + 1) w6.heap.size w11 [.int .i64 (xtV x0 x1).1, .slice ad86 (xtV x0 x1).2.length ad86'] (xtV x0 x1) := d184.tch hb11 (by omega)
  clear hb11 H_w10 f162 f163 f164 f165 f166 f167 f168 f169 f170 f171 f172 f173 f174 f175 d182 d161 d184 z176 z177 z178 z179 z180 z181
  have hk210 : 0 ≤ ((1 + cntTpl x0) + cntFrm x1) := by omega
  go_wp2_with fail
  refine (eqTemplate_any _ (d209.rd.below (by repeat (first | exact Below.refl _ _ | exact bA | assumption | refine Below.setCell ?_ (by first | omega | (simp; try omega)) _ | refine Below.alloc ?_ (by first | omega | (simp; try omega)) _ | refine Below.drew ?_ | refine bDN ?_ | refine bthen ?_ (by assumption)))) (d207.rd.below (by repeat (first | exact Below.refl _ _ | exact bA | assumption | refine Below.setCell ?_ (by first | omega | (simp; try omega)) _ | refine Below.alloc ?_ (by first | omega | (simp; try omega)) _ | refine Below.drew ?_ | refine bDN ?_ | refine bthen ?_ (by assumption))))).mono ?_
  rintro e w12 ⟨rfl, hb12⟩
  have gw12 : Below w11.heap.size w11 w12 := bthen (by repeat (first | exact Below.refl _ _ | exact bA | assumption | refine Below.setCell ?_ (by first | omega | (simp; try omega)) _ | refine Below.alloc ?_ (by first | omega | (simp; try omega)) _ | refine Below.drew ?_ | refine bDN ?_ | refine bthen ?_ (by assumption))) hb12
  have sw12 : w11.heap.size + 0 ≤ w12.heap.size := by have := hb12.size; (try simp at this); omega
  have H_w12 : Below w.heap.size w w12 := bthen H_w11 gw12
  have f211 : w12.cell? ⟨w.heap.size, 0, none⟩ = some (.int .i64 x0.1) := (gw12.cell (by first | omega | (simp; try omega))).trans f187
  have f212 : w12.cell? ⟨w.heap.size, 1, none⟩ = some (u0) := (gw12.cell (by first | omega | (simp; try omega))).trans f188
  have f213 : w12.cell? ⟨w.heap.size + 1, 0, none⟩ = some (.int .i64 x1.1) := (gw12.cell (by first | omega | (simp; try omega))).trans f189
  have f214 : w12.cell? ⟨w.heap.size + 1, 1, none⟩ = some (.int .i64 x1.2.1) := (gw12.cell (by first | omega | (simp; try omega))).trans f190
  have f215 : w12.cell? ⟨w.heap.size + 1, 2, none⟩ = some (u1) := (gw12.cell (by first | omega | (simp; try omega))).trans f191
  have f216 : w12.cell? ⟨bb15, 0, none⟩ = some (.int .i64 (xtV x0 x1).1) := (gw12.cell (by first | omega | (simp; try omega))).trans f192
  have f217 : w12.cell? ⟨bb15, 1, none⟩ = some (.slice ad19 (xtV x0 x1).2.length ad19') := (gw12.cell (by first | omega | (simp; try omega))).trans f193
  have f218 : w12.cell? ⟨w4.heap.size, 0, none⟩ = some (.int .i64 x0.1) := (gw12.cell (by first | omega | (simp; try omega))).trans f194
  have f219 : w12.cell? ⟨w4.heap.size, 1, none⟩ = some (.slice ad43 x0.2.length ad43') := (gw12.cell (by first | omega | (simp; try omega))).trans f195
  have f220 : w12.cell? ⟨w5.heap.size, 0, none⟩ = some (.int .i64 x1.1) := (gw12.cell (by first | omega | (simp; try omega))).trans f196
  have f221 : w12.cell? ⟨w5.heap.size, 1, none⟩ = some (.int .i64 x1.2.1) := (gw12.cell (by first | omega | (simp; try omega))).trans f197
  have f222 : w12.cell? ⟨w5.heap.size, 2, none⟩ = some (.slice ad62 x1.2.2.length ad62') := (gw12.cell (by first | omega | (simp; try omega))).trans f198
  have f223 : w12.cell? ⟨w6.heap.size, 0, none⟩ = some (.int .i64 (xtV x0 x1).1) := (gw12.cell (by first | omega | (simp; try omega))).trans f199
  have f224 : w12.cell? ⟨w6.heap.size, 1, none⟩ = some (.slice ad86 (xtV x0 x1).2.length ad86') := (gw12.cell (by first | omega | (simp; try omega))).trans f200
  have z225 : w.heap.size < w12.heap.size := by omega
  have z226 : w.heap.size + 1 < w12.heap.size := by omega
  have z227 : bb15 < w12.heap.size := by omega
  have z228 : w4.heap.size < w12.heap.size := by omega
  have z229 : w5.heap.size < w12.heap.size := by omega
  have z230 : w6.heap.size < w12.heap.size := by omega
  have d231 : tplT.Fx w2.heap.size w3.heap.size w12 [.int .i64 (xtV x0 x1).1, .slice ad19 (xtV x0 x1).2.length ad19'] (xtV x0 x1) := d207.below gw12
  have d232 : tplT.Fx w3.heap.size w4.heap.size w12 [.int .i64 x0.1, .slice ad43 x0.2.length ad43'] (mkTpl 1 x0) := d208.below gw12
  have d233 : frmT.Fx (w4.heap.size + 1) w5.heap.size w12 [.int .i64 x1.1, .int .i64 x1.2.1, .slice ad62 x1.2.2.length ad62'] (mkFrm (1 + cntTpl x0) x1) := d186.below gw12
  have d234 : tplT.Fx (w5.heap.size + 1) w6.heap.size w12 [.int .i64 (xtV x0 x1).1, .slice ad86 (xtV x0 x1).2.length ad86'] (xtV x0 x1) := d209.below gw12
  clear hb12 H_w11 f187 f188 f189 f190 f191 f192 f193 f194 f195 f196 f197 f198 f199 f200 d207 d208 d186 d209 z201 z202 z203 z204 z205 z206 gw12
  rw [eqB_true rfl]
  go_wp2_with fail
  refine (markTemplate_fx _ d234 _ (by omega) (by omega)).mono ?_
  rintro e w13 ⟨rfl, hb13, d235⟩
  clear d234
  have sw13 : w12.heap.size ≤ w13.heap.size := hb13.size
  have H_w13 : Below w.heap.size w w13 := below_tch H_w12 hb13 (by omega) (by omega)
  have f236 : w13.cell? ⟨w.heap.size, 0, none⟩ = some (.int .i64 x0.1) := (hb13.cell (by omega) (by omega)).trans f211
  have f237 : w13.cell? ⟨w.heap.size, 1, none⟩ = some (u0) := (hb13.cell (by omega) (by omega)).trans f212
  have f238 : w13.cell? ⟨w.heap.size + 1, 0, none⟩ = some (.int .i64 x1.1) := (hb13.cell (by omega) (by omega)).trans f213
  have f239 : w13.cell? ⟨w.heap.size + 1, 1, none⟩ = some (.int .i64 x1.2.1) := (hb13.cell (by omega) (by omega)).trans f214
  have f240 : w13.cell? ⟨w.heap.size + 1, 2, none⟩ = some (u1) := (hb13.cell (by omega) (by omega)).trans f215
  have f241 : w13.cell? ⟨bb15, 0, none⟩ = some (.int .i64 (xtV x0 x1).1) := (hb13.cell (by omega) (by omega)).trans f216
  have f242 : w13.cell? ⟨bb15, 1, none⟩ = some (.slice ad19 (xtV x0 x1).2.length ad19') := (hb13.cell (by omega) (by omega)).trans f217
  have f243 : w13.cell? ⟨w4.heap.size, 0, none⟩ = some (.int .i64 x0.1) := (hb13.cell (by omega) (by omega)).trans f218
  have f244 : w13.cell? ⟨w4.heap.size, 1, none⟩ = some (.slice ad43 x0.2.length ad43') := (hb13.cell (by omega) (by omega)).trans f219
  have f245 : w13.cell? ⟨w5.heap.size, 0, none⟩ = some (.int .i64 x1.1) := (hb13.cell (by omega) (by omega)).trans f220
  have f246 : w13.cell? ⟨w5.heap.size, 1, none⟩ = some (.int .i64 x1.2.1) := (hb13.cell (by omega) (by omega)).trans f221
  have f247 : w13.cell? ⟨w5.heap.size, 2, none⟩ = some (.slice ad62 x1.2.2.length ad62') := (hb13.cell (by omega) (by omega)).trans f222
  have f248 : w13.cell? ⟨w6.heap.size, 0, none⟩ = some (.int .i64 (xtV x0 x1).1) := (hb13.cell (by omega) (by omega)).trans f223
  have f249 : w13.cell? ⟨w6.heap.size, 1, none⟩ = some (.slice ad86 (xtV x0 x1).2.length ad86') := (hb13.cell (by omega) (by omega)).trans f224
  have z250 : w.heap.size < w13.heap.size := by omega
  have z251 : w.heap.size + 1 < w13.heap.size := by omega
  have z252 : bb15 < w13.heap.size := by omega
  have z253 : w4.heap.size < w13.heap.size := by omega
  have z254 : w5.heap.size < w13.heap.size := by omega
  have z255 : w6.heap.size < w13.heap.size := by omega
  have d256 : tplT.Fx w2.heap.size w3.heap.size w13 [.int .i64 (xtV x0 x1).1, .slice ad19 (xtV x0 x1).2.length ad19'] (xtV x0 x1) := d231.tch hb13 (by omega)
  have d257 : tplT.Fx w3.heap.size w4.heap.size w13 [.int .i64 x0.1, .slice ad43 x0.2.length ad43'] (mkTpl 1 x0) := d232.tch hb13 (by omega)
  have d258 : frmT.Fx (w4.heap.size + 1) w5.heap.size w13 [.int .i64 x1.1, .int .i64 x1.2.1, .slice ad62 x1.2.2.length ad62'] (mkFrm (1 + cntTpl x0) x1) := d233.tch hb13 (by omega)
  clear hb13 H_w12 f211 f212 f213 f214 f215 f216 f217 f218 f219 f220 f221 f222 f223 f224 d231 d232 d233 z225 z226 z227 z228 z229 z230
  have hk259 : 0 ≤ (1 + cntTpl (xtV x0 x1)) := by omega
  go_wp2_with fail
  refine (heldTemplate_any _ _ d235.rd (by omega) (by omega)).mono ?_
  rintro e w14 ⟨rfl, hb14⟩
  have gw14 : Below w13.heap.size w13 w14 := bthen (by repeat (first | exact Below.refl _ _ | exact bA | assumption | refine Below.setCell ?_ (by first | omega | (simp; try omega)) _ | refine Below.alloc ?_ (by first | omega | (simp; try omega)) _ | refine Below.drew ?_ | refine bDN ?_ | refine bthen ?_ (by assumption))) hb14
  have sw14 : w13.heap.size + 0 ≤ w14.heap.size := by have := hb14.size; (try simp at this); omega
  have H_w14 : Below w.heap.size w w14 := bthen H_w13 gw14
  have f260 : w14.cell? ⟨w.heap.size, 0, none⟩ = some (.int .i64 x0.1) := (gw14.cell (by first | omega | (simp; try omega))).trans f236
  have f261 : w14.cell? ⟨w.heap.size, 1, none⟩ = some (u0) := (gw14.cell (by first | omega | (simp; try omega))).trans f237
  have f262 : w14.cell? ⟨w.heap.size + 1, 0, none⟩ = some (.int .i64 x1.1) := (gw14.cell (by first | omega | (simp; try omega))).trans f238
  have f263 : w14.cell? ⟨w.heap.size + 1, 1, none⟩ = some (.int .i64 x1.2.1) := (gw14.cell (by first | omega | (simp; try omega))).trans f239
  have f264 : w14.cell? ⟨w.heap.size + 1, 2, none⟩ = some (u1) := (gw14.cell (by first | omega | (simp; try omega))).trans f240
  have f265 : w14.cell? ⟨bb15, 0, none⟩ = some (.int .i64 (xtV x0 x1).1) := (gw14.cell (by first | omega | (simp; try omega))).trans f241
  have f266 : w14.cell? ⟨bb15, 1, none⟩ = some (.slice ad19 (xtV x0 x1).2.length ad19') := (gw14.cell (by first | omega | (simp; try omega))).trans f242
  have f267 : w14.cell? ⟨w4.heap.size, 0, none⟩ = some (.int .i64 x0.1) := (gw14.cell (by first | omega | (simp; try omega))).trans f243
  have f268 : w14.cell? ⟨w4.heap.size, 1, none⟩ = some (.slice ad43 x0.2.length ad43') := (gw14.cell (by first | omega | (simp; try omega))).trans f244
  have f269 : w14.cell? ⟨w5.heap.size, 0, none⟩ = some (.int .i64 x1.1) := (gw14.cell (by first | omega | (simp; try omega))).trans f245
  have f270 : w14.cell? ⟨w5.heap.size, 1, none⟩ = some (.int .i64 x1.2.1) := (gw14.cell (by first | omega | (simp; try omega))).trans f246
  have f271 : w14.cell? ⟨w5.heap.size, 2, none⟩ = some (.slice ad62 x1.2.2.length ad62') := (gw14.cell (by first | omega | (simp; try omega))).trans f247
  have f272 : w14.cell? ⟨w6.heap.size, 0, none⟩ = some (.int .i64 (xtV x0 x1).1) := (gw14.cell (by first | omega | (simp; try omega))).trans f248
  have f273 : w14.cell? ⟨w6.heap.size, 1, none⟩ = some (.slice ad86 (xtV x0 x1).2.length ad86') := (gw14.cell (by first | omega | (simp; try omega))).trans f249
  have z274 : w.heap.size < w14.heap.size := by omega
  have z275 : w.heap.size + 1 < w14.heap.size := by omega
  have z276 : bb15 < w14.heap.size := by omega
  have z277 : w4.heap.size < w14.heap.size := by omega
  have z278 : w5.heap.size < w14.heap.size := by omega
  have z279 : w6.heap.size < w14.heap.size := by omega
  have d280 : tplT.Fx w2.heap.size w3.heap.size w14 [.int .i64 (xtV x0 x1).1, .slice ad19 (xtV x0 x1).2.length ad19'] (xtV x0 x1) := d256.below gw14
  have d281 : tplT.Fx w3.heap.size w4.heap.size w14 [.int .i64 x0.1, .slice ad43 x0.2.length ad43'] (mkTpl 1 x0) := d257.below gw14
  have d282 : frmT.Fx (w4.heap.size + 1) w5.heap.size w14 [.int .i64 x1.1, .int .i64 x1.2.1, .slice ad62 x1.2.2.length ad62'] (mkFrm (1 + cntTpl x0) x1) := d258.below gw14
  have d283 : tplT.Fx (w5.heap.size + 1) w6.heap.size w14 [.int .i64 (xtV x0 x1).1, .slice ad86 (xtV x0 x1).2.length ad86'] (mkTpl 1 (xtV x0 x1)) := d235.below gw14
  clear hb14 H_w13 f236 f237 f238 f239 f240 f241 f242 f243 f244 f245 f246 f247 f248 f249 d256 d257 d258 d235 z250 z251 z252 z253 z254 z255 gw14
  go_wp2_with fail
  refine wp_region_box [(.plain, exO (.agg #[.int .i64 x0.1, u0])), (.plain, rdAO tplT x0), (.plain, exO (.agg #[.int .i64 x1.1, .int .i64 x1.2.1, u1])), (.plain, rdAO frmT x1), (.plain, frTO tplT w14.heap.size (xtV x0 x1) (.int .i64 (xtC x0 x1))), (.plain, frTO tplT w14.heap.size (xtV x0 x1) (.int .i64 (xtC x0 x1))), (.plain, frAO tplT w14.heap.size (xtV x0 x1)), (.plain, exO (.int .i64 (xtC x0 x1))), (.alloc, boxO 2), (.store, heldO tplT w14.heap.size (xtV x0 x1)), (.plain, exO (.int .i64 (xtC x0 x1)))] (by kernel_rfl) (by kernel_rfl) ⟨st_exO, st_rdAO, st_exO, st_rdAO, st_frTO, st_frTO, st_frAO, st_exO, st_boxO, st_heldO, st_exO, trivial⟩ ⟨?j31_0, ?j31_1, ?j31_2, ?j31_3, ?j31_4, ?j31_5, ?j31_6, ?j31_7, ?j31_8, ?j31_9, ?j31_10, trivial⟩ ?hQ31
  case j31_0 =>
    intro a' w' ob hb hbo hal hd
    have e0 : a'.tmps[2]?.getD undef = .pointer (some ⟨w.heap.size, 0, none⟩) := ev (slot_o2 hd 2 rfl rfl)
    have q : ∀ b o, b < w14.heap.size → w'.cell? ⟨b, o, none⟩ = w14.cell? ⟨b, o, none⟩ := (bcell hb).1
    go_simp
    exact ⟨_, ⟨rfl, Below.refl _ _⟩, rfl⟩
  case j31_1 =>
    intro a' w' ob hb hbo hal hd
    have e95 : a'.tmps[95]?.getD undef = .agg #[.int .i64 x0.1, u0] := ev (slot_w2 hd 95 (exO (.agg #[.int .i64 x0.1, u0])) rfl rfl)
    have r95 : tplT.Rd w14 (#[.int .i64 x0.1, u0] : Array Value).toList x0 := hx0.below H_w14
    have r95' := r95.below hb
    go_simp
    exact ⟨rfl, Below.refl _ _, (toTemplate_any w' r95' (by first | omega | (unfold szInts; omega))).mono fun e w'' ⟨cs, he, hf, hb⟩ => ⟨_, he, hb, rdAO_mk hf hbo⟩⟩
  case j31_2 =>
    intro a' w' ob hb hbo hal hd
    have e0 : a'.tmps[3]?.getD undef = .pointer (some ⟨w.heap.size + 1, 0, none⟩) := ev (slot_o2 hd 3 rfl rfl)
    have q : ∀ b o, b < w14.heap.size → w'.cell? ⟨b, o, none⟩ = w14.cell? ⟨b, o, none⟩ := (bcell hb).1
    go_simp
    exact ⟨_, ⟨rfl, Below.refl _ _⟩, rfl⟩
  case j31_3 =>
    intro a' w' ob hb hbo hal hd
    have e97 : a'.tmps[97]?.getD undef = .agg #[.int .i64 x1.1, .int .i64 x1.2.1, u1] := ev (slot_w2 hd 97 (exO (.agg #[.int .i64 x1.1, .int .i64 x1.2.1, u1])) rfl rfl)
    have r97 : frmT.Rd w14 (#[.int .i64 x1.1, .int .i64 x1.2.1, u1] : Array Value).toList x1 := hx1.below H_w14
    have r97' := r97.below hb
    go_simp
    exact ⟨rfl, Below.refl _ _, (toFormula_any w' r97' (by first | omega | (unfold szInts; omega))).mono fun e w'' ⟨cs, he, hf, hb⟩ => ⟨_, he, hb, rdAO_mk hf hbo⟩⟩
  case j31_4 =>
    intro a' w' ob hb hbo hal hd
    have d96 := slot_w2 hd 96 (rdAO tplT x0) rfl rfl
    obtain ⟨cs96, fp96, e96, hr96, -⟩ := d96
    have rd96 : tplT.Rd w' cs96 x0 := ⟨_, hr96⟩
    have e96' := ev e96
    have d98 := slot_w2 hd 98 (rdAO frmT x1) rfl rfl
    obtain ⟨cs98, fp98, e98, hr98, -⟩ := d98
    have rd98 : frmT.Rd w' cs98 x1 := ⟨_, hr98⟩
    have e98' := ev e98
    go_simp
    exact ⟨rfl, Below.refl _ _, (ExtendTemplate_any _ rd96 rd98).mono fun e w'' ⟨cs, he, hf, hb2⟩ => ⟨_, he, hb2, frTO_mk hb.size hf hbo⟩⟩
  case j31_5 =>
    intro a' w' ob hb hbo hal hd
    have d99 := slot_w2 hd 99 (frTO tplT w14.heap.size (xtV x0 x1) (.int .i64 (xtC x0 x1))) rfl rfl
    obtain ⟨cs99, e99, hf99⟩ := d99
    have e99' := ev e99
    go_simp
    exact ⟨_, ⟨rfl, Below.refl _ _⟩, cs99, rfl, hf99⟩
  case j31_6 =>
    intro a' w' ob hb hbo hal hd
    have d94 := slot_w2 hd 94 (frTO tplT w14.heap.size (xtV x0 x1) (.int .i64 (xtC x0 x1))) rfl rfl
    obtain ⟨cs94, e94, hf94⟩ := d94
    have e94' := ev e94
    go_simp
    exact ⟨_, ⟨rfl, Below.refl _ _⟩, hf94⟩
  case j31_7 =>
    intro a' w' ob hb hbo hal hd
    have d94 := slot_w2 hd 94 (frTO tplT w14.heap.size (xtV x0 x1) (.int .i64 (xtC x0 x1))) rfl rfl
    obtain ⟨cs94, e94, hf94⟩ := d94
    have e94' := ev e94
    go_simp
    exact ⟨_, ⟨rfl, Below.refl _ _⟩, rfl⟩
  case j31_8 =>
    intro a' w' ob hb hbo hal hd
    obtain rfl := hal rfl
    go_simp
    exact ⟨_, ⟨rfl, by simp, bA⟩, _, rfl, rfl, by simp, box2n⟩
  case j31_9 =>
    intro a' w' ob hb hbo hal hd
    obtain ⟨bb, rfl, e15, hbb, hcl⟩ := slot_w2 hd 15 (boxO 2) rfl rfl
    have e15' := ev e15
    have d100 := slot_w2 hd 100 (frAO tplT w14.heap.size (xtV x0 x1)) rfl rfl
    obtain ⟨cs100, fp100, e100, hr100, hn100, hg100, hu100, ho100⟩ := d100
    obtain ⟨u100, rfl, hr100', -⟩ := rd_pair hr100
    obtain ⟨ad100', cap100', rfl⟩ := rd_slice ⟨_, hr100'⟩
    have e100' := ev e100
    obtain ⟨⟨y0, c0⟩, f0⟩ := hcl 0 (by decide)
    obtain ⟨⟨y1, c1⟩, f1⟩ := hcl 1 (by decide)
    go_simp
    exact held2 c0 c1 hr100 hn100 hg100 hu100 ho100 _
  case j31_10 =>
    intro a' w' ob hb hbo hal hd
    have e0 : a'.tmps[101]?.getD undef = .int .i64 (xtC x0 x1) := ev (slot_w2 hd 101 (exO (.int .i64 (xtC x0 x1))) rfl rfl)
    go_simp
    exact ⟨_, ⟨rfl, Below.refl _ _⟩, rfl⟩
  intro vs31 w15 ob31 hb15 hbo31 H0
  obtain ⟨v31_0, _, rfl, p0, H1⟩ := HAll2_cons H0
  obtain ⟨v31_1, _, rfl, p1, H2⟩ := HAll2_cons H1
  obtain ⟨v31_2, _, rfl, p2, H3⟩ := HAll2_cons H2
  obtain ⟨v31_3, _, rfl, p3, H4⟩ := HAll2_cons H3
  obtain ⟨v31_4, _, rfl, p4, H5⟩ := HAll2_cons H4
  obtain ⟨v31_5, _, rfl, p5, H6⟩ := HAll2_cons H5
  obtain ⟨v31_6, _, rfl, p6, H7⟩ := HAll2_cons H6
  obtain ⟨v31_7, _, rfl, p7, H8⟩ := HAll2_cons H7
  obtain ⟨v31_8, _, rfl, p8, H9⟩ := HAll2_cons H8
  obtain ⟨v31_9, _, rfl, p9, H10⟩ := HAll2_cons H9
  obtain ⟨v31_10, _, rfl, p10, H11⟩ := HAll2_cons H10
  obtain rfl := HAll2_nil H11
  obtain rfl := id p0
  obtain rfl := id p2
  obtain rfl := id p7
  obtain rfl := id p10
  obtain ⟨bb284, rfl, rfl, hltbb284, -⟩ := id p8
  obtain ⟨_, cs, fp287, hob, hr1, hr2, hr3, hr4, -, cc286⟩ := id p9
  simp only [Option.some.injEq] at hob
  subst hob
  have hc285 : tplT.Fr w14.heap.size w15 cs (xtV x0 x1) := ⟨fp287, hr1, hr2, hr3, hr4⟩
  have hlobb284 : w14.heap.size ≤ bb284 := (hbo31 bb284 rfl).1
  obtain ⟨ad288, ad288', rfl⟩ := fr_pair hc285
  have f289 : w15.cell? ⟨bb284, 0, none⟩ = some (.int .i64 (xtV x0 x1).1) := cc286 0 (by simp)
  have f290 : w15.cell? ⟨bb284, 1, none⟩ = some (.slice ad288 (xtV x0 x1).2.length ad288') := cc286 1 (by simp)
  clear cc286 hr1 hr2 hr3 hr4
  clear p0 p1 p2 p3 p4 p5 p6 p7 p8 p9 p10 H0 H1 H2 H3 H4 H5 H6 H7 H8 H9 H10 H11
  have gw15 : Below w14.heap.size w14 w15 := bthen (by repeat (first | exact Below.refl _ _ | exact bA | assumption | refine Below.setCell ?_ (by first | omega | (simp; try omega)) _ | refine Below.alloc ?_ (by first | omega | (simp; try omega)) _ | refine Below.drew ?_ | refine bDN ?_ | refine bthen ?_ (by assumption))) hb15
  have sw15 : w14.heap.size + 0 ≤ w15.heap.size := by have := hb15.size; (try simp at this); omega
  have H_w15 : Below w.heap.size w w15 := bthen H_w14 gw15
  have f291 : w15.cell? ⟨w.heap.size, 0, none⟩ = some (.int .i64 x0.1) := (gw15.cell (by first | omega | (simp; try omega))).trans f260
  have f292 : w15.cell? ⟨w.heap.size, 1, none⟩ = some (u0) := (gw15.cell (by first | omega | (simp; try omega))).trans f261
  have f293 : w15.cell? ⟨w.heap.size + 1, 0, none⟩ = some (.int .i64 x1.1) := (gw15.cell (by first | omega | (simp; try omega))).trans f262
  have f294 : w15.cell? ⟨w.heap.size + 1, 1, none⟩ = some (.int .i64 x1.2.1) := (gw15.cell (by first | omega | (simp; try omega))).trans f263
  have f295 : w15.cell? ⟨w.heap.size + 1, 2, none⟩ = some (u1) := (gw15.cell (by first | omega | (simp; try omega))).trans f264
  have f296 : w15.cell? ⟨bb15, 0, none⟩ = some (.int .i64 (xtV x0 x1).1) := (gw15.cell (by first | omega | (simp; try omega))).trans f265
  have f297 : w15.cell? ⟨bb15, 1, none⟩ = some (.slice ad19 (xtV x0 x1).2.length ad19') := (gw15.cell (by first | omega | (simp; try omega))).trans f266
  have f298 : w15.cell? ⟨w4.heap.size, 0, none⟩ = some (.int .i64 x0.1) := (gw15.cell (by first | omega | (simp; try omega))).trans f267
  have f299 : w15.cell? ⟨w4.heap.size, 1, none⟩ = some (.slice ad43 x0.2.length ad43') := (gw15.cell (by first | omega | (simp; try omega))).trans f268
  have f300 : w15.cell? ⟨w5.heap.size, 0, none⟩ = some (.int .i64 x1.1) := (gw15.cell (by first | omega | (simp; try omega))).trans f269
  have f301 : w15.cell? ⟨w5.heap.size, 1, none⟩ = some (.int .i64 x1.2.1) := (gw15.cell (by first | omega | (simp; try omega))).trans f270
  have f302 : w15.cell? ⟨w5.heap.size, 2, none⟩ = some (.slice ad62 x1.2.2.length ad62') := (gw15.cell (by first | omega | (simp; try omega))).trans f271
  have f303 : w15.cell? ⟨w6.heap.size, 0, none⟩ = some (.int .i64 (xtV x0 x1).1) := (gw15.cell (by first | omega | (simp; try omega))).trans f272
  have f304 : w15.cell? ⟨w6.heap.size, 1, none⟩ = some (.slice ad86 (xtV x0 x1).2.length ad86') := (gw15.cell (by first | omega | (simp; try omega))).trans f273
  have z305 : w.heap.size < w15.heap.size := by omega
  have z306 : w.heap.size + 1 < w15.heap.size := by omega
  have z307 : bb15 < w15.heap.size := by omega
  have z308 : w4.heap.size < w15.heap.size := by omega
  have z309 : w5.heap.size < w15.heap.size := by omega
  have z310 : w6.heap.size < w15.heap.size := by omega
  have d311 : tplT.Fx w2.heap.size w3.heap.size w15 [.int .i64 (xtV x0 x1).1, .slice ad19 (xtV x0 x1).2.length ad19'] (xtV x0 x1) := d280.below gw15
  have d312 : tplT.Fx w3.heap.size w4.heap.size w15 [.int .i64 x0.1, .slice ad43 x0.2.length ad43'] (mkTpl 1 x0) := d281.below gw15
  have d313 : frmT.Fx (w4.heap.size + 1) w5.heap.size w15 [.int .i64 x1.1, .int .i64 x1.2.1, .slice ad62 x1.2.2.length ad62'] (mkFrm (1 + cntTpl x0) x1) := d282.below gw15
  have d314 : tplT.Fx (w5.heap.size + 1) w6.heap.size w15 [.int .i64 (xtV x0 x1).1, .slice ad86 (xtV x0 x1).2.length ad86'] (mkTpl 1 (xtV x0 x1)) := d283.below gw15
  clear hb15 H_w14 f260 f261 f262 f263 f264 f265 f266 f267 f268 f269 f270 f271 f272 f273 d280 d281 d282 d283 z274 z275 z276 z277 z278 z279 gw15
  have d315 : tplT.Fx w14.heap.size w15.heap.size w15 [.int .i64 (xtV x0 x1).1, .slice ad288 (xtV x0 x1).2.length ad288'] (xtV x0 x1) := hc285.fx
  clear hc285
  simp only [putAll, Act.put]
  go_simp
  go_wp2_with fail
  refine (eqTemplate_any _ (d315.rd.below (by repeat (first | exact Below.refl _ _ | exact bA | assumption | refine Below.setCell ?_ (by first | omega | (simp; try omega)) _ | refine Below.alloc ?_ (by first | omega | (simp; try omega)) _ | refine Below.drew ?_ | refine bDN ?_ | refine bthen ?_ (by assumption)))) (d311.rd.below (by repeat (first | exact Below.refl _ _ | exact bA | assumption | refine Below.setCell ?_ (by first | omega | (simp; try omega)) _ | refine Below.alloc ?_ (by first | omega | (simp; try omega)) _ | refine Below.drew ?_ | refine bDN ?_ | refine bthen ?_ (by assumption))))).mono ?_
  rintro e w16 ⟨rfl, hb16⟩
  have gw16 : Below w15.heap.size w15 w16 := bthen (by repeat (first | exact Below.refl _ _ | exact bA | assumption | refine Below.setCell ?_ (by first | omega | (simp; try omega)) _ | refine Below.alloc ?_ (by first | omega | (simp; try omega)) _ | refine Below.drew ?_ | refine bDN ?_ | refine bthen ?_ (by assumption))) hb16
  have sw16 : w15.heap.size + 0 ≤ w16.heap.size := by have := hb16.size; (try simp at this); omega
  have H_w16 : Below w.heap.size w w16 := bthen H_w15 gw16
  have f317 : w16.cell? ⟨w.heap.size, 0, none⟩ = some (.int .i64 x0.1) := (gw16.cell (by first | omega | (simp; try omega))).trans f291
  have f318 : w16.cell? ⟨w.heap.size, 1, none⟩ = some (u0) := (gw16.cell (by first | omega | (simp; try omega))).trans f292
  have f319 : w16.cell? ⟨w.heap.size + 1, 0, none⟩ = some (.int .i64 x1.1) := (gw16.cell (by first | omega | (simp; try omega))).trans f293
  have f320 : w16.cell? ⟨w.heap.size + 1, 1, none⟩ = some (.int .i64 x1.2.1) := (gw16.cell (by first | omega | (simp; try omega))).trans f294
  have f321 : w16.cell? ⟨w.heap.size + 1, 2, none⟩ = some (u1) := (gw16.cell (by first | omega | (simp; try omega))).trans f295
  have f322 : w16.cell? ⟨bb15, 0, none⟩ = some (.int .i64 (xtV x0 x1).1) := (gw16.cell (by first | omega | (simp; try omega))).trans f296
  have f323 : w16.cell? ⟨bb15, 1, none⟩ = some (.slice ad19 (xtV x0 x1).2.length ad19') := (gw16.cell (by first | omega | (simp; try omega))).trans f297
  have f324 : w16.cell? ⟨w4.heap.size, 0, none⟩ = some (.int .i64 x0.1) := (gw16.cell (by first | omega | (simp; try omega))).trans f298
  have f325 : w16.cell? ⟨w4.heap.size, 1, none⟩ = some (.slice ad43 x0.2.length ad43') := (gw16.cell (by first | omega | (simp; try omega))).trans f299
  have f326 : w16.cell? ⟨w5.heap.size, 0, none⟩ = some (.int .i64 x1.1) := (gw16.cell (by first | omega | (simp; try omega))).trans f300
  have f327 : w16.cell? ⟨w5.heap.size, 1, none⟩ = some (.int .i64 x1.2.1) := (gw16.cell (by first | omega | (simp; try omega))).trans f301
  have f328 : w16.cell? ⟨w5.heap.size, 2, none⟩ = some (.slice ad62 x1.2.2.length ad62') := (gw16.cell (by first | omega | (simp; try omega))).trans f302
  have f329 : w16.cell? ⟨w6.heap.size, 0, none⟩ = some (.int .i64 (xtV x0 x1).1) := (gw16.cell (by first | omega | (simp; try omega))).trans f303
  have f330 : w16.cell? ⟨w6.heap.size, 1, none⟩ = some (.slice ad86 (xtV x0 x1).2.length ad86') := (gw16.cell (by first | omega | (simp; try omega))).trans f304
  have f331 : w16.cell? ⟨bb284, 0, none⟩ = some (.int .i64 (xtV x0 x1).1) := (gw16.cell (by first | omega | (simp; try omega))).trans f289
  have f332 : w16.cell? ⟨bb284, 1, none⟩ = some (.slice ad288 (xtV x0 x1).2.length ad288') := (gw16.cell (by first | omega | (simp; try omega))).trans f290
  have z333 : w.heap.size < w16.heap.size := by omega
  have z334 : w.heap.size + 1 < w16.heap.size := by omega
  have z335 : bb15 < w16.heap.size := by omega
  have z336 : w4.heap.size < w16.heap.size := by omega
  have z337 : w5.heap.size < w16.heap.size := by omega
  have z338 : w6.heap.size < w16.heap.size := by omega
  have z339 : bb284 < w16.heap.size := by omega
  have d340 : tplT.Fx w2.heap.size w3.heap.size w16 [.int .i64 (xtV x0 x1).1, .slice ad19 (xtV x0 x1).2.length ad19'] (xtV x0 x1) := d311.below gw16
  have d341 : tplT.Fx w3.heap.size w4.heap.size w16 [.int .i64 x0.1, .slice ad43 x0.2.length ad43'] (mkTpl 1 x0) := d312.below gw16
  have d342 : frmT.Fx (w4.heap.size + 1) w5.heap.size w16 [.int .i64 x1.1, .int .i64 x1.2.1, .slice ad62 x1.2.2.length ad62'] (mkFrm (1 + cntTpl x0) x1) := d313.below gw16
  have d343 : tplT.Fx (w5.heap.size + 1) w6.heap.size w16 [.int .i64 (xtV x0 x1).1, .slice ad86 (xtV x0 x1).2.length ad86'] (mkTpl 1 (xtV x0 x1)) := d314.below gw16
  have d344 : tplT.Fx w14.heap.size w15.heap.size w16 [.int .i64 (xtV x0 x1).1, .slice ad288 (xtV x0 x1).2.length ad288'] (xtV x0 x1) := d315.below gw16
  clear hb16 H_w15 f291 f292 f293 f294 f295 f296 f297 f298 f299 f300 f301 f302 f303 f304 f289 f290 d311 d312 d313 d314 d315 z305 z306 z307 z308 z309 z310 gw16
  rw [eqB_true rfl]
  go_wp2_with fail
  refine (heldTemplate_any _ _ d343.rd (by omega) (by omega)).mono ?_
  rintro e w17 ⟨rfl, hb17⟩
  have gw17 : Below w16.heap.size w16 w17 := bthen (by repeat (first | exact Below.refl _ _ | exact bA | assumption | refine Below.setCell ?_ (by first | omega | (simp; try omega)) _ | refine Below.alloc ?_ (by first | omega | (simp; try omega)) _ | refine Below.drew ?_ | refine bDN ?_ | refine bthen ?_ (by assumption))) hb17
  have sw17 : w16.heap.size + 0 ≤ w17.heap.size := by have := hb17.size; (try simp at this); omega
  have H_w17 : Below w.heap.size w w17 := bthen H_w16 gw17
  have f345 : w17.cell? ⟨w.heap.size, 0, none⟩ = some (.int .i64 x0.1) := (gw17.cell (by first | omega | (simp; try omega))).trans f317
  have f346 : w17.cell? ⟨w.heap.size, 1, none⟩ = some (u0) := (gw17.cell (by first | omega | (simp; try omega))).trans f318
  have f347 : w17.cell? ⟨w.heap.size + 1, 0, none⟩ = some (.int .i64 x1.1) := (gw17.cell (by first | omega | (simp; try omega))).trans f319
  have f348 : w17.cell? ⟨w.heap.size + 1, 1, none⟩ = some (.int .i64 x1.2.1) := (gw17.cell (by first | omega | (simp; try omega))).trans f320
  have f349 : w17.cell? ⟨w.heap.size + 1, 2, none⟩ = some (u1) := (gw17.cell (by first | omega | (simp; try omega))).trans f321
  have f350 : w17.cell? ⟨bb15, 0, none⟩ = some (.int .i64 (xtV x0 x1).1) := (gw17.cell (by first | omega | (simp; try omega))).trans f322
  have f351 : w17.cell? ⟨bb15, 1, none⟩ = some (.slice ad19 (xtV x0 x1).2.length ad19') := (gw17.cell (by first | omega | (simp; try omega))).trans f323
  have f352 : w17.cell? ⟨w4.heap.size, 0, none⟩ = some (.int .i64 x0.1) := (gw17.cell (by first | omega | (simp; try omega))).trans f324
  have f353 : w17.cell? ⟨w4.heap.size, 1, none⟩ = some (.slice ad43 x0.2.length ad43') := (gw17.cell (by first | omega | (simp; try omega))).trans f325
  have f354 : w17.cell? ⟨w5.heap.size, 0, none⟩ = some (.int .i64 x1.1) := (gw17.cell (by first | omega | (simp; try omega))).trans f326
  have f355 : w17.cell? ⟨w5.heap.size, 1, none⟩ = some (.int .i64 x1.2.1) := (gw17.cell (by first | omega | (simp; try omega))).trans f327
  have f356 : w17.cell? ⟨w5.heap.size, 2, none⟩ = some (.slice ad62 x1.2.2.length ad62') := (gw17.cell (by first | omega | (simp; try omega))).trans f328
  have f357 : w17.cell? ⟨w6.heap.size, 0, none⟩ = some (.int .i64 (xtV x0 x1).1) := (gw17.cell (by first | omega | (simp; try omega))).trans f329
  have f358 : w17.cell? ⟨w6.heap.size, 1, none⟩ = some (.slice ad86 (xtV x0 x1).2.length ad86') := (gw17.cell (by first | omega | (simp; try omega))).trans f330
  have f359 : w17.cell? ⟨bb284, 0, none⟩ = some (.int .i64 (xtV x0 x1).1) := (gw17.cell (by first | omega | (simp; try omega))).trans f331
  have f360 : w17.cell? ⟨bb284, 1, none⟩ = some (.slice ad288 (xtV x0 x1).2.length ad288') := (gw17.cell (by first | omega | (simp; try omega))).trans f332
  have z361 : w.heap.size < w17.heap.size := by omega
  have z362 : w.heap.size + 1 < w17.heap.size := by omega
  have z363 : bb15 < w17.heap.size := by omega
  have z364 : w4.heap.size < w17.heap.size := by omega
  have z365 : w5.heap.size < w17.heap.size := by omega
  have z366 : w6.heap.size < w17.heap.size := by omega
  have z367 : bb284 < w17.heap.size := by omega
  have d368 : tplT.Fx w2.heap.size w3.heap.size w17 [.int .i64 (xtV x0 x1).1, .slice ad19 (xtV x0 x1).2.length ad19'] (xtV x0 x1) := d340.below gw17
  have d369 : tplT.Fx w3.heap.size w4.heap.size w17 [.int .i64 x0.1, .slice ad43 x0.2.length ad43'] (mkTpl 1 x0) := d341.below gw17
  have d370 : frmT.Fx (w4.heap.size + 1) w5.heap.size w17 [.int .i64 x1.1, .int .i64 x1.2.1, .slice ad62 x1.2.2.length ad62'] (mkFrm (1 + cntTpl x0) x1) := d342.below gw17
  have d371 : tplT.Fx (w5.heap.size + 1) w6.heap.size w17 [.int .i64 (xtV x0 x1).1, .slice ad86 (xtV x0 x1).2.length ad86'] (mkTpl 1 (xtV x0 x1)) := d343.below gw17
  have d372 : tplT.Fx w14.heap.size w15.heap.size w17 [.int .i64 (xtV x0 x1).1, .slice ad288 (xtV x0 x1).2.length ad288'] (xtV x0 x1) := d344.below gw17
  clear hb17 H_w16 f317 f318 f319 f320 f321 f322 f323 f324 f325 f326 f327 f328 f329 f330 f331 f332 d340 d341 d342 d343 d344 z333 z334 z335 z336 z337 z338 z339 gw17
  go_wp2_with fail
  go_ret
  exact ⟨rfl, (by repeat (first | exact Below.refl _ _ | exact bA | assumption | refine Below.setCell ?_ (by first | omega | (simp; try omega)) _ | refine Below.alloc ?_ (by first | omega | (simp; try omega)) _ | refine Below.drew ?_ | refine bDN ?_ | refine bthen ?_ (by assumption)))⟩
end Go.Proofs.YtbpjejhjlmpcjaaGreat
