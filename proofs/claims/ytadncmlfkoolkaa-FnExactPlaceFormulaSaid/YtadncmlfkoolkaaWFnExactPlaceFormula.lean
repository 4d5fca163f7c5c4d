/-
  The law FnExactPlaceFormula, walked: its contract.
-/
import Derived.Test.YtadncmlfkoolkaaK19
import Derived.Test.YtadncmlfkoolkaaKM
import Derived.Test.YtadncmlfkoolkaaKT
import Derived.Test.YtadncmlfkoolkaaLoose2
namespace Go.Proofs.Ytadncmlfkoolkaa
open Go.RowKit Go.Sort
set_option maxHeartbeats 6400000 in
set_option maxRecDepth 100000 in
theorem fnExactPlaceFormula_any (w : World) {c0 : Array Value} {x0 : Int × List (Int × List (List Int))} (h0 : tplT.Rd w c0.toList x0) {c1 : Array Value} {x1 : Int × Int × List (Int × List Int)} (h1 : frmT.Rd w c1.toList x1) {n2 : Int} (_h2 : I64 n2) {v3 : Value} {x3 : List Int} (h3 : intsT.Rd w [v3] x3) :
    Calls Try.prog 9 #[.agg c0, .agg c1, .int .i64 n2, v3] w fun e w' => e = .returned (.bool true) ∧ Below w.heap.size w w' := by
  have hx0 := h0
  obtain ⟨u0, hv0, -, hy0⟩ := pair_ex h0
  obtain rfl := agg_of hv0
  clear hv0 h0
  have hn0 := szTpl_nn x0
  have hcn0 : cntTpl x0 ≤ szTpl x0 := cntRels_sz x0.2
  have hcz0 : 0 ≤ cntTpl x0 := cntRels_nn x0.2
  have hx1 := h1
  obtain ⟨u1, hv1, -, -, hy1⟩ := trip_ex h1
  obtain rfl := agg_of hv1
  clear hv1 h1
  have hn1 := szFrm_nn x1
  have hcn1 : cntFrm x1 ≤ szFrm x1 := cntOps_sz x1.2.2
  have hcz1 : 0 ≤ cntFrm x1 := cntOps_nn x1.2.2
  have hx3 := h3
  obtain ⟨ad3, cap3, rfl⟩ := rd_slice hx3
  clear h3
  have hn3 := szInts_nn x3
  have hcn3 : cntI x3 ≤ szInts x3 := cntI_sz x3
  have hcz3 : 0 ≤ cntI x3 := cntI_nn x3
  have H_w : Below w.heap.size w w := Below.refl _ _
  rcases ilt 1048576 (x3.length : Int) with hl1 | hl1
  · have hl : decide (1048576 < (x3.length : Int)) = true := by simpa using hl1
    go_enter Try.func9, Try.ntmps9
    go_wp2_with fail
    go_ret
    exact ⟨rfl, (by repeat (first | exact Below.refl _ _ | exact bA | assumption | refine Below.setCell ?_ (by first | omega | (simp; try omega)) _ | refine Below.alloc ?_ (by first | omega | (simp; try omega)) _ | refine Below.drew ?_ | refine bDN ?_ | refine bthen ?_ (by assumption)))⟩
  have hd1 : decide (1048576 < (x3.length : Int)) = false := by simp; omega
  have hle1 : cntI x3 ≤ 1048576 := hl1
  go_enter Try.func9, Try.ntmps9
  go_wp2_with fail
  refine (szTemplate_any _ (hx0.below (by repeat (first | exact Below.refl _ _ | exact bA | assumption | refine Below.setCell ?_ (by first | omega | (simp; try omega)) _ | refine Below.alloc ?_ (by first | omega | (simp; try omega)) _ | refine Below.drew ?_ | refine bDN ?_ | refine bthen ?_ (by assumption)))) _ (by omega) (by omega)).mono ?_
  rintro e w1 ⟨rfl, hb1⟩
  have gw1 : Below w.heap.size w w1 := bthen (by repeat (first | exact Below.refl _ _ | exact bA | assumption | refine Below.setCell ?_ (by first | omega | (simp; try omega)) _ | refine Below.alloc ?_ (by first | omega | (simp; try omega)) _ | refine Below.drew ?_ | refine bDN ?_ | refine bthen ?_ (by assumption))) hb1
  have sw1 : w.heap.size + 2 ≤ w1.heap.size := by have := hb1.size; (try simp at this); omega
  have H_w1 : Below w.heap.size w w1 := bthen H_w gw1
  have f1 : w1.cell? ⟨w.heap.size, 0, none⟩ = some (.int .i64 x0.1) := by rw [(bcell hb1).1 _ _ (by first | omega | (simp; try omega))]; simp
  have f2 : w1.cell? ⟨w.heap.size, 1, none⟩ = some (u0) := by rw [(bcell hb1).1 _ _ (by first | omega | (simp; try omega))]; simp
  have f3 : w1.cell? ⟨w.heap.size + 1, 0, none⟩ = some (.int .i64 x1.1) := by rw [(bcell hb1).1 _ _ (by first | omega | (simp; try omega))]; simp
  have f4 : w1.cell? ⟨w.heap.size + 1, 1, none⟩ = some (.int .i64 x1.2.1) := by rw [(bcell hb1).1 _ _ (by first | omega | (simp; try omega))]; simp
  have f5 : w1.cell? ⟨w.heap.size + 1, 2, none⟩ = some (u1) := by rw [(bcell hb1).1 _ _ (by first | omega | (simp; try omega))]; simp
  have z6 : w.heap.size < w1.heap.size := by omega
  have z7 : w.heap.size + 1 < w1.heap.size := by omega
  clear hb1 gw1
  rcases ilt 1048576 (szTpl x0) with hl4 | hl4
  · rw [szR_lt hl4]
    go_wp2_with fail
    go_ret
    exact ⟨rfl, (by repeat (first | exact Below.refl _ _ | exact bA | assumption | refine Below.setCell ?_ (by first | omega | (simp; try omega)) _ | refine Below.alloc ?_ (by first | omega | (simp; try omega)) _ | refine Below.drew ?_ | refine bDN ?_ | refine bthen ?_ (by assumption)))⟩
  rw [szR_ge hl4]
  go_wp2_with fail
  refine (szFormula_any _ (hx1.below (by repeat (first | exact Below.refl _ _ | exact bA | assumption | refine Below.setCell ?_ (by first | omega | (simp; try omega)) _ | refine Below.alloc ?_ (by first | omega | (simp; try omega)) _ | refine Below.drew ?_ | refine bDN ?_ | refine bthen ?_ (by assumption)))) _ (by omega) (by omega)).mono ?_
  rintro e w2 ⟨rfl, hb2⟩
  have gw2 : Below w1.heap.size w1 w2 := bthen (by repeat (first | exact Below.refl _ _ | exact bA | assumption | refine Below.setCell ?_ (by first | omega | (simp; try omega)) _ | refine Below.alloc ?_ (by first | omega | (simp; try omega)) _ | refine Below.drew ?_ | refine bDN ?_ | refine bthen ?_ (by assumption))) hb2
  have sw2 : w1.heap.size + 0 ≤ w2.heap.size := by have := hb2.size; (try simp at this); omega
  have H_w2 : Below w.heap.size w w2 := bthen H_w1 gw2
  have f8 : w2.cell? ⟨w.heap.size, 0, none⟩ = some (.int .i64 x0.1) := (gw2.cell (by first | omega | (simp; try omega))).trans f1
  have f9 : w2.cell? ⟨w.heap.size, 1, none⟩ = some (u0) := (gw2.cell (by first | omega | (simp; try omega))).trans f2
  have f10 : w2.cell? ⟨w.heap.size + 1, 0, none⟩ = some (.int .i64 x1.1) := (gw2.cell (by first | omega | (simp; try omega))).trans f3
  have f11 : w2.cell? ⟨w.heap.size + 1, 1, none⟩ = some (.int .i64 x1.2.1) := (gw2.cell (by first | omega | (simp; try omega))).trans f4
  have f12 : w2.cell? ⟨w.heap.size + 1, 2, none⟩ = some (u1) := (gw2.cell (by first | omega | (simp; try omega))).trans f5
  have z13 : w.heap.size < w2.heap.size := by omega
  have z14 : w.heap.size + 1 < w2.heap.size := by omega
  clear hb2 H_w1 f1 f2 f3 f4 f5 z6 z7 gw2
  rcases ilt (1048576 - szTpl x0) (szFrm x1) with hl7 | hl7
  · rw [szR_lt hl7]
    go_wp2_with fail
    go_ret
    exact ⟨rfl, (by repeat (first | exact Below.refl _ _ | exact bA | assumption | refine Below.setCell ?_ (by first | omega | (simp; try omega)) _ | refine Below.alloc ?_ (by first | omega | (simp; try omega)) _ | refine Below.drew ?_ | refine bDN ?_ | refine bthen ?_ (by assumption)))⟩
  rw [szR_ge hl7]
  go_wp2_with fail
  have hcr1 : cntFrm (placeV x0 x1 n2 x3) ≤ 1000000000 := (Int.le_trans place_cnt (by omega))
  have hcrz1 : 0 ≤ cntFrm (placeV x0 x1 n2 x3) := cntOps_nn _
  refine wp_region_box [(.plain, exO (.agg #[.int .i64 x0.1, u0])), (.plain, rdAO tplT x0), (.plain, exO (.agg #[.int .i64 x1.1, .int .i64 x1.2.1, u1])), (.plain, rdAO frmT x1), (.plain, exO (.int .i64 n2)), (.plain, exO (.slice ad3 x3.length cap3)), (.plain, rdSO intsT x3), (.plain, frTO frmT w2.heap.size (placeV x0 x1 n2 x3) (.int .i64 (placeC x0 x1 n2 x3))), (.plain, frTO frmT w2.heap.size (placeV x0 x1 n2 x3) (.int .i64 (placeC x0 x1 n2 x3))), (.plain, frAO frmT w2.heap.size (placeV x0 x1 n2 x3)), (.plain, exO (.int .i64 (placeC x0 x1 n2 x3))), (.alloc, boxO 3), (.store, heldO frmT w2.heap.size (placeV x0 x1 n2 x3)), (.plain, exO (.int .i64 (placeC x0 x1 n2 x3)))] (by kernel_rfl) (by kernel_rfl) ⟨st_exO, st_rdAO, st_exO, st_rdAO, st_exO, st_exO, st_rdSO, st_frTO, st_frTO, st_frAO, st_exO, st_boxO, st_heldO, st_exO, trivial⟩ ⟨?j10_0, ?j10_1, ?j10_2, ?j10_3, ?j10_4, ?j10_5, ?j10_6, ?j10_7, ?j10_8, ?j10_9, ?j10_10, ?j10_11, ?j10_12, ?j10_13, trivial⟩ ?hQ10
  case j10_0 =>
    intro a' w' ob hb hbo hal hd
    have e0 : a'.tmps[4]?.getD undef = .pointer (some ⟨w.heap.size, 0, none⟩) := ev (slot_o2 hd 4 rfl rfl)
    have q : ∀ b o, b < w2.heap.size → w'.cell? ⟨b, o, none⟩ = w2.cell? ⟨b, o, none⟩ := (bcell hb).1
    go_simp
    exact ⟨_, ⟨rfl, Below.refl _ _⟩, rfl⟩
  case j10_1 =>
    intro a' w' ob hb hbo hal hd
    have e36 : a'.tmps[36]?.getD undef = .agg #[.int .i64 x0.1, u0] := ev (slot_w2 hd 36 (exO (.agg #[.int .i64 x0.1, u0])) rfl rfl)
    have r36 : tplT.Rd w2 (#[.int .i64 x0.1, u0] : Array Value).toList x0 := hx0.below H_w2
    have r36' := r36.below hb
    go_simp
    exact ⟨rfl, Below.refl _ _, (toTemplate_any w' r36' (by first | omega | (unfold szInts; omega))).mono fun e w'' ⟨cs, he, hf, hb⟩ => ⟨_, he, hb, rdAO_mk hf hbo⟩⟩
  case j10_2 =>
    intro a' w' ob hb hbo hal hd
    have e0 : a'.tmps[5]?.getD undef = .pointer (some ⟨w.heap.size + 1, 0, none⟩) := ev (slot_o2 hd 5 rfl rfl)
    have q : ∀ b o, b < w2.heap.size → w'.cell? ⟨b, o, none⟩ = w2.cell? ⟨b, o, none⟩ := (bcell hb).1
    go_simp
    exact ⟨_, ⟨rfl, Below.refl _ _⟩, rfl⟩
  case j10_3 =>
    intro a' w' ob hb hbo hal hd
    have e38 : a'.tmps[38]?.getD undef = .agg #[.int .i64 x1.1, .int .i64 x1.2.1, u1] := ev (slot_w2 hd 38 (exO (.agg #[.int .i64 x1.1, .int .i64 x1.2.1, u1])) rfl rfl)
    have r38 : frmT.Rd w2 (#[.int .i64 x1.1, .int .i64 x1.2.1, u1] : Array Value).toList x1 := hx1.below H_w2
    have r38' := r38.below hb
    go_simp
    exact ⟨rfl, Below.refl _ _, (toFormula_any w' r38' (by first | omega | (unfold szInts; omega))).mono fun e w'' ⟨cs, he, hf, hb⟩ => ⟨_, he, hb, rdAO_mk hf hbo⟩⟩
  case j10_4 =>
    intro a' w' ob hb hbo hal hd
    have e0 : a'.tmps[2]?.getD undef = .int .i64 n2 := ev (slot_o2 hd 2 rfl rfl)
    go_simp
    exact ⟨_, ⟨rfl, Below.refl _ _⟩, rfl⟩
  case j10_5 =>
    intro a' w' ob hb hbo hal hd
    have e0 : a'.tmps[3]?.getD undef = .slice ad3 x3.length cap3 := ev (slot_o2 hd 3 rfl rfl)
    go_simp
    exact ⟨_, ⟨rfl, Below.refl _ _⟩, rfl⟩
  case j10_6 =>
    intro a' w' ob hb hbo hal hd
    have e41 : a'.tmps[41]?.getD undef = .slice ad3 x3.length cap3 := ev (slot_w2 hd 41 (exO (.slice ad3 x3.length cap3)) rfl rfl)
    have r41 : intsT.Rd w2 [.slice ad3 x3.length cap3] x3 := hx3.below H_w2
    have r41' := r41.below hb
    go_simp
    exact ⟨rfl, Below.refl _ _, (toInt64S_any w' r41' (by first | omega | (unfold szInts; omega))).mono fun e w'' ⟨cs, he, hf, hb⟩ => ⟨_, he, hb, rdSO_mk hf hbo⟩⟩
  case j10_7 =>
    intro a' w' ob hb hbo hal hd
    have d37 := slot_w2 hd 37 (rdAO tplT x0) rfl rfl
    obtain ⟨cs37, fp37, e37, hr37, -⟩ := d37
    have rd37 : tplT.Rd w' cs37 x0 := ⟨_, hr37⟩
    have e37' := ev e37
    have d39 := slot_w2 hd 39 (rdAO frmT x1) rfl rfl
    obtain ⟨cs39, fp39, e39, hr39, -⟩ := d39
    have rd39 : frmT.Rd w' cs39 x1 := ⟨_, hr39⟩
    have e39' := ev e39
    have e40 : a'.tmps[40]?.getD undef = .int .i64 n2 := ev (slot_w2 hd 40 (exO (.int .i64 n2)) rfl rfl)
    have d42 := slot_w2 hd 42 (rdSO intsT x3) rfl rfl
    obtain ⟨ad42', cap42', e42⟩ := rdSO_val d42
    rw [e42] at d42
    have rd42 := d42.rd
    have e42' := ev e42
    go_simp
    exact ⟨rfl, Below.refl _ _, (specPlaceFormula_any _ rd37 rd39 rd42).mono fun e w'' ⟨cs, he, hf, hb2⟩ => ⟨_, he, hb2, frTO_mk hb.size hf hbo⟩⟩
  case j10_8 =>
    intro a' w' ob hb hbo hal hd
    have d43 := slot_w2 hd 43 (frTO frmT w2.heap.size (placeV x0 x1 n2 x3) (.int .i64 (placeC x0 x1 n2 x3))) rfl rfl
    obtain ⟨cs43, e43, hf43⟩ := d43
    have e43' := ev e43
    go_simp
    exact ⟨_, ⟨rfl, Below.refl _ _⟩, cs43, rfl, hf43⟩
  case j10_9 =>
    intro a' w' ob hb hbo hal hd
    have d35 := slot_w2 hd 35 (frTO frmT w2.heap.size (placeV x0 x1 n2 x3) (.int .i64 (placeC x0 x1 n2 x3))) rfl rfl
    obtain ⟨cs35, e35, hf35⟩ := d35
    have e35' := ev e35
    go_simp
    exact ⟨_, ⟨rfl, Below.refl _ _⟩, hf35⟩
  case j10_10 =>
    intro a' w' ob hb hbo hal hd
    have d35 := slot_w2 hd 35 (frTO frmT w2.heap.size (placeV x0 x1 n2 x3) (.int .i64 (placeC x0 x1 n2 x3))) rfl rfl
    obtain ⟨cs35, e35, hf35⟩ := d35
    have e35' := ev e35
    go_simp
    exact ⟨_, ⟨rfl, Below.refl _ _⟩, rfl⟩
  case j10_11 =>
    intro a' w' ob hb hbo hal hd
    obtain rfl := hal rfl
    go_simp
    exact ⟨_, ⟨rfl, by simp, bA⟩, _, rfl, rfl, by simp, box3⟩
  case j10_12 =>
    intro a' w' ob hb hbo hal hd
    obtain ⟨bb, rfl, e10, hbb, hcl⟩ := slot_w2 hd 10 (boxO 3) rfl rfl
    have e10' := ev e10
    have d44 := slot_w2 hd 44 (frAO frmT w2.heap.size (placeV x0 x1 n2 x3)) rfl rfl
    obtain ⟨cs44, fp44, e44, hr44, hn44, hg44, hu44, ho44⟩ := d44
    obtain ⟨u44, rfl, hr44', -⟩ := rd_trip hr44
    obtain ⟨ad44', cap44', rfl⟩ := rd_slice ⟨_, hr44'⟩
    have e44' := ev e44
    obtain ⟨⟨y0, c0⟩, f0⟩ := hcl 0 (by decide)
    obtain ⟨⟨y1, c1⟩, f1⟩ := hcl 1 (by decide)
    obtain ⟨⟨y2, c2⟩, f2⟩ := hcl 2 (by decide)
    go_simp
    exact held3 c0 c1 c2 hr44 hn44 hg44 hu44 ho44 _
  case j10_13 =>
    intro a' w' ob hb hbo hal hd
    have e0 : a'.tmps[45]?.getD undef = .int .i64 (placeC x0 x1 n2 x3) := ev (slot_w2 hd 45 (exO (.int .i64 (placeC x0 x1 n2 x3))) rfl rfl)
    go_simp
    exact ⟨_, ⟨rfl, Below.refl _ _⟩, rfl⟩
  intro vs10 w3 ob10 hb3 hbo10 H0
  obtain ⟨v10_0, _, rfl, p0, H1⟩ := HAll2_cons H0
  obtain ⟨v10_1, _, rfl, p1, H2⟩ := HAll2_cons H1
  obtain ⟨v10_2, _, rfl, p2, H3⟩ := HAll2_cons H2
  obtain ⟨v10_3, _, rfl, p3, H4⟩ := HAll2_cons H3
  obtain ⟨v10_4, _, rfl, p4, H5⟩ := HAll2_cons H4
  obtain ⟨v10_5, _, rfl, p5, H6⟩ := HAll2_cons H5
  obtain ⟨v10_6, _, rfl, p6, H7⟩ := HAll2_cons H6
  obtain ⟨v10_7, _, rfl, p7, H8⟩ := HAll2_cons H7
  obtain ⟨v10_8, _, rfl, p8, H9⟩ := HAll2_cons H8
  obtain ⟨v10_9, _, rfl, p9, H10⟩ := HAll2_cons H9
  obtain ⟨v10_10, _, rfl, p10, H11⟩ := HAll2_cons H10
  obtain ⟨v10_11, _, rfl, p11, H12⟩ := HAll2_cons H11
  obtain ⟨v10_12, _, rfl, p12, H13⟩ := HAll2_cons H12
  obtain ⟨v10_13, _, rfl, p13, H14⟩ := HAll2_cons H13
  obtain rfl := HAll2_nil H14
  obtain rfl := id p0
  obtain rfl := id p2
  obtain rfl := id p4
  obtain rfl := id p5
  obtain rfl := id p10
  obtain rfl := id p13
  obtain ⟨bb15, rfl, rfl, hltbb15, -⟩ := id p11
  obtain ⟨_, cs, fp18, hob, hr1, hr2, hr3, hr4, -, cc17⟩ := id p12
  simp only [Option.some.injEq] at hob
  subst hob
  have hc16 : frmT.Fr w2.heap.size w3 cs (placeV x0 x1 n2 x3) := ⟨fp18, hr1, hr2, hr3, hr4⟩
  have hlobb15 : w2.heap.size ≤ bb15 := (hbo10 bb15 rfl).1
  obtain ⟨ad19, ad19', rfl⟩ := fr_trip hc16
  have f20 : w3.cell? ⟨bb15, 0, none⟩ = some (.int .i64 (placeV x0 x1 n2 x3).1) := cc17 0 (by simp)
  have f21 : w3.cell? ⟨bb15, 1, none⟩ = some (.int .i64 (placeV x0 x1 n2 x3).2.1) := cc17 1 (by simp)
  have f22 : w3.cell? ⟨bb15, 2, none⟩ = some (.slice ad19 (placeV x0 x1 n2 x3).2.2.length ad19') := cc17 2 (by simp)
  clear cc17 hr1 hr2 hr3 hr4
  clear p0 p1 p2 p3 p4 p5 p6 p7 p8 p9 p10 p11 p12 p13 H0 H1 H2 H3 H4 H5 H6 H7 H8 H9 H10 H11 H12 H13 H14
  have gw3 : Below w2.heap.size w2 w3 := bthen (by repeat (first | exact Below.refl _ _ | exact bA | assumption | refine Below.setCell ?_ (by first | omega | (simp; try omega)) _ | refine Below.alloc ?_ (by first | omega | (simp; try omega)) _ | refine Below.drew ?_ | refine bDN ?_ | refine bthen ?_ (by assumption))) hb3
  have sw3 : w2.heap.size + 0 ≤ w3.heap.size := by have := hb3.size; (try simp at this); omega
  have H_w3 : Below w.heap.size w w3 := bthen H_w2 gw3
  have f23 : w3.cell? ⟨w.heap.size, 0, none⟩ = some (.int .i64 x0.1) := (gw3.cell (by first | omega | (simp; try omega))).trans f8
  have f24 : w3.cell? ⟨w.heap.size, 1, none⟩ = some (u0) := (gw3.cell (by first | omega | (simp; try omega))).trans f9
  have f25 : w3.cell? ⟨w.heap.size + 1, 0, none⟩ = some (.int .i64 x1.1) := (gw3.cell (by first | omega | (simp; try omega))).trans f10
  have f26 : w3.cell? ⟨w.heap.size + 1, 1, none⟩ = some (.int .i64 x1.2.1) := (gw3.cell (by first | omega | (simp; try omega))).trans f11
  have f27 : w3.cell? ⟨w.heap.size + 1, 2, none⟩ = some (u1) := (gw3.cell (by first | omega | (simp; try omega))).trans f12
  have z28 : w.heap.size < w3.heap.size := by omega
  have z29 : w.heap.size + 1 < w3.heap.size := by omega
  clear hb3 H_w2 f8 f9 f10 f11 f12 z13 z14 gw3
  have d30 : frmT.Fx w2.heap.size w3.heap.size w3 [.int .i64 (placeV x0 x1 n2 x3).1, .int .i64 (placeV x0 x1 n2 x3).2.1, .slice ad19 (placeV x0 x1 n2 x3).2.2.length ad19'] (placeV x0 x1 n2 x3) := hc16.fx
  clear hc16
  simp only [putAll, Act.put]
  go_simp
  go_wp2_with fail
  refine (toTemplate_any _ (hx0.below (by repeat (first | exact Below.refl _ _ | exact bA | assumption | refine Below.setCell ?_ (by first | omega | (simp; try omega)) _ | refine Below.alloc ?_ (by first | omega | (simp; try omega)) _ | refine Below.drew ?_ | refine bDN ?_ | refine bthen ?_ (by assumption)))) (by first | omega | (unfold szInts; omega))).mono ?_
  rintro e w4 ⟨cs, rfl, hc32, hb4⟩
  have gw4 : Below w3.heap.size w3 w4 := bthen (by repeat (first | exact Below.refl _ _ | exact bA | assumption | refine Below.setCell ?_ (by first | omega | (simp; try omega)) _ | refine Below.alloc ?_ (by first | omega | (simp; try omega)) _ | refine Below.drew ?_ | refine bDN ?_ | refine bthen ?_ (by assumption))) hb4
  have sw4 : w3.heap.size + 0 ≤ w4.heap.size := by have := hb4.size; (try simp at this); omega
  have H_w4 : Below w.heap.size w w4 := bthen H_w3 gw4
  have f33 : w4.cell? ⟨w.heap.size, 0, none⟩ = some (.int .i64 x0.1) := (gw4.cell (by first | omega | (simp; try omega))).trans f23
  have f34 : w4.cell? ⟨w.heap.size, 1, none⟩ = some (u0) := (gw4.cell (by first | omega | (simp; try omega))).trans f24
  have f35 : w4.cell? ⟨w.heap.size + 1, 0, none⟩ = some (.int .i64 x1.1) := (gw4.cell (by first | omega | (simp; try omega))).trans f25
  have f36 : w4.cell? ⟨w.heap.size + 1, 1, none⟩ = some (.int .i64 x1.2.1) := (gw4.cell (by first | omega | (simp; try omega))).trans f26
  have f37 : w4.cell? ⟨w.heap.size + 1, 2, none⟩ = some (u1) := (gw4.cell (by first | omega | (simp; try omega))).trans f27
  have f38 : w4.cell? ⟨bb15, 0, none⟩ = some (.int .i64 (placeV x0 x1 n2 x3).1) := (gw4.cell (by first | omega | (simp; try omega))).trans f20
  have f39 : w4.cell? ⟨bb15, 1, none⟩ = some (.int .i64 (placeV x0 x1 n2 x3).2.1) := (gw4.cell (by first | omega | (simp; try omega))).trans f21
  have f40 : w4.cell? ⟨bb15, 2, none⟩ = some (.slice ad19 (placeV x0 x1 n2 x3).2.2.length ad19') := (gw4.cell (by first | omega | (simp; try omega))).trans f22
  have z41 : w.heap.size < w4.heap.size := by omega
  have z42 : w.heap.size + 1 < w4.heap.size := by omega
  have z43 : bb15 < w4.heap.size := by omega
  have d44 : frmT.Fx w2.heap.size w3.heap.size w4 [.int .i64 (placeV x0 x1 n2 x3).1, .int .i64 (placeV x0 x1 n2 x3).2.1, .slice ad19 (placeV x0 x1 n2 x3).2.2.length ad19'] (placeV x0 x1 n2 x3) := d30.below gw4
  clear hb4 H_w3 f23 f24 f25 f26 f27 f20 f21 f22 d30 z28 z29 gw4
  obtain ⟨ad45, ad45', rfl⟩ := fr_pair hc32
  have d46 : tplT.Fx w3.heap.size w4.heap.size w4 [.int .i64 x0.1, .slice ad45 x0.2.length ad45'] x0 := (Ty.Fr.mono hc32 (by first | exact Nat.le_refl _ | (simp; try omega))).fx
  clear hc32
  go_wp2_with fail
  refine (toFormula_any _ (hx1.below (by repeat (first | exact Below.refl _ _ | exact bA | assumption | refine Below.setCell ?_ (by first | omega | (simp; try omega)) _ | refine Below.alloc ?_ (by first | omega | (simp; try omega)) _ | refine Below.drew ?_ | refine bDN ?_ | refine bthen ?_ (by assumption)))) (by first | omega | (unfold szInts; omega))).mono ?_
  rintro e w5 ⟨cs, rfl, hc48, hb5⟩
  have gw5 : Below w4.heap.size w4 w5 := bthen (by repeat (first | exact Below.refl _ _ | exact bA | assumption | refine Below.setCell ?_ (by first | omega | (simp; try omega)) _ | refine Below.alloc ?_ (by first | omega | (simp; try omega)) _ | refine Below.drew ?_ | refine bDN ?_ | refine bthen ?_ (by assumption))) hb5
  have sw5 : w4.heap.size + 1 ≤ w5.heap.size := by have := hb5.size; (try simp at this); omega
  have H_w5 : Below w.heap.size w w5 := bthen H_w4 gw5
  have f49 : w5.cell? ⟨w.heap.size, 0, none⟩ = some (.int .i64 x0.1) := (gw5.cell (by first | omega | (simp; try omega))).trans f33
  have f50 : w5.cell? ⟨w.heap.size, 1, none⟩ = some (u0) := (gw5.cell (by first | omega | (simp; try omega))).trans f34
  have f51 : w5.cell? ⟨w.heap.size + 1, 0, none⟩ = some (.int .i64 x1.1) := (gw5.cell (by first | omega | (simp; try omega))).trans f35
  have f52 : w5.cell? ⟨w.heap.size + 1, 1, none⟩ = some (.int .i64 x1.2.1) := (gw5.cell (by first | omega | (simp; try omega))).trans f36
  have f53 : w5.cell? ⟨w.heap.size + 1, 2, none⟩ = some (u1) := (gw5.cell (by first | omega | (simp; try omega))).trans f37
  have f54 : w5.cell? ⟨bb15, 0, none⟩ = some (.int .i64 (placeV x0 x1 n2 x3).1) := (gw5.cell (by first | omega | (simp; try omega))).trans f38
  have f55 : w5.cell? ⟨bb15, 1, none⟩ = some (.int .i64 (placeV x0 x1 n2 x3).2.1) := (gw5.cell (by first | omega | (simp; try omega))).trans f39
  have f56 : w5.cell? ⟨bb15, 2, none⟩ = some (.slice ad19 (placeV x0 x1 n2 x3).2.2.length ad19') := (gw5.cell (by first | omega | (simp; try omega))).trans f40
  have f57 : w5.cell? ⟨w4.heap.size, 0, none⟩ = some (.int .i64 x0.1) := by rw [(bcell hb5).1 _ _ (by first | omega | (simp; try omega))]; simp
  have f58 : w5.cell? ⟨w4.heap.size, 1, none⟩ = some (.slice ad45 x0.2.length ad45') := by rw [(bcell hb5).1 _ _ (by first | omega | (simp; try omega))]; simp
  have z59 : w.heap.size < w5.heap.size := by omega
  have z60 : w.heap.size + 1 < w5.heap.size := by omega
  have z61 : bb15 < w5.heap.size := by omega
  have z62 : w4.heap.size < w5.heap.size := by omega
  have d63 : frmT.Fx w2.heap.size w3.heap.size w5 [.int .i64 (placeV x0 x1 n2 x3).1, .int .i64 (placeV x0 x1 n2 x3).2.1, .slice ad19 (placeV x0 x1 n2 x3).2.2.length ad19'] (placeV x0 x1 n2 x3) := d44.below gw5
  have d64 : tplT.Fx w3.heap.size w4.heap.size w5 [.int .i64 x0.1, .slice ad45 x0.2.length ad45'] x0 := d46.below gw5
  clear hb5 H_w4 f33 f34 f35 f36 f37 f38 f39 f40 d44 d46 z41 z42 z43 gw5
  obtain ⟨ad65, ad65', rfl⟩ := fr_trip hc48
  have d66 : frmT.Fx (w4.heap.size + 1) w5.heap.size w5 [.int .i64 x1.1, .int .i64 x1.2.1, .slice ad65 x1.2.2.length ad65'] x1 := (Ty.Fr.mono hc48 (by first | exact Nat.le_refl _ | (simp; try omega))).fx
  clear hc48
  go_wp2_with fail
  refine (toInt64S_any _ (hx3.below (by repeat (first | exact Below.refl _ _ | exact bA | assumption | refine Below.setCell ?_ (by first | omega | (simp; try omega)) _ | refine Below.alloc ?_ (by first | omega | (simp; try omega)) _ | refine Below.drew ?_ | refine bDN ?_ | refine bthen ?_ (by assumption)))) (by first | omega | (unfold szInts; omega))).mono ?_
  rintro e w6 ⟨cs, rfl, hc68, hb6⟩
  have gw6 : Below w5.heap.size w5 w6 := bthen (by repeat (first | exact Below.refl _ _ | exact bA | assumption | refine Below.setCell ?_ (by first | omega | (simp; try omega)) _ | refine Below.alloc ?_ (by first | omega | (simp; try omega)) _ | refine Below.drew ?_ | refine bDN ?_ | refine bthen ?_ (by assumption))) hb6
  have sw6 : w5.heap.size + 1 ≤ w6.heap.size := by have := hb6.size; (try simp at this); omega
  have H_w6 : Below w.heap.size w w6 := bthen H_w5 gw6
  have f69 : w6.cell? ⟨w.heap.size, 0, none⟩ = some (.int .i64 x0.1) := (gw6.cell (by first | omega | (simp; try omega))).trans f49
  have f70 : w6.cell? ⟨w.heap.size, 1, none⟩ = some (u0) := (gw6.cell (by first | omega | (simp; try omega))).trans f50
  have f71 : w6.cell? ⟨w.heap.size + 1, 0, none⟩ = some (.int .i64 x1.1) := (gw6.cell (by first | omega | (simp; try omega))).trans f51
  have f72 : w6.cell? ⟨w.heap.size + 1, 1, none⟩ = some (.int .i64 x1.2.1) := (gw6.cell (by first | omega | (simp; try omega))).trans f52
  have f73 : w6.cell? ⟨w.heap.size + 1, 2, none⟩ = some (u1) := (gw6.cell (by first | omega | (simp; try omega))).trans f53
  have f74 : w6.cell? ⟨bb15, 0, none⟩ = some (.int .i64 (placeV x0 x1 n2 x3).1) := (gw6.cell (by first | omega | (simp; try omega))).trans f54
  have f75 : w6.cell? ⟨bb15, 1, none⟩ = some (.int .i64 (placeV x0 x1 n2 x3).2.1) := (gw6.cell (by first | omega | (simp; try omega))).trans f55
  have f76 : w6.cell? ⟨bb15, 2, none⟩ = some (.slice ad19 (placeV x0 x1 n2 x3).2.2.length ad19') := (gw6.cell (by first | omega | (simp; try omega))).trans f56
  have f77 : w6.cell? ⟨w4.heap.size, 0, none⟩ = some (.int .i64 x0.1) := (gw6.cell (by first | omega | (simp; try omega))).trans f57
  have f78 : w6.cell? ⟨w4.heap.size, 1, none⟩ = some (.slice ad45 x0.2.length ad45') := (gw6.cell (by first | omega | (simp; try omega))).trans f58
  have f79 : w6.cell? ⟨w5.heap.size, 0, none⟩ = some (.int .i64 x1.1) := by rw [(bcell hb6).1 _ _ (by first | omega | (simp; try omega))]; simp
  have f80 : w6.cell? ⟨w5.heap.size, 1, none⟩ = some (.int .i64 x1.2.1) := by rw [(bcell hb6).1 _ _ (by first | omega | (simp; try omega))]; simp
  have f81 : w6.cell? ⟨w5.heap.size, 2, none⟩ = some (.slice ad65 x1.2.2.length ad65') := by rw [(bcell hb6).1 _ _ (by first | omega | (simp; try omega))]; simp
  have z82 : w.heap.size < w6.heap.size := by omega
  have z83 : w.heap.size + 1 < w6.heap.size := by omega
  have z84 : bb15 < w6.heap.size := by omega
  have z85 : w4.heap.size < w6.heap.size := by omega
  have z86 : w5.heap.size < w6.heap.size := by omega
  have d87 : frmT.Fx w2.heap.size w3.heap.size w6 [.int .i64 (placeV x0 x1 n2 x3).1, .int .i64 (placeV x0 x1 n2 x3).2.1, .slice ad19 (placeV x0 x1 n2 x3).2.2.length ad19'] (placeV x0 x1 n2 x3) := d63.below gw6
  have d88 : tplT.Fx w3.heap.size w4.heap.size w6 [.int .i64 x0.1, .slice ad45 x0.2.length ad45'] x0 := d64.below gw6
  have d89 : frmT.Fx (w4.heap.size + 1) w5.heap.size w6 [.int .i64 x1.1, .int .i64 x1.2.1, .slice ad65 x1.2.2.length ad65'] x1 := d66.below gw6
  clear hb6 H_w5 f49 f50 f51 f52 f53 f54 f55 f56 f57 f58 d63 d64 d66 z59 z60 z61 z62 gw6
  obtain ⟨ad90, ad90', rfl⟩ := fr_slice hc68
  have d91 : intsT.Fx (w5.heap.size + 1) w6.heap.size w6 [.slice ad90 x3.length ad90'] x3 := (Ty.Fr.mono hc68 (by first | exact Nat.le_refl _ | (simp; try omega))).fx
  clear hc68
  go_wp2_with fail
  refine (PlaceFormula_any _ (d88.rd.below (by repeat (first | exact Below.refl _ _ | exact bA | assumption | refine Below.setCell ?_ (by first | omega | (simp; try omega)) _ | refine Below.alloc ?_ (by first | omega | (simp; try omega)) _ | refine Below.drew ?_ | refine bDN ?_ | refine bthen ?_ (by assumption)))) (d89.rd.below (by repeat (first | exact Below.refl _ _ | exact bA | assumption | refine Below.setCell ?_ (by first | omega | (simp; try omega)) _ | refine Below.alloc ?_ (by first | omega | (simp; try omega)) _ | refine Below.drew ?_ | refine bDN ?_ | refine bthen ?_ (by assumption)))) (d91.rd.below (by repeat (first | exact Below.refl _ _ | exact bA | assumption | refine Below.setCell ?_ (by first | omega | (simp; try omega)) _ | refine Below.alloc ?_ (by first | omega | (simp; try omega)) _ | refine Below.drew ?_ | refine bDN ?_ | refine bthen ?_ (by assumption))))).mono ?_
  rintro e w7 ⟨cs, rfl, hc93, hb7⟩
  have gw7 : Below w6.heap.size w6 w7 := bthen (by repeat (first | exact Below.refl _ _ | exact bA | assumption | refine Below.setCell ?_ (by first | omega | (simp; try omega)) _ | refine Below.alloc ?_ (by first | omega | (simp; try omega)) _ | refine Below.drew ?_ | refine bDN ?_ | refine bthen ?_ (by assumption))) hb7
  have sw7 : w6.heap.size + 0 ≤ w7.heap.size := by have := hb7.size; (try simp at this); omega
  have H_w7 : Below w.heap.size w w7 := bthen H_w6 gw7
  have f94 : w7.cell? ⟨w.heap.size, 0, none⟩ = some (.int .i64 x0.1) := (gw7.cell (by first | omega | (simp; try omega))).trans f69
  have f95 : w7.cell? ⟨w.heap.size, 1, none⟩ = some (u0) := (gw7.cell (by first | omega | (simp; try omega))).trans f70
  have f96 : w7.cell? ⟨w.heap.size + 1, 0, none⟩ = some (.int .i64 x1.1) := (gw7.cell (by first | omega | (simp; try omega))).trans f71
  have f97 : w7.cell? ⟨w.heap.size + 1, 1, none⟩ = some (.int .i64 x1.2.1) := (gw7.cell (by first | omega | (simp; try omega))).trans f72
  have f98 : w7.cell? ⟨w.heap.size + 1, 2, none⟩ = some (u1) := (gw7.cell (by first | omega | (simp; try omega))).trans f73
  have f99 : w7.cell? ⟨bb15, 0, none⟩ = some (.int .i64 (placeV x0 x1 n2 x3).1) := (gw7.cell (by first | omega | (simp; try omega))).trans f74
  have f100 : w7.cell? ⟨bb15, 1, none⟩ = some (.int .i64 (placeV x0 x1 n2 x3).2.1) := (gw7.cell (by first | omega | (simp; try omega))).trans f75
  have f101 : w7.cell? ⟨bb15, 2, none⟩ = some (.slice ad19 (placeV x0 x1 n2 x3).2.2.length ad19') := (gw7.cell (by first | omega | (simp; try omega))).trans f76
  have f102 : w7.cell? ⟨w4.heap.size, 0, none⟩ = some (.int .i64 x0.1) := (gw7.cell (by first | omega | (simp; try omega))).trans f77
  have f103 : w7.cell? ⟨w4.heap.size, 1, none⟩ = some (.slice ad45 x0.2.length ad45') := (gw7.cell (by first | omega | (simp; try omega))).trans f78
  have f104 : w7.cell? ⟨w5.heap.size, 0, none⟩ = some (.int .i64 x1.1) := (gw7.cell (by first | omega | (simp; try omega))).trans f79
  have f105 : w7.cell? ⟨w5.heap.size, 1, none⟩ = some (.int .i64 x1.2.1) := (gw7.cell (by first | omega | (simp; try omega))).trans f80
  have f106 : w7.cell? ⟨w5.heap.size, 2, none⟩ = some (.slice ad65 x1.2.2.length ad65') := (gw7.cell (by first | omega | (simp; try omega))).trans f81
  have z107 : w.heap.size < w7.heap.size := by omega
  have z108 : w.heap.size + 1 < w7.heap.size := by omega
  have z109 : bb15 < w7.heap.size := by omega
  have z110 : w4.heap.size < w7.heap.size := by omega
  have z111 : w5.heap.size < w7.heap.size := by omega
  have d112 : frmT.Fx w2.heap.size w3.heap.size w7 [.int .i64 (placeV x0 x1 n2 x3).1, .int .i64 (placeV x0 x1 n2 x3).2.1, .slice ad19 (placeV x0 x1 n2 x3).2.2.length ad19'] (placeV x0 x1 n2 x3) := d87.below gw7
  have d113 : tplT.Fx w3.heap.size w4.heap.size w7 [.int .i64 x0.1, .slice ad45 x0.2.length ad45'] x0 := d88.below gw7
  have d114 : frmT.Fx (w4.heap.size + 1) w5.heap.size w7 [.int .i64 x1.1, .int .i64 x1.2.1, .slice ad65 x1.2.2.length ad65'] x1 := d89.below gw7
  have d115 : intsT.Fx (w5.heap.size + 1) w6.heap.size w7 [.slice ad90 x3.length ad90'] x3 := d91.below gw7
  clear hb7 H_w6 f69 f70 f71 f72 f73 f74 f75 f76 f77 f78 f79 f80 f81 d87 d88 d89 d91 z82 z83 z84 z85 z86 gw7
  obtain ⟨ad116, ad116', rfl⟩ := fr_trip hc93
  have d117 : frmT.Fx w6.heap.size w7.heap.size w7 [.int .i64 (placeV x0 x1 n2 x3).1, .int .i64 (placeV x0 x1 n2 x3).2.1, .slice ad116 (placeV x0 x1 n2 x3).2.2.length ad116'] (placeV x0 x1 n2 x3) := (Ty.Fr.mono hc93 (by first | exact Nat.le_refl _ | (simp; try omega))).fx
  clear hc93
  go_wp2_with fail
  refine (eqFormula_any _ (d117.rd.below (by repeat (first | exact Below.refl _ _ | exact bA | assumption | refine Below.setCell ?_ (by first | omega | (simp; try omega)) _ | refine Below.alloc ?_ (by first | omega | (simp; try omega)) _ | refine Below.drew ?_ | refine bDN ?_ | refine bthen ?_ (by assumption)))) (d112.rd.below (by repeat (first | exact Below.refl _ _ | exact bA | assumption | refine Below.setCell ?_ (by first | omega | (simp; try omega)) _ | refine Below.alloc ?_ (by first | omega | (simp; try omega)) _ | refine Below.drew ?_ | refine bDN ?_ | refine bthen ?_ (by assumption))))).mono ?_
  rintro e w8 ⟨rfl, hb8⟩
  have gw8 : Below w7.heap.size w7 w8 := bthen (by repeat (first | exact Below.refl _ _ | exact bA | assumption | refine Below.setCell ?_ (by first | omega | (simp; try omega)) _ | refine Below.alloc ?_ (by first | omega | (simp; try omega)) _ | refine Below.drew ?_ | refine bDN ?_ | refine bthen ?_ (by assumption))) hb8
  have sw8 : w7.heap.size + 1 ≤ w8.heap.size := by have := hb8.size; (try simp at this); omega
  have H_w8 : Below w.heap.size w w8 := bthen H_w7 gw8
  have f119 : w8.cell? ⟨w.heap.size, 0, none⟩ = some (.int .i64 x0.1) := (gw8.cell (by first | omega | (simp; try omega))).trans f94
  have f120 : w8.cell? ⟨w.heap.size, 1, none⟩ = some (u0) := (gw8.cell (by first | omega | (simp; try omega))).trans f95
  have f121 : w8.cell? ⟨w.heap.size + 1, 0, none⟩ = some (.int .i64 x1.1) := (gw8.cell (by first | omega | (simp; try omega))).trans f96
  have f122 : w8.cell? ⟨w.heap.size + 1, 1, none⟩ = some (.int .i64 x1.2.1) := (gw8.cell (by first | omega | (simp; try omega))).trans f97
  have f123 : w8.cell? ⟨w.heap.size + 1, 2, none⟩ = some (u1) := (gw8.cell (by first | omega | (simp; try omega))).trans f98
  have f124 : w8.cell? ⟨bb15, 0, none⟩ = some (.int .i64 (placeV x0 x1 n2 x3).1) := (gw8.cell (by first | omega | (simp; try omega))).trans f99
  have f125 : w8.cell? ⟨bb15, 1, none⟩ = some (.int .i64 (placeV x0 x1 n2 x3).2.1) := (gw8.cell (by first | omega | (simp; try omega))).trans f100
  have f126 : w8.cell? ⟨bb15, 2, none⟩ = some (.slice ad19 (placeV x0 x1 n2 x3).2.2.length ad19') := (gw8.cell (by first | omega | (simp; try omega))).trans f101
  have f127 : w8.cell? ⟨w4.heap.size, 0, none⟩ = some (.int .i64 x0.1) := (gw8.cell (by first | omega | (simp; try omega))).trans f102
  have f128 : w8.cell? ⟨w4.heap.size, 1, none⟩ = some (.slice ad45 x0.2.length ad45') := (gw8.cell (by first | omega | (simp; try omega))).trans f103
  have f129 : w8.cell? ⟨w5.heap.size, 0, none⟩ = some (.int .i64 x1.1) := (gw8.cell (by first | omega | (simp; try omega))).trans f104
  have f130 : w8.cell? ⟨w5.heap.size, 1, none⟩ = some (.int .i64 x1.2.1) := (gw8.cell (by first | omega | (simp; try omega))).trans f105
  have f131 : w8.cell? ⟨w5.heap.size, 2, none⟩ = some (.slice ad65 x1.2.2.length ad65') := (gw8.cell (by first | omega | (simp; try omega))).trans f106
  have f132 : w8.cell? ⟨w7.heap.size, 0, none⟩ = some (.int .i64 (placeV x0 x1 n2 x3).1) := by rw [(bcell hb8).1 _ _ (by first | omega | (simp; try omega))]; simp
  have f133 : w8.cell? ⟨w7.heap.size, 1, none⟩ = some (.int .i64 (placeV x0 x1 n2 x3).2.1) := by rw [(bcell hb8).1 _ _ (by first | omega | (simp; try omega))]; simp
  have f134 : w8.cell? ⟨w7.heap.size, 2, none⟩ = some (.slice ad116 (placeV x0 x1 n2 x3).2.2.length ad116') := by rw [(bcell hb8).1 _ _ (by first | omega | (simp; try omega))]; simp
  have z135 : w.heap.size < w8.heap.size := by omega
  have z136 : w.heap.size + 1 < w8.heap.size := by omega
  have z137 : bb15 < w8.heap.size := by omega
  have z138 : w4.heap.size < w8.heap.size := by omega
  have z139 : w5.heap.size < w8.heap.size := by omega
  have z140 : w7.heap.size < w8.heap.size := by omega
  have d141 : frmT.Fx w2.heap.size w3.heap.size w8 [.int .i64 (placeV x0 x1 n2 x3).1, .int .i64 (placeV x0 x1 n2 x3).2.1, .slice ad19 (placeV x0 x1 n2 x3).2.2.length ad19'] (placeV x0 x1 n2 x3) := d112.below gw8
  have d142 : tplT.Fx w3.heap.size w4.heap.size w8 [.int .i64 x0.1, .slice ad45 x0.2.length ad45'] x0 := d113.below gw8
  have d143 : frmT.Fx (w4.heap.size + 1) w5.heap.size w8 [.int .i64 x1.1, .int .i64 x1.2.1, .slice ad65 x1.2.2.length ad65'] x1 := d114.below gw8
  have d144 : intsT.Fx (w5.heap.size + 1) w6.heap.size w8 [.slice ad90 x3.length ad90'] x3 := d115.below gw8
  have d145 : frmT.Fx w6.heap.size w7.heap.size w8 [.int .i64 (placeV x0 x1 n2 x3).1, .int .i64 (placeV x0 x1 n2 x3).2.1, .slice ad116 (placeV x0 x1 n2 x3).2.2.length ad116'] (placeV x0 x1 n2 x3) := d117.below gw8
  clear hb8 H_w7 f94 f95 f96 f97 f98 f99 f100 f101 f102 f103 f104 f105 f106 d112 d113 d114 d115 d117 z107 z108 z109 z110 z111 gw8
  rw [eqB_true rfl]
  go_wp2_with fail
  refine wp_region_loose [exV (.agg #[.int .i64 x0.1, .slice ad45 x0.2.length ad45']), exV (.agg #[.int .i64 x0.1, u0]), rdA tplT x0, exV (.bool true), exV (.bool false)] (by kernel_rfl) (by kernel_rfl) ⟨st_exV, st_exV, st_rdA, st_exV, st_exV, trivial⟩ ⟨?j17_0, ?j17_1, ?j17_2, ?j17_3, ?j17_4, trivial⟩ ?hQ17
  case j17_0 =>
    intro a' w' hb hd
    have e0 : a'.tmps[12]?.getD undef = .pointer (some ⟨w4.heap.size, 0, none⟩) := ev (slot_o hd 12 rfl rfl)
    have q : ∀ b o, b < w8.heap.size → w'.cell? ⟨b, o, none⟩ = w8.cell? ⟨b, o, none⟩ := (bcell hb).1
    go_simp
    exact ⟨Below.refl _ _, rfl⟩
  case j17_1 =>
    intro a' w' hb hd
    have e0 : a'.tmps[4]?.getD undef = .pointer (some ⟨w.heap.size, 0, none⟩) := ev (slot_o hd 4 rfl rfl)
    have q : ∀ b o, b < w8.heap.size → w'.cell? ⟨b, o, none⟩ = w8.cell? ⟨b, o, none⟩ := (bcell hb).1
    go_simp
    exact ⟨Below.refl _ _, rfl⟩
  case j17_2 =>
    intro a' w' hb hd
    have e70 : a'.tmps[70]?.getD undef = .agg #[.int .i64 x0.1, u0] := ev (slot_w hd 70 (exV (.agg #[.int .i64 x0.1, u0])) rfl rfl)
    have r70 : tplT.Rd w8 (#[.int .i64 x0.1, u0] : Array Value).toList x0 := hx0.below H_w8
    have r70' := r70.below hb
    go_simp
    exact ⟨Below.refl _ _, (toTemplate_any w' r70' (by first | omega | (unfold szInts; omega))).mono fun e w'' ⟨cs, he, hf, hb⟩ => ⟨_, he, hb, cs, rfl, hf.rd⟩⟩
  case j17_3 =>
    intro a' w' hb hd
    have e69 : a'.tmps[69]?.getD undef = .agg #[.int .i64 x0.1, .slice ad45 x0.2.length ad45'] := ev (slot_w hd 69 (exV (.agg #[.int .i64 x0.1, .slice ad45 x0.2.length ad45'])) rfl rfl)
    have r69 : tplT.Rd w8 (#[.int .i64 x0.1, .slice ad45 x0.2.length ad45'] : Array Value).toList x0 := d142.rd
    have r69' := r69.below hb
    have d71 := slot_w hd 71 (rdA tplT x0) rfl rfl
    obtain ⟨cs71, e71, hf71⟩ := d71
    have e71' := ev e71
    go_simp
    exact ⟨Below.refl _ _, (eqTemplate_any w' r69' hf71).mono fun e w'' ⟨he, hb⟩ => ⟨_, he, hb, exV_eqB⟩⟩
  case j17_4 =>
    intro a' w' hb hd
    have e0 : a'.tmps[72]?.getD undef = .bool true := ev (slot_w hd 72 (exV (.bool true)) rfl rfl)
    go_simp
    exact ⟨Below.refl _ _, rfl⟩
  intro vs17 w9 hb9 H0
  obtain ⟨v17_0, _, rfl, p0, H1⟩ := HAll_cons H0
  obtain ⟨v17_1, _, rfl, p1, H2⟩ := HAll_cons H1
  obtain ⟨v17_2, _, rfl, p2, H3⟩ := HAll_cons H2
  obtain ⟨v17_3, _, rfl, p3, H4⟩ := HAll_cons H3
  obtain ⟨v17_4, _, rfl, p4, H5⟩ := HAll_cons H4
  obtain rfl := HAll_nil H5
  obtain rfl := p0 rfl
  obtain rfl := p1 rfl
  obtain rfl := p3 rfl
  obtain rfl := p4 rfl
  clear p0 p1 p2 p3 p4 H0 H1 H2 H3 H4 H5
  have gw9 : Below w8.heap.size w8 w9 := bthen (by repeat (first | exact Below.refl _ _ | exact bA | assumption | refine Below.setCell ?_ (by first | omega | (simp; try omega)) _ | refine Below.alloc ?_ (by first | omega | (simp; try omega)) _ | refine Below.drew ?_ | refine bDN ?_ | refine bthen ?_ (by assumption))) hb9
  have sw9 : w8.heap.size + 0 ≤ w9.heap.size := by have := hb9.size; (try simp at this); omega
  have H_w9 : Below w.heap.size w w9 := bthen H_w8 gw9
  have f146 : w9.cell? ⟨w.heap.size, 0, none⟩ = some (.int .i64 x0.1) := (gw9.cell (by first | omega | (simp; try omega))).trans f119
  have f147 : w9.cell? ⟨w.heap.size, 1, none⟩ = some (u0) := (gw9.cell (by first | omega | (simp; try omega))).trans f120
  have f148 : w9.cell? ⟨w.heap.size + 1, 0, none⟩ = some (.int .i64 x1.1) := (gw9.cell (by first | omega | (simp; try omega))).trans f121
  have f149 : w9.cell? ⟨w.heap.size + 1, 1, none⟩ = some (.int .i64 x1.2.1) := (gw9.cell (by first | omega | (simp; try omega))).trans f122
  have f150 : w9.cell? ⟨w.heap.size + 1, 2, none⟩ = some (u1) := (gw9.cell (by first | omega | (simp; try omega))).trans f123
  have f151 : w9.cell? ⟨bb15, 0, none⟩ = some (.int .i64 (placeV x0 x1 n2 x3).1) := (gw9.cell (by first | omega | (simp; try omega))).trans f124
  have f152 : w9.cell? ⟨bb15, 1, none⟩ = some (.int .i64 (placeV x0 x1 n2 x3).2.1) := (gw9.cell (by first | omega | (simp; try omega))).trans f125
  have f153 : w9.cell? ⟨bb15, 2, none⟩ = some (.slice ad19 (placeV x0 x1 n2 x3).2.2.length ad19') := (gw9.cell (by first | omega | (simp; try omega))).trans f126
  have f154 : w9.cell? ⟨w4.heap.size, 0, none⟩ = some (.int .i64 x0.1) := (gw9.cell (by first | omega | (simp; try omega))).trans f127
  have f155 : w9.cell? ⟨w4.heap.size, 1, none⟩ = some (.slice ad45 x0.2.length ad45') := (gw9.cell (by first | omega | (simp; try omega))).trans f128
  have f156 : w9.cell? ⟨w5.heap.size, 0, none⟩ = some (.int .i64 x1.1) := (gw9.cell (by first | omega | (simp; try omega))).trans f129
  have f157 : w9.cell? ⟨w5.heap.size, 1, none⟩ = some (.int .i64 x1.2.1) := (gw9.cell (by first | omega | (simp; try omega))).trans f130
  have f158 : w9.cell? ⟨w5.heap.size, 2, none⟩ = some (.slice ad65 x1.2.2.length ad65') := (gw9.cell (by first | omega | (simp; try omega))).trans f131
  have f159 : w9.cell? ⟨w7.heap.size, 0, none⟩ = some (.int .i64 (placeV x0 x1 n2 x3).1) := (gw9.cell (by first | omega | (simp; try omega))).trans f132
  have f160 : w9.cell? ⟨w7.heap.size, 1, none⟩ = some (.int .i64 (placeV x0 x1 n2 x3).2.1) := (gw9.cell (by first | omega | (simp; try omega))).trans f133
  have f161 : w9.cell? ⟨w7.heap.size, 2, none⟩ = some (.slice ad116 (placeV x0 x1 n2 x3).2.2.length ad116') := (gw9.cell (by first | omega | (simp; try omega))).trans f134
  have z162 : w.heap.size < w9.heap.size := by omega
  have z163 : w.heap.size + 1 < w9.heap.size := by omega
  have z164 : bb15 < w9.heap.size := by omega
  have z165 : w4.heap.size < w9.heap.size := by omega
  have z166 : w5.heap.size < w9.heap.size := by omega
  have z167 : w7.heap.size < w9.heap.size := by omega
  have d168 : frmT.Fx w2.heap.size w3.heap.size w9 [.int .i64 (placeV x0 x1 n2 x3).1, .int .i64 (placeV x0 x1 n2 x3).2.1, .slice ad19 (placeV x0 x1 n2 x3).2.2.length ad19'] (placeV x0 x1 n2 x3) := d141.below gw9
  have d169 : tplT.Fx w3.heap.size w4.heap.size w9 [.int .i64 x0.1, .slice ad45 x0.2.length ad45'] x0 := d142.below gw9
  have d170 : frmT.Fx (w4.heap.size + 1) w5.heap.size w9 [.int .i64 x1.1, .int .i64 x1.2.1, .slice ad65 x1.2.2.length ad65'] x1 := d143.below gw9
  have d171 : intsT.Fx (w5.heap.size + 1) w6.heap.size w9 [.slice ad90 x3.length ad90'] x3 := d144.below gw9
  have d172 : frmT.Fx w6.heap.size w7.heap.size w9 [.int .i64 (placeV x0 x1 n2 x3).1, .int .i64 (placeV x0 x1 n2 x3).2.1, .slice ad116 (placeV x0 x1 n2 x3).2.2.length ad116'] (placeV x0 x1 n2 x3) := d145.below gw9
  clear hb9 H_w8 f119 f120 f121 f122 f123 f124 f125 f126 f127 f128 f129 f130 f131 f132 f133 f134 d141 d142 d143 d144 d145 z135 z136 z137 z138 z139 z140 gw9
  simp only [putAll, Act.put]
  go_simp
  go_wp2_with fail
  refine wp_region_loose [exV (.agg #[.int .i64 x1.1, .int .i64 x1.2.1, .slice ad65 x1.2.2.length ad65']), exV (.agg #[.int .i64 x1.1, .int .i64 x1.2.1, u1]), rdA frmT x1, exV (.bool true), exV (.bool false)] (by kernel_rfl) (by kernel_rfl) ⟨st_exV, st_exV, st_rdA, st_exV, st_exV, trivial⟩ ⟨?j19_0, ?j19_1, ?j19_2, ?j19_3, ?j19_4, trivial⟩ ?hQ19
  case j19_0 =>
    intro a' w' hb hd
    have e0 : a'.tmps[13]?.getD undef = .pointer (some ⟨w5.heap.size, 0, none⟩) := ev (slot_o hd 13 rfl rfl)
    have q : ∀ b o, b < w9.heap.size → w'.cell? ⟨b, o, none⟩ = w9.cell? ⟨b, o, none⟩ := (bcell hb).1
    go_simp
    exact ⟨Below.refl _ _, rfl⟩
  case j19_1 =>
    intro a' w' hb hd
    have e0 : a'.tmps[5]?.getD undef = .pointer (some ⟨w.heap.size + 1, 0, none⟩) := ev (slot_o hd 5 rfl rfl)
    have q : ∀ b o, b < w9.heap.size → w'.cell? ⟨b, o, none⟩ = w9.cell? ⟨b, o, none⟩ := (bcell hb).1
    go_simp
    exact ⟨Below.refl _ _, rfl⟩
  case j19_2 =>
    intro a' w' hb hd
    have e75 : a'.tmps[75]?.getD undef = .agg #[.int .i64 x1.1, .int .i64 x1.2.1, u1] := ev (slot_w hd 75 (exV (.agg #[.int .i64 x1.1, .int .i64 x1.2.1, u1])) rfl rfl)
    have r75 : frmT.Rd w9 (#[.int .i64 x1.1, .int .i64 x1.2.1, u1] : Array Value).toList x1 := hx1.below H_w9
    have r75' := r75.below hb
    go_simp
    exact ⟨Below.refl _ _, (toFormula_any w' r75' (by first | omega | (unfold szInts; omega))).mono fun e w'' ⟨cs, he, hf, hb⟩ => ⟨_, he, hb, cs, rfl, hf.rd⟩⟩
  case j19_3 =>
    intro a' w' hb hd
    have e74 : a'.tmps[74]?.getD undef = .agg #[.int .i64 x1.1, .int .i64 x1.2.1, .slice ad65 x1.2.2.length ad65'] := ev (slot_w hd 74 (exV (.agg #[.int .i64 x1.1, .int .i64 x1.2.1, .slice ad65 x1.2.2.length ad65'])) rfl rfl)
    have r74 : frmT.Rd w9 (#[.int .i64 x1.1, .int .i64 x1.2.1, .slice ad65 x1.2.2.length ad65'] : Array Value).toList x1 := d170.rd
    have r74' := r74.below hb
    have d76 := slot_w hd 76 (rdA frmT x1) rfl rfl
    obtain ⟨cs76, e76, hf76⟩ := d76
    have e76' := ev e76
    go_simp
    exact ⟨Below.refl _ _, (eqFormula_any w' r74' hf76).mono fun e w'' ⟨he, hb⟩ => ⟨_, he, hb, exV_eqB⟩⟩
  case j19_4 =>
    intro a' w' hb hd
    have e0 : a'.tmps[77]?.getD undef = .bool true := ev (slot_w hd 77 (exV (.bool true)) rfl rfl)
    go_simp
    exact ⟨Below.refl _ _, rfl⟩
  intro vs19 w10 hb10 H0
  obtain ⟨v19_0, _, rfl, p0, H1⟩ := HAll_cons H0
  obtain ⟨v19_1, _, rfl, p1, H2⟩ := HAll_cons H1
  obtain ⟨v19_2, _, rfl, p2, H3⟩ := HAll_cons H2
  obtain ⟨v19_3, _, rfl, p3, H4⟩ := HAll_cons H3
  obtain ⟨v19_4, _, rfl, p4, H5⟩ := HAll_cons H4
  obtain rfl := HAll_nil H5
  obtain rfl := p0 rfl
  obtain rfl := p1 rfl
  obtain rfl := p3 rfl
  obtain rfl := p4 rfl
  clear p0 p1 p2 p3 p4 H0 H1 H2 H3 H4 H5
  have gw10 : Below w9.heap.size w9 w10 := bthen (by repeat (first | exact Below.refl _ _ | exact bA | assumption | refine Below.setCell ?_ (by first | omega | (simp; try omega)) _ | refine Below.alloc ?_ (by first | omega | (simp; try omega)) _ | refine Below.drew ?_ | refine bDN ?_ | refine bthen ?_ (by assumption))) hb10
  have sw10 : w9.heap.size + 0 ≤ w10.heap.size := by have := hb10.size; (try simp at this); omega
  have H_w10 : Below w.heap.size w w10 := bthen H_w9 gw10
  have f173 : w10.cell? ⟨w.heap.size, 0, none⟩ = some (.int .i64 x0.1) := (gw10.cell (by first | omega | (simp; try omega))).trans f146
  have f174 : w10.cell? ⟨w.heap.size, 1, none⟩ = some (u0) := (gw10.cell (by first | omega | (simp; try omega))).trans f147
  have f175 : w10.cell? ⟨w.heap.size + 1, 0, none⟩ = some (.int .i64 x1.1) := (gw10.cell (by first | omega | (simp; try omega))).trans f148
  have f176 : w10.cell? ⟨w.heap.size + 1, 1, none⟩ = some (.int .i64 x1.2.1) := (gw10.cell (by first | omega | (simp; try omega))).trans f149
  have f177 : w10.cell? ⟨w.heap.size + 1, 2, none⟩ = some (u1) := (gw10.cell (by first | omega | (simp; try omega))).trans f150
  have f178 : w10.cell? ⟨bb15, 0, none⟩ = some (.int .i64 (placeV x0 x1 n2 x3).1) := (gw10.cell (by first | omega | (simp; try omega))).trans f151
  have f179 : w10.cell? ⟨bb15, 1, none⟩ = some (.int .i64 (placeV x0 x1 n2 x3).2.1) := (gw10.cell (by first | omega | (simp; try omega))).trans f152
  have f180 : w10.cell? ⟨bb15, 2, none⟩ = some (.slice ad19 (placeV x0 x1 n2 x3).2.2.length ad19') := (gw10.cell (by first | omega | (simp; try omega))).trans f153
  have f181 : w10.cell? ⟨w4.heap.size, 0, none⟩ = some (.int .i64 x0.1) := (gw10.cell (by first | omega | (simp; try omega))).trans f154
  have f182 : w10.cell? ⟨w4.heap.size, 1, none⟩ = some (.slice ad45 x0.2.length ad45') := (gw10.cell (by first | omega | (simp; try omega))).trans f155
  have f183 : w10.cell? ⟨w5.heap.size, 0, none⟩ = some (.int .i64 x1.1) := (gw10.cell (by first | omega | (simp; try omega))).trans f156
  have f184 : w10.cell? ⟨w5.heap.size, 1, none⟩ = some (.int .i64 x1.2.1) := (gw10.cell (by first | omega | (simp; try omega))).trans f157
  have f185 : w10.cell? ⟨w5.heap.size, 2, none⟩ = some (.slice ad65 x1.2.2.length ad65') := (gw10.cell (by first | omega | (simp; try omega))).trans f158
  have f186 : w10.cell? ⟨w7.heap.size, 0, none⟩ = some (.int .i64 (placeV x0 x1 n2 x3).1) := (gw10.cell (by first | omega | (simp; try omega))).trans f159
  have f187 : w10.cell? ⟨w7.heap.size, 1, none⟩ = some (.int .i64 (placeV x0 x1 n2 x3).2.1) := (gw10.cell (by first | omega | (simp; try omega))).trans f160
  have f188 : w10.cell? ⟨w7.heap.size, 2, none⟩ = some (.slice ad116 (placeV x0 x1 n2 x3).2.2.length ad116') := (gw10.cell (by first | omega | (simp; try omega))).trans f161
  have z189 : w.heap.size < w10.heap.size := by omega
  have z190 : w.heap.size + 1 < w10.heap.size := by omega
  have z191 : bb15 < w10.heap.size := by omega
  have z192 : w4.heap.size < w10.heap.size := by omega
  have z193 : w5.heap.size < w10.heap.size := by omega
  have z194 : w7.heap.size < w10.heap.size := by omega
  have d195 : frmT.Fx w2.heap.size w3.heap.size w10 [.int .i64 (placeV x0 x1 n2 x3).1, .int .i64 (placeV x0 x1 n2 x3).2.1, .slice ad19 (placeV x0 x1 n2 x3).2.2.length ad19'] (placeV x0 x1 n2 x3) := d168.below gw10
  have d196 : tplT.Fx w3.heap.size w4.heap.size w10 [.int .i64 x0.1, .slice ad45 x0.2.length ad45'] x0 := d169.below gw10
  have d197 : frmT.Fx (w4.heap.size + 1) w5.heap.size w10 [.int .i64 x1.1, .int .i64 x1.2.1, .slice ad65 x1.2.2.length ad65'] x1 := d170.below gw10
  have d198 : intsT.Fx (w5.heap.size + 1) w6.heap.size w10 [.slice ad90 x3.length ad90'] x3 := d171.below gw10
  have d199 : frmT.Fx w6.heap.size w7.heap.size w10 [.int .i64 (placeV x0 x1 n2 x3).1, .int .i64 (placeV x0 x1 n2 x3).2.1, .slice ad116 (placeV x0 x1 n2 x3).2.2.length ad116'] (placeV x0 x1 n2 x3) := d172.below gw10
  clear hb10 H_w9 f146 f147 f148 f149 f150 f151 f152 f153 f154 f155 f156 f157 f158 f159 f160 f161 d168 d169 d170 d171 d172 z162 z163 z164 z165 z166 z167 gw10
  simp only [putAll, Act.put]
  go_simp
  go_wp2_with fail
  refine (toInt64S_any _ (hx3.below (by repeat (first | exact Below.refl _ _ | exact bA | assumption | refine Below.setCell ?_ (by first | omega | (simp; try omega)) _ | refine Below.alloc ?_ (by first | omega | (simp; try omega)) _ | refine Below.drew ?_ | refine bDN ?_ | refine bthen ?_ (by assumption)))) (by first | omega | (unfold szInts; omega))).mono ?_
  rintro e w11 ⟨cs, rfl, hc200, hb11⟩
  have gw11 : Below w10.heap.size w10 w11 := bthen (by repeat (first | exact Below.refl _ _ | exact bA | assumption | refine Below.setCell ?_ (by first | omega | (simp; try omega)) _ | refine Below.alloc ?_ (by first | omega | (simp; try omega)) _ | refine Below.drew ?_ | refine bDN ?_ | refine bthen ?_ (by assumption))) hb11
  have sw11 : w10.heap.size + 0 ≤ w11.heap.size := by have := hb11.size; (try simp at this); omega
  have H_w11 : Below w.heap.size w w11 := bthen H_w10 gw11
  have f201 : w11.cell? ⟨w.heap.size, 0, none⟩ = some (.int .i64 x0.1) := (gw11.cell (by first | omega | (simp; try omega))).trans f173
  have f202 : w11.cell? ⟨w.heap.size, 1, none⟩ = some (u0) := (gw11.cell (by first | omega | (simp; try omega))).trans f174
  have f203 : w11.cell? ⟨w.heap.size + 1, 0, none⟩ = some (.int .i64 x1.1) := (gw11.cell (by first | omega | (simp; try omega))).trans f175
  have f204 : w11.cell? ⟨w.heap.size + 1, 1, none⟩ = some (.int .i64 x1.2.1) := (gw11.cell (by first | omega | (simp; try omega))).trans f176
  have f205 : w11.cell? ⟨w.heap.size + 1, 2, none⟩ = some (u1) := (gw11.cell (by first | omega | (simp; try omega))).trans f177
  have f206 : w11.cell? ⟨bb15, 0, none⟩ = some (.int .i64 (placeV x0 x1 n2 x3).1) := (gw11.cell (by first | omega | (simp; try omega))).trans f178
  have f207 : w11.cell? ⟨bb15, 1, none⟩ = some (.int .i64 (placeV x0 x1 n2 x3).2.1) := (gw11.cell (by first | omega | (simp; try omega))).trans f179
  have f208 : w11.cell? ⟨bb15, 2, none⟩ = some (.slice ad19 (placeV x0 x1 n2 x3).2.2.length ad19') := (gw11.cell (by first | omega | (simp; try omega))).trans f180
  have f209 : w11.cell? ⟨w4.heap.size, 0, none⟩ = some (.int .i64 x0.1) := (gw11.cell (by first | omega | (simp; try omega))).trans f181
  have f210 : w11.cell? ⟨w4.heap.size, 1, none⟩ = some (.slice ad45 x0.2.length ad45') := (gw11.cell (by first | omega | (simp; try omega))).trans f182
  have f211 : w11.cell? ⟨w5.heap.size, 0, none⟩ = some (.int .i64 x1.1) := (gw11.cell (by first | omega | (simp; try omega))).trans f183
  have f212 : w11.cell? ⟨w5.heap.size, 1, none⟩ = some (.int .i64 x1.2.1) := (gw11.cell (by first | omega | (simp; try omega))).trans f184
  have f213 : w11.cell? ⟨w5.heap.size, 2, none⟩ = some (.slice ad65 x1.2.2.length ad65') := (gw11.cell (by first | omega | (simp; try omega))).trans f185
  have f214 : w11.cell? ⟨w7.heap.size, 0, none⟩ = some (.int .i64 (placeV x0 x1 n2 x3).1) := (gw11.cell (by first | omega | (simp; try omega))).trans f186
  have f215 : w11.cell? ⟨w7.heap.size, 1, none⟩ = some (.int .i64 (placeV x0 x1 n2 x3).2.1) := (gw11.cell (by first | omega | (simp; try omega))).trans f187
  have f216 : w11.cell? ⟨w7.heap.size, 2, none⟩ = some (.slice ad116 (placeV x0 x1 n2 x3).2.2.length ad116') := (gw11.cell (by first | omega | (simp; try omega))).trans f188
  have z217 : w.heap.size < w11.heap.size := by omega
  have z218 : w.heap.size + 1 < w11.heap.size := by omega
  have z219 : bb15 < w11.heap.size := by omega
  have z220 : w4.heap.size < w11.heap.size := by omega
  have z221 : w5.heap.size < w11.heap.size := by omega
  have z222 : w7.heap.size < w11.heap.size := by omega
  have d223 : frmT.Fx w2.heap.size w3.heap.size w11 [.int .i64 (placeV x0 x1 n2 x3).1, .int .i64 (placeV x0 x1 n2 x3).2.1, .slice ad19 (placeV x0 x1 n2 x3).2.2.length ad19'] (placeV x0 x1 n2 x3) := d195.below gw11
  have d224 : tplT.Fx w3.heap.size w4.heap.size w11 [.int .i64 x0.1, .slice ad45 x0.2.length ad45'] x0 := d196.below gw11
  have d225 : frmT.Fx (w4.heap.size + 1) w5.heap.size w11 [.int .i64 x1.1, .int .i64 x1.2.1, .slice ad65 x1.2.2.length ad65'] x1 := d197.below gw11
  have d226 : intsT.Fx (w5.heap.size + 1) w6.heap.size w11 [.slice ad90 x3.length ad90'] x3 := d198.below gw11
  have d227 : frmT.Fx w6.heap.size w7.heap.size w11 [.int .i64 (placeV x0 x1 n2 x3).1, .int .i64 (placeV x0 x1 n2 x3).2.1, .slice ad116 (placeV x0 x1 n2 x3).2.2.length ad116'] (placeV x0 x1 n2 x3) := d199.below gw11
  clear hb11 H_w10 f173 f174 f175 f176 f177 f178 f179 f180 f181 f182 f183 f184 f185 f186 f187 f188 d195 d196 d197 d198 d199 z189 z190 z191 z192 z193 z194 gw11
  obtain ⟨ad228, ad228', rfl⟩ := fr_slice hc200
  have d229 : intsT.Fx w10.heap.size w11.heap.size w11 [.slice ad228 x3.length ad228'] x3 := (Ty.Fr.mono hc200 (by first | exact Nat.le_refl _ | (simp; try omega))).fx
  clear hc200
  go_wp2_with fail
  refine (eqInt64S_any _ (d226.rd.below (by repeat (first | exact Below.refl _ _ | exact bA | assumption | refine Below.setCell ?_ (by first | omega | (simp; try omega)) _ | refine Below.alloc ?_ (by first | omega | (simp; try omega)) _ | refine Below.drew ?_ | refine bDN ?_ | refine bthen ?_ (by assumption)))) (d229.rd.below (by repeat (first | exact Below.refl _ _ | exact bA | assumption | refine Below.setCell ?_ (by first | omega | (simp; try omega)) _ | refine Below.alloc ?_ (by first | omega | (simp; try omega)) _ | refine Below.drew ?_ | refine bDN ?_ | refine bthen ?_ (by assumption))))).mono ?_
  rintro e w12 ⟨rfl, hb12⟩
  have gw12 : Below w11.heap.size w11 w12 := bthen (by repeat (first | exact Below.refl _ _ | exact bA | assumption | refine Below.setCell ?_ (by first | omega | (simp; try omega)) _ | refine Below.alloc ?_ (by first | omega | (simp; try omega)) _ | refine Below.drew ?_ | refine bDN ?_ | refine bthen ?_ (by assumption))) hb12
  have sw12 : w11.heap.size + 0 ≤ w12.heap.size := by have := hb12.size; (try simp at this); omega
  have H_w12 : Below w.heap.size w w12 := bthen H_w11 gw12
  have f231 : w12.cell? ⟨w.heap.size, 0, none⟩ = some (.int .i64 x0.1) := (gw12.cell (by first | omega | (simp; try omega))).trans f201
  have f232 : w12.cell? ⟨w.heap.size, 1, none⟩ = some (u0) := (gw12.cell (by first | omega | (simp; try omega))).trans f202
  have f233 : w12.cell? ⟨w.heap.size + 1, 0, none⟩ = some (.int .i64 x1.1) := (gw12.cell (by first | omega | (simp; try omega))).trans f203
  have f234 : w12.cell? ⟨w.heap.size + 1, 1, none⟩ = some (.int .i64 x1.2.1) := (gw12.cell (by first | omega | (simp; try omega))).trans f204
  have f235 : w12.cell? ⟨w.heap.size + 1, 2, none⟩ = some (u1) := (gw12.cell (by first | omega | (simp; try omega))).trans f205
  have f236 : w12.cell? ⟨bb15, 0, none⟩ = some (.int .i64 (placeV x0 x1 n2 x3).1) := (gw12.cell (by first | omega | (simp; try omega))).trans f206
  have f237 : w12.cell? ⟨bb15, 1, none⟩ = some (.int .i64 (placeV x0 x1 n2 x3).2.1) := (gw12.cell (by first | omega | (simp; try omega))).trans f207
  have f238 : w12.cell? ⟨bb15, 2, none⟩ = some (.slice ad19 (placeV x0 x1 n2 x3).2.2.length ad19') := (gw12.cell (by first | omega | (simp; try omega))).trans f208
  have f239 : w12.cell? ⟨w4.heap.size, 0, none⟩ = some (.int .i64 x0.1) := (gw12.cell (by first | omega | (simp; try omega))).trans f209
  have f240 : w12.cell? ⟨w4.heap.size, 1, none⟩ = some (.slice ad45 x0.2.length ad45') := (gw12.cell (by first | omega | (simp; try omega))).trans f210
  have f241 : w12.cell? ⟨w5.heap.size, 0, none⟩ = some (.int .i64 x1.1) := (gw12.cell (by first | omega | (simp; try omega))).trans f211
  have f242 : w12.cell? ⟨w5.heap.size, 1, none⟩ = some (.int .i64 x1.2.1) := (gw12.cell (by first | omega | (simp; try omega))).trans f212
  have f243 : w12.cell? ⟨w5.heap.size, 2, none⟩ = some (.slice ad65 x1.2.2.length ad65') := (gw12.cell (by first | omega | (simp; try omega))).trans f213
  have f244 : w12.cell? ⟨w7.heap.size, 0, none⟩ = some (.int .i64 (placeV x0 x1 n2 x3).1) := (gw12.cell (by first | omega | (simp; try omega))).trans f214
  have f245 : w12.cell? ⟨w7.heap.size, 1, none⟩ = some (.int .i64 (placeV x0 x1 n2 x3).2.1) := (gw12.cell (by first | omega | (simp; try omega))).trans f215
  have f246 : w12.cell? ⟨w7.heap.size, 2, none⟩ = some (.slice ad116 (placeV x0 x1 n2 x3).2.2.length ad116') := (gw12.cell (by first | omega | (simp; try omega))).trans f216
  have z247 : w.heap.size < w12.heap.size := by omega
  have z248 : w.heap.size + 1 < w12.heap.size := by omega
  have z249 : bb15 < w12.heap.size := by omega
  have z250 : w4.heap.size < w12.heap.size := by omega
  have z251 : w5.heap.size < w12.heap.size := by omega
  have z252 : w7.heap.size < w12.heap.size := by omega
  have d253 : frmT.Fx w2.heap.size w3.heap.size w12 [.int .i64 (placeV x0 x1 n2 x3).1, .int .i64 (placeV x0 x1 n2 x3).2.1, .slice ad19 (placeV x0 x1 n2 x3).2.2.length ad19'] (placeV x0 x1 n2 x3) := d223.below gw12
  have d254 : tplT.Fx w3.heap.size w4.heap.size w12 [.int .i64 x0.1, .slice ad45 x0.2.length ad45'] x0 := d224.below gw12
  have d255 : frmT.Fx (w4.heap.size + 1) w5.heap.size w12 [.int .i64 x1.1, .int .i64 x1.2.1, .slice ad65 x1.2.2.length ad65'] x1 := d225.below gw12
  have d256 : intsT.Fx (w5.heap.size + 1) w6.heap.size w12 [.slice ad90 x3.length ad90'] x3 := d226.below gw12
  have d257 : frmT.Fx w6.heap.size w7.heap.size w12 [.int .i64 (placeV x0 x1 n2 x3).1, .int .i64 (placeV x0 x1 n2 x3).2.1, .slice ad116 (placeV x0 x1 n2 x3).2.2.length ad116'] (placeV x0 x1 n2 x3) := d227.below gw12
  have d258 : intsT.Fx w10.heap.size w11.heap.size w12 [.slice ad228 x3.length ad228'] x3 := d229.below gw12
  clear hb12 H_w11 f201 f202 f203 f204 f205 f206 f207 f208 f209 f210 f211 f212 f213 f214 f215 f216 d223 d224 d225 d226 d227 d229 z217 z218 z219 z220 z221 z222 gw12
  rw [eqB_true rfl]
  go_wp2_with fail
  refine (markTemplate_fx _ d254 _ (by omega) (by omega)).mono ?_
  rintro e w13 ⟨rfl, hb13, d259⟩
  clear d254
  have sw13 : w12.heap.size ≤ w13.heap.size := hb13.size
  have H_w13 : Below w.heap.size w w13 := below_tch H_w12 hb13 (by omega) (by omega)
  have f260 : w13.cell? ⟨w.heap.size, 0, none⟩ = some (.int .i64 x0.1) := (hb13.cell (by omega) (by omega)).trans f231
  have f261 : w13.cell? ⟨w.heap.size, 1, none⟩ = some (u0) := (hb13.cell (by omega) (by omega)).trans f232
  have f262 : w13.cell? ⟨w.heap.size + 1, 0, none⟩ = some (.int .i64 x1.1) := (hb13.cell (by omega) (by omega)).trans f233
  have f263 : w13.cell? ⟨w.heap.size + 1, 1, none⟩ = some (.int .i64 x1.2.1) := (hb13.cell (by omega) (by omega)).trans f234
  have f264 : w13.cell? ⟨w.heap.size + 1, 2, none⟩ = some (u1) := (hb13.cell (by omega) (by omega)).trans f235
  have f265 : w13.cell? ⟨bb15, 0, none⟩ = some (.int .i64 (placeV x0 x1 n2 x3).1) := (hb13.cell (by omega) (by omega)).trans f236
  have f266 : w13.cell? ⟨bb15, 1, none⟩ = some (.int .i64 (placeV x0 x1 n2 x3).2.1) := (hb13.cell (by omega) (by omega)).trans f237
  have f267 : w13.cell? ⟨bb15, 2, none⟩ = some (.slice ad19 (placeV x0 x1 n2 x3).2.2.length ad19') := (hb13.cell (by omega) (by omega)).trans f238
  have f268 : w13.cell? ⟨w4.heap.size, 0, none⟩ = some (.int .i64 x0.1) := (hb13.cell (by omega) (by omega)).trans f239
  have f269 : w13.cell? ⟨w4.heap.size, 1, none⟩ = some (.slice ad45 x0.2.length ad45') := (hb13.cell (by omega) (by omega)).trans f240
  have f270 : w13.cell? ⟨w5.heap.size, 0, none⟩ = some (.int .i64 x1.1) := (hb13.cell (by omega) (by omega)).trans f241
  have f271 : w13.cell? ⟨w5.heap.size, 1, none⟩ = some (.int .i64 x1.2.1) := (hb13.cell (by omega) (by omega)).trans f242
  have f272 : w13.cell? ⟨w5.heap.size, 2, none⟩ = some (.slice ad65 x1.2.2.length ad65') := (hb13.cell (by omega) (by omega)).trans f243
  have f273 : w13.cell? ⟨w7.heap.size, 0, none⟩ = some (.int .i64 (placeV x0 x1 n2 x3).1) := (hb13.cell (by omega) (by omega)).trans f244
  have f274 : w13.cell? ⟨w7.heap.size, 1, none⟩ = some (.int .i64 (placeV x0 x1 n2 x3).2.1) := (hb13.cell (by omega) (by omega)).trans f245
  have f275 : w13.cell? ⟨w7.heap.size, 2, none⟩ = some (.slice ad116 (placeV x0 x1 n2 x3).2.2.length ad116') := (hb13.cell (by omega) (by omega)).trans f246
  have z276 : w.heap.size < w13.heap.size := by omega
  have z277 : w.heap.size + 1 < w13.heap.size := by omega
  have z278 : bb15 < w13.heap.size := by omega
  have z279 : w4.heap.size < w13.heap.size := by omega
  have z280 : w5.heap.size < w13.heap.size := by omega
  have z281 : w7.heap.size < w13.heap.size := by omega
  have d282 : frmT.Fx w2.heap.size w3.heap.size w13 [.int .i64 (placeV x0 x1 n2 x3).1, .int .i64 (placeV x0 x1 n2 x3).2.1, .slice ad19 (placeV x0 x1 n2 x3).2.2.length ad19'] (placeV x0 x1 n2 x3) := d253.tch hb13 (by omega)
  have d283 : frmT.Fx (w4.heap.size + 1) w5.heap.size w13 [.int .i64 x1.1, .int .i64 x1.2.1, .slice ad65 x1.2.2.length ad65'] x1 := d255.tch hb13 (by omega)
  have d284 : intsT.Fx (w5.heap.size + 1) w6.heap.size w13 [.slice ad90 x3.length ad90'] x3 := d256.tch hb13 (by omega)
  have d285 : frmT.Fx w6.heap.size w7.heap.size w13 [.int .i64 (placeV x0 x1 n2 x3).1, .int .i64 (placeV x0 x1 n2 x3).2.1, .slice ad116 (placeV x0 x1 n2 x3).2.2.length ad116'] (placeV x0 x1 n2 x3) := d257.tch hb13 (by omega)
  have d286 : intsT.Fx w10.heap.size w11.heap.size w13 [.slice ad228 x3.length ad228'] x3 := d258.tch hb13 (by omega)
  clear hb13 H_w12 f231 f232 f233 f234 f235 f236 f237 f238 f239 f240 f241 f242 f243 f244 f245 f246 d253 d255 d256 d257 d258 z247 z248 z249 z250 z251 z252
  have hk287 : 0 ≤ (1 + cntTpl x0) := by omega
  go_wp2_with fail
  refine (markFormula_fx _ d283 _ (by omega) (by omega)).mono ?_
  rintro e w14 ⟨rfl, hb14, d288⟩
  clear d283
  have sw14 : w13.heap.size ≤ w14.heap.size := hb14.size
  have H_w14 : Below w.heap.size w w14 := below_tch H_w13 hb14 (by omega) (by omega)
  have f289 : w14.cell? ⟨w.heap.size, 0, none⟩ = some (.int .i64 x0.1) := (hb14.cell (by omega) (by omega)).trans f260
  have f290 : w14.cell? ⟨w.heap.size, 1, none⟩ = some (u0) := (hb14.cell (by omega) (by omega)).trans f261
  have f291 : w14.cell? ⟨w.heap.size + 1, 0, none⟩ = some (.int .i64 x1.1) := (hb14.cell (by omega) (by omega)).trans f262
  have f292 : w14.cell? ⟨w.heap.size + 1, 1, none⟩ = some (.int .i64 x1.2.1) := (hb14.cell (by omega) (by omega)).trans f263
  have f293 : w14.cell? ⟨w.heap.size + 1, 2, none⟩ = some (u1) := (hb14.cell (by omega) (by omega)).trans f264
  have f294 : w14.cell? ⟨bb15, 0, none⟩ = some (.int .i64 (placeV x0 x1 n2 x3).1) := (hb14.cell (by omega) (by omega)).trans f265
  have f295 : w14.cell? ⟨bb15, 1, none⟩ = some (.int .i64 (placeV x0 x1 n2 x3).2.1) := (hb14.cell (by omega) (by omega)).trans f266
  have f296 : w14.cell? ⟨bb15, 2, none⟩ = some (.slice ad19 (placeV x0 x1 n2 x3).2.2.length ad19') := (hb14.cell (by omega) (by omega)).trans f267
  have f297 : w14.cell? ⟨w4.heap.size, 0, none⟩ = some (.int .i64 x0.1) := (hb14.cell (by omega) (by omega)).trans f268
  have f298 : w14.cell? ⟨w4.heap.size, 1, none⟩ = some (.slice ad45 x0.2.length ad45') := (hb14.cell (by omega) (by omega)).trans f269
  have f299 : w14.cell? ⟨w5.heap.size, 0, none⟩ = some (.int .i64 x1.1) := (hb14.cell (by omega) (by omega)).trans f270
  have f300 : w14.cell? ⟨w5.heap.size, 1, none⟩ = some (.int .i64 x1.2.1) := (hb14.cell (by omega) (by omega)).trans f271
  have f301 : w14.cell? ⟨w5.heap.size, 2, none⟩ = some (.slice ad65 x1.2.2.length ad65') := (hb14.cell (by omega) (by omega)).trans f272
  have f302 : w14.cell? ⟨w7.heap.size, 0, none⟩ = some (.int .i64 (placeV x0 x1 n2 x3).1) := (hb14.cell (by omega) (by omega)).trans f273
  have f303 : w14.cell? ⟨w7.heap.size, 1, none⟩ = some (.int .i64 (placeV x0 x1 n2 x3).2.1) := (hb14.cell (by omega) (by omega)).trans f274
  have f304 : w14.cell? ⟨w7.heap.size, 2, none⟩ = some (.slice ad116 (placeV x0 x1 n2 x3).2.2.length ad116') := (hb14.cell (by omega) (by omega)).trans f275
  have z305 : w.heap.size < w14.heap.size := by omega
  have z306 : w.heap.size + 1 < w14.heap.size := by omega
  have z307 : bb15 < w14.heap.size := by omega
  have z308 : w4.heap.size < w14.heap.size := by omega
  have z309 : w5.heap.size < w14.heap.size := by omega
  have z310 : w7.heap.size < w14.heap.size := by omega
  have d311 : frmT.Fx w2.heap.size w3.heap.size w14 [.int .i64 (placeV x0 x1 n2 x3).1, .int .i64 (placeV x0 x1 n2 x3).2.1, .slice ad19 (placeV x0 x1 n2 x3).2.2.length ad19'] (placeV x0 x1 n2 x3) := d282.tch hb14 (by omega)
  have d312 : tplT.Fx w3.heap.size w4.heap.size w14 [.int .i64 x0.1, .slice ad45 x0.2.length ad45'] (mkTpl 1 x0) := d259.tch hb14 (by omega)
  have d313 : intsT.Fx (w5.heap.size + 1) w6.heap.size w14 [.slice ad90 x3.length ad90'] x3 := d284.tch hb14 (by omega)
  have d314 : frmT.Fx w6.heap.size w7.heap.size w14 [.int .i64 (placeV x0 x1 n2 x3).1, .int .i64 (placeV x0 x1 n2 x3).2.1, .slice ad116 (placeV x0 x1 n2 x3).2.2.length ad116'] (placeV x0 x1 n2 x3) := d285.tch hb14 (by omega)
  have d315 : intsT.Fx w10.heap.size w11.heap.size w14 [.slice ad228 x3.length ad228'] x3 := d286.tch hb14 (by omega)
  clear hb14 H_w13 f260 f261 f262 f263 f264 f265 f266 f267 f268 f269 f270 f271 f272 f273 f274 f275 d282 d259 d284 d285 d286 z276 z277 z278 z279 z280 z281
  have hk316 : 0 ≤ ((1 + cntTpl x0) + cntFrm x1) := by omega
  go_wp2_with fail
  refine (markInt64S_fx _ d313 _ (by omega) (by omega)).mono ?_
  rintro e w15 ⟨rfl, hb15, d317⟩
  clear d313
  have sw15 : w14.heap.size ≤ w15.heap.size := hb15.size
  have H_w15 : Below w.heap.size w w15 := below_tch H_w14 hb15 (by omega) (by omega)
  have f318 : w15.cell? ⟨w.heap.size, 0, none⟩ = some (.int .i64 x0.1) := (hb15.cell (by omega) (by omega)).trans f289
  have f319 : w15.cell? ⟨w.heap.size, 1, none⟩ = some (u0) := (hb15.cell (by omega) (by omega)).trans f290
  have f320 : w15.cell? ⟨w.heap.size + 1, 0, none⟩ = some (.int .i64 x1.1) := (hb15.cell (by omega) (by omega)).trans f291
  have f321 : w15.cell? ⟨w.heap.size + 1, 1, none⟩ = some (.int .i64 x1.2.1) := (hb15.cell (by omega) (by omega)).trans f292
  have f322 : w15.cell? ⟨w.heap.size + 1, 2, none⟩ = some (u1) := (hb15.cell (by omega) (by omega)).trans f293
  have f323 : w15.cell? ⟨bb15, 0, none⟩ = some (.int .i64 (placeV x0 x1 n2 x3).1) := (hb15.cell (by omega) (by omega)).trans f294
  have f324 : w15.cell? ⟨bb15, 1, none⟩ = some (.int .i64 (placeV x0 x1 n2 x3).2.1) := (hb15.cell (by omega) (by omega)).trans f295
  have f325 : w15.cell? ⟨bb15, 2, none⟩ = some (.slice ad19 (placeV x0 x1 n2 x3).2.2.length ad19') := (hb15.cell (by omega) (by omega)).trans f296
  have f326 : w15.cell? ⟨w4.heap.size, 0, none⟩ = some (.int .i64 x0.1) := (hb15.cell (by omega) (by omega)).trans f297
  have f327 : w15.cell? ⟨w4.heap.size, 1, none⟩ = some (.slice ad45 x0.2.length ad45') := (hb15.cell (by omega) (by omega)).trans f298
  have f328 : w15.cell? ⟨w5.heap.size, 0, none⟩ = some (.int .i64 x1.1) := (hb15.cell (by omega) (by omega)).trans f299
  have f329 : w15.cell? ⟨w5.heap.size, 1, none⟩ = some (.int .i64 x1.2.1) := (hb15.cell (by omega) (by omega)).trans f300
  have f330 : w15.cell? ⟨w5.heap.size, 2, none⟩ = some (.slice ad65 x1.2.2.length ad65') := (hb15.cell (by omega) (by omega)).trans f301
  have f331 : w15.cell? ⟨w7.heap.size, 0, none⟩ = some (.int .i64 (placeV x0 x1 n2 x3).1) := (hb15.cell (by omega) (by omega)).trans f302
  have f332 : w15.cell? ⟨w7.heap.size, 1, none⟩ = some (.int .i64 (placeV x0 x1 n2 x3).2.1) := (hb15.cell (by omega) (by omega)).trans f303
  have f333 : w15.cell? ⟨w7.heap.size, 2, none⟩ = some (.slice ad116 (placeV x0 x1 n2 x3).2.2.length ad116') := (hb15.cell (by omega) (by omega)).trans f304
  have z334 : w.heap.size < w15.heap.size := by omega
  have z335 : w.heap.size + 1 < w15.heap.size := by omega
  have z336 : bb15 < w15.heap.size := by omega
  have z337 : w4.heap.size < w15.heap.size := by omega
  have z338 : w5.heap.size < w15.heap.size := by omega
  have z339 : w7.heap.size < w15.heap.size := by omega
  have d340 : frmT.Fx w2.heap.size w3.heap.size w15 [.int .i64 (placeV x0 x1 n2 x3).1, .int .i64 (placeV x0 x1 n2 x3).2.1, .slice ad19 (placeV x0 x1 n2 x3).2.2.length ad19'] (placeV x0 x1 n2 x3) := d311.tch hb15 (by omega)
  have d341 : tplT.Fx w3.heap.size w4.heap.size w15 [.int .i64 x0.1, .slice ad45 x0.2.length ad45'] (mkTpl 1 x0) := d312.tch hb15 (by omega)
  have d342 : frmT.Fx (w4.heap.size + 1) w5.heap.size w15 [.int .i64 x1.1, .int .i64 x1.2.1, .slice ad65 x1.2.2.length ad65'] (mkFrm (1 + cntTpl x0) x1) := d288.tch hb15 (by omega)
  have d343 : frmT.Fx w6.heap.size w7.heap.size w15 [.int .i64 (placeV x0 x1 n2 x3).1, .int .i64 (placeV x0 x1 n2 x3).2.1, .slice ad116 (placeV x0 x1 n2 x3).2.2.length ad116'] (placeV x0 x1 n2 x3) := d314.tch hb15 (by omega)
  have d344 : intsT.Fx w10.heap.size w11.heap.size w15 [.slice ad228 x3.length ad228'] x3 := d315.tch hb15 (by omega)
  clear hb15 H_w14 f289 f290 f291 f292 f293 f294 f295 f296 f297 f298 f299 f300 f301 f302 f303 f304 d311 d312 d288 d314 d315 z305 z306 z307 z308 z309 z310
  have hk345 : 0 ≤ (((1 + cntTpl x0) + cntFrm x1) + cntI x3) := by omega
  go_wp2_with fail
  refine (eqFormula_any _ (d343.rd.below (by repeat (first | exact Below.refl _ _ | exact bA | assumption | refine Below.setCell ?_ (by first | omega | (simp; try omega)) _ | refine Below.alloc ?_ (by first | omega | (simp; try omega)) _ | refine Below.drew ?_ | refine bDN ?_ | refine bthen ?_ (by assumption)))) (d340.rd.below (by repeat (first | exact Below.refl _ _ | exact bA | assumption | refine Below.setCell ?_ (by first | omega | (simp; try omega)) _ | refine Below.alloc ?_ (by first | omega | (simp; try omega)) _ | refine Below.drew ?_ | refine bDN ?_ | refine bthen ?_ (by assumption))))).mono ?_
  rintro e w16 ⟨rfl, hb16⟩
  have gw16 : Below w15.heap.size w15 w16 := bthen (by repeat (first | exact Below.refl _ _ | exact bA | assumption | refine Below.setCell ?_ (by first | omega | (simp; try omega)) _ | refine Below.alloc ?_ (by first | omega | (simp; try omega)) _ | refine Below.drew ?_ | refine bDN ?_ | refine bthen ?_ (by assumption))) hb16
  have sw16 : w15.heap.size + 0 ≤ w16.heap.size := by have := hb16.size; (try simp at this); omega
  have H_w16 : Below w.heap.size w w16 := bthen H_w15 gw16
  have f346 : w16.cell? ⟨w.heap.size, 0, none⟩ = some (.int .i64 x0.1) := (gw16.cell (by first | omega | (simp; try omega))).trans f318
  have f347 : w16.cell? ⟨w.heap.size, 1, none⟩ = some (u0) := (gw16.cell (by first | omega | (simp; try omega))).trans f319
  have f348 : w16.cell? ⟨w.heap.size + 1, 0, none⟩ = some (.int .i64 x1.1) := (gw16.cell (by first | omega | (simp; try omega))).trans f320
  have f349 : w16.cell? ⟨w.heap.size + 1, 1, none⟩ = some (.int .i64 x1.2.1) := (gw16.cell (by first | omega | (simp; try omega))).trans f321
  have f350 : w16.cell? ⟨w.heap.size + 1, 2, none⟩ = some (u1) := (gw16.cell (by first | omega | (simp; try omega))).trans f322
  have f351 : w16.cell? ⟨bb15, 0, none⟩ = some (.int .i64 (placeV x0 x1 n2 x3).1) := (gw16.cell (by first | omega | (simp; try omega))).trans f323
  have f352 : w16.cell? ⟨bb15, 1, none⟩ = some (.int .i64 (placeV x0 x1 n2 x3).2.1) := (gw16.cell (by first | omega | (simp; try omega))).trans f324
  have f353 : w16.cell? ⟨bb15, 2, none⟩ = some (.slice ad19 (placeV x0 x1 n2 x3).2.2.length ad19') := (gw16.cell (by first | omega | (simp; try omega))).trans f325
  have f354 : w16.cell? ⟨w4.heap.size, 0, none⟩ = some (.int .i64 x0.1) := (gw16.cell (by first | omega | (simp; try omega))).trans f326
  have f355 : w16.cell? ⟨w4.heap.size, 1, none⟩ = some (.slice ad45 x0.2.length ad45') := (gw16.cell (by first | omega | (simp; try omega))).trans f327
  have f356 : w16.cell? ⟨w5.heap.size, 0, none⟩ = some (.int .i64 x1.1) := (gw16.cell (by first | omega | (simp; try omega))).trans f328
  have f357 : w16.cell? ⟨w5.heap.size, 1, none⟩ = some (.int .i64 x1.2.1) := (gw16.cell (by first | omega | (simp; try omega))).trans f329
  have f358 : w16.cell? ⟨w5.heap.size, 2, none⟩ = some (.slice ad65 x1.2.2.length ad65') := (gw16.cell (by first | omega | (simp; try omega))).trans f330
  have f359 : w16.cell? ⟨w7.heap.size, 0, none⟩ = some (.int .i64 (placeV x0 x1 n2 x3).1) := (gw16.cell (by first | omega | (simp; try omega))).trans f331
  have f360 : w16.cell? ⟨w7.heap.size, 1, none⟩ = some (.int .i64 (placeV x0 x1 n2 x3).2.1) := (gw16.cell (by first | omega | (simp; try omega))).trans f332
  have f361 : w16.cell? ⟨w7.heap.size, 2, none⟩ = some (.slice ad116 (placeV x0 x1 n2 x3).2.2.length ad116') := (gw16.cell (by first | omega | (simp; try omega))).trans f333
  have z362 : w.heap.size < w16.heap.size := by omega
  have z363 : w.heap.size + 1 < w16.heap.size := by omega
  have z364 : bb15 < w16.heap.size := by omega
  have z365 : w4.heap.size < w16.heap.size := by omega
  have z366 : w5.heap.size < w16.heap.size := by omega
  have z367 : w7.heap.size < w16.heap.size := by omega
  have d368 : frmT.Fx w2.heap.size w3.heap.size w16 [.int .i64 (placeV x0 x1 n2 x3).1, .int .i64 (placeV x0 x1 n2 x3).2.1, .slice ad19 (placeV x0 x1 n2 x3).2.2.length ad19'] (placeV x0 x1 n2 x3) := d340.below gw16
  have d369 : tplT.Fx w3.heap.size w4.heap.size w16 [.int .i64 x0.1, .slice ad45 x0.2.length ad45'] (mkTpl 1 x0) := d341.below gw16
  have d370 : frmT.Fx (w4.heap.size + 1) w5.heap.size w16 [.int .i64 x1.1, .int .i64 x1.2.1, .slice ad65 x1.2.2.length ad65'] (mkFrm (1 + cntTpl x0) x1) := d342.below gw16
  have d371 : intsT.Fx (w5.heap.size + 1) w6.heap.size w16 [.slice ad90 x3.length ad90'] (mkI ((1 + cntTpl x0) + cntFrm x1) x3) := d317.below gw16
  have d372 : frmT.Fx w6.heap.size w7.heap.size w16 [.int .i64 (placeV x0 x1 n2 x3).1, .int .i64 (placeV x0 x1 n2 x3).2.1, .slice ad116 (placeV x0 x1 n2 x3).2.2.length ad116'] (placeV x0 x1 n2 x3) := d343.below gw16
  have d373 : intsT.Fx w10.heap.size w11.heap.size w16 [.slice ad228 x3.length ad228'] x3 := d344.below gw16
  clear hb16 H_w15 f318 f319 f320 f321 f322 f323 f324 f325 f326 f327 f328 f329 f330 f331 f332 f333 d340 d341 d342 d317 d343 d344 z334 z335 z336 z337 z338 z339 gw16
  rw [eqB_true rfl]
  go_wp2_with fail
  refine (markFormula_fx _ d372 _ (by omega) (by omega)).mono ?_
  rintro e w17 ⟨rfl, hb17, d374⟩
  clear d372
  have sw17 : w16.heap.size ≤ w17.heap.size := hb17.size
  have H_w17 : Below w.heap.size w w17 := below_tch H_w16 hb17 (by omega) (by omega)
  have f375 : w17.cell? ⟨w.heap.size, 0, none⟩ = some (.int .i64 x0.1) := (hb17.cell (by omega) (by omega)).trans f346
  have f376 : w17.cell? ⟨w.heap.size, 1, none⟩ = some (u0) := (hb17.cell (by omega) (by omega)).trans f347
  have f377 : w17.cell? ⟨w.heap.size + 1, 0, none⟩ = some (.int .i64 x1.1) := (hb17.cell (by omega) (by omega)).trans f348
  have f378 : w17.cell? ⟨w.heap.size + 1, 1, none⟩ = some (.int .i64 x1.2.1) := (hb17.cell (by omega) (by omega)).trans f349
  have f379 : w17.cell? ⟨w.heap.size + 1, 2, none⟩ = some (u1) := (hb17.cell (by omega) (by omega)).trans f350
  have f380 : w17.cell? ⟨bb15, 0, none⟩ = some (.int .i64 (placeV x0 x1 n2 x3).1) := (hb17.cell (by omega) (by omega)).trans f351
  have f381 : w17.cell? ⟨bb15, 1, none⟩ = some (.int .i64 (placeV x0 x1 n2 x3).2.1) := (hb17.cell (by omega) (by omega)).trans f352
  have f382 : w17.cell? ⟨bb15, 2, none⟩ = some (.slice ad19 (placeV x0 x1 n2 x3).2.2.length ad19') := (hb17.cell (by omega) (by omega)).trans f353
  have f383 : w17.cell? ⟨w4.heap.size, 0, none⟩ = some (.int .i64 x0.1) := (hb17.cell (by omega) (by omega)).trans f354
  have f384 : w17.cell? ⟨w4.heap.size, 1, none⟩ = some (.slice ad45 x0.2.length ad45') := (hb17.cell (by omega) (by omega)).trans f355
  have f385 : w17.cell? ⟨w5.heap.size, 0, none⟩ = some (.int .i64 x1.1) := (hb17.cell (by omega) (by omega)).trans f356
  have f386 : w17.cell? ⟨w5.heap.size, 1, none⟩ = some (.int .i64 x1.2.1) := (hb17.cell (by omega) (by omega)).trans f357
  have f387 : w17.cell? ⟨w5.heap.size, 2, none⟩ = some (.slice ad65 x1.2.2.length ad65') := (hb17.cell (by omega) (by omega)).trans f358
  have f388 : w17.cell? ⟨w7.heap.size, 0, none⟩ = some (.int .i64 (placeV x0 x1 n2 x3).1) := (hb17.cell (by omega) (by omega)).trans f359
  have f389 : w17.cell? ⟨w7.heap.size, 1, none⟩ = some (.int .i64 (placeV x0 x1 n2 x3).2.1) := (hb17.cell (by omega) (by omega)).trans f360
  have f390 : w17.cell? ⟨w7.heap.size, 2, none⟩ = some (.slice ad116 (placeV x0 x1 n2 x3).2.2.length ad116') := (hb17.cell (by omega) (by omega)).trans f361
  have z391 : w.heap.size < w17.heap.size := by omega
  have z392 : w.heap.size + 1 < w17.heap.size := by omega
  have z393 : bb15 < w17.heap.size := by omega
  have z394 : w4.heap.size < w17.heap.size := by omega
  have z395 : w5.heap.size < w17.heap.size := by omega
  have z396 : w7.heap.size < w17.heap.size := by omega
  have d397 : frmT.Fx w2.heap.size w3.heap.size w17 [.int .i64 (placeV x0 x1 n2 x3).1, .int .i64 (placeV x0 x1 n2 x3).2.1, .slice ad19 (placeV x0 x1 n2 x3).2.2.length ad19'] (placeV x0 x1 n2 x3) := d368.tch hb17 (by omega)
  have d398 : tplT.Fx w3.heap.size w4.heap.size w17 [.int .i64 x0.1, .slice ad45 x0.2.length ad45'] (mkTpl 1 x0) := d369.tch hb17 (by omega)
  have d399 : frmT.Fx (w4.heap.size + 1) w5.heap.size w17 [.int .i64 x1.1, .int .i64 x1.2.1, .slice ad65 x1.2.2.length ad65'] (mkFrm (1 + cntTpl x0) x1) := d370.tch hb17 (by omega)
  have d400 : intsT.Fx (w5.heap.size + 1) w6.heap.size w17 [.slice ad90 x3.length ad90'] (mkI ((1 + cntTpl x0) + cntFrm x1) x3) := d371.tch hb17 (by omega)
  have d401 : intsT.Fx w10.heap.size w11.heap.size w17 [.slice ad228 x3.length ad228'] x3 := d373.tch hb17 (by omega)
  clear hb17 H_w16 f346 f347 f348 f349 f350 f351 f352 f353 f354 f355 f356 f357 f358 f359 f360 f361 d368 d369 d370 d371 d373 z362 z363 z364 z365 z366 z367
  have hk402 : 0 ≤ (1 + cntFrm (placeV x0 x1 n2 x3)) := by omega
  go_wp2_with fail
  refine (heldFormula_any _ _ d374.rd (by omega) (by omega)).mono ?_
  rintro e w18 ⟨rfl, hb18⟩
  have gw18 : Below w17.heap.size w17 w18 := bthen (by repeat (first | exact Below.refl _ _ | exact bA | assumption | refine Below.setCell ?_ (by first | omega | (simp; try omega)) _ | refine Below.alloc ?_ (by first | omega | (simp; try omega)) _ | refine Below.drew ?_ | refine bDN ?_ | refine bthen ?_ (by assumption))) hb18
  have sw18 : w17.heap.size + 0 ≤ w18.heap.size := by have := hb18.size; (try simp at this); omega
  have H_w18 : Below w.heap.size w w18 := bthen H_w17 gw18
  have f403 : w18.cell? ⟨w.heap.size, 0, none⟩ = some (.int .i64 x0.1) := (gw18.cell (by first | omega | (simp; try omega))).trans f375
  have f404 : w18.cell? ⟨w.heap.size, 1, none⟩ = some (u0) := (gw18.cell (by first | omega | (simp; try omega))).trans f376
  have f405 : w18.cell? ⟨w.heap.size + 1, 0, none⟩ = some (.int .i64 x1.1) := (gw18.cell (by first | omega | (simp; try omega))).trans f377
  have f406 : w18.cell? ⟨w.heap.size + 1, 1, none⟩ = some (.int .i64 x1.2.1) := (gw18.cell (by first | omega | (simp; try omega))).trans f378
  have f407 : w18.cell? ⟨w.heap.size + 1, 2, none⟩ = some (u1) := (gw18.cell (by first | omega | (simp; try omega))).trans f379
  have f408 : w18.cell? ⟨bb15, 0, none⟩ = some (.int .i64 (placeV x0 x1 n2 x3).1) := (gw18.cell (by first | omega | (simp; try omega))).trans f380
  have f409 : w18.cell? ⟨bb15, 1, none⟩ = some (.int .i64 (placeV x0 x1 n2 x3).2.1) := (gw18.cell (by first | omega | (simp; try omega))).trans f381
  have f410 : w18.cell? ⟨bb15, 2, none⟩ = some (.slice ad19 (placeV x0 x1 n2 x3).2.2.length ad19') := (gw18.cell (by first | omega | (simp; try omega))).trans f382
  have f411 : w18.cell? ⟨w4.heap.size, 0, none⟩ = some (.int .i64 x0.1) := (gw18.cell (by first | omega | (simp; try omega))).trans f383
  have f412 : w18.cell? ⟨w4.heap.size, 1, none⟩ = some (.slice ad45 x0.2.length ad45') := (gw18.cell (by first | omega | (simp; try omega))).trans f384
  have f413 : w18.cell? ⟨w5.heap.size, 0, none⟩ = some (.int .i64 x1.1) := (gw18.cell (by first | omega | (simp; try omega))).trans f385
  have f414 : w18.cell? ⟨w5.heap.size, 1, none⟩ = some (.int .i64 x1.2.1) := (gw18.cell (by first | omega | (simp; try omega))).trans f386
  have f415 : w18.cell? ⟨w5.heap.size, 2, none⟩ = some (.slice ad65 x1.2.2.length ad65') := (gw18.cell (by first | omega | (simp; try omega))).trans f387
  have f416 : w18.cell? ⟨w7.heap.size, 0, none⟩ = some (.int .i64 (placeV x0 x1 n2 x3).1) := (gw18.cell (by first | omega | (simp; try omega))).trans f388
  have f417 : w18.cell? ⟨w7.heap.size, 1, none⟩ = some (.int .i64 (placeV x0 x1 n2 x3).2.1) := (gw18.cell (by first | omega | (simp; try omega))).trans f389
  have f418 : w18.cell? ⟨w7.heap.size, 2, none⟩ = some (.slice ad116 (placeV x0 x1 n2 x3).2.2.length ad116') := (gw18.cell (by first | omega | (simp; try omega))).trans f390
  have z419 : w.heap.size < w18.heap.size := by omega
  have z420 : w.heap.size + 1 < w18.heap.size := by omega
  have z421 : bb15 < w18.heap.size := by omega
  have z422 : w4.heap.size < w18.heap.size := by omega
  have z423 : w5.heap.size < w18.heap.size := by omega
  have z424 : w7.heap.size < w18.heap.size := by omega
  have d425 : frmT.Fx w2.heap.size w3.heap.size w18 [.int .i64 (placeV x0 x1 n2 x3).1, .int .i64 (placeV x0 x1 n2 x3).2.1, .slice ad19 (placeV x0 x1 n2 x3).2.2.length ad19'] (placeV x0 x1 n2 x3) := d397.below gw18
  have d426 : tplT.Fx w3.heap.size w4.heap.size w18 [.int .i64 x0.1, .slice ad45 x0.2.length ad45'] (mkTpl 1 x0) := d398.below gw18
  have d427 : frmT.Fx (w4.heap.size + 1) w5.heap.size w18 [.int .i64 x1.1, .int .i64 x1.2.1, .slice ad65 x1.2.2.length ad65'] (mkFrm (1 + cntTpl x0) x1) := d399.below gw18
  have d428 : intsT.Fx (w5.heap.size + 1) w6.heap.size w18 [.slice ad90 x3.length ad90'] (mkI ((1 + cntTpl x0) + cntFrm x1) x3) := d400.below gw18
  have d429 : frmT.Fx w6.heap.size w7.heap.size w18 [.int .i64 (placeV x0 x1 n2 x3).1, .int .i64 (placeV x0 x1 n2 x3).2.1, .slice ad116 (placeV x0 x1 n2 x3).2.2.length ad116'] (mkFrm 1 (placeV x0 x1 n2 x3)) := d374.below gw18
  have d430 : intsT.Fx w10.heap.size w11.heap.size w18 [.slice ad228 x3.length ad228'] x3 := d401.below gw18
  clear hb18 H_w17 f375 f376 f377 f378 f379 f380 f381 f382 f383 f384 f385 f386 f387 f388 f389 f390 d397 d398 d399 d400 d374 d401 z391 z392 z393 z394 z395 z396 gw18
  go_wp2_with fail
  refine wp_region_box [(.plain, exO (.agg #[.int .i64 x0.1, u0])), (.plain, rdAO tplT x0), (.plain, exO (.agg #[.int .i64 x1.1, .int .i64 x1.2.1, u1])), (.plain, rdAO frmT x1), (.plain, exO (.int .i64 n2)), (.plain, exO (.slice ad3 x3.length cap3)), (.plain, rdSO intsT x3), (.plain, frTO frmT w18.heap.size (placeV x0 x1 n2 x3) (.int .i64 (placeC x0 x1 n2 x3))), (.plain, frTO frmT w18.heap.size (placeV x0 x1 n2 x3) (.int .i64 (placeC x0 x1 n2 x3))), (.plain, frAO frmT w18.heap.size (placeV x0 x1 n2 x3)), (.plain, exO (.int .i64 (placeC x0 x1 n2 x3))), (.alloc, boxO 3), (.store, heldO frmT w18.heap.size (placeV x0 x1 n2 x3)), (.plain, exO (.int .i64 (placeC x0 x1 n2 x3)))] (by kernel_rfl) (by kernel_rfl) ⟨st_exO, st_rdAO, st_exO, st_rdAO, st_exO, st_exO, st_rdSO, st_frTO, st_frTO, st_frAO, st_exO, st_boxO, st_heldO, st_exO, trivial⟩ ⟨?j37_0, ?j37_1, ?j37_2, ?j37_3, ?j37_4, ?j37_5, ?j37_6, ?j37_7, ?j37_8, ?j37_9, ?j37_10, ?j37_11, ?j37_12, ?j37_13, trivial⟩ ?hQ37
  case j37_0 =>
    intro a' w' ob hb hbo hal hd
    have e0 : a'.tmps[4]?.getD undef = .pointer (some ⟨w.heap.size, 0, none⟩) := ev (slot_o2 hd 4 rfl rfl)
    have q : ∀ b o, b < w18.heap.size → w'.cell? ⟨b, o, none⟩ = w18.cell? ⟨b, o, none⟩ := (bcell hb).1
    go_simp
    exact ⟨_, ⟨rfl, Below.refl _ _⟩, rfl⟩
  case j37_1 =>
    intro a' w' ob hb hbo hal hd
    have e118 : a'.tmps[118]?.getD undef = .agg #[.int .i64 x0.1, u0] := ev (slot_w2 hd 118 (exO (.agg #[.int .i64 x0.1, u0])) rfl rfl)
    have r118 : tplT.Rd w18 (#[.int .i64 x0.1, u0] : Array Value).toList x0 := hx0.below H_w18
    have r118' := r118.below hb
    go_simp
    exact ⟨rfl, Below.refl _ _, (toTemplate_any w' r118' (by first | omega | (unfold szInts; omega))).mono fun e w'' ⟨cs, he, hf, hb⟩ => ⟨_, he, hb, rdAO_mk hf hbo⟩⟩
  case j37_2 =>
    intro a' w' ob hb hbo hal hd
    have e0 : a'.tmps[5]?.getD undef = .pointer (some ⟨w.heap.size + 1, 0, none⟩) := ev (slot_o2 hd 5 rfl rfl)
    have q : ∀ b o, b < w18.heap.size → w'.cell? ⟨b, o, none⟩ = w18.cell? ⟨b, o, none⟩ := (bcell hb).1
    go_simp
    exact ⟨_, ⟨rfl, Below.refl _ _⟩, rfl⟩
  case j37_3 =>
    intro a' w' ob hb hbo hal hd
    have e120 : a'.tmps[120]?.getD undef = .agg #[.int .i64 x1.1, .int .i64 x1.2.1, u1] := ev (slot_w2 hd 120 (exO (.agg #[.int .i64 x1.1, .int .i64 x1.2.1, u1])) rfl rfl)
    have r120 : frmT.Rd w18 (#[.int .i64 x1.1, .int .i64 x1.2.1, u1] : Array Value).toList x1 := hx1.below H_w18
    have r120' := r120.below hb
    go_simp
    exact ⟨rfl, Below.refl _ _, (toFormula_any w' r120' (by first | omega | (unfold szInts; omega))).mono fun e w'' ⟨cs, he, hf, hb⟩ => ⟨_, he, hb, rdAO_mk hf hbo⟩⟩
  case j37_4 =>
    intro a' w' ob hb hbo hal hd
    have e0 : a'.tmps[2]?.getD undef = .int .i64 n2 := ev (slot_o2 hd 2 rfl rfl)
    go_simp
    exact ⟨_, ⟨rfl, Below.refl _ _⟩, rfl⟩
  case j37_5 =>
    intro a' w' ob hb hbo hal hd
    have e0 : a'.tmps[3]?.getD undef = .slice ad3 x3.length cap3 := ev (slot_o2 hd 3 rfl rfl)
    go_simp
    exact ⟨_, ⟨rfl, Below.refl _ _⟩, rfl⟩
  case j37_6 =>
    intro a' w' ob hb hbo hal hd
    have e123 : a'.tmps[123]?.getD undef = .slice ad3 x3.length cap3 := ev (slot_w2 hd 123 (exO (.slice ad3 x3.length cap3)) rfl rfl)
    have r123 : intsT.Rd w18 [.slice ad3 x3.length cap3] x3 := hx3.below H_w18
    have r123' := r123.below hb
    go_simp
    exact ⟨rfl, Below.refl _ _, (toInt64S_any w' r123' (by first | omega | (unfold szInts; omega))).mono fun e w'' ⟨cs, he, hf, hb⟩ => ⟨_, he, hb, rdSO_mk hf hbo⟩⟩
  case j37_7 =>
    intro a' w' ob hb hbo hal hd
    have d119 := slot_w2 hd 119 (rdAO tplT x0) rfl rfl
    obtain ⟨cs119, fp119, e119, hr119, -⟩ := d119
    have rd119 : tplT.Rd w' cs119 x0 := ⟨_, hr119⟩
    have e119' := ev e119
    have d121 := slot_w2 hd 121 (rdAO frmT x1) rfl rfl
    obtain ⟨cs121, fp121, e121, hr121, -⟩ := d121
    have rd121 : frmT.Rd w' cs121 x1 := ⟨_, hr121⟩
    have e121' := ev e121
    have e122 : a'.tmps[122]?.getD undef = .int .i64 n2 := ev (slot_w2 hd 122 (exO (.int .i64 n2)) rfl rfl)
    have d124 := slot_w2 hd 124 (rdSO intsT x3) rfl rfl
    obtain ⟨ad124', cap124', e124⟩ := rdSO_val d124
    rw [e124] at d124
    have rd124 := d124.rd
    have e124' := ev e124
    go_simp
    exact ⟨rfl, Below.refl _ _, (PlaceFormula_any _ rd119 rd121 rd124).mono fun e w'' ⟨cs, he, hf, hb2⟩ => ⟨_, he, hb2, frTO_mk hb.size hf hbo⟩⟩
  case j37_8 =>
    intro a' w' ob hb hbo hal hd
    have d125 := slot_w2 hd 125 (frTO frmT w18.heap.size (placeV x0 x1 n2 x3) (.int .i64 (placeC x0 x1 n2 x3))) rfl rfl
    obtain ⟨cs125, e125, hf125⟩ := d125
    have e125' := ev e125
    go_simp
    exact ⟨_, ⟨rfl, Below.refl _ _⟩, cs125, rfl, hf125⟩
  case j37_9 =>
    intro a' w' ob hb hbo hal hd
    have d117 := slot_w2 hd 117 (frTO frmT w18.heap.size (placeV x0 x1 n2 x3) (.int .i64 (placeC x0 x1 n2 x3))) rfl rfl
    obtain ⟨cs117, e117, hf117⟩ := d117
    have e117' := ev e117
    go_simp
    exact ⟨_, ⟨rfl, Below.refl _ _⟩, hf117⟩
  case j37_10 =>
    intro a' w' ob hb hbo hal hd
    have d117 := slot_w2 hd 117 (frTO frmT w18.heap.size (placeV x0 x1 n2 x3) (.int .i64 (placeC x0 x1 n2 x3))) rfl rfl
    obtain ⟨cs117, e117, hf117⟩ := d117
    have e117' := ev e117
    go_simp
    exact ⟨_, ⟨rfl, Below.refl _ _⟩, rfl⟩
  case j37_11 =>
    intro a' w' ob hb hbo hal hd
    obtain rfl := hal rfl
    go_simp
    exact ⟨_, ⟨rfl, by simp, bA⟩, _, rfl, rfl, by simp, box3⟩
  case j37_12 =>
    intro a' w' ob hb hbo hal hd
    obtain ⟨bb, rfl, e20, hbb, hcl⟩ := slot_w2 hd 20 (boxO 3) rfl rfl
    have e20' := ev e20
    have d126 := slot_w2 hd 126 (frAO frmT w18.heap.size (placeV x0 x1 n2 x3)) rfl rfl
    obtain ⟨cs126, fp126, e126, hr126, hn126, hg126, hu126, ho126⟩ := d126
    obtain ⟨u126, rfl, hr126', -⟩ := rd_trip hr126
    obtain ⟨ad126', cap126', rfl⟩ := rd_slice ⟨_, hr126'⟩
    have e126' := ev e126
    obtain ⟨⟨y0, c0⟩, f0⟩ := hcl 0 (by decide)
    obtain ⟨⟨y1, c1⟩, f1⟩ := hcl 1 (by decide)
    obtain ⟨⟨y2, c2⟩, f2⟩ := hcl 2 (by decide)
    go_simp
    exact held3 c0 c1 c2 hr126 hn126 hg126 hu126 ho126 _
  case j37_13 =>
    intro a' w' ob hb hbo hal hd
    have e0 : a'.tmps[127]?.getD undef = .int .i64 (placeC x0 x1 n2 x3) := ev (slot_w2 hd 127 (exO (.int .i64 (placeC x0 x1 n2 x3))) rfl rfl)
    go_simp
    exact ⟨_, ⟨rfl, Below.refl _ _⟩, rfl⟩
  intro vs37 w19 ob37 hb19 hbo37 H0
  obtain ⟨v37_0, _, rfl, p0, H1⟩ := HAll2_cons H0
  obtain ⟨v37_1, _, rfl, p1, H2⟩ := HAll2_cons H1
  obtain ⟨v37_2, _, rfl, p2, H3⟩ := HAll2_cons H2
  obtain ⟨v37_3, _, rfl, p3, H4⟩ := HAll2_cons H3
  obtain ⟨v37_4, _, rfl, p4, H5⟩ := HAll2_cons H4
  obtain ⟨v37_5, _, rfl, p5, H6⟩ := HAll2_cons H5
  obtain ⟨v37_6, _, rfl, p6, H7⟩ := HAll2_cons H6
  obtain ⟨v37_7, _, rfl, p7, H8⟩ := HAll2_cons H7
  obtain ⟨v37_8, _, rfl, p8, H9⟩ := HAll2_cons H8
  obtain ⟨v37_9, _, rfl, p9, H10⟩ := HAll2_cons H9
  obtain ⟨v37_10, _, rfl, p10, H11⟩ := HAll2_cons H10
  obtain ⟨v37_11, _, rfl, p11, H12⟩ := HAll2_cons H11
  obtain ⟨v37_12, _, rfl, p12, H13⟩ := HAll2_cons H12
  obtain ⟨v37_13, _, rfl, p13, H14⟩ := HAll2_cons H13
  obtain rfl := HAll2_nil H14
  obtain rfl := id p0
  obtain rfl := id p2
  obtain rfl := id p4
  obtain rfl := id p5
  obtain rfl := id p10
  obtain rfl := id p13
  obtain ⟨bb431, rfl, rfl, hltbb431, -⟩ := id p11
  obtain ⟨_, cs, fp434, hob, hr1, hr2, hr3, hr4, -, cc433⟩ := id p12
  simp only [Option.some.injEq] at hob
  subst hob
  have hc432 : frmT.Fr w18.heap.size w19 cs (placeV x0 x1 n2 x3) := ⟨fp434, hr1, hr2, hr3, hr4⟩
  have hlobb431 : w18.heap.size ≤ bb431 := (hbo37 bb431 rfl).1
  obtain ⟨ad435, ad435', rfl⟩ := fr_trip hc432
  have f436 : w19.cell? ⟨bb431, 0, none⟩ = some (.int .i64 (placeV x0 x1 n2 x3).1) := cc433 0 (by simp)
  have f437 : w19.cell? ⟨bb431, 1, none⟩ = some (.int .i64 (placeV x0 x1 n2 x3).2.1) := cc433 1 (by simp)
  have f438 : w19.cell? ⟨bb431, 2, none⟩ = some (.slice ad435 (placeV x0 x1 n2 x3).2.2.length ad435') := cc433 2 (by simp)
  clear cc433 hr1 hr2 hr3 hr4
  clear p0 p1 p2 p3 p4 p5 p6 p7 p8 p9 p10 p11 p12 p13 H0 H1 H2 H3 H4 H5 H6 H7 H8 H9 H10 H11 H12 H13 H14
  have gw19 : Below w18.heap.size w18 w19 := bthen (by repeat (first | exact Below.refl _ _ | exact bA | assumption | refine Below.setCell ?_ (by first | omega | (simp; try omega)) _ | refine Below.alloc ?_ (by first | omega | (simp; try omega)) _ | refine Below.drew ?_ | refine bDN ?_ | refine bthen ?_ (by assumption))) hb19
  have sw19 : w18.heap.size + 0 ≤ w19.heap.size := by have := hb19.size; (try simp at this); omega
  have H_w19 : Below w.heap.size w w19 := bthen H_w18 gw19
  have f439 : w19.cell? ⟨w.heap.size, 0, none⟩ = some (.int .i64 x0.1) := (gw19.cell (by first | omega | (simp; try omega))).trans f403
  have f440 : w19.cell? ⟨w.heap.size, 1, none⟩ = some (u0) := (gw19.cell (by first | omega | (simp; try omega))).trans f404
  have f441 : w19.cell? ⟨w.heap.size + 1, 0, none⟩ = some (.int .i64 x1.1) := (gw19.cell (by first | omega | (simp; try omega))).trans f405
  have f442 : w19.cell? ⟨w.heap.size + 1, 1, none⟩ = some (.int .i64 x1.2.1) := (gw19.cell (by first | omega | (simp; try omega))).trans f406
  have f443 : w19.cell? ⟨w.heap.size + 1, 2, none⟩ = some (u1) := (gw19.cell (by first | omega | (simp; try omega))).trans f407
  have f444 : w19.cell? ⟨bb15, 0, none⟩ = some (.int .i64 (placeV x0 x1 n2 x3).1) := (gw19.cell (by first | omega | (simp; try omega))).trans f408
  have f445 : w19.cell? ⟨bb15, 1, none⟩ = some (.int .i64 (placeV x0 x1 n2 x3).2.1) := (gw19.cell (by first | omega | (simp; try omega))).trans f409
  have f446 : w19.cell? ⟨bb15, 2, none⟩ = some (.slice ad19 (placeV x0 x1 n2 x3).2.2.length ad19') := (gw19.cell (by first | omega | (simp; try omega))).trans f410
  have f447 : w19.cell? ⟨w4.heap.size, 0, none⟩ = some (.int .i64 x0.1) := (gw19.cell (by first | omega | (simp; try omega))).trans f411
  have f448 : w19.cell? ⟨w4.heap.size, 1, none⟩ = some (.slice ad45 x0.2.length ad45') := (gw19.cell (by first | omega | (simp; try omega))).trans f412
  have f449 : w19.cell? ⟨w5.heap.size, 0, none⟩ = some (.int .i64 x1.1) := (gw19.cell (by first | omega | (simp; try omega))).trans f413
  have f450 : w19.cell? ⟨w5.heap.size, 1, none⟩ = some (.int .i64 x1.2.1) := (gw19.cell (by first | omega | (simp; try omega))).trans f414
  have f451 : w19.cell? ⟨w5.heap.size, 2, none⟩ = some (.slice ad65 x1.2.2.length ad65') := (gw19.cell (by first | omega | (simp; try omega))).trans f415
  have f452 : w19.cell? ⟨w7.heap.size, 0, none⟩ = some (.int .i64 (placeV x0 x1 n2 x3).1) := (gw19.cell (by first | omega | (simp; try omega))).trans f416
  have f453 : w19.cell? ⟨w7.heap.size, 1, none⟩ = some (.int .i64 (placeV x0 x1 n2 x3).2.1) := (gw19.cell (by first | omega | (simp; try omega))).trans f417
  have f454 : w19.cell? ⟨w7.heap.size, 2, none⟩ = some (.slice ad116 (placeV x0 x1 n2 x3).2.2.length ad116') := (gw19.cell (by first | omega | (simp; try omega))).trans f418
  have z455 : w.heap.size < w19.heap.size := by omega
  have z456 : w.heap.size + 1 < w19.heap.size := by omega
  have z457 : bb15 < w19.heap.size := by omega
  have z458 : w4.heap.size < w19.heap.size := by omega
  have z459 : w5.heap.size < w19.heap.size := by omega
  have z460 : w7.heap.size < w19.heap.size := by omega
  have d461 : frmT.Fx w2.heap.size w3.heap.size w19 [.int .i64 (placeV x0 x1 n2 x3).1, .int .i64 (placeV x0 x1 n2 x3).2.1, .slice ad19 (placeV x0 x1 n2 x3).2.2.length ad19'] (placeV x0 x1 n2 x3) := d425.below gw19
  have d462 : tplT.Fx w3.heap.size w4.heap.size w19 [.int .i64 x0.1, .slice ad45 x0.2.length ad45'] (mkTpl 1 x0) := d426.below gw19
  have d463 : frmT.Fx (w4.heap.size + 1) w5.heap.size w19 [.int .i64 x1.1, .int .i64 x1.2.1, .slice ad65 x1.2.2.length ad65'] (mkFrm (1 + cntTpl x0) x1) := d427.below gw19
  have d464 : intsT.Fx (w5.heap.size + 1) w6.heap.size w19 [.slice ad90 x3.length ad90'] (mkI ((1 + cntTpl x0) + cntFrm x1) x3) := d428.below gw19
  have d465 : frmT.Fx w6.heap.size w7.heap.size w19 [.int .i64 (placeV x0 x1 n2 x3).1, .int .i64 (placeV x0 x1 n2 x3).2.1, .slice ad116 (placeV x0 x1 n2 x3).2.2.length ad116'] (mkFrm 1 (placeV x0 x1 n2 x3)) := d429.below gw19
  have d466 : intsT.Fx w10.heap.size w11.heap.size w19 [.slice ad228 x3.length ad228'] x3 := d430.below gw19
  clear hb19 H_w18 f403 f404 f405 f406 f407 f408 f409 f410 f411 f412 f413 f414 f415 f416 f417 f418 d425 d426 d427 d428 d429 d430 z419 z420 z421 z422 z423 z424 gw19
  have d467 : frmT.Fx w18.heap.size w19.heap.size w19 [.int .i64 (placeV x0 x1 n2 x3).1, .int .i64 (placeV x0 x1 n2 x3).2.1, .slice ad435 (placeV x0 x1 n2 x3).2.2.length ad435'] (placeV x0 x1 n2 x3) := hc432.fx
  clear hc432
  simp only [putAll, Act.put]
  go_simp
  go_wp2_with fail
  refine (eqFormula_any _ (d467.rd.below (by repeat (first | exact Below.refl _ _ | exact bA | assumption | refine Below.setCell ?_ (by first | omega | (simp; try omega)) _ | refine Below.alloc ?_ (by first | omega | (simp; try omega)) _ | refine Below.drew ?_ | refine bDN ?_ | refine bthen ?_ (by assumption)))) (d461.rd.below (by repeat (first | exact Below.refl _ _ | exact bA | assumption | refine Below.setCell ?_ (by first | omega | (simp; try omega)) _ | refine Below.alloc ?_ (by first | omega | (simp; try omega)) _ | refine Below.drew ?_ | refine bDN ?_ | refine bthen ?_ (by assumption))))).mono ?_
  rintro e w20 ⟨rfl, hb20⟩
  have gw20 : Below w19.heap.size w19 w20 := bthen (by repeat (first | exact Below.refl _ _ | exact bA | assumption | refine Below.setCell ?_ (by first | omega | (simp; try omega)) _ | refine Below.alloc ?_ (by first | omega | (simp; try omega)) _ | refine Below.drew ?_ | refine bDN ?_ | refine bthen ?_ (by assumption))) hb20
  have sw20 : w19.heap.size + 0 ≤ w20.heap.size := by have := hb20.size; (try simp at this); omega
  have H_w20 : Below w.heap.size w w20 := bthen H_w19 gw20
  have f469 : w20.cell? ⟨w.heap.size, 0, none⟩ = some (.int .i64 x0.1) := (gw20.cell (by first | omega | (simp; try omega))).trans f439
  have f470 : w20.cell? ⟨w.heap.size, 1, none⟩ = some (u0) := (gw20.cell (by first | omega | (simp; try omega))).trans f440
  have f471 : w20.cell? ⟨w.heap.size + 1, 0, none⟩ = some (.int .i64 x1.1) := (gw20.cell (by first | omega | (simp; try omega))).trans f441
  have f472 : w20.cell? ⟨w.heap.size + 1, 1, none⟩ = some (.int .i64 x1.2.1) := (gw20.cell (by first | omega | (simp; try omega))).trans f442
  have f473 : w20.cell? ⟨w.heap.size + 1, 2, none⟩ = some (u1) := (gw20.cell (by first | omega | (simp; try omega))).trans f443
  have f474 : w20.cell? ⟨bb15, 0, none⟩ = some (.int .i64 (placeV x0 x1 n2 x3).1) := (gw20.cell (by first | omega | (simp; try omega))).trans f444
  have f475 : w20.cell? ⟨bb15, 1, none⟩ = some (.int .i64 (placeV x0 x1 n2 x3).2.1) := (gw20.cell (by first | omega | (simp; try omega))).trans f445
  have f476 : w20.cell? ⟨bb15, 2, none⟩ = some (.slice ad19 (placeV x0 x1 n2 x3).2.2.length ad19') := (gw20.cell (by first | omega | (simp; try omega))).trans f446
  have f477 : w20.cell? ⟨w4.heap.size, 0, none⟩ = some (.int .i64 x0.1) := (gw20.cell (by first | omega | (simp; try omega))).trans f447
  have f478 : w20.cell? ⟨w4.heap.size, 1, none⟩ = some (.slice ad45 x0.2.length ad45') := (gw20.cell (by first | omega | (simp; try omega))).trans f448
  have f479 : w20.cell? ⟨w5.heap.size, 0, none⟩ = some (.int .i64 x1.1) := (gw20.cell (by first | omega | (simp; try omega))).trans f449
  have f480 : w20.cell? ⟨w5.heap.size, 1, none⟩ = some (.int .i64 x1.2.1) := (gw20.cell (by first | omega | (simp; try omega))).trans f450
  have f481 : w20.cell? ⟨w5.heap.size, 2, none⟩ = some (.slice ad65 x1.2.2.length ad65') := (gw20.cell (by first | omega | (simp; try omega))).trans f451
  have f482 : w20.cell? ⟨w7.heap.size, 0, none⟩ = some (.int .i64 (placeV x0 x1 n2 x3).1) := (gw20.cell (by first | omega | (simp; try omega))).trans f452
  have f483 : w20.cell? ⟨w7.heap.size, 1, none⟩ = some (.int .i64 (placeV x0 x1 n2 x3).2.1) := (gw20.cell (by first | omega | (simp; try omega))).trans f453
  have f484 : w20.cell? ⟨w7.heap.size, 2, none⟩ = some (.slice ad116 (placeV x0 x1 n2 x3).2.2.length ad116') := (gw20.cell (by first | omega | (simp; try omega))).trans f454
  have f485 : w20.cell? ⟨bb431, 0, none⟩ = some (.int .i64 (placeV x0 x1 n2 x3).1) := (gw20.cell (by first | omega | (simp; try omega))).trans f436
  have f486 : w20.cell? ⟨bb431, 1, none⟩ = some (.int .i64 (placeV x0 x1 n2 x3).2.1) := (gw20.cell (by first | omega | (simp; try omega))).trans f437
  have f487 : w20.cell? ⟨bb431, 2, none⟩ = some (.slice ad435 (placeV x0 x1 n2 x3).2.2.length ad435') := (gw20.cell (by first | omega | (simp; try omega))).trans f438
  have z488 : w.heap.size < w20.heap.size := by omega
  have z489 : w.heap.size + 1 < w20.heap.size := by omega
  have z490 : bb15 < w20.heap.size := by omega
  have z491 : w4.heap.size < w20.heap.size := by omega
  have z492 : w5.heap.size < w20.heap.size := by omega
  have z493 : w7.heap.size < w20.heap.size := by omega
  have z494 : bb431 < w20.heap.size := by omega
  have d495 : frmT.Fx w2.heap.size w3.heap.size w20 [.int .i64 (placeV x0 x1 n2 x3).1, .int .i64 (placeV x0 x1 n2 x3).2.1, .slice ad19 (placeV x0 x1 n2 x3).2.2.length ad19'] (placeV x0 x1 n2 x3) := d461.below gw20
  have d496 : tplT.Fx w3.heap.size w4.heap.size w20 [.int .i64 x0.1, .slice ad45 x0.2.length ad45'] (mkTpl 1 x0) := d462.below gw20
  have d497 : frmT.Fx (w4.heap.size + 1) w5.heap.size w20 [.int .i64 x1.1, .int .i64 x1.2.1, .slice ad65 x1.2.2.length ad65'] (mkFrm (1 + cntTpl x0) x1) := d463.below gw20
  have d498 : intsT.Fx (w5.heap.size + 1) w6.heap.size w20 [.slice ad90 x3.length ad90'] (mkI ((1 + cntTpl x0) + cntFrm x1) x3) := d464.below gw20
  have d499 : frmT.Fx w6.heap.size w7.heap.size w20 [.int .i64 (placeV x0 x1 n2 x3).1, .int .i64 (placeV x0 x1 n2 x3).2.1, .slice ad116 (placeV x0 x1 n2 x3).2.2.length ad116'] (mkFrm 1 (placeV x0 x1 n2 x3)) := d465.below gw20
  have d500 : intsT.Fx w10.heap.size w11.heap.size w20 [.slice ad228 x3.length ad228'] x3 := d466.below gw20
  have d501 : frmT.Fx w18.heap.size w19.heap.size w20 [.int .i64 (placeV x0 x1 n2 x3).1, .int .i64 (placeV x0 x1 n2 x3).2.1, .slice ad435 (placeV x0 x1 n2 x3).2.2.length ad435'] (placeV x0 x1 n2 x3) := d467.below gw20
  clear hb20 H_w19 f439 f440 f441 f442 f443 f444 f445 f446 f447 f448 f449 f450 f451 f452 f453 f454 f436 f437 f438 d461 d462 d463 d464 d465 d466 d467 z455 z456 z457 z458 z459 z460 gw20
  rw [eqB_true rfl]
  go_wp2_with fail
  refine (heldFormula_any _ _ d499.rd (by omega) (by omega)).mono ?_
  rintro e w21 ⟨rfl, hb21⟩
  have gw21 : Below w20.heap.size w20 w21 := bthen (by repeat (first | exact Below.refl _ _ | exact bA | assumption | refine Below.setCell ?_ (by first | omega | (simp; try omega)) _ | refine Below.alloc ?_ (by first | omega | (simp; try omega)) _ | refine Below.drew ?_ | refine bDN ?_ | refine bthen ?_ (by assumption))) hb21
  have sw21 : w20.heap.size + 0 ≤ w21.heap.size := by have := hb21.size; (try simp at this); omega
  have H_w21 : Below w.heap.size w w21 := bthen H_w20 gw21
  have f502 : w21.cell? ⟨w.heap.size, 0, none⟩ = some (.int .i64 x0.1) := (gw21.cell (by first | omega | (simp; try omega))).trans f469
  have f503 : w21.cell? ⟨w.heap.size, 1, none⟩ = some (u0) := (gw21.cell (by first | omega | (simp; try omega))).trans f470
  have f504 : w21.cell? ⟨w.heap.size + 1, 0, none⟩ = some (.int .i64 x1.1) := (gw21.cell (by first | omega | (simp; try omega))).trans f471
  have f505 : w21.cell? ⟨w.heap.size + 1, 1, none⟩ = some (.int .i64 x1.2.1) := (gw21.cell (by first | omega | (simp; try omega))).trans f472
  have f506 : w21.cell? ⟨w.heap.size + 1, 2, none⟩ = some (u1) := (gw21.cell (by first | omega | (simp; try omega))).trans f473
  have f507 : w21.cell? ⟨bb15, 0, none⟩ = some (.int .i64 (placeV x0 x1 n2 x3).1) := (gw21.cell (by first | omega | (simp; try omega))).trans f474
  have f508 : w21.cell? ⟨bb15, 1, none⟩ = some (.int .i64 (placeV x0 x1 n2 x3).2.1) := (gw21.cell (by first | omega | (simp; try omega))).trans f475
  have f509 : w21.cell? ⟨bb15, 2, none⟩ = some (.slice ad19 (placeV x0 x1 n2 x3).2.2.length ad19') := (gw21.cell (by first | omega | (simp; try omega))).trans f476
  have f510 : w21.cell? ⟨w4.heap.size, 0, none⟩ = some (.int .i64 x0.1) := (gw21.cell (by first | omega | (simp; try omega))).trans f477
  have f511 : w21.cell? ⟨w4.heap.size, 1, none⟩ = some (.slice ad45 x0.2.length ad45') := (gw21.cell (by first | omega | (simp; try omega))).trans f478
  have f512 : w21.cell? ⟨w5.heap.size, 0, none⟩ = some (.int .i64 x1.1) := (gw21.cell (by first | omega | (simp; try omega))).trans f479
  have f513 : w21.cell? ⟨w5.heap.size, 1, none⟩ = some (.int .i64 x1.2.1) := (gw21.cell (by first | omega | (simp; try omega))).trans f480
  have f514 : w21.cell? ⟨w5.heap.size, 2, none⟩ = some (.slice ad65 x1.2.2.length ad65') := (gw21.cell (by first | omega | (simp; try omega))).trans f481
  have f515 : w21.cell? ⟨w7.heap.size, 0, none⟩ = some (.int .i64 (placeV x0 x1 n2 x3).1) := (gw21.cell (by first | omega | (simp; try omega))).trans f482
  have f516 : w21.cell? ⟨w7.heap.size, 1, none⟩ = some (.int .i64 (placeV x0 x1 n2 x3).2.1) := (gw21.cell (by first | omega | (simp; try omega))).trans f483
  have f517 : w21.cell? ⟨w7.heap.size, 2, none⟩ = some (.slice ad116 (placeV x0 x1 n2 x3).2.2.length ad116') := (gw21.cell (by first | omega | (simp; try omega))).trans f484
  have f518 : w21.cell? ⟨bb431, 0, none⟩ = some (.int .i64 (placeV x0 x1 n2 x3).1) := (gw21.cell (by first | omega | (simp; try omega))).trans f485
  have f519 : w21.cell? ⟨bb431, 1, none⟩ = some (.int .i64 (placeV x0 x1 n2 x3).2.1) := (gw21.cell (by first | omega | (simp; try omega))).trans f486
  have f520 : w21.cell? ⟨bb431, 2, none⟩ = some (.slice ad435 (placeV x0 x1 n2 x3).2.2.length ad435') := (gw21.cell (by first | omega | (simp; try omega))).trans f487
  have z521 : w.heap.size < w21.heap.size := by omega
  have z522 : w.heap.size + 1 < w21.heap.size := by omega
  have z523 : bb15 < w21.heap.size := by omega
  have z524 : w4.heap.size < w21.heap.size := by omega
  have z525 : w5.heap.size < w21.heap.size := by omega
  have z526 : w7.heap.size < w21.heap.size := by omega
  have z527 : bb431 < w21.heap.size := by omega
  have d528 : frmT.Fx w2.heap.size w3.heap.size w21 [.int .i64 (placeV x0 x1 n2 x3).1, .int .i64 (placeV x0 x1 n2 x3).2.1, .slice ad19 (placeV x0 x1 n2 x3).2.2.length ad19'] (placeV x0 x1 n2 x3) := d495.below gw21
  have d529 : tplT.Fx w3.heap.size w4.heap.size w21 [.int .i64 x0.1, .slice ad45 x0.2.length ad45'] (mkTpl 1 x0) := d496.below gw21
  have d530 : frmT.Fx (w4.heap.size + 1) w5.heap.size w21 [.int .i64 x1.1, .int .i64 x1.2.1, .slice ad65 x1.2.2.length ad65'] (mkFrm (1 + cntTpl x0) x1) := d497.below gw21
  have d531 : intsT.Fx (w5.heap.size + 1) w6.heap.size w21 [.slice ad90 x3.length ad90'] (mkI ((1 + cntTpl x0) + cntFrm x1) x3) := d498.below gw21
  have d532 : frmT.Fx w6.heap.size w7.heap.size w21 [.int .i64 (placeV x0 x1 n2 x3).1, .int .i64 (placeV x0 x1 n2 x3).2.1, .slice ad116 (placeV x0 x1 n2 x3).2.2.length ad116'] (mkFrm 1 (placeV x0 x1 n2 x3)) := d499.below gw21
  have d533 : intsT.Fx w10.heap.size w11.heap.size w21 [.slice ad228 x3.length ad228'] x3 := d500.below gw21
  have d534 : frmT.Fx w18.heap.size w19.heap.size w21 [.int .i64 (placeV x0 x1 n2 x3).1, .int .i64 (placeV x0 x1 n2 x3).2.1, .slice ad435 (placeV x0 x1 n2 x3).2.2.length ad435'] (placeV x0 x1 n2 x3) := d501.below gw21
  clear hb21 H_w20 f469 f470 f471 f472 f473 f474 f475 f476 f477 f478 f479 f480 f481 f482 f483 f484 f485 f486 f487 d495 d496 d497 d498 d499 d500 d501 z488 z489 z490 z491 z492 z493 z494 gw21
  go_wp2_with fail
  go_ret
  exact ⟨rfl, (by repeat (first | exact Below.refl _ _ | exact bA | assumption | refine Below.setCell ?_ (by first | omega | (simp; try omega)) _ | refine Below.alloc ?_ (by first | omega | (simp; try omega)) _ | refine Below.drew ?_ | refine bDN ?_ | refine bthen ?_ (by assumption)))⟩
end Go.Proofs.Ytadncmlfkoolkaa
