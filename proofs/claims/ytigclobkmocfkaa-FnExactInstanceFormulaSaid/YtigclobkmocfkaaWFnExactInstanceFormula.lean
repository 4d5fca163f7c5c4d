/-
  The law FnExactInstanceFormula, walked: its contract.
-/
import Derived.Test.YtigclobkmocfkaaK33
import Derived.Test.YtigclobkmocfkaaKM
import Derived.Test.YtigclobkmocfkaaKT
import Derived.Test.YtigclobkmocfkaaLoose2
namespace Go.Proofs.Ytigclobkmocfkaa
open Go.RowKit Go.Sort
set_option maxHeartbeats 6400000 in
set_option maxRecDepth 100000 in
theorem fnExactInstanceFormula_any (w : World) {c0 : Array Value} {x0 : Int × List (Int × List (List Int))} (h0 : tplT.Rd w c0.toList x0) {c1 : Array Value} {x1 : Int × List (Int × List Int)} (h1 : instT.Rd w c1.toList x1) {n2 : Int} (_h2 : I64 n2) :
    Calls Try.prog 5 #[.agg c0, .agg c1, .int .i64 n2] w fun e w' => e = .returned (.bool true) ∧ Below w.heap.size w w' := by
  have hx0 := h0
  obtain ⟨u0, hv0, -, hy0⟩ := pair_ex h0
  obtain rfl := agg_of hv0
  clear hv0 h0
  have hn0 := szTpl_nn x0
  have hcn0 : cntTpl x0 ≤ szTpl x0 := cntRels_sz x0.2
  have hcz0 : 0 ≤ cntTpl x0 := cntRels_nn x0.2
  have hx1 := h1
  obtain ⟨u1, hv1, -, hy1⟩ := pair_ex h1
  obtain rfl := agg_of hv1
  clear hv1 h1
  have hn1 := szInst_nn x1
  have hcn1 : cntInst x1 ≤ szInst x1 := cntOps_sz x1.2
  have hcz1 : 0 ≤ cntInst x1 := cntOps_nn x1.2
  have H_w : Below w.heap.size w w := Below.refl _ _
  go_enter Try.func5, Try.ntmps5
  go_wp2_with fail
  refine (szTemplate_any _ (hx0.below (by repeat (first | exact Below.refl _ _ | exact bA | assumption | refine Below.setCell ?_ (by first | omega | (simp; try omega)) _ | refine Below.alloc ?_ (by first | omega | (simp; try omega)) _ | refine Below.drew ?_ | refine bDN ?_ | refine bthen ?_ (by assumption)))) _ (by omega) (by omega)).mono ?_
  rintro e w1 ⟨rfl, hb1⟩
  have gw1 : Below w.heap.size w w1 := bthen (by repeat (first | exact Below.refl _ _ | exact bA | assumption | refine Below.setCell ?_ (by first | omega | (simp; try omega)) _ | refine Below.alloc ?_ (by first | omega | (simp; try omega)) _ | refine Below.drew ?_ | refine bDN ?_ | refine bthen ?_ (by assumption))) hb1
  have sw1 : w.heap.size + 2 ≤ w1.heap.size := by have := hb1.size; (try simp at this); omega
  have H_w1 : Below w.heap.size w w1 := bthen H_w gw1
  have f1 : w1.cell? ⟨w.heap.size, 0, none⟩ = some (.int .i64 x0.1) := by rw [(bcell hb1).1 _ _ (by first | omega | (simp; try omega))]; simp
  have f2 : w1.cell? ⟨w.heap.size, 1, none⟩ = some (u0) := by rw [(bcell hb1).1 _ _ (by first | omega | (simp; try omega))]; simp
  have f3 : w1.cell? ⟨w.heap.size + 1, 0, none⟩ = some (.int .i64 x1.1) := by rw [(bcell hb1).1 _ _ (by first | omega | (simp; try omega))]; simp
  have f4 : w1.cell? ⟨w.heap.size + 1, 1, none⟩ = some (u1) := by rw [(bcell hb1).1 _ _ (by first | omega | (simp; try omega))]; simp
  have z5 : w.heap.size < w1.heap.size := by omega
  have z6 : w.heap.size + 1 < w1.heap.size := by omega
  clear hb1 gw1
  rcases ilt 1048576 (szTpl x0) with hl2 | hl2
  · rw [szR_lt hl2]
    go_wp2_with fail
    go_ret
    exact ⟨rfl, (by repeat (first | exact Below.refl _ _ | exact bA | assumption | refine Below.setCell ?_ (by first | omega | (simp; try omega)) _ | refine Below.alloc ?_ (by first | omega | (simp; try omega)) _ | refine Below.drew ?_ | refine bDN ?_ | refine bthen ?_ (by assumption)))⟩
  rw [szR_ge hl2]
  go_wp2_with fail
  refine (szInstance_any _ (hx1.below (by repeat (first | exact Below.refl _ _ | exact bA | assumption | refine Below.setCell ?_ (by first | omega | (simp; try omega)) _ | refine Below.alloc ?_ (by first | omega | (simp; try omega)) _ | refine Below.drew ?_ | refine bDN ?_ | refine bthen ?_ (by assumption)))) _ (by omega) (by omega)).mono ?_
  rintro e w2 ⟨rfl, hb2⟩
  have gw2 : Below w1.heap.size w1 w2 := bthen (by repeat (first | exact Below.refl _ _ | exact bA | assumption | refine Below.setCell ?_ (by first | omega | (simp; try omega)) _ | refine Below.alloc ?_ (by first | omega | (simp; try omega)) _ | refine Below.drew ?_ | refine bDN ?_ | refine bthen ?_ (by assumption))) hb2
  have sw2 : w1.heap.size + 0 ≤ w2.heap.size := by have := hb2.size; (try simp at this); omega
  have H_w2 : Below w.heap.size w w2 := bthen H_w1 gw2
  have f7 : w2.cell? ⟨w.heap.size, 0, none⟩ = some (.int .i64 x0.1) := (gw2.cell (by first | omega | (simp; try omega))).trans f1
  have f8 : w2.cell? ⟨w.heap.size, 1, none⟩ = some (u0) := (gw2.cell (by first | omega | (simp; try omega))).trans f2
  have f9 : w2.cell? ⟨w.heap.size + 1, 0, none⟩ = some (.int .i64 x1.1) := (gw2.cell (by first | omega | (simp; try omega))).trans f3
  have f10 : w2.cell? ⟨w.heap.size + 1, 1, none⟩ = some (u1) := (gw2.cell (by first | omega | (simp; try omega))).trans f4
  have z11 : w.heap.size < w2.heap.size := by omega
  have z12 : w.heap.size + 1 < w2.heap.size := by omega
  clear hb2 H_w1 f1 f2 f3 f4 z5 z6 gw2
  rcases ilt (1048576 - szTpl x0) (szInst x1) with hl5 | hl5
  · rw [szR_lt hl5]
    go_wp2_with fail
    go_ret
    exact ⟨rfl, (by repeat (first | exact Below.refl _ _ | exact bA | assumption | refine Below.setCell ?_ (by first | omega | (simp; try omega)) _ | refine Below.alloc ?_ (by first | omega | (simp; try omega)) _ | refine Below.drew ?_ | refine bDN ?_ | refine bthen ?_ (by assumption)))⟩
  rw [szR_ge hl5]
  go_wp2_with fail
  have hcr1 : cntFrm (ifrV x0 x1 n2) ≤ 1000000000 := (Int.le_trans ifr_cnt (by omega))
  have hcrz1 : 0 ≤ cntFrm (ifrV x0 x1 n2) := cntOps_nn _
  refine wp_region_box [(.plain, exO (.agg #[.int .i64 x0.1, u0])), (.plain, rdAO tplT x0), (.plain, exO (.agg #[.int .i64 x1.1, u1])), (.plain, rdAO instT x1), (.plain, exO (.int .i64 n2)), (.plain, frTO frmT w2.heap.size (ifrV x0 x1 n2) (.int .i64 (ifrC x0 x1 n2))), (.plain, frTO frmT w2.heap.size (ifrV x0 x1 n2) (.int .i64 (ifrC x0 x1 n2))), (.plain, frAO frmT w2.heap.size (ifrV x0 x1 n2)), (.plain, exO (.int .i64 (ifrC x0 x1 n2))), (.alloc, boxO 3), (.store, heldO frmT w2.heap.size (ifrV x0 x1 n2)), (.plain, exO (.int .i64 (ifrC x0 x1 n2)))] (by kernel_rfl) (by kernel_rfl) ⟨st_exO, st_rdAO, st_exO, st_rdAO, st_exO, st_frTO, st_frTO, st_frAO, st_exO, st_boxO, st_heldO, st_exO, trivial⟩ ⟨?j8_0, ?j8_1, ?j8_2, ?j8_3, ?j8_4, ?j8_5, ?j8_6, ?j8_7, ?j8_8, ?j8_9, ?j8_10, ?j8_11, trivial⟩ ?hQ8
  case j8_0 =>
    intro a' w' ob hb hbo hal hd
    have e0 : a'.tmps[3]?.getD undef = .pointer (some ⟨w.heap.size, 0, none⟩) := ev (slot_o2 hd 3 rfl rfl)
    have q : ∀ b o, b < w2.heap.size → w'.cell? ⟨b, o, none⟩ = w2.cell? ⟨b, o, none⟩ := (bcell hb).1
    go_simp
    exact ⟨_, ⟨rfl, Below.refl _ _⟩, rfl⟩
  case j8_1 =>
    intro a' w' ob hb hbo hal hd
    have e30 : a'.tmps[30]?.getD undef = .agg #[.int .i64 x0.1, u0] := ev (slot_w2 hd 30 (exO (.agg #[.int .i64 x0.1, u0])) rfl rfl)
    have r30 : tplT.Rd w2 (#[.int .i64 x0.1, u0] : Array Value).toList x0 := hx0.below H_w2
    have r30' := r30.below hb
    go_simp
    exact ⟨rfl, Below.refl _ _, (toTemplate_any w' r30' (by first | omega | (unfold szInts; omega))).mono fun e w'' ⟨cs, he, hf, hb⟩ => ⟨_, he, hb, rdAO_mk hf hbo⟩⟩
  case j8_2 =>
    intro a' w' ob hb hbo hal hd
    have e0 : a'.tmps[4]?.getD undef = .pointer (some ⟨w.heap.size + 1, 0, none⟩) := ev (slot_o2 hd 4 rfl rfl)
    have q : ∀ b o, b < w2.heap.size → w'.cell? ⟨b, o, none⟩ = w2.cell? ⟨b, o, none⟩ := (bcell hb).1
    go_simp
    exact ⟨_, ⟨rfl, Below.refl _ _⟩, rfl⟩
  case j8_3 =>
    intro a' w' ob hb hbo hal hd
    have e32 : a'.tmps[32]?.getD undef = .agg #[.int .i64 x1.1, u1] := ev (slot_w2 hd 32 (exO (.agg #[.int .i64 x1.1, u1])) rfl rfl)
    have r32 : instT.Rd w2 (#[.int .i64 x1.1, u1] : Array Value).toList x1 := hx1.below H_w2
    have r32' := r32.below hb
    go_simp
    exact ⟨rfl, Below.refl _ _, (toInstance_any w' r32' (by first | omega | (unfold szInts; omega))).mono fun e w'' ⟨cs, he, hf, hb⟩ => ⟨_, he, hb, rdAO_mk hf hbo⟩⟩
  case j8_4 =>
    intro a' w' ob hb hbo hal hd
    have e0 : a'.tmps[2]?.getD undef = .int .i64 n2 := ev (slot_o2 hd 2 rfl rfl)
    go_simp
    exact ⟨_, ⟨rfl, Below.refl _ _⟩, rfl⟩
  case j8_5 =>
    intro a' w' ob hb hbo hal hd
    have d31 := slot_w2 hd 31 (rdAO tplT x0) rfl rfl
    obtain ⟨cs31, fp31, e31, hr31, -⟩ := d31
    have rd31 : tplT.Rd w' cs31 x0 := ⟨_, hr31⟩
    have e31' := ev e31
    have d33 := slot_w2 hd 33 (rdAO instT x1) rfl rfl
    obtain ⟨cs33, fp33, e33, hr33, -⟩ := d33
    have rd33 : instT.Rd w' cs33 x1 := ⟨_, hr33⟩
    have e33' := ev e33
    have e34 : a'.tmps[34]?.getD undef = .int .i64 n2 := ev (slot_w2 hd 34 (exO (.int .i64 n2)) rfl rfl)
    go_simp
    exact ⟨rfl, Below.refl _ _, (specInstanceFormula_any _ rd31 rd33).mono fun e w'' ⟨cs, he, hf, hb2⟩ => ⟨_, he, hb2, frTO_mk hb.size hf hbo⟩⟩
  case j8_6 =>
    intro a' w' ob hb hbo hal hd
    have d35 := slot_w2 hd 35 (frTO frmT w2.heap.size (ifrV x0 x1 n2) (.int .i64 (ifrC x0 x1 n2))) rfl rfl
    obtain ⟨cs35, e35, hf35⟩ := d35
    have e35' := ev e35
    go_simp
    exact ⟨_, ⟨rfl, Below.refl _ _⟩, cs35, rfl, hf35⟩
  case j8_7 =>
    intro a' w' ob hb hbo hal hd
    have d29 := slot_w2 hd 29 (frTO frmT w2.heap.size (ifrV x0 x1 n2) (.int .i64 (ifrC x0 x1 n2))) rfl rfl
    obtain ⟨cs29, e29, hf29⟩ := d29
    have e29' := ev e29
    go_simp
    exact ⟨_, ⟨rfl, Below.refl _ _⟩, hf29⟩
  case j8_8 =>
    intro a' w' ob hb hbo hal hd
    have d29 := slot_w2 hd 29 (frTO frmT w2.heap.size (ifrV x0 x1 n2) (.int .i64 (ifrC x0 x1 n2))) rfl rfl
    obtain ⟨cs29, e29, hf29⟩ := d29
    have e29' := ev e29
    go_simp
    exact ⟨_, ⟨rfl, Below.refl _ _⟩, rfl⟩
  case j8_9 =>
    intro a' w' ob hb hbo hal hd
    obtain rfl := hal rfl
    go_simp
    exact ⟨_, ⟨rfl, by simp, bA⟩, _, rfl, rfl, by simp, box3⟩
  case j8_10 =>
    intro a' w' ob hb hbo hal hd
    obtain ⟨bb, rfl, e8, hbb, hcl⟩ := slot_w2 hd 8 (boxO 3) rfl rfl
    have e8' := ev e8
    have d36 := slot_w2 hd 36 (frAO frmT w2.heap.size (ifrV x0 x1 n2)) rfl rfl
    obtain ⟨cs36, fp36, e36, hr36, hn36, hg36, hu36, ho36⟩ := d36
    obtain ⟨u36, rfl, hr36', -⟩ := rd_trip hr36
    obtain ⟨ad36', cap36', rfl⟩ := rd_slice ⟨_, hr36'⟩
    have e36' := ev e36
    obtain ⟨⟨y0, c0⟩, f0⟩ := hcl 0 (by decide)
    obtain ⟨⟨y1, c1⟩, f1⟩ := hcl 1 (by decide)
    obtain ⟨⟨y2, c2⟩, f2⟩ := hcl 2 (by decide)
    go_simp
    exact held3 c0 c1 c2 hr36 hn36 hg36 hu36 ho36 _
  case j8_11 =>
    intro a' w' ob hb hbo hal hd
    have e0 : a'.tmps[37]?.getD undef = .int .i64 (ifrC x0 x1 n2) := ev (slot_w2 hd 37 (exO (.int .i64 (ifrC x0 x1 n2))) rfl rfl)
    go_simp
    exact ⟨_, ⟨rfl, Below.refl _ _⟩, rfl⟩
  intro vs8 w3 ob8 hb3 hbo8 H0
  obtain ⟨v8_0, _, rfl, p0, H1⟩ := HAll2_cons H0
  obtain ⟨v8_1, _, rfl, p1, H2⟩ := HAll2_cons H1
  obtain ⟨v8_2, _, rfl, p2, H3⟩ := HAll2_cons H2
  obtain ⟨v8_3, _, rfl, p3, H4⟩ := HAll2_cons H3
  obtain ⟨v8_4, _, rfl, p4, H5⟩ := HAll2_cons H4
  obtain ⟨v8_5, _, rfl, p5, H6⟩ := HAll2_cons H5
  obtain ⟨v8_6, _, rfl, p6, H7⟩ := HAll2_cons H6
  obtain ⟨v8_7, _, rfl, p7, H8⟩ := HAll2_cons H7
  obtain ⟨v8_8, _, rfl, p8, H9⟩ := HAll2_cons H8
  obtain ⟨v8_9, _, rfl, p9, H10⟩ := HAll2_cons H9
  obtain ⟨v8_10, _, rfl, p10, H11⟩ := HAll2_cons H10
  obtain ⟨v8_11, _, rfl, p11, H12⟩ := HAll2_cons H11
  obtain rfl := HAll2_nil H12
  obtain rfl := id p0
  obtain rfl := id p2
  obtain rfl := id p4
  obtain rfl := id p8
  obtain rfl := id p11
  obtain ⟨bb13, rfl, rfl, hltbb13, -⟩ := id p9
  obtain ⟨_, cs, fp16, hob, hr1, hr2, hr3, hr4, -, cc15⟩ := id p10
  simp only [Option.some.injEq] at hob
  subst hob
  have hc14 : frmT.Fr w2.heap.size w3 cs (ifrV x0 x1 n2) := ⟨fp16, hr1, hr2, hr3, hr4⟩
  have hlobb13 : w2.heap.size ≤ bb13 := (hbo8 bb13 rfl).1
  obtain ⟨ad17, ad17', rfl⟩ := fr_trip hc14
  have f18 : w3.cell? ⟨bb13, 0, none⟩ = some (.int .i64 (ifrV x0 x1 n2).1) := cc15 0 (by simp)
  have f19 : w3.cell? ⟨bb13, 1, none⟩ = some (.int .i64 (ifrV x0 x1 n2).2.1) := cc15 1 (by simp)
  have f20 : w3.cell? ⟨bb13, 2, none⟩ = some (.slice ad17 (ifrV x0 x1 n2).2.2.length ad17') := cc15 2 (by simp)
  clear cc15 hr1 hr2 hr3 hr4
  clear p0 p1 p2 p3 p4 p5 p6 p7 p8 p9 p10 p11 H0 H1 H2 H3 H4 H5 H6 H7 H8 H9 H10 H11 H12
  have gw3 : Below w2.heap.size w2 w3 := bthen (by repeat (first | exact Below.refl _ _ | exact bA | assumption | refine Below.setCell ?_ (by first | omega | (simp; try omega)) _ | refine Below.alloc ?_ (by first | omega | (simp; try omega)) _ | refine Below.drew ?_ | refine bDN ?_ | refine bthen ?_ (by assumption))) hb3
  have sw3 : w2.heap.size + 0 ≤ w3.heap.size := by have := hb3.size; (try simp at this); omega
  have H_w3 : Below w.heap.size w w3 := bthen H_w2 gw3
  have f21 : w3.cell? ⟨w.heap.size, 0, none⟩ = some (.int .i64 x0.1) := (gw3.cell (by first | omega | (simp; try omega))).trans f7
  have f22 : w3.cell? ⟨w.heap.size, 1, none⟩ = some (u0) := (gw3.cell (by first | omega | (simp; try omega))).trans f8
  have f23 : w3.cell? ⟨w.heap.size + 1, 0, none⟩ = some (.int .i64 x1.1) := (gw3.cell (by first | omega | (simp; try omega))).trans f9
  have f24 : w3.cell? ⟨w.heap.size + 1, 1, none⟩ = some (u1) := (gw3.cell (by first | omega | (simp; try omega))).trans f10
  have z25 : w.heap.size < w3.heap.size := by omega
  have z26 : w.heap.size + 1 < w3.heap.size := by omega
  clear hb3 H_w2 f7 f8 f9 f10 z11 z12 gw3
  have d27 : frmT.Fx w2.heap.size w3.heap.size w3 [.int .i64 (ifrV x0 x1 n2).1, .int .i64 (ifrV x0 x1 n2).2.1, .slice ad17 (ifrV x0 x1 n2).2.2.length ad17'] (ifrV x0 x1 n2) := hc14.fx
  clear hc14
  simp only [putAll, Act.put]
  go_simp
  go_wp2_with fail
  refine (toTemplate_any _ (hx0.below (by repeat (first | exact Below.refl _ _ | exact bA | assumption | refine Below.setCell ?_ (by first | omega | (simp; try omega)) _ | refine Below.alloc ?_ (by first | omega | (simp; try omega)) _ | refine Below.drew ?_ | refine bDN ?_ | refine bthen ?_ (by assumption)))) (by first | omega | (unfold szInts; omega))).mono ?_
  rintro e w4 ⟨cs, rfl, hc29, hb4⟩
  have gw4 : Below w3.heap.size w3 w4 := bthen (by repeat (first | exact Below.refl _ _ | exact bA | assumption | refine Below.setCell ?_ (by first | omega | (simp; try omega)) _ | refine Below.alloc ?_ (by first | omega | (simp; try omega)) _ | refine Below.drew ?_ | refine bDN ?_ | refine bthen ?_ (by assumption))) hb4
  have sw4 : w3.heap.size + 0 ≤ w4.heap.size := by have := hb4.size; (try simp at this); omega
  have H_w4 : Below w.heap.size w w4 := bthen H_w3 gw4
  have f30 : w4.cell? ⟨w.heap.size, 0, none⟩ = some (.int .i64 x0.1) := (gw4.cell (by first | omega | (simp; try omega))).trans f21
  have f31 : w4.cell? ⟨w.heap.size, 1, none⟩ = some (u0) := (gw4.cell (by first | omega | (simp; try omega))).trans f22
  have f32 : w4.cell? ⟨w.heap.size + 1, 0, none⟩ = some (.int .i64 x1.1) := (gw4.cell (by first | omega | (simp; try omega))).trans f23
  have f33 : w4.cell? ⟨w.heap.size + 1, 1, none⟩ = some (u1) := (gw4.cell (by first | omega | (simp; try omega))).trans f24
  have f34 : w4.cell? ⟨bb13, 0, none⟩ = some (.int .i64 (ifrV x0 x1 n2).1) := (gw4.cell (by first | omega | (simp; try omega))).trans f18
  have f35 : w4.cell? ⟨bb13, 1, none⟩ = some (.int .i64 (ifrV x0 x1 n2).2.1) := (gw4.cell (by first | omega | (simp; try omega))).trans f19
  have f36 : w4.cell? ⟨bb13, 2, none⟩ = some (.slice ad17 (ifrV x0 x1 n2).2.2.length ad17') := (gw4.cell (by first | omega | (simp; try omega))).trans f20
  have z37 : w.heap.size < w4.heap.size := by omega
  have z38 : w.heap.size + 1 < w4.heap.size := by omega
  have z39 : bb13 < w4.heap.size := by omega
  have d40 : frmT.Fx w2.heap.size w3.heap.size w4 [.int .i64 (ifrV x0 x1 n2).1, .int .i64 (ifrV x0 x1 n2).2.1, .slice ad17 (ifrV x0 x1 n2).2.2.length ad17'] (ifrV x0 x1 n2) := d27.below gw4
  clear hb4 H_w3 f21 f22 f23 f24 f18 f19 f20 d27 z25 z26 gw4
  obtain ⟨ad41, ad41', rfl⟩ := fr_pair hc29
  have d42 : tplT.Fx w3.heap.size w4.heap.size w4 [.int .i64 x0.1, .slice ad41 x0.2.length ad41'] x0 := (Ty.Fr.mono hc29 (by first | exact Nat.le_refl _ | (simp; try omega))).fx
  clear hc29
  go_wp2_with fail
  refine (toInstance_any _ (hx1.below (by repeat (first | exact Below.refl _ _ | exact bA | assumption | refine Below.setCell ?_ (by first | omega | (simp; try omega)) _ | refine Below.alloc ?_ (by first | omega | (simp; try omega)) _ | refine Below.drew ?_ | refine bDN ?_ | refine bthen ?_ (by assumption)))) (by first | omega | (unfold szInts; omega))).mono ?_
  rintro e w5 ⟨cs, rfl, hc44, hb5⟩
  have gw5 : Below w4.heap.size w4 w5 := bthen (by repeat (first | exact Below.refl _ _ | exact bA | assumption | refine Below.setCell ?_ (by first | omega | (simp; try omega)) _ | refine Below.alloc ?_ (by first | omega | (simp; try omega)) _ | refine Below.drew ?_ | refine bDN ?_ | refine bthen ?_ (by assumption))) hb5
  have sw5 : w4.heap.size + 1 ≤ w5.heap.size := by have := hb5.size; (try simp at this); omega
  have H_w5 : Below w.heap.size w w5 := bthen H_w4 gw5
  have f45 : w5.cell? ⟨w.heap.size, 0, none⟩ = some (.int .i64 x0.1) := (gw5.cell (by first | omega | (simp; try omega))).trans f30
  have f46 : w5.cell? ⟨w.heap.size, 1, none⟩ = some (u0) := (gw5.cell (by first | omega | (simp; try omega))).trans f31
  have f47 : w5.cell? ⟨w.heap.size + 1, 0, none⟩ = some (.int .i64 x1.1) := (gw5.cell (by first | omega | (simp; try omega))).trans f32
  have f48 : w5.cell? ⟨w.heap.size + 1, 1, none⟩ = some (u1) := (gw5.cell (by first | omega | (simp; try omega))).trans f33
  have f49 : w5.cell? ⟨bb13, 0, none⟩ = some (.int .i64 (ifrV x0 x1 n2).1) := (gw5.cell (by first | omega | (simp; try omega))).trans f34
  have f50 : w5.cell? ⟨bb13, 1, none⟩ = some (.int .i64 (ifrV x0 x1 n2).2.1) := (gw5.cell (by first | omega | (simp; try omega))).trans f35
  have f51 : w5.cell? ⟨bb13, 2, none⟩ = some (.slice ad17 (ifrV x0 x1 n2).2.2.length ad17') := (gw5.cell (by first | omega | (simp; try omega))).trans f36
  have f52 : w5.cell? ⟨w4.heap.size, 0, none⟩ = some (.int .i64 x0.1) := by rw [(bcell hb5).1 _ _ (by first | omega | (simp; try omega))]; simp
  have f53 : w5.cell? ⟨w4.heap.size, 1, none⟩ = some (.slice ad41 x0.2.length ad41') := by rw [(bcell hb5).1 _ _ (by first | omega | (simp; try omega))]; simp
  have z54 : w.heap.size < w5.heap.size := by omega
  have z55 : w.heap.size + 1 < w5.heap.size := by omega
  have z56 : bb13 < w5.heap.size := by omega
  have z57 : w4.heap.size < w5.heap.size := by omega
  have d58 : frmT.Fx w2.heap.size w3.heap.size w5 [.int .i64 (ifrV x0 x1 n2).1, .int .i64 (ifrV x0 x1 n2).2.1, .slice ad17 (ifrV x0 x1 n2).2.2.length ad17'] (ifrV x0 x1 n2) := d40.below gw5
  have d59 : tplT.Fx w3.heap.size w4.heap.size w5 [.int .i64 x0.1, .slice ad41 x0.2.length ad41'] x0 := d42.below gw5
  clear hb5 H_w4 f30 f31 f32 f33 f34 f35 f36 d40 d42 z37 z38 z39 gw5
  obtain ⟨ad60, ad60', rfl⟩ := fr_pair hc44
  have d61 : instT.Fx (w4.heap.size + 1) w5.heap.size w5 [.int .i64 x1.1, .slice ad60 x1.2.length ad60'] x1 := (Ty.Fr.mono hc44 (by first | exact Nat.le_refl _ | (simp; try omega))).fx
  clear hc44
  go_wp2_with fail
  refine (InstanceFormula_any _ (d59.rd.below (by repeat (first | exact Below.refl _ _ | exact bA | assumption | refine Below.setCell ?_ (by first | omega | (simp; try omega)) _ | refine Below.alloc ?_ (by first | omega | (simp; try omega)) _ | refine Below.drew ?_ | refine bDN ?_ | refine bthen ?_ (by assumption)))) (d61.rd.below (by repeat (first | exact Below.refl _ _ | exact bA | assumption | refine Below.setCell ?_ (by first | omega | (simp; try omega)) _ | refine Below.alloc ?_ (by first | omega | (simp; try omega)) _ | refine Below.drew ?_ | refine bDN ?_ | refine bthen ?_ (by assumption))))).mono ?_
  rintro e w6 ⟨cs, rfl, hc63, hb6⟩
  have gw6 : Below w5.heap.size w5 w6 := bthen (by repeat (first | exact Below.refl _ _ | exact bA | assumption | refine Below.setCell ?_ (by first | omega | (simp; try omega)) _ | refine Below.alloc ?_ (by first | omega | (simp; try omega)) _ | refine Below.drew ?_ | refine bDN ?_ | refine bthen ?_ (by assumption))) hb6
  have sw6 : w5.heap.size + 1 ≤ w6.heap.size := by have := hb6.size; (try simp at this); omega
  have H_w6 : Below w.heap.size w w6 := bthen H_w5 gw6
  have f64 : w6.cell? ⟨w.heap.size, 0, none⟩ = some (.int .i64 x0.1) := (gw6.cell (by first | omega | (simp; try omega))).trans f45
  have f65 : w6.cell? ⟨w.heap.size, 1, none⟩ = some (u0) := (gw6.cell (by first | omega | (simp; try omega))).trans f46
  have f66 : w6.cell? ⟨w.heap.size + 1, 0, none⟩ = some (.int .i64 x1.1) := (gw6.cell (by first | omega | (simp; try omega))).trans f47
  have f67 : w6.cell? ⟨w.heap.size + 1, 1, none⟩ = some (u1) := (gw6.cell (by first | omega | (simp; try omega))).trans f48
  have f68 : w6.cell? ⟨bb13, 0, none⟩ = some (.int .i64 (ifrV x0 x1 n2).1) := (gw6.cell (by first | omega | (simp; try omega))).trans f49
  have f69 : w6.cell? ⟨bb13, 1, none⟩ = some (.int .i64 (ifrV x0 x1 n2).2.1) := (gw6.cell (by first | omega | (simp; try omega))).trans f50
  have f70 : w6.cell? ⟨bb13, 2, none⟩ = some (.slice ad17 (ifrV x0 x1 n2).2.2.length ad17') := (gw6.cell (by first | omega | (simp; try omega))).trans f51
  have f71 : w6.cell? ⟨w4.heap.size, 0, none⟩ = some (.int .i64 x0.1) := (gw6.cell (by first | omega | (simp; try omega))).trans f52
  have f72 : w6.cell? ⟨w4.heap.size, 1, none⟩ = some (.slice ad41 x0.2.length ad41') := (gw6.cell (by first | omega | (simp; try omega))).trans f53
  have f73 : w6.cell? ⟨w5.heap.size, 0, none⟩ = some (.int .i64 x1.1) := by rw [(bcell hb6).1 _ _ (by first | omega | (simp; try omega))]; simp
  have f74 : w6.cell? ⟨w5.heap.size, 1, none⟩ = some (.slice ad60 x1.2.length ad60') := by rw [(bcell hb6).1 _ _ (by first | omega | (simp; try omega))]; simp
  have z75 : w.heap.size < w6.heap.size := by omega
  have z76 : w.heap.size + 1 < w6.heap.size := by omega
  have z77 : bb13 < w6.heap.size := by omega
  have z78 : w4.heap.size < w6.heap.size := by omega
  have z79 : w5.heap.size < w6.heap.size := by omega
  have d80 : frmT.Fx w2.heap.size w3.heap.size w6 [.int .i64 (ifrV x0 x1 n2).1, .int .i64 (ifrV x0 x1 n2).2.1, .slice ad17 (ifrV x0 x1 n2).2.2.length ad17'] (ifrV x0 x1 n2) := d58.below gw6
  have d81 : tplT.Fx w3.heap.size w4.heap.size w6 [.int .i64 x0.1, .slice ad41 x0.2.length ad41'] x0 := d59.below gw6
  have d82 : instT.Fx (w4.heap.size + 1) w5.heap.size w6 [.int .i64 x1.1, .slice ad60 x1.2.length ad60'] x1 := d61.below gw6
  clear hb6 H_w5 f45 f46 f47 f48 f49 f50 f51 f52 f53 d58 d59 d61 z54 z55 z56 z57 gw6
  obtain ⟨ad83, ad83', rfl⟩ := fr_trip hc63
  have d84 : frmT.Fx (w5.heap.size + 1) w6.heap.size w6 [.int .i64 (ifrV x0 x1 n2).1, .int .i64 (ifrV x0 x1 n2).2.1, .slice ad83 (ifrV x0 x1 n2).2.2.length ad83'] (ifrV x0 x1 n2) := (Ty.Fr.mono hc63 (by first | exact Nat.le_refl _ | (simp; try omega))).fx
  clear hc63
  go_wp2_with fail
  refine (eqFormula_any _ (d84.rd.below (by repeat (first | exact Below.refl _ _ | exact bA | assumption | refine Below.setCell ?_ (by first | omega | (simp; try omega)) _ | refine Below.alloc ?_ (by first | omega | (simp; try omega)) _ | refine Below.drew ?_ | refine bDN ?_ | refine bthen ?_ (by assumption)))) (d80.rd.below (by repeat (first | exact Below.refl _ _ | exact bA | assumption | refine Below.setCell ?_ (by first | omega | (simp; try omega)) _ | refine Below.alloc ?_ (by first | omega | (simp; try omega)) _ | refine Below.drew ?_ | refine bDN ?_ | refine bthen ?_ (by assumption))))).mono ?_
  rintro e w7 ⟨rfl, hb7⟩
  have gw7 : Below w6.heap.size w6 w7 := bthen (by repeat (first | exact Below.refl _ _ | exact bA | assumption | refine Below.setCell ?_ (by first | omega | (simp; try omega)) _ | refine Below.alloc ?_ (by first | omega | (simp; try omega)) _ | refine Below.drew ?_ | refine bDN ?_ | refine bthen ?_ (by assumption))) hb7
  have sw7 : w6.heap.size + 1 ≤ w7.heap.size := by have := hb7.size; (try simp at this); omega
  have H_w7 : Below w.heap.size w w7 := bthen H_w6 gw7
  have f86 : w7.cell? ⟨w.heap.size, 0, none⟩ = some (.int .i64 x0.1) := (gw7.cell (by first | omega | (simp; try omega))).trans f64
  have f87 : w7.cell? ⟨w.heap.size, 1, none⟩ = some (u0) := (gw7.cell (by first | omega | (simp; try omega))).trans f65
  have f88 : w7.cell? ⟨w.heap.size + 1, 0, none⟩ = some (.int .i64 x1.1) := (gw7.cell (by first | omega | (simp; try omega))).trans f66
  have f89 : w7.cell? ⟨w.heap.size + 1, 1, none⟩ = some (u1) := (gw7.cell (by first | omega | (simp; try omega))).trans f67
  have f90 : w7.cell? ⟨bb13, 0, none⟩ = some (.int .i64 (ifrV x0 x1 n2).1) := (gw7.cell (by first | omega | (simp; try omega))).trans f68
  have f91 : w7.cell? ⟨bb13, 1, none⟩ = some (.int .i64 (ifrV x0 x1 n2).2.1) := (gw7.cell (by first | omega | (simp; try omega))).trans f69
  have f92 : w7.cell? ⟨bb13, 2, none⟩ = some (.slice ad17 (ifrV x0 x1 n2).2.2.length ad17') := (gw7.cell (by first | omega | (simp; try omega))).trans f70
  have f93 : w7.cell? ⟨w4.heap.size, 0, none⟩ = some (.int .i64 x0.1) := (gw7.cell (by first | omega | (simp; try omega))).trans f71
  have f94 : w7.cell? ⟨w4.heap.size, 1, none⟩ = some (.slice ad41 x0.2.length ad41') := (gw7.cell (by first | omega | (simp; try omega))).trans f72
  have f95 : w7.cell? ⟨w5.heap.size, 0, none⟩ = some (.int .i64 x1.1) := (gw7.cell (by first | omega | (simp; try omega))).trans f73
  have f96 : w7.cell? ⟨w5.heap.size, 1, none⟩ = some (.slice ad60 x1.2.length ad60') := (gw7.cell (by first | omega | (simp; try omega))).trans f74
  have f97 : w7.cell? ⟨w6.heap.size, 0, none⟩ = some (.int .i64 (ifrV x0 x1 n2).1) := by rw [(bcell hb7).1 _ _ (by first | omega | (simp; try omega))]; simp
  have f98 : w7.cell? ⟨w6.heap.size, 1, none⟩ = some (.int .i64 (ifrV x0 x1 n2).2.1) := by rw [(bcell hb7).1 _ _ (by first | omega | (simp; try omega))]; simp
  have f99 : w7.cell? ⟨w6.heap.size, 2, none⟩ = some (.slice ad83 (ifrV x0 x1 n2).2.2.length ad83') := by rw [(bcell hb7).1 _ _ (by first | omega | (simp; try omega))]; simp
  have z100 : w.heap.size < w7.heap.size := by omega
  have z101 : w.heap.size + 1 < w7.heap.size := by omega
  have z102 : bb13 < w7.heap.size := by omega
  have z103 : w4.heap.size < w7.heap.size := by omega
  have z104 : w5.heap.size < w7.heap.size := by omega
  have z105 : w6.heap.size < w7.heap.size := by omega
  have d106 : frmT.Fx w2.heap.size w3.heap.size w7 [.int .i64 (ifrV x0 x1 n2).1, .int .i64 (ifrV x0 x1 n2).2.1, .slice ad17 (ifrV x0 x1 n2).2.2.length ad17'] (ifrV x0 x1 n2) := d80.below gw7
  have d107 : tplT.Fx w3.heap.size w4.heap.size w7 [.int .i64 x0.1, .slice ad41 x0.2.length ad41'] x0 := d81.below gw7
  have d108 : instT.Fx (w4.heap.size + 1) w5.heap.size w7 [.int .i64 x1.1, .slice ad60 x1.2.length ad60'] x1 := d82.below gw7
  have d109 : frmT.Fx (w5.heap.size + 1) w6.heap.size w7 [.int .i64 (ifrV x0 x1 n2).1, .int .i64 (ifrV x0 x1 n2).2.1, .slice ad83 (ifrV x0 x1 n2).2.2.length ad83'] (ifrV x0 x1 n2) := d84.below gw7
  clear hb7 H_w6 f64 f65 f66 f67 f68 f69 f70 f71 f72 f73 f74 d80 d81 d82 d84 z75 z76 z77 z78 z79 gw7
  rw [eqB_true rfl]
  go_wp2_with fail
  refine wp_region_loose [exV (.agg #[.int .i64 x0.1, .slice ad41 x0.2.length ad41']), exV (.agg #[.int .i64 x0.1, u0]), rdA tplT x0, exV (.bool true), exV (.bool false)] (by kernel_rfl) (by kernel_rfl) ⟨st_exV, st_exV, st_rdA, st_exV, st_exV, trivial⟩ ⟨?j14_0, ?j14_1, ?j14_2, ?j14_3, ?j14_4, trivial⟩ ?hQ14
  case j14_0 =>
    intro a' w' hb hd
    have e0 : a'.tmps[10]?.getD undef = .pointer (some ⟨w4.heap.size, 0, none⟩) := ev (slot_o hd 10 rfl rfl)
    have q : ∀ b o, b < w7.heap.size → w'.cell? ⟨b, o, none⟩ = w7.cell? ⟨b, o, none⟩ := (bcell hb).1
    go_simp
    exact ⟨Below.refl _ _, rfl⟩
  case j14_1 =>
    intro a' w' hb hd
    have e0 : a'.tmps[3]?.getD undef = .pointer (some ⟨w.heap.size, 0, none⟩) := ev (slot_o hd 3 rfl rfl)
    have q : ∀ b o, b < w7.heap.size → w'.cell? ⟨b, o, none⟩ = w7.cell? ⟨b, o, none⟩ := (bcell hb).1
    go_simp
    exact ⟨Below.refl _ _, rfl⟩
  case j14_2 =>
    intro a' w' hb hd
    have e59 : a'.tmps[59]?.getD undef = .agg #[.int .i64 x0.1, u0] := ev (slot_w hd 59 (exV (.agg #[.int .i64 x0.1, u0])) rfl rfl)
    have r59 : tplT.Rd w7 (#[.int .i64 x0.1, u0] : Array Value).toList x0 := hx0.below H_w7
    have r59' := r59.below hb
    go_simp
    exact ⟨Below.refl _ _, (toTemplate_any w' r59' (by first | omega | (unfold szInts; omega))).mono fun e w'' ⟨cs, he, hf, hb⟩ => ⟨_, he, hb, cs, rfl, hf.rd⟩⟩
  case j14_3 =>
    intro a' w' hb hd
    have e58 : a'.tmps[58]?.getD undef = .agg #[.int .i64 x0.1, .slice ad41 x0.2.length ad41'] := ev (slot_w hd 58 (exV (.agg #[.int .i64 x0.1, .slice ad41 x0.2.length ad41'])) rfl rfl)
    have r58 : tplT.Rd w7 (#[.int .i64 x0.1, .slice ad41 x0.2.length ad41'] : Array Value).toList x0 := d107.rd
    have r58' := r58.below hb
    have d60 := slot_w hd 60 (rdA tplT x0) rfl rfl
    obtain ⟨cs60, e60, hf60⟩ := d60
    have e60' := ev e60
    go_simp
    exact ⟨Below.refl _ _, (eqTemplate_any w' r58' hf60).mono fun e w'' ⟨he, hb⟩ => ⟨_, he, hb, exV_eqB⟩⟩
  case j14_4 =>
    intro a' w' hb hd
    have e0 : a'.tmps[61]?.getD undef = .bool true := ev (slot_w hd 61 (exV (.bool true)) rfl rfl)
    go_simp
    exact ⟨Below.refl _ _, rfl⟩
  intro vs14 w8 hb8 H0
  obtain ⟨v14_0, _, rfl, p0, H1⟩ := HAll_cons H0
  obtain ⟨v14_1, _, rfl, p1, H2⟩ := HAll_cons H1
  obtain ⟨v14_2, _, rfl, p2, H3⟩ := HAll_cons H2
  obtain ⟨v14_3, _, rfl, p3, H4⟩ := HAll_cons H3
  obtain ⟨v14_4, _, rfl, p4, H5⟩ := HAll_cons H4
  obtain rfl := HAll_nil H5
  obtain rfl := p0 rfl
  obtain rfl := p1 rfl
  obtain rfl := p3 rfl
  obtain rfl := p4 rfl
  clear p0 p1 p2 p3 p4 H0 H1 H2 H3 H4 H5
  have gw8 : Below w7.heap.size w7 w8 := bthen (by repeat (first | exact Below.refl _ _ | exact bA | assumption | refine Below.setCell ?_ (by first | omega | (simp; try omega)) _ | refine Below.alloc ?_ (by first | omega | (simp; try omega)) _ | refine Below.drew ?_ | refine bDN ?_ | refine bthen ?_ (by assumption))) hb8
  have sw8 : w7.heap.size + 0 ≤ w8.heap.size := by have := hb8.size; (try simp at this); omega
  have H_w8 : Below w.heap.size w w8 := bthen H_w7 gw8
  have f110 : w8.cell? ⟨w.heap.size, 0, none⟩ = some (.int .i64 x0.1) := (gw8.cell (by first | omega | (simp; try omega))).trans f86
  have f111 : w8.cell? ⟨w.heap.size, 1, none⟩ = some (u0) := (gw8.cell (by first | omega | (simp; try omega))).trans f87
  have f112 : w8.cell? ⟨w.heap.size + 1, 0, none⟩ = some (.int .i64 x1.1) := (gw8.cell (by first | omega | (simp; try omega))).trans f88
  have f113 : w8.cell? ⟨w.heap.size + 1, 1, none⟩ = some (u1) := (gw8.cell (by first | omega | (simp; try omega))).trans f89
  have f114 : w8.cell? ⟨bb13, 0, none⟩ = some (.int .i64 (ifrV x0 x1 n2).1) := (gw8.cell (by first | omega | (simp; try omega))).trans f90
  have f115 : w8.cell? ⟨bb13, 1, none⟩ = some (.int .i64 (ifrV x0 x1 n2).2.1) := (gw8.cell (by first | omega | (simp; try omega))).trans f91
  have f116 : w8.cell? ⟨bb13, 2, none⟩ = some (.slice ad17 (ifrV x0 x1 n2).2.2.length ad17') := (gw8.cell (by first | omega | (simp; try omega))).trans f92
  have f117 : w8.cell? ⟨w4.heap.size, 0, none⟩ = some (.int .i64 x0.1) := (gw8.cell (by first | omega | (simp; try omega))).trans f93
  have f118 : w8.cell? ⟨w4.heap.size, 1, none⟩ = some (.slice ad41 x0.2.length ad41') := (gw8.cell (by first | omega | (simp; try omega))).trans f94
  have f119 : w8.cell? ⟨w5.heap.size, 0, none⟩ = some (.int .i64 x1.1) := (gw8.cell (by first | omega | (simp; try omega))).trans f95
  have f120 : w8.cell? ⟨w5.heap.size, 1, none⟩ = some (.slice ad60 x1.2.length ad60') := (gw8.cell (by first | omega | (simp; try omega))).trans f96
  have f121 : w8.cell? ⟨w6.heap.size, 0, none⟩ = some (.int .i64 (ifrV x0 x1 n2).1) := (gw8.cell (by first | omega | (simp; try omega))).trans f97
  have f122 : w8.cell? ⟨w6.heap.size, 1, none⟩ = some (.int .i64 (ifrV x0 x1 n2).2.1) := (gw8.cell (by first | omega | (simp; try omega))).trans f98
  have f123 : w8.cell? ⟨w6.heap.size, 2, none⟩ = some (.slice ad83 (ifrV x0 x1 n2).2.2.length ad83') := (gw8.cell (by first | omega | (simp; try omega))).trans f99
  have z124 : w.heap.size < w8.heap.size := by omega
  have z125 : w.heap.size + 1 < w8.heap.size := by omega
  have z126 : bb13 < w8.heap.size := by omega
  have z127 : w4.heap.size < w8.heap.size := by omega
  have z128 : w5.heap.size < w8.heap.size := by omega
  have z129 : w6.heap.size < w8.heap.size := by omega
  have d130 : frmT.Fx w2.heap.size w3.heap.size w8 [.int .i64 (ifrV x0 x1 n2).1, .int .i64 (ifrV x0 x1 n2).2.1, .slice ad17 (ifrV x0 x1 n2).2.2.length ad17'] (ifrV x0 x1 n2) := d106.below gw8
  have d131 : tplT.Fx w3.heap.size w4.heap.size w8 [.int .i64 x0.1, .slice ad41 x0.2.length ad41'] x0 := d107.below gw8
  have d132 : instT.Fx (w4.heap.size + 1) w5.heap.size w8 [.int .i64 x1.1, .slice ad60 x1.2.length ad60'] x1 := d108.below gw8
  have d133 : frmT.Fx (w5.heap.size + 1) w6.heap.size w8 [.int .i64 (ifrV x0 x1 n2).1, .int .i64 (ifrV x0 x1 n2).2.1, .slice ad83 (ifrV x0 x1 n2).2.2.length ad83'] (ifrV x0 x1 n2) := d109.below gw8
  clear hb8 H_w7 f86 f87 f88 f89 f90 f91 f92 f93 f94 f95 f96 f97 f98 f99 d106 d107 d108 d109 z100 z101 z102 z103 z104 z105 gw8
  simp only [putAll, Act.put]
  go_simp
  go_wp2_with fail
  refine wp_region_loose [exV (.agg #[.int .i64 x1.1, .slice ad60 x1.2.length ad60']), exV (.agg #[.int .i64 x1.1, u1]), rdA instT x1, exV (.bool true), exV (.bool false)] (by kernel_rfl) (by kernel_rfl) ⟨st_exV, st_exV, st_rdA, st_exV, st_exV, trivial⟩ ⟨?j16_0, ?j16_1, ?j16_2, ?j16_3, ?j16_4, trivial⟩ ?hQ16
  case j16_0 =>
    intro a' w' hb hd
    have e0 : a'.tmps[11]?.getD undef = .pointer (some ⟨w5.heap.size, 0, none⟩) := ev (slot_o hd 11 rfl rfl)
    have q : ∀ b o, b < w8.heap.size → w'.cell? ⟨b, o, none⟩ = w8.cell? ⟨b, o, none⟩ := (bcell hb).1
    go_simp
    exact ⟨Below.refl _ _, rfl⟩
  case j16_1 =>
    intro a' w' hb hd
    have e0 : a'.tmps[4]?.getD undef = .pointer (some ⟨w.heap.size + 1, 0, none⟩) := ev (slot_o hd 4 rfl rfl)
    have q : ∀ b o, b < w8.heap.size → w'.cell? ⟨b, o, none⟩ = w8.cell? ⟨b, o, none⟩ := (bcell hb).1
    go_simp
    exact ⟨Below.refl _ _, rfl⟩
  case j16_2 =>
    intro a' w' hb hd
    have e64 : a'.tmps[64]?.getD undef = .agg #[.int .i64 x1.1, u1] := ev (slot_w hd 64 (exV (.agg #[.int .i64 x1.1, u1])) rfl rfl)
    have r64 : instT.Rd w8 (#[.int .i64 x1.1, u1] : Array Value).toList x1 := hx1.below H_w8
    have r64' := r64.below hb
    go_simp
    exact ⟨Below.refl _ _, (toInstance_any w' r64' (by first | omega | (unfold szInts; omega))).mono fun e w'' ⟨cs, he, hf, hb⟩ => ⟨_, he, hb, cs, rfl, hf.rd⟩⟩
  case j16_3 =>
    intro a' w' hb hd
    have e63 : a'.tmps[63]?.getD undef = .agg #[.int .i64 x1.1, .slice ad60 x1.2.length ad60'] := ev (slot_w hd 63 (exV (.agg #[.int .i64 x1.1, .slice ad60 x1.2.length ad60'])) rfl rfl)
    have r63 : instT.Rd w8 (#[.int .i64 x1.1, .slice ad60 x1.2.length ad60'] : Array Value).toList x1 := d132.rd
    have r63' := r63.below hb
    have d65 := slot_w hd 65 (rdA instT x1) rfl rfl
    obtain ⟨cs65, e65, hf65⟩ := d65
    have e65' := ev e65
    go_simp
    exact ⟨Below.refl _ _, (eqInstance_any w' r63' hf65).mono fun e w'' ⟨he, hb⟩ => ⟨_, he, hb, exV_eqB⟩⟩
  case j16_4 =>
    intro a' w' hb hd
    have e0 : a'.tmps[66]?.getD undef = .bool true := ev (slot_w hd 66 (exV (.bool true)) rfl rfl)
    go_simp
    exact ⟨Below.refl _ _, rfl⟩
  intro vs16 w9 hb9 H0
  obtain ⟨v16_0, _, rfl, p0, H1⟩ := HAll_cons H0
  obtain ⟨v16_1, _, rfl, p1, H2⟩ := HAll_cons H1
  obtain ⟨v16_2, _, rfl, p2, H3⟩ := HAll_cons H2
  obtain ⟨v16_3, _, rfl, p3, H4⟩ := HAll_cons H3
  obtain ⟨v16_4, _, rfl, p4, H5⟩ := HAll_cons H4
  obtain rfl := HAll_nil H5
  obtain rfl := p0 rfl
  obtain rfl := p1 rfl
  obtain rfl := p3 rfl
  obtain rfl := p4 rfl
  clear p0 p1 p2 p3 p4 H0 H1 H2 H3 H4 H5
  have gw9 : Below w8.heap.size w8 w9 := bthen (by repeat (first | exact Below.refl _ _ | exact bA | assumption | refine Below.setCell ?_ (by first | omega | (simp; try omega)) _ | refine Below.alloc ?_ (by first | omega | (simp; try omega)) _ | refine Below.drew ?_ | refine bDN ?_ | refine bthen ?_ (by assumption))) hb9
  have sw9 : w8.heap.size + 0 ≤ w9.heap.size := by have := hb9.size; (try simp at this); omega
  have H_w9 : Below w.heap.size w w9 := bthen H_w8 gw9
  have f134 : w9.cell? ⟨w.heap.size, 0, none⟩ = some (.int .i64 x0.1) := (gw9.cell (by first | omega | (simp; try omega))).trans f110
  have f135 : w9.cell? ⟨w.heap.size, 1, none⟩ = some (u0) := (gw9.cell (by first | omega | (simp; try omega))).trans f111
  have f136 : w9.cell? ⟨w.heap.size + 1, 0, none⟩ = some (.int .i64 x1.1) := (gw9.cell (by first | omega | (simp; try omega))).trans f112
  have f137 : w9.cell? ⟨w.heap.size + 1, 1, none⟩ = some (u1) := (gw9.cell (by first | omega | (simp; try omega))).trans f113
  have f138 : w9.cell? ⟨bb13, 0, none⟩ = some (.int .i64 (ifrV x0 x1 n2).1) := (gw9.cell (by first | omega | (simp; try omega))).trans f114
  have f139 : w9.cell? ⟨bb13, 1, none⟩ = some (.int .i64 (ifrV x0 x1 n2).2.1) := (gw9.cell (by first | omega | (simp; try omega))).trans f115
  have f140 : w9.cell? ⟨bb13, 2, none⟩ = some (.slice ad17 (ifrV x0 x1 n2).2.2.length ad17') := (gw9.cell (by first | omega | (simp; try omega))).trans f116
  have f141 : w9.cell? ⟨w4.heap.size, 0, none⟩ = some (.int .i64 x0.1) := (gw9.cell (by first | omega | (simp; try omega))).trans f117
  have f142 : w9.cell? ⟨w4.heap.size, 1, none⟩ = some (.slice ad41 x0.2.length ad41') := (gw9.cell (by first | omega | (simp; try omega))).trans f118
  have f143 : w9.cell? ⟨w5.heap.size, 0, none⟩ = some (.int .i64 x1.1) := (gw9.cell (by first | omega | (simp; try omega))).trans f119
  have f144 : w9.cell? ⟨w5.heap.size, 1, none⟩ = some (.slice ad60 x1.2.length ad60') := (gw9.cell (by first | omega | (simp; try omega))).trans f120
  have f145 : w9.cell? ⟨w6.heap.size, 0, none⟩ = some (.int .i64 (ifrV x0 x1 n2).1) := (gw9.cell (by first | omega | (simp; try omega))).trans f121
  have f146 : w9.cell? ⟨w6.heap.size, 1, none⟩ = some (.int .i64 (ifrV x0 x1 n2).2.1) := (gw9.cell (by first | omega | (simp; try omega))).trans f122
  have f147 : w9.cell? ⟨w6.heap.size, 2, none⟩ = some (.slice ad83 (ifrV x0 x1 n2).2.2.length ad83') := (gw9.cell (by first | omega | (simp; try omega))).trans f123
  have z148 : w.heap.size < w9.heap.size := by omega
  have z149 : w.heap.size + 1 < w9.heap.size := by omega
  have z150 : bb13 < w9.heap.size := by omega
  have z151 : w4.heap.size < w9.heap.size := by omega
  have z152 : w5.heap.size < w9.heap.size := by omega
  have z153 : w6.heap.size < w9.heap.size := by omega
  have d154 : frmT.Fx w2.heap.size w3.heap.size w9 [.int .i64 (ifrV x0 x1 n2).1, .int .i64 (ifrV x0 x1 n2).2.1, .slice ad17 (ifrV x0 x1 n2).2.2.length ad17'] (ifrV x0 x1 n2) := d130.below gw9
  have d155 : tplT.Fx w3.heap.size w4.heap.size w9 [.int .i64 x0.1, .slice ad41 x0.2.length ad41'] x0 := d131.below gw9
  have d156 : instT.Fx (w4.heap.size + 1) w5.heap.size w9 [.int .i64 x1.1, .slice ad60 x1.2.length ad60'] x1 := d132.below gw9
  have d157 : frmT.Fx (w5.heap.size + 1) w6.heap.size w9 [.int .i64 (ifrV x0 x1 n2).1, .int .i64 (ifrV x0 x1 n2).2.1, .slice ad83 (ifrV x0 x1 n2).2.2.length ad83'] (ifrV x0 x1 n2) := d133.below gw9
  clear hb9 H_w8 f110 f111 f112 f113 f114 f115 f116 f117 f118 f119 f120 f121 f122 f123 d130 d131 d132 d133 z124 z125 z126 z127 z128 z129 gw9
  simp only [putAll, Act.put]
  go_simp
  go_wp2_with fail
  refine (markTemplate_fx _ d155 _ (by omega) (by omega)).mono ?_
  rintro e w10 ⟨rfl, hb10, d158⟩
  clear d155
  have sw10 : w9.heap.size ≤ w10.heap.size := hb10.size
  have H_w10 : Below w.heap.size w w10 := below_tch H_w9 hb10 (by omega) (by omega)
  have f159 : w10.cell? ⟨w.heap.size, 0, none⟩ = some (.int .i64 x0.1) := (hb10.cell (by omega) (by omega)).trans f134
  have f160 : w10.cell? ⟨w.heap.size, 1, none⟩ = some (u0) := (hb10.cell (by omega) (by omega)).trans f135
  have f161 : w10.cell? ⟨w.heap.size + 1, 0, none⟩ = some (.int .i64 x1.1) := (hb10.cell (by omega) (by omega)).trans f136
  have f162 : w10.cell? ⟨w.heap.size + 1, 1, none⟩ = some (u1) := (hb10.cell (by omega) (by omega)).trans f137
  have f163 : w10.cell? ⟨bb13, 0, none⟩ = some (.int .i64 (ifrV x0 x1 n2).1) := (hb10.cell (by omega) (by omega)).trans f138
  have f164 : w10.cell? ⟨bb13, 1, none⟩ = some (.int .i64 (ifrV x0 x1 n2).2.1) := (hb10.cell (by omega) (by omega)).trans f139
  have f165 : w10.cell? ⟨bb13, 2, none⟩ = some (.slice ad17 (ifrV x0 x1 n2).2.2.length ad17') := (hb10.cell (by omega) (by omega)).trans f140
  have f166 : w10.cell? ⟨w4.heap.size, 0, none⟩ = some (.int .i64 x0.1) := (hb10.cell (by omega) (by omega)).trans f141
  have f167 : w10.cell? ⟨w4.heap.size, 1, none⟩ = some (.slice ad41 x0.2.length ad41') := (hb10.cell (by omega) (by omega)).trans f142
  have f168 : w10.cell? ⟨w5.heap.size, 0, none⟩ = some (.int .i64 x1.1) := (hb10.cell (by omega) (by omega)).trans f143
  have f169 : w10.cell? ⟨w5.heap.size, 1, none⟩ = some (.slice ad60 x1.2.length ad60') := (hb10.cell (by omega) (by omega)).trans f144
  have f170 : w10.cell? ⟨w6.heap.size, 0, none⟩ = some (.int .i64 (ifrV x0 x1 n2).1) := (hb10.cell (by omega) (by omega)).trans f145
  have f171 : w10.cell? ⟨w6.heap.size, 1, none⟩ = some (.int .i64 (ifrV x0 x1 n2).2.1) := (hb10.cell (by omega) (by omega)).trans f146
  have f172 : w10.cell? ⟨w6.heap.size, 2, none⟩ = some (.slice ad83 (ifrV x0 x1 n2).2.2.length ad83') := (hb10.cell (by omega) (by omega)).trans f147
  have z173 : w.heap.size < w10.heap.size := by omega
  have z174 : w.heap.size + 1 < w10.heap.size := by omega
  have z175 : bb13 < w10.heap.size := by omega
  have z176 : w4.heap.size < w10.heap.size := by omega
  have z177 : w5.heap.size < w10.heap.size := by omega
  have z178 : w6.heap.size < w10.heap.size := by omega
  have d179 : frmT.Fx w2.heap.size w3.heap.size w10 [.int .i64 (ifrV x0 x1 n2).1, .int .i64 (ifrV x0 x1 n2).2.1, .slice ad17 (ifrV x0 x1 n2).2.2.length ad17'] (ifrV x0 x1 n2) := d154.tch hb10 (by omega)
  have d180 : instT.Fx (w4.heap.size + 1) w5.heap.size w10 [.int .i64 x1.1, .slice ad60 x1.2.length ad60'] x1 := d156.tch hb10 (by omega)
  have d181 : frmT.Fx (w5.heap.size + 1) w6.heap.size w10 [.int .i64 (ifrV x0 x1 n2).1, .int .i64 (ifrV x0 x1 n2).2.1, .slice ad83 (ifrV x0 x1 n2).2.2.length ad83'] (ifrV x0 x1 n2) := d157.tch hb10 (by omega)
  clear hb10 H_w9 f134 f135 f136 f137 f138 f139 f140 f141 f142 f143 f144 f145 f146 f147 d154 d156 d157 z148 z149 z150 z151 z152 z153
  have hk182 : 0 ≤ (1 + cntTpl x0) := by omega
  go_wp2_with fail
  refine (markInstance_fx _ d180 _ (by omega) (by omega)).mono ?_
  rintro e w11 ⟨rfl, hb11, d183⟩
  clear d180
  have sw11 : w10.heap.size ≤ w11.heap.size := hb11.size
  have H_w11 : Below w.heap.size w w11 := below_tch H_w10 hb11 (by omega) (by omega)
  have f184 : w11.cell? ⟨w.heap.size, 0, none⟩ = some (.int .i64 x0.1) := (hb11.cell (by omega) (by omega)).trans f159
  have f185 : w11.cell? ⟨w.heap.size, 1, none⟩ = some (u0) := (hb11.cell (by omega) (by omega)).trans f160
  have f186 : w11.cell? ⟨w.heap.size + 1, 0, none⟩ = some (.int .i64 x1.1) := (hb11.cell (by omega) (by omega)).trans f161
  have f187 : w11.cell? ⟨w.heap.size + 1, 1, none⟩ = some (u1) := (hb11.cell (by omega) (by omega)).trans f162
  have f188 : w11.cell? ⟨bb13, 0, none⟩ = some (.int .i64 (ifrV x0 x1 n2).1) := (hb11.cell (by omega) (by omega)).trans f163
  have f189 : w11.cell? ⟨bb13, 1, none⟩ = some (.int .i64 (ifrV x0 x1 n2).2.1) := (hb11.cell (by omega) (by omega)).trans f164
  have f190 : w11.cell? ⟨bb13, 2, none⟩ = some (.slice ad17 (ifrV x0 x1 n2).2.2.length ad17') := (hb11.cell (by omega) (by omega)).trans f165
  have f191 : w11.cell? ⟨w4.heap.size, 0, none⟩ = some (.int .i64 x0.1) := (hb11.cell (by omega) (by omega)).trans f166
  have f192 : w11.cell? ⟨w4.heap.size, 1, none⟩ = some (.slice ad41 x0.2.length ad41') := (hb11.cell (by omega) (by omega)).trans f167
  have f193 : w11.cell? ⟨w5.heap.size, 0, none⟩ = some (.int .i64 x1.1) := (hb11.cell (by omega) (by omega)).trans f168
  have f194 : w11.cell? ⟨w5.heap.size, 1, none⟩ = some (.slice ad60 x1.2.length ad60') := (hb11.cell (by omega) (by omega)).trans f169
  have f195 : w11.cell? ⟨w6.heap.size, 0, none⟩ = some (.int .i64 (ifrV x0 x1 n2).1) := (hb11.cell (by omega) (by omega)).trans f170
  have f196 : w11.cell? ⟨w6.heap.size, 1, none⟩ = some (.int .i64 (ifrV x0 x1 n2).2.1) := (hb11.cell (by omega) (by omega)).trans f171
  have f197 : w11.cell? ⟨w6.heap.size, 2, none⟩ = some (.slice ad83 (ifrV x0 x1 n2).2.2.length ad83') := (hb11.cell (by omega) (by omega)).trans f172
  have z198 : w.heap.size < w11.heap.size := by omega
  have z199 : w.heap.size + 1 < w11.heap.size := by omega
  have z200 : bb13 < w11.heap.size := by omega
  have z201 : w4.heap.size < w11.heap.size := by omega
  have z202 : w5.heap.size < w11.heap.size := by omega
  have z203 : w6.heap.size < w11.heap.size := by omega
  have d204 : frmT.Fx w2.heap.size w3.heap.size w11 [.int .i64 (ifrV x0 x1 n2).1, .int .i64 (ifrV x0 x1 n2).2.1, .slice ad17 (ifrV x0 x1 n2).2.2.length ad17'] (ifrV x0 x1 n2) := d179.tch hb11 (by omega)
  have d205 : tplT.Fx w3.heap.size w4.heap.size w11 [.int .i64 x0.1, .slice ad41 x0.2.length ad41'] (mkTpl 1 x0) := d158.tch hb11 (by omega)
  have d206 : frmT.Fx (w5.heap.size + 1) w6.heap.size w11 [.int .i64 (ifrV x0 x1 n2).1, .int .i64 (ifrV x0 x1 n2).2.1, .slice ad83 (ifrV x0 x1 n2).2.2.length ad83'] (ifrV x0 x1 n2) := d181.tch hb11 (by omega)
  clear hb11 H_w10 f159 f160 f161 f162 f163 f164 f165 f166 f167 f168 f169 f170 f171 f172 d179 d158 d181 z173 z174 z175 z176 z177 z178
  have hk207 : 0 ≤ ((1 + cntTpl x0) + cntInst x1) := by omega
  go_wp2_with fail
  refine (eqFormula_any _ (d206.rd.below (by repeat (first | exact Below.refl _ _ | exact bA | assumption | refine Below.setCell ?_ (by first | omega | (simp; try omega)) _ | refine Below.alloc ?_ (by first | omega | (simp; try omega)) _ | refine Below.drew ?_ | refine bDN ?_ | refine bthen ?_ (by assumption)))) (d204.rd.below (by repeat (first | exact Below.refl _ _ | exact bA | assumption | refine Below.setCell ?_ (by first | omega | (simp; try omega)) _ | refine Below.alloc ?_ (by first | omega | (simp; try omega)) _ | refine Below.drew ?_ | refine bDN ?_ | refine bthen ?_ (by assumption))))).mono ?_
  rintro e w12 ⟨rfl, hb12⟩
  have gw12 : Below w11.heap.size w11 w12 := bthen (by repeat (first | exact Below.refl _ _ | exact bA | assumption | refine Below.setCell ?_ (by first | omega | (simp; try omega)) _ | refine Below.alloc ?_ (by first | omega | (simp; try omega)) _ | refine Below.drew ?_ | refine bDN ?_ | refine bthen ?_ (by assumption))) hb12
  have sw12 : w11.heap.size + 0 ≤ w12.heap.size := by have := hb12.size; (try simp at this); omega
  have H_w12 : Below w.heap.size w w12 := bthen H_w11 gw12
  have f208 : w12.cell? ⟨w.heap.size, 0, none⟩ = some (.int .i64 x0.1) := (gw12.cell (by first | omega | (simp; try omega))).trans f184
  have f209 : w12.cell? ⟨w.heap.size, 1, none⟩ = some (u0) := (gw12.cell (by first | omega | (simp; try omega))).trans f185
  have f210 : w12.cell? ⟨w.heap.size + 1, 0, none⟩ = some (.int .i64 x1.1) := (gw12.cell (by first | omega | (simp; try omega))).trans f186
  have f211 : w12.cell? ⟨w.heap.size + 1, 1, none⟩ = some (u1) := (gw12.cell (by first | omega | (simp; try omega))).trans f187
  have f212 : w12.cell? ⟨bb13, 0, none⟩ = some (.int .i64 (ifrV x0 x1 n2).1) := (gw12.cell (by first | omega | (simp; try omega))).trans f188
  have f213 : w12.cell? ⟨bb13, 1, none⟩ = some (.int .i64 (ifrV x0 x1 n2).2.1) := (gw12.cell (by first | omega | (simp; try omega))).trans f189
  have f214 : w12.cell? ⟨bb13, 2, none⟩ = some (.slice ad17 (ifrV x0 x1 n2).2.2.length ad17') := (gw12.cell (by first | omega | (simp; try omega))).trans f190
  have f215 : w12.cell? ⟨w4.heap.size, 0, none⟩ = some (.int .i64 x0.1) := (gw12.cell (by first | omega | (simp; try omega))).trans f191
  have f216 : w12.cell? ⟨w4.heap.size, 1, none⟩ = some (.slice ad41 x0.2.length ad41') := (gw12.cell (by first | omega | (simp; try omega))).trans f192
  have f217 : w12.cell? ⟨w5.heap.size, 0, none⟩ = some (.int .i64 x1.1) := (gw12.cell (by first | omega | (simp; try omega))).trans f193
  have f218 : w12.cell? ⟨w5.heap.size, 1, none⟩ = some (.slice ad60 x1.2.length ad60') := (gw12.cell (by first | omega | (simp; try omega))).trans f194
  have f219 : w12.cell? ⟨w6.heap.size, 0, none⟩ = some (.int .i64 (ifrV x0 x1 n2).1) := (gw12.cell (by first | omega | (simp; try omega))).trans f195
  have f220 : w12.cell? ⟨w6.heap.size, 1, none⟩ = some (.int .i64 (ifrV x0 x1 n2).2.1) := (gw12.cell (by first | omega | (simp; try omega))).trans f196
  have f221 : w12.cell? ⟨w6.heap.size, 2, none⟩ = some (.slice ad83 (ifrV x0 x1 n2).2.2.length ad83') := (gw12.cell (by first | omega | (simp; try omega))).trans f197
  have z222 : w.heap.size < w12.heap.size := by omega
  have z223 : w.heap.size + 1 < w12.heap.size := by omega
  have z224 : bb13 < w12.heap.size := by omega
  have z225 : w4.heap.size < w12.heap.size := by omega
  have z226 : w5.heap.size < w12.heap.size := by omega
  have z227 : w6.heap.size < w12.heap.size := by omega
  have d228 : frmT.Fx w2.heap.size w3.heap.size w12 [.int .i64 (ifrV x0 x1 n2).1, .int .i64 (ifrV x0 x1 n2).2.1, .slice ad17 (ifrV x0 x1 n2).2.2.length ad17'] (ifrV x0 x1 n2) := d204.below gw12
  have d229 : tplT.Fx w3.heap.size w4.heap.size w12 [.int .i64 x0.1, .slice ad41 x0.2.length ad41'] (mkTpl 1 x0) := d205.below gw12
  have d230 : instT.Fx (w4.heap.size + 1) w5.heap.size w12 [.int .i64 x1.1, .slice ad60 x1.2.length ad60'] (mkInst (1 + cntTpl x0) x1) := d183.below gw12
  have d231 : frmT.Fx (w5.heap.size + 1) w6.heap.size w12 [.int .i64 (ifrV x0 x1 n2).1, .int .i64 (ifrV x0 x1 n2).2.1, .slice ad83 (ifrV x0 x1 n2).2.2.length ad83'] (ifrV x0 x1 n2) := d206.below gw12
  clear hb12 H_w11 f184 f185 f186 f187 f188 f189 f190 f191 f192 f193 f194 f195 f196 f197 d204 d205 d183 d206 z198 z199 z200 z201 z202 z203 gw12
  rw [eqB_true rfl]
  go_wp2_with fail
  refine (markFormula_fx _ d231 _ (by omega) (by omega)).mono ?_
  rintro e w13 ⟨rfl, hb13, d232⟩
  clear d231
  have sw13 : w12.heap.size ≤ w13.heap.size := hb13.size
  have H_w13 : Below w.heap.size w w13 := below_tch H_w12 hb13 (by omega) (by omega)
  have f233 : w13.cell? ⟨w.heap.size, 0, none⟩ = some (.int .i64 x0.1) := (hb13.cell (by omega) (by omega)).trans f208
  have f234 : w13.cell? ⟨w.heap.size, 1, none⟩ = some (u0) := (hb13.cell (by omega) (by omega)).trans f209
  have f235 : w13.cell? ⟨w.heap.size + 1, 0, none⟩ = some (.int .i64 x1.1) := (hb13.cell (by omega) (by omega)).trans f210
  have f236 : w13.cell? ⟨w.heap.size + 1, 1, none⟩ = some (u1) := (hb13.cell (by omega) (by omega)).trans f211
  have f237 : w13.cell? ⟨bb13, 0, none⟩ = some (.int .i64 (ifrV x0 x1 n2).1) := (hb13.cell (by omega) (by omega)).trans f212
  have f238 : w13.cell? ⟨bb13, 1, none⟩ = some (.int .i64 (ifrV x0 x1 n2).2.1) := (hb13.cell (by omega) (by omega)).trans f213
  have f239 : w13.cell? ⟨bb13, 2, none⟩ = some (.slice ad17 (ifrV x0 x1 n2).2.2.length ad17') := (hb13.cell (by omega) (by omega)).trans f214
  have f240 : w13.cell? ⟨w4.heap.size, 0, none⟩ = some (.int .i64 x0.1) := (hb13.cell (by omega) (by omega)).trans f215
  have f241 : w13.cell? ⟨w4.heap.size, 1, none⟩ = some (.slice ad41 x0.2.length ad41') := (hb13.cell (by omega) (by omega)).trans f216
  have f242 : w13.cell? ⟨w5.heap.size, 0, none⟩ = some (.int .i64 x1.1) := (hb13.cell (by omega) (by omega)).trans f217
  have f243 : w13.cell? ⟨w5.heap.size, 1, none⟩ = some (.slice ad60 x1.2.length ad60') := (hb13.cell (by omega) (by omega)).trans f218
  have f244 : w13.cell? ⟨w6.heap.size, 0, none⟩ = some (.int .i64 (ifrV x0 x1 n2).1) := (hb13.cell (by omega) (by omega)).trans f219
  have f245 : w13.cell? ⟨w6.heap.size, 1, none⟩ = some (.int .i64 (ifrV x0 x1 n2).2.1) := (hb13.cell (by omega) (by omega)).trans f220
  have f246 : w13.cell? ⟨w6.heap.size, 2, none⟩ = some (.slice ad83 (ifrV x0 x1 n2).2.2.length ad83') := (hb13.cell (by omega) (by omega)).trans f221
  have z247 : w.heap.size < w13.heap.size := by omega
  have z248 : w.heap.size + 1 < w13.heap.size := by omega
  have z249 : bb13 < w13.heap.size := by omega
  have z250 : w4.heap.size < w13.heap.size := by omega
  have z251 : w5.heap.size < w13.heap.size := by omega
  have z252 : w6.heap.size < w13.heap.size := by omega
  have d253 : frmT.Fx w2.heap.size w3.heap.size w13 [.int .i64 (ifrV x0 x1 n2).1, .int .i64 (ifrV x0 x1 n2).2.1, .slice ad17 (ifrV x0 x1 n2).2.2.length ad17'] (ifrV x0 x1 n2) := d228.tch hb13 (by omega)
  have d254 : tplT.Fx w3.heap.size w4.heap.size w13 [.int .i64 x0.1, .slice ad41 x0.2.length ad41'] (mkTpl 1 x0) := d229.tch hb13 (by omega)
  have d255 : instT.Fx (w4.heap.size + 1) w5.heap.size w13 [.int .i64 x1.1, .slice ad60 x1.2.length ad60'] (mkInst (1 + cntTpl x0) x1) := d230.tch hb13 (by omega)
  clear hb13 H_w12 f208 f209 f210 f211 f212 f213 f214 f215 f216 f217 f218 f219 f220 f221 d228 d229 d230 z222 z223 z224 z225 z226 z227
  have hk256 : 0 ≤ (1 + cntFrm (ifrV x0 x1 n2)) := by omega
  go_wp2_with fail
  refine (heldFormula_any _ _ d232.rd (by omega) (by omega)).mono ?_
  rintro e w14 ⟨rfl, hb14⟩
  have gw14 : Below w13.heap.size w13 w14 := bthen (by repeat (first | exact Below.refl _ _ | exact bA | assumption | refine Below.setCell ?_ (by first | omega | (simp; try omega)) _ | refine Below.alloc ?_ (by first | omega | (simp; try omega)) _ | refine Below.drew ?_ | refine bDN ?_ | refine bthen ?_ (by assumption))) hb14
  have sw14 : w13.heap.size + 0 ≤ w14.heap.size := by have := hb14.size; (try simp at this); omega
  have H_w14 : Below w.heap.size w w14 := bthen H_w13 gw14
  have f257 : w14.cell? ⟨w.heap.size, 0, none⟩ = some (.int .i64 x0.1) := (gw14.cell (by first | omega | (simp; try omega))).trans f233
  have f258 : w14.cell? ⟨w.heap.size, 1, none⟩ = some (u0) := (gw14.cell (by first | omega | (simp; try omega))).trans f234
  have f259 : w14.cell? ⟨w.heap.size + 1, 0, none⟩ = some (.int .i64 x1.1) := (gw14.cell (by first | omega | (simp; try omega))).trans f235
  have f260 : w14.cell? ⟨w.heap.size + 1, 1, none⟩ = some (u1) := (gw14.cell (by first | omega | (simp; try omega))).trans f236
  have f261 : w14.cell? ⟨bb13, 0, none⟩ = some (.int .i64 (ifrV x0 x1 n2).1) := (gw14.cell (by first | omega | (simp; try omega))).trans f237
  have f262 : w14.cell? ⟨bb13, 1, none⟩ = some (.int .i64 (ifrV x0 x1 n2).2.1) := (gw14.cell (by first | omega | (simp; try omega))).trans f238
  have f263 : w14.cell? ⟨bb13, 2, none⟩ = some (.slice ad17 (ifrV x0 x1 n2).2.2.length ad17') := (gw14.cell (by first | omega | (simp; try omega))).trans f239
  have f264 : w14.cell? ⟨w4.heap.size, 0, none⟩ = some (.int .i64 x0.1) := (gw14.cell (by first | omega | (simp; try omega))).trans f240
  have f265 : w14.cell? ⟨w4.heap.size, 1, none⟩ = some (.slice ad41 x0.2.length ad41') := (gw14.cell (by first | omega | (simp; try omega))).trans f241
  have f266 : w14.cell? ⟨w5.heap.size, 0, none⟩ = some (.int .i64 x1.1) := (gw14.cell (by first | omega | (simp; try omega))).trans f242
  have f267 : w14.cell? ⟨w5.heap.size, 1, none⟩ = some (.slice ad60 x1.2.length ad60') := (gw14.cell (by first | omega | (simp; try omega))).trans f243
  have f268 : w14.cell? ⟨w6.heap.size, 0, none⟩ = some (.int .i64 (ifrV x0 x1 n2).1) := (gw14.cell (by first | omega | (simp; try omega))).trans f244
  have f269 : w14.cell? ⟨w6.heap.size, 1, none⟩ = some (.int .i64 (ifrV x0 x1 n2).2.1) := (gw14.cell (by first | omega | (simp; try omega))).trans f245
  have f270 : w14.cell? ⟨w6.heap.size, 2, none⟩ = some (.slice ad83 (ifrV x0 x1 n2).2.2.length ad83') := (gw14.cell (by first | omega | (simp; try omega))).trans f246
  have z271 : w.heap.size < w14.heap.size := by omega
  have z272 : w.heap.size + 1 < w14.heap.size := by omega
  have z273 : bb13 < w14.heap.size := by omega
  have z274 : w4.heap.size < w14.heap.size := by omega
  have z275 : w5.heap.size < w14.heap.size := by omega
  have z276 : w6.heap.size < w14.heap.size := by omega
  have d277 : frmT.Fx w2.heap.size w3.heap.size w14 [.int .i64 (ifrV x0 x1 n2).1, .int .i64 (ifrV x0 x1 n2).2.1, .slice ad17 (ifrV x0 x1 n2).2.2.length ad17'] (ifrV x0 x1 n2) := d253.below gw14
  have d278 : tplT.Fx w3.heap.size w4.heap.size w14 [.int .i64 x0.1, .slice ad41 x0.2.length ad41'] (mkTpl 1 x0) := d254.below gw14
  have d279 : instT.Fx (w4.heap.size + 1) w5.heap.size w14 [.int .i64 x1.1, .slice ad60 x1.2.length ad60'] (mkInst (1 + cntTpl x0) x1) := d255.below gw14
  have d280 : frmT.Fx (w5.heap.size + 1) w6.heap.size w14 [.int .i64 (ifrV x0 x1 n2).1, .int .i64 (ifrV x0 x1 n2).2.1, .slice ad83 (ifrV x0 x1 n2).2.2.length ad83'] (mkFrm 1 (ifrV x0 x1 n2)) := d232.below gw14
  clear hb14 H_w13 f233 f234 f235 f236 f237 f238 f239 f240 f241 f242 f243 f244 f245 f246 d253 d254 d255 d232 z247 z248 z249 z250 z251 z252 gw14
  go_wp2_with fail
  refine wp_region_box [(.plain, exO (.agg #[.int .i64 x0.1, u0])), (.plain, rdAO tplT x0), (.plain, exO (.agg #[.int .i64 x1.1, u1])), (.plain, rdAO instT x1), (.plain, exO (.int .i64 n2)), (.plain, frTO frmT w14.heap.size (ifrV x0 x1 n2) (.int .i64 (ifrC x0 x1 n2))), (.plain, frTO frmT w14.heap.size (ifrV x0 x1 n2) (.int .i64 (ifrC x0 x1 n2))), (.plain, frAO frmT w14.heap.size (ifrV x0 x1 n2)), (.plain, exO (.int .i64 (ifrC x0 x1 n2))), (.alloc, boxO 3), (.store, heldO frmT w14.heap.size (ifrV x0 x1 n2)), (.plain, exO (.int .i64 (ifrC x0 x1 n2)))] (by kernel_rfl) (by kernel_rfl) ⟨st_exO, st_rdAO, st_exO, st_rdAO, st_exO, st_frTO, st_frTO, st_frAO, st_exO, st_boxO, st_heldO, st_exO, trivial⟩ ⟨?j31_0, ?j31_1, ?j31_2, ?j31_3, ?j31_4, ?j31_5, ?j31_6, ?j31_7, ?j31_8, ?j31_9, ?j31_10, ?j31_11, trivial⟩ ?hQ31
  case j31_0 =>
    intro a' w' ob hb hbo hal hd
    have e0 : a'.tmps[3]?.getD undef = .pointer (some ⟨w.heap.size, 0, none⟩) := ev (slot_o2 hd 3 rfl rfl)
    have q : ∀ b o, b < w14.heap.size → w'.cell? ⟨b, o, none⟩ = w14.cell? ⟨b, o, none⟩ := (bcell hb).1
    go_simp
    exact ⟨_, ⟨rfl, Below.refl _ _⟩, rfl⟩
  case j31_1 =>
    intro a' w' ob hb hbo hal hd
    have e99 : a'.tmps[99]?.getD undef = .agg #[.int .i64 x0.1, u0] := ev (slot_w2 hd 99 (exO (.agg #[.int .i64 x0.1, u0])) rfl rfl)
    have r99 : tplT.Rd w14 (#[.int .i64 x0.1, u0] : Array Value).toList x0 := hx0.below H_w14
    have r99' := r99.below hb
    go_simp
    exact ⟨rfl, Below.refl _ _, (toTemplate_any w' r99' (by first | omega | (unfold szInts; omega))).mono fun e w'' ⟨cs, he, hf, hb⟩ => ⟨_, he, hb, rdAO_mk hf hbo⟩⟩
  case j31_2 =>
    intro a' w' ob hb hbo hal hd
    have e0 : a'.tmps[4]?.getD undef = .pointer (some ⟨w.heap.size + 1, 0, none⟩) := ev (slot_o2 hd 4 rfl rfl)
    have q : ∀ b o, b < w14.heap.size → w'.cell? ⟨b, o, none⟩ = w14.cell? ⟨b, o, none⟩ := (bcell hb).1
    go_simp
    exact ⟨_, ⟨rfl, Below.refl _ _⟩, rfl⟩
  case j31_3 =>
    intro a' w' ob hb hbo hal hd
    have e101 : a'.tmps[101]?.getD undef = .agg #[.int .i64 x1.1, u1] := ev (slot_w2 hd 101 (exO (.agg #[.int .i64 x1.1, u1])) rfl rfl)
    have r101 : instT.Rd w14 (#[.int .i64 x1.1, u1] : Array Value).toList x1 := hx1.below H_w14
    have r101' := r101.below hb
    go_simp
    exact ⟨rfl, Below.refl _ _, (toInstance_any w' r101' (by first | omega | (unfold szInts; omega))).mono fun e w'' ⟨cs, he, hf, hb⟩ => ⟨_, he, hb, rdAO_mk hf hbo⟩⟩
  case j31_4 =>
    intro a' w' ob hb hbo hal hd
    have e0 : a'.tmps[2]?.getD undef = .int .i64 n2 := ev (slot_o2 hd 2 rfl rfl)
    go_simp
    exact ⟨_, ⟨rfl, Below.refl _ _⟩, rfl⟩
  case j31_5 =>
    intro a' w' ob hb hbo hal hd
    have d100 := slot_w2 hd 100 (rdAO tplT x0) rfl rfl
    obtain ⟨cs100, fp100, e100, hr100, -⟩ := d100
    have rd100 : tplT.Rd w' cs100 x0 := ⟨_, hr100⟩
    have e100' := ev e100
    have d102 := slot_w2 hd 102 (rdAO instT x1) rfl rfl
    obtain ⟨cs102, fp102, e102, hr102, -⟩ := d102
    have rd102 : instT.Rd w' cs102 x1 := ⟨_, hr102⟩
    have e102' := ev e102
    have e103 : a'.tmps[103]?.getD undef = .int .i64 n2 := ev (slot_w2 hd 103 (exO (.int .i64 n2)) rfl rfl)
    go_simp
    exact ⟨rfl, Below.refl _ _, (InstanceFormula_any _ rd100 rd102).mono fun e w'' ⟨cs, he, hf, hb2⟩ => ⟨_, he, hb2, frTO_mk hb.size hf hbo⟩⟩
  case j31_6 =>
    intro a' w' ob hb hbo hal hd
    have d104 := slot_w2 hd 104 (frTO frmT w14.heap.size (ifrV x0 x1 n2) (.int .i64 (ifrC x0 x1 n2))) rfl rfl
    obtain ⟨cs104, e104, hf104⟩ := d104
    have e104' := ev e104
    go_simp
    exact ⟨_, ⟨rfl, Below.refl _ _⟩, cs104, rfl, hf104⟩
  case j31_7 =>
    intro a' w' ob hb hbo hal hd
    have d98 := slot_w2 hd 98 (frTO frmT w14.heap.size (ifrV x0 x1 n2) (.int .i64 (ifrC x0 x1 n2))) rfl rfl
    obtain ⟨cs98, e98, hf98⟩ := d98
    have e98' := ev e98
    go_simp
    exact ⟨_, ⟨rfl, Below.refl _ _⟩, hf98⟩
  case j31_8 =>
    intro a' w' ob hb hbo hal hd
    have d98 := slot_w2 hd 98 (frTO frmT w14.heap.size (ifrV x0 x1 n2) (.int .i64 (ifrC x0 x1 n2))) rfl rfl
    obtain ⟨cs98, e98, hf98⟩ := d98
    have e98' := ev e98
    go_simp
    exact ⟨_, ⟨rfl, Below.refl _ _⟩, rfl⟩
  case j31_9 =>
    intro a' w' ob hb hbo hal hd
    obtain rfl := hal rfl
    go_simp
    exact ⟨_, ⟨rfl, by simp, bA⟩, _, rfl, rfl, by simp, box3⟩
  case j31_10 =>
    intro a' w' ob hb hbo hal hd
    obtain ⟨bb, rfl, e17, hbb, hcl⟩ := slot_w2 hd 17 (boxO 3) rfl rfl
    have e17' := ev e17
    have d105 := slot_w2 hd 105 (frAO frmT w14.heap.size (ifrV x0 x1 n2)) rfl rfl
    obtain ⟨cs105, fp105, e105, hr105, hn105, hg105, hu105, ho105⟩ := d105
    obtain ⟨u105, rfl, hr105', -⟩ := rd_trip hr105
    obtain ⟨ad105', cap105', rfl⟩ := rd_slice ⟨_, hr105'⟩
    have e105' := ev e105
    obtain ⟨⟨y0, c0⟩, f0⟩ := hcl 0 (by decide)
    obtain ⟨⟨y1, c1⟩, f1⟩ := hcl 1 (by decide)
    obtain ⟨⟨y2, c2⟩, f2⟩ := hcl 2 (by decide)
    go_simp
    exact held3 c0 c1 c2 hr105 hn105 hg105 hu105 ho105 _
  case j31_11 =>
    intro a' w' ob hb hbo hal hd
    have e0 : a'.tmps[106]?.getD undef = .int .i64 (ifrC x0 x1 n2) := ev (slot_w2 hd 106 (exO (.int .i64 (ifrC x0 x1 n2))) rfl rfl)
    go_simp
    exact ⟨_, ⟨rfl, Below.refl _ _⟩, rfl⟩
  intro vs31 w15 ob31 hb15 hbo31 H0
  obtain ⟨v31_0, _, rfl, p0, H1⟩ := HAll2_cons H0
  obtain ⟨v31_1, _, rfl, p1, H2⟩ := HAll2_cons H1
  obtain ⟨v31_2, _, rfl, p2, H3⟩ := HAll2_cons H2
  obtain ⟨v31_3, _, rfl, p3, H4⟩ := HAll2_cons H3
  obtain ⟨v31_4, _, rfl, p4, H5⟩ := HAll2_cons H4
  obtain ⟨v31_5, _, rfl, p5, H6⟩ := HAll2_cons H5
  obtain ⟨v31_6, _, rfl, p6, H7⟩ := HAll2_cons H6
  obtain ⟨v31_7, _, rfl, p7, H8⟩ := HAll2_cons H7
  obtain ⟨v31_8, _, rfl, p8, H9⟩ := HAll2_cons H8
  obtain ⟨v31_9, _, rfl, p9, H10⟩ := HAll2_cons H9
  obtain ⟨v31_10, _, rfl, p10, H11⟩ := HAll2_cons H10
  obtain ⟨v31_11, _, rfl, p11, H12⟩ := HAll2_cons H11
  obtain rfl := HAll2_nil H12
  obtain rfl := id p0
  obtain rfl := id p2
  obtain rfl := id p4
  obtain rfl := id p8
  obtain rfl := id p11
  obtain ⟨bb281, rfl, rfl, hltbb281, -⟩ := id p9
  obtain ⟨_, cs, fp284, hob, hr1, hr2, hr3, hr4, -, cc283⟩ := id p10
  simp only [Option.some.injEq] at hob
  subst hob
  have hc282 : frmT.Fr w14.heap.size w15 cs (ifrV x0 x1 n2) := ⟨fp284, hr1, hr2, hr3, hr4⟩
  have hlobb281 : w14.heap.size ≤ bb281 := (hbo31 bb281 rfl).1
  obtain ⟨ad285, ad285', rfl⟩ := fr_trip hc282
  have f286 : w15.cell? ⟨bb281, 0, none⟩ = some (.int .i64 (ifrV x0 x1 n2).1) := cc283 0 (by simp)
  have f287 : w15.cell? ⟨bb281, 1, none⟩ = some (.int .i64 (ifrV x0 x1 n2).2.1) := cc283 1 (by simp)
  have f288 : w15.cell? ⟨bb281, 2, none⟩ = some (.slice ad285 (ifrV x0 x1 n2).2.2.length ad285') := cc283 2 (by simp)
  clear cc283 hr1 hr2 hr3 hr4
  clear p0 p1 p2 p3 p4 p5 p6 p7 p8 p9 p10 p11 H0 H1 H2 H3 H4 H5 H6 H7 H8 H9 H10 H11 H12
  have gw15 : Below w14.heap.size w14 w15 := bthen (by repeat (first | exact Below.refl _ _ | exact bA | assumption | refine Below.setCell ?_ (by first | omega | (simp; try omega)) _ | refine Below.alloc ?_ (by first | omega | (simp; try omega)) _ | refine Below.drew ?_ | refine bDN ?_ | refine bthen ?_ (by assumption))) hb15
  have sw15 : w14.heap.size + 0 ≤ w15.heap.size := by have := hb15.size; (try simp at this); omega
  have H_w15 : Below w.heap.size w w15 := bthen H_w14 gw15
  have f289 : w15.cell? ⟨w.heap.size, 0, none⟩ = some (.int .i64 x0.1) := (gw15.cell (by first | omega | (simp; try omega))).trans f257
  have f290 : w15.cell? ⟨w.heap.size, 1, none⟩ = some (u0) := (gw15.cell (by first | omega | (simp; try omega))).trans f258
  have f291 : w15.cell? ⟨w.heap.size + 1, 0, none⟩ = some (.int .i64 x1.1) := (gw15.cell (by first | omega | (simp; try omega))).trans f259
  have f292 : w15.cell? ⟨w.heap.size + 1, 1, none⟩ = some (u1) := (gw15.cell (by first | omega | (simp; try omega))).trans f260
  have f293 : w15.cell? ⟨bb13, 0, none⟩ = some (.int .i64 (ifrV x0 x1 n2).1) := (gw15.cell (by first | omega | (simp; try omega))).trans f261
  have f294 : w15.cell? ⟨bb13, 1, none⟩ = some (.int .i64 (ifrV x0 x1 n2).2.1) := (gw15.cell (by first | omega | (simp; try omega))).trans f262
  have f295 : w15.cell? ⟨bb13, 2, none⟩ = some (.slice ad17 (ifrV x0 x1 n2).2.2.length ad17') := (gw15.cell (by first | omega | (simp; try omega))).trans f263
  have f296 : w15.cell? ⟨w4.heap.size, 0, none⟩ = some (.int .i64 x0.1) := (gw15.cell (by first | omega | (simp; try omega))).trans f264
  have f297 : w15.cell? ⟨w4.heap.size, 1, none⟩ = some (.slice ad41 x0.2.length ad41') := (gw15.cell (by first | omega | (simp; try omega))).trans f265
  have f298 : w15.cell? ⟨w5.heap.size, 0, none⟩ = some (.int .i64 x1.1) := (gw15.cell (by first | omega | (simp; try omega))).trans f266
  have f299 : w15.cell? ⟨w5.heap.size, 1, none⟩ = some (.slice ad60 x1.2.length ad60') := (gw15.cell (by first | omega | (simp; try omega))).trans f267
  have f300 : w15.cell? ⟨w6.heap.size, 0, none⟩ = some (.int .i64 (ifrV x0 x1 n2).1) := (gw15.cell (by first | omega | (simp; try omega))).trans f268
  have f301 : w15.cell? ⟨w6.heap.size, 1, none⟩ = some (.int .i64 (ifrV x0 x1 n2).2.1) := (gw15.cell (by first | omega | (simp; try omega))).trans f269
  have f302 : w15.cell? ⟨w6.heap.size, 2, none⟩ = some (.slice ad83 (ifrV x0 x1 n2).2.2.length ad83') := (gw15.cell (by first | omega | (simp; try omega))).trans f270
  have z303 : w.heap.size < w15.heap.size := by omega
  have z304 : w.heap.size + 1 < w15.heap.size := by omega
  have z305 : bb13 < w15.heap.size := by omega
  have z306 : w4.heap.size < w15.heap.size := by omega
  have z307 : w5.heap.size < w15.heap.size := by omega
  have z308 : w6.heap.size < w15.heap.size := by omega
  have d309 : frmT.Fx w2.heap.size w3.heap.size w15 [.int .i64 (ifrV x0 x1 n2).1, .int .i64 (ifrV x0 x1 n2).2.1, .slice ad17 (ifrV x0 x1 n2).2.2.length ad17'] (ifrV x0 x1 n2) := d277.below gw15
  have d310 : tplT.Fx w3.heap.size w4.heap.size w15 [.int .i64 x0.1, .slice ad41 x0.2.length ad41'] (mkTpl 1 x0) := d278.below gw15
  have d311 : instT.Fx (w4.heap.size + 1) w5.heap.size w15 [.int .i64 x1.1, .slice ad60 x1.2.length ad60'] (mkInst (1 + cntTpl x0) x1) := d279.below gw15
  have d312 : frmT.Fx (w5.heap.size + 1) w6.heap.size w15 [.int .i64 (ifrV x0 x1 n2).1, .int .i64 (ifrV x0 x1 n2).2.1, .slice ad83 (ifrV x0 x1 n2).2.2.length ad83'] (mkFrm 1 (ifrV x0 x1 n2)) := d280.below gw15
  clear hb15 H_w14 f257 f258 f259 f260 f261 f262 f263 f264 f265 f266 f267 f268 f269 f270 d277 d278 d279 d280 z271 z272 z273 z274 z275 z276 gw15
  have d313 : frmT.Fx w14.heap.size w15.heap.size w15 [.int .i64 (ifrV x0 x1 n2).1, .int .i64 (ifrV x0 x1 n2).2.1, .slice ad285 (ifrV x0 x1 n2).2.2.length ad285'] (ifrV x0 x1 n2) := hc282.fx
  clear hc282
  simp only [putAll, Act.put]
  go_simp
  go_wp2_with fail
  refine (eqFormula_any _ (d313.rd.below (by repeat (first | exact Below.refl _ _ | exact bA | assumption | refine Below.setCell ?_ (by first | omega | (simp; try omega)) _ | refine Below.alloc ?_ (by first | omega | (simp; try omega)) _ | refine Below.drew ?_ | refine bDN ?_ | refine bthen ?_ (by assumption)))) (d309.rd.below (by repeat (first | exact Below.refl _ _ | exact bA | assumption | refine Below.setCell ?_ (by first | omega | (simp; try omega)) _ | refine Below.alloc ?_ (by first | omega | (simp; try omega)) _ | refine Below.drew ?_ | refine bDN ?_ | refine bthen ?_ (by assumption))))).mono ?_
  rintro e w16 ⟨rfl, hb16⟩
  have gw16 : Below w15.heap.size w15 w16 := bthen (by repeat (first | exact Below.refl _ _ | exact bA | assumption | refine Below.setCell ?_ (by first | omega | (simp; try omega)) _ | refine Below.alloc ?_ (by first | omega | (simp; try omega)) _ | refine Below.drew ?_ | refine bDN ?_ | refine bthen ?_ (by assumption))) hb16
  have sw16 : w15.heap.size + 0 ≤ w16.heap.size := by have := hb16.size; (try simp at this); omega
  have H_w16 : Below w.heap.size w w16 := bthen H_w15 gw16
  have f315 : w16.cell? ⟨w.heap.size, 0, none⟩ = some (.int .i64 x0.1) := (gw16.cell (by first | omega | (simp; try omega))).trans f289
  have f316 : w16.cell? ⟨w.heap.size, 1, none⟩ = some (u0) := (gw16.cell (by first | omega | (simp; try omega))).trans f290
  have f317 : w16.cell? ⟨w.heap.size + 1, 0, none⟩ = some (.int .i64 x1.1) := (gw16.cell (by first | omega | (simp; try omega))).trans f291
  have f318 : w16.cell? ⟨w.heap.size + 1, 1, none⟩ = some (u1) := (gw16.cell (by first | omega | (simp; try omega))).trans f292
  have f319 : w16.cell? ⟨bb13, 0, none⟩ = some (.int .i64 (ifrV x0 x1 n2).1) := (gw16.cell (by first | omega | (simp; try omega))).trans f293
  have f320 : w16.cell? ⟨bb13, 1, none⟩ = some (.int .i64 (ifrV x0 x1 n2).2.1) := (gw16.cell (by first | omega | (simp; try omega))).trans f294
  have f321 : w16.cell? ⟨bb13, 2, none⟩ = some (.slice ad17 (ifrV x0 x1 n2).2.2.length ad17') := (gw16.cell (by first | omega | (simp; try omega))).trans f295
  have f322 : w16.cell? ⟨w4.heap.size, 0, none⟩ = some (.int .i64 x0.1) := (gw16.cell (by first | omega | (simp; try omega))).trans f296
  have f323 : w16.cell? ⟨w4.heap.size, 1, none⟩ = some (.slice ad41 x0.2.length ad41') := (gw16.cell (by first | omega | (simp; try omega))).trans f297
  have f324 : w16.cell? ⟨w5.heap.size, 0, none⟩ = some (.int .i64 x1.1) := (gw16.cell (by first | omega | (simp; try omega))).trans f298
  have f325 : w16.cell? ⟨w5.heap.size, 1, none⟩ = some (.slice ad60 x1.2.length ad60') := (gw16.cell (by first | omega | (simp; try omega))).trans f299
  have f326 : w16.cell? ⟨w6.heap.size, 0, none⟩ = some (.int .i64 (ifrV x0 x1 n2).1) := (gw16.cell (by first | omega | (simp; try omega))).trans f300
  have f327 : w16.cell? ⟨w6.heap.size, 1, none⟩ = some (.int .i64 (ifrV x0 x1 n2).2.1) := (gw16.cell (by first | omega | (simp; try omega))).trans f301
  have f328 : w16.cell? ⟨w6.heap.size, 2, none⟩ = some (.slice ad83 (ifrV x0 x1 n2).2.2.length ad83') := (gw16.cell (by first | omega | (simp; try omega))).trans f302
  have f329 : w16.cell? ⟨bb281, 0, none⟩ = some (.int .i64 (ifrV x0 x1 n2).1) := (gw16.cell (by first | omega | (simp; try omega))).trans f286
  have f330 : w16.cell? ⟨bb281, 1, none⟩ = some (.int .i64 (ifrV x0 x1 n2).2.1) := (gw16.cell (by first | omega | (simp; try omega))).trans f287
  have f331 : w16.cell? ⟨bb281, 2, none⟩ = some (.slice ad285 (ifrV x0 x1 n2).2.2.length ad285') := (gw16.cell (by first | omega | (simp; try omega))).trans f288
  have z332 : w.heap.size < w16.heap.size := by omega
  have z333 : w.heap.size + 1 < w16.heap.size := by omega
  have z334 : bb13 < w16.heap.size := by omega
  have z335 : w4.heap.size < w16.heap.size := by omega
  have z336 : w5.heap.size < w16.heap.size := by omega
  have z337 : w6.heap.size < w16.heap.size := by omega
  have z338 : bb281 < w16.heap.size := by omega
  have d339 : frmT.Fx w2.heap.size w3.heap.size w16 [.int .i64 (ifrV x0 x1 n2).1, .int .i64 (ifrV x0 x1 n2).2.1, .slice ad17 (ifrV x0 x1 n2).2.2.length ad17'] (ifrV x0 x1 n2) := d309.below gw16
  have d340 : tplT.Fx w3.heap.size w4.heap.size w16 [.int .i64 x0.1, .slice ad41 x0.2.length ad41'] (mkTpl 1 x0) := d310.below gw16
  have d341 : instT.Fx (w4.heap.size + 1) w5.heap.size w16 [.int .i64 x1.1, .slice ad60 x1.2.length ad60'] (mkInst (1 + cntTpl x0) x1) := d311.below gw16
  have d342 : frmT.Fx (w5.heap.size + 1) w6.heap.size w16 [.int .i64 (ifrV x0 x1 n2).1, .int .i64 (ifrV x0 x1 n2).2.1, .slice ad83 (ifrV x0 x1 n2).2.2.length ad83'] (mkFrm 1 (ifrV x0 x1 n2)) := d312.below gw16
  have d343 : frmT.Fx w14.heap.size w15.heap.size w16 [.int .i64 (ifrV x0 x1 n2).1, .int .i64 (ifrV x0 x1 n2).2.1, .slice ad285 (ifrV x0 x1 n2).2.2.length ad285'] (ifrV x0 x1 n2) := d313.below gw16
  clear hb16 H_w15 f289 f290 f291 f292 f293 f294 f295 f296 f297 f298 f299 f300 f301 f302 f286 f287 f288 d309 d310 d311 d312 d313 z303 z304 z305 z306 z307 z308 gw16
  rw [eqB_true rfl]
  go_wp2_with fail
  refine (heldFormula_any _ _ d342.rd (by omega) (by omega)).mono ?_
  rintro e w17 ⟨rfl, hb17⟩
  have gw17 : Below w16.heap.size w16 w17 := bthen (by repeat (first | exact Below.refl _ _ | exact bA | assumption | refine Below.setCell ?_ (by first | omega | (simp; try omega)) _ | refine Below.alloc ?_ (by first | omega | (simp; try omega)) _ | refine Below.drew ?_ | refine bDN ?_ | refine bthen ?_ (by assumption))) hb17
  have sw17 : w16.heap.size + 0 ≤ w17.heap.size := by have := hb17.size; (try simp at this); omega
  have H_w17 : Below w.heap.size w w17 := bthen H_w16 gw17
  have f344 : w17.cell? ⟨w.heap.size, 0, none⟩ = some (.int .i64 x0.1) := (gw17.cell (by first | omega | (simp; try omega))).trans f315
  have f345 : w17.cell? ⟨w.heap.size, 1, none⟩ = some (u0) := (gw17.cell (by first | omega | (simp; try omega))).trans f316
  have f346 : w17.cell? ⟨w.heap.size + 1, 0, none⟩ = some (.int .i64 x1.1) := (gw17.cell (by first | omega | (simp; try omega))).trans f317
  have f347 : w17.cell? ⟨w.heap.size + 1, 1, none⟩ = some (u1) := (gw17.cell (by first | omega | (simp; try omega))).trans f318
  have f348 : w17.cell? ⟨bb13, 0, none⟩ = some (.int .i64 (ifrV x0 x1 n2).1) := (gw17.cell (by first | omega | (simp; try omega))).trans f319
  have f349 : w17.cell? ⟨bb13, 1, none⟩ = some (.int .i64 (ifrV x0 x1 n2).2.1) := (gw17.cell (by first | omega | (simp; try omega))).trans f320
  have f350 : w17.cell? ⟨bb13, 2, none⟩ = some (.slice ad17 (ifrV x0 x1 n2).2.2.length ad17') := (gw17.cell (by first | omega | (simp; try omega))).trans f321
  have f351 : w17.cell? ⟨w4.heap.size, 0, none⟩ = some (.int .i64 x0.1) := (gw17.cell (by first | omega | (simp; try omega))).trans f322
  have f352 : w17.cell? ⟨w4.heap.size, 1, none⟩ = some (.slice ad41 x0.2.length ad41') := (gw17.cell (by first | omega | (simp; try omega))).trans f323
  have f353 : w17.cell? ⟨w5.heap.size, 0, none⟩ = some (.int .i64 x1.1) := (gw17.cell (by first | omega | (simp; try omega))).trans f324
  have f354 : w17.cell? ⟨w5.heap.size, 1, none⟩ = some (.slice ad60 x1.2.length ad60') := (gw17.cell (by first | omega | (simp; try omega))).trans f325
  have f355 : w17.cell? ⟨w6.heap.size, 0, none⟩ = some (.int .i64 (ifrV x0 x1 n2).1) := (gw17.cell (by first | omega | (simp; try omega))).trans f326
  have f356 : w17.cell? ⟨w6.heap.size, 1, none⟩ = some (.int .i64 (ifrV x0 x1 n2).2.1) := (gw17.cell (by first | omega | (simp; try omega))).trans f327
  have f357 : w17.cell? ⟨w6.heap.size, 2, none⟩ = some (.slice ad83 (ifrV x0 x1 n2).2.2.length ad83') := (gw17.cell (by first | omega | (simp; try omega))).trans f328
  have f358 : w17.cell? ⟨bb281, 0, none⟩ = some (.int .i64 (ifrV x0 x1 n2).1) := (gw17.cell (by first | omega | (simp; try omega))).trans f329
  have f359 : w17.cell? ⟨bb281, 1, none⟩ = some (.int .i64 (ifrV x0 x1 n2).2.1) := (gw17.cell (by first | omega | (simp; try omega))).trans f330
  have f360 : w17.cell? ⟨bb281, 2, none⟩ = some (.slice ad285 (ifrV x0 x1 n2).2.2.length ad285') := (gw17.cell (by first | omega | (simp; try omega))).trans f331
  have z361 : w.heap.size < w17.heap.size := by omega
  have z362 : w.heap.size + 1 < w17.heap.size := by omega
  have z363 : bb13 < w17.heap.size := by omega
  have z364 : w4.heap.size < w17.heap.size := by omega
  have z365 : w5.heap.size < w17.heap.size := by omega
  have z366 : w6.heap.size < w17.heap.size := by omega
  have z367 : bb281 < w17.heap.size := by omega
  have d368 : frmT.Fx w2.heap.size w3.heap.size w17 [.int .i64 (ifrV x0 x1 n2).1, .int .i64 (ifrV x0 x1 n2).2.1, .slice ad17 (ifrV x0 x1 n2).2.2.length ad17'] (ifrV x0 x1 n2) := d339.below gw17
  have d369 : tplT.Fx w3.heap.size w4.heap.size w17 [.int .i64 x0.1, .slice ad41 x0.2.length ad41'] (mkTpl 1 x0) := d340.below gw17
  have d370 : instT.Fx (w4.heap.size + 1) w5.heap.size w17 [.int .i64 x1.1, .slice ad60 x1.2.length ad60'] (mkInst (1 + cntTpl x0) x1) := d341.below gw17
  have d371 : frmT.Fx (w5.heap.size + 1) w6.heap.size w17 [.int .i64 (ifrV x0 x1 n2).1, .int .i64 (ifrV x0 x1 n2).2.1, .slice ad83 (ifrV x0 x1 n2).2.2.length ad83'] (mkFrm 1 (ifrV x0 x1 n2)) := d342.below gw17
  have d372 : frmT.Fx w14.heap.size w15.heap.size w17 [.int .i64 (ifrV x0 x1 n2).1, .int .i64 (ifrV x0 x1 n2).2.1, .slice ad285 (ifrV x0 x1 n2).2.2.length ad285'] (ifrV x0 x1 n2) := d343.below gw17
  clear hb17 H_w16 f315 f316 f317 f318 f319 f320 f321 f322 f323 f324 f325 f326 f327 f328 f329 f330 f331 d339 d340 d341 d342 d343 z332 z333 z334 z335 z336 z337 z338 gw17
  go_wp2_with fail
  go_ret
  exact ⟨rfl, (by repeat (first | exact Below.refl _ _ | exact bA | assumption | refine Below.setCell ?_ (by first | omega | (simp; try omega)) _ | refine Below.alloc ?_ (by first | omega | (simp; try omega)) _ | refine Below.drew ?_ | refine bDN ?_ | refine bthen ?_ (by assumption)))⟩
end Go.Proofs.Ytigclobkmocfkaa
