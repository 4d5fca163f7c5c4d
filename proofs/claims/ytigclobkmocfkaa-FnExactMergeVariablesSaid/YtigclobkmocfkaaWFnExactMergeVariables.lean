/-
  The law FnExactMergeVariables, walked: its contract.
-/
import Derived.Test.YtigclobkmocfkaaK35
import Derived.Test.YtigclobkmocfkaaKM
import Derived.Test.YtigclobkmocfkaaKT
import Derived.Test.YtigclobkmocfkaaLoose2
namespace Go.Proofs.Ytigclobkmocfkaa
open Go.RowKit Go.Sort
set_option maxHeartbeats 6400000 in
set_option maxRecDepth 100000 in
theorem fnExactMergeVariables_any (w : World) {c0 : Array Value} {x0 : Int × List (Int × List (List Int))} (h0 : tplT.Rd w c0.toList x0) {c1 : Array Value} {x1 : Int × List (Int × List Int)} (h1 : instT.Rd w c1.toList x1) {n2 : Int} (_h2 : I64 n2) {n3 : Int} (_h3 : I64 n3) :
    Calls Try.prog 4 #[.agg c0, .agg c1, .int .i64 n2, .int .i64 n3] w fun e w' => e = .returned (.bool true) ∧ Below w.heap.size w w' := by
  have hx0 := h0
  obtain ⟨u0, hv0, -, hy0⟩ := pair_ex h0
  obtain rfl := agg_of hv0
  clear hv0 h0
  have hn0 := szTpl_nn x0
  have hcn0 : cntTpl x0 ≤ szTpl x0 := cntRels_sz x0.2
  have hcz0 : 0 ≤ cntTpl x0 := cntRels_nn x0.2
  have hx1 := h1
  obtain ⟨u1, hv1, -, hy1⟩ := pair_ex h1
  obtain rfl := agg_of hv1
  clear hv1 h1
  have hn1 := szInst_nn x1
  have hcn1 : cntInst x1 ≤ szInst x1 := cntOps_sz x1.2
  have hcz1 : 0 ≤ cntInst x1 := cntOps_nn x1.2
  have H_w : Below w.heap.size w w := Below.refl _ _
  go_enter Try.func4, Try.ntmps4
  go_wp2_with fail
  refine (szTemplate_any _ (hx0.below (by repeat (first | exact Below.refl _ _ | exact bA | assumption | refine Below.setCell ?_ (by first | omega | (simp; try omega)) _ | refine Below.alloc ?_ (by first | omega | (simp; try omega)) _ | refine Below.drew ?_ | refine bDN ?_ | refine bthen ?_ (by assumption)))) _ (by omega) (by omega)).mono ?_
  rintro e w1 ⟨rfl, hb1⟩
  have gw1 : Below w.heap.size w w1 := bthen (by repeat (first | exact Below.refl _ _ | exact bA | assumption | refine Below.setCell ?_ (by first | omega | (simp; try omega)) _ | refine Below.alloc ?_ (by first | omega | (simp; try omega)) _ | refine Below.drew ?_ | refine bDN ?_ | refine bthen ?_ (by assumption))) hb1
  have sw1 : w.heap.size + 2 ≤ w1.heap.size := by have := hb1.size; (try simp at this); omega
  have H_w1 : Below w.heap.size w w1 := bthen H_w gw1
  have f1 : w1.cell? ⟨w.heap.size, 0, none⟩ = some (.int .i64 x0.1) := by rw [(bcell hb1).1 _ _ (by first | omega | (simp; try omega))]; simp
  have f2 : w1.cell? ⟨w.heap.size, 1, none⟩ = some (u0) := by rw [(bcell hb1).1 _ _ (by first | omega | (simp; try omega))]; simp
  have f3 : w1.cell? ⟨w.heap.size + 1, 0, none⟩ = some (.int .i64 x1.1) := by rw [(bcell hb1).1 _ _ (by first | omega | (simp; try omega))]; simp
  have f4 : w1.cell? ⟨w.heap.size + 1, 1, none⟩ = some (u1) := by rw [(bcell hb1).1 _ _ (by first | omega | (simp; try omega))]; simp
  have z5 : w.heap.size < w1.heap.size := by omega
  have z6 : w.heap.size + 1 < w1.heap.size := by omega
  clear hb1 gw1
  rcases ilt 1048576 (szTpl x0) with hl2 | hl2
  · rw [szR_lt hl2]
    go_wp2_with fail
    go_ret
    exact ⟨rfl, (by repeat (first | exact Below.refl _ _ | exact bA | assumption | refine Below.setCell ?_ (by first | omega | (simp; try omega)) _ | refine Below.alloc ?_ (by first | omega | (simp; try omega)) _ | refine Below.drew ?_ | refine bDN ?_ | refine bthen ?_ (by assumption)))⟩
  rw [szR_ge hl2]
  go_wp2_with fail
  refine (szInstance_any _ (hx1.below (by repeat (first | exact Below.refl _ _ | exact bA | assumption | refine Below.setCell ?_ (by first | omega | (simp; try omega)) _ | refine Below.alloc ?_ (by first | omega | (simp; try omega)) _ | refine Below.drew ?_ | refine bDN ?_ | refine bthen ?_ (by assumption)))) _ (by omega) (by omega)).mono ?_
  rintro e w2 ⟨rfl, hb2⟩
  have gw2 : Below w1.heap.size w1 w2 := bthen (by repeat (first | exact Below.refl _ _ | exact bA | assumption | refine Below.setCell ?_ (by first | omega | (simp; try omega)) _ | refine Below.alloc ?_ (by first | omega | (simp; try omega)) _ | refine Below.drew ?_ | refine bDN ?_ | refine bthen ?_ (by assumption))) hb2
  have sw2 : w1.heap.size + 0 ≤ w2.heap.size := by have := hb2.size; (try simp at this); omega
  have H_w2 : Below w.heap.size w w2 := bthen H_w1 gw2
  have f7 : w2.cell? ⟨w.heap.size, 0, none⟩ = some (.int .i64 x0.1) := (gw2.cell (by first | omega | (simp; try omega))).trans f1
  have f8 : w2.cell? ⟨w.heap.size, 1, none⟩ = some (u0) := (gw2.cell (by first | omega | (simp; try omega))).trans f2
  have f9 : w2.cell? ⟨w.heap.size + 1, 0, none⟩ = some (.int .i64 x1.1) := (gw2.cell (by first | omega | (simp; try omega))).trans f3
  have f10 : w2.cell? ⟨w.heap.size + 1, 1, none⟩ = some (u1) := (gw2.cell (by first | omega | (simp; try omega))).trans f4
  have z11 : w.heap.size < w2.heap.size := by omega
  have z12 : w.heap.size + 1 < w2.heap.size := by omega
  clear hb2 H_w1 f1 f2 f3 f4 z5 z6 gw2
  rcases ilt (1048576 - szTpl x0) (szInst x1) with hl5 | hl5
  · rw [szR_lt hl5]
    go_wp2_with fail
    go_ret
    exact ⟨rfl, (by repeat (first | exact Below.refl _ _ | exact bA | assumption | refine Below.setCell ?_ (by first | omega | (simp; try omega)) _ | refine Below.alloc ?_ (by first | omega | (simp; try omega)) _ | refine Below.drew ?_ | refine bDN ?_ | refine bthen ?_ (by assumption)))⟩
  rw [szR_ge hl5]
  go_wp2_with fail
  have hcr1 : cntInst (mrgV x0 x1 n2 n3) ≤ 1000000000 := (Int.le_trans mrg_cnt (by omega))
  have hcrz1 : 0 ≤ cntInst (mrgV x0 x1 n2 n3) := cntOps_nn _
  refine wp_region_box [(.plain, exO (.agg #[.int .i64 x0.1, u0])), (.plain, rdAO tplT x0), (.plain, exO (.agg #[.int .i64 x1.1, u1])), (.plain, rdAO instT x1), (.plain, exO (.int .i64 n2)), (.plain, exO (.int .i64 n3)), (.plain, frTO instT w2.heap.size (mrgV x0 x1 n2 n3) (.int .i64 (mrgC x0 x1 n2 n3))), (.plain, frTO instT w2.heap.size (mrgV x0 x1 n2 n3) (.int .i64 (mrgC x0 x1 n2 n3))), (.plain, frAO instT w2.heap.size (mrgV x0 x1 n2 n3)), (.plain, exO (.int .i64 (mrgC x0 x1 n2 n3))), (.alloc, boxO 2), (.store, heldO instT w2.heap.size (mrgV x0 x1 n2 n3)), (.plain, exO (.int .i64 (mrgC x0 x1 n2 n3)))] (by kernel_rfl) (by kernel_rfl) ⟨st_exO, st_rdAO, st_exO, st_rdAO, st_exO, st_exO, st_frTO, st_frTO, st_frAO, st_exO, st_boxO, st_heldO, st_exO, trivial⟩ ⟨?j8_0, ?j8_1, ?j8_2, ?j8_3, ?j8_4, ?j8_5, ?j8_6, ?j8_7, ?j8_8, ?j8_9, ?j8_10, ?j8_11, ?j8_12, trivial⟩ ?hQ8
  case j8_0 =>
    intro a' w' ob hb hbo hal hd
    have e0 : a'.tmps[4]?.getD undef = .pointer (some ⟨w.heap.size, 0, none⟩) := ev (slot_o2 hd 4 rfl rfl)
    have q : ∀ b o, b < w2.heap.size → w'.cell? ⟨b, o, none⟩ = w2.cell? ⟨b, o, none⟩ := (bcell hb).1
    go_simp
    exact ⟨_, ⟨rfl, Below.refl _ _⟩, rfl⟩
  case j8_1 =>
    intro a' w' ob hb hbo hal hd
    have e32 : a'.tmps[32]?.getD undef = .agg #[.int .i64 x0.1, u0] := ev (slot_w2 hd 32 (exO (.agg #[.int .i64 x0.1, u0])) rfl rfl)
    have r32 : tplT.Rd w2 (#[.int .i64 x0.1, u0] : Array Value).toList x0 := hx0.below H_w2
    have r32' := r32.below hb
    go_simp
    exact ⟨rfl, Below.refl _ _, (toTemplate_any w' r32' (by first | omega | (unfold szInts; omega))).mono fun e w'' ⟨cs, he, hf, hb⟩ => ⟨_, he, hb, rdAO_mk hf hbo⟩⟩
  case j8_2 =>
    intro a' w' ob hb hbo hal hd
    have e0 : a'.tmps[5]?.getD undef = .pointer (some ⟨w.heap.size + 1, 0, none⟩) := ev (slot_o2 hd 5 rfl rfl)
    have q : ∀ b o, b < w2.heap.size → w'.cell? ⟨b, o, none⟩ = w2.cell? ⟨b, o, none⟩ := (bcell hb).1
    go_simp
    exact ⟨_, ⟨rfl, Below.refl _ _⟩, rfl⟩
  case j8_3 =>
    intro a' w' ob hb hbo hal hd
    have e34 : a'.tmps[34]?.getD undef = .agg #[.int .i64 x1.1, u1] := ev (slot_w2 hd 34 (exO (.agg #[.int .i64 x1.1, u1])) rfl rfl)
    have r34 : instT.Rd w2 (#[.int .i64 x1.1, u1] : Array Value).toList x1 := hx1.below H_w2
    have r34' := r34.below hb
    go_simp
    exact ⟨rfl, Below.refl _ _, (toInstance_any w' r34' (by first | omega | (unfold szInts; omega))).mono fun e w'' ⟨cs, he, hf, hb⟩ => ⟨_, he, hb, rdAO_mk hf hbo⟩⟩
  case j8_4 =>
    intro a' w' ob hb hbo hal hd
    have e0 : a'.tmps[2]?.getD undef = .int .i64 n2 := ev (slot_o2 hd 2 rfl rfl)
    go_simp
    exact ⟨_, ⟨rfl, Below.refl _ _⟩, rfl⟩
  case j8_5 =>
    intro a' w' ob hb hbo hal hd
    have e0 : a'.tmps[3]?.getD undef = .int .i64 n3 := ev (slot_o2 hd 3 rfl rfl)
    go_simp
    exact ⟨_, ⟨rfl, Below.refl _ _⟩, rfl⟩
  case j8_6 =>
    intro a' w' ob hb hbo hal hd
    have d33 := slot_w2 hd 33 (rdAO tplT x0) rfl rfl
    obtain ⟨cs33, fp33, e33, hr33, -⟩ := d33
    have rd33 : tplT.Rd w' cs33 x0 := ⟨_, hr33⟩
    have e33' := ev e33
    have d35 := slot_w2 hd 35 (rdAO instT x1) rfl rfl
    obtain ⟨cs35, fp35, e35, hr35, -⟩ := d35
    have rd35 : instT.Rd w' cs35 x1 := ⟨_, hr35⟩
    have e35' := ev e35
    have e36 : a'.tmps[36]?.getD undef = .int .i64 n2 := ev (slot_w2 hd 36 (exO (.int .i64 n2)) rfl rfl)
    have e37 : a'.tmps[37]?.getD undef = .int .i64 n3 := ev (slot_w2 hd 37 (exO (.int .i64 n3)) rfl rfl)
    go_simp
    exact ⟨rfl, Below.refl _ _, (specMergeVariables_any _ rd33 rd35).mono fun e w'' ⟨cs, he, hf, hb2⟩ => ⟨_, he, hb2, frTO_mk hb.size hf hbo⟩⟩
  case j8_7 =>
    intro a' w' ob hb hbo hal hd
    have d38 := slot_w2 hd 38 (frTO instT w2.heap.size (mrgV x0 x1 n2 n3) (.int .i64 (mrgC x0 x1 n2 n3))) rfl rfl
    obtain ⟨cs38, e38, hf38⟩ := d38
    have e38' := ev e38
    go_simp
    exact ⟨_, ⟨rfl, Below.refl _ _⟩, cs38, rfl, hf38⟩
  case j8_8 =>
    intro a' w' ob hb hbo hal hd
    have d31 := slot_w2 hd 31 (frTO instT w2.heap.size (mrgV x0 x1 n2 n3) (.int .i64 (mrgC x0 x1 n2 n3))) rfl rfl
    obtain ⟨cs31, e31, hf31⟩ := d31
    have e31' := ev e31
    go_simp
    exact ⟨_, ⟨rfl, Below.refl _ _⟩, hf31⟩
  case j8_9 =>
    intro a' w' ob hb hbo hal hd
    have d31 := slot_w2 hd 31 (frTO instT w2.heap.size (mrgV x0 x1 n2 n3) (.int .i64 (mrgC x0 x1 n2 n3))) rfl rfl
    obtain ⟨cs31, e31, hf31⟩ := d31
    have e31' := ev e31
    go_simp
    exact ⟨_, ⟨rfl, Below.refl _ _⟩, rfl⟩
  case j8_10 =>
    intro a' w' ob hb hbo hal hd
    obtain rfl := hal rfl
    go_simp
    exact ⟨_, ⟨rfl, by simp, bA⟩, _, rfl, rfl, by simp, box2n⟩
  case j8_11 =>
    intro a' w' ob hb hbo hal hd
    obtain ⟨bb, rfl, e10, hbb, hcl⟩ := slot_w2 hd 10 (boxO 2) rfl rfl
    have e10' := ev e10
    have d39 := slot_w2 hd 39 (frAO instT w2.heap.size (mrgV x0 x1 n2 n3)) rfl rfl
    obtain ⟨cs39, fp39, e39, hr39, hn39, hg39, hu39, ho39⟩ := d39
    obtain ⟨u39, rfl, hr39', -⟩ := rd_pair hr39
    obtain ⟨ad39', cap39', rfl⟩ := rd_slice ⟨_, hr39'⟩
    have e39' := ev e39
    obtain ⟨⟨y0, c0⟩, f0⟩ := hcl 0 (by decide)
    obtain ⟨⟨y1, c1⟩, f1⟩ := hcl 1 (by decide)
    go_simp
    exact held2 c0 c1 hr39 hn39 hg39 hu39 ho39 _
  case j8_12 =>
    intro a' w' ob hb hbo hal hd
    have e0 : a'.tmps[40]?.getD undef = .int .i64 (mrgC x0 x1 n2 n3) := ev (slot_w2 hd 40 (exO (.int .i64 (mrgC x0 x1 n2 n3))) rfl rfl)
    go_simp
    exact ⟨_, ⟨rfl, Below.refl _ _⟩, rfl⟩
  intro vs8 w3 ob8 hb3 hbo8 H0
  obtain ⟨v8_0, _, rfl, p0, H1⟩ := HAll2_cons H0
  obtain ⟨v8_1, _, rfl, p1, H2⟩ := HAll2_cons H1
  obtain ⟨v8_2, _, rfl, p2, H3⟩ := HAll2_cons H2
  obtain ⟨v8_3, _, rfl, p3, H4⟩ := HAll2_cons H3
  obtain ⟨v8_4, _, rfl, p4, H5⟩ := HAll2_cons H4
  obtain ⟨v8_5, _, rfl, p5, H6⟩ := HAll2_cons H5
  obtain ⟨v8_6, _, rfl, p6, H7⟩ := HAll2_cons H6
  obtain ⟨v8_7, _, rfl, p7, H8⟩ := HAll2_cons H7
  obtain ⟨v8_8, _, rfl, p8, H9⟩ := HAll2_cons H8
  obtain ⟨v8_9, _, rfl, p9, H10⟩ := HAll2_cons H9
  obtain ⟨v8_10, _, rfl, p10, H11⟩ := HAll2_cons H10
  obtain ⟨v8_11, _, rfl, p11, H12⟩ := HAll2_cons H11
  obtain ⟨v8_12, _, rfl, p12, H13⟩ := HAll2_cons H12
  obtain rfl := HAll2_nil H13
  obtain rfl := id p0
  obtain rfl := id p2
  obtain rfl := id p4
  obtain rfl := id p5
  obtain rfl := id p9
  obtain rfl := id p12
  obtain ⟨bb13, rfl, rfl, hltbb13, -⟩ := id p10
  obtain ⟨_, cs, fp16, hob, hr1, hr2, hr3, hr4, -, cc15⟩ := id p11
  simp only [Option.some.injEq] at hob
  subst hob
  have hc14 : instT.Fr w2.heap.size w3 cs (mrgV x0 x1 n2 n3) := ⟨fp16, hr1, hr2, hr3, hr4⟩
  have hlobb13 : w2.heap.size ≤ bb13 := (hbo8 bb13 rfl).1
  obtain ⟨ad17, ad17', rfl⟩ := fr_pair hc14
  have f18 : w3.cell? ⟨bb13, 0, none⟩ = some (.int .i64 (mrgV x0 x1 n2 n3).1) := cc15 0 (by simp)
  have f19 : w3.cell? ⟨bb13, 1, none⟩ = some (.slice ad17 (mrgV x0 x1 n2 n3).2.length ad17') := cc15 1 (by simp)
  clear cc15 hr1 hr2 hr3 hr4
  clear p0 p1 p2 p3 p4 p5 p6 p7 p8 p9 p10 p11 p12 H0 H1 H2 H3 H4 H5 H6 H7 H8 H9 H10 H11 H12 H13
  have gw3 : Below w2.heap.size w2 w3 := bthen (by repeat (first | exact Below.refl _ _ | exact bA | assumption | refine Below.setCell ?_ (by first | omega | (simp; try omega)) _ | refine Below.alloc ?_ (by first | omega | (simp; try omega)) _ | refine Below.drew ?_ | refine bDN ?_ | refine bthen ?_ (by assumption))) hb3
  have sw3 : w2.heap.size + 0 ≤ w3.heap.size := by have := hb3.size; (try simp at this); omega
  have H_w3 : Below w.heap.size w w3 := bthen H_w2 gw3
  have f20 : w3.cell? ⟨w.heap.size, 0, none⟩ = some (.int .i64 x0.1) := (gw3.cell (by first | omega | (simp; try omega))).trans f7
  have f21 : w3.cell? ⟨w.heap.size, 1, none⟩ = some (u0) := (gw3.cell (by first | omega | (simp; try omega))).trans f8
  have f22 : w3.cell? ⟨w.heap.size + 1, 0, none⟩ = some (.int .i64 x1.1) := (gw3.cell (by first | omega | (simp; try omega))).trans f9
  have f23 : w3.cell? ⟨w.heap.size + 1, 1, none⟩ = some (u1) := (gw3.cell (by first | omega | (simp; try omega))).trans f10
  have z24 : w.heap.size < w3.heap.size := by omega
  have z25 : w.heap.size + 1 < w3.heap.size := by omega
  clear hb3 H_w2 f7 f8 f9 f10 z11 z12 gw3
  have d26 : instT.Fx w2.heap.size w3.heap.size w3 [.int .i64 (mrgV x0 x1 n2 n3).1, .slice ad17 (mrgV x0 x1 n2 n3).2.length ad17'] (mrgV x0 x1 n2 n3) := hc14.fx
  clear hc14
  simp only [putAll, Act.put]
  go_simp
  go_wp2_with fail
  refine (toTemplate_any _ (hx0.below (by repeat (first | exact Below.refl _ _ | exact bA | assumption | refine Below.setCell ?_ (by first | omega | (simp; try omega)) _ | refine Below.alloc ?_ (by first | omega | (simp; try omega)) _ | refine Below.drew ?_ | refine bDN ?_ | refine bthen ?_ (by assumption)))) (by first | omega | (unfold szInts; omega))).mono ?_
  rintro e w4 ⟨cs, rfl, hc28, hb4⟩
  have gw4 : Below w3.heap.size w3 w4 := bthen (by repeat (first | exact Below.refl _ _ | exact bA | assumption | refine Below.setCell ?_ (by first | omega | (simp; try omega)) _ | refine Below.alloc ?_ (by first | omega | (simp; try omega)) _ | refine Below.drew ?_ | refine bDN ?_ | refine bthen ?_ (by assumption))) hb4
  have sw4 : w3.heap.size + 0 ≤ w4.heap.size := by have := hb4.size; (try simp at this); omega
  have H_w4 : Below w.heap.size w w4 := bthen H_w3 gw4
  have f29 : w4.cell? ⟨w.heap.size, 0, none⟩ = some (.int .i64 x0.1) := (gw4.cell (by first | omega | (simp; try omega))).trans f20
  have f30 : w4.cell? ⟨w.heap.size, 1, none⟩ = some (u0) := (gw4.cell (by first | omega | (simp; try omega))).trans f21
  have f31 : w4.cell? ⟨w.heap.size + 1, 0, none⟩ = some (.int .i64 x1.1) := (gw4.cell (by first | omega | (simp; try omega))).trans f22
  have f32 : w4.cell? ⟨w.heap.size + 1, 1, none⟩ = some (u1) := (gw4.cell (by first | omega | (simp; try omega))).trans f23
  have f33 : w4.cell? ⟨bb13, 0, none⟩ = some (.int .i64 (mrgV x0 x1 n2 n3).1) := (gw4.cell (by first | omega | (simp; try omega))).trans f18
  have f34 : w4.cell? ⟨bb13, 1, none⟩ = some (.slice ad17 (mrgV x0 x1 n2 n3).2.length ad17') := (gw4.cell (by first | omega | (simp; try omega))).trans f19
  have z35 : w.heap.size < w4.heap.size := by omega
  have z36 : w.heap.size + 1 < w4.heap.size := by omega
  have z37 : bb13 < w4.heap.size := by omega
  have d38 : instT.Fx w2.heap.size w3.heap.size w4 [.int .i64 (mrgV x0 x1 n2 n3).1, .slice ad17 (mrgV x0 x1 n2 n3).2.length ad17'] (mrgV x0 x1 n2 n3) := d26.below gw4
  clear hb4 H_w3 f20 f21 f22 f23 f18 f19 d26 z24 z25 gw4
  obtain ⟨ad39, ad39', rfl⟩ := fr_pair hc28
  have d40 : tplT.Fx w3.heap.size w4.heap.size w4 [.int .i64 x0.1, .slice ad39 x0.2.length ad39'] x0 := (Ty.Fr.mono hc28 (by first | exact Nat.le_refl _ | (simp; try omega))).fx
  clear hc28
  go_wp2_with fail
  refine (toInstance_any _ (hx1.below (by repeat (first | exact Below.refl _ _ | exact bA | assumption | refine Below.setCell ?_ (by first | omega | (simp; try omega)) _ | refine Below.alloc ?_ (by first | omega | (simp; try omega)) _ | refine Below.drew ?_ | refine bDN ?_ | refine bthen ?_ (by assumption)))) (by first | omega | (unfold szInts; omega))).mono ?_
  rintro e w5 ⟨cs, rfl, hc42, hb5⟩
  have gw5 : Below w4.heap.size w4 w5 := bthen (by repeat (first | exact Below.refl _ _ | exact bA | assumption | refine Below.setCell ?_ (by first | omega | (simp; try omega)) _ | refine Below.alloc ?_ (by first | omega | (simp; try omega)) _ | refine Below.drew ?_ | refine bDN ?_ | refine bthen ?_ (by assumption))) hb5
  have sw5 : w4.heap.size + 1 ≤ w5.heap.size := by have := hb5.size; (try simp at this); omega
  have H_w5 : Below w.heap.size w w5 := bthen H_w4 gw5
  have f43 : w5.cell? ⟨w.heap.size, 0, none⟩ = some (.int .i64 x0.1) := (gw5.cell (by first | omega | (simp; try omega))).trans f29
  have f44 : w5.cell? ⟨w.heap.size, 1, none⟩ = some (u0) := (gw5.cell (by first | omega | (simp; try omega))).trans f30
  have f45 : w5.cell? ⟨w.heap.size + 1, 0, none⟩ = some (.int .i64 x1.1) := (gw5.cell (by first | omega | (simp; try omega))).trans f31
  have f46 : w5.cell? ⟨w.heap.size + 1, 1, none⟩ = some (u1) := (gw5.cell (by first | omega | (simp; try omega))).trans f32
  have f47 : w5.cell? ⟨bb13, 0, none⟩ = some (.int .i64 (mrgV x0 x1 n2 n3).1) := (gw5.cell (by first | omega | (simp; try omega))).trans f33
  have f48 : w5.cell? ⟨bb13, 1, none⟩ = some (.slice ad17 (mrgV x0 x1 n2 n3).2.length ad17') := (gw5.cell (by first | omega | (simp; try omega))).trans f34
  have f49 : w5.cell? ⟨w4.heap.size, 0, none⟩ = some (.int .i64 x0.1) := by rw [(bcell hb5).1 _ _ (by first | omega | (simp; try omega))]; simp
  have f50 : w5.cell? ⟨w4.heap.size, 1, none⟩ = some (.slice ad39 x0.2.length ad39') := by rw [(bcell hb5).1 _ _ (by first | omega | (simp; try omega))]; simp
  have z51 : w.heap.size < w5.heap.size := by omega
  have z52 : w.heap.size + 1 < w5.heap.size := by omega
  have z53 : bb13 < w5.heap.size := by omega
  have z54 : w4.heap.size < w5.heap.size := by omega
  have d55 : instT.Fx w2.heap.size w3.heap.size w5 [.int .i64 (mrgV x0 x1 n2 n3).1, .slice ad17 (mrgV x0 x1 n2 n3).2.length ad17'] (mrgV x0 x1 n2 n3) := d38.below gw5
  have d56 : tplT.Fx w3.heap.size w4.heap.size w5 [.int .i64 x0.1, .slice ad39 x0.2.length ad39'] x0 := d40.below gw5
  clear hb5 H_w4 f29 f30 f31 f32 f33 f34 d38 d40 z35 z36 z37 gw5
  obtain ⟨ad57, ad57', rfl⟩ := fr_pair hc42
  have d58 : instT.Fx (w4.heap.size + 1) w5.heap.size w5 [.int .i64 x1.1, .slice ad57 x1.2.length ad57'] x1 := (Ty.Fr.mono hc42 (by first | exact Nat.le_refl _ | (simp; try omega))).fx
  clear hc42
  go_wp2_with fail
  refine (MergeVariables_any _ (d56.rd.below (by repeat (first | exact Below.refl _ _ | exact bA | assumption | refine Below.setCell ?_ (by first | omega | (simp; try omega)) _ | refine Below.alloc ?_ (by first | omega | (simp; try omega)) _ | refine Below.drew ?_ | refine bDN ?_ | refine bthen ?_ (by assumption)))) (d58.rd.below (by repeat (first | exact Below.refl _ _ | exact bA | assumption | refine Below.setCell ?_ (by first | omega | (simp; try omega)) _ | refine Below.alloc ?_ (by first | omega | (simp; try omega)) _ | refine Below.drew ?_ | refine bDN ?_ | refine bthen ?_ (by assumption))))).mono ?_
  rintro e w6 ⟨cs, rfl, hc60, hb6⟩
  have gw6 : Below w5.heap.size w5 w6 := bthen (by repeat (first | exact Below.refl _ _ | exact bA | assumption | refine Below.setCell ?_ (by first | omega | (simp; try omega)) _ | refine Below.alloc ?_ (by first | omega | (simp; try omega)) _ | refine Below.drew ?_ | refine bDN ?_ | refine bthen ?_ (by assumption))) hb6
  have sw6 : w5.heap.size + 1 ≤ w6.heap.size := by have := hb6.size; (try simp at this); omega
  have H_w6 : Below w.heap.size w w6 := bthen H_w5 gw6
  have f61 : w6.cell? ⟨w.heap.size, 0, none⟩ = some (.int .i64 x0.1) := (gw6.cell (by first | omega | (simp; try omega))).trans f43
  have f62 : w6.cell? ⟨w.heap.size, 1, none⟩ = some (u0) := (gw6.cell (by first | omega | (simp; try omega))).trans f44
  have f63 : w6.cell? ⟨w.heap.size + 1, 0, none⟩ = some (.int .i64 x1.1) := (gw6.cell (by first | omega | (simp; try omega))).trans f45
  have f64 : w6.cell? ⟨w.heap.size + 1, 1, none⟩ = some (u1) := (gw6.cell (by first | omega | (simp; try omega))).trans f46
  have f65 : w6.cell? ⟨bb13, 0, none⟩ = some (.int .i64 (mrgV x0 x1 n2 n3).1) := (gw6.cell (by first | omega | (simp; try omega))).trans f47
  have f66 : w6.cell? ⟨bb13, 1, none⟩ = some (.slice ad17 (mrgV x0 x1 n2 n3).2.length ad17') := (gw6.cell (by first | omega | (simp; try omega))).trans f48
  have f67 : w6.cell? ⟨w4.heap.size, 0, none⟩ = some (.int .i64 x0.1) := (gw6.cell (by first | omega | (simp; try omega))).trans f49
  have f68 : w6.cell? ⟨w4.heap.size, 1, none⟩ = some (.slice ad39 x0.2.length ad39') := (gw6.cell (by first | omega | (simp; try omega))).trans f50
  have f69 : w6.cell? ⟨w5.heap.size, 0, none⟩ = some (.int .i64 x1.1) := by rw [(bcell hb6).1 _ _ (by first | omega | (simp; try omega))]; simp
  have f70 : w6.cell? ⟨w5.heap.size, 1, none⟩ = some (.slice ad57 x1.2.length ad57') := by rw [(bcell hb6).1 _ _ (by first | omega | (simp; try omega))]; simp
  have z71 : w.heap.size < w6.heap.size := by omega
  have z72 : w.heap.size + 1 < w6.heap.size := by omega
  have z73 : bb13 < w6.heap.size := by omega
  have z74 : w4.heap.size < w6.heap.size := by omega
  have z75 : w5.heap.size < w6.heap.size := by omega
  have d76 : instT.Fx w2.heap.size w3.heap.size w6 [.int .i64 (mrgV x0 x1 n2 n3).1, .slice ad17 (mrgV x0 x1 n2 n3).2.length ad17'] (mrgV x0 x1 n2 n3) := d55.below gw6
  have d77 : tplT.Fx w3.heap.size w4.heap.size w6 [.int .i64 x0.1, .slice ad39 x0.2.length ad39'] x0 := d56.below gw6
  have d78 : instT.Fx (w4.heap.size + 1) w5.heap.size w6 [.int .i64 x1.1, .slice ad57 x1.2.length ad57'] x1 := d58.below gw6
  clear hb6 H_w5 f43 f44 f45 f46 f47 f48 f49 f50 d55 d56 d58 z51 z52 z53 z54 gw6
  obtain ⟨ad79, ad79', rfl⟩ := fr_pair hc60
  have d80 : instT.Fx (w5.heap.size + 1) w6.heap.size w6 [.int .i64 (mrgV x0 x1 n2 n3).1, .slice ad79 (mrgV x0 x1 n2 n3).2.length ad79'] (mrgV x0 x1 n2 n3) := (Ty.Fr.mono hc60 (by first | exact Nat.le_refl _ | (simp; try omega))).fx
  clear hc60
  go_wp2_with fail
  refine (eqInstance_any _ (d80.rd.below (by repeat (first | exact Below.refl _ _ | exact bA | assumption | refine Below.setCell ?_ (by first | omega | (simp; try omega)) _ | refine Below.alloc ?_ (by first | omega | (simp; try omega)) _ | refine Below.drew ?_ | refine bDN ?_ | refine bthen ?_ (by assumption)))) (d76.rd.below (by repeat (first | exact Below.refl _ _ | exact bA | assumption | refine Below.setCell ?_ (by first | omega | (simp; try omega)) _ | refine Below.alloc ?_ (by first | omega | (simp; try omega)) _ | refine Below.drew ?_ | refine bDN ?_ | refine bthen ?_ (by assumption))))).mono ?_
  rintro e w7 ⟨rfl, hb7⟩
  have gw7 : Below w6.heap.size w6 w7 := bthen (by repeat (first | exact Below.refl _ _ | exact bA | assumption | refine Below.setCell ?_ (by first | omega | (simp; try omega)) _ | refine Below.alloc ?_ (by first | omega | (simp; try omega)) _ | refine Below.drew ?_ | refine bDN ?_ | refine bthen ?_ (by assumption))) hb7
  have sw7 : w6.heap.size + 1 ≤ w7.heap.size := by have := hb7.size; (try simp at this); omega
  have H_w7 : Below w.heap.size w w7 := bthen H_w6 gw7
  have f82 : w7.cell? ⟨w.heap.size, 0, none⟩ = some (.int .i64 x0.1) := (gw7.cell (by first | omega | (simp; try omega))).trans f61
  have f83 : w7.cell? ⟨w.heap.size, 1, none⟩ = some (u0) := (gw7.cell (by first | omega | (simp; try omega))).trans f62
  have f84 : w7.cell? ⟨w.heap.size + 1, 0, none⟩ = some (.int .i64 x1.1) := (gw7.cell (by first | omega | (simp; try omega))).trans f63
  have f85 : w7.cell? ⟨w.heap.size + 1, 1, none⟩ = some (u1) := (gw7.cell (by first | omega | (simp; try omega))).trans f64
  have f86 : w7.cell? ⟨bb13, 0, none⟩ = some (.int .i64 (mrgV x0 x1 n2 n3).1) := (gw7.cell (by first | omega | (simp; try omega))).trans f65
  have f87 : w7.cell? ⟨bb13, 1, none⟩ = some (.slice ad17 (mrgV x0 x1 n2 n3).2.length ad17') := (gw7.cell (by first | omega | (simp; try omega))).trans f66
  have f88 : w7.cell? ⟨w4.heap.size, 0, none⟩ = some (.int .i64 x0.1) := (gw7.cell (by first | omega | (simp; try omega))).trans f67
  have f89 : w7.cell? ⟨w4.heap.size, 1, none⟩ = some (.slice ad39 x0.2.length ad39') := (gw7.cell (by first | omega | (simp; try omega))).trans f68
  have f90 : w7.cell? ⟨w5.heap.size, 0, none⟩ = some (.int .i64 x1.1) := (gw7.cell (by first | omega | (simp; try omega))).trans f69
  have f91 : w7.cell? ⟨w5.heap.size, 1, none⟩ = some (.slice ad57 x1.2.length ad57') := (gw7.cell (by first | omega | (simp; try omega))).trans f70
  have f92 : w7.cell? ⟨w6.heap.size, 0, none⟩ = some (.int .i64 (mrgV x0 x1 n2 n3).1) := by rw [(bcell hb7).1 _ _ (by first | omega | (simp; try omega))]; simp
  have f93 : w7.cell? ⟨w6.heap.size, 1, none⟩ = some (.slice ad79 (mrgV x0 x1 n2 n3).2.length ad79') := by rw [(bcell hb7).1 _ _ (by first | omega | (simp; try omega))]; simp
  have z94 : w.heap.size < w7.heap.size := by omega
  have z95 : w.heap.size + 1 < w7.heap.size := by omega
  have z96 : bb13 < w7.heap.size := by omega
  have z97 : w4.heap.size < w7.heap.size := by omega
  have z98 : w5.heap.size < w7.heap.size := by omega
  have z99 : w6.heap.size < w7.heap.size := by omega
  have d100 : instT.Fx w2.heap.size w3.heap.size w7 [.int .i64 (mrgV x0 x1 n2 n3).1, .slice ad17 (mrgV x0 x1 n2 n3).2.length ad17'] (mrgV x0 x1 n2 n3) := d76.below gw7
  have d101 : tplT.Fx w3.heap.size w4.heap.size w7 [.int .i64 x0.1, .slice ad39 x0.2.length ad39'] x0 := d77.below gw7
  have d102 : instT.Fx (w4.heap.size + 1) w5.heap.size w7 [.int .i64 x1.1, .slice ad57 x1.2.length ad57'] x1 := d78.below gw7
  have d103 : instT.Fx (w5.heap.size + 1) w6.heap.size w7 [.int .i64 (mrgV x0 x1 n2 n3).1, .slice ad79 (mrgV x0 x1 n2 n3).2.length ad79'] (mrgV x0 x1 n2 n3) := d80.below gw7
  clear hb7 H_w6 f61 f62 f63 f64 f65 f66 f67 f68 f69 f70 d76 d77 d78 d80 z71 z72 z73 z74 z75 gw7
  rw [eqB_true rfl]
  go_wp2_with fail
  refine wp_region_loose [exV (.agg #[.int .i64 x0.1, .slice ad39 x0.2.length ad39']), exV (.agg #[.int .i64 x0.1, u0]), rdA tplT x0, exV (.bool true), exV (.bool false)] (by kernel_rfl) (by kernel_rfl) ⟨st_exV, st_exV, st_rdA, st_exV, st_exV, trivial⟩ ⟨?j14_0, ?j14_1, ?j14_2, ?j14_3, ?j14_4, trivial⟩ ?hQ14
  case j14_0 =>
    intro a' w' hb hd
    have e0 : a'.tmps[12]?.getD undef = .pointer (some ⟨w4.heap.size, 0, none⟩) := ev (slot_o hd 12 rfl rfl)
    have q : ∀ b o, b < w7.heap.size → w'.cell? ⟨b, o, none⟩ = w7.cell? ⟨b, o, none⟩ := (bcell hb).1
    go_simp
    exact ⟨Below.refl _ _, rfl⟩
  case j14_1 =>
    intro a' w' hb hd
    have e0 : a'.tmps[4]?.getD undef = .pointer (some ⟨w.heap.size, 0, none⟩) := ev (slot_o hd 4 rfl rfl)
    have q : ∀ b o, b < w7.heap.size → w'.cell? ⟨b, o, none⟩ = w7.cell? ⟨b, o, none⟩ := (bcell hb).1
    go_simp
    exact ⟨Below.refl _ _, rfl⟩
  case j14_2 =>
    intro a' w' hb hd
    have e63 : a'.tmps[63]?.getD undef = .agg #[.int .i64 x0.1, u0] := ev (slot_w hd 63 (exV (.agg #[.int .i64 x0.1, u0])) rfl rfl)
    have r63 : tplT.Rd w7 (#[.int .i64 x0.1, u0] : Array Value).toList x0 := hx0.below H_w7
    have r63' := r63.below hb
    go_simp
    exact ⟨Below.refl _ _, (toTemplate_any w' r63' (by first | omega | (unfold szInts; omega))).mono fun e w'' ⟨cs, he, hf, hb⟩ => ⟨_, he, hb, cs, rfl, hf.rd⟩⟩
  case j14_3 =>
    intro a' w' hb hd
    have e62 : a'.tmps[62]?.getD undef = .agg #[.int .i64 x0.1, .slice ad39 x0.2.length ad39'] := ev (slot_w hd 62 (exV (.agg #[.int .i64 x0.1, .slice ad39 x0.2.length ad39'])) rfl rfl)
    have r62 : tplT.Rd w7 (#[.int .i64 x0.1, .slice ad39 x0.2.length ad39'] : Array Value).toList x0 := d101.rd
    have r62' := r62.below hb
    have d64 := slot_w hd 64 (rdA tplT x0) rfl rfl
    obtain ⟨cs64, e64, hf64⟩ := d64
    have e64' := ev e64
    go_simp
    exact ⟨Below.refl _ _, (eqTemplate_any w' r62' hf64).mono fun e w'' ⟨he, hb⟩ => ⟨_, he, hb, exV_eqB⟩⟩
  case j14_4 =>
    intro a' w' hb hd
    have e0 : a'.tmps[65]?.getD undef = .bool true := ev (slot_w hd 65 (exV (.bool true)) rfl rfl)
    go_simp
    exact ⟨Below.refl _ _, rfl⟩
  intro vs14 w8 hb8 H0
  obtain ⟨v14_0, _, rfl, p0, H1⟩ := HAll_cons H0
  obtain ⟨v14_1, _, rfl, p1, H2⟩ := HAll_cons H1
  obtain ⟨v14_2, _, rfl, p2, H3⟩ := HAll_cons H2
  obtain ⟨v14_3, _, rfl, p3, H4⟩ := HAll_cons H3
  obtain ⟨v14_4, _, rfl, p4, H5⟩ := HAll_cons H4
  obtain rfl := HAll_nil H5
  obtain rfl := p0 rfl
  obtain rfl := p1 rfl
  obtain rfl := p3 rfl
  obtain rfl := p4 rfl
  clear p0 p1 p2 p3 p4 H0 H1 H2 H3 H4 H5
  have gw8 : Below w7.heap.size w7 w8 := bthen (by repeat (first | exact Below.refl _ _ | exact bA | assumption | refine Below.setCell ?_ (by first | omega | (simp; try omega)) _ | refine Below.alloc ?_ (by first | omega | (simp; try omega)) _ | refine Below.drew ?_ | refine bDN ?_ | refine bthen ?_ (by assumption))) hb8
  have sw8 : w7.heap.size + 0 ≤ w8.heap.size := by have := hb8.size; (try simp at this); omega
  have H_w8 : Below w.heap.size w w8 := bthen H_w7 gw8
  have f104 : w8.cell? ⟨w.heap.size, 0, none⟩ = some (.int .i64 x0.1) := (gw8.cell (by first | omega | (simp; try omega))).trans f82
  have f105 : w8.cell? ⟨w.heap.size, 1, none⟩ = some (u0) := (gw8.cell (by first | omega | (simp; try omega))).trans f83
  have f106 : w8.cell? ⟨w.heap.size + 1, 0, none⟩ = some (.int .i64 x1.1) := (gw8.cell (by first | omega | (simp; try omega))).trans f84
  have f107 : w8.cell? ⟨w.heap.size + 1, 1, none⟩ = some (u1) := (gw8.cell (by first | omega | (simp; try omega))).trans f85
  have f108 : w8.cell? ⟨bb13, 0, none⟩ = some (.int .i64 (mrgV x0 x1 n2 n3).1) := (gw8.cell (by first | omega | (simp; try omega))).trans f86
  have f109 : w8.cell? ⟨bb13, 1, none⟩ = some (.slice ad17 (mrgV x0 x1 n2 n3).2.length ad17') := (gw8.cell (by first | omega | (simp; try omega))).trans f87
  have f110 : w8.cell? ⟨w4.heap.size, 0, none⟩ = some (.int .i64 x0.1) := (gw8.cell (by first | omega | (simp; try omega))).trans f88
  have f111 : w8.cell? ⟨w4.heap.size, 1, none⟩ = some (.slice ad39 x0.2.length ad39') := (gw8.cell (by first | omega | (simp; try omega))).trans f89
  have f112 : w8.cell? ⟨w5.heap.size, 0, none⟩ = some (.int .i64 x1.1) := (gw8.cell (by first | omega | (simp; try omega))).trans f90
  have f113 : w8.cell? ⟨w5.heap.size, 1, none⟩ = some (.slice ad57 x1.2.length ad57') := (gw8.cell (by first | omega | (simp; try omega))).trans f91
  have f114 : w8.cell? ⟨w6.heap.size, 0, none⟩ = some (.int .i64 (mrgV x0 x1 n2 n3).1) := (gw8.cell (by first | omega | (simp; try omega))).trans f92
  have f115 : w8.cell? ⟨w6.heap.size, 1, none⟩ = some (.slice ad79 (mrgV x0 x1 n2 n3).2.length ad79') := (gw8.cell (by first | omega | (simp; try omega))).trans f93
  have z116 : w.heap.size < w8.heap.size := by omega
  have z117 : w.heap.size + 1 < w8.heap.size := by omega
  have z118 : bb13 < w8.heap.size := by omega
  have z119 : w4.heap.size < w8.heap.size := by omega
  have z120 : w5.heap.size < w8.heap.size := by omega
  have z121 : w6.heap.size < w8.heap.size := by omega
  have d122 : instT.Fx w2.heap.size w3.heap.size w8 [.int .i64 (mrgV x0 x1 n2 n3).1, .slice ad17 (mrgV x0 x1 n2 n3).2.length ad17'] (mrgV x0 x1 n2 n3) := d100.below gw8
  have d123 : tplT.Fx w3.heap.size w4.heap.size w8 [.int .i64 x0.1, .slice ad39 x0.2.length ad39'] x0 := d101.below gw8
  have d124 : instT.Fx (w4.heap.size + 1) w5.heap.size w8 [.int .i64 x1.1, .slice ad57 x1.2.length ad57'] x1 := d102.below gw8
  have d125 : instT.Fx (w5.heap.size + 1) w6.heap.size w8 [.int .i64 (mrgV x0 x1 n2 n3).1, .slice ad79 (mrgV x0 x1 n2 n3).2.length ad79'] (mrgV x0 x1 n2 n3) := d103.below gw8
  clear hb8 H_w7 f82 f83 f84 f85 f86 f87 f88 f89 f90 f91 f92 f93 d100 d101 d102 d103 z94 z95 z96 z97 z98 z99 gw8
  simp only [putAll, Act.put]
  go_simp
  go_wp2_with fail
  refine wp_region_loose [exV (.agg #[.int .i64 x1.1, .slice ad57 x1.2.length ad57']), exV (.agg #[.int .i64 x1.1, u1]), rdA instT x1, exV (.bool true), exV (.bool false)] (by kernel_rfl) (by kernel_rfl) ⟨st_exV, st_exV, st_rdA, st_exV, st_exV, trivial⟩ ⟨?j16_0, ?j16_1, ?j16_2, ?j16_3, ?j16_4, trivial⟩ ?hQ16
  case j16_0 =>
    intro a' w' hb hd
    have e0 : a'.tmps[13]?.getD undef = .pointer (some ⟨w5.heap.size, 0, none⟩) := ev (slot_o hd 13 rfl rfl)
    have q : ∀ b o, b < w8.heap.size → w'.cell? ⟨b, o, none⟩ = w8.cell? ⟨b, o, none⟩ := (bcell hb).1
    go_simp
    exact ⟨Below.refl _ _, rfl⟩
  case j16_1 =>
    intro a' w' hb hd
    have e0 : a'.tmps[5]?.getD undef = .pointer (some ⟨w.heap.size + 1, 0, none⟩) := ev (slot_o hd 5 rfl rfl)
    have q : ∀ b o, b < w8.heap.size → w'.cell? ⟨b, o, none⟩ = w8.cell? ⟨b, o, none⟩ := (bcell hb).1
    go_simp
    exact ⟨Below.refl _ _, rfl⟩
  case j16_2 =>
    intro a' w' hb hd
    have e68 : a'.tmps[68]?.getD undef = .agg #[.int .i64 x1.1, u1] := ev (slot_w hd 68 (exV (.agg #[.int .i64 x1.1, u1])) rfl rfl)
    have r68 : instT.Rd w8 (#[.int .i64 x1.1, u1] : Array Value).toList x1 := hx1.below H_w8
    have r68' := r68.below hb
    go_simp
    exact ⟨Below.refl _ _, (toInstance_any w' r68' (by first | omega | (unfold szInts; omega))).mono fun e w'' ⟨cs, he, hf, hb⟩ => ⟨_, he, hb, cs, rfl, hf.rd⟩⟩
  case j16_3 =>
    intro a' w' hb hd
    have e67 : a'.tmps[67]?.getD undef = .agg #[.int .i64 x1.1, .slice ad57 x1.2.length ad57'] := ev (slot_w hd 67 (exV (.agg #[.int .i64 x1.1, .slice ad57 x1.2.length ad57'])) rfl rfl)
    have r67 : instT.Rd w8 (#[.int .i64 x1.1, .slice ad57 x1.2.length ad57'] : Array Value).toList x1 := d124.rd
    have r67' := r67.below hb
    have d69 := slot_w hd 69 (rdA instT x1) rfl rfl
    obtain ⟨cs69, e69, hf69⟩ := d69
    have e69' := ev e69
    go_simp
    exact ⟨Below.refl _ _, (eqInstance_any w' r67' hf69).mono fun e w'' ⟨he, hb⟩ => ⟨_, he, hb, exV_eqB⟩⟩
  case j16_4 =>
    intro a' w' hb hd
    have e0 : a'.tmps[70]?.getD undef = .bool true := ev (slot_w hd 70 (exV (.bool true)) rfl rfl)
    go_simp
    exact ⟨Below.refl _ _, rfl⟩
  intro vs16 w9 hb9 H0
  obtain ⟨v16_0, _, rfl, p0, H1⟩ := HAll_cons H0
  obtain ⟨v16_1, _, rfl, p1, H2⟩ := HAll_cons H1
  obtain ⟨v16_2, _, rfl, p2, H3⟩ := HAll_cons H2
  obtain ⟨v16_3, _, rfl, p3, H4⟩ := HAll_cons H3
  obtain ⟨v16_4, _, rfl, p4, H5⟩ := HAll_cons H4
  obtain rfl := HAll_nil H5
  obtain rfl := p0 rfl
  obtain rfl := p1 rfl
  obtain rfl := p3 rfl
  obtain rfl := p4 rfl
  clear p0 p1 p2 p3 p4 H0 H1 H2 H3 H4 H5
  have gw9 : Below w8.heap.size w8 w9 := bthen (by repeat (first | exact Below.refl _ _ | exact bA | assumption | refine Below.setCell ?_ (by first | omega | (simp; try omega)) _ | refine Below.alloc ?_ (by first | omega | (simp; try omega)) _ | refine Below.drew ?_ | refine bDN ?_ | refine bthen ?_ (by assumption))) hb9
  have sw9 : w8.heap.size + 0 ≤ w9.heap.size := by have := hb9.size; (try simp at this); omega
  have H_w9 : Below w.heap.size w w9 := bthen H_w8 gw9
  have f126 : w9.cell? ⟨w.heap.size, 0, none⟩ = some (.int .i64 x0.1) := (gw9.cell (by first | omega | (simp; try omega))).trans f104
  have f127 : w9.cell? ⟨w.heap.size, 1, none⟩ = some (u0) := (gw9.cell (by first | omega | (simp; try omega))).trans f105
  have f128 : w9.cell? ⟨w.heap.size + 1, 0, none⟩ = some (.int .i64 x1.1) := (gw9.cell (by first | omega | (simp; try omega))).trans f106
  have f129 : w9.cell? ⟨w.heap.size + 1, 1, none⟩ = some (u1) := (gw9.cell (by first | omega | (simp; try omega))).trans f107
  have f130 : w9.cell? ⟨bb13, 0, none⟩ = some (.int .i64 (mrgV x0 x1 n2 n3).1) := (gw9.cell (by first | omega | (simp; try omega))).trans f108
  have f131 : w9.cell? ⟨bb13, 1, none⟩ = some (.slice ad17 (mrgV x0 x1 n2 n3).2.length ad17') := (gw9.cell (by first | omega | (simp; try omega))).trans f109
  have f132 : w9.cell? ⟨w4.heap.size, 0, none⟩ = some (.int .i64 x0.1) := (gw9.cell (by first | omega | (simp; try omega))).trans f110
  have f133 : w9.cell? ⟨w4.heap.size, 1, none⟩ = some (.slice ad39 x0.2.length ad39') := (gw9.cell (by first | omega | (simp; try omega))).trans f111
  have f134 : w9.cell? ⟨w5.heap.size, 0, none⟩ = some (.int .i64 x1.1) := (gw9.cell (by first | omega | (simp; try omega))).trans f112
  have f135 : w9.cell? ⟨w5.heap.size, 1, none⟩ = some (.slice ad57 x1.2.length ad57') := (gw9.cell (by first | omega | (simp; try omega))).trans f113
  have f136 : w9.cell? ⟨w6.heap.size, 0, none⟩ = some (.int .i64 (mrgV x0 x1 n2 n3).1) := (gw9.cell (by first | omega | (simp; try omega))).trans f114
  have f137 : w9.cell? ⟨w6.heap.size, 1, none⟩ = some (.slice ad79 (mrgV x0 x1 n2 n3).2.length ad79') := (gw9.cell (by first | omega | (simp; try omega))).trans f115
  have z138 : w.heap.size < w9.heap.size := by omega
  have z139 : w.heap.size + 1 < w9.heap.size := by omega
  have z140 : bb13 < w9.heap.size := by omega
  have z141 : w4.heap.size < w9.heap.size := by omega
  have z142 : w5.heap.size < w9.heap.size := by omega
  have z143 : w6.heap.size < w9.heap.size := by omega
  have d144 : instT.Fx w2.heap.size w3.heap.size w9 [.int .i64 (mrgV x0 x1 n2 n3).1, .slice ad17 (mrgV x0 x1 n2 n3).2.length ad17'] (mrgV x0 x1 n2 n3) := d122.below gw9
  have d145 : tplT.Fx w3.heap.size w4.heap.size w9 [.int .i64 x0.1, .slice ad39 x0.2.length ad39'] x0 := d123.below gw9
  have d146 : instT.Fx (w4.heap.size + 1) w5.heap.size w9 [.int .i64 x1.1, .slice ad57 x1.2.length ad57'] x1 := d124.below gw9
  have d147 : instT.Fx (w5.heap.size + 1) w6.heap.size w9 [.int .i64 (mrgV x0 x1 n2 n3).1, .slice ad79 (mrgV x0 x1 n2 n3).2.length ad79'] (mrgV x0 x1 n2 n3) := d125.below gw9
  clear hb9 H_w8 f104 f105 f106 f107 f108 f109 f110 f111 f112 f113 f114 f115 d122 d123 d124 d125 z116 z117 z118 z119 z120 z121 gw9
  simp only [putAll, Act.put]
  go_simp
  go_wp2_with fail
  refine (markTemplate_fx _ d145 _ (by omega) (by omega)).mono ?_
  rintro e w10 ⟨rfl, hb10, d148⟩
  clear d145
  have sw10 : w9.heap.size ≤ w10.heap.size := hb10.size
  have H_w10 : Below w.heap.size w w10 := below_tch H_w9 hb10 (by omega) (by omega)
  have f149 : w10.cell? ⟨w.heap.size, 0, none⟩ = some (.int .i64 x0.1) := (hb10.cell (by omega) (by omega)).trans f126
  have f150 : w10.cell? ⟨w.heap.size, 1, none⟩ = some (u0) := (hb10.cell (by omega) (by omega)).trans f127
  have f151 : w10.cell? ⟨w.heap.size + 1, 0, none⟩ = some (.int .i64 x1.1) := (hb10.cell (by omega) (by omega)).trans f128
  have f152 : w10.cell? ⟨w.heap.size + 1, 1, none⟩ = some (u1) := (hb10.cell (by omega) (by omega)).trans f129
  have f153 : w10.cell? ⟨bb13, 0, none⟩ = some (.int .i64 (mrgV x0 x1 n2 n3).1) := (hb10.cell (by omega) (by omega)).trans f130
  have f154 : w10.cell? ⟨bb13, 1, none⟩ = some (.slice ad17 (mrgV x0 x1 n2 n3).2.length ad17') := (hb10.cell (by omega) (by omega)).trans f131
  have f155 : w10.cell? ⟨w4.heap.size, 0, none⟩ = some (.int .i64 x0.1) := (hb10.cell (by omega) (by omega)).trans f132
  have f156 : w10.cell? ⟨w4.heap.size, 1, none⟩ = some (.slice ad39 x0.2.length ad39') := (hb10.cell (by omega) (by omega)).trans f133
  have f157 : w10.cell? ⟨w5.heap.size, 0, none⟩ = some (.int .i64 x1.1) := (hb10.cell (by omega) (by omega)).trans f134
  have f158 : w10.cell? ⟨w5.heap.size, 1, none⟩ = some (.slice ad57 x1.2.length ad57') := (hb10.cell (by omega) (by omega)).trans f135
  have f159 : w10.cell? ⟨w6.heap.size, 0, none⟩ = some (.int .i64 (mrgV x0 x1 n2 n3).1) := (hb10.cell (by omega) (by omega)).trans f136
  have f160 : w10.cell? ⟨w6.heap.size, 1, none⟩ = some (.slice ad79 (mrgV x0 x1 n2 n3).2.length ad79') := (hb10.cell (by omega) (by omega)).trans f137
  have z161 : w.heap.size < w10.heap.size := by omega
  have z162 : w.heap.size + 1 < w10.heap.size := by omega
  have z163 : bb13 < w10.heap.size := by omega
  have z164 : w4.heap.size < w10.heap.size := by omega
  have z165 : w5.heap.size < w10.heap.size := by omega
  have z166 : w6.heap.size < w10.heap.size := by omega
  have d167 : instT.Fx w2.heap.size w3.heap.size w10 [.int .i64 (mrgV x0 x1 n2 n3).1, .slice ad17 (mrgV x0 x1 n2 n3).2.length ad17'] (mrgV x0 x1 n2 n3) := d144.tch hb10 (by omega)
  have d168 : instT.Fx (w4.heap.size + 1) w5.heap.size w10 [.int .i64 x1.1, .slice ad57 x1.2.length ad57'] x1 := d146.tch hb10 (by omega)
  have d169 : instT.Fx (w5.heap.size + 1) w6.heap.size w10 [.int .i64 (mrgV x0 x1 n2 n3).1, .slice ad79 (mrgV x0 x1 n2 n3).2.length ad79'] (mrgV x0 x1 n2 n3) := d147.tch hb10 (by omega)
  clear hb10 H_w9 f126 f127 f128 f129 f130 f131 f132 f133 f134 f135 f136 f137 d144 d146 d147 z138 z139 z140 z141 z142 z143
  have hk170 : 0 ≤ (1 + cntTpl x0) := by omega
  go_wp2_with fail
  refine (markInstance_fx _ d168 _ (by omega) (by omega)).mono ?_
  rintro e w11 ⟨rfl, hb11, d171⟩
  clear d168
  have sw11 : w10.heap.size ≤ w11.heap.size := hb11.size
  have H_w11 : Below w.heap.size w w11 := below_tch H_w10 hb11 (by omega) (by omega)
  have f172 : w11.cell? ⟨w.heap.size, 0, none⟩ = some (.int .i64 x0.1) := (hb11.cell (by omega) (by omega)).trans f149
  have f173 : w11.cell? ⟨w.heap.size, 1, none⟩ = some (u0) := (hb11.cell (by omega) (by omega)).trans f150
  have f174 : w11.cell? ⟨w.heap.size + 1, 0, none⟩ = some (.int .i64 x1.1) := (hb11.cell (by omega) (by omega)).trans f151
  have f175 : w11.cell? ⟨w.heap.size + 1, 1, none⟩ = some (u1) := (hb11.cell (by omega) (by omega)).trans f152
  have f176 : w11.cell? ⟨bb13, 0, none⟩ = some (.int .i64 (mrgV x0 x1 n2 n3).1) := (hb11.cell (by omega) (by omega)).trans f153
  have f177 : w11.cell? ⟨bb13, 1, none⟩ = some (.slice ad17 (mrgV x0 x1 n2 n3).2.length ad17') := (hb11.cell (by omega) (by omega)).trans f154
  have f178 : w11.cell? ⟨w4.heap.size, 0, none⟩ = some (.int .i64 x0.1) := (hb11.cell (by omega) (by omega)).trans f155
  have f179 : w11.cell? ⟨w4.heap.size, 1, none⟩ = some (.slice ad39 x0.2.length ad39') := (hb11.cell (by omega) (by omega)).trans f156
  have f180 : w11.cell? ⟨w5.heap.size, 0, none⟩ = some (.int .i64 x1.1) := (hb11.cell (by omega) (by omega)).trans f157
  have f181 : w11.cell? ⟨w5.heap.size, 1, none⟩ = some (.slice ad57 x1.2.length ad57') := (hb11.cell (by omega) (by omega)).trans f158
  have f182 : w11.cell? ⟨w6.heap.size, 0, none⟩ = some (.int .i64 (mrgV x0 x1 n2 n3).1) := (hb11.cell (by omega) (by omega)).trans f159
  have f183 : w11.cell? ⟨w6.heap.size, 1, none⟩ = some (.slice ad79 (mrgV x0 x1 n2 n3).2.length ad79') := (hb11.cell (by omega) (by omega)).trans f160
  have z184 : w.heap.size < w11.heap.size := by omega
  have z185 : w.heap.size + 1 < w11.heap.size := by omega
  have z186 : bb13 < w11.heap.size := by omega
  have z187 : w4.heap.size < w11.heap.size := by omega
  have z188 : w5.heap.size < w11.heap.size := by omega
  have z189 : w6.heap.size < w11.heap.size := by omega
  have d190 : instT.Fx w2.heap.size w3.heap.size w11 [.int .i64 (mrgV x0 x1 n2 n3).1, .slice ad17 (mrgV x0 x1 n2 n3).2.length ad17'] (mrgV x0 x1 n2 n3) := d167.tch hb11 (by omega)
  have d191 : tplT.Fx w3.heap.size w4.heap.size w11 [.int .i64 x0.1, .slice ad39 x0.2.length ad39'] (mkTpl 1 x0) := d148.tch hb11 (by omega)
  have d192 : instT.Fx (w5.heap.size + 1) w6.heap.size w11 [.int .i64 (mrgV x0 x1 n2 n3).1, .slice ad79 (mrgV x0 x1 n2 n3).2.length ad79'] (mrgV x0 x1 n2 n3) := d169.tch hb11 (by omega)
  clear hb11 H_w10 f149 f150 f151 f152 f153 f154 f155 f156 f157 f158 f159 f160 d167 d148 d169 z161 z162 z163 z164 z165 z166
  have hk193 : 0 ≤ ((1 + cntTpl x0) + cntInst x1) := by omega
  go_wp2_with fail
  refine (eqInstance_any _ (d192.rd.below (by repeat (first | exact Below.refl _ _ | exact bA | assumption | refine Below.setCell ?_ (by first | omega | (simp; try omega)) _ | refine Below.alloc ?_ (by first | omega | (simp; try omega)) _ | refine Below.drew ?_ | refine bDN ?_ | refine bthen ?_ (by assumption)))) (d190.rd.below (by repeat (first | exact Below.refl _ _ | exact bA | assumption | refine Below.setCell ?_ (by first | omega | (simp; try omega)) _ | refine Below.alloc ?_ (by first | omega | (simp; try omega)) _ | refine Below.drew ?_ | refine bDN ?_ | refine bthen ?_ (by assumption))))).mono ?_
  rintro e w12 ⟨rfl, hb12⟩
  have gw12 : Below w11.heap.size w11 w12 := bthen (by repeat (first | exact Below.refl _ _ | exact bA | assumption | refine Below.setCell ?_ (by first | omega | (simp; try omega)) _ | refine Below.alloc ?_ (by first | omega | (simp; try omega)) _ | refine Below.drew ?_ | refine bDN ?_ | refine bthen ?_ (by assumption))) hb12
  have sw12 : w11.heap.size + 0 ≤ w12.heap.size := by have := hb12.size; (try simp at this); omega
  have H_w12 : Below w.heap.size w w12 := bthen H_w11 gw12
  have f194 : w12.cell? ⟨w.heap.size, 0, none⟩ = some (.int .i64 x0.1) := (gw12.cell (by first | omega | (simp; try omega))).trans f172
  have f195 : w12.cell? ⟨w.heap.size, 1, none⟩ = some (u0) := (gw12.cell (by first | omega | (simp; try omega))).trans f173
  have f196 : w12.cell? ⟨w.heap.size + 1, 0, none⟩ = some (.int .i64 x1.1) := (gw12.cell (by first | omega | (simp; try omega))).trans f174
  have f197 : w12.cell? ⟨w.heap.size + 1, 1, none⟩ = some (u1) := (gw12.cell (by first | omega | (simp; try omega))).trans f175
  have f198 : w12.cell? ⟨bb13, 0, none⟩ = some (.int .i64 (mrgV x0 x1 n2 n3).1) := (gw12.cell (by first | omega | (simp; try omega))).trans f176
  have f199 : w12.cell? ⟨bb13, 1, none⟩ = some (.slice ad17 (mrgV x0 x1 n2 n3).2.length ad17') := (gw12.cell (by first | omega | (simp; try omega))).trans f177
  have f200 : w12.cell? ⟨w4.heap.size, 0, none⟩ = some (.int .i64 x0.1) := (gw12.cell (by first | omega | (simp; try omega))).trans f178
  have f201 : w12.cell? ⟨w4.heap.size, 1, none⟩ = some (.slice ad39 x0.2.length ad39') := (gw12.cell (by first | omega | (simp; try omega))).trans f179
  have f202 : w12.cell? ⟨w5.heap.size, 0, none⟩ = some (.int .i64 x1.1) := (gw12.cell (by first | omega | (simp; try omega))).trans f180
  have f203 : w12.cell? ⟨w5.heap.size, 1, none⟩ = some (.slice ad57 x1.2.length ad57') := (gw12.cell (by first | omega | (simp; try omega))).trans f181
  have f204 : w12.cell? ⟨w6.heap.size, 0, none⟩ = some (.int .i64 (mrgV x0 x1 n2 n3).1) := (gw12.cell (by first | omega | (simp; try omega))).trans f182
  have f205 : w12.cell? ⟨w6.heap.size, 1, none⟩ = some (.slice ad79 (mrgV x0 x1 n2 n3).2.length ad79') := (gw12.cell (by first | omega | (simp; try omega))).trans f183
  have z206 : w.heap.size < w12.heap.size := by omega
  have z207 : w.heap.size + 1 < w12.heap.size := by omega
  have z208 : bb13 < w12.heap.size := by omega
  have z209 : w4.heap.size < w12.heap.size := by omega
  have z210 : w5.heap.size < w12.heap.size := by omega
  have z211 : w6.heap.size < w12.heap.size := by omega
  have d212 : instT.Fx w2.heap.size w3.heap.size w12 [.int .i64 (mrgV x0 x1 n2 n3).1, .slice ad17 (mrgV x0 x1 n2 n3).2.length ad17'] (mrgV x0 x1 n2 n3) := d190.below gw12
  have d213 : tplT.Fx w3.heap.size w4.heap.size w12 [.int .i64 x0.1, .slice ad39 x0.2.length ad39'] (mkTpl 1 x0) := d191.below gw12
  have d214 : instT.Fx (w4.heap.size + 1) w5.heap.size w12 [.int .i64 x1.1, .slice ad57 x1.2.length ad57'] (mkInst (1 + cntTpl x0) x1) := d171.below gw12
  have d215 : instT.Fx (w5.heap.size + 1) w6.heap.size w12 [.int .i64 (mrgV x0 x1 n2 n3).1, .slice ad79 (mrgV x0 x1 n2 n3).2.length ad79'] (mrgV x0 x1 n2 n3) := d192.below gw12
  clear hb12 H_w11 f172 f173 f174 f175 f176 f177 f178 f179 f180 f181 f182 f183 d190 d191 d171 d192 z184 z185 z186 z187 z188 z189 gw12
  rw [eqB_true rfl]
  go_wp2_with fail
  refine (markInstance_fx _ d215 _ (by omega) (by omega)).mono ?_
  rintro e w13 ⟨rfl, hb13, d216⟩
  clear d215
  have sw13 : w12.heap.size ≤ w13.heap.size := hb13.size
  have H_w13 : Below w.heap.size w w13 := below_tch H_w12 hb13 (by omega) (by omega)
  have f217 : w13.cell? ⟨w.heap.size, 0, none⟩ = some (.int .i64 x0.1) := (hb13.cell (by omega) (by omega)).trans f194
  have f218 : w13.cell? ⟨w.heap.size, 1, none⟩ = some (u0) := (hb13.cell (by omega) (by omega)).trans f195
  have f219 : w13.cell? ⟨w.heap.size + 1, 0, none⟩ = some (.int .i64 x1.1) := (hb13.cell (by omega) (by omega)).trans f196
  have f220 : w13.cell? ⟨w.heap.size + 1, 1, none⟩ = some (u1) := (hb13.cell (by omega) (by omega)).trans f197
  have f221 : w13.cell? ⟨bb13, 0, none⟩ = some (.int .i64 (mrgV x0 x1 n2 n3).1) := (hb13.cell (by omega) (by omega)).trans f198
  have f222 : w13.cell? ⟨bb13, 1, none⟩ = some (.slice ad17 (mrgV x0 x1 n2 n3).2.length ad17') := (hb13.cell (by omega) (by omega)).trans f199
  have f223 : w13.cell? ⟨w4.heap.size, 0, none⟩ = some (.int .i64 x0.1) := (hb13.cell (by omega) (by omega)).trans f200
  have f224 : w13.cell? ⟨w4.heap.size, 1, none⟩ = some (.slice ad39 x0.2.length ad39') := (hb13.cell (by omega) (by omega)).trans f201
  have f225 : w13.cell? ⟨w5.heap.size, 0, none⟩ = some (.int .i64 x1.1) := (hb13.cell (by omega) (by omega)).trans f202
  have f226 : w13.cell? ⟨w5.heap.size, 1, none⟩ = some (.slice ad57 x1.2.length ad57') := (hb13.cell (by omega) (by omega)).trans f203
  have f227 : w13.cell? ⟨w6.heap.size, 0, none⟩ = some (.int .i64 (mrgV x0 x1 n2 n3).1) := (hb13.cell (by omega) (by omega)).trans f204
  have f228 : w13.cell? ⟨w6.heap.size, 1, none⟩ = some (.slice ad79 (mrgV x0 x1 n2 n3).2.length ad79') := (hb13.cell (by omega) (by omega)).trans f205
  have z229 : w.heap.size < w13.heap.size := by omega
  have z230 : w.heap.size + 1 < w13.heap.size := by omega
  have z231 : bb13 < w13.heap.size := by omega
  have z232 : w4.heap.size < w13.heap.size := by omega
  have z233 : w5.heap.size < w13.heap.size := by omega
  have z234 : w6.heap.size < w13.heap.size := by omega
  have d235 : instT.Fx w2.heap.size w3.heap.size w13 [.int .i64 (mrgV x0 x1 n2 n3).1, .slice ad17 (mrgV x0 x1 n2 n3).2.length ad17'] (mrgV x0 x1 n2 n3) := d212.tch hb13 (by omega)
  have d236 : tplT.Fx w3.heap.size w4.heap.size w13 [.int .i64 x0.1, .slice ad39 x0.2.length ad39'] (mkTpl 1 x0) := d213.tch hb13 (by omega)
  have d237 : instT.Fx (w4.heap.size + 1) w5.heap.size w13 [.int .i64 x1.1, .slice ad57 x1.2.length ad57'] (mkInst (1 + cntTpl x0) x1) := d214.tch hb13 (by omega)
  clear hb13 H_w12 f194 f195 f196 f197 f198 f199 f200 f201 f202 f203 f204 f205 d212 d213 d214 z206 z207 z208 z209 z210 z211
  have hk238 : 0 ≤ (1 + cntInst (mrgV x0 x1 n2 n3)) := by omega
  go_wp2_with fail
  refine (heldInstance_any _ _ d216.rd (by omega) (by omega)).mono ?_
  rintro e w14 ⟨rfl, hb14⟩
  have gw14 : Below w13.heap.size w13 w14 := bthen (by repeat (first | exact Below.refl _ _ | exact bA | assumption | refine Below.setCell ?_ (by first | omega | (simp; try omega)) _ | refine Below.alloc ?_ (by first | omega | (simp; try omega)) _ | refine Below.drew ?_ | refine bDN ?_ | refine bthen ?_ (by assumption))) hb14
  have sw14 : w13.heap.size + 0 ≤ w14.heap.size := by have := hb14.size; (try simp at this); omega
  have H_w14 : Below w.heap.size w w14 := bthen H_w13 gw14
  have f239 : w14.cell? ⟨w.heap.size, 0, none⟩ = some (.int .i64 x0.1) := (gw14.cell (by first | omega | (simp; try omega))).trans f217
  have f240 : w14.cell? ⟨w.heap.size, 1, none⟩ = some (u0) := (gw14.cell (by first | omega | (simp; try omega))).trans f218
  have f241 : w14.cell? ⟨w.heap.size + 1, 0, none⟩ = some (.int .i64 x1.1) := (gw14.cell (by first | omega | (simp; try omega))).trans f219
  have f242 : w14.cell? ⟨w.heap.size + 1, 1, none⟩ = some (u1) := (gw14.cell (by first | omega | (simp; try omega))).trans f220
  have f243 : w14.cell? ⟨bb13, 0, none⟩ = some (.int .i64 (mrgV x0 x1 n2 n3).1) := (gw14.cell (by first | omega | (simp; try omega))).trans f221
  have f244 : w14.cell? ⟨bb13, 1, none⟩ = some (.slice ad17 (mrgV x0 x1 n2 n3).2.length ad17') := (gw14.cell (by first | omega | (simp; try omega))).trans f222
  have f245 : w14.cell? ⟨w4.heap.size, 0, none⟩ = some (.int .i64 x0.1) := (gw14.cell (by first | omega | (simp; try omega))).trans f223
  have f246 : w14.cell? ⟨w4.heap.size, 1, none⟩ = some (.slice ad39 x0.2.length ad39') := (gw14.cell (by first | omega | (simp; try omega))).trans f224
  have f247 : w14.cell? ⟨w5.heap.size, 0, none⟩ = some (.int .i64 x1.1) := (gw14.cell (by first | omega | (simp; try omega))).trans f225
  have f248 : w14.cell? ⟨w5.heap.size, 1, none⟩ = some (.slice ad57 x1.2.length ad57') := (gw14.cell (by first | omega | (simp; try omega))).trans f226
  have f249 : w14.cell? ⟨w6.heap.size, 0, none⟩ = some (.int .i64 (mrgV x0 x1 n2 n3).1) := (gw14.cell (by first | omega | (simp; try omega))).trans f227
  have f250 : w14.cell? ⟨w6.heap.size, 1, none⟩ = some (.slice ad79 (mrgV x0 x1 n2 n3).2.length ad79') := (gw14.cell (by first | omega | (simp; try omega))).trans f228
  have z251 : w.heap.size < w14.heap.size := by omega
  have z252 : w.heap.size + 1 < w14.heap.size := by omega
  have z253 : bb13 < w14.heap.size := by omega
  have z254 : w4.heap.size < w14.heap.size := by omega
  have z255 : w5.heap.size < w14.heap.size := by omega
  have z256 : w6.heap.size < w14.heap.size := by omega
  have d257 : instT.Fx w2.heap.size w3.heap.size w14 [.int .i64 (mrgV x0 x1 n2 n3).1, .slice ad17 (mrgV x0 x1 n2 n3).2.length ad17'] (mrgV x0 x1 n2 n3) := d235.below gw14
  have d258 : tplT.Fx w3.heap.size w4.heap.size w14 [.int .i64 x0.1, .slice ad39 x0.2.length ad39'] (mkTpl 1 x0) := d236.below gw14
  have d259 : instT.Fx (w4.heap.size + 1) w5.heap.size w14 [.int .i64 x1.1, .slice ad57 x1.2.length ad57'] (mkInst (1 + cntTpl x0) x1) := d237.below gw14
  have d260 : instT.Fx (w5.heap.size + 1) w6.heap.size w14 [.int .i64 (mrgV x0 x1 n2 n3).1, .slice ad79 (mrgV x0 x1 n2 n3).2.length ad79'] (mkInst 1 (mrgV x0 x1 n2 n3)) := d216.below gw14
  clear hb14 H_w13 f217 f218 f219 f220 f221 f222 f223 f224 f225 f226 f227 f228 d235 d236 d237 d216 z229 z230 z231 z232 z233 z234 gw14
  go_wp2_with fail
  refine wp_region_box [(.plain, exO (.agg #[.int .i64 x0.1, u0])), (.plain, rdAO tplT x0), (.plain, exO (.agg #[.int .i64 x1.1, u1])), (.plain, rdAO instT x1), (.plain, exO (.int .i64 n2)), (.plain, exO (.int .i64 n3)), (.plain, frTO instT w14.heap.size (mrgV x0 x1 n2 n3) (.int .i64 (mrgC x0 x1 n2 n3))), (.plain, frTO instT w14.heap.size (mrgV x0 x1 n2 n3) (.int .i64 (mrgC x0 x1 n2 n3))), (.plain, frAO instT w14.heap.size (mrgV x0 x1 n2 n3)), (.plain, exO (.int .i64 (mrgC x0 x1 n2 n3))), (.alloc, boxO 2), (.store, heldO instT w14.heap.size (mrgV x0 x1 n2 n3)), (.plain, exO (.int .i64 (mrgC x0 x1 n2 n3)))] (by kernel_rfl) (by kernel_rfl) ⟨st_exO, st_rdAO, st_exO, st_rdAO, st_exO, st_exO, st_frTO, st_frTO, st_frAO, st_exO, st_boxO, st_heldO, st_exO, trivial⟩ ⟨?j31_0, ?j31_1, ?j31_2, ?j31_3, ?j31_4, ?j31_5, ?j31_6, ?j31_7, ?j31_8, ?j31_9, ?j31_10, ?j31_11, ?j31_12, trivial⟩ ?hQ31
  case j31_0 =>
    intro a' w' ob hb hbo hal hd
    have e0 : a'.tmps[4]?.getD undef = .pointer (some ⟨w.heap.size, 0, none⟩) := ev (slot_o2 hd 4 rfl rfl)
    have q : ∀ b o, b < w14.heap.size → w'.cell? ⟨b, o, none⟩ = w14.cell? ⟨b, o, none⟩ := (bcell hb).1
    go_simp
    exact ⟨_, ⟨rfl, Below.refl _ _⟩, rfl⟩
  case j31_1 =>
    intro a' w' ob hb hbo hal hd
    have e103 : a'.tmps[103]?.getD undef = .agg #[.int .i64 x0.1, u0] := ev (slot_w2 hd 103 (exO (.agg #[.int .i64 x0.1, u0])) rfl rfl)
    have r103 : tplT.Rd w14 (#[.int .i64 x0.1, u0] : Array Value).toList x0 := hx0.below H_w14
    have r103' := r103.below hb
    go_simp
    exact ⟨rfl, Below.refl _ _, (toTemplate_any w' r103' (by first | omega | (unfold szInts; omega))).mono fun e w'' ⟨cs, he, hf, hb⟩ => ⟨_, he, hb, rdAO_mk hf hbo⟩⟩
  case j31_2 =>
    intro a' w' ob hb hbo hal hd
    have e0 : a'.tmps[5]?.getD undef = .pointer (some ⟨w.heap.size + 1, 0, none⟩) := ev (slot_o2 hd 5 rfl rfl)
    have q : ∀ b o, b < w14.heap.size → w'.cell? ⟨b, o, none⟩ = w14.cell? ⟨b, o, none⟩ := (bcell hb).1
    go_simp
    exact ⟨_, ⟨rfl, Below.refl _ _⟩, rfl⟩
  case j31_3 =>
    intro a' w' ob hb hbo hal hd
    have e105 : a'.tmps[105]?.getD undef = .agg #[.int .i64 x1.1, u1] := ev (slot_w2 hd 105 (exO (.agg #[.int .i64 x1.1, u1])) rfl rfl)
    have r105 : instT.Rd w14 (#[.int .i64 x1.1, u1] : Array Value).toList x1 := hx1.below H_w14
    have r105' := r105.below hb
    go_simp
    exact ⟨rfl, Below.refl _ _, (toInstance_any w' r105' (by first | omega | (unfold szInts; omega))).mono fun e w'' ⟨cs, he, hf, hb⟩ => ⟨_, he, hb, rdAO_mk hf hbo⟩⟩
  case j31_4 =>
    intro a' w' ob hb hbo hal hd
    have e0 : a'.tmps[2]?.getD undef = .int .i64 n2 := ev (slot_o2 hd 2 rfl rfl)
    go_simp
    exact ⟨_, ⟨rfl, Below.refl _ _⟩, rfl⟩
  case j31_5 =>
    intro a' w' ob hb hbo hal hd
    have e0 : a'.tmps[3]?.getD undef = .int .i64 n3 := ev (slot_o2 hd 3 rfl rfl)
    go_simp
    exact ⟨_, ⟨rfl, Below.refl _ _⟩, rfl⟩
  case j31_6 =>
    intro a' w' ob hb hbo hal hd
    have d104 := slot_w2 hd 104 (rdAO tplT x0) rfl rfl
    obtain ⟨cs104, fp104, e104, hr104, -⟩ := d104
    have rd104 : tplT.Rd w' cs104 x0 := ⟨_, hr104⟩
    have e104' := ev e104
    have d106 := slot_w2 hd 106 (rdAO instT x1) rfl rfl
    obtain ⟨cs106, fp106, e106, hr106, -⟩ := d106
    have rd106 : instT.Rd w' cs106 x1 := ⟨_, hr106⟩
    have e106' := ev e106
    have e107 : a'.tmps[107]?.getD undef = .int .i64 n2 := ev (slot_w2 hd 107 (exO (.int .i64 n2)) rfl rfl)
    have e108 : a'.tmps[108]?.getD undef = .int .i64 n3 := ev (slot_w2 hd 108 (exO (.int .i64 n3)) rfl rfl)
    go_simp
    exact ⟨rfl, Below.refl _ _, (MergeVariables_any _ rd104 rd106).mono fun e w'' ⟨cs, he, hf, hb2⟩ => ⟨_, he, hb2, frTO_mk hb.size hf hbo⟩⟩
  case j31_7 =>
    intro a' w' ob hb hbo hal hd
    have d109 := slot_w2 hd 109 (frTO instT w14.heap.size (mrgV x0 x1 n2 n3) (.int .i64 (mrgC x0 x1 n2 n3))) rfl rfl
    obtain ⟨cs109, e109, hf109⟩ := d109
    have e109' := ev e109
    go_simp
    exact ⟨_, ⟨rfl, Below.refl _ _⟩, cs109, rfl, hf109⟩
  case j31_8 =>
    intro a' w' ob hb hbo hal hd
    have d102 := slot_w2 hd 102 (frTO instT w14.heap.size (mrgV x0 x1 n2 n3) (.int .i64 (mrgC x0 x1 n2 n3))) rfl rfl
    obtain ⟨cs102, e102, hf102⟩ := d102
    have e102' := ev e102
    go_simp
    exact ⟨_, ⟨rfl, Below.refl _ _⟩, hf102⟩
  case j31_9 =>
    intro a' w' ob hb hbo hal hd
    have d102 := slot_w2 hd 102 (frTO instT w14.heap.size (mrgV x0 x1 n2 n3) (.int .i64 (mrgC x0 x1 n2 n3))) rfl rfl
    obtain ⟨cs102, e102, hf102⟩ := d102
    have e102' := ev e102
    go_simp
    exact ⟨_, ⟨rfl, Below.refl _ _⟩, rfl⟩
  case j31_10 =>
    intro a' w' ob hb hbo hal hd
    obtain rfl := hal rfl
    go_simp
    exact ⟨_, ⟨rfl, by simp, bA⟩, _, rfl, rfl, by simp, box2n⟩
  case j31_11 =>
    intro a' w' ob hb hbo hal hd
    obtain ⟨bb, rfl, e19, hbb, hcl⟩ := slot_w2 hd 19 (boxO 2) rfl rfl
    have e19' := ev e19
    have d110 := slot_w2 hd 110 (frAO instT w14.heap.size (mrgV x0 x1 n2 n3)) rfl rfl
    obtain ⟨cs110, fp110, e110, hr110, hn110, hg110, hu110, ho110⟩ := d110
    obtain ⟨u110, rfl, hr110', -⟩ := rd_pair hr110
    obtain ⟨ad110', cap110', rfl⟩ := rd_slice ⟨_, hr110'⟩
    have e110' := ev e110
    obtain ⟨⟨y0, c0⟩, f0⟩ := hcl 0 (by decide)
    obtain ⟨⟨y1, c1⟩, f1⟩ := hcl 1 (by decide)
    go_simp
    exact held2 c0 c1 hr110 hn110 hg110 hu110 ho110 _
  case j31_12 =>
    intro a' w' ob hb hbo hal hd
    have e0 : a'.tmps[111]?.getD undef = .int .i64 (mrgC x0 x1 n2 n3) := ev (slot_w2 hd 111 (exO (.int .i64 (mrgC x0 x1 n2 n3))) rfl rfl)
    go_simp
    exact ⟨_, ⟨rfl, Below.refl _ _⟩, rfl⟩
  intro vs31 w15 ob31 hb15 hbo31 H0
  obtain ⟨v31_0, _, rfl, p0, H1⟩ := HAll2_cons H0
  obtain ⟨v31_1, _, rfl, p1, H2⟩ := HAll2_cons H1
  obtain ⟨v31_2, _, rfl, p2, H3⟩ := HAll2_cons H2
  obtain ⟨v31_3, _, rfl, p3, H4⟩ := HAll2_cons H3
  obtain ⟨v31_4, _, rfl, p4, H5⟩ := HAll2_cons H4
  obtain ⟨v31_5, _, rfl, p5, H6⟩ := HAll2_cons H5
  obtain ⟨v31_6, _, rfl, p6, H7⟩ := HAll2_cons H6
  obtain ⟨v31_7, _, rfl, p7, H8⟩ := HAll2_cons H7
  obtain ⟨v31_8, _, rfl, p8, H9⟩ := HAll2_cons H8
  obtain ⟨v31_9, _, rfl, p9, H10⟩ := HAll2_cons H9
  obtain ⟨v31_10, _, rfl, p10, H11⟩ := HAll2_cons H10
  obtain ⟨v31_11, _, rfl, p11, H12⟩ := HAll2_cons H11
  obtain ⟨v31_12, _, rfl, p12, H13⟩ := HAll2_cons H12
  obtain rfl := HAll2_nil H13
  obtain rfl := id p0
  obtain rfl := id p2
  obtain rfl := id p4
  obtain rfl := id p5
  obtain rfl := id p9
  obtain rfl := id p12
  obtain ⟨bb261, rfl, rfl, hltbb261, -⟩ := id p10
  obtain ⟨_, cs, fp264, hob, hr1, hr2, hr3, hr4, -, cc263⟩ := id p11
  simp only [Option.some.injEq] at hob
  subst hob
  have hc262 : instT.Fr w14.heap.size w15 cs (mrgV x0 x1 n2 n3) := ⟨fp264, hr1, hr2, hr3, hr4⟩
  have hlobb261 : w14.heap.size ≤ bb261 := (hbo31 bb261 rfl).1
  obtain ⟨ad265, ad265', rfl⟩ := fr_pair hc262
  have f266 : w15.cell? ⟨bb261, 0, none⟩ = some (.int .i64 (mrgV x0 x1 n2 n3).1) := cc263 0 (by simp)
  have f267 : w15.cell? ⟨bb261, 1, none⟩ = some (.slice ad265 (mrgV x0 x1 n2 n3).2.length ad265') := cc263 1 (by simp)
  clear cc263 hr1 hr2 hr3 hr4
  clear p0 p1 p2 p3 p4 p5 p6 p7 p8 p9 p10 p11 p12 H0 H1 H2 H3 H4 H5 H6 H7 H8 H9 H10 H11 H12 H13
  have gw15 : Below w14.heap.size w14 w15 := bthen (by repeat (first | exact Below.refl _ _ | exact bA | assumption | refine Below.setCell ?_ (by first | omega | (simp; try omega)) _ | refine Below.alloc ?_ (by first | omega | (simp; try omega)) _ | refine Below.drew ?_ | refine bDN ?_ | refine bthen ?_ (by assumption))) hb15
  have sw15 : w14.heap.size + 0 ≤ w15.heap.size := by have := hb15.size; (try simp at this); omega
  have H_w15 : Below w.heap.size w w15 := bthen H_w14 gw15
  have f268 : w15.cell? ⟨w.heap.size, 0, none⟩ = some (.int .i64 x0.1) := (gw15.cell (by first | omega | (simp; try omega))).trans f239
  have f269 : w15.cell? ⟨w.heap.size, 1, none⟩ = some (u0) := (gw15.cell (by first | omega | (simp; try omega))).trans f240
  have f270 : w15.cell? ⟨w.heap.size + 1, 0, none⟩ = some (.int .i64 x1.1) := (gw15.cell (by first | omega | (simp; try omega))).trans f241
  have f271 : w15.cell? ⟨w.heap.size + 1, 1, none⟩ = some (u1) := (gw15.cell (by first | omega | (simp; try omega))).trans f242
  have f272 : w15.cell? ⟨bb13, 0, none⟩ = some (.int .i64 (mrgV x0 x1 n2 n3).1) := (gw15.cell (by first | omega | (simp; try omega))).trans f243
  have f273 : w15.cell? ⟨bb13, 1, none⟩ = some (.slice ad17 (mrgV x0 x1 n2 n3).2.length ad17') := (gw15.cell (by first | omega | (simp; try omega))).trans f244
  have f274 : w15.cell? ⟨w4.heap.size, 0, none⟩ = some (.int .i64 x0.1) := (gw15.cell (by first | omega | (simp; try omega))).trans f245
  have f275 : w15.cell? ⟨w4.heap.size, 1, none⟩ = some (.slice ad39 x0.2.length ad39') := (gw15.cell (by first | omega | (simp; try omega))).trans f246
  have f276 : w15.cell? ⟨w5.heap.size, 0, none⟩ = some (.int .i64 x1.1) := (gw15.cell (by first | omega | (simp; try omega))).trans f247
  have f277 : w15.cell? ⟨w5.heap.size, 1, none⟩ = some (.slice ad57 x1.2.length ad57') := (gw15.cell (by first | omega | (simp; try omega))).trans f248
  have f278 : w15.cell? ⟨w6.heap.size, 0, none⟩ = some (.int .i64 (mrgV x0 x1 n2 n3).1) := (gw15.cell (by first | omega | (simp; try omega))).trans f249
  have f279 : w15.cell? ⟨w6.heap.size, 1, none⟩ = some (.slice ad79 (mrgV x0 x1 n2 n3).2.length ad79') := (gw15.cell (by first | omega | (simp; try omega))).trans f250
  have z280 : w.heap.size < w15.heap.size := by omega
  have z281 : w.heap.size + 1 < w15.heap.size := by omega
  have z282 : bb13 < w15.heap.size := by omega
  have z283 : w4.heap.size < w15.heap.size := by omega
  have z284 : w5.heap.size < w15.heap.size := by omega
  have z285 : w6.heap.size < w15.heap.size := by omega
  have d286 : instT.Fx w2.heap.size w3.heap.size w15 [.int .i64 (mrgV x0 x1 n2 n3).1, .slice ad17 (mrgV x0 x1 n2 n3).2.length ad17'] (mrgV x0 x1 n2 n3) := d257.below gw15
  have d287 : tplT.Fx w3.heap.size w4.heap.size w15 [.int .i64 x0.1, .slice ad39 x0.2.length ad39'] (mkTpl 1 x0) := d258.below gw15
  have d288 : instT.Fx (w4.heap.size + 1) w5.heap.size w15 [.int .i64 x1.1, .slice ad57 x1.2.length ad57'] (mkInst (1 + cntTpl x0) x1) := d259.below gw15
  have d289 : instT.Fx (w5.heap.size + 1) w6.heap.size w15 [.int .i64 (mrgV x0 x1 n2 n3).1, .slice ad79 (mrgV x0 x1 n2 n3).2.length ad79'] (mkInst 1 (mrgV x0 x1 n2 n3)) := d260.below gw15
  clear hb15 H_w14 f239 f240 f241 f242 f243 f244 f245 f246 f247 f248 f249 f250 d257 d258 d259 d260 z251 z252 z253 z254 z255 z256 gw15
  have d290 : instT.Fx w14.heap.size w15.heap.size w15 [.int .i64 (mrgV x0 x1 n2 n3).1, .slice ad265 (mrgV x0 x1 n2 n3).2.length ad265'] (mrgV x0 x1 n2 n3) := hc262.fx
  clear hc262
  simp only [putAll, Act.put]
  go_simp
  go_wp2_with fail
  refine (eqInstance_any _ (d290.rd.below (by repeat (first | exact Below.refl _ _ | exact bA | assumption | refine Below.setCell ?_ (by first | omega | (simp; try omega)) _ | refine Below.alloc ?_ (by first | omega | (simp; try omega)) _ | refine Below.drew ?_ | refine bDN ?_ | refine bthen ?_ (by assumption)))) (d286.rd.below (by repeat (first | exact Below.refl _ _ | exact bA | assumption | refine Below.setCell ?_ (by first | omega | (simp; try omega)) _ | refine Below.alloc ?_ (by first | omega | (simp; try omega)) _ | refine Below.drew ?_ | refine bDN ?_ | refine bthen ?_ (by assumption))))).mono ?_
  rintro e w16 ⟨rfl, hb16⟩
  have gw16 : Below w15.heap.size w15 w16 := bthen (by repeat (first | exact Below.refl _ _ | exact bA | assumption | refine Below.setCell ?_ (by first | omega | (simp; try omega)) _ | refine Below.alloc ?_ (by first | omega | (simp; try omega)) _ | refine Below.drew ?_ | refine bDN ?_ | refine bthen ?_ (by assumption))) hb16
  have sw16 : w15.heap.size + 0 ≤ w16.heap.size := by have := hb16.size; (try simp at this); omega
  have H_w16 : Below w.heap.size w w16 := bthen H_w15 gw16
  have f292 : w16.cell? ⟨w.heap.size, 0, none⟩ = some (.int .i64 x0.1) := (gw16.cell (by first | omega | (simp; try omega))).trans f268
  have f293 : w16.cell? ⟨w.heap.size, 1, none⟩ = some (u0) := (gw16.cell (by first | omega | (simp; try omega))).trans f269
  have f294 : w16.cell? ⟨w.heap.size + 1, 0, none⟩ = some (.int .i64 x1.1) := (gw16.cell (by first | omega | (simp; try omega))).trans f270
  have f295 : w16.cell? ⟨w.heap.size + 1, 1, none⟩ = some (u1) := (gw16.cell (by first | omega | (simp; try omega))).trans f271
  have f296 : w16.cell? ⟨bb13, 0, none⟩ = some (.int .i64 (mrgV x0 x1 n2 n3).1) := (gw16.cell (by first | omega | (simp; try omega))).trans f272
  have f297 : w16.cell? ⟨bb13, 1, none⟩ = some (.slice ad17 (mrgV x0 x1 n2 n3).2.length ad17') := (gw16.cell (by first | omega | (simp; try omega))).trans f273
  have f298 : w16.cell? ⟨w4.heap.size, 0, none⟩ = some (.int .i64 x0.1) := (gw16.cell (by first | omega | (simp; try omega))).trans f274
  have f299 : w16.cell? ⟨w4.heap.size, 1, none⟩ = some (.slice ad39 x0.2.length ad39') := (gw16.cell (by first | omega | (simp; try omega))).trans f275
  have f300 : w16.cell? ⟨w5.heap.size, 0, none⟩ = some (.int .i64 x1.1) := (gw16.cell (by first | omega | (simp; try omega))).trans f276
  have f301 : w16.cell? ⟨w5.heap.size, 1, none⟩ = some (.slice ad57 x1.2.length ad57') := (gw16.cell (by first | omega | (simp; try omega))).trans f277
  have f302 : w16.cell? ⟨w6.heap.size, 0, none⟩ = some (.int .i64 (mrgV x0 x1 n2 n3).1) := (gw16.cell (by first | omega | (simp; try omega))).trans f278
  have f303 : w16.cell? ⟨w6.heap.size, 1, none⟩ = some (.slice ad79 (mrgV x0 x1 n2 n3).2.length ad79') := (gw16.cell (by first | omega | (simp; try omega))).trans f279
  have f304 : w16.cell? ⟨bb261, 0, none⟩ = some (.int .i64 (mrgV x0 x1 n2 n3).1) := (gw16.cell (by first | omega | (simp; try omega))).trans f266
  have f305 : w16.cell? ⟨bb261, 1, none⟩ = some (.slice ad265 (mrgV x0 x1 n2 n3).2.length ad265') := (gw16.cell (by first | omega | (simp; try omega))).trans f267
  have z306 : w.heap.size < w16.heap.size := by omega
  have z307 : w.heap.size + 1 < w16.heap.size := by omega
  have z308 : bb13 < w16.heap.size := by omega
  have z309 : w4.heap.size < w16.heap.size := by omega
  have z310 : w5.heap.size < w16.heap.size := by omega
  have z311 : w6.heap.size < w16.heap.size := by omega
  have z312 : bb261 < w16.heap.size := by omega
  have d313 : instT.Fx w2.heap.size w3.heap.size w16 [.int .i64 (mrgV x0 x1 n2 n3).1, .slice ad17 (mrgV x0 x1 n2 n3).2.length ad17'] (mrgV x0 x1 n2 n3) := d286.below gw16
  have d314 : tplT.Fx w3.heap.size w4.heap.size w16 [.int .i64 x0.1, .slice ad39 x0.2.length ad39'] (mkTpl 1 x0) := d287.below gw16
  have d315 : instT.Fx (w4.heap.size + 1) w5.heap.size w16 [.int .i64 x1.1, .slice ad57 x1.2.length ad57'] (mkInst (1 + cntTpl x0) x1) := d288.below gw16
  have d316 : instT.Fx (w5.heap.size + 1) w6.heap.size w16 [.int .i64 (mrgV x0 x1 n2 n3).1, .slice ad79 (mrgV x0 x1 n2 n3).2.length ad79'] (mkInst 1 (mrgV x0 x1 n2 n3)) := d289.below gw16
  have d317 : instT.Fx w14.heap.size w15.heap.size w16 [.int .i64 (mrgV x0 x1 n2 n3).1, .slice ad265 (mrgV x0 x1 n2 n3).2.length ad265'] (mrgV x0 x1 n2 n3) := d290.below gw16
  clear hb16 H_w15 f268 f269 f270 f271 f272 f273 f274 f275 f276 f277 f278 f279 f266 f267 d286 d287 d288 d289 d290 z280 z281 z282 z283 z284 z285 gw16
  rw [eqB_true rfl]
  go_wp2_with fail
  refine (heldInstance_any _ _ d316.rd (by omega) (by omega)).mono ?_
  rintro e w17 ⟨rfl, hb17⟩
  have gw17 : Below w16.heap.size w16 w17 := bthen (by repeat (first | exact Below.refl _ _ | exact bA | assumption | refine Below.setCell ?_ (by first | omega | (simp; try omega)) _ | refine Below.alloc ?_ (by first | omega | (simp; try omega)) _ | refine Below.drew ?_ | refine bDN ?_ | refine bthen ?_ (by assumption))) hb17
  have sw17 : w16.heap.size + 0 ≤ w17.heap.size := by have := hb17.size; (try simp at this); omega
  have H_w17 : Below w.heap.size w w17 := bthen H_w16 gw17
  have f318 : w17.cell? ⟨w.heap.size, 0, none⟩ = some (.int .i64 x0.1) := (gw17.cell (by first | omega | (simp; try omega))).trans f292
  have f319 : w17.cell? ⟨w.heap.size, 1, none⟩ = some (u0) := (gw17.cell (by first | omega | (simp; try omega))).trans f293
  have f320 : w17.cell? ⟨w.heap.size + 1, 0, none⟩ = some (.int .i64 x1.1) := (gw17.cell (by first | omega | (simp; try omega))).trans f294
  have f321 : w17.cell? ⟨w.heap.size + 1, 1, none⟩ = some (u1) := (gw17.cell (by first | omega | (simp; try omega))).trans f295
  have f322 : w17.cell? ⟨bb13, 0, none⟩ = some (.int .i64 (mrgV x0 x1 n2 n3).1) := (gw17.cell (by first | omega | (simp; try omega))).trans f296
  have f323 : w17.cell? ⟨bb13, 1, none⟩ = some (.slice ad17 (mrgV x0 x1 n2 n3).2.length ad17') := (gw17.cell (by first | omega | (simp; try omega))).trans f297
  have f324 : w17.cell? ⟨w4.heap.size, 0, none⟩ = some (.int .i64 x0.1) := (gw17.cell (by first | omega | (simp; try omega))).trans f298
  have f325 : w17.cell? ⟨w4.heap.size, 1, none⟩ = some (.slice ad39 x0.2.length ad39') := (gw17.cell (by first | omega | (simp; try omega))).trans f299
  have f326 : w17.cell? ⟨w5.heap.size, 0, none⟩ = some (.int .i64 x1.1) := (gw17.cell (by first | omega | (simp; try omega))).trans f300
  have f327 : w17.cell? ⟨w5.heap.size, 1, none⟩ = some (.slice ad57 x1.2.length ad57') := (gw17.cell (by first | omega | (simp; try omega))).trans f301
  have f328 : w17.cell? ⟨w6.heap.size, 0, none⟩ = some (.int .i64 (mrgV x0 x1 n2 n3).1) := (gw17.cell (by first | omega | (simp; try omega))).trans f302
  have f329 : w17.cell? ⟨w6.heap.size, 1, none⟩ = some (.slice ad79 (mrgV x0 x1 n2 n3).2.length ad79') := (gw17.cell (by first | omega | (simp; try omega))).trans f303
  have f330 : w17.cell? ⟨bb261, 0, none⟩ = some (.int .i64 (mrgV x0 x1 n2 n3).1) := (gw17.cell (by first | omega | (simp; try omega))).trans f304
  have f331 : w17.cell? ⟨bb261, 1, none⟩ = some (.slice ad265 (mrgV x0 x1 n2 n3).2.length ad265') := (gw17.cell (by first | omega | (simp; try omega))).trans f305
  have z332 : w.heap.size < w17.heap.size := by omega
  have z333 : w.heap.size + 1 < w17.heap.size := by omega
  have z334 : bb13 < w17.heap.size := by omega
  have z335 : w4.heap.size < w17.heap.size := by omega
  have z336 : w5.heap.size < w17.heap.size := by omega
  have z337 : w6.heap.size < w17.heap.size := by omega
  have z338 : bb261 < w17.heap.size := by omega
  have d339 : instT.Fx w2.heap.size w3.heap.size w17 [.int .i64 (mrgV x0 x1 n2 n3).1, .slice ad17 (mrgV x0 x1 n2 n3).2.length ad17'] (mrgV x0 x1 n2 n3) := d313.below gw17
  have d340 : tplT.Fx w3.heap.size w4.heap.size w17 [.int .i64 x0.1, .slice ad39 x0.2.length ad39'] (mkTpl 1 x0) := d314.below gw17
  have d341 : instT.Fx (w4.heap.size + 1) w5.heap.size w17 [.int .i64 x1.1, .slice ad57 x1.2.length ad57'] (mkInst (1 + cntTpl x0) x1) := d315.below gw17
  have d342 : instT.Fx (w5.heap.size + 1) w6.heap.size w17 [.int .i64 (mrgV x0 x1 n2 n3).1, .slice ad79 (mrgV x0 x1 n2 n3).2.length ad79'] (mkInst 1 (mrgV x0 x1 n2 n3)) := d316.below gw17
  have d343 : instT.Fx w14.heap.size w15.heap.size w17 [.int .i64 (mrgV x0 x1 n2 n3).1, .slice ad265 (mrgV x0 x1 n2 n3).2.length ad265'] (mrgV x0 x1 n2 n3) := d317.below gw17
  clear hb17 H_w16 f292 f293 f294 f295 f296 f297 f298 f299 f300 f301 f302 f303 f304 f305 d313 d314 d315 d316 d317 z306 z307 z308 z309 z310 z311 z312 gw17
  go_wp2_with fail
  go_ret
  exact ⟨rfl, (by repeat (first | exact Below.refl _ _ | exact bA | assumption | refine Below.setCell ?_ (by first | omega | (simp; try omega)) _ | refine Below.alloc ?_ (by first | omega | (simp; try omega)) _ | refine Below.drew ?_ | refine bDN ?_ | refine bthen ?_ (by assumption)))⟩
end Go.Proofs.Ytigclobkmocfkaa
