/-
  The law FnExactBreakingOp, walked: its contract.
-/
import Derived.Test.YtccobadobklbpaaQBE
import Derived.Test.YtccobadobklbpaaQBF
import Derived.Test.YtccobadobklbpaaQAC
namespace Go.Proofs.Ytccobadobklbpaa
open Go.RowKit Go.Sort
set_option maxHeartbeats 6400000 in
set_option maxRecDepth 100000 in
theorem fnExactBreakingOp_any (w : World) {c0 : Array Value} {x0 : Int × List (Int × List (List Int))} (h0 : tplT.Rd w c0.toList x0) {c1 : Array Value} {x1 : Int × List (List Int)} (h1 : relT.Rd w c1.toList x1) :
    Calls Try.prog 6 #[.agg c0, .agg c1] w fun e w' => e = .returned (.bool true) ∧ Below w.heap.size w w' := by
  have hx0 := h0
  obtain ⟨u0, hv0, -, hy0⟩ := pair_ex h0
  obtain rfl := agg_of hv0
  clear hv0 h0
  have hn0 := szTpl_nn x0
  have hcn0 : cntTpl x0 ≤ szTpl x0 := cntRels_sz x0.2
  have hcz0 : 0 ≤ cntTpl x0 := cntRels_nn x0.2
  have hx1 := h1
  obtain ⟨u1, hv1, -, hy1⟩ := pair_ex h1
  obtain rfl := agg_of hv1
  clear hv1 h1
  have hn1 := szRel_nn x1
  have hcn1 : cntRel x1 ≤ szRel x1 := cntRows_sz x1.2
  have hcz1 : 0 ≤ cntRel x1 := cntRows_nn x1.2
  have H_w : Below w.heap.size w w := Below.refl _ _
  go_enter Try.func6, Try.ntmps6
  go_wp2_with fail
  refine (szTemplate_any _ (hx0.below (by repeat (first | exact Below.refl _ _ | exact bA | assumption | refine Below.setCell ?_ (by first | omega | (simp; try omega)) _ | refine Below.alloc ?_ (by first | omega | (simp; try omega)) _ | refine Below.drew ?_ | refine bDN ?_ | refine bthen ?_ (by assumption)))) _ (by omega) (by omega)).mono ?_
  rintro e w1 ⟨rfl, hb1⟩
  have gw1 : Below w.heap.size w w1 := bthen (by repeat (first | exact Below.refl _ _ | exact bA | assumption | refine Below.setCell ?_ (by first | omega | (simp; try omega)) _ | refine Below.alloc ?_ (by first | omega | (simp; try omega)) _ | refine Below.drew ?_ | refine bDN ?_ | refine bthen ?_ (by assumption))) hb1
  have sw1 : w.heap.size + 2 ≤ w1.heap.size := by have := hb1.size; (try simp at this); omega
  have H_w1 : Below w.heap.size w w1 := bthen H_w gw1
  have f1 : w1.cell? ⟨w.heap.size, 0, none⟩ = some (.int .i64 x0.1) := by rw [(bcell hb1).1 _ _ (by first | omega | (simp; try omega))]; first | (simp; done) | simp [go_sem]
  have f2 : w1.cell? ⟨w.heap.size, 1, none⟩ = some (u0) := by rw [(bcell hb1).1 _ _ (by first | omega | (simp; try omega))]; first | (simp; done) | simp [go_sem]
  have f3 : w1.cell? ⟨w.heap.size + 1, 0, none⟩ = some (.int .i64 x1.1) := by rw [(bcell hb1).1 _ _ (by first | omega | (simp; try omega))]; first | (simp; done) | simp [go_sem]
  have f4 : w1.cell? ⟨w.heap.size + 1, 1, none⟩ = some (u1) := by rw [(bcell hb1).1 _ _ (by first | omega | (simp; try omega))]; first | (simp; done) | simp [go_sem]
  have z5 : w.heap.size < w1.heap.size := by omega
  have z6 : w.heap.size + 1 < w1.heap.size := by omega
  clear hb1 gw1
  rcases ilt 1048576 (szTpl x0) with hl2 | hl2
  · rw [szR_lt hl2]
    go_wp2_with fail
    go_ret
    exact ⟨rfl, (by repeat (first | exact Below.refl _ _ | exact bA | assumption | refine Below.setCell ?_ (by first | omega | (simp; try omega)) _ | refine Below.alloc ?_ (by first | omega | (simp; try omega)) _ | refine Below.drew ?_ | refine bDN ?_ | refine bthen ?_ (by assumption)))⟩
  rw [szR_ge hl2]
  go_wp2_with fail
  refine (szRel_any _ (hx1.below (by repeat (first | exact Below.refl _ _ | exact bA | assumption | refine Below.setCell ?_ (by first | omega | (simp; try omega)) _ | refine Below.alloc ?_ (by first | omega | (simp; try omega)) _ | refine Below.drew ?_ | refine bDN ?_ | refine bthen ?_ (by assumption)))) _ (by omega) (by omega)).mono ?_
  rintro e w2 ⟨rfl, hb2⟩
  have gw2 : Below w1.heap.size w1 w2 := bthen (by repeat (first | exact Below.refl _ _ | exact bA | assumption | refine Below.setCell ?_ (by first | omega | (simp; try omega)) _ | refine Below.alloc ?_ (by first | omega | (simp; try omega)) _ | refine Below.drew ?_ | refine bDN ?_ | refine bthen ?_ (by assumption))) hb2
  have sw2 : w1.heap.size + 0 ≤ w2.heap.size := by have := hb2.size; (try simp at this); omega
  have H_w2 : Below w.heap.size w w2 := bthen H_w1 gw2
  have f7 : w2.cell? ⟨w.heap.size, 0, none⟩ = some (.int .i64 x0.1) := (gw2.cell (by first | omega | (simp; try omega))).trans f1
  have f8 : w2.cell? ⟨w.heap.size, 1, none⟩ = some (u0) := (gw2.cell (by first | omega | (simp; try omega))).trans f2
  have f9 : w2.cell? ⟨w.heap.size + 1, 0, none⟩ = some (.int .i64 x1.1) := (gw2.cell (by first | omega | (simp; try omega))).trans f3
  have f10 : w2.cell? ⟨w.heap.size + 1, 1, none⟩ = some (u1) := (gw2.cell (by first | omega | (simp; try omega))).trans f4
  have z11 : w.heap.size < w2.heap.size := by omega
  have z12 : w.heap.size + 1 < w2.heap.size := by omega
  clear hb2 H_w1 f1 f2 f3 f4 z5 z6 gw2
  rcases ilt (1048576 - szTpl x0) (szRel x1) with hl5 | hl5
  · rw [szR_lt hl5]
    go_wp2_with fail
    go_ret
    exact ⟨rfl, (by repeat (first | exact Below.refl _ _ | exact bA | assumption | refine Below.setCell ?_ (by first | omega | (simp; try omega)) _ | refine Below.alloc ?_ (by first | omega | (simp; try omega)) _ | refine Below.drew ?_ | refine bDN ?_ | refine bthen ?_ (by assumption)))⟩
  rw [szR_ge hl5]
  go_wp2_with fail
  have hcr1 : cntOp (boO x0 x1) ≤ 1000000000 := (Int.le_trans bo_cnt (by omega))
  have hcrz1 : 0 ≤ cntOp (boO x0 x1) := cntI_nn _
  have hcr2 : cntI (boT x0 x1) ≤ 1000000000 := (Int.le_trans bt_cnt (by omega))
  have hcrz2 : 0 ≤ cntI (boT x0 x1) := cntI_nn _
  refine wp_region_box [(.plain, exO (.agg #[.int .i64 x0.1, u0])), (.plain, rdAO tplT x0), (.plain, exO (.agg #[.int .i64 x1.1, u1])), (.plain, rdAO relT x1), (.plain, frT3O opT intsT w2.heap.size (boO x0 x1) (boT x0 x1) (.int .i64 (boC x0 x1))), (.plain, frT3O opT intsT w2.heap.size (boO x0 x1) (boT x0 x1) (.int .i64 (boC x0 x1))), (.plain, frAO opT w2.heap.size (boO x0 x1)), (.plain, frSO intsT w2.heap.size (boT x0 x1)), (.plain, exO (.int .i64 (boC x0 x1))), (.alloc, boxO 2), (.store, heldO opT w2.heap.size (boO x0 x1)), (.plain, frSO intsT w2.heap.size (boT x0 x1)), (.plain, exO (.int .i64 (boC x0 x1)))] (by kernel_rfl) (by kernel_rfl) ⟨st_exO, st_rdAO, st_exO, st_rdAO, st_frT3O, st_frT3O, st_frAO, st_frSO, st_exO, st_boxO, st_heldO, st_frSO, st_exO, trivial⟩ ⟨?j8_0, ?j8_1, ?j8_2, ?j8_3, ?j8_4, ?j8_5, ?j8_6, ?j8_7, ?j8_8, ?j8_9, ?j8_10, ?j8_11, ?j8_12, trivial⟩ ?hQ8
  case j8_0 =>
    intro a' w' ob hb hbo hal hd
    have e0 : a'.tmps[2]?.getD undef = .pointer (some ⟨w.heap.size, 0, none⟩) := ev (slot_o2 hd 2 rfl rfl)
    have q : ∀ b o, b < w2.heap.size → w'.cell? ⟨b, o, none⟩ = w2.cell? ⟨b, o, none⟩ := (bcell hb).1
    go_simp
    exact ⟨_, ⟨rfl, Below.refl _ _⟩, rfl⟩
  case j8_1 =>
    intro a' w' ob hb hbo hal hd
    have e31 : a'.tmps[31]?.getD undef = .agg #[.int .i64 x0.1, u0] := ev (slot_w2 hd 31 (exO (.agg #[.int .i64 x0.1, u0])) rfl rfl)
    have r31 : tplT.Rd w2 (#[.int .i64 x0.1, u0] : Array Value).toList x0 := hx0.below H_w2
    have r31' := r31.below hb
    go_simp
    exact ⟨rfl, Below.refl _ _, (toTemplate_any w' r31' (by first | omega | (unfold szInts; omega))).mono fun e w'' ⟨cs, he, hf, hb⟩ => ⟨_, he, hb, rdAO_mk hf hbo⟩⟩
  case j8_2 =>
    intro a' w' ob hb hbo hal hd
    have e0 : a'.tmps[3]?.getD undef = .pointer (some ⟨w.heap.size + 1, 0, none⟩) := ev (slot_o2 hd 3 rfl rfl)
    have q : ∀ b o, b < w2.heap.size → w'.cell? ⟨b, o, none⟩ = w2.cell? ⟨b, o, none⟩ := (bcell hb).1
    go_simp
    exact ⟨_, ⟨rfl, Below.refl _ _⟩, rfl⟩
  case j8_3 =>
    intro a' w' ob hb hbo hal hd
    have e33 : a'.tmps[33]?.getD undef = .agg #[.int .i64 x1.1, u1] := ev (slot_w2 hd 33 (exO (.agg #[.int .i64 x1.1, u1])) rfl rfl)
    have r33 : relT.Rd w2 (#[.int .i64 x1.1, u1] : Array Value).toList x1 := hx1.below H_w2
    have r33' := r33.below hb
    go_simp
    exact ⟨rfl, Below.refl _ _, (toRel_any w' r33' (by first | omega | (unfold szInts; omega))).mono fun e w'' ⟨cs, he, hf, hb⟩ => ⟨_, he, hb, rdAO_mk hf hbo⟩⟩
  case j8_4 =>
    intro a' w' ob hb hbo hal hd
    have d32 := slot_w2 hd 32 (rdAO tplT x0) rfl rfl
    obtain ⟨cs32, fp32, e32, hr32, -⟩ := d32
    have rd32 : tplT.Rd w' cs32 x0 := ⟨_, hr32⟩
    have e32' := ev e32
    have d34 := slot_w2 hd 34 (rdAO relT x1) rfl rfl
    obtain ⟨cs34, fp34, e34, hr34, -⟩ := d34
    have rd34 : relT.Rd w' cs34 x1 := ⟨_, hr34⟩
    have e34' := ev e34
    go_simp
    exact ⟨rfl, Below.refl _ _, (specBreakingOp_any _ rd32 rd34).mono fun e w'' ⟨cs, u, mid, he, hm1, hm2, hx, hy, hb2⟩ => ⟨_, he, hb2, frT3O_mk hb.size hm1 hx hy hbo⟩⟩
  case j8_5 =>
    intro a' w' ob hb hbo hal hd
    have d35 := slot_w2 hd 35 (frT3O opT intsT w2.heap.size (boO x0 x1) (boT x0 x1) (.int .i64 (boC x0 x1))) rfl rfl
    obtain ⟨cs35, u35, e35, hf35, hg35⟩ := d35
    have e35' := ev e35
    go_simp
    exact ⟨_, ⟨rfl, Below.refl _ _⟩, cs35, u35, rfl, hf35, hg35⟩
  case j8_6 =>
    intro a' w' ob hb hbo hal hd
    have d30 := slot_w2 hd 30 (frT3O opT intsT w2.heap.size (boO x0 x1) (boT x0 x1) (.int .i64 (boC x0 x1))) rfl rfl
    obtain ⟨cs30, u30, e30, hf30, hg30⟩ := d30
    have e30' := ev e30
    go_simp
    exact ⟨_, ⟨rfl, Below.refl _ _⟩, hf30⟩
  case j8_7 =>
    intro a' w' ob hb hbo hal hd
    have d30 := slot_w2 hd 30 (frT3O opT intsT w2.heap.size (boO x0 x1) (boT x0 x1) (.int .i64 (boC x0 x1))) rfl rfl
    obtain ⟨cs30, u30, e30, hf30, hg30⟩ := d30
    have e30' := ev e30
    go_simp
    exact ⟨_, ⟨rfl, Below.refl _ _⟩, hg30⟩
  case j8_8 =>
    intro a' w' ob hb hbo hal hd
    have d30 := slot_w2 hd 30 (frT3O opT intsT w2.heap.size (boO x0 x1) (boT x0 x1) (.int .i64 (boC x0 x1))) rfl rfl
    obtain ⟨cs30, u30, e30, hf30, hg30⟩ := d30
    have e30' := ev e30
    go_simp
    exact ⟨_, ⟨rfl, Below.refl _ _⟩, rfl⟩
  case j8_9 =>
    intro a' w' ob hb hbo hal hd
    obtain rfl := hal rfl
    go_simp
    exact ⟨_, ⟨rfl, by simp, bA⟩, _, rfl, rfl, by simp, box2n⟩
  case j8_10 =>
    intro a' w' ob hb hbo hal hd
    obtain ⟨bb, rfl, e6, hbb, hcl⟩ := slot_w2 hd 6 (boxO 2) rfl rfl
    have e6' := ev e6
    have d36 := slot_w2 hd 36 (frAO opT w2.heap.size (boO x0 x1)) rfl rfl
    obtain ⟨cs36, fp36, e36, hr36, hn36, hg36, hu36, ho36⟩ := d36
    obtain ⟨u36, rfl, hr36', -⟩ := rd_pair hr36
    obtain ⟨ad36', cap36', rfl⟩ := rd_slice ⟨_, hr36'⟩
    have e36' := ev e36
    obtain ⟨⟨y0, c0⟩, f0⟩ := hcl 0 (by decide)
    obtain ⟨⟨y1, c1⟩, f1⟩ := hcl 1 (by decide)
    go_simp
    exact held2 c0 c1 hr36 hn36 hg36 hu36 ho36 _
  case j8_11 =>
    intro a' w' ob hb hbo hal hd
    have d37 := slot_w2 hd 37 (frSO intsT w2.heap.size (boT x0 x1)) rfl rfl
    obtain ⟨ad37', cap37', e37⟩ := frSO_val d37
    rw [e37] at d37
    have hf37 := d37
    have e37' := ev e37
    go_simp
    exact ⟨_, ⟨rfl, Below.refl _ _⟩, hf37⟩
  case j8_12 =>
    intro a' w' ob hb hbo hal hd
    have e0 : a'.tmps[38]?.getD undef = .int .i64 (boC x0 x1) := ev (slot_w2 hd 38 (exO (.int .i64 (boC x0 x1))) rfl rfl)
    go_simp
    exact ⟨_, ⟨rfl, Below.refl _ _⟩, rfl⟩
  intro vs8 w3 ob8 hb3 hbo8 H0
  obtain ⟨v8_0, _, rfl, p0, H1⟩ := HAll2_cons H0
  obtain ⟨v8_1, _, rfl, p1, H2⟩ := HAll2_cons H1
  obtain ⟨v8_2, _, rfl, p2, H3⟩ := HAll2_cons H2
  obtain ⟨v8_3, _, rfl, p3, H4⟩ := HAll2_cons H3
  obtain ⟨v8_4, _, rfl, p4, H5⟩ := HAll2_cons H4
  obtain ⟨v8_5, _, rfl, p5, H6⟩ := HAll2_cons H5
  obtain ⟨v8_6, _, rfl, p6, H7⟩ := HAll2_cons H6
  obtain ⟨v8_7, _, rfl, p7, H8⟩ := HAll2_cons H7
  obtain ⟨v8_8, _, rfl, p8, H9⟩ := HAll2_cons H8
  obtain ⟨v8_9, _, rfl, p9, H10⟩ := HAll2_cons H9
  obtain ⟨v8_10, _, rfl, p10, H11⟩ := HAll2_cons H10
  obtain ⟨v8_11, _, rfl, p11, H12⟩ := HAll2_cons H11
  obtain ⟨v8_12, _, rfl, p12, H13⟩ := HAll2_cons H12
  obtain rfl := HAll2_nil H13
  obtain rfl := id p0
  obtain rfl := id p2
  obtain rfl := id p8
  obtain rfl := id p12
  obtain ⟨bb13, rfl, rfl, hltbb13, -⟩ := id p9
  obtain ⟨_, cs, fp16, hob, hr1, hr2, hr3, hr4, -, cc15⟩ := id p10
  simp only [Option.some.injEq] at hob
  subst hob
  have hc14 : opT.Fr w2.heap.size w3 cs (boO x0 x1) := ⟨fp16, hr1, hr2, hr3, hr4⟩
  have hlobb13 : w2.heap.size ≤ bb13 := (hbo8 bb13 rfl).1
  obtain ⟨ad17, ad17', rfl⟩ := fr_pair hc14
  have f18 : w3.cell? ⟨bb13, 0, none⟩ = some (.int .i64 (boO x0 x1).1) := cc15 0 (by simp)
  have f19 : w3.cell? ⟨bb13, 1, none⟩ = some (.slice ad17 (boO x0 x1).2.length ad17') := cc15 1 (by simp)
  clear cc15 hr1 hr2 hr3 hr4
  obtain ⟨fp21, hq1, hq2, hq3, hq4, -⟩ := id p11
  have hc20 : intsT.Fr w2.heap.size w3 [v8_11] (boT x0 x1) := ⟨fp21, hq1, hq2, hq3, hq4⟩
  clear hq1 hq2 hq3 hq4
  clear p0 p1 p2 p3 p4 p5 p6 p7 p8 p9 p10 p11 p12 H0 H1 H2 H3 H4 H5 H6 H7 H8 H9 H10 H11 H12 H13
  have gw3 : Below w2.heap.size w2 w3 := bthen (by repeat (first | exact Below.refl _ _ | exact bA | assumption | refine Below.setCell ?_ (by first | omega | (simp; try omega)) _ | refine Below.alloc ?_ (by first | omega | (simp; try omega)) _ | refine Below.drew ?_ | refine bDN ?_ | refine bthen ?_ (by assumption))) hb3
  have sw3 : w2.heap.size + 0 ≤ w3.heap.size := by have := hb3.size; (try simp at this); omega
  have H_w3 : Below w.heap.size w w3 := bthen H_w2 gw3
  have f22 : w3.cell? ⟨w.heap.size, 0, none⟩ = some (.int .i64 x0.1) := (gw3.cell (by first | omega | (simp; try omega))).trans f7
  have f23 : w3.cell? ⟨w.heap.size, 1, none⟩ = some (u0) := (gw3.cell (by first | omega | (simp; try omega))).trans f8
  have f24 : w3.cell? ⟨w.heap.size + 1, 0, none⟩ = some (.int .i64 x1.1) := (gw3.cell (by first | omega | (simp; try omega))).trans f9
  have f25 : w3.cell? ⟨w.heap.size + 1, 1, none⟩ = some (u1) := (gw3.cell (by first | omega | (simp; try omega))).trans f10
  have z26 : w.heap.size < w3.heap.size := by omega
  have z27 : w.heap.size + 1 < w3.heap.size := by omega
  clear hb3 H_w2 f7 f8 f9 f10 z11 z12 gw3
  obtain ⟨ad28, ad28', rfl⟩ := fr_slice hc20
  have d29 : intsT.Fx w2.heap.size w3.heap.size w3 [.slice ad28 (boT x0 x1).length ad28'] (boT x0 x1) := (Ty.Fr.mono hc20 (by first | exact Nat.le_refl _ | (simp; try omega))).fx
  clear hc20
  have d31 : opT.Fx w2.heap.size w3.heap.size w3 [.int .i64 (boO x0 x1).1, .slice ad17 (boO x0 x1).2.length ad17'] (boO x0 x1) := hc14.fx
  clear hc14
  simp only [putAll, Act.put]
  go_simp
  go_wp2_with fail
  refine (toTemplate_any _ (hx0.below (by repeat (first | exact Below.refl _ _ | exact bA | assumption | refine Below.setCell ?_ (by first | omega | (simp; try omega)) _ | refine Below.alloc ?_ (by first | omega | (simp; try omega)) _ | refine Below.drew ?_ | refine bDN ?_ | refine bthen ?_ (by assumption)))) (by first | omega | (unfold szInts; omega))).mono ?_
  rintro e w4 ⟨cs, rfl, hc33, hb4⟩
  have gw4 : Below w3.heap.size w3 w4 := bthen (by repeat (first | exact Below.refl _ _ | exact bA | assumption | refine Below.setCell ?_ (by first | omega | (simp; try omega)) _ | refine Below.alloc ?_ (by first | omega | (simp; try omega)) _ | refine Below.drew ?_ | refine bDN ?_ | refine bthen ?_ (by assumption))) hb4
  have sw4 : w3.heap.size + 0 ≤ w4.heap.size := by have := hb4.size; (try simp at this); omega
  have H_w4 : Below w.heap.size w w4 := bthen H_w3 gw4
  have f34 : w4.cell? ⟨w.heap.size, 0, none⟩ = some (.int .i64 x0.1) := (gw4.cell (by first | omega | (simp; try omega))).trans f22
  have f35 : w4.cell? ⟨w.heap.size, 1, none⟩ = some (u0) := (gw4.cell (by first | omega | (simp; try omega))).trans f23
  have f36 : w4.cell? ⟨w.heap.size + 1, 0, none⟩ = some (.int .i64 x1.1) := (gw4.cell (by first | omega | (simp; try omega))).trans f24
  have f37 : w4.cell? ⟨w.heap.size + 1, 1, none⟩ = some (u1) := (gw4.cell (by first | omega | (simp; try omega))).trans f25
  have f38 : w4.cell? ⟨bb13, 0, none⟩ = some (.int .i64 (boO x0 x1).1) := (gw4.cell (by first | omega | (simp; try omega))).trans f18
  have f39 : w4.cell? ⟨bb13, 1, none⟩ = some (.slice ad17 (boO x0 x1).2.length ad17') := (gw4.cell (by first | omega | (simp; try omega))).trans f19
  have z40 : w.heap.size < w4.heap.size := by omega
  have z41 : w.heap.size + 1 < w4.heap.size := by omega
  have z42 : bb13 < w4.heap.size := by omega
  have d43 : intsT.Fx w2.heap.size w3.heap.size w4 [.slice ad28 (boT x0 x1).length ad28'] (boT x0 x1) := d29.below gw4
  have d44 : opT.Fx w2.heap.size w3.heap.size w4 [.int .i64 (boO x0 x1).1, .slice ad17 (boO x0 x1).2.length ad17'] (boO x0 x1) := d31.below gw4
  clear hb4 H_w3 f22 f23 f24 f25 f18 f19 d29 d31 z26 z27 gw4
  obtain ⟨ad45, ad45', rfl⟩ := fr_pair hc33
  have d46 : tplT.Fx w3.heap.size w4.heap.size w4 [.int .i64 x0.1, .slice ad45 x0.2.length ad45'] x0 := (Ty.Fr.mono hc33 (by first | exact Nat.le_refl _ | (simp; try omega))).fx
  clear hc33
  go_wp2_with fail
  refine (toRel_any _ (hx1.below (by repeat (first | exact Below.refl _ _ | exact bA | assumption | refine Below.setCell ?_ (by first | omega | (simp; try omega)) _ | refine Below.alloc ?_ (by first | omega | (simp; try omega)) _ | refine Below.drew ?_ | refine bDN ?_ | refine bthen ?_ (by assumption)))) (by first | omega | (unfold szInts; omega))).mono ?_
  rintro e w5 ⟨cs, rfl, hc48, hb5⟩
  have gw5 : Below w4.heap.size w4 w5 := bthen (by repeat (first | exact Below.refl _ _ | exact bA | assumption | refine Below.setCell ?_ (by first | omega | (simp; try omega)) _ | refine Below.alloc ?_ (by first | omega | (simp; try omega)) _ | refine Below.drew ?_ | refine bDN ?_ | refine bthen ?_ (by assumption))) hb5
  have sw5 : w4.heap.size + 1 ≤ w5.heap.size := by have := hb5.size; (try simp at this); omega
  have H_w5 : Below w.heap.size w w5 := bthen H_w4 gw5
  have f49 : w5.cell? ⟨w.heap.size, 0, none⟩ = some (.int .i64 x0.1) := (gw5.cell (by first | omega | (simp; try omega))).trans f34
  have f50 : w5.cell? ⟨w.heap.size, 1, none⟩ = some (u0) := (gw5.cell (by first | omega | (simp; try omega))).trans f35
  have f51 : w5.cell? ⟨w.heap.size + 1, 0, none⟩ = some (.int .i64 x1.1) := (gw5.cell (by first | omega | (simp; try omega))).trans f36
  have f52 : w5.cell? ⟨w.heap.size + 1, 1, none⟩ = some (u1) := (gw5.cell (by first | omega | (simp; try omega))).trans f37
  have f53 : w5.cell? ⟨bb13, 0, none⟩ = some (.int .i64 (boO x0 x1).1) := (gw5.cell (by first | omega | (simp; try omega))).trans f38
  have f54 : w5.cell? ⟨bb13, 1, none⟩ = some (.slice ad17 (boO x0 x1).2.length ad17') := (gw5.cell (by first | omega | (simp; try omega))).trans f39
  have f55 : w5.cell? ⟨w4.heap.size, 0, none⟩ = some (.int .i64 x0.1) := by rw [(bcell hb5).1 _ _ (by first | omega | (simp; try omega))]; first | (simp; done) | simp [go_sem]
  have f56 : w5.cell? ⟨w4.heap.size, 1, none⟩ = some (.slice ad45 x0.2.length ad45') := by rw [(bcell hb5).1 _ _ (by first | omega | (simp; try omega))]; first | (simp; done) | simp [go_sem]
  have z57 : w.heap.size < w5.heap.size := by omega
  have z58 : w.heap.size + 1 < w5.heap.size := by omega
  have z59 : bb13 < w5.heap.size := by omega
  have z60 : w4.heap.size < w5.heap.size := by omega
  have d61 : intsT.Fx w2.heap.size w3.heap.size w5 [.slice ad28 (boT x0 x1).length ad28'] (boT x0 x1) := d43.below gw5
  have d62 : opT.Fx w2.heap.size w3.heap.size w5 [.int .i64 (boO x0 x1).1, .slice ad17 (boO x0 x1).2.length ad17'] (boO x0 x1) := d44.below gw5
  have d63 : tplT.Fx w3.heap.size w4.heap.size w5 [.int .i64 x0.1, .slice ad45 x0.2.length ad45'] x0 := d46.below gw5
  clear hb5 H_w4 f34 f35 f36 f37 f38 f39 d43 d44 d46 z40 z41 z42 gw5
  obtain ⟨ad64, ad64', rfl⟩ := fr_pair hc48
  have d65 : relT.Fx (w4.heap.size + 1) w5.heap.size w5 [.int .i64 x1.1, .slice ad64 x1.2.length ad64'] x1 := (Ty.Fr.mono hc48 (by first | exact Nat.le_refl _ | (simp; try omega))).fx
  clear hc48
  go_wp2_with fail
  refine (BreakingOp_any _ (d63.rd.below (by repeat (first | exact Below.refl _ _ | exact bA | assumption | refine Below.setCell ?_ (by first | omega | (simp; try omega)) _ | refine Below.alloc ?_ (by first | omega | (simp; try omega)) _ | refine Below.drew ?_ | refine bDN ?_ | refine bthen ?_ (by assumption)))) (d65.rd.below (by repeat (first | exact Below.refl _ _ | exact bA | assumption | refine Below.setCell ?_ (by first | omega | (simp; try omega)) _ | refine Below.alloc ?_ (by first | omega | (simp; try omega)) _ | refine Below.drew ?_ | refine bDN ?_ | refine bthen ?_ (by assumption))))).mono ?_
  rintro e w6 ⟨cs, uu, mid71, rfl, hm69, hm70, hc67, hc68, hb6⟩
  have gw6 : Below w5.heap.size w5 w6 := bthen (by repeat (first | exact Below.refl _ _ | exact bA | assumption | refine Below.setCell ?_ (by first | omega | (simp; try omega)) _ | refine Below.alloc ?_ (by first | omega | (simp; try omega)) _ | refine Below.drew ?_ | refine bDN ?_ | refine bthen ?_ (by assumption))) hb6
  have sw6 : w5.heap.size + 1 ≤ w6.heap.size := by have := hb6.size; (try simp at this); omega
  have H_w6 : Below w.heap.size w w6 := bthen H_w5 gw6
  have f72 : w6.cell? ⟨w.heap.size, 0, none⟩ = some (.int .i64 x0.1) := (gw6.cell (by first | omega | (simp; try omega))).trans f49
  have f73 : w6.cell? ⟨w.heap.size, 1, none⟩ = some (u0) := (gw6.cell (by first | omega | (simp; try omega))).trans f50
  have f74 : w6.cell? ⟨w.heap.size + 1, 0, none⟩ = some (.int .i64 x1.1) := (gw6.cell (by first | omega | (simp; try omega))).trans f51
  have f75 : w6.cell? ⟨w.heap.size + 1, 1, none⟩ = some (u1) := (gw6.cell (by first | omega | (simp; try omega))).trans f52
  have f76 : w6.cell? ⟨bb13, 0, none⟩ = some (.int .i64 (boO x0 x1).1) := (gw6.cell (by first | omega | (simp; try omega))).trans f53
  have f77 : w6.cell? ⟨bb13, 1, none⟩ = some (.slice ad17 (boO x0 x1).2.length ad17') := (gw6.cell (by first | omega | (simp; try omega))).trans f54
  have f78 : w6.cell? ⟨w4.heap.size, 0, none⟩ = some (.int .i64 x0.1) := (gw6.cell (by first | omega | (simp; try omega))).trans f55
  have f79 : w6.cell? ⟨w4.heap.size, 1, none⟩ = some (.slice ad45 x0.2.length ad45') := (gw6.cell (by first | omega | (simp; try omega))).trans f56
  have f80 : w6.cell? ⟨w5.heap.size, 0, none⟩ = some (.int .i64 x1.1) := by rw [(bcell hb6).1 _ _ (by first | omega | (simp; try omega))]; first | (simp; done) | simp [go_sem]
  have f81 : w6.cell? ⟨w5.heap.size, 1, none⟩ = some (.slice ad64 x1.2.length ad64') := by rw [(bcell hb6).1 _ _ (by first | omega | (simp; try omega))]; first | (simp; done) | simp [go_sem]
  have z82 : w.heap.size < w6.heap.size := by omega
  have z83 : w.heap.size + 1 < w6.heap.size := by omega
  have z84 : bb13 < w6.heap.size := by omega
  have z85 : w4.heap.size < w6.heap.size := by omega
  have z86 : w5.heap.size < w6.heap.size := by omega
  have d87 : intsT.Fx w2.heap.size w3.heap.size w6 [.slice ad28 (boT x0 x1).length ad28'] (boT x0 x1) := d61.below gw6
  have d88 : opT.Fx w2.heap.size w3.heap.size w6 [.int .i64 (boO x0 x1).1, .slice ad17 (boO x0 x1).2.length ad17'] (boO x0 x1) := d62.below gw6
  have d89 : tplT.Fx w3.heap.size w4.heap.size w6 [.int .i64 x0.1, .slice ad45 x0.2.length ad45'] x0 := d63.below gw6
  have d90 : relT.Fx (w4.heap.size + 1) w5.heap.size w6 [.int .i64 x1.1, .slice ad64 x1.2.length ad64'] x1 := d65.below gw6
  clear hb6 H_w5 f49 f50 f51 f52 f53 f54 f55 f56 d61 d62 d63 d65 z57 z58 z59 z60 gw6
  have hm69a : (w5.heap.size + 1) ≤ mid71 := Nat.le_trans (by first | exact Nat.le_refl _ | (simp; try omega)) hm69
  obtain ⟨ad91, ad91', rfl⟩ := fx_pair hc67
  have d92 : opT.Fx (w5.heap.size + 1) mid71 w6 [.int .i64 (boO x0 x1).1, .slice ad91 (boO x0 x1).2.length ad91'] (boO x0 x1) := Ty.Fx.fx_lo hc67 (by first | exact Nat.le_refl _ | (simp; try omega))
  obtain ⟨ad94, ad94', rfl⟩ := fr_slice hc68
  have d95 : intsT.Fx mid71 w6.heap.size w6 [.slice ad94 (boT x0 x1).length ad94'] (boT x0 x1) := hc68.fx
  clear hc67 hc68 hm69
  go_wp2_with fail
  refine (eqOp_any _ (d92.rd.below (by repeat (first | exact Below.refl _ _ | exact bA | assumption | refine Below.setCell ?_ (by first | omega | (simp; try omega)) _ | refine Below.alloc ?_ (by first | omega | (simp; try omega)) _ | refine Below.drew ?_ | refine bDN ?_ | refine bthen ?_ (by assumption)))) (d88.rd.below (by repeat (first | exact Below.refl _ _ | exact bA | assumption | refine Below.setCell ?_ (by first | omega | (simp; try omega)) _ | refine Below.alloc ?_ (by first | omega | (simp; try omega)) _ | refine Below.drew ?_ | refine bDN ?_ | refine bthen ?_ (by assumption))))).mono ?_
  rintro e w7 ⟨rfl, hb7⟩
  have gw7 : Below w6.heap.size w6 w7 := bthen (by repeat (first | exact Below.refl _ _ | exact bA | assumption | refine Below.setCell ?_ (by first | omega | (simp; try omega)) _ | refine Below.alloc ?_ (by first | omega | (simp; try omega)) _ | refine Below.drew ?_ | refine bDN ?_ | refine bthen ?_ (by assumption))) hb7
  have sw7 : w6.heap.size + 1 ≤ w7.heap.size := by have := hb7.size; (try simp at this); omega
  have H_w7 : Below w.heap.size w w7 := bthen H_w6 gw7
  have f97 : w7.cell? ⟨w.heap.size, 0, none⟩ = some (.int .i64 x0.1) := (gw7.cell (by first | omega | (simp; try omega))).trans f72
  have f98 : w7.cell? ⟨w.heap.size, 1, none⟩ = some (u0) := (gw7.cell (by first | omega | (simp; try omega))).trans f73
  have f99 : w7.cell? ⟨w.heap.size + 1, 0, none⟩ = some (.int .i64 x1.1) := (gw7.cell (by first | omega | (simp; try omega))).trans f74
  have f100 : w7.cell? ⟨w.heap.size + 1, 1, none⟩ = some (u1) := (gw7.cell (by first | omega | (simp; try omega))).trans f75
  have f101 : w7.cell? ⟨bb13, 0, none⟩ = some (.int .i64 (boO x0 x1).1) := (gw7.cell (by first | omega | (simp; try omega))).trans f76
  have f102 : w7.cell? ⟨bb13, 1, none⟩ = some (.slice ad17 (boO x0 x1).2.length ad17') := (gw7.cell (by first | omega | (simp; try omega))).trans f77
  have f103 : w7.cell? ⟨w4.heap.size, 0, none⟩ = some (.int .i64 x0.1) := (gw7.cell (by first | omega | (simp; try omega))).trans f78
  have f104 : w7.cell? ⟨w4.heap.size, 1, none⟩ = some (.slice ad45 x0.2.length ad45') := (gw7.cell (by first | omega | (simp; try omega))).trans f79
  have f105 : w7.cell? ⟨w5.heap.size, 0, none⟩ = some (.int .i64 x1.1) := (gw7.cell (by first | omega | (simp; try omega))).trans f80
  have f106 : w7.cell? ⟨w5.heap.size, 1, none⟩ = some (.slice ad64 x1.2.length ad64') := (gw7.cell (by first | omega | (simp; try omega))).trans f81
  have f107 : w7.cell? ⟨w6.heap.size, 0, none⟩ = some (.int .i64 (boO x0 x1).1) := by rw [(bcell hb7).1 _ _ (by first | omega | (simp; try omega))]; first | (simp; done) | simp [go_sem]
  have f108 : w7.cell? ⟨w6.heap.size, 1, none⟩ = some (.slice ad91 (boO x0 x1).2.length ad91') := by rw [(bcell hb7).1 _ _ (by first | omega | (simp; try omega))]; first | (simp; done) | simp [go_sem]
  have z109 : w.heap.size < w7.heap.size := by omega
  have z110 : w.heap.size + 1 < w7.heap.size := by omega
  have z111 : bb13 < w7.heap.size := by omega
  have z112 : w4.heap.size < w7.heap.size := by omega
  have z113 : w5.heap.size < w7.heap.size := by omega
  have z114 : w6.heap.size < w7.heap.size := by omega
  have d115 : intsT.Fx w2.heap.size w3.heap.size w7 [.slice ad28 (boT x0 x1).length ad28'] (boT x0 x1) := d87.below gw7
  have d116 : opT.Fx w2.heap.size w3.heap.size w7 [.int .i64 (boO x0 x1).1, .slice ad17 (boO x0 x1).2.length ad17'] (boO x0 x1) := d88.below gw7
  have d117 : tplT.Fx w3.heap.size w4.heap.size w7 [.int .i64 x0.1, .slice ad45 x0.2.length ad45'] x0 := d89.below gw7
  have d118 : relT.Fx (w4.heap.size + 1) w5.heap.size w7 [.int .i64 x1.1, .slice ad64 x1.2.length ad64'] x1 := d90.below gw7
  have d119 : opT.Fx (w5.heap.size + 1) mid71 w7 [.int .i64 (boO x0 x1).1, .slice ad91 (boO x0 x1).2.length ad91'] (boO x0 x1) := d92.below gw7
  have d120 : intsT.Fx mid71 w6.heap.size w7 [.slice ad94 (boT x0 x1).length ad94'] (boT x0 x1) := d95.below gw7
  clear hb7 H_w6 f72 f73 f74 f75 f76 f77 f78 f79 f80 f81 d87 d88 d89 d90 d92 d95 z82 z83 z84 z85 z86 gw7
  rw [eqB_true rfl]
  go_wp2_with fail
  refine (eqInt64S_any _ (d120.rd.below (by repeat (first | exact Below.refl _ _ | exact bA | assumption | refine Below.setCell ?_ (by first | omega | (simp; try omega)) _ | refine Below.alloc ?_ (by first | omega | (simp; try omega)) _ | refine Below.drew ?_ | refine bDN ?_ | refine bthen ?_ (by assumption)))) (d115.rd.below (by repeat (first | exact Below.refl _ _ | exact bA | assumption | refine Below.setCell ?_ (by first | omega | (simp; try omega)) _ | refine Below.alloc ?_ (by first | omega | (simp; try omega)) _ | refine Below.drew ?_ | refine bDN ?_ | refine bthen ?_ (by assumption))))).mono ?_
  rintro e w8 ⟨rfl, hb8⟩
  have gw8 : Below w7.heap.size w7 w8 := bthen (by repeat (first | exact Below.refl _ _ | exact bA | assumption | refine Below.setCell ?_ (by first | omega | (simp; try omega)) _ | refine Below.alloc ?_ (by first | omega | (simp; try omega)) _ | refine Below.drew ?_ | refine bDN ?_ | refine bthen ?_ (by assumption))) hb8
  have sw8 : w7.heap.size + 0 ≤ w8.heap.size := by have := hb8.size; (try simp at this); omega
  have H_w8 : Below w.heap.size w w8 := bthen H_w7 gw8
  have f121 : w8.cell? ⟨w.heap.size, 0, none⟩ = some (.int .i64 x0.1) := (gw8.cell (by first | omega | (simp; try omega))).trans f97
  have f122 : w8.cell? ⟨w.heap.size, 1, none⟩ = some (u0) := (gw8.cell (by first | omega | (simp; try omega))).trans f98
  have f123 : w8.cell? ⟨w.heap.size + 1, 0, none⟩ = some (.int .i64 x1.1) := (gw8.cell (by first | omega | (simp; try omega))).trans f99
  have f124 : w8.cell? ⟨w.heap.size + 1, 1, none⟩ = some (u1) := (gw8.cell (by first | omega | (simp; try omega))).trans f100
  have f125 : w8.cell? ⟨bb13, 0, none⟩ = some (.int .i64 (boO x0 x1).1) := (gw8.cell (by first | omega | (simp; try omega))).trans f101
  have f126 : w8.cell? ⟨bb13, 1, none⟩ = some (.slice ad17 (boO x0 x1).2.length ad17') := (gw8.cell (by first | omega | (simp; try omega))).trans f102
  have f127 : w8.cell? ⟨w4.heap.size, 0, none⟩ = some (.int .i64 x0.1) := (gw8.cell (by first | omega | (simp; try omega))).trans f103
  have f128 : w8.cell? ⟨w4.heap.size, 1, none⟩ = some (.slice ad45 x0.2.length ad45') := (gw8.cell (by first | omega | (simp; try omega))).trans f104
  have f129 : w8.cell? ⟨w5.heap.size, 0, none⟩ = some (.int .i64 x1.1) := (gw8.cell (by first | omega | (simp; try omega))).trans f105
  have f130 : w8.cell? ⟨w5.heap.size, 1, none⟩ = some (.slice ad64 x1.2.length ad64') := (gw8.cell (by first | omega | (simp; try omega))).trans f106
  have f131 : w8.cell? ⟨w6.heap.size, 0, none⟩ = some (.int .i64 (boO x0 x1).1) := (gw8.cell (by first | omega | (simp; try omega))).trans f107
  have f132 : w8.cell? ⟨w6.heap.size, 1, none⟩ = some (.slice ad91 (boO x0 x1).2.length ad91') := (gw8.cell (by first | omega | (simp; try omega))).trans f108
  have z133 : w.heap.size < w8.heap.size := by omega
  have z134 : w.heap.size + 1 < w8.heap.size := by omega
  have z135 : bb13 < w8.heap.size := by omega
  have z136 : w4.heap.size < w8.heap.size := by omega
  have z137 : w5.heap.size < w8.heap.size := by omega
  have z138 : w6.heap.size < w8.heap.size := by omega
  have d139 : intsT.Fx w2.heap.size w3.heap.size w8 [.slice ad28 (boT x0 x1).length ad28'] (boT x0 x1) := d115.below gw8
  have d140 : opT.Fx w2.heap.size w3.heap.size w8 [.int .i64 (boO x0 x1).1, .slice ad17 (boO x0 x1).2.length ad17'] (boO x0 x1) := d116.below gw8
  have d141 : tplT.Fx w3.heap.size w4.heap.size w8 [.int .i64 x0.1, .slice ad45 x0.2.length ad45'] x0 := d117.below gw8
  have d142 : relT.Fx (w4.heap.size + 1) w5.heap.size w8 [.int .i64 x1.1, .slice ad64 x1.2.length ad64'] x1 := d118.below gw8
  have d143 : opT.Fx (w5.heap.size + 1) mid71 w8 [.int .i64 (boO x0 x1).1, .slice ad91 (boO x0 x1).2.length ad91'] (boO x0 x1) := d119.below gw8
  have d144 : intsT.Fx mid71 w6.heap.size w8 [.slice ad94 (boT x0 x1).length ad94'] (boT x0 x1) := d120.below gw8
  clear hb8 H_w7 f97 f98 f99 f100 f101 f102 f103 f104 f105 f106 f107 f108 d115 d116 d117 d118 d119 d120 z109 z110 z111 z112 z113 z114 gw8
  rw [eqB_true rfl]
  go_wp2_with fail
  refine wp_region_loose [exV (.agg #[.int .i64 x0.1, .slice ad45 x0.2.length ad45']), exV (.agg #[.int .i64 x0.1, u0]), rdA tplT x0, exV (.bool true), exV (.bool false)] (by kernel_rfl) (by kernel_rfl) ⟨st_exV, st_exV, st_rdA, st_exV, st_exV, trivial⟩ ⟨?j14_0, ?j14_1, ?j14_2, ?j14_3, ?j14_4, trivial⟩ ?hQ14
  case j14_0 =>
    intro a' w' hb hd
    have e0 : a'.tmps[9]?.getD undef = .pointer (some ⟨w4.heap.size, 0, none⟩) := ev (slot_o hd 9 rfl rfl)
    have q : ∀ b o, b < w8.heap.size → w'.cell? ⟨b, o, none⟩ = w8.cell? ⟨b, o, none⟩ := (bcell hb).1
    go_simp
    exact ⟨Below.refl _ _, rfl⟩
  case j14_1 =>
    intro a' w' hb hd
    have e0 : a'.tmps[2]?.getD undef = .pointer (some ⟨w.heap.size, 0, none⟩) := ev (slot_o hd 2 rfl rfl)
    have q : ∀ b o, b < w8.heap.size → w'.cell? ⟨b, o, none⟩ = w8.cell? ⟨b, o, none⟩ := (bcell hb).1
    go_simp
    exact ⟨Below.refl _ _, rfl⟩
  case j14_2 =>
    intro a' w' hb hd
    have e66 : a'.tmps[66]?.getD undef = .agg #[.int .i64 x0.1, u0] := ev (slot_w hd 66 (exV (.agg #[.int .i64 x0.1, u0])) rfl rfl)
    have r66 : tplT.Rd w8 (#[.int .i64 x0.1, u0] : Array Value).toList x0 := hx0.below H_w8
    have r66' := r66.below hb
    go_simp
    exact ⟨Below.refl _ _, (toTemplate_any w' r66' (by first | omega | (unfold szInts; omega))).mono fun e w'' ⟨cs, he, hf, hb⟩ => ⟨_, he, hb, cs, rfl, hf.rd⟩⟩
  case j14_3 =>
    intro a' w' hb hd
    have e65 : a'.tmps[65]?.getD undef = .agg #[.int .i64 x0.1, .slice ad45 x0.2.length ad45'] := ev (slot_w hd 65 (exV (.agg #[.int .i64 x0.1, .slice ad45 x0.2.length ad45'])) rfl rfl)
    have r65 : tplT.Rd w8 (#[.int .i64 x0.1, .slice ad45 x0.2.length ad45'] : Array Value).toList x0 := d141.rd
    have r65' := r65.below hb
    have d67 := slot_w hd 67 (rdA tplT x0) rfl rfl
    obtain ⟨cs67, e67, hf67⟩ := d67
    have e67' := ev e67
    go_simp
    exact ⟨Below.refl _ _, (eqTemplate_any w' r65' hf67).mono fun e w'' ⟨he, hb⟩ => ⟨_, he, hb, exV_eqB⟩⟩
  case j14_4 =>
    intro a' w' hb hd
    have e0 : a'.tmps[68]?.getD undef = .bool true := ev (slot_w hd 68 (exV (.bool true)) rfl rfl)
    go_simp
    exact ⟨Below.refl _ _, rfl⟩
  intro vs14 w9 hb9 H0
  obtain ⟨v14_0, _, rfl, p0, H1⟩ := HAll_cons H0
  obtain ⟨v14_1, _, rfl, p1, H2⟩ := HAll_cons H1
  obtain ⟨v14_2, _, rfl, p2, H3⟩ := HAll_cons H2
  obtain ⟨v14_3, _, rfl, p3, H4⟩ := HAll_cons H3
  obtain ⟨v14_4, _, rfl, p4, H5⟩ := HAll_cons H4
  obtain rfl := HAll_nil H5
  obtain rfl := p0 rfl
  obtain rfl := p1 rfl
  obtain rfl := p3 rfl
  obtain rfl := p4 rfl
  clear p0 p1 p2 p3 p4 H0 H1 H2 H3 H4 H5
  have gw9 : Below w8.heap.size w8 w9 := bthen (by repeat (first | exact Below.refl _ _ | exact bA | assumption | refine Below.setCell ?_ (by first | omega | (simp; try omega)) _ | refine Below.alloc ?_ (by first | omega | (simp; try omega)) _ | refine Below.drew ?_ | refine bDN ?_ | refine bthen ?_ (by assumption))) hb9
  have sw9 : w8.heap.size + 0 ≤ w9.heap.size := by have := hb9.size; (try simp at this); omega
  have H_w9 : Below w.heap.size w w9 := bthen H_w8 gw9
  have f145 : w9.cell? ⟨w.heap.size, 0, none⟩ = some (.int .i64 x0.1) := (gw9.cell (by first | omega | (simp; try omega))).trans f121
  have f146 : w9.cell? ⟨w.heap.size, 1, none⟩ = some (u0) := (gw9.cell (by first | omega | (simp; try omega))).trans f122
  have f147 : w9.cell? ⟨w.heap.size + 1, 0, none⟩ = some (.int .i64 x1.1) := (gw9.cell (by first | omega | (simp; try omega))).trans f123
  have f148 : w9.cell? ⟨w.heap.size + 1, 1, none⟩ = some (u1) := (gw9.cell (by first | omega | (simp; try omega))).trans f124
  have f149 : w9.cell? ⟨bb13, 0, none⟩ = some (.int .i64 (boO x0 x1).1) := (gw9.cell (by first | omega | (simp; try omega))).trans f125
  have f150 : w9.cell? ⟨bb13, 1, none⟩ = some (.slice ad17 (boO x0 x1).2.length ad17') := (gw9.cell (by first | omega | (simp; try omega))).trans f126
  have f151 : w9.cell? ⟨w4.heap.size, 0, none⟩ = some (.int .i64 x0.1) := (gw9.cell (by first | omega | (simp; try omega))).trans f127
  have f152 : w9.cell? ⟨w4.heap.size, 1, none⟩ = some (.slice ad45 x0.2.length ad45') := (gw9.cell (by first | omega | (simp; try omega))).trans f128
  have f153 : w9.cell? ⟨w5.heap.size, 0, none⟩ = some (.int .i64 x1.1) := (gw9.cell (by first | omega | (simp; try omega))).trans f129
  have f154 : w9.cell? ⟨w5.heap.size, 1, none⟩ = some (.slice ad64 x1.2.length ad64') := (gw9.cell (by first | omega | (simp; try omega))).trans f130
  have f155 : w9.cell? ⟨w6.heap.size, 0, none⟩ = some (.int .i64 (boO x0 x1).1) := (gw9.cell (by first | omega | (simp; try omega))).trans f131
  have f156 : w9.cell? ⟨w6.heap.size, 1, none⟩ = some (.slice ad91 (boO x0 x1).2.length ad91') := (gw9.cell (by first | omega | (simp; try omega))).trans f132
  have z157 : w.heap.size < w9.heap.size := by omega
  have z158 : w.heap.size + 1 < w9.heap.size := by omega
  have z159 : bb13 < w9.heap.size := by omega
  have z160 : w4.heap.size < w9.heap.size := by omega
  have z161 : w5.heap.size < w9.heap.size := by omega
  have z162 : w6.heap.size < w9.heap.size := by omega
  have d163 : intsT.Fx w2.heap.size w3.heap.size w9 [.slice ad28 (boT x0 x1).length ad28'] (boT x0 x1) := d139.below gw9
  have d164 : opT.Fx w2.heap.size w3.heap.size w9 [.int .i64 (boO x0 x1).1, .slice ad17 (boO x0 x1).2.length ad17'] (boO x0 x1) := d140.below gw9
  have d165 : tplT.Fx w3.heap.size w4.heap.size w9 [.int .i64 x0.1, .slice ad45 x0.2.length ad45'] x0 := d141.below gw9
  have d166 : relT.Fx (w4.heap.size + 1) w5.heap.size w9 [.int .i64 x1.1, .slice ad64 x1.2.length ad64'] x1 := d142.below gw9
  have d167 : opT.Fx (w5.heap.size + 1) mid71 w9 [.int .i64 (boO x0 x1).1, .slice ad91 (boO x0 x1).2.length ad91'] (boO x0 x1) := d143.below gw9
  have d168 : intsT.Fx mid71 w6.heap.size w9 [.slice ad94 (boT x0 x1).length ad94'] (boT x0 x1) := d144.below gw9
  clear hb9 H_w8 f121 f122 f123 f124 f125 f126 f127 f128 f129 f130 f131 f132 d139 d140 d141 d142 d143 d144 z133 z134 z135 z136 z137 z138 gw9
  simp only [putAll, Act.put]
  go_simp
  go_wp2_with fail
  refine wp_region_loose [exV (.agg #[.int .i64 x1.1, .slice ad64 x1.2.length ad64']), exV (.agg #[.int .i64 x1.1, u1]), rdA relT x1, exV (.bool true), exV (.bool false)] (by kernel_rfl) (by kernel_rfl) ⟨st_exV, st_exV, st_rdA, st_exV, st_exV, trivial⟩ ⟨?j16_0, ?j16_1, ?j16_2, ?j16_3, ?j16_4, trivial⟩ ?hQ16
  case j16_0 =>
    intro a' w' hb hd
    have e0 : a'.tmps[10]?.getD undef = .pointer (some ⟨w5.heap.size, 0, none⟩) := ev (slot_o hd 10 rfl rfl)
    have q : ∀ b o, b < w9.heap.size → w'.cell? ⟨b, o, none⟩ = w9.cell? ⟨b, o, none⟩ := (bcell hb).1
    go_simp
    exact ⟨Below.refl _ _, rfl⟩
  case j16_1 =>
    intro a' w' hb hd
    have e0 : a'.tmps[3]?.getD undef = .pointer (some ⟨w.heap.size + 1, 0, none⟩) := ev (slot_o hd 3 rfl rfl)
    have q : ∀ b o, b < w9.heap.size → w'.cell? ⟨b, o, none⟩ = w9.cell? ⟨b, o, none⟩ := (bcell hb).1
    go_simp
    exact ⟨Below.refl _ _, rfl⟩
  case j16_2 =>
    intro a' w' hb hd
    have e71 : a'.tmps[71]?.getD undef = .agg #[.int .i64 x1.1, u1] := ev (slot_w hd 71 (exV (.agg #[.int .i64 x1.1, u1])) rfl rfl)
    have r71 : relT.Rd w9 (#[.int .i64 x1.1, u1] : Array Value).toList x1 := hx1.below H_w9
    have r71' := r71.below hb
    go_simp
    exact ⟨Below.refl _ _, (toRel_any w' r71' (by first | omega | (unfold szInts; omega))).mono fun e w'' ⟨cs, he, hf, hb⟩ => ⟨_, he, hb, cs, rfl, hf.rd⟩⟩
  case j16_3 =>
    intro a' w' hb hd
    have e70 : a'.tmps[70]?.getD undef = .agg #[.int .i64 x1.1, .slice ad64 x1.2.length ad64'] := ev (slot_w hd 70 (exV (.agg #[.int .i64 x1.1, .slice ad64 x1.2.length ad64'])) rfl rfl)
    have r70 : relT.Rd w9 (#[.int .i64 x1.1, .slice ad64 x1.2.length ad64'] : Array Value).toList x1 := d166.rd
    have r70' := r70.below hb
    have d72 := slot_w hd 72 (rdA relT x1) rfl rfl
    obtain ⟨cs72, e72, hf72⟩ := d72
    have e72' := ev e72
    go_simp
    exact ⟨Below.refl _ _, (eqRel_any w' r70' hf72).mono fun e w'' ⟨he, hb⟩ => ⟨_, he, hb, exV_eqB⟩⟩
  case j16_4 =>
    intro a' w' hb hd
    have e0 : a'.tmps[73]?.getD undef = .bool true := ev (slot_w hd 73 (exV (.bool true)) rfl rfl)
    go_simp
    exact ⟨Below.refl _ _, rfl⟩
  intro vs16 w10 hb10 H0
  obtain ⟨v16_0, _, rfl, p0, H1⟩ := HAll_cons H0
  obtain ⟨v16_1, _, rfl, p1, H2⟩ := HAll_cons H1
  obtain ⟨v16_2, _, rfl, p2, H3⟩ := HAll_cons H2
  obtain ⟨v16_3, _, rfl, p3, H4⟩ := HAll_cons H3
  obtain ⟨v16_4, _, rfl, p4, H5⟩ := HAll_cons H4
  obtain rfl := HAll_nil H5
  obtain rfl := p0 rfl
  obtain rfl := p1 rfl
  obtain rfl := p3 rfl
  obtain rfl := p4 rfl
  clear p0 p1 p2 p3 p4 H0 H1 H2 H3 H4 H5
  have gw10 : Below w9.heap.size w9 w10 := bthen (by repeat (first | exact Below.refl _ _ | exact bA | assumption | refine Below.setCell ?_ (by first | omega | (simp; try omega)) _ | refine Below.alloc ?_ (by first | omega | (simp; try omega)) _ | refine Below.drew ?_ | refine bDN ?_ | refine bthen ?_ (by assumption))) hb10
  have sw10 : w9.heap.size + 0 ≤ w10.heap.size := by have := hb10.size; (try simp at this); omega
  have H_w10 : Below w.heap.size w w10 := bthen H_w9 gw10
  have f169 : w10.cell? ⟨w.heap.size, 0, none⟩ = some (.int .i64 x0.1) := (gw10.cell (by first | omega | (simp; try omega))).trans f145
  have f170 : w10.cell? ⟨w.heap.size, 1, none⟩ = some (u0) := (gw10.cell (by first | omega | (simp; try omega))).trans f146
  have f171 : w10.cell? ⟨w.heap.size + 1, 0, none⟩ = some (.int .i64 x1.1) := (gw10.cell (by first | omega | (simp; try omega))).trans f147
  have f172 : w10.cell? ⟨w.heap.size + 1, 1, none⟩ = some (u1) := (gw10.cell (by first | omega | (simp; try omega))).trans f148
  have f173 : w10.cell? ⟨bb13, 0, none⟩ = some (.int .i64 (boO x0 x1).1) := (gw10.cell (by first | omega | (simp; try omega))).trans f149
  have f174 : w10.cell? ⟨bb13, 1, none⟩ = some (.slice ad17 (boO x0 x1).2.length ad17') := (gw10.cell (by first | omega | (simp; try omega))).trans f150
  have f175 : w10.cell? ⟨w4.heap.size, 0, none⟩ = some (.int .i64 x0.1) := (gw10.cell (by first | omega | (simp; try omega))).trans f151
  have f176 : w10.cell? ⟨w4.heap.size, 1, none⟩ = some (.slice ad45 x0.2.length ad45') := (gw10.cell (by first | omega | (simp; try omega))).trans f152
  have f177 : w10.cell? ⟨w5.heap.size, 0, none⟩ = some (.int .i64 x1.1) := (gw10.cell (by first | omega | (simp; try omega))).trans f153
  have f178 : w10.cell? ⟨w5.heap.size, 1, none⟩ = some (.slice ad64 x1.2.length ad64') := (gw10.cell (by first | omega | (simp; try omega))).trans f154
  have f179 : w10.cell? ⟨w6.heap.size, 0, none⟩ = some (.int .i64 (boO x0 x1).1) := (gw10.cell (by first | omega | (simp; try omega))).trans f155
  have f180 : w10.cell? ⟨w6.heap.size, 1, none⟩ = some (.slice ad91 (boO x0 x1).2.length ad91') := (gw10.cell (by first | omega | (simp; try omega))).trans f156
  have z181 : w.heap.size < w10.heap.size := by omega
  have z182 : w.heap.size + 1 < w10.heap.size := by omega
  have z183 : bb13 < w10.heap.size := by omega
  have z184 : w4.heap.size < w10.heap.size := by omega
  have z185 : w5.heap.size < w10.heap.size := by omega
  have z186 : w6.heap.size < w10.heap.size := by omega
  have d187 : intsT.Fx w2.heap.size w3.heap.size w10 [.slice ad28 (boT x0 x1).length ad28'] (boT x0 x1) := d163.below gw10
  have d188 : opT.Fx w2.heap.size w3.heap.size w10 [.int .i64 (boO x0 x1).1, .slice ad17 (boO x0 x1).2.length ad17'] (boO x0 x1) := d164.below gw10
  have d189 : tplT.Fx w3.heap.size w4.heap.size w10 [.int .i64 x0.1, .slice ad45 x0.2.length ad45'] x0 := d165.below gw10
  have d190 : relT.Fx (w4.heap.size + 1) w5.heap.size w10 [.int .i64 x1.1, .slice ad64 x1.2.length ad64'] x1 := d166.below gw10
  have d191 : opT.Fx (w5.heap.size + 1) mid71 w10 [.int .i64 (boO x0 x1).1, .slice ad91 (boO x0 x1).2.length ad91'] (boO x0 x1) := d167.below gw10
  have d192 : intsT.Fx mid71 w6.heap.size w10 [.slice ad94 (boT x0 x1).length ad94'] (boT x0 x1) := d168.below gw10
  clear hb10 H_w9 f145 f146 f147 f148 f149 f150 f151 f152 f153 f154 f155 f156 d163 d164 d165 d166 d167 d168 z157 z158 z159 z160 z161 z162 gw10
  simp only [putAll, Act.put]
  go_simp
  go_wp2_with fail
  refine (markTemplate_fx _ d189 _ (by omega) (by omega)).mono ?_
  rintro e w11 ⟨rfl, hb11, d193⟩
  clear d189
  have sw11 : w10.heap.size ≤ w11.heap.size := hb11.size
  have H_w11 : Below w.heap.size w w11 := below_tch H_w10 hb11 (by omega) (by omega)
  have f194 : w11.cell? ⟨w.heap.size, 0, none⟩ = some (.int .i64 x0.1) := (hb11.cell (by omega) (by omega)).trans f169
  have f195 : w11.cell? ⟨w.heap.size, 1, none⟩ = some (u0) := (hb11.cell (by omega) (by omega)).trans f170
  have f196 : w11.cell? ⟨w.heap.size + 1, 0, none⟩ = some (.int .i64 x1.1) := (hb11.cell (by omega) (by omega)).trans f171
  have f197 : w11.cell? ⟨w.heap.size + 1, 1, none⟩ = some (u1) := (hb11.cell (by omega) (by omega)).trans f172
  have f198 : w11.cell? ⟨bb13, 0, none⟩ = some (.int .i64 (boO x0 x1).1) := (hb11.cell (by omega) (by omega)).trans f173
  have f199 : w11.cell? ⟨bb13, 1, none⟩ = some (.slice ad17 (boO x0 x1).2.length ad17') := (hb11.cell (by omega) (by omega)).trans f174
  have f200 : w11.cell? ⟨w4.heap.size, 0, none⟩ = some (.int .i64 x0.1) := (hb11.cell (by omega) (by omega)).trans f175
  have f201 : w11.cell? ⟨w4.heap.size, 1, none⟩ = some (.slice ad45 x0.2.length ad45') := (hb11.cell (by omega) (by omega)).trans f176
  have f202 : w11.cell? ⟨w5.heap.size, 0, none⟩ = some (.int .i64 x1.1) := (hb11.cell (by omega) (by omega)).trans f177
  have f203 : w11.cell? ⟨w5.heap.size, 1, none⟩ = some (.slice ad64 x1.2.length ad64') := (hb11.cell (by omega) (by omega)).trans f178
  have f204 : w11.cell? ⟨w6.heap.size, 0, none⟩ = some (.int .i64 (boO x0 x1).1) := (hb11.cell (by omega) (by omega)).trans f179
  have f205 : w11.cell? ⟨w6.heap.size, 1, none⟩ = some (.slice ad91 (boO x0 x1).2.length ad91') := (hb11.cell (by omega) (by omega)).trans f180
  have z206 : w.heap.size < w11.heap.size := by omega
  have z207 : w.heap.size + 1 < w11.heap.size := by omega
  have z208 : bb13 < w11.heap.size := by omega
  have z209 : w4.heap.size < w11.heap.size := by omega
  have z210 : w5.heap.size < w11.heap.size := by omega
  have z211 : w6.heap.size < w11.heap.size := by omega
  have d212 : intsT.Fx w2.heap.size w3.heap.size w11 [.slice ad28 (boT x0 x1).length ad28'] (boT x0 x1) := d187.tch hb11 (by omega)
  have d213 : opT.Fx w2.heap.size w3.heap.size w11 [.int .i64 (boO x0 x1).1, .slice ad17 (boO x0 x1).2.length ad17'] (boO x0 x1) := d188.tch hb11 (by omega)
  have d214 : relT.Fx (w4.heap.size + 1) w5.heap.size w11 [.int .i64 x1.1, .slice ad64 x1.2.length ad64'] x1 := d190.tch hb11 (by omega)
  have d215 : opT.Fx (w5.heap.size + 1) mid71 w11 [.int .i64 (boO x0 x1).1, .slice ad91 (boO x0 x1).2.length ad91'] (boO x0 x1) := d191.tch hb11 (by omega)
  have d216 : intsT.Fx mid71 w6.heap.size w11 [.slice ad94 (boT x0 x1).length ad94'] (boT x0 x1) := d192.tch hb11 (by omega)
  clear hb11 H_w10 f169 f170 f171 f172 f173 f174 f175 f176 f177 f178 f179 f180 d187 d188 d190 d191 d192 z181 z182 z183 z184 z185 z186
  have hk217 : 0 ≤ (1 + cntTpl x0) := by omega
  go_wp2_with fail
  refine (markRel_fx _ d214 _ (by omega) (by omega)).mono ?_
  rintro e w12 ⟨rfl, hb12, d218⟩
  clear d214
  have sw12 : w11.heap.size ≤ w12.heap.size := hb12.size
  have H_w12 : Below w.heap.size w w12 := below_tch H_w11 hb12 (by omega) (by omega)
  have f219 : w12.cell? ⟨w.heap.size, 0, none⟩ = some (.int .i64 x0.1) := (hb12.cell (by omega) (by omega)).trans f194
  have f220 : w12.cell? ⟨w.heap.size, 1, none⟩ = some (u0) := (hb12.cell (by omega) (by omega)).trans f195
  have f221 : w12.cell? ⟨w.heap.size + 1, 0, none⟩ = some (.int .i64 x1.1) := (hb12.cell (by omega) (by omega)).trans f196
  have f222 : w12.cell? ⟨w.heap.size + 1, 1, none⟩ = some (u1) := (hb12.cell (by omega) (by omega)).trans f197
  have f223 : w12.cell? ⟨bb13, 0, none⟩ = some (.int .i64 (boO x0 x1).1) := (hb12.cell (by omega) (by omega)).trans f198
  have f224 : w12.cell? ⟨bb13, 1, none⟩ = some (.slice ad17 (boO x0 x1).2.length ad17') := (hb12.cell (by omega) (by omega)).trans f199
  have f225 : w12.cell? ⟨w4.heap.size, 0, none⟩ = some (.int .i64 x0.1) := (hb12.cell (by omega) (by omega)).trans f200
  have f226 : w12.cell? ⟨w4.heap.size, 1, none⟩ = some (.slice ad45 x0.2.length ad45') := (hb12.cell (by omega) (by omega)).trans f201
  have f227 : w12.cell? ⟨w5.heap.size, 0, none⟩ = some (.int .i64 x1.1) := (hb12.cell (by omega) (by omega)).trans f202
  have f228 : w12.cell? ⟨w5.heap.size, 1, none⟩ = some (.slice ad64 x1.2.length ad64') := (hb12.cell (by omega) (by omega)).trans f203
  have f229 : w12.cell? ⟨w6.heap.size, 0, none⟩ = some (.int .i64 (boO x0 x1).1) := (hb12.cell (by omega) (by omega)).trans f204
  have f230 : w12.cell? ⟨w6.heap.size, 1, none⟩ = some (.slice ad91 (boO x0 x1).2.length ad91') := (hb12.cell (by omega) (by omega)).trans f205
  have z231 : w.heap.size < w12.heap.size := by omega
  have z232 : w.heap.size + 1 < w12.heap.size := by omega
  have z233 : bb13 < w12.heap.size := by omega
  have z234 : w4.heap.size < w12.heap.size := by omega
  have z235 : w5.heap.size < w12.heap.size := by omega
  have z236 : w6.heap.size < w12.heap.size := by omega
  have d237 : intsT.Fx w2.heap.size w3.heap.size w12 [.slice ad28 (boT x0 x1).length ad28'] (boT x0 x1) := d212.tch hb12 (by omega)
  have d238 : opT.Fx w2.heap.size w3.heap.size w12 [.int .i64 (boO x0 x1).1, .slice ad17 (boO x0 x1).2.length ad17'] (boO x0 x1) := d213.tch hb12 (by omega)
  have d239 : tplT.Fx w3.heap.size w4.heap.size w12 [.int .i64 x0.1, .slice ad45 x0.2.length ad45'] (mkTpl 1 x0) := d193.tch hb12 (by omega)
  have d240 : opT.Fx (w5.heap.size + 1) mid71 w12 [.int .i64 (boO x0 x1).1, .slice ad91 (boO x0 x1).2.length ad91'] (boO x0 x1) := d215.tch hb12 (by omega)
  have d241 : intsT.Fx mid71 w6.heap.size w12 [.slice ad94 (boT x0 x1).length ad94'] (boT x0 x1) := d216.tch hb12 (by omega)
  clear hb12 H_w11 f194 f195 f196 f197 f198 f199 f200 f201 f202 f203 f204 f205 d212 d213 d193 d215 d216 z206 z207 z208 z209 z210 z211
  have hk242 : 0 ≤ ((1 + cntTpl x0) + cntRel x1) := by omega
  go_wp2_with fail
  refine (eqOp_any _ (d240.rd.below (by repeat (first | exact Below.refl _ _ | exact bA | assumption | refine Below.setCell ?_ (by first | omega | (simp; try omega)) _ | refine Below.alloc ?_ (by first | omega | (simp; try omega)) _ | refine Below.drew ?_ | refine bDN ?_ | refine bthen ?_ (by assumption)))) (d238.rd.below (by repeat (first | exact Below.refl _ _ | exact bA | assumption | refine Below.setCell ?_ (by first | omega | (simp; try omega)) _ | refine Below.alloc ?_ (by first | omega | (simp; try omega)) _ | refine Below.drew ?_ | refine bDN ?_ | refine bthen ?_ (by assumption))))).mono ?_
  rintro e w13 ⟨rfl, hb13⟩
  have gw13 : Below w12.heap.size w12 w13 := bthen (by repeat (first | exact Below.refl _ _ | exact bA | assumption | refine Below.setCell ?_ (by first | omega | (simp; try omega)) _ | refine Below.alloc ?_ (by first | omega | (simp; try omega)) _ | refine Below.drew ?_ | refine bDN ?_ | refine bthen ?_ (by assumption))) hb13
  have sw13 : w12.heap.size + 0 ≤ w13.heap.size := by have := hb13.size; (try simp at this); omega
  have H_w13 : Below w.heap.size w w13 := bthen H_w12 gw13
  have f243 : w13.cell? ⟨w.heap.size, 0, none⟩ = some (.int .i64 x0.1) := (gw13.cell (by first | omega | (simp; try omega))).trans f219
  have f244 : w13.cell? ⟨w.heap.size, 1, none⟩ = some (u0) := (gw13.cell (by first | omega | (simp; try omega))).trans f220
  have f245 : w13.cell? ⟨w.heap.size + 1, 0, none⟩ = some (.int .i64 x1.1) := (gw13.cell (by first | omega | (simp; try omega))).trans f221
  have f246 : w13.cell? ⟨w.heap.size + 1, 1, none⟩ = some (u1) := (gw13.cell (by first | omega | (simp; try omega))).trans f222
  have f247 : w13.cell? ⟨bb13, 0, none⟩ = some (.int .i64 (boO x0 x1).1) := (gw13.cell (by first | omega | (simp; try omega))).trans f223
  have f248 : w13.cell? ⟨bb13, 1, none⟩ = some (.slice ad17 (boO x0 x1).2.length ad17') := (gw13.cell (by first | omega | (simp; try omega))).trans f224
  have f249 : w13.cell? ⟨w4.heap.size, 0, none⟩ = some (.int .i64 x0.1) := (gw13.cell (by first | omega | (simp; try omega))).trans f225
  have f250 : w13.cell? ⟨w4.heap.size, 1, none⟩ = some (.slice ad45 x0.2.length ad45') := (gw13.cell (by first | omega | (simp; try omega))).trans f226
  have f251 : w13.cell? ⟨w5.heap.size, 0, none⟩ = some (.int .i64 x1.1) := (gw13.cell (by first | omega | (simp; try omega))).trans f227
  have f252 : w13.cell? ⟨w5.heap.size, 1, none⟩ = some (.slice ad64 x1.2.length ad64') := (gw13.cell (by first | omega | (simp; try omega))).trans f228
  have f253 : w13.cell? ⟨w6.heap.size, 0, none⟩ = some (.int .i64 (boO x0 x1).1) := (gw13.cell (by first | omega | (simp; try omega))).trans f229
  have f254 : w13.cell? ⟨w6.heap.size, 1, none⟩ = some (.slice ad91 (boO x0 x1).2.length ad91') := (gw13.cell (by first | omega | (simp; try omega))).trans f230
  have z255 : w.heap.size < w13.heap.size := by omega
  have z256 : w.heap.size + 1 < w13.heap.size := by omega
  have z257 : bb13 < w13.heap.size := by omega
  have z258 : w4.heap.size < w13.heap.size := by omega
  have z259 : w5.heap.size < w13.heap.size := by omega
  have z260 : w6.heap.size < w13.heap.size := by omega
  have d261 : intsT.Fx w2.heap.size w3.heap.size w13 [.slice ad28 (boT x0 x1).length ad28'] (boT x0 x1) := d237.below gw13
  have d262 : opT.Fx w2.heap.size w3.heap.size w13 [.int .i64 (boO x0 x1).1, .slice ad17 (boO x0 x1).2.length ad17'] (boO x0 x1) := d238.below gw13
  have d263 : tplT.Fx w3.heap.size w4.heap.size w13 [.int .i64 x0.1, .slice ad45 x0.2.length ad45'] (mkTpl 1 x0) := d239.below gw13
  have d264 : relT.Fx (w4.heap.size + 1) w5.heap.size w13 [.int .i64 x1.1, .slice ad64 x1.2.length ad64'] (mkRel (1 + cntTpl x0) x1) := d218.below gw13
  have d265 : opT.Fx (w5.heap.size + 1) mid71 w13 [.int .i64 (boO x0 x1).1, .slice ad91 (boO x0 x1).2.length ad91'] (boO x0 x1) := d240.below gw13
  have d266 : intsT.Fx mid71 w6.heap.size w13 [.slice ad94 (boT x0 x1).length ad94'] (boT x0 x1) := d241.below gw13
  clear hb13 H_w12 f219 f220 f221 f222 f223 f224 f225 f226 f227 f228 f229 f230 d237 d238 d239 d218 d240 d241 z231 z232 z233 z234 z235 z236 gw13
  rw [eqB_true rfl]
  go_wp2_with fail
  refine (eqInt64S_any _ (d266.rd.below (by repeat (first | exact Below.refl _ _ | exact bA | assumption | refine Below.setCell ?_ (by first | omega | (simp; try omega)) _ | refine Below.alloc ?_ (by first | omega | (simp; try omega)) _ | refine Below.drew ?_ | refine bDN ?_ | refine bthen ?_ (by assumption)))) (d261.rd.below (by repeat (first | exact Below.refl _ _ | exact bA | assumption | refine Below.setCell ?_ (by first | omega | (simp; try omega)) _ | refine Below.alloc ?_ (by first | omega | (simp; try omega)) _ | refine Below.drew ?_ | refine bDN ?_ | refine bthen ?_ (by assumption))))).mono ?_
  rintro e w14 ⟨rfl, hb14⟩
  have gw14 : Below w13.heap.size w13 w14 := bthen (by repeat (first | exact Below.refl _ _ | exact bA | assumption | refine Below.setCell ?_ (by first | omega | (simp; try omega)) _ | refine Below.alloc ?_ (by first | omega | (simp; try omega)) _ | refine Below.drew ?_ | refine bDN ?_ | refine bthen ?_ (by assumption))) hb14
  have sw14 : w13.heap.size + 0 ≤ w14.heap.size := by have := hb14.size; (try simp at this); omega
  have H_w14 : Below w.heap.size w w14 := bthen H_w13 gw14
  have f267 : w14.cell? ⟨w.heap.size, 0, none⟩ = some (.int .i64 x0.1) := (gw14.cell (by first | omega | (simp; try omega))).trans f243
  have f268 : w14.cell? ⟨w.heap.size, 1, none⟩ = some (u0) := (gw14.cell (by first | omega | (simp; try omega))).trans f244
  have f269 : w14.cell? ⟨w.heap.size + 1, 0, none⟩ = some (.int .i64 x1.1) := (gw14.cell (by first | omega | (simp; try omega))).trans f245
  have f270 : w14.cell? ⟨w.heap.size + 1, 1, none⟩ = some (u1) := (gw14.cell (by first | omega | (simp; try omega))).trans f246
  have f271 : w14.cell? ⟨bb13, 0, none⟩ = some (.int .i64 (boO x0 x1).1) := (gw14.cell (by first | omega | (simp; try omega))).trans f247
  have f272 : w14.cell? ⟨bb13, 1, none⟩ = some (.slice ad17 (boO x0 x1).2.length ad17') := (gw14.cell (by first | omega | (simp; try omega))).trans f248
  have f273 : w14.cell? ⟨w4.heap.size, 0, none⟩ = some (.int .i64 x0.1) := (gw14.cell (by first | omega | (simp; try omega))).trans f249
  have f274 : w14.cell? ⟨w4.heap.size, 1, none⟩ = some (.slice ad45 x0.2.length ad45') := (gw14.cell (by first | omega | (simp; try omega))).trans f250
  have f275 : w14.cell? ⟨w5.heap.size, 0, none⟩ = some (.int .i64 x1.1) := (gw14.cell (by first | omega | (simp; try omega))).trans f251
  have f276 : w14.cell? ⟨w5.heap.size, 1, none⟩ = some (.slice ad64 x1.2.length ad64') := (gw14.cell (by first | omega | (simp; try omega))).trans f252
  have f277 : w14.cell? ⟨w6.heap.size, 0, none⟩ = some (.int .i64 (boO x0 x1).1) := (gw14.cell (by first | omega | (simp; try omega))).trans f253
  have f278 : w14.cell? ⟨w6.heap.size, 1, none⟩ = some (.slice ad91 (boO x0 x1).2.length ad91') := (gw14.cell (by first | omega | (simp; try omega))).trans f254
  have z279 : w.heap.size < w14.heap.size := by omega
  have z280 : w.heap.size + 1 < w14.heap.size := by omega
  have z281 : bb13 < w14.heap.size := by omega
  have z282 : w4.heap.size < w14.heap.size := by omega
  have z283 : w5.heap.size < w14.heap.size := by omega
  have z284 : w6.heap.size < w14.heap.size := by omega
  have d285 : intsT.Fx w2.heap.size w3.heap.size w14 [.slice ad28 (boT x0 x1).length ad28'] (boT x0 x1) := d261.below gw14
  have d286 : opT.Fx w2.heap.size w3.heap.size w14 [.int .i64 (boO x0 x1).1, .slice ad17 (boO x0 x1).2.length ad17'] (boO x0 x1) := d262.below gw14
  have d287 : tplT.Fx w3.heap.size w4.heap.size w14 [.int .i64 x0.1, .slice ad45 x0.2.length ad45'] (mkTpl 1 x0) := d263.below gw14
  have d288 : relT.Fx (w4.heap.size + 1) w5.heap.size w14 [.int .i64 x1.1, .slice ad64 x1.2.length ad64'] (mkRel (1 + cntTpl x0) x1) := d264.below gw14
  have d289 : opT.Fx (w5.heap.size + 1) mid71 w14 [.int .i64 (boO x0 x1).1, .slice ad91 (boO x0 x1).2.length ad91'] (boO x0 x1) := d265.below gw14
  have d290 : intsT.Fx mid71 w6.heap.size w14 [.slice ad94 (boT x0 x1).length ad94'] (boT x0 x1) := d266.below gw14
  clear hb14 H_w13 f243 f244 f245 f246 f247 f248 f249 f250 f251 f252 f253 f254 d261 d262 d263 d264 d265 d266 z255 z256 z257 z258 z259 z260 gw14
  rw [eqB_true rfl]
  go_wp2_with fail
  refine (markOp_fx _ d289 _ (by omega) (by omega)).mono ?_
  rintro e w15 ⟨rfl, hb15, d291⟩
  clear d289
  have sw15 : w14.heap.size ≤ w15.heap.size := hb15.size
  have H_w15 : Below w.heap.size w w15 := below_tch H_w14 hb15 (by omega) (by omega)
  have f292 : w15.cell? ⟨w.heap.size, 0, none⟩ = some (.int .i64 x0.1) := (hb15.cell (by omega) (by omega)).trans f267
  have f293 : w15.cell? ⟨w.heap.size, 1, none⟩ = some (u0) := (hb15.cell (by omega) (by omega)).trans f268
  have f294 : w15.cell? ⟨w.heap.size + 1, 0, none⟩ = some (.int .i64 x1.1) := (hb15.cell (by omega) (by omega)).trans f269
  have f295 : w15.cell? ⟨w.heap.size + 1, 1, none⟩ = some (u1) := (hb15.cell (by omega) (by omega)).trans f270
  have f296 : w15.cell? ⟨bb13, 0, none⟩ = some (.int .i64 (boO x0 x1).1) := (hb15.cell (by omega) (by omega)).trans f271
  have f297 : w15.cell? ⟨bb13, 1, none⟩ = some (.slice ad17 (boO x0 x1).2.length ad17') := (hb15.cell (by omega) (by omega)).trans f272
  have f298 : w15.cell? ⟨w4.heap.size, 0, none⟩ = some (.int .i64 x0.1) := (hb15.cell (by omega) (by omega)).trans f273
  have f299 : w15.cell? ⟨w4.heap.size, 1, none⟩ = some (.slice ad45 x0.2.length ad45') := (hb15.cell (by omega) (by omega)).trans f274
  have f300 : w15.cell? ⟨w5.heap.size, 0, none⟩ = some (.int .i64 x1.1) := (hb15.cell (by omega) (by omega)).trans f275
  have f301 : w15.cell? ⟨w5.heap.size, 1, none⟩ = some (.slice ad64 x1.2.length ad64') := (hb15.cell (by omega) (by omega)).trans f276
  have f302 : w15.cell? ⟨w6.heap.size, 0, none⟩ = some (.int .i64 (boO x0 x1).1) := (hb15.cell (by omega) (by omega)).trans f277
  have f303 : w15.cell? ⟨w6.heap.size, 1, none⟩ = some (.slice ad91 (boO x0 x1).2.length ad91') := (hb15.cell (by omega) (by omega)).trans f278
  have z304 : w.heap.size < w15.heap.size := by omega
  have z305 : w.heap.size + 1 < w15.heap.size := by omega
  have z306 : bb13 < w15.heap.size := by omega
  have z307 : w4.heap.size < w15.heap.size := by omega
  have z308 : w5.heap.size < w15.heap.size := by omega
  have z309 : w6.heap.size < w15.heap.size := by omega
  have d310 : intsT.Fx w2.heap.size w3.heap.size w15 [.slice ad28 (boT x0 x1).length ad28'] (boT x0 x1) := d285.tch hb15 (by omega)
  have d311 : opT.Fx w2.heap.size w3.heap.size w15 [.int .i64 (boO x0 x1).1, .slice ad17 (boO x0 x1).2.length ad17'] (boO x0 x1) := d286.tch hb15 (by omega)
  have d312 : tplT.Fx w3.heap.size w4.heap.size w15 [.int .i64 x0.1, .slice ad45 x0.2.length ad45'] (mkTpl 1 x0) := d287.tch hb15 (by omega)
  have d313 : relT.Fx (w4.heap.size + 1) w5.heap.size w15 [.int .i64 x1.1, .slice ad64 x1.2.length ad64'] (mkRel (1 + cntTpl x0) x1) := d288.tch hb15 (by omega)
  have d314 : intsT.Fx mid71 w6.heap.size w15 [.slice ad94 (boT x0 x1).length ad94'] (boT x0 x1) := d290.tch hb15 (by omega)
  clear hb15 H_w14 f267 f268 f269 f270 f271 f272 f273 f274 f275 f276 f277 f278 d285 d286 d287 d288 d290 z279 z280 z281 z282 z283 z284
  have hk315 : 0 ≤ (1 + cntOp (boO x0 x1)) := by omega
  go_wp2_with fail
  refine (markInt64S_fx _ d314 _ (by omega) (by omega)).mono ?_
  rintro e w16 ⟨rfl, hb16, d316⟩
  clear d314
  have sw16 : w15.heap.size ≤ w16.heap.size := hb16.size
  have H_w16 : Below w.heap.size w w16 := below_tch H_w15 hb16 (by omega) (by omega)
  have f317 : w16.cell? ⟨w.heap.size, 0, none⟩ = some (.int .i64 x0.1) := (hb16.cell (by omega) (by omega)).trans f292
  have f318 : w16.cell? ⟨w.heap.size, 1, none⟩ = some (u0) := (hb16.cell (by omega) (by omega)).trans f293
  have f319 : w16.cell? ⟨w.heap.size + 1, 0, none⟩ = some (.int .i64 x1.1) := (hb16.cell (by omega) (by omega)).trans f294
  have f320 : w16.cell? ⟨w.heap.size + 1, 1, none⟩ = some (u1) := (hb16.cell (by omega) (by omega)).trans f295
  have f321 : w16.cell? ⟨bb13, 0, none⟩ = some (.int .i64 (boO x0 x1).1) := (hb16.cell (by omega) (by omega)).trans f296
  have f322 : w16.cell? ⟨bb13, 1, none⟩ = some (.slice ad17 (boO x0 x1).2.length ad17') := (hb16.cell (by omega) (by omega)).trans f297
  have f323 : w16.cell? ⟨w4.heap.size, 0, none⟩ = some (.int .i64 x0.1) := (hb16.cell (by omega) (by omega)).trans f298
  have f324 : w16.cell? ⟨w4.heap.size, 1, none⟩ = some (.slice ad45 x0.2.length ad45') := (hb16.cell (by omega) (by omega)).trans f299
  have f325 : w16.cell? ⟨w5.heap.size, 0, none⟩ = some (.int .i64 x1.1) := (hb16.cell (by omega) (by omega)).trans f300
  have f326 : w16.cell? ⟨w5.heap.size, 1, none⟩ = some (.slice ad64 x1.2.length ad64') := (hb16.cell (by omega) (by omega)).trans f301
  have f327 : w16.cell? ⟨w6.heap.size, 0, none⟩ = some (.int .i64 (boO x0 x1).1) := (hb16.cell (by omega) (by omega)).trans f302
  have f328 : w16.cell? ⟨w6.heap.size, 1, none⟩ = some (.slice ad91 (boO x0 x1).2.length ad91') := (hb16.cell (by omega) (by omega)).trans f303
  have z329 : w.heap.size < w16.heap.size := by omega
  have z330 : w.heap.size + 1 < w16.heap.size := by omega
  have z331 : bb13 < w16.heap.size := by omega
  have z332 : w4.heap.size < w16.heap.size := by omega
  have z333 : w5.heap.size < w16.heap.size := by omega
  have z334 : w6.heap.size < w16.heap.size := by omega
  have d335 : intsT.Fx w2.heap.size w3.heap.size w16 [.slice ad28 (boT x0 x1).length ad28'] (boT x0 x1) := d310.tch hb16 (by omega)
  have d336 : opT.Fx w2.heap.size w3.heap.size w16 [.int .i64 (boO x0 x1).1, .slice ad17 (boO x0 x1).2.length ad17'] (boO x0 x1) := d311.tch hb16 (by omega)
  have d337 : tplT.Fx w3.heap.size w4.heap.size w16 [.int .i64 x0.1, .slice ad45 x0.2.length ad45'] (mkTpl 1 x0) := d312.tch hb16 (by omega)
  have d338 : relT.Fx (w4.heap.size + 1) w5.heap.size w16 [.int .i64 x1.1, .slice ad64 x1.2.length ad64'] (mkRel (1 + cntTpl x0) x1) := d313.tch hb16 (by omega)
  have d339 : opT.Fx (w5.heap.size + 1) mid71 w16 [.int .i64 (boO x0 x1).1, .slice ad91 (boO x0 x1).2.length ad91'] (mkOp 1 (boO x0 x1)) := d291.tch hb16 (by omega)
  clear hb16 H_w15 f292 f293 f294 f295 f296 f297 f298 f299 f300 f301 f302 f303 d310 d311 d312 d313 d291 z304 z305 z306 z307 z308 z309
  have hk340 : 0 ≤ ((1 + cntOp (boO x0 x1)) + cntI (boT x0 x1)) := by omega
  go_wp2_with fail
  refine (heldOp_any _ _ d339.rd (by omega) (by omega)).mono ?_
  rintro e w17 ⟨rfl, hb17⟩
  have gw17 : Below w16.heap.size w16 w17 := bthen (by repeat (first | exact Below.refl _ _ | exact bA | assumption | refine Below.setCell ?_ (by first | omega | (simp; try omega)) _ | refine Below.alloc ?_ (by first | omega | (simp; try omega)) _ | refine Below.drew ?_ | refine bDN ?_ | refine bthen ?_ (by assumption))) hb17
  have sw17 : w16.heap.size + 0 ≤ w17.heap.size := by have := hb17.size; (try simp at this); omega
  have H_w17 : Below w.heap.size w w17 := bthen H_w16 gw17
  have f341 : w17.cell? ⟨w.heap.size, 0, none⟩ = some (.int .i64 x0.1) := (gw17.cell (by first | omega | (simp; try omega))).trans f317
  have f342 : w17.cell? ⟨w.heap.size, 1, none⟩ = some (u0) := (gw17.cell (by first | omega | (simp; try omega))).trans f318
  have f343 : w17.cell? ⟨w.heap.size + 1, 0, none⟩ = some (.int .i64 x1.1) := (gw17.cell (by first | omega | (simp; try omega))).trans f319
  have f344 : w17.cell? ⟨w.heap.size + 1, 1, none⟩ = some (u1) := (gw17.cell (by first | omega | (simp; try omega))).trans f320
  have f345 : w17.cell? ⟨bb13, 0, none⟩ = some (.int .i64 (boO x0 x1).1) := (gw17.cell (by first | omega | (simp; try omega))).trans f321
  have f346 : w17.cell? ⟨bb13, 1, none⟩ = some (.slice ad17 (boO x0 x1).2.length ad17') := (gw17.cell (by first | omega | (simp; try omega))).trans f322
  have f347 : w17.cell? ⟨w4.heap.size, 0, none⟩ = some (.int .i64 x0.1) := (gw17.cell (by first | omega | (simp; try omega))).trans f323
  have f348 : w17.cell? ⟨w4.heap.size, 1, none⟩ = some (.slice ad45 x0.2.length ad45') := (gw17.cell (by first | omega | (simp; try omega))).trans f324
  have f349 : w17.cell? ⟨w5.heap.size, 0, none⟩ = some (.int .i64 x1.1) := (gw17.cell (by first | omega | (simp; try omega))).trans f325
  have f350 : w17.cell? ⟨w5.heap.size, 1, none⟩ = some (.slice ad64 x1.2.length ad64') := (gw17.cell (by first | omega | (simp; try omega))).trans f326
  have f351 : w17.cell? ⟨w6.heap.size, 0, none⟩ = some (.int .i64 (boO x0 x1).1) := (gw17.cell (by first | omega | (simp; try omega))).trans f327
  have f352 : w17.cell? ⟨w6.heap.size, 1, none⟩ = some (.slice ad91 (boO x0 x1).2.length ad91') := (gw17.cell (by first | omega | (simp; try omega))).trans f328
  have z353 : w.heap.size < w17.heap.size := by omega
  have z354 : w.heap.size + 1 < w17.heap.size := by omega
  have z355 : bb13 < w17.heap.size := by omega
  have z356 : w4.heap.size < w17.heap.size := by omega
  have z357 : w5.heap.size < w17.heap.size := by omega
  have z358 : w6.heap.size < w17.heap.size := by omega
  have d359 : intsT.Fx w2.heap.size w3.heap.size w17 [.slice ad28 (boT x0 x1).length ad28'] (boT x0 x1) := d335.below gw17
  have d360 : opT.Fx w2.heap.size w3.heap.size w17 [.int .i64 (boO x0 x1).1, .slice ad17 (boO x0 x1).2.length ad17'] (boO x0 x1) := d336.below gw17
  have d361 : tplT.Fx w3.heap.size w4.heap.size w17 [.int .i64 x0.1, .slice ad45 x0.2.length ad45'] (mkTpl 1 x0) := d337.below gw17
  have d362 : relT.Fx (w4.heap.size + 1) w5.heap.size w17 [.int .i64 x1.1, .slice ad64 x1.2.length ad64'] (mkRel (1 + cntTpl x0) x1) := d338.below gw17
  have d363 : opT.Fx (w5.heap.size + 1) mid71 w17 [.int .i64 (boO x0 x1).1, .slice ad91 (boO x0 x1).2.length ad91'] (mkOp 1 (boO x0 x1)) := d339.below gw17
  have d364 : intsT.Fx mid71 w6.heap.size w17 [.slice ad94 (boT x0 x1).length ad94'] (mkI (1 + cntOp (boO x0 x1)) (boT x0 x1)) := d316.below gw17
  clear hb17 H_w16 f317 f318 f319 f320 f321 f322 f323 f324 f325 f326 f327 f328 d335 d336 d337 d338 d339 d316 z329 z330 z331 z332 z333 z334 gw17
  go_wp2_with fail
  refine (heldInt64S_any _ _ d364.rd (by omega) (by omega)).mono ?_
  rintro e w18 ⟨rfl, hb18⟩
  have gw18 : Below w17.heap.size w17 w18 := bthen (by repeat (first | exact Below.refl _ _ | exact bA | assumption | refine Below.setCell ?_ (by first | omega | (simp; try omega)) _ | refine Below.alloc ?_ (by first | omega | (simp; try omega)) _ | refine Below.drew ?_ | refine bDN ?_ | refine bthen ?_ (by assumption))) hb18
  have sw18 : w17.heap.size + 0 ≤ w18.heap.size := by have := hb18.size; (try simp at this); omega
  have H_w18 : Below w.heap.size w w18 := bthen H_w17 gw18
  have f365 : w18.cell? ⟨w.heap.size, 0, none⟩ = some (.int .i64 x0.1) := (gw18.cell (by first | omega | (simp; try omega))).trans f341
  have f366 : w18.cell? ⟨w.heap.size, 1, none⟩ = some (u0) := (gw18.cell (by first | omega | (simp; try omega))).trans f342
  have f367 : w18.cell? ⟨w.heap.size + 1, 0, none⟩ = some (.int .i64 x1.1) := (gw18.cell (by first | omega | (simp; try omega))).trans f343
  have f368 : w18.cell? ⟨w.heap.size + 1, 1, none⟩ = some (u1) := (gw18.cell (by first | omega | (simp; try omega))).trans f344
  have f369 : w18.cell? ⟨bb13, 0, none⟩ = some (.int .i64 (boO x0 x1).1) := (gw18.cell (by first | omega | (simp; try omega))).trans f345
  have f370 : w18.cell? ⟨bb13, 1, none⟩ = some (.slice ad17 (boO x0 x1).2.length ad17') := (gw18.cell (by first | omega | (simp; try omega))).trans f346
  have f371 : w18.cell? ⟨w4.heap.size, 0, none⟩ = some (.int .i64 x0.1) := (gw18.cell (by first | omega | (simp; try omega))).trans f347
  have f372 : w18.cell? ⟨w4.heap.size, 1, none⟩ = some (.slice ad45 x0.2.length ad45') := (gw18.cell (by first | omega | (simp; try omega))).trans f348
  have f373 : w18.cell? ⟨w5.heap.size, 0, none⟩ = some (.int .i64 x1.1) := (gw18.cell (by first | omega | (simp; try omega))).trans f349
  have f374 : w18.cell? ⟨w5.heap.size, 1, none⟩ = some (.slice ad64 x1.2.length ad64') := (gw18.cell (by first | omega | (simp; try omega))).trans f350
  have f375 : w18.cell? ⟨w6.heap.size, 0, none⟩ = some (.int .i64 (boO x0 x1).1) := (gw18.cell (by first | omega | (simp; try omega))).trans f351
  have f376 : w18.cell? ⟨w6.heap.size, 1, none⟩ = some (.slice ad91 (boO x0 x1).2.length ad91') := (gw18.cell (by first | omega | (simp; try omega))).trans f352
  have z377 : w.heap.size < w18.heap.size := by omega
  have z378 : w.heap.size + 1 < w18.heap.size := by omega
  have z379 : bb13 < w18.heap.size := by omega
  have z380 : w4.heap.size < w18.heap.size := by omega
  have z381 : w5.heap.size < w18.heap.size := by omega
  have z382 : w6.heap.size < w18.heap.size := by omega
  have d383 : intsT.Fx w2.heap.size w3.heap.size w18 [.slice ad28 (boT x0 x1).length ad28'] (boT x0 x1) := d359.below gw18
  have d384 : opT.Fx w2.heap.size w3.heap.size w18 [.int .i64 (boO x0 x1).1, .slice ad17 (boO x0 x1).2.length ad17'] (boO x0 x1) := d360.below gw18
  have d385 : tplT.Fx w3.heap.size w4.heap.size w18 [.int .i64 x0.1, .slice ad45 x0.2.length ad45'] (mkTpl 1 x0) := d361.below gw18
  have d386 : relT.Fx (w4.heap.size + 1) w5.heap.size w18 [.int .i64 x1.1, .slice ad64 x1.2.length ad64'] (mkRel (1 + cntTpl x0) x1) := d362.below gw18
  have d387 : opT.Fx (w5.heap.size + 1) mid71 w18 [.int .i64 (boO x0 x1).1, .slice ad91 (boO x0 x1).2.length ad91'] (mkOp 1 (boO x0 x1)) := d363.below gw18
  have d388 : intsT.Fx mid71 w6.heap.size w18 [.slice ad94 (boT x0 x1).length ad94'] (mkI (1 + cntOp (boO x0 x1)) (boT x0 x1)) := d364.below gw18
  clear hb18 H_w17 f341 f342 f343 f344 f345 f346 f347 f348 f349 f350 f351 f352 d359 d360 d361 d362 d363 d364 z353 z354 z355 z356 z357 z358 gw18
  go_wp2_with fail
  refine wp_region_box [(.plain, exO (.agg #[.int .i64 x0.1, u0])), (.plain, rdAO tplT x0), (.plain, exO (.agg #[.int .i64 x1.1, u1])), (.plain, rdAO relT x1), (.plain, frT3O opT intsT w18.heap.size (boO x0 x1) (boT x0 x1) (.int .i64 (boC x0 x1))), (.plain, frT3O opT intsT w18.heap.size (boO x0 x1) (boT x0 x1) (.int .i64 (boC x0 x1))), (.plain, frAO opT w18.heap.size (boO x0 x1)), (.plain, frSO intsT w18.heap.size (boT x0 x1)), (.plain, exO (.int .i64 (boC x0 x1))), (.alloc, boxO 2), (.store, heldO opT w18.heap.size (boO x0 x1)), (.plain, frSO intsT w18.heap.size (boT x0 x1)), (.plain, exO (.int .i64 (boC x0 x1)))] (by kernel_rfl) (by kernel_rfl) ⟨st_exO, st_rdAO, st_exO, st_rdAO, st_frT3O, st_frT3O, st_frAO, st_frSO, st_exO, st_boxO, st_heldO, st_frSO, st_exO, trivial⟩ ⟨?j35_0, ?j35_1, ?j35_2, ?j35_3, ?j35_4, ?j35_5, ?j35_6, ?j35_7, ?j35_8, ?j35_9, ?j35_10, ?j35_11, ?j35_12, trivial⟩ ?hQ35
  case j35_0 =>
    intro a' w' ob hb hbo hal hd
    have e0 : a'.tmps[2]?.getD undef = .pointer (some ⟨w.heap.size, 0, none⟩) := ev (slot_o2 hd 2 rfl rfl)
    have q : ∀ b o, b < w18.heap.size → w'.cell? ⟨b, o, none⟩ = w18.cell? ⟨b, o, none⟩ := (bcell hb).1
    go_simp
    exact ⟨_, ⟨rfl, Below.refl _ _⟩, rfl⟩
  case j35_1 =>
    intro a' w' ob hb hbo hal hd
    have e120 : a'.tmps[120]?.getD undef = .agg #[.int .i64 x0.1, u0] := ev (slot_w2 hd 120 (exO (.agg #[.int .i64 x0.1, u0])) rfl rfl)
    have r120 : tplT.Rd w18 (#[.int .i64 x0.1, u0] : Array Value).toList x0 := hx0.below H_w18
    have r120' := r120.below hb
    go_simp
    exact ⟨rfl, Below.refl _ _, (toTemplate_any w' r120' (by first | omega | (unfold szInts; omega))).mono fun e w'' ⟨cs, he, hf, hb⟩ => ⟨_, he, hb, rdAO_mk hf hbo⟩⟩
  case j35_2 =>
    intro a' w' ob hb hbo hal hd
    have e0 : a'.tmps[3]?.getD undef = .pointer (some ⟨w.heap.size + 1, 0, none⟩) := ev (slot_o2 hd 3 rfl rfl)
    have q : ∀ b o, b < w18.heap.size → w'.cell? ⟨b, o, none⟩ = w18.cell? ⟨b, o, none⟩ := (bcell hb).1
    go_simp
    exact ⟨_, ⟨rfl, Below.refl _ _⟩, rfl⟩
  case j35_3 =>
    intro a' w' ob hb hbo hal hd
    have e122 : a'.tmps[122]?.getD undef = .agg #[.int .i64 x1.1, u1] := ev (slot_w2 hd 122 (exO (.agg #[.int .i64 x1.1, u1])) rfl rfl)
    have r122 : relT.Rd w18 (#[.int .i64 x1.1, u1] : Array Value).toList x1 := hx1.below H_w18
    have r122' := r122.below hb
    go_simp
    exact ⟨rfl, Below.refl _ _, (toRel_any w' r122' (by first | omega | (unfold szInts; omega))).mono fun e w'' ⟨cs, he, hf, hb⟩ => ⟨_, he, hb, rdAO_mk hf hbo⟩⟩
  case j35_4 =>
    intro a' w' ob hb hbo hal hd
    have d121 := slot_w2 hd 121 (rdAO tplT x0) rfl rfl
    obtain ⟨cs121, fp121, e121, hr121, -⟩ := d121
    have rd121 : tplT.Rd w' cs121 x0 := ⟨_, hr121⟩
    have e121' := ev e121
    have d123 := slot_w2 hd 123 (rdAO relT x1) rfl rfl
    obtain ⟨cs123, fp123, e123, hr123, -⟩ := d123
    have rd123 : relT.Rd w' cs123 x1 := ⟨_, hr123⟩
    have e123' := ev e123
    go_simp
    exact ⟨rfl, Below.refl _ _, (BreakingOp_any _ rd121 rd123).mono fun e w'' ⟨cs, u, mid, he, hm1, hm2, hx, hy, hb2⟩ => ⟨_, he, hb2, frT3O_mk hb.size hm1 hx hy hbo⟩⟩
  case j35_5 =>
    intro a' w' ob hb hbo hal hd
    have d124 := slot_w2 hd 124 (frT3O opT intsT w18.heap.size (boO x0 x1) (boT x0 x1) (.int .i64 (boC x0 x1))) rfl rfl
    obtain ⟨cs124, u124, e124, hf124, hg124⟩ := d124
    have e124' := ev e124
    go_simp
    exact ⟨_, ⟨rfl, Below.refl _ _⟩, cs124, u124, rfl, hf124, hg124⟩
  case j35_6 =>
    intro a' w' ob hb hbo hal hd
    have d119 := slot_w2 hd 119 (frT3O opT intsT w18.heap.size (boO x0 x1) (boT x0 x1) (.int .i64 (boC x0 x1))) rfl rfl
    obtain ⟨cs119, u119, e119, hf119, hg119⟩ := d119
    have e119' := ev e119
    go_simp
    exact ⟨_, ⟨rfl, Below.refl _ _⟩, hf119⟩
  case j35_7 =>
    intro a' w' ob hb hbo hal hd
    have d119 := slot_w2 hd 119 (frT3O opT intsT w18.heap.size (boO x0 x1) (boT x0 x1) (.int .i64 (boC x0 x1))) rfl rfl
    obtain ⟨cs119, u119, e119, hf119, hg119⟩ := d119
    have e119' := ev e119
    go_simp
    exact ⟨_, ⟨rfl, Below.refl _ _⟩, hg119⟩
  case j35_8 =>
    intro a' w' ob hb hbo hal hd
    have d119 := slot_w2 hd 119 (frT3O opT intsT w18.heap.size (boO x0 x1) (boT x0 x1) (.int .i64 (boC x0 x1))) rfl rfl
    obtain ⟨cs119, u119, e119, hf119, hg119⟩ := d119
    have e119' := ev e119
    go_simp
    exact ⟨_, ⟨rfl, Below.refl _ _⟩, rfl⟩
  case j35_9 =>
    intro a' w' ob hb hbo hal hd
    obtain rfl := hal rfl
    go_simp
    exact ⟨_, ⟨rfl, by simp, bA⟩, _, rfl, rfl, by simp, box2n⟩
  case j35_10 =>
    intro a' w' ob hb hbo hal hd
    obtain ⟨bb, rfl, e17, hbb, hcl⟩ := slot_w2 hd 17 (boxO 2) rfl rfl
    have e17' := ev e17
    have d125 := slot_w2 hd 125 (frAO opT w18.heap.size (boO x0 x1)) rfl rfl
    obtain ⟨cs125, fp125, e125, hr125, hn125, hg125, hu125, ho125⟩ := d125
    obtain ⟨u125, rfl, hr125', -⟩ := rd_pair hr125
    obtain ⟨ad125', cap125', rfl⟩ := rd_slice ⟨_, hr125'⟩
    have e125' := ev e125
    obtain ⟨⟨y0, c0⟩, f0⟩ := hcl 0 (by decide)
    obtain ⟨⟨y1, c1⟩, f1⟩ := hcl 1 (by decide)
    go_simp
    exact held2 c0 c1 hr125 hn125 hg125 hu125 ho125 _
  case j35_11 =>
    intro a' w' ob hb hbo hal hd
    have d126 := slot_w2 hd 126 (frSO intsT w18.heap.size (boT x0 x1)) rfl rfl
    obtain ⟨ad126', cap126', e126⟩ := frSO_val d126
    rw [e126] at d126
    have hf126 := d126
    have e126' := ev e126
    go_simp
    exact ⟨_, ⟨rfl, Below.refl _ _⟩, hf126⟩
  case j35_12 =>
    intro a' w' ob hb hbo hal hd
    have e0 : a'.tmps[127]?.getD undef = .int .i64 (boC x0 x1) := ev (slot_w2 hd 127 (exO (.int .i64 (boC x0 x1))) rfl rfl)
    go_simp
    exact ⟨_, ⟨rfl, Below.refl _ _⟩, rfl⟩
  intro vs35 w19 ob35 hb19 hbo35 H0
  obtain ⟨v35_0, _, rfl, p0, H1⟩ := HAll2_cons H0
  obtain ⟨v35_1, _, rfl, p1, H2⟩ := HAll2_cons H1
  obtain ⟨v35_2, _, rfl, p2, H3⟩ := HAll2_cons H2
  obtain ⟨v35_3, _, rfl, p3, H4⟩ := HAll2_cons H3
  obtain ⟨v35_4, _, rfl, p4, H5⟩ := HAll2_cons H4
  obtain ⟨v35_5, _, rfl, p5, H6⟩ := HAll2_cons H5
  obtain ⟨v35_6, _, rfl, p6, H7⟩ := HAll2_cons H6
  obtain ⟨v35_7, _, rfl, p7, H8⟩ := HAll2_cons H7
  obtain ⟨v35_8, _, rfl, p8, H9⟩ := HAll2_cons H8
  obtain ⟨v35_9, _, rfl, p9, H10⟩ := HAll2_cons H9
  obtain ⟨v35_10, _, rfl, p10, H11⟩ := HAll2_cons H10
  obtain ⟨v35_11, _, rfl, p11, H12⟩ := HAll2_cons H11
  obtain ⟨v35_12, _, rfl, p12, H13⟩ := HAll2_cons H12
  obtain rfl := HAll2_nil H13
  obtain rfl := id p0
  obtain rfl := id p2
  obtain rfl := id p8
  obtain rfl := id p12
  obtain ⟨bb389, rfl, rfl, hltbb389, -⟩ := id p9
  obtain ⟨_, cs, fp392, hob, hr1, hr2, hr3, hr4, -, cc391⟩ := id p10
  simp only [Option.some.injEq] at hob
  subst hob
  have hc390 : opT.Fr w18.heap.size w19 cs (boO x0 x1) := ⟨fp392, hr1, hr2, hr3, hr4⟩
  have hlobb389 : w18.heap.size ≤ bb389 := (hbo35 bb389 rfl).1
  obtain ⟨ad393, ad393', rfl⟩ := fr_pair hc390
  have f394 : w19.cell? ⟨bb389, 0, none⟩ = some (.int .i64 (boO x0 x1).1) := cc391 0 (by simp)
  have f395 : w19.cell? ⟨bb389, 1, none⟩ = some (.slice ad393 (boO x0 x1).2.length ad393') := cc391 1 (by simp)
  clear cc391 hr1 hr2 hr3 hr4
  obtain ⟨fp397, hq1, hq2, hq3, hq4, -⟩ := id p11
  have hc396 : intsT.Fr w18.heap.size w19 [v35_11] (boT x0 x1) := ⟨fp397, hq1, hq2, hq3, hq4⟩
  clear hq1 hq2 hq3 hq4
  clear p0 p1 p2 p3 p4 p5 p6 p7 p8 p9 p10 p11 p12 H0 H1 H2 H3 H4 H5 H6 H7 H8 H9 H10 H11 H12 H13
  have gw19 : Below w18.heap.size w18 w19 := bthen (by repeat (first | exact Below.refl _ _ | exact bA | assumption | refine Below.setCell ?_ (by first | omega | (simp; try omega)) _ | refine Below.alloc ?_ (by first | omega | (simp; try omega)) _ | refine Below.drew ?_ | refine bDN ?_ | refine bthen ?_ (by assumption))) hb19
  have sw19 : w18.heap.size + 0 ≤ w19.heap.size := by have := hb19.size; (try simp at this); omega
  have H_w19 : Below w.heap.size w w19 := bthen H_w18 gw19
  have f398 : w19.cell? ⟨w.heap.size, 0, none⟩ = some (.int .i64 x0.1) := (gw19.cell (by first | omega | (simp; try omega))).trans f365
  have f399 : w19.cell? ⟨w.heap.size, 1, none⟩ = some (u0) := (gw19.cell (by first | omega | (simp; try omega))).trans f366
  have f400 : w19.cell? ⟨w.heap.size + 1, 0, none⟩ = some (.int .i64 x1.1) := (gw19.cell (by first | omega | (simp; try omega))).trans f367
  have f401 : w19.cell? ⟨w.heap.size + 1, 1, none⟩ = some (u1) := (gw19.cell (by first | omega | (simp; try omega))).trans f368
  have f402 : w19.cell? ⟨bb13, 0, none⟩ = some (.int .i64 (boO x0 x1).1) := (gw19.cell (by first | omega | (simp; try omega))).trans f369
  have f403 : w19.cell? ⟨bb13, 1, none⟩ = some (.slice ad17 (boO x0 x1).2.length ad17') := (gw19.cell (by first | omega | (simp; try omega))).trans f370
  have f404 : w19.cell? ⟨w4.heap.size, 0, none⟩ = some (.int .i64 x0.1) := (gw19.cell (by first | omega | (simp; try omega))).trans f371
  have f405 : w19.cell? ⟨w4.heap.size, 1, none⟩ = some (.slice ad45 x0.2.length ad45') := (gw19.cell (by first | omega | (simp; try omega))).trans f372
  have f406 : w19.cell? ⟨w5.heap.size, 0, none⟩ = some (.int .i64 x1.1) := (gw19.cell (by first | omega | (simp; try omega))).trans f373
  have f407 : w19.cell? ⟨w5.heap.size, 1, none⟩ = some (.slice ad64 x1.2.length ad64') := (gw19.cell (by first | omega | (simp; try omega))).trans f374
  have f408 : w19.cell? ⟨w6.heap.size, 0, none⟩ = some (.int .i64 (boO x0 x1).1) := (gw19.cell (by first | omega | (simp; try omega))).trans f375
  have f409 : w19.cell? ⟨w6.heap.size, 1, none⟩ = some (.slice ad91 (boO x0 x1).2.length ad91') := (gw19.cell (by first | omega | (simp; try omega))).trans f376
  have z410 : w.heap.size < w19.heap.size := by omega
  have z411 : w.heap.size + 1 < w19.heap.size := by omega
  have z412 : bb13 < w19.heap.size := by omega
  have z413 : w4.heap.size < w19.heap.size := by omega
  have z414 : w5.heap.size < w19.heap.size := by omega
  have z415 : w6.heap.size < w19.heap.size := by omega
  have d416 : intsT.Fx w2.heap.size w3.heap.size w19 [.slice ad28 (boT x0 x1).length ad28'] (boT x0 x1) := d383.below gw19
  have d417 : opT.Fx w2.heap.size w3.heap.size w19 [.int .i64 (boO x0 x1).1, .slice ad17 (boO x0 x1).2.length ad17'] (boO x0 x1) := d384.below gw19
  have d418 : tplT.Fx w3.heap.size w4.heap.size w19 [.int .i64 x0.1, .slice ad45 x0.2.length ad45'] (mkTpl 1 x0) := d385.below gw19
  have d419 : relT.Fx (w4.heap.size + 1) w5.heap.size w19 [.int .i64 x1.1, .slice ad64 x1.2.length ad64'] (mkRel (1 + cntTpl x0) x1) := d386.below gw19
  have d420 : opT.Fx (w5.heap.size + 1) mid71 w19 [.int .i64 (boO x0 x1).1, .slice ad91 (boO x0 x1).2.length ad91'] (mkOp 1 (boO x0 x1)) := d387.below gw19
  have d421 : intsT.Fx mid71 w6.heap.size w19 [.slice ad94 (boT x0 x1).length ad94'] (mkI (1 + cntOp (boO x0 x1)) (boT x0 x1)) := d388.below gw19
  clear hb19 H_w18 f365 f366 f367 f368 f369 f370 f371 f372 f373 f374 f375 f376 d383 d384 d385 d386 d387 d388 z377 z378 z379 z380 z381 z382 gw19
  obtain ⟨ad422, ad422', rfl⟩ := fr_slice hc396
  have d423 : intsT.Fx w18.heap.size w19.heap.size w19 [.slice ad422 (boT x0 x1).length ad422'] (boT x0 x1) := (Ty.Fr.mono hc396 (by first | exact Nat.le_refl _ | (simp; try omega))).fx
  clear hc396
  have d425 : opT.Fx w18.heap.size w19.heap.size w19 [.int .i64 (boO x0 x1).1, .slice ad393 (boO x0 x1).2.length ad393'] (boO x0 x1) := hc390.fx
  clear hc390
  simp only [putAll, Act.put]
  go_simp
  go_wp2_with fail
  refine (eqOp_any _ (d425.rd.below (by repeat (first | exact Below.refl _ _ | exact bA | assumption | refine Below.setCell ?_ (by first | omega | (simp; try omega)) _ | refine Below.alloc ?_ (by first | omega | (simp; try omega)) _ | refine Below.drew ?_ | refine bDN ?_ | refine bthen ?_ (by assumption)))) (d417.rd.below (by repeat (first | exact Below.refl _ _ | exact bA | assumption | refine Below.setCell ?_ (by first | omega | (simp; try omega)) _ | refine Below.alloc ?_ (by first | omega | (simp; try omega)) _ | refine Below.drew ?_ | refine bDN ?_ | refine bthen ?_ (by assumption))))).mono ?_
  rintro e w20 ⟨rfl, hb20⟩
  have gw20 : Below w19.heap.size w19 w20 := bthen (by repeat (first | exact Below.refl _ _ | exact bA | assumption | refine Below.setCell ?_ (by first | omega | (simp; try omega)) _ | refine Below.alloc ?_ (by first | omega | (simp; try omega)) _ | refine Below.drew ?_ | refine bDN ?_ | refine bthen ?_ (by assumption))) hb20
  have sw20 : w19.heap.size + 0 ≤ w20.heap.size := by have := hb20.size; (try simp at this); omega
  have H_w20 : Below w.heap.size w w20 := bthen H_w19 gw20
  have f427 : w20.cell? ⟨w.heap.size, 0, none⟩ = some (.int .i64 x0.1) := (gw20.cell (by first | omega | (simp; try omega))).trans f398
  have f428 : w20.cell? ⟨w.heap.size, 1, none⟩ = some (u0) := (gw20.cell (by first | omega | (simp; try omega))).trans f399
  have f429 : w20.cell? ⟨w.heap.size + 1, 0, none⟩ = some (.int .i64 x1.1) := (gw20.cell (by first | omega | (simp; try omega))).trans f400
  have f430 : w20.cell? ⟨w.heap.size + 1, 1, none⟩ = some (u1) := (gw20.cell (by first | omega | (simp; try omega))).trans f401
  have f431 : w20.cell? ⟨bb13, 0, none⟩ = some (.int .i64 (boO x0 x1).1) := (gw20.cell (by first | omega | (simp; try omega))).trans f402
  have f432 : w20.cell? ⟨bb13, 1, none⟩ = some (.slice ad17 (boO x0 x1).2.length ad17') := (gw20.cell (by first | omega | (simp; try omega))).trans f403
  have f433 : w20.cell? ⟨w4.heap.size, 0, none⟩ = some (.int .i64 x0.1) := (gw20.cell (by first | omega | (simp; try omega))).trans f404
  have f434 : w20.cell? ⟨w4.heap.size, 1, none⟩ = some (.slice ad45 x0.2.length ad45') := (gw20.cell (by first | omega | (simp; try omega))).trans f405
  have f435 : w20.cell? ⟨w5.heap.size, 0, none⟩ = some (.int .i64 x1.1) := (gw20.cell (by first | omega | (simp; try omega))).trans f406
  have f436 : w20.cell? ⟨w5.heap.size, 1, none⟩ = some (.slice ad64 x1.2.length ad64') := (gw20.cell (by first | omega | (simp; try omega))).trans f407
  have f437 : w20.cell? ⟨w6.heap.size, 0, none⟩ = some (.int .i64 (boO x0 x1).1) := (gw20.cell (by first | omega | (simp; try omega))).trans f408
  have f438 : w20.cell? ⟨w6.heap.size, 1, none⟩ = some (.slice ad91 (boO x0 x1).2.length ad91') := (gw20.cell (by first | omega | (simp; try omega))).trans f409
  have f439 : w20.cell? ⟨bb389, 0, none⟩ = some (.int .i64 (boO x0 x1).1) := (gw20.cell (by first | omega | (simp; try omega))).trans f394
  have f440 : w20.cell? ⟨bb389, 1, none⟩ = some (.slice ad393 (boO x0 x1).2.length ad393') := (gw20.cell (by first | omega | (simp; try omega))).trans f395
  have z441 : w.heap.size < w20.heap.size := by omega
  have z442 : w.heap.size + 1 < w20.heap.size := by omega
  have z443 : bb13 < w20.heap.size := by omega
  have z444 : w4.heap.size < w20.heap.size := by omega
  have z445 : w5.heap.size < w20.heap.size := by omega
  have z446 : w6.heap.size < w20.heap.size := by omega
  have z447 : bb389 < w20.heap.size := by omega
  have d448 : intsT.Fx w2.heap.size w3.heap.size w20 [.slice ad28 (boT x0 x1).length ad28'] (boT x0 x1) := d416.below gw20
  have d449 : opT.Fx w2.heap.size w3.heap.size w20 [.int .i64 (boO x0 x1).1, .slice ad17 (boO x0 x1).2.length ad17'] (boO x0 x1) := d417.below gw20
  have d450 : tplT.Fx w3.heap.size w4.heap.size w20 [.int .i64 x0.1, .slice ad45 x0.2.length ad45'] (mkTpl 1 x0) := d418.below gw20
  have d451 : relT.Fx (w4.heap.size + 1) w5.heap.size w20 [.int .i64 x1.1, .slice ad64 x1.2.length ad64'] (mkRel (1 + cntTpl x0) x1) := d419.below gw20
  have d452 : opT.Fx (w5.heap.size + 1) mid71 w20 [.int .i64 (boO x0 x1).1, .slice ad91 (boO x0 x1).2.length ad91'] (mkOp 1 (boO x0 x1)) := d420.below gw20
  have d453 : intsT.Fx mid71 w6.heap.size w20 [.slice ad94 (boT x0 x1).length ad94'] (mkI (1 + cntOp (boO x0 x1)) (boT x0 x1)) := d421.below gw20
  have d454 : intsT.Fx w18.heap.size w19.heap.size w20 [.slice ad422 (boT x0 x1).length ad422'] (boT x0 x1) := d423.below gw20
  have d455 : opT.Fx w18.heap.size w19.heap.size w20 [.int .i64 (boO x0 x1).1, .slice ad393 (boO x0 x1).2.length ad393'] (boO x0 x1) := d425.below gw20
  clear hb20 H_w19 f398 f399 f400 f401 f402 f403 f404 f405 f406 f407 f408 f409 f394 f395 d416 d417 d418 d419 d420 d421 d423 d425 z410 z411 z412 z413 z414 z415 gw20
  rw [eqB_true rfl]
  go_wp2_with fail
  refine (eqInt64S_any _ (d454.rd.below (by repeat (first | exact Below.refl _ _ | exact bA | assumption | refine Below.setCell ?_ (by first | omega | (simp; try omega)) _ | refine Below.alloc ?_ (by first | omega | (simp; try omega)) _ | refine Below.drew ?_ | refine bDN ?_ | refine bthen ?_ (by assumption)))) (d448.rd.below (by repeat (first | exact Below.refl _ _ | exact bA | assumption | refine Below.setCell ?_ (by first | omega | (simp; try omega)) _ | refine Below.alloc ?_ (by first | omega | (simp; try omega)) _ | refine Below.drew ?_ | refine bDN ?_ | refine bthen ?_ (by assumption))))).mono ?_
  rintro e w21 ⟨rfl, hb21⟩
  have gw21 : Below w20.heap.size w20 w21 := bthen (by repeat (first | exact Below.refl _ _ | exact bA | assumption | refine Below.setCell ?_ (by first | omega | (simp; try omega)) _ | refine Below.alloc ?_ (by first | omega | (simp; try omega)) _ | refine Below.drew ?_ | refine bDN ?_ | refine bthen ?_ (by assumption))) hb21
  have sw21 : w20.heap.size + 0 ≤ w21.heap.size := by have := hb21.size; (try simp at this); omega
  have H_w21 : Below w.heap.size w w21 := bthen H_w20 gw21
  have f456 : w21.cell? ⟨w.heap.size, 0, none⟩ = some (.int .i64 x0.1) := (gw21.cell (by first | omega | (simp; try omega))).trans f427
  have f457 : w21.cell? ⟨w.heap.size, 1, none⟩ = some (u0) := (gw21.cell (by first | omega | (simp; try omega))).trans f428
  have f458 : w21.cell? ⟨w.heap.size + 1, 0, none⟩ = some (.int .i64 x1.1) := (gw21.cell (by first | omega | (simp; try omega))).trans f429
  have f459 : w21.cell? ⟨w.heap.size + 1, 1, none⟩ = some (u1) := (gw21.cell (by first | omega | (simp; try omega))).trans f430
  have f460 : w21.cell? ⟨bb13, 0, none⟩ = some (.int .i64 (boO x0 x1).1) := (gw21.cell (by first | omega | (simp; try omega))).trans f431
  have f461 : w21.cell? ⟨bb13, 1, none⟩ = some (.slice ad17 (boO x0 x1).2.length ad17') := (gw21.cell (by first | omega | (simp; try omega))).trans f432
  have f462 : w21.cell? ⟨w4.heap.size, 0, none⟩ = some (.int .i64 x0.1) := (gw21.cell (by first | omega | (simp; try omega))).trans f433
  have f463 : w21.cell? ⟨w4.heap.size, 1, none⟩ = some (.slice ad45 x0.2.length ad45') := (gw21.cell (by first | omega | (simp; try omega))).trans f434
  have f464 : w21.cell? ⟨w5.heap.size, 0, none⟩ = some (.int .i64 x1.1) := (gw21.cell (by first | omega | (simp; try omega))).trans f435
  have f465 : w21.cell? ⟨w5.heap.size, 1, none⟩ = some (.slice ad64 x1.2.length ad64') := (gw21.cell (by first | omega | (simp; try omega))).trans f436
  have f466 : w21.cell? ⟨w6.heap.size, 0, none⟩ = some (.int .i64 (boO x0 x1).1) := (gw21.cell (by first | omega | (simp; try omega))).trans f437
  have f467 : w21.cell? ⟨w6.heap.size, 1, none⟩ = some (.slice ad91 (boO x0 x1).2.length ad91') := (gw21.cell (by first | omega | (simp; try omega))).trans f438
  have f468 : w21.cell? ⟨bb389, 0, none⟩ = some (.int .i64 (boO x0 x1).1) := (gw21.cell (by first | omega | (simp; try omega))).trans f439
  have f469 : w21.cell? ⟨bb389, 1, none⟩ = some (.slice ad393 (boO x0 x1).2.length ad393') := (gw21.cell (by first | omega | (simp; try omega))).trans f440
  have z470 : w.heap.size < w21.heap.size := by omega
  have z471 : w.heap.size + 1 < w21.heap.size := by omega
  have z472 : bb13 < w21.heap.size := by omega
  have z473 : w4.heap.size < w21.heap.size := by omega
  have z474 : w5.heap.size < w21.heap.size := by omega
  have z475 : w6.heap.size < w21.heap.size := by omega
  have z476 : bb389 < w21.heap.size := by omega
  have d477 : intsT.Fx w2.heap.size w3.heap.size w21 [.slice ad28 (boT x0 x1).length ad28'] (boT x0 x1) := d448.below gw21
  have d478 : opT.Fx w2.heap.size w3.heap.size w21 [.int .i64 (boO x0 x1).1, .slice ad17 (boO x0 x1).2.length ad17'] (boO x0 x1) := d449.below gw21
  have d479 : tplT.Fx w3.heap.size w4.heap.size w21 [.int .i64 x0.1, .slice ad45 x0.2.length ad45'] (mkTpl 1 x0) := d450.below gw21
  have d480 : relT.Fx (w4.heap.size + 1) w5.heap.size w21 [.int .i64 x1.1, .slice ad64 x1.2.length ad64'] (mkRel (1 + cntTpl x0) x1) := d451.below gw21
  have d481 : opT.Fx (w5.heap.size + 1) mid71 w21 [.int .i64 (boO x0 x1).1, .slice ad91 (boO x0 x1).2.length ad91'] (mkOp 1 (boO x0 x1)) := d452.below gw21
  have d482 : intsT.Fx mid71 w6.heap.size w21 [.slice ad94 (boT x0 x1).length ad94'] (mkI (1 + cntOp (boO x0 x1)) (boT x0 x1)) := d453.below gw21
  have d483 : intsT.Fx w18.heap.size w19.heap.size w21 [.slice ad422 (boT x0 x1).length ad422'] (boT x0 x1) := d454.below gw21
  have d484 : opT.Fx w18.heap.size w19.heap.size w21 [.int .i64 (boO x0 x1).1, .slice ad393 (boO x0 x1).2.length ad393'] (boO x0 x1) := d455.below gw21
  clear hb21 H_w20 f427 f428 f429 f430 f431 f432 f433 f434 f435 f436 f437 f438 f439 f440 d448 d449 d450 d451 d452 d453 d454 d455 z441 z442 z443 z444 z445 z446 z447 gw21
  rw [eqB_true rfl]
  go_wp2_with fail
  refine (heldOp_any _ _ d481.rd (by omega) (by omega)).mono ?_
  rintro e w22 ⟨rfl, hb22⟩
  have gw22 : Below w21.heap.size w21 w22 := bthen (by repeat (first | exact Below.refl _ _ | exact bA | assumption | refine Below.setCell ?_ (by first | omega | (simp; try omega)) _ | refine Below.alloc ?_ (by first | omega | (simp; try omega)) _ | refine Below.drew ?_ | refine bDN ?_ | refine bthen ?_ (by assumption))) hb22
  have sw22 : w21.heap.size + 0 ≤ w22.heap.size := by have := hb22.size; (try simp at this); omega
  have H_w22 : Below w.heap.size w w22 := bthen H_w21 gw22
  have f485 : w22.cell? ⟨w.heap.size, 0, none⟩ = some (.int .i64 x0.1) := (gw22.cell (by first | omega | (simp; try omega))).trans f456
  have f486 : w22.cell? ⟨w.heap.size, 1, none⟩ = some (u0) := (gw22.cell (by first | omega | (simp; try omega))).trans f457
  have f487 : w22.cell? ⟨w.heap.size + 1, 0, none⟩ = some (.int .i64 x1.1) := (gw22.cell (by first | omega | (simp; try omega))).trans f458
  have f488 : w22.cell? ⟨w.heap.size + 1, 1, none⟩ = some (u1) := (gw22.cell (by first | omega | (simp; try omega))).trans f459
  have f489 : w22.cell? ⟨bb13, 0, none⟩ = some (.int .i64 (boO x0 x1).1) := (gw22.cell (by first | omega | (simp; try omega))).trans f460
  have f490 : w22.cell? ⟨bb13, 1, none⟩ = some (.slice ad17 (boO x0 x1).2.length ad17') := (gw22.cell (by first | omega | (simp; try omega))).trans f461
  have f491 : w22.cell? ⟨w4.heap.size, 0, none⟩ = some (.int .i64 x0.1) := (gw22.cell (by first | omega | (simp; try omega))).trans f462
  have f492 : w22.cell? ⟨w4.heap.size, 1, none⟩ = some (.slice ad45 x0.2.length ad45') := (gw22.cell (by first | omega | (simp; try omega))).trans f463
  have f493 : w22.cell? ⟨w5.heap.size, 0, none⟩ = some (.int .i64 x1.1) := (gw22.cell (by first | omega | (simp; try omega))).trans f464
  have f494 : w22.cell? ⟨w5.heap.size, 1, none⟩ = some (.slice ad64 x1.2.length ad64') := (gw22.cell (by first | omega | (simp; try omega))).trans f465
  have f495 : w22.cell? ⟨w6.heap.size, 0, none⟩ = some (.int .i64 (boO x0 x1).1) := (gw22.cell (by first | omega | (simp; try omega))).trans f466
  have f496 : w22.cell? ⟨w6.heap.size, 1, none⟩ = some (.slice ad91 (boO x0 x1).2.length ad91') := (gw22.cell (by first | omega | (simp; try omega))).trans f467
  have f497 : w22.cell? ⟨bb389, 0, none⟩ = some (.int .i64 (boO x0 x1).1) := (gw22.cell (by first | omega | (simp; try omega))).trans f468
  have f498 : w22.cell? ⟨bb389, 1, none⟩ = some (.slice ad393 (boO x0 x1).2.length ad393') := (gw22.cell (by first | omega | (simp; try omega))).trans f469
  have z499 : w.heap.size < w22.heap.size := by omega
  have z500 : w.heap.size + 1 < w22.heap.size := by omega
  have z501 : bb13 < w22.heap.size := by omega
  have z502 : w4.heap.size < w22.heap.size := by omega
  have z503 : w5.heap.size < w22.heap.size := by omega
  have z504 : w6.heap.size < w22.heap.size := by omega
  have z505 : bb389 < w22.heap.size := by omega
  have d506 : intsT.Fx w2.heap.size w3.heap.size w22 [.slice ad28 (boT x0 x1).length ad28'] (boT x0 x1) := d477.below gw22
  have d507 : opT.Fx w2.heap.size w3.heap.size w22 [.int .i64 (boO x0 x1).1, .slice ad17 (boO x0 x1).2.length ad17'] (boO x0 x1) := d478.below gw22
  have d508 : tplT.Fx w3.heap.size w4.heap.size w22 [.int .i64 x0.1, .slice ad45 x0.2.length ad45'] (mkTpl 1 x0) := d479.below gw22
  have d509 : relT.Fx (w4.heap.size + 1) w5.heap.size w22 [.int .i64 x1.1, .slice ad64 x1.2.length ad64'] (mkRel (1 + cntTpl x0) x1) := d480.below gw22
  have d510 : opT.Fx (w5.heap.size + 1) mid71 w22 [.int .i64 (boO x0 x1).1, .slice ad91 (boO x0 x1).2.length ad91'] (mkOp 1 (boO x0 x1)) := d481.below gw22
  have d511 : intsT.Fx mid71 w6.heap.size w22 [.slice ad94 (boT x0 x1).length ad94'] (mkI (1 + cntOp (boO x0 x1)) (boT x0 x1)) := d482.below gw22
  have d512 : intsT.Fx w18.heap.size w19.heap.size w22 [.slice ad422 (boT x0 x1).length ad422'] (boT x0 x1) := d483.below gw22
  have d513 : opT.Fx w18.heap.size w19.heap.size w22 [.int .i64 (boO x0 x1).1, .slice ad393 (boO x0 x1).2.length ad393'] (boO x0 x1) := d484.below gw22
  clear hb22 H_w21 f456 f457 f458 f459 f460 f461 f462 f463 f464 f465 f466 f467 f468 f469 d477 d478 d479 d480 d481 d482 d483 d484 z470 z471 z472 z473 z474 z475 z476 gw22
  go_wp2_with fail
  refine (heldInt64S_any _ _ d511.rd (by omega) (by omega)).mono ?_
  rintro e w23 ⟨rfl, hb23⟩
  have gw23 : Below w22.heap.size w22 w23 := bthen (by repeat (first | exact Below.refl _ _ | exact bA | assumption | refine Below.setCell ?_ (by first | omega | (simp; try omega)) _ | refine Below.alloc ?_ (by first | omega | (simp; try omega)) _ | refine Below.drew ?_ | refine bDN ?_ | refine bthen ?_ (by assumption))) hb23
  have sw23 : w22.heap.size + 0 ≤ w23.heap.size := by have := hb23.size; (try simp at this); omega
  have H_w23 : Below w.heap.size w w23 := bthen H_w22 gw23
  have f514 : w23.cell? ⟨w.heap.size, 0, none⟩ = some (.int .i64 x0.1) := (gw23.cell (by first | omega | (simp; try omega))).trans f485
  have f515 : w23.cell? ⟨w.heap.size, 1, none⟩ = some (u0) := (gw23.cell (by first | omega | (simp; try omega))).trans f486
  have f516 : w23.cell? ⟨w.heap.size + 1, 0, none⟩ = some (.int .i64 x1.1) := (gw23.cell (by first | omega | (simp; try omega))).trans f487
  have f517 : w23.cell? ⟨w.heap.size + 1, 1, none⟩ = some (u1) := (gw23.cell (by first | omega | (simp; try omega))).trans f488
  have f518 : w23.cell? ⟨bb13, 0, none⟩ = some (.int .i64 (boO x0 x1).1) := (gw23.cell (by first | omega | (simp; try omega))).trans f489
  have f519 : w23.cell? ⟨bb13, 1, none⟩ = some (.slice ad17 (boO x0 x1).2.length ad17') := (gw23.cell (by first | omega | (simp; try omega))).trans f490
  have f520 : w23.cell? ⟨w4.heap.size, 0, none⟩ = some (.int .i64 x0.1) := (gw23.cell (by first | omega | (simp; try omega))).trans f491
  have f521 : w23.cell? ⟨w4.heap.size, 1, none⟩ = some (.slice ad45 x0.2.length ad45') := (gw23.cell (by first | omega | (simp; try omega))).trans f492
  have f522 : w23.cell? ⟨w5.heap.size, 0, none⟩ = some (.int .i64 x1.1) := (gw23.cell (by first | omega | (simp; try omega))).trans f493
  have f523 : w23.cell? ⟨w5.heap.size, 1, none⟩ = some (.slice ad64 x1.2.length ad64') := (gw23.cell (by first | omega | (simp; try omega))).trans f494
  have f524 : w23.cell? ⟨w6.heap.size, 0, none⟩ = some (.int .i64 (boO x0 x1).1) := (gw23.cell (by first | omega | (simp; try omega))).trans f495
  have f525 : w23.cell? ⟨w6.heap.size, 1, none⟩ = some (.slice ad91 (boO x0 x1).2.length ad91') := (gw23.cell (by first | omega | (simp; try omega))).trans f496
  have f526 : w23.cell? ⟨bb389, 0, none⟩ = some (.int .i64 (boO x0 x1).1) := (gw23.cell (by first | omega | (simp; try omega))).trans f497
  have f527 : w23.cell? ⟨bb389, 1, none⟩ = some (.slice ad393 (boO x0 x1).2.length ad393') := (gw23.cell (by first | omega | (simp; try omega))).trans f498
  have z528 : w.heap.size < w23.heap.size := by omega
  have z529 : w.heap.size + 1 < w23.heap.size := by omega
  have z530 : bb13 < w23.heap.size := by omega
  have z531 : w4.heap.size < w23.heap.size := by omega
  have z532 : w5.heap.size < w23.heap.size := by omega
  have z533 : w6.heap.size < w23.heap.size := by omega
  have z534 : bb389 < w23.heap.size := by omega
  have d535 : intsT.Fx w2.heap.size w3.heap.size w23 [.slice ad28 (boT x0 x1).length ad28'] (boT x0 x1) := d506.below gw23
  have d536 : opT.Fx w2.heap.size w3.heap.size w23 [.int .i64 (boO x0 x1).1, .slice ad17 (boO x0 x1).2.length ad17'] (boO x0 x1) := d507.below gw23
  have d537 : tplT.Fx w3.heap.size w4.heap.size w23 [.int .i64 x0.1, .slice ad45 x0.2.length ad45'] (mkTpl 1 x0) := d508.below gw23
  have d538 : relT.Fx (w4.heap.size + 1) w5.heap.size w23 [.int .i64 x1.1, .slice ad64 x1.2.length ad64'] (mkRel (1 + cntTpl x0) x1) := d509.below gw23
  have d539 : opT.Fx (w5.heap.size + 1) mid71 w23 [.int .i64 (boO x0 x1).1, .slice ad91 (boO x0 x1).2.length ad91'] (mkOp 1 (boO x0 x1)) := d510.below gw23
  have d540 : intsT.Fx mid71 w6.heap.size w23 [.slice ad94 (boT x0 x1).length ad94'] (mkI (1 + cntOp (boO x0 x1)) (boT x0 x1)) := d511.below gw23
  have d541 : intsT.Fx w18.heap.size w19.heap.size w23 [.slice ad422 (boT x0 x1).length ad422'] (boT x0 x1) := d512.below gw23
  have d542 : opT.Fx w18.heap.size w19.heap.size w23 [.int .i64 (boO x0 x1).1, .slice ad393 (boO x0 x1).2.length ad393'] (boO x0 x1) := d513.below gw23
  clear hb23 H_w22 f485 f486 f487 f488 f489 f490 f491 f492 f493 f494 f495 f496 f497 f498 d506 d507 d508 d509 d510 d511 d512 d513 z499 z500 z501 z502 z503 z504 z505 gw23
  go_wp2_with fail
  go_ret
  exact ⟨rfl, (by repeat (first | exact Below.refl _ _ | exact bA | assumption | refine Below.setCell ?_ (by first | omega | (simp; try omega)) _ | refine Below.alloc ?_ (by first | omega | (simp; try omega)) _ | refine Below.drew ?_ | refine bDN ?_ | refine bthen ?_ (by assumption)))⟩
end Go.Proofs.Ytccobadobklbpaa
