/-
  The law FnExactFirstSolution, walked: its contract.
-/
import Derived.Test.YtbpjejhjlmpcjaaS9
import Derived.Test.YtbpjejhjlmpcjaaKM
import Derived.Test.YtbpjejhjlmpcjaaKT
import Derived.Test.YtbpjejhjlmpcjaaLoose2
namespace Go.Proofs.Ytbpjejhjlmpcjaa
open Go.RowKit Go.Sort
set_option maxHeartbeats 6400000 in
set_option maxRecDepth 100000 in
theorem fnExactFirstSolution_any (w : World) {c0 : Array Value} {x0 : Int × List (Int × List (List Int))} (h0 : tplT.Rd w c0.toList x0) {c1 : Array Value} {x1 : Int × List (Int × List Int)} (h1 : instT.Rd w c1.toList x1) :
    Calls Try.prog 6 #[.agg c0, .agg c1] w fun e w' => e = .returned (.bool true) ∧ Below w.heap.size w w' := by
  have hx0 := h0
  obtain ⟨u0, hv0, -, hy0⟩ := pair_ex h0
  obtain rfl := agg_of hv0
  clear hv0 h0
  have hn0 := szTpl_nn x0
  have hcn0 : cntTpl x0 ≤ szTpl x0 := cntRels_sz x0.2
  have hcz0 : 0 ≤ cntTpl x0 := cntRels_nn x0.2
  have hx1 := h1
  obtain ⟨u1, hv1, -, hy1⟩ := pair_ex h1
  obtain rfl := agg_of hv1
  clear hv1 h1
  have hn1 := szInst_nn x1
  have hcn1 : cntInst x1 ≤ szInst x1 := cntOps_sz x1.2
  have hcz1 : 0 ≤ cntInst x1 := cntOps_nn x1.2
  have H_w : Below w.heap.size w w := Below.refl _ _
  go_enter Try.func6, Try.ntmps6
  go_wp2_with fail
  refine (szTemplate_any _ (hx0.below (by repeat (first | exact Below.refl _ _ | exact bA | assumption | refine Below.setCell ?_ (by first | omega | (simp; try omega)) _ | refine Below.alloc ?_ (by first | omega | (simp; try omega)) _ | refine Below.drew ?_ | refine bDN ?_ | refine bthen ?_ (by assumption)))) _ (by omega) (by omega)).mono ?_
  rintro e w1 ⟨rfl, hb1⟩
  have gw1 : Below w.heap.size w w1 := bthen (by repeat (first | exact Below.refl _ _ | exact bA | assumption | refine Below.setCell ?_ (by first | omega | (simp; try omega)) _ | refine Below.alloc ?_ (by first | omega | (simp; try omega)) _ | refine Below.drew ?_ | refine bDN ?_ | refine bthen ?_ (by assumption))) hb1
  have sw1 : w.heap.size + 2 ≤ w1.heap.size := by have := hb1.size; (try simp at this); omega
  have H_w1 : Below w.heap.size w w1 := bthen H_w gw1
  have f1 : w1.cell? ⟨w.heap.size, 0, none⟩ = some (.int .i64 x0.1) := by rw [(bcell hb1).1 _ _ (by first | omega | (simp; try omega))]; first | (simp; done) | simp [go_sem]
  have f2 : w1.cell? ⟨w.heap.size, 1, none⟩ = some (u0) := by rw [(bcell hb1).1 _ _ (by first | omega | (simp; try omega))]; first | (simp; done) | simp [go_sem]
  have f3 : w1.cell? ⟨w.heap.size + 1, 0, none⟩ = some (.int .i64 x1.1) := by rw [(bcell hb1).1 _ _ (by first | omega | (simp; try omega))]; first | (simp; done) | simp [go_sem]
  have f4 : w1.cell? ⟨w.heap.size + 1, 1, none⟩ = some (u1) := by rw [(bcell hb1).1 _ _ (by first | omega | (simp; try omega))]; first | (simp; done) | simp [go_sem]
  have z5 : w.heap.size < w1.heap.size := by omega
  have z6 : w.heap.size + 1 < w1.heap.size := by omega
  clear hb1 gw1
  rcases ilt 1048576 (szTpl x0) with hl2 | hl2
  · rw [szR_lt hl2]
    go_wp2_with fail
    go_ret
    exact ⟨rfl, (by repeat (first | exact Below.refl _ _ | exact bA | assumption | refine Below.setCell ?_ (by first | omega | (simp; try omega)) _ | refine Below.alloc ?_ (by first | omega | (simp; try omega)) _ | refine Below.drew ?_ | refine bDN ?_ | refine bthen ?_ (by assumption)))⟩
  rw [szR_ge hl2]
  go_wp2_with fail
  refine (szInstance_any _ (hx1.below (by repeat (first | exact Below.refl _ _ | exact bA | assumption | refine Below.setCell ?_ (by first | omega | (simp; try omega)) _ | refine Below.alloc ?_ (by first | omega | (simp; try omega)) _ | refine Below.drew ?_ | refine bDN ?_ | refine bthen ?_ (by assumption)))) _ (by omega) (by omega)).mono ?_
  rintro e w2 ⟨rfl, hb2⟩
  have gw2 : Below w1.heap.size w1 w2 := bthen (by repeat (first | exact Below.refl _ _ | exact bA | assumption | refine Below.setCell ?_ (by first | omega | (simp; try omega)) _ | refine Below.alloc ?_ (by first | omega | (simp; try omega)) _ | refine Below.drew ?_ | refine bDN ?_ | refine bthen ?_ (by assumption))) hb2
  have sw2 : w1.heap.size + 0 ≤ w2.heap.size := by have := hb2.size; (try simp at this); omega
  have H_w2 : Below w.heap.size w w2 := bthen H_w1 gw2
  have f7 : w2.cell? ⟨w.heap.size, 0, none⟩ = some (.int .i64 x0.1) := (gw2.cell (by first | omega | (simp; try omega))).trans f1
  have f8 : w2.cell? ⟨w.heap.size, 1, none⟩ = some (u0) := (gw2.cell (by first | omega | (simp; try omega))).trans f2
  have f9 : w2.cell? ⟨w.heap.size + 1, 0, none⟩ = some (.int .i64 x1.1) := (gw2.cell (by first | omega | (simp; try omega))).trans f3
  have f10 : w2.cell? ⟨w.heap.size + 1, 1, none⟩ = some (u1) := (gw2.cell (by first | omega | (simp; try omega))).trans f4
  have z11 : w.heap.size < w2.heap.size := by omega
  have z12 : w.heap.size + 1 < w2.heap.size := by omega
  clear hb2 H_w1 f1 f2 f3 f4 z5 z6 gw2
  rcases ilt (1048576 - szTpl x0) (szInst x1) with hl5 | hl5
  · rw [szR_lt hl5]
    go_wp2_with fail
    go_ret
    exact ⟨rfl, (by repeat (first | exact Below.refl _ _ | exact bA | assumption | refine Below.setCell ?_ (by first | omega | (simp; try omega)) _ | refine Below.alloc ?_ (by first | omega | (simp; try omega)) _ | refine Below.drew ?_ | refine bDN ?_ | refine bthen ?_ (by assumption)))⟩
  rw [szR_ge hl5]
  go_wp2_with fail
  have hcr1 : cntI (fsV x0 x1) ≤ 1000000000 := (Int.le_trans fs_cnt (by omega))
  have hcrz1 : 0 ≤ cntI (fsV x0 x1) := cntI_nn _
  refine wp_region_loose [exV (.agg #[.int .i64 x0.1, u0]), rdA tplT x0, exV (.agg #[.int .i64 x1.1, u1]), rdA instT x1, frTS intsT w2.heap.size (fsV x0 x1) (.int .i64 (fsC x0 x1)), frTS intsT w2.heap.size (fsV x0 x1) (.int .i64 (fsC x0 x1)), frS intsT w2.heap.size (fsV x0 x1), exV (.int .i64 (fsC x0 x1)), frS intsT w2.heap.size (fsV x0 x1), exV (.int .i64 (fsC x0 x1))] (by kernel_rfl) (by kernel_rfl) ⟨st_exV, st_rdA, st_exV, st_rdA, st_frTS, st_frTS, st_frS, st_exV, st_frS, st_exV, trivial⟩ ⟨?j8_0, ?j8_1, ?j8_2, ?j8_3, ?j8_4, ?j8_5, ?j8_6, ?j8_7, ?j8_8, ?j8_9, trivial⟩ ?hQ8
  case j8_0 =>
    intro a' w' hb hd
    have e0 : a'.tmps[2]?.getD undef = .pointer (some ⟨w.heap.size, 0, none⟩) := ev (slot_o hd 2 rfl rfl)
    have q : ∀ b o, b < w2.heap.size → w'.cell? ⟨b, o, none⟩ = w2.cell? ⟨b, o, none⟩ := (bcell hb).1
    go_simp
    exact ⟨Below.refl _ _, rfl⟩
  case j8_1 =>
    intro a' w' hb hd
    have e28 : a'.tmps[28]?.getD undef = .agg #[.int .i64 x0.1, u0] := ev (slot_w hd 28 (exV (.agg #[.int .i64 x0.1, u0])) rfl rfl)
    have r28 : tplT.Rd w2 (#[.int .i64 x0.1, u0] : Array Value).toList x0 := hx0.below H_w2
    have r28' := r28.below hb
    go_simp
    exact ⟨Below.refl _ _, (toTemplate_any w' r28' (by first | omega | (unfold szInts; omega))).mono fun e w'' ⟨cs, he, hf, hb⟩ => ⟨_, he, hb, cs, rfl, hf.rd⟩⟩
  case j8_2 =>
    intro a' w' hb hd
    have e0 : a'.tmps[3]?.getD undef = .pointer (some ⟨w.heap.size + 1, 0, none⟩) := ev (slot_o hd 3 rfl rfl)
    have q : ∀ b o, b < w2.heap.size → w'.cell? ⟨b, o, none⟩ = w2.cell? ⟨b, o, none⟩ := (bcell hb).1
    go_simp
    exact ⟨Below.refl _ _, rfl⟩
  case j8_3 =>
    intro a' w' hb hd
    have e30 : a'.tmps[30]?.getD undef = .agg #[.int .i64 x1.1, u1] := ev (slot_w hd 30 (exV (.agg #[.int .i64 x1.1, u1])) rfl rfl)
    have r30 : instT.Rd w2 (#[.int .i64 x1.1, u1] : Array Value).toList x1 := hx1.below H_w2
    have r30' := r30.below hb
    go_simp
    exact ⟨Below.refl _ _, (toInstance_any w' r30' (by first | omega | (unfold szInts; omega))).mono fun e w'' ⟨cs, he, hf, hb⟩ => ⟨_, he, hb, cs, rfl, hf.rd⟩⟩
  case j8_4 =>
    intro a' w' hb hd
    have d29 := slot_w hd 29 (rdA tplT x0) rfl rfl
    obtain ⟨cs29, e29, hf29⟩ := d29
    have e29' := ev e29
    have d31 := slot_w hd 31 (rdA instT x1) rfl rfl
    obtain ⟨cs31, e31, hf31⟩ := d31
    have e31' := ev e31
    go_simp
    exact ⟨Below.refl _ _, (specFirstSolution_any _ hf29 hf31).mono fun e w'' ⟨cs, he, hf, hb2⟩ => ⟨_, he, hb2, cs, rfl, hf.mono hb.size⟩⟩
  case j8_5 =>
    intro a' w' hb hd
    have d32 := slot_w hd 32 (frTS intsT w2.heap.size (fsV x0 x1) (.int .i64 (fsC x0 x1))) rfl rfl
    obtain ⟨cs32, e32, hf32⟩ := d32
    have e32' := ev e32
    go_simp
    exact ⟨Below.refl _ _, cs32, rfl, hf32⟩
  case j8_6 =>
    intro a' w' hb hd
    have d27 := slot_w hd 27 (frTS intsT w2.heap.size (fsV x0 x1) (.int .i64 (fsC x0 x1))) rfl rfl
    obtain ⟨cs27, e27, hf27⟩ := d27
    have e27' := ev e27
    go_simp
    exact ⟨Below.refl _ _, hf27⟩
  case j8_7 =>
    intro a' w' hb hd
    have d27 := slot_w hd 27 (frTS intsT w2.heap.size (fsV x0 x1) (.int .i64 (fsC x0 x1))) rfl rfl
    obtain ⟨cs27, e27, hf27⟩ := d27
    have e27' := ev e27
    go_simp
    exact ⟨Below.refl _ _, rfl⟩
  case j8_8 =>
    intro a' w' hb hd
    have d33 := slot_w hd 33 (frS intsT w2.heap.size (fsV x0 x1)) rfl rfl
    obtain ⟨ad33', cap33', e33⟩ := fr_slice d33
    rw [e33] at d33
    have hf33 := d33
    have e33' := ev e33
    go_simp
    exact ⟨Below.refl _ _, hf33⟩
  case j8_9 =>
    intro a' w' hb hd
    have e0 : a'.tmps[34]?.getD undef = .int .i64 (fsC x0 x1) := ev (slot_w hd 34 (exV (.int .i64 (fsC x0 x1))) rfl rfl)
    go_simp
    exact ⟨Below.refl _ _, rfl⟩
  intro vs8 w3 hb3 H0
  obtain ⟨v8_0, _, rfl, p0, H1⟩ := HAll_cons H0
  obtain ⟨v8_1, _, rfl, p1, H2⟩ := HAll_cons H1
  obtain ⟨v8_2, _, rfl, p2, H3⟩ := HAll_cons H2
  obtain ⟨v8_3, _, rfl, p3, H4⟩ := HAll_cons H3
  obtain ⟨v8_4, _, rfl, p4, H5⟩ := HAll_cons H4
  obtain ⟨v8_5, _, rfl, p5, H6⟩ := HAll_cons H5
  obtain ⟨v8_6, _, rfl, p6, H7⟩ := HAll_cons H6
  obtain ⟨v8_7, _, rfl, p7, H8⟩ := HAll_cons H7
  obtain ⟨v8_8, _, rfl, p8, H9⟩ := HAll_cons H8
  obtain ⟨v8_9, _, rfl, p9, H10⟩ := HAll_cons H9
  obtain rfl := HAll_nil H10
  obtain rfl := p0 rfl
  obtain rfl := p2 rfl
  obtain rfl := p7 rfl
  obtain rfl := p9 rfl
  have hc13 := p8 rfl
  clear p0 p1 p2 p3 p4 p5 p6 p7 p8 p9 H0 H1 H2 H3 H4 H5 H6 H7 H8 H9 H10
  have gw3 : Below w2.heap.size w2 w3 := bthen (by repeat (first | exact Below.refl _ _ | exact bA | assumption | refine Below.setCell ?_ (by first | omega | (simp; try omega)) _ | refine Below.alloc ?_ (by first | omega | (simp; try omega)) _ | refine Below.drew ?_ | refine bDN ?_ | refine bthen ?_ (by assumption))) hb3
  have sw3 : w2.heap.size + 0 ≤ w3.heap.size := by have := hb3.size; (try simp at this); omega
  have H_w3 : Below w.heap.size w w3 := bthen H_w2 gw3
  have f14 : w3.cell? ⟨w.heap.size, 0, none⟩ = some (.int .i64 x0.1) := (gw3.cell (by first | omega | (simp; try omega))).trans f7
  have f15 : w3.cell? ⟨w.heap.size, 1, none⟩ = some (u0) := (gw3.cell (by first | omega | (simp; try omega))).trans f8
  have f16 : w3.cell? ⟨w.heap.size + 1, 0, none⟩ = some (.int .i64 x1.1) := (gw3.cell (by first | omega | (simp; try omega))).trans f9
  have f17 : w3.cell? ⟨w.heap.size + 1, 1, none⟩ = some (u1) := (gw3.cell (by first | omega | (simp; try omega))).trans f10
  have z18 : w.heap.size < w3.heap.size := by omega
  have z19 : w.heap.size + 1 < w3.heap.size := by omega
  clear hb3 H_w2 f7 f8 f9 f10 z11 z12 gw3
  obtain ⟨ad20, ad20', rfl⟩ := fr_slice hc13
  have d21 : intsT.Fx w2.heap.size w3.heap.size w3 [.slice ad20 (fsV x0 x1).length ad20'] (fsV x0 x1) := (Ty.Fr.mono hc13 (by first | exact Nat.le_refl _ | (simp; try omega))).fx
  clear hc13
  simp only [putAll, Act.put]
  go_simp
  go_wp2_with fail
  refine (toTemplate_any _ (hx0.below (by repeat (first | exact Below.refl _ _ | exact bA | assumption | refine Below.setCell ?_ (by first | omega | (simp; try omega)) _ | refine Below.alloc ?_ (by first | omega | (simp; try omega)) _ | refine Below.drew ?_ | refine bDN ?_ | refine bthen ?_ (by assumption)))) (by first | omega | (unfold szInts; omega))).mono ?_
  rintro e w4 ⟨cs, rfl, hc23, hb4⟩
  have gw4 : Below w3.heap.size w3 w4 := bthen (by repeat (first | exact Below.refl _ _ | exact bA | assumption | refine Below.setCell ?_ (by first | omega | (simp; try omega)) _ | refine Below.alloc ?_ (by first | omega | (simp; try omega)) _ | refine Below.drew ?_ | refine bDN ?_ | refine bthen ?_ (by assumption))) hb4
  have sw4 : w3.heap.size + 0 ≤ w4.heap.size := by have := hb4.size; (try simp at this); omega
  have H_w4 : Below w.heap.size w w4 := bthen H_w3 gw4
  have f24 : w4.cell? ⟨w.heap.size, 0, none⟩ = some (.int .i64 x0.1) := (gw4.cell (by first | omega | (simp; try omega))).trans f14
  have f25 : w4.cell? ⟨w.heap.size, 1, none⟩ = some (u0) := (gw4.cell (by first | omega | (simp; try omega))).trans f15
  have f26 : w4.cell? ⟨w.heap.size + 1, 0, none⟩ = some (.int .i64 x1.1) := (gw4.cell (by first | omega | (simp; try omega))).trans f16
  have f27 : w4.cell? ⟨w.heap.size + 1, 1, none⟩ = some (u1) := (gw4.cell (by first | omega | (simp; try omega))).trans f17
  have z28 : w.heap.size < w4.heap.size := by omega
  have z29 : w.heap.size + 1 < w4.heap.size := by omega
  have d30 : intsT.Fx w2.heap.size w3.heap.size w4 [.slice ad20 (fsV x0 x1).length ad20'] (fsV x0 x1) := d21.below gw4
  clear hb4 H_w3 f14 f15 f16 f17 d21 z18 z19 gw4
  obtain ⟨ad31, ad31', rfl⟩ := fr_pair hc23
  have d32 : tplT.Fx w3.heap.size w4.heap.size w4 [.int .i64 x0.1, .slice ad31 x0.2.length ad31'] x0 := (Ty.Fr.mono hc23 (by first | exact Nat.le_refl _ | (simp; try omega))).fx
  clear hc23
  go_wp2_with fail
  refine (toInstance_any _ (hx1.below (by repeat (first | exact Below.refl _ _ | exact bA | assumption | refine Below.setCell ?_ (by first | omega | (simp; try omega)) _ | refine Below.alloc ?_ (by first | omega | (simp; try omega)) _ | refine Below.drew ?_ | refine bDN ?_ | refine bthen ?_ (by assumption)))) (by first | omega | (unfold szInts; omega))).mono ?_
  rintro e w5 ⟨cs, rfl, hc34, hb5⟩
  have gw5 : Below w4.heap.size w4 w5 := bthen (by repeat (first | exact Below.refl _ _ | exact bA | assumption | refine Below.setCell ?_ (by first | omega | (simp; try omega)) _ | refine Below.alloc ?_ (by first | omega | (simp; try omega)) _ | refine Below.drew ?_ | refine bDN ?_ | refine bthen ?_ (by assumption))) hb5
  have sw5 : w4.heap.size + 1 ≤ w5.heap.size := by have := hb5.size; (try simp at this); omega
  have H_w5 : Below w.heap.size w w5 := bthen H_w4 gw5
  have f35 : w5.cell? ⟨w.heap.size, 0, none⟩ = some (.int .i64 x0.1) := (gw5.cell (by first | omega | (simp; try omega))).trans f24
  have f36 : w5.cell? ⟨w.heap.size, 1, none⟩ = some (u0) := (gw5.cell (by first | omega | (simp; try omega))).trans f25
  have f37 : w5.cell? ⟨w.heap.size + 1, 0, none⟩ = some (.int .i64 x1.1) := (gw5.cell (by first | omega | (simp; try omega))).trans f26
  have f38 : w5.cell? ⟨w.heap.size + 1, 1, none⟩ = some (u1) := (gw5.cell (by first | omega | (simp; try omega))).trans f27
  have f39 : w5.cell? ⟨w4.heap.size, 0, none⟩ = some (.int .i64 x0.1) := by rw [(bcell hb5).1 _ _ (by first | omega | (simp; try omega))]; first | (simp; done) | simp [go_sem]
  have f40 : w5.cell? ⟨w4.heap.size, 1, none⟩ = some (.slice ad31 x0.2.length ad31') := by rw [(bcell hb5).1 _ _ (by first | omega | (simp; try omega))]; first | (simp; done) | simp [go_sem]
  have z41 : w.heap.size < w5.heap.size := by omega
  have z42 : w.heap.size + 1 < w5.heap.size := by omega
  have z43 : w4.heap.size < w5.heap.size := by omega
  have d44 : intsT.Fx w2.heap.size w3.heap.size w5 [.slice ad20 (fsV x0 x1).length ad20'] (fsV x0 x1) := d30.below gw5
  have d45 : tplT.Fx w3.heap.size w4.heap.size w5 [.int .i64 x0.1, .slice ad31 x0.2.length ad31'] x0 := d32.below gw5
  clear hb5 H_w4 f24 f25 f26 f27 d30 d32 z28 z29 gw5
  obtain ⟨ad46, ad46', rfl⟩ := fr_pair hc34
  have d47 : instT.Fx (w4.heap.size + 1) w5.heap.size w5 [.int .i64 x1.1, .slice ad46 x1.2.length ad46'] x1 := (Ty.Fr.mono hc34 (by first | exact Nat.le_refl _ | (simp; try omega))).fx
  clear hc34
  go_wp2_with fail
  refine (FirstSolution_any _ (d45.rd.below (by repeat (first | exact Below.refl _ _ | exact bA | assumption | refine Below.setCell ?_ (by first | omega | (simp; try omega)) _ | refine Below.alloc ?_ (by first | omega | (simp; try omega)) _ | refine Below.drew ?_ | refine bDN ?_ | refine bthen ?_ (by assumption)))) (d47.rd.below (by repeat (first | exact Below.refl _ _ | exact bA | assumption | refine Below.setCell ?_ (by first | omega | (simp; try omega)) _ | refine Below.alloc ?_ (by first | omega | (simp; try omega)) _ | refine Below.drew ?_ | refine bDN ?_ | refine bthen ?_ (by assumption))))).mono ?_
  rintro e w6 ⟨cs, rfl, hc49, hb6⟩
  have gw6 : Below w5.heap.size w5 w6 := bthen (by repeat (first | exact Below.refl _ _ | exact bA | assumption | refine Below.setCell ?_ (by first | omega | (simp; try omega)) _ | refine Below.alloc ?_ (by first | omega | (simp; try omega)) _ | refine Below.drew ?_ | refine bDN ?_ | refine bthen ?_ (by assumption))) hb6
  have sw6 : w5.heap.size + 1 ≤ w6.heap.size := by have := hb6.size; (try simp at this); omega
  have H_w6 : Below w.heap.size w w6 := bthen H_w5 gw6
  have f50 : w6.cell? ⟨w.heap.size, 0, none⟩ = some (.int .i64 x0.1) := (gw6.cell (by first | omega | (simp; try omega))).trans f35
  have f51 : w6.cell? ⟨w.heap.size, 1, none⟩ = some (u0) := (gw6.cell (by first | omega | (simp; try omega))).trans f36
  have f52 : w6.cell? ⟨w.heap.size + 1, 0, none⟩ = some (.int .i64 x1.1) := (gw6.cell (by first | omega | (simp; try omega))).trans f37
  have f53 : w6.cell? ⟨w.heap.size + 1, 1, none⟩ = some (u1) := (gw6.cell (by first | omega | (simp; try omega))).trans f38
  have f54 : w6.cell? ⟨w4.heap.size, 0, none⟩ = some (.int .i64 x0.1) := (gw6.cell (by first | omega | (simp; try omega))).trans f39
  have f55 : w6.cell? ⟨w4.heap.size, 1, none⟩ = some (.slice ad31 x0.2.length ad31') := (gw6.cell (by first | omega | (simp; try omega))).trans f40
  have f56 : w6.cell? ⟨w5.heap.size, 0, none⟩ = some (.int .i64 x1.1) := by rw [(bcell hb6).1 _ _ (by first | omega | (simp; try omega))]; first | (simp; done) | simp [go_sem]
  have f57 : w6.cell? ⟨w5.heap.size, 1, none⟩ = some (.slice ad46 x1.2.length ad46') := by rw [(bcell hb6).1 _ _ (by first | omega | (simp; try omega))]; first | (simp; done) | simp [go_sem]
  have z58 : w.heap.size < w6.heap.size := by omega
  have z59 : w.heap.size + 1 < w6.heap.size := by omega
  have z60 : w4.heap.size < w6.heap.size := by omega
  have z61 : w5.heap.size < w6.heap.size := by omega
  have d62 : intsT.Fx w2.heap.size w3.heap.size w6 [.slice ad20 (fsV x0 x1).length ad20'] (fsV x0 x1) := d44.below gw6
  have d63 : tplT.Fx w3.heap.size w4.heap.size w6 [.int .i64 x0.1, .slice ad31 x0.2.length ad31'] x0 := d45.below gw6
  have d64 : instT.Fx (w4.heap.size + 1) w5.heap.size w6 [.int .i64 x1.1, .slice ad46 x1.2.length ad46'] x1 := d47.below gw6
  clear hb6 H_w5 f35 f36 f37 f38 f39 f40 d44 d45 d47 z41 z42 z43 gw6
  obtain ⟨ad65, ad65', rfl⟩ := fr_slice hc49
  have d66 : intsT.Fx (w5.heap.size + 1) w6.heap.size w6 [.slice ad65 (fsV x0 x1).length ad65'] (fsV x0 x1) := (Ty.Fr.mono hc49 (by first | exact Nat.le_refl _ | (simp; try omega))).fx
  clear hc49
  go_wp2_with fail
  refine (eqInt64S_any _ (d66.rd.below (by repeat (first | exact Below.refl _ _ | exact bA | assumption | refine Below.setCell ?_ (by first | omega | (simp; try omega)) _ | refine Below.alloc ?_ (by first | omega | (simp; try omega)) _ | refine Below.drew ?_ | refine bDN ?_ | refine bthen ?_ (by assumption)))) (d62.rd.below (by repeat (first | exact Below.refl _ _ | exact bA | assumption | refine Below.setCell ?_ (by first | omega | (simp; try omega)) _ | refine Below.alloc ?_ (by first | omega | (simp; try omega)) _ | refine Below.drew ?_ | refine bDN ?_ | refine bthen ?_ (by assumption))))).mono ?_
  rintro e w7 ⟨rfl, hb7⟩
  have gw7 : Below w6.heap.size w6 w7 := bthen (by repeat (first | exact Below.refl _ _ | exact bA | assumption | refine Below.setCell ?_ (by first | omega | (simp; try omega)) _ | refine Below.alloc ?_ (by first | omega | (simp; try omega)) _ | refine Below.drew ?_ | refine bDN ?_ | refine bthen ?_ (by assumption))) hb7
  have sw7 : w6.heap.size + 0 ≤ w7.heap.size := by have := hb7.size; (try simp at this); omega
  have H_w7 : Below w.heap.size w w7 := bthen H_w6 gw7
  have f68 : w7.cell? ⟨w.heap.size, 0, none⟩ = some (.int .i64 x0.1) := (gw7.cell (by first | omega | (simp; try omega))).trans f50
  have f69 : w7.cell? ⟨w.heap.size, 1, none⟩ = some (u0) := (gw7.cell (by first | omega | (simp; try omega))).trans f51
  have f70 : w7.cell? ⟨w.heap.size + 1, 0, none⟩ = some (.int .i64 x1.1) := (gw7.cell (by first | omega | (simp; try omega))).trans f52
  have f71 : w7.cell? ⟨w.heap.size + 1, 1, none⟩ = some (u1) := (gw7.cell (by first | omega | (simp; try omega))).trans f53
  have f72 : w7.cell? ⟨w4.heap.size, 0, none⟩ = some (.int .i64 x0.1) := (gw7.cell (by first | omega | (simp; try omega))).trans f54
  have f73 : w7.cell? ⟨w4.heap.size, 1, none⟩ = some (.slice ad31 x0.2.length ad31') := (gw7.cell (by first | omega | (simp; try omega))).trans f55
  have f74 : w7.cell? ⟨w5.heap.size, 0, none⟩ = some (.int .i64 x1.1) := (gw7.cell (by first | omega | (simp; try omega))).trans f56
  have f75 : w7.cell? ⟨w5.heap.size, 1, none⟩ = some (.slice ad46 x1.2.length ad46') := (gw7.cell (by first | omega | (simp; try omega))).trans f57
  have z76 : w.heap.size < w7.heap.size := by omega
  have z77 : w.heap.size + 1 < w7.heap.size := by omega
  have z78 : w4.heap.size < w7.heap.size := by omega
  have z79 : w5.heap.size < w7.heap.size := by omega
  have d80 : intsT.Fx w2.heap.size w3.heap.size w7 [.slice ad20 (fsV x0 x1).length ad20'] (fsV x0 x1) := d62.below gw7
  have d81 : tplT.Fx w3.heap.size w4.heap.size w7 [.int .i64 x0.1, .slice ad31 x0.2.length ad31'] x0 := d63.below gw7
  have d82 : instT.Fx (w4.heap.size + 1) w5.heap.size w7 [.int .i64 x1.1, .slice ad46 x1.2.length ad46'] x1 := d64.below gw7
  have d83 : intsT.Fx (w5.heap.size + 1) w6.heap.size w7 [.slice ad65 (fsV x0 x1).length ad65'] (fsV x0 x1) := d66.below gw7
  clear hb7 H_w6 f50 f51 f52 f53 f54 f55 f56 f57 d62 d63 d64 d66 z58 z59 z60 z61 gw7
  rw [eqB_true rfl]
  go_wp2_with fail
  refine wp_region_loose [exV (.agg #[.int .i64 x0.1, .slice ad31 x0.2.length ad31']), exV (.agg #[.int .i64 x0.1, u0]), rdA tplT x0, exV (.bool true), exV (.bool false)] (by kernel_rfl) (by kernel_rfl) ⟨st_exV, st_exV, st_rdA, st_exV, st_exV, trivial⟩ ⟨?j14_0, ?j14_1, ?j14_2, ?j14_3, ?j14_4, trivial⟩ ?hQ14
  case j14_0 =>
    intro a' w' hb hd
    have e0 : a'.tmps[8]?.getD undef = .pointer (some ⟨w4.heap.size, 0, none⟩) := ev (slot_o hd 8 rfl rfl)
    have q : ∀ b o, b < w7.heap.size → w'.cell? ⟨b, o, none⟩ = w7.cell? ⟨b, o, none⟩ := (bcell hb).1
    go_simp
    exact ⟨Below.refl _ _, rfl⟩
  case j14_1 =>
    intro a' w' hb hd
    have e0 : a'.tmps[2]?.getD undef = .pointer (some ⟨w.heap.size, 0, none⟩) := ev (slot_o hd 2 rfl rfl)
    have q : ∀ b o, b < w7.heap.size → w'.cell? ⟨b, o, none⟩ = w7.cell? ⟨b, o, none⟩ := (bcell hb).1
    go_simp
    exact ⟨Below.refl _ _, rfl⟩
  case j14_2 =>
    intro a' w' hb hd
    have e55 : a'.tmps[55]?.getD undef = .agg #[.int .i64 x0.1, u0] := ev (slot_w hd 55 (exV (.agg #[.int .i64 x0.1, u0])) rfl rfl)
    have r55 : tplT.Rd w7 (#[.int .i64 x0.1, u0] : Array Value).toList x0 := hx0.below H_w7
    have r55' := r55.below hb
    go_simp
    exact ⟨Below.refl _ _, (toTemplate_any w' r55' (by first | omega | (unfold szInts; omega))).mono fun e w'' ⟨cs, he, hf, hb⟩ => ⟨_, he, hb, cs, rfl, hf.rd⟩⟩
  case j14_3 =>
    intro a' w' hb hd
    have e54 : a'.tmps[54]?.getD undef = .agg #[.int .i64 x0.1, .slice ad31 x0.2.length ad31'] := ev (slot_w hd 54 (exV (.agg #[.int .i64 x0.1, .slice ad31 x0.2.length ad31'])) rfl rfl)
    have r54 : tplT.Rd w7 (#[.int .i64 x0.1, .slice ad31 x0.2.length ad31'] : Array Value).toList x0 := d81.rd
    have r54' := r54.below hb
    have d56 := slot_w hd 56 (rdA tplT x0) rfl rfl
    obtain ⟨cs56, e56, hf56⟩ := d56
    have e56' := ev e56
    go_simp
    exact ⟨Below.refl _ _, (eqTemplate_any w' r54' hf56).mono fun e w'' ⟨he, hb⟩ => ⟨_, he, hb, exV_eqB⟩⟩
  case j14_4 =>
    intro a' w' hb hd
    have e0 : a'.tmps[57]?.getD undef = .bool true := ev (slot_w hd 57 (exV (.bool true)) rfl rfl)
    go_simp
    exact ⟨Below.refl _ _, rfl⟩
  intro vs14 w8 hb8 H0
  obtain ⟨v14_0, _, rfl, p0, H1⟩ := HAll_cons H0
  obtain ⟨v14_1, _, rfl, p1, H2⟩ := HAll_cons H1
  obtain ⟨v14_2, _, rfl, p2, H3⟩ := HAll_cons H2
  obtain ⟨v14_3, _, rfl, p3, H4⟩ := HAll_cons H3
  obtain ⟨v14_4, _, rfl, p4, H5⟩ := HAll_cons H4
  obtain rfl := HAll_nil H5
  obtain rfl := p0 rfl
  obtain rfl := p1 rfl
  obtain rfl := p3 rfl
  obtain rfl := p4 rfl
  clear p0 p1 p2 p3 p4 H0 H1 H2 H3 H4 H5
  have gw8 : Below w7.heap.size w7 w8 := bthen (by repeat (first | exact Below.refl _ _ | exact bA | assumption | refine Below.setCell ?_ (by first | omega | (simp; try omega)) _ | refine Below.alloc ?_ (by first | omega | (simp; try omega)) _ | refine Below.drew ?_ | refine bDN ?_ | refine bthen ?_ (by assumption))) hb8
  have sw8 : w7.heap.size + 0 ≤ w8.heap.size := by have := hb8.size; (try simp at this); omega
  have H_w8 : Below w.heap.size w w8 := bthen H_w7 gw8
  have f84 : w8.cell? ⟨w.heap.size, 0, none⟩ = some (.int .i64 x0.1) := (gw8.cell (by first | omega | (simp; try omega))).trans f68
  have f85 : w8.cell? ⟨w.heap.size, 1, none⟩ = some (u0) := (gw8.cell (by first | omega | (simp; try omega))).trans f69
  have f86 : w8.cell? ⟨w.heap.size + 1, 0, none⟩ = some (.int .i64 x1.1) := (gw8.cell (by first | omega | (simp; try omega))).trans f70
  have f87 : w8.cell? ⟨w.heap.size + 1, 1, none⟩ = some (u1) := (gw8.cell (by first | omega | (simp; try omega))).trans f71
  have f88 : w8.cell? ⟨w4.heap.size, 0, none⟩ = some (.int .i64 x0.1) := (gw8.cell (by first | omega | (simp; try omega))).trans f72
  have f89 : w8.cell? ⟨w4.heap.size, 1, none⟩ = some (.slice ad31 x0.2.length ad31') := (gw8.cell (by first | omega | (simp; try omega))).trans f73
  have f90 : w8.cell? ⟨w5.heap.size, 0, none⟩ = some (.int .i64 x1.1) := (gw8.cell (by first | omega | (simp; try omega))).trans f74
  have f91 : w8.cell? ⟨w5.heap.size, 1, none⟩ = some (.slice ad46 x1.2.length ad46') := (gw8.cell (by first | omega | (simp; try omega))).trans f75
  have z92 : w.heap.size < w8.heap.size := by omega
  have z93 : w.heap.size + 1 < w8.heap.size := by omega
  have z94 : w4.heap.size < w8.heap.size := by omega
  have z95 : w5.heap.size < w8.heap.size := by omega
  have d96 : intsT.Fx w2.heap.size w3.heap.size w8 [.slice ad20 (fsV x0 x1).length ad20'] (fsV x0 x1) := d80.below gw8
  have d97 : tplT.Fx w3.heap.size w4.heap.size w8 [.int .i64 x0.1, .slice ad31 x0.2.length ad31'] x0 := d81.below gw8
  have d98 : instT.Fx (w4.heap.size + 1) w5.heap.size w8 [.int .i64 x1.1, .slice ad46 x1.2.length ad46'] x1 := d82.below gw8
  have d99 : intsT.Fx (w5.heap.size + 1) w6.heap.size w8 [.slice ad65 (fsV x0 x1).length ad65'] (fsV x0 x1) := d83.below gw8
  clear hb8 H_w7 f68 f69 f70 f71 f72 f73 f74 f75 d80 d81 d82 d83 z76 z77 z78 z79 gw8
  simp only [putAll, Act.put]
  go_simp
  go_wp2_with fail
  refine wp_region_loose [exV (.agg #[.int .i64 x1.1, .slice ad46 x1.2.length ad46']), exV (.agg #[.int .i64 x1.1, u1]), rdA instT x1, exV (.bool true), exV (.bool false)] (by kernel_rfl) (by kernel_rfl) ⟨st_exV, st_exV, st_rdA, st_exV, st_exV, trivial⟩ ⟨?j16_0, ?j16_1, ?j16_2, ?j16_3, ?j16_4, trivial⟩ ?hQ16
  case j16_0 =>
    intro a' w' hb hd
    have e0 : a'.tmps[9]?.getD undef = .pointer (some ⟨w5.heap.size, 0, none⟩) := ev (slot_o hd 9 rfl rfl)
    have q : ∀ b o, b < w8.heap.size → w'.cell? ⟨b, o, none⟩ = w8.cell? ⟨b, o, none⟩ := (bcell hb).1
    go_simp
    exact ⟨Below.refl _ _, rfl⟩
  case j16_1 =>
    intro a' w' hb hd
    have e0 : a'.tmps[3]?.getD undef = .pointer (some ⟨w.heap.size + 1, 0, none⟩) := ev (slot_o hd 3 rfl rfl)
    have q : ∀ b o, b < w8.heap.size → w'.cell? ⟨b, o, none⟩ = w8.cell? ⟨b, o, none⟩ := (bcell hb).1
    go_simp
    exact ⟨Below.refl _ _, rfl⟩
  case j16_2 =>
    intro a' w' hb hd
    have e60 : a'.tmps[60]?.getD undef = .agg #[.int .i64 x1.1, u1] := ev (slot_w hd 60 (exV (.agg #[.int .i64 x1.1, u1])) rfl rfl)
    have r60 : instT.Rd w8 (#[.int .i64 x1.1, u1] : Array Value).toList x1 := hx1.below H_w8
    have r60' := r60.below hb
    go_simp
    exact ⟨Below.refl _ _, (toInstance_any w' r60' (by first | omega | (unfold szInts; omega))).mono fun e w'' ⟨cs, he, hf, hb⟩ => ⟨_, he, hb, cs, rfl, hf.rd⟩⟩
  case j16_3 =>
    intro a' w' hb hd
    have e59 : a'.tmps[59]?.getD undef = .agg #[.int .i64 x1.1, .slice ad46 x1.2.length ad46'] := ev (slot_w hd 59 (exV (.agg #[.int .i64 x1.1, .slice ad46 x1.2.length ad46'])) rfl rfl)
    have r59 : instT.Rd w8 (#[.int .i64 x1.1, .slice ad46 x1.2.length ad46'] : Array Value).toList x1 := d98.rd
    have r59' := r59.below hb
    have d61 := slot_w hd 61 (rdA instT x1) rfl rfl
    obtain ⟨cs61, e61, hf61⟩ := d61
    have e61' := ev e61
    go_simp
    exact ⟨Below.refl _ _, (eqInstance_any w' r59' hf61).mono fun e w'' ⟨he, hb⟩ => ⟨_, he, hb, exV_eqB⟩⟩
  case j16_4 =>
    intro a' w' hb hd
    have e0 : a'.tmps[62]?.getD undef = .bool true := ev (slot_w hd 62 (exV (.bool true)) rfl rfl)
    go_simp
    exact ⟨Below.refl _ _, rfl⟩
  intro vs16 w9 hb9 H0
  obtain ⟨v16_0, _, rfl, p0, H1⟩ := HAll_cons H0
  obtain ⟨v16_1, _, rfl, p1, H2⟩ := HAll_cons H1
  obtain ⟨v16_2, _, rfl, p2, H3⟩ := HAll_cons H2
  obtain ⟨v16_3, _, rfl, p3, H4⟩ := HAll_cons H3
  obtain ⟨v16_4, _, rfl, p4, H5⟩ := HAll_cons H4
  obtain rfl := HAll_nil H5
  obtain rfl := p0 rfl
  obtain rfl := p1 rfl
  obtain rfl := p3 rfl
  obtain rfl := p4 rfl
  clear p0 p1 p2 p3 p4 H0 H1 H2 H3 H4 H5
  have gw9 : Below w8.heap.size w8 w9 := bthen (by repeat (first | exact Below.refl _ _ | exact bA | assumption | refine Below.setCell ?_ (by first | omega | (simp; try omega)) _ | refine Below.alloc ?_ (by first | omega | (simp; try omega)) _ | refine Below.drew ?_ | refine bDN ?_ | refine bthen ?_ (by assumption))) hb9
  have sw9 : w8.heap.size + 0 ≤ w9.heap.size := by have := hb9.size; (try simp at this); omega
  have H_w9 : Below w.heap.size w w9 := bthen H_w8 gw9
  have f100 : w9.cell? ⟨w.heap.size, 0, none⟩ = some (.int .i64 x0.1) := (gw9.cell (by first | omega | (simp; try omega))).trans f84
  have f101 : w9.cell? ⟨w.heap.size, 1, none⟩ = some (u0) := (gw9.cell (by first | omega | (simp; try omega))).trans f85
  have f102 : w9.cell? ⟨w.heap.size + 1, 0, none⟩ = some (.int .i64 x1.1) := (gw9.cell (by first | omega | (simp; try omega))).trans f86
  have f103 : w9.cell? ⟨w.heap.size + 1, 1, none⟩ = some (u1) := (gw9.cell (by first | omega | (simp; try omega))).trans f87
  have f104 : w9.cell? ⟨w4.heap.size, 0, none⟩ = some (.int .i64 x0.1) := (gw9.cell (by first | omega | (simp; try omega))).trans f88
  have f105 : w9.cell? ⟨w4.heap.size, 1, none⟩ = some (.slice ad31 x0.2.length ad31') := (gw9.cell (by first | omega | (simp; try omega))).trans f89
  have f106 : w9.cell? ⟨w5.heap.size, 0, none⟩ = some (.int .i64 x1.1) := (gw9.cell (by first | omega | (simp; try omega))).trans f90
  have f107 : w9.cell? ⟨w5.heap.size, 1, none⟩ = some (.slice ad46 x1.2.length ad46') := (gw9.cell (by first | omega | (simp; try omega))).trans f91
  have z108 : w.heap.size < w9.heap.size := by omega
  have z109 : w.heap.size + 1 < w9.heap.size := by omega
  have z110 : w4.heap.size < w9.heap.size := by omega
  have z111 : w5.heap.size < w9.heap.size := by omega
  have d112 : intsT.Fx w2.heap.size w3.heap.size w9 [.slice ad20 (fsV x0 x1).length ad20'] (fsV x0 x1) := d96.below gw9
  have d113 : tplT.Fx w3.heap.size w4.heap.size w9 [.int .i64 x0.1, .slice ad31 x0.2.length ad31'] x0 := d97.below gw9
  have d114 : instT.Fx (w4.heap.size + 1) w5.heap.size w9 [.int .i64 x1.1, .slice ad46 x1.2.length ad46'] x1 := d98.below gw9
  have d115 : intsT.Fx (w5.heap.size + 1) w6.heap.size w9 [.slice ad65 (fsV x0 x1).length ad65'] (fsV x0 x1) := d99.below gw9
  clear hb9 H_w8 f84 f85 f86 f87 f88 f89 f90 f91 d96 d97 d98 d99 z92 z93 z94 z95 gw9
  simp only [putAll, Act.put]
  go_simp
  go_wp2_with fail
  refine (markTemplate_fx _ d113 _ (by omega) (by omega)).mono ?_
  rintro e w10 ⟨rfl, hb10, d116⟩
  clear d113
  have sw10 : w9.heap.size ≤ w10.heap.size := hb10.size
  have H_w10 : Below w.heap.size w w10 := below_tch H_w9 hb10 (by omega) (by omega)
  have f117 : w10.cell? ⟨w.heap.size, 0, none⟩ = some (.int .i64 x0.1) := (hb10.cell (by omega) (by omega)).trans f100
  have f118 : w10.cell? ⟨w.heap.size, 1, none⟩ = some (u0) := (hb10.cell (by omega) (by omega)).trans f101
  have f119 : w10.cell? ⟨w.heap.size + 1, 0, none⟩ = some (.int .i64 x1.1) := (hb10.cell (by omega) (by omega)).trans f102
  have f120 : w10.cell? ⟨w.heap.size + 1, 1, none⟩ = some (u1) := (hb10.cell (by omega) (by omega)).trans f103
  have f121 : w10.cell? ⟨w4.heap.size, 0, none⟩ = some (.int .i64 x0.1) := (hb10.cell (by omega) (by omega)).trans f104
  have f122 : w10.cell? ⟨w4.heap.size, 1, none⟩ = some (.slice ad31 x0.2.length ad31') := (hb10.cell (by omega) (by omega)).trans f105
  have f123 : w10.cell? ⟨w5.heap.size, 0, none⟩ = some (.int .i64 x1.1) := (hb10.cell (by omega) (by omega)).trans f106
  have f124 : w10.cell? ⟨w5.heap.size, 1, none⟩ = some (.slice ad46 x1.2.length ad46') := (hb10.cell (by omega) (by omega)).trans f107
  have z125 : w.heap.size < w10.heap.size := by omega
  have z126 : w.heap.size + 1 < w10.heap.size := by omega
  have z127 : w4.heap.size < w10.heap.size := by omega
  have z128 : w5.heap.size < w10.heap.size := by omega
  have d129 : intsT.Fx w2.heap.size w3.heap.size w10 [.slice ad20 (fsV x0 x1).length ad20'] (fsV x0 x1) := d112.tch hb10 (by omega)
  have d130 : instT.Fx (w4.heap.size + 1) w5.heap.size w10 [.int .i64 x1.1, .slice ad46 x1.2.length ad46'] x1 := d114.tch hb10 (by omega)
  have d131 : intsT.Fx (w5.heap.size + 1) w6.heap.size w10 [.slice ad65 (fsV x0 x1).length ad65'] (fsV x0 x1) := d115.tch hb10 (by omega)
  clear hb10 H_w9 f100 f101 f102 f103 f104 f105 f106 f107 d112 d114 d115 z108 z109 z110 z111
  have hk132 : 0 ≤ (1 + cntTpl x0) := by omega
  go_wp2_with fail
  refine (markInstance_fx _ d130 _ (by omega) (by omega)).mono ?_
  rintro e w11 ⟨rfl, hb11, d133⟩
  clear d130
  have sw11 : w10.heap.size ≤ w11.heap.size := hb11.size
  have H_w11 : Below w.heap.size w w11 := below_tch H_w10 hb11 (by omega) (by omega)
  have f134 : w11.cell? ⟨w.heap.size, 0, none⟩ = some (.int .i64 x0.1) := (hb11.cell (by omega) (by omega)).trans f117
  have f135 : w11.cell? ⟨w.heap.size, 1, none⟩ = some (u0) := (hb11.cell (by omega) (by omega)).trans f118
  have f136 : w11.cell? ⟨w.heap.size + 1, 0, none⟩ = some (.int .i64 x1.1) := (hb11.cell (by omega) (by omega)).trans f119
  have f137 : w11.cell? ⟨w.heap.size + 1, 1, none⟩ = some (u1) := (hb11.cell (by omega) (by omega)).trans f120
  have f138 : w11.cell? ⟨w4.heap.size, 0, none⟩ = some (.int .i64 x0.1) := (hb11.cell (by omega) (by omega)).trans f121
  have f139 : w11.cell? ⟨w4.heap.size, 1, none⟩ = some (.slice ad31 x0.2.length ad31') := (hb11.cell (by omega) (by omega)).trans f122
  have f140 : w11.cell? ⟨w5.heap.size, 0, none⟩ = some (.int .i64 x1.1) := (hb11.cell (by omega) (by omega)).trans f123
  have f141 : w11.cell? ⟨w5.heap.size, 1, none⟩ = some (.slice ad46 x1.2.length ad46') := (hb11.cell (by omega) (by omega)).trans f124
  have z142 : w.heap.size < w11.heap.size := by omega
  have z143 : w.heap.size + 1 < w11.heap.size := by omega
  have z144 : w4.heap.size < w11.heap.size := by omega
  have z145 : w5.heap.size < w11.heap.size := by omega
  have d146 : intsT.Fx w2.heap.size w3.heap.size w11 [.slice ad20 (fsV x0 x1).length ad20'] (fsV x0 x1) := d129.tch hb11 (by omega)
  have d147 : tplT.Fx w3.heap.size w4.heap.size w11 [.int .i64 x0.1, .slice ad31 x0.2.length ad31'] (mkTpl 1 x0) := d116.tch hb11 (by omega)
  have d148 : intsT.Fx (w5.heap.size + 1) w6.heap.size w11 [.slice ad65 (fsV x0 x1).length ad65'] (fsV x0 x1) := d131.tch hb11 (by omega)
  clear hb11 H_w10 f117 f118 f119 f120 f121 f122 f123 f124 d129 d116 d131 z125 z126 z127 z128
  have hk149 : 0 ≤ ((1 + cntTpl x0) + cntInst x1) := by omega
  go_wp2_with fail
  refine (eqInt64S_any _ (d148.rd.below (by repeat (first | exact Below.refl _ _ | exact bA | assumption | refine Below.setCell ?_ (by first | omega | (simp; try omega)) _ | refine Below.alloc ?_ (by first | omega | (simp; try omega)) _ | refine Below.drew ?_ | refine bDN ?_ | refine bthen ?_ (by assumption)))) (d146.rd.below (by repeat (first | exact Below.refl _ _ | exact bA | assumption | refine Below.setCell ?_ (by first | omega | (simp; try omega)) _ | refine Below.alloc ?_ (by first | omega | (simp; try omega)) _ | refine Below.drew ?_ | refine bDN ?_ | refine bthen ?_ (by assumption))))).mono ?_
  rintro e w12 ⟨rfl, hb12⟩
  have gw12 : Below w11.heap.size w11 w12 := bthen (by repeat (first | exact Below.refl _ _ | exact bA | assumption | refine Below.setCell ?_ (by first | omega | (simp; try omega)) _ | refine Below.alloc ?_ (by first | omega | (simp; try omega)) _ | refine Below.drew ?_ | refine bDN ?_ | refine bthen ?_ (by assumption))) hb12
  have sw12 : w11.heap.size + 0 ≤ w12.heap.size := by have := hb12.size; (try simp at this); omega
  have H_w12 : Below w.heap.size w w12 := bthen H_w11 gw12
  have f150 : w12.cell? ⟨w.heap.size, 0, none⟩ = some (.int .i64 x0.1) := (gw12.cell (by first | omega | (simp; try omega))).trans f134
  have f151 : w12.cell? ⟨w.heap.size, 1, none⟩ = some (u0) := (gw12.cell (by first | omega | (simp; try omega))).trans f135
  have f152 : w12.cell? ⟨w.heap.size + 1, 0, none⟩ = some (.int .i64 x1.1) := (gw12.cell (by first | omega | (simp; try omega))).trans f136
  have f153 : w12.cell? ⟨w.heap.size + 1, 1, none⟩ = some (u1) := (gw12.cell (by first | omega | (simp; try omega))).trans f137
  have f154 : w12.cell? ⟨w4.heap.size, 0, none⟩ = some (.int .i64 x0.1) := (gw12.cell (by first | omega | (simp; try omega))).trans f138
  have f155 : w12.cell? ⟨w4.heap.size, 1, none⟩ = some (.slice ad31 x0.2.length ad31') := (gw12.cell (by first | omega | (simp; try omega))).trans f139
  have f156 : w12.cell? ⟨w5.heap.size, 0, none⟩ = some (.int .i64 x1.1) := (gw12.cell (by first | omega | (simp; try omega))).trans f140
  have f157 : w12.cell? ⟨w5.heap.size, 1, none⟩ = some (.slice ad46 x1.2.length ad46') := (gw12.cell (by first | omega | (simp; try omega))).trans f141
  have z158 : w.heap.size < w12.heap.size := by omega
  have z159 : w.heap.size + 1 < w12.heap.size := by omega
  have z160 : w4.heap.size < w12.heap.size := by omega
  have z161 : w5.heap.size < w12.heap.size := by omega
  have d162 : intsT.Fx w2.heap.size w3.heap.size w12 [.slice ad20 (fsV x0 x1).length ad20'] (fsV x0 x1) := d146.below gw12
  have d163 : tplT.Fx w3.heap.size w4.heap.size w12 [.int .i64 x0.1, .slice ad31 x0.2.length ad31'] (mkTpl 1 x0) := d147.below gw12
  have d164 : instT.Fx (w4.heap.size + 1) w5.heap.size w12 [.int .i64 x1.1, .slice ad46 x1.2.length ad46'] (mkInst (1 + cntTpl x0) x1) := d133.below gw12
  have d165 : intsT.Fx (w5.heap.size + 1) w6.heap.size w12 [.slice ad65 (fsV x0 x1).length ad65'] (fsV x0 x1) := d148.below gw12
  clear hb12 H_w11 f134 f135 f136 f137 f138 f139 f140 f141 d146 d147 d133 d148 z142 z143 z144 z145 gw12
  rw [eqB_true rfl]
  go_wp2_with fail
  refine (markInt64S_fx _ d165 _ (by omega) (by omega)).mono ?_
  rintro e w13 ⟨rfl, hb13, d166⟩
  clear d165
  have sw13 : w12.heap.size ≤ w13.heap.size := hb13.size
  have H_w13 : Below w.heap.size w w13 := below_tch H_w12 hb13 (by omega) (by omega)
  have f167 : w13.cell? ⟨w.heap.size, 0, none⟩ = some (.int .i64 x0.1) := (hb13.cell (by omega) (by omega)).trans f150
  have f168 : w13.cell? ⟨w.heap.size, 1, none⟩ = some (u0) := (hb13.cell (by omega) (by omega)).trans f151
  have f169 : w13.cell? ⟨w.heap.size + 1, 0, none⟩ = some (.int .i64 x1.1) := (hb13.cell (by omega) (by omega)).trans f152
  have f170 : w13.cell? ⟨w.heap.size + 1, 1, none⟩ = some (u1) := (hb13.cell (by omega) (by omega)).trans f153
  have f171 : w13.cell? ⟨w4.heap.size, 0, none⟩ = some (.int .i64 x0.1) := (hb13.cell (by omega) (by omega)).trans f154
  have f172 : w13.cell? ⟨w4.heap.size, 1, none⟩ = some (.slice ad31 x0.2.length ad31') := (hb13.cell (by omega) (by omega)).trans f155
  have f173 : w13.cell? ⟨w5.heap.size, 0, none⟩ = some (.int .i64 x1.1) := (hb13.cell (by omega) (by omega)).trans f156
  have f174 : w13.cell? ⟨w5.heap.size, 1, none⟩ = some (.slice ad46 x1.2.length ad46') := (hb13.cell (by omega) (by omega)).trans f157
  have z175 : w.heap.size < w13.heap.size := by omega
  have z176 : w.heap.size + 1 < w13.heap.size := by omega
  have z177 : w4.heap.size < w13.heap.size := by omega
  have z178 : w5.heap.size < w13.heap.size := by omega
  have d179 : intsT.Fx w2.heap.size w3.heap.size w13 [.slice ad20 (fsV x0 x1).length ad20'] (fsV x0 x1) := d162.tch hb13 (by omega)
  have d180 : tplT.Fx w3.heap.size w4.heap.size w13 [.int .i64 x0.1, .slice ad31 x0.2.length ad31'] (mkTpl 1 x0) := d163.tch hb13 (by omega)
  have d181 : instT.Fx (w4.heap.size + 1) w5.heap.size w13 [.int .i64 x1.1, .slice ad46 x1.2.length ad46'] (mkInst (1 + cntTpl x0) x1) := d164.tch hb13 (by omega)
  clear hb13 H_w12 f150 f151 f152 f153 f154 f155 f156 f157 d162 d163 d164 z158 z159 z160 z161
  have hk182 : 0 ≤ (1 + cntI (fsV x0 x1)) := by omega
  go_wp2_with fail
  refine (heldInt64S_any _ _ d166.rd (by omega) (by omega)).mono ?_
  rintro e w14 ⟨rfl, hb14⟩
  have gw14 : Below w13.heap.size w13 w14 := bthen (by repeat (first | exact Below.refl _ _ | exact bA | assumption | refine Below.setCell ?_ (by first | omega | (simp; try omega)) _ | refine Below.alloc ?_ (by first | omega | (simp; try omega)) _ | refine Below.drew ?_ | refine bDN ?_ | refine bthen ?_ (by assumption))) hb14
  have sw14 : w13.heap.size + 0 ≤ w14.heap.size := by have := hb14.size; (try simp at this); omega
  have H_w14 : Below w.heap.size w w14 := bthen H_w13 gw14
  have f183 : w14.cell? ⟨w.heap.size, 0, none⟩ = some (.int .i64 x0.1) := (gw14.cell (by first | omega | (simp; try omega))).trans f167
  have f184 : w14.cell? ⟨w.heap.size, 1, none⟩ = some (u0) := (gw14.cell (by first | omega | (simp; try omega))).trans f168
  have f185 : w14.cell? ⟨w.heap.size + 1, 0, none⟩ = some (.int .i64 x1.1) := (gw14.cell (by first | omega | (simp; try omega))).trans f169
  have f186 : w14.cell? ⟨w.heap.size + 1, 1, none⟩ = some (u1) := (gw14.cell (by first | omega | (simp; try omega))).trans f170
  have f187 : w14.cell? ⟨w4.heap.size, 0, none⟩ = some (.int .i64 x0.1) := (gw14.cell (by first | omega | (simp; try omega))).trans f171
  have f188 : w14.cell? ⟨w4.heap.size, 1, none⟩ = some (.slice ad31 x0.2.length ad31') := (gw14.cell (by first | omega | (simp; try omega))).trans f172
  have f189 : w14.cell? ⟨w5.heap.size, 0, none⟩ = some (.int .i64 x1.1) := (gw14.cell (by first | omega | (simp; try omega))).trans f173
  have f190 : w14.cell? ⟨w5.heap.size, 1, none⟩ = some (.slice ad46 x1.2.length ad46') := (gw14.cell (by first | omega | (simp; try omega))).trans f174
  have z191 : w.heap.size < w14.heap.size := by omega
  have z192 : w.heap.size + 1 < w14.heap.size := by omega
  have z193 : w4.heap.size < w14.heap.size := by omega
  have z194 : w5.heap.size < w14.heap.size := by omega
  have d195 : intsT.Fx w2.heap.size w3.heap.size w14 [.slice ad20 (fsV x0 x1).length ad20'] (fsV x0 x1) := d179.below gw14
  have d196 : tplT.Fx w3.heap.size w4.heap.size w14 [.int .i64 x0.1, .slice ad31 x0.2.length ad31'] (mkTpl 1 x0) := d180.below gw14
  have d197 : instT.Fx (w4.heap.size + 1) w5.heap.size w14 [.int .i64 x1.1, .slice ad46 x1.2.length ad46'] (mkInst (1 + cntTpl x0) x1) := d181.below gw14
  have d198 : intsT.Fx (w5.heap.size + 1) w6.heap.size w14 [.slice ad65 (fsV x0 x1).length ad65'] (mkI 1 (fsV x0 x1)) := d166.below gw14
  clear hb14 H_w13 f167 f168 f169 f170 f171 f172 f173 f174 d179 d180 d181 d166 z175 z176 z177 z178 gw14
  go_wp2_with fail
  refine wp_region_loose [exV (.agg #[.int .i64 x0.1, u0]), rdA tplT x0, exV (.agg #[.int .i64 x1.1, u1]), rdA instT x1, frTS intsT w14.heap.size (fsV x0 x1) (.int .i64 (fsC x0 x1)), frTS intsT w14.heap.size (fsV x0 x1) (.int .i64 (fsC x0 x1)), frS intsT w14.heap.size (fsV x0 x1), exV (.int .i64 (fsC x0 x1)), frS intsT w14.heap.size (fsV x0 x1), exV (.int .i64 (fsC x0 x1))] (by kernel_rfl) (by kernel_rfl) ⟨st_exV, st_rdA, st_exV, st_rdA, st_frTS, st_frTS, st_frS, st_exV, st_frS, st_exV, trivial⟩ ⟨?j31_0, ?j31_1, ?j31_2, ?j31_3, ?j31_4, ?j31_5, ?j31_6, ?j31_7, ?j31_8, ?j31_9, trivial⟩ ?hQ31
  case j31_0 =>
    intro a' w' hb hd
    have e0 : a'.tmps[2]?.getD undef = .pointer (some ⟨w.heap.size, 0, none⟩) := ev (slot_o hd 2 rfl rfl)
    have q : ∀ b o, b < w14.heap.size → w'.cell? ⟨b, o, none⟩ = w14.cell? ⟨b, o, none⟩ := (bcell hb).1
    go_simp
    exact ⟨Below.refl _ _, rfl⟩
  case j31_1 =>
    intro a' w' hb hd
    have e95 : a'.tmps[95]?.getD undef = .agg #[.int .i64 x0.1, u0] := ev (slot_w hd 95 (exV (.agg #[.int .i64 x0.1, u0])) rfl rfl)
    have r95 : tplT.Rd w14 (#[.int .i64 x0.1, u0] : Array Value).toList x0 := hx0.below H_w14
    have r95' := r95.below hb
    go_simp
    exact ⟨Below.refl _ _, (toTemplate_any w' r95' (by first | omega | (unfold szInts; omega))).mono fun e w'' ⟨cs, he, hf, hb⟩ => ⟨_, he, hb, cs, rfl, hf.rd⟩⟩
  case j31_2 =>
    intro a' w' hb hd
    have e0 : a'.tmps[3]?.getD undef = .pointer (some ⟨w.heap.size + 1, 0, none⟩) := ev (slot_o hd 3 rfl rfl)
    have q : ∀ b o, b < w14.heap.size → w'.cell? ⟨b, o, none⟩ = w14.cell? ⟨b, o, none⟩ := (bcell hb).1
    go_simp
    exact ⟨Below.refl _ _, rfl⟩
  case j31_3 =>
    intro a' w' hb hd
    have e97 : a'.tmps[97]?.getD undef = .agg #[.int .i64 x1.1, u1] := ev (slot_w hd 97 (exV (.agg #[.int .i64 x1.1, u1])) rfl rfl)
    have r97 : instT.Rd w14 (#[.int .i64 x1.1, u1] : Array Value).toList x1 := hx1.below H_w14
    have r97' := r97.below hb
    go_simp
    exact ⟨Below.refl _ _, (toInstance_any w' r97' (by first | omega | (unfold szInts; omega))).mono fun e w'' ⟨cs, he, hf, hb⟩ => ⟨_, he, hb, cs, rfl, hf.rd⟩⟩
  case j31_4 =>
    intro a' w' hb hd
    have d96 := slot_w hd 96 (rdA tplT x0) rfl rfl
    obtain ⟨cs96, e96, hf96⟩ := d96
    have e96' := ev e96
    have d98 := slot_w hd 98 (rdA instT x1) rfl rfl
    obtain ⟨cs98, e98, hf98⟩ := d98
    have e98' := ev e98
    go_simp
    exact ⟨Below.refl _ _, (FirstSolution_any _ hf96 hf98).mono fun e w'' ⟨cs, he, hf, hb2⟩ => ⟨_, he, hb2, cs, rfl, hf.mono hb.size⟩⟩
  case j31_5 =>
    intro a' w' hb hd
    have d99 := slot_w hd 99 (frTS intsT w14.heap.size (fsV x0 x1) (.int .i64 (fsC x0 x1))) rfl rfl
    obtain ⟨cs99, e99, hf99⟩ := d99
    have e99' := ev e99
    go_simp
    exact ⟨Below.refl _ _, cs99, rfl, hf99⟩
  case j31_6 =>
    intro a' w' hb hd
    have d94 := slot_w hd 94 (frTS intsT w14.heap.size (fsV x0 x1) (.int .i64 (fsC x0 x1))) rfl rfl
    obtain ⟨cs94, e94, hf94⟩ := d94
    have e94' := ev e94
    go_simp
    exact ⟨Below.refl _ _, hf94⟩
  case j31_7 =>
    intro a' w' hb hd
    have d94 := slot_w hd 94 (frTS intsT w14.heap.size (fsV x0 x1) (.int .i64 (fsC x0 x1))) rfl rfl
    obtain ⟨cs94, e94, hf94⟩ := d94
    have e94' := ev e94
    go_simp
    exact ⟨Below.refl _ _, rfl⟩
  case j31_8 =>
    intro a' w' hb hd
    have d100 := slot_w hd 100 (frS intsT w14.heap.size (fsV x0 x1)) rfl rfl
    obtain ⟨ad100', cap100', e100⟩ := fr_slice d100
    rw [e100] at d100
    have hf100 := d100
    have e100' := ev e100
    go_simp
    exact ⟨Below.refl _ _, hf100⟩
  case j31_9 =>
    intro a' w' hb hd
    have e0 : a'.tmps[101]?.getD undef = .int .i64 (fsC x0 x1) := ev (slot_w hd 101 (exV (.int .i64 (fsC x0 x1))) rfl rfl)
    go_simp
    exact ⟨Below.refl _ _, rfl⟩
  intro vs31 w15 hb15 H0
  obtain ⟨v31_0, _, rfl, p0, H1⟩ := HAll_cons H0
  obtain ⟨v31_1, _, rfl, p1, H2⟩ := HAll_cons H1
  obtain ⟨v31_2, _, rfl, p2, H3⟩ := HAll_cons H2
  obtain ⟨v31_3, _, rfl, p3, H4⟩ := HAll_cons H3
  obtain ⟨v31_4, _, rfl, p4, H5⟩ := HAll_cons H4
  obtain ⟨v31_5, _, rfl, p5, H6⟩ := HAll_cons H5
  obtain ⟨v31_6, _, rfl, p6, H7⟩ := HAll_cons H6
  obtain ⟨v31_7, _, rfl, p7, H8⟩ := HAll_cons H7
  obtain ⟨v31_8, _, rfl, p8, H9⟩ := HAll_cons H8
  obtain ⟨v31_9, _, rfl, p9, H10⟩ := HAll_cons H9
  obtain rfl := HAll_nil H10
  obtain rfl := p0 rfl
  obtain rfl := p2 rfl
  obtain rfl := p7 rfl
  obtain rfl := p9 rfl
  have hc199 := p8 rfl
  clear p0 p1 p2 p3 p4 p5 p6 p7 p8 p9 H0 H1 H2 H3 H4 H5 H6 H7 H8 H9 H10
  have gw15 : Below w14.heap.size w14 w15 := bthen (by repeat (first | exact Below.refl _ _ | exact bA | assumption | refine Below.setCell ?_ (by first | omega | (simp; try omega)) _ | refine Below.alloc ?_ (by first | omega | (simp; try omega)) _ | refine Below.drew ?_ | refine bDN ?_ | refine bthen ?_ (by assumption))) hb15
  have sw15 : w14.heap.size + 0 ≤ w15.heap.size := by have := hb15.size; (try simp at this); omega
  have H_w15 : Below w.heap.size w w15 := bthen H_w14 gw15
  have f200 : w15.cell? ⟨w.heap.size, 0, none⟩ = some (.int .i64 x0.1) := (gw15.cell (by first | omega | (simp; try omega))).trans f183
  have f201 : w15.cell? ⟨w.heap.size, 1, none⟩ = some (u0) := (gw15.cell (by first | omega | (simp; try omega))).trans f184
  have f202 : w15.cell? ⟨w.heap.size + 1, 0, none⟩ = some (.int .i64 x1.1) := (gw15.cell (by first | omega | (simp; try omega))).trans f185
  have f203 : w15.cell? ⟨w.heap.size + 1, 1, none⟩ = some (u1) := (gw15.cell (by first | omega | (simp; try omega))).trans f186
  have f204 : w15.cell? ⟨w4.heap.size, 0, none⟩ = some (.int .i64 x0.1) := (gw15.cell (by first | omega | (simp; try omega))).trans f187
  have f205 : w15.cell? ⟨w4.heap.size, 1, none⟩ = some (.slice ad31 x0.2.length ad31') := (gw15.cell (by first | omega | (simp; try omega))).trans f188
  have f206 : w15.cell? ⟨w5.heap.size, 0, none⟩ = some (.int .i64 x1.1) := (gw15.cell (by first | omega | (simp; try omega))).trans f189
  have f207 : w15.cell? ⟨w5.heap.size, 1, none⟩ = some (.slice ad46 x1.2.length ad46') := (gw15.cell (by first | omega | (simp; try omega))).trans f190
  have z208 : w.heap.size < w15.heap.size := by omega
  have z209 : w.heap.size + 1 < w15.heap.size := by omega
  have z210 : w4.heap.size < w15.heap.size := by omega
  have z211 : w5.heap.size < w15.heap.size := by omega
  have d212 : intsT.Fx w2.heap.size w3.heap.size w15 [.slice ad20 (fsV x0 x1).length ad20'] (fsV x0 x1) := d195.below gw15
  have d213 : tplT.Fx w3.heap.size w4.heap.size w15 [.int .i64 x0.1, .slice ad31 x0.2.length ad31'] (mkTpl 1 x0) := d196.below gw15
  have d214 : instT.Fx (w4.heap.size + 1) w5.heap.size w15 [.int .i64 x1.1, .slice ad46 x1.2.length ad46'] (mkInst (1 + cntTpl x0) x1) := d197.below gw15
  have d215 : intsT.Fx (w5.heap.size + 1) w6.heap.size w15 [.slice ad65 (fsV x0 x1).length ad65'] (mkI 1 (fsV x0 x1)) := d198.below gw15
  clear hb15 H_w14 f183 f184 f185 f186 f187 f188 f189 f190 d195 d196 d197 d198 z191 z192 z193 z194 gw15
  obtain ⟨ad216, ad216', rfl⟩ := fr_slice hc199
  have d217 : intsT.Fx w14.heap.size w15.heap.size w15 [.slice ad216 (fsV x0 x1).length ad216'] (fsV x0 x1) := (Ty.Fr.mono hc199 (by first | exact Nat.le_refl _ | (simp; try omega))).fx
  clear hc199
  simp only [putAll, Act.put]
  go_simp
  go_wp2_with fail
  refine (eqInt64S_any _ (d217.rd.below (by repeat (first | exact Below.refl _ _ | exact bA | assumption | refine Below.setCell ?_ (by first | omega | (simp; try omega)) _ | refine Below.alloc ?_ (by first | omega | (simp; try omega)) _ | refine Below.drew ?_ | refine bDN ?_ | refine bthen ?_ (by assumption)))) (d212.rd.below (by repeat (first | exact Below.refl _ _ | exact bA | assumption | refine Below.setCell ?_ (by first | omega | (simp; try omega)) _ | refine Below.alloc ?_ (by first | omega | (simp; try omega)) _ | refine Below.drew ?_ | refine bDN ?_ | refine bthen ?_ (by assumption))))).mono ?_
  rintro e w16 ⟨rfl, hb16⟩
  have gw16 : Below w15.heap.size w15 w16 := bthen (by repeat (first | exact Below.refl _ _ | exact bA | assumption | refine Below.setCell ?_ (by first | omega | (simp; try omega)) _ | refine Below.alloc ?_ (by first | omega | (simp; try omega)) _ | refine Below.drew ?_ | refine bDN ?_ | refine bthen ?_ (by assumption))) hb16
  have sw16 : w15.heap.size + 0 ≤ w16.heap.size := by have := hb16.size; (try simp at this); omega
  have H_w16 : Below w.heap.size w w16 := bthen H_w15 gw16
  have f219 : w16.cell? ⟨w.heap.size, 0, none⟩ = some (.int .i64 x0.1) := (gw16.cell (by first | omega | (simp; try omega))).trans f200
  have f220 : w16.cell? ⟨w.heap.size, 1, none⟩ = some (u0) := (gw16.cell (by first | omega | (simp; try omega))).trans f201
  have f221 : w16.cell? ⟨w.heap.size + 1, 0, none⟩ = some (.int .i64 x1.1) := (gw16.cell (by first | omega | (simp; try omega))).trans f202
  have f222 : w16.cell? ⟨w.heap.size + 1, 1, none⟩ = some (u1) := (gw16.cell (by first | omega | (simp; try omega))).trans f203
  have f223 : w16.cell? ⟨w4.heap.size, 0, none⟩ = some (.int .i64 x0.1) := (gw16.cell (by first | omega | (simp; try omega))).trans f204
  have f224 : w16.cell? ⟨w4.heap.size, 1, none⟩ = some (.slice ad31 x0.2.length ad31') := (gw16.cell (by first | omega | (simp; try omega))).trans f205
  have f225 : w16.cell? ⟨w5.heap.size, 0, none⟩ = some (.int .i64 x1.1) := (gw16.cell (by first | omega | (simp; try omega))).trans f206
  have f226 : w16.cell? ⟨w5.heap.size, 1, none⟩ = some (.slice ad46 x1.2.length ad46') := (gw16.cell (by first | omega | (simp; try omega))).trans f207
  have z227 : w.heap.size < w16.heap.size := by omega
  have z228 : w.heap.size + 1 < w16.heap.size := by omega
  have z229 : w4.heap.size < w16.heap.size := by omega
  have z230 : w5.heap.size < w16.heap.size := by omega
  have d231 : intsT.Fx w2.heap.size w3.heap.size w16 [.slice ad20 (fsV x0 x1).length ad20'] (fsV x0 x1) := d212.below gw16
  have d232 : tplT.Fx w3.heap.size w4.heap.size w16 [.int .i64 x0.1, .slice ad31 x0.2.length ad31'] (mkTpl 1 x0) := d213.below gw16
  have d233 : instT.Fx (w4.heap.size + 1) w5.heap.size w16 [.int .i64 x1.1, .slice ad46 x1.2.length ad46'] (mkInst (1 + cntTpl x0) x1) := d214.below gw16
  have d234 : intsT.Fx (w5.heap.size + 1) w6.heap.size w16 [.slice ad65 (fsV x0 x1).length ad65'] (mkI 1 (fsV x0 x1)) := d215.below gw16
  have d235 : intsT.Fx w14.heap.size w15.heap.size w16 [.slice ad216 (fsV x0 x1).length ad216'] (fsV x0 x1) := d217.below gw16
  clear hb16 H_w15 f200 f201 f202 f203 f204 f205 f206 f207 d212 d213 d214 d215 d217 z208 z209 z210 z211 gw16
  rw [eqB_true rfl]
  go_wp2_with fail
  refine (heldInt64S_any _ _ d234.rd (by omega) (by omega)).mono ?_
  rintro e w17 ⟨rfl, hb17⟩
  have gw17 : Below w16.heap.size w16 w17 := bthen (by repeat (first | exact Below.refl _ _ | exact bA | assumption | refine Below.setCell ?_ (by first | omega | (simp; try omega)) _ | refine Below.alloc ?_ (by first | omega | (simp; try omega)) _ | refine Below.drew ?_ | refine bDN ?_ | refine bthen ?_ (by assumption))) hb17
  have sw17 : w16.heap.size + 0 ≤ w17.heap.size := by have := hb17.size; (try simp at this); omega
  have H_w17 : Below w.heap.size w w17 := bthen H_w16 gw17
  have f236 : w17.cell? ⟨w.heap.size, 0, none⟩ = some (.int .i64 x0.1) := (gw17.cell (by first | omega | (simp; try omega))).trans f219
  have f237 : w17.cell? ⟨w.heap.size, 1, none⟩ = some (u0) := (gw17.cell (by first | omega | (simp; try omega))).trans f220
  have f238 : w17.cell? ⟨w.heap.size + 1, 0, none⟩ = some (.int .i64 x1.1) := (gw17.cell (by first | omega | (simp; try omega))).trans f221
  have f239 : w17.cell? ⟨w.heap.size + 1, 1, none⟩ = some (u1) := (gw17.cell (by first | omega | (simp; try omega))).trans f222
  have f240 : w17.cell? ⟨w4.heap.size, 0, none⟩ = some (.int .i64 x0.1) := (gw17.cell (by first | omega | (simp; try omega))).trans f223
  have f241 : w17.cell? ⟨w4.heap.size, 1, none⟩ = some (.slice ad31 x0.2.length ad31') := (gw17.cell (by first | omega | (simp; try omega))).trans f224
  have f242 : w17.cell? ⟨w5.heap.size, 0, none⟩ = some (.int .i64 x1.1) := (gw17.cell (by first | omega | (simp; try omega))).trans f225
  have f243 : w17.cell? ⟨w5.heap.size, 1, none⟩ = some (.slice ad46 x1.2.length ad46') := (gw17.cell (by first | omega | (simp; try omega))).trans f226
  have z244 : w.heap.size < w17.heap.size := by omega
  have z245 : w.heap.size + 1 < w17.heap.size := by omega
  have z246 : w4.heap.size < w17.heap.size := by omega
  have z247 : w5.heap.size < w17.heap.size := by omega
  have d248 : intsT.Fx w2.heap.size w3.heap.size w17 [.slice ad20 (fsV x0 x1).length ad20'] (fsV x0 x1) := d231.below gw17
  have d249 : tplT.Fx w3.heap.size w4.heap.size w17 [.int .i64 x0.1, .slice ad31 x0.2.length ad31'] (mkTpl 1 x0) := d232.below gw17
  have d250 : instT.Fx (w4.heap.size + 1) w5.heap.size w17 [.int .i64 x1.1, .slice ad46 x1.2.length ad46'] (mkInst (1 + cntTpl x0) x1) := d233.below gw17
  have d251 : intsT.Fx (w5.heap.size + 1) w6.heap.size w17 [.slice ad65 (fsV x0 x1).length ad65'] (mkI 1 (fsV x0 x1)) := d234.below gw17
  have d252 : intsT.Fx w14.heap.size w15.heap.size w17 [.slice ad216 (fsV x0 x1).length ad216'] (fsV x0 x1) := d235.below gw17
  clear hb17 H_w16 f219 f220 f221 f222 f223 f224 f225 f226 d231 d232 d233 d234 d235 z227 z228 z229 z230 gw17
  go_wp2_with fail
  go_ret
  exact ⟨rfl, (by repeat (first | exact Below.refl _ _ | exact bA | assumption | refine Below.setCell ?_ (by first | omega | (simp; try omega)) _ | refine Below.alloc ?_ (by first | omega | (simp; try omega)) _ | refine Below.drew ?_ | refine bDN ?_ | refine bthen ?_ (by assumption)))⟩
end Go.Proofs.Ytbpjejhjlmpcjaa
