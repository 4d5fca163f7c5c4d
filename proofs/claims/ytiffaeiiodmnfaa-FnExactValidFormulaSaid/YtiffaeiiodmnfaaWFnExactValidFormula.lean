/-
  The law FnExactValidFormula, walked: its contract.
-/
import Derived.Test.YtiffaeiiodmnfaaK8
import Derived.Test.YtiffaeiiodmnfaaKT
import Derived.Test.YtiffaeiiodmnfaaLoose
namespace Go.Proofs.Ytiffaeiiodmnfaa
open Go.RowKit Go.Sort
set_option maxHeartbeats 3200000 in
set_option maxRecDepth 100000 in
theorem fnExactValidFormula_any (w : World) {c0 : Array Value} {x0 : Int × List (Int × List (List Int))} (h0 : tplT.Rd w c0.toList x0) {c1 : Array Value} {x1 : Int × Int × List (Int × List Int)} (h1 : frmT.Rd w c1.toList x1) :
    Calls Try.prog 7 #[.agg c0, .agg c1] w fun e w' => e = .returned (.bool true) ∧ Below w.heap.size w w' := by
  have hx0 := h0
  obtain ⟨u0, hv0, -, hy0⟩ := pair_ex h0
  obtain rfl := agg_of hv0
  clear hv0 h0
  have hn0 := szTpl_nn x0
  have hx1 := h1
  obtain ⟨u1, hv1, -, -, hy1⟩ := trip_ex h1
  obtain rfl := agg_of hv1
  clear hv1 h1
  have hn1 := szFrm_nn x1
  go_enter Try.func7, Try.ntmps7
  go_wp2_with fail
  refine (szTemplate_any _ (hx0.below (by repeat (first | exact Below.refl _ _ | exact bA | assumption | refine Below.setCell ?_ (by first | omega | (simp; try omega)) _ | refine Below.alloc ?_ (by first | omega | (simp; try omega)) _ | refine Below.drew ?_ | refine bDN ?_ | refine bthen ?_ (by assumption)))) _ (by omega) (by omega)).mono ?_
  rintro e w1 ⟨rfl, hb1⟩
  have gw1 : Below w.heap.size w w1 := bthen (by repeat (first | exact Below.refl _ _ | exact bA | assumption | refine Below.setCell ?_ (by first | omega | (simp; try omega)) _ | refine Below.alloc ?_ (by first | omega | (simp; try omega)) _ | refine Below.drew ?_ | refine bDN ?_ | refine bthen ?_ (by assumption))) hb1
  have sw1 : w.heap.size + 2 ≤ w1.heap.size := by have := hb1.size; (try simp at this); omega
  have f1 : w1.cell? ⟨w.heap.size, 0, none⟩ = some (.int .i64 x0.1) := by rw [(bcell hb1).1 _ _ (by first | omega | (simp; try omega))]; simp
  have f2 : w1.cell? ⟨w.heap.size, 1, none⟩ = some (u0) := by rw [(bcell hb1).1 _ _ (by first | omega | (simp; try omega))]; simp
  have f3 : w1.cell? ⟨w.heap.size + 1, 0, none⟩ = some (.int .i64 x1.1) := by rw [(bcell hb1).1 _ _ (by first | omega | (simp; try omega))]; simp
  have f4 : w1.cell? ⟨w.heap.size + 1, 1, none⟩ = some (.int .i64 x1.2.1) := by rw [(bcell hb1).1 _ _ (by first | omega | (simp; try omega))]; simp
  have f5 : w1.cell? ⟨w.heap.size + 1, 2, none⟩ = some (u1) := by rw [(bcell hb1).1 _ _ (by first | omega | (simp; try omega))]; simp
  have z6 : w.heap.size < w1.heap.size := by omega
  have z7 : w.heap.size + 1 < w1.heap.size := by omega
  clear hb1 
  rcases ilt 1048576 (szTpl x0) with hl2 | hl2
  · rw [szR_lt hl2]
    go_wp2_with fail
    go_ret
    exact ⟨rfl, (by repeat (first | exact Below.refl _ _ | exact bA | assumption | refine Below.setCell ?_ (by first | omega | (simp; try omega)) _ | refine Below.alloc ?_ (by first | omega | (simp; try omega)) _ | refine Below.drew ?_ | refine bDN ?_ | refine bthen ?_ (by assumption)))⟩
  rw [szR_ge hl2]
  go_wp2_with fail
  refine (szFormula_any _ (hx1.below (by repeat (first | exact Below.refl _ _ | exact bA | assumption | refine Below.setCell ?_ (by first | omega | (simp; try omega)) _ | refine Below.alloc ?_ (by first | omega | (simp; try omega)) _ | refine Below.drew ?_ | refine bDN ?_ | refine bthen ?_ (by assumption)))) _ (by omega) (by omega)).mono ?_
  rintro e w2 ⟨rfl, hb2⟩
  have gw2 : Below w1.heap.size w1 w2 := bthen (by repeat (first | exact Below.refl _ _ | exact bA | assumption | refine Below.setCell ?_ (by first | omega | (simp; try omega)) _ | refine Below.alloc ?_ (by first | omega | (simp; try omega)) _ | refine Below.drew ?_ | refine bDN ?_ | refine bthen ?_ (by assumption))) hb2
  have sw2 : w1.heap.size + 0 ≤ w2.heap.size := by have := hb2.size; (try simp at this); omega
  have f8 : w2.cell? ⟨w.heap.size, 0, none⟩ = some (.int .i64 x0.1) := (gw2.cell (by first | omega | (simp; try omega))).trans f1
  have f9 : w2.cell? ⟨w.heap.size, 1, none⟩ = some (u0) := (gw2.cell (by first | omega | (simp; try omega))).trans f2
  have f10 : w2.cell? ⟨w.heap.size + 1, 0, none⟩ = some (.int .i64 x1.1) := (gw2.cell (by first | omega | (simp; try omega))).trans f3
  have f11 : w2.cell? ⟨w.heap.size + 1, 1, none⟩ = some (.int .i64 x1.2.1) := (gw2.cell (by first | omega | (simp; try omega))).trans f4
  have f12 : w2.cell? ⟨w.heap.size + 1, 2, none⟩ = some (u1) := (gw2.cell (by first | omega | (simp; try omega))).trans f5
  have z13 : w.heap.size < w2.heap.size := by omega
  have z14 : w.heap.size + 1 < w2.heap.size := by omega
  have hB15 : Below w.heap.size w w2 := bthen gw1 gw2
  clear hb2 f1 f2 f3 f4 f5 gw1 z6 z7
  rcases ilt (1048576 - szTpl x0) (szFrm x1) with hl5 | hl5
  · rw [szR_lt hl5]
    go_wp2_with fail
    go_ret
    exact ⟨rfl, (by repeat (first | exact Below.refl _ _ | exact bA | assumption | refine Below.setCell ?_ (by first | omega | (simp; try omega)) _ | refine Below.alloc ?_ (by first | omega | (simp; try omega)) _ | refine Below.drew ?_ | refine bDN ?_ | refine bthen ?_ (by assumption)))⟩
  rw [szR_ge hl5]
  go_wp2_with fail
  refine wp_region_loose [exV (.agg #[.int .i64 x0.1, u0]), rdA tplT x0, exV (.agg #[.int .i64 x1.1, .int .i64 x1.2.1, u1]), rdA frmT x1, exV (.bool (tb (frmOk x0 x1))), exV (.bool (tb (frmOk x0 x1)))] (by kernel_rfl) (by kernel_rfl) ⟨st_exV, st_rdA, st_exV, st_rdA, st_exV, st_exV, trivial⟩ ⟨?j8_0, ?j8_1, ?j8_2, ?j8_3, ?j8_4, ?j8_5, trivial⟩ ?hQ8
  case j8_0 =>
    intro a' w' hb hd
    have e0 : a'.tmps[2]?.getD undef = .pointer (some ⟨w.heap.size, 0, none⟩) := ev (slot_o hd 2 rfl rfl)
    have q : ∀ b o, b < w2.heap.size → w'.cell? ⟨b, o, none⟩ = w2.cell? ⟨b, o, none⟩ := (bcell hb).1
    go_simp
    exact ⟨Below.refl _ _, rfl⟩
  case j8_1 =>
    intro a' w' hb hd
    have e20 : a'.tmps[20]?.getD undef = .agg #[.int .i64 x0.1, u0] := ev (slot_w hd 20 (exV (.agg #[.int .i64 x0.1, u0])) rfl rfl)
    have r20 : tplT.Rd w2 (#[.int .i64 x0.1, u0] : Array Value).toList x0 := hx0.below (by repeat (first | exact Below.refl _ _ | exact bA | assumption | refine Below.setCell ?_ (by first | omega | (simp; try omega)) _ | refine Below.alloc ?_ (by first | omega | (simp; try omega)) _ | refine Below.drew ?_ | refine bDN ?_ | refine bthen ?_ (by assumption)))
    have r20' := r20.below hb
    go_simp
    exact ⟨Below.refl _ _, (toTemplate_any w' r20' (by first | omega | (unfold szInts; omega))).mono fun e w'' ⟨cs, he, hf, hb⟩ => ⟨_, he, hb, cs, rfl, hf.rd⟩⟩
  case j8_2 =>
    intro a' w' hb hd
    have e0 : a'.tmps[3]?.getD undef = .pointer (some ⟨w.heap.size + 1, 0, none⟩) := ev (slot_o hd 3 rfl rfl)
    have q : ∀ b o, b < w2.heap.size → w'.cell? ⟨b, o, none⟩ = w2.cell? ⟨b, o, none⟩ := (bcell hb).1
    go_simp
    exact ⟨Below.refl _ _, rfl⟩
  case j8_3 =>
    intro a' w' hb hd
    have e22 : a'.tmps[22]?.getD undef = .agg #[.int .i64 x1.1, .int .i64 x1.2.1, u1] := ev (slot_w hd 22 (exV (.agg #[.int .i64 x1.1, .int .i64 x1.2.1, u1])) rfl rfl)
    have r22 : frmT.Rd w2 (#[.int .i64 x1.1, .int .i64 x1.2.1, u1] : Array Value).toList x1 := hx1.below (by repeat (first | exact Below.refl _ _ | exact bA | assumption | refine Below.setCell ?_ (by first | omega | (simp; try omega)) _ | refine Below.alloc ?_ (by first | omega | (simp; try omega)) _ | refine Below.drew ?_ | refine bDN ?_ | refine bthen ?_ (by assumption)))
    have r22' := r22.below hb
    go_simp
    exact ⟨Below.refl _ _, (toFormula_any w' r22' (by first | omega | (unfold szInts; omega))).mono fun e w'' ⟨cs, he, hf, hb⟩ => ⟨_, he, hb, cs, rfl, hf.rd⟩⟩
  case j8_4 =>
    intro a' w' hb hd
    have d21 := slot_w hd 21 (rdA tplT x0) rfl rfl
    obtain ⟨cs21, e21, hf21⟩ := d21
    have e21' := ev e21
    have d23 := slot_w hd 23 (rdA frmT x1) rfl rfl
    obtain ⟨cs23, e23, hf23⟩ := d23
    have e23' := ev e23
    go_simp
    exact ⟨Below.refl _ _, (specValidFormula_any _ hf21 hf23).mono fun e w'' ⟨he, hb⟩ => ⟨_, he, hb, rfl⟩⟩
  case j8_5 =>
    intro a' w' hb hd
    have e0 : a'.tmps[24]?.getD undef = .bool (tb (frmOk x0 x1)) := ev (slot_w hd 24 (exV (.bool (tb (frmOk x0 x1)))) rfl rfl)
    go_simp
    exact ⟨Below.refl _ _, rfl⟩
  intro vs8 w3 hb3 H0
  obtain ⟨v8_0, _, rfl, p0, H1⟩ := HAll_cons H0
  obtain ⟨v8_1, _, rfl, p1, H2⟩ := HAll_cons H1
  obtain ⟨v8_2, _, rfl, p2, H3⟩ := HAll_cons H2
  obtain ⟨v8_3, _, rfl, p3, H4⟩ := HAll_cons H3
  obtain ⟨v8_4, _, rfl, p4, H5⟩ := HAll_cons H4
  obtain ⟨v8_5, _, rfl, p5, H6⟩ := HAll_cons H5
  obtain rfl := HAll_nil H6
  obtain rfl := p0 rfl
  obtain rfl := p2 rfl
  obtain rfl := p4 rfl
  obtain rfl := p5 rfl
  clear p0 p1 p2 p3 p4 p5 H0 H1 H2 H3 H4 H5 H6
  have gw3 : Below w2.heap.size w2 w3 := bthen (by repeat (first | exact Below.refl _ _ | exact bA | assumption | refine Below.setCell ?_ (by first | omega | (simp; try omega)) _ | refine Below.alloc ?_ (by first | omega | (simp; try omega)) _ | refine Below.drew ?_ | refine bDN ?_ | refine bthen ?_ (by assumption))) hb3
  have sw3 : w2.heap.size + 0 ≤ w3.heap.size := by have := hb3.size; (try simp at this); omega
  have f16 : w3.cell? ⟨w.heap.size, 0, none⟩ = some (.int .i64 x0.1) := (gw3.cell (by first | omega | (simp; try omega))).trans f8
  have f17 : w3.cell? ⟨w.heap.size, 1, none⟩ = some (u0) := (gw3.cell (by first | omega | (simp; try omega))).trans f9
  have f18 : w3.cell? ⟨w.heap.size + 1, 0, none⟩ = some (.int .i64 x1.1) := (gw3.cell (by first | omega | (simp; try omega))).trans f10
  have f19 : w3.cell? ⟨w.heap.size + 1, 1, none⟩ = some (.int .i64 x1.2.1) := (gw3.cell (by first | omega | (simp; try omega))).trans f11
  have f20 : w3.cell? ⟨w.heap.size + 1, 2, none⟩ = some (u1) := (gw3.cell (by first | omega | (simp; try omega))).trans f12
  have z21 : w.heap.size < w3.heap.size := by omega
  have z22 : w.heap.size + 1 < w3.heap.size := by omega
  have hB23 : Below w.heap.size w w3 := bthen hB15 gw3
  have hB24 : Below w1.heap.size w1 w3 := bthen gw2 gw3
  clear hb3 f8 f9 f10 f11 f12 hB15 gw2 z13 z14
  simp only [putAll, Act.put]
  go_simp
  go_wp2_with fail
  refine (toTemplate_any _ (hx0.below (by repeat (first | exact Below.refl _ _ | exact bA | assumption | refine Below.setCell ?_ (by first | omega | (simp; try omega)) _ | refine Below.alloc ?_ (by first | omega | (simp; try omega)) _ | refine Below.drew ?_ | refine bDN ?_ | refine bthen ?_ (by assumption)))) (by first | omega | (unfold szInts; omega))).mono ?_
  rintro e w4 ⟨cs, rfl, hc25, hb4⟩
  have gw4 : Below w3.heap.size w3 w4 := bthen (by repeat (first | exact Below.refl _ _ | exact bA | assumption | refine Below.setCell ?_ (by first | omega | (simp; try omega)) _ | refine Below.alloc ?_ (by first | omega | (simp; try omega)) _ | refine Below.drew ?_ | refine bDN ?_ | refine bthen ?_ (by assumption))) hb4
  have sw4 : w3.heap.size + 0 ≤ w4.heap.size := by have := hb4.size; (try simp at this); omega
  have f26 : w4.cell? ⟨w.heap.size, 0, none⟩ = some (.int .i64 x0.1) := (gw4.cell (by first | omega | (simp; try omega))).trans f16
  have f27 : w4.cell? ⟨w.heap.size, 1, none⟩ = some (u0) := (gw4.cell (by first | omega | (simp; try omega))).trans f17
  have f28 : w4.cell? ⟨w.heap.size + 1, 0, none⟩ = some (.int .i64 x1.1) := (gw4.cell (by first | omega | (simp; try omega))).trans f18
  have f29 : w4.cell? ⟨w.heap.size + 1, 1, none⟩ = some (.int .i64 x1.2.1) := (gw4.cell (by first | omega | (simp; try omega))).trans f19
  have f30 : w4.cell? ⟨w.heap.size + 1, 2, none⟩ = some (u1) := (gw4.cell (by first | omega | (simp; try omega))).trans f20
  have z31 : w.heap.size < w4.heap.size := by omega
  have z32 : w.heap.size + 1 < w4.heap.size := by omega
  have hB33 : Below w.heap.size w w4 := bthen hB23 gw4
  have hB34 : Below w1.heap.size w1 w4 := bthen hB24 gw4
  have hB35 : Below w2.heap.size w2 w4 := bthen gw3 gw4
  clear hb4 f16 f17 f18 f19 f20 hB23 hB24 gw3 z21 z22
  obtain ⟨ad36, ad36', rfl⟩ := fr_pair hc25
  go_wp2_with fail
  refine (toFormula_any _ (hx1.below (by repeat (first | exact Below.refl _ _ | exact bA | assumption | refine Below.setCell ?_ (by first | omega | (simp; try omega)) _ | refine Below.alloc ?_ (by first | omega | (simp; try omega)) _ | refine Below.drew ?_ | refine bDN ?_ | refine bthen ?_ (by assumption)))) (by first | omega | (unfold szInts; omega))).mono ?_
  rintro e w5 ⟨cs, rfl, hc37, hb5⟩
  have gw5 : Below w4.heap.size w4 w5 := bthen (by repeat (first | exact Below.refl _ _ | exact bA | assumption | refine Below.setCell ?_ (by first | omega | (simp; try omega)) _ | refine Below.alloc ?_ (by first | omega | (simp; try omega)) _ | refine Below.drew ?_ | refine bDN ?_ | refine bthen ?_ (by assumption))) hb5
  have sw5 : w4.heap.size + 1 ≤ w5.heap.size := by have := hb5.size; (try simp at this); omega
  have f38 : w5.cell? ⟨w.heap.size, 0, none⟩ = some (.int .i64 x0.1) := (gw5.cell (by first | omega | (simp; try omega))).trans f26
  have f39 : w5.cell? ⟨w.heap.size, 1, none⟩ = some (u0) := (gw5.cell (by first | omega | (simp; try omega))).trans f27
  have f40 : w5.cell? ⟨w.heap.size + 1, 0, none⟩ = some (.int .i64 x1.1) := (gw5.cell (by first | omega | (simp; try omega))).trans f28
  have f41 : w5.cell? ⟨w.heap.size + 1, 1, none⟩ = some (.int .i64 x1.2.1) := (gw5.cell (by first | omega | (simp; try omega))).trans f29
  have f42 : w5.cell? ⟨w.heap.size + 1, 2, none⟩ = some (u1) := (gw5.cell (by first | omega | (simp; try omega))).trans f30
  have f43 : w5.cell? ⟨w4.heap.size, 0, none⟩ = some (.int .i64 x0.1) := by rw [(bcell hb5).1 _ _ (by first | omega | (simp; try omega))]; simp
  have f44 : w5.cell? ⟨w4.heap.size, 1, none⟩ = some (.slice ad36 x0.2.length ad36') := by rw [(bcell hb5).1 _ _ (by first | omega | (simp; try omega))]; simp
  have z45 : w.heap.size < w5.heap.size := by omega
  have z46 : w.heap.size + 1 < w5.heap.size := by omega
  have z47 : w4.heap.size < w5.heap.size := by omega
  have hB48 : Below w.heap.size w w5 := bthen hB33 gw5
  have hB49 : Below w1.heap.size w1 w5 := bthen hB34 gw5
  have hB50 : Below w2.heap.size w2 w5 := bthen hB35 gw5
  have hB51 : Below w3.heap.size w3 w5 := bthen gw4 gw5
  clear hb5 f26 f27 f28 f29 f30 hB33 hB34 hB35 gw4 z31 z32
  obtain ⟨ad52, ad52', rfl⟩ := fr_trip hc37
  go_wp2_with fail
  refine (ValidFormula_any _ (hc25.rd.below (by repeat (first | exact Below.refl _ _ | exact bA | assumption | refine Below.setCell ?_ (by first | omega | (simp; try omega)) _ | refine Below.alloc ?_ (by first | omega | (simp; try omega)) _ | refine Below.drew ?_ | refine bDN ?_ | refine bthen ?_ (by assumption)))) (hc37.rd.below (by repeat (first | exact Below.refl _ _ | exact bA | assumption | refine Below.setCell ?_ (by first | omega | (simp; try omega)) _ | refine Below.alloc ?_ (by first | omega | (simp; try omega)) _ | refine Below.drew ?_ | refine bDN ?_ | refine bthen ?_ (by assumption))))).mono ?_
  rintro e w6 ⟨rfl, hb6⟩
  have gw6 : Below w5.heap.size w5 w6 := bthen (by repeat (first | exact Below.refl _ _ | exact bA | assumption | refine Below.setCell ?_ (by first | omega | (simp; try omega)) _ | refine Below.alloc ?_ (by first | omega | (simp; try omega)) _ | refine Below.drew ?_ | refine bDN ?_ | refine bthen ?_ (by assumption))) hb6
  have sw6 : w5.heap.size + 1 ≤ w6.heap.size := by have := hb6.size; (try simp at this); omega
  have f53 : w6.cell? ⟨w.heap.size, 0, none⟩ = some (.int .i64 x0.1) := (gw6.cell (by first | omega | (simp; try omega))).trans f38
  have f54 : w6.cell? ⟨w.heap.size, 1, none⟩ = some (u0) := (gw6.cell (by first | omega | (simp; try omega))).trans f39
  have f55 : w6.cell? ⟨w.heap.size + 1, 0, none⟩ = some (.int .i64 x1.1) := (gw6.cell (by first | omega | (simp; try omega))).trans f40
  have f56 : w6.cell? ⟨w.heap.size + 1, 1, none⟩ = some (.int .i64 x1.2.1) := (gw6.cell (by first | omega | (simp; try omega))).trans f41
  have f57 : w6.cell? ⟨w.heap.size + 1, 2, none⟩ = some (u1) := (gw6.cell (by first | omega | (simp; try omega))).trans f42
  have f58 : w6.cell? ⟨w4.heap.size, 0, none⟩ = some (.int .i64 x0.1) := (gw6.cell (by first | omega | (simp; try omega))).trans f43
  have f59 : w6.cell? ⟨w4.heap.size, 1, none⟩ = some (.slice ad36 x0.2.length ad36') := (gw6.cell (by first | omega | (simp; try omega))).trans f44
  have f60 : w6.cell? ⟨w5.heap.size, 0, none⟩ = some (.int .i64 x1.1) := by rw [(bcell hb6).1 _ _ (by first | omega | (simp; try omega))]; simp
  have f61 : w6.cell? ⟨w5.heap.size, 1, none⟩ = some (.int .i64 x1.2.1) := by rw [(bcell hb6).1 _ _ (by first | omega | (simp; try omega))]; simp
  have f62 : w6.cell? ⟨w5.heap.size, 2, none⟩ = some (.slice ad52 x1.2.2.length ad52') := by rw [(bcell hb6).1 _ _ (by first | omega | (simp; try omega))]; simp
  have z63 : w.heap.size < w6.heap.size := by omega
  have z64 : w.heap.size + 1 < w6.heap.size := by omega
  have z65 : w4.heap.size < w6.heap.size := by omega
  have z66 : w5.heap.size < w6.heap.size := by omega
  have hB67 : Below w.heap.size w w6 := bthen hB48 gw6
  have hB68 : Below w1.heap.size w1 w6 := bthen hB49 gw6
  have hB69 : Below w2.heap.size w2 w6 := bthen hB50 gw6
  have hB70 : Below w3.heap.size w3 w6 := bthen hB51 gw6
  have hB71 : Below w4.heap.size w4 w6 := bthen gw5 gw6
  clear hb6 f38 f39 f40 f41 f42 f43 f44 hB48 hB49 hB50 hB51 gw5 z45 z46 z47
  go_wp2_with fail
  refine wp_region_loose [exV (.agg #[.int .i64 x0.1, .slice ad36 x0.2.length ad36']), exV (.agg #[.int .i64 x0.1, u0]), rdA tplT x0, exV (.bool true), exV (.bool false)] (by kernel_rfl) (by kernel_rfl) ⟨st_exV, st_exV, st_rdA, st_exV, st_exV, trivial⟩ ⟨?j14_0, ?j14_1, ?j14_2, ?j14_3, ?j14_4, trivial⟩ ?hQ14
  case j14_0 =>
    intro a' w' hb hd
    have e0 : a'.tmps[7]?.getD undef = .pointer (some ⟨w4.heap.size, 0, none⟩) := ev (slot_o hd 7 rfl rfl)
    have q : ∀ b o, b < w6.heap.size → w'.cell? ⟨b, o, none⟩ = w6.cell? ⟨b, o, none⟩ := (bcell hb).1
    go_simp
    exact ⟨Below.refl _ _, rfl⟩
  case j14_1 =>
    intro a' w' hb hd
    have e0 : a'.tmps[2]?.getD undef = .pointer (some ⟨w.heap.size, 0, none⟩) := ev (slot_o hd 2 rfl rfl)
    have q : ∀ b o, b < w6.heap.size → w'.cell? ⟨b, o, none⟩ = w6.cell? ⟨b, o, none⟩ := (bcell hb).1
    go_simp
    exact ⟨Below.refl _ _, rfl⟩
  case j14_2 =>
    intro a' w' hb hd
    have e36 : a'.tmps[36]?.getD undef = .agg #[.int .i64 x0.1, u0] := ev (slot_w hd 36 (exV (.agg #[.int .i64 x0.1, u0])) rfl rfl)
    have r36 : tplT.Rd w6 (#[.int .i64 x0.1, u0] : Array Value).toList x0 := hx0.below (by repeat (first | exact Below.refl _ _ | exact bA | assumption | refine Below.setCell ?_ (by first | omega | (simp; try omega)) _ | refine Below.alloc ?_ (by first | omega | (simp; try omega)) _ | refine Below.drew ?_ | refine bDN ?_ | refine bthen ?_ (by assumption)))
    have r36' := r36.below hb
    go_simp
    exact ⟨Below.refl _ _, (toTemplate_any w' r36' (by first | omega | (unfold szInts; omega))).mono fun e w'' ⟨cs, he, hf, hb⟩ => ⟨_, he, hb, cs, rfl, hf.rd⟩⟩
  case j14_3 =>
    intro a' w' hb hd
    have e35 : a'.tmps[35]?.getD undef = .agg #[.int .i64 x0.1, .slice ad36 x0.2.length ad36'] := ev (slot_w hd 35 (exV (.agg #[.int .i64 x0.1, .slice ad36 x0.2.length ad36'])) rfl rfl)
    have r35 : tplT.Rd w6 (#[.int .i64 x0.1, .slice ad36 x0.2.length ad36'] : Array Value).toList x0 := hc25.rd.below (by repeat (first | exact Below.refl _ _ | exact bA | assumption | refine Below.setCell ?_ (by first | omega | (simp; try omega)) _ | refine Below.alloc ?_ (by first | omega | (simp; try omega)) _ | refine Below.drew ?_ | refine bDN ?_ | refine bthen ?_ (by assumption)))
    have r35' := r35.below hb
    have d37 := slot_w hd 37 (rdA tplT x0) rfl rfl
    obtain ⟨cs37, e37, hf37⟩ := d37
    have e37' := ev e37
    go_simp
    exact ⟨Below.refl _ _, (eqTemplate_any w' r35' hf37).mono fun e w'' ⟨he, hb⟩ => ⟨_, he, hb, exV_eqB⟩⟩
  case j14_4 =>
    intro a' w' hb hd
    have e0 : a'.tmps[38]?.getD undef = .bool true := ev (slot_w hd 38 (exV (.bool true)) rfl rfl)
    go_simp
    exact ⟨Below.refl _ _, rfl⟩
  intro vs14 w7 hb7 H0
  obtain ⟨v14_0, _, rfl, p0, H1⟩ := HAll_cons H0
  obtain ⟨v14_1, _, rfl, p1, H2⟩ := HAll_cons H1
  obtain ⟨v14_2, _, rfl, p2, H3⟩ := HAll_cons H2
  obtain ⟨v14_3, _, rfl, p3, H4⟩ := HAll_cons H3
  obtain ⟨v14_4, _, rfl, p4, H5⟩ := HAll_cons H4
  obtain rfl := HAll_nil H5
  obtain rfl := p0 rfl
  obtain rfl := p1 rfl
  obtain rfl := p3 rfl
  obtain rfl := p4 rfl
  clear p0 p1 p2 p3 p4 H0 H1 H2 H3 H4 H5
  have gw7 : Below w6.heap.size w6 w7 := bthen (by repeat (first | exact Below.refl _ _ | exact bA | assumption | refine Below.setCell ?_ (by first | omega | (simp; try omega)) _ | refine Below.alloc ?_ (by first | omega | (simp; try omega)) _ | refine Below.drew ?_ | refine bDN ?_ | refine bthen ?_ (by assumption))) hb7
  have sw7 : w6.heap.size + 0 ≤ w7.heap.size := by have := hb7.size; (try simp at this); omega
  have f72 : w7.cell? ⟨w.heap.size, 0, none⟩ = some (.int .i64 x0.1) := (gw7.cell (by first | omega | (simp; try omega))).trans f53
  have f73 : w7.cell? ⟨w.heap.size, 1, none⟩ = some (u0) := (gw7.cell (by first | omega | (simp; try omega))).trans f54
  have f74 : w7.cell? ⟨w.heap.size + 1, 0, none⟩ = some (.int .i64 x1.1) := (gw7.cell (by first | omega | (simp; try omega))).trans f55
  have f75 : w7.cell? ⟨w.heap.size + 1, 1, none⟩ = some (.int .i64 x1.2.1) := (gw7.cell (by first | omega | (simp; try omega))).trans f56
  have f76 : w7.cell? ⟨w.heap.size + 1, 2, none⟩ = some (u1) := (gw7.cell (by first | omega | (simp; try omega))).trans f57
  have f77 : w7.cell? ⟨w4.heap.size, 0, none⟩ = some (.int .i64 x0.1) := (gw7.cell (by first | omega | (simp; try omega))).trans f58
  have f78 : w7.cell? ⟨w4.heap.size, 1, none⟩ = some (.slice ad36 x0.2.length ad36') := (gw7.cell (by first | omega | (simp; try omega))).trans f59
  have f79 : w7.cell? ⟨w5.heap.size, 0, none⟩ = some (.int .i64 x1.1) := (gw7.cell (by first | omega | (simp; try omega))).trans f60
  have f80 : w7.cell? ⟨w5.heap.size, 1, none⟩ = some (.int .i64 x1.2.1) := (gw7.cell (by first | omega | (simp; try omega))).trans f61
  have f81 : w7.cell? ⟨w5.heap.size, 2, none⟩ = some (.slice ad52 x1.2.2.length ad52') := (gw7.cell (by first | omega | (simp; try omega))).trans f62
  have z82 : w.heap.size < w7.heap.size := by omega
  have z83 : w.heap.size + 1 < w7.heap.size := by omega
  have z84 : w4.heap.size < w7.heap.size := by omega
  have z85 : w5.heap.size < w7.heap.size := by omega
  have hB86 : Below w.heap.size w w7 := bthen hB67 gw7
  have hB87 : Below w1.heap.size w1 w7 := bthen hB68 gw7
  have hB88 : Below w2.heap.size w2 w7 := bthen hB69 gw7
  have hB89 : Below w3.heap.size w3 w7 := bthen hB70 gw7
  have hB90 : Below w4.heap.size w4 w7 := bthen hB71 gw7
  have hB91 : Below w5.heap.size w5 w7 := bthen gw6 gw7
  clear hb7 f53 f54 f55 f56 f57 f58 f59 f60 f61 f62 hB67 hB68 hB69 hB70 hB71 gw6 z63 z64 z65 z66
  simp only [putAll, Act.put]
  go_simp
  go_wp2_with fail
  refine wp_region_loose [exV (.agg #[.int .i64 x1.1, .int .i64 x1.2.1, .slice ad52 x1.2.2.length ad52']), exV (.agg #[.int .i64 x1.1, .int .i64 x1.2.1, u1]), rdA frmT x1, exV (.bool true), exV (.bool false)] (by kernel_rfl) (by kernel_rfl) ⟨st_exV, st_exV, st_rdA, st_exV, st_exV, trivial⟩ ⟨?j16_0, ?j16_1, ?j16_2, ?j16_3, ?j16_4, trivial⟩ ?hQ16
  case j16_0 =>
    intro a' w' hb hd
    have e0 : a'.tmps[8]?.getD undef = .pointer (some ⟨w5.heap.size, 0, none⟩) := ev (slot_o hd 8 rfl rfl)
    have q : ∀ b o, b < w7.heap.size → w'.cell? ⟨b, o, none⟩ = w7.cell? ⟨b, o, none⟩ := (bcell hb).1
    go_simp
    exact ⟨Below.refl _ _, rfl⟩
  case j16_1 =>
    intro a' w' hb hd
    have e0 : a'.tmps[3]?.getD undef = .pointer (some ⟨w.heap.size + 1, 0, none⟩) := ev (slot_o hd 3 rfl rfl)
    have q : ∀ b o, b < w7.heap.size → w'.cell? ⟨b, o, none⟩ = w7.cell? ⟨b, o, none⟩ := (bcell hb).1
    go_simp
    exact ⟨Below.refl _ _, rfl⟩
  case j16_2 =>
    intro a' w' hb hd
    have e41 : a'.tmps[41]?.getD undef = .agg #[.int .i64 x1.1, .int .i64 x1.2.1, u1] := ev (slot_w hd 41 (exV (.agg #[.int .i64 x1.1, .int .i64 x1.2.1, u1])) rfl rfl)
    have r41 : frmT.Rd w7 (#[.int .i64 x1.1, .int .i64 x1.2.1, u1] : Array Value).toList x1 := hx1.below (by repeat (first | exact Below.refl _ _ | exact bA | assumption | refine Below.setCell ?_ (by first | omega | (simp; try omega)) _ | refine Below.alloc ?_ (by first | omega | (simp; try omega)) _ | refine Below.drew ?_ | refine bDN ?_ | refine bthen ?_ (by assumption)))
    have r41' := r41.below hb
    go_simp
    exact ⟨Below.refl _ _, (toFormula_any w' r41' (by first | omega | (unfold szInts; omega))).mono fun e w'' ⟨cs, he, hf, hb⟩ => ⟨_, he, hb, cs, rfl, hf.rd⟩⟩
  case j16_3 =>
    intro a' w' hb hd
    have e40 : a'.tmps[40]?.getD undef = .agg #[.int .i64 x1.1, .int .i64 x1.2.1, .slice ad52 x1.2.2.length ad52'] := ev (slot_w hd 40 (exV (.agg #[.int .i64 x1.1, .int .i64 x1.2.1, .slice ad52 x1.2.2.length ad52'])) rfl rfl)
    have r40 : frmT.Rd w7 (#[.int .i64 x1.1, .int .i64 x1.2.1, .slice ad52 x1.2.2.length ad52'] : Array Value).toList x1 := hc37.rd.below (by repeat (first | exact Below.refl _ _ | exact bA | assumption | refine Below.setCell ?_ (by first | omega | (simp; try omega)) _ | refine Below.alloc ?_ (by first | omega | (simp; try omega)) _ | refine Below.drew ?_ | refine bDN ?_ | refine bthen ?_ (by assumption)))
    have r40' := r40.below hb
    have d42 := slot_w hd 42 (rdA frmT x1) rfl rfl
    obtain ⟨cs42, e42, hf42⟩ := d42
    have e42' := ev e42
    go_simp
    exact ⟨Below.refl _ _, (eqFormula_any w' r40' hf42).mono fun e w'' ⟨he, hb⟩ => ⟨_, he, hb, exV_eqB⟩⟩
  case j16_4 =>
    intro a' w' hb hd
    have e0 : a'.tmps[43]?.getD undef = .bool true := ev (slot_w hd 43 (exV (.bool true)) rfl rfl)
    go_simp
    exact ⟨Below.refl _ _, rfl⟩
  intro vs16 w8 hb8 H0
  obtain ⟨v16_0, _, rfl, p0, H1⟩ := HAll_cons H0
  obtain ⟨v16_1, _, rfl, p1, H2⟩ := HAll_cons H1
  obtain ⟨v16_2, _, rfl, p2, H3⟩ := HAll_cons H2
  obtain ⟨v16_3, _, rfl, p3, H4⟩ := HAll_cons H3
  obtain ⟨v16_4, _, rfl, p4, H5⟩ := HAll_cons H4
  obtain rfl := HAll_nil H5
  obtain rfl := p0 rfl
  obtain rfl := p1 rfl
  obtain rfl := p3 rfl
  obtain rfl := p4 rfl
  clear p0 p1 p2 p3 p4 H0 H1 H2 H3 H4 H5
  have gw8 : Below w7.heap.size w7 w8 := bthen (by repeat (first | exact Below.refl _ _ | exact bA | assumption | refine Below.setCell ?_ (by first | omega | (simp; try omega)) _ | refine Below.alloc ?_ (by first | omega | (simp; try omega)) _ | refine Below.drew ?_ | refine bDN ?_ | refine bthen ?_ (by assumption))) hb8
  have sw8 : w7.heap.size + 0 ≤ w8.heap.size := by have := hb8.size; (try simp at this); omega
  have f92 : w8.cell? ⟨w.heap.size, 0, none⟩ = some (.int .i64 x0.1) := (gw8.cell (by first | omega | (simp; try omega))).trans f72
  have f93 : w8.cell? ⟨w.heap.size, 1, none⟩ = some (u0) := (gw8.cell (by first | omega | (simp; try omega))).trans f73
  have f94 : w8.cell? ⟨w.heap.size + 1, 0, none⟩ = some (.int .i64 x1.1) := (gw8.cell (by first | omega | (simp; try omega))).trans f74
  have f95 : w8.cell? ⟨w.heap.size + 1, 1, none⟩ = some (.int .i64 x1.2.1) := (gw8.cell (by first | omega | (simp; try omega))).trans f75
  have f96 : w8.cell? ⟨w.heap.size + 1, 2, none⟩ = some (u1) := (gw8.cell (by first | omega | (simp; try omega))).trans f76
  have f97 : w8.cell? ⟨w4.heap.size, 0, none⟩ = some (.int .i64 x0.1) := (gw8.cell (by first | omega | (simp; try omega))).trans f77
  have f98 : w8.cell? ⟨w4.heap.size, 1, none⟩ = some (.slice ad36 x0.2.length ad36') := (gw8.cell (by first | omega | (simp; try omega))).trans f78
  have f99 : w8.cell? ⟨w5.heap.size, 0, none⟩ = some (.int .i64 x1.1) := (gw8.cell (by first | omega | (simp; try omega))).trans f79
  have f100 : w8.cell? ⟨w5.heap.size, 1, none⟩ = some (.int .i64 x1.2.1) := (gw8.cell (by first | omega | (simp; try omega))).trans f80
  have f101 : w8.cell? ⟨w5.heap.size, 2, none⟩ = some (.slice ad52 x1.2.2.length ad52') := (gw8.cell (by first | omega | (simp; try omega))).trans f81
  have z102 : w.heap.size < w8.heap.size := by omega
  have z103 : w.heap.size + 1 < w8.heap.size := by omega
  have z104 : w4.heap.size < w8.heap.size := by omega
  have z105 : w5.heap.size < w8.heap.size := by omega
  have hB106 : Below w.heap.size w w8 := bthen hB86 gw8
  have hB107 : Below w1.heap.size w1 w8 := bthen hB87 gw8
  have hB108 : Below w2.heap.size w2 w8 := bthen hB88 gw8
  have hB109 : Below w3.heap.size w3 w8 := bthen hB89 gw8
  have hB110 : Below w4.heap.size w4 w8 := bthen hB90 gw8
  have hB111 : Below w5.heap.size w5 w8 := bthen hB91 gw8
  have hB112 : Below w6.heap.size w6 w8 := bthen gw7 gw8
  clear hb8 f72 f73 f74 f75 f76 f77 f78 f79 f80 f81 hB86 hB87 hB88 hB89 hB90 hB91 gw7 z82 z83 z84 z85
  simp only [putAll, Act.put]
  go_simp
  go_wp2_with fail
  go_ret
  exact ⟨rfl, (by repeat (first | exact Below.refl _ _ | exact bA | assumption | refine Below.setCell ?_ (by first | omega | (simp; try omega)) _ | refine Below.alloc ?_ (by first | omega | (simp; try omega)) _ | refine Below.drew ?_ | refine bDN ?_ | refine bthen ?_ (by assumption)))⟩
end Go.Proofs.Ytiffaeiiodmnfaa
