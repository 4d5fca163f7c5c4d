/-
  The law FnExactSameFormula, walked: its contract.
-/
import Derived.Test.YtiffaeiiodmnfaaK2
import Derived.Test.YtiffaeiiodmnfaaKT
import Derived.Test.YtiffaeiiodmnfaaLoose
namespace Go.Proofs.Ytiffaeiiodmnfaa
open Go.RowKit Go.Sort
set_option maxHeartbeats 3200000 in
set_option maxRecDepth 100000 in
theorem fnExactSameFormula_any (w : World) {c0 : Array Value} {x0 : Int × Int × List (Int × List Int)} (h0 : frmT.Rd w c0.toList x0) {c1 : Array Value} {x1 : Int × Int × List (Int × List Int)} (h1 : frmT.Rd w c1.toList x1) :
    Calls Try.prog 5 #[.agg c0, .agg c1] w fun e w' => e = .returned (.bool true) ∧ Below w.heap.size w w' := by
  have hx0 := h0
  obtain ⟨u0, hv0, -, -, hy0⟩ := trip_ex h0
  obtain rfl := agg_of hv0
  clear hv0 h0
  have hn0 := szFrm_nn x0
  have hx1 := h1
  obtain ⟨u1, hv1, -, -, hy1⟩ := trip_ex h1
  obtain rfl := agg_of hv1
  clear hv1 h1
  have hn1 := szFrm_nn x1
  go_enter Try.func5, Try.ntmps5
  go_wp2_with fail
  refine (szFormula_any _ (hx0.below (by repeat (first | exact Below.refl _ _ | exact bA | assumption | refine Below.setCell ?_ (by first | omega | (simp; try omega)) _ | refine Below.alloc ?_ (by first | omega | (simp; try omega)) _ | refine Below.drew ?_ | refine bDN ?_ | refine bthen ?_ (by assumption)))) _ (by omega) (by omega)).mono ?_
  rintro e w1 ⟨rfl, hb1⟩
  have gw1 : Below w.heap.size w w1 := bthen (by repeat (first | exact Below.refl _ _ | exact bA | assumption | refine Below.setCell ?_ (by first | omega | (simp; try omega)) _ | refine Below.alloc ?_ (by first | omega | (simp; try omega)) _ | refine Below.drew ?_ | refine bDN ?_ | refine bthen ?_ (by assumption))) hb1
  have sw1 : w.heap.size + 2 ≤ w1.heap.size := by have := hb1.size; (try simp at this); omega
  have f1 : w1.cell? ⟨w.heap.size, 0, none⟩ = some (.int .i64 x0.1) := by rw [(bcell hb1).1 _ _ (by first | omega | (simp; try omega))]; simp
  have f2 : w1.cell? ⟨w.heap.size, 1, none⟩ = some (.int .i64 x0.2.1) := by rw [(bcell hb1).1 _ _ (by first | omega | (simp; try omega))]; simp
  have f3 : w1.cell? ⟨w.heap.size, 2, none⟩ = some (u0) := by rw [(bcell hb1).1 _ _ (by first | omega | (simp; try omega))]; simp
  have f4 : w1.cell? ⟨w.heap.size + 1, 0, none⟩ = some (.int .i64 x1.1) := by rw [(bcell hb1).1 _ _ (by first | omega | (simp; try omega))]; simp
  have f5 : w1.cell? ⟨w.heap.size + 1, 1, none⟩ = some (.int .i64 x1.2.1) := by rw [(bcell hb1).1 _ _ (by first | omega | (simp; try omega))]; simp
  have f6 : w1.cell? ⟨w.heap.size + 1, 2, none⟩ = some (u1) := by rw [(bcell hb1).1 _ _ (by first | omega | (simp; try omega))]; simp
  have z7 : w.heap.size < w1.heap.size := by omega
  have z8 : w.heap.size + 1 < w1.heap.size := by omega
  clear hb1 
  rcases ilt 1048576 (szFrm x0) with hl2 | hl2
  · rw [szR_lt hl2]
    go_wp2_with fail
    go_ret
    exact ⟨rfl, (by repeat (first | exact Below.refl _ _ | exact bA | assumption | refine Below.setCell ?_ (by first | omega | (simp; try omega)) _ | refine Below.alloc ?_ (by first | omega | (simp; try omega)) _ | refine Below.drew ?_ | refine bDN ?_ | refine bthen ?_ (by assumption)))⟩
  rw [szR_ge hl2]
  go_wp2_with fail
  refine (szFormula_any _ (hx1.below (by repeat (first | exact Below.refl _ _ | exact bA | assumption | refine Below.setCell ?_ (by first | omega | (simp; try omega)) _ | refine Below.alloc ?_ (by first | omega | (simp; try omega)) _ | refine Below.drew ?_ | refine bDN ?_ | refine bthen ?_ (by assumption)))) _ (by omega) (by omega)).mono ?_
  rintro e w2 ⟨rfl, hb2⟩
  have gw2 : Below w1.heap.size w1 w2 := bthen (by repeat (first | exact Below.refl _ _ | exact bA | assumption | refine Below.setCell ?_ (by first | omega | (simp; try omega)) _ | refine Below.alloc ?_ (by first | omega | (simp; try omega)) _ | refine Below.drew ?_ | refine bDN ?_ | refine bthen ?_ (by assumption))) hb2
  have sw2 : w1.heap.size + 0 ≤ w2.heap.size := by have := hb2.size; (try simp at this); omega
  have f9 : w2.cell? ⟨w.heap.size, 0, none⟩ = some (.int .i64 x0.1) := (gw2.cell (by first | omega | (simp; try omega))).trans f1
  have f10 : w2.cell? ⟨w.heap.size, 1, none⟩ = some (.int .i64 x0.2.1) := (gw2.cell (by first | omega | (simp; try omega))).trans f2
  have f11 : w2.cell? ⟨w.heap.size, 2, none⟩ = some (u0) := (gw2.cell (by first | omega | (simp; try omega))).trans f3
  have f12 : w2.cell? ⟨w.heap.size + 1, 0, none⟩ = some (.int .i64 x1.1) := (gw2.cell (by first | omega | (simp; try omega))).trans f4
  have f13 : w2.cell? ⟨w.heap.size + 1, 1, none⟩ = some (.int .i64 x1.2.1) := (gw2.cell (by first | omega | (simp; try omega))).trans f5
  have f14 : w2.cell? ⟨w.heap.size + 1, 2, none⟩ = some (u1) := (gw2.cell (by first | omega | (simp; try omega))).trans f6
  have z15 : w.heap.size < w2.heap.size := by omega
  have z16 : w.heap.size + 1 < w2.heap.size := by omega
  have hB17 : Below w.heap.size w w2 := bthen gw1 gw2
  clear hb2 f1 f2 f3 f4 f5 f6 gw1 z7 z8
  rcases ilt (1048576 - szFrm x0) (szFrm x1) with hl5 | hl5
  · rw [szR_lt hl5]
    go_wp2_with fail
    go_ret
    exact ⟨rfl, (by repeat (first | exact Below.refl _ _ | exact bA | assumption | refine Below.setCell ?_ (by first | omega | (simp; try omega)) _ | refine Below.alloc ?_ (by first | omega | (simp; try omega)) _ | refine Below.drew ?_ | refine bDN ?_ | refine bthen ?_ (by assumption)))⟩
  rw [szR_ge hl5]
  go_wp2_with fail
  refine wp_region_loose [exV (.agg #[.int .i64 x0.1, .int .i64 x0.2.1, u0]), rdA frmT x0, exV (.agg #[.int .i64 x1.1, .int .i64 x1.2.1, u1]), rdA frmT x1, exV (.bool (eqB x0 x1)), exV (.bool (eqB x0 x1))] (by kernel_rfl) (by kernel_rfl) ⟨st_exV, st_rdA, st_exV, st_rdA, st_exV, st_exV, trivial⟩ ⟨?j8_0, ?j8_1, ?j8_2, ?j8_3, ?j8_4, ?j8_5, trivial⟩ ?hQ8
  case j8_0 =>
    intro a' w' hb hd
    have e0 : a'.tmps[2]?.getD undef = .pointer (some ⟨w.heap.size, 0, none⟩) := ev (slot_o hd 2 rfl rfl)
    have q : ∀ b o, b < w2.heap.size → w'.cell? ⟨b, o, none⟩ = w2.cell? ⟨b, o, none⟩ := (bcell hb).1
    go_simp
    exact ⟨Below.refl _ _, rfl⟩
  case j8_1 =>
    intro a' w' hb hd
    have e20 : a'.tmps[20]?.getD undef = .agg #[.int .i64 x0.1, .int .i64 x0.2.1, u0] := ev (slot_w hd 20 (exV (.agg #[.int .i64 x0.1, .int .i64 x0.2.1, u0])) rfl rfl)
    have r20 : frmT.Rd w2 (#[.int .i64 x0.1, .int .i64 x0.2.1, u0] : Array Value).toList x0 := hx0.below (by repeat (first | exact Below.refl _ _ | exact bA | assumption | refine Below.setCell ?_ (by first | omega | (simp; try omega)) _ | refine Below.alloc ?_ (by first | omega | (simp; try omega)) _ | refine Below.drew ?_ | refine bDN ?_ | refine bthen ?_ (by assumption)))
    have r20' := r20.below hb
    go_simp
    exact ⟨Below.refl _ _, (toFormula_any w' r20' (by first | omega | (unfold szInts; omega))).mono fun e w'' ⟨cs, he, hf, hb⟩ => ⟨_, he, hb, cs, rfl, hf.rd⟩⟩
  case j8_2 =>
    intro a' w' hb hd
    have e0 : a'.tmps[3]?.getD undef = .pointer (some ⟨w.heap.size + 1, 0, none⟩) := ev (slot_o hd 3 rfl rfl)
    have q : ∀ b o, b < w2.heap.size → w'.cell? ⟨b, o, none⟩ = w2.cell? ⟨b, o, none⟩ := (bcell hb).1
    go_simp
    exact ⟨Below.refl _ _, rfl⟩
  case j8_3 =>
    intro a' w' hb hd
    have e22 : a'.tmps[22]?.getD undef = .agg #[.int .i64 x1.1, .int .i64 x1.2.1, u1] := ev (slot_w hd 22 (exV (.agg #[.int .i64 x1.1, .int .i64 x1.2.1, u1])) rfl rfl)
    have r22 : frmT.Rd w2 (#[.int .i64 x1.1, .int .i64 x1.2.1, u1] : Array Value).toList x1 := hx1.below (by repeat (first | exact Below.refl _ _ | exact bA | assumption | refine Below.setCell ?_ (by first | omega | (simp; try omega)) _ | refine Below.alloc ?_ (by first | omega | (simp; try omega)) _ | refine Below.drew ?_ | refine bDN ?_ | refine bthen ?_ (by assumption)))
    have r22' := r22.below hb
    go_simp
    exact ⟨Below.refl _ _, (toFormula_any w' r22' (by first | omega | (unfold szInts; omega))).mono fun e w'' ⟨cs, he, hf, hb⟩ => ⟨_, he, hb, cs, rfl, hf.rd⟩⟩
  case j8_4 =>
    intro a' w' hb hd
    have d21 := slot_w hd 21 (rdA frmT x0) rfl rfl
    obtain ⟨cs21, e21, hf21⟩ := d21
    have e21' := ev e21
    have d23 := slot_w hd 23 (rdA frmT x1) rfl rfl
    obtain ⟨cs23, e23, hf23⟩ := d23
    have e23' := ev e23
    go_simp
    exact ⟨Below.refl _ _, (specSameFormula_any _ hf21 hf23).mono fun e w'' ⟨he, hb⟩ => ⟨_, he, hb, rfl⟩⟩
  case j8_5 =>
    intro a' w' hb hd
    have e0 : a'.tmps[24]?.getD undef = .bool (eqB x0 x1) := ev (slot_w hd 24 (exV (.bool (eqB x0 x1))) rfl rfl)
    go_simp
    exact ⟨Below.refl _ _, rfl⟩
  intro vs8 w3 hb3 H0
  obtain ⟨v8_0, _, rfl, p0, H1⟩ := HAll_cons H0
  obtain ⟨v8_1, _, rfl, p1, H2⟩ := HAll_cons H1
  obtain ⟨v8_2, _, rfl, p2, H3⟩ := HAll_cons H2
  obtain ⟨v8_3, _, rfl, p3, H4⟩ := HAll_cons H3
  obtain ⟨v8_4, _, rfl, p4, H5⟩ := HAll_cons H4
  obtain ⟨v8_5, _, rfl, p5, H6⟩ := HAll_cons H5
  obtain rfl := HAll_nil H6
  obtain rfl := p0 rfl
  obtain rfl := p2 rfl
  obtain rfl := p4 rfl
  obtain rfl := p5 rfl
  clear p0 p1 p2 p3 p4 p5 H0 H1 H2 H3 H4 H5 H6
  have gw3 : Below w2.heap.size w2 w3 := bthen (by repeat (first | exact Below.refl _ _ | exact bA | assumption | refine Below.setCell ?_ (by first | omega | (simp; try omega)) _ | refine Below.alloc ?_ (by first | omega | (simp; try omega)) _ | refine Below.drew ?_ | refine bDN ?_ | refine bthen ?_ (by assumption))) hb3
  have sw3 : w2.heap.size + 0 ≤ w3.heap.size := by have := hb3.size; (try simp at this); omega
  have f18 : w3.cell? ⟨w.heap.size, 0, none⟩ = some (.int .i64 x0.1) := (gw3.cell (by first | omega | (simp; try omega))).trans f9
  have f19 : w3.cell? ⟨w.heap.size, 1, none⟩ = some (.int .i64 x0.2.1) := (gw3.cell (by first | omega | (simp; try omega))).trans f10
  have f20 : w3.cell? ⟨w.heap.size, 2, none⟩ = some (u0) := (gw3.cell (by first | omega | (simp; try omega))).trans f11
  have f21 : w3.cell? ⟨w.heap.size + 1, 0, none⟩ = some (.int .i64 x1.1) := (gw3.cell (by first | omega | (simp; try omega))).trans f12
  have f22 : w3.cell? ⟨w.heap.size + 1, 1, none⟩ = some (.int .i64 x1.2.1) := (gw3.cell (by first | omega | (simp; try omega))).trans f13
  have f23 : w3.cell? ⟨w.heap.size + 1, 2, none⟩ = some (u1) := (gw3.cell (by first | omega | (simp; try omega))).trans f14
  have z24 : w.heap.size < w3.heap.size := by omega
  have z25 : w.heap.size + 1 < w3.heap.size := by omega
  have hB26 : Below w.heap.size w w3 := bthen hB17 gw3
  have hB27 : Below w1.heap.size w1 w3 := bthen gw2 gw3
  clear hb3 f9 f10 f11 f12 f13 f14 hB17 gw2 z15 z16
  simp only [putAll, Act.put]
  go_simp
  go_wp2_with fail
  refine (toFormula_any _ (hx0.below (by repeat (first | exact Below.refl _ _ | exact bA | assumption | refine Below.setCell ?_ (by first | omega | (simp; try omega)) _ | refine Below.alloc ?_ (by first | omega | (simp; try omega)) _ | refine Below.drew ?_ | refine bDN ?_ | refine bthen ?_ (by assumption)))) (by first | omega | (unfold szInts; omega))).mono ?_
  rintro e w4 ⟨cs, rfl, hc28, hb4⟩
  have gw4 : Below w3.heap.size w3 w4 := bthen (by repeat (first | exact Below.refl _ _ | exact bA | assumption | refine Below.setCell ?_ (by first | omega | (simp; try omega)) _ | refine Below.alloc ?_ (by first | omega | (simp; try omega)) _ | refine Below.drew ?_ | refine bDN ?_ | refine bthen ?_ (by assumption))) hb4
  have sw4 : w3.heap.size + 0 ≤ w4.heap.size := by have := hb4.size; (try simp at this); omega
  have f29 : w4.cell? ⟨w.heap.size, 0, none⟩ = some (.int .i64 x0.1) := (gw4.cell (by first | omega | (simp; try omega))).trans f18
  have f30 : w4.cell? ⟨w.heap.size, 1, none⟩ = some (.int .i64 x0.2.1) := (gw4.cell (by first | omega | (simp; try omega))).trans f19
  have f31 : w4.cell? ⟨w.heap.size, 2, none⟩ = some (u0) := (gw4.cell (by first | omega | (simp; try omega))).trans f20
  have f32 : w4.cell? ⟨w.heap.size + 1, 0, none⟩ = some (.int .i64 x1.1) := (gw4.cell (by first | omega | (simp; try omega))).trans f21
  have f33 : w4.cell? ⟨w.heap.size + 1, 1, none⟩ = some (.int .i64 x1.2.1) := (gw4.cell (by first | omega | (simp; try omega))).trans f22
  have f34 : w4.cell? ⟨w.heap.size + 1, 2, none⟩ = some (u1) := (gw4.cell (by first | omega | (simp; try omega))).trans f23
  have z35 : w.heap.size < w4.heap.size := by omega
  have z36 : w.heap.size + 1 < w4.heap.size := by omega
  have hB37 : Below w.heap.size w w4 := bthen hB26 gw4
  have hB38 : Below w1.heap.size w1 w4 := bthen hB27 gw4
  have hB39 : Below w2.heap.size w2 w4 := bthen gw3 gw4
  clear hb4 f18 f19 f20 f21 f22 f23 hB26 hB27 gw3 z24 z25
  obtain ⟨ad40, ad40', rfl⟩ := fr_trip hc28
  go_wp2_with fail
  refine (toFormula_any _ (hx1.below (by repeat (first | exact Below.refl _ _ | exact bA | assumption | refine Below.setCell ?_ (by first | omega | (simp; try omega)) _ | refine Below.alloc ?_ (by first | omega | (simp; try omega)) _ | refine Below.drew ?_ | refine bDN ?_ | refine bthen ?_ (by assumption)))) (by first | omega | (unfold szInts; omega))).mono ?_
  rintro e w5 ⟨cs, rfl, hc41, hb5⟩
  have gw5 : Below w4.heap.size w4 w5 := bthen (by repeat (first | exact Below.refl _ _ | exact bA | assumption | refine Below.setCell ?_ (by first | omega | (simp; try omega)) _ | refine Below.alloc ?_ (by first | omega | (simp; try omega)) _ | refine Below.drew ?_ | refine bDN ?_ | refine bthen ?_ (by assumption))) hb5
  have sw5 : w4.heap.size + 1 ≤ w5.heap.size := by have := hb5.size; (try simp at this); omega
  have f42 : w5.cell? ⟨w.heap.size, 0, none⟩ = some (.int .i64 x0.1) := (gw5.cell (by first | omega | (simp; try omega))).trans f29
  have f43 : w5.cell? ⟨w.heap.size, 1, none⟩ = some (.int .i64 x0.2.1) := (gw5.cell (by first | omega | (simp; try omega))).trans f30
  have f44 : w5.cell? ⟨w.heap.size, 2, none⟩ = some (u0) := (gw5.cell (by first | omega | (simp; try omega))).trans f31
  have f45 : w5.cell? ⟨w.heap.size + 1, 0, none⟩ = some (.int .i64 x1.1) := (gw5.cell (by first | omega | (simp; try omega))).trans f32
  have f46 : w5.cell? ⟨w.heap.size + 1, 1, none⟩ = some (.int .i64 x1.2.1) := (gw5.cell (by first | omega | (simp; try omega))).trans f33
  have f47 : w5.cell? ⟨w.heap.size + 1, 2, none⟩ = some (u1) := (gw5.cell (by first | omega | (simp; try omega))).trans f34
  have f48 : w5.cell? ⟨w4.heap.size, 0, none⟩ = some (.int .i64 x0.1) := by rw [(bcell hb5).1 _ _ (by first | omega | (simp; try omega))]; simp
  have f49 : w5.cell? ⟨w4.heap.size, 1, none⟩ = some (.int .i64 x0.2.1) := by rw [(bcell hb5).1 _ _ (by first | omega | (simp; try omega))]; simp
  have f50 : w5.cell? ⟨w4.heap.size, 2, none⟩ = some (.slice ad40 x0.2.2.length ad40') := by rw [(bcell hb5).1 _ _ (by first | omega | (simp; try omega))]; simp
  have z51 : w.heap.size < w5.heap.size := by omega
  have z52 : w.heap.size + 1 < w5.heap.size := by omega
  have z53 : w4.heap.size < w5.heap.size := by omega
  have hB54 : Below w.heap.size w w5 := bthen hB37 gw5
  have hB55 : Below w1.heap.size w1 w5 := bthen hB38 gw5
  have hB56 : Below w2.heap.size w2 w5 := bthen hB39 gw5
  have hB57 : Below w3.heap.size w3 w5 := bthen gw4 gw5
  clear hb5 f29 f30 f31 f32 f33 f34 hB37 hB38 hB39 gw4 z35 z36
  obtain ⟨ad58, ad58', rfl⟩ := fr_trip hc41
  go_wp2_with fail
  refine (sameFormula_any _ (hc28.rd.below (by repeat (first | exact Below.refl _ _ | exact bA | assumption | refine Below.setCell ?_ (by first | omega | (simp; try omega)) _ | refine Below.alloc ?_ (by first | omega | (simp; try omega)) _ | refine Below.drew ?_ | refine bDN ?_ | refine bthen ?_ (by assumption)))) (hc41.rd.below (by repeat (first | exact Below.refl _ _ | exact bA | assumption | refine Below.setCell ?_ (by first | omega | (simp; try omega)) _ | refine Below.alloc ?_ (by first | omega | (simp; try omega)) _ | refine Below.drew ?_ | refine bDN ?_ | refine bthen ?_ (by assumption))))).mono ?_
  rintro e w6 ⟨rfl, hb6⟩
  have gw6 : Below w5.heap.size w5 w6 := bthen (by repeat (first | exact Below.refl _ _ | exact bA | assumption | refine Below.setCell ?_ (by first | omega | (simp; try omega)) _ | refine Below.alloc ?_ (by first | omega | (simp; try omega)) _ | refine Below.drew ?_ | refine bDN ?_ | refine bthen ?_ (by assumption))) hb6
  have sw6 : w5.heap.size + 1 ≤ w6.heap.size := by have := hb6.size; (try simp at this); omega
  have f59 : w6.cell? ⟨w.heap.size, 0, none⟩ = some (.int .i64 x0.1) := (gw6.cell (by first | omega | (simp; try omega))).trans f42
  have f60 : w6.cell? ⟨w.heap.size, 1, none⟩ = some (.int .i64 x0.2.1) := (gw6.cell (by first | omega | (simp; try omega))).trans f43
  have f61 : w6.cell? ⟨w.heap.size, 2, none⟩ = some (u0) := (gw6.cell (by first | omega | (simp; try omega))).trans f44
  have f62 : w6.cell? ⟨w.heap.size + 1, 0, none⟩ = some (.int .i64 x1.1) := (gw6.cell (by first | omega | (simp; try omega))).trans f45
  have f63 : w6.cell? ⟨w.heap.size + 1, 1, none⟩ = some (.int .i64 x1.2.1) := (gw6.cell (by first | omega | (simp; try omega))).trans f46
  have f64 : w6.cell? ⟨w.heap.size + 1, 2, none⟩ = some (u1) := (gw6.cell (by first | omega | (simp; try omega))).trans f47
  have f65 : w6.cell? ⟨w4.heap.size, 0, none⟩ = some (.int .i64 x0.1) := (gw6.cell (by first | omega | (simp; try omega))).trans f48
  have f66 : w6.cell? ⟨w4.heap.size, 1, none⟩ = some (.int .i64 x0.2.1) := (gw6.cell (by first | omega | (simp; try omega))).trans f49
  have f67 : w6.cell? ⟨w4.heap.size, 2, none⟩ = some (.slice ad40 x0.2.2.length ad40') := (gw6.cell (by first | omega | (simp; try omega))).trans f50
  have f68 : w6.cell? ⟨w5.heap.size, 0, none⟩ = some (.int .i64 x1.1) := by rw [(bcell hb6).1 _ _ (by first | omega | (simp; try omega))]; simp
  have f69 : w6.cell? ⟨w5.heap.size, 1, none⟩ = some (.int .i64 x1.2.1) := by rw [(bcell hb6).1 _ _ (by first | omega | (simp; try omega))]; simp
  have f70 : w6.cell? ⟨w5.heap.size, 2, none⟩ = some (.slice ad58 x1.2.2.length ad58') := by rw [(bcell hb6).1 _ _ (by first | omega | (simp; try omega))]; simp
  have z71 : w.heap.size < w6.heap.size := by omega
  have z72 : w.heap.size + 1 < w6.heap.size := by omega
  have z73 : w4.heap.size < w6.heap.size := by omega
  have z74 : w5.heap.size < w6.heap.size := by omega
  have hB75 : Below w.heap.size w w6 := bthen hB54 gw6
  have hB76 : Below w1.heap.size w1 w6 := bthen hB55 gw6
  have hB77 : Below w2.heap.size w2 w6 := bthen hB56 gw6
  have hB78 : Below w3.heap.size w3 w6 := bthen hB57 gw6
  have hB79 : Below w4.heap.size w4 w6 := bthen gw5 gw6
  clear hb6 f42 f43 f44 f45 f46 f47 f48 f49 f50 hB54 hB55 hB56 hB57 gw5 z51 z52 z53
  go_wp2_with fail
  refine wp_region_loose [exV (.agg #[.int .i64 x0.1, .int .i64 x0.2.1, .slice ad40 x0.2.2.length ad40']), exV (.agg #[.int .i64 x0.1, .int .i64 x0.2.1, u0]), rdA frmT x0, exV (.bool true), exV (.bool false)] (by kernel_rfl) (by kernel_rfl) ⟨st_exV, st_exV, st_rdA, st_exV, st_exV, trivial⟩ ⟨?j14_0, ?j14_1, ?j14_2, ?j14_3, ?j14_4, trivial⟩ ?hQ14
  case j14_0 =>
    intro a' w' hb hd
    have e0 : a'.tmps[7]?.getD undef = .pointer (some ⟨w4.heap.size, 0, none⟩) := ev (slot_o hd 7 rfl rfl)
    have q : ∀ b o, b < w6.heap.size → w'.cell? ⟨b, o, none⟩ = w6.cell? ⟨b, o, none⟩ := (bcell hb).1
    go_simp
    exact ⟨Below.refl _ _, rfl⟩
  case j14_1 =>
    intro a' w' hb hd
    have e0 : a'.tmps[2]?.getD undef = .pointer (some ⟨w.heap.size, 0, none⟩) := ev (slot_o hd 2 rfl rfl)
    have q : ∀ b o, b < w6.heap.size → w'.cell? ⟨b, o, none⟩ = w6.cell? ⟨b, o, none⟩ := (bcell hb).1
    go_simp
    exact ⟨Below.refl _ _, rfl⟩
  case j14_2 =>
    intro a' w' hb hd
    have e36 : a'.tmps[36]?.getD undef = .agg #[.int .i64 x0.1, .int .i64 x0.2.1, u0] := ev (slot_w hd 36 (exV (.agg #[.int .i64 x0.1, .int .i64 x0.2.1, u0])) rfl rfl)
    have r36 : frmT.Rd w6 (#[.int .i64 x0.1, .int .i64 x0.2.1, u0] : Array Value).toList x0 := hx0.below (by repeat (first | exact Below.refl _ _ | exact bA | assumption | refine Below.setCell ?_ (by first | omega | (simp; try omega)) _ | refine Below.alloc ?_ (by first | omega | (simp; try omega)) _ | refine Below.drew ?_ | refine bDN ?_ | refine bthen ?_ (by assumption)))
    have r36' := r36.below hb
    go_simp
    exact ⟨Below.refl _ _, (toFormula_any w' r36' (by first | omega | (unfold szInts; omega))).mono fun e w'' ⟨cs, he, hf, hb⟩ => ⟨_, he, hb, cs, rfl, hf.rd⟩⟩
  case j14_3 =>
    intro a' w' hb hd
    have e35 : a'.tmps[35]?.getD undef = .agg #[.int .i64 x0.1, .int .i64 x0.2.1, .slice ad40 x0.2.2.length ad40'] := ev (slot_w hd 35 (exV (.agg #[.int .i64 x0.1, .int .i64 x0.2.1, .slice ad40 x0.2.2.length ad40'])) rfl rfl)
    have r35 : frmT.Rd w6 (#[.int .i64 x0.1, .int .i64 x0.2.1, .slice ad40 x0.2.2.length ad40'] : Array Value).toList x0 := hc28.rd.below (by repeat (first | exact Below.refl _ _ | exact bA | assumption | refine Below.setCell ?_ (by first | omega | (simp; try omega)) _ | refine Below.alloc ?_ (by first | omega | (simp; try omega)) _ | refine Below.drew ?_ | refine bDN ?_ | refine bthen ?_ (by assumption)))
    have r35' := r35.below hb
    have d37 := slot_w hd 37 (rdA frmT x0) rfl rfl
    obtain ⟨cs37, e37, hf37⟩ := d37
    have e37' := ev e37
    go_simp
    exact ⟨Below.refl _ _, (eqFormula_any w' r35' hf37).mono fun e w'' ⟨he, hb⟩ => ⟨_, he, hb, exV_eqB⟩⟩
  case j14_4 =>
    intro a' w' hb hd
    have e0 : a'.tmps[38]?.getD undef = .bool true := ev (slot_w hd 38 (exV (.bool true)) rfl rfl)
    go_simp
    exact ⟨Below.refl _ _, rfl⟩
  intro vs14 w7 hb7 H0
  obtain ⟨v14_0, _, rfl, p0, H1⟩ := HAll_cons H0
  obtain ⟨v14_1, _, rfl, p1, H2⟩ := HAll_cons H1
  obtain ⟨v14_2, _, rfl, p2, H3⟩ := HAll_cons H2
  obtain ⟨v14_3, _, rfl, p3, H4⟩ := HAll_cons H3
  obtain ⟨v14_4, _, rfl, p4, H5⟩ := HAll_cons H4
  obtain rfl := HAll_nil H5
  obtain rfl := p0 rfl
  obtain rfl := p1 rfl
  obtain rfl := p3 rfl
  obtain rfl := p4 rfl
  clear p0 p1 p2 p3 p4 H0 H1 H2 H3 H4 H5
  have gw7 : Below w6.heap.size w6 w7 := bthen (by repeat (first | exact Below.refl _ _ | exact bA | assumption | refine Below.setCell ?_ (by first | omega | (simp; try omega)) _ | refine Below.alloc ?_ (by first | omega | (simp; try omega)) _ | refine Below.drew ?_ | refine bDN ?_ | refine bthen ?_ (by assumption))) hb7
  have sw7 : w6.heap.size + 0 ≤ w7.heap.size := by have := hb7.size; (try simp at this); omega
  have f80 : w7.cell? ⟨w.heap.size, 0, none⟩ = some (.int .i64 x0.1) := (gw7.cell (by first | omega | (simp; try omega))).trans f59
  have f81 : w7.cell? ⟨w.heap.size, 1, none⟩ = some (.int .i64 x0.2.1) := (gw7.cell (by first | omega | (simp; try omega))).trans f60
  have f82 : w7.cell? ⟨w.heap.size, 2, none⟩ = some (u0) := (gw7.cell (by first | omega | (simp; try omega))).trans f61
  have f83 : w7.cell? ⟨w.heap.size + 1, 0, none⟩ = some (.int .i64 x1.1) := (gw7.cell (by first | omega | (simp; try omega))).trans f62
  have f84 : w7.cell? ⟨w.heap.size + 1, 1, none⟩ = some (.int .i64 x1.2.1) := (gw7.cell (by first | omega | (simp; try omega))).trans f63
  have f85 : w7.cell? ⟨w.heap.size + 1, 2, none⟩ = some (u1) := (gw7.cell (by first | omega | (simp; try omega))).trans f64
  have f86 : w7.cell? ⟨w4.heap.size, 0, none⟩ = some (.int .i64 x0.1) := (gw7.cell (by first | omega | (simp; try omega))).trans f65
  have f87 : w7.cell? ⟨w4.heap.size, 1, none⟩ = some (.int .i64 x0.2.1) := (gw7.cell (by first | omega | (simp; try omega))).trans f66
  have f88 : w7.cell? ⟨w4.heap.size, 2, none⟩ = some (.slice ad40 x0.2.2.length ad40') := (gw7.cell (by first | omega | (simp; try omega))).trans f67
  have f89 : w7.cell? ⟨w5.heap.size, 0, none⟩ = some (.int .i64 x1.1) := (gw7.cell (by first | omega | (simp; try omega))).trans f68
  have f90 : w7.cell? ⟨w5.heap.size, 1, none⟩ = some (.int .i64 x1.2.1) := (gw7.cell (by first | omega | (simp; try omega))).trans f69
  have f91 : w7.cell? ⟨w5.heap.size, 2, none⟩ = some (.slice ad58 x1.2.2.length ad58') := (gw7.cell (by first | omega | (simp; try omega))).trans f70
  have z92 : w.heap.size < w7.heap.size := by omega
  have z93 : w.heap.size + 1 < w7.heap.size := by omega
  have z94 : w4.heap.size < w7.heap.size := by omega
  have z95 : w5.heap.size < w7.heap.size := by omega
  have hB96 : Below w.heap.size w w7 := bthen hB75 gw7
  have hB97 : Below w1.heap.size w1 w7 := bthen hB76 gw7
  have hB98 : Below w2.heap.size w2 w7 := bthen hB77 gw7
  have hB99 : Below w3.heap.size w3 w7 := bthen hB78 gw7
  have hB100 : Below w4.heap.size w4 w7 := bthen hB79 gw7
  have hB101 : Below w5.heap.size w5 w7 := bthen gw6 gw7
  clear hb7 f59 f60 f61 f62 f63 f64 f65 f66 f67 f68 f69 f70 hB75 hB76 hB77 hB78 hB79 gw6 z71 z72 z73 z74
  simp only [putAll, Act.put]
  go_simp
  go_wp2_with fail
  refine wp_region_loose [exV (.agg #[.int .i64 x1.1, .int .i64 x1.2.1, .slice ad58 x1.2.2.length ad58']), exV (.agg #[.int .i64 x1.1, .int .i64 x1.2.1, u1]), rdA frmT x1, exV (.bool true), exV (.bool false)] (by kernel_rfl) (by kernel_rfl) ⟨st_exV, st_exV, st_rdA, st_exV, st_exV, trivial⟩ ⟨?j16_0, ?j16_1, ?j16_2, ?j16_3, ?j16_4, trivial⟩ ?hQ16
  case j16_0 =>
    intro a' w' hb hd
    have e0 : a'.tmps[8]?.getD undef = .pointer (some ⟨w5.heap.size, 0, none⟩) := ev (slot_o hd 8 rfl rfl)
    have q : ∀ b o, b < w7.heap.size → w'.cell? ⟨b, o, none⟩ = w7.cell? ⟨b, o, none⟩ := (bcell hb).1
    go_simp
    exact ⟨Below.refl _ _, rfl⟩
  case j16_1 =>
    intro a' w' hb hd
    have e0 : a'.tmps[3]?.getD undef = .pointer (some ⟨w.heap.size + 1, 0, none⟩) := ev (slot_o hd 3 rfl rfl)
    have q : ∀ b o, b < w7.heap.size → w'.cell? ⟨b, o, none⟩ = w7.cell? ⟨b, o, none⟩ := (bcell hb).1
    go_simp
    exact ⟨Below.refl _ _, rfl⟩
  case j16_2 =>
    intro a' w' hb hd
    have e41 : a'.tmps[41]?.getD undef = .agg #[.int .i64 x1.1, .int .i64 x1.2.1, u1] := ev (slot_w hd 41 (exV (.agg #[.int .i64 x1.1, .int .i64 x1.2.1, u1])) rfl rfl)
    have r41 : frmT.Rd w7 (#[.int .i64 x1.1, .int .i64 x1.2.1, u1] : Array Value).toList x1 := hx1.below (by repeat (first | exact Below.refl _ _ | exact bA | assumption | refine Below.setCell ?_ (by first | omega | (simp; try omega)) _ | refine Below.alloc ?_ (by first | omega | (simp; try omega)) _ | refine Below.drew ?_ | refine bDN ?_ | refine bthen ?_ (by assumption)))
    have r41' := r41.below hb
    go_simp
    exact ⟨Below.refl _ _, (toFormula_any w' r41' (by first | omega | (unfold szInts; omega))).mono fun e w'' ⟨cs, he, hf, hb⟩ => ⟨_, he, hb, cs, rfl, hf.rd⟩⟩
  case j16_3 =>
    intro a' w' hb hd
    have e40 : a'.tmps[40]?.getD undef = .agg #[.int .i64 x1.1, .int .i64 x1.2.1, .slice ad58 x1.2.2.length ad58'] := ev (slot_w hd 40 (exV (.agg #[.int .i64 x1.1, .int .i64 x1.2.1, .slice ad58 x1.2.2.length ad58'])) rfl rfl)
    have r40 : frmT.Rd w7 (#[.int .i64 x1.1, .int .i64 x1.2.1, .slice ad58 x1.2.2.length ad58'] : Array Value).toList x1 := hc41.rd.below (by repeat (first | exact Below.refl _ _ | exact bA | assumption | refine Below.setCell ?_ (by first | omega | (simp; try omega)) _ | refine Below.alloc ?_ (by first | omega | (simp; try omega)) _ | refine Below.drew ?_ | refine bDN ?_ | refine bthen ?_ (by assumption)))
    have r40' := r40.below hb
    have d42 := slot_w hd 42 (rdA frmT x1) rfl rfl
    obtain ⟨cs42, e42, hf42⟩ := d42
    have e42' := ev e42
    go_simp
    exact ⟨Below.refl _ _, (eqFormula_any w' r40' hf42).mono fun e w'' ⟨he, hb⟩ => ⟨_, he, hb, exV_eqB⟩⟩
  case j16_4 =>
    intro a' w' hb hd
    have e0 : a'.tmps[43]?.getD undef = .bool true := ev (slot_w hd 43 (exV (.bool true)) rfl rfl)
    go_simp
    exact ⟨Below.refl _ _, rfl⟩
  intro vs16 w8 hb8 H0
  obtain ⟨v16_0, _, rfl, p0, H1⟩ := HAll_cons H0
  obtain ⟨v16_1, _, rfl, p1, H2⟩ := HAll_cons H1
  obtain ⟨v16_2, _, rfl, p2, H3⟩ := HAll_cons H2
  obtain ⟨v16_3, _, rfl, p3, H4⟩ := HAll_cons H3
  obtain ⟨v16_4, _, rfl, p4, H5⟩ := HAll_cons H4
  obtain rfl := HAll_nil H5
  obtain rfl := p0 rfl
  obtain rfl := p1 rfl
  obtain rfl := p3 rfl
  obtain rfl := p4 rfl
  clear p0 p1 p2 p3 p4 H0 H1 H2 H3 H4 H5
  have gw8 : Below w7.heap.size w7 w8 := bthen (by repeat (first | exact Below.refl _ _ | exact bA | assumption | refine Below.setCell ?_ (by first | omega | (simp; try omega)) _ | refine Below.alloc ?_ (by first | omega | (simp; try omega)) _ | refine Below.drew ?_ | refine bDN ?_ | refine bthen ?_ (by assumption))) hb8
  have sw8 : w7.heap.size + 0 ≤ w8.heap.size := by have := hb8.size; (try simp at this); omega
  have f102 : w8.cell? ⟨w.heap.size, 0, none⟩ = some (.int .i64 x0.1) := (gw8.cell (by first | omega | (simp; try omega))).trans f80
  have f103 : w8.cell? ⟨w.heap.size, 1, none⟩ = some (.int .i64 x0.2.1) := (gw8.cell (by first | omega | (simp; try omega))).trans f81
  have f104 : w8.cell? ⟨w.heap.size, 2, none⟩ = some (u0) := (gw8.cell (by first | omega | (simp; try omega))).trans f82
  have f105 : w8.cell? ⟨w.heap.size + 1, 0, none⟩ = some (.int .i64 x1.1) := (gw8.cell (by first | omega | (simp; try omega))).trans f83
  have f106 : w8.cell? ⟨w.heap.size + 1, 1, none⟩ = some (.int .i64 x1.2.1) := (gw8.cell (by first | omega | (simp; try omega))).trans f84
  have f107 : w8.cell? ⟨w.heap.size + 1, 2, none⟩ = some (u1) := (gw8.cell (by first | omega | (simp; try omega))).trans f85
  have f108 : w8.cell? ⟨w4.heap.size, 0, none⟩ = some (.int .i64 x0.1) := (gw8.cell (by first | omega | (simp; try omega))).trans f86
  have f109 : w8.cell? ⟨w4.heap.size, 1, none⟩ = some (.int .i64 x0.2.1) := (gw8.cell (by first | omega | (simp; try omega))).trans f87
  have f110 : w8.cell? ⟨w4.heap.size, 2, none⟩ = some (.slice ad40 x0.2.2.length ad40') := (gw8.cell (by first | omega | (simp; try omega))).trans f88
  have f111 : w8.cell? ⟨w5.heap.size, 0, none⟩ = some (.int .i64 x1.1) := (gw8.cell (by first | omega | (simp; try omega))).trans f89
  have f112 : w8.cell? ⟨w5.heap.size, 1, none⟩ = some (.int .i64 x1.2.1) := (gw8.cell (by first | omega | (simp; try omega))).trans f90
  have f113 : w8.cell? ⟨w5.heap.size, 2, none⟩ = some (.slice ad58 x1.2.2.length ad58') := (gw8.cell (by first | omega | (simp; try omega))).trans f91
  have z114 : w.heap.size < w8.heap.size := by omega
  have z115 : w.heap.size + 1 < w8.heap.size := by omega
  have z116 : w4.heap.size < w8.heap.size := by omega
  have z117 : w5.heap.size < w8.heap.size := by omega
  have hB118 : Below w.heap.size w w8 := bthen hB96 gw8
  have hB119 : Below w1.heap.size w1 w8 := bthen hB97 gw8
  have hB120 : Below w2.heap.size w2 w8 := bthen hB98 gw8
  have hB121 : Below w3.heap.size w3 w8 := bthen hB99 gw8
  have hB122 : Below w4.heap.size w4 w8 := bthen hB100 gw8
  have hB123 : Below w5.heap.size w5 w8 := bthen hB101 gw8
  have hB124 : Below w6.heap.size w6 w8 := bthen gw7 gw8
  clear hb8 f80 f81 f82 f83 f84 f85 f86 f87 f88 f89 f90 f91 hB96 hB97 hB98 hB99 hB100 hB101 gw7 z92 z93 z94 z95
  simp only [putAll, Act.put]
  go_simp
  go_wp2_with fail
  go_ret
  exact ⟨rfl, (by repeat (first | exact Below.refl _ _ | exact bA | assumption | refine Below.setCell ?_ (by first | omega | (simp; try omega)) _ | refine Below.alloc ?_ (by first | omega | (simp; try omega)) _ | refine Below.drew ?_ | refine bDN ?_ | refine bthen ?_ (by assumption)))⟩
end Go.Proofs.Ytiffaeiiodmnfaa
