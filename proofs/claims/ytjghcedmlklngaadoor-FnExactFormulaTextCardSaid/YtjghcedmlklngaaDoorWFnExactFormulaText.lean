/-
  The law FnExactFormulaText, walked: its contract.
-/
import Derived.Test.YtjghcedmlklngaaDoorQAD
import Derived.Test.YtjghcedmlklngaaDoorQAC
import Derived.Test.YtjghcedmlklngaaDoorQAB
namespace Go.Proofs.YtjghcedmlklngaaDoor
open Go.RowKit Go.Sort
set_option maxHeartbeats 3200000 in
set_option maxRecDepth 100000 in
theorem fnExactFormulaText_any (w : World) {c0 : Array Value} {x0 : Int × Int × List (Int × List Int)} (h0 : frmT.Rd w c0.toList x0) :
    Calls Tryd.prog 4 #[.agg c0] w fun e w' => e = .returned (.bool true) ∧ Below w.heap.size w w' := by
  have hx0 := h0
  obtain ⟨u0, hv0, -, -, hy0⟩ := trip_ex h0
  obtain rfl := agg_of hv0
  clear hv0 h0
  have hn0 := szFrm_nn x0
  go_enter Tryd.func4, Tryd.ntmps4
  go_wp2_with fail
  refine (szFormula_any _ (hx0.below (by repeat (first | exact Below.refl _ _ | exact bA | assumption | refine Below.setCell ?_ (by first | omega | (simp; try omega)) _ | refine Below.alloc ?_ (by first | omega | (simp; try omega)) _ | refine Below.drew ?_ | refine bDN ?_ | refine bthen ?_ (by assumption)))) _ (by omega) (by omega)).mono ?_
  rintro e w1 ⟨rfl, hb1⟩
  have gw1 : Below w.heap.size w w1 := bthen (by repeat (first | exact Below.refl _ _ | exact bA | assumption | refine Below.setCell ?_ (by first | omega | (simp; try omega)) _ | refine Below.alloc ?_ (by first | omega | (simp; try omega)) _ | refine Below.drew ?_ | refine bDN ?_ | refine bthen ?_ (by assumption))) hb1
  have sw1 : w.heap.size + 1 ≤ w1.heap.size := by have := hb1.size; (try simp at this); omega
  have f1 : w1.cell? ⟨w.heap.size, 0, none⟩ = some (.int .i64 x0.1) := by rw [(bcell hb1).1 _ _ (by first | omega | (simp; try omega))]; first | (simp; done) | simp [go_sem]
  have f2 : w1.cell? ⟨w.heap.size, 1, none⟩ = some (.int .i64 x0.2.1) := by rw [(bcell hb1).1 _ _ (by first | omega | (simp; try omega))]; first | (simp; done) | simp [go_sem]
  have f3 : w1.cell? ⟨w.heap.size, 2, none⟩ = some (u0) := by rw [(bcell hb1).1 _ _ (by first | omega | (simp; try omega))]; first | (simp; done) | simp [go_sem]
  have z4 : w.heap.size < w1.heap.size := by omega
  clear hb1 
  rcases ilt 1048576 (szFrm x0) with hl2 | hl2
  · rw [szR_lt hl2]
    go_wp2_with fail
    go_ret
    exact ⟨rfl, (by repeat (first | exact Below.refl _ _ | exact bA | assumption | refine Below.setCell ?_ (by first | omega | (simp; try omega)) _ | refine Below.alloc ?_ (by first | omega | (simp; try omega)) _ | refine Below.drew ?_ | refine bDN ?_ | refine bthen ?_ (by assumption)))⟩
  rw [szR_ge hl2]
  go_wp2_with fail
  refine (toFormula_any _ (hx0.below (by repeat (first | exact Below.refl _ _ | exact bA | assumption | refine Below.setCell ?_ (by first | omega | (simp; try omega)) _ | refine Below.alloc ?_ (by first | omega | (simp; try omega)) _ | refine Below.drew ?_ | refine bDN ?_ | refine bthen ?_ (by assumption)))) (by first | omega | (unfold szInts; omega))).mono ?_
  rintro e w2 ⟨cs, rfl, hc5, hb2⟩
  have gw2 : Below w1.heap.size w1 w2 := bthen (by repeat (first | exact Below.refl _ _ | exact bA | assumption | refine Below.setCell ?_ (by first | omega | (simp; try omega)) _ | refine Below.alloc ?_ (by first | omega | (simp; try omega)) _ | refine Below.drew ?_ | refine bDN ?_ | refine bthen ?_ (by assumption))) hb2
  have sw2 : w1.heap.size + 0 ≤ w2.heap.size := by have := hb2.size; (try simp at this); omega
  have f6 : w2.cell? ⟨w.heap.size, 0, none⟩ = some (.int .i64 x0.1) := (gw2.cell (by first | omega | (simp; try omega))).trans f1
  have f7 : w2.cell? ⟨w.heap.size, 1, none⟩ = some (.int .i64 x0.2.1) := (gw2.cell (by first | omega | (simp; try omega))).trans f2
  have f8 : w2.cell? ⟨w.heap.size, 2, none⟩ = some (u0) := (gw2.cell (by first | omega | (simp; try omega))).trans f3
  have z9 : w.heap.size < w2.heap.size := by omega
  have hB10 : Below w.heap.size w w2 := bthen gw1 gw2
  clear hb2 f1 f2 f3 gw1 z4
  obtain ⟨ad11, ad11', rfl⟩ := fr_trip hc5
  go_wp2_with fail
  refine (specFormulaText_any _ (hc5.rd.below (by repeat (first | exact Below.refl _ _ | exact bA | assumption | refine Below.setCell ?_ (by first | omega | (simp; try omega)) _ | refine Below.alloc ?_ (by first | omega | (simp; try omega)) _ | refine Below.drew ?_ | refine bDN ?_ | refine bthen ?_ (by assumption))))).mono ?_
  rintro e w3 ⟨rfl, hb3⟩
  have gw3 : Below w2.heap.size w2 w3 := bthen (by repeat (first | exact Below.refl _ _ | exact bA | assumption | refine Below.setCell ?_ (by first | omega | (simp; try omega)) _ | refine Below.alloc ?_ (by first | omega | (simp; try omega)) _ | refine Below.drew ?_ | refine bDN ?_ | refine bthen ?_ (by assumption))) hb3
  have sw3 : w2.heap.size + 0 ≤ w3.heap.size := by have := hb3.size; (try simp at this); omega
  have f12 : w3.cell? ⟨w.heap.size, 0, none⟩ = some (.int .i64 x0.1) := (gw3.cell (by first | omega | (simp; try omega))).trans f6
  have f13 : w3.cell? ⟨w.heap.size, 1, none⟩ = some (.int .i64 x0.2.1) := (gw3.cell (by first | omega | (simp; try omega))).trans f7
  have f14 : w3.cell? ⟨w.heap.size, 2, none⟩ = some (u0) := (gw3.cell (by first | omega | (simp; try omega))).trans f8
  have z15 : w.heap.size < w3.heap.size := by omega
  have hB16 : Below w.heap.size w w3 := bthen hB10 gw3
  have hB17 : Below w1.heap.size w1 w3 := bthen gw2 gw3
  clear hb3 f6 f7 f8 hB10 gw2 z9
  go_wp2_with fail
  refine (toFormula_any _ (hx0.below (by repeat (first | exact Below.refl _ _ | exact bA | assumption | refine Below.setCell ?_ (by first | omega | (simp; try omega)) _ | refine Below.alloc ?_ (by first | omega | (simp; try omega)) _ | refine Below.drew ?_ | refine bDN ?_ | refine bthen ?_ (by assumption)))) (by first | omega | (unfold szInts; omega))).mono ?_
  rintro e w4 ⟨cs, rfl, hc18, hb4⟩
  have gw4 : Below w3.heap.size w3 w4 := bthen (by repeat (first | exact Below.refl _ _ | exact bA | assumption | refine Below.setCell ?_ (by first | omega | (simp; try omega)) _ | refine Below.alloc ?_ (by first | omega | (simp; try omega)) _ | refine Below.drew ?_ | refine bDN ?_ | refine bthen ?_ (by assumption))) hb4
  have sw4 : w3.heap.size + 0 ≤ w4.heap.size := by have := hb4.size; (try simp at this); omega
  have f19 : w4.cell? ⟨w.heap.size, 0, none⟩ = some (.int .i64 x0.1) := (gw4.cell (by first | omega | (simp; try omega))).trans f12
  have f20 : w4.cell? ⟨w.heap.size, 1, none⟩ = some (.int .i64 x0.2.1) := (gw4.cell (by first | omega | (simp; try omega))).trans f13
  have f21 : w4.cell? ⟨w.heap.size, 2, none⟩ = some (u0) := (gw4.cell (by first | omega | (simp; try omega))).trans f14
  have z22 : w.heap.size < w4.heap.size := by omega
  have hB23 : Below w.heap.size w w4 := bthen hB16 gw4
  have hB24 : Below w1.heap.size w1 w4 := bthen hB17 gw4
  have hB25 : Below w2.heap.size w2 w4 := bthen gw3 gw4
  clear hb4 f12 f13 f14 hB16 hB17 gw3 z15
  obtain ⟨ad26, ad26', rfl⟩ := fr_trip hc18
  go_wp2_with fail
  refine (FormulaText_any _ (hc18.rd.below (by repeat (first | exact Below.refl _ _ | exact bA | assumption | refine Below.setCell ?_ (by first | omega | (simp; try omega)) _ | refine Below.alloc ?_ (by first | omega | (simp; try omega)) _ | refine Below.drew ?_ | refine bDN ?_ | refine bthen ?_ (by assumption))))).mono ?_
  rintro e w5 ⟨rfl, hb5⟩
  have gw5 : Below w4.heap.size w4 w5 := bthen (by repeat (first | exact Below.refl _ _ | exact bA | assumption | refine Below.setCell ?_ (by first | omega | (simp; try omega)) _ | refine Below.alloc ?_ (by first | omega | (simp; try omega)) _ | refine Below.drew ?_ | refine bDN ?_ | refine bthen ?_ (by assumption))) hb5
  have sw5 : w4.heap.size + 1 ≤ w5.heap.size := by have := hb5.size; (try simp at this); omega
  have f27 : w5.cell? ⟨w.heap.size, 0, none⟩ = some (.int .i64 x0.1) := (gw5.cell (by first | omega | (simp; try omega))).trans f19
  have f28 : w5.cell? ⟨w.heap.size, 1, none⟩ = some (.int .i64 x0.2.1) := (gw5.cell (by first | omega | (simp; try omega))).trans f20
  have f29 : w5.cell? ⟨w.heap.size, 2, none⟩ = some (u0) := (gw5.cell (by first | omega | (simp; try omega))).trans f21
  have f30 : w5.cell? ⟨w4.heap.size, 0, none⟩ = some (.int .i64 x0.1) := by rw [(bcell hb5).1 _ _ (by first | omega | (simp; try omega))]; first | (simp; done) | simp [go_sem]
  have f31 : w5.cell? ⟨w4.heap.size, 1, none⟩ = some (.int .i64 x0.2.1) := by rw [(bcell hb5).1 _ _ (by first | omega | (simp; try omega))]; first | (simp; done) | simp [go_sem]
  have f32 : w5.cell? ⟨w4.heap.size, 2, none⟩ = some (.slice ad26 x0.2.2.length ad26') := by rw [(bcell hb5).1 _ _ (by first | omega | (simp; try omega))]; first | (simp; done) | simp [go_sem]
  have z33 : w.heap.size < w5.heap.size := by omega
  have z34 : w4.heap.size < w5.heap.size := by omega
  have hB35 : Below w.heap.size w w5 := bthen hB23 gw5
  have hB36 : Below w1.heap.size w1 w5 := bthen hB24 gw5
  have hB37 : Below w2.heap.size w2 w5 := bthen hB25 gw5
  have hB38 : Below w3.heap.size w3 w5 := bthen gw4 gw5
  clear hb5 f19 f20 f21 hB23 hB24 hB25 gw4 z22
  go_wp2_with fail
  refine wp_region_loose [exV (.agg #[.int .i64 x0.1, .int .i64 x0.2.1, .slice ad26 x0.2.2.length ad26']), exV (.agg #[.int .i64 x0.1, .int .i64 x0.2.1, u0]), rdA frmT x0, exV (.bool true), exV (.bool false)] (by kernel_rfl) (by kernel_rfl) ⟨st_exV, st_exV, st_rdA, st_exV, st_exV, trivial⟩ ⟨?j10_0, ?j10_1, ?j10_2, ?j10_3, ?j10_4, trivial⟩ ?hQ10
  case j10_0 =>
    intro a' w' hb hd
    have e0 : a'.tmps[5]?.getD undef = .pointer (some ⟨w4.heap.size, 0, none⟩) := ev (slot_o hd 5 rfl rfl)
    have q : ∀ b o, b < w5.heap.size → w'.cell? ⟨b, o, none⟩ = w5.cell? ⟨b, o, none⟩ := (bcell hb).1
    go_simp
    exact ⟨Below.refl _ _, rfl⟩
  case j10_1 =>
    intro a' w' hb hd
    have e0 : a'.tmps[1]?.getD undef = .pointer (some ⟨w.heap.size, 0, none⟩) := ev (slot_o hd 1 rfl rfl)
    have q : ∀ b o, b < w5.heap.size → w'.cell? ⟨b, o, none⟩ = w5.cell? ⟨b, o, none⟩ := (bcell hb).1
    go_simp
    exact ⟨Below.refl _ _, rfl⟩
  case j10_2 =>
    intro a' w' hb hd
    have e23 : a'.tmps[23]?.getD undef = .agg #[.int .i64 x0.1, .int .i64 x0.2.1, u0] := ev (slot_w hd 23 (exV (.agg #[.int .i64 x0.1, .int .i64 x0.2.1, u0])) rfl rfl)
    have r23 : frmT.Rd w5 (#[.int .i64 x0.1, .int .i64 x0.2.1, u0] : Array Value).toList x0 := hx0.below (by repeat (first | exact Below.refl _ _ | exact bA | assumption | refine Below.setCell ?_ (by first | omega | (simp; try omega)) _ | refine Below.alloc ?_ (by first | omega | (simp; try omega)) _ | refine Below.drew ?_ | refine bDN ?_ | refine bthen ?_ (by assumption)))
    have r23' := r23.below hb
    go_simp
    exact ⟨Below.refl _ _, (toFormula_any w' r23' (by first | omega | (unfold szInts; omega))).mono fun e w'' ⟨cs, he, hf, hb⟩ => ⟨_, he, hb, cs, rfl, hf.rd⟩⟩
  case j10_3 =>
    intro a' w' hb hd
    have e22 : a'.tmps[22]?.getD undef = .agg #[.int .i64 x0.1, .int .i64 x0.2.1, .slice ad26 x0.2.2.length ad26'] := ev (slot_w hd 22 (exV (.agg #[.int .i64 x0.1, .int .i64 x0.2.1, .slice ad26 x0.2.2.length ad26'])) rfl rfl)
    have r22 : frmT.Rd w5 (#[.int .i64 x0.1, .int .i64 x0.2.1, .slice ad26 x0.2.2.length ad26'] : Array Value).toList x0 := hc18.rd.below (by repeat (first | exact Below.refl _ _ | exact bA | assumption | refine Below.setCell ?_ (by first | omega | (simp; try omega)) _ | refine Below.alloc ?_ (by first | omega | (simp; try omega)) _ | refine Below.drew ?_ | refine bDN ?_ | refine bthen ?_ (by assumption)))
    have r22' := r22.below hb
    have d24 := slot_w hd 24 (rdA frmT x0) rfl rfl
    obtain ⟨cs24, e24, hf24⟩ := d24
    have e24' := ev e24
    go_simp
    exact ⟨Below.refl _ _, (eqFormula_any w' r22' hf24).mono fun e w'' ⟨he, hb⟩ => ⟨_, he, hb, exV_eqB⟩⟩
  case j10_4 =>
    intro a' w' hb hd
    have e0 : a'.tmps[25]?.getD undef = .bool true := ev (slot_w hd 25 (exV (.bool true)) rfl rfl)
    go_simp
    exact ⟨Below.refl _ _, rfl⟩
  intro vs10 w6 hb6 H0
  obtain ⟨v10_0, _, rfl, p0, H1⟩ := HAll_cons H0
  obtain ⟨v10_1, _, rfl, p1, H2⟩ := HAll_cons H1
  obtain ⟨v10_2, _, rfl, p2, H3⟩ := HAll_cons H2
  obtain ⟨v10_3, _, rfl, p3, H4⟩ := HAll_cons H3
  obtain ⟨v10_4, _, rfl, p4, H5⟩ := HAll_cons H4
  obtain rfl := HAll_nil H5
  obtain rfl := p0 rfl
  obtain rfl := p1 rfl
  obtain rfl := p3 rfl
  obtain rfl := p4 rfl
  clear p0 p1 p2 p3 p4 H0 H1 H2 H3 H4 H5
  have gw6 : Below w5.heap.size w5 w6 := bthen (by repeat (first | exact Below.refl _ _ | exact bA | assumption | refine Below.setCell ?_ (by first | omega | (simp; try omega)) _ | refine Below.alloc ?_ (by first | omega | (simp; try omega)) _ | refine Below.drew ?_ | refine bDN ?_ | refine bthen ?_ (by assumption))) hb6
  have sw6 : w5.heap.size + 0 ≤ w6.heap.size := by have := hb6.size; (try simp at this); omega
  have f39 : w6.cell? ⟨w.heap.size, 0, none⟩ = some (.int .i64 x0.1) := (gw6.cell (by first | omega | (simp; try omega))).trans f27
  have f40 : w6.cell? ⟨w.heap.size, 1, none⟩ = some (.int .i64 x0.2.1) := (gw6.cell (by first | omega | (simp; try omega))).trans f28
  have f41 : w6.cell? ⟨w.heap.size, 2, none⟩ = some (u0) := (gw6.cell (by first | omega | (simp; try omega))).trans f29
  have f42 : w6.cell? ⟨w4.heap.size, 0, none⟩ = some (.int .i64 x0.1) := (gw6.cell (by first | omega | (simp; try omega))).trans f30
  have f43 : w6.cell? ⟨w4.heap.size, 1, none⟩ = some (.int .i64 x0.2.1) := (gw6.cell (by first | omega | (simp; try omega))).trans f31
  have f44 : w6.cell? ⟨w4.heap.size, 2, none⟩ = some (.slice ad26 x0.2.2.length ad26') := (gw6.cell (by first | omega | (simp; try omega))).trans f32
  have z45 : w.heap.size < w6.heap.size := by omega
  have z46 : w4.heap.size < w6.heap.size := by omega
  have hB47 : Below w.heap.size w w6 := bthen hB35 gw6
  have hB48 : Below w1.heap.size w1 w6 := bthen hB36 gw6
  have hB49 : Below w2.heap.size w2 w6 := bthen hB37 gw6
  have hB50 : Below w3.heap.size w3 w6 := bthen hB38 gw6
  have hB51 : Below w4.heap.size w4 w6 := bthen gw5 gw6
  clear hb6 f27 f28 f29 f30 f31 f32 hB35 hB36 hB37 hB38 gw5 z33 z34
  simp only [putAll, Act.put]
  go_simp
  go_wp2_with fail
  go_ret
  exact ⟨rfl, (by repeat (first | exact Below.refl _ _ | exact bA | assumption | refine Below.setCell ?_ (by first | omega | (simp; try omega)) _ | refine Below.alloc ?_ (by first | omega | (simp; try omega)) _ | refine Below.drew ?_ | refine bDN ?_ | refine bthen ?_ (by assumption)))⟩
end Go.Proofs.YtjghcedmlklngaaDoor
