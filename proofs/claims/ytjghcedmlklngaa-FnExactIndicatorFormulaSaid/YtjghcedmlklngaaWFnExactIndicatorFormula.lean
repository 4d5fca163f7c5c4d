/-
  The law FnExactIndicatorFormula, walked: its contract.
-/
import Derived.Test.YtjghcedmlklngaaQBE
import Derived.Test.YtjghcedmlklngaaQAC
namespace Go.Proofs.Ytjghcedmlklngaa
open Go.RowKit Go.Sort
set_option maxHeartbeats 6400000 in
set_option maxRecDepth 100000 in
theorem fnExactIndicatorFormula_any (w : World) {c0 : Array Value} {x0 : Int × List (Int × List (List Int))} (h0 : tplT.Rd w c0.toList x0) {v1 : Value} {x1 : List (List Int)} (h1 : rowsT.Rd w [v1] x1) :
    Calls Try.prog 3 #[.agg c0, v1] w fun e w' => e = .returned (.bool true) ∧ Below w.heap.size w w' := by
  have hx0 := h0
  obtain ⟨u0, hv0, -, hy0⟩ := pair_ex h0
  obtain rfl := agg_of hv0
  clear hv0 h0
  have hn0 := szTpl_nn x0
  have hcn0 : cntTpl x0 ≤ szTpl x0 := cntRels_sz x0.2
  have hcz0 : 0 ≤ cntTpl x0 := cntRels_nn x0.2
  have hx1 := h1
  obtain ⟨ad1, cap1, rfl⟩ := rd_slice hx1
  clear h1
  have hn1 := szRows_nn x1
  have hcn1 : cntRows x1 ≤ szRows x1 := cntRows_sz x1
  have hcz1 : 0 ≤ cntRows x1 := cntRows_nn x1
  have H_w : Below w.heap.size w w := Below.refl _ _
  go_enter Try.func3, Try.ntmps3
  go_wp2_with fail
  refine (szTemplate_any _ (hx0.below (by repeat (first | exact Below.refl _ _ | exact bA | assumption | refine Below.setCell ?_ (by first | omega | (simp; try omega)) _ | refine Below.alloc ?_ (by first | omega | (simp; try omega)) _ | refine Below.drew ?_ | refine bDN ?_ | refine bthen ?_ (by assumption)))) _ (by omega) (by omega)).mono ?_
  rintro e w1 ⟨rfl, hb1⟩
  have gw1 : Below w.heap.size w w1 := bthen (by repeat (first | exact Below.refl _ _ | exact bA | assumption | refine Below.setCell ?_ (by first | omega | (simp; try omega)) _ | refine Below.alloc ?_ (by first | omega | (simp; try omega)) _ | refine Below.drew ?_ | refine bDN ?_ | refine bthen ?_ (by assumption))) hb1
  have sw1 : w.heap.size + 1 ≤ w1.heap.size := by have := hb1.size; (try simp at this); omega
  have H_w1 : Below w.heap.size w w1 := bthen H_w gw1
  have f1 : w1.cell? ⟨w.heap.size, 0, none⟩ = some (.int .i64 x0.1) := by rw [(bcell hb1).1 _ _ (by first | omega | (simp; try omega))]; first | (simp; done) | simp [go_sem]
  have f2 : w1.cell? ⟨w.heap.size, 1, none⟩ = some (u0) := by rw [(bcell hb1).1 _ _ (by first | omega | (simp; try omega))]; first | (simp; done) | simp [go_sem]
  have z3 : w.heap.size < w1.heap.size := by omega
  clear hb1 gw1
  rcases ilt 1048576 (szTpl x0) with hl2 | hl2
  · rw [szR_lt hl2]
    go_wp2_with fail
    go_ret
    exact ⟨rfl, (by repeat (first | exact Below.refl _ _ | exact bA | assumption | refine Below.setCell ?_ (by first | omega | (simp; try omega)) _ | refine Below.alloc ?_ (by first | omega | (simp; try omega)) _ | refine Below.drew ?_ | refine bDN ?_ | refine bthen ?_ (by assumption)))⟩
  rw [szR_ge hl2]
  go_wp2_with fail
  refine (szInt64SS_any _ (hx1.below (by repeat (first | exact Below.refl _ _ | exact bA | assumption | refine Below.setCell ?_ (by first | omega | (simp; try omega)) _ | refine Below.alloc ?_ (by first | omega | (simp; try omega)) _ | refine Below.drew ?_ | refine bDN ?_ | refine bthen ?_ (by assumption)))) _ (by omega) (by omega)).mono ?_
  rintro e w2 ⟨rfl, hb2⟩
  have gw2 : Below w1.heap.size w1 w2 := bthen (by repeat (first | exact Below.refl _ _ | exact bA | assumption | refine Below.setCell ?_ (by first | omega | (simp; try omega)) _ | refine Below.alloc ?_ (by first | omega | (simp; try omega)) _ | refine Below.drew ?_ | refine bDN ?_ | refine bthen ?_ (by assumption))) hb2
  have sw2 : w1.heap.size + 0 ≤ w2.heap.size := by have := hb2.size; (try simp at this); omega
  have H_w2 : Below w.heap.size w w2 := bthen H_w1 gw2
  have f4 : w2.cell? ⟨w.heap.size, 0, none⟩ = some (.int .i64 x0.1) := (gw2.cell (by first | omega | (simp; try omega))).trans f1
  have f5 : w2.cell? ⟨w.heap.size, 1, none⟩ = some (u0) := (gw2.cell (by first | omega | (simp; try omega))).trans f2
  have z6 : w.heap.size < w2.heap.size := by omega
  clear hb2 H_w1 f1 f2 z3 gw2
  rcases ilt (1048576 - szTpl x0) (szRows x1) with hl5 | hl5
  · rw [szR_lt hl5]
    go_wp2_with fail
    go_ret
    exact ⟨rfl, (by repeat (first | exact Below.refl _ _ | exact bA | assumption | refine Below.setCell ?_ (by first | omega | (simp; try omega)) _ | refine Below.alloc ?_ (by first | omega | (simp; try omega)) _ | refine Below.drew ?_ | refine bDN ?_ | refine bthen ?_ (by assumption)))⟩
  rw [szR_ge hl5]
  go_wp2_with fail
  refine (toTemplate_any _ (hx0.below (by repeat (first | exact Below.refl _ _ | exact bA | assumption | refine Below.setCell ?_ (by first | omega | (simp; try omega)) _ | refine Below.alloc ?_ (by first | omega | (simp; try omega)) _ | refine Below.drew ?_ | refine bDN ?_ | refine bthen ?_ (by assumption)))) (by first | omega | (unfold szInts; omega))).mono ?_
  rintro e w3 ⟨cs, rfl, hc7, hb3⟩
  have gw3 : Below w2.heap.size w2 w3 := bthen (by repeat (first | exact Below.refl _ _ | exact bA | assumption | refine Below.setCell ?_ (by first | omega | (simp; try omega)) _ | refine Below.alloc ?_ (by first | omega | (simp; try omega)) _ | refine Below.drew ?_ | refine bDN ?_ | refine bthen ?_ (by assumption))) hb3
  have sw3 : w2.heap.size + 0 ≤ w3.heap.size := by have := hb3.size; (try simp at this); omega
  have H_w3 : Below w.heap.size w w3 := bthen H_w2 gw3
  have f8 : w3.cell? ⟨w.heap.size, 0, none⟩ = some (.int .i64 x0.1) := (gw3.cell (by first | omega | (simp; try omega))).trans f4
  have f9 : w3.cell? ⟨w.heap.size, 1, none⟩ = some (u0) := (gw3.cell (by first | omega | (simp; try omega))).trans f5
  have z10 : w.heap.size < w3.heap.size := by omega
  clear hb3 H_w2 f4 f5 z6 gw3
  obtain ⟨ad11, ad11', rfl⟩ := fr_pair hc7
  have d12 : tplT.Fx w2.heap.size w3.heap.size w3 [.int .i64 x0.1, .slice ad11 x0.2.length ad11'] x0 := (Ty.Fr.mono hc7 (by first | exact Nat.le_refl _ | (simp; try omega))).fx
  clear hc7
  go_wp2_with fail
  refine (toInt64SS_any _ (hx1.below (by repeat (first | exact Below.refl _ _ | exact bA | assumption | refine Below.setCell ?_ (by first | omega | (simp; try omega)) _ | refine Below.alloc ?_ (by first | omega | (simp; try omega)) _ | refine Below.drew ?_ | refine bDN ?_ | refine bthen ?_ (by assumption)))) (by first | omega | (unfold szInts; omega))).mono ?_
  rintro e w4 ⟨cs, rfl, hc14, hb4⟩
  have gw4 : Below w3.heap.size w3 w4 := bthen (by repeat (first | exact Below.refl _ _ | exact bA | assumption | refine Below.setCell ?_ (by first | omega | (simp; try omega)) _ | refine Below.alloc ?_ (by first | omega | (simp; try omega)) _ | refine Below.drew ?_ | refine bDN ?_ | refine bthen ?_ (by assumption))) hb4
  have sw4 : w3.heap.size + 0 ≤ w4.heap.size := by have := hb4.size; (try simp at this); omega
  have H_w4 : Below w.heap.size w w4 := bthen H_w3 gw4
  have f15 : w4.cell? ⟨w.heap.size, 0, none⟩ = some (.int .i64 x0.1) := (gw4.cell (by first | omega | (simp; try omega))).trans f8
  have f16 : w4.cell? ⟨w.heap.size, 1, none⟩ = some (u0) := (gw4.cell (by first | omega | (simp; try omega))).trans f9
  have z17 : w.heap.size < w4.heap.size := by omega
  have d18 : tplT.Fx w2.heap.size w3.heap.size w4 [.int .i64 x0.1, .slice ad11 x0.2.length ad11'] x0 := d12.below gw4
  clear hb4 H_w3 f8 f9 d12 z10 gw4
  obtain ⟨ad19, ad19', rfl⟩ := fr_slice hc14
  have d20 : rowsT.Fx w3.heap.size w4.heap.size w4 [.slice ad19 x1.length ad19'] x1 := (Ty.Fr.mono hc14 (by first | exact Nat.le_refl _ | (simp; try omega))).fx
  clear hc14
  go_wp2_with fail
  have hcr1 : cntFrm (inV x0 x1) ≤ 1000000000 := (Int.le_trans in_cnt (by omega))
  have hcrz1 : 0 ≤ cntFrm (inV x0 x1) := cntOps_nn _
  refine (specIndicatorFormula_any _ (d18.rd.below (by repeat (first | exact Below.refl _ _ | exact bA | assumption | refine Below.setCell ?_ (by first | omega | (simp; try omega)) _ | refine Below.alloc ?_ (by first | omega | (simp; try omega)) _ | refine Below.drew ?_ | refine bDN ?_ | refine bthen ?_ (by assumption)))) (d20.rd.below (by repeat (first | exact Below.refl _ _ | exact bA | assumption | refine Below.setCell ?_ (by first | omega | (simp; try omega)) _ | refine Below.alloc ?_ (by first | omega | (simp; try omega)) _ | refine Below.drew ?_ | refine bDN ?_ | refine bthen ?_ (by assumption))))).mono ?_
  rintro e w5 ⟨cs, rfl, hc22, hb5⟩
  have gw5 : Below w4.heap.size w4 w5 := bthen (by repeat (first | exact Below.refl _ _ | exact bA | assumption | refine Below.setCell ?_ (by first | omega | (simp; try omega)) _ | refine Below.alloc ?_ (by first | omega | (simp; try omega)) _ | refine Below.drew ?_ | refine bDN ?_ | refine bthen ?_ (by assumption))) hb5
  have sw5 : w4.heap.size + 0 ≤ w5.heap.size := by have := hb5.size; (try simp at this); omega
  have H_w5 : Below w.heap.size w w5 := bthen H_w4 gw5
  have f23 : w5.cell? ⟨w.heap.size, 0, none⟩ = some (.int .i64 x0.1) := (gw5.cell (by first | omega | (simp; try omega))).trans f15
  have f24 : w5.cell? ⟨w.heap.size, 1, none⟩ = some (u0) := (gw5.cell (by first | omega | (simp; try omega))).trans f16
  have z25 : w.heap.size < w5.heap.size := by omega
  have d26 : tplT.Fx w2.heap.size w3.heap.size w5 [.int .i64 x0.1, .slice ad11 x0.2.length ad11'] x0 := d18.below gw5
  have d27 : rowsT.Fx w3.heap.size w4.heap.size w5 [.slice ad19 x1.length ad19'] x1 := d20.below gw5
  clear hb5 H_w4 f15 f16 d18 d20 z17 gw5
  obtain ⟨ad28, ad28', rfl⟩ := fr_trip hc22
  have d29 : frmT.Fx w4.heap.size w5.heap.size w5 [.int .i64 (inV x0 x1).1, .int .i64 (inV x0 x1).2.1, .slice ad28 (inV x0 x1).2.2.length ad28'] (inV x0 x1) := (Ty.Fr.mono hc22 (by first | exact Nat.le_refl _ | (simp; try omega))).fx
  clear hc22
  go_wp2_with fail
  refine (toTemplate_any _ (hx0.below (by repeat (first | exact Below.refl _ _ | exact bA | assumption | refine Below.setCell ?_ (by first | omega | (simp; try omega)) _ | refine Below.alloc ?_ (by first | omega | (simp; try omega)) _ | refine Below.drew ?_ | refine bDN ?_ | refine bthen ?_ (by assumption)))) (by first | omega | (unfold szInts; omega))).mono ?_
  rintro e w6 ⟨cs, rfl, hc31, hb6⟩
  have gw6 : Below w5.heap.size w5 w6 := bthen (by repeat (first | exact Below.refl _ _ | exact bA | assumption | refine Below.setCell ?_ (by first | omega | (simp; try omega)) _ | refine Below.alloc ?_ (by first | omega | (simp; try omega)) _ | refine Below.drew ?_ | refine bDN ?_ | refine bthen ?_ (by assumption))) hb6
  have sw6 : w5.heap.size + 1 ≤ w6.heap.size := by have := hb6.size; (try simp at this); omega
  have H_w6 : Below w.heap.size w w6 := bthen H_w5 gw6
  have f32 : w6.cell? ⟨w.heap.size, 0, none⟩ = some (.int .i64 x0.1) := (gw6.cell (by first | omega | (simp; try omega))).trans f23
  have f33 : w6.cell? ⟨w.heap.size, 1, none⟩ = some (u0) := (gw6.cell (by first | omega | (simp; try omega))).trans f24
  have f34 : w6.cell? ⟨w5.heap.size, 0, none⟩ = some (.int .i64 (inV x0 x1).1) := by rw [(bcell hb6).1 _ _ (by first | omega | (simp; try omega))]; first | (simp; done) | simp [go_sem]
  have f35 : w6.cell? ⟨w5.heap.size, 1, none⟩ = some (.int .i64 (inV x0 x1).2.1) := by rw [(bcell hb6).1 _ _ (by first | omega | (simp; try omega))]; first | (simp; done) | simp [go_sem]
  have f36 : w6.cell? ⟨w5.heap.size, 2, none⟩ = some (.slice ad28 (inV x0 x1).2.2.length ad28') := by rw [(bcell hb6).1 _ _ (by first | omega | (simp; try omega))]; first | (simp; done) | simp [go_sem]
  have z37 : w.heap.size < w6.heap.size := by omega
  have z38 : w5.heap.size < w6.heap.size := by omega
  have d39 : tplT.Fx w2.heap.size w3.heap.size w6 [.int .i64 x0.1, .slice ad11 x0.2.length ad11'] x0 := d26.below gw6
  have d40 : rowsT.Fx w3.heap.size w4.heap.size w6 [.slice ad19 x1.length ad19'] x1 := d27.below gw6
  have d41 : frmT.Fx w4.heap.size w5.heap.size w6 [.int .i64 (inV x0 x1).1, .int .i64 (inV x0 x1).2.1, .slice ad28 (inV x0 x1).2.2.length ad28'] (inV x0 x1) := d29.below gw6
  clear hb6 H_w5 f23 f24 d26 d27 d29 z25 gw6
  obtain ⟨ad42, ad42', rfl⟩ := fr_pair hc31
  have d43 : tplT.Fx (w5.heap.size + 1) w6.heap.size w6 [.int .i64 x0.1, .slice ad42 x0.2.length ad42'] x0 := (Ty.Fr.mono hc31 (by first | exact Nat.le_refl _ | (simp; try omega))).fx
  clear hc31
  go_wp2_with fail
  refine (toInt64SS_any _ (hx1.below (by repeat (first | exact Below.refl _ _ | exact bA | assumption | refine Below.setCell ?_ (by first | omega | (simp; try omega)) _ | refine Below.alloc ?_ (by first | omega | (simp; try omega)) _ | refine Below.drew ?_ | refine bDN ?_ | refine bthen ?_ (by assumption)))) (by first | omega | (unfold szInts; omega))).mono ?_
  rintro e w7 ⟨cs, rfl, hc45, hb7⟩
  have gw7 : Below w6.heap.size w6 w7 := bthen (by repeat (first | exact Below.refl _ _ | exact bA | assumption | refine Below.setCell ?_ (by first | omega | (simp; try omega)) _ | refine Below.alloc ?_ (by first | omega | (simp; try omega)) _ | refine Below.drew ?_ | refine bDN ?_ | refine bthen ?_ (by assumption))) hb7
  have sw7 : w6.heap.size + 1 ≤ w7.heap.size := by have := hb7.size; (try simp at this); omega
  have H_w7 : Below w.heap.size w w7 := bthen H_w6 gw7
  have f46 : w7.cell? ⟨w.heap.size, 0, none⟩ = some (.int .i64 x0.1) := (gw7.cell (by first | omega | (simp; try omega))).trans f32
  have f47 : w7.cell? ⟨w.heap.size, 1, none⟩ = some (u0) := (gw7.cell (by first | omega | (simp; try omega))).trans f33
  have f48 : w7.cell? ⟨w5.heap.size, 0, none⟩ = some (.int .i64 (inV x0 x1).1) := (gw7.cell (by first | omega | (simp; try omega))).trans f34
  have f49 : w7.cell? ⟨w5.heap.size, 1, none⟩ = some (.int .i64 (inV x0 x1).2.1) := (gw7.cell (by first | omega | (simp; try omega))).trans f35
  have f50 : w7.cell? ⟨w5.heap.size, 2, none⟩ = some (.slice ad28 (inV x0 x1).2.2.length ad28') := (gw7.cell (by first | omega | (simp; try omega))).trans f36
  have f51 : w7.cell? ⟨w6.heap.size, 0, none⟩ = some (.int .i64 x0.1) := by rw [(bcell hb7).1 _ _ (by first | omega | (simp; try omega))]; first | (simp; done) | simp [go_sem]
  have f52 : w7.cell? ⟨w6.heap.size, 1, none⟩ = some (.slice ad42 x0.2.length ad42') := by rw [(bcell hb7).1 _ _ (by first | omega | (simp; try omega))]; first | (simp; done) | simp [go_sem]
  have z53 : w.heap.size < w7.heap.size := by omega
  have z54 : w5.heap.size < w7.heap.size := by omega
  have z55 : w6.heap.size < w7.heap.size := by omega
  have d56 : tplT.Fx w2.heap.size w3.heap.size w7 [.int .i64 x0.1, .slice ad11 x0.2.length ad11'] x0 := d39.below gw7
  have d57 : rowsT.Fx w3.heap.size w4.heap.size w7 [.slice ad19 x1.length ad19'] x1 := d40.below gw7
  have d58 : frmT.Fx w4.heap.size w5.heap.size w7 [.int .i64 (inV x0 x1).1, .int .i64 (inV x0 x1).2.1, .slice ad28 (inV x0 x1).2.2.length ad28'] (inV x0 x1) := d41.below gw7
  have d59 : tplT.Fx (w5.heap.size + 1) w6.heap.size w7 [.int .i64 x0.1, .slice ad42 x0.2.length ad42'] x0 := d43.below gw7
  clear hb7 H_w6 f32 f33 f34 f35 f36 d39 d40 d41 d43 z37 z38 gw7
  obtain ⟨ad60, ad60', rfl⟩ := fr_slice hc45
  have d61 : rowsT.Fx (w6.heap.size + 1) w7.heap.size w7 [.slice ad60 x1.length ad60'] x1 := (Ty.Fr.mono hc45 (by first | exact Nat.le_refl _ | (simp; try omega))).fx
  clear hc45
  go_wp2_with fail
  refine (IndicatorFormula_any _ (d59.rd.below (by repeat (first | exact Below.refl _ _ | exact bA | assumption | refine Below.setCell ?_ (by first | omega | (simp; try omega)) _ | refine Below.alloc ?_ (by first | omega | (simp; try omega)) _ | refine Below.drew ?_ | refine bDN ?_ | refine bthen ?_ (by assumption)))) (d61.rd.below (by repeat (first | exact Below.refl _ _ | exact bA | assumption | refine Below.setCell ?_ (by first | omega | (simp; try omega)) _ | refine Below.alloc ?_ (by first | omega | (simp; try omega)) _ | refine Below.drew ?_ | refine bDN ?_ | refine bthen ?_ (by assumption))))).mono ?_
  rintro e w8 ⟨cs, rfl, hc63, hb8⟩
  have gw8 : Below w7.heap.size w7 w8 := bthen (by repeat (first | exact Below.refl _ _ | exact bA | assumption | refine Below.setCell ?_ (by first | omega | (simp; try omega)) _ | refine Below.alloc ?_ (by first | omega | (simp; try omega)) _ | refine Below.drew ?_ | refine bDN ?_ | refine bthen ?_ (by assumption))) hb8
  have sw8 : w7.heap.size + 0 ≤ w8.heap.size := by have := hb8.size; (try simp at this); omega
  have H_w8 : Below w.heap.size w w8 := bthen H_w7 gw8
  have f64 : w8.cell? ⟨w.heap.size, 0, none⟩ = some (.int .i64 x0.1) := (gw8.cell (by first | omega | (simp; try omega))).trans f46
  have f65 : w8.cell? ⟨w.heap.size, 1, none⟩ = some (u0) := (gw8.cell (by first | omega | (simp; try omega))).trans f47
  have f66 : w8.cell? ⟨w5.heap.size, 0, none⟩ = some (.int .i64 (inV x0 x1).1) := (gw8.cell (by first | omega | (simp; try omega))).trans f48
  have f67 : w8.cell? ⟨w5.heap.size, 1, none⟩ = some (.int .i64 (inV x0 x1).2.1) := (gw8.cell (by first | omega | (simp; try omega))).trans f49
  have f68 : w8.cell? ⟨w5.heap.size, 2, none⟩ = some (.slice ad28 (inV x0 x1).2.2.length ad28') := (gw8.cell (by first | omega | (simp; try omega))).trans f50
  have f69 : w8.cell? ⟨w6.heap.size, 0, none⟩ = some (.int .i64 x0.1) := (gw8.cell (by first | omega | (simp; try omega))).trans f51
  have f70 : w8.cell? ⟨w6.heap.size, 1, none⟩ = some (.slice ad42 x0.2.length ad42') := (gw8.cell (by first | omega | (simp; try omega))).trans f52
  have z71 : w.heap.size < w8.heap.size := by omega
  have z72 : w5.heap.size < w8.heap.size := by omega
  have z73 : w6.heap.size < w8.heap.size := by omega
  have d74 : tplT.Fx w2.heap.size w3.heap.size w8 [.int .i64 x0.1, .slice ad11 x0.2.length ad11'] x0 := d56.below gw8
  have d75 : rowsT.Fx w3.heap.size w4.heap.size w8 [.slice ad19 x1.length ad19'] x1 := d57.below gw8
  have d76 : frmT.Fx w4.heap.size w5.heap.size w8 [.int .i64 (inV x0 x1).1, .int .i64 (inV x0 x1).2.1, .slice ad28 (inV x0 x1).2.2.length ad28'] (inV x0 x1) := d58.below gw8
  have d77 : tplT.Fx (w5.heap.size + 1) w6.heap.size w8 [.int .i64 x0.1, .slice ad42 x0.2.length ad42'] x0 := d59.below gw8
  have d78 : rowsT.Fx (w6.heap.size + 1) w7.heap.size w8 [.slice ad60 x1.length ad60'] x1 := d61.below gw8
  clear hb8 H_w7 f46 f47 f48 f49 f50 f51 f52 d56 d57 d58 d59 d61 z53 z54 z55 gw8
  obtain ⟨ad79, ad79', rfl⟩ := fr_trip hc63
  have d80 : frmT.Fx w7.heap.size w8.heap.size w8 [.int .i64 (inV x0 x1).1, .int .i64 (inV x0 x1).2.1, .slice ad79 (inV x0 x1).2.2.length ad79'] (inV x0 x1) := (Ty.Fr.mono hc63 (by first | exact Nat.le_refl _ | (simp; try omega))).fx
  clear hc63
  go_wp2_with fail
  refine (eqFormula_any _ (d80.rd.below (by repeat (first | exact Below.refl _ _ | exact bA | assumption | refine Below.setCell ?_ (by first | omega | (simp; try omega)) _ | refine Below.alloc ?_ (by first | omega | (simp; try omega)) _ | refine Below.drew ?_ | refine bDN ?_ | refine bthen ?_ (by assumption)))) (d76.rd.below (by repeat (first | exact Below.refl _ _ | exact bA | assumption | refine Below.setCell ?_ (by first | omega | (simp; try omega)) _ | refine Below.alloc ?_ (by first | omega | (simp; try omega)) _ | refine Below.drew ?_ | refine bDN ?_ | refine bthen ?_ (by assumption))))).mono ?_
  rintro e w9 ⟨rfl, hb9⟩
  have gw9 : Below w8.heap.size w8 w9 := bthen (by repeat (first | exact Below.refl _ _ | exact bA | assumption | refine Below.setCell ?_ (by first | omega | (simp; try omega)) _ | refine Below.alloc ?_ (by first | omega | (simp; try omega)) _ | refine Below.drew ?_ | refine bDN ?_ | refine bthen ?_ (by assumption))) hb9
  have sw9 : w8.heap.size + 1 ≤ w9.heap.size := by have := hb9.size; (try simp at this); omega
  have H_w9 : Below w.heap.size w w9 := bthen H_w8 gw9
  have f82 : w9.cell? ⟨w.heap.size, 0, none⟩ = some (.int .i64 x0.1) := (gw9.cell (by first | omega | (simp; try omega))).trans f64
  have f83 : w9.cell? ⟨w.heap.size, 1, none⟩ = some (u0) := (gw9.cell (by first | omega | (simp; try omega))).trans f65
  have f84 : w9.cell? ⟨w5.heap.size, 0, none⟩ = some (.int .i64 (inV x0 x1).1) := (gw9.cell (by first | omega | (simp; try omega))).trans f66
  have f85 : w9.cell? ⟨w5.heap.size, 1, none⟩ = some (.int .i64 (inV x0 x1).2.1) := (gw9.cell (by first | omega | (simp; try omega))).trans f67
  have f86 : w9.cell? ⟨w5.heap.size, 2, none⟩ = some (.slice ad28 (inV x0 x1).2.2.length ad28') := (gw9.cell (by first | omega | (simp; try omega))).trans f68
  have f87 : w9.cell? ⟨w6.heap.size, 0, none⟩ = some (.int .i64 x0.1) := (gw9.cell (by first | omega | (simp; try omega))).trans f69
  have f88 : w9.cell? ⟨w6.heap.size, 1, none⟩ = some (.slice ad42 x0.2.length ad42') := (gw9.cell (by first | omega | (simp; try omega))).trans f70
  have f89 : w9.cell? ⟨w8.heap.size, 0, none⟩ = some (.int .i64 (inV x0 x1).1) := by rw [(bcell hb9).1 _ _ (by first | omega | (simp; try omega))]; first | (simp; done) | simp [go_sem]
  have f90 : w9.cell? ⟨w8.heap.size, 1, none⟩ = some (.int .i64 (inV x0 x1).2.1) := by rw [(bcell hb9).1 _ _ (by first | omega | (simp; try omega))]; first | (simp; done) | simp [go_sem]
  have f91 : w9.cell? ⟨w8.heap.size, 2, none⟩ = some (.slice ad79 (inV x0 x1).2.2.length ad79') := by rw [(bcell hb9).1 _ _ (by first | omega | (simp; try omega))]; first | (simp; done) | simp [go_sem]
  have z92 : w.heap.size < w9.heap.size := by omega
  have z93 : w5.heap.size < w9.heap.size := by omega
  have z94 : w6.heap.size < w9.heap.size := by omega
  have z95 : w8.heap.size < w9.heap.size := by omega
  have d96 : tplT.Fx w2.heap.size w3.heap.size w9 [.int .i64 x0.1, .slice ad11 x0.2.length ad11'] x0 := d74.below gw9
  have d97 : rowsT.Fx w3.heap.size w4.heap.size w9 [.slice ad19 x1.length ad19'] x1 := d75.below gw9
  have d98 : frmT.Fx w4.heap.size w5.heap.size w9 [.int .i64 (inV x0 x1).1, .int .i64 (inV x0 x1).2.1, .slice ad28 (inV x0 x1).2.2.length ad28'] (inV x0 x1) := d76.below gw9
  have d99 : tplT.Fx (w5.heap.size + 1) w6.heap.size w9 [.int .i64 x0.1, .slice ad42 x0.2.length ad42'] x0 := d77.below gw9
  have d100 : rowsT.Fx (w6.heap.size + 1) w7.heap.size w9 [.slice ad60 x1.length ad60'] x1 := d78.below gw9
  have d101 : frmT.Fx w7.heap.size w8.heap.size w9 [.int .i64 (inV x0 x1).1, .int .i64 (inV x0 x1).2.1, .slice ad79 (inV x0 x1).2.2.length ad79'] (inV x0 x1) := d80.below gw9
  clear hb9 H_w8 f64 f65 f66 f67 f68 f69 f70 d74 d75 d76 d77 d78 d80 z71 z72 z73 gw9
  rw [eqB_true rfl]
  go_wp2_with fail
  refine wp_region_loose [exV (.agg #[.int .i64 x0.1, .slice ad42 x0.2.length ad42']), exV (.agg #[.int .i64 x0.1, u0]), rdA tplT x0, exV (.bool true), exV (.bool false)] (by kernel_rfl) (by kernel_rfl) ⟨st_exV, st_exV, st_rdA, st_exV, st_exV, trivial⟩ ⟨?j14_0, ?j14_1, ?j14_2, ?j14_3, ?j14_4, trivial⟩ ?hQ14
  case j14_0 =>
    intro a' w' hb hd
    have e0 : a'.tmps[8]?.getD undef = .pointer (some ⟨w6.heap.size, 0, none⟩) := ev (slot_o hd 8 rfl rfl)
    have q : ∀ b o, b < w9.heap.size → w'.cell? ⟨b, o, none⟩ = w9.cell? ⟨b, o, none⟩ := (bcell hb).1
    go_simp
    exact ⟨Below.refl _ _, rfl⟩
  case j14_1 =>
    intro a' w' hb hd
    have e0 : a'.tmps[2]?.getD undef = .pointer (some ⟨w.heap.size, 0, none⟩) := ev (slot_o hd 2 rfl rfl)
    have q : ∀ b o, b < w9.heap.size → w'.cell? ⟨b, o, none⟩ = w9.cell? ⟨b, o, none⟩ := (bcell hb).1
    go_simp
    exact ⟨Below.refl _ _, rfl⟩
  case j14_2 =>
    intro a' w' hb hd
    have e55 : a'.tmps[55]?.getD undef = .agg #[.int .i64 x0.1, u0] := ev (slot_w hd 55 (exV (.agg #[.int .i64 x0.1, u0])) rfl rfl)
    have r55 : tplT.Rd w9 (#[.int .i64 x0.1, u0] : Array Value).toList x0 := hx0.below H_w9
    have r55' := r55.below hb
    go_simp
    exact ⟨Below.refl _ _, (toTemplate_any w' r55' (by first | omega | (unfold szInts; omega))).mono fun e w'' ⟨cs, he, hf, hb⟩ => ⟨_, he, hb, cs, rfl, hf.rd⟩⟩
  case j14_3 =>
    intro a' w' hb hd
    have e54 : a'.tmps[54]?.getD undef = .agg #[.int .i64 x0.1, .slice ad42 x0.2.length ad42'] := ev (slot_w hd 54 (exV (.agg #[.int .i64 x0.1, .slice ad42 x0.2.length ad42'])) rfl rfl)
    have r54 : tplT.Rd w9 (#[.int .i64 x0.1, .slice ad42 x0.2.length ad42'] : Array Value).toList x0 := d99.rd
    have r54' := r54.below hb
    have d56 := slot_w hd 56 (rdA tplT x0) rfl rfl
    obtain ⟨cs56, e56, hf56⟩ := d56
    have e56' := ev e56
    go_simp
    exact ⟨Below.refl _ _, (eqTemplate_any w' r54' hf56).mono fun e w'' ⟨he, hb⟩ => ⟨_, he, hb, exV_eqB⟩⟩
  case j14_4 =>
    intro a' w' hb hd
    have e0 : a'.tmps[57]?.getD undef = .bool true := ev (slot_w hd 57 (exV (.bool true)) rfl rfl)
    go_simp
    exact ⟨Below.refl _ _, rfl⟩
  intro vs14 w10 hb10 H0
  obtain ⟨v14_0, _, rfl, p0, H1⟩ := HAll_cons H0
  obtain ⟨v14_1, _, rfl, p1, H2⟩ := HAll_cons H1
  obtain ⟨v14_2, _, rfl, p2, H3⟩ := HAll_cons H2
  obtain ⟨v14_3, _, rfl, p3, H4⟩ := HAll_cons H3
  obtain ⟨v14_4, _, rfl, p4, H5⟩ := HAll_cons H4
  obtain rfl := HAll_nil H5
  obtain rfl := p0 rfl
  obtain rfl := p1 rfl
  obtain rfl := p3 rfl
  obtain rfl := p4 rfl
  clear p0 p1 p2 p3 p4 H0 H1 H2 H3 H4 H5
  have gw10 : Below w9.heap.size w9 w10 := bthen (by repeat (first | exact Below.refl _ _ | exact bA | assumption | refine Below.setCell ?_ (by first | omega | (simp; try omega)) _ | refine Below.alloc ?_ (by first | omega | (simp; try omega)) _ | refine Below.drew ?_ | refine bDN ?_ | refine bthen ?_ (by assumption))) hb10
  have sw10 : w9.heap.size + 0 ≤ w10.heap.size := by have := hb10.size; (try simp at this); omega
  have H_w10 : Below w.heap.size w w10 := bthen H_w9 gw10
  have f102 : w10.cell? ⟨w.heap.size, 0, none⟩ = some (.int .i64 x0.1) := (gw10.cell (by first | omega | (simp; try omega))).trans f82
  have f103 : w10.cell? ⟨w.heap.size, 1, none⟩ = some (u0) := (gw10.cell (by first | omega | (simp; try omega))).trans f83
  have f104 : w10.cell? ⟨w5.heap.size, 0, none⟩ = some (.int .i64 (inV x0 x1).1) := (gw10.cell (by first | omega | (simp; try omega))).trans f84
  have f105 : w10.cell? ⟨w5.heap.size, 1, none⟩ = some (.int .i64 (inV x0 x1).2.1) := (gw10.cell (by first | omega | (simp; try omega))).trans f85
  have f106 : w10.cell? ⟨w5.heap.size, 2, none⟩ = some (.slice ad28 (inV x0 x1).2.2.length ad28') := (gw10.cell (by first | omega | (simp; try omega))).trans f86
  have f107 : w10.cell? ⟨w6.heap.size, 0, none⟩ = some (.int .i64 x0.1) := (gw10.cell (by first | omega | (simp; try omega))).trans f87
  have f108 : w10.cell? ⟨w6.heap.size, 1, none⟩ = some (.slice ad42 x0.2.length ad42') := (gw10.cell (by first | omega | (simp; try omega))).trans f88
  have f109 : w10.cell? ⟨w8.heap.size, 0, none⟩ = some (.int .i64 (inV x0 x1).1) := (gw10.cell (by first | omega | (simp; try omega))).trans f89
  have f110 : w10.cell? ⟨w8.heap.size, 1, none⟩ = some (.int .i64 (inV x0 x1).2.1) := (gw10.cell (by first | omega | (simp; try omega))).trans f90
  have f111 : w10.cell? ⟨w8.heap.size, 2, none⟩ = some (.slice ad79 (inV x0 x1).2.2.length ad79') := (gw10.cell (by first | omega | (simp; try omega))).trans f91
  have z112 : w.heap.size < w10.heap.size := by omega
  have z113 : w5.heap.size < w10.heap.size := by omega
  have z114 : w6.heap.size < w10.heap.size := by omega
  have z115 : w8.heap.size < w10.heap.size := by omega
  have d116 : tplT.Fx w2.heap.size w3.heap.size w10 [.int .i64 x0.1, .slice ad11 x0.2.length ad11'] x0 := d96.below gw10
  have d117 : rowsT.Fx w3.heap.size w4.heap.size w10 [.slice ad19 x1.length ad19'] x1 := d97.below gw10
  have d118 : frmT.Fx w4.heap.size w5.heap.size w10 [.int .i64 (inV x0 x1).1, .int .i64 (inV x0 x1).2.1, .slice ad28 (inV x0 x1).2.2.length ad28'] (inV x0 x1) := d98.below gw10
  have d119 : tplT.Fx (w5.heap.size + 1) w6.heap.size w10 [.int .i64 x0.1, .slice ad42 x0.2.length ad42'] x0 := d99.below gw10
  have d120 : rowsT.Fx (w6.heap.size + 1) w7.heap.size w10 [.slice ad60 x1.length ad60'] x1 := d100.below gw10
  have d121 : frmT.Fx w7.heap.size w8.heap.size w10 [.int .i64 (inV x0 x1).1, .int .i64 (inV x0 x1).2.1, .slice ad79 (inV x0 x1).2.2.length ad79'] (inV x0 x1) := d101.below gw10
  clear hb10 H_w9 f82 f83 f84 f85 f86 f87 f88 f89 f90 f91 d96 d97 d98 d99 d100 d101 z92 z93 z94 z95 gw10
  simp only [putAll, Act.put]
  go_simp
  go_wp2_with fail
  refine (toInt64SS_any _ (hx1.below (by repeat (first | exact Below.refl _ _ | exact bA | assumption | refine Below.setCell ?_ (by first | omega | (simp; try omega)) _ | refine Below.alloc ?_ (by first | omega | (simp; try omega)) _ | refine Below.drew ?_ | refine bDN ?_ | refine bthen ?_ (by assumption)))) (by first | omega | (unfold szInts; omega))).mono ?_
  rintro e w11 ⟨cs, rfl, hc122, hb11⟩
  have gw11 : Below w10.heap.size w10 w11 := bthen (by repeat (first | exact Below.refl _ _ | exact bA | assumption | refine Below.setCell ?_ (by first | omega | (simp; try omega)) _ | refine Below.alloc ?_ (by first | omega | (simp; try omega)) _ | refine Below.drew ?_ | refine bDN ?_ | refine bthen ?_ (by assumption))) hb11
  have sw11 : w10.heap.size + 0 ≤ w11.heap.size := by have := hb11.size; (try simp at this); omega
  have H_w11 : Below w.heap.size w w11 := bthen H_w10 gw11
  have f123 : w11.cell? ⟨w.heap.size, 0, none⟩ = some (.int .i64 x0.1) := (gw11.cell (by first | omega | (simp; try omega))).trans f102
  have f124 : w11.cell? ⟨w.heap.size, 1, none⟩ = some (u0) := (gw11.cell (by first | omega | (simp; try omega))).trans f103
  have f125 : w11.cell? ⟨w5.heap.size, 0, none⟩ = some (.int .i64 (inV x0 x1).1) := (gw11.cell (by first | omega | (simp; try omega))).trans f104
  have f126 : w11.cell? ⟨w5.heap.size, 1, none⟩ = some (.int .i64 (inV x0 x1).2.1) := (gw11.cell (by first | omega | (simp; try omega))).trans f105
  have f127 : w11.cell? ⟨w5.heap.size, 2, none⟩ = some (.slice ad28 (inV x0 x1).2.2.length ad28') := (gw11.cell (by first | omega | (simp; try omega))).trans f106
  have f128 : w11.cell? ⟨w6.heap.size, 0, none⟩ = some (.int .i64 x0.1) := (gw11.cell (by first | omega | (simp; try omega))).trans f107
  have f129 : w11.cell? ⟨w6.heap.size, 1, none⟩ = some (.slice ad42 x0.2.length ad42') := (gw11.cell (by first | omega | (simp; try omega))).trans f108
  have f130 : w11.cell? ⟨w8.heap.size, 0, none⟩ = some (.int .i64 (inV x0 x1).1) := (gw11.cell (by first | omega | (simp; try omega))).trans f109
  have f131 : w11.cell? ⟨w8.heap.size, 1, none⟩ = some (.int .i64 (inV x0 x1).2.1) := (gw11.cell (by first | omega | (simp; try omega))).trans f110
  have f132 : w11.cell? ⟨w8.heap.size, 2, none⟩ = some (.slice ad79 (inV x0 x1).2.2.length ad79') := (gw11.cell (by first | omega | (simp; try omega))).trans f111
  have z133 : w.heap.size < w11.heap.size := by omega
  have z134 : w5.heap.size < w11.heap.size := by omega
  have z135 : w6.heap.size < w11.heap.size := by omega
  have z136 : w8.heap.size < w11.heap.size := by omega
  have d137 : tplT.Fx w2.heap.size w3.heap.size w11 [.int .i64 x0.1, .slice ad11 x0.2.length ad11'] x0 := d116.below gw11
  have d138 : rowsT.Fx w3.heap.size w4.heap.size w11 [.slice ad19 x1.length ad19'] x1 := d117.below gw11
  have d139 : frmT.Fx w4.heap.size w5.heap.size w11 [.int .i64 (inV x0 x1).1, .int .i64 (inV x0 x1).2.1, .slice ad28 (inV x0 x1).2.2.length ad28'] (inV x0 x1) := d118.below gw11
  have d140 : tplT.Fx (w5.heap.size + 1) w6.heap.size w11 [.int .i64 x0.1, .slice ad42 x0.2.length ad42'] x0 := d119.below gw11
  have d141 : rowsT.Fx (w6.heap.size + 1) w7.heap.size w11 [.slice ad60 x1.length ad60'] x1 := d120.below gw11
  have d142 : frmT.Fx w7.heap.size w8.heap.size w11 [.int .i64 (inV x0 x1).1, .int .i64 (inV x0 x1).2.1, .slice ad79 (inV x0 x1).2.2.length ad79'] (inV x0 x1) := d121.below gw11
  clear hb11 H_w10 f102 f103 f104 f105 f106 f107 f108 f109 f110 f111 d116 d117 d118 d119 d120 d121 z112 z113 z114 z115 gw11
  obtain ⟨ad143, ad143', rfl⟩ := fr_slice hc122
  have d144 : rowsT.Fx w10.heap.size w11.heap.size w11 [.slice ad143 x1.length ad143'] x1 := (Ty.Fr.mono hc122 (by first | exact Nat.le_refl _ | (simp; try omega))).fx
  clear hc122
  go_wp2_with fail
  refine (eqInt64SS_any _ (d141.rd.below (by repeat (first | exact Below.refl _ _ | exact bA | assumption | refine Below.setCell ?_ (by first | omega | (simp; try omega)) _ | refine Below.alloc ?_ (by first | omega | (simp; try omega)) _ | refine Below.drew ?_ | refine bDN ?_ | refine bthen ?_ (by assumption)))) (d144.rd.below (by repeat (first | exact Below.refl _ _ | exact bA | assumption | refine Below.setCell ?_ (by first | omega | (simp; try omega)) _ | refine Below.alloc ?_ (by first | omega | (simp; try omega)) _ | refine Below.drew ?_ | refine bDN ?_ | refine bthen ?_ (by assumption))))).mono ?_
  rintro e w12 ⟨rfl, hb12⟩
  have gw12 : Below w11.heap.size w11 w12 := bthen (by repeat (first | exact Below.refl _ _ | exact bA | assumption | refine Below.setCell ?_ (by first | omega | (simp; try omega)) _ | refine Below.alloc ?_ (by first | omega | (simp; try omega)) _ | refine Below.drew ?_ | refine bDN ?_ | refine bthen ?_ (by assumption))) hb12
  have sw12 : w11.heap.size + 0 ≤ w12.heap.size := by have := hb12.size; (try simp at this); omega
  have H_w12 : Below w.heap.size w w12 := bthen H_w11 gw12
  have f146 : w12.cell? ⟨w.heap.size, 0, none⟩ = some (.int .i64 x0.1) := (gw12.cell (by first | omega | (simp; try omega))).trans f123
  have f147 : w12.cell? ⟨w.heap.size, 1, none⟩ = some (u0) := (gw12.cell (by first | omega | (simp; try omega))).trans f124
  have f148 : w12.cell? ⟨w5.heap.size, 0, none⟩ = some (.int .i64 (inV x0 x1).1) := (gw12.cell (by first | omega | (simp; try omega))).trans f125
  have f149 : w12.cell? ⟨w5.heap.size, 1, none⟩ = some (.int .i64 (inV x0 x1).2.1) := (gw12.cell (by first | omega | (simp; try omega))).trans f126
  have f150 : w12.cell? ⟨w5.heap.size, 2, none⟩ = some (.slice ad28 (inV x0 x1).2.2.length ad28') := (gw12.cell (by first | omega | (simp; try omega))).trans f127
  have f151 : w12.cell? ⟨w6.heap.size, 0, none⟩ = some (.int .i64 x0.1) := (gw12.cell (by first | omega | (simp; try omega))).trans f128
  have f152 : w12.cell? ⟨w6.heap.size, 1, none⟩ = some (.slice ad42 x0.2.length ad42') := (gw12.cell (by first | omega | (simp; try omega))).trans f129
  have f153 : w12.cell? ⟨w8.heap.size, 0, none⟩ = some (.int .i64 (inV x0 x1).1) := (gw12.cell (by first | omega | (simp; try omega))).trans f130
  have f154 : w12.cell? ⟨w8.heap.size, 1, none⟩ = some (.int .i64 (inV x0 x1).2.1) := (gw12.cell (by first | omega | (simp; try omega))).trans f131
  have f155 : w12.cell? ⟨w8.heap.size, 2, none⟩ = some (.slice ad79 (inV x0 x1).2.2.length ad79') := (gw12.cell (by first | omega | (simp; try omega))).trans f132
  have z156 : w.heap.size < w12.heap.size := by omega
  have z157 : w5.heap.size < w12.heap.size := by omega
  have z158 : w6.heap.size < w12.heap.size := by omega
  have z159 : w8.heap.size < w12.heap.size := by omega
  have d160 : tplT.Fx w2.heap.size w3.heap.size w12 [.int .i64 x0.1, .slice ad11 x0.2.length ad11'] x0 := d137.below gw12
  have d161 : rowsT.Fx w3.heap.size w4.heap.size w12 [.slice ad19 x1.length ad19'] x1 := d138.below gw12
  have d162 : frmT.Fx w4.heap.size w5.heap.size w12 [.int .i64 (inV x0 x1).1, .int .i64 (inV x0 x1).2.1, .slice ad28 (inV x0 x1).2.2.length ad28'] (inV x0 x1) := d139.below gw12
  have d163 : tplT.Fx (w5.heap.size + 1) w6.heap.size w12 [.int .i64 x0.1, .slice ad42 x0.2.length ad42'] x0 := d140.below gw12
  have d164 : rowsT.Fx (w6.heap.size + 1) w7.heap.size w12 [.slice ad60 x1.length ad60'] x1 := d141.below gw12
  have d165 : frmT.Fx w7.heap.size w8.heap.size w12 [.int .i64 (inV x0 x1).1, .int .i64 (inV x0 x1).2.1, .slice ad79 (inV x0 x1).2.2.length ad79'] (inV x0 x1) := d142.below gw12
  have d166 : rowsT.Fx w10.heap.size w11.heap.size w12 [.slice ad143 x1.length ad143'] x1 := d144.below gw12
  clear hb12 H_w11 f123 f124 f125 f126 f127 f128 f129 f130 f131 f132 d137 d138 d139 d140 d141 d142 d144 z133 z134 z135 z136 gw12
  rw [eqB_true rfl]
  go_wp2_with fail
  refine (markTemplate_fx _ d163 _ (by omega) (by omega)).mono ?_
  rintro e w13 ⟨rfl, hb13, d167⟩
  clear d163
  have sw13 : w12.heap.size ≤ w13.heap.size := hb13.size
  have H_w13 : Below w.heap.size w w13 := below_tch H_w12 hb13 (by omega) (by omega)
  have f168 : w13.cell? ⟨w.heap.size, 0, none⟩ = some (.int .i64 x0.1) := (hb13.cell (by omega) (by omega)).trans f146
  have f169 : w13.cell? ⟨w.heap.size, 1, none⟩ = some (u0) := (hb13.cell (by omega) (by omega)).trans f147
  have f170 : w13.cell? ⟨w5.heap.size, 0, none⟩ = some (.int .i64 (inV x0 x1).1) := (hb13.cell (by omega) (by omega)).trans f148
  have f171 : w13.cell? ⟨w5.heap.size, 1, none⟩ = some (.int .i64 (inV x0 x1).2.1) := (hb13.cell (by omega) (by omega)).trans f149
  have f172 : w13.cell? ⟨w5.heap.size, 2, none⟩ = some (.slice ad28 (inV x0 x1).2.2.length ad28') := (hb13.cell (by omega) (by omega)).trans f150
  have f173 : w13.cell? ⟨w6.heap.size, 0, none⟩ = some (.int .i64 x0.1) := (hb13.cell (by omega) (by omega)).trans f151
  have f174 : w13.cell? ⟨w6.heap.size, 1, none⟩ = some (.slice ad42 x0.2.length ad42') := (hb13.cell (by omega) (by omega)).trans f152
  have f175 : w13.cell? ⟨w8.heap.size, 0, none⟩ = some (.int .i64 (inV x0 x1).1) := (hb13.cell (by omega) (by omega)).trans f153
  have f176 : w13.cell? ⟨w8.heap.size, 1, none⟩ = some (.int .i64 (inV x0 x1).2.1) := (hb13.cell (by omega) (by omega)).trans f154
  have f177 : w13.cell? ⟨w8.heap.size, 2, none⟩ = some (.slice ad79 (inV x0 x1).2.2.length ad79') := (hb13.cell (by omega) (by omega)).trans f155
  have z178 : w.heap.size < w13.heap.size := by omega
  have z179 : w5.heap.size < w13.heap.size := by omega
  have z180 : w6.heap.size < w13.heap.size := by omega
  have z181 : w8.heap.size < w13.heap.size := by omega
  have d182 : tplT.Fx w2.heap.size w3.heap.size w13 [.int .i64 x0.1, .slice ad11 x0.2.length ad11'] x0 := d160.tch hb13 (by omega)
  have d183 : rowsT.Fx w3.heap.size w4.heap.size w13 [.slice ad19 x1.length ad19'] x1 := d161.tch hb13 (by omega)
  have d184 : frmT.Fx w4.heap.size w5.heap.size w13 [.int .i64 (inV x0 x1).1, .int .i64 (inV x0 x1).2.1, .slice ad28 (inV x0 x1).2.2.length ad28'] (inV x0 x1) := d162.tch hb13 (by omega)
  have d185 : rowsT.Fx (w6.heap.size + 1) w7.heap.size w13 [.slice ad60 x1.length ad60'] x1 := d164.tch hb13 (by omega)
  have d186 : frmT.Fx w7.heap.size w8.heap.size w13 [.int .i64 (inV x0 x1).1, .int .i64 (inV x0 x1).2.1, .slice ad79 (inV x0 x1).2.2.length ad79'] (inV x0 x1) := d165.tch hb13 (by omega)
  have d187 : rowsT.Fx w10.heap.size w11.heap.size w13 [.slice ad143 x1.length ad143'] x1 := d166.tch hb13 (by omega)
  clear hb13 H_w12 f146 f147 f148 f149 f150 f151 f152 f153 f154 f155 d160 d161 d162 d164 d165 d166 z156 z157 z158 z159
  have hk188 : 0 ≤ (1 + cntTpl x0) := by omega
  go_wp2_with fail
  refine (markInt64SS_fx _ d185 _ (by omega) (by omega)).mono ?_
  rintro e w14 ⟨rfl, hb14, d189⟩
  clear d185
  have sw14 : w13.heap.size ≤ w14.heap.size := hb14.size
  have H_w14 : Below w.heap.size w w14 := below_tch H_w13 hb14 (by omega) (by omega)
  have f190 : w14.cell? ⟨w.heap.size, 0, none⟩ = some (.int .i64 x0.1) := (hb14.cell (by omega) (by omega)).trans f168
  have f191 : w14.cell? ⟨w.heap.size, 1, none⟩ = some (u0) := (hb14.cell (by omega) (by omega)).trans f169
  have f192 : w14.cell? ⟨w5.heap.size, 0, none⟩ = some (.int .i64 (inV x0 x1).1) := (hb14.cell (by omega) (by omega)).trans f170
  have f193 : w14.cell? ⟨w5.heap.size, 1, none⟩ = some (.int .i64 (inV x0 x1).2.1) := (hb14.cell (by omega) (by omega)).trans f171
  have f194 : w14.cell? ⟨w5.heap.size, 2, none⟩ = some (.slice ad28 (inV x0 x1).2.2.length ad28') := (hb14.cell (by omega) (by omega)).trans f172
  have f195 : w14.cell? ⟨w6.heap.size, 0, none⟩ = some (.int .i64 x0.1) := (hb14.cell (by omega) (by omega)).trans f173
  have f196 : w14.cell? ⟨w6.heap.size, 1, none⟩ = some (.slice ad42 x0.2.length ad42') := (hb14.cell (by omega) (by omega)).trans f174
  have f197 : w14.cell? ⟨w8.heap.size, 0, none⟩ = some (.int .i64 (inV x0 x1).1) := (hb14.cell (by omega) (by omega)).trans f175
  have f198 : w14.cell? ⟨w8.heap.size, 1, none⟩ = some (.int .i64 (inV x0 x1).2.1) := (hb14.cell (by omega) (by omega)).trans f176
  have f199 : w14.cell? ⟨w8.heap.size, 2, none⟩ = some (.slice ad79 (inV x0 x1).2.2.length ad79') := (hb14.cell (by omega) (by omega)).trans f177
  have z200 : w.heap.size < w14.heap.size := by omega
  have z201 : w5.heap.size < w14.heap.size := by omega
  have z202 : w6.heap.size < w14.heap.size := by omega
  have z203 : w8.heap.size < w14.heap.size := by omega
  have d204 : tplT.Fx w2.heap.size w3.heap.size w14 [.int .i64 x0.1, .slice ad11 x0.2.length ad11'] x0 := d182.tch hb14 (by omega)
  have d205 : rowsT.Fx w3.heap.size w4.heap.size w14 [.slice ad19 x1.length ad19'] x1 := d183.tch hb14 (by omega)
  have d206 : frmT.Fx w4.heap.size w5.heap.size w14 [.int .i64 (inV x0 x1).1, .int .i64 (inV x0 x1).2.1, .slice ad28 (inV x0 x1).2.2.length ad28'] (inV x0 x1) := d184.tch hb14 (by omega)
  have d207 : tplT.Fx (w5.heap.size + 1) w6.heap.size w14 [.int .i64 x0.1, .slice ad42 x0.2.length ad42'] (mkTpl 1 x0) := d167.tch hb14 (by omega)
  have d208 : frmT.Fx w7.heap.size w8.heap.size w14 [.int .i64 (inV x0 x1).1, .int .i64 (inV x0 x1).2.1, .slice ad79 (inV x0 x1).2.2.length ad79'] (inV x0 x1) := d186.tch hb14 (by omega)
  have d209 : rowsT.Fx w10.heap.size w11.heap.size w14 [.slice ad143 x1.length ad143'] x1 := d187.tch hb14 (by omega)
  clear hb14 H_w13 f168 f169 f170 f171 f172 f173 f174 f175 f176 f177 d182 d183 d184 d167 d186 d187 z178 z179 z180 z181
  have hk210 : 0 ≤ ((1 + cntTpl x0) + cntRows x1) := by omega
  go_wp2_with fail
  refine (eqFormula_any _ (d208.rd.below (by repeat (first | exact Below.refl _ _ | exact bA | assumption | refine Below.setCell ?_ (by first | omega | (simp; try omega)) _ | refine Below.alloc ?_ (by first | omega | (simp; try omega)) _ | refine Below.drew ?_ | refine bDN ?_ | refine bthen ?_ (by assumption)))) (d206.rd.below (by repeat (first | exact Below.refl _ _ | exact bA | assumption | refine Below.setCell ?_ (by first | omega | (simp; try omega)) _ | refine Below.alloc ?_ (by first | omega | (simp; try omega)) _ | refine Below.drew ?_ | refine bDN ?_ | refine bthen ?_ (by assumption))))).mono ?_
  rintro e w15 ⟨rfl, hb15⟩
  have gw15 : Below w14.heap.size w14 w15 := bthen (by repeat (first | exact Below.refl _ _ | exact bA | assumption | refine Below.setCell ?_ (by first | omega | (simp; try omega)) _ | refine Below.alloc ?_ (by first | omega | (simp; try omega)) _ | refine Below.drew ?_ | refine bDN ?_ | refine bthen ?_ (by assumption))) hb15
  have sw15 : w14.heap.size + 0 ≤ w15.heap.size := by have := hb15.size; (try simp at this); omega
  have H_w15 : Below w.heap.size w w15 := bthen H_w14 gw15
  have f211 : w15.cell? ⟨w.heap.size, 0, none⟩ = some (.int .i64 x0.1) := (gw15.cell (by first | omega | (simp; try omega))).trans f190
  have f212 : w15.cell? ⟨w.heap.size, 1, none⟩ = some (u0) := (gw15.cell (by first | omega | (simp; try omega))).trans f191
  have f213 : w15.cell? ⟨w5.heap.size, 0, none⟩ = some (.int .i64 (inV x0 x1).1) := (gw15.cell (by first | omega | (simp; try omega))).trans f192
  have f214 : w15.cell? ⟨w5.heap.size, 1, none⟩ = some (.int .i64 (inV x0 x1).2.1) := (gw15.cell (by first | omega | (simp; try omega))).trans f193
  have f215 : w15.cell? ⟨w5.heap.size, 2, none⟩ = some (.slice ad28 (inV x0 x1).2.2.length ad28') := (gw15.cell (by first | omega | (simp; try omega))).trans f194
  have f216 : w15.cell? ⟨w6.heap.size, 0, none⟩ = some (.int .i64 x0.1) := (gw15.cell (by first | omega | (simp; try omega))).trans f195
  have f217 : w15.cell? ⟨w6.heap.size, 1, none⟩ = some (.slice ad42 x0.2.length ad42') := (gw15.cell (by first | omega | (simp; try omega))).trans f196
  have f218 : w15.cell? ⟨w8.heap.size, 0, none⟩ = some (.int .i64 (inV x0 x1).1) := (gw15.cell (by first | omega | (simp; try omega))).trans f197
  have f219 : w15.cell? ⟨w8.heap.size, 1, none⟩ = some (.int .i64 (inV x0 x1).2.1) := (gw15.cell (by first | omega | (simp; try omega))).trans f198
  have f220 : w15.cell? ⟨w8.heap.size, 2, none⟩ = some (.slice ad79 (inV x0 x1).2.2.length ad79') := (gw15.cell (by first | omega | (simp; try omega))).trans f199
  have z221 : w.heap.size < w15.heap.size := by omega
  have z222 : w5.heap.size < w15.heap.size := by omega
  have z223 : w6.heap.size < w15.heap.size := by omega
  have z224 : w8.heap.size < w15.heap.size := by omega
  have d225 : tplT.Fx w2.heap.size w3.heap.size w15 [.int .i64 x0.1, .slice ad11 x0.2.length ad11'] x0 := d204.below gw15
  have d226 : rowsT.Fx w3.heap.size w4.heap.size w15 [.slice ad19 x1.length ad19'] x1 := d205.below gw15
  have d227 : frmT.Fx w4.heap.size w5.heap.size w15 [.int .i64 (inV x0 x1).1, .int .i64 (inV x0 x1).2.1, .slice ad28 (inV x0 x1).2.2.length ad28'] (inV x0 x1) := d206.below gw15
  have d228 : tplT.Fx (w5.heap.size + 1) w6.heap.size w15 [.int .i64 x0.1, .slice ad42 x0.2.length ad42'] (mkTpl 1 x0) := d207.below gw15
  have d229 : rowsT.Fx (w6.heap.size + 1) w7.heap.size w15 [.slice ad60 x1.length ad60'] (mkRows (1 + cntTpl x0) x1) := d189.below gw15
  have d230 : frmT.Fx w7.heap.size w8.heap.size w15 [.int .i64 (inV x0 x1).1, .int .i64 (inV x0 x1).2.1, .slice ad79 (inV x0 x1).2.2.length ad79'] (inV x0 x1) := d208.below gw15
  have d231 : rowsT.Fx w10.heap.size w11.heap.size w15 [.slice ad143 x1.length ad143'] x1 := d209.below gw15
  clear hb15 H_w14 f190 f191 f192 f193 f194 f195 f196 f197 f198 f199 d204 d205 d206 d207 d189 d208 d209 z200 z201 z202 z203 gw15
  rw [eqB_true rfl]
  go_wp2_with fail
  refine (markFormula_fx _ d230 _ (by omega) (by omega)).mono ?_
  rintro e w16 ⟨rfl, hb16, d232⟩
  clear d230
  have sw16 : w15.heap.size ≤ w16.heap.size := hb16.size
  have H_w16 : Below w.heap.size w w16 := below_tch H_w15 hb16 (by omega) (by omega)
  have f233 : w16.cell? ⟨w.heap.size, 0, none⟩ = some (.int .i64 x0.1) := (hb16.cell (by omega) (by omega)).trans f211
  have f234 : w16.cell? ⟨w.heap.size, 1, none⟩ = some (u0) := (hb16.cell (by omega) (by omega)).trans f212
  have f235 : w16.cell? ⟨w5.heap.size, 0, none⟩ = some (.int .i64 (inV x0 x1).1) := (hb16.cell (by omega) (by omega)).trans f213
  have f236 : w16.cell? ⟨w5.heap.size, 1, none⟩ = some (.int .i64 (inV x0 x1).2.1) := (hb16.cell (by omega) (by omega)).trans f214
  have f237 : w16.cell? ⟨w5.heap.size, 2, none⟩ = some (.slice ad28 (inV x0 x1).2.2.length ad28') := (hb16.cell (by omega) (by omega)).trans f215
  have f238 : w16.cell? ⟨w6.heap.size, 0, none⟩ = some (.int .i64 x0.1) := (hb16.cell (by omega) (by omega)).trans f216
  have f239 : w16.cell? ⟨w6.heap.size, 1, none⟩ = some (.slice ad42 x0.2.length ad42') := (hb16.cell (by omega) (by omega)).trans f217
  have f240 : w16.cell? ⟨w8.heap.size, 0, none⟩ = some (.int .i64 (inV x0 x1).1) := (hb16.cell (by omega) (by omega)).trans f218
  have f241 : w16.cell? ⟨w8.heap.size, 1, none⟩ = some (.int .i64 (inV x0 x1).2.1) := (hb16.cell (by omega) (by omega)).trans f219
  have f242 : w16.cell? ⟨w8.heap.size, 2, none⟩ = some (.slice ad79 (inV x0 x1).2.2.length ad79') := (hb16.cell (by omega) (by omega)).trans f220
  have z243 : w.heap.size < w16.heap.size := by omega
  have z244 : w5.heap.size < w16.heap.size := by omega
  have z245 : w6.heap.size < w16.heap.size := by omega
  have z246 : w8.heap.size < w16.heap.size := by omega
  have d247 : tplT.Fx w2.heap.size w3.heap.size w16 [.int .i64 x0.1, .slice ad11 x0.2.length ad11'] x0 := d225.tch hb16 (by omega)
  have d248 : rowsT.Fx w3.heap.size w4.heap.size w16 [.slice ad19 x1.length ad19'] x1 := d226.tch hb16 (by omega)
  have d249 : frmT.Fx w4.heap.size w5.heap.size w16 [.int .i64 (inV x0 x1).1, .int .i64 (inV x0 x1).2.1, .slice ad28 (inV x0 x1).2.2.length ad28'] (inV x0 x1) := d227.tch hb16 (by omega)
  have d250 : tplT.Fx (w5.heap.size + 1) w6.heap.size w16 [.int .i64 x0.1, .slice ad42 x0.2.length ad42'] (mkTpl 1 x0) := d228.tch hb16 (by omega)
  have d251 : rowsT.Fx (w6.heap.size + 1) w7.heap.size w16 [.slice ad60 x1.length ad60'] (mkRows (1 + cntTpl x0) x1) := d229.tch hb16 (by omega)
  have d252 : rowsT.Fx w10.heap.size w11.heap.size w16 [.slice ad143 x1.length ad143'] x1 := d231.tch hb16 (by omega)
  clear hb16 H_w15 f211 f212 f213 f214 f215 f216 f217 f218 f219 f220 d225 d226 d227 d228 d229 d231 z221 z222 z223 z224
  have hk253 : 0 ≤ (1 + cntFrm (inV x0 x1)) := by omega
  go_wp2_with fail
  refine (heldFormula_any _ _ d232.rd (by omega) (by omega)).mono ?_
  rintro e w17 ⟨rfl, hb17⟩
  have gw17 : Below w16.heap.size w16 w17 := bthen (by repeat (first | exact Below.refl _ _ | exact bA | assumption | refine Below.setCell ?_ (by first | omega | (simp; try omega)) _ | refine Below.alloc ?_ (by first | omega | (simp; try omega)) _ | refine Below.drew ?_ | refine bDN ?_ | refine bthen ?_ (by assumption))) hb17
  have sw17 : w16.heap.size + 0 ≤ w17.heap.size := by have := hb17.size; (try simp at this); omega
  have H_w17 : Below w.heap.size w w17 := bthen H_w16 gw17
  have f254 : w17.cell? ⟨w.heap.size, 0, none⟩ = some (.int .i64 x0.1) := (gw17.cell (by first | omega | (simp; try omega))).trans f233
  have f255 : w17.cell? ⟨w.heap.size, 1, none⟩ = some (u0) := (gw17.cell (by first | omega | (simp; try omega))).trans f234
  have f256 : w17.cell? ⟨w5.heap.size, 0, none⟩ = some (.int .i64 (inV x0 x1).1) := (gw17.cell (by first | omega | (simp; try omega))).trans f235
  have f257 : w17.cell? ⟨w5.heap.size, 1, none⟩ = some (.int .i64 (inV x0 x1).2.1) := (gw17.cell (by first | omega | (simp; try omega))).trans f236
  have f258 : w17.cell? ⟨w5.heap.size, 2, none⟩ = some (.slice ad28 (inV x0 x1).2.2.length ad28') := (gw17.cell (by first | omega | (simp; try omega))).trans f237
  have f259 : w17.cell? ⟨w6.heap.size, 0, none⟩ = some (.int .i64 x0.1) := (gw17.cell (by first | omega | (simp; try omega))).trans f238
  have f260 : w17.cell? ⟨w6.heap.size, 1, none⟩ = some (.slice ad42 x0.2.length ad42') := (gw17.cell (by first | omega | (simp; try omega))).trans f239
  have f261 : w17.cell? ⟨w8.heap.size, 0, none⟩ = some (.int .i64 (inV x0 x1).1) := (gw17.cell (by first | omega | (simp; try omega))).trans f240
  have f262 : w17.cell? ⟨w8.heap.size, 1, none⟩ = some (.int .i64 (inV x0 x1).2.1) := (gw17.cell (by first | omega | (simp; try omega))).trans f241
  have f263 : w17.cell? ⟨w8.heap.size, 2, none⟩ = some (.slice ad79 (inV x0 x1).2.2.length ad79') := (gw17.cell (by first | omega | (simp; try omega))).trans f242
  have z264 : w.heap.size < w17.heap.size := by omega
  have z265 : w5.heap.size < w17.heap.size := by omega
  have z266 : w6.heap.size < w17.heap.size := by omega
  have z267 : w8.heap.size < w17.heap.size := by omega
  have d268 : tplT.Fx w2.heap.size w3.heap.size w17 [.int .i64 x0.1, .slice ad11 x0.2.length ad11'] x0 := d247.below gw17
  have d269 : rowsT.Fx w3.heap.size w4.heap.size w17 [.slice ad19 x1.length ad19'] x1 := d248.below gw17
  have d270 : frmT.Fx w4.heap.size w5.heap.size w17 [.int .i64 (inV x0 x1).1, .int .i64 (inV x0 x1).2.1, .slice ad28 (inV x0 x1).2.2.length ad28'] (inV x0 x1) := d249.below gw17
  have d271 : tplT.Fx (w5.heap.size + 1) w6.heap.size w17 [.int .i64 x0.1, .slice ad42 x0.2.length ad42'] (mkTpl 1 x0) := d250.below gw17
  have d272 : rowsT.Fx (w6.heap.size + 1) w7.heap.size w17 [.slice ad60 x1.length ad60'] (mkRows (1 + cntTpl x0) x1) := d251.below gw17
  have d273 : frmT.Fx w7.heap.size w8.heap.size w17 [.int .i64 (inV x0 x1).1, .int .i64 (inV x0 x1).2.1, .slice ad79 (inV x0 x1).2.2.length ad79'] (mkFrm 1 (inV x0 x1)) := d232.below gw17
  have d274 : rowsT.Fx w10.heap.size w11.heap.size w17 [.slice ad143 x1.length ad143'] x1 := d252.below gw17
  clear hb17 H_w16 f233 f234 f235 f236 f237 f238 f239 f240 f241 f242 d247 d248 d249 d250 d251 d232 d252 z243 z244 z245 z246 gw17
  go_wp2_with fail
  refine (toTemplate_any _ (hx0.below (by repeat (first | exact Below.refl _ _ | exact bA | assumption | refine Below.setCell ?_ (by first | omega | (simp; try omega)) _ | refine Below.alloc ?_ (by first | omega | (simp; try omega)) _ | refine Below.drew ?_ | refine bDN ?_ | refine bthen ?_ (by assumption)))) (by first | omega | (unfold szInts; omega))).mono ?_
  rintro e w18 ⟨cs, rfl, hc275, hb18⟩
  have gw18 : Below w17.heap.size w17 w18 := bthen (by repeat (first | exact Below.refl _ _ | exact bA | assumption | refine Below.setCell ?_ (by first | omega | (simp; try omega)) _ | refine Below.alloc ?_ (by first | omega | (simp; try omega)) _ | refine Below.drew ?_ | refine bDN ?_ | refine bthen ?_ (by assumption))) hb18
  have sw18 : w17.heap.size + 0 ≤ w18.heap.size := by have := hb18.size; (try simp at this); omega
  have H_w18 : Below w.heap.size w w18 := bthen H_w17 gw18
  have f276 : w18.cell? ⟨w.heap.size, 0, none⟩ = some (.int .i64 x0.1) := (gw18.cell (by first | omega | (simp; try omega))).trans f254
  have f277 : w18.cell? ⟨w.heap.size, 1, none⟩ = some (u0) := (gw18.cell (by first | omega | (simp; try omega))).trans f255
  have f278 : w18.cell? ⟨w5.heap.size, 0, none⟩ = some (.int .i64 (inV x0 x1).1) := (gw18.cell (by first | omega | (simp; try omega))).trans f256
  have f279 : w18.cell? ⟨w5.heap.size, 1, none⟩ = some (.int .i64 (inV x0 x1).2.1) := (gw18.cell (by first | omega | (simp; try omega))).trans f257
  have f280 : w18.cell? ⟨w5.heap.size, 2, none⟩ = some (.slice ad28 (inV x0 x1).2.2.length ad28') := (gw18.cell (by first | omega | (simp; try omega))).trans f258
  have f281 : w18.cell? ⟨w6.heap.size, 0, none⟩ = some (.int .i64 x0.1) := (gw18.cell (by first | omega | (simp; try omega))).trans f259
  have f282 : w18.cell? ⟨w6.heap.size, 1, none⟩ = some (.slice ad42 x0.2.length ad42') := (gw18.cell (by first | omega | (simp; try omega))).trans f260
  have f283 : w18.cell? ⟨w8.heap.size, 0, none⟩ = some (.int .i64 (inV x0 x1).1) := (gw18.cell (by first | omega | (simp; try omega))).trans f261
  have f284 : w18.cell? ⟨w8.heap.size, 1, none⟩ = some (.int .i64 (inV x0 x1).2.1) := (gw18.cell (by first | omega | (simp; try omega))).trans f262
  have f285 : w18.cell? ⟨w8.heap.size, 2, none⟩ = some (.slice ad79 (inV x0 x1).2.2.length ad79') := (gw18.cell (by first | omega | (simp; try omega))).trans f263
  have z286 : w.heap.size < w18.heap.size := by omega
  have z287 : w5.heap.size < w18.heap.size := by omega
  have z288 : w6.heap.size < w18.heap.size := by omega
  have z289 : w8.heap.size < w18.heap.size := by omega
  have d290 : tplT.Fx w2.heap.size w3.heap.size w18 [.int .i64 x0.1, .slice ad11 x0.2.length ad11'] x0 := d268.below gw18
  have d291 : rowsT.Fx w3.heap.size w4.heap.size w18 [.slice ad19 x1.length ad19'] x1 := d269.below gw18
  have d292 : frmT.Fx w4.heap.size w5.heap.size w18 [.int .i64 (inV x0 x1).1, .int .i64 (inV x0 x1).2.1, .slice ad28 (inV x0 x1).2.2.length ad28'] (inV x0 x1) := d270.below gw18
  have d293 : tplT.Fx (w5.heap.size + 1) w6.heap.size w18 [.int .i64 x0.1, .slice ad42 x0.2.length ad42'] (mkTpl 1 x0) := d271.below gw18
  have d294 : rowsT.Fx (w6.heap.size + 1) w7.heap.size w18 [.slice ad60 x1.length ad60'] (mkRows (1 + cntTpl x0) x1) := d272.below gw18
  have d295 : frmT.Fx w7.heap.size w8.heap.size w18 [.int .i64 (inV x0 x1).1, .int .i64 (inV x0 x1).2.1, .slice ad79 (inV x0 x1).2.2.length ad79'] (mkFrm 1 (inV x0 x1)) := d273.below gw18
  have d296 : rowsT.Fx w10.heap.size w11.heap.size w18 [.slice ad143 x1.length ad143'] x1 := d274.below gw18
  clear hb18 H_w17 f254 f255 f256 f257 f258 f259 f260 f261 f262 f263 d268 d269 d270 d271 d272 d273 d274 z264 z265 z266 z267 gw18
  obtain ⟨ad297, ad297', rfl⟩ := fr_pair hc275
  have d298 : tplT.Fx w17.heap.size w18.heap.size w18 [.int .i64 x0.1, .slice ad297 x0.2.length ad297'] x0 := (Ty.Fr.mono hc275 (by first | exact Nat.le_refl _ | (simp; try omega))).fx
  clear hc275
  go_wp2_with fail
  refine (toInt64SS_any _ (hx1.below (by repeat (first | exact Below.refl _ _ | exact bA | assumption | refine Below.setCell ?_ (by first | omega | (simp; try omega)) _ | refine Below.alloc ?_ (by first | omega | (simp; try omega)) _ | refine Below.drew ?_ | refine bDN ?_ | refine bthen ?_ (by assumption)))) (by first | omega | (unfold szInts; omega))).mono ?_
  rintro e w19 ⟨cs, rfl, hc300, hb19⟩
  have gw19 : Below w18.heap.size w18 w19 := bthen (by repeat (first | exact Below.refl _ _ | exact bA | assumption | refine Below.setCell ?_ (by first | omega | (simp; try omega)) _ | refine Below.alloc ?_ (by first | omega | (simp; try omega)) _ | refine Below.drew ?_ | refine bDN ?_ | refine bthen ?_ (by assumption))) hb19
  have sw19 : w18.heap.size + 0 ≤ w19.heap.size := by have := hb19.size; (try simp at this); omega
  have H_w19 : Below w.heap.size w w19 := bthen H_w18 gw19
  have f301 : w19.cell? ⟨w.heap.size, 0, none⟩ = some (.int .i64 x0.1) := (gw19.cell (by first | omega | (simp; try omega))).trans f276
  have f302 : w19.cell? ⟨w.heap.size, 1, none⟩ = some (u0) := (gw19.cell (by first | omega | (simp; try omega))).trans f277
  have f303 : w19.cell? ⟨w5.heap.size, 0, none⟩ = some (.int .i64 (inV x0 x1).1) := (gw19.cell (by first | omega | (simp; try omega))).trans f278
  have f304 : w19.cell? ⟨w5.heap.size, 1, none⟩ = some (.int .i64 (inV x0 x1).2.1) := (gw19.cell (by first | omega | (simp; try omega))).trans f279
  have f305 : w19.cell? ⟨w5.heap.size, 2, none⟩ = some (.slice ad28 (inV x0 x1).2.2.length ad28') := (gw19.cell (by first | omega | (simp; try omega))).trans f280
  have f306 : w19.cell? ⟨w6.heap.size, 0, none⟩ = some (.int .i64 x0.1) := (gw19.cell (by first | omega | (simp; try omega))).trans f281
  have f307 : w19.cell? ⟨w6.heap.size, 1, none⟩ = some (.slice ad42 x0.2.length ad42') := (gw19.cell (by first | omega | (simp; try omega))).trans f282
  have f308 : w19.cell? ⟨w8.heap.size, 0, none⟩ = some (.int .i64 (inV x0 x1).1) := (gw19.cell (by first | omega | (simp; try omega))).trans f283
  have f309 : w19.cell? ⟨w8.heap.size, 1, none⟩ = some (.int .i64 (inV x0 x1).2.1) := (gw19.cell (by first | omega | (simp; try omega))).trans f284
  have f310 : w19.cell? ⟨w8.heap.size, 2, none⟩ = some (.slice ad79 (inV x0 x1).2.2.length ad79') := (gw19.cell (by first | omega | (simp; try omega))).trans f285
  have z311 : w.heap.size < w19.heap.size := by omega
  have z312 : w5.heap.size < w19.heap.size := by omega
  have z313 : w6.heap.size < w19.heap.size := by omega
  have z314 : w8.heap.size < w19.heap.size := by omega
  have d315 : tplT.Fx w2.heap.size w3.heap.size w19 [.int .i64 x0.1, .slice ad11 x0.2.length ad11'] x0 := d290.below gw19
  have d316 : rowsT.Fx w3.heap.size w4.heap.size w19 [.slice ad19 x1.length ad19'] x1 := d291.below gw19
  have d317 : frmT.Fx w4.heap.size w5.heap.size w19 [.int .i64 (inV x0 x1).1, .int .i64 (inV x0 x1).2.1, .slice ad28 (inV x0 x1).2.2.length ad28'] (inV x0 x1) := d292.below gw19
  have d318 : tplT.Fx (w5.heap.size + 1) w6.heap.size w19 [.int .i64 x0.1, .slice ad42 x0.2.length ad42'] (mkTpl 1 x0) := d293.below gw19
  have d319 : rowsT.Fx (w6.heap.size + 1) w7.heap.size w19 [.slice ad60 x1.length ad60'] (mkRows (1 + cntTpl x0) x1) := d294.below gw19
  have d320 : frmT.Fx w7.heap.size w8.heap.size w19 [.int .i64 (inV x0 x1).1, .int .i64 (inV x0 x1).2.1, .slice ad79 (inV x0 x1).2.2.length ad79'] (mkFrm 1 (inV x0 x1)) := d295.below gw19
  have d321 : rowsT.Fx w10.heap.size w11.heap.size w19 [.slice ad143 x1.length ad143'] x1 := d296.below gw19
  have d322 : tplT.Fx w17.heap.size w18.heap.size w19 [.int .i64 x0.1, .slice ad297 x0.2.length ad297'] x0 := d298.below gw19
  clear hb19 H_w18 f276 f277 f278 f279 f280 f281 f282 f283 f284 f285 d290 d291 d292 d293 d294 d295 d296 d298 z286 z287 z288 z289 gw19
  obtain ⟨ad323, ad323', rfl⟩ := fr_slice hc300
  have d324 : rowsT.Fx w18.heap.size w19.heap.size w19 [.slice ad323 x1.length ad323'] x1 := (Ty.Fr.mono hc300 (by first | exact Nat.le_refl _ | (simp; try omega))).fx
  clear hc300
  go_wp2_with fail
  refine (IndicatorFormula_any _ (d322.rd.below (by repeat (first | exact Below.refl _ _ | exact bA | assumption | refine Below.setCell ?_ (by first | omega | (simp; try omega)) _ | refine Below.alloc ?_ (by first | omega | (simp; try omega)) _ | refine Below.drew ?_ | refine bDN ?_ | refine bthen ?_ (by assumption)))) (d324.rd.below (by repeat (first | exact Below.refl _ _ | exact bA | assumption | refine Below.setCell ?_ (by first | omega | (simp; try omega)) _ | refine Below.alloc ?_ (by first | omega | (simp; try omega)) _ | refine Below.drew ?_ | refine bDN ?_ | refine bthen ?_ (by assumption))))).mono ?_
  rintro e w20 ⟨cs, rfl, hc326, hb20⟩
  have gw20 : Below w19.heap.size w19 w20 := bthen (by repeat (first | exact Below.refl _ _ | exact bA | assumption | refine Below.setCell ?_ (by first | omega | (simp; try omega)) _ | refine Below.alloc ?_ (by first | omega | (simp; try omega)) _ | refine Below.drew ?_ | refine bDN ?_ | refine bthen ?_ (by assumption))) hb20
  have sw20 : w19.heap.size + 0 ≤ w20.heap.size := by have := hb20.size; (try simp at this); omega
  have H_w20 : Below w.heap.size w w20 := bthen H_w19 gw20
  have f327 : w20.cell? ⟨w.heap.size, 0, none⟩ = some (.int .i64 x0.1) := (gw20.cell (by first | omega | (simp; try omega))).trans f301
  have f328 : w20.cell? ⟨w.heap.size, 1, none⟩ = some (u0) := (gw20.cell (by first | omega | (simp; try omega))).trans f302
  have f329 : w20.cell? ⟨w5.heap.size, 0, none⟩ = some (.int .i64 (inV x0 x1).1) := (gw20.cell (by first | omega | (simp; try omega))).trans f303
  have f330 : w20.cell? ⟨w5.heap.size, 1, none⟩ = some (.int .i64 (inV x0 x1).2.1) := (gw20.cell (by first | omega | (simp; try omega))).trans f304
  have f331 : w20.cell? ⟨w5.heap.size, 2, none⟩ = some (.slice ad28 (inV x0 x1).2.2.length ad28') := (gw20.cell (by first | omega | (simp; try omega))).trans f305
  have f332 : w20.cell? ⟨w6.heap.size, 0, none⟩ = some (.int .i64 x0.1) := (gw20.cell (by first | omega | (simp; try omega))).trans f306
  have f333 : w20.cell? ⟨w6.heap.size, 1, none⟩ = some (.slice ad42 x0.2.length ad42') := (gw20.cell (by first | omega | (simp; try omega))).trans f307
  have f334 : w20.cell? ⟨w8.heap.size, 0, none⟩ = some (.int .i64 (inV x0 x1).1) := (gw20.cell (by first | omega | (simp; try omega))).trans f308
  have f335 : w20.cell? ⟨w8.heap.size, 1, none⟩ = some (.int .i64 (inV x0 x1).2.1) := (gw20.cell (by first | omega | (simp; try omega))).trans f309
  have f336 : w20.cell? ⟨w8.heap.size, 2, none⟩ = some (.slice ad79 (inV x0 x1).2.2.length ad79') := (gw20.cell (by first | omega | (simp; try omega))).trans f310
  have z337 : w.heap.size < w20.heap.size := by omega
  have z338 : w5.heap.size < w20.heap.size := by omega
  have z339 : w6.heap.size < w20.heap.size := by omega
  have z340 : w8.heap.size < w20.heap.size := by omega
  have d341 : tplT.Fx w2.heap.size w3.heap.size w20 [.int .i64 x0.1, .slice ad11 x0.2.length ad11'] x0 := d315.below gw20
  have d342 : rowsT.Fx w3.heap.size w4.heap.size w20 [.slice ad19 x1.length ad19'] x1 := d316.below gw20
  have d343 : frmT.Fx w4.heap.size w5.heap.size w20 [.int .i64 (inV x0 x1).1, .int .i64 (inV x0 x1).2.1, .slice ad28 (inV x0 x1).2.2.length ad28'] (inV x0 x1) := d317.below gw20
  have d344 : tplT.Fx (w5.heap.size + 1) w6.heap.size w20 [.int .i64 x0.1, .slice ad42 x0.2.length ad42'] (mkTpl 1 x0) := d318.below gw20
  have d345 : rowsT.Fx (w6.heap.size + 1) w7.heap.size w20 [.slice ad60 x1.length ad60'] (mkRows (1 + cntTpl x0) x1) := d319.below gw20
  have d346 : frmT.Fx w7.heap.size w8.heap.size w20 [.int .i64 (inV x0 x1).1, .int .i64 (inV x0 x1).2.1, .slice ad79 (inV x0 x1).2.2.length ad79'] (mkFrm 1 (inV x0 x1)) := d320.below gw20
  have d347 : rowsT.Fx w10.heap.size w11.heap.size w20 [.slice ad143 x1.length ad143'] x1 := d321.below gw20
  have d348 : tplT.Fx w17.heap.size w18.heap.size w20 [.int .i64 x0.1, .slice ad297 x0.2.length ad297'] x0 := d322.below gw20
  have d349 : rowsT.Fx w18.heap.size w19.heap.size w20 [.slice ad323 x1.length ad323'] x1 := d324.below gw20
  clear hb20 H_w19 f301 f302 f303 f304 f305 f306 f307 f308 f309 f310 d315 d316 d317 d318 d319 d320 d321 d322 d324 z311 z312 z313 z314 gw20
  obtain ⟨ad350, ad350', rfl⟩ := fr_trip hc326
  have d351 : frmT.Fx w19.heap.size w20.heap.size w20 [.int .i64 (inV x0 x1).1, .int .i64 (inV x0 x1).2.1, .slice ad350 (inV x0 x1).2.2.length ad350'] (inV x0 x1) := (Ty.Fr.mono hc326 (by first | exact Nat.le_refl _ | (simp; try omega))).fx
  clear hc326
  go_wp2_with fail
  refine (eqFormula_any _ (d351.rd.below (by repeat (first | exact Below.refl _ _ | exact bA | assumption | refine Below.setCell ?_ (by first | omega | (simp; try omega)) _ | refine Below.alloc ?_ (by first | omega | (simp; try omega)) _ | refine Below.drew ?_ | refine bDN ?_ | refine bthen ?_ (by assumption)))) (d343.rd.below (by repeat (first | exact Below.refl _ _ | exact bA | assumption | refine Below.setCell ?_ (by first | omega | (simp; try omega)) _ | refine Below.alloc ?_ (by first | omega | (simp; try omega)) _ | refine Below.drew ?_ | refine bDN ?_ | refine bthen ?_ (by assumption))))).mono ?_
  rintro e w21 ⟨rfl, hb21⟩
  have gw21 : Below w20.heap.size w20 w21 := bthen (by repeat (first | exact Below.refl _ _ | exact bA | assumption | refine Below.setCell ?_ (by first | omega | (simp; try omega)) _ | refine Below.alloc ?_ (by first | omega | (simp; try omega)) _ | refine Below.drew ?_ | refine bDN ?_ | refine bthen ?_ (by assumption))) hb21
  have sw21 : w20.heap.size + 1 ≤ w21.heap.size := by have := hb21.size; (try simp at this); omega
  have H_w21 : Below w.heap.size w w21 := bthen H_w20 gw21
  have f353 : w21.cell? ⟨w.heap.size, 0, none⟩ = some (.int .i64 x0.1) := (gw21.cell (by first | omega | (simp; try omega))).trans f327
  have f354 : w21.cell? ⟨w.heap.size, 1, none⟩ = some (u0) := (gw21.cell (by first | omega | (simp; try omega))).trans f328
  have f355 : w21.cell? ⟨w5.heap.size, 0, none⟩ = some (.int .i64 (inV x0 x1).1) := (gw21.cell (by first | omega | (simp; try omega))).trans f329
  have f356 : w21.cell? ⟨w5.heap.size, 1, none⟩ = some (.int .i64 (inV x0 x1).2.1) := (gw21.cell (by first | omega | (simp; try omega))).trans f330
  have f357 : w21.cell? ⟨w5.heap.size, 2, none⟩ = some (.slice ad28 (inV x0 x1).2.2.length ad28') := (gw21.cell (by first | omega | (simp; try omega))).trans f331
  have f358 : w21.cell? ⟨w6.heap.size, 0, none⟩ = some (.int .i64 x0.1) := (gw21.cell (by first | omega | (simp; try omega))).trans f332
  have f359 : w21.cell? ⟨w6.heap.size, 1, none⟩ = some (.slice ad42 x0.2.length ad42') := (gw21.cell (by first | omega | (simp; try omega))).trans f333
  have f360 : w21.cell? ⟨w8.heap.size, 0, none⟩ = some (.int .i64 (inV x0 x1).1) := (gw21.cell (by first | omega | (simp; try omega))).trans f334
  have f361 : w21.cell? ⟨w8.heap.size, 1, none⟩ = some (.int .i64 (inV x0 x1).2.1) := (gw21.cell (by first | omega | (simp; try omega))).trans f335
  have f362 : w21.cell? ⟨w8.heap.size, 2, none⟩ = some (.slice ad79 (inV x0 x1).2.2.length ad79') := (gw21.cell (by first | omega | (simp; try omega))).trans f336
  have f363 : w21.cell? ⟨w20.heap.size, 0, none⟩ = some (.int .i64 (inV x0 x1).1) := by rw [(bcell hb21).1 _ _ (by first | omega | (simp; try omega))]; first | (simp; done) | simp [go_sem]
  have f364 : w21.cell? ⟨w20.heap.size, 1, none⟩ = some (.int .i64 (inV x0 x1).2.1) := by rw [(bcell hb21).1 _ _ (by first | omega | (simp; try omega))]; first | (simp; done) | simp [go_sem]
  have f365 : w21.cell? ⟨w20.heap.size, 2, none⟩ = some (.slice ad350 (inV x0 x1).2.2.length ad350') := by rw [(bcell hb21).1 _ _ (by first | omega | (simp; try omega))]; first | (simp; done) | simp [go_sem]
  have z366 : w.heap.size < w21.heap.size := by omega
  have z367 : w5.heap.size < w21.heap.size := by omega
  have z368 : w6.heap.size < w21.heap.size := by omega
  have z369 : w8.heap.size < w21.heap.size := by omega
  have z370 : w20.heap.size < w21.heap.size := by omega
  have d371 : tplT.Fx w2.heap.size w3.heap.size w21 [.int .i64 x0.1, .slice ad11 x0.2.length ad11'] x0 := d341.below gw21
  have d372 : rowsT.Fx w3.heap.size w4.heap.size w21 [.slice ad19 x1.length ad19'] x1 := d342.below gw21
  have d373 : frmT.Fx w4.heap.size w5.heap.size w21 [.int .i64 (inV x0 x1).1, .int .i64 (inV x0 x1).2.1, .slice ad28 (inV x0 x1).2.2.length ad28'] (inV x0 x1) := d343.below gw21
  have d374 : tplT.Fx (w5.heap.size + 1) w6.heap.size w21 [.int .i64 x0.1, .slice ad42 x0.2.length ad42'] (mkTpl 1 x0) := d344.below gw21
  have d375 : rowsT.Fx (w6.heap.size + 1) w7.heap.size w21 [.slice ad60 x1.length ad60'] (mkRows (1 + cntTpl x0) x1) := d345.below gw21
  have d376 : frmT.Fx w7.heap.size w8.heap.size w21 [.int .i64 (inV x0 x1).1, .int .i64 (inV x0 x1).2.1, .slice ad79 (inV x0 x1).2.2.length ad79'] (mkFrm 1 (inV x0 x1)) := d346.below gw21
  have d377 : rowsT.Fx w10.heap.size w11.heap.size w21 [.slice ad143 x1.length ad143'] x1 := d347.below gw21
  have d378 : tplT.Fx w17.heap.size w18.heap.size w21 [.int .i64 x0.1, .slice ad297 x0.2.length ad297'] x0 := d348.below gw21
  have d379 : rowsT.Fx w18.heap.size w19.heap.size w21 [.slice ad323 x1.length ad323'] x1 := d349.below gw21
  have d380 : frmT.Fx w19.heap.size w20.heap.size w21 [.int .i64 (inV x0 x1).1, .int .i64 (inV x0 x1).2.1, .slice ad350 (inV x0 x1).2.2.length ad350'] (inV x0 x1) := d351.below gw21
  clear hb21 H_w20 f327 f328 f329 f330 f331 f332 f333 f334 f335 f336 d341 d342 d343 d344 d345 d346 d347 d348 d349 d351 z337 z338 z339 z340 gw21
  rw [eqB_true rfl]
  go_wp2_with fail
  refine (heldFormula_any _ _ d376.rd (by omega) (by omega)).mono ?_
  rintro e w22 ⟨rfl, hb22⟩
  have gw22 : Below w21.heap.size w21 w22 := bthen (by repeat (first | exact Below.refl _ _ | exact bA | assumption | refine Below.setCell ?_ (by first | omega | (simp; try omega)) _ | refine Below.alloc ?_ (by first | omega | (simp; try omega)) _ | refine Below.drew ?_ | refine bDN ?_ | refine bthen ?_ (by assumption))) hb22
  have sw22 : w21.heap.size + 0 ≤ w22.heap.size := by have := hb22.size; (try simp at this); omega
  have H_w22 : Below w.heap.size w w22 := bthen H_w21 gw22
  have f381 : w22.cell? ⟨w.heap.size, 0, none⟩ = some (.int .i64 x0.1) := (gw22.cell (by first | omega | (simp; try omega))).trans f353
  have f382 : w22.cell? ⟨w.heap.size, 1, none⟩ = some (u0) := (gw22.cell (by first | omega | (simp; try omega))).trans f354
  have f383 : w22.cell? ⟨w5.heap.size, 0, none⟩ = some (.int .i64 (inV x0 x1).1) := (gw22.cell (by first | omega | (simp; try omega))).trans f355
  have f384 : w22.cell? ⟨w5.heap.size, 1, none⟩ = some (.int .i64 (inV x0 x1).2.1) := (gw22.cell (by first | omega | (simp; try omega))).trans f356
  have f385 : w22.cell? ⟨w5.heap.size, 2, none⟩ = some (.slice ad28 (inV x0 x1).2.2.length ad28') := (gw22.cell (by first | omega | (simp; try omega))).trans f357
  have f386 : w22.cell? ⟨w6.heap.size, 0, none⟩ = some (.int .i64 x0.1) := (gw22.cell (by first | omega | (simp; try omega))).trans f358
  have f387 : w22.cell? ⟨w6.heap.size, 1, none⟩ = some (.slice ad42 x0.2.length ad42') := (gw22.cell (by first | omega | (simp; try omega))).trans f359
  have f388 : w22.cell? ⟨w8.heap.size, 0, none⟩ = some (.int .i64 (inV x0 x1).1) := (gw22.cell (by first | omega | (simp; try omega))).trans f360
  have f389 : w22.cell? ⟨w8.heap.size, 1, none⟩ = some (.int .i64 (inV x0 x1).2.1) := (gw22.cell (by first | omega | (simp; try omega))).trans f361
  have f390 : w22.cell? ⟨w8.heap.size, 2, none⟩ = some (.slice ad79 (inV x0 x1).2.2.length ad79') := (gw22.cell (by first | omega | (simp; try omega))).trans f362
  have f391 : w22.cell? ⟨w20.heap.size, 0, none⟩ = some (.int .i64 (inV x0 x1).1) := (gw22.cell (by first | omega | (simp; try omega))).trans f363
  have f392 : w22.cell? ⟨w20.heap.size, 1, none⟩ = some (.int .i64 (inV x0 x1).2.1) := (gw22.cell (by first | omega | (simp; try omega))).trans f364
  have f393 : w22.cell? ⟨w20.heap.size, 2, none⟩ = some (.slice ad350 (inV x0 x1).2.2.length ad350') := (gw22.cell (by first | omega | (simp; try omega))).trans f365
  have z394 : w.heap.size < w22.heap.size := by omega
  have z395 : w5.heap.size < w22.heap.size := by omega
  have z396 : w6.heap.size < w22.heap.size := by omega
  have z397 : w8.heap.size < w22.heap.size := by omega
  have z398 : w20.heap.size < w22.heap.size := by omega
  have d399 : tplT.Fx w2.heap.size w3.heap.size w22 [.int .i64 x0.1, .slice ad11 x0.2.length ad11'] x0 := d371.below gw22
  have d400 : rowsT.Fx w3.heap.size w4.heap.size w22 [.slice ad19 x1.length ad19'] x1 := d372.below gw22
  have d401 : frmT.Fx w4.heap.size w5.heap.size w22 [.int .i64 (inV x0 x1).1, .int .i64 (inV x0 x1).2.1, .slice ad28 (inV x0 x1).2.2.length ad28'] (inV x0 x1) := d373.below gw22
  have d402 : tplT.Fx (w5.heap.size + 1) w6.heap.size w22 [.int .i64 x0.1, .slice ad42 x0.2.length ad42'] (mkTpl 1 x0) := d374.below gw22
  have d403 : rowsT.Fx (w6.heap.size + 1) w7.heap.size w22 [.slice ad60 x1.length ad60'] (mkRows (1 + cntTpl x0) x1) := d375.below gw22
  have d404 : frmT.Fx w7.heap.size w8.heap.size w22 [.int .i64 (inV x0 x1).1, .int .i64 (inV x0 x1).2.1, .slice ad79 (inV x0 x1).2.2.length ad79'] (mkFrm 1 (inV x0 x1)) := d376.below gw22
  have d405 : rowsT.Fx w10.heap.size w11.heap.size w22 [.slice ad143 x1.length ad143'] x1 := d377.below gw22
  have d406 : tplT.Fx w17.heap.size w18.heap.size w22 [.int .i64 x0.1, .slice ad297 x0.2.length ad297'] x0 := d378.below gw22
  have d407 : rowsT.Fx w18.heap.size w19.heap.size w22 [.slice ad323 x1.length ad323'] x1 := d379.below gw22
  have d408 : frmT.Fx w19.heap.size w20.heap.size w22 [.int .i64 (inV x0 x1).1, .int .i64 (inV x0 x1).2.1, .slice ad350 (inV x0 x1).2.2.length ad350'] (inV x0 x1) := d380.below gw22
  clear hb22 H_w21 f353 f354 f355 f356 f357 f358 f359 f360 f361 f362 f363 f364 f365 d371 d372 d373 d374 d375 d376 d377 d378 d379 d380 z366 z367 z368 z369 z370 gw22
  go_wp2_with fail
  go_ret
  exact ⟨rfl, (by repeat (first | exact Below.refl _ _ | exact bA | assumption | refine Below.setCell ?_ (by first | omega | (simp; try omega)) _ | refine Below.alloc ?_ (by first | omega | (simp; try omega)) _ | refine Below.drew ?_ | refine bDN ?_ | refine bthen ?_ (by assumption)))⟩
end Go.Proofs.Ytjghcedmlklngaa
