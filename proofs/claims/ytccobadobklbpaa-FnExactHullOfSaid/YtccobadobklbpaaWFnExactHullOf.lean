/-
  The law FnExactHullOf, walked: its contract.
-/
import Derived.Test.YtccobadobklbpaaQBD
import Derived.Test.YtccobadobklbpaaQAC
import Derived.Test.YtccobadobklbpaaQBE
namespace Go.Proofs.Ytccobadobklbpaa
open Go.RowKit Go.Sort
set_option maxHeartbeats 6400000 in
set_option maxRecDepth 100000 in
theorem fnExactHullOf_any (w : World) {c0 : Array Value} {x0 : Int × List (Int × List (List Int))} (h0 : tplT.Rd w c0.toList x0) {v1 : Value} {x1 : List (List Int)} (h1 : rowsT.Rd w [v1] x1) :
    Calls Try.prog 4 #[.agg c0, v1] w fun e w' => e = .returned (.bool true) ∧ Below w.heap.size w w' := by
  have hx0 := h0
  obtain ⟨u0, hv0, -, hy0⟩ := pair_ex h0
  obtain rfl := agg_of hv0
  clear hv0 h0
  have hn0 := szTpl_nn x0
  have hcn0 : cntTpl x0 ≤ szTpl x0 := cntRels_sz x0.2
  have hcz0 : 0 ≤ cntTpl x0 := cntRels_nn x0.2
  have hx1 := h1
  obtain ⟨ad1, cap1, rfl⟩ := rd_slice hx1
  clear h1
  have hn1 := szRows_nn x1
  have hcn1 : cntRows x1 ≤ szRows x1 := cntRows_sz x1
  have hcz1 : 0 ≤ cntRows x1 := cntRows_nn x1
  have H_w : Below w.heap.size w w := Below.refl _ _
  go_enter Try.func4, Try.ntmps4
  go_wp2_with fail
  refine (szTemplate_any _ (hx0.below (by repeat (first | exact Below.refl _ _ | exact bA | assumption | refine Below.setCell ?_ (by first | omega | (simp; try omega)) _ | refine Below.alloc ?_ (by first | omega | (simp; try omega)) _ | refine Below.drew ?_ | refine bDN ?_ | refine bthen ?_ (by assumption)))) _ (by omega) (by omega)).mono ?_
  rintro e w1 ⟨rfl, hb1⟩
  have gw1 : Below w.heap.size w w1 := bthen (by repeat (first | exact Below.refl _ _ | exact bA | assumption | refine Below.setCell ?_ (by first | omega | (simp; try omega)) _ | refine Below.alloc ?_ (by first | omega | (simp; try omega)) _ | refine Below.drew ?_ | refine bDN ?_ | refine bthen ?_ (by assumption))) hb1
  have sw1 : w.heap.size + 1 ≤ w1.heap.size := by have := hb1.size; (try simp at this); omega
  have H_w1 : Below w.heap.size w w1 := bthen H_w gw1
  have f1 : w1.cell? ⟨w.heap.size, 0, none⟩ = some (.int .i64 x0.1) := by rw [(bcell hb1).1 _ _ (by first | omega | (simp; try omega))]; first | (simp; done) | simp [go_sem]
  have f2 : w1.cell? ⟨w.heap.size, 1, none⟩ = some (u0) := by rw [(bcell hb1).1 _ _ (by first | omega | (simp; try omega))]; first | (simp; done) | simp [go_sem]
  have z3 : w.heap.size < w1.heap.size := by omega
  clear hb1 gw1
  rcases ilt 1048576 (szTpl x0) with hl2 | hl2
  · rw [szR_lt hl2]
    go_wp2_with fail
    go_ret
    exact ⟨rfl, (by repeat (first | exact Below.refl _ _ | exact bA | assumption | refine Below.setCell ?_ (by first | omega | (simp; try omega)) _ | refine Below.alloc ?_ (by first | omega | (simp; try omega)) _ | refine Below.drew ?_ | refine bDN ?_ | refine bthen ?_ (by assumption)))⟩
  rw [szR_ge hl2]
  go_wp2_with fail
  refine (szInt64SS_any _ (hx1.below (by repeat (first | exact Below.refl _ _ | exact bA | assumption | refine Below.setCell ?_ (by first | omega | (simp; try omega)) _ | refine Below.alloc ?_ (by first | omega | (simp; try omega)) _ | refine Below.drew ?_ | refine bDN ?_ | refine bthen ?_ (by assumption)))) _ (by omega) (by omega)).mono ?_
  rintro e w2 ⟨rfl, hb2⟩
  have gw2 : Below w1.heap.size w1 w2 := bthen (by repeat (first | exact Below.refl _ _ | exact bA | assumption | refine Below.setCell ?_ (by first | omega | (simp; try omega)) _ | refine Below.alloc ?_ (by first | omega | (simp; try omega)) _ | refine Below.drew ?_ | refine bDN ?_ | refine bthen ?_ (by assumption))) hb2
  have sw2 : w1.heap.size + 0 ≤ w2.heap.size := by have := hb2.size; (try simp at this); omega
  have H_w2 : Below w.heap.size w w2 := bthen H_w1 gw2
  have f4 : w2.cell? ⟨w.heap.size, 0, none⟩ = some (.int .i64 x0.1) := (gw2.cell (by first | omega | (simp; try omega))).trans f1
  have f5 : w2.cell? ⟨w.heap.size, 1, none⟩ = some (u0) := (gw2.cell (by first | omega | (simp; try omega))).trans f2
  have z6 : w.heap.size < w2.heap.size := by omega
  clear hb2 H_w1 f1 f2 z3 gw2
  rcases ilt (1048576 - szTpl x0) (szRows x1) with hl5 | hl5
  · rw [szR_lt hl5]
    go_wp2_with fail
    go_ret
    exact ⟨rfl, (by repeat (first | exact Below.refl _ _ | exact bA | assumption | refine Below.setCell ?_ (by first | omega | (simp; try omega)) _ | refine Below.alloc ?_ (by first | omega | (simp; try omega)) _ | refine Below.drew ?_ | refine bDN ?_ | refine bthen ?_ (by assumption)))⟩
  rw [szR_ge hl5]
  go_wp2_with fail
  refine (toTemplate_any _ (hx0.below (by repeat (first | exact Below.refl _ _ | exact bA | assumption | refine Below.setCell ?_ (by first | omega | (simp; try omega)) _ | refine Below.alloc ?_ (by first | omega | (simp; try omega)) _ | refine Below.drew ?_ | refine bDN ?_ | refine bthen ?_ (by assumption)))) (by first | omega | (unfold szInts; omega))).mono ?_
  rintro e w3 ⟨cs, rfl, hc7, hb3⟩
  have gw3 : Below w2.heap.size w2 w3 := bthen (by repeat (first | exact Below.refl _ _ | exact bA | assumption | refine Below.setCell ?_ (by first | omega | (simp; try omega)) _ | refine Below.alloc ?_ (by first | omega | (simp; try omega)) _ | refine Below.drew ?_ | refine bDN ?_ | refine bthen ?_ (by assumption))) hb3
  have sw3 : w2.heap.size + 0 ≤ w3.heap.size := by have := hb3.size; (try simp at this); omega
  have H_w3 : Below w.heap.size w w3 := bthen H_w2 gw3
  have f8 : w3.cell? ⟨w.heap.size, 0, none⟩ = some (.int .i64 x0.1) := (gw3.cell (by first | omega | (simp; try omega))).trans f4
  have f9 : w3.cell? ⟨w.heap.size, 1, none⟩ = some (u0) := (gw3.cell (by first | omega | (simp; try omega))).trans f5
  have z10 : w.heap.size < w3.heap.size := by omega
  clear hb3 H_w2 f4 f5 z6 gw3
  obtain ⟨ad11, ad11', rfl⟩ := fr_pair hc7
  have d12 : tplT.Fx w2.heap.size w3.heap.size w3 [.int .i64 x0.1, .slice ad11 x0.2.length ad11'] x0 := (Ty.Fr.mono hc7 (by first | exact Nat.le_refl _ | (simp; try omega))).fx
  clear hc7
  go_wp2_with fail
  refine (toInt64SS_any _ (hx1.below (by repeat (first | exact Below.refl _ _ | exact bA | assumption | refine Below.setCell ?_ (by first | omega | (simp; try omega)) _ | refine Below.alloc ?_ (by first | omega | (simp; try omega)) _ | refine Below.drew ?_ | refine bDN ?_ | refine bthen ?_ (by assumption)))) (by first | omega | (unfold szInts; omega))).mono ?_
  rintro e w4 ⟨cs, rfl, hc14, hb4⟩
  have gw4 : Below w3.heap.size w3 w4 := bthen (by repeat (first | exact Below.refl _ _ | exact bA | assumption | refine Below.setCell ?_ (by first | omega | (simp; try omega)) _ | refine Below.alloc ?_ (by first | omega | (simp; try omega)) _ | refine Below.drew ?_ | refine bDN ?_ | refine bthen ?_ (by assumption))) hb4
  have sw4 : w3.heap.size + 0 ≤ w4.heap.size := by have := hb4.size; (try simp at this); omega
  have H_w4 : Below w.heap.size w w4 := bthen H_w3 gw4
  have f15 : w4.cell? ⟨w.heap.size, 0, none⟩ = some (.int .i64 x0.1) := (gw4.cell (by first | omega | (simp; try omega))).trans f8
  have f16 : w4.cell? ⟨w.heap.size, 1, none⟩ = some (u0) := (gw4.cell (by first | omega | (simp; try omega))).trans f9
  have z17 : w.heap.size < w4.heap.size := by omega
  have d18 : tplT.Fx w2.heap.size w3.heap.size w4 [.int .i64 x0.1, .slice ad11 x0.2.length ad11'] x0 := d12.below gw4
  clear hb4 H_w3 f8 f9 d12 z10 gw4
  obtain ⟨ad19, ad19', rfl⟩ := fr_slice hc14
  have d20 : rowsT.Fx w3.heap.size w4.heap.size w4 [.slice ad19 x1.length ad19'] x1 := (Ty.Fr.mono hc14 (by first | exact Nat.le_refl _ | (simp; try omega))).fx
  clear hc14
  go_wp2_with fail
  have hcr1 : cntRel (hofV x0 x1) ≤ 1000000000 := (Int.le_trans hof_cnt (by omega))
  have hcrz1 : 0 ≤ cntRel (hofV x0 x1) := cntRows_nn _
  refine (specHullOf_any _ (d18.rd.below (by repeat (first | exact Below.refl _ _ | exact bA | assumption | refine Below.setCell ?_ (by first | omega | (simp; try omega)) _ | refine Below.alloc ?_ (by first | omega | (simp; try omega)) _ | refine Below.drew ?_ | refine bDN ?_ | refine bthen ?_ (by assumption)))) (d20.rd.below (by repeat (first | exact Below.refl _ _ | exact bA | assumption | refine Below.setCell ?_ (by first | omega | (simp; try omega)) _ | refine Below.alloc ?_ (by first | omega | (simp; try omega)) _ | refine Below.drew ?_ | refine bDN ?_ | refine bthen ?_ (by assumption))))).mono ?_
  rintro e w5 ⟨cs, rfl, hc22, hb5⟩
  have gw5 : Below w4.heap.size w4 w5 := bthen (by repeat (first | exact Below.refl _ _ | exact bA | assumption | refine Below.setCell ?_ (by first | omega | (simp; try omega)) _ | refine Below.alloc ?_ (by first | omega | (simp; try omega)) _ | refine Below.drew ?_ | refine bDN ?_ | refine bthen ?_ (by assumption))) hb5
  have sw5 : w4.heap.size + 0 ≤ w5.heap.size := by have := hb5.size; (try simp at this); omega
  have H_w5 : Below w.heap.size w w5 := bthen H_w4 gw5
  have f23 : w5.cell? ⟨w.heap.size, 0, none⟩ = some (.int .i64 x0.1) := (gw5.cell (by first | omega | (simp; try omega))).trans f15
  have f24 : w5.cell? ⟨w.heap.size, 1, none⟩ = some (u0) := (gw5.cell (by first | omega | (simp; try omega))).trans f16
  have z25 : w.heap.size < w5.heap.size := by omega
  have d26 : tplT.Fx w2.heap.size w3.heap.size w5 [.int .i64 x0.1, .slice ad11 x0.2.length ad11'] x0 := d18.below gw5
  have d27 : rowsT.Fx w3.heap.size w4.heap.size w5 [.slice ad19 x1.length ad19'] x1 := d20.below gw5
  clear hb5 H_w4 f15 f16 d18 d20 z17 gw5
  obtain ⟨ad28, ad28', rfl⟩ := fr_pair hc22
  have d29 : relT.Fx w4.heap.size w5.heap.size w5 [.int .i64 (hofV x0 x1).1, .slice ad28 (hofV x0 x1).2.length ad28'] (hofV x0 x1) := (Ty.Fr.mono hc22 (by first | exact Nat.le_refl _ | (simp; try omega))).fx
  clear hc22
  go_wp2_with fail
  refine (toTemplate_any _ (hx0.below (by repeat (first | exact Below.refl _ _ | exact bA | assumption | refine Below.setCell ?_ (by first | omega | (simp; try omega)) _ | refine Below.alloc ?_ (by first | omega | (simp; try omega)) _ | refine Below.drew ?_ | refine bDN ?_ | refine bthen ?_ (by assumption)))) (by first | omega | (unfold szInts; omega))).mono ?_
  rintro e w6 ⟨cs, rfl, hc31, hb6⟩
  have gw6 : Below w5.heap.size w5 w6 := bthen (by repeat (first | exact Below.refl _ _ | exact bA | assumption | refine Below.setCell ?_ (by first | omega | (simp; try omega)) _ | refine Below.alloc ?_ (by first | omega | (simp; try omega)) _ | refine Below.drew ?_ | refine bDN ?_ | refine bthen ?_ (by assumption))) hb6
  have sw6 : w5.heap.size + 1 ≤ w6.heap.size := by have := hb6.size; (try simp at this); omega
  have H_w6 : Below w.heap.size w w6 := bthen H_w5 gw6
  have f32 : w6.cell? ⟨w.heap.size, 0, none⟩ = some (.int .i64 x0.1) := (gw6.cell (by first | omega | (simp; try omega))).trans f23
  have f33 : w6.cell? ⟨w.heap.size, 1, none⟩ = some (u0) := (gw6.cell (by first | omega | (simp; try omega))).trans f24
  have f34 : w6.cell? ⟨w5.heap.size, 0, none⟩ = some (.int .i64 (hofV x0 x1).1) := by rw [(bcell hb6).1 _ _ (by first | omega | (simp; try omega))]; first | (simp; done) | simp [go_sem]
  have f35 : w6.cell? ⟨w5.heap.size, 1, none⟩ = some (.slice ad28 (hofV x0 x1).2.length ad28') := by rw [(bcell hb6).1 _ _ (by first | omega | (simp; try omega))]; first | (simp; done) | simp [go_sem]
  have z36 : w.heap.size < w6.heap.size := by omega
  have z37 : w5.heap.size < w6.heap.size := by omega
  have d38 : tplT.Fx w2.heap.size w3.heap.size w6 [.int .i64 x0.1, .slice ad11 x0.2.length ad11'] x0 := d26.below gw6
  have d39 : rowsT.Fx w3.heap.size w4.heap.size w6 [.slice ad19 x1.length ad19'] x1 := d27.below gw6
  have d40 : relT.Fx w4.heap.size w5.heap.size w6 [.int .i64 (hofV x0 x1).1, .slice ad28 (hofV x0 x1).2.length ad28'] (hofV x0 x1) := d29.below gw6
  clear hb6 H_w5 f23 f24 d26 d27 d29 z25 gw6
  obtain ⟨ad41, ad41', rfl⟩ := fr_pair hc31
  have d42 : tplT.Fx (w5.heap.size + 1) w6.heap.size w6 [.int .i64 x0.1, .slice ad41 x0.2.length ad41'] x0 := (Ty.Fr.mono hc31 (by first | exact Nat.le_refl _ | (simp; try omega))).fx
  clear hc31
  go_wp2_with fail
  refine (toInt64SS_any _ (hx1.below (by repeat (first | exact Below.refl _ _ | exact bA | assumption | refine Below.setCell ?_ (by first | omega | (simp; try omega)) _ | refine Below.alloc ?_ (by first | omega | (simp; try omega)) _ | refine Below.drew ?_ | refine bDN ?_ | refine bthen ?_ (by assumption)))) (by first | omega | (unfold szInts; omega))).mono ?_
  rintro e w7 ⟨cs, rfl, hc44, hb7⟩
  have gw7 : Below w6.heap.size w6 w7 := bthen (by repeat (first | exact Below.refl _ _ | exact bA | assumption | refine Below.setCell ?_ (by first | omega | (simp; try omega)) _ | refine Below.alloc ?_ (by first | omega | (simp; try omega)) _ | refine Below.drew ?_ | refine bDN ?_ | refine bthen ?_ (by assumption))) hb7
  have sw7 : w6.heap.size + 1 ≤ w7.heap.size := by have := hb7.size; (try simp at this); omega
  have H_w7 : Below w.heap.size w w7 := bthen H_w6 gw7
  have f45 : w7.cell? ⟨w.heap.size, 0, none⟩ = some (.int .i64 x0.1) := (gw7.cell (by first | omega | (simp; try omega))).trans f32
  have f46 : w7.cell? ⟨w.heap.size, 1, none⟩ = some (u0) := (gw7.cell (by first | omega | (simp; try omega))).trans f33
  have f47 : w7.cell? ⟨w5.heap.size, 0, none⟩ = some (.int .i64 (hofV x0 x1).1) := (gw7.cell (by first | omega | (simp; try omega))).trans f34
  have f48 : w7.cell? ⟨w5.heap.size, 1, none⟩ = some (.slice ad28 (hofV x0 x1).2.length ad28') := (gw7.cell (by first | omega | (simp; try omega))).trans f35
  have f49 : w7.cell? ⟨w6.heap.size, 0, none⟩ = some (.int .i64 x0.1) := by rw [(bcell hb7).1 _ _ (by first | omega | (simp; try omega))]; first | (simp; done) | simp [go_sem]
  have f50 : w7.cell? ⟨w6.heap.size, 1, none⟩ = some (.slice ad41 x0.2.length ad41') := by rw [(bcell hb7).1 _ _ (by first | omega | (simp; try omega))]; first | (simp; done) | simp [go_sem]
  have z51 : w.heap.size < w7.heap.size := by omega
  have z52 : w5.heap.size < w7.heap.size := by omega
  have z53 : w6.heap.size < w7.heap.size := by omega
  have d54 : tplT.Fx w2.heap.size w3.heap.size w7 [.int .i64 x0.1, .slice ad11 x0.2.length ad11'] x0 := d38.below gw7
  have d55 : rowsT.Fx w3.heap.size w4.heap.size w7 [.slice ad19 x1.length ad19'] x1 := d39.below gw7
  have d56 : relT.Fx w4.heap.size w5.heap.size w7 [.int .i64 (hofV x0 x1).1, .slice ad28 (hofV x0 x1).2.length ad28'] (hofV x0 x1) := d40.below gw7
  have d57 : tplT.Fx (w5.heap.size + 1) w6.heap.size w7 [.int .i64 x0.1, .slice ad41 x0.2.length ad41'] x0 := d42.below gw7
  clear hb7 H_w6 f32 f33 f34 f35 d38 d39 d40 d42 z36 z37 gw7
  obtain ⟨ad58, ad58', rfl⟩ := fr_slice hc44
  have d59 : rowsT.Fx (w6.heap.size + 1) w7.heap.size w7 [.slice ad58 x1.length ad58'] x1 := (Ty.Fr.mono hc44 (by first | exact Nat.le_refl _ | (simp; try omega))).fx
  clear hc44
  go_wp2_with fail
  refine (HullOf_any _ (d57.rd.below (by repeat (first | exact Below.refl _ _ | exact bA | assumption | refine Below.setCell ?_ (by first | omega | (simp; try omega)) _ | refine Below.alloc ?_ (by first | omega | (simp; try omega)) _ | refine Below.drew ?_ | refine bDN ?_ | refine bthen ?_ (by assumption)))) (d59.rd.below (by repeat (first | exact Below.refl _ _ | exact bA | assumption | refine Below.setCell ?_ (by first | omega | (simp; try omega)) _ | refine Below.alloc ?_ (by first | omega | (simp; try omega)) _ | refine Below.drew ?_ | refine bDN ?_ | refine bthen ?_ (by assumption))))).mono ?_
  rintro e w8 ⟨cs, rfl, hc61, hb8⟩
  have gw8 : Below w7.heap.size w7 w8 := bthen (by repeat (first | exact Below.refl _ _ | exact bA | assumption | refine Below.setCell ?_ (by first | omega | (simp; try omega)) _ | refine Below.alloc ?_ (by first | omega | (simp; try omega)) _ | refine Below.drew ?_ | refine bDN ?_ | refine bthen ?_ (by assumption))) hb8
  have sw8 : w7.heap.size + 0 ≤ w8.heap.size := by have := hb8.size; (try simp at this); omega
  have H_w8 : Below w.heap.size w w8 := bthen H_w7 gw8
  have f62 : w8.cell? ⟨w.heap.size, 0, none⟩ = some (.int .i64 x0.1) := (gw8.cell (by first | omega | (simp; try omega))).trans f45
  have f63 : w8.cell? ⟨w.heap.size, 1, none⟩ = some (u0) := (gw8.cell (by first | omega | (simp; try omega))).trans f46
  have f64 : w8.cell? ⟨w5.heap.size, 0, none⟩ = some (.int .i64 (hofV x0 x1).1) := (gw8.cell (by first | omega | (simp; try omega))).trans f47
  have f65 : w8.cell? ⟨w5.heap.size, 1, none⟩ = some (.slice ad28 (hofV x0 x1).2.length ad28') := (gw8.cell (by first | omega | (simp; try omega))).trans f48
  have f66 : w8.cell? ⟨w6.heap.size, 0, none⟩ = some (.int .i64 x0.1) := (gw8.cell (by first | omega | (simp; try omega))).trans f49
  have f67 : w8.cell? ⟨w6.heap.size, 1, none⟩ = some (.slice ad41 x0.2.length ad41') := (gw8.cell (by first | omega | (simp; try omega))).trans f50
  have z68 : w.heap.size < w8.heap.size := by omega
  have z69 : w5.heap.size < w8.heap.size := by omega
  have z70 : w6.heap.size < w8.heap.size := by omega
  have d71 : tplT.Fx w2.heap.size w3.heap.size w8 [.int .i64 x0.1, .slice ad11 x0.2.length ad11'] x0 := d54.below gw8
  have d72 : rowsT.Fx w3.heap.size w4.heap.size w8 [.slice ad19 x1.length ad19'] x1 := d55.below gw8
  have d73 : relT.Fx w4.heap.size w5.heap.size w8 [.int .i64 (hofV x0 x1).1, .slice ad28 (hofV x0 x1).2.length ad28'] (hofV x0 x1) := d56.below gw8
  have d74 : tplT.Fx (w5.heap.size + 1) w6.heap.size w8 [.int .i64 x0.1, .slice ad41 x0.2.length ad41'] x0 := d57.below gw8
  have d75 : rowsT.Fx (w6.heap.size + 1) w7.heap.size w8 [.slice ad58 x1.length ad58'] x1 := d59.below gw8
  clear hb8 H_w7 f45 f46 f47 f48 f49 f50 d54 d55 d56 d57 d59 z51 z52 z53 gw8
  obtain ⟨ad76, ad76', rfl⟩ := fr_pair hc61
  have d77 : relT.Fx w7.heap.size w8.heap.size w8 [.int .i64 (hofV x0 x1).1, .slice ad76 (hofV x0 x1).2.length ad76'] (hofV x0 x1) := (Ty.Fr.mono hc61 (by first | exact Nat.le_refl _ | (simp; try omega))).fx
  clear hc61
  go_wp2_with fail
  refine (eqRel_any _ (d77.rd.below (by repeat (first | exact Below.refl _ _ | exact bA | assumption | refine Below.setCell ?_ (by first | omega | (simp; try omega)) _ | refine Below.alloc ?_ (by first | omega | (simp; try omega)) _ | refine Below.drew ?_ | refine bDN ?_ | refine bthen ?_ (by assumption)))) (d73.rd.below (by repeat (first | exact Below.refl _ _ | exact bA | assumption | refine Below.setCell ?_ (by first | omega | (simp; try omega)) _ | refine Below.alloc ?_ (by first | omega | (simp; try omega)) _ | refine Below.drew ?_ | refine bDN ?_ | refine bthen ?_ (by assumption))))).mono ?_
  rintro e w9 ⟨rfl, hb9⟩
  have gw9 : Below w8.heap.size w8 w9 := bthen (by repeat (first | exact Below.refl _ _ | exact bA | assumption | refine Below.setCell ?_ (by first | omega | (simp; try omega)) _ | refine Below.alloc ?_ (by first | omega | (simp; try omega)) _ | refine Below.drew ?_ | refine bDN ?_ | refine bthen ?_ (by assumption))) hb9
  have sw9 : w8.heap.size + 1 ≤ w9.heap.size := by have := hb9.size; (try simp at this); omega
  have H_w9 : Below w.heap.size w w9 := bthen H_w8 gw9
  have f79 : w9.cell? ⟨w.heap.size, 0, none⟩ = some (.int .i64 x0.1) := (gw9.cell (by first | omega | (simp; try omega))).trans f62
  have f80 : w9.cell? ⟨w.heap.size, 1, none⟩ = some (u0) := (gw9.cell (by first | omega | (simp; try omega))).trans f63
  have f81 : w9.cell? ⟨w5.heap.size, 0, none⟩ = some (.int .i64 (hofV x0 x1).1) := (gw9.cell (by first | omega | (simp; try omega))).trans f64
  have f82 : w9.cell? ⟨w5.heap.size, 1, none⟩ = some (.slice ad28 (hofV x0 x1).2.length ad28') := (gw9.cell (by first | omega | (simp; try omega))).trans f65
  have f83 : w9.cell? ⟨w6.heap.size, 0, none⟩ = some (.int .i64 x0.1) := (gw9.cell (by first | omega | (simp; try omega))).trans f66
  have f84 : w9.cell? ⟨w6.heap.size, 1, none⟩ = some (.slice ad41 x0.2.length ad41') := (gw9.cell (by first | omega | (simp; try omega))).trans f67
  have f85 : w9.cell? ⟨w8.heap.size, 0, none⟩ = some (.int .i64 (hofV x0 x1).1) := by rw [(bcell hb9).1 _ _ (by first | omega | (simp; try omega))]; first | (simp; done) | simp [go_sem]
  have f86 : w9.cell? ⟨w8.heap.size, 1, none⟩ = some (.slice ad76 (hofV x0 x1).2.length ad76') := by rw [(bcell hb9).1 _ _ (by first | omega | (simp; try omega))]; first | (simp; done) | simp [go_sem]
  have z87 : w.heap.size < w9.heap.size := by omega
  have z88 : w5.heap.size < w9.heap.size := by omega
  have z89 : w6.heap.size < w9.heap.size := by omega
  have z90 : w8.heap.size < w9.heap.size := by omega
  have d91 : tplT.Fx w2.heap.size w3.heap.size w9 [.int .i64 x0.1, .slice ad11 x0.2.length ad11'] x0 := d71.below gw9
  have d92 : rowsT.Fx w3.heap.size w4.heap.size w9 [.slice ad19 x1.length ad19'] x1 := d72.below gw9
  have d93 : relT.Fx w4.heap.size w5.heap.size w9 [.int .i64 (hofV x0 x1).1, .slice ad28 (hofV x0 x1).2.length ad28'] (hofV x0 x1) := d73.below gw9
  have d94 : tplT.Fx (w5.heap.size + 1) w6.heap.size w9 [.int .i64 x0.1, .slice ad41 x0.2.length ad41'] x0 := d74.below gw9
  have d95 : rowsT.Fx (w6.heap.size + 1) w7.heap.size w9 [.slice ad58 x1.length ad58'] x1 := d75.below gw9
  have d96 : relT.Fx w7.heap.size w8.heap.size w9 [.int .i64 (hofV x0 x1).1, .slice ad76 (hofV x0 x1).2.length ad76'] (hofV x0 x1) := d77.below gw9
  clear hb9 H_w8 f62 f63 f64 f65 f66 f67 d71 d72 d73 d74 d75 d77 z68 z69 z70 gw9
  rw [eqB_true rfl]
  go_wp2_with fail
  refine wp_region_loose [exV (.agg #[.int .i64 x0.1, .slice ad41 x0.2.length ad41']), exV (.agg #[.int .i64 x0.1, u0]), rdA tplT x0, exV (.bool true), exV (.bool false)] (by kernel_rfl) (by kernel_rfl) ⟨st_exV, st_exV, st_rdA, st_exV, st_exV, trivial⟩ ⟨?j14_0, ?j14_1, ?j14_2, ?j14_3, ?j14_4, trivial⟩ ?hQ14
  case j14_0 =>
    intro a' w' hb hd
    have e0 : a'.tmps[8]?.getD undef = .pointer (some ⟨w6.heap.size, 0, none⟩) := ev (slot_o hd 8 rfl rfl)
    have q : ∀ b o, b < w9.heap.size → w'.cell? ⟨b, o, none⟩ = w9.cell? ⟨b, o, none⟩ := (bcell hb).1
    go_simp
    exact ⟨Below.refl _ _, rfl⟩
  case j14_1 =>
    intro a' w' hb hd
    have e0 : a'.tmps[2]?.getD undef = .pointer (some ⟨w.heap.size, 0, none⟩) := ev (slot_o hd 2 rfl rfl)
    have q : ∀ b o, b < w9.heap.size → w'.cell? ⟨b, o, none⟩ = w9.cell? ⟨b, o, none⟩ := (bcell hb).1
    go_simp
    exact ⟨Below.refl _ _, rfl⟩
  case j14_2 =>
    intro a' w' hb hd
    have e55 : a'.tmps[55]?.getD undef = .agg #[.int .i64 x0.1, u0] := ev (slot_w hd 55 (exV (.agg #[.int .i64 x0.1, u0])) rfl rfl)
    have r55 : tplT.Rd w9 (#[.int .i64 x0.1, u0] : Array Value).toList x0 := hx0.below H_w9
    have r55' := r55.below hb
    go_simp
    exact ⟨Below.refl _ _, (toTemplate_any w' r55' (by first | omega | (unfold szInts; omega))).mono fun e w'' ⟨cs, he, hf, hb⟩ => ⟨_, he, hb, cs, rfl, hf.rd⟩⟩
  case j14_3 =>
    intro a' w' hb hd
    have e54 : a'.tmps[54]?.getD undef = .agg #[.int .i64 x0.1, .slice ad41 x0.2.length ad41'] := ev (slot_w hd 54 (exV (.agg #[.int .i64 x0.1, .slice ad41 x0.2.length ad41'])) rfl rfl)
    have r54 : tplT.Rd w9 (#[.int .i64 x0.1, .slice ad41 x0.2.length ad41'] : Array Value).toList x0 := d94.rd
    have r54' := r54.below hb
    have d56 := slot_w hd 56 (rdA tplT x0) rfl rfl
    obtain ⟨cs56, e56, hf56⟩ := d56
    have e56' := ev e56
    go_simp
    exact ⟨Below.refl _ _, (eqTemplate_any w' r54' hf56).mono fun e w'' ⟨he, hb⟩ => ⟨_, he, hb, exV_eqB⟩⟩
  case j14_4 =>
    intro a' w' hb hd
    have e0 : a'.tmps[57]?.getD undef = .bool true := ev (slot_w hd 57 (exV (.bool true)) rfl rfl)
    go_simp
    exact ⟨Below.refl _ _, rfl⟩
  intro vs14 w10 hb10 H0
  obtain ⟨v14_0, _, rfl, p0, H1⟩ := HAll_cons H0
  obtain ⟨v14_1, _, rfl, p1, H2⟩ := HAll_cons H1
  obtain ⟨v14_2, _, rfl, p2, H3⟩ := HAll_cons H2
  obtain ⟨v14_3, _, rfl, p3, H4⟩ := HAll_cons H3
  obtain ⟨v14_4, _, rfl, p4, H5⟩ := HAll_cons H4
  obtain rfl := HAll_nil H5
  obtain rfl := p0 rfl
  obtain rfl := p1 rfl
  obtain rfl := p3 rfl
  obtain rfl := p4 rfl
  clear p0 p1 p2 p3 p4 H0 H1 H2 H3 H4 H5
  have gw10 : Below w9.heap.size w9 w10 := bthen (by repeat (first | exact Below.refl _ _ | exact bA | assumption | refine Below.setCell ?_ (by first | omega | (simp; try omega)) _ | refine Below.alloc ?_ (by first | omega | (simp; try omega)) _ | refine Below.drew ?_ | refine bDN ?_ | refine bthen ?_ (by assumption))) hb10
  have sw10 : w9.heap.size + 0 ≤ w10.heap.size := by have := hb10.size; (try simp at this); omega
  have H_w10 : Below w.heap.size w w10 := bthen H_w9 gw10
  have f97 : w10.cell? ⟨w.heap.size, 0, none⟩ = some (.int .i64 x0.1) := (gw10.cell (by first | omega | (simp; try omega))).trans f79
  have f98 : w10.cell? ⟨w.heap.size, 1, none⟩ = some (u0) := (gw10.cell (by first | omega | (simp; try omega))).trans f80
  have f99 : w10.cell? ⟨w5.heap.size, 0, none⟩ = some (.int .i64 (hofV x0 x1).1) := (gw10.cell (by first | omega | (simp; try omega))).trans f81
  have f100 : w10.cell? ⟨w5.heap.size, 1, none⟩ = some (.slice ad28 (hofV x0 x1).2.length ad28') := (gw10.cell (by first | omega | (simp; try omega))).trans f82
  have f101 : w10.cell? ⟨w6.heap.size, 0, none⟩ = some (.int .i64 x0.1) := (gw10.cell (by first | omega | (simp; try omega))).trans f83
  have f102 : w10.cell? ⟨w6.heap.size, 1, none⟩ = some (.slice ad41 x0.2.length ad41') := (gw10.cell (by first | omega | (simp; try omega))).trans f84
  have f103 : w10.cell? ⟨w8.heap.size, 0, none⟩ = some (.int .i64 (hofV x0 x1).1) := (gw10.cell (by first | omega | (simp; try omega))).trans f85
  have f104 : w10.cell? ⟨w8.heap.size, 1, none⟩ = some (.slice ad76 (hofV x0 x1).2.length ad76') := (gw10.cell (by first | omega | (simp; try omega))).trans f86
  have z105 : w.heap.size < w10.heap.size := by omega
  have z106 : w5.heap.size < w10.heap.size := by omega
  have z107 : w6.heap.size < w10.heap.size := by omega
  have z108 : w8.heap.size < w10.heap.size := by omega
  have d109 : tplT.Fx w2.heap.size w3.heap.size w10 [.int .i64 x0.1, .slice ad11 x0.2.length ad11'] x0 := d91.below gw10
  have d110 : rowsT.Fx w3.heap.size w4.heap.size w10 [.slice ad19 x1.length ad19'] x1 := d92.below gw10
  have d111 : relT.Fx w4.heap.size w5.heap.size w10 [.int .i64 (hofV x0 x1).1, .slice ad28 (hofV x0 x1).2.length ad28'] (hofV x0 x1) := d93.below gw10
  have d112 : tplT.Fx (w5.heap.size + 1) w6.heap.size w10 [.int .i64 x0.1, .slice ad41 x0.2.length ad41'] x0 := d94.below gw10
  have d113 : rowsT.Fx (w6.heap.size + 1) w7.heap.size w10 [.slice ad58 x1.length ad58'] x1 := d95.below gw10
  have d114 : relT.Fx w7.heap.size w8.heap.size w10 [.int .i64 (hofV x0 x1).1, .slice ad76 (hofV x0 x1).2.length ad76'] (hofV x0 x1) := d96.below gw10
  clear hb10 H_w9 f79 f80 f81 f82 f83 f84 f85 f86 d91 d92 d93 d94 d95 d96 z87 z88 z89 z90 gw10
  simp only [putAll, Act.put]
  go_simp
  go_wp2_with fail
  refine (toInt64SS_any _ (hx1.below (by repeat (first | exact Below.refl _ _ | exact bA | assumption | refine Below.setCell ?_ (by first | omega | (simp; try omega)) _ | refine Below.alloc ?_ (by first | omega | (simp; try omega)) _ | refine Below.drew ?_ | refine bDN ?_ | refine bthen ?_ (by assumption)))) (by first | omega | (unfold szInts; omega))).mono ?_
  rintro e w11 ⟨cs, rfl, hc115, hb11⟩
  have gw11 : Below w10.heap.size w10 w11 := bthen (by repeat (first | exact Below.refl _ _ | exact bA | assumption | refine Below.setCell ?_ (by first | omega | (simp; try omega)) _ | refine Below.alloc ?_ (by first | omega | (simp; try omega)) _ | refine Below.drew ?_ | refine bDN ?_ | refine bthen ?_ (by assumption))) hb11
  have sw11 : w10.heap.size + 0 ≤ w11.heap.size := by have := hb11.size; (try simp at this); omega
  have H_w11 : Below w.heap.size w w11 := bthen H_w10 gw11
  have f116 : w11.cell? ⟨w.heap.size, 0, none⟩ = some (.int .i64 x0.1) := (gw11.cell (by first | omega | (simp; try omega))).trans f97
  have f117 : w11.cell? ⟨w.heap.size, 1, none⟩ = some (u0) := (gw11.cell (by first | omega | (simp; try omega))).trans f98
  have f118 : w11.cell? ⟨w5.heap.size, 0, none⟩ = some (.int .i64 (hofV x0 x1).1) := (gw11.cell (by first | omega | (simp; try omega))).trans f99
  have f119 : w11.cell? ⟨w5.heap.size, 1, none⟩ = some (.slice ad28 (hofV x0 x1).2.length ad28') := (gw11.cell (by first | omega | (simp; try omega))).trans f100
  have f120 : w11.cell? ⟨w6.heap.size, 0, none⟩ = some (.int .i64 x0.1) := (gw11.cell (by first | omega | (simp; try omega))).trans f101
  have f121 : w11.cell? ⟨w6.heap.size, 1, none⟩ = some (.slice ad41 x0.2.length ad41') := (gw11.cell (by first | omega | (simp; try omega))).trans f102
  have f122 : w11.cell? ⟨w8.heap.size, 0, none⟩ = some (.int .i64 (hofV x0 x1).1) := (gw11.cell (by first | omega | (simp; try omega))).trans f103
  have f123 : w11.cell? ⟨w8.heap.size, 1, none⟩ = some (.slice ad76 (hofV x0 x1).2.length ad76') := (gw11.cell (by first | omega | (simp; try omega))).trans f104
  have z124 : w.heap.size < w11.heap.size := by omega
  have z125 : w5.heap.size < w11.heap.size := by omega
  have z126 : w6.heap.size < w11.heap.size := by omega
  have z127 : w8.heap.size < w11.heap.size := by omega
  have d128 : tplT.Fx w2.heap.size w3.heap.size w11 [.int .i64 x0.1, .slice ad11 x0.2.length ad11'] x0 := d109.below gw11
  have d129 : rowsT.Fx w3.heap.size w4.heap.size w11 [.slice ad19 x1.length ad19'] x1 := d110.below gw11
  have d130 : relT.Fx w4.heap.size w5.heap.size w11 [.int .i64 (hofV x0 x1).1, .slice ad28 (hofV x0 x1).2.length ad28'] (hofV x0 x1) := d111.below gw11
  have d131 : tplT.Fx (w5.heap.size + 1) w6.heap.size w11 [.int .i64 x0.1, .slice ad41 x0.2.length ad41'] x0 := d112.below gw11
  have d132 : rowsT.Fx (w6.heap.size + 1) w7.heap.size w11 [.slice ad58 x1.length ad58'] x1 := d113.below gw11
  have d133 : relT.Fx w7.heap.size w8.heap.size w11 [.int .i64 (hofV x0 x1).1, .slice ad76 (hofV x0 x1).2.length ad76'] (hofV x0 x1) := d114.below gw11
  clear hb11 H_w10 f97 f98 f99 f100 f101 f102 f103 f104 d109 d110 d111 d112 d113 d114 z105 z106 z107 z108 gw11
  obtain ⟨ad134, ad134', rfl⟩ := fr_slice hc115
  have d135 : rowsT.Fx w10.heap.size w11.heap.size w11 [.slice ad134 x1.length ad134'] x1 := (Ty.Fr.mono hc115 (by first | exact Nat.le_refl _ | (simp; try omega))).fx
  clear hc115
  go_wp2_with fail
  refine (eqInt64SS_any _ (d132.rd.below (by repeat (first | exact Below.refl _ _ | exact bA | assumption | refine Below.setCell ?_ (by first | omega | (simp; try omega)) _ | refine Below.alloc ?_ (by first | omega | (simp; try omega)) _ | refine Below.drew ?_ | refine bDN ?_ | refine bthen ?_ (by assumption)))) (d135.rd.below (by repeat (first | exact Below.refl _ _ | exact bA | assumption | refine Below.setCell ?_ (by first | omega | (simp; try omega)) _ | refine Below.alloc ?_ (by first | omega | (simp; try omega)) _ | refine Below.drew ?_ | refine bDN ?_ | refine bthen ?_ (by assumption))))).mono ?_
  rintro e w12 ⟨rfl, hb12⟩
  have gw12 : Below w11.heap.size w11 w12 := bthen (by repeat (first | exact Below.refl _ _ | exact bA | assumption | refine Below.setCell ?_ (by first | omega | (simp; try omega)) _ | refine Below.alloc ?_ (by first | omega | (simp; try omega)) _ | refine Below.drew ?_ | refine bDN ?_ | refine bthen ?_ (by assumption))) hb12
  have sw12 : w11.heap.size + 0 ≤ w12.heap.size := by have := hb12.size; (try simp at this); omega
  have H_w12 : Below w.heap.size w w12 := bthen H_w11 gw12
  have f137 : w12.cell? ⟨w.heap.size, 0, none⟩ = some (.int .i64 x0.1) := (gw12.cell (by first | omega | (simp; try omega))).trans f116
  have f138 : w12.cell? ⟨w.heap.size, 1, none⟩ = some (u0) := (gw12.cell (by first | omega | (simp; try omega))).trans f117
  have f139 : w12.cell? ⟨w5.heap.size, 0, none⟩ = some (.int .i64 (hofV x0 x1).1) := (gw12.cell (by first | omega | (simp; try omega))).trans f118
  have f140 : w12.cell? ⟨w5.heap.size, 1, none⟩ = some (.slice ad28 (hofV x0 x1).2.length ad28') := (gw12.cell (by first | omega | (simp; try omega))).trans f119
  have f141 : w12.cell? ⟨w6.heap.size, 0, none⟩ = some (.int .i64 x0.1) := (gw12.cell (by first | omega | (simp; try omega))).trans f120
  have f142 : w12.cell? ⟨w6.heap.size, 1, none⟩ = some (.slice ad41 x0.2.length ad41') := (gw12.cell (by first | omega | (simp; try omega))).trans f121
  have f143 : w12.cell? ⟨w8.heap.size, 0, none⟩ = some (.int .i64 (hofV x0 x1).1) := (gw12.cell (by first | omega | (simp; try omega))).trans f122
  have f144 : w12.cell? ⟨w8.heap.size, 1, none⟩ = some (.slice ad76 (hofV x0 x1).2.length ad76') := (gw12.cell (by first | omega | (simp; try omega))).trans f123
  have z145 : w.heap.size < w12.heap.size := by omega
  have z146 : w5.heap.size < w12.heap.size := by omega
  have z147 : w6.heap.size < w12.heap.size := by omega
  have z148 : w8.heap.size < w12.heap.size := by omega
  have d149 : tplT.Fx w2.heap.size w3.heap.size w12 [.int .i64 x0.1, .slice ad11 x0.2.length ad11'] x0 := d128.below gw12
  have d150 : rowsT.Fx w3.heap.size w4.heap.size w12 [.slice ad19 x1.length ad19'] x1 := d129.below gw12
  have d151 : relT.Fx w4.heap.size w5.heap.size w12 [.int .i64 (hofV x0 x1).1, .slice ad28 (hofV x0 x1).2.length ad28'] (hofV x0 x1) := d130.below gw12
  have d152 : tplT.Fx (w5.heap.size + 1) w6.heap.size w12 [.int .i64 x0.1, .slice ad41 x0.2.length ad41'] x0 := d131.below gw12
  have d153 : rowsT.Fx (w6.heap.size + 1) w7.heap.size w12 [.slice ad58 x1.length ad58'] x1 := d132.below gw12
  have d154 : relT.Fx w7.heap.size w8.heap.size w12 [.int .i64 (hofV x0 x1).1, .slice ad76 (hofV x0 x1).2.length ad76'] (hofV x0 x1) := d133.below gw12
  have d155 : rowsT.Fx w10.heap.size w11.heap.size w12 [.slice ad134 x1.length ad134'] x1 := d135.below gw12
  clear hb12 H_w11 f116 f117 f118 f119 f120 f121 f122 f123 d128 d129 d130 d131 d132 d133 d135 z124 z125 z126 z127 gw12
  rw [eqB_true rfl]
  go_wp2_with fail
  refine (markTemplate_fx _ d152 _ (by omega) (by omega)).mono ?_
  rintro e w13 ⟨rfl, hb13, d156⟩
  clear d152
  have sw13 : w12.heap.size ≤ w13.heap.size := hb13.size
  have H_w13 : Below w.heap.size w w13 := below_tch H_w12 hb13 (by omega) (by omega)
  have f157 : w13.cell? ⟨w.heap.size, 0, none⟩ = some (.int .i64 x0.1) := (hb13.cell (by omega) (by omega)).trans f137
  have f158 : w13.cell? ⟨w.heap.size, 1, none⟩ = some (u0) := (hb13.cell (by omega) (by omega)).trans f138
  have f159 : w13.cell? ⟨w5.heap.size, 0, none⟩ = some (.int .i64 (hofV x0 x1).1) := (hb13.cell (by omega) (by omega)).trans f139
  have f160 : w13.cell? ⟨w5.heap.size, 1, none⟩ = some (.slice ad28 (hofV x0 x1).2.length ad28') := (hb13.cell (by omega) (by omega)).trans f140
  have f161 : w13.cell? ⟨w6.heap.size, 0, none⟩ = some (.int .i64 x0.1) := (hb13.cell (by omega) (by omega)).trans f141
  have f162 : w13.cell? ⟨w6.heap.size, 1, none⟩ = some (.slice ad41 x0.2.length ad41') := (hb13.cell (by omega) (by omega)).trans f142
  have f163 : w13.cell? ⟨w8.heap.size, 0, none⟩ = some (.int .i64 (hofV x0 x1).1) := (hb13.cell (by omega) (by omega)).trans f143
  have f164 : w13.cell? ⟨w8.heap.size, 1, none⟩ = some (.slice ad76 (hofV x0 x1).2.length ad76') := (hb13.cell (by omega) (by omega)).trans f144
  have z165 : w.heap.size < w13.heap.size := by omega
  have z166 : w5.heap.size < w13.heap.size := by omega
  have z167 : w6.heap.size < w13.heap.size := by omega
  have z168 : w8.heap.size < w13.heap.size := by omega
  have d169 : tplT.Fx w2.heap.size w3.heap.size w13 [.int .i64 x0.1, .slice ad11 x0.2.length ad11'] x0 := d149.tch hb13 (by omega)
  have d170 : rowsT.Fx w3.heap.size w4.heap.size w13 [.slice ad19 x1.length ad19'] x1 := d150.tch hb13 (by omega)
  have d171 : relT.Fx w4.heap.size w5.heap.size w13 [.int .i64 (hofV x0 x1).1, .slice ad28 (hofV x0 x1).2.length ad28'] (hofV x0 x1) := d151.tch hb13 (by omega)
  have d172 : rowsT.Fx (w6.heap.size + 1) w7.heap.size w13 [.slice ad58 x1.length ad58'] x1 := d153.tch hb13 (by omega)
  have d173 : relT.Fx w7.heap.size w8.heap.size w13 [.int .i64 (hofV x0 x1).1, .slice ad76 (hofV x0 x1).2.length ad76'] (hofV x0 x1) := d154.tch hb13 (by omega)
  have d174 : rowsT.Fx w10.heap.size w11.heap.size w13 [.slice ad134 x1.length ad134'] x1 := d155.tch hb13 (by omega)
  clear hb13 H_w12 f137 f138 f139 f140 f141 f142 f143 f144 d149 d150 d151 d153 d154 d155 z145 z146 z147 z148
  have hk175 : 0 ≤ (1 + cntTpl x0) := by omega
  go_wp2_with fail
  refine (markInt64SS_fx _ d172 _ (by omega) (by omega)).mono ?_
  rintro e w14 ⟨rfl, hb14, d176⟩
  clear d172
  have sw14 : w13.heap.size ≤ w14.heap.size := hb14.size
  have H_w14 : Below w.heap.size w w14 := below_tch H_w13 hb14 (by omega) (by omega)
  have f177 : w14.cell? ⟨w.heap.size, 0, none⟩ = some (.int .i64 x0.1) := (hb14.cell (by omega) (by omega)).trans f157
  have f178 : w14.cell? ⟨w.heap.size, 1, none⟩ = some (u0) := (hb14.cell (by omega) (by omega)).trans f158
  have f179 : w14.cell? ⟨w5.heap.size, 0, none⟩ = some (.int .i64 (hofV x0 x1).1) := (hb14.cell (by omega) (by omega)).trans f159
  have f180 : w14.cell? ⟨w5.heap.size, 1, none⟩ = some (.slice ad28 (hofV x0 x1).2.length ad28') := (hb14.cell (by omega) (by omega)).trans f160
  have f181 : w14.cell? ⟨w6.heap.size, 0, none⟩ = some (.int .i64 x0.1) := (hb14.cell (by omega) (by omega)).trans f161
  have f182 : w14.cell? ⟨w6.heap.size, 1, none⟩ = some (.slice ad41 x0.2.length ad41') := (hb14.cell (by omega) (by omega)).trans f162
  have f183 : w14.cell? ⟨w8.heap.size, 0, none⟩ = some (.int .i64 (hofV x0 x1).1) := (hb14.cell (by omega) (by omega)).trans f163
  have f184 : w14.cell? ⟨w8.heap.size, 1, none⟩ = some (.slice ad76 (hofV x0 x1).2.length ad76') := (hb14.cell (by omega) (by omega)).trans f164
  have z185 : w.heap.size < w14.heap.size := by omega
  have z186 : w5.heap.size < w14.heap.size := by omega
  have z187 : w6.heap.size < w14.heap.size := by omega
  have z188 : w8.heap.size < w14.heap.size := by omega
  have d189 : tplT.Fx w2.heap.size w3.heap.size w14 [.int .i64 x0.1, .slice ad11 x0.2.length ad11'] x0 := d169.tch hb14 (by omega)
  have d190 : rowsT.Fx w3.heap.size w4.heap.size w14 [.slice ad19 x1.length ad19'] x1 := d170.tch hb14 (by omega)
  have d191 : relT.Fx w4.heap.size w5.heap.size w14 [.int .i64 (hofV x0 x1).1, .slice ad28 (hofV x0 x1).2.length ad28'] (hofV x0 x1) := d171.tch hb14 (by omega)
  have d192 : tplT.Fx (w5.heap.size + 1) w6.heap.size w14 [.int .i64 x0.1, .slice ad41 x0.2.length ad41'] (mkTpl 1 x0) := d156.tch hb14 (by omega)
  have d193 : relT.Fx w7.heap.size w8.heap.size w14 [.int .i64 (hofV x0 x1).1, .slice ad76 (hofV x0 x1).2.length ad76'] (hofV x0 x1) := d173.tch hb14 (by omega)
  have d194 : rowsT.Fx w10.heap.size w11.heap.size w14 [.slice ad134 x1.length ad134'] x1 := d174.tch hb14 (by omega)
  clear hb14 H_w13 f157 f158 f159 f160 f161 f162 f163 f164 d169 d170 d171 d156 d173 d174 z165 z166 z167 z168
  have hk195 : 0 ≤ ((1 + cntTpl x0) + cntRows x1) := by omega
  go_wp2_with fail
  refine (eqRel_any _ (d193.rd.below (by repeat (first | exact Below.refl _ _ | exact bA | assumption | refine Below.setCell ?_ (by first | omega | (simp; try omega)) _ | refine Below.alloc ?_ (by first | omega | (simp; try omega)) _ | refine Below.drew ?_ | refine bDN ?_ | refine bthen ?_ (by assumption)))) (d191.rd.below (by repeat (first | exact Below.refl _ _ | exact bA | assumption | refine Below.setCell ?_ (by first | omega | (simp; try omega)) _ | refine Below.alloc ?_ (by first | omega | (simp; try omega)) _ | refine Below.drew ?_ | refine bDN ?_ | refine bthen ?_ (by assumption))))).mono ?_
  rintro e w15 ⟨rfl, hb15⟩
  have gw15 : Below w14.heap.size w14 w15 := bthen (by repeat (first | exact Below.refl _ _ | exact bA | assumption | refine Below.setCell ?_ (by first | omega | (simp; try omega)) _ | refine Below.alloc ?_ (by first | omega | (simp; try omega)) _ | refine Below.drew ?_ | refine bDN ?_ | refine bthen ?_ (by assumption))) hb15
  have sw15 : w14.heap.size + 0 ≤ w15.heap.size := by have := hb15.size; (try simp at this); omega
  have H_w15 : Below w.heap.size w w15 := bthen H_w14 gw15
  have f196 : w15.cell? ⟨w.heap.size, 0, none⟩ = some (.int .i64 x0.1) := (gw15.cell (by first | omega | (simp; try omega))).trans f177
  have f197 : w15.cell? ⟨w.heap.size, 1, none⟩ = some (u0) := (gw15.cell (by first | omega | (simp; try omega))).trans f178
  have f198 : w15.cell? ⟨w5.heap.size, 0, none⟩ = some (.int .i64 (hofV x0 x1).1) := (gw15.cell (by first | omega | (simp; try omega))).trans f179
  have f199 : w15.cell? ⟨w5.heap.size, 1, none⟩ = some (.slice ad28 (hofV x0 x1).2.length ad28') := (gw15.cell (by first | omega | (simp; try omega))).trans f180
  have f200 : w15.cell? ⟨w6.heap.size, 0, none⟩ = some (.int .i64 x0.1) := (gw15.cell (by first | omega | (simp; try omega))).trans f181
  have f201 : w15.cell? ⟨w6.heap.size, 1, none⟩ = some (.slice ad41 x0.2.length ad41') := (gw15.cell (by first | omega | (simp; try omega))).trans f182
  have f202 : w15.cell? ⟨w8.heap.size, 0, none⟩ = some (.int .i64 (hofV x0 x1).1) := (gw15.cell (by first | omega | (simp; try omega))).trans f183
  have f203 : w15.cell? ⟨w8.heap.size, 1, none⟩ = some (.slice ad76 (hofV x0 x1).2.length ad76') := (gw15.cell (by first | omega | (simp; try omega))).trans f184
  have z204 : w.heap.size < w15.heap.size := by omega
  have z205 : w5.heap.size < w15.heap.size := by omega
  have z206 : w6.heap.size < w15.heap.size := by omega
  have z207 : w8.heap.size < w15.heap.size := by omega
  have d208 : tplT.Fx w2.heap.size w3.heap.size w15 [.int .i64 x0.1, .slice ad11 x0.2.length ad11'] x0 := d189.below gw15
  have d209 : rowsT.Fx w3.heap.size w4.heap.size w15 [.slice ad19 x1.length ad19'] x1 := d190.below gw15
  have d210 : relT.Fx w4.heap.size w5.heap.size w15 [.int .i64 (hofV x0 x1).1, .slice ad28 (hofV x0 x1).2.length ad28'] (hofV x0 x1) := d191.below gw15
  have d211 : tplT.Fx (w5.heap.size + 1) w6.heap.size w15 [.int .i64 x0.1, .slice ad41 x0.2.length ad41'] (mkTpl 1 x0) := d192.below gw15
  have d212 : rowsT.Fx (w6.heap.size + 1) w7.heap.size w15 [.slice ad58 x1.length ad58'] (mkRows (1 + cntTpl x0) x1) := d176.below gw15
  have d213 : relT.Fx w7.heap.size w8.heap.size w15 [.int .i64 (hofV x0 x1).1, .slice ad76 (hofV x0 x1).2.length ad76'] (hofV x0 x1) := d193.below gw15
  have d214 : rowsT.Fx w10.heap.size w11.heap.size w15 [.slice ad134 x1.length ad134'] x1 := d194.below gw15
  clear hb15 H_w14 f177 f178 f179 f180 f181 f182 f183 f184 d189 d190 d191 d192 d176 d193 d194 z185 z186 z187 z188 gw15
  rw [eqB_true rfl]
  go_wp2_with fail
  refine (markRel_fx _ d213 _ (by omega) (by omega)).mono ?_
  rintro e w16 ⟨rfl, hb16, d215⟩
  clear d213
  have sw16 : w15.heap.size ≤ w16.heap.size := hb16.size
  have H_w16 : Below w.heap.size w w16 := below_tch H_w15 hb16 (by omega) (by omega)
  have f216 : w16.cell? ⟨w.heap.size, 0, none⟩ = some (.int .i64 x0.1) := (hb16.cell (by omega) (by omega)).trans f196
  have f217 : w16.cell? ⟨w.heap.size, 1, none⟩ = some (u0) := (hb16.cell (by omega) (by omega)).trans f197
  have f218 : w16.cell? ⟨w5.heap.size, 0, none⟩ = some (.int .i64 (hofV x0 x1).1) := (hb16.cell (by omega) (by omega)).trans f198
  have f219 : w16.cell? ⟨w5.heap.size, 1, none⟩ = some (.slice ad28 (hofV x0 x1).2.length ad28') := (hb16.cell (by omega) (by omega)).trans f199
  have f220 : w16.cell? ⟨w6.heap.size, 0, none⟩ = some (.int .i64 x0.1) := (hb16.cell (by omega) (by omega)).trans f200
  have f221 : w16.cell? ⟨w6.heap.size, 1, none⟩ = some (.slice ad41 x0.2.length ad41') := (hb16.cell (by omega) (by omega)).trans f201
  have f222 : w16.cell? ⟨w8.heap.size, 0, none⟩ = some (.int .i64 (hofV x0 x1).1) := (hb16.cell (by omega) (by omega)).trans f202
  have f223 : w16.cell? ⟨w8.heap.size, 1, none⟩ = some (.slice ad76 (hofV x0 x1).2.length ad76') := (hb16.cell (by omega) (by omega)).trans f203
  have z224 : w.heap.size < w16.heap.size := by omega
  have z225 : w5.heap.size < w16.heap.size := by omega
  have z226 : w6.heap.size < w16.heap.size := by omega
  have z227 : w8.heap.size < w16.heap.size := by omega
  have d228 : tplT.Fx w2.heap.size w3.heap.size w16 [.int .i64 x0.1, .slice ad11 x0.2.length ad11'] x0 := d208.tch hb16 (by omega)
  have d229 : rowsT.Fx w3.heap.size w4.heap.size w16 [.slice ad19 x1.length ad19'] x1 := d209.tch hb16 (by omega)
  have d230 : relT.Fx w4.heap.size w5.heap.size w16 [.int .i64 (hofV x0 x1).1, .slice ad28 (hofV x0 x1).2.length ad28'] (hofV x0 x1) := d210.tch hb16 (by omega)
  have d231 : tplT.Fx (w5.heap.size + 1) w6.heap.size w16 [.int .i64 x0.1, .slice ad41 x0.2.length ad41'] (mkTpl 1 x0) := d211.tch hb16 (by omega)
  have d232 : rowsT.Fx (w6.heap.size + 1) w7.heap.size w16 [.slice ad58 x1.length ad58'] (mkRows (1 + cntTpl x0) x1) := d212.tch hb16 (by omega)
  have d233 : rowsT.Fx w10.heap.size w11.heap.size w16 [.slice ad134 x1.length ad134'] x1 := d214.tch hb16 (by omega)
  clear hb16 H_w15 f196 f197 f198 f199 f200 f201 f202 f203 d208 d209 d210 d211 d212 d214 z204 z205 z206 z207
  have hk234 : 0 ≤ (1 + cntRel (hofV x0 x1)) := by omega
  go_wp2_with fail
  refine (heldRel_any _ _ d215.rd (by omega) (by omega)).mono ?_
  rintro e w17 ⟨rfl, hb17⟩
  have gw17 : Below w16.heap.size w16 w17 := bthen (by repeat (first | exact Below.refl _ _ | exact bA | assumption | refine Below.setCell ?_ (by first | omega | (simp; try omega)) _ | refine Below.alloc ?_ (by first | omega | (simp; try omega)) _ | refine Below.drew ?_ | refine bDN ?_ | refine bthen ?_ (by assumption))) hb17
  have sw17 : w16.heap.size + 0 ≤ w17.heap.size := by have := hb17.size; (try simp at this); omega
  have H_w17 : Below w.heap.size w w17 := bthen H_w16 gw17
  have f235 : w17.cell? ⟨w.heap.size, 0, none⟩ = some (.int .i64 x0.1) := (gw17.cell (by first | omega | (simp; try omega))).trans f216
  have f236 : w17.cell? ⟨w.heap.size, 1, none⟩ = some (u0) := (gw17.cell (by first | omega | (simp; try omega))).trans f217
  have f237 : w17.cell? ⟨w5.heap.size, 0, none⟩ = some (.int .i64 (hofV x0 x1).1) := (gw17.cell (by first | omega | (simp; try omega))).trans f218
  have f238 : w17.cell? ⟨w5.heap.size, 1, none⟩ = some (.slice ad28 (hofV x0 x1).2.length ad28') := (gw17.cell (by first | omega | (simp; try omega))).trans f219
  have f239 : w17.cell? ⟨w6.heap.size, 0, none⟩ = some (.int .i64 x0.1) := (gw17.cell (by first | omega | (simp; try omega))).trans f220
  have f240 : w17.cell? ⟨w6.heap.size, 1, none⟩ = some (.slice ad41 x0.2.length ad41') := (gw17.cell (by first | omega | (simp; try omega))).trans f221
  have f241 : w17.cell? ⟨w8.heap.size, 0, none⟩ = some (.int .i64 (hofV x0 x1).1) := (gw17.cell (by first | omega | (simp; try omega))).trans f222
  have f242 : w17.cell? ⟨w8.heap.size, 1, none⟩ = some (.slice ad76 (hofV x0 x1).2.length ad76') := (gw17.cell (by first | omega | (simp; try omega))).trans f223
  have z243 : w.heap.size < w17.heap.size := by omega
  have z244 : w5.heap.size < w17.heap.size := by omega
  have z245 : w6.heap.size < w17.heap.size := by omega
  have z246 : w8.heap.size < w17.heap.size := by omega
  have d247 : tplT.Fx w2.heap.size w3.heap.size w17 [.int .i64 x0.1, .slice ad11 x0.2.length ad11'] x0 := d228.below gw17
  have d248 : rowsT.Fx w3.heap.size w4.heap.size w17 [.slice ad19 x1.length ad19'] x1 := d229.below gw17
  have d249 : relT.Fx w4.heap.size w5.heap.size w17 [.int .i64 (hofV x0 x1).1, .slice ad28 (hofV x0 x1).2.length ad28'] (hofV x0 x1) := d230.below gw17
  have d250 : tplT.Fx (w5.heap.size + 1) w6.heap.size w17 [.int .i64 x0.1, .slice ad41 x0.2.length ad41'] (mkTpl 1 x0) := d231.below gw17
  have d251 : rowsT.Fx (w6.heap.size + 1) w7.heap.size w17 [.slice ad58 x1.length ad58'] (mkRows (1 + cntTpl x0) x1) := d232.below gw17
  have d252 : relT.Fx w7.heap.size w8.heap.size w17 [.int .i64 (hofV x0 x1).1, .slice ad76 (hofV x0 x1).2.length ad76'] (mkRel 1 (hofV x0 x1)) := d215.below gw17
  have d253 : rowsT.Fx w10.heap.size w11.heap.size w17 [.slice ad134 x1.length ad134'] x1 := d233.below gw17
  clear hb17 H_w16 f216 f217 f218 f219 f220 f221 f222 f223 d228 d229 d230 d231 d232 d215 d233 z224 z225 z226 z227 gw17
  go_wp2_with fail
  refine (toTemplate_any _ (hx0.below (by repeat (first | exact Below.refl _ _ | exact bA | assumption | refine Below.setCell ?_ (by first | omega | (simp; try omega)) _ | refine Below.alloc ?_ (by first | omega | (simp; try omega)) _ | refine Below.drew ?_ | refine bDN ?_ | refine bthen ?_ (by assumption)))) (by first | omega | (unfold szInts; omega))).mono ?_
  rintro e w18 ⟨cs, rfl, hc254, hb18⟩
  have gw18 : Below w17.heap.size w17 w18 := bthen (by repeat (first | exact Below.refl _ _ | exact bA | assumption | refine Below.setCell ?_ (by first | omega | (simp; try omega)) _ | refine Below.alloc ?_ (by first | omega | (simp; try omega)) _ | refine Below.drew ?_ | refine bDN ?_ | refine bthen ?_ (by assumption))) hb18
  have sw18 : w17.heap.size + 0 ≤ w18.heap.size := by have := hb18.size; (try simp at this); omega
  have H_w18 : Below w.heap.size w w18 := bthen H_w17 gw18
  have f255 : w18.cell? ⟨w.heap.size, 0, none⟩ = some (.int .i64 x0.1) := (gw18.cell (by first | omega | (simp; try omega))).trans f235
  have f256 : w18.cell? ⟨w.heap.size, 1, none⟩ = some (u0) := (gw18.cell (by first | omega | (simp; try omega))).trans f236
  have f257 : w18.cell? ⟨w5.heap.size, 0, none⟩ = some (.int .i64 (hofV x0 x1).1) := (gw18.cell (by first | omega | (simp; try omega))).trans f237
  have f258 : w18.cell? ⟨w5.heap.size, 1, none⟩ = some (.slice ad28 (hofV x0 x1).2.length ad28') := (gw18.cell (by first | omega | (simp; try omega))).trans f238
  have f259 : w18.cell? ⟨w6.heap.size, 0, none⟩ = some (.int .i64 x0.1) := (gw18.cell (by first | omega | (simp; try omega))).trans f239
  have f260 : w18.cell? ⟨w6.heap.size, 1, none⟩ = some (.slice ad41 x0.2.length ad41') := (gw18.cell (by first | omega | (simp; try omega))).trans f240
  have f261 : w18.cell? ⟨w8.heap.size, 0, none⟩ = some (.int .i64 (hofV x0 x1).1) := (gw18.cell (by first | omega | (simp; try omega))).trans f241
  have f262 : w18.cell? ⟨w8.heap.size, 1, none⟩ = some (.slice ad76 (hofV x0 x1).2.length ad76') := (gw18.cell (by first | omega | (simp; try omega))).trans f242
  have z263 : w.heap.size < w18.heap.size := by omega
  have z264 : w5.heap.size < w18.heap.size := by omega
  have z265 : w6.heap.size < w18.heap.size := by omega
  have z266 : w8.heap.size < w18.heap.size := by omega
  have d267 : tplT.Fx w2.heap.size w3.heap.size w18 [.int .i64 x0.1, .slice ad11 x0.2.length ad11'] x0 := d247.below gw18
  have d268 : rowsT.Fx w3.heap.size w4.heap.size w18 [.slice ad19 x1.length ad19'] x1 := d248.below gw18
  have d269 : relT.Fx w4.heap.size w5.heap.size w18 [.int .i64 (hofV x0 x1).1, .slice ad28 (hofV x0 x1).2.length ad28'] (hofV x0 x1) := d249.below gw18
  have d270 : tplT.Fx (w5.heap.size + 1) w6.heap.size w18 [.int .i64 x0.1, .slice ad41 x0.2.length ad41'] (mkTpl 1 x0) := d250.below gw18
  have d271 : rowsT.Fx (w6.heap.size + 1) w7.heap.size w18 [.slice ad58 x1.length ad58'] (mkRows (1 + cntTpl x0) x1) := d251.below gw18
  have d272 : relT.Fx w7.heap.size w8.heap.size w18 [.int .i64 (hofV x0 x1).1, .slice ad76 (hofV x0 x1).2.length ad76'] (mkRel 1 (hofV x0 x1)) := d252.below gw18
  have d273 : rowsT.Fx w10.heap.size w11.heap.size w18 [.slice ad134 x1.length ad134'] x1 := d253.below gw18
  clear hb18 H_w17 f235 f236 f237 f238 f239 f240 f241 f242 d247 d248 d249 d250 d251 d252 d253 z243 z244 z245 z246 gw18
  obtain ⟨ad274, ad274', rfl⟩ := fr_pair hc254
  have d275 : tplT.Fx w17.heap.size w18.heap.size w18 [.int .i64 x0.1, .slice ad274 x0.2.length ad274'] x0 := (Ty.Fr.mono hc254 (by first | exact Nat.le_refl _ | (simp; try omega))).fx
  clear hc254
  go_wp2_with fail
  refine (toInt64SS_any _ (hx1.below (by repeat (first | exact Below.refl _ _ | exact bA | assumption | refine Below.setCell ?_ (by first | omega | (simp; try omega)) _ | refine Below.alloc ?_ (by first | omega | (simp; try omega)) _ | refine Below.drew ?_ | refine bDN ?_ | refine bthen ?_ (by assumption)))) (by first | omega | (unfold szInts; omega))).mono ?_
  rintro e w19 ⟨cs, rfl, hc277, hb19⟩
  have gw19 : Below w18.heap.size w18 w19 := bthen (by repeat (first | exact Below.refl _ _ | exact bA | assumption | refine Below.setCell ?_ (by first | omega | (simp; try omega)) _ | refine Below.alloc ?_ (by first | omega | (simp; try omega)) _ | refine Below.drew ?_ | refine bDN ?_ | refine bthen ?_ (by assumption))) hb19
  have sw19 : w18.heap.size + 0 ≤ w19.heap.size := by have := hb19.size; (try simp at this); omega
  have H_w19 : Below w.heap.size w w19 := bthen H_w18 gw19
  have f278 : w19.cell? ⟨w.heap.size, 0, none⟩ = some (.int .i64 x0.1) := (gw19.cell (by first | omega | (simp; try omega))).trans f255
  have f279 : w19.cell? ⟨w.heap.size, 1, none⟩ = some (u0) := (gw19.cell (by first | omega | (simp; try omega))).trans f256
  have f280 : w19.cell? ⟨w5.heap.size, 0, none⟩ = some (.int .i64 (hofV x0 x1).1) := (gw19.cell (by first | omega | (simp; try omega))).trans f257
  have f281 : w19.cell? ⟨w5.heap.size, 1, none⟩ = some (.slice ad28 (hofV x0 x1).2.length ad28') := (gw19.cell (by first | omega | (simp; try omega))).trans f258
  have f282 : w19.cell? ⟨w6.heap.size, 0, none⟩ = some (.int .i64 x0.1) := (gw19.cell (by first | omega | (simp; try omega))).trans f259
  have f283 : w19.cell? ⟨w6.heap.size, 1, none⟩ = some (.slice ad41 x0.2.length ad41') := (gw19.cell (by first | omega | (simp; try omega))).trans f260
  have f284 : w19.cell? ⟨w8.heap.size, 0, none⟩ = some (.int .i64 (hofV x0 x1).1) := (gw19.cell (by first | omega | (simp; try omega))).trans f261
  have f285 : w19.cell? ⟨w8.heap.size, 1, none⟩ = some (.slice ad76 (hofV x0 x1).2.length ad76') := (gw19.cell (by first | omega | (simp; try omega))).trans f262
  have z286 : w.heap.size < w19.heap.size := by omega
  have z287 : w5.heap.size < w19.heap.size := by omega
  have z288 : w6.heap.size < w19.heap.size := by omega
  have z289 : w8.heap.size < w19.heap.size := by omega
  have d290 : tplT.Fx w2.heap.size w3.heap.size w19 [.int .i64 x0.1, .slice ad11 x0.2.length ad11'] x0 := d267.below gw19
  have d291 : rowsT.Fx w3.heap.size w4.heap.size w19 [.slice ad19 x1.length ad19'] x1 := d268.below gw19
  have d292 : relT.Fx w4.heap.size w5.heap.size w19 [.int .i64 (hofV x0 x1).1, .slice ad28 (hofV x0 x1).2.length ad28'] (hofV x0 x1) := d269.below gw19
  have d293 : tplT.Fx (w5.heap.size + 1) w6.heap.size w19 [.int .i64 x0.1, .slice ad41 x0.2.length ad41'] (mkTpl 1 x0) := d270.below gw19
  have d294 : rowsT.Fx (w6.heap.size + 1) w7.heap.size w19 [.slice ad58 x1.length ad58'] (mkRows (1 + cntTpl x0) x1) := d271.below gw19
  have d295 : relT.Fx w7.heap.size w8.heap.size w19 [.int .i64 (hofV x0 x1).1, .slice ad76 (hofV x0 x1).2.length ad76'] (mkRel 1 (hofV x0 x1)) := d272.below gw19
  have d296 : rowsT.Fx w10.heap.size w11.heap.size w19 [.slice ad134 x1.length ad134'] x1 := d273.below gw19
  have d297 : tplT.Fx w17.heap.size w18.heap.size w19 [.int .i64 x0.1, .slice ad274 x0.2.length ad274'] x0 := d275.below gw19
  clear hb19 H_w18 f255 f256 f257 f258 f259 f260 f261 f262 d267 d268 d269 d270 d271 d272 d273 d275 z263 z264 z265 z266 gw19
  obtain ⟨ad298, ad298', rfl⟩ := fr_slice hc277
  have d299 : rowsT.Fx w18.heap.size w19.heap.size w19 [.slice ad298 x1.length ad298'] x1 := (Ty.Fr.mono hc277 (by first | exact Nat.le_refl _ | (simp; try omega))).fx
  clear hc277
  go_wp2_with fail
  refine (HullOf_any _ (d297.rd.below (by repeat (first | exact Below.refl _ _ | exact bA | assumption | refine Below.setCell ?_ (by first | omega | (simp; try omega)) _ | refine Below.alloc ?_ (by first | omega | (simp; try omega)) _ | refine Below.drew ?_ | refine bDN ?_ | refine bthen ?_ (by assumption)))) (d299.rd.below (by repeat (first | exact Below.refl _ _ | exact bA | assumption | refine Below.setCell ?_ (by first | omega | (simp; try omega)) _ | refine Below.alloc ?_ (by first | omega | (simp; try omega)) _ | refine Below.drew ?_ | refine bDN ?_ | refine bthen ?_ (by assumption))))).mono ?_
  rintro e w20 ⟨cs, rfl, hc301, hb20⟩
  have gw20 : Below w19.heap.size w19 w20 := bthen (by repeat (first | exact Below.refl _ _ | exact bA | assumption | refine Below.setCell ?_ (by first | omega | (simp; try omega)) _ | refine Below.alloc ?_ (by first | omega | (simp; try omega)) _ | refine Below.drew ?_ | refine bDN ?_ | refine bthen ?_ (by assumption))) hb20
  have sw20 : w19.heap.size + 0 ≤ w20.heap.size := by have := hb20.size; (try simp at this); omega
  have H_w20 : Below w.heap.size w w20 := bthen H_w19 gw20
  have f302 : w20.cell? ⟨w.heap.size, 0, none⟩ = some (.int .i64 x0.1) := (gw20.cell (by first | omega | (simp; try omega))).trans f278
  have f303 : w20.cell? ⟨w.heap.size, 1, none⟩ = some (u0) := (gw20.cell (by first | omega | (simp; try omega))).trans f279
  have f304 : w20.cell? ⟨w5.heap.size, 0, none⟩ = some (.int .i64 (hofV x0 x1).1) := (gw20.cell (by first | omega | (simp; try omega))).trans f280
  have f305 : w20.cell? ⟨w5.heap.size, 1, none⟩ = some (.slice ad28 (hofV x0 x1).2.length ad28') := (gw20.cell (by first | omega | (simp; try omega))).trans f281
  have f306 : w20.cell? ⟨w6.heap.size, 0, none⟩ = some (.int .i64 x0.1) := (gw20.cell (by first | omega | (simp; try omega))).trans f282
  have f307 : w20.cell? ⟨w6.heap.size, 1, none⟩ = some (.slice ad41 x0.2.length ad41') := (gw20.cell (by first | omega | (simp; try omega))).trans f283
  have f308 : w20.cell? ⟨w8.heap.size, 0, none⟩ = some (.int .i64 (hofV x0 x1).1) := (gw20.cell (by first | omega | (simp; try omega))).trans f284
  have f309 : w20.cell? ⟨w8.heap.size, 1, none⟩ = some (.slice ad76 (hofV x0 x1).2.length ad76') := (gw20.cell (by first | omega | (simp; try omega))).trans f285
  have z310 : w.heap.size < w20.heap.size := by omega
  have z311 : w5.heap.size < w20.heap.size := by omega
  have z312 : w6.heap.size < w20.heap.size := by omega
  have z313 : w8.heap.size < w20.heap.size := by omega
  have d314 : tplT.Fx w2.heap.size w3.heap.size w20 [.int .i64 x0.1, .slice ad11 x0.2.length ad11'] x0 := d290.below gw20
  have d315 : rowsT.Fx w3.heap.size w4.heap.size w20 [.slice ad19 x1.length ad19'] x1 := d291.below gw20
  have d316 : relT.Fx w4.heap.size w5.heap.size w20 [.int .i64 (hofV x0 x1).1, .slice ad28 (hofV x0 x1).2.length ad28'] (hofV x0 x1) := d292.below gw20
  have d317 : tplT.Fx (w5.heap.size + 1) w6.heap.size w20 [.int .i64 x0.1, .slice ad41 x0.2.length ad41'] (mkTpl 1 x0) := d293.below gw20
  have d318 : rowsT.Fx (w6.heap.size + 1) w7.heap.size w20 [.slice ad58 x1.length ad58'] (mkRows (1 + cntTpl x0) x1) := d294.below gw20
  have d319 : relT.Fx w7.heap.size w8.heap.size w20 [.int .i64 (hofV x0 x1).1, .slice ad76 (hofV x0 x1).2.length ad76'] (mkRel 1 (hofV x0 x1)) := d295.below gw20
  have d320 : rowsT.Fx w10.heap.size w11.heap.size w20 [.slice ad134 x1.length ad134'] x1 := d296.below gw20
  have d321 : tplT.Fx w17.heap.size w18.heap.size w20 [.int .i64 x0.1, .slice ad274 x0.2.length ad274'] x0 := d297.below gw20
  have d322 : rowsT.Fx w18.heap.size w19.heap.size w20 [.slice ad298 x1.length ad298'] x1 := d299.below gw20
  clear hb20 H_w19 f278 f279 f280 f281 f282 f283 f284 f285 d290 d291 d292 d293 d294 d295 d296 d297 d299 z286 z287 z288 z289 gw20
  obtain ⟨ad323, ad323', rfl⟩ := fr_pair hc301
  have d324 : relT.Fx w19.heap.size w20.heap.size w20 [.int .i64 (hofV x0 x1).1, .slice ad323 (hofV x0 x1).2.length ad323'] (hofV x0 x1) := (Ty.Fr.mono hc301 (by first | exact Nat.le_refl _ | (simp; try omega))).fx
  clear hc301
  go_wp2_with fail
  refine (eqRel_any _ (d324.rd.below (by repeat (first | exact Below.refl _ _ | exact bA | assumption | refine Below.setCell ?_ (by first | omega | (simp; try omega)) _ | refine Below.alloc ?_ (by first | omega | (simp; try omega)) _ | refine Below.drew ?_ | refine bDN ?_ | refine bthen ?_ (by assumption)))) (d316.rd.below (by repeat (first | exact Below.refl _ _ | exact bA | assumption | refine Below.setCell ?_ (by first | omega | (simp; try omega)) _ | refine Below.alloc ?_ (by first | omega | (simp; try omega)) _ | refine Below.drew ?_ | refine bDN ?_ | refine bthen ?_ (by assumption))))).mono ?_
  rintro e w21 ⟨rfl, hb21⟩
  have gw21 : Below w20.heap.size w20 w21 := bthen (by repeat (first | exact Below.refl _ _ | exact bA | assumption | refine Below.setCell ?_ (by first | omega | (simp; try omega)) _ | refine Below.alloc ?_ (by first | omega | (simp; try omega)) _ | refine Below.drew ?_ | refine bDN ?_ | refine bthen ?_ (by assumption))) hb21
  have sw21 : w20.heap.size + 1 ≤ w21.heap.size := by have := hb21.size; (try simp at this); omega
  have H_w21 : Below w.heap.size w w21 := bthen H_w20 gw21
  have f326 : w21.cell? ⟨w.heap.size, 0, none⟩ = some (.int .i64 x0.1) := (gw21.cell (by first | omega | (simp; try omega))).trans f302
  have f327 : w21.cell? ⟨w.heap.size, 1, none⟩ = some (u0) := (gw21.cell (by first | omega | (simp; try omega))).trans f303
  have f328 : w21.cell? ⟨w5.heap.size, 0, none⟩ = some (.int .i64 (hofV x0 x1).1) := (gw21.cell (by first | omega | (simp; try omega))).trans f304
  have f329 : w21.cell? ⟨w5.heap.size, 1, none⟩ = some (.slice ad28 (hofV x0 x1).2.length ad28') := (gw21.cell (by first | omega | (simp; try omega))).trans f305
  have f330 : w21.cell? ⟨w6.heap.size, 0, none⟩ = some (.int .i64 x0.1) := (gw21.cell (by first | omega | (simp; try omega))).trans f306
  have f331 : w21.cell? ⟨w6.heap.size, 1, none⟩ = some (.slice ad41 x0.2.length ad41') := (gw21.cell (by first | omega | (simp; try omega))).trans f307
  have f332 : w21.cell? ⟨w8.heap.size, 0, none⟩ = some (.int .i64 (hofV x0 x1).1) := (gw21.cell (by first | omega | (simp; try omega))).trans f308
  have f333 : w21.cell? ⟨w8.heap.size, 1, none⟩ = some (.slice ad76 (hofV x0 x1).2.length ad76') := (gw21.cell (by first | omega | (simp; try omega))).trans f309
  have f334 : w21.cell? ⟨w20.heap.size, 0, none⟩ = some (.int .i64 (hofV x0 x1).1) := by rw [(bcell hb21).1 _ _ (by first | omega | (simp; try omega))]; first | (simp; done) | simp [go_sem]
  have f335 : w21.cell? ⟨w20.heap.size, 1, none⟩ = some (.slice ad323 (hofV x0 x1).2.length ad323') := by rw [(bcell hb21).1 _ _ (by first | omega | (simp; try omega))]; first | (simp; done) | simp [go_sem]
  have z336 : w.heap.size < w21.heap.size := by omega
  have z337 : w5.heap.size < w21.heap.size := by omega
  have z338 : w6.heap.size < w21.heap.size := by omega
  have z339 : w8.heap.size < w21.heap.size := by omega
  have z340 : w20.heap.size < w21.heap.size := by omega
  have d341 : tplT.Fx w2.heap.size w3.heap.size w21 [.int .i64 x0.1, .slice ad11 x0.2.length ad11'] x0 := d314.below gw21
  have d342 : rowsT.Fx w3.heap.size w4.heap.size w21 [.slice ad19 x1.length ad19'] x1 := d315.below gw21
  have d343 : relT.Fx w4.heap.size w5.heap.size w21 [.int .i64 (hofV x0 x1).1, .slice ad28 (hofV x0 x1).2.length ad28'] (hofV x0 x1) := d316.below gw21
  have d344 : tplT.Fx (w5.heap.size + 1) w6.heap.size w21 [.int .i64 x0.1, .slice ad41 x0.2.length ad41'] (mkTpl 1 x0) := d317.below gw21
  have d345 : rowsT.Fx (w6.heap.size + 1) w7.heap.size w21 [.slice ad58 x1.length ad58'] (mkRows (1 + cntTpl x0) x1) := d318.below gw21
  have d346 : relT.Fx w7.heap.size w8.heap.size w21 [.int .i64 (hofV x0 x1).1, .slice ad76 (hofV x0 x1).2.length ad76'] (mkRel 1 (hofV x0 x1)) := d319.below gw21
  have d347 : rowsT.Fx w10.heap.size w11.heap.size w21 [.slice ad134 x1.length ad134'] x1 := d320.below gw21
  have d348 : tplT.Fx w17.heap.size w18.heap.size w21 [.int .i64 x0.1, .slice ad274 x0.2.length ad274'] x0 := d321.below gw21
  have d349 : rowsT.Fx w18.heap.size w19.heap.size w21 [.slice ad298 x1.length ad298'] x1 := d322.below gw21
  have d350 : relT.Fx w19.heap.size w20.heap.size w21 [.int .i64 (hofV x0 x1).1, .slice ad323 (hofV x0 x1).2.length ad323'] (hofV x0 x1) := d324.below gw21
  clear hb21 H_w20 f302 f303 f304 f305 f306 f307 f308 f309 d314 d315 d316 d317 d318 d319 d320 d321 d322 d324 z310 z311 z312 z313 gw21
  rw [eqB_true rfl]
  go_wp2_with fail
  refine (heldRel_any _ _ d346.rd (by omega) (by omega)).mono ?_
  rintro e w22 ⟨rfl, hb22⟩
  have gw22 : Below w21.heap.size w21 w22 := bthen (by repeat (first | exact Below.refl _ _ | exact bA | assumption | refine Below.setCell ?_ (by first | omega | (simp; try omega)) _ | refine Below.alloc ?_ (by first | omega | (simp; try omega)) _ | refine Below.drew ?_ | refine bDN ?_ | refine bthen ?_ (by assumption))) hb22
  have sw22 : w21.heap.size + 0 ≤ w22.heap.size := by have := hb22.size; (try simp at this); omega
  have H_w22 : Below w.heap.size w w22 := bthen H_w21 gw22
  have f351 : w22.cell? ⟨w.heap.size, 0, none⟩ = some (.int .i64 x0.1) := (gw22.cell (by first | omega | (simp; try omega))).trans f326
  have f352 : w22.cell? ⟨w.heap.size, 1, none⟩ = some (u0) := (gw22.cell (by first | omega | (simp; try omega))).trans f327
  have f353 : w22.cell? ⟨w5.heap.size, 0, none⟩ = some (.int .i64 (hofV x0 x1).1) := (gw22.cell (by first | omega | (simp; try omega))).trans f328
  have f354 : w22.cell? ⟨w5.heap.size, 1, none⟩ = some (.slice ad28 (hofV x0 x1).2.length ad28') := (gw22.cell (by first | omega | (simp; try omega))).trans f329
  have f355 : w22.cell? ⟨w6.heap.size, 0, none⟩ = some (.int .i64 x0.1) := (gw22.cell (by first | omega | (simp; try omega))).trans f330
  have f356 : w22.cell? ⟨w6.heap.size, 1, none⟩ = some (.slice ad41 x0.2.length ad41') := (gw22.cell (by first | omega | (simp; try omega))).trans f331
  have f357 : w22.cell? ⟨w8.heap.size, 0, none⟩ = some (.int .i64 (hofV x0 x1).1) := (gw22.cell (by first | omega | (simp; try omega))).trans f332
  have f358 : w22.cell? ⟨w8.heap.size, 1, none⟩ = some (.slice ad76 (hofV x0 x1).2.length ad76') := (gw22.cell (by first | omega | (simp; try omega))).trans f333
  have f359 : w22.cell? ⟨w20.heap.size, 0, none⟩ = some (.int .i64 (hofV x0 x1).1) := (gw22.cell (by first | omega | (simp; try omega))).trans f334
  have f360 : w22.cell? ⟨w20.heap.size, 1, none⟩ = some (.slice ad323 (hofV x0 x1).2.length ad323') := (gw22.cell (by first | omega | (simp; try omega))).trans f335
  have z361 : w.heap.size < w22.heap.size := by omega
  have z362 : w5.heap.size < w22.heap.size := by omega
  have z363 : w6.heap.size < w22.heap.size := by omega
  have z364 : w8.heap.size < w22.heap.size := by omega
  have z365 : w20.heap.size < w22.heap.size := by omega
  have d366 : tplT.Fx w2.heap.size w3.heap.size w22 [.int .i64 x0.1, .slice ad11 x0.2.length ad11'] x0 := d341.below gw22
  have d367 : rowsT.Fx w3.heap.size w4.heap.size w22 [.slice ad19 x1.length ad19'] x1 := d342.below gw22
  have d368 : relT.Fx w4.heap.size w5.heap.size w22 [.int .i64 (hofV x0 x1).1, .slice ad28 (hofV x0 x1).2.length ad28'] (hofV x0 x1) := d343.below gw22
  have d369 : tplT.Fx (w5.heap.size + 1) w6.heap.size w22 [.int .i64 x0.1, .slice ad41 x0.2.length ad41'] (mkTpl 1 x0) := d344.below gw22
  have d370 : rowsT.Fx (w6.heap.size + 1) w7.heap.size w22 [.slice ad58 x1.length ad58'] (mkRows (1 + cntTpl x0) x1) := d345.below gw22
  have d371 : relT.Fx w7.heap.size w8.heap.size w22 [.int .i64 (hofV x0 x1).1, .slice ad76 (hofV x0 x1).2.length ad76'] (mkRel 1 (hofV x0 x1)) := d346.below gw22
  have d372 : rowsT.Fx w10.heap.size w11.heap.size w22 [.slice ad134 x1.length ad134'] x1 := d347.below gw22
  have d373 : tplT.Fx w17.heap.size w18.heap.size w22 [.int .i64 x0.1, .slice ad274 x0.2.length ad274'] x0 := d348.below gw22
  have d374 : rowsT.Fx w18.heap.size w19.heap.size w22 [.slice ad298 x1.length ad298'] x1 := d349.below gw22
  have d375 : relT.Fx w19.heap.size w20.heap.size w22 [.int .i64 (hofV x0 x1).1, .slice ad323 (hofV x0 x1).2.length ad323'] (hofV x0 x1) := d350.below gw22
  clear hb22 H_w21 f326 f327 f328 f329 f330 f331 f332 f333 f334 f335 d341 d342 d343 d344 d345 d346 d347 d348 d349 d350 z336 z337 z338 z339 z340 gw22
  go_wp2_with fail
  go_ret
  exact ⟨rfl, (by repeat (first | exact Below.refl _ _ | exact bA | assumption | refine Below.setCell ?_ (by first | omega | (simp; try omega)) _ | refine Below.alloc ?_ (by first | omega | (simp; try omega)) _ | refine Below.drew ?_ | refine bDN ?_ | refine bthen ?_ (by assumption)))⟩
end Go.Proofs.Ytccobadobklbpaa
