/-
 The law FnExactClosureOf, walked: its contract.
-/
import Derived.Test.YtggelmbnliajeaaGreatDoorQAH
import Derived.Test.YtggelmbnliajeaaGreatDoorQAB
import Derived.Test.YtggelmbnliajeaaGreatDoorQAD
namespace Go.Proofs.YtggelmbnliajeaaGreatDoor
open Go.RowKit Go.Sort
set_option maxHeartbeats 6400000 in
set_option maxRecDepth 100000 in
theorem fnExactClosureOf_any (w : World) {n0 : Int} (_h0 : I64 n0) {n1 : Int} (_h1 : I64 n1) {v2 : Value} {x2 : List (Int × List Int)} (h2 : opsT.Rd w [v2] x2) {v3 : Value} {x3 : List (List Int)} (h3 : rowsT.Rd w [v3] x3) :
  Calls Tryz.prog 3 #[.int .i64 n0, .int .i64 n1, v2, v3] w fun e w' => e = .returned (.bool true) ∧ Below w.heap.size w w' := by
 have hx2 := h2
 obtain ⟨ad2, cap2, rfl⟩ := rd_slice hx2
 clear h2
 have hn2 := szOps_nn x2
 have hcn2 : cntOps x2 ≤ szOps x2 := cntOps_sz x2
 have hcz2 : 0 ≤ cntOps x2 := cntOps_nn x2
 have hx3 := h3
 obtain ⟨ad3, cap3, rfl⟩ := rd_slice hx3
 clear h3
 have hn3 := szRows_nn x3
 have hcn3 : cntRows x3 ≤ szRows x3 := cntRows_sz x3
 have hcz3 : 0 ≤ cntRows x3 := cntRows_nn x3
 have H_w : Below w.heap.size w w := Below.refl _ _
 go_enter Tryz.func3, Tryz.ntmps3
 go_wp2_with fail
 refine (szOpS_any _ (hx2.below (by repeat (first | exact Below.refl _ _ | exact bA | assumption | refine Below.setCell ?_ (by first | omega | (simp; try omega)) _ | refine Below.alloc ?_ (by first | omega | (simp; try omega)) _ | refine Below.drew ?_ | refine bDN ?_ | refine bthen ?_ (by assumption)))) _ (by omega) (by omega)).mono ?_
 rintro e w1 ⟨rfl, hb1⟩
 have gw1 : Below w.heap.size w w1 := bthen (by repeat (first | exact Below.refl _ _ | exact bA | assumption | refine Below.setCell ?_ (by first | omega | (simp; try omega)) _ | refine Below.alloc ?_ (by first | omega | (simp; try omega)) _ | refine Below.drew ?_ | refine bDN ?_ | refine bthen ?_ (by assumption))) hb1
 have sw1 : w.heap.size + 0 ≤ w1.heap.size := by have := hb1.size; (try simp at this); omega
 have H_w1 : Below w.heap.size w w1 := bthen H_w gw1
 clear hb1 gw1
 rcases ilt 1048576 (szOps x2) with hl2 | hl2
 ·rw [szR_lt hl2]
  go_wp2_with fail
  go_ret
  exact ⟨rfl, (by repeat (first | exact Below.refl _ _ | exact bA | assumption | refine Below.setCell ?_ (by first | omega | (simp; try omega)) _ | refine Below.alloc ?_ (by first | omega | (simp; try omega)) _ | refine Below.drew ?_ | refine bDN ?_ | refine bthen ?_ (by assumption)))⟩
 rw [szR_ge hl2]
 go_wp2_with fail
 refine (szInt64SS_any _ (hx3.below (by repeat (first | exact Below.refl _ _ | exact bA | assumption | refine Below.setCell ?_ (by first | omega | (simp; try omega)) _ | refine Below.alloc ?_ (by first | omega | (simp; try omega)) _ | refine Below.drew ?_ | refine bDN ?_ | refine bthen ?_ (by assumption)))) _ (by omega) (by omega)).mono ?_
 rintro e w2 ⟨rfl, hb2⟩
 have gw2 : Below w1.heap.size w1 w2 := bthen (by repeat (first | exact Below.refl _ _ | exact bA | assumption | refine Below.setCell ?_ (by first | omega | (simp; try omega)) _ | refine Below.alloc ?_ (by first | omega | (simp; try omega)) _ | refine Below.drew ?_ | refine bDN ?_ | refine bthen ?_ (by assumption))) hb2
 have sw2 : w1.heap.size + 0 ≤ w2.heap.size := by have := hb2.size; (try simp at this); omega
 have H_w2 : Below w.heap.size w w2 := bthen H_w1 gw2
 clear hb2 H_w1 gw2
 rcases ilt (1048576 - szOps x2) (szRows x3) with hl5 | hl5
 ·rw [szR_lt hl5]
  go_wp2_with fail
  go_ret
  exact ⟨rfl, (by repeat (first | exact Below.refl _ _ | exact bA | assumption | refine Below.setCell ?_ (by first | omega | (simp; try omega)) _ | refine Below.alloc ?_ (by first | omega | (simp; try omega)) _ | refine Below.drew ?_ | refine bDN ?_ | refine bthen ?_ (by assumption)))⟩
 rw [szR_ge hl5]
 go_wp2_with fail
 refine (toOpS_any _ (hx2.below (by repeat (first | exact Below.refl _ _ | exact bA | assumption | refine Below.setCell ?_ (by first | omega | (simp; try omega)) _ | refine Below.alloc ?_ (by first | omega | (simp; try omega)) _ | refine Below.drew ?_ | refine bDN ?_ | refine bthen ?_ (by assumption)))) (by first | omega | (unfold szInts; omega))).mono ?_
 rintro e w3 ⟨cs, rfl, hc1, hb3⟩
 have gw3 : Below w2.heap.size w2 w3 := bthen (by repeat (first | exact Below.refl _ _ | exact bA | assumption | refine Below.setCell ?_ (by first | omega | (simp; try omega)) _ | refine Below.alloc ?_ (by first | omega | (simp; try omega)) _ | refine Below.drew ?_ | refine bDN ?_ | refine bthen ?_ (by assumption))) hb3
 have sw3 : w2.heap.size + 0 ≤ w3.heap.size := by have := hb3.size; (try simp at this); omega
 have H_w3 : Below w.heap.size w w3 := bthen H_w2 gw3
 clear hb3 H_w2 gw3
 obtain ⟨ad2, ad2', rfl⟩ := fr_slice hc1
 have d3 : opsT.Fx w2.heap.size w3.heap.size w3 [.slice ad2 x2.length ad2'] x2 := (Ty.Fr.mono hc1 (by first | exact Nat.le_refl _ | (simp; try omega))).fx
 clear hc1
 go_wp2_with fail
 refine (toInt64SS_any _ (hx3.below (by repeat (first | exact Below.refl _ _ | exact bA | assumption | refine Below.setCell ?_ (by first | omega | (simp; try omega)) _ | refine Below.alloc ?_ (by first | omega | (simp; try omega)) _ | refine Below.drew ?_ | refine bDN ?_ | refine bthen ?_ (by assumption)))) (by first | omega | (unfold szInts; omega))).mono ?_
 rintro e w4 ⟨cs, rfl, hc5, hb4⟩
 have gw4 : Below w3.heap.size w3 w4 := bthen (by repeat (first | exact Below.refl _ _ | exact bA | assumption | refine Below.setCell ?_ (by first | omega | (simp; try omega)) _ | refine Below.alloc ?_ (by first | omega | (simp; try omega)) _ | refine Below.drew ?_ | refine bDN ?_ | refine bthen ?_ (by assumption))) hb4
 have sw4 : w3.heap.size + 0 ≤ w4.heap.size := by have := hb4.size; (try simp at this); omega
 have H_w4 : Below w.heap.size w w4 := bthen H_w3 gw4
 have d6 : opsT.Fx w2.heap.size w3.heap.size w4 [.slice ad2 x2.length ad2'] x2 := d3.below gw4
 clear hb4 H_w3 d3 gw4
 obtain ⟨ad7, ad7', rfl⟩ := fr_slice hc5
 have d8 : rowsT.Fx w3.heap.size w4.heap.size w4 [.slice ad7 x3.length ad7'] x3 := (Ty.Fr.mono hc5 (by first | exact Nat.le_refl _ | (simp; try omega))).fx
 clear hc5
 go_wp2_with fail
 have hcr1 : cntRel (coV n0 n1 x2 x3) ≤ 1000000000 := (Int.le_trans co_cnt (by omega))
 have hcrz1 : 0 ≤ cntRel (coV n0 n1 x2 x3) := cntRows_nn _
 refine (specClosureOf_at _ (d6.rd.below (by repeat (first | exact Below.refl _ _ | exact bA | assumption | refine Below.setCell ?_ (by first | omega | (simp; try omega)) _ | refine Below.alloc ?_ (by first | omega | (simp; try omega)) _ | refine Below.drew ?_ | refine bDN ?_ | refine bthen ?_ (by assumption)))) (d8.rd.below (by repeat (first | exact Below.refl _ _ | exact bA | assumption | refine Below.setCell ?_ (by first | omega | (simp; try omega)) _ | refine Below.alloc ?_ (by first | omega | (simp; try omega)) _ | refine Below.drew ?_ | refine bDN ?_ | refine bthen ?_ (by assumption)))) (by omega)).mono ?_
 rintro e w5 ⟨cs, rfl, hc10, hb5⟩
 have gw5 : Below w4.heap.size w4 w5 := bthen (by repeat (first | exact Below.refl _ _ | exact bA | assumption | refine Below.setCell ?_ (by first | omega | (simp; try omega)) _ | refine Below.alloc ?_ (by first | omega | (simp; try omega)) _ | refine Below.drew ?_ | refine bDN ?_ | refine bthen ?_ (by assumption))) hb5
 have sw5 : w4.heap.size + 0 ≤ w5.heap.size := by have := hb5.size; (try simp at this); omega
 have H_w5 : Below w.heap.size w w5 := bthen H_w4 gw5
 have d11 : opsT.Fx w2.heap.size w3.heap.size w5 [.slice ad2 x2.length ad2'] x2 := d6.below gw5
 have d12 : rowsT.Fx w3.heap.size w4.heap.size w5 [.slice ad7 x3.length ad7'] x3 := d8.below gw5
 clear hb5 H_w4 d6 d8 gw5
 obtain ⟨ad13, ad13', rfl⟩ := fr_pair hc10
 have d14 : relT.Fx w4.heap.size w5.heap.size w5 [.int .i64 (coV n0 n1 x2 x3).1, .slice ad13 (coV n0 n1 x2 x3).2.length ad13'] (coV n0 n1 x2 x3) := (Ty.Fr.mono hc10 (by first | exact Nat.le_refl _ | (simp; try omega))).fx
 clear hc10
 go_wp2_with fail
 refine (toOpS_any _ (hx2.below (by repeat (first | exact Below.refl _ _ | exact bA | assumption | refine Below.setCell ?_ (by first | omega | (simp; try omega)) _ | refine Below.alloc ?_ (by first | omega | (simp; try omega)) _ | refine Below.drew ?_ | refine bDN ?_ | refine bthen ?_ (by assumption)))) (by first | omega | (unfold szInts; omega))).mono ?_
 rintro e w6 ⟨cs, rfl, hc16, hb6⟩
 have gw6 : Below w5.heap.size w5 w6 := bthen (by repeat (first | exact Below.refl _ _ | exact bA | assumption | refine Below.setCell ?_ (by first | omega | (simp; try omega)) _ | refine Below.alloc ?_ (by first | omega | (simp; try omega)) _ | refine Below.drew ?_ | refine bDN ?_ | refine bthen ?_ (by assumption))) hb6
 have sw6 : w5.heap.size + 1 ≤ w6.heap.size := by have := hb6.size; (try simp at this); omega
 have H_w6 : Below w.heap.size w w6 := bthen H_w5 gw6
 have f17 : w6.cell? ⟨w5.heap.size, 0, none⟩ = some (.int .i64 (coV n0 n1 x2 x3).1) := by rw [(bcell hb6).1 _ _ (by first | omega | (simp; try omega))]; first | (simp; done) | simp [go_sem]
 have f18 : w6.cell? ⟨w5.heap.size, 1, none⟩ = some (.slice ad13 (coV n0 n1 x2 x3).2.length ad13') := by rw [(bcell hb6).1 _ _ (by first | omega | (simp; try omega))]; first | (simp; done) | simp [go_sem]
 have z19 : w5.heap.size < w6.heap.size := by omega
 have d20 : opsT.Fx w2.heap.size w3.heap.size w6 [.slice ad2 x2.length ad2'] x2 := d11.below gw6
 have d21 : rowsT.Fx w3.heap.size w4.heap.size w6 [.slice ad7 x3.length ad7'] x3 := d12.below gw6
 have d22 : relT.Fx w4.heap.size w5.heap.size w6 [.int .i64 (coV n0 n1 x2 x3).1, .slice ad13 (coV n0 n1 x2 x3).2.length ad13'] (coV n0 n1 x2 x3) := d14.below gw6
 clear hb6 H_w5 d11 d12 d14 gw6
 obtain ⟨ad23, ad23', rfl⟩ := fr_slice hc16
 have d24 : opsT.Fx (w5.heap.size + 1) w6.heap.size w6 [.slice ad23 x2.length ad23'] x2 := (Ty.Fr.mono hc16 (by first | exact Nat.le_refl _ | (simp; try omega))).fx
 clear hc16
 go_wp2_with fail
 refine (toInt64SS_any _ (hx3.below (by repeat (first | exact Below.refl _ _ | exact bA | assumption | refine Below.setCell ?_ (by first | omega | (simp; try omega)) _ | refine Below.alloc ?_ (by first | omega | (simp; try omega)) _ | refine Below.drew ?_ | refine bDN ?_ | refine bthen ?_ (by assumption)))) (by first | omega | (unfold szInts; omega))).mono ?_
 rintro e w7 ⟨cs, rfl, hc26, hb7⟩
 have gw7 : Below w6.heap.size w6 w7 := bthen (by repeat (first | exact Below.refl _ _ | exact bA | assumption | refine Below.setCell ?_ (by first | omega | (simp; try omega)) _ | refine Below.alloc ?_ (by first | omega | (simp; try omega)) _ | refine Below.drew ?_ | refine bDN ?_ | refine bthen ?_ (by assumption))) hb7
 have sw7 : w6.heap.size + 0 ≤ w7.heap.size := by have := hb7.size; (try simp at this); omega
 have H_w7 : Below w.heap.size w w7 := bthen H_w6 gw7
 have f27 : w7.cell? ⟨w5.heap.size, 0, none⟩ = some (.int .i64 (coV n0 n1 x2 x3).1) := (gw7.cell (by first | omega | (simp; try omega))).trans f17
 have f28 : w7.cell? ⟨w5.heap.size, 1, none⟩ = some (.slice ad13 (coV n0 n1 x2 x3).2.length ad13') := (gw7.cell (by first | omega | (simp; try omega))).trans f18
 have z29 : w5.heap.size < w7.heap.size := by omega
 have d30 : opsT.Fx w2.heap.size w3.heap.size w7 [.slice ad2 x2.length ad2'] x2 := d20.below gw7
 have d31 : rowsT.Fx w3.heap.size w4.heap.size w7 [.slice ad7 x3.length ad7'] x3 := d21.below gw7
 have d32 : relT.Fx w4.heap.size w5.heap.size w7 [.int .i64 (coV n0 n1 x2 x3).1, .slice ad13 (coV n0 n1 x2 x3).2.length ad13'] (coV n0 n1 x2 x3) := d22.below gw7
 have d33 : opsT.Fx (w5.heap.size + 1) w6.heap.size w7 [.slice ad23 x2.length ad23'] x2 := d24.below gw7
 clear hb7 H_w6 f17 f18 d20 d21 d22 d24 z19 gw7
 obtain ⟨ad34, ad34', rfl⟩ := fr_slice hc26
 have d35 : rowsT.Fx w6.heap.size w7.heap.size w7 [.slice ad34 x3.length ad34'] x3 := (Ty.Fr.mono hc26 (by first | exact Nat.le_refl _ | (simp; try omega))).fx
 clear hc26
 go_wp2_with fail
 refine (ClosureOf_at _ (d33.rd.below (by repeat (first | exact Below.refl _ _ | exact bA | assumption | refine Below.setCell ?_ (by first | omega | (simp; try omega)) _ | refine Below.alloc ?_ (by first | omega | (simp; try omega)) _ | refine Below.drew ?_ | refine bDN ?_ | refine bthen ?_ (by assumption)))) (d35.rd.below (by repeat (first | exact Below.refl _ _ | exact bA | assumption | refine Below.setCell ?_ (by first | omega | (simp; try omega)) _ | refine Below.alloc ?_ (by first | omega | (simp; try omega)) _ | refine Below.drew ?_ | refine bDN ?_ | refine bthen ?_ (by assumption)))) (by omega)).mono ?_
 rintro e w8 ⟨cs, rfl, hc37, hb8⟩
 have gw8 : Below w7.heap.size w7 w8 := bthen (by repeat (first | exact Below.refl _ _ | exact bA | assumption | refine Below.setCell ?_ (by first | omega | (simp; try omega)) _ | refine Below.alloc ?_ (by first | omega | (simp; try omega)) _ | refine Below.drew ?_ | refine bDN ?_ | refine bthen ?_ (by assumption))) hb8
 have sw8 : w7.heap.size + 0 ≤ w8.heap.size := by have := hb8.size; (try simp at this); omega
 have H_w8 : Below w.heap.size w w8 := bthen H_w7 gw8
 have f38 : w8.cell? ⟨w5.heap.size, 0, none⟩ = some (.int .i64 (coV n0 n1 x2 x3).1) := (gw8.cell (by first | omega | (simp; try omega))).trans f27
 have f39 : w8.cell? ⟨w5.heap.size, 1, none⟩ = some (.slice ad13 (coV n0 n1 x2 x3).2.length ad13') := (gw8.cell (by first | omega | (simp; try omega))).trans f28
 have z40 : w5.heap.size < w8.heap.size := by omega
 have d41 : opsT.Fx w2.heap.size w3.heap.size w8 [.slice ad2 x2.length ad2'] x2 := d30.below gw8
 have d42 : rowsT.Fx w3.heap.size w4.heap.size w8 [.slice ad7 x3.length ad7'] x3 := d31.below gw8
 have d43 : relT.Fx w4.heap.size w5.heap.size w8 [.int .i64 (coV n0 n1 x2 x3).1, .slice ad13 (coV n0 n1 x2 x3).2.length ad13'] (coV n0 n1 x2 x3) := d32.below gw8
 have d44 : opsT.Fx (w5.heap.size + 1) w6.heap.size w8 [.slice ad23 x2.length ad23'] x2 := d33.below gw8
 have d45 : rowsT.Fx w6.heap.size w7.heap.size w8 [.slice ad34 x3.length ad34'] x3 := d35.below gw8
 clear hb8 H_w7 f27 f28 d30 d31 d32 d33 d35 z29 gw8
 obtain ⟨ad46, ad46', rfl⟩ := fr_pair hc37
 have d47 : relT.Fx w7.heap.size w8.heap.size w8 [.int .i64 (coV n0 n1 x2 x3).1, .slice ad46 (coV n0 n1 x2 x3).2.length ad46'] (coV n0 n1 x2 x3) := (Ty.Fr.mono hc37 (by first | exact Nat.le_refl _ | (simp; try omega))).fx
 clear hc37
 go_wp2_with fail
 refine (eqRel_any _ (d47.rd.below (by repeat (first | exact Below.refl _ _ | exact bA | assumption | refine Below.setCell ?_ (by first | omega | (simp; try omega)) _ | refine Below.alloc ?_ (by first | omega | (simp; try omega)) _ | refine Below.drew ?_ | refine bDN ?_ | refine bthen ?_ (by assumption)))) (d43.rd.below (by repeat (first | exact Below.refl _ _ | exact bA | assumption | refine Below.setCell ?_ (by first | omega | (simp; try omega)) _ | refine Below.alloc ?_ (by first | omega | (simp; try omega)) _ | refine Below.drew ?_ | refine bDN ?_ | refine bthen ?_ (by assumption))))).mono ?_
 rintro e w9 ⟨rfl, hb9⟩
 have gw9 : Below w8.heap.size w8 w9 := bthen (by repeat (first | exact Below.refl _ _ | exact bA | assumption | refine Below.setCell ?_ (by first | omega | (simp; try omega)) _ | refine Below.alloc ?_ (by first | omega | (simp; try omega)) _ | refine Below.drew ?_ | refine bDN ?_ | refine bthen ?_ (by assumption))) hb9
 have sw9 : w8.heap.size + 1 ≤ w9.heap.size := by have := hb9.size; (try simp at this); omega
 have H_w9 : Below w.heap.size w w9 := bthen H_w8 gw9
 have f49 : w9.cell? ⟨w5.heap.size, 0, none⟩ = some (.int .i64 (coV n0 n1 x2 x3).1) := (gw9.cell (by first | omega | (simp; try omega))).trans f38
 have f50 : w9.cell? ⟨w5.heap.size, 1, none⟩ = some (.slice ad13 (coV n0 n1 x2 x3).2.length ad13') := (gw9.cell (by first | omega | (simp; try omega))).trans f39
 have f51 : w9.cell? ⟨w8.heap.size, 0, none⟩ = some (.int .i64 (coV n0 n1 x2 x3).1) := by rw [(bcell hb9).1 _ _ (by first | omega | (simp; try omega))]; first | (simp; done) | simp [go_sem]
 have f52 : w9.cell? ⟨w8.heap.size, 1, none⟩ = some (.slice ad46 (coV n0 n1 x2 x3).2.length ad46') := by rw [(bcell hb9).1 _ _ (by first | omega | (simp; try omega))]; first | (simp; done) | simp [go_sem]
 have z53 : w5.heap.size < w9.heap.size := by omega
 have z54 : w8.heap.size < w9.heap.size := by omega
 have d55 : opsT.Fx w2.heap.size w3.heap.size w9 [.slice ad2 x2.length ad2'] x2 := d41.below gw9
 have d56 : rowsT.Fx w3.heap.size w4.heap.size w9 [.slice ad7 x3.length ad7'] x3 := d42.below gw9
 have d57 : relT.Fx w4.heap.size w5.heap.size w9 [.int .i64 (coV n0 n1 x2 x3).1, .slice ad13 (coV n0 n1 x2 x3).2.length ad13'] (coV n0 n1 x2 x3) := d43.below gw9
 have d58 : opsT.Fx (w5.heap.size + 1) w6.heap.size w9 [.slice ad23 x2.length ad23'] x2 := d44.below gw9
 have d59 : rowsT.Fx w6.heap.size w7.heap.size w9 [.slice ad34 x3.length ad34'] x3 := d45.below gw9
 have d60 : relT.Fx w7.heap.size w8.heap.size w9 [.int .i64 (coV n0 n1 x2 x3).1, .slice ad46 (coV n0 n1 x2 x3).2.length ad46'] (coV n0 n1 x2 x3) := d47.below gw9
 clear hb9 H_w8 f38 f39 d41 d42 d43 d44 d45 d47 z40 gw9
 rw [eqB_true rfl]
 go_wp2_with fail
 refine (toOpS_any _ (hx2.below (by repeat (first | exact Below.refl _ _ | exact bA | assumption | refine Below.setCell ?_ (by first | omega | (simp; try omega)) _ | refine Below.alloc ?_ (by first | omega | (simp; try omega)) _ | refine Below.drew ?_ | refine bDN ?_ | refine bthen ?_ (by assumption)))) (by first | omega | (unfold szInts; omega))).mono ?_
 rintro e w10 ⟨cs, rfl, hc61, hb10⟩
 have gw10 : Below w9.heap.size w9 w10 := bthen (by repeat (first | exact Below.refl _ _ | exact bA | assumption | refine Below.setCell ?_ (by first | omega | (simp; try omega)) _ | refine Below.alloc ?_ (by first | omega | (simp; try omega)) _ | refine Below.drew ?_ | refine bDN ?_ | refine bthen ?_ (by assumption))) hb10
 have sw10 : w9.heap.size + 0 ≤ w10.heap.size := by have := hb10.size; (try simp at this); omega
 have H_w10 : Below w.heap.size w w10 := bthen H_w9 gw10
 have f62 : w10.cell? ⟨w5.heap.size, 0, none⟩ = some (.int .i64 (coV n0 n1 x2 x3).1) := (gw10.cell (by first | omega | (simp; try omega))).trans f49
 have f63 : w10.cell? ⟨w5.heap.size, 1, none⟩ = some (.slice ad13 (coV n0 n1 x2 x3).2.length ad13') := (gw10.cell (by first | omega | (simp; try omega))).trans f50
 have f64 : w10.cell? ⟨w8.heap.size, 0, none⟩ = some (.int .i64 (coV n0 n1 x2 x3).1) := (gw10.cell (by first | omega | (simp; try omega))).trans f51
 have f65 : w10.cell? ⟨w8.heap.size, 1, none⟩ = some (.slice ad46 (coV n0 n1 x2 x3).2.length ad46') := (gw10.cell (by first | omega | (simp; try omega))).trans f52
 have z66 : w5.heap.size < w10.heap.size := by omega
 have z67 : w8.heap.size < w10.heap.size := by omega
 have d68 : opsT.Fx w2.heap.size w3.heap.size w10 [.slice ad2 x2.length ad2'] x2 := d55.below gw10
 have d69 : rowsT.Fx w3.heap.size w4.heap.size w10 [.slice ad7 x3.length ad7'] x3 := d56.below gw10
 have d70 : relT.Fx w4.heap.size w5.heap.size w10 [.int .i64 (coV n0 n1 x2 x3).1, .slice ad13 (coV n0 n1 x2 x3).2.length ad13'] (coV n0 n1 x2 x3) := d57.below gw10
 have d71 : opsT.Fx (w5.heap.size + 1) w6.heap.size w10 [.slice ad23 x2.length ad23'] x2 := d58.below gw10
 have d72 : rowsT.Fx w6.heap.size w7.heap.size w10 [.slice ad34 x3.length ad34'] x3 := d59.below gw10
 have d73 : relT.Fx w7.heap.size w8.heap.size w10 [.int .i64 (coV n0 n1 x2 x3).1, .slice ad46 (coV n0 n1 x2 x3).2.length ad46'] (coV n0 n1 x2 x3) := d60.below gw10
 clear hb10 H_w9 f49 f50 f51 f52 d55 d56 d57 d58 d59 d60 z53 z54 gw10
 obtain ⟨ad74, ad74', rfl⟩ := fr_slice hc61
 have d75 : opsT.Fx w9.heap.size w10.heap.size w10 [.slice ad74 x2.length ad74'] x2 := (Ty.Fr.mono hc61 (by first | exact Nat.le_refl _ | (simp; try omega))).fx
 clear hc61
 go_wp2_with fail
 refine (eqOpS_any _ (d71.rd.below (by repeat (first | exact Below.refl _ _ | exact bA | assumption | refine Below.setCell ?_ (by first | omega | (simp; try omega)) _ | refine Below.alloc ?_ (by first | omega | (simp; try omega)) _ | refine Below.drew ?_ | refine bDN ?_ | refine bthen ?_ (by assumption)))) (d75.rd.below (by repeat (first | exact Below.refl _ _ | exact bA | assumption | refine Below.setCell ?_ (by first | omega | (simp; try omega)) _ | refine Below.alloc ?_ (by first | omega | (simp; try omega)) _ | refine Below.drew ?_ | refine bDN ?_ | refine bthen ?_ (by assumption))))).mono ?_
 rintro e w11 ⟨rfl, hb11⟩
 have gw11 : Below w10.heap.size w10 w11 := bthen (by repeat (first | exact Below.refl _ _ | exact bA | assumption | refine Below.setCell ?_ (by first | omega | (simp; try omega)) _ | refine Below.alloc ?_ (by first | omega | (simp; try omega)) _ | refine Below.drew ?_ | refine bDN ?_ | refine bthen ?_ (by assumption))) hb11
 have sw11 : w10.heap.size + 0 ≤ w11.heap.size := by have := hb11.size; (try simp at this); omega
 have H_w11 : Below w.heap.size w w11 := bthen H_w10 gw11
 have f77 : w11.cell? ⟨w5.heap.size, 0, none⟩ = some (.int .i64 (coV n0 n1 x2 x3).1) := (gw11.cell (by first | omega | (simp; try omega))).trans f62
 have f78 : w11.cell? ⟨w5.heap.size, 1, none⟩ = some (.slice ad13 (coV n0 n1 x2 x3).2.length ad13') := (gw11.cell (by first | omega | (simp; try omega))).trans f63
 have f79 : w11.cell? ⟨w8.heap.size, 0, none⟩ = some (.int .i64 (coV n0 n1 x2 x3).1) := (gw11.cell (by first | omega | (simp; try omega))).trans f64
 have f80 : w11.cell? ⟨w8.heap.size, 1, none⟩ = some (.slice ad46 (coV n0 n1 x2 x3).2.length ad46') := (gw11.cell (by first | omega | (simp; try omega))).trans f65
 have z81 : w5.heap.size < w11.heap.size := by omega
 have z82 : w8.heap.size < w11.heap.size := by omega
 have d83 : opsT.Fx w2.heap.size w3.heap.size w11 [.slice ad2 x2.length ad2'] x2 := d68.below gw11
 have d84 : rowsT.Fx w3.heap.size w4.heap.size w11 [.slice ad7 x3.length ad7'] x3 := d69.below gw11
 have d85 : relT.Fx w4.heap.size w5.heap.size w11 [.int .i64 (coV n0 n1 x2 x3).1, .slice ad13 (coV n0 n1 x2 x3).2.length ad13'] (coV n0 n1 x2 x3) := d70.below gw11
 have d86 : opsT.Fx (w5.heap.size + 1) w6.heap.size w11 [.slice ad23 x2.length ad23'] x2 := d71.below gw11
 have d87 : rowsT.Fx w6.heap.size w7.heap.size w11 [.slice ad34 x3.length ad34'] x3 := d72.below gw11
 have d88 : relT.Fx w7.heap.size w8.heap.size w11 [.int .i64 (coV n0 n1 x2 x3).1, .slice ad46 (coV n0 n1 x2 x3).2.length ad46'] (coV n0 n1 x2 x3) := d73.below gw11
 have d89 : opsT.Fx w9.heap.size w10.heap.size w11 [.slice ad74 x2.length ad74'] x2 := d75.below gw11
 clear hb11 H_w10 f62 f63 f64 f65 d68 d69 d70 d71 d72 d73 d75 z66 z67 gw11
 rw [eqB_true rfl]
 go_wp2_with fail
 refine (toInt64SS_any _ (hx3.below (by repeat (first | exact Below.refl _ _ | exact bA | assumption | refine Below.setCell ?_ (by first | omega | (simp; try omega)) _ | refine Below.alloc ?_ (by first | omega | (simp; try omega)) _ | refine Below.drew ?_ | refine bDN ?_ | refine bthen ?_ (by assumption)))) (by first | omega | (unfold szInts; omega))).mono ?_
 rintro e w12 ⟨cs, rfl, hc90, hb12⟩
 have gw12 : Below w11.heap.size w11 w12 := bthen (by repeat (first | exact Below.refl _ _ | exact bA | assumption | refine Below.setCell ?_ (by first | omega | (simp; try omega)) _ | refine Below.alloc ?_ (by first | omega | (simp; try omega)) _ | refine Below.drew ?_ | refine bDN ?_ | refine bthen ?_ (by assumption))) hb12
 have sw12 : w11.heap.size + 0 ≤ w12.heap.size := by have := hb12.size; (try simp at this); omega
 have H_w12 : Below w.heap.size w w12 := bthen H_w11 gw12
 have f91 : w12.cell? ⟨w5.heap.size, 0, none⟩ = some (.int .i64 (coV n0 n1 x2 x3).1) := (gw12.cell (by first | omega | (simp; try omega))).trans f77
 have f92 : w12.cell? ⟨w5.heap.size, 1, none⟩ = some (.slice ad13 (coV n0 n1 x2 x3).2.length ad13') := (gw12.cell (by first | omega | (simp; try omega))).trans f78
 have f93 : w12.cell? ⟨w8.heap.size, 0, none⟩ = some (.int .i64 (coV n0 n1 x2 x3).1) := (gw12.cell (by first | omega | (simp; try omega))).trans f79
 have f94 : w12.cell? ⟨w8.heap.size, 1, none⟩ = some (.slice ad46 (coV n0 n1 x2 x3).2.length ad46') := (gw12.cell (by first | omega | (simp; try omega))).trans f80
 have z95 : w5.heap.size < w12.heap.size := by omega
 have z96 : w8.heap.size < w12.heap.size := by omega
 have d97 : opsT.Fx w2.heap.size w3.heap.size w12 [.slice ad2 x2.length ad2'] x2 := d83.below gw12
 have d98 : rowsT.Fx w3.heap.size w4.heap.size w12 [.slice ad7 x3.length ad7'] x3 := d84.below gw12
 have d99 : relT.Fx w4.heap.size w5.heap.size w12 [.int .i64 (coV n0 n1 x2 x3).1, .slice ad13 (coV n0 n1 x2 x3).2.length ad13'] (coV n0 n1 x2 x3) := d85.below gw12
 have d100 : opsT.Fx (w5.heap.size + 1) w6.heap.size w12 [.slice ad23 x2.length ad23'] x2 := d86.below gw12
 have d101 : rowsT.Fx w6.heap.size w7.heap.size w12 [.slice ad34 x3.length ad34'] x3 := d87.below gw12
 have d102 : relT.Fx w7.heap.size w8.heap.size w12 [.int .i64 (coV n0 n1 x2 x3).1, .slice ad46 (coV n0 n1 x2 x3).2.length ad46'] (coV n0 n1 x2 x3) := d88.below gw12
 have d103 : opsT.Fx w9.heap.size w10.heap.size w12 [.slice ad74 x2.length ad74'] x2 := d89.below gw12
 clear hb12 H_w11 f77 f78 f79 f80 d83 d84 d85 d86 d87 d88 d89 z81 z82 gw12
 obtain ⟨ad104, ad104', rfl⟩ := fr_slice hc90
 have d105 : rowsT.Fx w11.heap.size w12.heap.size w12 [.slice ad104 x3.length ad104'] x3 := (Ty.Fr.mono hc90 (by first | exact Nat.le_refl _ | (simp; try omega))).fx
 clear hc90
 go_wp2_with fail
 refine (eqInt64SS_any _ (d101.rd.below (by repeat (first | exact Below.refl _ _ | exact bA | assumption | refine Below.setCell ?_ (by first | omega | (simp; try omega)) _ | refine Below.alloc ?_ (by first | omega | (simp; try omega)) _ | refine Below.drew ?_ | refine bDN ?_ | refine bthen ?_ (by assumption)))) (d105.rd.below (by repeat (first | exact Below.refl _ _ | exact bA | assumption | refine Below.setCell ?_ (by first | omega | (simp; try omega)) _ | refine Below.alloc ?_ (by first | omega | (simp; try omega)) _ | refine Below.drew ?_ | refine bDN ?_ | refine bthen ?_ (by assumption))))).mono ?_
 rintro e w13 ⟨rfl, hb13⟩
 have gw13 : Below w12.heap.size w12 w13 := bthen (by repeat (first | exact Below.refl _ _ | exact bA | assumption | refine Below.setCell ?_ (by first | omega | (simp; try omega)) _ | refine Below.alloc ?_ (by first | omega | (simp; try omega)) _ | refine Below.drew ?_ | refine bDN ?_ | refine bthen ?_ (by assumption))) hb13
 have sw13 : w12.heap.size + 0 ≤ w13.heap.size := by have := hb13.size; (try simp at this); omega
 have H_w13 : Below w.heap.size w w13 := bthen H_w12 gw13
 have f107 : w13.cell? ⟨w5.heap.size, 0, none⟩ = some (.int .i64 (coV n0 n1 x2 x3).1) := (gw13.cell (by first | omega | (simp; try omega))).trans f91
 have f108 : w13.cell? ⟨w5.heap.size, 1, none⟩ = some (.slice ad13 (coV n0 n1 x2 x3).2.length ad13') := (gw13.cell (by first | omega | (simp; try omega))).trans f92
 have f109 : w13.cell? ⟨w8.heap.size, 0, none⟩ = some (.int .i64 (coV n0 n1 x2 x3).1) := (gw13.cell (by first | omega | (simp; try omega))).trans f93
 have f110 : w13.cell? ⟨w8.heap.size, 1, none⟩ = some (.slice ad46 (coV n0 n1 x2 x3).2.length ad46') := (gw13.cell (by first | omega | (simp; try omega))).trans f94
 have z111 : w5.heap.size < w13.heap.size := by omega
 have z112 : w8.heap.size < w13.heap.size := by omega
 have d113 : opsT.Fx w2.heap.size w3.heap.size w13 [.slice ad2 x2.length ad2'] x2 := d97.below gw13
 have d114 : rowsT.Fx w3.heap.size w4.heap.size w13 [.slice ad7 x3.length ad7'] x3 := d98.below gw13
 have d115 : relT.Fx w4.heap.size w5.heap.size w13 [.int .i64 (coV n0 n1 x2 x3).1, .slice ad13 (coV n0 n1 x2 x3).2.length ad13'] (coV n0 n1 x2 x3) := d99.below gw13
 have d116 : opsT.Fx (w5.heap.size + 1) w6.heap.size w13 [.slice ad23 x2.length ad23'] x2 := d100.below gw13
 have d117 : rowsT.Fx w6.heap.size w7.heap.size w13 [.slice ad34 x3.length ad34'] x3 := d101.below gw13
 have d118 : relT.Fx w7.heap.size w8.heap.size w13 [.int .i64 (coV n0 n1 x2 x3).1, .slice ad46 (coV n0 n1 x2 x3).2.length ad46'] (coV n0 n1 x2 x3) := d102.below gw13
 have d119 : opsT.Fx w9.heap.size w10.heap.size w13 [.slice ad74 x2.length ad74'] x2 := d103.below gw13
 have d120 : rowsT.Fx w11.heap.size w12.heap.size w13 [.slice ad104 x3.length ad104'] x3 := d105.below gw13
 clear hb13 H_w12 f91 f92 f93 f94 d97 d98 d99 d100 d101 d102 d103 d105 z95 z96 gw13
 rw [eqB_true rfl]
 go_wp2_with fail
 refine (markOpS_fx _ d116 _ (by omega) (by omega)).mono ?_
 rintro e w14 ⟨rfl, hb14, d121⟩
 clear d116
 have sw14 : w13.heap.size ≤ w14.heap.size := hb14.size
 have H_w14 : Below w.heap.size w w14 := below_tch H_w13 hb14 (by omega) (by omega)
 have f122 : w14.cell? ⟨w5.heap.size, 0, none⟩ = some (.int .i64 (coV n0 n1 x2 x3).1) := (hb14.cell (by omega) (by omega)).trans f107
 have f123 : w14.cell? ⟨w5.heap.size, 1, none⟩ = some (.slice ad13 (coV n0 n1 x2 x3).2.length ad13') := (hb14.cell (by omega) (by omega)).trans f108
 have f124 : w14.cell? ⟨w8.heap.size, 0, none⟩ = some (.int .i64 (coV n0 n1 x2 x3).1) := (hb14.cell (by omega) (by omega)).trans f109
 have f125 : w14.cell? ⟨w8.heap.size, 1, none⟩ = some (.slice ad46 (coV n0 n1 x2 x3).2.length ad46') := (hb14.cell (by omega) (by omega)).trans f110
 have z126 : w5.heap.size < w14.heap.size := by omega
 have z127 : w8.heap.size < w14.heap.size := by omega
 have d128 : opsT.Fx w2.heap.size w3.heap.size w14 [.slice ad2 x2.length ad2'] x2 := d113.tch hb14 (by omega)
 have d129 : rowsT.Fx w3.heap.size w4.heap.size w14 [.slice ad7 x3.length ad7'] x3 := d114.tch hb14 (by omega)
 have d130 : relT.Fx w4.heap.size w5.heap.size w14 [.int .i64 (coV n0 n1 x2 x3).1, .slice ad13 (coV n0 n1 x2 x3).2.length ad13'] (coV n0 n1 x2 x3) := d115.tch hb14 (by omega)
 have d131 : rowsT.Fx w6.heap.size w7.heap.size w14 [.slice ad34 x3.length ad34'] x3 := d117.tch hb14 (by omega)
 have d132 : relT.Fx w7.heap.size w8.heap.size w14 [.int .i64 (coV n0 n1 x2 x3).1, .slice ad46 (coV n0 n1 x2 x3).2.length ad46'] (coV n0 n1 x2 x3) := d118.tch hb14 (by omega)
 have d133 : opsT.Fx w9.heap.size w10.heap.size w14 [.slice ad74 x2.length ad74'] x2 := d119.tch hb14 (by omega)
 have d134 : rowsT.Fx w11.heap.size w12.heap.size w14 [.slice ad104 x3.length ad104'] x3 := d120.tch hb14 (by omega)
 clear hb14 H_w13 f107 f108 f109 f110 d113 d114 d115 d117 d118 d119 d120 z111 z112
 have hk135 : 0 ≤ (1 + cntOps x2) := by omega
 go_wp2_with fail
 refine (markInt64SS_fx _ d131 _ (by omega) (by omega)).mono ?_
 rintro e w15 ⟨rfl, hb15, d136⟩
 clear d131
 have sw15 : w14.heap.size ≤ w15.heap.size := hb15.size
 have H_w15 : Below w.heap.size w w15 := below_tch H_w14 hb15 (by omega) (by omega)
 have f137 : w15.cell? ⟨w5.heap.size, 0, none⟩ = some (.int .i64 (coV n0 n1 x2 x3).1) := (hb15.cell (by omega) (by omega)).trans f122
 have f138 : w15.cell? ⟨w5.heap.size, 1, none⟩ = some (.slice ad13 (coV n0 n1 x2 x3).2.length ad13') := (hb15.cell (by omega) (by omega)).trans f123
 have f139 : w15.cell? ⟨w8.heap.size, 0, none⟩ = some (.int .i64 (coV n0 n1 x2 x3).1) := (hb15.cell (by omega) (by omega)).trans f124
 have f140 : w15.cell? ⟨w8.heap.size, 1, none⟩ = some (.slice ad46 (coV n0 n1 x2 x3).2.length ad46') := (hb15.cell (by omega) (by omega)).trans f125
 have z141 : w5.heap.size < w15.heap.size := by omega
 have z142 : w8.heap.size < w15.heap.size := by omega
 have d143 : opsT.Fx w2.heap.size w3.heap.size w15 [.slice ad2 x2.length ad2'] x2 := d128.tch hb15 (by omega)
 have d144 : rowsT.Fx w3.heap.size w4.heap.size w15 [.slice ad7 x3.length ad7'] x3 := d129.tch hb15 (by omega)
 have d145 : relT.Fx w4.heap.size w5.heap.size w15 [.int .i64 (coV n0 n1 x2 x3).1, .slice ad13 (coV n0 n1 x2 x3).2.length ad13'] (coV n0 n1 x2 x3) := d130.tch hb15 (by omega)
 have d146 : opsT.Fx (w5.heap.size + 1) w6.heap.size w15 [.slice ad23 x2.length ad23'] (mkOps 1 x2) := d121.tch hb15 (by omega)
 have d147 : relT.Fx w7.heap.size w8.heap.size w15 [.int .i64 (coV n0 n1 x2 x3).1, .slice ad46 (coV n0 n1 x2 x3).2.length ad46'] (coV n0 n1 x2 x3) := d132.tch hb15 (by omega)
 have d148 : opsT.Fx w9.heap.size w10.heap.size w15 [.slice ad74 x2.length ad74'] x2 := d133.tch hb15 (by omega)
 have d149 : rowsT.Fx w11.heap.size w12.heap.size w15 [.slice ad104 x3.length ad104'] x3 := d134.tch hb15 (by omega)
 clear hb15 H_w14 f122 f123 f124 f125 d128 d129 d130 d121 d132 d133 d134 z126 z127
 have hk150 : 0 ≤ ((1 + cntOps x2) + cntRows x3) := by omega
 go_wp2_with fail
 refine (eqRel_any _ (d147.rd.below (by repeat (first | exact Below.refl _ _ | exact bA | assumption | refine Below.setCell ?_ (by first | omega | (simp; try omega)) _ | refine Below.alloc ?_ (by first | omega | (simp; try omega)) _ | refine Below.drew ?_ | refine bDN ?_ | refine bthen ?_ (by assumption)))) (d145.rd.below (by repeat (first | exact Below.refl _ _ | exact bA | assumption | refine Below.setCell ?_ (by first | omega | (simp; try omega)) _ | refine Below.alloc ?_ (by first | omega | (simp; try omega)) _ | refine Below.drew ?_ | refine bDN ?_ | refine bthen ?_ (by assumption))))).mono ?_
 rintro e w16 ⟨rfl, hb16⟩
 have gw16 : Below w15.heap.size w15 w16 := bthen (by repeat (first | exact Below.refl _ _ | exact bA | assumption | refine Below.setCell ?_ (by first | omega | (simp; try omega)) _ | refine Below.alloc ?_ (by first | omega | (simp; try omega)) _ | refine Below.drew ?_ | refine bDN ?_ | refine bthen ?_ (by assumption))) hb16
 have sw16 : w15.heap.size + 0 ≤ w16.heap.size := by have := hb16.size; (try simp at this); omega
 have H_w16 : Below w.heap.size w w16 := bthen H_w15 gw16
 have f151 : w16.cell? ⟨w5.heap.size, 0, none⟩ = some (.int .i64 (coV n0 n1 x2 x3).1) := (gw16.cell (by first | omega | (simp; try omega))).trans f137
 have f152 : w16.cell? ⟨w5.heap.size, 1, none⟩ = some (.slice ad13 (coV n0 n1 x2 x3).2.length ad13') := (gw16.cell (by first | omega | (simp; try omega))).trans f138
 have f153 : w16.cell? ⟨w8.heap.size, 0, none⟩ = some (.int .i64 (coV n0 n1 x2 x3).1) := (gw16.cell (by first | omega | (simp; try omega))).trans f139
 have f154 : w16.cell? ⟨w8.heap.size, 1, none⟩ = some (.slice ad46 (coV n0 n1 x2 x3).2.length ad46') := (gw16.cell (by first | omega | (simp; try omega))).trans f140
 have z155 : w5.heap.size < w16.heap.size := by omega
 have z156 : w8.heap.size < w16.heap.size := by omega
 have d157 : opsT.Fx w2.heap.size w3.heap.size w16 [.slice ad2 x2.length ad2'] x2 := d143.below gw16
 have d158 : rowsT.Fx w3.heap.size w4.heap.size w16 [.slice ad7 x3.length ad7'] x3 := d144.below gw16
 have d159 : relT.Fx w4.heap.size w5.heap.size w16 [.int .i64 (coV n0 n1 x2 x3).1, .slice ad13 (coV n0 n1 x2 x3).2.length ad13'] (coV n0 n1 x2 x3) := d145.below gw16
 have d160 : opsT.Fx (w5.heap.size + 1) w6.heap.size w16 [.slice ad23 x2.length ad23'] (mkOps 1 x2) := d146.below gw16
 have d161 : rowsT.Fx w6.heap.size w7.heap.size w16 [.slice ad34 x3.length ad34'] (mkRows (1 + cntOps x2) x3) := d136.below gw16
 have d162 : relT.Fx w7.heap.size w8.heap.size w16 [.int .i64 (coV n0 n1 x2 x3).1, .slice ad46 (coV n0 n1 x2 x3).2.length ad46'] (coV n0 n1 x2 x3) := d147.below gw16
 have d163 : opsT.Fx w9.heap.size w10.heap.size w16 [.slice ad74 x2.length ad74'] x2 := d148.below gw16
 have d164 : rowsT.Fx w11.heap.size w12.heap.size w16 [.slice ad104 x3.length ad104'] x3 := d149.below gw16
 clear hb16 H_w15 f137 f138 f139 f140 d143 d144 d145 d146 d136 d147 d148 d149 z141 z142 gw16
 rw [eqB_true rfl]
 go_wp2_with fail
 refine (markRel_fx _ d162 _ (by omega) (by omega)).mono ?_
 rintro e w17 ⟨rfl, hb17, d165⟩
 clear d162
 have sw17 : w16.heap.size ≤ w17.heap.size := hb17.size
 have H_w17 : Below w.heap.size w w17 := below_tch H_w16 hb17 (by omega) (by omega)
 have f166 : w17.cell? ⟨w5.heap.size, 0, none⟩ = some (.int .i64 (coV n0 n1 x2 x3).1) := (hb17.cell (by omega) (by omega)).trans f151
 have f167 : w17.cell? ⟨w5.heap.size, 1, none⟩ = some (.slice ad13 (coV n0 n1 x2 x3).2.length ad13') := (hb17.cell (by omega) (by omega)).trans f152
 have f168 : w17.cell? ⟨w8.heap.size, 0, none⟩ = some (.int .i64 (coV n0 n1 x2 x3).1) := (hb17.cell (by omega) (by omega)).trans f153
 have f169 : w17.cell? ⟨w8.heap.size, 1, none⟩ = some (.slice ad46 (coV n0 n1 x2 x3).2.length ad46') := (hb17.cell (by omega) (by omega)).trans f154
 have z170 : w5.heap.size < w17.heap.size := by omega
 have z171 : w8.heap.size < w17.heap.size := by omega
 have d172 : opsT.Fx w2.heap.size w3.heap.size w17 [.slice ad2 x2.length ad2'] x2 := d157.tch hb17 (by omega)
 have d173 : rowsT.Fx w3.heap.size w4.heap.size w17 [.slice ad7 x3.length ad7'] x3 := d158.tch hb17 (by omega)
 have d174 : relT.Fx w4.heap.size w5.heap.size w17 [.int .i64 (coV n0 n1 x2 x3).1, .slice ad13 (coV n0 n1 x2 x3).2.length ad13'] (coV n0 n1 x2 x3) := d159.tch hb17 (by omega)
 have d175 : opsT.Fx (w5.heap.size + 1) w6.heap.size w17 [.slice ad23 x2.length ad23'] (mkOps 1 x2) := d160.tch hb17 (by omega)
 have d176 : rowsT.Fx w6.heap.size w7.heap.size w17 [.slice ad34 x3.length ad34'] (mkRows (1 + cntOps x2) x3) := d161.tch hb17 (by omega)
 have d177 : opsT.Fx w9.heap.size w10.heap.size w17 [.slice ad74 x2.length ad74'] x2 := d163.tch hb17 (by omega)
 have d178 : rowsT.Fx w11.heap.size w12.heap.size w17 [.slice ad104 x3.length ad104'] x3 := d164.tch hb17 (by omega)
 clear hb17 H_w16 f151 f152 f153 f154 d157 d158 d159 d160 d161 d163 d164 z155 z156
 have hk179 : 0 ≤ (1 + cntRel (coV n0 n1 x2 x3)) := by omega
 go_wp2_with fail
 refine (heldRel_any _ _ d165.rd (by omega) (by omega)).mono ?_
 rintro e w18 ⟨rfl, hb18⟩
 have gw18 : Below w17.heap.size w17 w18 := bthen (by repeat (first | exact Below.refl _ _ | exact bA | assumption | refine Below.setCell ?_ (by first | omega | (simp; try omega)) _ | refine Below.alloc ?_ (by first | omega | (simp; try omega)) _ | refine Below.drew ?_ | refine bDN ?_ | refine bthen ?_ (by assumption))) hb18
 have sw18 : w17.heap.size + 0 ≤ w18.heap.size := by have := hb18.size; (try simp at this); omega
 have H_w18 : Below w.heap.size w w18 := bthen H_w17 gw18
 have f180 : w18.cell? ⟨w5.heap.size, 0, none⟩ = some (.int .i64 (coV n0 n1 x2 x3).1) := (gw18.cell (by first | omega | (simp; try omega))).trans f166
 have f181 : w18.cell? ⟨w5.heap.size, 1, none⟩ = some (.slice ad13 (coV n0 n1 x2 x3).2.length ad13') := (gw18.cell (by first | omega | (simp; try omega))).trans f167
 have f182 : w18.cell? ⟨w8.heap.size, 0, none⟩ = some (.int .i64 (coV n0 n1 x2 x3).1) := (gw18.cell (by first | omega | (simp; try omega))).trans f168
 have f183 : w18.cell? ⟨w8.heap.size, 1, none⟩ = some (.slice ad46 (coV n0 n1 x2 x3).2.length ad46') := (gw18.cell (by first | omega | (simp; try omega))).trans f169
 have z184 : w5.heap.size < w18.heap.size := by omega
 have z185 : w8.heap.size < w18.heap.size := by omega
 have d186 : opsT.Fx w2.heap.size w3.heap.size w18 [.slice ad2 x2.length ad2'] x2 := d172.below gw18
 have d187 : rowsT.Fx w3.heap.size w4.heap.size w18 [.slice ad7 x3.length ad7'] x3 := d173.below gw18
 have d188 : relT.Fx w4.heap.size w5.heap.size w18 [.int .i64 (coV n0 n1 x2 x3).1, .slice ad13 (coV n0 n1 x2 x3).2.length ad13'] (coV n0 n1 x2 x3) := d174.below gw18
 have d189 : opsT.Fx (w5.heap.size + 1) w6.heap.size w18 [.slice ad23 x2.length ad23'] (mkOps 1 x2) := d175.below gw18
 have d190 : rowsT.Fx w6.heap.size w7.heap.size w18 [.slice ad34 x3.length ad34'] (mkRows (1 + cntOps x2) x3) := d176.below gw18
 have d191 : relT.Fx w7.heap.size w8.heap.size w18 [.int .i64 (coV n0 n1 x2 x3).1, .slice ad46 (coV n0 n1 x2 x3).2.length ad46'] (mkRel 1 (coV n0 n1 x2 x3)) := d165.below gw18
 have d192 : opsT.Fx w9.heap.size w10.heap.size w18 [.slice ad74 x2.length ad74'] x2 := d177.below gw18
 have d193 : rowsT.Fx w11.heap.size w12.heap.size w18 [.slice ad104 x3.length ad104'] x3 := d178.below gw18
 clear hb18 H_w17 f166 f167 f168 f169 d172 d173 d174 d175 d176 d165 d177 d178 z170 z171 gw18
 go_wp2_with fail
 refine (toOpS_any _ (hx2.below (by repeat (first | exact Below.refl _ _ | exact bA | assumption | refine Below.setCell ?_ (by first | omega | (simp; try omega)) _ | refine Below.alloc ?_ (by first | omega | (simp; try omega)) _ | refine Below.drew ?_ | refine bDN ?_ | refine bthen ?_ (by assumption)))) (by first | omega | (unfold szInts; omega))).mono ?_
 rintro e w19 ⟨cs, rfl, hc194, hb19⟩
 have gw19 : Below w18.heap.size w18 w19 := bthen (by repeat (first | exact Below.refl _ _ | exact bA | assumption | refine Below.setCell ?_ (by first | omega | (simp; try omega)) _ | refine Below.alloc ?_ (by first | omega | (simp; try omega)) _ | refine Below.drew ?_ | refine bDN ?_ | refine bthen ?_ (by assumption))) hb19
 have sw19 : w18.heap.size + 0 ≤ w19.heap.size := by have := hb19.size; (try simp at this); omega
 have H_w19 : Below w.heap.size w w19 := bthen H_w18 gw19
 have f195 : w19.cell? ⟨w5.heap.size, 0, none⟩ = some (.int .i64 (coV n0 n1 x2 x3).1) := (gw19.cell (by first | omega | (simp; try omega))).trans f180
 have f196 : w19.cell? ⟨w5.heap.size, 1, none⟩ = some (.slice ad13 (coV n0 n1 x2 x3).2.length ad13') := (gw19.cell (by first | omega | (simp; try omega))).trans f181
 have f197 : w19.cell? ⟨w8.heap.size, 0, none⟩ = some (.int .i64 (coV n0 n1 x2 x3).1) := (gw19.cell (by first | omega | (simp; try omega))).trans f182
 have f198 : w19.cell? ⟨w8.heap.size, 1, none⟩ = some (.slice ad46 (coV n0 n1 x2 x3).2.length ad46') := (gw19.cell (by first | omega | (simp; try omega))).trans f183
 have z199 : w5.heap.size < w19.heap.size := by omega
 have z200 : w8.heap.size < w19.heap.size := by omega
 have d201 : opsT.Fx w2.heap.size w3.heap.size w19 [.slice ad2 x2.length ad2'] x2 := d186.below gw19
 have d202 : rowsT.Fx w3.heap.size w4.heap.size w19 [.slice ad7 x3.length ad7'] x3 := d187.below gw19
 have d203 : relT.Fx w4.heap.size w5.heap.size w19 [.int .i64 (coV n0 n1 x2 x3).1, .slice ad13 (coV n0 n1 x2 x3).2.length ad13'] (coV n0 n1 x2 x3) := d188.below gw19
 have d204 : opsT.Fx (w5.heap.size + 1) w6.heap.size w19 [.slice ad23 x2.length ad23'] (mkOps 1 x2) := d189.below gw19
 have d205 : rowsT.Fx w6.heap.size w7.heap.size w19 [.slice ad34 x3.length ad34'] (mkRows (1 + cntOps x2) x3) := d190.below gw19
 have d206 : relT.Fx w7.heap.size w8.heap.size w19 [.int .i64 (coV n0 n1 x2 x3).1, .slice ad46 (coV n0 n1 x2 x3).2.length ad46'] (mkRel 1 (coV n0 n1 x2 x3)) := d191.below gw19
 have d207 : opsT.Fx w9.heap.size w10.heap.size w19 [.slice ad74 x2.length ad74'] x2 := d192.below gw19
 have d208 : rowsT.Fx w11.heap.size w12.heap.size w19 [.slice ad104 x3.length ad104'] x3 := d193.below gw19
 clear hb19 H_w18 f180 f181 f182 f183 d186 d187 d188 d189 d190 d191 d192 d193 z184 z185 gw19
 obtain ⟨ad209, ad209', rfl⟩ := fr_slice hc194
 have d210 : opsT.Fx w18.heap.size w19.heap.size w19 [.slice ad209 x2.length ad209'] x2 := (Ty.Fr.mono hc194 (by first | exact Nat.le_refl _ | (simp; try omega))).fx
 clear hc194
 go_wp2_with fail
 refine (toInt64SS_any _ (hx3.below (by repeat (first | exact Below.refl _ _ | exact bA | assumption | refine Below.setCell ?_ (by first | omega | (simp; try omega)) _ | refine Below.alloc ?_ (by first | omega | (simp; try omega)) _ | refine Below.drew ?_ | refine bDN ?_ | refine bthen ?_ (by assumption)))) (by first | omega | (unfold szInts; omega))).mono ?_
 rintro e w20 ⟨cs, rfl, hc212, hb20⟩
 have gw20 : Below w19.heap.size w19 w20 := bthen (by repeat (first | exact Below.refl _ _ | exact bA | assumption | refine Below.setCell ?_ (by first | omega | (simp; try omega)) _ | refine Below.alloc ?_ (by first | omega | (simp; try omega)) _ | refine Below.drew ?_ | refine bDN ?_ | refine bthen ?_ (by assumption))) hb20
 have sw20 : w19.heap.size + 0 ≤ w20.heap.size := by have := hb20.size; (try simp at this); omega
 have H_w20 : Below w.heap.size w w20 := bthen H_w19 gw20
 have f213 : w20.cell? ⟨w5.heap.size, 0, none⟩ = some (.int .i64 (coV n0 n1 x2 x3).1) := (gw20.cell (by first | omega | (simp; try omega))).trans f195
 have f214 : w20.cell? ⟨w5.heap.size, 1, none⟩ = some (.slice ad13 (coV n0 n1 x2 x3).2.length ad13') := (gw20.cell (by first | omega | (simp; try omega))).trans f196
 have f215 : w20.cell? ⟨w8.heap.size, 0, none⟩ = some (.int .i64 (coV n0 n1 x2 x3).1) := (gw20.cell (by first | omega | (simp; try omega))).trans f197
 have f216 : w20.cell? ⟨w8.heap.size, 1, none⟩ = some (.slice ad46 (coV n0 n1 x2 x3).2.length ad46') := (gw20.cell (by first | omega | (simp; try omega))).trans f198
 have z217 : w5.heap.size < w20.heap.size := by omega
 have z218 : w8.heap.size < w20.heap.size := by omega
 have d219 : opsT.Fx w2.heap.size w3.heap.size w20 [.slice ad2 x2.length ad2'] x2 := d201.below gw20
 have d220 : rowsT.Fx w3.heap.size w4.heap.size w20 [.slice ad7 x3.length ad7'] x3 := d202.below gw20
 have d221 : relT.Fx w4.heap.size w5.heap.size w20 [.int .i64 (coV n0 n1 x2 x3).1, .slice ad13 (coV n0 n1 x2 x3).2.length ad13'] (coV n0 n1 x2 x3) := d203.below gw20
 have d222 : opsT.Fx (w5.heap.size + 1) w6.heap.size w20 [.slice ad23 x2.length ad23'] (mkOps 1 x2) := d204.below gw20
 have d223 : rowsT.Fx w6.heap.size w7.heap.size w20 [.slice ad34 x3.length ad34'] (mkRows (1 + cntOps x2) x3) := d205.below gw20
 have d224 : relT.Fx w7.heap.size w8.heap.size w20 [.int .i64 (coV n0 n1 x2 x3).1, .slice ad46 (coV n0 n1 x2 x3).2.length ad46'] (mkRel 1 (coV n0 n1 x2 x3)) := d206.below gw20
 have d225 : opsT.Fx w9.heap.size w10.heap.size w20 [.slice ad74 x2.length ad74'] x2 := d207.below gw20
 have d226 : rowsT.Fx w11.heap.size w12.heap.size w20 [.slice ad104 x3.length ad104'] x3 := d208.below gw20
 have d227 : opsT.Fx w18.heap.size w19.heap.size w20 [.slice ad209 x2.length ad209'] x2 := d210.below gw20
 clear hb20 H_w19 f195 f196 f197 f198 d201 d202 d203 d204 d205 d206 d207 d208 d210 z199 z200 gw20
 obtain ⟨ad228, ad228', rfl⟩ := fr_slice hc212
 have d229 : rowsT.Fx w19.heap.size w20.heap.size w20 [.slice ad228 x3.length ad228'] x3 := (Ty.Fr.mono hc212 (by first | exact Nat.le_refl _ | (simp; try omega))).fx
 clear hc212
 go_wp2_with fail
 refine (ClosureOf_at _ (d227.rd.below (by repeat (first | exact Below.refl _ _ | exact bA | assumption | refine Below.setCell ?_ (by first | omega | (simp; try omega)) _ | refine Below.alloc ?_ (by first | omega | (simp; try omega)) _ | refine Below.drew ?_ | refine bDN ?_ | refine bthen ?_ (by assumption)))) (d229.rd.below (by repeat (first | exact Below.refl _ _ | exact bA | assumption | refine Below.setCell ?_ (by first | omega | (simp; try omega)) _ | refine Below.alloc ?_ (by first | omega | (simp; try omega)) _ | refine Below.drew ?_ | refine bDN ?_ | refine bthen ?_ (by assumption)))) (by omega)).mono ?_
 rintro e w21 ⟨cs, rfl, hc231, hb21⟩
 have gw21 : Below w20.heap.size w20 w21 := bthen (by repeat (first | exact Below.refl _ _ | exact bA | assumption | refine Below.setCell ?_ (by first | omega | (simp; try omega)) _ | refine Below.alloc ?_ (by first | omega | (simp; try omega)) _ | refine Below.drew ?_ | refine bDN ?_ | refine bthen ?_ (by assumption))) hb21
 have sw21 : w20.heap.size + 0 ≤ w21.heap.size := by have := hb21.size; (try simp at this); omega
 have H_w21 : Below w.heap.size w w21 := bthen H_w20 gw21
 have f232 : w21.cell? ⟨w5.heap.size, 0, none⟩ = some (.int .i64 (coV n0 n1 x2 x3).1) := (gw21.cell (by first | omega | (simp; try omega))).trans f213
 have f233 : w21.cell? ⟨w5.heap.size, 1, none⟩ = some (.slice ad13 (coV n0 n1 x2 x3).2.length ad13') := (gw21.cell (by first | omega | (simp; try omega))).trans f214
 have f234 : w21.cell? ⟨w8.heap.size, 0, none⟩ = some (.int .i64 (coV n0 n1 x2 x3).1) := (gw21.cell (by first | omega | (simp; try omega))).trans f215
 have f235 : w21.cell? ⟨w8.heap.size, 1, none⟩ = some (.slice ad46 (coV n0 n1 x2 x3).2.length ad46') := (gw21.cell (by first | omega | (simp; try omega))).trans f216
 have z236 : w5.heap.size < w21.heap.size := by omega
 have z237 : w8.heap.size < w21.heap.size := by omega
 have d238 : opsT.Fx w2.heap.size w3.heap.size w21 [.slice ad2 x2.length ad2'] x2 := d219.below gw21
 have d239 : rowsT.Fx w3.heap.size w4.heap.size w21 [.slice ad7 x3.length ad7'] x3 := d220.below gw21
 have d240 : relT.Fx w4.heap.size w5.heap.size w21 [.int .i64 (coV n0 n1 x2 x3).1, .slice ad13 (coV n0 n1 x2 x3).2.length ad13'] (coV n0 n1 x2 x3) := d221.below gw21
 have d241 : opsT.Fx (w5.heap.size + 1) w6.heap.size w21 [.slice ad23 x2.length ad23'] (mkOps 1 x2) := d222.below gw21
 have d242 : rowsT.Fx w6.heap.size w7.heap.size w21 [.slice ad34 x3.length ad34'] (mkRows (1 + cntOps x2) x3) := d223.below gw21
 have d243 : relT.Fx w7.heap.size w8.heap.size w21 [.int .i64 (coV n0 n1 x2 x3).1, .slice ad46 (coV n0 n1 x2 x3).2.length ad46'] (mkRel 1 (coV n0 n1 x2 x3)) := d224.below gw21
 have d244 : opsT.Fx w9.heap.size w10.heap.size w21 [.slice ad74 x2.length ad74'] x2 := d225.below gw21
 have d245 : rowsT.Fx w11.heap.size w12.heap.size w21 [.slice ad104 x3.length ad104'] x3 := d226.below gw21
 have d246 : opsT.Fx w18.heap.size w19.heap.size w21 [.slice ad209 x2.length ad209'] x2 := d227.below gw21
 have d247 : rowsT.Fx w19.heap.size w20.heap.size w21 [.slice ad228 x3.length ad228'] x3 := d229.below gw21
 clear hb21 H_w20 f213 f214 f215 f216 d219 d220 d221 d222 d223 d224 d225 d226 d227 d229 z217 z218 gw21
 obtain ⟨ad248, ad248', rfl⟩ := fr_pair hc231
 have d249 : relT.Fx w20.heap.size w21.heap.size w21 [.int .i64 (coV n0 n1 x2 x3).1, .slice ad248 (coV n0 n1 x2 x3).2.length ad248'] (coV n0 n1 x2 x3) := (Ty.Fr.mono hc231 (by first | exact Nat.le_refl _ | (simp; try omega))).fx
 clear hc231
 go_wp2_with fail
 refine (eqRel_any _ (d249.rd.below (by repeat (first | exact Below.refl _ _ | exact bA | assumption | refine Below.setCell ?_ (by first | omega | (simp; try omega)) _ | refine Below.alloc ?_ (by first | omega | (simp; try omega)) _ | refine Below.drew ?_ | refine bDN ?_ | refine bthen ?_ (by assumption)))) (d240.rd.below (by repeat (first | exact Below.refl _ _ | exact bA | assumption | refine Below.setCell ?_ (by first | omega | (simp; try omega)) _ | refine Below.alloc ?_ (by first | omega | (simp; try omega)) _ | refine Below.drew ?_ | refine bDN ?_ | refine bthen ?_ (by assumption))))).mono ?_
 rintro e w22 ⟨rfl, hb22⟩
 have gw22 : Below w21.heap.size w21 w22 := bthen (by repeat (first | exact Below.refl _ _ | exact bA | assumption | refine Below.setCell ?_ (by first | omega | (simp; try omega)) _ | refine Below.alloc ?_ (by first | omega | (simp; try omega)) _ | refine Below.drew ?_ | refine bDN ?_ | refine bthen ?_ (by assumption))) hb22
 have sw22 : w21.heap.size + 1 ≤ w22.heap.size := by have := hb22.size; (try simp at this); omega
 have H_w22 : Below w.heap.size w w22 := bthen H_w21 gw22
 have f251 : w22.cell? ⟨w5.heap.size, 0, none⟩ = some (.int .i64 (coV n0 n1 x2 x3).1) := (gw22.cell (by first | omega | (simp; try omega))).trans f232
 have f252 : w22.cell? ⟨w5.heap.size, 1, none⟩ = some (.slice ad13 (coV n0 n1 x2 x3).2.length ad13') := (gw22.cell (by first | omega | (simp; try omega))).trans f233
 have f253 : w22.cell? ⟨w8.heap.size, 0, none⟩ = some (.int .i64 (coV n0 n1 x2 x3).1) := (gw22.cell (by first | omega | (simp; try omega))).trans f234
 have f254 : w22.cell? ⟨w8.heap.size, 1, none⟩ = some (.slice ad46 (coV n0 n1 x2 x3).2.length ad46') := (gw22.cell (by first | omega | (simp; try omega))).trans f235
 have f255 : w22.cell? ⟨w21.heap.size, 0, none⟩ = some (.int .i64 (coV n0 n1 x2 x3).1) := by rw [(bcell hb22).1 _ _ (by first | omega | (simp; try omega))]; first | (simp; done) | simp [go_sem]
 have f256 : w22.cell? ⟨w21.heap.size, 1, none⟩ = some (.slice ad248 (coV n0 n1 x2 x3).2.length ad248') := by rw [(bcell hb22).1 _ _ (by first | omega | (simp; try omega))]; first | (simp; done) | simp [go_sem]
 have z257 : w5.heap.size < w22.heap.size := by omega
 have z258 : w8.heap.size < w22.heap.size := by omega
 have z259 : w21.heap.size < w22.heap.size := by omega
 have d260 : opsT.Fx w2.heap.size w3.heap.size w22 [.slice ad2 x2.length ad2'] x2 := d238.below gw22
 have d261 : rowsT.Fx w3.heap.size w4.heap.size w22 [.slice ad7 x3.length ad7'] x3 := d239.below gw22
 have d262 : relT.Fx w4.heap.size w5.heap.size w22 [.int .i64 (coV n0 n1 x2 x3).1, .slice ad13 (coV n0 n1 x2 x3).2.length ad13'] (coV n0 n1 x2 x3) := d240.below gw22
 have d263 : opsT.Fx (w5.heap.size + 1) w6.heap.size w22 [.slice ad23 x2.length ad23'] (mkOps 1 x2) := d241.below gw22
 have d264 : rowsT.Fx w6.heap.size w7.heap.size w22 [.slice ad34 x3.length ad34'] (mkRows (1 + cntOps x2) x3) := d242.below gw22
 have d265 : relT.Fx w7.heap.size w8.heap.size w22 [.int .i64 (coV n0 n1 x2 x3).1, .slice ad46 (coV n0 n1 x2 x3).2.length ad46'] (mkRel 1 (coV n0 n1 x2 x3)) := d243.below gw22
 have d266 : opsT.Fx w9.heap.size w10.heap.size w22 [.slice ad74 x2.length ad74'] x2 := d244.below gw22
 have d267 : rowsT.Fx w11.heap.size w12.heap.size w22 [.slice ad104 x3.length ad104'] x3 := d245.below gw22
 have d268 : opsT.Fx w18.heap.size w19.heap.size w22 [.slice ad209 x2.length ad209'] x2 := d246.below gw22
 have d269 : rowsT.Fx w19.heap.size w20.heap.size w22 [.slice ad228 x3.length ad228'] x3 := d247.below gw22
 have d270 : relT.Fx w20.heap.size w21.heap.size w22 [.int .i64 (coV n0 n1 x2 x3).1, .slice ad248 (coV n0 n1 x2 x3).2.length ad248'] (coV n0 n1 x2 x3) := d249.below gw22
 clear hb22 H_w21 f232 f233 f234 f235 d238 d239 d240 d241 d242 d243 d244 d245 d246 d247 d249 z236 z237 gw22
 rw [eqB_true rfl]
 go_wp2_with fail
 refine (heldRel_any _ _ d265.rd (by omega) (by omega)).mono ?_
 rintro e w23 ⟨rfl, hb23⟩
 have gw23 : Below w22.heap.size w22 w23 := bthen (by repeat (first | exact Below.refl _ _ | exact bA | assumption | refine Below.setCell ?_ (by first | omega | (simp; try omega)) _ | refine Below.alloc ?_ (by first | omega | (simp; try omega)) _ | refine Below.drew ?_ | refine bDN ?_ | refine bthen ?_ (by assumption))) hb23
 have sw23 : w22.heap.size + 0 ≤ w23.heap.size := by have := hb23.size; (try simp at this); omega
 have H_w23 : Below w.heap.size w w23 := bthen H_w22 gw23
 have f271 : w23.cell? ⟨w5.heap.size, 0, none⟩ = some (.int .i64 (coV n0 n1 x2 x3).1) := (gw23.cell (by first | omega | (simp; try omega))).trans f251
 have f272 : w23.cell? ⟨w5.heap.size, 1, none⟩ = some (.slice ad13 (coV n0 n1 x2 x3).2.length ad13') := (gw23.cell (by first | omega | (simp; try omega))).trans f252
 have f273 : w23.cell? ⟨w8.heap.size, 0, none⟩ = some (.int .i64 (coV n0 n1 x2 x3).1) := (gw23.cell (by first | omega | (simp; try omega))).trans f253
 have f274 : w23.cell? ⟨w8.heap.size, 1, none⟩ = some (.slice ad46 (coV n0 n1 x2 x3).2.length ad46') := (gw23.cell (by first | omega | (simp; try omega))).trans f254
 have f275 : w23.cell? ⟨w21.heap.size, 0, none⟩ = some (.int .i64 (coV n0 n1 x2 x3).1) := (gw23.cell (by first | omega | (simp; try omega))).trans f255
 have f276 : w23.cell? ⟨w21.heap.size, 1, none⟩ = some (.slice ad248 (coV n0 n1 x2 x3).2.length ad248') := (gw23.cell (by first | omega | (simp; try omega))).trans f256
 have z277 : w5.heap.size < w23.heap.size := by omega
 have z278 : w8.heap.size < w23.heap.size := by omega
 have z279 : w21.heap.size < w23.heap.size := by omega
 have d280 : opsT.Fx w2.heap.size w3.heap.size w23 [.slice ad2 x2.length ad2'] x2 := d260.below gw23
 have d281 : rowsT.Fx w3.heap.size w4.heap.size w23 [.slice ad7 x3.length ad7'] x3 := d261.below gw23
 have d282 : relT.Fx w4.heap.size w5.heap.size w23 [.int .i64 (coV n0 n1 x2 x3).1, .slice ad13 (coV n0 n1 x2 x3).2.length ad13'] (coV n0 n1 x2 x3) := d262.below gw23
 have d283 : opsT.Fx (w5.heap.size + 1) w6.heap.size w23 [.slice ad23 x2.length ad23'] (mkOps 1 x2) := d263.below gw23
 have d284 : rowsT.Fx w6.heap.size w7.heap.size w23 [.slice ad34 x3.length ad34'] (mkRows (1 + cntOps x2) x3) := d264.below gw23
 have d285 : relT.Fx w7.heap.size w8.heap.size w23 [.int .i64 (coV n0 n1 x2 x3).1, .slice ad46 (coV n0 n1 x2 x3).2.length ad46'] (mkRel 1 (coV n0 n1 x2 x3)) := d265.below gw23
 have d286 : opsT.Fx w9.heap.size w10.heap.size w23 [.slice ad74 x2.length ad74'] x2 := d266.below gw23
 have d287 : rowsT.Fx w11.heap.size w12.heap.size w23 [.slice ad104 x3.length ad104'] x3 := d267.below gw23
 have d288 : opsT.Fx w18.heap.size w19.heap.size w23 [.slice ad209 x2.length ad209'] x2 := d268.below gw23
 have d289 : rowsT.Fx w19.heap.size w20.heap.size w23 [.slice ad228 x3.length ad228'] x3 := d269.below gw23
 have d290 : relT.Fx w20.heap.size w21.heap.size w23 [.int .i64 (coV n0 n1 x2 x3).1, .slice ad248 (coV n0 n1 x2 x3).2.length ad248'] (coV n0 n1 x2 x3) := d270.below gw23
 clear hb23 H_w22 f251 f252 f253 f254 f255 f256 d260 d261 d262 d263 d264 d265 d266 d267 d268 d269 d270 z257 z258 z259 gw23
 go_wp2_with fail
 go_ret
 exact ⟨rfl, (by repeat (first | exact Below.refl _ _ | exact bA | assumption | refine Below.setCell ?_ (by first | omega | (simp; try omega)) _ | refine Below.alloc ?_ (by first | omega | (simp; try omega)) _ | refine Below.drew ?_ | refine bDN ?_ | refine bthen ?_ (by assumption)))⟩
end Go.Proofs.YtggelmbnliajeaaGreatDoor
