/-
  The law FnExactPolymorphismWith, walked: its contract.
-/
import Derived.Test.YtccobadobklbpaaQBC
import Derived.Test.YtccobadobklbpaaQAC
import Derived.Test.YtccobadobklbpaaQBD
namespace Go.Proofs.Ytccobadobklbpaa
open Go.RowKit Go.Sort
set_option maxHeartbeats 6400000 in
set_option maxRecDepth 100000 in
theorem fnExactPolymorphismWith_any (w : World) {c0 : Array Value} {x0 : Int × List (Int × List (List Int))} (h0 : tplT.Rd w c0.toList x0) {n1 : Int} (_h1 : I64 n1) {v2 : Value} {x2 : List (List Int)} (h2 : rowsT.Rd w [v2] x2) {v3 : Value} {x3 : List Int} (h3 : intsT.Rd w [v3] x3) :
    Calls Try.prog 3 #[.agg c0, .int .i64 n1, v2, v3] w fun e w' => e = .returned (.bool true) ∧ Below w.heap.size w w' := by
  have hx0 := h0
  obtain ⟨u0, hv0, -, hy0⟩ := pair_ex h0
  obtain rfl := agg_of hv0
  clear hv0 h0
  have hn0 := szTpl_nn x0
  have hcn0 : cntTpl x0 ≤ szTpl x0 := cntRels_sz x0.2
  have hcz0 : 0 ≤ cntTpl x0 := cntRels_nn x0.2
  have hx2 := h2
  obtain ⟨ad2, cap2, rfl⟩ := rd_slice hx2
  clear h2
  have hn2 := szRows_nn x2
  have hcn2 : cntRows x2 ≤ szRows x2 := cntRows_sz x2
  have hcz2 : 0 ≤ cntRows x2 := cntRows_nn x2
  have hx3 := h3
  obtain ⟨ad3, cap3, rfl⟩ := rd_slice hx3
  clear h3
  have hn3 := szInts_nn x3
  have hcn3 : cntI x3 ≤ szInts x3 := cntI_sz x3
  have hcz3 : 0 ≤ cntI x3 := cntI_nn x3
  have H_w : Below w.heap.size w w := Below.refl _ _
  rcases ilt 1048576 (x3.length : Int) with hl1 | hl1
  · have hl : decide (1048576 < (x3.length : Int)) = true := by simpa using hl1
    go_enter Try.func3, Try.ntmps3
    go_wp2_with fail
    go_ret
    exact ⟨rfl, (by repeat (first | exact Below.refl _ _ | exact bA | assumption | refine Below.setCell ?_ (by first | omega | (simp; try omega)) _ | refine Below.alloc ?_ (by first | omega | (simp; try omega)) _ | refine Below.drew ?_ | refine bDN ?_ | refine bthen ?_ (by assumption)))⟩
  have hd1 : decide (1048576 < (x3.length : Int)) = false := by simp; omega
  have hle1 : cntI x3 ≤ 1048576 := hl1
  go_enter Try.func3, Try.ntmps3
  go_wp2_with fail
  refine (szTemplate_any _ (hx0.below (by repeat (first | exact Below.refl _ _ | exact bA | assumption | refine Below.setCell ?_ (by first | omega | (simp; try omega)) _ | refine Below.alloc ?_ (by first | omega | (simp; try omega)) _ | refine Below.drew ?_ | refine bDN ?_ | refine bthen ?_ (by assumption)))) _ (by omega) (by omega)).mono ?_
  rintro e w1 ⟨rfl, hb1⟩
  have gw1 : Below w.heap.size w w1 := bthen (by repeat (first | exact Below.refl _ _ | exact bA | assumption | refine Below.setCell ?_ (by first | omega | (simp; try omega)) _ | refine Below.alloc ?_ (by first | omega | (simp; try omega)) _ | refine Below.drew ?_ | refine bDN ?_ | refine bthen ?_ (by assumption))) hb1
  have sw1 : w.heap.size + 1 ≤ w1.heap.size := by have := hb1.size; (try simp at this); omega
  have H_w1 : Below w.heap.size w w1 := bthen H_w gw1
  have f1 : w1.cell? ⟨w.heap.size, 0, none⟩ = some (.int .i64 x0.1) := by rw [(bcell hb1).1 _ _ (by first | omega | (simp; try omega))]; first | (simp; done) | simp [go_sem]
  have f2 : w1.cell? ⟨w.heap.size, 1, none⟩ = some (u0) := by rw [(bcell hb1).1 _ _ (by first | omega | (simp; try omega))]; first | (simp; done) | simp [go_sem]
  have z3 : w.heap.size < w1.heap.size := by omega
  clear hb1 gw1
  rcases ilt 1048576 (szTpl x0) with hl4 | hl4
  · rw [szR_lt hl4]
    go_wp2_with fail
    go_ret
    exact ⟨rfl, (by repeat (first | exact Below.refl _ _ | exact bA | assumption | refine Below.setCell ?_ (by first | omega | (simp; try omega)) _ | refine Below.alloc ?_ (by first | omega | (simp; try omega)) _ | refine Below.drew ?_ | refine bDN ?_ | refine bthen ?_ (by assumption)))⟩
  rw [szR_ge hl4]
  go_wp2_with fail
  refine (szInt64SS_any _ (hx2.below (by repeat (first | exact Below.refl _ _ | exact bA | assumption | refine Below.setCell ?_ (by first | omega | (simp; try omega)) _ | refine Below.alloc ?_ (by first | omega | (simp; try omega)) _ | refine Below.drew ?_ | refine bDN ?_ | refine bthen ?_ (by assumption)))) _ (by omega) (by omega)).mono ?_
  rintro e w2 ⟨rfl, hb2⟩
  have gw2 : Below w1.heap.size w1 w2 := bthen (by repeat (first | exact Below.refl _ _ | exact bA | assumption | refine Below.setCell ?_ (by first | omega | (simp; try omega)) _ | refine Below.alloc ?_ (by first | omega | (simp; try omega)) _ | refine Below.drew ?_ | refine bDN ?_ | refine bthen ?_ (by assumption))) hb2
  have sw2 : w1.heap.size + 0 ≤ w2.heap.size := by have := hb2.size; (try simp at this); omega
  have H_w2 : Below w.heap.size w w2 := bthen H_w1 gw2
  have f4 : w2.cell? ⟨w.heap.size, 0, none⟩ = some (.int .i64 x0.1) := (gw2.cell (by first | omega | (simp; try omega))).trans f1
  have f5 : w2.cell? ⟨w.heap.size, 1, none⟩ = some (u0) := (gw2.cell (by first | omega | (simp; try omega))).trans f2
  have z6 : w.heap.size < w2.heap.size := by omega
  clear hb2 H_w1 f1 f2 z3 gw2
  rcases ilt (1048576 - szTpl x0) (szRows x2) with hl7 | hl7
  · rw [szR_lt hl7]
    go_wp2_with fail
    go_ret
    exact ⟨rfl, (by repeat (first | exact Below.refl _ _ | exact bA | assumption | refine Below.setCell ?_ (by first | omega | (simp; try omega)) _ | refine Below.alloc ?_ (by first | omega | (simp; try omega)) _ | refine Below.drew ?_ | refine bDN ?_ | refine bthen ?_ (by assumption)))⟩
  rw [szR_ge hl7]
  go_wp2_with fail
  refine (toTemplate_any _ (hx0.below (by repeat (first | exact Below.refl _ _ | exact bA | assumption | refine Below.setCell ?_ (by first | omega | (simp; try omega)) _ | refine Below.alloc ?_ (by first | omega | (simp; try omega)) _ | refine Below.drew ?_ | refine bDN ?_ | refine bthen ?_ (by assumption)))) (by first | omega | (unfold szInts; omega))).mono ?_
  rintro e w3 ⟨cs, rfl, hc7, hb3⟩
  have gw3 : Below w2.heap.size w2 w3 := bthen (by repeat (first | exact Below.refl _ _ | exact bA | assumption | refine Below.setCell ?_ (by first | omega | (simp; try omega)) _ | refine Below.alloc ?_ (by first | omega | (simp; try omega)) _ | refine Below.drew ?_ | refine bDN ?_ | refine bthen ?_ (by assumption))) hb3
  have sw3 : w2.heap.size + 0 ≤ w3.heap.size := by have := hb3.size; (try simp at this); omega
  have H_w3 : Below w.heap.size w w3 := bthen H_w2 gw3
  have f8 : w3.cell? ⟨w.heap.size, 0, none⟩ = some (.int .i64 x0.1) := (gw3.cell (by first | omega | (simp; try omega))).trans f4
  have f9 : w3.cell? ⟨w.heap.size, 1, none⟩ = some (u0) := (gw3.cell (by first | omega | (simp; try omega))).trans f5
  have z10 : w.heap.size < w3.heap.size := by omega
  clear hb3 H_w2 f4 f5 z6 gw3
  obtain ⟨ad11, ad11', rfl⟩ := fr_pair hc7
  have d12 : tplT.Fx w2.heap.size w3.heap.size w3 [.int .i64 x0.1, .slice ad11 x0.2.length ad11'] x0 := (Ty.Fr.mono hc7 (by first | exact Nat.le_refl _ | (simp; try omega))).fx
  clear hc7
  go_wp2_with fail
  refine (toInt64SS_any _ (hx2.below (by repeat (first | exact Below.refl _ _ | exact bA | assumption | refine Below.setCell ?_ (by first | omega | (simp; try omega)) _ | refine Below.alloc ?_ (by first | omega | (simp; try omega)) _ | refine Below.drew ?_ | refine bDN ?_ | refine bthen ?_ (by assumption)))) (by first | omega | (unfold szInts; omega))).mono ?_
  rintro e w4 ⟨cs, rfl, hc14, hb4⟩
  have gw4 : Below w3.heap.size w3 w4 := bthen (by repeat (first | exact Below.refl _ _ | exact bA | assumption | refine Below.setCell ?_ (by first | omega | (simp; try omega)) _ | refine Below.alloc ?_ (by first | omega | (simp; try omega)) _ | refine Below.drew ?_ | refine bDN ?_ | refine bthen ?_ (by assumption))) hb4
  have sw4 : w3.heap.size + 0 ≤ w4.heap.size := by have := hb4.size; (try simp at this); omega
  have H_w4 : Below w.heap.size w w4 := bthen H_w3 gw4
  have f15 : w4.cell? ⟨w.heap.size, 0, none⟩ = some (.int .i64 x0.1) := (gw4.cell (by first | omega | (simp; try omega))).trans f8
  have f16 : w4.cell? ⟨w.heap.size, 1, none⟩ = some (u0) := (gw4.cell (by first | omega | (simp; try omega))).trans f9
  have z17 : w.heap.size < w4.heap.size := by omega
  have d18 : tplT.Fx w2.heap.size w3.heap.size w4 [.int .i64 x0.1, .slice ad11 x0.2.length ad11'] x0 := d12.below gw4
  clear hb4 H_w3 f8 f9 d12 z10 gw4
  obtain ⟨ad19, ad19', rfl⟩ := fr_slice hc14
  have d20 : rowsT.Fx w3.heap.size w4.heap.size w4 [.slice ad19 x2.length ad19'] x2 := (Ty.Fr.mono hc14 (by first | exact Nat.le_refl _ | (simp; try omega))).fx
  clear hc14
  go_wp2_with fail
  refine (toInt64S_any _ (hx3.below (by repeat (first | exact Below.refl _ _ | exact bA | assumption | refine Below.setCell ?_ (by first | omega | (simp; try omega)) _ | refine Below.alloc ?_ (by first | omega | (simp; try omega)) _ | refine Below.drew ?_ | refine bDN ?_ | refine bthen ?_ (by assumption)))) (by first | omega | (unfold szInts; omega))).mono ?_
  rintro e w5 ⟨cs, rfl, hc22, hb5⟩
  have gw5 : Below w4.heap.size w4 w5 := bthen (by repeat (first | exact Below.refl _ _ | exact bA | assumption | refine Below.setCell ?_ (by first | omega | (simp; try omega)) _ | refine Below.alloc ?_ (by first | omega | (simp; try omega)) _ | refine Below.drew ?_ | refine bDN ?_ | refine bthen ?_ (by assumption))) hb5
  have sw5 : w4.heap.size + 0 ≤ w5.heap.size := by have := hb5.size; (try simp at this); omega
  have H_w5 : Below w.heap.size w w5 := bthen H_w4 gw5
  have f23 : w5.cell? ⟨w.heap.size, 0, none⟩ = some (.int .i64 x0.1) := (gw5.cell (by first | omega | (simp; try omega))).trans f15
  have f24 : w5.cell? ⟨w.heap.size, 1, none⟩ = some (u0) := (gw5.cell (by first | omega | (simp; try omega))).trans f16
  have z25 : w.heap.size < w5.heap.size := by omega
  have d26 : tplT.Fx w2.heap.size w3.heap.size w5 [.int .i64 x0.1, .slice ad11 x0.2.length ad11'] x0 := d18.below gw5
  have d27 : rowsT.Fx w3.heap.size w4.heap.size w5 [.slice ad19 x2.length ad19'] x2 := d20.below gw5
  clear hb5 H_w4 f15 f16 d18 d20 z17 gw5
  obtain ⟨ad28, ad28', rfl⟩ := fr_slice hc22
  have d29 : intsT.Fx w4.heap.size w5.heap.size w5 [.slice ad28 x3.length ad28'] x3 := (Ty.Fr.mono hc22 (by first | exact Nat.le_refl _ | (simp; try omega))).fx
  clear hc22
  go_wp2_with fail
  have hcr1 : cntOp (pwV x0 n1 x2 x3) ≤ 1000000000 := (Int.le_trans pw_cnt (by omega))
  have hcrz1 : 0 ≤ cntOp (pwV x0 n1 x2 x3) := cntI_nn _
  refine (specPolymorphismWith_any _ (d26.rd.below (by repeat (first | exact Below.refl _ _ | exact bA | assumption | refine Below.setCell ?_ (by first | omega | (simp; try omega)) _ | refine Below.alloc ?_ (by first | omega | (simp; try omega)) _ | refine Below.drew ?_ | refine bDN ?_ | refine bthen ?_ (by assumption)))) (d27.rd.below (by repeat (first | exact Below.refl _ _ | exact bA | assumption | refine Below.setCell ?_ (by first | omega | (simp; try omega)) _ | refine Below.alloc ?_ (by first | omega | (simp; try omega)) _ | refine Below.drew ?_ | refine bDN ?_ | refine bthen ?_ (by assumption)))) (d29.rd.below (by repeat (first | exact Below.refl _ _ | exact bA | assumption | refine Below.setCell ?_ (by first | omega | (simp; try omega)) _ | refine Below.alloc ?_ (by first | omega | (simp; try omega)) _ | refine Below.drew ?_ | refine bDN ?_ | refine bthen ?_ (by assumption))))).mono ?_
  rintro e w6 ⟨cs, rfl, hc31, hb6⟩
  have gw6 : Below w5.heap.size w5 w6 := bthen (by repeat (first | exact Below.refl _ _ | exact bA | assumption | refine Below.setCell ?_ (by first | omega | (simp; try omega)) _ | refine Below.alloc ?_ (by first | omega | (simp; try omega)) _ | refine Below.drew ?_ | refine bDN ?_ | refine bthen ?_ (by assumption))) hb6
  have sw6 : w5.heap.size + 0 ≤ w6.heap.size := by have := hb6.size; (try simp at this); omega
  have H_w6 : Below w.heap.size w w6 := bthen H_w5 gw6
  have f32 : w6.cell? ⟨w.heap.size, 0, none⟩ = some (.int .i64 x0.1) := (gw6.cell (by first | omega | (simp; try omega))).trans f23
  have f33 : w6.cell? ⟨w.heap.size, 1, none⟩ = some (u0) := (gw6.cell (by first | omega | (simp; try omega))).trans f24
  have z34 : w.heap.size < w6.heap.size := by omega
  have d35 : tplT.Fx w2.heap.size w3.heap.size w6 [.int .i64 x0.1, .slice ad11 x0.2.length ad11'] x0 := d26.below gw6
  have d36 : rowsT.Fx w3.heap.size w4.heap.size w6 [.slice ad19 x2.length ad19'] x2 := d27.below gw6
  have d37 : intsT.Fx w4.heap.size w5.heap.size w6 [.slice ad28 x3.length ad28'] x3 := d29.below gw6
  clear hb6 H_w5 f23 f24 d26 d27 d29 z25 gw6
  obtain ⟨ad38, ad38', rfl⟩ := fr_pair hc31
  have d39 : opT.Fx w5.heap.size w6.heap.size w6 [.int .i64 (pwV x0 n1 x2 x3).1, .slice ad38 (pwV x0 n1 x2 x3).2.length ad38'] (pwV x0 n1 x2 x3) := (Ty.Fr.mono hc31 (by first | exact Nat.le_refl _ | (simp; try omega))).fx
  clear hc31
  go_wp2_with fail
  refine (toTemplate_any _ (hx0.below (by repeat (first | exact Below.refl _ _ | exact bA | assumption | refine Below.setCell ?_ (by first | omega | (simp; try omega)) _ | refine Below.alloc ?_ (by first | omega | (simp; try omega)) _ | refine Below.drew ?_ | refine bDN ?_ | refine bthen ?_ (by assumption)))) (by first | omega | (unfold szInts; omega))).mono ?_
  rintro e w7 ⟨cs, rfl, hc41, hb7⟩
  have gw7 : Below w6.heap.size w6 w7 := bthen (by repeat (first | exact Below.refl _ _ | exact bA | assumption | refine Below.setCell ?_ (by first | omega | (simp; try omega)) _ | refine Below.alloc ?_ (by first | omega | (simp; try omega)) _ | refine Below.drew ?_ | refine bDN ?_ | refine bthen ?_ (by assumption))) hb7
  have sw7 : w6.heap.size + 1 ≤ w7.heap.size := by have := hb7.size; (try simp at this); omega
  have H_w7 : Below w.heap.size w w7 := bthen H_w6 gw7
  have f42 : w7.cell? ⟨w.heap.size, 0, none⟩ = some (.int .i64 x0.1) := (gw7.cell (by first | omega | (simp; try omega))).trans f32
  have f43 : w7.cell? ⟨w.heap.size, 1, none⟩ = some (u0) := (gw7.cell (by first | omega | (simp; try omega))).trans f33
  have f44 : w7.cell? ⟨w6.heap.size, 0, none⟩ = some (.int .i64 (pwV x0 n1 x2 x3).1) := by rw [(bcell hb7).1 _ _ (by first | omega | (simp; try omega))]; first | (simp; done) | simp [go_sem]
  have f45 : w7.cell? ⟨w6.heap.size, 1, none⟩ = some (.slice ad38 (pwV x0 n1 x2 x3).2.length ad38') := by rw [(bcell hb7).1 _ _ (by first | omega | (simp; try omega))]; first | (simp; done) | simp [go_sem]
  have z46 : w.heap.size < w7.heap.size := by omega
  have z47 : w6.heap.size < w7.heap.size := by omega
  have d48 : tplT.Fx w2.heap.size w3.heap.size w7 [.int .i64 x0.1, .slice ad11 x0.2.length ad11'] x0 := d35.below gw7
  have d49 : rowsT.Fx w3.heap.size w4.heap.size w7 [.slice ad19 x2.length ad19'] x2 := d36.below gw7
  have d50 : intsT.Fx w4.heap.size w5.heap.size w7 [.slice ad28 x3.length ad28'] x3 := d37.below gw7
  have d51 : opT.Fx w5.heap.size w6.heap.size w7 [.int .i64 (pwV x0 n1 x2 x3).1, .slice ad38 (pwV x0 n1 x2 x3).2.length ad38'] (pwV x0 n1 x2 x3) := d39.below gw7
  clear hb7 H_w6 f32 f33 d35 d36 d37 d39 z34 gw7
  obtain ⟨ad52, ad52', rfl⟩ := fr_pair hc41
  have d53 : tplT.Fx (w6.heap.size + 1) w7.heap.size w7 [.int .i64 x0.1, .slice ad52 x0.2.length ad52'] x0 := (Ty.Fr.mono hc41 (by first | exact Nat.le_refl _ | (simp; try omega))).fx
  clear hc41
  go_wp2_with fail
  refine (toInt64SS_any _ (hx2.below (by repeat (first | exact Below.refl _ _ | exact bA | assumption | refine Below.setCell ?_ (by first | omega | (simp; try omega)) _ | refine Below.alloc ?_ (by first | omega | (simp; try omega)) _ | refine Below.drew ?_ | refine bDN ?_ | refine bthen ?_ (by assumption)))) (by first | omega | (unfold szInts; omega))).mono ?_
  rintro e w8 ⟨cs, rfl, hc55, hb8⟩
  have gw8 : Below w7.heap.size w7 w8 := bthen (by repeat (first | exact Below.refl _ _ | exact bA | assumption | refine Below.setCell ?_ (by first | omega | (simp; try omega)) _ | refine Below.alloc ?_ (by first | omega | (simp; try omega)) _ | refine Below.drew ?_ | refine bDN ?_ | refine bthen ?_ (by assumption))) hb8
  have sw8 : w7.heap.size + 1 ≤ w8.heap.size := by have := hb8.size; (try simp at this); omega
  have H_w8 : Below w.heap.size w w8 := bthen H_w7 gw8
  have f56 : w8.cell? ⟨w.heap.size, 0, none⟩ = some (.int .i64 x0.1) := (gw8.cell (by first | omega | (simp; try omega))).trans f42
  have f57 : w8.cell? ⟨w.heap.size, 1, none⟩ = some (u0) := (gw8.cell (by first | omega | (simp; try omega))).trans f43
  have f58 : w8.cell? ⟨w6.heap.size, 0, none⟩ = some (.int .i64 (pwV x0 n1 x2 x3).1) := (gw8.cell (by first | omega | (simp; try omega))).trans f44
  have f59 : w8.cell? ⟨w6.heap.size, 1, none⟩ = some (.slice ad38 (pwV x0 n1 x2 x3).2.length ad38') := (gw8.cell (by first | omega | (simp; try omega))).trans f45
  have f60 : w8.cell? ⟨w7.heap.size, 0, none⟩ = some (.int .i64 x0.1) := by rw [(bcell hb8).1 _ _ (by first | omega | (simp; try omega))]; first | (simp; done) | simp [go_sem]
  have f61 : w8.cell? ⟨w7.heap.size, 1, none⟩ = some (.slice ad52 x0.2.length ad52') := by rw [(bcell hb8).1 _ _ (by first | omega | (simp; try omega))]; first | (simp; done) | simp [go_sem]
  have z62 : w.heap.size < w8.heap.size := by omega
  have z63 : w6.heap.size < w8.heap.size := by omega
  have z64 : w7.heap.size < w8.heap.size := by omega
  have d65 : tplT.Fx w2.heap.size w3.heap.size w8 [.int .i64 x0.1, .slice ad11 x0.2.length ad11'] x0 := d48.below gw8
  have d66 : rowsT.Fx w3.heap.size w4.heap.size w8 [.slice ad19 x2.length ad19'] x2 := d49.below gw8
  have d67 : intsT.Fx w4.heap.size w5.heap.size w8 [.slice ad28 x3.length ad28'] x3 := d50.below gw8
  have d68 : opT.Fx w5.heap.size w6.heap.size w8 [.int .i64 (pwV x0 n1 x2 x3).1, .slice ad38 (pwV x0 n1 x2 x3).2.length ad38'] (pwV x0 n1 x2 x3) := d51.below gw8
  have d69 : tplT.Fx (w6.heap.size + 1) w7.heap.size w8 [.int .i64 x0.1, .slice ad52 x0.2.length ad52'] x0 := d53.below gw8
  clear hb8 H_w7 f42 f43 f44 f45 d48 d49 d50 d51 d53 z46 z47 gw8
  obtain ⟨ad70, ad70', rfl⟩ := fr_slice hc55
  have d71 : rowsT.Fx (w7.heap.size + 1) w8.heap.size w8 [.slice ad70 x2.length ad70'] x2 := (Ty.Fr.mono hc55 (by first | exact Nat.le_refl _ | (simp; try omega))).fx
  clear hc55
  go_wp2_with fail
  refine (toInt64S_any _ (hx3.below (by repeat (first | exact Below.refl _ _ | exact bA | assumption | refine Below.setCell ?_ (by first | omega | (simp; try omega)) _ | refine Below.alloc ?_ (by first | omega | (simp; try omega)) _ | refine Below.drew ?_ | refine bDN ?_ | refine bthen ?_ (by assumption)))) (by first | omega | (unfold szInts; omega))).mono ?_
  rintro e w9 ⟨cs, rfl, hc73, hb9⟩
  have gw9 : Below w8.heap.size w8 w9 := bthen (by repeat (first | exact Below.refl _ _ | exact bA | assumption | refine Below.setCell ?_ (by first | omega | (simp; try omega)) _ | refine Below.alloc ?_ (by first | omega | (simp; try omega)) _ | refine Below.drew ?_ | refine bDN ?_ | refine bthen ?_ (by assumption))) hb9
  have sw9 : w8.heap.size + 0 ≤ w9.heap.size := by have := hb9.size; (try simp at this); omega
  have H_w9 : Below w.heap.size w w9 := bthen H_w8 gw9
  have f74 : w9.cell? ⟨w.heap.size, 0, none⟩ = some (.int .i64 x0.1) := (gw9.cell (by first | omega | (simp; try omega))).trans f56
  have f75 : w9.cell? ⟨w.heap.size, 1, none⟩ = some (u0) := (gw9.cell (by first | omega | (simp; try omega))).trans f57
  have f76 : w9.cell? ⟨w6.heap.size, 0, none⟩ = some (.int .i64 (pwV x0 n1 x2 x3).1) := (gw9.cell (by first | omega | (simp; try omega))).trans f58
  have f77 : w9.cell? ⟨w6.heap.size, 1, none⟩ = some (.slice ad38 (pwV x0 n1 x2 x3).2.length ad38') := (gw9.cell (by first | omega | (simp; try omega))).trans f59
  have f78 : w9.cell? ⟨w7.heap.size, 0, none⟩ = some (.int .i64 x0.1) := (gw9.cell (by first | omega | (simp; try omega))).trans f60
  have f79 : w9.cell? ⟨w7.heap.size, 1, none⟩ = some (.slice ad52 x0.2.length ad52') := (gw9.cell (by first | omega | (simp; try omega))).trans f61
  have z80 : w.heap.size < w9.heap.size := by omega
  have z81 : w6.heap.size < w9.heap.size := by omega
  have z82 : w7.heap.size < w9.heap.size := by omega
  have d83 : tplT.Fx w2.heap.size w3.heap.size w9 [.int .i64 x0.1, .slice ad11 x0.2.length ad11'] x0 := d65.below gw9
  have d84 : rowsT.Fx w3.heap.size w4.heap.size w9 [.slice ad19 x2.length ad19'] x2 := d66.below gw9
  have d85 : intsT.Fx w4.heap.size w5.heap.size w9 [.slice ad28 x3.length ad28'] x3 := d67.below gw9
  have d86 : opT.Fx w5.heap.size w6.heap.size w9 [.int .i64 (pwV x0 n1 x2 x3).1, .slice ad38 (pwV x0 n1 x2 x3).2.length ad38'] (pwV x0 n1 x2 x3) := d68.below gw9
  have d87 : tplT.Fx (w6.heap.size + 1) w7.heap.size w9 [.int .i64 x0.1, .slice ad52 x0.2.length ad52'] x0 := d69.below gw9
  have d88 : rowsT.Fx (w7.heap.size + 1) w8.heap.size w9 [.slice ad70 x2.length ad70'] x2 := d71.below gw9
  clear hb9 H_w8 f56 f57 f58 f59 f60 f61 d65 d66 d67 d68 d69 d71 z62 z63 z64 gw9
  obtain ⟨ad89, ad89', rfl⟩ := fr_slice hc73
  have d90 : intsT.Fx w8.heap.size w9.heap.size w9 [.slice ad89 x3.length ad89'] x3 := (Ty.Fr.mono hc73 (by first | exact Nat.le_refl _ | (simp; try omega))).fx
  clear hc73
  go_wp2_with fail
  refine (PolymorphismWith_any _ (d87.rd.below (by repeat (first | exact Below.refl _ _ | exact bA | assumption | refine Below.setCell ?_ (by first | omega | (simp; try omega)) _ | refine Below.alloc ?_ (by first | omega | (simp; try omega)) _ | refine Below.drew ?_ | refine bDN ?_ | refine bthen ?_ (by assumption)))) (d88.rd.below (by repeat (first | exact Below.refl _ _ | exact bA | assumption | refine Below.setCell ?_ (by first | omega | (simp; try omega)) _ | refine Below.alloc ?_ (by first | omega | (simp; try omega)) _ | refine Below.drew ?_ | refine bDN ?_ | refine bthen ?_ (by assumption)))) (d90.rd.below (by repeat (first | exact Below.refl _ _ | exact bA | assumption | refine Below.setCell ?_ (by first | omega | (simp; try omega)) _ | refine Below.alloc ?_ (by first | omega | (simp; try omega)) _ | refine Below.drew ?_ | refine bDN ?_ | refine bthen ?_ (by assumption))))).mono ?_
  rintro e w10 ⟨cs, rfl, hc92, hb10⟩
  have gw10 : Below w9.heap.size w9 w10 := bthen (by repeat (first | exact Below.refl _ _ | exact bA | assumption | refine Below.setCell ?_ (by first | omega | (simp; try omega)) _ | refine Below.alloc ?_ (by first | omega | (simp; try omega)) _ | refine Below.drew ?_ | refine bDN ?_ | refine bthen ?_ (by assumption))) hb10
  have sw10 : w9.heap.size + 0 ≤ w10.heap.size := by have := hb10.size; (try simp at this); omega
  have H_w10 : Below w.heap.size w w10 := bthen H_w9 gw10
  have f93 : w10.cell? ⟨w.heap.size, 0, none⟩ = some (.int .i64 x0.1) := (gw10.cell (by first | omega | (simp; try omega))).trans f74
  have f94 : w10.cell? ⟨w.heap.size, 1, none⟩ = some (u0) := (gw10.cell (by first | omega | (simp; try omega))).trans f75
  have f95 : w10.cell? ⟨w6.heap.size, 0, none⟩ = some (.int .i64 (pwV x0 n1 x2 x3).1) := (gw10.cell (by first | omega | (simp; try omega))).trans f76
  have f96 : w10.cell? ⟨w6.heap.size, 1, none⟩ = some (.slice ad38 (pwV x0 n1 x2 x3).2.length ad38') := (gw10.cell (by first | omega | (simp; try omega))).trans f77
  have f97 : w10.cell? ⟨w7.heap.size, 0, none⟩ = some (.int .i64 x0.1) := (gw10.cell (by first | omega | (simp; try omega))).trans f78
  have f98 : w10.cell? ⟨w7.heap.size, 1, none⟩ = some (.slice ad52 x0.2.length ad52') := (gw10.cell (by first | omega | (simp; try omega))).trans f79
  have z99 : w.heap.size < w10.heap.size := by omega
  have z100 : w6.heap.size < w10.heap.size := by omega
  have z101 : w7.heap.size < w10.heap.size := by omega
  have d102 : tplT.Fx w2.heap.size w3.heap.size w10 [.int .i64 x0.1, .slice ad11 x0.2.length ad11'] x0 := d83.below gw10
  have d103 : rowsT.Fx w3.heap.size w4.heap.size w10 [.slice ad19 x2.length ad19'] x2 := d84.below gw10
  have d104 : intsT.Fx w4.heap.size w5.heap.size w10 [.slice ad28 x3.length ad28'] x3 := d85.below gw10
  have d105 : opT.Fx w5.heap.size w6.heap.size w10 [.int .i64 (pwV x0 n1 x2 x3).1, .slice ad38 (pwV x0 n1 x2 x3).2.length ad38'] (pwV x0 n1 x2 x3) := d86.below gw10
  have d106 : tplT.Fx (w6.heap.size + 1) w7.heap.size w10 [.int .i64 x0.1, .slice ad52 x0.2.length ad52'] x0 := d87.below gw10
  have d107 : rowsT.Fx (w7.heap.size + 1) w8.heap.size w10 [.slice ad70 x2.length ad70'] x2 := d88.below gw10
  have d108 : intsT.Fx w8.heap.size w9.heap.size w10 [.slice ad89 x3.length ad89'] x3 := d90.below gw10
  clear hb10 H_w9 f74 f75 f76 f77 f78 f79 d83 d84 d85 d86 d87 d88 d90 z80 z81 z82 gw10
  obtain ⟨ad109, ad109', rfl⟩ := fr_pair hc92
  have d110 : opT.Fx w9.heap.size w10.heap.size w10 [.int .i64 (pwV x0 n1 x2 x3).1, .slice ad109 (pwV x0 n1 x2 x3).2.length ad109'] (pwV x0 n1 x2 x3) := (Ty.Fr.mono hc92 (by first | exact Nat.le_refl _ | (simp; try omega))).fx
  clear hc92
  go_wp2_with fail
  refine (eqOp_any _ (d110.rd.below (by repeat (first | exact Below.refl _ _ | exact bA | assumption | refine Below.setCell ?_ (by first | omega | (simp; try omega)) _ | refine Below.alloc ?_ (by first | omega | (simp; try omega)) _ | refine Below.drew ?_ | refine bDN ?_ | refine bthen ?_ (by assumption)))) (d105.rd.below (by repeat (first | exact Below.refl _ _ | exact bA | assumption | refine Below.setCell ?_ (by first | omega | (simp; try omega)) _ | refine Below.alloc ?_ (by first | omega | (simp; try omega)) _ | refine Below.drew ?_ | refine bDN ?_ | refine bthen ?_ (by assumption))))).mono ?_
  rintro e w11 ⟨rfl, hb11⟩
  have gw11 : Below w10.heap.size w10 w11 := bthen (by repeat (first | exact Below.refl _ _ | exact bA | assumption | refine Below.setCell ?_ (by first | omega | (simp; try omega)) _ | refine Below.alloc ?_ (by first | omega | (simp; try omega)) _ | refine Below.drew ?_ | refine bDN ?_ | refine bthen ?_ (by assumption))) hb11
  have sw11 : w10.heap.size + 1 ≤ w11.heap.size := by have := hb11.size; (try simp at this); omega
  have H_w11 : Below w.heap.size w w11 := bthen H_w10 gw11
  have f112 : w11.cell? ⟨w.heap.size, 0, none⟩ = some (.int .i64 x0.1) := (gw11.cell (by first | omega | (simp; try omega))).trans f93
  have f113 : w11.cell? ⟨w.heap.size, 1, none⟩ = some (u0) := (gw11.cell (by first | omega | (simp; try omega))).trans f94
  have f114 : w11.cell? ⟨w6.heap.size, 0, none⟩ = some (.int .i64 (pwV x0 n1 x2 x3).1) := (gw11.cell (by first | omega | (simp; try omega))).trans f95
  have f115 : w11.cell? ⟨w6.heap.size, 1, none⟩ = some (.slice ad38 (pwV x0 n1 x2 x3).2.length ad38') := (gw11.cell (by first | omega | (simp; try omega))).trans f96
  have f116 : w11.cell? ⟨w7.heap.size, 0, none⟩ = some (.int .i64 x0.1) := (gw11.cell (by first | omega | (simp; try omega))).trans f97
  have f117 : w11.cell? ⟨w7.heap.size, 1, none⟩ = some (.slice ad52 x0.2.length ad52') := (gw11.cell (by first | omega | (simp; try omega))).trans f98
  have f118 : w11.cell? ⟨w10.heap.size, 0, none⟩ = some (.int .i64 (pwV x0 n1 x2 x3).1) := by rw [(bcell hb11).1 _ _ (by first | omega | (simp; try omega))]; first | (simp; done) | simp [go_sem]
  have f119 : w11.cell? ⟨w10.heap.size, 1, none⟩ = some (.slice ad109 (pwV x0 n1 x2 x3).2.length ad109') := by rw [(bcell hb11).1 _ _ (by first | omega | (simp; try omega))]; first | (simp; done) | simp [go_sem]
  have z120 : w.heap.size < w11.heap.size := by omega
  have z121 : w6.heap.size < w11.heap.size := by omega
  have z122 : w7.heap.size < w11.heap.size := by omega
  have z123 : w10.heap.size < w11.heap.size := by omega
  have d124 : tplT.Fx w2.heap.size w3.heap.size w11 [.int .i64 x0.1, .slice ad11 x0.2.length ad11'] x0 := d102.below gw11
  have d125 : rowsT.Fx w3.heap.size w4.heap.size w11 [.slice ad19 x2.length ad19'] x2 := d103.below gw11
  have d126 : intsT.Fx w4.heap.size w5.heap.size w11 [.slice ad28 x3.length ad28'] x3 := d104.below gw11
  have d127 : opT.Fx w5.heap.size w6.heap.size w11 [.int .i64 (pwV x0 n1 x2 x3).1, .slice ad38 (pwV x0 n1 x2 x3).2.length ad38'] (pwV x0 n1 x2 x3) := d105.below gw11
  have d128 : tplT.Fx (w6.heap.size + 1) w7.heap.size w11 [.int .i64 x0.1, .slice ad52 x0.2.length ad52'] x0 := d106.below gw11
  have d129 : rowsT.Fx (w7.heap.size + 1) w8.heap.size w11 [.slice ad70 x2.length ad70'] x2 := d107.below gw11
  have d130 : intsT.Fx w8.heap.size w9.heap.size w11 [.slice ad89 x3.length ad89'] x3 := d108.below gw11
  have d131 : opT.Fx w9.heap.size w10.heap.size w11 [.int .i64 (pwV x0 n1 x2 x3).1, .slice ad109 (pwV x0 n1 x2 x3).2.length ad109'] (pwV x0 n1 x2 x3) := d110.below gw11
  clear hb11 H_w10 f93 f94 f95 f96 f97 f98 d102 d103 d104 d105 d106 d107 d108 d110 z99 z100 z101 gw11
  rw [eqB_true rfl]
  go_wp2_with fail
  refine wp_region_loose [exV (.agg #[.int .i64 x0.1, .slice ad52 x0.2.length ad52']), exV (.agg #[.int .i64 x0.1, u0]), rdA tplT x0, exV (.bool true), exV (.bool false)] (by kernel_rfl) (by kernel_rfl) ⟨st_exV, st_exV, st_rdA, st_exV, st_exV, trivial⟩ ⟨?j17_0, ?j17_1, ?j17_2, ?j17_3, ?j17_4, trivial⟩ ?hQ17
  case j17_0 =>
    intro a' w' hb hd
    have e0 : a'.tmps[12]?.getD undef = .pointer (some ⟨w7.heap.size, 0, none⟩) := ev (slot_o hd 12 rfl rfl)
    have q : ∀ b o, b < w11.heap.size → w'.cell? ⟨b, o, none⟩ = w11.cell? ⟨b, o, none⟩ := (bcell hb).1
    go_simp
    exact ⟨Below.refl _ _, rfl⟩
  case j17_1 =>
    intro a' w' hb hd
    have e0 : a'.tmps[4]?.getD undef = .pointer (some ⟨w.heap.size, 0, none⟩) := ev (slot_o hd 4 rfl rfl)
    have q : ∀ b o, b < w11.heap.size → w'.cell? ⟨b, o, none⟩ = w11.cell? ⟨b, o, none⟩ := (bcell hb).1
    go_simp
    exact ⟨Below.refl _ _, rfl⟩
  case j17_2 =>
    intro a' w' hb hd
    have e70 : a'.tmps[70]?.getD undef = .agg #[.int .i64 x0.1, u0] := ev (slot_w hd 70 (exV (.agg #[.int .i64 x0.1, u0])) rfl rfl)
    have r70 : tplT.Rd w11 (#[.int .i64 x0.1, u0] : Array Value).toList x0 := hx0.below H_w11
    have r70' := r70.below hb
    go_simp
    exact ⟨Below.refl _ _, (toTemplate_any w' r70' (by first | omega | (unfold szInts; omega))).mono fun e w'' ⟨cs, he, hf, hb⟩ => ⟨_, he, hb, cs, rfl, hf.rd⟩⟩
  case j17_3 =>
    intro a' w' hb hd
    have e69 : a'.tmps[69]?.getD undef = .agg #[.int .i64 x0.1, .slice ad52 x0.2.length ad52'] := ev (slot_w hd 69 (exV (.agg #[.int .i64 x0.1, .slice ad52 x0.2.length ad52'])) rfl rfl)
    have r69 : tplT.Rd w11 (#[.int .i64 x0.1, .slice ad52 x0.2.length ad52'] : Array Value).toList x0 := d128.rd
    have r69' := r69.below hb
    have d71 := slot_w hd 71 (rdA tplT x0) rfl rfl
    obtain ⟨cs71, e71, hf71⟩ := d71
    have e71' := ev e71
    go_simp
    exact ⟨Below.refl _ _, (eqTemplate_any w' r69' hf71).mono fun e w'' ⟨he, hb⟩ => ⟨_, he, hb, exV_eqB⟩⟩
  case j17_4 =>
    intro a' w' hb hd
    have e0 : a'.tmps[72]?.getD undef = .bool true := ev (slot_w hd 72 (exV (.bool true)) rfl rfl)
    go_simp
    exact ⟨Below.refl _ _, rfl⟩
  intro vs17 w12 hb12 H0
  obtain ⟨v17_0, _, rfl, p0, H1⟩ := HAll_cons H0
  obtain ⟨v17_1, _, rfl, p1, H2⟩ := HAll_cons H1
  obtain ⟨v17_2, _, rfl, p2, H3⟩ := HAll_cons H2
  obtain ⟨v17_3, _, rfl, p3, H4⟩ := HAll_cons H3
  obtain ⟨v17_4, _, rfl, p4, H5⟩ := HAll_cons H4
  obtain rfl := HAll_nil H5
  obtain rfl := p0 rfl
  obtain rfl := p1 rfl
  obtain rfl := p3 rfl
  obtain rfl := p4 rfl
  clear p0 p1 p2 p3 p4 H0 H1 H2 H3 H4 H5
  have gw12 : Below w11.heap.size w11 w12 := bthen (by repeat (first | exact Below.refl _ _ | exact bA | assumption | refine Below.setCell ?_ (by first | omega | (simp; try omega)) _ | refine Below.alloc ?_ (by first | omega | (simp; try omega)) _ | refine Below.drew ?_ | refine bDN ?_ | refine bthen ?_ (by assumption))) hb12
  have sw12 : w11.heap.size + 0 ≤ w12.heap.size := by have := hb12.size; (try simp at this); omega
  have H_w12 : Below w.heap.size w w12 := bthen H_w11 gw12
  have f132 : w12.cell? ⟨w.heap.size, 0, none⟩ = some (.int .i64 x0.1) := (gw12.cell (by first | omega | (simp; try omega))).trans f112
  have f133 : w12.cell? ⟨w.heap.size, 1, none⟩ = some (u0) := (gw12.cell (by first | omega | (simp; try omega))).trans f113
  have f134 : w12.cell? ⟨w6.heap.size, 0, none⟩ = some (.int .i64 (pwV x0 n1 x2 x3).1) := (gw12.cell (by first | omega | (simp; try omega))).trans f114
  have f135 : w12.cell? ⟨w6.heap.size, 1, none⟩ = some (.slice ad38 (pwV x0 n1 x2 x3).2.length ad38') := (gw12.cell (by first | omega | (simp; try omega))).trans f115
  have f136 : w12.cell? ⟨w7.heap.size, 0, none⟩ = some (.int .i64 x0.1) := (gw12.cell (by first | omega | (simp; try omega))).trans f116
  have f137 : w12.cell? ⟨w7.heap.size, 1, none⟩ = some (.slice ad52 x0.2.length ad52') := (gw12.cell (by first | omega | (simp; try omega))).trans f117
  have f138 : w12.cell? ⟨w10.heap.size, 0, none⟩ = some (.int .i64 (pwV x0 n1 x2 x3).1) := (gw12.cell (by first | omega | (simp; try omega))).trans f118
  have f139 : w12.cell? ⟨w10.heap.size, 1, none⟩ = some (.slice ad109 (pwV x0 n1 x2 x3).2.length ad109') := (gw12.cell (by first | omega | (simp; try omega))).trans f119
  have z140 : w.heap.size < w12.heap.size := by omega
  have z141 : w6.heap.size < w12.heap.size := by omega
  have z142 : w7.heap.size < w12.heap.size := by omega
  have z143 : w10.heap.size < w12.heap.size := by omega
  have d144 : tplT.Fx w2.heap.size w3.heap.size w12 [.int .i64 x0.1, .slice ad11 x0.2.length ad11'] x0 := d124.below gw12
  have d145 : rowsT.Fx w3.heap.size w4.heap.size w12 [.slice ad19 x2.length ad19'] x2 := d125.below gw12
  have d146 : intsT.Fx w4.heap.size w5.heap.size w12 [.slice ad28 x3.length ad28'] x3 := d126.below gw12
  have d147 : opT.Fx w5.heap.size w6.heap.size w12 [.int .i64 (pwV x0 n1 x2 x3).1, .slice ad38 (pwV x0 n1 x2 x3).2.length ad38'] (pwV x0 n1 x2 x3) := d127.below gw12
  have d148 : tplT.Fx (w6.heap.size + 1) w7.heap.size w12 [.int .i64 x0.1, .slice ad52 x0.2.length ad52'] x0 := d128.below gw12
  have d149 : rowsT.Fx (w7.heap.size + 1) w8.heap.size w12 [.slice ad70 x2.length ad70'] x2 := d129.below gw12
  have d150 : intsT.Fx w8.heap.size w9.heap.size w12 [.slice ad89 x3.length ad89'] x3 := d130.below gw12
  have d151 : opT.Fx w9.heap.size w10.heap.size w12 [.int .i64 (pwV x0 n1 x2 x3).1, .slice ad109 (pwV x0 n1 x2 x3).2.length ad109'] (pwV x0 n1 x2 x3) := d131.below gw12
  clear hb12 H_w11 f112 f113 f114 f115 f116 f117 f118 f119 d124 d125 d126 d127 d128 d129 d130 d131 z120 z121 z122 z123 gw12
  simp only [putAll, Act.put]
  go_simp
  go_wp2_with fail
  refine (toInt64SS_any _ (hx2.below (by repeat (first | exact Below.refl _ _ | exact bA | assumption | refine Below.setCell ?_ (by first | omega | (simp; try omega)) _ | refine Below.alloc ?_ (by first | omega | (simp; try omega)) _ | refine Below.drew ?_ | refine bDN ?_ | refine bthen ?_ (by assumption)))) (by first | omega | (unfold szInts; omega))).mono ?_
  rintro e w13 ⟨cs, rfl, hc152, hb13⟩
  have gw13 : Below w12.heap.size w12 w13 := bthen (by repeat (first | exact Below.refl _ _ | exact bA | assumption | refine Below.setCell ?_ (by first | omega | (simp; try omega)) _ | refine Below.alloc ?_ (by first | omega | (simp; try omega)) _ | refine Below.drew ?_ | refine bDN ?_ | refine bthen ?_ (by assumption))) hb13
  have sw13 : w12.heap.size + 0 ≤ w13.heap.size := by have := hb13.size; (try simp at this); omega
  have H_w13 : Below w.heap.size w w13 := bthen H_w12 gw13
  have f153 : w13.cell? ⟨w.heap.size, 0, none⟩ = some (.int .i64 x0.1) := (gw13.cell (by first | omega | (simp; try omega))).trans f132
  have f154 : w13.cell? ⟨w.heap.size, 1, none⟩ = some (u0) := (gw13.cell (by first | omega | (simp; try omega))).trans f133
  have f155 : w13.cell? ⟨w6.heap.size, 0, none⟩ = some (.int .i64 (pwV x0 n1 x2 x3).1) := (gw13.cell (by first | omega | (simp; try omega))).trans f134
  have f156 : w13.cell? ⟨w6.heap.size, 1, none⟩ = some (.slice ad38 (pwV x0 n1 x2 x3).2.length ad38') := (gw13.cell (by first | omega | (simp; try omega))).trans f135
  have f157 : w13.cell? ⟨w7.heap.size, 0, none⟩ = some (.int .i64 x0.1) := (gw13.cell (by first | omega | (simp; try omega))).trans f136
  have f158 : w13.cell? ⟨w7.heap.size, 1, none⟩ = some (.slice ad52 x0.2.length ad52') := (gw13.cell (by first | omega | (simp; try omega))).trans f137
  have f159 : w13.cell? ⟨w10.heap.size, 0, none⟩ = some (.int .i64 (pwV x0 n1 x2 x3).1) := (gw13.cell (by first | omega | (simp; try omega))).trans f138
  have f160 : w13.cell? ⟨w10.heap.size, 1, none⟩ = some (.slice ad109 (pwV x0 n1 x2 x3).2.length ad109') := (gw13.cell (by first | omega | (simp; try omega))).trans f139
  have z161 : w.heap.size < w13.heap.size := by omega
  have z162 : w6.heap.size < w13.heap.size := by omega
  have z163 : w7.heap.size < w13.heap.size := by omega
  have z164 : w10.heap.size < w13.heap.size := by omega
  have d165 : tplT.Fx w2.heap.size w3.heap.size w13 [.int .i64 x0.1, .slice ad11 x0.2.length ad11'] x0 := d144.below gw13
  have d166 : rowsT.Fx w3.heap.size w4.heap.size w13 [.slice ad19 x2.length ad19'] x2 := d145.below gw13
  have d167 : intsT.Fx w4.heap.size w5.heap.size w13 [.slice ad28 x3.length ad28'] x3 := d146.below gw13
  have d168 : opT.Fx w5.heap.size w6.heap.size w13 [.int .i64 (pwV x0 n1 x2 x3).1, .slice ad38 (pwV x0 n1 x2 x3).2.length ad38'] (pwV x0 n1 x2 x3) := d147.below gw13
  have d169 : tplT.Fx (w6.heap.size + 1) w7.heap.size w13 [.int .i64 x0.1, .slice ad52 x0.2.length ad52'] x0 := d148.below gw13
  have d170 : rowsT.Fx (w7.heap.size + 1) w8.heap.size w13 [.slice ad70 x2.length ad70'] x2 := d149.below gw13
  have d171 : intsT.Fx w8.heap.size w9.heap.size w13 [.slice ad89 x3.length ad89'] x3 := d150.below gw13
  have d172 : opT.Fx w9.heap.size w10.heap.size w13 [.int .i64 (pwV x0 n1 x2 x3).1, .slice ad109 (pwV x0 n1 x2 x3).2.length ad109'] (pwV x0 n1 x2 x3) := d151.below gw13
  clear hb13 H_w12 f132 f133 f134 f135 f136 f137 f138 f139 d144 d145 d146 d147 d148 d149 d150 d151 z140 z141 z142 z143 gw13
  obtain ⟨ad173, ad173', rfl⟩ := fr_slice hc152
  have d174 : rowsT.Fx w12.heap.size w13.heap.size w13 [.slice ad173 x2.length ad173'] x2 := (Ty.Fr.mono hc152 (by first | exact Nat.le_refl _ | (simp; try omega))).fx
  clear hc152
  go_wp2_with fail
  refine (eqInt64SS_any _ (d170.rd.below (by repeat (first | exact Below.refl _ _ | exact bA | assumption | refine Below.setCell ?_ (by first | omega | (simp; try omega)) _ | refine Below.alloc ?_ (by first | omega | (simp; try omega)) _ | refine Below.drew ?_ | refine bDN ?_ | refine bthen ?_ (by assumption)))) (d174.rd.below (by repeat (first | exact Below.refl _ _ | exact bA | assumption | refine Below.setCell ?_ (by first | omega | (simp; try omega)) _ | refine Below.alloc ?_ (by first | omega | (simp; try omega)) _ | refine Below.drew ?_ | refine bDN ?_ | refine bthen ?_ (by assumption))))).mono ?_
  rintro e w14 ⟨rfl, hb14⟩
  have gw14 : Below w13.heap.size w13 w14 := bthen (by repeat (first | exact Below.refl _ _ | exact bA | assumption | refine Below.setCell ?_ (by first | omega | (simp; try omega)) _ | refine Below.alloc ?_ (by first | omega | (simp; try omega)) _ | refine Below.drew ?_ | refine bDN ?_ | refine bthen ?_ (by assumption))) hb14
  have sw14 : w13.heap.size + 0 ≤ w14.heap.size := by have := hb14.size; (try simp at this); omega
  have H_w14 : Below w.heap.size w w14 := bthen H_w13 gw14
  have f176 : w14.cell? ⟨w.heap.size, 0, none⟩ = some (.int .i64 x0.1) := (gw14.cell (by first | omega | (simp; try omega))).trans f153
  have f177 : w14.cell? ⟨w.heap.size, 1, none⟩ = some (u0) := (gw14.cell (by first | omega | (simp; try omega))).trans f154
  have f178 : w14.cell? ⟨w6.heap.size, 0, none⟩ = some (.int .i64 (pwV x0 n1 x2 x3).1) := (gw14.cell (by first | omega | (simp; try omega))).trans f155
  have f179 : w14.cell? ⟨w6.heap.size, 1, none⟩ = some (.slice ad38 (pwV x0 n1 x2 x3).2.length ad38') := (gw14.cell (by first | omega | (simp; try omega))).trans f156
  have f180 : w14.cell? ⟨w7.heap.size, 0, none⟩ = some (.int .i64 x0.1) := (gw14.cell (by first | omega | (simp; try omega))).trans f157
  have f181 : w14.cell? ⟨w7.heap.size, 1, none⟩ = some (.slice ad52 x0.2.length ad52') := (gw14.cell (by first | omega | (simp; try omega))).trans f158
  have f182 : w14.cell? ⟨w10.heap.size, 0, none⟩ = some (.int .i64 (pwV x0 n1 x2 x3).1) := (gw14.cell (by first | omega | (simp; try omega))).trans f159
  have f183 : w14.cell? ⟨w10.heap.size, 1, none⟩ = some (.slice ad109 (pwV x0 n1 x2 x3).2.length ad109') := (gw14.cell (by first | omega | (simp; try omega))).trans f160
  have z184 : w.heap.size < w14.heap.size := by omega
  have z185 : w6.heap.size < w14.heap.size := by omega
  have z186 : w7.heap.size < w14.heap.size := by omega
  have z187 : w10.heap.size < w14.heap.size := by omega
  have d188 : tplT.Fx w2.heap.size w3.heap.size w14 [.int .i64 x0.1, .slice ad11 x0.2.length ad11'] x0 := d165.below gw14
  have d189 : rowsT.Fx w3.heap.size w4.heap.size w14 [.slice ad19 x2.length ad19'] x2 := d166.below gw14
  have d190 : intsT.Fx w4.heap.size w5.heap.size w14 [.slice ad28 x3.length ad28'] x3 := d167.below gw14
  have d191 : opT.Fx w5.heap.size w6.heap.size w14 [.int .i64 (pwV x0 n1 x2 x3).1, .slice ad38 (pwV x0 n1 x2 x3).2.length ad38'] (pwV x0 n1 x2 x3) := d168.below gw14
  have d192 : tplT.Fx (w6.heap.size + 1) w7.heap.size w14 [.int .i64 x0.1, .slice ad52 x0.2.length ad52'] x0 := d169.below gw14
  have d193 : rowsT.Fx (w7.heap.size + 1) w8.heap.size w14 [.slice ad70 x2.length ad70'] x2 := d170.below gw14
  have d194 : intsT.Fx w8.heap.size w9.heap.size w14 [.slice ad89 x3.length ad89'] x3 := d171.below gw14
  have d195 : opT.Fx w9.heap.size w10.heap.size w14 [.int .i64 (pwV x0 n1 x2 x3).1, .slice ad109 (pwV x0 n1 x2 x3).2.length ad109'] (pwV x0 n1 x2 x3) := d172.below gw14
  have d196 : rowsT.Fx w12.heap.size w13.heap.size w14 [.slice ad173 x2.length ad173'] x2 := d174.below gw14
  clear hb14 H_w13 f153 f154 f155 f156 f157 f158 f159 f160 d165 d166 d167 d168 d169 d170 d171 d172 d174 z161 z162 z163 z164 gw14
  rw [eqB_true rfl]
  go_wp2_with fail
  refine (toInt64S_any _ (hx3.below (by repeat (first | exact Below.refl _ _ | exact bA | assumption | refine Below.setCell ?_ (by first | omega | (simp; try omega)) _ | refine Below.alloc ?_ (by first | omega | (simp; try omega)) _ | refine Below.drew ?_ | refine bDN ?_ | refine bthen ?_ (by assumption)))) (by first | omega | (unfold szInts; omega))).mono ?_
  rintro e w15 ⟨cs, rfl, hc197, hb15⟩
  have gw15 : Below w14.heap.size w14 w15 := bthen (by repeat (first | exact Below.refl _ _ | exact bA | assumption | refine Below.setCell ?_ (by first | omega | (simp; try omega)) _ | refine Below.alloc ?_ (by first | omega | (simp; try omega)) _ | refine Below.drew ?_ | refine bDN ?_ | refine bthen ?_ (by assumption))) hb15
  have sw15 : w14.heap.size + 0 ≤ w15.heap.size := by have := hb15.size; (try simp at this); omega
  have H_w15 : Below w.heap.size w w15 := bthen H_w14 gw15
  have f198 : w15.cell? ⟨w.heap.size, 0, none⟩ = some (.int .i64 x0.1) := (gw15.cell (by first | omega | (simp; try omega))).trans f176
  have f199 : w15.cell? ⟨w.heap.size, 1, none⟩ = some (u0) := (gw15.cell (by first | omega | (simp; try omega))).trans f177
  have f200 : w15.cell? ⟨w6.heap.size, 0, none⟩ = some (.int .i64 (pwV x0 n1 x2 x3).1) := (gw15.cell (by first | omega | (simp; try omega))).trans f178
  have f201 : w15.cell? ⟨w6.heap.size, 1, none⟩ = some (.slice ad38 (pwV x0 n1 x2 x3).2.length ad38') := (gw15.cell (by first | omega | (simp; try omega))).trans f179
  have f202 : w15.cell? ⟨w7.heap.size, 0, none⟩ = some (.int .i64 x0.1) := (gw15.cell (by first | omega | (simp; try omega))).trans f180
  have f203 : w15.cell? ⟨w7.heap.size, 1, none⟩ = some (.slice ad52 x0.2.length ad52') := (gw15.cell (by first | omega | (simp; try omega))).trans f181
  have f204 : w15.cell? ⟨w10.heap.size, 0, none⟩ = some (.int .i64 (pwV x0 n1 x2 x3).1) := (gw15.cell (by first | omega | (simp; try omega))).trans f182
  have f205 : w15.cell? ⟨w10.heap.size, 1, none⟩ = some (.slice ad109 (pwV x0 n1 x2 x3).2.length ad109') := (gw15.cell (by first | omega | (simp; try omega))).trans f183
  have z206 : w.heap.size < w15.heap.size := by omega
  have z207 : w6.heap.size < w15.heap.size := by omega
  have z208 : w7.heap.size < w15.heap.size := by omega
  have z209 : w10.heap.size < w15.heap.size := by omega
  have d210 : tplT.Fx w2.heap.size w3.heap.size w15 [.int .i64 x0.1, .slice ad11 x0.2.length ad11'] x0 := d188.below gw15
  have d211 : rowsT.Fx w3.heap.size w4.heap.size w15 [.slice ad19 x2.length ad19'] x2 := d189.below gw15
  have d212 : intsT.Fx w4.heap.size w5.heap.size w15 [.slice ad28 x3.length ad28'] x3 := d190.below gw15
  have d213 : opT.Fx w5.heap.size w6.heap.size w15 [.int .i64 (pwV x0 n1 x2 x3).1, .slice ad38 (pwV x0 n1 x2 x3).2.length ad38'] (pwV x0 n1 x2 x3) := d191.below gw15
  have d214 : tplT.Fx (w6.heap.size + 1) w7.heap.size w15 [.int .i64 x0.1, .slice ad52 x0.2.length ad52'] x0 := d192.below gw15
  have d215 : rowsT.Fx (w7.heap.size + 1) w8.heap.size w15 [.slice ad70 x2.length ad70'] x2 := d193.below gw15
  have d216 : intsT.Fx w8.heap.size w9.heap.size w15 [.slice ad89 x3.length ad89'] x3 := d194.below gw15
  have d217 : opT.Fx w9.heap.size w10.heap.size w15 [.int .i64 (pwV x0 n1 x2 x3).1, .slice ad109 (pwV x0 n1 x2 x3).2.length ad109'] (pwV x0 n1 x2 x3) := d195.below gw15
  have d218 : rowsT.Fx w12.heap.size w13.heap.size w15 [.slice ad173 x2.length ad173'] x2 := d196.below gw15
  clear hb15 H_w14 f176 f177 f178 f179 f180 f181 f182 f183 d188 d189 d190 d191 d192 d193 d194 d195 d196 z184 z185 z186 z187 gw15
  obtain ⟨ad219, ad219', rfl⟩ := fr_slice hc197
  have d220 : intsT.Fx w14.heap.size w15.heap.size w15 [.slice ad219 x3.length ad219'] x3 := (Ty.Fr.mono hc197 (by first | exact Nat.le_refl _ | (simp; try omega))).fx
  clear hc197
  go_wp2_with fail
  refine (eqInt64S_any _ (d216.rd.below (by repeat (first | exact Below.refl _ _ | exact bA | assumption | refine Below.setCell ?_ (by first | omega | (simp; try omega)) _ | refine Below.alloc ?_ (by first | omega | (simp; try omega)) _ | refine Below.drew ?_ | refine bDN ?_ | refine bthen ?_ (by assumption)))) (d220.rd.below (by repeat (first | exact Below.refl _ _ | exact bA | assumption | refine Below.setCell ?_ (by first | omega | (simp; try omega)) _ | refine Below.alloc ?_ (by first | omega | (simp; try omega)) _ | refine Below.drew ?_ | refine bDN ?_ | refine bthen ?_ (by assumption))))).mono ?_
  rintro e w16 ⟨rfl, hb16⟩
  have gw16 : Below w15.heap.size w15 w16 := bthen (by repeat (first | exact Below.refl _ _ | exact bA | assumption | refine Below.setCell ?_ (by first | omega | (simp; try omega)) _ | refine Below.alloc ?_ (by first | omega | (simp; try omega)) _ | refine Below.drew ?_ | refine bDN ?_ | refine bthen ?_ (by assumption))) hb16
  have sw16 : w15.heap.size + 0 ≤ w16.heap.size := by have := hb16.size; (try simp at this); omega
  have H_w16 : Below w.heap.size w w16 := bthen H_w15 gw16
  have f222 : w16.cell? ⟨w.heap.size, 0, none⟩ = some (.int .i64 x0.1) := (gw16.cell (by first | omega | (simp; try omega))).trans f198
  have f223 : w16.cell? ⟨w.heap.size, 1, none⟩ = some (u0) := (gw16.cell (by first | omega | (simp; try omega))).trans f199
  have f224 : w16.cell? ⟨w6.heap.size, 0, none⟩ = some (.int .i64 (pwV x0 n1 x2 x3).1) := (gw16.cell (by first | omega | (simp; try omega))).trans f200
  have f225 : w16.cell? ⟨w6.heap.size, 1, none⟩ = some (.slice ad38 (pwV x0 n1 x2 x3).2.length ad38') := (gw16.cell (by first | omega | (simp; try omega))).trans f201
  have f226 : w16.cell? ⟨w7.heap.size, 0, none⟩ = some (.int .i64 x0.1) := (gw16.cell (by first | omega | (simp; try omega))).trans f202
  have f227 : w16.cell? ⟨w7.heap.size, 1, none⟩ = some (.slice ad52 x0.2.length ad52') := (gw16.cell (by first | omega | (simp; try omega))).trans f203
  have f228 : w16.cell? ⟨w10.heap.size, 0, none⟩ = some (.int .i64 (pwV x0 n1 x2 x3).1) := (gw16.cell (by first | omega | (simp; try omega))).trans f204
  have f229 : w16.cell? ⟨w10.heap.size, 1, none⟩ = some (.slice ad109 (pwV x0 n1 x2 x3).2.length ad109') := (gw16.cell (by first | omega | (simp; try omega))).trans f205
  have z230 : w.heap.size < w16.heap.size := by omega
  have z231 : w6.heap.size < w16.heap.size := by omega
  have z232 : w7.heap.size < w16.heap.size := by omega
  have z233 : w10.heap.size < w16.heap.size := by omega
  have d234 : tplT.Fx w2.heap.size w3.heap.size w16 [.int .i64 x0.1, .slice ad11 x0.2.length ad11'] x0 := d210.below gw16
  have d235 : rowsT.Fx w3.heap.size w4.heap.size w16 [.slice ad19 x2.length ad19'] x2 := d211.below gw16
  have d236 : intsT.Fx w4.heap.size w5.heap.size w16 [.slice ad28 x3.length ad28'] x3 := d212.below gw16
  have d237 : opT.Fx w5.heap.size w6.heap.size w16 [.int .i64 (pwV x0 n1 x2 x3).1, .slice ad38 (pwV x0 n1 x2 x3).2.length ad38'] (pwV x0 n1 x2 x3) := d213.below gw16
  have d238 : tplT.Fx (w6.heap.size + 1) w7.heap.size w16 [.int .i64 x0.1, .slice ad52 x0.2.length ad52'] x0 := d214.below gw16
  have d239 : rowsT.Fx (w7.heap.size + 1) w8.heap.size w16 [.slice ad70 x2.length ad70'] x2 := d215.below gw16
  have d240 : intsT.Fx w8.heap.size w9.heap.size w16 [.slice ad89 x3.length ad89'] x3 := d216.below gw16
  have d241 : opT.Fx w9.heap.size w10.heap.size w16 [.int .i64 (pwV x0 n1 x2 x3).1, .slice ad109 (pwV x0 n1 x2 x3).2.length ad109'] (pwV x0 n1 x2 x3) := d217.below gw16
  have d242 : rowsT.Fx w12.heap.size w13.heap.size w16 [.slice ad173 x2.length ad173'] x2 := d218.below gw16
  have d243 : intsT.Fx w14.heap.size w15.heap.size w16 [.slice ad219 x3.length ad219'] x3 := d220.below gw16
  clear hb16 H_w15 f198 f199 f200 f201 f202 f203 f204 f205 d210 d211 d212 d213 d214 d215 d216 d217 d218 d220 z206 z207 z208 z209 gw16
  rw [eqB_true rfl]
  go_wp2_with fail
  refine (markTemplate_fx _ d238 _ (by omega) (by omega)).mono ?_
  rintro e w17 ⟨rfl, hb17, d244⟩
  clear d238
  have sw17 : w16.heap.size ≤ w17.heap.size := hb17.size
  have H_w17 : Below w.heap.size w w17 := below_tch H_w16 hb17 (by omega) (by omega)
  have f245 : w17.cell? ⟨w.heap.size, 0, none⟩ = some (.int .i64 x0.1) := (hb17.cell (by omega) (by omega)).trans f222
  have f246 : w17.cell? ⟨w.heap.size, 1, none⟩ = some (u0) := (hb17.cell (by omega) (by omega)).trans f223
  have f247 : w17.cell? ⟨w6.heap.size, 0, none⟩ = some (.int .i64 (pwV x0 n1 x2 x3).1) := (hb17.cell (by omega) (by omega)).trans f224
  have f248 : w17.cell? ⟨w6.heap.size, 1, none⟩ = some (.slice ad38 (pwV x0 n1 x2 x3).2.length ad38') := (hb17.cell (by omega) (by omega)).trans f225
  have f249 : w17.cell? ⟨w7.heap.size, 0, none⟩ = some (.int .i64 x0.1) := (hb17.cell (by omega) (by omega)).trans f226
  have f250 : w17.cell? ⟨w7.heap.size, 1, none⟩ = some (.slice ad52 x0.2.length ad52') := (hb17.cell (by omega) (by omega)).trans f227
  have f251 : w17.cell? ⟨w10.heap.size, 0, none⟩ = some (.int .i64 (pwV x0 n1 x2 x3).1) := (hb17.cell (by omega) (by omega)).trans f228
  have f252 : w17.cell? ⟨w10.heap.size, 1, none⟩ = some (.slice ad109 (pwV x0 n1 x2 x3).2.length ad109') := (hb17.cell (by omega) (by omega)).trans f229
  have z253 : w.heap.size < w17.heap.size := by omega
  have z254 : w6.heap.size < w17.heap.size := by omega
  have z255 : w7.heap.size < w17.heap.size := by omega
  have z256 : w10.heap.size < w17.heap.size := by omega
  have d257 : tplT.Fx w2.heap.size w3.heap.size w17 [.int .i64 x0.1, .slice ad11 x0.2.length ad11'] x0 := d234.tch hb17 (by omega)
  have d258 : rowsT.Fx w3.heap.size w4.heap.size w17 [.slice ad19 x2.length ad19'] x2 := d235.tch hb17 (by omega)
  have d259 : intsT.Fx w4.heap.size w5.heap.size w17 [.slice ad28 x3.length ad28'] x3 := d236.tch hb17 (by omega)
  have d260 : opT.Fx w5.heap.size w6.heap.size w17 [.int .i64 (pwV x0 n1 x2 x3).1, .slice ad38 (pwV x0 n1 x2 x3).2.length ad38'] (pwV x0 n1 x2 x3) := d237.tch hb17 (by omega)
  have d261 : rowsT.Fx (w7.heap.size + 1) w8.heap.size w17 [.slice ad70 x2.length ad70'] x2 := d239.tch hb17 (by omega)
  have d262 : intsT.Fx w8.heap.size w9.heap.size w17 [.slice ad89 x3.length ad89'] x3 := d240.tch hb17 (by omega)
  have d263 : opT.Fx w9.heap.size w10.heap.size w17 [.int .i64 (pwV x0 n1 x2 x3).1, .slice ad109 (pwV x0 n1 x2 x3).2.length ad109'] (pwV x0 n1 x2 x3) := d241.tch hb17 (by omega)
  have d264 : rowsT.Fx w12.heap.size w13.heap.size w17 [.slice ad173 x2.length ad173'] x2 := d242.tch hb17 (by omega)
  have d265 : intsT.Fx w14.heap.size w15.heap.size w17 [.slice ad219 x3.length ad219'] x3 := d243.tch hb17 (by omega)
  clear hb17 H_w16 f222 f223 f224 f225 f226 f227 f228 f229 d234 d235 d236 d237 d239 d240 d241 d242 d243 z230 z231 z232 z233
  have hk266 : 0 ≤ (1 + cntTpl x0) := by omega
  go_wp2_with fail
  refine (markInt64SS_fx _ d261 _ (by omega) (by omega)).mono ?_
  rintro e w18 ⟨rfl, hb18, d267⟩
  clear d261
  have sw18 : w17.heap.size ≤ w18.heap.size := hb18.size
  have H_w18 : Below w.heap.size w w18 := below_tch H_w17 hb18 (by omega) (by omega)
  have f268 : w18.cell? ⟨w.heap.size, 0, none⟩ = some (.int .i64 x0.1) := (hb18.cell (by omega) (by omega)).trans f245
  have f269 : w18.cell? ⟨w.heap.size, 1, none⟩ = some (u0) := (hb18.cell (by omega) (by omega)).trans f246
  have f270 : w18.cell? ⟨w6.heap.size, 0, none⟩ = some (.int .i64 (pwV x0 n1 x2 x3).1) := (hb18.cell (by omega) (by omega)).trans f247
  have f271 : w18.cell? ⟨w6.heap.size, 1, none⟩ = some (.slice ad38 (pwV x0 n1 x2 x3).2.length ad38') := (hb18.cell (by omega) (by omega)).trans f248
  have f272 : w18.cell? ⟨w7.heap.size, 0, none⟩ = some (.int .i64 x0.1) := (hb18.cell (by omega) (by omega)).trans f249
  have f273 : w18.cell? ⟨w7.heap.size, 1, none⟩ = some (.slice ad52 x0.2.length ad52') := (hb18.cell (by omega) (by omega)).trans f250
  have f274 : w18.cell? ⟨w10.heap.size, 0, none⟩ = some (.int .i64 (pwV x0 n1 x2 x3).1) := (hb18.cell (by omega) (by omega)).trans f251
  have f275 : w18.cell? ⟨w10.heap.size, 1, none⟩ = some (.slice ad109 (pwV x0 n1 x2 x3).2.length ad109') := (hb18.cell (by omega) (by omega)).trans f252
  have z276 : w.heap.size < w18.heap.size := by omega
  have z277 : w6.heap.size < w18.heap.size := by omega
  have z278 : w7.heap.size < w18.heap.size := by omega
  have z279 : w10.heap.size < w18.heap.size := by omega
  have d280 : tplT.Fx w2.heap.size w3.heap.size w18 [.int .i64 x0.1, .slice ad11 x0.2.length ad11'] x0 := d257.tch hb18 (by omega)
  have d281 : rowsT.Fx w3.heap.size w4.heap.size w18 [.slice ad19 x2.length ad19'] x2 := d258.tch hb18 (by omega)
  have d282 : intsT.Fx w4.heap.size w5.heap.size w18 [.slice ad28 x3.length ad28'] x3 := d259.tch hb18 (by omega)
  have d283 : opT.Fx w5.heap.size w6.heap.size w18 [.int .i64 (pwV x0 n1 x2 x3).1, .slice ad38 (pwV x0 n1 x2 x3).2.length ad38'] (pwV x0 n1 x2 x3) := d260.tch hb18 (by omega)
  have d284 : tplT.Fx (w6.heap.size + 1) w7.heap.size w18 [.int .i64 x0.1, .slice ad52 x0.2.length ad52'] (mkTpl 1 x0) := d244.tch hb18 (by omega)
  have d285 : intsT.Fx w8.heap.size w9.heap.size w18 [.slice ad89 x3.length ad89'] x3 := d262.tch hb18 (by omega)
  have d286 : opT.Fx w9.heap.size w10.heap.size w18 [.int .i64 (pwV x0 n1 x2 x3).1, .slice ad109 (pwV x0 n1 x2 x3).2.length ad109'] (pwV x0 n1 x2 x3) := d263.tch hb18 (by omega)
  have d287 : rowsT.Fx w12.heap.size w13.heap.size w18 [.slice ad173 x2.length ad173'] x2 := d264.tch hb18 (by omega)
  have d288 : intsT.Fx w14.heap.size w15.heap.size w18 [.slice ad219 x3.length ad219'] x3 := d265.tch hb18 (by omega)
  clear hb18 H_w17 f245 f246 f247 f248 f249 f250 f251 f252 d257 d258 d259 d260 d244 d262 d263 d264 d265 z253 z254 z255 z256
  have hk289 : 0 ≤ ((1 + cntTpl x0) + cntRows x2) := by omega
  go_wp2_with fail
  refine (markInt64S_fx _ d285 _ (by omega) (by omega)).mono ?_
  rintro e w19 ⟨rfl, hb19, d290⟩
  clear d285
  have sw19 : w18.heap.size ≤ w19.heap.size := hb19.size
  have H_w19 : Below w.heap.size w w19 := below_tch H_w18 hb19 (by omega) (by omega)
  have f291 : w19.cell? ⟨w.heap.size, 0, none⟩ = some (.int .i64 x0.1) := (hb19.cell (by omega) (by omega)).trans f268
  have f292 : w19.cell? ⟨w.heap.size, 1, none⟩ = some (u0) := (hb19.cell (by omega) (by omega)).trans f269
  have f293 : w19.cell? ⟨w6.heap.size, 0, none⟩ = some (.int .i64 (pwV x0 n1 x2 x3).1) := (hb19.cell (by omega) (by omega)).trans f270
  have f294 : w19.cell? ⟨w6.heap.size, 1, none⟩ = some (.slice ad38 (pwV x0 n1 x2 x3).2.length ad38') := (hb19.cell (by omega) (by omega)).trans f271
  have f295 : w19.cell? ⟨w7.heap.size, 0, none⟩ = some (.int .i64 x0.1) := (hb19.cell (by omega) (by omega)).trans f272
  have f296 : w19.cell? ⟨w7.heap.size, 1, none⟩ = some (.slice ad52 x0.2.length ad52') := (hb19.cell (by omega) (by omega)).trans f273
  have f297 : w19.cell? ⟨w10.heap.size, 0, none⟩ = some (.int .i64 (pwV x0 n1 x2 x3).1) := (hb19.cell (by omega) (by omega)).trans f274
  have f298 : w19.cell? ⟨w10.heap.size, 1, none⟩ = some (.slice ad109 (pwV x0 n1 x2 x3).2.length ad109') := (hb19.cell (by omega) (by omega)).trans f275
  have z299 : w.heap.size < w19.heap.size := by omega
  have z300 : w6.heap.size < w19.heap.size := by omega
  have z301 : w7.heap.size < w19.heap.size := by omega
  have z302 : w10.heap.size < w19.heap.size := by omega
  have d303 : tplT.Fx w2.heap.size w3.heap.size w19 [.int .i64 x0.1, .slice ad11 x0.2.length ad11'] x0 := d280.tch hb19 (by omega)
  have d304 : rowsT.Fx w3.heap.size w4.heap.size w19 [.slice ad19 x2.length ad19'] x2 := d281.tch hb19 (by omega)
  have d305 : intsT.Fx w4.heap.size w5.heap.size w19 [.slice ad28 x3.length ad28'] x3 := d282.tch hb19 (by omega)
  have d306 : opT.Fx w5.heap.size w6.heap.size w19 [.int .i64 (pwV x0 n1 x2 x3).1, .slice ad38 (pwV x0 n1 x2 x3).2.length ad38'] (pwV x0 n1 x2 x3) := d283.tch hb19 (by omega)
  have d307 : tplT.Fx (w6.heap.size + 1) w7.heap.size w19 [.int .i64 x0.1, .slice ad52 x0.2.length ad52'] (mkTpl 1 x0) := d284.tch hb19 (by omega)
  have d308 : rowsT.Fx (w7.heap.size + 1) w8.heap.size w19 [.slice ad70 x2.length ad70'] (mkRows (1 + cntTpl x0) x2) := d267.tch hb19 (by omega)
  have d309 : opT.Fx w9.heap.size w10.heap.size w19 [.int .i64 (pwV x0 n1 x2 x3).1, .slice ad109 (pwV x0 n1 x2 x3).2.length ad109'] (pwV x0 n1 x2 x3) := d286.tch hb19 (by omega)
  have d310 : rowsT.Fx w12.heap.size w13.heap.size w19 [.slice ad173 x2.length ad173'] x2 := d287.tch hb19 (by omega)
  have d311 : intsT.Fx w14.heap.size w15.heap.size w19 [.slice ad219 x3.length ad219'] x3 := d288.tch hb19 (by omega)
  clear hb19 H_w18 f268 f269 f270 f271 f272 f273 f274 f275 d280 d281 d282 d283 d284 d267 d286 d287 d288 z276 z277 z278 z279
  have hk312 : 0 ≤ (((1 + cntTpl x0) + cntRows x2) + cntI x3) := by omega
  go_wp2_with fail
  refine (eqOp_any _ (d309.rd.below (by repeat (first | exact Below.refl _ _ | exact bA | assumption | refine Below.setCell ?_ (by first | omega | (simp; try omega)) _ | refine Below.alloc ?_ (by first | omega | (simp; try omega)) _ | refine Below.drew ?_ | refine bDN ?_ | refine bthen ?_ (by assumption)))) (d306.rd.below (by repeat (first | exact Below.refl _ _ | exact bA | assumption | refine Below.setCell ?_ (by first | omega | (simp; try omega)) _ | refine Below.alloc ?_ (by first | omega | (simp; try omega)) _ | refine Below.drew ?_ | refine bDN ?_ | refine bthen ?_ (by assumption))))).mono ?_
  rintro e w20 ⟨rfl, hb20⟩
  have gw20 : Below w19.heap.size w19 w20 := bthen (by repeat (first | exact Below.refl _ _ | exact bA | assumption | refine Below.setCell ?_ (by first | omega | (simp; try omega)) _ | refine Below.alloc ?_ (by first | omega | (simp; try omega)) _ | refine Below.drew ?_ | refine bDN ?_ | refine bthen ?_ (by assumption))) hb20
  have sw20 : w19.heap.size + 0 ≤ w20.heap.size := by have := hb20.size; (try simp at this); omega
  have H_w20 : Below w.heap.size w w20 := bthen H_w19 gw20
  have f313 : w20.cell? ⟨w.heap.size, 0, none⟩ = some (.int .i64 x0.1) := (gw20.cell (by first | omega | (simp; try omega))).trans f291
  have f314 : w20.cell? ⟨w.heap.size, 1, none⟩ = some (u0) := (gw20.cell (by first | omega | (simp; try omega))).trans f292
  have f315 : w20.cell? ⟨w6.heap.size, 0, none⟩ = some (.int .i64 (pwV x0 n1 x2 x3).1) := (gw20.cell (by first | omega | (simp; try omega))).trans f293
  have f316 : w20.cell? ⟨w6.heap.size, 1, none⟩ = some (.slice ad38 (pwV x0 n1 x2 x3).2.length ad38') := (gw20.cell (by first | omega | (simp; try omega))).trans f294
  have f317 : w20.cell? ⟨w7.heap.size, 0, none⟩ = some (.int .i64 x0.1) := (gw20.cell (by first | omega | (simp; try omega))).trans f295
  have f318 : w20.cell? ⟨w7.heap.size, 1, none⟩ = some (.slice ad52 x0.2.length ad52') := (gw20.cell (by first | omega | (simp; try omega))).trans f296
  have f319 : w20.cell? ⟨w10.heap.size, 0, none⟩ = some (.int .i64 (pwV x0 n1 x2 x3).1) := (gw20.cell (by first | omega | (simp; try omega))).trans f297
  have f320 : w20.cell? ⟨w10.heap.size, 1, none⟩ = some (.slice ad109 (pwV x0 n1 x2 x3).2.length ad109') := (gw20.cell (by first | omega | (simp; try omega))).trans f298
  have z321 : w.heap.size < w20.heap.size := by omega
  have z322 : w6.heap.size < w20.heap.size := by omega
  have z323 : w7.heap.size < w20.heap.size := by omega
  have z324 : w10.heap.size < w20.heap.size := by omega
  have d325 : tplT.Fx w2.heap.size w3.heap.size w20 [.int .i64 x0.1, .slice ad11 x0.2.length ad11'] x0 := d303.below gw20
  have d326 : rowsT.Fx w3.heap.size w4.heap.size w20 [.slice ad19 x2.length ad19'] x2 := d304.below gw20
  have d327 : intsT.Fx w4.heap.size w5.heap.size w20 [.slice ad28 x3.length ad28'] x3 := d305.below gw20
  have d328 : opT.Fx w5.heap.size w6.heap.size w20 [.int .i64 (pwV x0 n1 x2 x3).1, .slice ad38 (pwV x0 n1 x2 x3).2.length ad38'] (pwV x0 n1 x2 x3) := d306.below gw20
  have d329 : tplT.Fx (w6.heap.size + 1) w7.heap.size w20 [.int .i64 x0.1, .slice ad52 x0.2.length ad52'] (mkTpl 1 x0) := d307.below gw20
  have d330 : rowsT.Fx (w7.heap.size + 1) w8.heap.size w20 [.slice ad70 x2.length ad70'] (mkRows (1 + cntTpl x0) x2) := d308.below gw20
  have d331 : intsT.Fx w8.heap.size w9.heap.size w20 [.slice ad89 x3.length ad89'] (mkI ((1 + cntTpl x0) + cntRows x2) x3) := d290.below gw20
  have d332 : opT.Fx w9.heap.size w10.heap.size w20 [.int .i64 (pwV x0 n1 x2 x3).1, .slice ad109 (pwV x0 n1 x2 x3).2.length ad109'] (pwV x0 n1 x2 x3) := d309.below gw20
  have d333 : rowsT.Fx w12.heap.size w13.heap.size w20 [.slice ad173 x2.length ad173'] x2 := d310.below gw20
  have d334 : intsT.Fx w14.heap.size w15.heap.size w20 [.slice ad219 x3.length ad219'] x3 := d311.below gw20
  clear hb20 H_w19 f291 f292 f293 f294 f295 f296 f297 f298 d303 d304 d305 d306 d307 d308 d290 d309 d310 d311 z299 z300 z301 z302 gw20
  rw [eqB_true rfl]
  go_wp2_with fail
  refine (markOp_fx _ d332 _ (by omega) (by omega)).mono ?_
  rintro e w21 ⟨rfl, hb21, d335⟩
  clear d332
  have sw21 : w20.heap.size ≤ w21.heap.size := hb21.size
  have H_w21 : Below w.heap.size w w21 := below_tch H_w20 hb21 (by omega) (by omega)
  have f336 : w21.cell? ⟨w.heap.size, 0, none⟩ = some (.int .i64 x0.1) := (hb21.cell (by omega) (by omega)).trans f313
  have f337 : w21.cell? ⟨w.heap.size, 1, none⟩ = some (u0) := (hb21.cell (by omega) (by omega)).trans f314
  have f338 : w21.cell? ⟨w6.heap.size, 0, none⟩ = some (.int .i64 (pwV x0 n1 x2 x3).1) := (hb21.cell (by omega) (by omega)).trans f315
  have f339 : w21.cell? ⟨w6.heap.size, 1, none⟩ = some (.slice ad38 (pwV x0 n1 x2 x3).2.length ad38') := (hb21.cell (by omega) (by omega)).trans f316
  have f340 : w21.cell? ⟨w7.heap.size, 0, none⟩ = some (.int .i64 x0.1) := (hb21.cell (by omega) (by omega)).trans f317
  have f341 : w21.cell? ⟨w7.heap.size, 1, none⟩ = some (.slice ad52 x0.2.length ad52') := (hb21.cell (by omega) (by omega)).trans f318
  have f342 : w21.cell? ⟨w10.heap.size, 0, none⟩ = some (.int .i64 (pwV x0 n1 x2 x3).1) := (hb21.cell (by omega) (by omega)).trans f319
  have f343 : w21.cell? ⟨w10.heap.size, 1, none⟩ = some (.slice ad109 (pwV x0 n1 x2 x3).2.length ad109') := (hb21.cell (by omega) (by omega)).trans f320
  have z344 : w.heap.size < w21.heap.size := by omega
  have z345 : w6.heap.size < w21.heap.size := by omega
  have z346 : w7.heap.size < w21.heap.size := by omega
  have z347 : w10.heap.size < w21.heap.size := by omega
  have d348 : tplT.Fx w2.heap.size w3.heap.size w21 [.int .i64 x0.1, .slice ad11 x0.2.length ad11'] x0 := d325.tch hb21 (by omega)
  have d349 : rowsT.Fx w3.heap.size w4.heap.size w21 [.slice ad19 x2.length ad19'] x2 := d326.tch hb21 (by omega)
  have d350 : intsT.Fx w4.heap.size w5.heap.size w21 [.slice ad28 x3.length ad28'] x3 := d327.tch hb21 (by omega)
  have d351 : opT.Fx w5.heap.size w6.heap.size w21 [.int .i64 (pwV x0 n1 x2 x3).1, .slice ad38 (pwV x0 n1 x2 x3).2.length ad38'] (pwV x0 n1 x2 x3) := d328.tch hb21 (by omega)
  have d352 : tplT.Fx (w6.heap.size + 1) w7.heap.size w21 [.int .i64 x0.1, .slice ad52 x0.2.length ad52'] (mkTpl 1 x0) := d329.tch hb21 (by omega)
  have d353 : rowsT.Fx (w7.heap.size + 1) w8.heap.size w21 [.slice ad70 x2.length ad70'] (mkRows (1 + cntTpl x0) x2) := d330.tch hb21 (by omega)
  have d354 : intsT.Fx w8.heap.size w9.heap.size w21 [.slice ad89 x3.length ad89'] (mkI ((1 + cntTpl x0) + cntRows x2) x3) := d331.tch hb21 (by omega)
  have d355 : rowsT.Fx w12.heap.size w13.heap.size w21 [.slice ad173 x2.length ad173'] x2 := d333.tch hb21 (by omega)
  have d356 : intsT.Fx w14.heap.size w15.heap.size w21 [.slice ad219 x3.length ad219'] x3 := d334.tch hb21 (by omega)
  clear hb21 H_w20 f313 f314 f315 f316 f317 f318 f319 f320 d325 d326 d327 d328 d329 d330 d331 d333 d334 z321 z322 z323 z324
  have hk357 : 0 ≤ (1 + cntOp (pwV x0 n1 x2 x3)) := by omega
  go_wp2_with fail
  refine (heldOp_any _ _ d335.rd (by omega) (by omega)).mono ?_
  rintro e w22 ⟨rfl, hb22⟩
  have gw22 : Below w21.heap.size w21 w22 := bthen (by repeat (first | exact Below.refl _ _ | exact bA | assumption | refine Below.setCell ?_ (by first | omega | (simp; try omega)) _ | refine Below.alloc ?_ (by first | omega | (simp; try omega)) _ | refine Below.drew ?_ | refine bDN ?_ | refine bthen ?_ (by assumption))) hb22
  have sw22 : w21.heap.size + 0 ≤ w22.heap.size := by have := hb22.size; (try simp at this); omega
  have H_w22 : Below w.heap.size w w22 := bthen H_w21 gw22
  have f358 : w22.cell? ⟨w.heap.size, 0, none⟩ = some (.int .i64 x0.1) := (gw22.cell (by first | omega | (simp; try omega))).trans f336
  have f359 : w22.cell? ⟨w.heap.size, 1, none⟩ = some (u0) := (gw22.cell (by first | omega | (simp; try omega))).trans f337
  have f360 : w22.cell? ⟨w6.heap.size, 0, none⟩ = some (.int .i64 (pwV x0 n1 x2 x3).1) := (gw22.cell (by first | omega | (simp; try omega))).trans f338
  have f361 : w22.cell? ⟨w6.heap.size, 1, none⟩ = some (.slice ad38 (pwV x0 n1 x2 x3).2.length ad38') := (gw22.cell (by first | omega | (simp; try omega))).trans f339
  have f362 : w22.cell? ⟨w7.heap.size, 0, none⟩ = some (.int .i64 x0.1) := (gw22.cell (by first | omega | (simp; try omega))).trans f340
  have f363 : w22.cell? ⟨w7.heap.size, 1, none⟩ = some (.slice ad52 x0.2.length ad52') := (gw22.cell (by first | omega | (simp; try omega))).trans f341
  have f364 : w22.cell? ⟨w10.heap.size, 0, none⟩ = some (.int .i64 (pwV x0 n1 x2 x3).1) := (gw22.cell (by first | omega | (simp; try omega))).trans f342
  have f365 : w22.cell? ⟨w10.heap.size, 1, none⟩ = some (.slice ad109 (pwV x0 n1 x2 x3).2.length ad109') := (gw22.cell (by first | omega | (simp; try omega))).trans f343
  have z366 : w.heap.size < w22.heap.size := by omega
  have z367 : w6.heap.size < w22.heap.size := by omega
  have z368 : w7.heap.size < w22.heap.size := by omega
  have z369 : w10.heap.size < w22.heap.size := by omega
  have d370 : tplT.Fx w2.heap.size w3.heap.size w22 [.int .i64 x0.1, .slice ad11 x0.2.length ad11'] x0 := d348.below gw22
  have d371 : rowsT.Fx w3.heap.size w4.heap.size w22 [.slice ad19 x2.length ad19'] x2 := d349.below gw22
  have d372 : intsT.Fx w4.heap.size w5.heap.size w22 [.slice ad28 x3.length ad28'] x3 := d350.below gw22
  have d373 : opT.Fx w5.heap.size w6.heap.size w22 [.int .i64 (pwV x0 n1 x2 x3).1, .slice ad38 (pwV x0 n1 x2 x3).2.length ad38'] (pwV x0 n1 x2 x3) := d351.below gw22
  have d374 : tplT.Fx (w6.heap.size + 1) w7.heap.size w22 [.int .i64 x0.1, .slice ad52 x0.2.length ad52'] (mkTpl 1 x0) := d352.below gw22
  have d375 : rowsT.Fx (w7.heap.size + 1) w8.heap.size w22 [.slice ad70 x2.length ad70'] (mkRows (1 + cntTpl x0) x2) := d353.below gw22
  have d376 : intsT.Fx w8.heap.size w9.heap.size w22 [.slice ad89 x3.length ad89'] (mkI ((1 + cntTpl x0) + cntRows x2) x3) := d354.below gw22
  have d377 : opT.Fx w9.heap.size w10.heap.size w22 [.int .i64 (pwV x0 n1 x2 x3).1, .slice ad109 (pwV x0 n1 x2 x3).2.length ad109'] (mkOp 1 (pwV x0 n1 x2 x3)) := d335.below gw22
  have d378 : rowsT.Fx w12.heap.size w13.heap.size w22 [.slice ad173 x2.length ad173'] x2 := d355.below gw22
  have d379 : intsT.Fx w14.heap.size w15.heap.size w22 [.slice ad219 x3.length ad219'] x3 := d356.below gw22
  clear hb22 H_w21 f336 f337 f338 f339 f340 f341 f342 f343 d348 d349 d350 d351 d352 d353 d354 d335 d355 d356 z344 z345 z346 z347 gw22
  go_wp2_with fail
  refine (toTemplate_any _ (hx0.below (by repeat (first | exact Below.refl _ _ | exact bA | assumption | refine Below.setCell ?_ (by first | omega | (simp; try omega)) _ | refine Below.alloc ?_ (by first | omega | (simp; try omega)) _ | refine Below.drew ?_ | refine bDN ?_ | refine bthen ?_ (by assumption)))) (by first | omega | (unfold szInts; omega))).mono ?_
  rintro e w23 ⟨cs, rfl, hc380, hb23⟩
  have gw23 : Below w22.heap.size w22 w23 := bthen (by repeat (first | exact Below.refl _ _ | exact bA | assumption | refine Below.setCell ?_ (by first | omega | (simp; try omega)) _ | refine Below.alloc ?_ (by first | omega | (simp; try omega)) _ | refine Below.drew ?_ | refine bDN ?_ | refine bthen ?_ (by assumption))) hb23
  have sw23 : w22.heap.size + 0 ≤ w23.heap.size := by have := hb23.size; (try simp at this); omega
  have H_w23 : Below w.heap.size w w23 := bthen H_w22 gw23
  have f381 : w23.cell? ⟨w.heap.size, 0, none⟩ = some (.int .i64 x0.1) := (gw23.cell (by first | omega | (simp; try omega))).trans f358
  have f382 : w23.cell? ⟨w.heap.size, 1, none⟩ = some (u0) := (gw23.cell (by first | omega | (simp; try omega))).trans f359
  have f383 : w23.cell? ⟨w6.heap.size, 0, none⟩ = some (.int .i64 (pwV x0 n1 x2 x3).1) := (gw23.cell (by first | omega | (simp; try omega))).trans f360
  have f384 : w23.cell? ⟨w6.heap.size, 1, none⟩ = some (.slice ad38 (pwV x0 n1 x2 x3).2.length ad38') := (gw23.cell (by first | omega | (simp; try omega))).trans f361
  have f385 : w23.cell? ⟨w7.heap.size, 0, none⟩ = some (.int .i64 x0.1) := (gw23.cell (by first | omega | (simp; try omega))).trans f362
  have f386 : w23.cell? ⟨w7.heap.size, 1, none⟩ = some (.slice ad52 x0.2.length ad52') := (gw23.cell (by first | omega | (simp; try omega))).trans f363
  have f387 : w23.cell? ⟨w10.heap.size, 0, none⟩ = some (.int .i64 (pwV x0 n1 x2 x3).1) := (gw23.cell (by first | omega | (simp; try omega))).trans f364
  have f388 : w23.cell? ⟨w10.heap.size, 1, none⟩ = some (.slice ad109 (pwV x0 n1 x2 x3).2.length ad109') := (gw23.cell (by first | omega | (simp; try omega))).trans f365
  have z389 : w.heap.size < w23.heap.size := by omega
  have z390 : w6.heap.size < w23.heap.size := by omega
  have z391 : w7.heap.size < w23.heap.size := by omega
  have z392 : w10.heap.size < w23.heap.size := by omega
  have d393 : tplT.Fx w2.heap.size w3.heap.size w23 [.int .i64 x0.1, .slice ad11 x0.2.length ad11'] x0 := d370.below gw23
  have d394 : rowsT.Fx w3.heap.size w4.heap.size w23 [.slice ad19 x2.length ad19'] x2 := d371.below gw23
  have d395 : intsT.Fx w4.heap.size w5.heap.size w23 [.slice ad28 x3.length ad28'] x3 := d372.below gw23
  have d396 : opT.Fx w5.heap.size w6.heap.size w23 [.int .i64 (pwV x0 n1 x2 x3).1, .slice ad38 (pwV x0 n1 x2 x3).2.length ad38'] (pwV x0 n1 x2 x3) := d373.below gw23
  have d397 : tplT.Fx (w6.heap.size + 1) w7.heap.size w23 [.int .i64 x0.1, .slice ad52 x0.2.length ad52'] (mkTpl 1 x0) := d374.below gw23
  have d398 : rowsT.Fx (w7.heap.size + 1) w8.heap.size w23 [.slice ad70 x2.length ad70'] (mkRows (1 + cntTpl x0) x2) := d375.below gw23
  have d399 : intsT.Fx w8.heap.size w9.heap.size w23 [.slice ad89 x3.length ad89'] (mkI ((1 + cntTpl x0) + cntRows x2) x3) := d376.below gw23
  have d400 : opT.Fx w9.heap.size w10.heap.size w23 [.int .i64 (pwV x0 n1 x2 x3).1, .slice ad109 (pwV x0 n1 x2 x3).2.length ad109'] (mkOp 1 (pwV x0 n1 x2 x3)) := d377.below gw23
  have d401 : rowsT.Fx w12.heap.size w13.heap.size w23 [.slice ad173 x2.length ad173'] x2 := d378.below gw23
  have d402 : intsT.Fx w14.heap.size w15.heap.size w23 [.slice ad219 x3.length ad219'] x3 := d379.below gw23
  clear hb23 H_w22 f358 f359 f360 f361 f362 f363 f364 f365 d370 d371 d372 d373 d374 d375 d376 d377 d378 d379 z366 z367 z368 z369 gw23
  obtain ⟨ad403, ad403', rfl⟩ := fr_pair hc380
  have d404 : tplT.Fx w22.heap.size w23.heap.size w23 [.int .i64 x0.1, .slice ad403 x0.2.length ad403'] x0 := (Ty.Fr.mono hc380 (by first | exact Nat.le_refl _ | (simp; try omega))).fx
  clear hc380
  go_wp2_with fail
  refine (toInt64SS_any _ (hx2.below (by repeat (first | exact Below.refl _ _ | exact bA | assumption | refine Below.setCell ?_ (by first | omega | (simp; try omega)) _ | refine Below.alloc ?_ (by first | omega | (simp; try omega)) _ | refine Below.drew ?_ | refine bDN ?_ | refine bthen ?_ (by assumption)))) (by first | omega | (unfold szInts; omega))).mono ?_
  rintro e w24 ⟨cs, rfl, hc406, hb24⟩
  have gw24 : Below w23.heap.size w23 w24 := bthen (by repeat (first | exact Below.refl _ _ | exact bA | assumption | refine Below.setCell ?_ (by first | omega | (simp; try omega)) _ | refine Below.alloc ?_ (by first | omega | (simp; try omega)) _ | refine Below.drew ?_ | refine bDN ?_ | refine bthen ?_ (by assumption))) hb24
  have sw24 : w23.heap.size + 0 ≤ w24.heap.size := by have := hb24.size; (try simp at this); omega
  have H_w24 : Below w.heap.size w w24 := bthen H_w23 gw24
  have f407 : w24.cell? ⟨w.heap.size, 0, none⟩ = some (.int .i64 x0.1) := (gw24.cell (by first | omega | (simp; try omega))).trans f381
  have f408 : w24.cell? ⟨w.heap.size, 1, none⟩ = some (u0) := (gw24.cell (by first | omega | (simp; try omega))).trans f382
  have f409 : w24.cell? ⟨w6.heap.size, 0, none⟩ = some (.int .i64 (pwV x0 n1 x2 x3).1) := (gw24.cell (by first | omega | (simp; try omega))).trans f383
  have f410 : w24.cell? ⟨w6.heap.size, 1, none⟩ = some (.slice ad38 (pwV x0 n1 x2 x3).2.length ad38') := (gw24.cell (by first | omega | (simp; try omega))).trans f384
  have f411 : w24.cell? ⟨w7.heap.size, 0, none⟩ = some (.int .i64 x0.1) := (gw24.cell (by first | omega | (simp; try omega))).trans f385
  have f412 : w24.cell? ⟨w7.heap.size, 1, none⟩ = some (.slice ad52 x0.2.length ad52') := (gw24.cell (by first | omega | (simp; try omega))).trans f386
  have f413 : w24.cell? ⟨w10.heap.size, 0, none⟩ = some (.int .i64 (pwV x0 n1 x2 x3).1) := (gw24.cell (by first | omega | (simp; try omega))).trans f387
  have f414 : w24.cell? ⟨w10.heap.size, 1, none⟩ = some (.slice ad109 (pwV x0 n1 x2 x3).2.length ad109') := (gw24.cell (by first | omega | (simp; try omega))).trans f388
  have z415 : w.heap.size < w24.heap.size := by omega
  have z416 : w6.heap.size < w24.heap.size := by omega
  have z417 : w7.heap.size < w24.heap.size := by omega
  have z418 : w10.heap.size < w24.heap.size := by omega
  have d419 : tplT.Fx w2.heap.size w3.heap.size w24 [.int .i64 x0.1, .slice ad11 x0.2.length ad11'] x0 := d393.below gw24
  have d420 : rowsT.Fx w3.heap.size w4.heap.size w24 [.slice ad19 x2.length ad19'] x2 := d394.below gw24
  have d421 : intsT.Fx w4.heap.size w5.heap.size w24 [.slice ad28 x3.length ad28'] x3 := d395.below gw24
  have d422 : opT.Fx w5.heap.size w6.heap.size w24 [.int .i64 (pwV x0 n1 x2 x3).1, .slice ad38 (pwV x0 n1 x2 x3).2.length ad38'] (pwV x0 n1 x2 x3) := d396.below gw24
  have d423 : tplT.Fx (w6.heap.size + 1) w7.heap.size w24 [.int .i64 x0.1, .slice ad52 x0.2.length ad52'] (mkTpl 1 x0) := d397.below gw24
  have d424 : rowsT.Fx (w7.heap.size + 1) w8.heap.size w24 [.slice ad70 x2.length ad70'] (mkRows (1 + cntTpl x0) x2) := d398.below gw24
  have d425 : intsT.Fx w8.heap.size w9.heap.size w24 [.slice ad89 x3.length ad89'] (mkI ((1 + cntTpl x0) + cntRows x2) x3) := d399.below gw24
  have d426 : opT.Fx w9.heap.size w10.heap.size w24 [.int .i64 (pwV x0 n1 x2 x3).1, .slice ad109 (pwV x0 n1 x2 x3).2.length ad109'] (mkOp 1 (pwV x0 n1 x2 x3)) := d400.below gw24
  have d427 : rowsT.Fx w12.heap.size w13.heap.size w24 [.slice ad173 x2.length ad173'] x2 := d401.below gw24
  have d428 : intsT.Fx w14.heap.size w15.heap.size w24 [.slice ad219 x3.length ad219'] x3 := d402.below gw24
  have d429 : tplT.Fx w22.heap.size w23.heap.size w24 [.int .i64 x0.1, .slice ad403 x0.2.length ad403'] x0 := d404.below gw24
  clear hb24 H_w23 f381 f382 f383 f384 f385 f386 f387 f388 d393 d394 d395 d396 d397 d398 d399 d400 d401 d402 d404 z389 z390 z391 z392 gw24
  obtain ⟨ad430, ad430', rfl⟩ := fr_slice hc406
  have d431 : rowsT.Fx w23.heap.size w24.heap.size w24 [.slice ad430 x2.length ad430'] x2 := (Ty.Fr.mono hc406 (by first | exact Nat.le_refl _ | (simp; try omega))).fx
  clear hc406
  go_wp2_with fail
  refine (toInt64S_any _ (hx3.below (by repeat (first | exact Below.refl _ _ | exact bA | assumption | refine Below.setCell ?_ (by first | omega | (simp; try omega)) _ | refine Below.alloc ?_ (by first | omega | (simp; try omega)) _ | refine Below.drew ?_ | refine bDN ?_ | refine bthen ?_ (by assumption)))) (by first | omega | (unfold szInts; omega))).mono ?_
  rintro e w25 ⟨cs, rfl, hc433, hb25⟩
  have gw25 : Below w24.heap.size w24 w25 := bthen (by repeat (first | exact Below.refl _ _ | exact bA | assumption | refine Below.setCell ?_ (by first | omega | (simp; try omega)) _ | refine Below.alloc ?_ (by first | omega | (simp; try omega)) _ | refine Below.drew ?_ | refine bDN ?_ | refine bthen ?_ (by assumption))) hb25
  have sw25 : w24.heap.size + 0 ≤ w25.heap.size := by have := hb25.size; (try simp at this); omega
  have H_w25 : Below w.heap.size w w25 := bthen H_w24 gw25
  have f434 : w25.cell? ⟨w.heap.size, 0, none⟩ = some (.int .i64 x0.1) := (gw25.cell (by first | omega | (simp; try omega))).trans f407
  have f435 : w25.cell? ⟨w.heap.size, 1, none⟩ = some (u0) := (gw25.cell (by first | omega | (simp; try omega))).trans f408
  have f436 : w25.cell? ⟨w6.heap.size, 0, none⟩ = some (.int .i64 (pwV x0 n1 x2 x3).1) := (gw25.cell (by first | omega | (simp; try omega))).trans f409
  have f437 : w25.cell? ⟨w6.heap.size, 1, none⟩ = some (.slice ad38 (pwV x0 n1 x2 x3).2.length ad38') := (gw25.cell (by first | omega | (simp; try omega))).trans f410
  have f438 : w25.cell? ⟨w7.heap.size, 0, none⟩ = some (.int .i64 x0.1) := (gw25.cell (by first | omega | (simp; try omega))).trans f411
  have f439 : w25.cell? ⟨w7.heap.size, 1, none⟩ = some (.slice ad52 x0.2.length ad52') := (gw25.cell (by first | omega | (simp; try omega))).trans f412
  have f440 : w25.cell? ⟨w10.heap.size, 0, none⟩ = some (.int .i64 (pwV x0 n1 x2 x3).1) := (gw25.cell (by first | omega | (simp; try omega))).trans f413
  have f441 : w25.cell? ⟨w10.heap.size, 1, none⟩ = some (.slice ad109 (pwV x0 n1 x2 x3).2.length ad109') := (gw25.cell (by first | omega | (simp; try omega))).trans f414
  have z442 : w.heap.size < w25.heap.size := by omega
  have z443 : w6.heap.size < w25.heap.size := by omega
  have z444 : w7.heap.size < w25.heap.size := by omega
  have z445 : w10.heap.size < w25.heap.size := by omega
  have d446 : tplT.Fx w2.heap.size w3.heap.size w25 [.int .i64 x0.1, .slice ad11 x0.2.length ad11'] x0 := d419.below gw25
  have d447 : rowsT.Fx w3.heap.size w4.heap.size w25 [.slice ad19 x2.length ad19'] x2 := d420.below gw25
  have d448 : intsT.Fx w4.heap.size w5.heap.size w25 [.slice ad28 x3.length ad28'] x3 := d421.below gw25
  have d449 : opT.Fx w5.heap.size w6.heap.size w25 [.int .i64 (pwV x0 n1 x2 x3).1, .slice ad38 (pwV x0 n1 x2 x3).2.length ad38'] (pwV x0 n1 x2 x3) := d422.below gw25
  have d450 : tplT.Fx (w6.heap.size + 1) w7.heap.size w25 [.int .i64 x0.1, .slice ad52 x0.2.length ad52'] (mkTpl 1 x0) := d423.below gw25
  have d451 : rowsT.Fx (w7.heap.size + 1) w8.heap.size w25 [.slice ad70 x2.length ad70'] (mkRows (1 + cntTpl x0) x2) := d424.below gw25
  have d452 : intsT.Fx w8.heap.size w9.heap.size w25 [.slice ad89 x3.length ad89'] (mkI ((1 + cntTpl x0) + cntRows x2) x3) := d425.below gw25
  have d453 : opT.Fx w9.heap.size w10.heap.size w25 [.int .i64 (pwV x0 n1 x2 x3).1, .slice ad109 (pwV x0 n1 x2 x3).2.length ad109'] (mkOp 1 (pwV x0 n1 x2 x3)) := d426.below gw25
  have d454 : rowsT.Fx w12.heap.size w13.heap.size w25 [.slice ad173 x2.length ad173'] x2 := d427.below gw25
  have d455 : intsT.Fx w14.heap.size w15.heap.size w25 [.slice ad219 x3.length ad219'] x3 := d428.below gw25
  have d456 : tplT.Fx w22.heap.size w23.heap.size w25 [.int .i64 x0.1, .slice ad403 x0.2.length ad403'] x0 := d429.below gw25
  have d457 : rowsT.Fx w23.heap.size w24.heap.size w25 [.slice ad430 x2.length ad430'] x2 := d431.below gw25
  clear hb25 H_w24 f407 f408 f409 f410 f411 f412 f413 f414 d419 d420 d421 d422 d423 d424 d425 d426 d427 d428 d429 d431 z415 z416 z417 z418 gw25
  obtain ⟨ad458, ad458', rfl⟩ := fr_slice hc433
  have d459 : intsT.Fx w24.heap.size w25.heap.size w25 [.slice ad458 x3.length ad458'] x3 := (Ty.Fr.mono hc433 (by first | exact Nat.le_refl _ | (simp; try omega))).fx
  clear hc433
  go_wp2_with fail
  refine (PolymorphismWith_any _ (d456.rd.below (by repeat (first | exact Below.refl _ _ | exact bA | assumption | refine Below.setCell ?_ (by first | omega | (simp; try omega)) _ | refine Below.alloc ?_ (by first | omega | (simp; try omega)) _ | refine Below.drew ?_ | refine bDN ?_ | refine bthen ?_ (by assumption)))) (d457.rd.below (by repeat (first | exact Below.refl _ _ | exact bA | assumption | refine Below.setCell ?_ (by first | omega | (simp; try omega)) _ | refine Below.alloc ?_ (by first | omega | (simp; try omega)) _ | refine Below.drew ?_ | refine bDN ?_ | refine bthen ?_ (by assumption)))) (d459.rd.below (by repeat (first | exact Below.refl _ _ | exact bA | assumption | refine Below.setCell ?_ (by first | omega | (simp; try omega)) _ | refine Below.alloc ?_ (by first | omega | (simp; try omega)) _ | refine Below.drew ?_ | refine bDN ?_ | refine bthen ?_ (by assumption))))).mono ?_
  rintro e w26 ⟨cs, rfl, hc461, hb26⟩
  have gw26 : Below w25.heap.size w25 w26 := bthen (by repeat (first | exact Below.refl _ _ | exact bA | assumption | refine Below.setCell ?_ (by first | omega | (simp; try omega)) _ | refine Below.alloc ?_ (by first | omega | (simp; try omega)) _ | refine Below.drew ?_ | refine bDN ?_ | refine bthen ?_ (by assumption))) hb26
  have sw26 : w25.heap.size + 0 ≤ w26.heap.size := by have := hb26.size; (try simp at this); omega
  have H_w26 : Below w.heap.size w w26 := bthen H_w25 gw26
  have f462 : w26.cell? ⟨w.heap.size, 0, none⟩ = some (.int .i64 x0.1) := (gw26.cell (by first | omega | (simp; try omega))).trans f434
  have f463 : w26.cell? ⟨w.heap.size, 1, none⟩ = some (u0) := (gw26.cell (by first | omega | (simp; try omega))).trans f435
  have f464 : w26.cell? ⟨w6.heap.size, 0, none⟩ = some (.int .i64 (pwV x0 n1 x2 x3).1) := (gw26.cell (by first | omega | (simp; try omega))).trans f436
  have f465 : w26.cell? ⟨w6.heap.size, 1, none⟩ = some (.slice ad38 (pwV x0 n1 x2 x3).2.length ad38') := (gw26.cell (by first | omega | (simp; try omega))).trans f437
  have f466 : w26.cell? ⟨w7.heap.size, 0, none⟩ = some (.int .i64 x0.1) := (gw26.cell (by first | omega | (simp; try omega))).trans f438
  have f467 : w26.cell? ⟨w7.heap.size, 1, none⟩ = some (.slice ad52 x0.2.length ad52') := (gw26.cell (by first | omega | (simp; try omega))).trans f439
  have f468 : w26.cell? ⟨w10.heap.size, 0, none⟩ = some (.int .i64 (pwV x0 n1 x2 x3).1) := (gw26.cell (by first | omega | (simp; try omega))).trans f440
  have f469 : w26.cell? ⟨w10.heap.size, 1, none⟩ = some (.slice ad109 (pwV x0 n1 x2 x3).2.length ad109') := (gw26.cell (by first | omega | (simp; try omega))).trans f441
  have z470 : w.heap.size < w26.heap.size := by omega
  have z471 : w6.heap.size < w26.heap.size := by omega
  have z472 : w7.heap.size < w26.heap.size := by omega
  have z473 : w10.heap.size < w26.heap.size := by omega
  have d474 : tplT.Fx w2.heap.size w3.heap.size w26 [.int .i64 x0.1, .slice ad11 x0.2.length ad11'] x0 := d446.below gw26
  have d475 : rowsT.Fx w3.heap.size w4.heap.size w26 [.slice ad19 x2.length ad19'] x2 := d447.below gw26
  have d476 : intsT.Fx w4.heap.size w5.heap.size w26 [.slice ad28 x3.length ad28'] x3 := d448.below gw26
  have d477 : opT.Fx w5.heap.size w6.heap.size w26 [.int .i64 (pwV x0 n1 x2 x3).1, .slice ad38 (pwV x0 n1 x2 x3).2.length ad38'] (pwV x0 n1 x2 x3) := d449.below gw26
  have d478 : tplT.Fx (w6.heap.size + 1) w7.heap.size w26 [.int .i64 x0.1, .slice ad52 x0.2.length ad52'] (mkTpl 1 x0) := d450.below gw26
  have d479 : rowsT.Fx (w7.heap.size + 1) w8.heap.size w26 [.slice ad70 x2.length ad70'] (mkRows (1 + cntTpl x0) x2) := d451.below gw26
  have d480 : intsT.Fx w8.heap.size w9.heap.size w26 [.slice ad89 x3.length ad89'] (mkI ((1 + cntTpl x0) + cntRows x2) x3) := d452.below gw26
  have d481 : opT.Fx w9.heap.size w10.heap.size w26 [.int .i64 (pwV x0 n1 x2 x3).1, .slice ad109 (pwV x0 n1 x2 x3).2.length ad109'] (mkOp 1 (pwV x0 n1 x2 x3)) := d453.below gw26
  have d482 : rowsT.Fx w12.heap.size w13.heap.size w26 [.slice ad173 x2.length ad173'] x2 := d454.below gw26
  have d483 : intsT.Fx w14.heap.size w15.heap.size w26 [.slice ad219 x3.length ad219'] x3 := d455.below gw26
  have d484 : tplT.Fx w22.heap.size w23.heap.size w26 [.int .i64 x0.1, .slice ad403 x0.2.length ad403'] x0 := d456.below gw26
  have d485 : rowsT.Fx w23.heap.size w24.heap.size w26 [.slice ad430 x2.length ad430'] x2 := d457.below gw26
  have d486 : intsT.Fx w24.heap.size w25.heap.size w26 [.slice ad458 x3.length ad458'] x3 := d459.below gw26
  clear hb26 H_w25 f434 f435 f436 f437 f438 f439 f440 f441 d446 d447 d448 d449 d450 d451 d452 d453 d454 d455 d456 d457 d459 z442 z443 z444 z445 gw26
  obtain ⟨ad487, ad487', rfl⟩ := fr_pair hc461
  have d488 : opT.Fx w25.heap.size w26.heap.size w26 [.int .i64 (pwV x0 n1 x2 x3).1, .slice ad487 (pwV x0 n1 x2 x3).2.length ad487'] (pwV x0 n1 x2 x3) := (Ty.Fr.mono hc461 (by first | exact Nat.le_refl _ | (simp; try omega))).fx
  clear hc461
  go_wp2_with fail
  refine (eqOp_any _ (d488.rd.below (by repeat (first | exact Below.refl _ _ | exact bA | assumption | refine Below.setCell ?_ (by first | omega | (simp; try omega)) _ | refine Below.alloc ?_ (by first | omega | (simp; try omega)) _ | refine Below.drew ?_ | refine bDN ?_ | refine bthen ?_ (by assumption)))) (d477.rd.below (by repeat (first | exact Below.refl _ _ | exact bA | assumption | refine Below.setCell ?_ (by first | omega | (simp; try omega)) _ | refine Below.alloc ?_ (by first | omega | (simp; try omega)) _ | refine Below.drew ?_ | refine bDN ?_ | refine bthen ?_ (by assumption))))).mono ?_
  rintro e w27 ⟨rfl, hb27⟩
  have gw27 : Below w26.heap.size w26 w27 := bthen (by repeat (first | exact Below.refl _ _ | exact bA | assumption | refine Below.setCell ?_ (by first | omega | (simp; try omega)) _ | refine Below.alloc ?_ (by first | omega | (simp; try omega)) _ | refine Below.drew ?_ | refine bDN ?_ | refine bthen ?_ (by assumption))) hb27
  have sw27 : w26.heap.size + 1 ≤ w27.heap.size := by have := hb27.size; (try simp at this); omega
  have H_w27 : Below w.heap.size w w27 := bthen H_w26 gw27
  have f490 : w27.cell? ⟨w.heap.size, 0, none⟩ = some (.int .i64 x0.1) := (gw27.cell (by first | omega | (simp; try omega))).trans f462
  have f491 : w27.cell? ⟨w.heap.size, 1, none⟩ = some (u0) := (gw27.cell (by first | omega | (simp; try omega))).trans f463
  have f492 : w27.cell? ⟨w6.heap.size, 0, none⟩ = some (.int .i64 (pwV x0 n1 x2 x3).1) := (gw27.cell (by first | omega | (simp; try omega))).trans f464
  have f493 : w27.cell? ⟨w6.heap.size, 1, none⟩ = some (.slice ad38 (pwV x0 n1 x2 x3).2.length ad38') := (gw27.cell (by first | omega | (simp; try omega))).trans f465
  have f494 : w27.cell? ⟨w7.heap.size, 0, none⟩ = some (.int .i64 x0.1) := (gw27.cell (by first | omega | (simp; try omega))).trans f466
  have f495 : w27.cell? ⟨w7.heap.size, 1, none⟩ = some (.slice ad52 x0.2.length ad52') := (gw27.cell (by first | omega | (simp; try omega))).trans f467
  have f496 : w27.cell? ⟨w10.heap.size, 0, none⟩ = some (.int .i64 (pwV x0 n1 x2 x3).1) := (gw27.cell (by first | omega | (simp; try omega))).trans f468
  have f497 : w27.cell? ⟨w10.heap.size, 1, none⟩ = some (.slice ad109 (pwV x0 n1 x2 x3).2.length ad109') := (gw27.cell (by first | omega | (simp; try omega))).trans f469
  have f498 : w27.cell? ⟨w26.heap.size, 0, none⟩ = some (.int .i64 (pwV x0 n1 x2 x3).1) := by rw [(bcell hb27).1 _ _ (by first | omega | (simp; try omega))]; first | (simp; done) | simp [go_sem]
  have f499 : w27.cell? ⟨w26.heap.size, 1, none⟩ = some (.slice ad487 (pwV x0 n1 x2 x3).2.length ad487') := by rw [(bcell hb27).1 _ _ (by first | omega | (simp; try omega))]; first | (simp; done) | simp [go_sem]
  have z500 : w.heap.size < w27.heap.size := by omega
  have z501 : w6.heap.size < w27.heap.size := by omega
  have z502 : w7.heap.size < w27.heap.size := by omega
  have z503 : w10.heap.size < w27.heap.size := by omega
  have z504 : w26.heap.size < w27.heap.size := by omega
  have d505 : tplT.Fx w2.heap.size w3.heap.size w27 [.int .i64 x0.1, .slice ad11 x0.2.length ad11'] x0 := d474.below gw27
  have d506 : rowsT.Fx w3.heap.size w4.heap.size w27 [.slice ad19 x2.length ad19'] x2 := d475.below gw27
  have d507 : intsT.Fx w4.heap.size w5.heap.size w27 [.slice ad28 x3.length ad28'] x3 := d476.below gw27
  have d508 : opT.Fx w5.heap.size w6.heap.size w27 [.int .i64 (pwV x0 n1 x2 x3).1, .slice ad38 (pwV x0 n1 x2 x3).2.length ad38'] (pwV x0 n1 x2 x3) := d477.below gw27
  have d509 : tplT.Fx (w6.heap.size + 1) w7.heap.size w27 [.int .i64 x0.1, .slice ad52 x0.2.length ad52'] (mkTpl 1 x0) := d478.below gw27
  have d510 : rowsT.Fx (w7.heap.size + 1) w8.heap.size w27 [.slice ad70 x2.length ad70'] (mkRows (1 + cntTpl x0) x2) := d479.below gw27
  have d511 : intsT.Fx w8.heap.size w9.heap.size w27 [.slice ad89 x3.length ad89'] (mkI ((1 + cntTpl x0) + cntRows x2) x3) := d480.below gw27
  have d512 : opT.Fx w9.heap.size w10.heap.size w27 [.int .i64 (pwV x0 n1 x2 x3).1, .slice ad109 (pwV x0 n1 x2 x3).2.length ad109'] (mkOp 1 (pwV x0 n1 x2 x3)) := d481.below gw27
  have d513 : rowsT.Fx w12.heap.size w13.heap.size w27 [.slice ad173 x2.length ad173'] x2 := d482.below gw27
  have d514 : intsT.Fx w14.heap.size w15.heap.size w27 [.slice ad219 x3.length ad219'] x3 := d483.below gw27
  have d515 : tplT.Fx w22.heap.size w23.heap.size w27 [.int .i64 x0.1, .slice ad403 x0.2.length ad403'] x0 := d484.below gw27
  have d516 : rowsT.Fx w23.heap.size w24.heap.size w27 [.slice ad430 x2.length ad430'] x2 := d485.below gw27
  have d517 : intsT.Fx w24.heap.size w25.heap.size w27 [.slice ad458 x3.length ad458'] x3 := d486.below gw27
  have d518 : opT.Fx w25.heap.size w26.heap.size w27 [.int .i64 (pwV x0 n1 x2 x3).1, .slice ad487 (pwV x0 n1 x2 x3).2.length ad487'] (pwV x0 n1 x2 x3) := d488.below gw27
  clear hb27 H_w26 f462 f463 f464 f465 f466 f467 f468 f469 d474 d475 d476 d477 d478 d479 d480 d481 d482 d483 d484 d485 d486 d488 z470 z471 z472 z473 gw27
  rw [eqB_true rfl]
  go_wp2_with fail
  refine (heldOp_any _ _ d512.rd (by omega) (by omega)).mono ?_
  rintro e w28 ⟨rfl, hb28⟩
  have gw28 : Below w27.heap.size w27 w28 := bthen (by repeat (first | exact Below.refl _ _ | exact bA | assumption | refine Below.setCell ?_ (by first | omega | (simp; try omega)) _ | refine Below.alloc ?_ (by first | omega | (simp; try omega)) _ | refine Below.drew ?_ | refine bDN ?_ | refine bthen ?_ (by assumption))) hb28
  have sw28 : w27.heap.size + 0 ≤ w28.heap.size := by have := hb28.size; (try simp at this); omega
  have H_w28 : Below w.heap.size w w28 := bthen H_w27 gw28
  have f519 : w28.cell? ⟨w.heap.size, 0, none⟩ = some (.int .i64 x0.1) := (gw28.cell (by first | omega | (simp; try omega))).trans f490
  have f520 : w28.cell? ⟨w.heap.size, 1, none⟩ = some (u0) := (gw28.cell (by first | omega | (simp; try omega))).trans f491
  have f521 : w28.cell? ⟨w6.heap.size, 0, none⟩ = some (.int .i64 (pwV x0 n1 x2 x3).1) := (gw28.cell (by first | omega | (simp; try omega))).trans f492
  have f522 : w28.cell? ⟨w6.heap.size, 1, none⟩ = some (.slice ad38 (pwV x0 n1 x2 x3).2.length ad38') := (gw28.cell (by first | omega | (simp; try omega))).trans f493
  have f523 : w28.cell? ⟨w7.heap.size, 0, none⟩ = some (.int .i64 x0.1) := (gw28.cell (by first | omega | (simp; try omega))).trans f494
  have f524 : w28.cell? ⟨w7.heap.size, 1, none⟩ = some (.slice ad52 x0.2.length ad52') := (gw28.cell (by first | omega | (simp; try omega))).trans f495
  have f525 : w28.cell? ⟨w10.heap.size, 0, none⟩ = some (.int .i64 (pwV x0 n1 x2 x3).1) := (gw28.cell (by first | omega | (simp; try omega))).trans f496
  have f526 : w28.cell? ⟨w10.heap.size, 1, none⟩ = some (.slice ad109 (pwV x0 n1 x2 x3).2.length ad109') := (gw28.cell (by first | omega | (simp; try omega))).trans f497
  have f527 : w28.cell? ⟨w26.heap.size, 0, none⟩ = some (.int .i64 (pwV x0 n1 x2 x3).1) := (gw28.cell (by first | omega | (simp; try omega))).trans f498
  have f528 : w28.cell? ⟨w26.heap.size, 1, none⟩ = some (.slice ad487 (pwV x0 n1 x2 x3).2.length ad487') := (gw28.cell (by first | omega | (simp; try omega))).trans f499
  have z529 : w.heap.size < w28.heap.size := by omega
  have z530 : w6.heap.size < w28.heap.size := by omega
  have z531 : w7.heap.size < w28.heap.size := by omega
  have z532 : w10.heap.size < w28.heap.size := by omega
  have z533 : w26.heap.size < w28.heap.size := by omega
  have d534 : tplT.Fx w2.heap.size w3.heap.size w28 [.int .i64 x0.1, .slice ad11 x0.2.length ad11'] x0 := d505.below gw28
  have d535 : rowsT.Fx w3.heap.size w4.heap.size w28 [.slice ad19 x2.length ad19'] x2 := d506.below gw28
  have d536 : intsT.Fx w4.heap.size w5.heap.size w28 [.slice ad28 x3.length ad28'] x3 := d507.below gw28
  have d537 : opT.Fx w5.heap.size w6.heap.size w28 [.int .i64 (pwV x0 n1 x2 x3).1, .slice ad38 (pwV x0 n1 x2 x3).2.length ad38'] (pwV x0 n1 x2 x3) := d508.below gw28
  have d538 : tplT.Fx (w6.heap.size + 1) w7.heap.size w28 [.int .i64 x0.1, .slice ad52 x0.2.length ad52'] (mkTpl 1 x0) := d509.below gw28
  have d539 : rowsT.Fx (w7.heap.size + 1) w8.heap.size w28 [.slice ad70 x2.length ad70'] (mkRows (1 + cntTpl x0) x2) := d510.below gw28
  have d540 : intsT.Fx w8.heap.size w9.heap.size w28 [.slice ad89 x3.length ad89'] (mkI ((1 + cntTpl x0) + cntRows x2) x3) := d511.below gw28
  have d541 : opT.Fx w9.heap.size w10.heap.size w28 [.int .i64 (pwV x0 n1 x2 x3).1, .slice ad109 (pwV x0 n1 x2 x3).2.length ad109'] (mkOp 1 (pwV x0 n1 x2 x3)) := d512.below gw28
  have d542 : rowsT.Fx w12.heap.size w13.heap.size w28 [.slice ad173 x2.length ad173'] x2 := d513.below gw28
  have d543 : intsT.Fx w14.heap.size w15.heap.size w28 [.slice ad219 x3.length ad219'] x3 := d514.below gw28
  have d544 : tplT.Fx w22.heap.size w23.heap.size w28 [.int .i64 x0.1, .slice ad403 x0.2.length ad403'] x0 := d515.below gw28
  have d545 : rowsT.Fx w23.heap.size w24.heap.size w28 [.slice ad430 x2.length ad430'] x2 := d516.below gw28
  have d546 : intsT.Fx w24.heap.size w25.heap.size w28 [.slice ad458 x3.length ad458'] x3 := d517.below gw28
  have d547 : opT.Fx w25.heap.size w26.heap.size w28 [.int .i64 (pwV x0 n1 x2 x3).1, .slice ad487 (pwV x0 n1 x2 x3).2.length ad487'] (pwV x0 n1 x2 x3) := d518.below gw28
  clear hb28 H_w27 f490 f491 f492 f493 f494 f495 f496 f497 f498 f499 d505 d506 d507 d508 d509 d510 d511 d512 d513 d514 d515 d516 d517 d518 z500 z501 z502 z503 z504 gw28
  go_wp2_with fail
  go_ret
  exact ⟨rfl, (by repeat (first | exact Below.refl _ _ | exact bA | assumption | refine Below.setCell ?_ (by first | omega | (simp; try omega)) _ | refine Below.alloc ?_ (by first | omega | (simp; try omega)) _ | refine Below.drew ?_ | refine bDN ?_ | refine bthen ?_ (by assumption)))⟩
end Go.Proofs.Ytccobadobklbpaa
