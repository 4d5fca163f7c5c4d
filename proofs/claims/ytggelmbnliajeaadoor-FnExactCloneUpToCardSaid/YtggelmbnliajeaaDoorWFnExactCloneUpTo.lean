/-
 The law FnExactCloneUpTo, walked: its contract.
-/
import Derived.Test.YtggelmbnliajeaaDoorQAF
import Derived.Test.YtggelmbnliajeaaDoorQAH
import Derived.Test.YtggelmbnliajeaaDoorQAB
import Derived.Test.YtggelmbnliajeaaDoorQAD
namespace Go.Proofs.YtggelmbnliajeaaDoor
open Go.RowKit Go.Sort
set_option maxHeartbeats 6400000 in
set_option maxRecDepth 100000 in
theorem fnExactCloneUpTo_any (w : World) {n0 : Int} (_h0 : I64 n0) {n1 : Int} (_h1 : I64 n1) {v2 : Value} {x2 : List (Int × List Int)} (h2 : opsT.Rd w [v2] x2) :
  Calls Tryd.prog 3 #[.int .i64 n0, .int .i64 n1, v2] w fun e w' => e = .returned (.bool true) ∧ Below w.heap.size w w' := by
 have hx2 := h2
 obtain ⟨ad2, cap2, rfl⟩ := rd_slice hx2
 clear h2
 have hn2 := szOps_nn x2
 have hcn2 : cntOps x2 ≤ szOps x2 := cntOps_sz x2
 have hcz2 : 0 ≤ cntOps x2 := cntOps_nn x2
 have H_w : Below w.heap.size w w := Below.refl _ _
 go_enter Tryd.func3, Tryd.ntmps3
 go_wp2_with fail
 refine (szOpS_any _ (hx2.below (by repeat (first | exact Below.refl _ _ | exact bA | assumption | refine Below.setCell ?_ (by first | omega | (simp; try omega)) _ | refine Below.alloc ?_ (by first | omega | (simp; try omega)) _ | refine Below.drew ?_ | refine bDN ?_ | refine bthen ?_ (by assumption)))) _ (by omega) (by omega)).mono ?_
 rintro e w1 ⟨rfl, hb1⟩
 have gw1 : Below w.heap.size w w1 := bthen (by repeat (first | exact Below.refl _ _ | exact bA | assumption | refine Below.setCell ?_ (by first | omega | (simp; try omega)) _ | refine Below.alloc ?_ (by first | omega | (simp; try omega)) _ | refine Below.drew ?_ | refine bDN ?_ | refine bthen ?_ (by assumption))) hb1
 have sw1 : w.heap.size + 0 ≤ w1.heap.size := by have := hb1.size; (try simp at this); omega
 have H_w1 : Below w.heap.size w w1 := bthen H_w gw1
 clear hb1 gw1
 rcases ilt 1048576 (szOps x2) with hl2 | hl2
 ·rw [szR_lt hl2]
  go_wp2_with fail
  go_ret
  exact ⟨rfl, (by repeat (first | exact Below.refl _ _ | exact bA | assumption | refine Below.setCell ?_ (by first | omega | (simp; try omega)) _ | refine Below.alloc ?_ (by first | omega | (simp; try omega)) _ | refine Below.drew ?_ | refine bDN ?_ | refine bthen ?_ (by assumption)))⟩
 rw [szR_ge hl2]
 go_wp2_with fail
 refine (toOpS_any _ (hx2.below (by repeat (first | exact Below.refl _ _ | exact bA | assumption | refine Below.setCell ?_ (by first | omega | (simp; try omega)) _ | refine Below.alloc ?_ (by first | omega | (simp; try omega)) _ | refine Below.drew ?_ | refine bDN ?_ | refine bthen ?_ (by assumption)))) (by first | omega | (unfold szInts; omega))).mono ?_
 rintro e w2 ⟨cs, rfl, hc1, hb2⟩
 have gw2 : Below w1.heap.size w1 w2 := bthen (by repeat (first | exact Below.refl _ _ | exact bA | assumption | refine Below.setCell ?_ (by first | omega | (simp; try omega)) _ | refine Below.alloc ?_ (by first | omega | (simp; try omega)) _ | refine Below.drew ?_ | refine bDN ?_ | refine bthen ?_ (by assumption))) hb2
 have sw2 : w1.heap.size + 0 ≤ w2.heap.size := by have := hb2.size; (try simp at this); omega
 have H_w2 : Below w.heap.size w w2 := bthen H_w1 gw2
 clear hb2 H_w1 gw2
 obtain ⟨ad2, ad2', rfl⟩ := fr_slice hc1
 have d3 : opsT.Fx w1.heap.size w2.heap.size w2 [.slice ad2 x2.length ad2'] x2 := (Ty.Fr.mono hc1 (by first | exact Nat.le_refl _ | (simp; try omega))).fx
 clear hc1
 go_wp2_with fail
 have hcr1 : cntOps (cuV n0 n1 x2) ≤ 1000000000 := (Int.le_trans cu_cnt (by omega))
 have hcrz1 : 0 ≤ cntOps (cuV n0 n1 x2) := cntOps_nn _
 refine (specCloneUpTo_any _ (d3.rd.below (by repeat (first | exact Below.refl _ _ | exact bA | assumption | refine Below.setCell ?_ (by first | omega | (simp; try omega)) _ | refine Below.alloc ?_ (by first | omega | (simp; try omega)) _ | refine Below.drew ?_ | refine bDN ?_ | refine bthen ?_ (by assumption))))).mono ?_
 rintro e w3 ⟨cs, rfl, hc5, hb3⟩
 have gw3 : Below w2.heap.size w2 w3 := bthen (by repeat (first | exact Below.refl _ _ | exact bA | assumption | refine Below.setCell ?_ (by first | omega | (simp; try omega)) _ | refine Below.alloc ?_ (by first | omega | (simp; try omega)) _ | refine Below.drew ?_ | refine bDN ?_ | refine bthen ?_ (by assumption))) hb3
 have sw3 : w2.heap.size + 0 ≤ w3.heap.size := by have := hb3.size; (try simp at this); omega
 have H_w3 : Below w.heap.size w w3 := bthen H_w2 gw3
 have d6 : opsT.Fx w1.heap.size w2.heap.size w3 [.slice ad2 x2.length ad2'] x2 := d3.below gw3
 clear hb3 H_w2 d3 gw3
 obtain ⟨ad7, ad7', rfl⟩ := fr_slice hc5
 have d8 : opsT.Fx w2.heap.size w3.heap.size w3 [.slice ad7 (cuV n0 n1 x2).length ad7'] (cuV n0 n1 x2) := (Ty.Fr.mono hc5 (by first | exact Nat.le_refl _ | (simp; try omega))).fx
 clear hc5
 go_wp2_with fail
 refine (toOpS_any _ (hx2.below (by repeat (first | exact Below.refl _ _ | exact bA | assumption | refine Below.setCell ?_ (by first | omega | (simp; try omega)) _ | refine Below.alloc ?_ (by first | omega | (simp; try omega)) _ | refine Below.drew ?_ | refine bDN ?_ | refine bthen ?_ (by assumption)))) (by first | omega | (unfold szInts; omega))).mono ?_
 rintro e w4 ⟨cs, rfl, hc10, hb4⟩
 have gw4 : Below w3.heap.size w3 w4 := bthen (by repeat (first | exact Below.refl _ _ | exact bA | assumption | refine Below.setCell ?_ (by first | omega | (simp; try omega)) _ | refine Below.alloc ?_ (by first | omega | (simp; try omega)) _ | refine Below.drew ?_ | refine bDN ?_ | refine bthen ?_ (by assumption))) hb4
 have sw4 : w3.heap.size + 0 ≤ w4.heap.size := by have := hb4.size; (try simp at this); omega
 have H_w4 : Below w.heap.size w w4 := bthen H_w3 gw4
 have d11 : opsT.Fx w1.heap.size w2.heap.size w4 [.slice ad2 x2.length ad2'] x2 := d6.below gw4
 have d12 : opsT.Fx w2.heap.size w3.heap.size w4 [.slice ad7 (cuV n0 n1 x2).length ad7'] (cuV n0 n1 x2) := d8.below gw4
 clear hb4 H_w3 d6 d8 gw4
 obtain ⟨ad13, ad13', rfl⟩ := fr_slice hc10
 have d14 : opsT.Fx w3.heap.size w4.heap.size w4 [.slice ad13 x2.length ad13'] x2 := (Ty.Fr.mono hc10 (by first | exact Nat.le_refl _ | (simp; try omega))).fx
 clear hc10
 go_wp2_with fail
 refine (CloneUpTo_any _ (d14.rd.below (by repeat (first | exact Below.refl _ _ | exact bA | assumption | refine Below.setCell ?_ (by first | omega | (simp; try omega)) _ | refine Below.alloc ?_ (by first | omega | (simp; try omega)) _ | refine Below.drew ?_ | refine bDN ?_ | refine bthen ?_ (by assumption))))).mono ?_
 rintro e w5 ⟨cs, rfl, hc16, hb5⟩
 have gw5 : Below w4.heap.size w4 w5 := bthen (by repeat (first | exact Below.refl _ _ | exact bA | assumption | refine Below.setCell ?_ (by first | omega | (simp; try omega)) _ | refine Below.alloc ?_ (by first | omega | (simp; try omega)) _ | refine Below.drew ?_ | refine bDN ?_ | refine bthen ?_ (by assumption))) hb5
 have sw5 : w4.heap.size + 0 ≤ w5.heap.size := by have := hb5.size; (try simp at this); omega
 have H_w5 : Below w.heap.size w w5 := bthen H_w4 gw5
 have d17 : opsT.Fx w1.heap.size w2.heap.size w5 [.slice ad2 x2.length ad2'] x2 := d11.below gw5
 have d18 : opsT.Fx w2.heap.size w3.heap.size w5 [.slice ad7 (cuV n0 n1 x2).length ad7'] (cuV n0 n1 x2) := d12.below gw5
 have d19 : opsT.Fx w3.heap.size w4.heap.size w5 [.slice ad13 x2.length ad13'] x2 := d14.below gw5
 clear hb5 H_w4 d11 d12 d14 gw5
 obtain ⟨ad20, ad20', rfl⟩ := fr_slice hc16
 have d21 : opsT.Fx w4.heap.size w5.heap.size w5 [.slice ad20 (cuV n0 n1 x2).length ad20'] (cuV n0 n1 x2) := (Ty.Fr.mono hc16 (by first | exact Nat.le_refl _ | (simp; try omega))).fx
 clear hc16
 go_wp2_with fail
 refine (eqOpS_any _ (d21.rd.below (by repeat (first | exact Below.refl _ _ | exact bA | assumption | refine Below.setCell ?_ (by first | omega | (simp; try omega)) _ | refine Below.alloc ?_ (by first | omega | (simp; try omega)) _ | refine Below.drew ?_ | refine bDN ?_ | refine bthen ?_ (by assumption)))) (d18.rd.below (by repeat (first | exact Below.refl _ _ | exact bA | assumption | refine Below.setCell ?_ (by first | omega | (simp; try omega)) _ | refine Below.alloc ?_ (by first | omega | (simp; try omega)) _ | refine Below.drew ?_ | refine bDN ?_ | refine bthen ?_ (by assumption))))).mono ?_
 rintro e w6 ⟨rfl, hb6⟩
 have gw6 : Below w5.heap.size w5 w6 := bthen (by repeat (first | exact Below.refl _ _ | exact bA | assumption | refine Below.setCell ?_ (by first | omega | (simp; try omega)) _ | refine Below.alloc ?_ (by first | omega | (simp; try omega)) _ | refine Below.drew ?_ | refine bDN ?_ | refine bthen ?_ (by assumption))) hb6
 have sw6 : w5.heap.size + 0 ≤ w6.heap.size := by have := hb6.size; (try simp at this); omega
 have H_w6 : Below w.heap.size w w6 := bthen H_w5 gw6
 have d23 : opsT.Fx w1.heap.size w2.heap.size w6 [.slice ad2 x2.length ad2'] x2 := d17.below gw6
 have d24 : opsT.Fx w2.heap.size w3.heap.size w6 [.slice ad7 (cuV n0 n1 x2).length ad7'] (cuV n0 n1 x2) := d18.below gw6
 have d25 : opsT.Fx w3.heap.size w4.heap.size w6 [.slice ad13 x2.length ad13'] x2 := d19.below gw6
 have d26 : opsT.Fx w4.heap.size w5.heap.size w6 [.slice ad20 (cuV n0 n1 x2).length ad20'] (cuV n0 n1 x2) := d21.below gw6
 clear hb6 H_w5 d17 d18 d19 d21 gw6
 rw [eqB_true rfl]
 go_wp2_with fail
 refine (toOpS_any _ (hx2.below (by repeat (first | exact Below.refl _ _ | exact bA | assumption | refine Below.setCell ?_ (by first | omega | (simp; try omega)) _ | refine Below.alloc ?_ (by first | omega | (simp; try omega)) _ | refine Below.drew ?_ | refine bDN ?_ | refine bthen ?_ (by assumption)))) (by first | omega | (unfold szInts; omega))).mono ?_
 rintro e w7 ⟨cs, rfl, hc27, hb7⟩
 have gw7 : Below w6.heap.size w6 w7 := bthen (by repeat (first | exact Below.refl _ _ | exact bA | assumption | refine Below.setCell ?_ (by first | omega | (simp; try omega)) _ | refine Below.alloc ?_ (by first | omega | (simp; try omega)) _ | refine Below.drew ?_ | refine bDN ?_ | refine bthen ?_ (by assumption))) hb7
 have sw7 : w6.heap.size + 0 ≤ w7.heap.size := by have := hb7.size; (try simp at this); omega
 have H_w7 : Below w.heap.size w w7 := bthen H_w6 gw7
 have d28 : opsT.Fx w1.heap.size w2.heap.size w7 [.slice ad2 x2.length ad2'] x2 := d23.below gw7
 have d29 : opsT.Fx w2.heap.size w3.heap.size w7 [.slice ad7 (cuV n0 n1 x2).length ad7'] (cuV n0 n1 x2) := d24.below gw7
 have d30 : opsT.Fx w3.heap.size w4.heap.size w7 [.slice ad13 x2.length ad13'] x2 := d25.below gw7
 have d31 : opsT.Fx w4.heap.size w5.heap.size w7 [.slice ad20 (cuV n0 n1 x2).length ad20'] (cuV n0 n1 x2) := d26.below gw7
 clear hb7 H_w6 d23 d24 d25 d26 gw7
 obtain ⟨ad32, ad32', rfl⟩ := fr_slice hc27
 have d33 : opsT.Fx w6.heap.size w7.heap.size w7 [.slice ad32 x2.length ad32'] x2 := (Ty.Fr.mono hc27 (by first | exact Nat.le_refl _ | (simp; try omega))).fx
 clear hc27
 go_wp2_with fail
 refine (eqOpS_any _ (d30.rd.below (by repeat (first | exact Below.refl _ _ | exact bA | assumption | refine Below.setCell ?_ (by first | omega | (simp; try omega)) _ | refine Below.alloc ?_ (by first | omega | (simp; try omega)) _ | refine Below.drew ?_ | refine bDN ?_ | refine bthen ?_ (by assumption)))) (d33.rd.below (by repeat (first | exact Below.refl _ _ | exact bA | assumption | refine Below.setCell ?_ (by first | omega | (simp; try omega)) _ | refine Below.alloc ?_ (by first | omega | (simp; try omega)) _ | refine Below.drew ?_ | refine bDN ?_ | refine bthen ?_ (by assumption))))).mono ?_
 rintro e w8 ⟨rfl, hb8⟩
 have gw8 : Below w7.heap.size w7 w8 := bthen (by repeat (first | exact Below.refl _ _ | exact bA | assumption | refine Below.setCell ?_ (by first | omega | (simp; try omega)) _ | refine Below.alloc ?_ (by first | omega | (simp; try omega)) _ | refine Below.drew ?_ | refine bDN ?_ | refine bthen ?_ (by assumption))) hb8
 have sw8 : w7.heap.size + 0 ≤ w8.heap.size := by have := hb8.size; (try simp at this); omega
 have H_w8 : Below w.heap.size w w8 := bthen H_w7 gw8
 have d35 : opsT.Fx w1.heap.size w2.heap.size w8 [.slice ad2 x2.length ad2'] x2 := d28.below gw8
 have d36 : opsT.Fx w2.heap.size w3.heap.size w8 [.slice ad7 (cuV n0 n1 x2).length ad7'] (cuV n0 n1 x2) := d29.below gw8
 have d37 : opsT.Fx w3.heap.size w4.heap.size w8 [.slice ad13 x2.length ad13'] x2 := d30.below gw8
 have d38 : opsT.Fx w4.heap.size w5.heap.size w8 [.slice ad20 (cuV n0 n1 x2).length ad20'] (cuV n0 n1 x2) := d31.below gw8
 have d39 : opsT.Fx w6.heap.size w7.heap.size w8 [.slice ad32 x2.length ad32'] x2 := d33.below gw8
 clear hb8 H_w7 d28 d29 d30 d31 d33 gw8
 rw [eqB_true rfl]
 go_wp2_with fail
 refine (markOpS_fx _ d37 _ (by omega) (by omega)).mono ?_
 rintro e w9 ⟨rfl, hb9, d40⟩
 clear d37
 have sw9 : w8.heap.size ≤ w9.heap.size := hb9.size
 have H_w9 : Below w.heap.size w w9 := below_tch H_w8 hb9 (by omega) (by omega)
 have d41 : opsT.Fx w1.heap.size w2.heap.size w9 [.slice ad2 x2.length ad2'] x2 := d35.tch hb9 (by omega)
 have d42 : opsT.Fx w2.heap.size w3.heap.size w9 [.slice ad7 (cuV n0 n1 x2).length ad7'] (cuV n0 n1 x2) := d36.tch hb9 (by omega)
 have d43 : opsT.Fx w4.heap.size w5.heap.size w9 [.slice ad20 (cuV n0 n1 x2).length ad20'] (cuV n0 n1 x2) := d38.tch hb9 (by omega)
 have d44 : opsT.Fx w6.heap.size w7.heap.size w9 [.slice ad32 x2.length ad32'] x2 := d39.tch hb9 (by omega)
 clear hb9 H_w8 d35 d36 d38 d39
 have hk45 : 0 ≤ (1 + cntOps x2) := by omega
 go_wp2_with fail
 refine (eqOpS_any _ (d43.rd.below (by repeat (first | exact Below.refl _ _ | exact bA | assumption | refine Below.setCell ?_ (by first | omega | (simp; try omega)) _ | refine Below.alloc ?_ (by first | omega | (simp; try omega)) _ | refine Below.drew ?_ | refine bDN ?_ | refine bthen ?_ (by assumption)))) (d42.rd.below (by repeat (first | exact Below.refl _ _ | exact bA | assumption | refine Below.setCell ?_ (by first | omega | (simp; try omega)) _ | refine Below.alloc ?_ (by first | omega | (simp; try omega)) _ | refine Below.drew ?_ | refine bDN ?_ | refine bthen ?_ (by assumption))))).mono ?_
 rintro e w10 ⟨rfl, hb10⟩
 have gw10 : Below w9.heap.size w9 w10 := bthen (by repeat (first | exact Below.refl _ _ | exact bA | assumption | refine Below.setCell ?_ (by first | omega | (simp; try omega)) _ | refine Below.alloc ?_ (by first | omega | (simp; try omega)) _ | refine Below.drew ?_ | refine bDN ?_ | refine bthen ?_ (by assumption))) hb10
 have sw10 : w9.heap.size + 0 ≤ w10.heap.size := by have := hb10.size; (try simp at this); omega
 have H_w10 : Below w.heap.size w w10 := bthen H_w9 gw10
 have d46 : opsT.Fx w1.heap.size w2.heap.size w10 [.slice ad2 x2.length ad2'] x2 := d41.below gw10
 have d47 : opsT.Fx w2.heap.size w3.heap.size w10 [.slice ad7 (cuV n0 n1 x2).length ad7'] (cuV n0 n1 x2) := d42.below gw10
 have d48 : opsT.Fx w3.heap.size w4.heap.size w10 [.slice ad13 x2.length ad13'] (mkOps 1 x2) := d40.below gw10
 have d49 : opsT.Fx w4.heap.size w5.heap.size w10 [.slice ad20 (cuV n0 n1 x2).length ad20'] (cuV n0 n1 x2) := d43.below gw10
 have d50 : opsT.Fx w6.heap.size w7.heap.size w10 [.slice ad32 x2.length ad32'] x2 := d44.below gw10
 clear hb10 H_w9 d41 d42 d40 d43 d44 gw10
 rw [eqB_true rfl]
 go_wp2_with fail
 refine (markOpS_fx _ d49 _ (by omega) (by omega)).mono ?_
 rintro e w11 ⟨rfl, hb11, d51⟩
 clear d49
 have sw11 : w10.heap.size ≤ w11.heap.size := hb11.size
 have H_w11 : Below w.heap.size w w11 := below_tch H_w10 hb11 (by omega) (by omega)
 have d52 : opsT.Fx w1.heap.size w2.heap.size w11 [.slice ad2 x2.length ad2'] x2 := d46.tch hb11 (by omega)
 have d53 : opsT.Fx w2.heap.size w3.heap.size w11 [.slice ad7 (cuV n0 n1 x2).length ad7'] (cuV n0 n1 x2) := d47.tch hb11 (by omega)
 have d54 : opsT.Fx w3.heap.size w4.heap.size w11 [.slice ad13 x2.length ad13'] (mkOps 1 x2) := d48.tch hb11 (by omega)
 have d55 : opsT.Fx w6.heap.size w7.heap.size w11 [.slice ad32 x2.length ad32'] x2 := d50.tch hb11 (by omega)
 clear hb11 H_w10 d46 d47 d48 d50
 have hk56 : 0 ≤ (1 + cntOps (cuV n0 n1 x2)) := by omega
 go_wp2_with fail
 refine (heldOpS_any _ _ d51.rd (by omega) (by omega)).mono ?_
 rintro e w12 ⟨rfl, hb12⟩
 have gw12 : Below w11.heap.size w11 w12 := bthen (by repeat (first | exact Below.refl _ _ | exact bA | assumption | refine Below.setCell ?_ (by first | omega | (simp; try omega)) _ | refine Below.alloc ?_ (by first | omega | (simp; try omega)) _ | refine Below.drew ?_ | refine bDN ?_ | refine bthen ?_ (by assumption))) hb12
 have sw12 : w11.heap.size + 0 ≤ w12.heap.size := by have := hb12.size; (try simp at this); omega
 have H_w12 : Below w.heap.size w w12 := bthen H_w11 gw12
 have d57 : opsT.Fx w1.heap.size w2.heap.size w12 [.slice ad2 x2.length ad2'] x2 := d52.below gw12
 have d58 : opsT.Fx w2.heap.size w3.heap.size w12 [.slice ad7 (cuV n0 n1 x2).length ad7'] (cuV n0 n1 x2) := d53.below gw12
 have d59 : opsT.Fx w3.heap.size w4.heap.size w12 [.slice ad13 x2.length ad13'] (mkOps 1 x2) := d54.below gw12
 have d60 : opsT.Fx w4.heap.size w5.heap.size w12 [.slice ad20 (cuV n0 n1 x2).length ad20'] (mkOps 1 (cuV n0 n1 x2)) := d51.below gw12
 have d61 : opsT.Fx w6.heap.size w7.heap.size w12 [.slice ad32 x2.length ad32'] x2 := d55.below gw12
 clear hb12 H_w11 d52 d53 d54 d51 d55 gw12
 go_wp2_with fail
 refine (toOpS_any _ (hx2.below (by repeat (first | exact Below.refl _ _ | exact bA | assumption | refine Below.setCell ?_ (by first | omega | (simp; try omega)) _ | refine Below.alloc ?_ (by first | omega | (simp; try omega)) _ | refine Below.drew ?_ | refine bDN ?_ | refine bthen ?_ (by assumption)))) (by first | omega | (unfold szInts; omega))).mono ?_
 rintro e w13 ⟨cs, rfl, hc62, hb13⟩
 have gw13 : Below w12.heap.size w12 w13 := bthen (by repeat (first | exact Below.refl _ _ | exact bA | assumption | refine Below.setCell ?_ (by first | omega | (simp; try omega)) _ | refine Below.alloc ?_ (by first | omega | (simp; try omega)) _ | refine Below.drew ?_ | refine bDN ?_ | refine bthen ?_ (by assumption))) hb13
 have sw13 : w12.heap.size + 0 ≤ w13.heap.size := by have := hb13.size; (try simp at this); omega
 have H_w13 : Below w.heap.size w w13 := bthen H_w12 gw13
 have d63 : opsT.Fx w1.heap.size w2.heap.size w13 [.slice ad2 x2.length ad2'] x2 := d57.below gw13
 have d64 : opsT.Fx w2.heap.size w3.heap.size w13 [.slice ad7 (cuV n0 n1 x2).length ad7'] (cuV n0 n1 x2) := d58.below gw13
 have d65 : opsT.Fx w3.heap.size w4.heap.size w13 [.slice ad13 x2.length ad13'] (mkOps 1 x2) := d59.below gw13
 have d66 : opsT.Fx w4.heap.size w5.heap.size w13 [.slice ad20 (cuV n0 n1 x2).length ad20'] (mkOps 1 (cuV n0 n1 x2)) := d60.below gw13
 have d67 : opsT.Fx w6.heap.size w7.heap.size w13 [.slice ad32 x2.length ad32'] x2 := d61.below gw13
 clear hb13 H_w12 d57 d58 d59 d60 d61 gw13
 obtain ⟨ad68, ad68', rfl⟩ := fr_slice hc62
 have d69 : opsT.Fx w12.heap.size w13.heap.size w13 [.slice ad68 x2.length ad68'] x2 := (Ty.Fr.mono hc62 (by first | exact Nat.le_refl _ | (simp; try omega))).fx
 clear hc62
 go_wp2_with fail
 refine (CloneUpTo_any _ (d69.rd.below (by repeat (first | exact Below.refl _ _ | exact bA | assumption | refine Below.setCell ?_ (by first | omega | (simp; try omega)) _ | refine Below.alloc ?_ (by first | omega | (simp; try omega)) _ | refine Below.drew ?_ | refine bDN ?_ | refine bthen ?_ (by assumption))))).mono ?_
 rintro e w14 ⟨cs, rfl, hc71, hb14⟩
 have gw14 : Below w13.heap.size w13 w14 := bthen (by repeat (first | exact Below.refl _ _ | exact bA | assumption | refine Below.setCell ?_ (by first | omega | (simp; try omega)) _ | refine Below.alloc ?_ (by first | omega | (simp; try omega)) _ | refine Below.drew ?_ | refine bDN ?_ | refine bthen ?_ (by assumption))) hb14
 have sw14 : w13.heap.size + 0 ≤ w14.heap.size := by have := hb14.size; (try simp at this); omega
 have H_w14 : Below w.heap.size w w14 := bthen H_w13 gw14
 have d72 : opsT.Fx w1.heap.size w2.heap.size w14 [.slice ad2 x2.length ad2'] x2 := d63.below gw14
 have d73 : opsT.Fx w2.heap.size w3.heap.size w14 [.slice ad7 (cuV n0 n1 x2).length ad7'] (cuV n0 n1 x2) := d64.below gw14
 have d74 : opsT.Fx w3.heap.size w4.heap.size w14 [.slice ad13 x2.length ad13'] (mkOps 1 x2) := d65.below gw14
 have d75 : opsT.Fx w4.heap.size w5.heap.size w14 [.slice ad20 (cuV n0 n1 x2).length ad20'] (mkOps 1 (cuV n0 n1 x2)) := d66.below gw14
 have d76 : opsT.Fx w6.heap.size w7.heap.size w14 [.slice ad32 x2.length ad32'] x2 := d67.below gw14
 have d77 : opsT.Fx w12.heap.size w13.heap.size w14 [.slice ad68 x2.length ad68'] x2 := d69.below gw14
 clear hb14 H_w13 d63 d64 d65 d66 d67 d69 gw14
 obtain ⟨ad78, ad78', rfl⟩ := fr_slice hc71
 have d79 : opsT.Fx w13.heap.size w14.heap.size w14 [.slice ad78 (cuV n0 n1 x2).length ad78'] (cuV n0 n1 x2) := (Ty.Fr.mono hc71 (by first | exact Nat.le_refl _ | (simp; try omega))).fx
 clear hc71
 go_wp2_with fail
 refine (eqOpS_any _ (d79.rd.below (by repeat (first | exact Below.refl _ _ | exact bA | assumption | refine Below.setCell ?_ (by first | omega | (simp; try omega)) _ | refine Below.alloc ?_ (by first | omega | (simp; try omega)) _ | refine Below.drew ?_ | refine bDN ?_ | refine bthen ?_ (by assumption)))) (d73.rd.below (by repeat (first | exact Below.refl _ _ | exact bA | assumption | refine Below.setCell ?_ (by first | omega | (simp; try omega)) _ | refine Below.alloc ?_ (by first | omega | (simp; try omega)) _ | refine Below.drew ?_ | refine bDN ?_ | refine bthen ?_ (by assumption))))).mono ?_
 rintro e w15 ⟨rfl, hb15⟩
 have gw15 : Below w14.heap.size w14 w15 := bthen (by repeat (first | exact Below.refl _ _ | exact bA | assumption | refine Below.setCell ?_ (by first | omega | (simp; try omega)) _ | refine Below.alloc ?_ (by first | omega | (simp; try omega)) _ | refine Below.drew ?_ | refine bDN ?_ | refine bthen ?_ (by assumption))) hb15
 have sw15 : w14.heap.size + 0 ≤ w15.heap.size := by have := hb15.size; (try simp at this); omega
 have H_w15 : Below w.heap.size w w15 := bthen H_w14 gw15
 have d81 : opsT.Fx w1.heap.size w2.heap.size w15 [.slice ad2 x2.length ad2'] x2 := d72.below gw15
 have d82 : opsT.Fx w2.heap.size w3.heap.size w15 [.slice ad7 (cuV n0 n1 x2).length ad7'] (cuV n0 n1 x2) := d73.below gw15
 have d83 : opsT.Fx w3.heap.size w4.heap.size w15 [.slice ad13 x2.length ad13'] (mkOps 1 x2) := d74.below gw15
 have d84 : opsT.Fx w4.heap.size w5.heap.size w15 [.slice ad20 (cuV n0 n1 x2).length ad20'] (mkOps 1 (cuV n0 n1 x2)) := d75.below gw15
 have d85 : opsT.Fx w6.heap.size w7.heap.size w15 [.slice ad32 x2.length ad32'] x2 := d76.below gw15
 have d86 : opsT.Fx w12.heap.size w13.heap.size w15 [.slice ad68 x2.length ad68'] x2 := d77.below gw15
 have d87 : opsT.Fx w13.heap.size w14.heap.size w15 [.slice ad78 (cuV n0 n1 x2).length ad78'] (cuV n0 n1 x2) := d79.below gw15
 clear hb15 H_w14 d72 d73 d74 d75 d76 d77 d79 gw15
 rw [eqB_true rfl]
 go_wp2_with fail
 refine (heldOpS_any _ _ d84.rd (by omega) (by omega)).mono ?_
 rintro e w16 ⟨rfl, hb16⟩
 have gw16 : Below w15.heap.size w15 w16 := bthen (by repeat (first | exact Below.refl _ _ | exact bA | assumption | refine Below.setCell ?_ (by first | omega | (simp; try omega)) _ | refine Below.alloc ?_ (by first | omega | (simp; try omega)) _ | refine Below.drew ?_ | refine bDN ?_ | refine bthen ?_ (by assumption))) hb16
 have sw16 : w15.heap.size + 0 ≤ w16.heap.size := by have := hb16.size; (try simp at this); omega
 have H_w16 : Below w.heap.size w w16 := bthen H_w15 gw16
 have d88 : opsT.Fx w1.heap.size w2.heap.size w16 [.slice ad2 x2.length ad2'] x2 := d81.below gw16
 have d89 : opsT.Fx w2.heap.size w3.heap.size w16 [.slice ad7 (cuV n0 n1 x2).length ad7'] (cuV n0 n1 x2) := d82.below gw16
 have d90 : opsT.Fx w3.heap.size w4.heap.size w16 [.slice ad13 x2.length ad13'] (mkOps 1 x2) := d83.below gw16
 have d91 : opsT.Fx w4.heap.size w5.heap.size w16 [.slice ad20 (cuV n0 n1 x2).length ad20'] (mkOps 1 (cuV n0 n1 x2)) := d84.below gw16
 have d92 : opsT.Fx w6.heap.size w7.heap.size w16 [.slice ad32 x2.length ad32'] x2 := d85.below gw16
 have d93 : opsT.Fx w12.heap.size w13.heap.size w16 [.slice ad68 x2.length ad68'] x2 := d86.below gw16
 have d94 : opsT.Fx w13.heap.size w14.heap.size w16 [.slice ad78 (cuV n0 n1 x2).length ad78'] (cuV n0 n1 x2) := d87.below gw16
 clear hb16 H_w15 d81 d82 d83 d84 d85 d86 d87 gw16
 go_wp2_with fail
 go_ret
 exact ⟨rfl, (by repeat (first | exact Below.refl _ _ | exact bA | assumption | refine Below.setCell ?_ (by first | omega | (simp; try omega)) _ | refine Below.alloc ?_ (by first | omega | (simp; try omega)) _ | refine Below.drew ?_ | refine bDN ?_ | refine bthen ?_ (by assumption)))⟩
end Go.Proofs.YtggelmbnliajeaaDoor
