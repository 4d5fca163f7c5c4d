/-
  The law FnExactAtomFormula, walked: its contract.
-/
import Derived.Test.YtadncmlfkoolkaaK11
import Derived.Test.YtadncmlfkoolkaaKM
import Derived.Test.YtadncmlfkoolkaaKT
namespace Go.Proofs.Ytadncmlfkoolkaa
open Go.RowKit Go.Sort
set_option maxHeartbeats 6400000 in
set_option maxRecDepth 100000 in
theorem fnExactAtomFormula_any (w : World) {c0 : Array Value} {x0 : Int × List (Int × List (List Int))} (h0 : tplT.Rd w c0.toList x0) {n1 : Int} (h1 : I64 n1) :
    Calls Try.prog 3 #[.agg c0, .int .i64 n1] w fun e w' => e = .returned (.bool true) ∧ Below w.heap.size w w' := by
  have hx0 := h0
  obtain ⟨u0, hv0, -, hy0⟩ := pair_ex h0
  obtain rfl := agg_of hv0
  clear hv0 h0
  have hn0 := szTpl_nn x0
  have hcn0 : cntTpl x0 ≤ szTpl x0 := cntRels_sz x0.2
  have hcz0 : 0 ≤ cntTpl x0 := cntRels_nn x0.2
  have H_w : Below w.heap.size w w := Below.refl _ _
  go_enter Try.func3, Try.ntmps3
  go_wp2_with fail
  refine (szTemplate_any _ (hx0.below (by repeat (first | exact Below.refl _ _ | exact bA | assumption | refine Below.setCell ?_ (by first | omega | (simp; try omega)) _ | refine Below.alloc ?_ (by first | omega | (simp; try omega)) _ | refine Below.drew ?_ | refine bDN ?_ | refine bthen ?_ (by assumption)))) _ (by omega) (by omega)).mono ?_
  rintro e w1 ⟨rfl, hb1⟩
  have gw1 : Below w.heap.size w w1 := bthen (by repeat (first | exact Below.refl _ _ | exact bA | assumption | refine Below.setCell ?_ (by first | omega | (simp; try omega)) _ | refine Below.alloc ?_ (by first | omega | (simp; try omega)) _ | refine Below.drew ?_ | refine bDN ?_ | refine bthen ?_ (by assumption))) hb1
  have sw1 : w.heap.size + 1 ≤ w1.heap.size := by have := hb1.size; (try simp at this); omega
  have H_w1 : Below w.heap.size w w1 := bthen H_w gw1
  have f1 : w1.cell? ⟨w.heap.size, 0, none⟩ = some (.int .i64 x0.1) := by rw [(bcell hb1).1 _ _ (by first | omega | (simp; try omega))]; simp
  have f2 : w1.cell? ⟨w.heap.size, 1, none⟩ = some (u0) := by rw [(bcell hb1).1 _ _ (by first | omega | (simp; try omega))]; simp
  have z3 : w.heap.size < w1.heap.size := by omega
  clear hb1 gw1
  rcases ilt 1048576 (szTpl x0) with hl2 | hl2
  · rw [szR_lt hl2]
    go_wp2_with fail
    go_ret
    exact ⟨rfl, (by repeat (first | exact Below.refl _ _ | exact bA | assumption | refine Below.setCell ?_ (by first | omega | (simp; try omega)) _ | refine Below.alloc ?_ (by first | omega | (simp; try omega)) _ | refine Below.drew ?_ | refine bDN ?_ | refine bthen ?_ (by assumption)))⟩
  rw [szR_ge hl2]
  go_wp2_with fail
  refine (toTemplate_any _ (hx0.below (by repeat (first | exact Below.refl _ _ | exact bA | assumption | refine Below.setCell ?_ (by first | omega | (simp; try omega)) _ | refine Below.alloc ?_ (by first | omega | (simp; try omega)) _ | refine Below.drew ?_ | refine bDN ?_ | refine bthen ?_ (by assumption)))) (by first | omega | (unfold szInts; omega))).mono ?_
  rintro e w2 ⟨cs, rfl, hc4, hb2⟩
  have gw2 : Below w1.heap.size w1 w2 := bthen (by repeat (first | exact Below.refl _ _ | exact bA | assumption | refine Below.setCell ?_ (by first | omega | (simp; try omega)) _ | refine Below.alloc ?_ (by first | omega | (simp; try omega)) _ | refine Below.drew ?_ | refine bDN ?_ | refine bthen ?_ (by assumption))) hb2
  have sw2 : w1.heap.size + 0 ≤ w2.heap.size := by have := hb2.size; (try simp at this); omega
  have H_w2 : Below w.heap.size w w2 := bthen H_w1 gw2
  have f5 : w2.cell? ⟨w.heap.size, 0, none⟩ = some (.int .i64 x0.1) := (gw2.cell (by first | omega | (simp; try omega))).trans f1
  have f6 : w2.cell? ⟨w.heap.size, 1, none⟩ = some (u0) := (gw2.cell (by first | omega | (simp; try omega))).trans f2
  have z7 : w.heap.size < w2.heap.size := by omega
  clear hb2 H_w1 f1 f2 z3 gw2
  obtain ⟨ad8, ad8', rfl⟩ := fr_pair hc4
  have d9 : tplT.Fx w1.heap.size w2.heap.size w2 [.int .i64 x0.1, .slice ad8 x0.2.length ad8'] x0 := (Ty.Fr.mono hc4 (by first | exact Nat.le_refl _ | (simp; try omega))).fx
  clear hc4
  go_wp2_with fail
  have hcr1 : cntFrm (atomV x0 n1) ≤ 1000000000 := (Int.le_trans atom_cnt (by omega))
  have hcrz1 : 0 ≤ cntFrm (atomV x0 n1) := cntOps_nn _
  refine (specAtomFormula_any _ (d9.rd.below (by repeat (first | exact Below.refl _ _ | exact bA | assumption | refine Below.setCell ?_ (by first | omega | (simp; try omega)) _ | refine Below.alloc ?_ (by first | omega | (simp; try omega)) _ | refine Below.drew ?_ | refine bDN ?_ | refine bthen ?_ (by assumption))))).mono ?_
  rintro e w3 ⟨cs, rfl, hc11, hb3⟩
  have gw3 : Below w2.heap.size w2 w3 := bthen (by repeat (first | exact Below.refl _ _ | exact bA | assumption | refine Below.setCell ?_ (by first | omega | (simp; try omega)) _ | refine Below.alloc ?_ (by first | omega | (simp; try omega)) _ | refine Below.drew ?_ | refine bDN ?_ | refine bthen ?_ (by assumption))) hb3
  have sw3 : w2.heap.size + 0 ≤ w3.heap.size := by have := hb3.size; (try simp at this); omega
  have H_w3 : Below w.heap.size w w3 := bthen H_w2 gw3
  have f12 : w3.cell? ⟨w.heap.size, 0, none⟩ = some (.int .i64 x0.1) := (gw3.cell (by first | omega | (simp; try omega))).trans f5
  have f13 : w3.cell? ⟨w.heap.size, 1, none⟩ = some (u0) := (gw3.cell (by first | omega | (simp; try omega))).trans f6
  have z14 : w.heap.size < w3.heap.size := by omega
  have d15 : tplT.Fx w1.heap.size w2.heap.size w3 [.int .i64 x0.1, .slice ad8 x0.2.length ad8'] x0 := d9.below gw3
  clear hb3 H_w2 f5 f6 d9 z7 gw3
  obtain ⟨ad16, ad16', rfl⟩ := fr_trip hc11
  have d17 : frmT.Fx w2.heap.size w3.heap.size w3 [.int .i64 (atomV x0 n1).1, .int .i64 (atomV x0 n1).2.1, .slice ad16 (atomV x0 n1).2.2.length ad16'] (atomV x0 n1) := (Ty.Fr.mono hc11 (by first | exact Nat.le_refl _ | (simp; try omega))).fx
  clear hc11
  go_wp2_with fail
  refine (toTemplate_any _ (hx0.below (by repeat (first | exact Below.refl _ _ | exact bA | assumption | refine Below.setCell ?_ (by first | omega | (simp; try omega)) _ | refine Below.alloc ?_ (by first | omega | (simp; try omega)) _ | refine Below.drew ?_ | refine bDN ?_ | refine bthen ?_ (by assumption)))) (by first | omega | (unfold szInts; omega))).mono ?_
  rintro e w4 ⟨cs, rfl, hc19, hb4⟩
  have gw4 : Below w3.heap.size w3 w4 := bthen (by repeat (first | exact Below.refl _ _ | exact bA | assumption | refine Below.setCell ?_ (by first | omega | (simp; try omega)) _ | refine Below.alloc ?_ (by first | omega | (simp; try omega)) _ | refine Below.drew ?_ | refine bDN ?_ | refine bthen ?_ (by assumption))) hb4
  have sw4 : w3.heap.size + 1 ≤ w4.heap.size := by have := hb4.size; (try simp at this); omega
  have H_w4 : Below w.heap.size w w4 := bthen H_w3 gw4
  have f20 : w4.cell? ⟨w.heap.size, 0, none⟩ = some (.int .i64 x0.1) := (gw4.cell (by first | omega | (simp; try omega))).trans f12
  have f21 : w4.cell? ⟨w.heap.size, 1, none⟩ = some (u0) := (gw4.cell (by first | omega | (simp; try omega))).trans f13
  have f22 : w4.cell? ⟨w3.heap.size, 0, none⟩ = some (.int .i64 (atomV x0 n1).1) := by rw [(bcell hb4).1 _ _ (by first | omega | (simp; try omega))]; simp
  have f23 : w4.cell? ⟨w3.heap.size, 1, none⟩ = some (.int .i64 (atomV x0 n1).2.1) := by rw [(bcell hb4).1 _ _ (by first | omega | (simp; try omega))]; simp
  have f24 : w4.cell? ⟨w3.heap.size, 2, none⟩ = some (.slice ad16 (atomV x0 n1).2.2.length ad16') := by rw [(bcell hb4).1 _ _ (by first | omega | (simp; try omega))]; simp
  have z25 : w.heap.size < w4.heap.size := by omega
  have z26 : w3.heap.size < w4.heap.size := by omega
  have d27 : tplT.Fx w1.heap.size w2.heap.size w4 [.int .i64 x0.1, .slice ad8 x0.2.length ad8'] x0 := d15.below gw4
  have d28 : frmT.Fx w2.heap.size w3.heap.size w4 [.int .i64 (atomV x0 n1).1, .int .i64 (atomV x0 n1).2.1, .slice ad16 (atomV x0 n1).2.2.length ad16'] (atomV x0 n1) := d17.below gw4
  clear hb4 H_w3 f12 f13 d15 d17 z14 gw4
  obtain ⟨ad29, ad29', rfl⟩ := fr_pair hc19
  have d30 : tplT.Fx (w3.heap.size + 1) w4.heap.size w4 [.int .i64 x0.1, .slice ad29 x0.2.length ad29'] x0 := (Ty.Fr.mono hc19 (by first | exact Nat.le_refl _ | (simp; try omega))).fx
  clear hc19
  go_wp2_with fail
  refine (AtomFormula_any _ (d30.rd.below (by repeat (first | exact Below.refl _ _ | exact bA | assumption | refine Below.setCell ?_ (by first | omega | (simp; try omega)) _ | refine Below.alloc ?_ (by first | omega | (simp; try omega)) _ | refine Below.drew ?_ | refine bDN ?_ | refine bthen ?_ (by assumption))))).mono ?_
  rintro e w5 ⟨cs, rfl, hc32, hb5⟩
  have gw5 : Below w4.heap.size w4 w5 := bthen (by repeat (first | exact Below.refl _ _ | exact bA | assumption | refine Below.setCell ?_ (by first | omega | (simp; try omega)) _ | refine Below.alloc ?_ (by first | omega | (simp; try omega)) _ | refine Below.drew ?_ | refine bDN ?_ | refine bthen ?_ (by assumption))) hb5
  have sw5 : w4.heap.size + 1 ≤ w5.heap.size := by have := hb5.size; (try simp at this); omega
  have H_w5 : Below w.heap.size w w5 := bthen H_w4 gw5
  have f33 : w5.cell? ⟨w.heap.size, 0, none⟩ = some (.int .i64 x0.1) := (gw5.cell (by first | omega | (simp; try omega))).trans f20
  have f34 : w5.cell? ⟨w.heap.size, 1, none⟩ = some (u0) := (gw5.cell (by first | omega | (simp; try omega))).trans f21
  have f35 : w5.cell? ⟨w3.heap.size, 0, none⟩ = some (.int .i64 (atomV x0 n1).1) := (gw5.cell (by first | omega | (simp; try omega))).trans f22
  have f36 : w5.cell? ⟨w3.heap.size, 1, none⟩ = some (.int .i64 (atomV x0 n1).2.1) := (gw5.cell (by first | omega | (simp; try omega))).trans f23
  have f37 : w5.cell? ⟨w3.heap.size, 2, none⟩ = some (.slice ad16 (atomV x0 n1).2.2.length ad16') := (gw5.cell (by first | omega | (simp; try omega))).trans f24
  have f38 : w5.cell? ⟨w4.heap.size, 0, none⟩ = some (.int .i64 x0.1) := by rw [(bcell hb5).1 _ _ (by first | omega | (simp; try omega))]; simp
  have f39 : w5.cell? ⟨w4.heap.size, 1, none⟩ = some (.slice ad29 x0.2.length ad29') := by rw [(bcell hb5).1 _ _ (by first | omega | (simp; try omega))]; simp
  have z40 : w.heap.size < w5.heap.size := by omega
  have z41 : w3.heap.size < w5.heap.size := by omega
  have z42 : w4.heap.size < w5.heap.size := by omega
  have d43 : tplT.Fx w1.heap.size w2.heap.size w5 [.int .i64 x0.1, .slice ad8 x0.2.length ad8'] x0 := d27.below gw5
  have d44 : frmT.Fx w2.heap.size w3.heap.size w5 [.int .i64 (atomV x0 n1).1, .int .i64 (atomV x0 n1).2.1, .slice ad16 (atomV x0 n1).2.2.length ad16'] (atomV x0 n1) := d28.below gw5
  have d45 : tplT.Fx (w3.heap.size + 1) w4.heap.size w5 [.int .i64 x0.1, .slice ad29 x0.2.length ad29'] x0 := d30.below gw5
  clear hb5 H_w4 f20 f21 f22 f23 f24 d27 d28 d30 z25 z26 gw5
  obtain ⟨ad46, ad46', rfl⟩ := fr_trip hc32
  have d47 : frmT.Fx (w4.heap.size + 1) w5.heap.size w5 [.int .i64 (atomV x0 n1).1, .int .i64 (atomV x0 n1).2.1, .slice ad46 (atomV x0 n1).2.2.length ad46'] (atomV x0 n1) := (Ty.Fr.mono hc32 (by first | exact Nat.le_refl _ | (simp; try omega))).fx
  clear hc32
  go_wp2_with fail
  refine (eqFormula_any _ (d47.rd.below (by repeat (first | exact Below.refl _ _ | exact bA | assumption | refine Below.setCell ?_ (by first | omega | (simp; try omega)) _ | refine Below.alloc ?_ (by first | omega | (simp; try omega)) _ | refine Below.drew ?_ | refine bDN ?_ | refine bthen ?_ (by assumption)))) (d44.rd.below (by repeat (first | exact Below.refl _ _ | exact bA | assumption | refine Below.setCell ?_ (by first | omega | (simp; try omega)) _ | refine Below.alloc ?_ (by first | omega | (simp; try omega)) _ | refine Below.drew ?_ | refine bDN ?_ | refine bthen ?_ (by assumption))))).mono ?_
  rintro e w6 ⟨rfl, hb6⟩
  have gw6 : Below w5.heap.size w5 w6 := bthen (by repeat (first | exact Below.refl _ _ | exact bA | assumption | refine Below.setCell ?_ (by first | omega | (simp; try omega)) _ | refine Below.alloc ?_ (by first | omega | (simp; try omega)) _ | refine Below.drew ?_ | refine bDN ?_ | refine bthen ?_ (by assumption))) hb6
  have sw6 : w5.heap.size + 1 ≤ w6.heap.size := by have := hb6.size; (try simp at this); omega
  have H_w6 : Below w.heap.size w w6 := bthen H_w5 gw6
  have f49 : w6.cell? ⟨w.heap.size, 0, none⟩ = some (.int .i64 x0.1) := (gw6.cell (by first | omega | (simp; try omega))).trans f33
  have f50 : w6.cell? ⟨w.heap.size, 1, none⟩ = some (u0) := (gw6.cell (by first | omega | (simp; try omega))).trans f34
  have f51 : w6.cell? ⟨w3.heap.size, 0, none⟩ = some (.int .i64 (atomV x0 n1).1) := (gw6.cell (by first | omega | (simp; try omega))).trans f35
  have f52 : w6.cell? ⟨w3.heap.size, 1, none⟩ = some (.int .i64 (atomV x0 n1).2.1) := (gw6.cell (by first | omega | (simp; try omega))).trans f36
  have f53 : w6.cell? ⟨w3.heap.size, 2, none⟩ = some (.slice ad16 (atomV x0 n1).2.2.length ad16') := (gw6.cell (by first | omega | (simp; try omega))).trans f37
  have f54 : w6.cell? ⟨w4.heap.size, 0, none⟩ = some (.int .i64 x0.1) := (gw6.cell (by first | omega | (simp; try omega))).trans f38
  have f55 : w6.cell? ⟨w4.heap.size, 1, none⟩ = some (.slice ad29 x0.2.length ad29') := (gw6.cell (by first | omega | (simp; try omega))).trans f39
  have f56 : w6.cell? ⟨w5.heap.size, 0, none⟩ = some (.int .i64 (atomV x0 n1).1) := by rw [(bcell hb6).1 _ _ (by first | omega | (simp; try omega))]; simp
  have f57 : w6.cell? ⟨w5.heap.size, 1, none⟩ = some (.int .i64 (atomV x0 n1).2.1) := by rw [(bcell hb6).1 _ _ (by first | omega | (simp; try omega))]; simp
  have f58 : w6.cell? ⟨w5.heap.size, 2, none⟩ = some (.slice ad46 (atomV x0 n1).2.2.length ad46') := by rw [(bcell hb6).1 _ _ (by first | omega | (simp; try omega))]; simp
  have z59 : w.heap.size < w6.heap.size := by omega
  have z60 : w3.heap.size < w6.heap.size := by omega
  have z61 : w4.heap.size < w6.heap.size := by omega
  have z62 : w5.heap.size < w6.heap.size := by omega
  have d63 : tplT.Fx w1.heap.size w2.heap.size w6 [.int .i64 x0.1, .slice ad8 x0.2.length ad8'] x0 := d43.below gw6
  have d64 : frmT.Fx w2.heap.size w3.heap.size w6 [.int .i64 (atomV x0 n1).1, .int .i64 (atomV x0 n1).2.1, .slice ad16 (atomV x0 n1).2.2.length ad16'] (atomV x0 n1) := d44.below gw6
  have d65 : tplT.Fx (w3.heap.size + 1) w4.heap.size w6 [.int .i64 x0.1, .slice ad29 x0.2.length ad29'] x0 := d45.below gw6
  have d66 : frmT.Fx (w4.heap.size + 1) w5.heap.size w6 [.int .i64 (atomV x0 n1).1, .int .i64 (atomV x0 n1).2.1, .slice ad46 (atomV x0 n1).2.2.length ad46'] (atomV x0 n1) := d47.below gw6
  clear hb6 H_w5 f33 f34 f35 f36 f37 f38 f39 d43 d44 d45 d47 z40 z41 z42 gw6
  rw [eqB_true rfl]
  go_wp2_with fail
  refine wp_region_loose [exV (.agg #[.int .i64 x0.1, .slice ad29 x0.2.length ad29']), exV (.agg #[.int .i64 x0.1, u0]), rdA tplT x0, exV (.bool true), exV (.bool false)] (by kernel_rfl) (by kernel_rfl) ⟨st_exV, st_exV, st_rdA, st_exV, st_exV, trivial⟩ ⟨?j10_0, ?j10_1, ?j10_2, ?j10_3, ?j10_4, trivial⟩ ?hQ10
  case j10_0 =>
    intro a' w' hb hd
    have e0 : a'.tmps[8]?.getD undef = .pointer (some ⟨w4.heap.size, 0, none⟩) := ev (slot_o hd 8 rfl rfl)
    have q : ∀ b o, b < w6.heap.size → w'.cell? ⟨b, o, none⟩ = w6.cell? ⟨b, o, none⟩ := (bcell hb).1
    go_simp
    exact ⟨Below.refl _ _, rfl⟩
  case j10_1 =>
    intro a' w' hb hd
    have e0 : a'.tmps[2]?.getD undef = .pointer (some ⟨w.heap.size, 0, none⟩) := ev (slot_o hd 2 rfl rfl)
    have q : ∀ b o, b < w6.heap.size → w'.cell? ⟨b, o, none⟩ = w6.cell? ⟨b, o, none⟩ := (bcell hb).1
    go_simp
    exact ⟨Below.refl _ _, rfl⟩
  case j10_2 =>
    intro a' w' hb hd
    have e46 : a'.tmps[46]?.getD undef = .agg #[.int .i64 x0.1, u0] := ev (slot_w hd 46 (exV (.agg #[.int .i64 x0.1, u0])) rfl rfl)
    have r46 : tplT.Rd w6 (#[.int .i64 x0.1, u0] : Array Value).toList x0 := hx0.below H_w6
    have r46' := r46.below hb
    go_simp
    exact ⟨Below.refl _ _, (toTemplate_any w' r46' (by first | omega | (unfold szInts; omega))).mono fun e w'' ⟨cs, he, hf, hb⟩ => ⟨_, he, hb, cs, rfl, hf.rd⟩⟩
  case j10_3 =>
    intro a' w' hb hd
    have e45 : a'.tmps[45]?.getD undef = .agg #[.int .i64 x0.1, .slice ad29 x0.2.length ad29'] := ev (slot_w hd 45 (exV (.agg #[.int .i64 x0.1, .slice ad29 x0.2.length ad29'])) rfl rfl)
    have r45 : tplT.Rd w6 (#[.int .i64 x0.1, .slice ad29 x0.2.length ad29'] : Array Value).toList x0 := d65.rd
    have r45' := r45.below hb
    have d47 := slot_w hd 47 (rdA tplT x0) rfl rfl
    obtain ⟨cs47, e47, hf47⟩ := d47
    have e47' := ev e47
    go_simp
    exact ⟨Below.refl _ _, (eqTemplate_any w' r45' hf47).mono fun e w'' ⟨he, hb⟩ => ⟨_, he, hb, exV_eqB⟩⟩
  case j10_4 =>
    intro a' w' hb hd
    have e0 : a'.tmps[48]?.getD undef = .bool true := ev (slot_w hd 48 (exV (.bool true)) rfl rfl)
    go_simp
    exact ⟨Below.refl _ _, rfl⟩
  intro vs10 w7 hb7 H0
  obtain ⟨v10_0, _, rfl, p0, H1⟩ := HAll_cons H0
  obtain ⟨v10_1, _, rfl, p1, H2⟩ := HAll_cons H1
  obtain ⟨v10_2, _, rfl, p2, H3⟩ := HAll_cons H2
  obtain ⟨v10_3, _, rfl, p3, H4⟩ := HAll_cons H3
  obtain ⟨v10_4, _, rfl, p4, H5⟩ := HAll_cons H4
  obtain rfl := HAll_nil H5
  obtain rfl := p0 rfl
  obtain rfl := p1 rfl
  obtain rfl := p3 rfl
  obtain rfl := p4 rfl
  clear p0 p1 p2 p3 p4 H0 H1 H2 H3 H4 H5
  have gw7 : Below w6.heap.size w6 w7 := bthen (by repeat (first | exact Below.refl _ _ | exact bA | assumption | refine Below.setCell ?_ (by first | omega | (simp; try omega)) _ | refine Below.alloc ?_ (by first | omega | (simp; try omega)) _ | refine Below.drew ?_ | refine bDN ?_ | refine bthen ?_ (by assumption))) hb7
  have sw7 : w6.heap.size + 0 ≤ w7.heap.size := by have := hb7.size; (try simp at this); omega
  have H_w7 : Below w.heap.size w w7 := bthen H_w6 gw7
  have f67 : w7.cell? ⟨w.heap.size, 0, none⟩ = some (.int .i64 x0.1) := (gw7.cell (by first | omega | (simp; try omega))).trans f49
  have f68 : w7.cell? ⟨w.heap.size, 1, none⟩ = some (u0) := (gw7.cell (by first | omega | (simp; try omega))).trans f50
  have f69 : w7.cell? ⟨w3.heap.size, 0, none⟩ = some (.int .i64 (atomV x0 n1).1) := (gw7.cell (by first | omega | (simp; try omega))).trans f51
  have f70 : w7.cell? ⟨w3.heap.size, 1, none⟩ = some (.int .i64 (atomV x0 n1).2.1) := (gw7.cell (by first | omega | (simp; try omega))).trans f52
  have f71 : w7.cell? ⟨w3.heap.size, 2, none⟩ = some (.slice ad16 (atomV x0 n1).2.2.length ad16') := (gw7.cell (by first | omega | (simp; try omega))).trans f53
  have f72 : w7.cell? ⟨w4.heap.size, 0, none⟩ = some (.int .i64 x0.1) := (gw7.cell (by first | omega | (simp; try omega))).trans f54
  have f73 : w7.cell? ⟨w4.heap.size, 1, none⟩ = some (.slice ad29 x0.2.length ad29') := (gw7.cell (by first | omega | (simp; try omega))).trans f55
  have f74 : w7.cell? ⟨w5.heap.size, 0, none⟩ = some (.int .i64 (atomV x0 n1).1) := (gw7.cell (by first | omega | (simp; try omega))).trans f56
  have f75 : w7.cell? ⟨w5.heap.size, 1, none⟩ = some (.int .i64 (atomV x0 n1).2.1) := (gw7.cell (by first | omega | (simp; try omega))).trans f57
  have f76 : w7.cell? ⟨w5.heap.size, 2, none⟩ = some (.slice ad46 (atomV x0 n1).2.2.length ad46') := (gw7.cell (by first | omega | (simp; try omega))).trans f58
  have z77 : w.heap.size < w7.heap.size := by omega
  have z78 : w3.heap.size < w7.heap.size := by omega
  have z79 : w4.heap.size < w7.heap.size := by omega
  have z80 : w5.heap.size < w7.heap.size := by omega
  have d81 : tplT.Fx w1.heap.size w2.heap.size w7 [.int .i64 x0.1, .slice ad8 x0.2.length ad8'] x0 := d63.below gw7
  have d82 : frmT.Fx w2.heap.size w3.heap.size w7 [.int .i64 (atomV x0 n1).1, .int .i64 (atomV x0 n1).2.1, .slice ad16 (atomV x0 n1).2.2.length ad16'] (atomV x0 n1) := d64.below gw7
  have d83 : tplT.Fx (w3.heap.size + 1) w4.heap.size w7 [.int .i64 x0.1, .slice ad29 x0.2.length ad29'] x0 := d65.below gw7
  have d84 : frmT.Fx (w4.heap.size + 1) w5.heap.size w7 [.int .i64 (atomV x0 n1).1, .int .i64 (atomV x0 n1).2.1, .slice ad46 (atomV x0 n1).2.2.length ad46'] (atomV x0 n1) := d66.below gw7
  clear hb7 H_w6 f49 f50 f51 f52 f53 f54 f55 f56 f57 f58 d63 d64 d65 d66 z59 z60 z61 z62 gw7
  simp only [putAll, Act.put]
  go_simp
  go_wp2_with fail
  refine (markTemplate_fx _ d83 _ (by omega) (by omega)).mono ?_
  rintro e w8 ⟨rfl, hb8, d85⟩
  clear d83
  have sw8 : w7.heap.size ≤ w8.heap.size := hb8.size
  have H_w8 : Below w.heap.size w w8 := below_tch H_w7 hb8 (by omega) (by omega)
  have f86 : w8.cell? ⟨w.heap.size, 0, none⟩ = some (.int .i64 x0.1) := (hb8.cell (by omega) (by omega)).trans f67
  have f87 : w8.cell? ⟨w.heap.size, 1, none⟩ = some (u0) := (hb8.cell (by omega) (by omega)).trans f68
  have f88 : w8.cell? ⟨w3.heap.size, 0, none⟩ = some (.int .i64 (atomV x0 n1).1) := (hb8.cell (by omega) (by omega)).trans f69
  have f89 : w8.cell? ⟨w3.heap.size, 1, none⟩ = some (.int .i64 (atomV x0 n1).2.1) := (hb8.cell (by omega) (by omega)).trans f70
  have f90 : w8.cell? ⟨w3.heap.size, 2, none⟩ = some (.slice ad16 (atomV x0 n1).2.2.length ad16') := (hb8.cell (by omega) (by omega)).trans f71
  have f91 : w8.cell? ⟨w4.heap.size, 0, none⟩ = some (.int .i64 x0.1) := (hb8.cell (by omega) (by omega)).trans f72
  have f92 : w8.cell? ⟨w4.heap.size, 1, none⟩ = some (.slice ad29 x0.2.length ad29') := (hb8.cell (by omega) (by omega)).trans f73
  have f93 : w8.cell? ⟨w5.heap.size, 0, none⟩ = some (.int .i64 (atomV x0 n1).1) := (hb8.cell (by omega) (by omega)).trans f74
  have f94 : w8.cell? ⟨w5.heap.size, 1, none⟩ = some (.int .i64 (atomV x0 n1).2.1) := (hb8.cell (by omega) (by omega)).trans f75
  have f95 : w8.cell? ⟨w5.heap.size, 2, none⟩ = some (.slice ad46 (atomV x0 n1).2.2.length ad46') := (hb8.cell (by omega) (by omega)).trans f76
  have z96 : w.heap.size < w8.heap.size := by omega
  have z97 : w3.heap.size < w8.heap.size := by omega
  have z98 : w4.heap.size < w8.heap.size := by omega
  have z99 : w5.heap.size < w8.heap.size := by omega
  have d100 : tplT.Fx w1.heap.size w2.heap.size w8 [.int .i64 x0.1, .slice ad8 x0.2.length ad8'] x0 := d81.tch hb8 (by omega)
  have d101 : frmT.Fx w2.heap.size w3.heap.size w8 [.int .i64 (atomV x0 n1).1, .int .i64 (atomV x0 n1).2.1, .slice ad16 (atomV x0 n1).2.2.length ad16'] (atomV x0 n1) := d82.tch hb8 (by omega)
  have d102 : frmT.Fx (w4.heap.size + 1) w5.heap.size w8 [.int .i64 (atomV x0 n1).1, .int .i64 (atomV x0 n1).2.1, .slice ad46 (atomV x0 n1).2.2.length ad46'] (atomV x0 n1) := d84.tch hb8 (by omega)
  clear hb8 H_w7 f67 f68 f69 f70 f71 f72 f73 f74 f75 f76 d81 d82 d84 z77 z78 z79 z80
  have hk103 : 0 ≤ (1 + cntTpl x0) := by omega
  go_wp2_with fail
  refine (eqFormula_any _ (d102.rd.below (by repeat (first | exact Below.refl _ _ | exact bA | assumption | refine Below.setCell ?_ (by first | omega | (simp; try omega)) _ | refine Below.alloc ?_ (by first | omega | (simp; try omega)) _ | refine Below.drew ?_ | refine bDN ?_ | refine bthen ?_ (by assumption)))) (d101.rd.below (by repeat (first | exact Below.refl _ _ | exact bA | assumption | refine Below.setCell ?_ (by first | omega | (simp; try omega)) _ | refine Below.alloc ?_ (by first | omega | (simp; try omega)) _ | refine Below.drew ?_ | refine bDN ?_ | refine bthen ?_ (by assumption))))).mono ?_
  rintro e w9 ⟨rfl, hb9⟩
  have gw9 : Below w8.heap.size w8 w9 := bthen (by repeat (first | exact Below.refl _ _ | exact bA | assumption | refine Below.setCell ?_ (by first | omega | (simp; try omega)) _ | refine Below.alloc ?_ (by first | omega | (simp; try omega)) _ | refine Below.drew ?_ | refine bDN ?_ | refine bthen ?_ (by assumption))) hb9
  have sw9 : w8.heap.size + 0 ≤ w9.heap.size := by have := hb9.size; (try simp at this); omega
  have H_w9 : Below w.heap.size w w9 := bthen H_w8 gw9
  have f104 : w9.cell? ⟨w.heap.size, 0, none⟩ = some (.int .i64 x0.1) := (gw9.cell (by first | omega | (simp; try omega))).trans f86
  have f105 : w9.cell? ⟨w.heap.size, 1, none⟩ = some (u0) := (gw9.cell (by first | omega | (simp; try omega))).trans f87
  have f106 : w9.cell? ⟨w3.heap.size, 0, none⟩ = some (.int .i64 (atomV x0 n1).1) := (gw9.cell (by first | omega | (simp; try omega))).trans f88
  have f107 : w9.cell? ⟨w3.heap.size, 1, none⟩ = some (.int .i64 (atomV x0 n1).2.1) := (gw9.cell (by first | omega | (simp; try omega))).trans f89
  have f108 : w9.cell? ⟨w3.heap.size, 2, none⟩ = some (.slice ad16 (atomV x0 n1).2.2.length ad16') := (gw9.cell (by first | omega | (simp; try omega))).trans f90
  have f109 : w9.cell? ⟨w4.heap.size, 0, none⟩ = some (.int .i64 x0.1) := (gw9.cell (by first | omega | (simp; try omega))).trans f91
  have f110 : w9.cell? ⟨w4.heap.size, 1, none⟩ = some (.slice ad29 x0.2.length ad29') := (gw9.cell (by first | omega | (simp; try omega))).trans f92
  have f111 : w9.cell? ⟨w5.heap.size, 0, none⟩ = some (.int .i64 (atomV x0 n1).1) := (gw9.cell (by first | omega | (simp; try omega))).trans f93
  have f112 : w9.cell? ⟨w5.heap.size, 1, none⟩ = some (.int .i64 (atomV x0 n1).2.1) := (gw9.cell (by first | omega | (simp; try omega))).trans f94
  have f113 : w9.cell? ⟨w5.heap.size, 2, none⟩ = some (.slice ad46 (atomV x0 n1).2.2.length ad46') := (gw9.cell (by first | omega | (simp; try omega))).trans f95
  have z114 : w.heap.size < w9.heap.size := by omega
  have z115 : w3.heap.size < w9.heap.size := by omega
  have z116 : w4.heap.size < w9.heap.size := by omega
  have z117 : w5.heap.size < w9.heap.size := by omega
  have d118 : tplT.Fx w1.heap.size w2.heap.size w9 [.int .i64 x0.1, .slice ad8 x0.2.length ad8'] x0 := d100.below gw9
  have d119 : frmT.Fx w2.heap.size w3.heap.size w9 [.int .i64 (atomV x0 n1).1, .int .i64 (atomV x0 n1).2.1, .slice ad16 (atomV x0 n1).2.2.length ad16'] (atomV x0 n1) := d101.below gw9
  have d120 : tplT.Fx (w3.heap.size + 1) w4.heap.size w9 [.int .i64 x0.1, .slice ad29 x0.2.length ad29'] (mkTpl 1 x0) := d85.below gw9
  have d121 : frmT.Fx (w4.heap.size + 1) w5.heap.size w9 [.int .i64 (atomV x0 n1).1, .int .i64 (atomV x0 n1).2.1, .slice ad46 (atomV x0 n1).2.2.length ad46'] (atomV x0 n1) := d102.below gw9
  clear hb9 H_w8 f86 f87 f88 f89 f90 f91 f92 f93 f94 f95 d100 d101 d85 d102 z96 z97 z98 z99 gw9
  rw [eqB_true rfl]
  go_wp2_with fail
  refine (markFormula_fx _ d121 _ (by omega) (by omega)).mono ?_
  rintro e w10 ⟨rfl, hb10, d122⟩
  clear d121
  have sw10 : w9.heap.size ≤ w10.heap.size := hb10.size
  have H_w10 : Below w.heap.size w w10 := below_tch H_w9 hb10 (by omega) (by omega)
  have f123 : w10.cell? ⟨w.heap.size, 0, none⟩ = some (.int .i64 x0.1) := (hb10.cell (by omega) (by omega)).trans f104
  have f124 : w10.cell? ⟨w.heap.size, 1, none⟩ = some (u0) := (hb10.cell (by omega) (by omega)).trans f105
  have f125 : w10.cell? ⟨w3.heap.size, 0, none⟩ = some (.int .i64 (atomV x0 n1).1) := (hb10.cell (by omega) (by omega)).trans f106
  have f126 : w10.cell? ⟨w3.heap.size, 1, none⟩ = some (.int .i64 (atomV x0 n1).2.1) := (hb10.cell (by omega) (by omega)).trans f107
  have f127 : w10.cell? ⟨w3.heap.size, 2, none⟩ = some (.slice ad16 (atomV x0 n1).2.2.length ad16') := (hb10.cell (by omega) (by omega)).trans f108
  have f128 : w10.cell? ⟨w4.heap.size, 0, none⟩ = some (.int .i64 x0.1) := (hb10.cell (by omega) (by omega)).trans f109
  have f129 : w10.cell? ⟨w4.heap.size, 1, none⟩ = some (.slice ad29 x0.2.length ad29') := (hb10.cell (by omega) (by omega)).trans f110
  have f130 : w10.cell? ⟨w5.heap.size, 0, none⟩ = some (.int .i64 (atomV x0 n1).1) := (hb10.cell (by omega) (by omega)).trans f111
  have f131 : w10.cell? ⟨w5.heap.size, 1, none⟩ = some (.int .i64 (atomV x0 n1).2.1) := (hb10.cell (by omega) (by omega)).trans f112
  have f132 : w10.cell? ⟨w5.heap.size, 2, none⟩ = some (.slice ad46 (atomV x0 n1).2.2.length ad46') := (hb10.cell (by omega) (by omega)).trans f113
  have z133 : w.heap.size < w10.heap.size := by omega
  have z134 : w3.heap.size < w10.heap.size := by omega
  have z135 : w4.heap.size < w10.heap.size := by omega
  have z136 : w5.heap.size < w10.heap.size := by omega
  have d137 : tplT.Fx w1.heap.size w2.heap.size w10 [.int .i64 x0.1, .slice ad8 x0.2.length ad8'] x0 := d118.tch hb10 (by omega)
  have d138 : frmT.Fx w2.heap.size w3.heap.size w10 [.int .i64 (atomV x0 n1).1, .int .i64 (atomV x0 n1).2.1, .slice ad16 (atomV x0 n1).2.2.length ad16'] (atomV x0 n1) := d119.tch hb10 (by omega)
  have d139 : tplT.Fx (w3.heap.size + 1) w4.heap.size w10 [.int .i64 x0.1, .slice ad29 x0.2.length ad29'] (mkTpl 1 x0) := d120.tch hb10 (by omega)
  clear hb10 H_w9 f104 f105 f106 f107 f108 f109 f110 f111 f112 f113 d118 d119 d120 z114 z115 z116 z117
  have hk140 : 0 ≤ (1 + cntFrm (atomV x0 n1)) := by omega
  go_wp2_with fail
  refine (heldFormula_any _ _ d122.rd (by omega) (by omega)).mono ?_
  rintro e w11 ⟨rfl, hb11⟩
  have gw11 : Below w10.heap.size w10 w11 := bthen (by repeat (first | exact Below.refl _ _ | exact bA | assumption | refine Below.setCell ?_ (by first | omega | (simp; try omega)) _ | refine Below.alloc ?_ (by first | omega | (simp; try omega)) _ | refine Below.drew ?_ | refine bDN ?_ | refine bthen ?_ (by assumption))) hb11
  have sw11 : w10.heap.size + 0 ≤ w11.heap.size := by have := hb11.size; (try simp at this); omega
  have H_w11 : Below w.heap.size w w11 := bthen H_w10 gw11
  have f141 : w11.cell? ⟨w.heap.size, 0, none⟩ = some (.int .i64 x0.1) := (gw11.cell (by first | omega | (simp; try omega))).trans f123
  have f142 : w11.cell? ⟨w.heap.size, 1, none⟩ = some (u0) := (gw11.cell (by first | omega | (simp; try omega))).trans f124
  have f143 : w11.cell? ⟨w3.heap.size, 0, none⟩ = some (.int .i64 (atomV x0 n1).1) := (gw11.cell (by first | omega | (simp; try omega))).trans f125
  have f144 : w11.cell? ⟨w3.heap.size, 1, none⟩ = some (.int .i64 (atomV x0 n1).2.1) := (gw11.cell (by first | omega | (simp; try omega))).trans f126
  have f145 : w11.cell? ⟨w3.heap.size, 2, none⟩ = some (.slice ad16 (atomV x0 n1).2.2.length ad16') := (gw11.cell (by first | omega | (simp; try omega))).trans f127
  have f146 : w11.cell? ⟨w4.heap.size, 0, none⟩ = some (.int .i64 x0.1) := (gw11.cell (by first | omega | (simp; try omega))).trans f128
  have f147 : w11.cell? ⟨w4.heap.size, 1, none⟩ = some (.slice ad29 x0.2.length ad29') := (gw11.cell (by first | omega | (simp; try omega))).trans f129
  have f148 : w11.cell? ⟨w5.heap.size, 0, none⟩ = some (.int .i64 (atomV x0 n1).1) := (gw11.cell (by first | omega | (simp; try omega))).trans f130
  have f149 : w11.cell? ⟨w5.heap.size, 1, none⟩ = some (.int .i64 (atomV x0 n1).2.1) := (gw11.cell (by first | omega | (simp; try omega))).trans f131
  have f150 : w11.cell? ⟨w5.heap.size, 2, none⟩ = some (.slice ad46 (atomV x0 n1).2.2.length ad46') := (gw11.cell (by first | omega | (simp; try omega))).trans f132
  have z151 : w.heap.size < w11.heap.size := by omega
  have z152 : w3.heap.size < w11.heap.size := by omega
  have z153 : w4.heap.size < w11.heap.size := by omega
  have z154 : w5.heap.size < w11.heap.size := by omega
  have d155 : tplT.Fx w1.heap.size w2.heap.size w11 [.int .i64 x0.1, .slice ad8 x0.2.length ad8'] x0 := d137.below gw11
  have d156 : frmT.Fx w2.heap.size w3.heap.size w11 [.int .i64 (atomV x0 n1).1, .int .i64 (atomV x0 n1).2.1, .slice ad16 (atomV x0 n1).2.2.length ad16'] (atomV x0 n1) := d138.below gw11
  have d157 : tplT.Fx (w3.heap.size + 1) w4.heap.size w11 [.int .i64 x0.1, .slice ad29 x0.2.length ad29'] (mkTpl 1 x0) := d139.below gw11
  have d158 : frmT.Fx (w4.heap.size + 1) w5.heap.size w11 [.int .i64 (atomV x0 n1).1, .int .i64 (atomV x0 n1).2.1, .slice ad46 (atomV x0 n1).2.2.length ad46'] (mkFrm 1 (atomV x0 n1)) := d122.below gw11
  clear hb11 H_w10 f123 f124 f125 f126 f127 f128 f129 f130 f131 f132 d137 d138 d139 d122 z133 z134 z135 z136 gw11
  go_wp2_with fail
  refine (toTemplate_any _ (hx0.below (by repeat (first | exact Below.refl _ _ | exact bA | assumption | refine Below.setCell ?_ (by first | omega | (simp; try omega)) _ | refine Below.alloc ?_ (by first | omega | (simp; try omega)) _ | refine Below.drew ?_ | refine bDN ?_ | refine bthen ?_ (by assumption)))) (by first | omega | (unfold szInts; omega))).mono ?_
  rintro e w12 ⟨cs, rfl, hc159, hb12⟩
  have gw12 : Below w11.heap.size w11 w12 := bthen (by repeat (first | exact Below.refl _ _ | exact bA | assumption | refine Below.setCell ?_ (by first | omega | (simp; try omega)) _ | refine Below.alloc ?_ (by first | omega | (simp; try omega)) _ | refine Below.drew ?_ | refine bDN ?_ | refine bthen ?_ (by assumption))) hb12
  have sw12 : w11.heap.size + 0 ≤ w12.heap.size := by have := hb12.size; (try simp at this); omega
  have H_w12 : Below w.heap.size w w12 := bthen H_w11 gw12
  have f160 : w12.cell? ⟨w.heap.size, 0, none⟩ = some (.int .i64 x0.1) := (gw12.cell (by first | omega | (simp; try omega))).trans f141
  have f161 : w12.cell? ⟨w.heap.size, 1, none⟩ = some (u0) := (gw12.cell (by first | omega | (simp; try omega))).trans f142
  have f162 : w12.cell? ⟨w3.heap.size, 0, none⟩ = some (.int .i64 (atomV x0 n1).1) := (gw12.cell (by first | omega | (simp; try omega))).trans f143
  have f163 : w12.cell? ⟨w3.heap.size, 1, none⟩ = some (.int .i64 (atomV x0 n1).2.1) := (gw12.cell (by first | omega | (simp; try omega))).trans f144
  have f164 : w12.cell? ⟨w3.heap.size, 2, none⟩ = some (.slice ad16 (atomV x0 n1).2.2.length ad16') := (gw12.cell (by first | omega | (simp; try omega))).trans f145
  have f165 : w12.cell? ⟨w4.heap.size, 0, none⟩ = some (.int .i64 x0.1) := (gw12.cell (by first | omega | (simp; try omega))).trans f146
  have f166 : w12.cell? ⟨w4.heap.size, 1, none⟩ = some (.slice ad29 x0.2.length ad29') := (gw12.cell (by first | omega | (simp; try omega))).trans f147
  have f167 : w12.cell? ⟨w5.heap.size, 0, none⟩ = some (.int .i64 (atomV x0 n1).1) := (gw12.cell (by first | omega | (simp; try omega))).trans f148
  have f168 : w12.cell? ⟨w5.heap.size, 1, none⟩ = some (.int .i64 (atomV x0 n1).2.1) := (gw12.cell (by first | omega | (simp; try omega))).trans f149
  have f169 : w12.cell? ⟨w5.heap.size, 2, none⟩ = some (.slice ad46 (atomV x0 n1).2.2.length ad46') := (gw12.cell (by first | omega | (simp; try omega))).trans f150
  have z170 : w.heap.size < w12.heap.size := by omega
  have z171 : w3.heap.size < w12.heap.size := by omega
  have z172 : w4.heap.size < w12.heap.size := by omega
  have z173 : w5.heap.size < w12.heap.size := by omega
  have d174 : tplT.Fx w1.heap.size w2.heap.size w12 [.int .i64 x0.1, .slice ad8 x0.2.length ad8'] x0 := d155.below gw12
  have d175 : frmT.Fx w2.heap.size w3.heap.size w12 [.int .i64 (atomV x0 n1).1, .int .i64 (atomV x0 n1).2.1, .slice ad16 (atomV x0 n1).2.2.length ad16'] (atomV x0 n1) := d156.below gw12
  have d176 : tplT.Fx (w3.heap.size + 1) w4.heap.size w12 [.int .i64 x0.1, .slice ad29 x0.2.length ad29'] (mkTpl 1 x0) := d157.below gw12
  have d177 : frmT.Fx (w4.heap.size + 1) w5.heap.size w12 [.int .i64 (atomV x0 n1).1, .int .i64 (atomV x0 n1).2.1, .slice ad46 (atomV x0 n1).2.2.length ad46'] (mkFrm 1 (atomV x0 n1)) := d158.below gw12
  clear hb12 H_w11 f141 f142 f143 f144 f145 f146 f147 f148 f149 f150 d155 d156 d157 d158 z151 z152 z153 z154 gw12
  obtain ⟨ad178, ad178', rfl⟩ := fr_pair hc159
  have d179 : tplT.Fx w11.heap.size w12.heap.size w12 [.int .i64 x0.1, .slice ad178 x0.2.length ad178'] x0 := (Ty.Fr.mono hc159 (by first | exact Nat.le_refl _ | (simp; try omega))).fx
  clear hc159
  go_wp2_with fail
  refine (AtomFormula_any _ (d179.rd.below (by repeat (first | exact Below.refl _ _ | exact bA | assumption | refine Below.setCell ?_ (by first | omega | (simp; try omega)) _ | refine Below.alloc ?_ (by first | omega | (simp; try omega)) _ | refine Below.drew ?_ | refine bDN ?_ | refine bthen ?_ (by assumption))))).mono ?_
  rintro e w13 ⟨cs, rfl, hc181, hb13⟩
  have gw13 : Below w12.heap.size w12 w13 := bthen (by repeat (first | exact Below.refl _ _ | exact bA | assumption | refine Below.setCell ?_ (by first | omega | (simp; try omega)) _ | refine Below.alloc ?_ (by first | omega | (simp; try omega)) _ | refine Below.drew ?_ | refine bDN ?_ | refine bthen ?_ (by assumption))) hb13
  have sw13 : w12.heap.size + 0 ≤ w13.heap.size := by have := hb13.size; (try simp at this); omega
  have H_w13 : Below w.heap.size w w13 := bthen H_w12 gw13
  have f182 : w13.cell? ⟨w.heap.size, 0, none⟩ = some (.int .i64 x0.1) := (gw13.cell (by first | omega | (simp; try omega))).trans f160
  have f183 : w13.cell? ⟨w.heap.size, 1, none⟩ = some (u0) := (gw13.cell (by first | omega | (simp; try omega))).trans f161
  have f184 : w13.cell? ⟨w3.heap.size, 0, none⟩ = some (.int .i64 (atomV x0 n1).1) := (gw13.cell (by first | omega | (simp; try omega))).trans f162
  have f185 : w13.cell? ⟨w3.heap.size, 1, none⟩ = some (.int .i64 (atomV x0 n1).2.1) := (gw13.cell (by first | omega | (simp; try omega))).trans f163
  have f186 : w13.cell? ⟨w3.heap.size, 2, none⟩ = some (.slice ad16 (atomV x0 n1).2.2.length ad16') := (gw13.cell (by first | omega | (simp; try omega))).trans f164
  have f187 : w13.cell? ⟨w4.heap.size, 0, none⟩ = some (.int .i64 x0.1) := (gw13.cell (by first | omega | (simp; try omega))).trans f165
  have f188 : w13.cell? ⟨w4.heap.size, 1, none⟩ = some (.slice ad29 x0.2.length ad29') := (gw13.cell (by first | omega | (simp; try omega))).trans f166
  have f189 : w13.cell? ⟨w5.heap.size, 0, none⟩ = some (.int .i64 (atomV x0 n1).1) := (gw13.cell (by first | omega | (simp; try omega))).trans f167
  have f190 : w13.cell? ⟨w5.heap.size, 1, none⟩ = some (.int .i64 (atomV x0 n1).2.1) := (gw13.cell (by first | omega | (simp; try omega))).trans f168
  have f191 : w13.cell? ⟨w5.heap.size, 2, none⟩ = some (.slice ad46 (atomV x0 n1).2.2.length ad46') := (gw13.cell (by first | omega | (simp; try omega))).trans f169
  have z192 : w.heap.size < w13.heap.size := by omega
  have z193 : w3.heap.size < w13.heap.size := by omega
  have z194 : w4.heap.size < w13.heap.size := by omega
  have z195 : w5.heap.size < w13.heap.size := by omega
  have d196 : tplT.Fx w1.heap.size w2.heap.size w13 [.int .i64 x0.1, .slice ad8 x0.2.length ad8'] x0 := d174.below gw13
  have d197 : frmT.Fx w2.heap.size w3.heap.size w13 [.int .i64 (atomV x0 n1).1, .int .i64 (atomV x0 n1).2.1, .slice ad16 (atomV x0 n1).2.2.length ad16'] (atomV x0 n1) := d175.below gw13
  have d198 : tplT.Fx (w3.heap.size + 1) w4.heap.size w13 [.int .i64 x0.1, .slice ad29 x0.2.length ad29'] (mkTpl 1 x0) := d176.below gw13
  have d199 : frmT.Fx (w4.heap.size + 1) w5.heap.size w13 [.int .i64 (atomV x0 n1).1, .int .i64 (atomV x0 n1).2.1, .slice ad46 (atomV x0 n1).2.2.length ad46'] (mkFrm 1 (atomV x0 n1)) := d177.below gw13
  have d200 : tplT.Fx w11.heap.size w12.heap.size w13 [.int .i64 x0.1, .slice ad178 x0.2.length ad178'] x0 := d179.below gw13
  clear hb13 H_w12 f160 f161 f162 f163 f164 f165 f166 f167 f168 f169 d174 d175 d176 d177 d179 z170 z171 z172 z173 gw13
  obtain ⟨ad201, ad201', rfl⟩ := fr_trip hc181
  have d202 : frmT.Fx w12.heap.size w13.heap.size w13 [.int .i64 (atomV x0 n1).1, .int .i64 (atomV x0 n1).2.1, .slice ad201 (atomV x0 n1).2.2.length ad201'] (atomV x0 n1) := (Ty.Fr.mono hc181 (by first | exact Nat.le_refl _ | (simp; try omega))).fx
  clear hc181
  go_wp2_with fail
  refine (eqFormula_any _ (d202.rd.below (by repeat (first | exact Below.refl _ _ | exact bA | assumption | refine Below.setCell ?_ (by first | omega | (simp; try omega)) _ | refine Below.alloc ?_ (by first | omega | (simp; try omega)) _ | refine Below.drew ?_ | refine bDN ?_ | refine bthen ?_ (by assumption)))) (d197.rd.below (by repeat (first | exact Below.refl _ _ | exact bA | assumption | refine Below.setCell ?_ (by first | omega | (simp; try omega)) _ | refine Below.alloc ?_ (by first | omega | (simp; try omega)) _ | refine Below.drew ?_ | refine bDN ?_ | refine bthen ?_ (by assumption))))).mono ?_
  rintro e w14 ⟨rfl, hb14⟩
  have gw14 : Below w13.heap.size w13 w14 := bthen (by repeat (first | exact Below.refl _ _ | exact bA | assumption | refine Below.setCell ?_ (by first | omega | (simp; try omega)) _ | refine Below.alloc ?_ (by first | omega | (simp; try omega)) _ | refine Below.drew ?_ | refine bDN ?_ | refine bthen ?_ (by assumption))) hb14
  have sw14 : w13.heap.size + 1 ≤ w14.heap.size := by have := hb14.size; (try simp at this); omega
  have H_w14 : Below w.heap.size w w14 := bthen H_w13 gw14
  have f204 : w14.cell? ⟨w.heap.size, 0, none⟩ = some (.int .i64 x0.1) := (gw14.cell (by first | omega | (simp; try omega))).trans f182
  have f205 : w14.cell? ⟨w.heap.size, 1, none⟩ = some (u0) := (gw14.cell (by first | omega | (simp; try omega))).trans f183
  have f206 : w14.cell? ⟨w3.heap.size, 0, none⟩ = some (.int .i64 (atomV x0 n1).1) := (gw14.cell (by first | omega | (simp; try omega))).trans f184
  have f207 : w14.cell? ⟨w3.heap.size, 1, none⟩ = some (.int .i64 (atomV x0 n1).2.1) := (gw14.cell (by first | omega | (simp; try omega))).trans f185
  have f208 : w14.cell? ⟨w3.heap.size, 2, none⟩ = some (.slice ad16 (atomV x0 n1).2.2.length ad16') := (gw14.cell (by first | omega | (simp; try omega))).trans f186
  have f209 : w14.cell? ⟨w4.heap.size, 0, none⟩ = some (.int .i64 x0.1) := (gw14.cell (by first | omega | (simp; try omega))).trans f187
  have f210 : w14.cell? ⟨w4.heap.size, 1, none⟩ = some (.slice ad29 x0.2.length ad29') := (gw14.cell (by first | omega | (simp; try omega))).trans f188
  have f211 : w14.cell? ⟨w5.heap.size, 0, none⟩ = some (.int .i64 (atomV x0 n1).1) := (gw14.cell (by first | omega | (simp; try omega))).trans f189
  have f212 : w14.cell? ⟨w5.heap.size, 1, none⟩ = some (.int .i64 (atomV x0 n1).2.1) := (gw14.cell (by first | omega | (simp; try omega))).trans f190
  have f213 : w14.cell? ⟨w5.heap.size, 2, none⟩ = some (.slice ad46 (atomV x0 n1).2.2.length ad46') := (gw14.cell (by first | omega | (simp; try omega))).trans f191
  have f214 : w14.cell? ⟨w13.heap.size, 0, none⟩ = some (.int .i64 (atomV x0 n1).1) := by rw [(bcell hb14).1 _ _ (by first | omega | (simp; try omega))]; simp
  have f215 : w14.cell? ⟨w13.heap.size, 1, none⟩ = some (.int .i64 (atomV x0 n1).2.1) := by rw [(bcell hb14).1 _ _ (by first | omega | (simp; try omega))]; simp
  have f216 : w14.cell? ⟨w13.heap.size, 2, none⟩ = some (.slice ad201 (atomV x0 n1).2.2.length ad201') := by rw [(bcell hb14).1 _ _ (by first | omega | (simp; try omega))]; simp
  have z217 : w.heap.size < w14.heap.size := by omega
  have z218 : w3.heap.size < w14.heap.size := by omega
  have z219 : w4.heap.size < w14.heap.size := by omega
  have z220 : w5.heap.size < w14.heap.size := by omega
  have z221 : w13.heap.size < w14.heap.size := by omega
  have d222 : tplT.Fx w1.heap.size w2.heap.size w14 [.int .i64 x0.1, .slice ad8 x0.2.length ad8'] x0 := d196.below gw14
  have d223 : frmT.Fx w2.heap.size w3.heap.size w14 [.int .i64 (atomV x0 n1).1, .int .i64 (atomV x0 n1).2.1, .slice ad16 (atomV x0 n1).2.2.length ad16'] (atomV x0 n1) := d197.below gw14
  have d224 : tplT.Fx (w3.heap.size + 1) w4.heap.size w14 [.int .i64 x0.1, .slice ad29 x0.2.length ad29'] (mkTpl 1 x0) := d198.below gw14
  have d225 : frmT.Fx (w4.heap.size + 1) w5.heap.size w14 [.int .i64 (atomV x0 n1).1, .int .i64 (atomV x0 n1).2.1, .slice ad46 (atomV x0 n1).2.2.length ad46'] (mkFrm 1 (atomV x0 n1)) := d199.below gw14
  have d226 : tplT.Fx w11.heap.size w12.heap.size w14 [.int .i64 x0.1, .slice ad178 x0.2.length ad178'] x0 := d200.below gw14
  have d227 : frmT.Fx w12.heap.size w13.heap.size w14 [.int .i64 (atomV x0 n1).1, .int .i64 (atomV x0 n1).2.1, .slice ad201 (atomV x0 n1).2.2.length ad201'] (atomV x0 n1) := d202.below gw14
  clear hb14 H_w13 f182 f183 f184 f185 f186 f187 f188 f189 f190 f191 d196 d197 d198 d199 d200 d202 z192 z193 z194 z195 gw14
  rw [eqB_true rfl]
  go_wp2_with fail
  refine (heldFormula_any _ _ d225.rd (by omega) (by omega)).mono ?_
  rintro e w15 ⟨rfl, hb15⟩
  have gw15 : Below w14.heap.size w14 w15 := bthen (by repeat (first | exact Below.refl _ _ | exact bA | assumption | refine Below.setCell ?_ (by first | omega | (simp; try omega)) _ | refine Below.alloc ?_ (by first | omega | (simp; try omega)) _ | refine Below.drew ?_ | refine bDN ?_ | refine bthen ?_ (by assumption))) hb15
  have sw15 : w14.heap.size + 0 ≤ w15.heap.size := by have := hb15.size; (try simp at this); omega
  have H_w15 : Below w.heap.size w w15 := bthen H_w14 gw15
  have f228 : w15.cell? ⟨w.heap.size, 0, none⟩ = some (.int .i64 x0.1) := (gw15.cell (by first | omega | (simp; try omega))).trans f204
  have f229 : w15.cell? ⟨w.heap.size, 1, none⟩ = some (u0) := (gw15.cell (by first | omega | (simp; try omega))).trans f205
  have f230 : w15.cell? ⟨w3.heap.size, 0, none⟩ = some (.int .i64 (atomV x0 n1).1) := (gw15.cell (by first | omega | (simp; try omega))).trans f206
  have f231 : w15.cell? ⟨w3.heap.size, 1, none⟩ = some (.int .i64 (atomV x0 n1).2.1) := (gw15.cell (by first | omega | (simp; try omega))).trans f207
  have f232 : w15.cell? ⟨w3.heap.size, 2, none⟩ = some (.slice ad16 (atomV x0 n1).2.2.length ad16') := (gw15.cell (by first | omega | (simp; try omega))).trans f208
  have f233 : w15.cell? ⟨w4.heap.size, 0, none⟩ = some (.int .i64 x0.1) := (gw15.cell (by first | omega | (simp; try omega))).trans f209
  have f234 : w15.cell? ⟨w4.heap.size, 1, none⟩ = some (.slice ad29 x0.2.length ad29') := (gw15.cell (by first | omega | (simp; try omega))).trans f210
  have f235 : w15.cell? ⟨w5.heap.size, 0, none⟩ = some (.int .i64 (atomV x0 n1).1) := (gw15.cell (by first | omega | (simp; try omega))).trans f211
  have f236 : w15.cell? ⟨w5.heap.size, 1, none⟩ = some (.int .i64 (atomV x0 n1).2.1) := (gw15.cell (by first | omega | (simp; try omega))).trans f212
  have f237 : w15.cell? ⟨w5.heap.size, 2, none⟩ = some (.slice ad46 (atomV x0 n1).2.2.length ad46') := (gw15.cell (by first | omega | (simp; try omega))).trans f213
  have f238 : w15.cell? ⟨w13.heap.size, 0, none⟩ = some (.int .i64 (atomV x0 n1).1) := (gw15.cell (by first | omega | (simp; try omega))).trans f214
  have f239 : w15.cell? ⟨w13.heap.size, 1, none⟩ = some (.int .i64 (atomV x0 n1).2.1) := (gw15.cell (by first | omega | (simp; try omega))).trans f215
  have f240 : w15.cell? ⟨w13.heap.size, 2, none⟩ = some (.slice ad201 (atomV x0 n1).2.2.length ad201') := (gw15.cell (by first | omega | (simp; try omega))).trans f216
  have z241 : w.heap.size < w15.heap.size := by omega
  have z242 : w3.heap.size < w15.heap.size := by omega
  have z243 : w4.heap.size < w15.heap.size := by omega
  have z244 : w5.heap.size < w15.heap.size := by omega
  have z245 : w13.heap.size < w15.heap.size := by omega
  have d246 : tplT.Fx w1.heap.size w2.heap.size w15 [.int .i64 x0.1, .slice ad8 x0.2.length ad8'] x0 := d222.below gw15
  have d247 : frmT.Fx w2.heap.size w3.heap.size w15 [.int .i64 (atomV x0 n1).1, .int .i64 (atomV x0 n1).2.1, .slice ad16 (atomV x0 n1).2.2.length ad16'] (atomV x0 n1) := d223.below gw15
  have d248 : tplT.Fx (w3.heap.size + 1) w4.heap.size w15 [.int .i64 x0.1, .slice ad29 x0.2.length ad29'] (mkTpl 1 x0) := d224.below gw15
  have d249 : frmT.Fx (w4.heap.size + 1) w5.heap.size w15 [.int .i64 (atomV x0 n1).1, .int .i64 (atomV x0 n1).2.1, .slice ad46 (atomV x0 n1).2.2.length ad46'] (mkFrm 1 (atomV x0 n1)) := d225.below gw15
  have d250 : tplT.Fx w11.heap.size w12.heap.size w15 [.int .i64 x0.1, .slice ad178 x0.2.length ad178'] x0 := d226.below gw15
  have d251 : frmT.Fx w12.heap.size w13.heap.size w15 [.int .i64 (atomV x0 n1).1, .int .i64 (atomV x0 n1).2.1, .slice ad201 (atomV x0 n1).2.2.length ad201'] (atomV x0 n1) := d227.below gw15
  clear hb15 H_w14 f204 f205 f206 f207 f208 f209 f210 f211 f212 f213 f214 f215 f216 d222 d223 d224 d225 d226 d227 z217 z218 z219 z220 z221 gw15
  go_wp2_with fail
  go_ret
  exact ⟨rfl, (by repeat (first | exact Below.refl _ _ | exact bA | assumption | refine Below.setCell ?_ (by first | omega | (simp; try omega)) _ | refine Below.alloc ?_ (by first | omega | (simp; try omega)) _ | refine Below.drew ?_ | refine bDN ?_ | refine bthen ?_ (by assumption)))⟩
end Go.Proofs.Ytadncmlfkoolkaa
