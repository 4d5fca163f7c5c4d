/-
  The law FnExactFirstPolymorphism, walked: its contract.
-/
import Derived.Test.YthjafhjghjbdmaaGreatQBH
import Derived.Test.YthjafhjghjbdmaaGreatQBI
import Derived.Test.YthjafhjghjbdmaaGreatQAC
import Derived.Test.YthjafhjghjbdmaaGreatQBF
namespace Go.Proofs.YthjafhjghjbdmaaGreat
open Go.RowKit Go.Sort
set_option maxHeartbeats 6400000 in
set_option maxRecDepth 100000 in
theorem fnExactFirstPolymorphism_any (w : World) {c0 : Array Value} {x0 : Int × List (Int × List (List Int))} (h0 : tplT.Rd w c0.toList x0) {n1 : Int} (_h1 : I64 n1) {n2 : Int} (_h2 : I64 n2) :
    Calls Tryz.prog 3 #[.agg c0, .int .i64 n1, .int .i64 n2] w fun e w' => e = .returned (.bool true) ∧ Below w.heap.size w w' := by
  have hx0 := h0
  obtain ⟨u0, hv0, -, hy0⟩ := pair_ex h0
  obtain rfl := agg_of hv0
  clear hv0 h0
  have hn0 := szTpl_nn x0
  have hcn0 : cntTpl x0 ≤ szTpl x0 := cntRels_sz x0.2
  have hcz0 : 0 ≤ cntTpl x0 := cntRels_nn x0.2
  have H_w : Below w.heap.size w w := Below.refl _ _
  go_enter Tryz.func3, Tryz.ntmps3
  go_wp2_with fail
  refine (szTemplate_any _ (hx0.below (by repeat (first | exact Below.refl _ _ | exact bA | assumption | refine Below.setCell ?_ (by first | omega | (simp; try omega)) _ | refine Below.alloc ?_ (by first | omega | (simp; try omega)) _ | refine Below.drew ?_ | refine bDN ?_ | refine bthen ?_ (by assumption)))) _ (by omega) (by omega)).mono ?_
  rintro e w1 ⟨rfl, hb1⟩
  have gw1 : Below w.heap.size w w1 := bthen (by repeat (first | exact Below.refl _ _ | exact bA | assumption | refine Below.setCell ?_ (by first | omega | (simp; try omega)) _ | refine Below.alloc ?_ (by first | omega | (simp; try omega)) _ | refine Below.drew ?_ | refine bDN ?_ | refine bthen ?_ (by assumption))) hb1
  have sw1 : w.heap.size + 1 ≤ w1.heap.size := by have := hb1.size; (try simp at this); omega
  have H_w1 : Below w.heap.size w w1 := bthen H_w gw1
  have f1 : w1.cell? ⟨w.heap.size, 0, none⟩ = some (.int .i64 x0.1) := by rw [(bcell hb1).1 _ _ (by first | omega | (simp; try omega))]; first | (simp; done) | simp [go_sem]
  have f2 : w1.cell? ⟨w.heap.size, 1, none⟩ = some (u0) := by rw [(bcell hb1).1 _ _ (by first | omega | (simp; try omega))]; first | (simp; done) | simp [go_sem]
  have z3 : w.heap.size < w1.heap.size := by omega
  clear hb1 gw1
  rcases ilt 1048576 (szTpl x0) with hl2 | hl2
  · rw [szR_lt hl2]
    go_wp2_with fail
    go_ret
    exact ⟨rfl, (by repeat (first | exact Below.refl _ _ | exact bA | assumption | refine Below.setCell ?_ (by first | omega | (simp; try omega)) _ | refine Below.alloc ?_ (by first | omega | (simp; try omega)) _ | refine Below.drew ?_ | refine bDN ?_ | refine bthen ?_ (by assumption)))⟩
  rw [szR_ge hl2]
  go_wp2_with fail
  refine (toTemplate_any _ (hx0.below (by repeat (first | exact Below.refl _ _ | exact bA | assumption | refine Below.setCell ?_ (by first | omega | (simp; try omega)) _ | refine Below.alloc ?_ (by first | omega | (simp; try omega)) _ | refine Below.drew ?_ | refine bDN ?_ | refine bthen ?_ (by assumption)))) (by first | omega | (unfold szInts; omega))).mono ?_
  rintro e w2 ⟨cs, rfl, hc4, hb2⟩
  have gw2 : Below w1.heap.size w1 w2 := bthen (by repeat (first | exact Below.refl _ _ | exact bA | assumption | refine Below.setCell ?_ (by first | omega | (simp; try omega)) _ | refine Below.alloc ?_ (by first | omega | (simp; try omega)) _ | refine Below.drew ?_ | refine bDN ?_ | refine bthen ?_ (by assumption))) hb2
  have sw2 : w1.heap.size + 0 ≤ w2.heap.size := by have := hb2.size; (try simp at this); omega
  have H_w2 : Below w.heap.size w w2 := bthen H_w1 gw2
  have f5 : w2.cell? ⟨w.heap.size, 0, none⟩ = some (.int .i64 x0.1) := (gw2.cell (by first | omega | (simp; try omega))).trans f1
  have f6 : w2.cell? ⟨w.heap.size, 1, none⟩ = some (u0) := (gw2.cell (by first | omega | (simp; try omega))).trans f2
  have z7 : w.heap.size < w2.heap.size := by omega
  clear hb2 H_w1 f1 f2 z3 gw2
  obtain ⟨ad8, ad8', rfl⟩ := fr_pair hc4
  have d9 : tplT.Fx w1.heap.size w2.heap.size w2 [.int .i64 x0.1, .slice ad8 x0.2.length ad8'] x0 := (Ty.Fr.mono hc4 (by first | exact Nat.le_refl _ | (simp; try omega))).fx
  clear hc4
  go_wp2_with fail
  have hcr1 : cntOp (fpV x0 n1 n2) ≤ 1000000000 := (Int.le_trans fq_cnt (by omega))
  have hcrz1 : 0 ≤ cntOp (fpV x0 n1 n2) := cntI_nn _
  refine (specFirstPolymorphism_any _ (d9.rd.below (by repeat (first | exact Below.refl _ _ | exact bA | assumption | refine Below.setCell ?_ (by first | omega | (simp; try omega)) _ | refine Below.alloc ?_ (by first | omega | (simp; try omega)) _ | refine Below.drew ?_ | refine bDN ?_ | refine bthen ?_ (by assumption))))).mono ?_
  rintro e w3 ⟨cs, rfl, hc11, hb3⟩
  have gw3 : Below w2.heap.size w2 w3 := bthen (by repeat (first | exact Below.refl _ _ | exact bA | assumption | refine Below.setCell ?_ (by first | omega | (simp; try omega)) _ | refine Below.alloc ?_ (by first | omega | (simp; try omega)) _ | refine Below.drew ?_ | refine bDN ?_ | refine bthen ?_ (by assumption))) hb3
  have sw3 : w2.heap.size + 0 ≤ w3.heap.size := by have := hb3.size; (try simp at this); omega
  have H_w3 : Below w.heap.size w w3 := bthen H_w2 gw3
  have f12 : w3.cell? ⟨w.heap.size, 0, none⟩ = some (.int .i64 x0.1) := (gw3.cell (by first | omega | (simp; try omega))).trans f5
  have f13 : w3.cell? ⟨w.heap.size, 1, none⟩ = some (u0) := (gw3.cell (by first | omega | (simp; try omega))).trans f6
  have z14 : w.heap.size < w3.heap.size := by omega
  have d15 : tplT.Fx w1.heap.size w2.heap.size w3 [.int .i64 x0.1, .slice ad8 x0.2.length ad8'] x0 := d9.below gw3
  clear hb3 H_w2 f5 f6 d9 z7 gw3
  obtain ⟨ad16, ad16', rfl⟩ := fr_pair hc11
  have d17 : opT.Fx w2.heap.size w3.heap.size w3 [.int .i64 (fpV x0 n1 n2).1, .slice ad16 (fpV x0 n1 n2).2.length ad16'] (fpV x0 n1 n2) := (Ty.Fr.mono hc11 (by first | exact Nat.le_refl _ | (simp; try omega))).fx
  clear hc11
  go_wp2_with fail
  refine (toTemplate_any _ (hx0.below (by repeat (first | exact Below.refl _ _ | exact bA | assumption | refine Below.setCell ?_ (by first | omega | (simp; try omega)) _ | refine Below.alloc ?_ (by first | omega | (simp; try omega)) _ | refine Below.drew ?_ | refine bDN ?_ | refine bthen ?_ (by assumption)))) (by first | omega | (unfold szInts; omega))).mono ?_
  rintro e w4 ⟨cs, rfl, hc19, hb4⟩
  have gw4 : Below w3.heap.size w3 w4 := bthen (by repeat (first | exact Below.refl _ _ | exact bA | assumption | refine Below.setCell ?_ (by first | omega | (simp; try omega)) _ | refine Below.alloc ?_ (by first | omega | (simp; try omega)) _ | refine Below.drew ?_ | refine bDN ?_ | refine bthen ?_ (by assumption))) hb4
  have sw4 : w3.heap.size + 1 ≤ w4.heap.size := by have := hb4.size; (try simp at this); omega
  have H_w4 : Below w.heap.size w w4 := bthen H_w3 gw4
  have f20 : w4.cell? ⟨w.heap.size, 0, none⟩ = some (.int .i64 x0.1) := (gw4.cell (by first | omega | (simp; try omega))).trans f12
  have f21 : w4.cell? ⟨w.heap.size, 1, none⟩ = some (u0) := (gw4.cell (by first | omega | (simp; try omega))).trans f13
  have f22 : w4.cell? ⟨w3.heap.size, 0, none⟩ = some (.int .i64 (fpV x0 n1 n2).1) := by rw [(bcell hb4).1 _ _ (by first | omega | (simp; try omega))]; first | (simp; done) | simp [go_sem]
  have f23 : w4.cell? ⟨w3.heap.size, 1, none⟩ = some (.slice ad16 (fpV x0 n1 n2).2.length ad16') := by rw [(bcell hb4).1 _ _ (by first | omega | (simp; try omega))]; first | (simp; done) | simp [go_sem]
  have z24 : w.heap.size < w4.heap.size := by omega
  have z25 : w3.heap.size < w4.heap.size := by omega
  have d26 : tplT.Fx w1.heap.size w2.heap.size w4 [.int .i64 x0.1, .slice ad8 x0.2.length ad8'] x0 := d15.below gw4
  have d27 : opT.Fx w2.heap.size w3.heap.size w4 [.int .i64 (fpV x0 n1 n2).1, .slice ad16 (fpV x0 n1 n2).2.length ad16'] (fpV x0 n1 n2) := d17.below gw4
  clear hb4 H_w3 f12 f13 d15 d17 z14 gw4
  obtain ⟨ad28, ad28', rfl⟩ := fr_pair hc19
  have d29 : tplT.Fx (w3.heap.size + 1) w4.heap.size w4 [.int .i64 x0.1, .slice ad28 x0.2.length ad28'] x0 := (Ty.Fr.mono hc19 (by first | exact Nat.le_refl _ | (simp; try omega))).fx
  clear hc19
  go_wp2_with fail
  refine (FirstPolymorphism_any _ (d29.rd.below (by repeat (first | exact Below.refl _ _ | exact bA | assumption | refine Below.setCell ?_ (by first | omega | (simp; try omega)) _ | refine Below.alloc ?_ (by first | omega | (simp; try omega)) _ | refine Below.drew ?_ | refine bDN ?_ | refine bthen ?_ (by assumption))))).mono ?_
  rintro e w5 ⟨cs, rfl, hc31, hb5⟩
  have gw5 : Below w4.heap.size w4 w5 := bthen (by repeat (first | exact Below.refl _ _ | exact bA | assumption | refine Below.setCell ?_ (by first | omega | (simp; try omega)) _ | refine Below.alloc ?_ (by first | omega | (simp; try omega)) _ | refine Below.drew ?_ | refine bDN ?_ | refine bthen ?_ (by assumption))) hb5
  have sw5 : w4.heap.size + 1 ≤ w5.heap.size := by have := hb5.size; (try simp at this); omega
  have H_w5 : Below w.heap.size w w5 := bthen H_w4 gw5
  have f32 : w5.cell? ⟨w.heap.size, 0, none⟩ = some (.int .i64 x0.1) := (gw5.cell (by first | omega | (simp; try omega))).trans f20
  have f33 : w5.cell? ⟨w.heap.size, 1, none⟩ = some (u0) := (gw5.cell (by first | omega | (simp; try omega))).trans f21
  have f34 : w5.cell? ⟨w3.heap.size, 0, none⟩ = some (.int .i64 (fpV x0 n1 n2).1) := (gw5.cell (by first | omega | (simp; try omega))).trans f22
  have f35 : w5.cell? ⟨w3.heap.size, 1, none⟩ = some (.slice ad16 (fpV x0 n1 n2).2.length ad16') := (gw5.cell (by first | omega | (simp; try omega))).trans f23
  have f36 : w5.cell? ⟨w4.heap.size, 0, none⟩ = some (.int .i64 x0.1) := by rw [(bcell hb5).1 _ _ (by first | omega | (simp; try omega))]; first | (simp; done) | simp [go_sem]
  have f37 : w5.cell? ⟨w4.heap.size, 1, none⟩ = some (.slice ad28 x0.2.length ad28') := by rw [(bcell hb5).1 _ _ (by first | omega | (simp; try omega))]; first | (simp; done) | simp [go_sem]
  have z38 : w.heap.size < w5.heap.size := by omega
  have z39 : w3.heap.size < w5.heap.size := by omega
  have z40 : w4.heap.size < w5.heap.size := by omega
  have d41 : tplT.Fx w1.heap.size w2.heap.size w5 [.int .i64 x0.1, .slice ad8 x0.2.length ad8'] x0 := d26.below gw5
  have d42 : opT.Fx w2.heap.size w3.heap.size w5 [.int .i64 (fpV x0 n1 n2).1, .slice ad16 (fpV x0 n1 n2).2.length ad16'] (fpV x0 n1 n2) := d27.below gw5
  have d43 : tplT.Fx (w3.heap.size + 1) w4.heap.size w5 [.int .i64 x0.1, .slice ad28 x0.2.length ad28'] x0 := d29.below gw5
  clear hb5 H_w4 f20 f21 f22 f23 d26 d27 d29 z24 z25 gw5
  obtain ⟨ad44, ad44', rfl⟩ := fr_pair hc31
  have d45 : opT.Fx (w4.heap.size + 1) w5.heap.size w5 [.int .i64 (fpV x0 n1 n2).1, .slice ad44 (fpV x0 n1 n2).2.length ad44'] (fpV x0 n1 n2) := (Ty.Fr.mono hc31 (by first | exact Nat.le_refl _ | (simp; try omega))).fx
  clear hc31
  go_wp2_with fail
  refine (eqOp_any _ (d45.rd.below (by repeat (first | exact Below.refl _ _ | exact bA | assumption | refine Below.setCell ?_ (by first | omega | (simp; try omega)) _ | refine Below.alloc ?_ (by first | omega | (simp; try omega)) _ | refine Below.drew ?_ | refine bDN ?_ | refine bthen ?_ (by assumption)))) (d42.rd.below (by repeat (first | exact Below.refl _ _ | exact bA | assumption | refine Below.setCell ?_ (by first | omega | (simp; try omega)) _ | refine Below.alloc ?_ (by first | omega | (simp; try omega)) _ | refine Below.drew ?_ | refine bDN ?_ | refine bthen ?_ (by assumption))))).mono ?_
  rintro e w6 ⟨rfl, hb6⟩
  have gw6 : Below w5.heap.size w5 w6 := bthen (by repeat (first | exact Below.refl _ _ | exact bA | assumption | refine Below.setCell ?_ (by first | omega | (simp; try omega)) _ | refine Below.alloc ?_ (by first | omega | (simp; try omega)) _ | refine Below.drew ?_ | refine bDN ?_ | refine bthen ?_ (by assumption))) hb6
  have sw6 : w5.heap.size + 1 ≤ w6.heap.size := by have := hb6.size; (try simp at this); omega
  have H_w6 : Below w.heap.size w w6 := bthen H_w5 gw6
  have f47 : w6.cell? ⟨w.heap.size, 0, none⟩ = some (.int .i64 x0.1) := (gw6.cell (by first | omega | (simp; try omega))).trans f32
  have f48 : w6.cell? ⟨w.heap.size, 1, none⟩ = some (u0) := (gw6.cell (by first | omega | (simp; try omega))).trans f33
  have f49 : w6.cell? ⟨w3.heap.size, 0, none⟩ = some (.int .i64 (fpV x0 n1 n2).1) := (gw6.cell (by first | omega | (simp; try omega))).trans f34
  have f50 : w6.cell? ⟨w3.heap.size, 1, none⟩ = some (.slice ad16 (fpV x0 n1 n2).2.length ad16') := (gw6.cell (by first | omega | (simp; try omega))).trans f35
  have f51 : w6.cell? ⟨w4.heap.size, 0, none⟩ = some (.int .i64 x0.1) := (gw6.cell (by first | omega | (simp; try omega))).trans f36
  have f52 : w6.cell? ⟨w4.heap.size, 1, none⟩ = some (.slice ad28 x0.2.length ad28') := (gw6.cell (by first | omega | (simp; try omega))).trans f37
  have f53 : w6.cell? ⟨w5.heap.size, 0, none⟩ = some (.int .i64 (fpV x0 n1 n2).1) := by rw [(bcell hb6).1 _ _ (by first | omega | (simp; try omega))]; first | (simp; done) | simp [go_sem]
  have f54 : w6.cell? ⟨w5.heap.size, 1, none⟩ = some (.slice ad44 (fpV x0 n1 n2).2.length ad44') := by rw [(bcell hb6).1 _ _ (by first | omega | (simp; try omega))]; first | (simp; done) | simp [go_sem]
  have z55 : w.heap.size < w6.heap.size := by omega
  have z56 : w3.heap.size < w6.heap.size := by omega
  have z57 : w4.heap.size < w6.heap.size := by omega
  have z58 : w5.heap.size < w6.heap.size := by omega
  have d59 : tplT.Fx w1.heap.size w2.heap.size w6 [.int .i64 x0.1, .slice ad8 x0.2.length ad8'] x0 := d41.below gw6
  have d60 : opT.Fx w2.heap.size w3.heap.size w6 [.int .i64 (fpV x0 n1 n2).1, .slice ad16 (fpV x0 n1 n2).2.length ad16'] (fpV x0 n1 n2) := d42.below gw6
  have d61 : tplT.Fx (w3.heap.size + 1) w4.heap.size w6 [.int .i64 x0.1, .slice ad28 x0.2.length ad28'] x0 := d43.below gw6
  have d62 : opT.Fx (w4.heap.size + 1) w5.heap.size w6 [.int .i64 (fpV x0 n1 n2).1, .slice ad44 (fpV x0 n1 n2).2.length ad44'] (fpV x0 n1 n2) := d45.below gw6
  clear hb6 H_w5 f32 f33 f34 f35 f36 f37 d41 d42 d43 d45 z38 z39 z40 gw6
  rw [eqB_true rfl]
  go_wp2_with fail
  refine wp_region_loose [exV (.agg #[.int .i64 x0.1, .slice ad28 x0.2.length ad28']), exV (.agg #[.int .i64 x0.1, u0]), rdA tplT x0, exV (.bool true), exV (.bool false)] (by kernel_rfl) (by kernel_rfl) ⟨st_exV, st_exV, st_rdA, st_exV, st_exV, trivial⟩ ⟨?j10_0, ?j10_1, ?j10_2, ?j10_3, ?j10_4, trivial⟩ ?hQ10
  case j10_0 =>
    intro a' w' hb hd
    have e0 : a'.tmps[10]?.getD undef = .pointer (some ⟨w4.heap.size, 0, none⟩) := ev (slot_o hd 10 rfl rfl)
    have q : ∀ b o, b < w6.heap.size → w'.cell? ⟨b, o, none⟩ = w6.cell? ⟨b, o, none⟩ := (bcell hb).1
    go_simp
    exact ⟨Below.refl _ _, rfl⟩
  case j10_1 =>
    intro a' w' hb hd
    have e0 : a'.tmps[3]?.getD undef = .pointer (some ⟨w.heap.size, 0, none⟩) := ev (slot_o hd 3 rfl rfl)
    have q : ∀ b o, b < w6.heap.size → w'.cell? ⟨b, o, none⟩ = w6.cell? ⟨b, o, none⟩ := (bcell hb).1
    go_simp
    exact ⟨Below.refl _ _, rfl⟩
  case j10_2 =>
    intro a' w' hb hd
    have e50 : a'.tmps[50]?.getD undef = .agg #[.int .i64 x0.1, u0] := ev (slot_w hd 50 (exV (.agg #[.int .i64 x0.1, u0])) rfl rfl)
    have r50 : tplT.Rd w6 (#[.int .i64 x0.1, u0] : Array Value).toList x0 := hx0.below H_w6
    have r50' := r50.below hb
    go_simp
    exact ⟨Below.refl _ _, (toTemplate_any w' r50' (by first | omega | (unfold szInts; omega))).mono fun e w'' ⟨cs, he, hf, hb⟩ => ⟨_, he, hb, cs, rfl, hf.rd⟩⟩
  case j10_3 =>
    intro a' w' hb hd
    have e49 : a'.tmps[49]?.getD undef = .agg #[.int .i64 x0.1, .slice ad28 x0.2.length ad28'] := ev (slot_w hd 49 (exV (.agg #[.int .i64 x0.1, .slice ad28 x0.2.length ad28'])) rfl rfl)
    have r49 : tplT.Rd w6 (#[.int .i64 x0.1, .slice ad28 x0.2.length ad28'] : Array Value).toList x0 := d61.rd
    have r49' := r49.below hb
    have d51 := slot_w hd 51 (rdA tplT x0) rfl rfl
    obtain ⟨cs51, e51, hf51⟩ := d51
    have e51' := ev e51
    go_simp
    exact ⟨Below.refl _ _, (eqTemplate_any w' r49' hf51).mono fun e w'' ⟨he, hb⟩ => ⟨_, he, hb, exV_eqB⟩⟩
  case j10_4 =>
    intro a' w' hb hd
    have e0 : a'.tmps[52]?.getD undef = .bool true := ev (slot_w hd 52 (exV (.bool true)) rfl rfl)
    go_simp
    exact ⟨Below.refl _ _, rfl⟩
  intro vs10 w7 hb7 H0
  obtain ⟨v10_0, _, rfl, p0, H1⟩ := HAll_cons H0
  obtain ⟨v10_1, _, rfl, p1, H2⟩ := HAll_cons H1
  obtain ⟨v10_2, _, rfl, p2, H3⟩ := HAll_cons H2
  obtain ⟨v10_3, _, rfl, p3, H4⟩ := HAll_cons H3
  obtain ⟨v10_4, _, rfl, p4, H5⟩ := HAll_cons H4
  obtain rfl := HAll_nil H5
  obtain rfl := p0 rfl
  obtain rfl := p1 rfl
  obtain rfl := p3 rfl
  obtain rfl := p4 rfl
  clear p0 p1 p2 p3 p4 H0 H1 H2 H3 H4 H5
  have gw7 : Below w6.heap.size w6 w7 := bthen (by repeat (first | exact Below.refl _ _ | exact bA | assumption | refine Below.setCell ?_ (by first | omega | (simp; try omega)) _ | refine Below.alloc ?_ (by first | omega | (simp; try omega)) _ | refine Below.drew ?_ | refine bDN ?_ | refine bthen ?_ (by assumption))) hb7
  have sw7 : w6.heap.size + 0 ≤ w7.heap.size := by have := hb7.size; (try simp at this); omega
  have H_w7 : Below w.heap.size w w7 := bthen H_w6 gw7
  have f63 : w7.cell? ⟨w.heap.size, 0, none⟩ = some (.int .i64 x0.1) := (gw7.cell (by first | omega | (simp; try omega))).trans f47
  have f64 : w7.cell? ⟨w.heap.size, 1, none⟩ = some (u0) := (gw7.cell (by first | omega | (simp; try omega))).trans f48
  have f65 : w7.cell? ⟨w3.heap.size, 0, none⟩ = some (.int .i64 (fpV x0 n1 n2).1) := (gw7.cell (by first | omega | (simp; try omega))).trans f49
  have f66 : w7.cell? ⟨w3.heap.size, 1, none⟩ = some (.slice ad16 (fpV x0 n1 n2).2.length ad16') := (gw7.cell (by first | omega | (simp; try omega))).trans f50
  have f67 : w7.cell? ⟨w4.heap.size, 0, none⟩ = some (.int .i64 x0.1) := (gw7.cell (by first | omega | (simp; try omega))).trans f51
  have f68 : w7.cell? ⟨w4.heap.size, 1, none⟩ = some (.slice ad28 x0.2.length ad28') := (gw7.cell (by first | omega | (simp; try omega))).trans f52
  have f69 : w7.cell? ⟨w5.heap.size, 0, none⟩ = some (.int .i64 (fpV x0 n1 n2).1) := (gw7.cell (by first | omega | (simp; try omega))).trans f53
  have f70 : w7.cell? ⟨w5.heap.size, 1, none⟩ = some (.slice ad44 (fpV x0 n1 n2).2.length ad44') := (gw7.cell (by first | omega | (simp; try omega))).trans f54
  have z71 : w.heap.size < w7.heap.size := by omega
  have z72 : w3.heap.size < w7.heap.size := by omega
  have z73 : w4.heap.size < w7.heap.size := by omega
  have z74 : w5.heap.size < w7.heap.size := by omega
  have d75 : tplT.Fx w1.heap.size w2.heap.size w7 [.int .i64 x0.1, .slice ad8 x0.2.length ad8'] x0 := d59.below gw7
  have d76 : opT.Fx w2.heap.size w3.heap.size w7 [.int .i64 (fpV x0 n1 n2).1, .slice ad16 (fpV x0 n1 n2).2.length ad16'] (fpV x0 n1 n2) := d60.below gw7
  have d77 : tplT.Fx (w3.heap.size + 1) w4.heap.size w7 [.int .i64 x0.1, .slice ad28 x0.2.length ad28'] x0 := d61.below gw7
  have d78 : opT.Fx (w4.heap.size + 1) w5.heap.size w7 [.int .i64 (fpV x0 n1 n2).1, .slice ad44 (fpV x0 n1 n2).2.length ad44'] (fpV x0 n1 n2) := d62.below gw7
  clear hb7 H_w6 f47 f48 f49 f50 f51 f52 f53 f54 d59 d60 d61 d62 z55 z56 z57 z58 gw7
  simp only [putAll, Act.put]
  go_simp
  go_wp2_with fail
  refine (markTemplate_fx _ d77 _ (by omega) (by omega)).mono ?_
  rintro e w8 ⟨rfl, hb8, d79⟩
  clear d77
  have sw8 : w7.heap.size ≤ w8.heap.size := hb8.size
  have H_w8 : Below w.heap.size w w8 := below_tch H_w7 hb8 (by omega) (by omega)
  have f80 : w8.cell? ⟨w.heap.size, 0, none⟩ = some (.int .i64 x0.1) := (hb8.cell (by omega) (by omega)).trans f63
  have f81 : w8.cell? ⟨w.heap.size, 1, none⟩ = some (u0) := (hb8.cell (by omega) (by omega)).trans f64
  have f82 : w8.cell? ⟨w3.heap.size, 0, none⟩ = some (.int .i64 (fpV x0 n1 n2).1) := (hb8.cell (by omega) (by omega)).trans f65
  have f83 : w8.cell? ⟨w3.heap.size, 1, none⟩ = some (.slice ad16 (fpV x0 n1 n2).2.length ad16') := (hb8.cell (by omega) (by omega)).trans f66
  have f84 : w8.cell? ⟨w4.heap.size, 0, none⟩ = some (.int .i64 x0.1) := (hb8.cell (by omega) (by omega)).trans f67
  have f85 : w8.cell? ⟨w4.heap.size, 1, none⟩ = some (.slice ad28 x0.2.length ad28') := (hb8.cell (by omega) (by omega)).trans f68
  have f86 : w8.cell? ⟨w5.heap.size, 0, none⟩ = some (.int .i64 (fpV x0 n1 n2).1) := (hb8.cell (by omega) (by omega)).trans f69
  have f87 : w8.cell? ⟨w5.heap.size, 1, none⟩ = some (.slice ad44 (fpV x0 n1 n2).2.length ad44') := (hb8.cell (by omega) (by omega)).trans f70
  have z88 : w.heap.size < w8.heap.size := by omega
  have z89 : w3.heap.size < w8.heap.size := by omega
  have z90 : w4.heap.size < w8.heap.size := by omega
  have z91 : w5.heap.size < w8.heap.size := by omega
  have d92 : tplT.Fx w1.heap.size w2.heap.size w8 [.int .i64 x0.1, .slice ad8 x0.2.length ad8'] x0 := d75.tch hb8 (by omega)
  have d93 : opT.Fx w2.heap.size w3.heap.size w8 [.int .i64 (fpV x0 n1 n2).1, .slice ad16 (fpV x0 n1 n2).2.length ad16'] (fpV x0 n1 n2) := d76.tch hb8 (by omega)
  have d94 : opT.Fx (w4.heap.size + 1) w5.heap.size w8 [.int .i64 (fpV x0 n1 n2).1, .slice ad44 (fpV x0 n1 n2).2.length ad44'] (fpV x0 n1 n2) := d78.tch hb8 (by omega)
  clear hb8 H_w7 f63 f64 f65 f66 f67 f68 f69 f70 d75 d76 d78 z71 z72 z73 z74
  have hk95 : 0 ≤ (1 + cntTpl x0) := by omega
  go_wp2_with fail
  refine (eqOp_any _ (d94.rd.below (by repeat (first | exact Below.refl _ _ | exact bA | assumption | refine Below.setCell ?_ (by first | omega | (simp; try omega)) _ | refine Below.alloc ?_ (by first | omega | (simp; try omega)) _ | refine Below.drew ?_ | refine bDN ?_ | refine bthen ?_ (by assumption)))) (d93.rd.below (by repeat (first | exact Below.refl _ _ | exact bA | assumption | refine Below.setCell ?_ (by first | omega | (simp; try omega)) _ | refine Below.alloc ?_ (by first | omega | (simp; try omega)) _ | refine Below.drew ?_ | refine bDN ?_ | refine bthen ?_ (by assumption))))).mono ?_
  rintro e w9 ⟨rfl, hb9⟩
  have gw9 : Below w8.heap.size w8 w9 := bthen (by repeat (first | exact Below.refl _ _ | exact bA | assumption | refine Below.setCell ?_ (by first | omega | (simp; try omega)) _ | refine Below.alloc ?_ (by first | omega | (simp; try omega)) _ | refine Below.drew ?_ | refine bDN ?_ | refine bthen ?_ (by assumption))) hb9
  have sw9 : w8.heap.size + 0 ≤ w9.heap.size := by have := hb9.size; (try simp at this); omega
  have H_w9 : Below w.heap.size w w9 := bthen H_w8 gw9
  have f96 : w9.cell? ⟨w.heap.size, 0, none⟩ = some (.int .i64 x0.1) := (gw9.cell (by first | omega | (simp; try omega))).trans f80
  have f97 : w9.cell? ⟨w.heap.size, 1, none⟩ = some (u0) := (gw9.cell (by first | omega | (simp; try omega))).trans f81
  have f98 : w9.cell? ⟨w3.heap.size, 0, none⟩ = some (.int .i64 (fpV x0 n1 n2).1) := (gw9.cell (by first | omega | (simp; try omega))).trans f82
  have f99 : w9.cell? ⟨w3.heap.size, 1, none⟩ = some (.slice ad16 (fpV x0 n1 n2).2.length ad16') := (gw9.cell (by first | omega | (simp; try omega))).trans f83
  have f100 : w9.cell? ⟨w4.heap.size, 0, none⟩ = some (.int .i64 x0.1) := (gw9.cell (by first | omega | (simp; try omega))).trans f84
  have f101 : w9.cell? ⟨w4.heap.size, 1, none⟩ = some (.slice ad28 x0.2.length ad28') := (gw9.cell (by first | omega | (simp; try omega))).trans f85
  have f102 : w9.cell? ⟨w5.heap.size, 0, none⟩ = some (.int .i64 (fpV x0 n1 n2).1) := (gw9.cell (by first | omega | (simp; try omega))).trans f86
  have f103 : w9.cell? ⟨w5.heap.size, 1, none⟩ = some (.slice ad44 (fpV x0 n1 n2).2.length ad44') := (gw9.cell (by first | omega | (simp; try omega))).trans f87
  have z104 : w.heap.size < w9.heap.size := by omega
  have z105 : w3.heap.size < w9.heap.size := by omega
  have z106 : w4.heap.size < w9.heap.size := by omega
  have z107 : w5.heap.size < w9.heap.size := by omega
  have d108 : tplT.Fx w1.heap.size w2.heap.size w9 [.int .i64 x0.1, .slice ad8 x0.2.length ad8'] x0 := d92.below gw9
  have d109 : opT.Fx w2.heap.size w3.heap.size w9 [.int .i64 (fpV x0 n1 n2).1, .slice ad16 (fpV x0 n1 n2).2.length ad16'] (fpV x0 n1 n2) := d93.below gw9
  have d110 : tplT.Fx (w3.heap.size + 1) w4.heap.size w9 [.int .i64 x0.1, .slice ad28 x0.2.length ad28'] (mkTpl 1 x0) := d79.below gw9
  have d111 : opT.Fx (w4.heap.size + 1) w5.heap.size w9 [.int .i64 (fpV x0 n1 n2).1, .slice ad44 (fpV x0 n1 n2).2.length ad44'] (fpV x0 n1 n2) := d94.below gw9
  clear hb9 H_w8 f80 f81 f82 f83 f84 f85 f86 f87 d92 d93 d79 d94 z88 z89 z90 z91 gw9
  rw [eqB_true rfl]
  go_wp2_with fail
  refine (markOp_fx _ d111 _ (by omega) (by omega)).mono ?_
  rintro e w10 ⟨rfl, hb10, d112⟩
  clear d111
  have sw10 : w9.heap.size ≤ w10.heap.size := hb10.size
  have H_w10 : Below w.heap.size w w10 := below_tch H_w9 hb10 (by omega) (by omega)
  have f113 : w10.cell? ⟨w.heap.size, 0, none⟩ = some (.int .i64 x0.1) := (hb10.cell (by omega) (by omega)).trans f96
  have f114 : w10.cell? ⟨w.heap.size, 1, none⟩ = some (u0) := (hb10.cell (by omega) (by omega)).trans f97
  have f115 : w10.cell? ⟨w3.heap.size, 0, none⟩ = some (.int .i64 (fpV x0 n1 n2).1) := (hb10.cell (by omega) (by omega)).trans f98
  have f116 : w10.cell? ⟨w3.heap.size, 1, none⟩ = some (.slice ad16 (fpV x0 n1 n2).2.length ad16') := (hb10.cell (by omega) (by omega)).trans f99
  have f117 : w10.cell? ⟨w4.heap.size, 0, none⟩ = some (.int .i64 x0.1) := (hb10.cell (by omega) (by omega)).trans f100
  have f118 : w10.cell? ⟨w4.heap.size, 1, none⟩ = some (.slice ad28 x0.2.length ad28') := (hb10.cell (by omega) (by omega)).trans f101
  have f119 : w10.cell? ⟨w5.heap.size, 0, none⟩ = some (.int .i64 (fpV x0 n1 n2).1) := (hb10.cell (by omega) (by omega)).trans f102
  have f120 : w10.cell? ⟨w5.heap.size, 1, none⟩ = some (.slice ad44 (fpV x0 n1 n2).2.length ad44') := (hb10.cell (by omega) (by omega)).trans f103
  have z121 : w.heap.size < w10.heap.size := by omega
  have z122 : w3.heap.size < w10.heap.size := by omega
  have z123 : w4.heap.size < w10.heap.size := by omega
  have z124 : w5.heap.size < w10.heap.size := by omega
  have d125 : tplT.Fx w1.heap.size w2.heap.size w10 [.int .i64 x0.1, .slice ad8 x0.2.length ad8'] x0 := d108.tch hb10 (by omega)
  have d126 : opT.Fx w2.heap.size w3.heap.size w10 [.int .i64 (fpV x0 n1 n2).1, .slice ad16 (fpV x0 n1 n2).2.length ad16'] (fpV x0 n1 n2) := d109.tch hb10 (by omega)
  have d127 : tplT.Fx (w3.heap.size + 1) w4.heap.size w10 [.int .i64 x0.1, .slice ad28 x0.2.length ad28'] (mkTpl 1 x0) := d110.tch hb10 (by omega)
  clear hb10 H_w9 f96 f97 f98 f99 f100 f101 f102 f103 d108 d109 d110 z104 z105 z106 z107
  have hk128 : 0 ≤ (1 + cntOp (fpV x0 n1 n2)) := by omega
  go_wp2_with fail
  refine (heldOp_any _ _ d112.rd (by omega) (by omega)).mono ?_
  rintro e w11 ⟨rfl, hb11⟩
  have gw11 : Below w10.heap.size w10 w11 := bthen (by repeat (first | exact Below.refl _ _ | exact bA | assumption | refine Below.setCell ?_ (by first | omega | (simp; try omega)) _ | refine Below.alloc ?_ (by first | omega | (simp; try omega)) _ | refine Below.drew ?_ | refine bDN ?_ | refine bthen ?_ (by assumption))) hb11
  have sw11 : w10.heap.size + 0 ≤ w11.heap.size := by have := hb11.size; (try simp at this); omega
  have H_w11 : Below w.heap.size w w11 := bthen H_w10 gw11
  have f129 : w11.cell? ⟨w.heap.size, 0, none⟩ = some (.int .i64 x0.1) := (gw11.cell (by first | omega | (simp; try omega))).trans f113
  have f130 : w11.cell? ⟨w.heap.size, 1, none⟩ = some (u0) := (gw11.cell (by first | omega | (simp; try omega))).trans f114
  have f131 : w11.cell? ⟨w3.heap.size, 0, none⟩ = some (.int .i64 (fpV x0 n1 n2).1) := (gw11.cell (by first | omega | (simp; try omega))).trans f115
  have f132 : w11.cell? ⟨w3.heap.size, 1, none⟩ = some (.slice ad16 (fpV x0 n1 n2).2.length ad16') := (gw11.cell (by first | omega | (simp; try omega))).trans f116
  have f133 : w11.cell? ⟨w4.heap.size, 0, none⟩ = some (.int .i64 x0.1) := (gw11.cell (by first | omega | (simp; try omega))).trans f117
  have f134 : w11.cell? ⟨w4.heap.size, 1, none⟩ = some (.slice ad28 x0.2.length ad28') := (gw11.cell (by first | omega | (simp; try omega))).trans f118
  have f135 : w11.cell? ⟨w5.heap.size, 0, none⟩ = some (.int .i64 (fpV x0 n1 n2).1) := (gw11.cell (by first | omega | (simp; try omega))).trans f119
  have f136 : w11.cell? ⟨w5.heap.size, 1, none⟩ = some (.slice ad44 (fpV x0 n1 n2).2.length ad44') := (gw11.cell (by first | omega | (simp; try omega))).trans f120
  have z137 : w.heap.size < w11.heap.size := by omega
  have z138 : w3.heap.size < w11.heap.size := by omega
  have z139 : w4.heap.size < w11.heap.size := by omega
  have z140 : w5.heap.size < w11.heap.size := by omega
  have d141 : tplT.Fx w1.heap.size w2.heap.size w11 [.int .i64 x0.1, .slice ad8 x0.2.length ad8'] x0 := d125.below gw11
  have d142 : opT.Fx w2.heap.size w3.heap.size w11 [.int .i64 (fpV x0 n1 n2).1, .slice ad16 (fpV x0 n1 n2).2.length ad16'] (fpV x0 n1 n2) := d126.below gw11
  have d143 : tplT.Fx (w3.heap.size + 1) w4.heap.size w11 [.int .i64 x0.1, .slice ad28 x0.2.length ad28'] (mkTpl 1 x0) := d127.below gw11
  have d144 : opT.Fx (w4.heap.size + 1) w5.heap.size w11 [.int .i64 (fpV x0 n1 n2).1, .slice ad44 (fpV x0 n1 n2).2.length ad44'] (mkOp 1 (fpV x0 n1 n2)) := d112.below gw11
  clear hb11 H_w10 f113 f114 f115 f116 f117 f118 f119 f120 d125 d126 d127 d112 z121 z122 z123 z124 gw11
  go_wp2_with fail
  refine (toTemplate_any _ (hx0.below (by repeat (first | exact Below.refl _ _ | exact bA | assumption | refine Below.setCell ?_ (by first | omega | (simp; try omega)) _ | refine Below.alloc ?_ (by first | omega | (simp; try omega)) _ | refine Below.drew ?_ | refine bDN ?_ | refine bthen ?_ (by assumption)))) (by first | omega | (unfold szInts; omega))).mono ?_
  rintro e w12 ⟨cs, rfl, hc145, hb12⟩
  have gw12 : Below w11.heap.size w11 w12 := bthen (by repeat (first | exact Below.refl _ _ | exact bA | assumption | refine Below.setCell ?_ (by first | omega | (simp; try omega)) _ | refine Below.alloc ?_ (by first | omega | (simp; try omega)) _ | refine Below.drew ?_ | refine bDN ?_ | refine bthen ?_ (by assumption))) hb12
  have sw12 : w11.heap.size + 0 ≤ w12.heap.size := by have := hb12.size; (try simp at this); omega
  have H_w12 : Below w.heap.size w w12 := bthen H_w11 gw12
  have f146 : w12.cell? ⟨w.heap.size, 0, none⟩ = some (.int .i64 x0.1) := (gw12.cell (by first | omega | (simp; try omega))).trans f129
  have f147 : w12.cell? ⟨w.heap.size, 1, none⟩ = some (u0) := (gw12.cell (by first | omega | (simp; try omega))).trans f130
  have f148 : w12.cell? ⟨w3.heap.size, 0, none⟩ = some (.int .i64 (fpV x0 n1 n2).1) := (gw12.cell (by first | omega | (simp; try omega))).trans f131
  have f149 : w12.cell? ⟨w3.heap.size, 1, none⟩ = some (.slice ad16 (fpV x0 n1 n2).2.length ad16') := (gw12.cell (by first | omega | (simp; try omega))).trans f132
  have f150 : w12.cell? ⟨w4.heap.size, 0, none⟩ = some (.int .i64 x0.1) := (gw12.cell (by first | omega | (simp; try omega))).trans f133
  have f151 : w12.cell? ⟨w4.heap.size, 1, none⟩ = some (.slice ad28 x0.2.length ad28') := (gw12.cell (by first | omega | (simp; try omega))).trans f134
  have f152 : w12.cell? ⟨w5.heap.size, 0, none⟩ = some (.int .i64 (fpV x0 n1 n2).1) := (gw12.cell (by first | omega | (simp; try omega))).trans f135
  have f153 : w12.cell? ⟨w5.heap.size, 1, none⟩ = some (.slice ad44 (fpV x0 n1 n2).2.length ad44') := (gw12.cell (by first | omega | (simp; try omega))).trans f136
  have z154 : w.heap.size < w12.heap.size := by omega
  have z155 : w3.heap.size < w12.heap.size := by omega
  have z156 : w4.heap.size < w12.heap.size := by omega
  have z157 : w5.heap.size < w12.heap.size := by omega
  have d158 : tplT.Fx w1.heap.size w2.heap.size w12 [.int .i64 x0.1, .slice ad8 x0.2.length ad8'] x0 := d141.below gw12
  have d159 : opT.Fx w2.heap.size w3.heap.size w12 [.int .i64 (fpV x0 n1 n2).1, .slice ad16 (fpV x0 n1 n2).2.length ad16'] (fpV x0 n1 n2) := d142.below gw12
  have d160 : tplT.Fx (w3.heap.size + 1) w4.heap.size w12 [.int .i64 x0.1, .slice ad28 x0.2.length ad28'] (mkTpl 1 x0) := d143.below gw12
  have d161 : opT.Fx (w4.heap.size + 1) w5.heap.size w12 [.int .i64 (fpV x0 n1 n2).1, .slice ad44 (fpV x0 n1 n2).2.length ad44'] (mkOp 1 (fpV x0 n1 n2)) := d144.below gw12
  clear hb12 H_w11 f129 f130 f131 f132 f133 f134 f135 f136 d141 d142 d143 d144 z137 z138 z139 z140 gw12
  obtain ⟨ad162, ad162', rfl⟩ := fr_pair hc145
  have d163 : tplT.Fx w11.heap.size w12.heap.size w12 [.int .i64 x0.1, .slice ad162 x0.2.length ad162'] x0 := (Ty.Fr.mono hc145 (by first | exact Nat.le_refl _ | (simp; try omega))).fx
  clear hc145
  go_wp2_with fail
  refine (FirstPolymorphism_any _ (d163.rd.below (by repeat (first | exact Below.refl _ _ | exact bA | assumption | refine Below.setCell ?_ (by first | omega | (simp; try omega)) _ | refine Below.alloc ?_ (by first | omega | (simp; try omega)) _ | refine Below.drew ?_ | refine bDN ?_ | refine bthen ?_ (by assumption))))).mono ?_
  rintro e w13 ⟨cs, rfl, hc165, hb13⟩
  have gw13 : Below w12.heap.size w12 w13 := bthen (by repeat (first | exact Below.refl _ _ | exact bA | assumption | refine Below.setCell ?_ (by first | omega | (simp; try omega)) _ | refine Below.alloc ?_ (by first | omega | (simp; try omega)) _ | refine Below.drew ?_ | refine bDN ?_ | refine bthen ?_ (by assumption))) hb13
  have sw13 : w12.heap.size + 0 ≤ w13.heap.size := by have := hb13.size; (try simp at this); omega
  have H_w13 : Below w.heap.size w w13 := bthen H_w12 gw13
  have f166 : w13.cell? ⟨w.heap.size, 0, none⟩ = some (.int .i64 x0.1) := (gw13.cell (by first | omega | (simp; try omega))).trans f146
  have f167 : w13.cell? ⟨w.heap.size, 1, none⟩ = some (u0) := (gw13.cell (by first | omega | (simp; try omega))).trans f147
  have f168 : w13.cell? ⟨w3.heap.size, 0, none⟩ = some (.int .i64 (fpV x0 n1 n2).1) := (gw13.cell (by first | omega | (simp; try omega))).trans f148
  have f169 : w13.cell? ⟨w3.heap.size, 1, none⟩ = some (.slice ad16 (fpV x0 n1 n2).2.length ad16') := (gw13.cell (by first | omega | (simp; try omega))).trans f149
  have f170 : w13.cell? ⟨w4.heap.size, 0, none⟩ = some (.int .i64 x0.1) := (gw13.cell (by first | omega | (simp; try omega))).trans f150
  have f171 : w13.cell? ⟨w4.heap.size, 1, none⟩ = some (.slice ad28 x0.2.length ad28') := (gw13.cell (by first | omega | (simp; try omega))).trans f151
  have f172 : w13.cell? ⟨w5.heap.size, 0, none⟩ = some (.int .i64 (fpV x0 n1 n2).1) := (gw13.cell (by first | omega | (simp; try omega))).trans f152
  have f173 : w13.cell? ⟨w5.heap.size, 1, none⟩ = some (.slice ad44 (fpV x0 n1 n2).2.length ad44') := (gw13.cell (by first | omega | (simp; try omega))).trans f153
  have z174 : w.heap.size < w13.heap.size := by omega
  have z175 : w3.heap.size < w13.heap.size := by omega
  have z176 : w4.heap.size < w13.heap.size := by omega
  have z177 : w5.heap.size < w13.heap.size := by omega
  have d178 : tplT.Fx w1.heap.size w2.heap.size w13 [.int .i64 x0.1, .slice ad8 x0.2.length ad8'] x0 := d158.below gw13
  have d179 : opT.Fx w2.heap.size w3.heap.size w13 [.int .i64 (fpV x0 n1 n2).1, .slice ad16 (fpV x0 n1 n2).2.length ad16'] (fpV x0 n1 n2) := d159.below gw13
  have d180 : tplT.Fx (w3.heap.size + 1) w4.heap.size w13 [.int .i64 x0.1, .slice ad28 x0.2.length ad28'] (mkTpl 1 x0) := d160.below gw13
  have d181 : opT.Fx (w4.heap.size + 1) w5.heap.size w13 [.int .i64 (fpV x0 n1 n2).1, .slice ad44 (fpV x0 n1 n2).2.length ad44'] (mkOp 1 (fpV x0 n1 n2)) := d161.below gw13
  have d182 : tplT.Fx w11.heap.size w12.heap.size w13 [.int .i64 x0.1, .slice ad162 x0.2.length ad162'] x0 := d163.below gw13
  clear hb13 H_w12 f146 f147 f148 f149 f150 f151 f152 f153 d158 d159 d160 d161 d163 z154 z155 z156 z157 gw13
  obtain ⟨ad183, ad183', rfl⟩ := fr_pair hc165
  have d184 : opT.Fx w12.heap.size w13.heap.size w13 [.int .i64 (fpV x0 n1 n2).1, .slice ad183 (fpV x0 n1 n2).2.length ad183'] (fpV x0 n1 n2) := (Ty.Fr.mono hc165 (by first | exact Nat.le_refl _ | (simp; try omega))).fx
  clear hc165
  go_wp2_with fail
  refine (eqOp_any _ (d184.rd.below (by repeat (first | exact Below.refl _ _ | exact bA | assumption | refine Below.setCell ?_ (by first | omega | (simp; try omega)) _ | refine Below.alloc ?_ (by first | omega | (simp; try omega)) _ | refine Below.drew ?_ | refine bDN ?_ | refine bthen ?_ (by assumption)))) (d179.rd.below (by repeat (first | exact Below.refl _ _ | exact bA | assumption | refine Below.setCell ?_ (by first | omega | (simp; try omega)) _ | refine Below.alloc ?_ (by first | omega | (simp; try omega)) _ | refine Below.drew ?_ | refine bDN ?_ | refine bthen ?_ (by assumption))))).mono ?_
  rintro e w14 ⟨rfl, hb14⟩
  have gw14 : Below w13.heap.size w13 w14 := bthen (by repeat (first | exact Below.refl _ _ | exact bA | assumption | refine Below.setCell ?_ (by first | omega | (simp; try omega)) _ | refine Below.alloc ?_ (by first | omega | (simp; try omega)) _ | refine Below.drew ?_ | refine bDN ?_ | refine bthen ?_ (by assumption))) hb14
  have sw14 : w13.heap.size + 1 ≤ w14.heap.size := by have := hb14.size; (try simp at this); omega
  have H_w14 : Below w.heap.size w w14 := bthen H_w13 gw14
  have f186 : w14.cell? ⟨w.heap.size, 0, none⟩ = some (.int .i64 x0.1) := (gw14.cell (by first | omega | (simp; try omega))).trans f166
  have f187 : w14.cell? ⟨w.heap.size, 1, none⟩ = some (u0) := (gw14.cell (by first | omega | (simp; try omega))).trans f167
  have f188 : w14.cell? ⟨w3.heap.size, 0, none⟩ = some (.int .i64 (fpV x0 n1 n2).1) := (gw14.cell (by first | omega | (simp; try omega))).trans f168
  have f189 : w14.cell? ⟨w3.heap.size, 1, none⟩ = some (.slice ad16 (fpV x0 n1 n2).2.length ad16') := (gw14.cell (by first | omega | (simp; try omega))).trans f169
  have f190 : w14.cell? ⟨w4.heap.size, 0, none⟩ = some (.int .i64 x0.1) := (gw14.cell (by first | omega | (simp; try omega))).trans f170
  have f191 : w14.cell? ⟨w4.heap.size, 1, none⟩ = some (.slice ad28 x0.2.length ad28') := (gw14.cell (by first | omega | (simp; try omega))).trans f171
  have f192 : w14.cell? ⟨w5.heap.size, 0, none⟩ = some (.int .i64 (fpV x0 n1 n2).1) := (gw14.cell (by first | omega | (simp; try omega))).trans f172
  have f193 : w14.cell? ⟨w5.heap.size, 1, none⟩ = some (.slice ad44 (fpV x0 n1 n2).2.length ad44') := (gw14.cell (by first | omega | (simp; try omega))).trans f173
  have f194 : w14.cell? ⟨w13.heap.size, 0, none⟩ = some (.int .i64 (fpV x0 n1 n2).1) := by rw [(bcell hb14).1 _ _ (by first | omega | (simp; try omega))]; first | (simp; done) | simp [go_sem]
  have f195 : w14.cell? ⟨w13.heap.size, 1, none⟩ = some (.slice ad183 (fpV x0 n1 n2).2.length ad183') := by rw [(bcell hb14).1 _ _ (by first | omega | (simp; try omega))]; first | (simp; done) | simp [go_sem]
  have z196 : w.heap.size < w14.heap.size := by omega
  have z197 : w3.heap.size < w14.heap.size := by omega
  have z198 : w4.heap.size < w14.heap.size := by omega
  have z199 : w5.heap.size < w14.heap.size := by omega
  have z200 : w13.heap.size < w14.heap.size := by omega
  have d201 : tplT.Fx w1.heap.size w2.heap.size w14 [.int .i64 x0.1, .slice ad8 x0.2.length ad8'] x0 := d178.below gw14
  have d202 : opT.Fx w2.heap.size w3.heap.size w14 [.int .i64 (fpV x0 n1 n2).1, .slice ad16 (fpV x0 n1 n2).2.length ad16'] (fpV x0 n1 n2) := d179.below gw14
  have d203 : tplT.Fx (w3.heap.size + 1) w4.heap.size w14 [.int .i64 x0.1, .slice ad28 x0.2.length ad28'] (mkTpl 1 x0) := d180.below gw14
  have d204 : opT.Fx (w4.heap.size + 1) w5.heap.size w14 [.int .i64 (fpV x0 n1 n2).1, .slice ad44 (fpV x0 n1 n2).2.length ad44'] (mkOp 1 (fpV x0 n1 n2)) := d181.below gw14
  have d205 : tplT.Fx w11.heap.size w12.heap.size w14 [.int .i64 x0.1, .slice ad162 x0.2.length ad162'] x0 := d182.below gw14
  have d206 : opT.Fx w12.heap.size w13.heap.size w14 [.int .i64 (fpV x0 n1 n2).1, .slice ad183 (fpV x0 n1 n2).2.length ad183'] (fpV x0 n1 n2) := d184.below gw14
  clear hb14 H_w13 f166 f167 f168 f169 f170 f171 f172 f173 d178 d179 d180 d181 d182 d184 z174 z175 z176 z177 gw14
  rw [eqB_true rfl]
  go_wp2_with fail
  refine (heldOp_any _ _ d204.rd (by omega) (by omega)).mono ?_
  rintro e w15 ⟨rfl, hb15⟩
  have gw15 : Below w14.heap.size w14 w15 := bthen (by repeat (first | exact Below.refl _ _ | exact bA | assumption | refine Below.setCell ?_ (by first | omega | (simp; try omega)) _ | refine Below.alloc ?_ (by first | omega | (simp; try omega)) _ | refine Below.drew ?_ | refine bDN ?_ | refine bthen ?_ (by assumption))) hb15
  have sw15 : w14.heap.size + 0 ≤ w15.heap.size := by have := hb15.size; (try simp at this); omega
  have H_w15 : Below w.heap.size w w15 := bthen H_w14 gw15
  have f207 : w15.cell? ⟨w.heap.size, 0, none⟩ = some (.int .i64 x0.1) := (gw15.cell (by first | omega | (simp; try omega))).trans f186
  have f208 : w15.cell? ⟨w.heap.size, 1, none⟩ = some (u0) := (gw15.cell (by first | omega | (simp; try omega))).trans f187
  have f209 : w15.cell? ⟨w3.heap.size, 0, none⟩ = some (.int .i64 (fpV x0 n1 n2).1) := (gw15.cell (by first | omega | (simp; try omega))).trans f188
  have f210 : w15.cell? ⟨w3.heap.size, 1, none⟩ = some (.slice ad16 (fpV x0 n1 n2).2.length ad16') := (gw15.cell (by first | omega | (simp; try omega))).trans f189
  have f211 : w15.cell? ⟨w4.heap.size, 0, none⟩ = some (.int .i64 x0.1) := (gw15.cell (by first | omega | (simp; try omega))).trans f190
  have f212 : w15.cell? ⟨w4.heap.size, 1, none⟩ = some (.slice ad28 x0.2.length ad28') := (gw15.cell (by first | omega | (simp; try omega))).trans f191
  have f213 : w15.cell? ⟨w5.heap.size, 0, none⟩ = some (.int .i64 (fpV x0 n1 n2).1) := (gw15.cell (by first | omega | (simp; try omega))).trans f192
  have f214 : w15.cell? ⟨w5.heap.size, 1, none⟩ = some (.slice ad44 (fpV x0 n1 n2).2.length ad44') := (gw15.cell (by first | omega | (simp; try omega))).trans f193
  have f215 : w15.cell? ⟨w13.heap.size, 0, none⟩ = some (.int .i64 (fpV x0 n1 n2).1) := (gw15.cell (by first | omega | (simp; try omega))).trans f194
  have f216 : w15.cell? ⟨w13.heap.size, 1, none⟩ = some (.slice ad183 (fpV x0 n1 n2).2.length ad183') := (gw15.cell (by first | omega | (simp; try omega))).trans f195
  have z217 : w.heap.size < w15.heap.size := by omega
  have z218 : w3.heap.size < w15.heap.size := by omega
  have z219 : w4.heap.size < w15.heap.size := by omega
  have z220 : w5.heap.size < w15.heap.size := by omega
  have z221 : w13.heap.size < w15.heap.size := by omega
  have d222 : tplT.Fx w1.heap.size w2.heap.size w15 [.int .i64 x0.1, .slice ad8 x0.2.length ad8'] x0 := d201.below gw15
  have d223 : opT.Fx w2.heap.size w3.heap.size w15 [.int .i64 (fpV x0 n1 n2).1, .slice ad16 (fpV x0 n1 n2).2.length ad16'] (fpV x0 n1 n2) := d202.below gw15
  have d224 : tplT.Fx (w3.heap.size + 1) w4.heap.size w15 [.int .i64 x0.1, .slice ad28 x0.2.length ad28'] (mkTpl 1 x0) := d203.below gw15
  have d225 : opT.Fx (w4.heap.size + 1) w5.heap.size w15 [.int .i64 (fpV x0 n1 n2).1, .slice ad44 (fpV x0 n1 n2).2.length ad44'] (mkOp 1 (fpV x0 n1 n2)) := d204.below gw15
  have d226 : tplT.Fx w11.heap.size w12.heap.size w15 [.int .i64 x0.1, .slice ad162 x0.2.length ad162'] x0 := d205.below gw15
  have d227 : opT.Fx w12.heap.size w13.heap.size w15 [.int .i64 (fpV x0 n1 n2).1, .slice ad183 (fpV x0 n1 n2).2.length ad183'] (fpV x0 n1 n2) := d206.below gw15
  clear hb15 H_w14 f186 f187 f188 f189 f190 f191 f192 f193 f194 f195 d201 d202 d203 d204 d205 d206 z196 z197 z198 z199 z200 gw15
  go_wp2_with fail
  go_ret
  exact ⟨rfl, (by repeat (first | exact Below.refl _ _ | exact bA | assumption | refine Below.setCell ?_ (by first | omega | (simp; try omega)) _ | refine Below.alloc ?_ (by first | omega | (simp; try omega)) _ | refine Below.drew ?_ | refine bDN ?_ | refine bthen ?_ (by assumption)))⟩
end Go.Proofs.YthjafhjghjbdmaaGreat
