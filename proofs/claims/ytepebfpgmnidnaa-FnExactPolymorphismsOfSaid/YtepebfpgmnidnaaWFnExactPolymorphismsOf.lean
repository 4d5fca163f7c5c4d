/-
  The law FnExactPolymorphismsOf, walked: its contract.
-/
import Derived.Test.YtepebfpgmnidnaaP1
import Derived.Test.YtepebfpgmnidnaaKM
import Derived.Test.YtepebfpgmnidnaaKT
import Derived.Test.YtepebfpgmnidnaaLoose2
namespace Go.Proofs.Ytepebfpgmnidnaa
open Go.RowKit Go.Sort
set_option maxHeartbeats 6400000 in
set_option maxRecDepth 100000 in
theorem fnExactPolymorphismsOf_any (w : World) {c0 : Array Value} {x0 : Int × List (Int × List (List Int))} (h0 : tplT.Rd w c0.toList x0) {n1 : Int} (_h1 : I64 n1) :
    Calls Try.prog 7 #[.agg c0, .int .i64 n1] w fun e w' => e = .returned (.bool true) ∧ Below w.heap.size w w' := by
  have hx0 := h0
  obtain ⟨u0, hv0, -, hy0⟩ := pair_ex h0
  obtain rfl := agg_of hv0
  clear hv0 h0
  have hn0 := szTpl_nn x0
  have hcn0 : cntTpl x0 ≤ szTpl x0 := cntRels_sz x0.2
  have hcz0 : 0 ≤ cntTpl x0 := cntRels_nn x0.2
  have H_w : Below w.heap.size w w := Below.refl _ _
  go_enter Try.func7, Try.ntmps7
  go_wp2_with fail
  refine (szTemplate_any _ (hx0.below (by repeat (first | exact Below.refl _ _ | exact bA | assumption | refine Below.setCell ?_ (by first | omega | (simp; try omega)) _ | refine Below.alloc ?_ (by first | omega | (simp; try omega)) _ | refine Below.drew ?_ | refine bDN ?_ | refine bthen ?_ (by assumption)))) _ (by omega) (by omega)).mono ?_
  rintro e w1 ⟨rfl, hb1⟩
  have gw1 : Below w.heap.size w w1 := bthen (by repeat (first | exact Below.refl _ _ | exact bA | assumption | refine Below.setCell ?_ (by first | omega | (simp; try omega)) _ | refine Below.alloc ?_ (by first | omega | (simp; try omega)) _ | refine Below.drew ?_ | refine bDN ?_ | refine bthen ?_ (by assumption))) hb1
  have sw1 : w.heap.size + 1 ≤ w1.heap.size := by have := hb1.size; (try simp at this); omega
  have H_w1 : Below w.heap.size w w1 := bthen H_w gw1
  have f1 : w1.cell? ⟨w.heap.size, 0, none⟩ = some (.int .i64 x0.1) := by rw [(bcell hb1).1 _ _ (by first | omega | (simp; try omega))]; first | (simp; done) | simp [go_sem]
  have f2 : w1.cell? ⟨w.heap.size, 1, none⟩ = some (u0) := by rw [(bcell hb1).1 _ _ (by first | omega | (simp; try omega))]; first | (simp; done) | simp [go_sem]
  have z3 : w.heap.size < w1.heap.size := by omega
  clear hb1 gw1
  rcases ilt 1048576 (szTpl x0) with hl2 | hl2
  · rw [szR_lt hl2]
    go_wp2_with fail
    go_ret
    exact ⟨rfl, (by repeat (first | exact Below.refl _ _ | exact bA | assumption | refine Below.setCell ?_ (by first | omega | (simp; try omega)) _ | refine Below.alloc ?_ (by first | omega | (simp; try omega)) _ | refine Below.drew ?_ | refine bDN ?_ | refine bthen ?_ (by assumption)))⟩
  rw [szR_ge hl2]
  go_wp2_with fail
  refine (toTemplate_any _ (hx0.below (by repeat (first | exact Below.refl _ _ | exact bA | assumption | refine Below.setCell ?_ (by first | omega | (simp; try omega)) _ | refine Below.alloc ?_ (by first | omega | (simp; try omega)) _ | refine Below.drew ?_ | refine bDN ?_ | refine bthen ?_ (by assumption)))) (by first | omega | (unfold szInts; omega))).mono ?_
  rintro e w2 ⟨cs, rfl, hc4, hb2⟩
  have gw2 : Below w1.heap.size w1 w2 := bthen (by repeat (first | exact Below.refl _ _ | exact bA | assumption | refine Below.setCell ?_ (by first | omega | (simp; try omega)) _ | refine Below.alloc ?_ (by first | omega | (simp; try omega)) _ | refine Below.drew ?_ | refine bDN ?_ | refine bthen ?_ (by assumption))) hb2
  have sw2 : w1.heap.size + 0 ≤ w2.heap.size := by have := hb2.size; (try simp at this); omega
  have H_w2 : Below w.heap.size w w2 := bthen H_w1 gw2
  have f5 : w2.cell? ⟨w.heap.size, 0, none⟩ = some (.int .i64 x0.1) := (gw2.cell (by first | omega | (simp; try omega))).trans f1
  have f6 : w2.cell? ⟨w.heap.size, 1, none⟩ = some (u0) := (gw2.cell (by first | omega | (simp; try omega))).trans f2
  have z7 : w.heap.size < w2.heap.size := by omega
  clear hb2 H_w1 f1 f2 z3 gw2
  obtain ⟨ad8, ad8', rfl⟩ := fr_pair hc4
  have d9 : tplT.Fx w1.heap.size w2.heap.size w2 [.int .i64 x0.1, .slice ad8 x0.2.length ad8'] x0 := (Ty.Fr.mono hc4 (by first | exact Nat.le_refl _ | (simp; try omega))).fx
  clear hc4
  go_wp2_with fail
  have hcr1 : cntOps (poV x0 n1) ≤ 1000000000 := (Int.le_trans po_cnt (by omega))
  have hcrz1 : 0 ≤ cntOps (poV x0 n1) := cntOps_nn _
  refine (specPolymorphismsOf_any _ (d9.rd.below (by repeat (first | exact Below.refl _ _ | exact bA | assumption | refine Below.setCell ?_ (by first | omega | (simp; try omega)) _ | refine Below.alloc ?_ (by first | omega | (simp; try omega)) _ | refine Below.drew ?_ | refine bDN ?_ | refine bthen ?_ (by assumption))))).mono ?_
  rintro e w3 ⟨cs, rfl, hc11, hb3⟩
  have gw3 : Below w2.heap.size w2 w3 := bthen (by repeat (first | exact Below.refl _ _ | exact bA | assumption | refine Below.setCell ?_ (by first | omega | (simp; try omega)) _ | refine Below.alloc ?_ (by first | omega | (simp; try omega)) _ | refine Below.drew ?_ | refine bDN ?_ | refine bthen ?_ (by assumption))) hb3
  have sw3 : w2.heap.size + 0 ≤ w3.heap.size := by have := hb3.size; (try simp at this); omega
  have H_w3 : Below w.heap.size w w3 := bthen H_w2 gw3
  have f12 : w3.cell? ⟨w.heap.size, 0, none⟩ = some (.int .i64 x0.1) := (gw3.cell (by first | omega | (simp; try omega))).trans f5
  have f13 : w3.cell? ⟨w.heap.size, 1, none⟩ = some (u0) := (gw3.cell (by first | omega | (simp; try omega))).trans f6
  have z14 : w.heap.size < w3.heap.size := by omega
  have d15 : tplT.Fx w1.heap.size w2.heap.size w3 [.int .i64 x0.1, .slice ad8 x0.2.length ad8'] x0 := d9.below gw3
  clear hb3 H_w2 f5 f6 d9 z7 gw3
  obtain ⟨ad16, ad16', rfl⟩ := fr_slice hc11
  have d17 : opsT.Fx w2.heap.size w3.heap.size w3 [.slice ad16 (poV x0 n1).length ad16'] (poV x0 n1) := (Ty.Fr.mono hc11 (by first | exact Nat.le_refl _ | (simp; try omega))).fx
  clear hc11
  go_wp2_with fail
  refine (toTemplate_any _ (hx0.below (by repeat (first | exact Below.refl _ _ | exact bA | assumption | refine Below.setCell ?_ (by first | omega | (simp; try omega)) _ | refine Below.alloc ?_ (by first | omega | (simp; try omega)) _ | refine Below.drew ?_ | refine bDN ?_ | refine bthen ?_ (by assumption)))) (by first | omega | (unfold szInts; omega))).mono ?_
  rintro e w4 ⟨cs, rfl, hc19, hb4⟩
  have gw4 : Below w3.heap.size w3 w4 := bthen (by repeat (first | exact Below.refl _ _ | exact bA | assumption | refine Below.setCell ?_ (by first | omega | (simp; try omega)) _ | refine Below.alloc ?_ (by first | omega | (simp; try omega)) _ | refine Below.drew ?_ | refine bDN ?_ | refine bthen ?_ (by assumption))) hb4
  have sw4 : w3.heap.size + 0 ≤ w4.heap.size := by have := hb4.size; (try simp at this); omega
  have H_w4 : Below w.heap.size w w4 := bthen H_w3 gw4
  have f20 : w4.cell? ⟨w.heap.size, 0, none⟩ = some (.int .i64 x0.1) := (gw4.cell (by first | omega | (simp; try omega))).trans f12
  have f21 : w4.cell? ⟨w.heap.size, 1, none⟩ = some (u0) := (gw4.cell (by first | omega | (simp; try omega))).trans f13
  have z22 : w.heap.size < w4.heap.size := by omega
  have d23 : tplT.Fx w1.heap.size w2.heap.size w4 [.int .i64 x0.1, .slice ad8 x0.2.length ad8'] x0 := d15.below gw4
  have d24 : opsT.Fx w2.heap.size w3.heap.size w4 [.slice ad16 (poV x0 n1).length ad16'] (poV x0 n1) := d17.below gw4
  clear hb4 H_w3 f12 f13 d15 d17 z14 gw4
  obtain ⟨ad25, ad25', rfl⟩ := fr_pair hc19
  have d26 : tplT.Fx w3.heap.size w4.heap.size w4 [.int .i64 x0.1, .slice ad25 x0.2.length ad25'] x0 := (Ty.Fr.mono hc19 (by first | exact Nat.le_refl _ | (simp; try omega))).fx
  clear hc19
  go_wp2_with fail
  refine (PolymorphismsOf_any _ (d26.rd.below (by repeat (first | exact Below.refl _ _ | exact bA | assumption | refine Below.setCell ?_ (by first | omega | (simp; try omega)) _ | refine Below.alloc ?_ (by first | omega | (simp; try omega)) _ | refine Below.drew ?_ | refine bDN ?_ | refine bthen ?_ (by assumption))))).mono ?_
  rintro e w5 ⟨cs, rfl, hc28, hb5⟩
  have gw5 : Below w4.heap.size w4 w5 := bthen (by repeat (first | exact Below.refl _ _ | exact bA | assumption | refine Below.setCell ?_ (by first | omega | (simp; try omega)) _ | refine Below.alloc ?_ (by first | omega | (simp; try omega)) _ | refine Below.drew ?_ | refine bDN ?_ | refine bthen ?_ (by assumption))) hb5
  have sw5 : w4.heap.size + 1 ≤ w5.heap.size := by have := hb5.size; (try simp at this); omega
  have H_w5 : Below w.heap.size w w5 := bthen H_w4 gw5
  have f29 : w5.cell? ⟨w.heap.size, 0, none⟩ = some (.int .i64 x0.1) := (gw5.cell (by first | omega | (simp; try omega))).trans f20
  have f30 : w5.cell? ⟨w.heap.size, 1, none⟩ = some (u0) := (gw5.cell (by first | omega | (simp; try omega))).trans f21
  have f31 : w5.cell? ⟨w4.heap.size, 0, none⟩ = some (.int .i64 x0.1) := by rw [(bcell hb5).1 _ _ (by first | omega | (simp; try omega))]; first | (simp; done) | simp [go_sem]
  have f32 : w5.cell? ⟨w4.heap.size, 1, none⟩ = some (.slice ad25 x0.2.length ad25') := by rw [(bcell hb5).1 _ _ (by first | omega | (simp; try omega))]; first | (simp; done) | simp [go_sem]
  have z33 : w.heap.size < w5.heap.size := by omega
  have z34 : w4.heap.size < w5.heap.size := by omega
  have d35 : tplT.Fx w1.heap.size w2.heap.size w5 [.int .i64 x0.1, .slice ad8 x0.2.length ad8'] x0 := d23.below gw5
  have d36 : opsT.Fx w2.heap.size w3.heap.size w5 [.slice ad16 (poV x0 n1).length ad16'] (poV x0 n1) := d24.below gw5
  have d37 : tplT.Fx w3.heap.size w4.heap.size w5 [.int .i64 x0.1, .slice ad25 x0.2.length ad25'] x0 := d26.below gw5
  clear hb5 H_w4 f20 f21 d23 d24 d26 z22 gw5
  obtain ⟨ad38, ad38', rfl⟩ := fr_slice hc28
  have d39 : opsT.Fx (w4.heap.size + 1) w5.heap.size w5 [.slice ad38 (poV x0 n1).length ad38'] (poV x0 n1) := (Ty.Fr.mono hc28 (by first | exact Nat.le_refl _ | (simp; try omega))).fx
  clear hc28
  go_wp2_with fail
  refine (eqOpS_any _ (d39.rd.below (by repeat (first | exact Below.refl _ _ | exact bA | assumption | refine Below.setCell ?_ (by first | omega | (simp; try omega)) _ | refine Below.alloc ?_ (by first | omega | (simp; try omega)) _ | refine Below.drew ?_ | refine bDN ?_ | refine bthen ?_ (by assumption)))) (d36.rd.below (by repeat (first | exact Below.refl _ _ | exact bA | assumption | refine Below.setCell ?_ (by first | omega | (simp; try omega)) _ | refine Below.alloc ?_ (by first | omega | (simp; try omega)) _ | refine Below.drew ?_ | refine bDN ?_ | refine bthen ?_ (by assumption))))).mono ?_
  rintro e w6 ⟨rfl, hb6⟩
  have gw6 : Below w5.heap.size w5 w6 := bthen (by repeat (first | exact Below.refl _ _ | exact bA | assumption | refine Below.setCell ?_ (by first | omega | (simp; try omega)) _ | refine Below.alloc ?_ (by first | omega | (simp; try omega)) _ | refine Below.drew ?_ | refine bDN ?_ | refine bthen ?_ (by assumption))) hb6
  have sw6 : w5.heap.size + 0 ≤ w6.heap.size := by have := hb6.size; (try simp at this); omega
  have H_w6 : Below w.heap.size w w6 := bthen H_w5 gw6
  have f41 : w6.cell? ⟨w.heap.size, 0, none⟩ = some (.int .i64 x0.1) := (gw6.cell (by first | omega | (simp; try omega))).trans f29
  have f42 : w6.cell? ⟨w.heap.size, 1, none⟩ = some (u0) := (gw6.cell (by first | omega | (simp; try omega))).trans f30
  have f43 : w6.cell? ⟨w4.heap.size, 0, none⟩ = some (.int .i64 x0.1) := (gw6.cell (by first | omega | (simp; try omega))).trans f31
  have f44 : w6.cell? ⟨w4.heap.size, 1, none⟩ = some (.slice ad25 x0.2.length ad25') := (gw6.cell (by first | omega | (simp; try omega))).trans f32
  have z45 : w.heap.size < w6.heap.size := by omega
  have z46 : w4.heap.size < w6.heap.size := by omega
  have d47 : tplT.Fx w1.heap.size w2.heap.size w6 [.int .i64 x0.1, .slice ad8 x0.2.length ad8'] x0 := d35.below gw6
  have d48 : opsT.Fx w2.heap.size w3.heap.size w6 [.slice ad16 (poV x0 n1).length ad16'] (poV x0 n1) := d36.below gw6
  have d49 : tplT.Fx w3.heap.size w4.heap.size w6 [.int .i64 x0.1, .slice ad25 x0.2.length ad25'] x0 := d37.below gw6
  have d50 : opsT.Fx (w4.heap.size + 1) w5.heap.size w6 [.slice ad38 (poV x0 n1).length ad38'] (poV x0 n1) := d39.below gw6
  clear hb6 H_w5 f29 f30 f31 f32 d35 d36 d37 d39 z33 z34 gw6
  rw [eqB_true rfl]
  go_wp2_with fail
  refine wp_region_loose [exV (.agg #[.int .i64 x0.1, .slice ad25 x0.2.length ad25']), exV (.agg #[.int .i64 x0.1, u0]), rdA tplT x0, exV (.bool true), exV (.bool false)] (by kernel_rfl) (by kernel_rfl) ⟨st_exV, st_exV, st_rdA, st_exV, st_exV, trivial⟩ ⟨?j10_0, ?j10_1, ?j10_2, ?j10_3, ?j10_4, trivial⟩ ?hQ10
  case j10_0 =>
    intro a' w' hb hd
    have e0 : a'.tmps[8]?.getD undef = .pointer (some ⟨w4.heap.size, 0, none⟩) := ev (slot_o hd 8 rfl rfl)
    have q : ∀ b o, b < w6.heap.size → w'.cell? ⟨b, o, none⟩ = w6.cell? ⟨b, o, none⟩ := (bcell hb).1
    go_simp
    exact ⟨Below.refl _ _, rfl⟩
  case j10_1 =>
    intro a' w' hb hd
    have e0 : a'.tmps[2]?.getD undef = .pointer (some ⟨w.heap.size, 0, none⟩) := ev (slot_o hd 2 rfl rfl)
    have q : ∀ b o, b < w6.heap.size → w'.cell? ⟨b, o, none⟩ = w6.cell? ⟨b, o, none⟩ := (bcell hb).1
    go_simp
    exact ⟨Below.refl _ _, rfl⟩
  case j10_2 =>
    intro a' w' hb hd
    have e46 : a'.tmps[46]?.getD undef = .agg #[.int .i64 x0.1, u0] := ev (slot_w hd 46 (exV (.agg #[.int .i64 x0.1, u0])) rfl rfl)
    have r46 : tplT.Rd w6 (#[.int .i64 x0.1, u0] : Array Value).toList x0 := hx0.below H_w6
    have r46' := r46.below hb
    go_simp
    exact ⟨Below.refl _ _, (toTemplate_any w' r46' (by first | omega | (unfold szInts; omega))).mono fun e w'' ⟨cs, he, hf, hb⟩ => ⟨_, he, hb, cs, rfl, hf.rd⟩⟩
  case j10_3 =>
    intro a' w' hb hd
    have e45 : a'.tmps[45]?.getD undef = .agg #[.int .i64 x0.1, .slice ad25 x0.2.length ad25'] := ev (slot_w hd 45 (exV (.agg #[.int .i64 x0.1, .slice ad25 x0.2.length ad25'])) rfl rfl)
    have r45 : tplT.Rd w6 (#[.int .i64 x0.1, .slice ad25 x0.2.length ad25'] : Array Value).toList x0 := d49.rd
    have r45' := r45.below hb
    have d47 := slot_w hd 47 (rdA tplT x0) rfl rfl
    obtain ⟨cs47, e47, hf47⟩ := d47
    have e47' := ev e47
    go_simp
    exact ⟨Below.refl _ _, (eqTemplate_any w' r45' hf47).mono fun e w'' ⟨he, hb⟩ => ⟨_, he, hb, exV_eqB⟩⟩
  case j10_4 =>
    intro a' w' hb hd
    have e0 : a'.tmps[48]?.getD undef = .bool true := ev (slot_w hd 48 (exV (.bool true)) rfl rfl)
    go_simp
    exact ⟨Below.refl _ _, rfl⟩
  intro vs10 w7 hb7 H0
  obtain ⟨v10_0, _, rfl, p0, H1⟩ := HAll_cons H0
  obtain ⟨v10_1, _, rfl, p1, H2⟩ := HAll_cons H1
  obtain ⟨v10_2, _, rfl, p2, H3⟩ := HAll_cons H2
  obtain ⟨v10_3, _, rfl, p3, H4⟩ := HAll_cons H3
  obtain ⟨v10_4, _, rfl, p4, H5⟩ := HAll_cons H4
  obtain rfl := HAll_nil H5
  obtain rfl := p0 rfl
  obtain rfl := p1 rfl
  obtain rfl := p3 rfl
  obtain rfl := p4 rfl
  clear p0 p1 p2 p3 p4 H0 H1 H2 H3 H4 H5
  have gw7 : Below w6.heap.size w6 w7 := bthen (by repeat (first | exact Below.refl _ _ | exact bA | assumption | refine Below.setCell ?_ (by first | omega | (simp; try omega)) _ | refine Below.alloc ?_ (by first | omega | (simp; try omega)) _ | refine Below.drew ?_ | refine bDN ?_ | refine bthen ?_ (by assumption))) hb7
  have sw7 : w6.heap.size + 0 ≤ w7.heap.size := by have := hb7.size; (try simp at this); omega
  have H_w7 : Below w.heap.size w w7 := bthen H_w6 gw7
  have f51 : w7.cell? ⟨w.heap.size, 0, none⟩ = some (.int .i64 x0.1) := (gw7.cell (by first | omega | (simp; try omega))).trans f41
  have f52 : w7.cell? ⟨w.heap.size, 1, none⟩ = some (u0) := (gw7.cell (by first | omega | (simp; try omega))).trans f42
  have f53 : w7.cell? ⟨w4.heap.size, 0, none⟩ = some (.int .i64 x0.1) := (gw7.cell (by first | omega | (simp; try omega))).trans f43
  have f54 : w7.cell? ⟨w4.heap.size, 1, none⟩ = some (.slice ad25 x0.2.length ad25') := (gw7.cell (by first | omega | (simp; try omega))).trans f44
  have z55 : w.heap.size < w7.heap.size := by omega
  have z56 : w4.heap.size < w7.heap.size := by omega
  have d57 : tplT.Fx w1.heap.size w2.heap.size w7 [.int .i64 x0.1, .slice ad8 x0.2.length ad8'] x0 := d47.below gw7
  have d58 : opsT.Fx w2.heap.size w3.heap.size w7 [.slice ad16 (poV x0 n1).length ad16'] (poV x0 n1) := d48.below gw7
  have d59 : tplT.Fx w3.heap.size w4.heap.size w7 [.int .i64 x0.1, .slice ad25 x0.2.length ad25'] x0 := d49.below gw7
  have d60 : opsT.Fx (w4.heap.size + 1) w5.heap.size w7 [.slice ad38 (poV x0 n1).length ad38'] (poV x0 n1) := d50.below gw7
  clear hb7 H_w6 f41 f42 f43 f44 d47 d48 d49 d50 z45 z46 gw7
  simp only [putAll, Act.put]
  go_simp
  go_wp2_with fail
  refine (markTemplate_fx _ d59 _ (by omega) (by omega)).mono ?_
  rintro e w8 ⟨rfl, hb8, d61⟩
  clear d59
  have sw8 : w7.heap.size ≤ w8.heap.size := hb8.size
  have H_w8 : Below w.heap.size w w8 := below_tch H_w7 hb8 (by omega) (by omega)
  have f62 : w8.cell? ⟨w.heap.size, 0, none⟩ = some (.int .i64 x0.1) := (hb8.cell (by omega) (by omega)).trans f51
  have f63 : w8.cell? ⟨w.heap.size, 1, none⟩ = some (u0) := (hb8.cell (by omega) (by omega)).trans f52
  have f64 : w8.cell? ⟨w4.heap.size, 0, none⟩ = some (.int .i64 x0.1) := (hb8.cell (by omega) (by omega)).trans f53
  have f65 : w8.cell? ⟨w4.heap.size, 1, none⟩ = some (.slice ad25 x0.2.length ad25') := (hb8.cell (by omega) (by omega)).trans f54
  have z66 : w.heap.size < w8.heap.size := by omega
  have z67 : w4.heap.size < w8.heap.size := by omega
  have d68 : tplT.Fx w1.heap.size w2.heap.size w8 [.int .i64 x0.1, .slice ad8 x0.2.length ad8'] x0 := d57.tch hb8 (by omega)
  have d69 : opsT.Fx w2.heap.size w3.heap.size w8 [.slice ad16 (poV x0 n1).length ad16'] (poV x0 n1) := d58.tch hb8 (by omega)
  have d70 : opsT.Fx (w4.heap.size + 1) w5.heap.size w8 [.slice ad38 (poV x0 n1).length ad38'] (poV x0 n1) := d60.tch hb8 (by omega)
  clear hb8 H_w7 f51 f52 f53 f54 d57 d58 d60 z55 z56
  have hk71 : 0 ≤ (1 + cntTpl x0) := by omega
  go_wp2_with fail
  refine (eqOpS_any _ (d70.rd.below (by repeat (first | exact Below.refl _ _ | exact bA | assumption | refine Below.setCell ?_ (by first | omega | (simp; try omega)) _ | refine Below.alloc ?_ (by first | omega | (simp; try omega)) _ | refine Below.drew ?_ | refine bDN ?_ | refine bthen ?_ (by assumption)))) (d69.rd.below (by repeat (first | exact Below.refl _ _ | exact bA | assumption | refine Below.setCell ?_ (by first | omega | (simp; try omega)) _ | refine Below.alloc ?_ (by first | omega | (simp; try omega)) _ | refine Below.drew ?_ | refine bDN ?_ | refine bthen ?_ (by assumption))))).mono ?_
  rintro e w9 ⟨rfl, hb9⟩
  have gw9 : Below w8.heap.size w8 w9 := bthen (by repeat (first | exact Below.refl _ _ | exact bA | assumption | refine Below.setCell ?_ (by first | omega | (simp; try omega)) _ | refine Below.alloc ?_ (by first | omega | (simp; try omega)) _ | refine Below.drew ?_ | refine bDN ?_ | refine bthen ?_ (by assumption))) hb9
  have sw9 : w8.heap.size + 0 ≤ w9.heap.size := by have := hb9.size; (try simp at this); omega
  have H_w9 : Below w.heap.size w w9 := bthen H_w8 gw9
  have f72 : w9.cell? ⟨w.heap.size, 0, none⟩ = some (.int .i64 x0.1) := (gw9.cell (by first | omega | (simp; try omega))).trans f62
  have f73 : w9.cell? ⟨w.heap.size, 1, none⟩ = some (u0) := (gw9.cell (by first | omega | (simp; try omega))).trans f63
  have f74 : w9.cell? ⟨w4.heap.size, 0, none⟩ = some (.int .i64 x0.1) := (gw9.cell (by first | omega | (simp; try omega))).trans f64
  have f75 : w9.cell? ⟨w4.heap.size, 1, none⟩ = some (.slice ad25 x0.2.length ad25') := (gw9.cell (by first | omega | (simp; try omega))).trans f65
  have z76 : w.heap.size < w9.heap.size := by omega
  have z77 : w4.heap.size < w9.heap.size := by omega
  have d78 : tplT.Fx w1.heap.size w2.heap.size w9 [.int .i64 x0.1, .slice ad8 x0.2.length ad8'] x0 := d68.below gw9
  have d79 : opsT.Fx w2.heap.size w3.heap.size w9 [.slice ad16 (poV x0 n1).length ad16'] (poV x0 n1) := d69.below gw9
  have d80 : tplT.Fx w3.heap.size w4.heap.size w9 [.int .i64 x0.1, .slice ad25 x0.2.length ad25'] (mkTpl 1 x0) := d61.below gw9
  have d81 : opsT.Fx (w4.heap.size + 1) w5.heap.size w9 [.slice ad38 (poV x0 n1).length ad38'] (poV x0 n1) := d70.below gw9
  clear hb9 H_w8 f62 f63 f64 f65 d68 d69 d61 d70 z66 z67 gw9
  rw [eqB_true rfl]
  go_wp2_with fail
  refine (markOpS_fx _ d81 _ (by omega) (by omega)).mono ?_
  rintro e w10 ⟨rfl, hb10, d82⟩
  clear d81
  have sw10 : w9.heap.size ≤ w10.heap.size := hb10.size
  have H_w10 : Below w.heap.size w w10 := below_tch H_w9 hb10 (by omega) (by omega)
  have f83 : w10.cell? ⟨w.heap.size, 0, none⟩ = some (.int .i64 x0.1) := (hb10.cell (by omega) (by omega)).trans f72
  have f84 : w10.cell? ⟨w.heap.size, 1, none⟩ = some (u0) := (hb10.cell (by omega) (by omega)).trans f73
  have f85 : w10.cell? ⟨w4.heap.size, 0, none⟩ = some (.int .i64 x0.1) := (hb10.cell (by omega) (by omega)).trans f74
  have f86 : w10.cell? ⟨w4.heap.size, 1, none⟩ = some (.slice ad25 x0.2.length ad25') := (hb10.cell (by omega) (by omega)).trans f75
  have z87 : w.heap.size < w10.heap.size := by omega
  have z88 : w4.heap.size < w10.heap.size := by omega
  have d89 : tplT.Fx w1.heap.size w2.heap.size w10 [.int .i64 x0.1, .slice ad8 x0.2.length ad8'] x0 := d78.tch hb10 (by omega)
  have d90 : opsT.Fx w2.heap.size w3.heap.size w10 [.slice ad16 (poV x0 n1).length ad16'] (poV x0 n1) := d79.tch hb10 (by omega)
  have d91 : tplT.Fx w3.heap.size w4.heap.size w10 [.int .i64 x0.1, .slice ad25 x0.2.length ad25'] (mkTpl 1 x0) := d80.tch hb10 (by omega)
  clear hb10 H_w9 f72 f73 f74 f75 d78 d79 d80 z76 z77
  have hk92 : 0 ≤ (1 + cntOps (poV x0 n1)) := by omega
  go_wp2_with fail
  refine (heldOpS_any _ _ d82.rd (by omega) (by omega)).mono ?_
  rintro e w11 ⟨rfl, hb11⟩
  have gw11 : Below w10.heap.size w10 w11 := bthen (by repeat (first | exact Below.refl _ _ | exact bA | assumption | refine Below.setCell ?_ (by first | omega | (simp; try omega)) _ | refine Below.alloc ?_ (by first | omega | (simp; try omega)) _ | refine Below.drew ?_ | refine bDN ?_ | refine bthen ?_ (by assumption))) hb11
  have sw11 : w10.heap.size + 0 ≤ w11.heap.size := by have := hb11.size; (try simp at this); omega
  have H_w11 : Below w.heap.size w w11 := bthen H_w10 gw11
  have f93 : w11.cell? ⟨w.heap.size, 0, none⟩ = some (.int .i64 x0.1) := (gw11.cell (by first | omega | (simp; try omega))).trans f83
  have f94 : w11.cell? ⟨w.heap.size, 1, none⟩ = some (u0) := (gw11.cell (by first | omega | (simp; try omega))).trans f84
  have f95 : w11.cell? ⟨w4.heap.size, 0, none⟩ = some (.int .i64 x0.1) := (gw11.cell (by first | omega | (simp; try omega))).trans f85
  have f96 : w11.cell? ⟨w4.heap.size, 1, none⟩ = some (.slice ad25 x0.2.length ad25') := (gw11.cell (by first | omega | (simp; try omega))).trans f86
  have z97 : w.heap.size < w11.heap.size := by omega
  have z98 : w4.heap.size < w11.heap.size := by omega
  have d99 : tplT.Fx w1.heap.size w2.heap.size w11 [.int .i64 x0.1, .slice ad8 x0.2.length ad8'] x0 := d89.below gw11
  have d100 : opsT.Fx w2.heap.size w3.heap.size w11 [.slice ad16 (poV x0 n1).length ad16'] (poV x0 n1) := d90.below gw11
  have d101 : tplT.Fx w3.heap.size w4.heap.size w11 [.int .i64 x0.1, .slice ad25 x0.2.length ad25'] (mkTpl 1 x0) := d91.below gw11
  have d102 : opsT.Fx (w4.heap.size + 1) w5.heap.size w11 [.slice ad38 (poV x0 n1).length ad38'] (mkOps 1 (poV x0 n1)) := d82.below gw11
  clear hb11 H_w10 f83 f84 f85 f86 d89 d90 d91 d82 z87 z88 gw11
  go_wp2_with fail
  refine (toTemplate_any _ (hx0.below (by repeat (first | exact Below.refl _ _ | exact bA | assumption | refine Below.setCell ?_ (by first | omega | (simp; try omega)) _ | refine Below.alloc ?_ (by first | omega | (simp; try omega)) _ | refine Below.drew ?_ | refine bDN ?_ | refine bthen ?_ (by assumption)))) (by first | omega | (unfold szInts; omega))).mono ?_
  rintro e w12 ⟨cs, rfl, hc103, hb12⟩
  have gw12 : Below w11.heap.size w11 w12 := bthen (by repeat (first | exact Below.refl _ _ | exact bA | assumption | refine Below.setCell ?_ (by first | omega | (simp; try omega)) _ | refine Below.alloc ?_ (by first | omega | (simp; try omega)) _ | refine Below.drew ?_ | refine bDN ?_ | refine bthen ?_ (by assumption))) hb12
  have sw12 : w11.heap.size + 0 ≤ w12.heap.size := by have := hb12.size; (try simp at this); omega
  have H_w12 : Below w.heap.size w w12 := bthen H_w11 gw12
  have f104 : w12.cell? ⟨w.heap.size, 0, none⟩ = some (.int .i64 x0.1) := (gw12.cell (by first | omega | (simp; try omega))).trans f93
  have f105 : w12.cell? ⟨w.heap.size, 1, none⟩ = some (u0) := (gw12.cell (by first | omega | (simp; try omega))).trans f94
  have f106 : w12.cell? ⟨w4.heap.size, 0, none⟩ = some (.int .i64 x0.1) := (gw12.cell (by first | omega | (simp; try omega))).trans f95
  have f107 : w12.cell? ⟨w4.heap.size, 1, none⟩ = some (.slice ad25 x0.2.length ad25') := (gw12.cell (by first | omega | (simp; try omega))).trans f96
  have z108 : w.heap.size < w12.heap.size := by omega
  have z109 : w4.heap.size < w12.heap.size := by omega
  have d110 : tplT.Fx w1.heap.size w2.heap.size w12 [.int .i64 x0.1, .slice ad8 x0.2.length ad8'] x0 := d99.below gw12
  have d111 : opsT.Fx w2.heap.size w3.heap.size w12 [.slice ad16 (poV x0 n1).length ad16'] (poV x0 n1) := d100.below gw12
  have d112 : tplT.Fx w3.heap.size w4.heap.size w12 [.int .i64 x0.1, .slice ad25 x0.2.length ad25'] (mkTpl 1 x0) := d101.below gw12
  have d113 : opsT.Fx (w4.heap.size + 1) w5.heap.size w12 [.slice ad38 (poV x0 n1).length ad38'] (mkOps 1 (poV x0 n1)) := d102.below gw12
  clear hb12 H_w11 f93 f94 f95 f96 d99 d100 d101 d102 z97 z98 gw12
  obtain ⟨ad114, ad114', rfl⟩ := fr_pair hc103
  have d115 : tplT.Fx w11.heap.size w12.heap.size w12 [.int .i64 x0.1, .slice ad114 x0.2.length ad114'] x0 := (Ty.Fr.mono hc103 (by first | exact Nat.le_refl _ | (simp; try omega))).fx
  clear hc103
  go_wp2_with fail
  refine (PolymorphismsOf_any _ (d115.rd.below (by repeat (first | exact Below.refl _ _ | exact bA | assumption | refine Below.setCell ?_ (by first | omega | (simp; try omega)) _ | refine Below.alloc ?_ (by first | omega | (simp; try omega)) _ | refine Below.drew ?_ | refine bDN ?_ | refine bthen ?_ (by assumption))))).mono ?_
  rintro e w13 ⟨cs, rfl, hc117, hb13⟩
  have gw13 : Below w12.heap.size w12 w13 := bthen (by repeat (first | exact Below.refl _ _ | exact bA | assumption | refine Below.setCell ?_ (by first | omega | (simp; try omega)) _ | refine Below.alloc ?_ (by first | omega | (simp; try omega)) _ | refine Below.drew ?_ | refine bDN ?_ | refine bthen ?_ (by assumption))) hb13
  have sw13 : w12.heap.size + 0 ≤ w13.heap.size := by have := hb13.size; (try simp at this); omega
  have H_w13 : Below w.heap.size w w13 := bthen H_w12 gw13
  have f118 : w13.cell? ⟨w.heap.size, 0, none⟩ = some (.int .i64 x0.1) := (gw13.cell (by first | omega | (simp; try omega))).trans f104
  have f119 : w13.cell? ⟨w.heap.size, 1, none⟩ = some (u0) := (gw13.cell (by first | omega | (simp; try omega))).trans f105
  have f120 : w13.cell? ⟨w4.heap.size, 0, none⟩ = some (.int .i64 x0.1) := (gw13.cell (by first | omega | (simp; try omega))).trans f106
  have f121 : w13.cell? ⟨w4.heap.size, 1, none⟩ = some (.slice ad25 x0.2.length ad25') := (gw13.cell (by first | omega | (simp; try omega))).trans f107
  have z122 : w.heap.size < w13.heap.size := by omega
  have z123 : w4.heap.size < w13.heap.size := by omega
  have d124 : tplT.Fx w1.heap.size w2.heap.size w13 [.int .i64 x0.1, .slice ad8 x0.2.length ad8'] x0 := d110.below gw13
  have d125 : opsT.Fx w2.heap.size w3.heap.size w13 [.slice ad16 (poV x0 n1).length ad16'] (poV x0 n1) := d111.below gw13
  have d126 : tplT.Fx w3.heap.size w4.heap.size w13 [.int .i64 x0.1, .slice ad25 x0.2.length ad25'] (mkTpl 1 x0) := d112.below gw13
  have d127 : opsT.Fx (w4.heap.size + 1) w5.heap.size w13 [.slice ad38 (poV x0 n1).length ad38'] (mkOps 1 (poV x0 n1)) := d113.below gw13
  have d128 : tplT.Fx w11.heap.size w12.heap.size w13 [.int .i64 x0.1, .slice ad114 x0.2.length ad114'] x0 := d115.below gw13
  clear hb13 H_w12 f104 f105 f106 f107 d110 d111 d112 d113 d115 z108 z109 gw13
  obtain ⟨ad129, ad129', rfl⟩ := fr_slice hc117
  have d130 : opsT.Fx w12.heap.size w13.heap.size w13 [.slice ad129 (poV x0 n1).length ad129'] (poV x0 n1) := (Ty.Fr.mono hc117 (by first | exact Nat.le_refl _ | (simp; try omega))).fx
  clear hc117
  go_wp2_with fail
  refine (eqOpS_any _ (d130.rd.below (by repeat (first | exact Below.refl _ _ | exact bA | assumption | refine Below.setCell ?_ (by first | omega | (simp; try omega)) _ | refine Below.alloc ?_ (by first | omega | (simp; try omega)) _ | refine Below.drew ?_ | refine bDN ?_ | refine bthen ?_ (by assumption)))) (d125.rd.below (by repeat (first | exact Below.refl _ _ | exact bA | assumption | refine Below.setCell ?_ (by first | omega | (simp; try omega)) _ | refine Below.alloc ?_ (by first | omega | (simp; try omega)) _ | refine Below.drew ?_ | refine bDN ?_ | refine bthen ?_ (by assumption))))).mono ?_
  rintro e w14 ⟨rfl, hb14⟩
  have gw14 : Below w13.heap.size w13 w14 := bthen (by repeat (first | exact Below.refl _ _ | exact bA | assumption | refine Below.setCell ?_ (by first | omega | (simp; try omega)) _ | refine Below.alloc ?_ (by first | omega | (simp; try omega)) _ | refine Below.drew ?_ | refine bDN ?_ | refine bthen ?_ (by assumption))) hb14
  have sw14 : w13.heap.size + 0 ≤ w14.heap.size := by have := hb14.size; (try simp at this); omega
  have H_w14 : Below w.heap.size w w14 := bthen H_w13 gw14
  have f132 : w14.cell? ⟨w.heap.size, 0, none⟩ = some (.int .i64 x0.1) := (gw14.cell (by first | omega | (simp; try omega))).trans f118
  have f133 : w14.cell? ⟨w.heap.size, 1, none⟩ = some (u0) := (gw14.cell (by first | omega | (simp; try omega))).trans f119
  have f134 : w14.cell? ⟨w4.heap.size, 0, none⟩ = some (.int .i64 x0.1) := (gw14.cell (by first | omega | (simp; try omega))).trans f120
  have f135 : w14.cell? ⟨w4.heap.size, 1, none⟩ = some (.slice ad25 x0.2.length ad25') := (gw14.cell (by first | omega | (simp; try omega))).trans f121
  have z136 : w.heap.size < w14.heap.size := by omega
  have z137 : w4.heap.size < w14.heap.size := by omega
  have d138 : tplT.Fx w1.heap.size w2.heap.size w14 [.int .i64 x0.1, .slice ad8 x0.2.length ad8'] x0 := d124.below gw14
  have d139 : opsT.Fx w2.heap.size w3.heap.size w14 [.slice ad16 (poV x0 n1).length ad16'] (poV x0 n1) := d125.below gw14
  have d140 : tplT.Fx w3.heap.size w4.heap.size w14 [.int .i64 x0.1, .slice ad25 x0.2.length ad25'] (mkTpl 1 x0) := d126.below gw14
  have d141 : opsT.Fx (w4.heap.size + 1) w5.heap.size w14 [.slice ad38 (poV x0 n1).length ad38'] (mkOps 1 (poV x0 n1)) := d127.below gw14
  have d142 : tplT.Fx w11.heap.size w12.heap.size w14 [.int .i64 x0.1, .slice ad114 x0.2.length ad114'] x0 := d128.below gw14
  have d143 : opsT.Fx w12.heap.size w13.heap.size w14 [.slice ad129 (poV x0 n1).length ad129'] (poV x0 n1) := d130.below gw14
  clear hb14 H_w13 f118 f119 f120 f121 d124 d125 d126 d127 d128 d130 z122 z123 gw14
  rw [eqB_true rfl]
  go_wp2_with fail
  refine (heldOpS_any _ _ d141.rd (by omega) (by omega)).mono ?_
  rintro e w15 ⟨rfl, hb15⟩
  have gw15 : Below w14.heap.size w14 w15 := bthen (by repeat (first | exact Below.refl _ _ | exact bA | assumption | refine Below.setCell ?_ (by first | omega | (simp; try omega)) _ | refine Below.alloc ?_ (by first | omega | (simp; try omega)) _ | refine Below.drew ?_ | refine bDN ?_ | refine bthen ?_ (by assumption))) hb15
  have sw15 : w14.heap.size + 0 ≤ w15.heap.size := by have := hb15.size; (try simp at this); omega
  have H_w15 : Below w.heap.size w w15 := bthen H_w14 gw15
  have f144 : w15.cell? ⟨w.heap.size, 0, none⟩ = some (.int .i64 x0.1) := (gw15.cell (by first | omega | (simp; try omega))).trans f132
  have f145 : w15.cell? ⟨w.heap.size, 1, none⟩ = some (u0) := (gw15.cell (by first | omega | (simp; try omega))).trans f133
  have f146 : w15.cell? ⟨w4.heap.size, 0, none⟩ = some (.int .i64 x0.1) := (gw15.cell (by first | omega | (simp; try omega))).trans f134
  have f147 : w15.cell? ⟨w4.heap.size, 1, none⟩ = some (.slice ad25 x0.2.length ad25') := (gw15.cell (by first | omega | (simp; try omega))).trans f135
  have z148 : w.heap.size < w15.heap.size := by omega
  have z149 : w4.heap.size < w15.heap.size := by omega
  have d150 : tplT.Fx w1.heap.size w2.heap.size w15 [.int .i64 x0.1, .slice ad8 x0.2.length ad8'] x0 := d138.below gw15
  have d151 : opsT.Fx w2.heap.size w3.heap.size w15 [.slice ad16 (poV x0 n1).length ad16'] (poV x0 n1) := d139.below gw15
  have d152 : tplT.Fx w3.heap.size w4.heap.size w15 [.int .i64 x0.1, .slice ad25 x0.2.length ad25'] (mkTpl 1 x0) := d140.below gw15
  have d153 : opsT.Fx (w4.heap.size + 1) w5.heap.size w15 [.slice ad38 (poV x0 n1).length ad38'] (mkOps 1 (poV x0 n1)) := d141.below gw15
  have d154 : tplT.Fx w11.heap.size w12.heap.size w15 [.int .i64 x0.1, .slice ad114 x0.2.length ad114'] x0 := d142.below gw15
  have d155 : opsT.Fx w12.heap.size w13.heap.size w15 [.slice ad129 (poV x0 n1).length ad129'] (poV x0 n1) := d143.below gw15
  clear hb15 H_w14 f132 f133 f134 f135 d138 d139 d140 d141 d142 d143 z136 z137 gw15
  go_wp2_with fail
  go_ret
  exact ⟨rfl, (by repeat (first | exact Below.refl _ _ | exact bA | assumption | refine Below.setCell ?_ (by first | omega | (simp; try omega)) _ | refine Below.alloc ?_ (by first | omega | (simp; try omega)) _ | refine Below.drew ?_ | refine bDN ?_ | refine bthen ?_ (by assumption)))⟩
end Go.Proofs.Ytepebfpgmnidnaa
