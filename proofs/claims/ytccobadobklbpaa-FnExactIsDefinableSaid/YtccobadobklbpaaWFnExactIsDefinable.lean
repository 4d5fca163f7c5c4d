/-
  The law FnExactIsDefinable, walked: its contract.
-/
import Derived.Test.YtccobadobklbpaaQBD
import Derived.Test.YtccobadobklbpaaQAC
import Derived.Test.YtccobadobklbpaaQAB
namespace Go.Proofs.Ytccobadobklbpaa
open Go.RowKit Go.Sort
set_option maxHeartbeats 3200000 in
set_option maxRecDepth 100000 in
theorem fnExactIsDefinable_any (w : World) {c0 : Array Value} {x0 : Int × List (Int × List (List Int))} (h0 : tplT.Rd w c0.toList x0) {c1 : Array Value} {x1 : Int × List (List Int)} (h1 : relT.Rd w c1.toList x1) :
    Calls Try.prog 5 #[.agg c0, .agg c1] w fun e w' => e = .returned (.bool true) ∧ Below w.heap.size w w' := by
  have hx0 := h0
  obtain ⟨u0, hv0, -, hy0⟩ := pair_ex h0
  obtain rfl := agg_of hv0
  clear hv0 h0
  have hn0 := szTpl_nn x0
  have hx1 := h1
  obtain ⟨u1, hv1, -, hy1⟩ := pair_ex h1
  obtain rfl := agg_of hv1
  clear hv1 h1
  have hn1 := szRel_nn x1
  go_enter Try.func5, Try.ntmps5
  go_wp2_with fail
  refine (szTemplate_any _ (hx0.below (by repeat (first | exact Below.refl _ _ | exact bA | assumption | refine Below.setCell ?_ (by first | omega | (simp; try omega)) _ | refine Below.alloc ?_ (by first | omega | (simp; try omega)) _ | refine Below.drew ?_ | refine bDN ?_ | refine bthen ?_ (by assumption)))) _ (by omega) (by omega)).mono ?_
  rintro e w1 ⟨rfl, hb1⟩
  have gw1 : Below w.heap.size w w1 := bthen (by repeat (first | exact Below.refl _ _ | exact bA | assumption | refine Below.setCell ?_ (by first | omega | (simp; try omega)) _ | refine Below.alloc ?_ (by first | omega | (simp; try omega)) _ | refine Below.drew ?_ | refine bDN ?_ | refine bthen ?_ (by assumption))) hb1
  have sw1 : w.heap.size + 2 ≤ w1.heap.size := by have := hb1.size; (try simp at this); omega
  have f1 : w1.cell? ⟨w.heap.size, 0, none⟩ = some (.int .i64 x0.1) := by rw [(bcell hb1).1 _ _ (by first | omega | (simp; try omega))]; first | (simp; done) | simp [go_sem]
  have f2 : w1.cell? ⟨w.heap.size, 1, none⟩ = some (u0) := by rw [(bcell hb1).1 _ _ (by first | omega | (simp; try omega))]; first | (simp; done) | simp [go_sem]
  have f3 : w1.cell? ⟨w.heap.size + 1, 0, none⟩ = some (.int .i64 x1.1) := by rw [(bcell hb1).1 _ _ (by first | omega | (simp; try omega))]; first | (simp; done) | simp [go_sem]
  have f4 : w1.cell? ⟨w.heap.size + 1, 1, none⟩ = some (u1) := by rw [(bcell hb1).1 _ _ (by first | omega | (simp; try omega))]; first | (simp; done) | simp [go_sem]
  have z5 : w.heap.size < w1.heap.size := by omega
  have z6 : w.heap.size + 1 < w1.heap.size := by omega
  clear hb1 
  rcases ilt 1048576 (szTpl x0) with hl2 | hl2
  · rw [szR_lt hl2]
    go_wp2_with fail
    go_ret
    exact ⟨rfl, (by repeat (first | exact Below.refl _ _ | exact bA | assumption | refine Below.setCell ?_ (by first | omega | (simp; try omega)) _ | refine Below.alloc ?_ (by first | omega | (simp; try omega)) _ | refine Below.drew ?_ | refine bDN ?_ | refine bthen ?_ (by assumption)))⟩
  rw [szR_ge hl2]
  go_wp2_with fail
  refine (szRel_any _ (hx1.below (by repeat (first | exact Below.refl _ _ | exact bA | assumption | refine Below.setCell ?_ (by first | omega | (simp; try omega)) _ | refine Below.alloc ?_ (by first | omega | (simp; try omega)) _ | refine Below.drew ?_ | refine bDN ?_ | refine bthen ?_ (by assumption)))) _ (by omega) (by omega)).mono ?_
  rintro e w2 ⟨rfl, hb2⟩
  have gw2 : Below w1.heap.size w1 w2 := bthen (by repeat (first | exact Below.refl _ _ | exact bA | assumption | refine Below.setCell ?_ (by first | omega | (simp; try omega)) _ | refine Below.alloc ?_ (by first | omega | (simp; try omega)) _ | refine Below.drew ?_ | refine bDN ?_ | refine bthen ?_ (by assumption))) hb2
  have sw2 : w1.heap.size + 0 ≤ w2.heap.size := by have := hb2.size; (try simp at this); omega
  have f7 : w2.cell? ⟨w.heap.size, 0, none⟩ = some (.int .i64 x0.1) := (gw2.cell (by first | omega | (simp; try omega))).trans f1
  have f8 : w2.cell? ⟨w.heap.size, 1, none⟩ = some (u0) := (gw2.cell (by first | omega | (simp; try omega))).trans f2
  have f9 : w2.cell? ⟨w.heap.size + 1, 0, none⟩ = some (.int .i64 x1.1) := (gw2.cell (by first | omega | (simp; try omega))).trans f3
  have f10 : w2.cell? ⟨w.heap.size + 1, 1, none⟩ = some (u1) := (gw2.cell (by first | omega | (simp; try omega))).trans f4
  have z11 : w.heap.size < w2.heap.size := by omega
  have z12 : w.heap.size + 1 < w2.heap.size := by omega
  have hB13 : Below w.heap.size w w2 := bthen gw1 gw2
  clear hb2 f1 f2 f3 f4 gw1 z5 z6
  rcases ilt (1048576 - szTpl x0) (szRel x1) with hl5 | hl5
  · rw [szR_lt hl5]
    go_wp2_with fail
    go_ret
    exact ⟨rfl, (by repeat (first | exact Below.refl _ _ | exact bA | assumption | refine Below.setCell ?_ (by first | omega | (simp; try omega)) _ | refine Below.alloc ?_ (by first | omega | (simp; try omega)) _ | refine Below.drew ?_ | refine bDN ?_ | refine bthen ?_ (by assumption)))⟩
  rw [szR_ge hl5]
  go_wp2_with fail
  refine wp_region_loose [exV (.agg #[.int .i64 x0.1, u0]), rdA tplT x0, exV (.agg #[.int .i64 x1.1, u1]), rdA relT x1, exV (.tuple #[.bool (idB x0 x1), .int .i64 (roC x0 x1)]), exV (.tuple #[.bool (idB x0 x1), .int .i64 (roC x0 x1)]), exV (.bool (idB x0 x1)), exV (.int .i64 (roC x0 x1)), exV (.bool (idB x0 x1)), exV (.int .i64 (roC x0 x1))] (by kernel_rfl) (by kernel_rfl) ⟨st_exV, st_rdA, st_exV, st_rdA, st_exV, st_exV, st_exV, st_exV, st_exV, st_exV, trivial⟩ ⟨?j8_0, ?j8_1, ?j8_2, ?j8_3, ?j8_4, ?j8_5, ?j8_6, ?j8_7, ?j8_8, ?j8_9, trivial⟩ ?hQ8
  case j8_0 =>
    intro a' w' hb hd
    have e0 : a'.tmps[2]?.getD undef = .pointer (some ⟨w.heap.size, 0, none⟩) := ev (slot_o hd 2 rfl rfl)
    have q : ∀ b o, b < w2.heap.size → w'.cell? ⟨b, o, none⟩ = w2.cell? ⟨b, o, none⟩ := (bcell hb).1
    go_simp
    exact ⟨Below.refl _ _, rfl⟩
  case j8_1 =>
    intro a' w' hb hd
    have e23 : a'.tmps[23]?.getD undef = .agg #[.int .i64 x0.1, u0] := ev (slot_w hd 23 (exV (.agg #[.int .i64 x0.1, u0])) rfl rfl)
    have r23 : tplT.Rd w2 (#[.int .i64 x0.1, u0] : Array Value).toList x0 := hx0.below (by repeat (first | exact Below.refl _ _ | exact bA | assumption | refine Below.setCell ?_ (by first | omega | (simp; try omega)) _ | refine Below.alloc ?_ (by first | omega | (simp; try omega)) _ | refine Below.drew ?_ | refine bDN ?_ | refine bthen ?_ (by assumption)))
    have r23' := r23.below hb
    go_simp
    exact ⟨Below.refl _ _, (toTemplate_any w' r23' (by first | omega | (unfold szInts; omega))).mono fun e w'' ⟨cs, he, hf, hb⟩ => ⟨_, he, hb, cs, rfl, hf.rd⟩⟩
  case j8_2 =>
    intro a' w' hb hd
    have e0 : a'.tmps[3]?.getD undef = .pointer (some ⟨w.heap.size + 1, 0, none⟩) := ev (slot_o hd 3 rfl rfl)
    have q : ∀ b o, b < w2.heap.size → w'.cell? ⟨b, o, none⟩ = w2.cell? ⟨b, o, none⟩ := (bcell hb).1
    go_simp
    exact ⟨Below.refl _ _, rfl⟩
  case j8_3 =>
    intro a' w' hb hd
    have e25 : a'.tmps[25]?.getD undef = .agg #[.int .i64 x1.1, u1] := ev (slot_w hd 25 (exV (.agg #[.int .i64 x1.1, u1])) rfl rfl)
    have r25 : relT.Rd w2 (#[.int .i64 x1.1, u1] : Array Value).toList x1 := hx1.below (by repeat (first | exact Below.refl _ _ | exact bA | assumption | refine Below.setCell ?_ (by first | omega | (simp; try omega)) _ | refine Below.alloc ?_ (by first | omega | (simp; try omega)) _ | refine Below.drew ?_ | refine bDN ?_ | refine bthen ?_ (by assumption)))
    have r25' := r25.below hb
    go_simp
    exact ⟨Below.refl _ _, (toRel_any w' r25' (by first | omega | (unfold szInts; omega))).mono fun e w'' ⟨cs, he, hf, hb⟩ => ⟨_, he, hb, cs, rfl, hf.rd⟩⟩
  case j8_4 =>
    intro a' w' hb hd
    have d24 := slot_w hd 24 (rdA tplT x0) rfl rfl
    obtain ⟨cs24, e24, hf24⟩ := d24
    have e24' := ev e24
    have d26 := slot_w hd 26 (rdA relT x1) rfl rfl
    obtain ⟨cs26, e26, hf26⟩ := d26
    have e26' := ev e26
    go_simp
    exact ⟨Below.refl _ _, (specIsDefinable_any _ hf24 hf26).mono fun e w'' ⟨he, hb⟩ => ⟨_, he, hb, rfl⟩⟩
  case j8_5 =>
    intro a' w' hb hd
    have e0 : a'.tmps[27]?.getD undef = .tuple #[.bool (idB x0 x1), .int .i64 (roC x0 x1)] := ev (slot_w hd 27 (exV (.tuple #[.bool (idB x0 x1), .int .i64 (roC x0 x1)])) rfl rfl)
    go_simp
    exact ⟨Below.refl _ _, rfl⟩
  case j8_6 =>
    intro a' w' hb hd
    have e0 : a'.tmps[22]?.getD undef = .tuple #[.bool (idB x0 x1), .int .i64 (roC x0 x1)] := ev (slot_w hd 22 (exV (.tuple #[.bool (idB x0 x1), .int .i64 (roC x0 x1)])) rfl rfl)
    go_simp
    exact ⟨Below.refl _ _, rfl⟩
  case j8_7 =>
    intro a' w' hb hd
    have e0 : a'.tmps[22]?.getD undef = .tuple #[.bool (idB x0 x1), .int .i64 (roC x0 x1)] := ev (slot_w hd 22 (exV (.tuple #[.bool (idB x0 x1), .int .i64 (roC x0 x1)])) rfl rfl)
    go_simp
    exact ⟨Below.refl _ _, rfl⟩
  case j8_8 =>
    intro a' w' hb hd
    have e0 : a'.tmps[28]?.getD undef = .bool (idB x0 x1) := ev (slot_w hd 28 (exV (.bool (idB x0 x1))) rfl rfl)
    go_simp
    exact ⟨Below.refl _ _, rfl⟩
  case j8_9 =>
    intro a' w' hb hd
    have e0 : a'.tmps[29]?.getD undef = .int .i64 (roC x0 x1) := ev (slot_w hd 29 (exV (.int .i64 (roC x0 x1))) rfl rfl)
    go_simp
    exact ⟨Below.refl _ _, rfl⟩
  intro vs8 w3 hb3 H0
  obtain ⟨v8_0, _, rfl, p0, H1⟩ := HAll_cons H0
  obtain ⟨v8_1, _, rfl, p1, H2⟩ := HAll_cons H1
  obtain ⟨v8_2, _, rfl, p2, H3⟩ := HAll_cons H2
  obtain ⟨v8_3, _, rfl, p3, H4⟩ := HAll_cons H3
  obtain ⟨v8_4, _, rfl, p4, H5⟩ := HAll_cons H4
  obtain ⟨v8_5, _, rfl, p5, H6⟩ := HAll_cons H5
  obtain ⟨v8_6, _, rfl, p6, H7⟩ := HAll_cons H6
  obtain ⟨v8_7, _, rfl, p7, H8⟩ := HAll_cons H7
  obtain ⟨v8_8, _, rfl, p8, H9⟩ := HAll_cons H8
  obtain ⟨v8_9, _, rfl, p9, H10⟩ := HAll_cons H9
  obtain rfl := HAll_nil H10
  obtain rfl := p0 rfl
  obtain rfl := p2 rfl
  obtain rfl := p4 rfl
  obtain rfl := p5 rfl
  obtain rfl := p6 rfl
  obtain rfl := p7 rfl
  obtain rfl := p8 rfl
  obtain rfl := p9 rfl
  clear p0 p1 p2 p3 p4 p5 p6 p7 p8 p9 H0 H1 H2 H3 H4 H5 H6 H7 H8 H9 H10
  have gw3 : Below w2.heap.size w2 w3 := bthen (by repeat (first | exact Below.refl _ _ | exact bA | assumption | refine Below.setCell ?_ (by first | omega | (simp; try omega)) _ | refine Below.alloc ?_ (by first | omega | (simp; try omega)) _ | refine Below.drew ?_ | refine bDN ?_ | refine bthen ?_ (by assumption))) hb3
  have sw3 : w2.heap.size + 0 ≤ w3.heap.size := by have := hb3.size; (try simp at this); omega
  have f14 : w3.cell? ⟨w.heap.size, 0, none⟩ = some (.int .i64 x0.1) := (gw3.cell (by first | omega | (simp; try omega))).trans f7
  have f15 : w3.cell? ⟨w.heap.size, 1, none⟩ = some (u0) := (gw3.cell (by first | omega | (simp; try omega))).trans f8
  have f16 : w3.cell? ⟨w.heap.size + 1, 0, none⟩ = some (.int .i64 x1.1) := (gw3.cell (by first | omega | (simp; try omega))).trans f9
  have f17 : w3.cell? ⟨w.heap.size + 1, 1, none⟩ = some (u1) := (gw3.cell (by first | omega | (simp; try omega))).trans f10
  have z18 : w.heap.size < w3.heap.size := by omega
  have z19 : w.heap.size + 1 < w3.heap.size := by omega
  have hB20 : Below w.heap.size w w3 := bthen hB13 gw3
  have hB21 : Below w1.heap.size w1 w3 := bthen gw2 gw3
  clear hb3 f7 f8 f9 f10 hB13 gw2 z11 z12
  simp only [putAll, Act.put]
  go_simp
  go_wp2_with fail
  refine (toTemplate_any _ (hx0.below (by repeat (first | exact Below.refl _ _ | exact bA | assumption | refine Below.setCell ?_ (by first | omega | (simp; try omega)) _ | refine Below.alloc ?_ (by first | omega | (simp; try omega)) _ | refine Below.drew ?_ | refine bDN ?_ | refine bthen ?_ (by assumption)))) (by first | omega | (unfold szInts; omega))).mono ?_
  rintro e w4 ⟨cs, rfl, hc22, hb4⟩
  have gw4 : Below w3.heap.size w3 w4 := bthen (by repeat (first | exact Below.refl _ _ | exact bA | assumption | refine Below.setCell ?_ (by first | omega | (simp; try omega)) _ | refine Below.alloc ?_ (by first | omega | (simp; try omega)) _ | refine Below.drew ?_ | refine bDN ?_ | refine bthen ?_ (by assumption))) hb4
  have sw4 : w3.heap.size + 0 ≤ w4.heap.size := by have := hb4.size; (try simp at this); omega
  have f23 : w4.cell? ⟨w.heap.size, 0, none⟩ = some (.int .i64 x0.1) := (gw4.cell (by first | omega | (simp; try omega))).trans f14
  have f24 : w4.cell? ⟨w.heap.size, 1, none⟩ = some (u0) := (gw4.cell (by first | omega | (simp; try omega))).trans f15
  have f25 : w4.cell? ⟨w.heap.size + 1, 0, none⟩ = some (.int .i64 x1.1) := (gw4.cell (by first | omega | (simp; try omega))).trans f16
  have f26 : w4.cell? ⟨w.heap.size + 1, 1, none⟩ = some (u1) := (gw4.cell (by first | omega | (simp; try omega))).trans f17
  have z27 : w.heap.size < w4.heap.size := by omega
  have z28 : w.heap.size + 1 < w4.heap.size := by omega
  have hB29 : Below w.heap.size w w4 := bthen hB20 gw4
  have hB30 : Below w1.heap.size w1 w4 := bthen hB21 gw4
  have hB31 : Below w2.heap.size w2 w4 := bthen gw3 gw4
  clear hb4 f14 f15 f16 f17 hB20 hB21 gw3 z18 z19
  obtain ⟨ad32, ad32', rfl⟩ := fr_pair hc22
  go_wp2_with fail
  refine (toRel_any _ (hx1.below (by repeat (first | exact Below.refl _ _ | exact bA | assumption | refine Below.setCell ?_ (by first | omega | (simp; try omega)) _ | refine Below.alloc ?_ (by first | omega | (simp; try omega)) _ | refine Below.drew ?_ | refine bDN ?_ | refine bthen ?_ (by assumption)))) (by first | omega | (unfold szInts; omega))).mono ?_
  rintro e w5 ⟨cs, rfl, hc33, hb5⟩
  have gw5 : Below w4.heap.size w4 w5 := bthen (by repeat (first | exact Below.refl _ _ | exact bA | assumption | refine Below.setCell ?_ (by first | omega | (simp; try omega)) _ | refine Below.alloc ?_ (by first | omega | (simp; try omega)) _ | refine Below.drew ?_ | refine bDN ?_ | refine bthen ?_ (by assumption))) hb5
  have sw5 : w4.heap.size + 1 ≤ w5.heap.size := by have := hb5.size; (try simp at this); omega
  have f34 : w5.cell? ⟨w.heap.size, 0, none⟩ = some (.int .i64 x0.1) := (gw5.cell (by first | omega | (simp; try omega))).trans f23
  have f35 : w5.cell? ⟨w.heap.size, 1, none⟩ = some (u0) := (gw5.cell (by first | omega | (simp; try omega))).trans f24
  have f36 : w5.cell? ⟨w.heap.size + 1, 0, none⟩ = some (.int .i64 x1.1) := (gw5.cell (by first | omega | (simp; try omega))).trans f25
  have f37 : w5.cell? ⟨w.heap.size + 1, 1, none⟩ = some (u1) := (gw5.cell (by first | omega | (simp; try omega))).trans f26
  have f38 : w5.cell? ⟨w4.heap.size, 0, none⟩ = some (.int .i64 x0.1) := by rw [(bcell hb5).1 _ _ (by first | omega | (simp; try omega))]; first | (simp; done) | simp [go_sem]
  have f39 : w5.cell? ⟨w4.heap.size, 1, none⟩ = some (.slice ad32 x0.2.length ad32') := by rw [(bcell hb5).1 _ _ (by first | omega | (simp; try omega))]; first | (simp; done) | simp [go_sem]
  have z40 : w.heap.size < w5.heap.size := by omega
  have z41 : w.heap.size + 1 < w5.heap.size := by omega
  have z42 : w4.heap.size < w5.heap.size := by omega
  have hB43 : Below w.heap.size w w5 := bthen hB29 gw5
  have hB44 : Below w1.heap.size w1 w5 := bthen hB30 gw5
  have hB45 : Below w2.heap.size w2 w5 := bthen hB31 gw5
  have hB46 : Below w3.heap.size w3 w5 := bthen gw4 gw5
  clear hb5 f23 f24 f25 f26 hB29 hB30 hB31 gw4 z27 z28
  obtain ⟨ad47, ad47', rfl⟩ := fr_pair hc33
  go_wp2_with fail
  refine (IsDefinable_any _ (hc22.rd.below (by repeat (first | exact Below.refl _ _ | exact bA | assumption | refine Below.setCell ?_ (by first | omega | (simp; try omega)) _ | refine Below.alloc ?_ (by first | omega | (simp; try omega)) _ | refine Below.drew ?_ | refine bDN ?_ | refine bthen ?_ (by assumption)))) (hc33.rd.below (by repeat (first | exact Below.refl _ _ | exact bA | assumption | refine Below.setCell ?_ (by first | omega | (simp; try omega)) _ | refine Below.alloc ?_ (by first | omega | (simp; try omega)) _ | refine Below.drew ?_ | refine bDN ?_ | refine bthen ?_ (by assumption))))).mono ?_
  rintro e w6 ⟨rfl, hb6⟩
  have gw6 : Below w5.heap.size w5 w6 := bthen (by repeat (first | exact Below.refl _ _ | exact bA | assumption | refine Below.setCell ?_ (by first | omega | (simp; try omega)) _ | refine Below.alloc ?_ (by first | omega | (simp; try omega)) _ | refine Below.drew ?_ | refine bDN ?_ | refine bthen ?_ (by assumption))) hb6
  have sw6 : w5.heap.size + 1 ≤ w6.heap.size := by have := hb6.size; (try simp at this); omega
  have f48 : w6.cell? ⟨w.heap.size, 0, none⟩ = some (.int .i64 x0.1) := (gw6.cell (by first | omega | (simp; try omega))).trans f34
  have f49 : w6.cell? ⟨w.heap.size, 1, none⟩ = some (u0) := (gw6.cell (by first | omega | (simp; try omega))).trans f35
  have f50 : w6.cell? ⟨w.heap.size + 1, 0, none⟩ = some (.int .i64 x1.1) := (gw6.cell (by first | omega | (simp; try omega))).trans f36
  have f51 : w6.cell? ⟨w.heap.size + 1, 1, none⟩ = some (u1) := (gw6.cell (by first | omega | (simp; try omega))).trans f37
  have f52 : w6.cell? ⟨w4.heap.size, 0, none⟩ = some (.int .i64 x0.1) := (gw6.cell (by first | omega | (simp; try omega))).trans f38
  have f53 : w6.cell? ⟨w4.heap.size, 1, none⟩ = some (.slice ad32 x0.2.length ad32') := (gw6.cell (by first | omega | (simp; try omega))).trans f39
  have f54 : w6.cell? ⟨w5.heap.size, 0, none⟩ = some (.int .i64 x1.1) := by rw [(bcell hb6).1 _ _ (by first | omega | (simp; try omega))]; first | (simp; done) | simp [go_sem]
  have f55 : w6.cell? ⟨w5.heap.size, 1, none⟩ = some (.slice ad47 x1.2.length ad47') := by rw [(bcell hb6).1 _ _ (by first | omega | (simp; try omega))]; first | (simp; done) | simp [go_sem]
  have z56 : w.heap.size < w6.heap.size := by omega
  have z57 : w.heap.size + 1 < w6.heap.size := by omega
  have z58 : w4.heap.size < w6.heap.size := by omega
  have z59 : w5.heap.size < w6.heap.size := by omega
  have hB60 : Below w.heap.size w w6 := bthen hB43 gw6
  have hB61 : Below w1.heap.size w1 w6 := bthen hB44 gw6
  have hB62 : Below w2.heap.size w2 w6 := bthen hB45 gw6
  have hB63 : Below w3.heap.size w3 w6 := bthen hB46 gw6
  have hB64 : Below w4.heap.size w4 w6 := bthen gw5 gw6
  clear hb6 f34 f35 f36 f37 f38 f39 hB43 hB44 hB45 hB46 gw5 z40 z41 z42
  go_wp2_with fail
  refine wp_region_loose [exV (.agg #[.int .i64 x0.1, .slice ad32 x0.2.length ad32']), exV (.agg #[.int .i64 x0.1, u0]), rdA tplT x0, exV (.bool true), exV (.bool false)] (by kernel_rfl) (by kernel_rfl) ⟨st_exV, st_exV, st_rdA, st_exV, st_exV, trivial⟩ ⟨?j14_0, ?j14_1, ?j14_2, ?j14_3, ?j14_4, trivial⟩ ?hQ14
  case j14_0 =>
    intro a' w' hb hd
    have e0 : a'.tmps[8]?.getD undef = .pointer (some ⟨w4.heap.size, 0, none⟩) := ev (slot_o hd 8 rfl rfl)
    have q : ∀ b o, b < w6.heap.size → w'.cell? ⟨b, o, none⟩ = w6.cell? ⟨b, o, none⟩ := (bcell hb).1
    go_simp
    exact ⟨Below.refl _ _, rfl⟩
  case j14_1 =>
    intro a' w' hb hd
    have e0 : a'.tmps[2]?.getD undef = .pointer (some ⟨w.heap.size, 0, none⟩) := ev (slot_o hd 2 rfl rfl)
    have q : ∀ b o, b < w6.heap.size → w'.cell? ⟨b, o, none⟩ = w6.cell? ⟨b, o, none⟩ := (bcell hb).1
    go_simp
    exact ⟨Below.refl _ _, rfl⟩
  case j14_2 =>
    intro a' w' hb hd
    have e49 : a'.tmps[49]?.getD undef = .agg #[.int .i64 x0.1, u0] := ev (slot_w hd 49 (exV (.agg #[.int .i64 x0.1, u0])) rfl rfl)
    have r49 : tplT.Rd w6 (#[.int .i64 x0.1, u0] : Array Value).toList x0 := hx0.below (by repeat (first | exact Below.refl _ _ | exact bA | assumption | refine Below.setCell ?_ (by first | omega | (simp; try omega)) _ | refine Below.alloc ?_ (by first | omega | (simp; try omega)) _ | refine Below.drew ?_ | refine bDN ?_ | refine bthen ?_ (by assumption)))
    have r49' := r49.below hb
    go_simp
    exact ⟨Below.refl _ _, (toTemplate_any w' r49' (by first | omega | (unfold szInts; omega))).mono fun e w'' ⟨cs, he, hf, hb⟩ => ⟨_, he, hb, cs, rfl, hf.rd⟩⟩
  case j14_3 =>
    intro a' w' hb hd
    have e48 : a'.tmps[48]?.getD undef = .agg #[.int .i64 x0.1, .slice ad32 x0.2.length ad32'] := ev (slot_w hd 48 (exV (.agg #[.int .i64 x0.1, .slice ad32 x0.2.length ad32'])) rfl rfl)
    have r48 : tplT.Rd w6 (#[.int .i64 x0.1, .slice ad32 x0.2.length ad32'] : Array Value).toList x0 := hc22.rd.below (by repeat (first | exact Below.refl _ _ | exact bA | assumption | refine Below.setCell ?_ (by first | omega | (simp; try omega)) _ | refine Below.alloc ?_ (by first | omega | (simp; try omega)) _ | refine Below.drew ?_ | refine bDN ?_ | refine bthen ?_ (by assumption)))
    have r48' := r48.below hb
    have d50 := slot_w hd 50 (rdA tplT x0) rfl rfl
    obtain ⟨cs50, e50, hf50⟩ := d50
    have e50' := ev e50
    go_simp
    exact ⟨Below.refl _ _, (eqTemplate_any w' r48' hf50).mono fun e w'' ⟨he, hb⟩ => ⟨_, he, hb, exV_eqB⟩⟩
  case j14_4 =>
    intro a' w' hb hd
    have e0 : a'.tmps[51]?.getD undef = .bool true := ev (slot_w hd 51 (exV (.bool true)) rfl rfl)
    go_simp
    exact ⟨Below.refl _ _, rfl⟩
  intro vs14 w7 hb7 H0
  obtain ⟨v14_0, _, rfl, p0, H1⟩ := HAll_cons H0
  obtain ⟨v14_1, _, rfl, p1, H2⟩ := HAll_cons H1
  obtain ⟨v14_2, _, rfl, p2, H3⟩ := HAll_cons H2
  obtain ⟨v14_3, _, rfl, p3, H4⟩ := HAll_cons H3
  obtain ⟨v14_4, _, rfl, p4, H5⟩ := HAll_cons H4
  obtain rfl := HAll_nil H5
  obtain rfl := p0 rfl
  obtain rfl := p1 rfl
  obtain rfl := p3 rfl
  obtain rfl := p4 rfl
  clear p0 p1 p2 p3 p4 H0 H1 H2 H3 H4 H5
  have gw7 : Below w6.heap.size w6 w7 := bthen (by repeat (first | exact Below.refl _ _ | exact bA | assumption | refine Below.setCell ?_ (by first | omega | (simp; try omega)) _ | refine Below.alloc ?_ (by first | omega | (simp; try omega)) _ | refine Below.drew ?_ | refine bDN ?_ | refine bthen ?_ (by assumption))) hb7
  have sw7 : w6.heap.size + 0 ≤ w7.heap.size := by have := hb7.size; (try simp at this); omega
  have f65 : w7.cell? ⟨w.heap.size, 0, none⟩ = some (.int .i64 x0.1) := (gw7.cell (by first | omega | (simp; try omega))).trans f48
  have f66 : w7.cell? ⟨w.heap.size, 1, none⟩ = some (u0) := (gw7.cell (by first | omega | (simp; try omega))).trans f49
  have f67 : w7.cell? ⟨w.heap.size + 1, 0, none⟩ = some (.int .i64 x1.1) := (gw7.cell (by first | omega | (simp; try omega))).trans f50
  have f68 : w7.cell? ⟨w.heap.size + 1, 1, none⟩ = some (u1) := (gw7.cell (by first | omega | (simp; try omega))).trans f51
  have f69 : w7.cell? ⟨w4.heap.size, 0, none⟩ = some (.int .i64 x0.1) := (gw7.cell (by first | omega | (simp; try omega))).trans f52
  have f70 : w7.cell? ⟨w4.heap.size, 1, none⟩ = some (.slice ad32 x0.2.length ad32') := (gw7.cell (by first | omega | (simp; try omega))).trans f53
  have f71 : w7.cell? ⟨w5.heap.size, 0, none⟩ = some (.int .i64 x1.1) := (gw7.cell (by first | omega | (simp; try omega))).trans f54
  have f72 : w7.cell? ⟨w5.heap.size, 1, none⟩ = some (.slice ad47 x1.2.length ad47') := (gw7.cell (by first | omega | (simp; try omega))).trans f55
  have z73 : w.heap.size < w7.heap.size := by omega
  have z74 : w.heap.size + 1 < w7.heap.size := by omega
  have z75 : w4.heap.size < w7.heap.size := by omega
  have z76 : w5.heap.size < w7.heap.size := by omega
  have hB77 : Below w.heap.size w w7 := bthen hB60 gw7
  have hB78 : Below w1.heap.size w1 w7 := bthen hB61 gw7
  have hB79 : Below w2.heap.size w2 w7 := bthen hB62 gw7
  have hB80 : Below w3.heap.size w3 w7 := bthen hB63 gw7
  have hB81 : Below w4.heap.size w4 w7 := bthen hB64 gw7
  have hB82 : Below w5.heap.size w5 w7 := bthen gw6 gw7
  clear hb7 f48 f49 f50 f51 f52 f53 f54 f55 hB60 hB61 hB62 hB63 hB64 gw6 z56 z57 z58 z59
  simp only [putAll, Act.put]
  go_simp
  go_wp2_with fail
  refine wp_region_loose [exV (.agg #[.int .i64 x1.1, .slice ad47 x1.2.length ad47']), exV (.agg #[.int .i64 x1.1, u1]), rdA relT x1, exV (.bool true), exV (.bool false)] (by kernel_rfl) (by kernel_rfl) ⟨st_exV, st_exV, st_rdA, st_exV, st_exV, trivial⟩ ⟨?j16_0, ?j16_1, ?j16_2, ?j16_3, ?j16_4, trivial⟩ ?hQ16
  case j16_0 =>
    intro a' w' hb hd
    have e0 : a'.tmps[9]?.getD undef = .pointer (some ⟨w5.heap.size, 0, none⟩) := ev (slot_o hd 9 rfl rfl)
    have q : ∀ b o, b < w7.heap.size → w'.cell? ⟨b, o, none⟩ = w7.cell? ⟨b, o, none⟩ := (bcell hb).1
    go_simp
    exact ⟨Below.refl _ _, rfl⟩
  case j16_1 =>
    intro a' w' hb hd
    have e0 : a'.tmps[3]?.getD undef = .pointer (some ⟨w.heap.size + 1, 0, none⟩) := ev (slot_o hd 3 rfl rfl)
    have q : ∀ b o, b < w7.heap.size → w'.cell? ⟨b, o, none⟩ = w7.cell? ⟨b, o, none⟩ := (bcell hb).1
    go_simp
    exact ⟨Below.refl _ _, rfl⟩
  case j16_2 =>
    intro a' w' hb hd
    have e54 : a'.tmps[54]?.getD undef = .agg #[.int .i64 x1.1, u1] := ev (slot_w hd 54 (exV (.agg #[.int .i64 x1.1, u1])) rfl rfl)
    have r54 : relT.Rd w7 (#[.int .i64 x1.1, u1] : Array Value).toList x1 := hx1.below (by repeat (first | exact Below.refl _ _ | exact bA | assumption | refine Below.setCell ?_ (by first | omega | (simp; try omega)) _ | refine Below.alloc ?_ (by first | omega | (simp; try omega)) _ | refine Below.drew ?_ | refine bDN ?_ | refine bthen ?_ (by assumption)))
    have r54' := r54.below hb
    go_simp
    exact ⟨Below.refl _ _, (toRel_any w' r54' (by first | omega | (unfold szInts; omega))).mono fun e w'' ⟨cs, he, hf, hb⟩ => ⟨_, he, hb, cs, rfl, hf.rd⟩⟩
  case j16_3 =>
    intro a' w' hb hd
    have e53 : a'.tmps[53]?.getD undef = .agg #[.int .i64 x1.1, .slice ad47 x1.2.length ad47'] := ev (slot_w hd 53 (exV (.agg #[.int .i64 x1.1, .slice ad47 x1.2.length ad47'])) rfl rfl)
    have r53 : relT.Rd w7 (#[.int .i64 x1.1, .slice ad47 x1.2.length ad47'] : Array Value).toList x1 := hc33.rd.below (by repeat (first | exact Below.refl _ _ | exact bA | assumption | refine Below.setCell ?_ (by first | omega | (simp; try omega)) _ | refine Below.alloc ?_ (by first | omega | (simp; try omega)) _ | refine Below.drew ?_ | refine bDN ?_ | refine bthen ?_ (by assumption)))
    have r53' := r53.below hb
    have d55 := slot_w hd 55 (rdA relT x1) rfl rfl
    obtain ⟨cs55, e55, hf55⟩ := d55
    have e55' := ev e55
    go_simp
    exact ⟨Below.refl _ _, (eqRel_any w' r53' hf55).mono fun e w'' ⟨he, hb⟩ => ⟨_, he, hb, exV_eqB⟩⟩
  case j16_4 =>
    intro a' w' hb hd
    have e0 : a'.tmps[56]?.getD undef = .bool true := ev (slot_w hd 56 (exV (.bool true)) rfl rfl)
    go_simp
    exact ⟨Below.refl _ _, rfl⟩
  intro vs16 w8 hb8 H0
  obtain ⟨v16_0, _, rfl, p0, H1⟩ := HAll_cons H0
  obtain ⟨v16_1, _, rfl, p1, H2⟩ := HAll_cons H1
  obtain ⟨v16_2, _, rfl, p2, H3⟩ := HAll_cons H2
  obtain ⟨v16_3, _, rfl, p3, H4⟩ := HAll_cons H3
  obtain ⟨v16_4, _, rfl, p4, H5⟩ := HAll_cons H4
  obtain rfl := HAll_nil H5
  obtain rfl := p0 rfl
  obtain rfl := p1 rfl
  obtain rfl := p3 rfl
  obtain rfl := p4 rfl
  clear p0 p1 p2 p3 p4 H0 H1 H2 H3 H4 H5
  have gw8 : Below w7.heap.size w7 w8 := bthen (by repeat (first | exact Below.refl _ _ | exact bA | assumption | refine Below.setCell ?_ (by first | omega | (simp; try omega)) _ | refine Below.alloc ?_ (by first | omega | (simp; try omega)) _ | refine Below.drew ?_ | refine bDN ?_ | refine bthen ?_ (by assumption))) hb8
  have sw8 : w7.heap.size + 0 ≤ w8.heap.size := by have := hb8.size; (try simp at this); omega
  have f83 : w8.cell? ⟨w.heap.size, 0, none⟩ = some (.int .i64 x0.1) := (gw8.cell (by first | omega | (simp; try omega))).trans f65
  have f84 : w8.cell? ⟨w.heap.size, 1, none⟩ = some (u0) := (gw8.cell (by first | omega | (simp; try omega))).trans f66
  have f85 : w8.cell? ⟨w.heap.size + 1, 0, none⟩ = some (.int .i64 x1.1) := (gw8.cell (by first | omega | (simp; try omega))).trans f67
  have f86 : w8.cell? ⟨w.heap.size + 1, 1, none⟩ = some (u1) := (gw8.cell (by first | omega | (simp; try omega))).trans f68
  have f87 : w8.cell? ⟨w4.heap.size, 0, none⟩ = some (.int .i64 x0.1) := (gw8.cell (by first | omega | (simp; try omega))).trans f69
  have f88 : w8.cell? ⟨w4.heap.size, 1, none⟩ = some (.slice ad32 x0.2.length ad32') := (gw8.cell (by first | omega | (simp; try omega))).trans f70
  have f89 : w8.cell? ⟨w5.heap.size, 0, none⟩ = some (.int .i64 x1.1) := (gw8.cell (by first | omega | (simp; try omega))).trans f71
  have f90 : w8.cell? ⟨w5.heap.size, 1, none⟩ = some (.slice ad47 x1.2.length ad47') := (gw8.cell (by first | omega | (simp; try omega))).trans f72
  have z91 : w.heap.size < w8.heap.size := by omega
  have z92 : w.heap.size + 1 < w8.heap.size := by omega
  have z93 : w4.heap.size < w8.heap.size := by omega
  have z94 : w5.heap.size < w8.heap.size := by omega
  have hB95 : Below w.heap.size w w8 := bthen hB77 gw8
  have hB96 : Below w1.heap.size w1 w8 := bthen hB78 gw8
  have hB97 : Below w2.heap.size w2 w8 := bthen hB79 gw8
  have hB98 : Below w3.heap.size w3 w8 := bthen hB80 gw8
  have hB99 : Below w4.heap.size w4 w8 := bthen hB81 gw8
  have hB100 : Below w5.heap.size w5 w8 := bthen hB82 gw8
  have hB101 : Below w6.heap.size w6 w8 := bthen gw7 gw8
  clear hb8 f65 f66 f67 f68 f69 f70 f71 f72 hB77 hB78 hB79 hB80 hB81 hB82 gw7 z73 z74 z75 z76
  simp only [putAll, Act.put]
  go_simp
  go_wp2_with fail
  go_ret
  exact ⟨rfl, (by repeat (first | exact Below.refl _ _ | exact bA | assumption | refine Below.setCell ?_ (by first | omega | (simp; try omega)) _ | refine Below.alloc ?_ (by first | omega | (simp; try omega)) _ | refine Below.drew ?_ | refine bDN ?_ | refine bthen ?_ (by assumption)))⟩
end Go.Proofs.Ytccobadobklbpaa
