/-
  The law FnExactIsSolution, walked: its contract.
-/
import Derived.Test.YtadncmlfkoolkaaK10
import Derived.Test.YtadncmlfkoolkaaKT
import Derived.Test.YtadncmlfkoolkaaLoose
namespace Go.Proofs.Ytadncmlfkoolkaa
open Go.RowKit Go.Sort
set_option maxHeartbeats 3200000 in
set_option maxRecDepth 100000 in
theorem fnExactIsSolution_any (w : World) {c0 : Array Value} {x0 : Int × List (Int × List (List Int))} (h0 : tplT.Rd w c0.toList x0) {c1 : Array Value} {x1 : Int × List (Int × List Int)} (h1 : instT.Rd w c1.toList x1) {v2 : Value} {x2 : List Int} (h2 : intsT.Rd w [v2] x2) :
    Calls Try.prog 7 #[.agg c0, .agg c1, v2] w fun e w' => e = .returned (.bool true) ∧ Below w.heap.size w w' := by
  have hx0 := h0
  obtain ⟨u0, hv0, -, hy0⟩ := pair_ex h0
  obtain rfl := agg_of hv0
  clear hv0 h0
  have hn0 := szTpl_nn x0
  have hx1 := h1
  obtain ⟨u1, hv1, -, hy1⟩ := pair_ex h1
  obtain rfl := agg_of hv1
  clear hv1 h1
  have hn1 := szInst_nn x1
  have hx2 := h2
  obtain ⟨ad2, cap2, rfl⟩ := rd_slice hx2
  clear h2
  have hn2 := szInts_nn x2
  rcases ilt 1048576 (x2.length : Int) with hl1 | hl1
  · have hl : decide (1048576 < (x2.length : Int)) = true := by simpa using hl1
    go_enter Try.func7, Try.ntmps7
    go_wp2_with fail
    go_ret
    exact ⟨rfl, (by repeat (first | exact Below.refl _ _ | exact bA | assumption | refine Below.setCell ?_ (by first | omega | (simp; try omega)) _ | refine Below.alloc ?_ (by first | omega | (simp; try omega)) _ | refine Below.drew ?_ | refine bDN ?_ | refine bthen ?_ (by assumption)))⟩
  have hd1 : decide (1048576 < (x2.length : Int)) = false := by simp; omega
  go_enter Try.func7, Try.ntmps7
  go_wp2_with fail
  refine (szTemplate_any _ (hx0.below (by repeat (first | exact Below.refl _ _ | exact bA | assumption | refine Below.setCell ?_ (by first | omega | (simp; try omega)) _ | refine Below.alloc ?_ (by first | omega | (simp; try omega)) _ | refine Below.drew ?_ | refine bDN ?_ | refine bthen ?_ (by assumption)))) _ (by omega) (by omega)).mono ?_
  rintro e w1 ⟨rfl, hb1⟩
  have gw1 : Below w.heap.size w w1 := bthen (by repeat (first | exact Below.refl _ _ | exact bA | assumption | refine Below.setCell ?_ (by first | omega | (simp; try omega)) _ | refine Below.alloc ?_ (by first | omega | (simp; try omega)) _ | refine Below.drew ?_ | refine bDN ?_ | refine bthen ?_ (by assumption))) hb1
  have sw1 : w.heap.size + 2 ≤ w1.heap.size := by have := hb1.size; (try simp at this); omega
  have f1 : w1.cell? ⟨w.heap.size, 0, none⟩ = some (.int .i64 x0.1) := by rw [(bcell hb1).1 _ _ (by first | omega | (simp; try omega))]; simp
  have f2 : w1.cell? ⟨w.heap.size, 1, none⟩ = some (u0) := by rw [(bcell hb1).1 _ _ (by first | omega | (simp; try omega))]; simp
  have f3 : w1.cell? ⟨w.heap.size + 1, 0, none⟩ = some (.int .i64 x1.1) := by rw [(bcell hb1).1 _ _ (by first | omega | (simp; try omega))]; simp
  have f4 : w1.cell? ⟨w.heap.size + 1, 1, none⟩ = some (u1) := by rw [(bcell hb1).1 _ _ (by first | omega | (simp; try omega))]; simp
  have z5 : w.heap.size < w1.heap.size := by omega
  have z6 : w.heap.size + 1 < w1.heap.size := by omega
  clear hb1 
  rcases ilt 1048576 (szTpl x0) with hl4 | hl4
  · rw [szR_lt hl4]
    go_wp2_with fail
    go_ret
    exact ⟨rfl, (by repeat (first | exact Below.refl _ _ | exact bA | assumption | refine Below.setCell ?_ (by first | omega | (simp; try omega)) _ | refine Below.alloc ?_ (by first | omega | (simp; try omega)) _ | refine Below.drew ?_ | refine bDN ?_ | refine bthen ?_ (by assumption)))⟩
  rw [szR_ge hl4]
  go_wp2_with fail
  refine (szInstance_any _ (hx1.below (by repeat (first | exact Below.refl _ _ | exact bA | assumption | refine Below.setCell ?_ (by first | omega | (simp; try omega)) _ | refine Below.alloc ?_ (by first | omega | (simp; try omega)) _ | refine Below.drew ?_ | refine bDN ?_ | refine bthen ?_ (by assumption)))) _ (by omega) (by omega)).mono ?_
  rintro e w2 ⟨rfl, hb2⟩
  have gw2 : Below w1.heap.size w1 w2 := bthen (by repeat (first | exact Below.refl _ _ | exact bA | assumption | refine Below.setCell ?_ (by first | omega | (simp; try omega)) _ | refine Below.alloc ?_ (by first | omega | (simp; try omega)) _ | refine Below.drew ?_ | refine bDN ?_ | refine bthen ?_ (by assumption))) hb2
  have sw2 : w1.heap.size + 0 ≤ w2.heap.size := by have := hb2.size; (try simp at this); omega
  have f7 : w2.cell? ⟨w.heap.size, 0, none⟩ = some (.int .i64 x0.1) := (gw2.cell (by first | omega | (simp; try omega))).trans f1
  have f8 : w2.cell? ⟨w.heap.size, 1, none⟩ = some (u0) := (gw2.cell (by first | omega | (simp; try omega))).trans f2
  have f9 : w2.cell? ⟨w.heap.size + 1, 0, none⟩ = some (.int .i64 x1.1) := (gw2.cell (by first | omega | (simp; try omega))).trans f3
  have f10 : w2.cell? ⟨w.heap.size + 1, 1, none⟩ = some (u1) := (gw2.cell (by first | omega | (simp; try omega))).trans f4
  have z11 : w.heap.size < w2.heap.size := by omega
  have z12 : w.heap.size + 1 < w2.heap.size := by omega
  have hB13 : Below w.heap.size w w2 := bthen gw1 gw2
  clear hb2 f1 f2 f3 f4 gw1 z5 z6
  rcases ilt (1048576 - szTpl x0) (szInst x1) with hl7 | hl7
  · rw [szR_lt hl7]
    go_wp2_with fail
    go_ret
    exact ⟨rfl, (by repeat (first | exact Below.refl _ _ | exact bA | assumption | refine Below.setCell ?_ (by first | omega | (simp; try omega)) _ | refine Below.alloc ?_ (by first | omega | (simp; try omega)) _ | refine Below.drew ?_ | refine bDN ?_ | refine bthen ?_ (by assumption)))⟩
  rw [szR_ge hl7]
  go_wp2_with fail
  refine wp_region_loose [exV (.agg #[.int .i64 x0.1, u0]), rdA tplT x0, exV (.agg #[.int .i64 x1.1, u1]), rdA instT x1, exV (.slice ad2 x2.length cap2), rdS intsT x2, exV (.tuple #[.bool (solB x0 x1 x2), .int .i64 (givenC x0 x1 x2)]), exV (.tuple #[.bool (solB x0 x1 x2), .int .i64 (givenC x0 x1 x2)]), exV (.bool (solB x0 x1 x2)), exV (.int .i64 (givenC x0 x1 x2)), exV (.bool (solB x0 x1 x2)), exV (.int .i64 (givenC x0 x1 x2))] (by kernel_rfl) (by kernel_rfl) ⟨st_exV, st_rdA, st_exV, st_rdA, st_exV, st_rdS, st_exV, st_exV, st_exV, st_exV, st_exV, st_exV, trivial⟩ ⟨?j10_0, ?j10_1, ?j10_2, ?j10_3, ?j10_4, ?j10_5, ?j10_6, ?j10_7, ?j10_8, ?j10_9, ?j10_10, ?j10_11, trivial⟩ ?hQ10
  case j10_0 =>
    intro a' w' hb hd
    have e0 : a'.tmps[3]?.getD undef = .pointer (some ⟨w.heap.size, 0, none⟩) := ev (slot_o hd 3 rfl rfl)
    have q : ∀ b o, b < w2.heap.size → w'.cell? ⟨b, o, none⟩ = w2.cell? ⟨b, o, none⟩ := (bcell hb).1
    go_simp
    exact ⟨Below.refl _ _, rfl⟩
  case j10_1 =>
    intro a' w' hb hd
    have e29 : a'.tmps[29]?.getD undef = .agg #[.int .i64 x0.1, u0] := ev (slot_w hd 29 (exV (.agg #[.int .i64 x0.1, u0])) rfl rfl)
    have r29 : tplT.Rd w2 (#[.int .i64 x0.1, u0] : Array Value).toList x0 := hx0.below (by repeat (first | exact Below.refl _ _ | exact bA | assumption | refine Below.setCell ?_ (by first | omega | (simp; try omega)) _ | refine Below.alloc ?_ (by first | omega | (simp; try omega)) _ | refine Below.drew ?_ | refine bDN ?_ | refine bthen ?_ (by assumption)))
    have r29' := r29.below hb
    go_simp
    exact ⟨Below.refl _ _, (toTemplate_any w' r29' (by first | omega | (unfold szInts; omega))).mono fun e w'' ⟨cs, he, hf, hb⟩ => ⟨_, he, hb, cs, rfl, hf.rd⟩⟩
  case j10_2 =>
    intro a' w' hb hd
    have e0 : a'.tmps[4]?.getD undef = .pointer (some ⟨w.heap.size + 1, 0, none⟩) := ev (slot_o hd 4 rfl rfl)
    have q : ∀ b o, b < w2.heap.size → w'.cell? ⟨b, o, none⟩ = w2.cell? ⟨b, o, none⟩ := (bcell hb).1
    go_simp
    exact ⟨Below.refl _ _, rfl⟩
  case j10_3 =>
    intro a' w' hb hd
    have e31 : a'.tmps[31]?.getD undef = .agg #[.int .i64 x1.1, u1] := ev (slot_w hd 31 (exV (.agg #[.int .i64 x1.1, u1])) rfl rfl)
    have r31 : instT.Rd w2 (#[.int .i64 x1.1, u1] : Array Value).toList x1 := hx1.below (by repeat (first | exact Below.refl _ _ | exact bA | assumption | refine Below.setCell ?_ (by first | omega | (simp; try omega)) _ | refine Below.alloc ?_ (by first | omega | (simp; try omega)) _ | refine Below.drew ?_ | refine bDN ?_ | refine bthen ?_ (by assumption)))
    have r31' := r31.below hb
    go_simp
    exact ⟨Below.refl _ _, (toInstance_any w' r31' (by first | omega | (unfold szInts; omega))).mono fun e w'' ⟨cs, he, hf, hb⟩ => ⟨_, he, hb, cs, rfl, hf.rd⟩⟩
  case j10_4 =>
    intro a' w' hb hd
    have e0 : a'.tmps[2]?.getD undef = .slice ad2 x2.length cap2 := ev (slot_o hd 2 rfl rfl)
    go_simp
    exact ⟨Below.refl _ _, rfl⟩
  case j10_5 =>
    intro a' w' hb hd
    have e33 : a'.tmps[33]?.getD undef = .slice ad2 x2.length cap2 := ev (slot_w hd 33 (exV (.slice ad2 x2.length cap2)) rfl rfl)
    have r33 : intsT.Rd w2 [.slice ad2 x2.length cap2] x2 := hx2.below (by repeat (first | exact Below.refl _ _ | exact bA | assumption | refine Below.setCell ?_ (by first | omega | (simp; try omega)) _ | refine Below.alloc ?_ (by first | omega | (simp; try omega)) _ | refine Below.drew ?_ | refine bDN ?_ | refine bthen ?_ (by assumption)))
    have r33' := r33.below hb
    go_simp
    exact ⟨Below.refl _ _, (toInt64S_any w' r33' (by first | omega | (unfold szInts; omega))).mono fun e w'' ⟨u, he, hf, hb⟩ => ⟨_, he, hb, hf.rd⟩⟩
  case j10_6 =>
    intro a' w' hb hd
    have d30 := slot_w hd 30 (rdA tplT x0) rfl rfl
    obtain ⟨cs30, e30, hf30⟩ := d30
    have e30' := ev e30
    have d32 := slot_w hd 32 (rdA instT x1) rfl rfl
    obtain ⟨cs32, e32, hf32⟩ := d32
    have e32' := ev e32
    have d34 := slot_w hd 34 (rdS intsT x2) rfl rfl
    obtain ⟨ad34', cap34', e34⟩ := rd_slice d34
    rw [e34] at d34
    have hf34 := d34
    have e34' := ev e34
    go_simp
    exact ⟨Below.refl _ _, (specIsSolution_any _ hf30 hf32 hf34).mono fun e w'' ⟨he, hb⟩ => ⟨_, he, hb, rfl⟩⟩
  case j10_7 =>
    intro a' w' hb hd
    have e0 : a'.tmps[35]?.getD undef = .tuple #[.bool (solB x0 x1 x2), .int .i64 (givenC x0 x1 x2)] := ev (slot_w hd 35 (exV (.tuple #[.bool (solB x0 x1 x2), .int .i64 (givenC x0 x1 x2)])) rfl rfl)
    go_simp
    exact ⟨Below.refl _ _, rfl⟩
  case j10_8 =>
    intro a' w' hb hd
    have e0 : a'.tmps[28]?.getD undef = .tuple #[.bool (solB x0 x1 x2), .int .i64 (givenC x0 x1 x2)] := ev (slot_w hd 28 (exV (.tuple #[.bool (solB x0 x1 x2), .int .i64 (givenC x0 x1 x2)])) rfl rfl)
    go_simp
    exact ⟨Below.refl _ _, rfl⟩
  case j10_9 =>
    intro a' w' hb hd
    have e0 : a'.tmps[28]?.getD undef = .tuple #[.bool (solB x0 x1 x2), .int .i64 (givenC x0 x1 x2)] := ev (slot_w hd 28 (exV (.tuple #[.bool (solB x0 x1 x2), .int .i64 (givenC x0 x1 x2)])) rfl rfl)
    go_simp
    exact ⟨Below.refl _ _, rfl⟩
  case j10_10 =>
    intro a' w' hb hd
    have e0 : a'.tmps[36]?.getD undef = .bool (solB x0 x1 x2) := ev (slot_w hd 36 (exV (.bool (solB x0 x1 x2))) rfl rfl)
    go_simp
    exact ⟨Below.refl _ _, rfl⟩
  case j10_11 =>
    intro a' w' hb hd
    have e0 : a'.tmps[37]?.getD undef = .int .i64 (givenC x0 x1 x2) := ev (slot_w hd 37 (exV (.int .i64 (givenC x0 x1 x2))) rfl rfl)
    go_simp
    exact ⟨Below.refl _ _, rfl⟩
  intro vs10 w3 hb3 H0
  obtain ⟨v10_0, _, rfl, p0, H1⟩ := HAll_cons H0
  obtain ⟨v10_1, _, rfl, p1, H2⟩ := HAll_cons H1
  obtain ⟨v10_2, _, rfl, p2, H3⟩ := HAll_cons H2
  obtain ⟨v10_3, _, rfl, p3, H4⟩ := HAll_cons H3
  obtain ⟨v10_4, _, rfl, p4, H5⟩ := HAll_cons H4
  obtain ⟨v10_5, _, rfl, p5, H6⟩ := HAll_cons H5
  obtain ⟨v10_6, _, rfl, p6, H7⟩ := HAll_cons H6
  obtain ⟨v10_7, _, rfl, p7, H8⟩ := HAll_cons H7
  obtain ⟨v10_8, _, rfl, p8, H9⟩ := HAll_cons H8
  obtain ⟨v10_9, _, rfl, p9, H10⟩ := HAll_cons H9
  obtain ⟨v10_10, _, rfl, p10, H11⟩ := HAll_cons H10
  obtain ⟨v10_11, _, rfl, p11, H12⟩ := HAll_cons H11
  obtain rfl := HAll_nil H12
  obtain rfl := p0 rfl
  obtain rfl := p2 rfl
  obtain rfl := p4 rfl
  obtain rfl := p6 rfl
  obtain rfl := p7 rfl
  obtain rfl := p8 rfl
  obtain rfl := p9 rfl
  obtain rfl := p10 rfl
  obtain rfl := p11 rfl
  clear p0 p1 p2 p3 p4 p5 p6 p7 p8 p9 p10 p11 H0 H1 H2 H3 H4 H5 H6 H7 H8 H9 H10 H11 H12
  have gw3 : Below w2.heap.size w2 w3 := bthen (by repeat (first | exact Below.refl _ _ | exact bA | assumption | refine Below.setCell ?_ (by first | omega | (simp; try omega)) _ | refine Below.alloc ?_ (by first | omega | (simp; try omega)) _ | refine Below.drew ?_ | refine bDN ?_ | refine bthen ?_ (by assumption))) hb3
  have sw3 : w2.heap.size + 0 ≤ w3.heap.size := by have := hb3.size; (try simp at this); omega
  have f14 : w3.cell? ⟨w.heap.size, 0, none⟩ = some (.int .i64 x0.1) := (gw3.cell (by first | omega | (simp; try omega))).trans f7
  have f15 : w3.cell? ⟨w.heap.size, 1, none⟩ = some (u0) := (gw3.cell (by first | omega | (simp; try omega))).trans f8
  have f16 : w3.cell? ⟨w.heap.size + 1, 0, none⟩ = some (.int .i64 x1.1) := (gw3.cell (by first | omega | (simp; try omega))).trans f9
  have f17 : w3.cell? ⟨w.heap.size + 1, 1, none⟩ = some (u1) := (gw3.cell (by first | omega | (simp; try omega))).trans f10
  have z18 : w.heap.size < w3.heap.size := by omega
  have z19 : w.heap.size + 1 < w3.heap.size := by omega
  have hB20 : Below w.heap.size w w3 := bthen hB13 gw3
  have hB21 : Below w1.heap.size w1 w3 := bthen gw2 gw3
  clear hb3 f7 f8 f9 f10 hB13 gw2 z11 z12
  simp only [putAll, Act.put]
  go_simp
  go_wp2_with fail
  refine (toTemplate_any _ (hx0.below (by repeat (first | exact Below.refl _ _ | exact bA | assumption | refine Below.setCell ?_ (by first | omega | (simp; try omega)) _ | refine Below.alloc ?_ (by first | omega | (simp; try omega)) _ | refine Below.drew ?_ | refine bDN ?_ | refine bthen ?_ (by assumption)))) (by first | omega | (unfold szInts; omega))).mono ?_
  rintro e w4 ⟨cs, rfl, hc22, hb4⟩
  have gw4 : Below w3.heap.size w3 w4 := bthen (by repeat (first | exact Below.refl _ _ | exact bA | assumption | refine Below.setCell ?_ (by first | omega | (simp; try omega)) _ | refine Below.alloc ?_ (by first | omega | (simp; try omega)) _ | refine Below.drew ?_ | refine bDN ?_ | refine bthen ?_ (by assumption))) hb4
  have sw4 : w3.heap.size + 0 ≤ w4.heap.size := by have := hb4.size; (try simp at this); omega
  have f23 : w4.cell? ⟨w.heap.size, 0, none⟩ = some (.int .i64 x0.1) := (gw4.cell (by first | omega | (simp; try omega))).trans f14
  have f24 : w4.cell? ⟨w.heap.size, 1, none⟩ = some (u0) := (gw4.cell (by first | omega | (simp; try omega))).trans f15
  have f25 : w4.cell? ⟨w.heap.size + 1, 0, none⟩ = some (.int .i64 x1.1) := (gw4.cell (by first | omega | (simp; try omega))).trans f16
  have f26 : w4.cell? ⟨w.heap.size + 1, 1, none⟩ = some (u1) := (gw4.cell (by first | omega | (simp; try omega))).trans f17
  have z27 : w.heap.size < w4.heap.size := by omega
  have z28 : w.heap.size + 1 < w4.heap.size := by omega
  have hB29 : Below w.heap.size w w4 := bthen hB20 gw4
  have hB30 : Below w1.heap.size w1 w4 := bthen hB21 gw4
  have hB31 : Below w2.heap.size w2 w4 := bthen gw3 gw4
  clear hb4 f14 f15 f16 f17 hB20 hB21 gw3 z18 z19
  obtain ⟨ad32, ad32', rfl⟩ := fr_pair hc22
  go_wp2_with fail
  refine (toInstance_any _ (hx1.below (by repeat (first | exact Below.refl _ _ | exact bA | assumption | refine Below.setCell ?_ (by first | omega | (simp; try omega)) _ | refine Below.alloc ?_ (by first | omega | (simp; try omega)) _ | refine Below.drew ?_ | refine bDN ?_ | refine bthen ?_ (by assumption)))) (by first | omega | (unfold szInts; omega))).mono ?_
  rintro e w5 ⟨cs, rfl, hc33, hb5⟩
  have gw5 : Below w4.heap.size w4 w5 := bthen (by repeat (first | exact Below.refl _ _ | exact bA | assumption | refine Below.setCell ?_ (by first | omega | (simp; try omega)) _ | refine Below.alloc ?_ (by first | omega | (simp; try omega)) _ | refine Below.drew ?_ | refine bDN ?_ | refine bthen ?_ (by assumption))) hb5
  have sw5 : w4.heap.size + 1 ≤ w5.heap.size := by have := hb5.size; (try simp at this); omega
  have f34 : w5.cell? ⟨w.heap.size, 0, none⟩ = some (.int .i64 x0.1) := (gw5.cell (by first | omega | (simp; try omega))).trans f23
  have f35 : w5.cell? ⟨w.heap.size, 1, none⟩ = some (u0) := (gw5.cell (by first | omega | (simp; try omega))).trans f24
  have f36 : w5.cell? ⟨w.heap.size + 1, 0, none⟩ = some (.int .i64 x1.1) := (gw5.cell (by first | omega | (simp; try omega))).trans f25
  have f37 : w5.cell? ⟨w.heap.size + 1, 1, none⟩ = some (u1) := (gw5.cell (by first | omega | (simp; try omega))).trans f26
  have f38 : w5.cell? ⟨w4.heap.size, 0, none⟩ = some (.int .i64 x0.1) := by rw [(bcell hb5).1 _ _ (by first | omega | (simp; try omega))]; simp
  have f39 : w5.cell? ⟨w4.heap.size, 1, none⟩ = some (.slice ad32 x0.2.length ad32') := by rw [(bcell hb5).1 _ _ (by first | omega | (simp; try omega))]; simp
  have z40 : w.heap.size < w5.heap.size := by omega
  have z41 : w.heap.size + 1 < w5.heap.size := by omega
  have z42 : w4.heap.size < w5.heap.size := by omega
  have hB43 : Below w.heap.size w w5 := bthen hB29 gw5
  have hB44 : Below w1.heap.size w1 w5 := bthen hB30 gw5
  have hB45 : Below w2.heap.size w2 w5 := bthen hB31 gw5
  have hB46 : Below w3.heap.size w3 w5 := bthen gw4 gw5
  clear hb5 f23 f24 f25 f26 hB29 hB30 hB31 gw4 z27 z28
  obtain ⟨ad47, ad47', rfl⟩ := fr_pair hc33
  go_wp2_with fail
  refine (toInt64S_any _ (hx2.below (by repeat (first | exact Below.refl _ _ | exact bA | assumption | refine Below.setCell ?_ (by first | omega | (simp; try omega)) _ | refine Below.alloc ?_ (by first | omega | (simp; try omega)) _ | refine Below.drew ?_ | refine bDN ?_ | refine bthen ?_ (by assumption)))) (by first | omega | (unfold szInts; omega))).mono ?_
  rintro e w6 ⟨u, rfl, hc48, hb6⟩
  have gw6 : Below w5.heap.size w5 w6 := bthen (by repeat (first | exact Below.refl _ _ | exact bA | assumption | refine Below.setCell ?_ (by first | omega | (simp; try omega)) _ | refine Below.alloc ?_ (by first | omega | (simp; try omega)) _ | refine Below.drew ?_ | refine bDN ?_ | refine bthen ?_ (by assumption))) hb6
  have sw6 : w5.heap.size + 1 ≤ w6.heap.size := by have := hb6.size; (try simp at this); omega
  have f49 : w6.cell? ⟨w.heap.size, 0, none⟩ = some (.int .i64 x0.1) := (gw6.cell (by first | omega | (simp; try omega))).trans f34
  have f50 : w6.cell? ⟨w.heap.size, 1, none⟩ = some (u0) := (gw6.cell (by first | omega | (simp; try omega))).trans f35
  have f51 : w6.cell? ⟨w.heap.size + 1, 0, none⟩ = some (.int .i64 x1.1) := (gw6.cell (by first | omega | (simp; try omega))).trans f36
  have f52 : w6.cell? ⟨w.heap.size + 1, 1, none⟩ = some (u1) := (gw6.cell (by first | omega | (simp; try omega))).trans f37
  have f53 : w6.cell? ⟨w4.heap.size, 0, none⟩ = some (.int .i64 x0.1) := (gw6.cell (by first | omega | (simp; try omega))).trans f38
  have f54 : w6.cell? ⟨w4.heap.size, 1, none⟩ = some (.slice ad32 x0.2.length ad32') := (gw6.cell (by first | omega | (simp; try omega))).trans f39
  have f55 : w6.cell? ⟨w5.heap.size, 0, none⟩ = some (.int .i64 x1.1) := by rw [(bcell hb6).1 _ _ (by first | omega | (simp; try omega))]; simp
  have f56 : w6.cell? ⟨w5.heap.size, 1, none⟩ = some (.slice ad47 x1.2.length ad47') := by rw [(bcell hb6).1 _ _ (by first | omega | (simp; try omega))]; simp
  have z57 : w.heap.size < w6.heap.size := by omega
  have z58 : w.heap.size + 1 < w6.heap.size := by omega
  have z59 : w4.heap.size < w6.heap.size := by omega
  have z60 : w5.heap.size < w6.heap.size := by omega
  have hB61 : Below w.heap.size w w6 := bthen hB43 gw6
  have hB62 : Below w1.heap.size w1 w6 := bthen hB44 gw6
  have hB63 : Below w2.heap.size w2 w6 := bthen hB45 gw6
  have hB64 : Below w3.heap.size w3 w6 := bthen hB46 gw6
  have hB65 : Below w4.heap.size w4 w6 := bthen gw5 gw6
  clear hb6 f34 f35 f36 f37 f38 f39 hB43 hB44 hB45 hB46 gw5 z40 z41 z42
  obtain ⟨ad66, ad66', rfl⟩ := fr_slice hc48
  go_wp2_with fail
  refine (IsSolution_any _ (hc22.rd.below (by repeat (first | exact Below.refl _ _ | exact bA | assumption | refine Below.setCell ?_ (by first | omega | (simp; try omega)) _ | refine Below.alloc ?_ (by first | omega | (simp; try omega)) _ | refine Below.drew ?_ | refine bDN ?_ | refine bthen ?_ (by assumption)))) (hc33.rd.below (by repeat (first | exact Below.refl _ _ | exact bA | assumption | refine Below.setCell ?_ (by first | omega | (simp; try omega)) _ | refine Below.alloc ?_ (by first | omega | (simp; try omega)) _ | refine Below.drew ?_ | refine bDN ?_ | refine bthen ?_ (by assumption)))) (hc48.rd.below (by repeat (first | exact Below.refl _ _ | exact bA | assumption | refine Below.setCell ?_ (by first | omega | (simp; try omega)) _ | refine Below.alloc ?_ (by first | omega | (simp; try omega)) _ | refine Below.drew ?_ | refine bDN ?_ | refine bthen ?_ (by assumption))))).mono ?_
  rintro e w7 ⟨rfl, hb7⟩
  have gw7 : Below w6.heap.size w6 w7 := bthen (by repeat (first | exact Below.refl _ _ | exact bA | assumption | refine Below.setCell ?_ (by first | omega | (simp; try omega)) _ | refine Below.alloc ?_ (by first | omega | (simp; try omega)) _ | refine Below.drew ?_ | refine bDN ?_ | refine bthen ?_ (by assumption))) hb7
  have sw7 : w6.heap.size + 0 ≤ w7.heap.size := by have := hb7.size; (try simp at this); omega
  have f67 : w7.cell? ⟨w.heap.size, 0, none⟩ = some (.int .i64 x0.1) := (gw7.cell (by first | omega | (simp; try omega))).trans f49
  have f68 : w7.cell? ⟨w.heap.size, 1, none⟩ = some (u0) := (gw7.cell (by first | omega | (simp; try omega))).trans f50
  have f69 : w7.cell? ⟨w.heap.size + 1, 0, none⟩ = some (.int .i64 x1.1) := (gw7.cell (by first | omega | (simp; try omega))).trans f51
  have f70 : w7.cell? ⟨w.heap.size + 1, 1, none⟩ = some (u1) := (gw7.cell (by first | omega | (simp; try omega))).trans f52
  have f71 : w7.cell? ⟨w4.heap.size, 0, none⟩ = some (.int .i64 x0.1) := (gw7.cell (by first | omega | (simp; try omega))).trans f53
  have f72 : w7.cell? ⟨w4.heap.size, 1, none⟩ = some (.slice ad32 x0.2.length ad32') := (gw7.cell (by first | omega | (simp; try omega))).trans f54
  have f73 : w7.cell? ⟨w5.heap.size, 0, none⟩ = some (.int .i64 x1.1) := (gw7.cell (by first | omega | (simp; try omega))).trans f55
  have f74 : w7.cell? ⟨w5.heap.size, 1, none⟩ = some (.slice ad47 x1.2.length ad47') := (gw7.cell (by first | omega | (simp; try omega))).trans f56
  have z75 : w.heap.size < w7.heap.size := by omega
  have z76 : w.heap.size + 1 < w7.heap.size := by omega
  have z77 : w4.heap.size < w7.heap.size := by omega
  have z78 : w5.heap.size < w7.heap.size := by omega
  have hB79 : Below w.heap.size w w7 := bthen hB61 gw7
  have hB80 : Below w1.heap.size w1 w7 := bthen hB62 gw7
  have hB81 : Below w2.heap.size w2 w7 := bthen hB63 gw7
  have hB82 : Below w3.heap.size w3 w7 := bthen hB64 gw7
  have hB83 : Below w4.heap.size w4 w7 := bthen hB65 gw7
  have hB84 : Below w5.heap.size w5 w7 := bthen gw6 gw7
  clear hb7 f49 f50 f51 f52 f53 f54 f55 f56 hB61 hB62 hB63 hB64 hB65 gw6 z57 z58 z59 z60
  go_wp2_with fail
  refine wp_region_loose [exV (.agg #[.int .i64 x0.1, .slice ad32 x0.2.length ad32']), exV (.agg #[.int .i64 x0.1, u0]), rdA tplT x0, exV (.bool true), exV (.bool false)] (by kernel_rfl) (by kernel_rfl) ⟨st_exV, st_exV, st_rdA, st_exV, st_exV, trivial⟩ ⟨?j17_0, ?j17_1, ?j17_2, ?j17_3, ?j17_4, trivial⟩ ?hQ17
  case j17_0 =>
    intro a' w' hb hd
    have e0 : a'.tmps[10]?.getD undef = .pointer (some ⟨w4.heap.size, 0, none⟩) := ev (slot_o hd 10 rfl rfl)
    have q : ∀ b o, b < w7.heap.size → w'.cell? ⟨b, o, none⟩ = w7.cell? ⟨b, o, none⟩ := (bcell hb).1
    go_simp
    exact ⟨Below.refl _ _, rfl⟩
  case j17_1 =>
    intro a' w' hb hd
    have e0 : a'.tmps[3]?.getD undef = .pointer (some ⟨w.heap.size, 0, none⟩) := ev (slot_o hd 3 rfl rfl)
    have q : ∀ b o, b < w7.heap.size → w'.cell? ⟨b, o, none⟩ = w7.cell? ⟨b, o, none⟩ := (bcell hb).1
    go_simp
    exact ⟨Below.refl _ _, rfl⟩
  case j17_2 =>
    intro a' w' hb hd
    have e60 : a'.tmps[60]?.getD undef = .agg #[.int .i64 x0.1, u0] := ev (slot_w hd 60 (exV (.agg #[.int .i64 x0.1, u0])) rfl rfl)
    have r60 : tplT.Rd w7 (#[.int .i64 x0.1, u0] : Array Value).toList x0 := hx0.below (by repeat (first | exact Below.refl _ _ | exact bA | assumption | refine Below.setCell ?_ (by first | omega | (simp; try omega)) _ | refine Below.alloc ?_ (by first | omega | (simp; try omega)) _ | refine Below.drew ?_ | refine bDN ?_ | refine bthen ?_ (by assumption)))
    have r60' := r60.below hb
    go_simp
    exact ⟨Below.refl _ _, (toTemplate_any w' r60' (by first | omega | (unfold szInts; omega))).mono fun e w'' ⟨cs, he, hf, hb⟩ => ⟨_, he, hb, cs, rfl, hf.rd⟩⟩
  case j17_3 =>
    intro a' w' hb hd
    have e59 : a'.tmps[59]?.getD undef = .agg #[.int .i64 x0.1, .slice ad32 x0.2.length ad32'] := ev (slot_w hd 59 (exV (.agg #[.int .i64 x0.1, .slice ad32 x0.2.length ad32'])) rfl rfl)
    have r59 : tplT.Rd w7 (#[.int .i64 x0.1, .slice ad32 x0.2.length ad32'] : Array Value).toList x0 := hc22.rd.below (by repeat (first | exact Below.refl _ _ | exact bA | assumption | refine Below.setCell ?_ (by first | omega | (simp; try omega)) _ | refine Below.alloc ?_ (by first | omega | (simp; try omega)) _ | refine Below.drew ?_ | refine bDN ?_ | refine bthen ?_ (by assumption)))
    have r59' := r59.below hb
    have d61 := slot_w hd 61 (rdA tplT x0) rfl rfl
    obtain ⟨cs61, e61, hf61⟩ := d61
    have e61' := ev e61
    go_simp
    exact ⟨Below.refl _ _, (eqTemplate_any w' r59' hf61).mono fun e w'' ⟨he, hb⟩ => ⟨_, he, hb, exV_eqB⟩⟩
  case j17_4 =>
    intro a' w' hb hd
    have e0 : a'.tmps[62]?.getD undef = .bool true := ev (slot_w hd 62 (exV (.bool true)) rfl rfl)
    go_simp
    exact ⟨Below.refl _ _, rfl⟩
  intro vs17 w8 hb8 H0
  obtain ⟨v17_0, _, rfl, p0, H1⟩ := HAll_cons H0
  obtain ⟨v17_1, _, rfl, p1, H2⟩ := HAll_cons H1
  obtain ⟨v17_2, _, rfl, p2, H3⟩ := HAll_cons H2
  obtain ⟨v17_3, _, rfl, p3, H4⟩ := HAll_cons H3
  obtain ⟨v17_4, _, rfl, p4, H5⟩ := HAll_cons H4
  obtain rfl := HAll_nil H5
  obtain rfl := p0 rfl
  obtain rfl := p1 rfl
  obtain rfl := p3 rfl
  obtain rfl := p4 rfl
  clear p0 p1 p2 p3 p4 H0 H1 H2 H3 H4 H5
  have gw8 : Below w7.heap.size w7 w8 := bthen (by repeat (first | exact Below.refl _ _ | exact bA | assumption | refine Below.setCell ?_ (by first | omega | (simp; try omega)) _ | refine Below.alloc ?_ (by first | omega | (simp; try omega)) _ | refine Below.drew ?_ | refine bDN ?_ | refine bthen ?_ (by assumption))) hb8
  have sw8 : w7.heap.size + 0 ≤ w8.heap.size := by have := hb8.size; (try simp at this); omega
  have f85 : w8.cell? ⟨w.heap.size, 0, none⟩ = some (.int .i64 x0.1) := (gw8.cell (by first | omega | (simp; try omega))).trans f67
  have f86 : w8.cell? ⟨w.heap.size, 1, none⟩ = some (u0) := (gw8.cell (by first | omega | (simp; try omega))).trans f68
  have f87 : w8.cell? ⟨w.heap.size + 1, 0, none⟩ = some (.int .i64 x1.1) := (gw8.cell (by first | omega | (simp; try omega))).trans f69
  have f88 : w8.cell? ⟨w.heap.size + 1, 1, none⟩ = some (u1) := (gw8.cell (by first | omega | (simp; try omega))).trans f70
  have f89 : w8.cell? ⟨w4.heap.size, 0, none⟩ = some (.int .i64 x0.1) := (gw8.cell (by first | omega | (simp; try omega))).trans f71
  have f90 : w8.cell? ⟨w4.heap.size, 1, none⟩ = some (.slice ad32 x0.2.length ad32') := (gw8.cell (by first | omega | (simp; try omega))).trans f72
  have f91 : w8.cell? ⟨w5.heap.size, 0, none⟩ = some (.int .i64 x1.1) := (gw8.cell (by first | omega | (simp; try omega))).trans f73
  have f92 : w8.cell? ⟨w5.heap.size, 1, none⟩ = some (.slice ad47 x1.2.length ad47') := (gw8.cell (by first | omega | (simp; try omega))).trans f74
  have z93 : w.heap.size < w8.heap.size := by omega
  have z94 : w.heap.size + 1 < w8.heap.size := by omega
  have z95 : w4.heap.size < w8.heap.size := by omega
  have z96 : w5.heap.size < w8.heap.size := by omega
  have hB97 : Below w.heap.size w w8 := bthen hB79 gw8
  have hB98 : Below w1.heap.size w1 w8 := bthen hB80 gw8
  have hB99 : Below w2.heap.size w2 w8 := bthen hB81 gw8
  have hB100 : Below w3.heap.size w3 w8 := bthen hB82 gw8
  have hB101 : Below w4.heap.size w4 w8 := bthen hB83 gw8
  have hB102 : Below w5.heap.size w5 w8 := bthen hB84 gw8
  have hB103 : Below w6.heap.size w6 w8 := bthen gw7 gw8
  clear hb8 f67 f68 f69 f70 f71 f72 f73 f74 hB79 hB80 hB81 hB82 hB83 hB84 gw7 z75 z76 z77 z78
  simp only [putAll, Act.put]
  go_simp
  go_wp2_with fail
  refine wp_region_loose [exV (.agg #[.int .i64 x1.1, .slice ad47 x1.2.length ad47']), exV (.agg #[.int .i64 x1.1, u1]), rdA instT x1, exV (.bool true), exV (.bool false)] (by kernel_rfl) (by kernel_rfl) ⟨st_exV, st_exV, st_rdA, st_exV, st_exV, trivial⟩ ⟨?j19_0, ?j19_1, ?j19_2, ?j19_3, ?j19_4, trivial⟩ ?hQ19
  case j19_0 =>
    intro a' w' hb hd
    have e0 : a'.tmps[11]?.getD undef = .pointer (some ⟨w5.heap.size, 0, none⟩) := ev (slot_o hd 11 rfl rfl)
    have q : ∀ b o, b < w8.heap.size → w'.cell? ⟨b, o, none⟩ = w8.cell? ⟨b, o, none⟩ := (bcell hb).1
    go_simp
    exact ⟨Below.refl _ _, rfl⟩
  case j19_1 =>
    intro a' w' hb hd
    have e0 : a'.tmps[4]?.getD undef = .pointer (some ⟨w.heap.size + 1, 0, none⟩) := ev (slot_o hd 4 rfl rfl)
    have q : ∀ b o, b < w8.heap.size → w'.cell? ⟨b, o, none⟩ = w8.cell? ⟨b, o, none⟩ := (bcell hb).1
    go_simp
    exact ⟨Below.refl _ _, rfl⟩
  case j19_2 =>
    intro a' w' hb hd
    have e65 : a'.tmps[65]?.getD undef = .agg #[.int .i64 x1.1, u1] := ev (slot_w hd 65 (exV (.agg #[.int .i64 x1.1, u1])) rfl rfl)
    have r65 : instT.Rd w8 (#[.int .i64 x1.1, u1] : Array Value).toList x1 := hx1.below (by repeat (first | exact Below.refl _ _ | exact bA | assumption | refine Below.setCell ?_ (by first | omega | (simp; try omega)) _ | refine Below.alloc ?_ (by first | omega | (simp; try omega)) _ | refine Below.drew ?_ | refine bDN ?_ | refine bthen ?_ (by assumption)))
    have r65' := r65.below hb
    go_simp
    exact ⟨Below.refl _ _, (toInstance_any w' r65' (by first | omega | (unfold szInts; omega))).mono fun e w'' ⟨cs, he, hf, hb⟩ => ⟨_, he, hb, cs, rfl, hf.rd⟩⟩
  case j19_3 =>
    intro a' w' hb hd
    have e64 : a'.tmps[64]?.getD undef = .agg #[.int .i64 x1.1, .slice ad47 x1.2.length ad47'] := ev (slot_w hd 64 (exV (.agg #[.int .i64 x1.1, .slice ad47 x1.2.length ad47'])) rfl rfl)
    have r64 : instT.Rd w8 (#[.int .i64 x1.1, .slice ad47 x1.2.length ad47'] : Array Value).toList x1 := hc33.rd.below (by repeat (first | exact Below.refl _ _ | exact bA | assumption | refine Below.setCell ?_ (by first | omega | (simp; try omega)) _ | refine Below.alloc ?_ (by first | omega | (simp; try omega)) _ | refine Below.drew ?_ | refine bDN ?_ | refine bthen ?_ (by assumption)))
    have r64' := r64.below hb
    have d66 := slot_w hd 66 (rdA instT x1) rfl rfl
    obtain ⟨cs66, e66, hf66⟩ := d66
    have e66' := ev e66
    go_simp
    exact ⟨Below.refl _ _, (eqInstance_any w' r64' hf66).mono fun e w'' ⟨he, hb⟩ => ⟨_, he, hb, exV_eqB⟩⟩
  case j19_4 =>
    intro a' w' hb hd
    have e0 : a'.tmps[67]?.getD undef = .bool true := ev (slot_w hd 67 (exV (.bool true)) rfl rfl)
    go_simp
    exact ⟨Below.refl _ _, rfl⟩
  intro vs19 w9 hb9 H0
  obtain ⟨v19_0, _, rfl, p0, H1⟩ := HAll_cons H0
  obtain ⟨v19_1, _, rfl, p1, H2⟩ := HAll_cons H1
  obtain ⟨v19_2, _, rfl, p2, H3⟩ := HAll_cons H2
  obtain ⟨v19_3, _, rfl, p3, H4⟩ := HAll_cons H3
  obtain ⟨v19_4, _, rfl, p4, H5⟩ := HAll_cons H4
  obtain rfl := HAll_nil H5
  obtain rfl := p0 rfl
  obtain rfl := p1 rfl
  obtain rfl := p3 rfl
  obtain rfl := p4 rfl
  clear p0 p1 p2 p3 p4 H0 H1 H2 H3 H4 H5
  have gw9 : Below w8.heap.size w8 w9 := bthen (by repeat (first | exact Below.refl _ _ | exact bA | assumption | refine Below.setCell ?_ (by first | omega | (simp; try omega)) _ | refine Below.alloc ?_ (by first | omega | (simp; try omega)) _ | refine Below.drew ?_ | refine bDN ?_ | refine bthen ?_ (by assumption))) hb9
  have sw9 : w8.heap.size + 0 ≤ w9.heap.size := by have := hb9.size; (try simp at this); omega
  have f104 : w9.cell? ⟨w.heap.size, 0, none⟩ = some (.int .i64 x0.1) := (gw9.cell (by first | omega | (simp; try omega))).trans f85
  have f105 : w9.cell? ⟨w.heap.size, 1, none⟩ = some (u0) := (gw9.cell (by first | omega | (simp; try omega))).trans f86
  have f106 : w9.cell? ⟨w.heap.size + 1, 0, none⟩ = some (.int .i64 x1.1) := (gw9.cell (by first | omega | (simp; try omega))).trans f87
  have f107 : w9.cell? ⟨w.heap.size + 1, 1, none⟩ = some (u1) := (gw9.cell (by first | omega | (simp; try omega))).trans f88
  have f108 : w9.cell? ⟨w4.heap.size, 0, none⟩ = some (.int .i64 x0.1) := (gw9.cell (by first | omega | (simp; try omega))).trans f89
  have f109 : w9.cell? ⟨w4.heap.size, 1, none⟩ = some (.slice ad32 x0.2.length ad32') := (gw9.cell (by first | omega | (simp; try omega))).trans f90
  have f110 : w9.cell? ⟨w5.heap.size, 0, none⟩ = some (.int .i64 x1.1) := (gw9.cell (by first | omega | (simp; try omega))).trans f91
  have f111 : w9.cell? ⟨w5.heap.size, 1, none⟩ = some (.slice ad47 x1.2.length ad47') := (gw9.cell (by first | omega | (simp; try omega))).trans f92
  have z112 : w.heap.size < w9.heap.size := by omega
  have z113 : w.heap.size + 1 < w9.heap.size := by omega
  have z114 : w4.heap.size < w9.heap.size := by omega
  have z115 : w5.heap.size < w9.heap.size := by omega
  have hB116 : Below w.heap.size w w9 := bthen hB97 gw9
  have hB117 : Below w1.heap.size w1 w9 := bthen hB98 gw9
  have hB118 : Below w2.heap.size w2 w9 := bthen hB99 gw9
  have hB119 : Below w3.heap.size w3 w9 := bthen hB100 gw9
  have hB120 : Below w4.heap.size w4 w9 := bthen hB101 gw9
  have hB121 : Below w5.heap.size w5 w9 := bthen hB102 gw9
  have hB122 : Below w6.heap.size w6 w9 := bthen hB103 gw9
  have hB123 : Below w7.heap.size w7 w9 := bthen gw8 gw9
  clear hb9 f85 f86 f87 f88 f89 f90 f91 f92 hB97 hB98 hB99 hB100 hB101 hB102 hB103 gw8 z93 z94 z95 z96
  simp only [putAll, Act.put]
  go_simp
  go_wp2_with fail
  refine (toInt64S_any _ (hx2.below (by repeat (first | exact Below.refl _ _ | exact bA | assumption | refine Below.setCell ?_ (by first | omega | (simp; try omega)) _ | refine Below.alloc ?_ (by first | omega | (simp; try omega)) _ | refine Below.drew ?_ | refine bDN ?_ | refine bthen ?_ (by assumption)))) (by first | omega | (unfold szInts; omega))).mono ?_
  rintro e w10 ⟨u, rfl, hc124, hb10⟩
  have gw10 : Below w9.heap.size w9 w10 := bthen (by repeat (first | exact Below.refl _ _ | exact bA | assumption | refine Below.setCell ?_ (by first | omega | (simp; try omega)) _ | refine Below.alloc ?_ (by first | omega | (simp; try omega)) _ | refine Below.drew ?_ | refine bDN ?_ | refine bthen ?_ (by assumption))) hb10
  have sw10 : w9.heap.size + 0 ≤ w10.heap.size := by have := hb10.size; (try simp at this); omega
  have f125 : w10.cell? ⟨w.heap.size, 0, none⟩ = some (.int .i64 x0.1) := (gw10.cell (by first | omega | (simp; try omega))).trans f104
  have f126 : w10.cell? ⟨w.heap.size, 1, none⟩ = some (u0) := (gw10.cell (by first | omega | (simp; try omega))).trans f105
  have f127 : w10.cell? ⟨w.heap.size + 1, 0, none⟩ = some (.int .i64 x1.1) := (gw10.cell (by first | omega | (simp; try omega))).trans f106
  have f128 : w10.cell? ⟨w.heap.size + 1, 1, none⟩ = some (u1) := (gw10.cell (by first | omega | (simp; try omega))).trans f107
  have f129 : w10.cell? ⟨w4.heap.size, 0, none⟩ = some (.int .i64 x0.1) := (gw10.cell (by first | omega | (simp; try omega))).trans f108
  have f130 : w10.cell? ⟨w4.heap.size, 1, none⟩ = some (.slice ad32 x0.2.length ad32') := (gw10.cell (by first | omega | (simp; try omega))).trans f109
  have f131 : w10.cell? ⟨w5.heap.size, 0, none⟩ = some (.int .i64 x1.1) := (gw10.cell (by first | omega | (simp; try omega))).trans f110
  have f132 : w10.cell? ⟨w5.heap.size, 1, none⟩ = some (.slice ad47 x1.2.length ad47') := (gw10.cell (by first | omega | (simp; try omega))).trans f111
  have z133 : w.heap.size < w10.heap.size := by omega
  have z134 : w.heap.size + 1 < w10.heap.size := by omega
  have z135 : w4.heap.size < w10.heap.size := by omega
  have z136 : w5.heap.size < w10.heap.size := by omega
  have hB137 : Below w.heap.size w w10 := bthen hB116 gw10
  have hB138 : Below w1.heap.size w1 w10 := bthen hB117 gw10
  have hB139 : Below w2.heap.size w2 w10 := bthen hB118 gw10
  have hB140 : Below w3.heap.size w3 w10 := bthen hB119 gw10
  have hB141 : Below w4.heap.size w4 w10 := bthen hB120 gw10
  have hB142 : Below w5.heap.size w5 w10 := bthen hB121 gw10
  have hB143 : Below w6.heap.size w6 w10 := bthen hB122 gw10
  have hB144 : Below w7.heap.size w7 w10 := bthen hB123 gw10
  have hB145 : Below w8.heap.size w8 w10 := bthen gw9 gw10
  clear hb10 f104 f105 f106 f107 f108 f109 f110 f111 hB116 hB117 hB118 hB119 hB120 hB121 hB122 hB123 gw9 z112 z113 z114 z115
  obtain ⟨ad146, ad146', rfl⟩ := fr_slice hc124
  go_wp2_with fail
  refine (eqInt64S_any _ (hc48.rd.below (by repeat (first | exact Below.refl _ _ | exact bA | assumption | refine Below.setCell ?_ (by first | omega | (simp; try omega)) _ | refine Below.alloc ?_ (by first | omega | (simp; try omega)) _ | refine Below.drew ?_ | refine bDN ?_ | refine bthen ?_ (by assumption)))) (hc124.rd.below (by repeat (first | exact Below.refl _ _ | exact bA | assumption | refine Below.setCell ?_ (by first | omega | (simp; try omega)) _ | refine Below.alloc ?_ (by first | omega | (simp; try omega)) _ | refine Below.drew ?_ | refine bDN ?_ | refine bthen ?_ (by assumption))))).mono ?_
  rintro e w11 ⟨rfl, hb11⟩
  have gw11 : Below w10.heap.size w10 w11 := bthen (by repeat (first | exact Below.refl _ _ | exact bA | assumption | refine Below.setCell ?_ (by first | omega | (simp; try omega)) _ | refine Below.alloc ?_ (by first | omega | (simp; try omega)) _ | refine Below.drew ?_ | refine bDN ?_ | refine bthen ?_ (by assumption))) hb11
  have sw11 : w10.heap.size + 0 ≤ w11.heap.size := by have := hb11.size; (try simp at this); omega
  have f147 : w11.cell? ⟨w.heap.size, 0, none⟩ = some (.int .i64 x0.1) := (gw11.cell (by first | omega | (simp; try omega))).trans f125
  have f148 : w11.cell? ⟨w.heap.size, 1, none⟩ = some (u0) := (gw11.cell (by first | omega | (simp; try omega))).trans f126
  have f149 : w11.cell? ⟨w.heap.size + 1, 0, none⟩ = some (.int .i64 x1.1) := (gw11.cell (by first | omega | (simp; try omega))).trans f127
  have f150 : w11.cell? ⟨w.heap.size + 1, 1, none⟩ = some (u1) := (gw11.cell (by first | omega | (simp; try omega))).trans f128
  have f151 : w11.cell? ⟨w4.heap.size, 0, none⟩ = some (.int .i64 x0.1) := (gw11.cell (by first | omega | (simp; try omega))).trans f129
  have f152 : w11.cell? ⟨w4.heap.size, 1, none⟩ = some (.slice ad32 x0.2.length ad32') := (gw11.cell (by first | omega | (simp; try omega))).trans f130
  have f153 : w11.cell? ⟨w5.heap.size, 0, none⟩ = some (.int .i64 x1.1) := (gw11.cell (by first | omega | (simp; try omega))).trans f131
  have f154 : w11.cell? ⟨w5.heap.size, 1, none⟩ = some (.slice ad47 x1.2.length ad47') := (gw11.cell (by first | omega | (simp; try omega))).trans f132
  have z155 : w.heap.size < w11.heap.size := by omega
  have z156 : w.heap.size + 1 < w11.heap.size := by omega
  have z157 : w4.heap.size < w11.heap.size := by omega
  have z158 : w5.heap.size < w11.heap.size := by omega
  have hB159 : Below w.heap.size w w11 := bthen hB137 gw11
  have hB160 : Below w1.heap.size w1 w11 := bthen hB138 gw11
  have hB161 : Below w2.heap.size w2 w11 := bthen hB139 gw11
  have hB162 : Below w3.heap.size w3 w11 := bthen hB140 gw11
  have hB163 : Below w4.heap.size w4 w11 := bthen hB141 gw11
  have hB164 : Below w5.heap.size w5 w11 := bthen hB142 gw11
  have hB165 : Below w6.heap.size w6 w11 := bthen hB143 gw11
  have hB166 : Below w7.heap.size w7 w11 := bthen hB144 gw11
  have hB167 : Below w8.heap.size w8 w11 := bthen hB145 gw11
  have hB168 : Below w9.heap.size w9 w11 := bthen gw10 gw11
  clear hb11 f125 f126 f127 f128 f129 f130 f131 f132 hB137 hB138 hB139 hB140 hB141 hB142 hB143 hB144 hB145 gw10 z133 z134 z135 z136
  rw [eqB_true rfl]
  go_wp2_with fail
  go_ret
  exact ⟨rfl, (by repeat (first | exact Below.refl _ _ | exact bA | assumption | refine Below.setCell ?_ (by first | omega | (simp; try omega)) _ | refine Below.alloc ?_ (by first | omega | (simp; try omega)) _ | refine Below.drew ?_ | refine bDN ?_ | refine bthen ?_ (by assumption)))⟩
end Go.Proofs.Ytadncmlfkoolkaa
