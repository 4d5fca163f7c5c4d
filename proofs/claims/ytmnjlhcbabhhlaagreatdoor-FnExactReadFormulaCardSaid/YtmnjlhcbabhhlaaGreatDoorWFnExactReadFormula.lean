/-
 The law FnExactReadFormula, walked: its contract.
-/
import Derived.Test.YtmnjlhcbabhhlaaGreatDoorQAE
import Derived.Test.YtmnjlhcbabhhlaaGreatDoorQAF
import Derived.Test.YtmnjlhcbabhhlaaGreatDoorQAB
namespace Go.Proofs.YtmnjlhcbabhhlaaGreatDoor
open Go.RowKit Go.Sort
set_option maxHeartbeats 6400000 in
set_option maxRecDepth 100000 in
theorem fnExactReadFormula_any (w : World) (hp : RfPre w) {t : List UInt8} :
  Calls Tryz.prog 3 #[.string (bs t)] w fun e w' => e = .returned (.bool true) ∧ Below w.heap.size w w' := by
 obtain ⟨S, hS⟩ : ∃ S, S = bs t := ⟨_, rfl⟩
 have hsz : S.size = t.length := by rw [hS, bs_size]
 have HS := Lib.hid hS
 have HP := Lib.hid hp
 rw [← hS]
 clear hS hp
 have H_w : Below w.heap.size w w := Below.refl _ _
 cases hd : decide ((1048576 : Int) < ((t.length : Nat) : Int))
 rotate_left
 ·have hlt : (1048576 : Int) < ((t.length : Nat) : Int) := of_decide_eq_true hd
  go_enter Tryz.func3, Tryz.ntmps3
  go_wp2_with fail
  go_ret
  exact ⟨rfl, (by repeat (first | exact Below.refl _ _ | exact bA | assumption | refine Below.setCell ?_ (by first | omega | (simp; try omega)) _ | refine Below.alloc ?_ (by first | omega | (simp; try omega)) _ | refine Below.drew ?_ | refine bDN ?_ | refine bthen ?_ (by assumption)))⟩
 have hlt : ¬ (1048576 : Int) < ((t.length : Nat) : Int) := of_decide_eq_false hd
 have hcr : cntFrm (rfV t) ≤ 1000000 := rf_cnt
 have hcz : 0 ≤ cntFrm (rfV t) := cntOps_nn _
 go_enter Tryz.func3, Tryz.ntmps3
 go_wp2_with fail
 rw [HS.out]
 refine (specReadFormula_any _ (t := t)).mono ?_
 rintro e w1 ⟨cs, rfl, hc1, hb1⟩
 have H_w1 : Below w.heap.size w w1 := bthen (by repeat (first | exact Below.refl _ _ | exact bA | assumption | refine Below.setCell ?_ (by first | omega | (simp; try omega)) _ | refine Below.alloc ?_ (by first | omega | (simp; try omega)) _ | refine Below.drew ?_ | refine bDN ?_ | refine bthen ?_ (by assumption))) hb1
 have sw1 := hb1.size
 obtain ⟨a1, a1', rfl⟩ := fr_trip hc1
 have d1 : frmT.Fx w.heap.size w1.heap.size w1 [.int .i64 (rfV t).1, .int .i64 (rfV t).2.1, .slice a1 (rfV t).2.2.length a1'] (rfV t) := (Ty.Fr.mono hc1 (Nat.le_refl _)).fx
 clear hc1 hb1
 go_wp2_with fail
 refine (ReadFormula_any _ (HP.out.below (by repeat (first | exact Below.refl _ _ | exact bA | assumption | refine Below.setCell ?_ (by first | omega | (simp; try omega)) _ | refine Below.alloc ?_ (by first | omega | (simp; try omega)) _ | refine Below.drew ?_ | refine bDN ?_ | refine bthen ?_ (by assumption)))) (t := t)).mono ?_
 rintro e w2 ⟨cs, rfl, hc2, hb2⟩
 have gw2 : Below w1.heap.size w1 w2 := bthen (by repeat (first | exact Below.refl _ _ | exact bA | assumption | refine Below.setCell ?_ (by first | omega | (simp; try omega)) _ | refine Below.alloc ?_ (by first | omega | (simp; try omega)) _ | refine Below.drew ?_ | refine bDN ?_ | refine bthen ?_ (by assumption))) hb2
 have sw2 : w1.heap.size + 1 ≤ w2.heap.size := by have := hb2.size; (try simp at this); omega
 have H_w2 : Below w.heap.size w w2 := bthen H_w1 gw2
 have p0 : w2.cell? ⟨w1.heap.size, 0, none⟩ = some (.int .i64 (rfV t).1) := by rw [(bcell hb2).1 _ _ (by first | omega | (simp; try omega))]; simp
 have p1 : w2.cell? ⟨w1.heap.size, 1, none⟩ = some (.int .i64 (rfV t).2.1) := by rw [(bcell hb2).1 _ _ (by first | omega | (simp; try omega))]; simp
 have p2 : w2.cell? ⟨w1.heap.size, 2, none⟩ = some (.slice a1 (rfV t).2.2.length a1') := by rw [(bcell hb2).1 _ _ (by first | omega | (simp; try omega))]; simp
 replace d1 := d1.below gw2
 obtain ⟨a2, a2', rfl⟩ := fr_trip hc2
 have d2 : frmT.Fx (w1.heap.size + 1) w2.heap.size w2 [.int .i64 (rfV t).1, .int .i64 (rfV t).2.1, .slice a2 (rfV t).2.2.length a2'] (rfV t) := (Ty.Fr.mono hc2 (by first | exact Nat.le_refl _ | (simp; try omega))).fx
 clear hc2 hb2 gw2
 have tp0 : ∀ o, (World.alloc w2 o).cell? ⟨w1.heap.size, 0, none⟩ = _ := fun o => (cellB (bA (w := w2) (o := o)) (by omega)).trans p0
 have tp1 : ∀ o, (World.alloc w2 o).cell? ⟨w1.heap.size, 1, none⟩ = _ := fun o => (cellB (bA (w := w2) (o := o)) (by omega)).trans p1
 have tp2 : ∀ o, (World.alloc w2 o).cell? ⟨w1.heap.size, 2, none⟩ = _ := fun o => (cellB (bA (w := w2) (o := o)) (by omega)).trans p2
 go_wp2_with fail
 refine (eqFormula_any _ (d2.rd.below (by repeat (first | exact Below.refl _ _ | exact bA | assumption | refine Below.setCell ?_ (by first | omega | (simp; try omega)) _ | refine Below.alloc ?_ (by first | omega | (simp; try omega)) _ | refine Below.drew ?_ | refine bDN ?_ | refine bthen ?_ (by assumption)))) (d1.rd.below (by repeat (first | exact Below.refl _ _ | exact bA | assumption | refine Below.setCell ?_ (by first | omega | (simp; try omega)) _ | refine Below.alloc ?_ (by first | omega | (simp; try omega)) _ | refine Below.drew ?_ | refine bDN ?_ | refine bthen ?_ (by assumption))))).mono ?_
 clear tp0 tp1 tp2
 rintro e w3 ⟨rfl, hb3⟩
 have gw3 : Below w2.heap.size w2 w3 := bthen (by repeat (first | exact Below.refl _ _ | exact bA | assumption | refine Below.setCell ?_ (by first | omega | (simp; try omega)) _ | refine Below.alloc ?_ (by first | omega | (simp; try omega)) _ | refine Below.drew ?_ | refine bDN ?_ | refine bthen ?_ (by assumption))) hb3
 have sw3 : w2.heap.size + 1 ≤ w3.heap.size := by have := hb3.size; (try simp at this); omega
 have H_w3 : Below w.heap.size w w3 := bthen H_w2 gw3
 have q0 : w3.cell? ⟨w2.heap.size, 0, none⟩ = some (.int .i64 (rfV t).1) := by rw [(bcell hb3).1 _ _ (by first | omega | (simp; try omega))]; simp
 have q1 : w3.cell? ⟨w2.heap.size, 1, none⟩ = some (.int .i64 (rfV t).2.1) := by rw [(bcell hb3).1 _ _ (by first | omega | (simp; try omega))]; simp
 have q2 : w3.cell? ⟨w2.heap.size, 2, none⟩ = some (.slice a2 (rfV t).2.2.length a2') := by rw [(bcell hb3).1 _ _ (by first | omega | (simp; try omega))]; simp
 replace p0 := (cellB gw3 (by omega)).trans p0
 replace p1 := (cellB gw3 (by omega)).trans p1
 replace p2 := (cellB gw3 (by omega)).trans p2
 replace d1 := d1.below gw3
 replace d2 := d2.below gw3
 clear hb3 gw3
 rw [eqB_true rfl]
 go_wp2_with fail
 refine (markFormula_fx _ d2 _ (by omega) (by omega)).mono ?_
 rintro e w4 ⟨rfl, hb4, d2⟩
 have sw4 : w3.heap.size ≤ w4.heap.size := hb4.size
 have H_w4 : Below w.heap.size w w4 := below_tch H_w3 hb4 (by omega) (by omega)
 replace p0 := (hb4.cell (by omega) (by omega)).trans p0
 replace p1 := (hb4.cell (by omega) (by omega)).trans p1
 replace p2 := (hb4.cell (by omega) (by omega)).trans p2
 replace q0 := (hb4.cell (by omega) (by omega)).trans q0
 replace q1 := (hb4.cell (by omega) (by omega)).trans q1
 replace q2 := (hb4.cell (by omega) (by omega)).trans q2
 replace d1 := d1.tch hb4 (by omega)
 clear hb4
 go_wp2_with fail
 refine (heldFormula_any _ _ d2.rd (by omega) (by omega)).mono ?_
 rintro e w5 ⟨rfl, hb5⟩
 have gw5 : Below w4.heap.size w4 w5 := bthen (by repeat (first | exact Below.refl _ _ | exact bA | assumption | refine Below.setCell ?_ (by first | omega | (simp; try omega)) _ | refine Below.alloc ?_ (by first | omega | (simp; try omega)) _ | refine Below.drew ?_ | refine bDN ?_ | refine bthen ?_ (by assumption))) hb5
 have sw5 := hb5.size
 have H_w5 : Below w.heap.size w w5 := bthen H_w4 gw5
 replace p0 := (cellB gw5 (by omega)).trans p0
 replace p1 := (cellB gw5 (by omega)).trans p1
 replace p2 := (cellB gw5 (by omega)).trans p2
 replace q0 := (cellB gw5 (by omega)).trans q0
 replace q1 := (cellB gw5 (by omega)).trans q1
 replace q2 := (cellB gw5 (by omega)).trans q2
 replace d1 := d1.below gw5
 replace d2 := d2.below gw5
 clear hb5 gw5
 go_wp2_with fail
 refine (ReadFormula_any _ (HP.out.below H_w5) (t := t)).mono ?_
 rintro e w6 ⟨cs, rfl, hc6, hb6⟩
 have gw6 : Below w5.heap.size w5 w6 := bthen (by repeat (first | exact Below.refl _ _ | exact bA | assumption | refine Below.setCell ?_ (by first | omega | (simp; try omega)) _ | refine Below.alloc ?_ (by first | omega | (simp; try omega)) _ | refine Below.drew ?_ | refine bDN ?_ | refine bthen ?_ (by assumption))) hb6
 have sw6 := hb6.size
 have H_w6 : Below w.heap.size w w6 := bthen H_w5 gw6
 replace p0 := (cellB gw6 (by omega)).trans p0
 replace p1 := (cellB gw6 (by omega)).trans p1
 replace p2 := (cellB gw6 (by omega)).trans p2
 replace q0 := (cellB gw6 (by omega)).trans q0
 replace q1 := (cellB gw6 (by omega)).trans q1
 replace q2 := (cellB gw6 (by omega)).trans q2
 replace d1 := d1.below gw6
 replace d2 := d2.below gw6
 obtain ⟨a6, a6', rfl⟩ := fr_trip hc6
 have d6 : frmT.Fx w5.heap.size w6.heap.size w6 [.int .i64 (rfV t).1, .int .i64 (rfV t).2.1, .slice a6 (rfV t).2.2.length a6'] (rfV t) := (Ty.Fr.mono hc6 (by first | exact Nat.le_refl _ | (simp; try omega))).fx
 clear hc6 hb6 gw6
 have tp0 : ∀ o, (World.alloc w6 o).cell? ⟨w1.heap.size, 0, none⟩ = _ := fun o => (cellB (bA (w := w6) (o := o)) (by omega)).trans p0
 have tp1 : ∀ o, (World.alloc w6 o).cell? ⟨w1.heap.size, 1, none⟩ = _ := fun o => (cellB (bA (w := w6) (o := o)) (by omega)).trans p1
 have tp2 : ∀ o, (World.alloc w6 o).cell? ⟨w1.heap.size, 2, none⟩ = _ := fun o => (cellB (bA (w := w6) (o := o)) (by omega)).trans p2
 go_wp2_with fail
 refine (eqFormula_any _ (d6.rd.below (by repeat (first | exact Below.refl _ _ | exact bA | assumption | refine Below.setCell ?_ (by first | omega | (simp; try omega)) _ | refine Below.alloc ?_ (by first | omega | (simp; try omega)) _ | refine Below.drew ?_ | refine bDN ?_ | refine bthen ?_ (by assumption)))) (d1.rd.below (by repeat (first | exact Below.refl _ _ | exact bA | assumption | refine Below.setCell ?_ (by first | omega | (simp; try omega)) _ | refine Below.alloc ?_ (by first | omega | (simp; try omega)) _ | refine Below.drew ?_ | refine bDN ?_ | refine bthen ?_ (by assumption))))).mono ?_
 clear tp0 tp1 tp2
 rintro e w7 ⟨rfl, hb7⟩
 have gw7 : Below w6.heap.size w6 w7 := bthen (by repeat (first | exact Below.refl _ _ | exact bA | assumption | refine Below.setCell ?_ (by first | omega | (simp; try omega)) _ | refine Below.alloc ?_ (by first | omega | (simp; try omega)) _ | refine Below.drew ?_ | refine bDN ?_ | refine bthen ?_ (by assumption))) hb7
 have sw7 : w6.heap.size + 1 ≤ w7.heap.size := by have := hb7.size; (try simp at this); omega
 have H_w7 : Below w.heap.size w w7 := bthen H_w6 gw7
 replace q0 := (cellB gw7 (by omega)).trans q0
 replace q1 := (cellB gw7 (by omega)).trans q1
 replace q2 := (cellB gw7 (by omega)).trans q2
 replace d2 := d2.below gw7
 clear hb7 gw7 p0 p1 p2 d1 d6
 rw [eqB_true rfl]
 go_wp2_with fail
 refine (heldFormula_any _ _ d2.rd (by omega) (by omega)).mono ?_
 rintro e w8 ⟨rfl, hb8⟩
 have gw8 : Below w7.heap.size w7 w8 := bthen (by repeat (first | exact Below.refl _ _ | exact bA | assumption | refine Below.setCell ?_ (by first | omega | (simp; try omega)) _ | refine Below.alloc ?_ (by first | omega | (simp; try omega)) _ | refine Below.drew ?_ | refine bDN ?_ | refine bthen ?_ (by assumption))) hb8
 have H_w8 : Below w.heap.size w w8 := bthen H_w7 gw8
 go_wp2_with fail
 go_ret
 exact ⟨rfl, (by repeat (first | exact Below.refl _ _ | exact bA | assumption | refine Below.setCell ?_ (by first | omega | (simp; try omega)) _ | refine Below.alloc ?_ (by first | omega | (simp; try omega)) _ | refine Below.drew ?_ | refine bDN ?_ | refine bthen ?_ (by assumption)))⟩
end Go.Proofs.YtmnjlhcbabhhlaaGreatDoor
