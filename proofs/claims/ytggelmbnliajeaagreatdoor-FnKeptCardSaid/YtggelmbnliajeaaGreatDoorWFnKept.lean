/-
 The law FnKept, walked: its contract. Printed by gen_fk.py.
-/
import Derived.Test.YtggelmbnliajeaaGreatDoorQBB
import Derived.Test.YtggelmbnliajeaaGreatDoorQAI
import Derived.Test.YtggelmbnliajeaaGreatDoorQAA
import Derived.Test.YtggelmbnliajeaaGreatDoorQAF
namespace Go.Proofs.YtggelmbnliajeaaGreatDoor
open Go.RowKit Go.Sort
theorem f6bigK_any (w : World) {v : Value} {xs : List Int} (h : bytesT.Rd w [v] xs) : Calls Tryz.prog 18 #[v] w fun e w' => ∃ b, e = .returned (.bool b) ∧ w = w' := by
 obtain ⟨ad, cap, rfl⟩ := rd_slice h
 clear h
 cases hb : decide ((4096 : Int) < ((xs.length : Nat) : Int))
 all_goals
  go_enter Tryz.func18, Tryz.ntmps18
  go_wp2
  go_ret
  exact ⟨_, rfl, rfl⟩
set_option maxHeartbeats 25600000 in
set_option maxRecDepth 100000 in
theorem fnKept_any (w : World) {v0 v1 : Value} {x0 x1 : List Int} (h0 : bytesT.Rd w [v0] x0) (h1 : bytesT.Rd w [v1] x1) :
  Calls Tryz.prog 4 #[v0, v1] w fun e w' => e = .returned (.bool true) ∧ Below w.heap.size w w' := by
 obtain ⟨a0, k0, rfl⟩ := rd_slice h0
 obtain ⟨a1, k1, rfl⟩ := rd_slice h1
 have H0 := Lib.hid h0
 have H1 := Lib.hid h1
 have hbw0 : Below w.heap.size w w := Below.refl _ _
 clear h0 h1
 go_enter Tryz.func4, Tryz.ntmps4
 go_wp2_with fail
 refine (f6bigK_any w H0.out).mono ?_
 rintro e _ ⟨b, rfl, rfl⟩
 cases b
 rotate_left
 ·go_wp2_with fail
  go_ret
  exact ⟨rfl, Below.refl _ _⟩
 go_wp2_with fail
 refine (f6bigK_any w H1.out).mono ?_
 rintro e _ ⟨b, rfl, rfl⟩
 cases b
 rotate_left
 ·go_wp2_with fail
  go_ret
  exact ⟨rfl, Below.refl _ _⟩
 go_wp2_with fail
 refine (P6Pick_any w H0.out (n := 2) (by omega)).mono ?_
 rintro e w1 ⟨x, rfl, hx0, hx1, hb1⟩
 have hz1 := hb1.size
 replace H0 := Lib.hid (H0.out.below hb1)
 replace H1 := Lib.hid (H1.out.below hb1)
 have hbw1 := bthen hbw0 hb1
 obtain ⟨s, hs⟩ : ∃ s : Int, 2 + x = s := ⟨_, rfl⟩
 have hwr : IntKind.i64.wrap (2 + x) = s := by rw [hs]; exact wrap_small (by omega) (by omega)
 have hs4 : 1 ≤ s ∧ s ≤ 4 := by omega
 clear hs
 go_wp2_with fail
 refine (P6Pick_any w1 H1.out (n := 2) (by omega)).mono ?_
 rintro e w2 ⟨y, rfl, hy0, hy1, hb2⟩
 have hz2 := hb2.size
 replace H0 := Lib.hid (H0.out.below hb2)
 replace H1 := Lib.hid (H1.out.below hb2)
 have hbw2 := bthen hbw1 hb2
 obtain ⟨aop, haop⟩ : ∃ aop : Nat, 1 + y = (aop : Int) := ⟨(1 + y).toNat, by omega⟩
 have hwq : IntKind.i64.wrap (1 + y) = (aop : Int) := by rw [haop]; exact wrap_small (by omega) (by omega)
 have haop2 : 1 ≤ aop ∧ aop ≤ 2 := by omega
 clear haop
 go_wp2_with fail
 clear hwr hwq
 refine (P6Op_any w2 H0.out (s := s) (ar := aop) hs4 haop2).mono ?_
 rintro e w3 ⟨cs, op, rfl, hf, hok, hoa, hb3⟩
 obtain ⟨oa, oc, rfl⟩ := fr_pair hf
 have HOP := Lib.hid hf.rd
 have HOK := Lib.hid hok
 clear hf hok hoa
 have hz3 := hb3.size
 replace H0 := Lib.hid (H0.out.below hb3)
 replace H1 := Lib.hid (H1.out.below hb3)
 have hbw3 := bthen hbw2 hb3
 go_wp2_with fail
 generalize hW4 : World.alloc w3 _ = w4
 have hb4 : Below w3.heap.size w3 w4 := hW4 ▸ bA
 have hy4 : w3.heap.size + 1 ≤ w4.heap.size := by rw [← hW4]; simp
 have p0 : w4.cell? ⟨w3.heap.size, 0, none⟩ = some (.int .i64 op.1) := by rw [← hW4]; simp [go_sem]
 have p1 : w4.cell? ⟨w3.heap.size, 1, none⟩ = some (.slice oa op.2.length oc) := by rw [← hW4]; simp [go_sem]
 have hss4 : w4.heap.size = w3.heap.size + 1 := by rw [← hW4]; simp
 clear hW4
 have hz4 := hb4.size
 replace H0 := Lib.hid (H0.out.below hb4)
 replace H1 := Lib.hid (H1.out.below hb4)
 replace HOP := Lib.hid (HOP.out.below hb4)
 have hbw4 := bthen hbw3 hb4
 refine (P6Op2_any w4 H1.out (s := s) hs4).mono ?_
 rintro e w5 ⟨cs, g, rfl, hf, hok, hoa, hb5⟩
 obtain ⟨ga, gc, rfl⟩ := fr_pair hf
 have HG := Lib.hid hf.rd
 have HGK := Lib.hid hok
 clear hf hok hoa
 have hz5 := hb5.size
 replace p0 := (cellB hb5 (by omega)).trans p0
 replace p1 := (cellB hb5 (by omega)).trans p1
 replace H0 := Lib.hid (H0.out.below hb5)
 replace H1 := Lib.hid (H1.out.below hb5)
 replace HOP := Lib.hid (HOP.out.below hb5)
 have hbw5 := bthen hbw4 hb5
 have ta_p0 : ∀ o : Obj, (World.alloc w5 o).cell? ⟨w3.heap.size, 0, none⟩ = some (.int .i64 op.1) := fun o => (cellB bA (by omega)).trans p0
 have ta_p1 : ∀ o : Obj, (World.alloc w5 o).cell? ⟨w3.heap.size, 1, none⟩ = some (.slice oa op.2.length oc) := fun o => (cellB bA (by omega)).trans p1
 go_wp2_with fail
 clear ta_p0 ta_p1
 generalize hW6 : World.alloc w5 _ = w6
 have hb6 : Below w5.heap.size w5 w6 := hW6 ▸ bA
 have hy6 : w5.heap.size + 1 ≤ w6.heap.size := by rw [← hW6]; simp
 have g0 : w6.cell? ⟨w5.heap.size, 0, none⟩ = some (.int .i64 g.1) := by rw [← hW6]; simp [go_sem]
 have g1 : w6.cell? ⟨w5.heap.size, 1, none⟩ = some (.slice ga g.2.length gc) := by rw [← hW6]; simp [go_sem]
 have hss6 : w6.heap.size = w5.heap.size + 1 := by rw [← hW6]; simp
 clear hW6
 have hz6 := hb6.size
 replace p0 := (cellB hb6 (by omega)).trans p0
 replace p1 := (cellB hb6 (by omega)).trans p1
 replace H0 := Lib.hid (H0.out.below hb6)
 replace H1 := Lib.hid (H1.out.below hb6)
 replace HOP := Lib.hid (HOP.out.below hb6)
 replace HG := Lib.hid (HG.out.below hb6)
 have hbw6 := bthen hbw5 hb6
 refine (P6Pick_any w6 H0.out (n := 2) (by omega)).mono ?_
 rintro e w7 ⟨z, rfl, hzz0, hzz1, hb7⟩
 have hz7 := hb7.size
 replace p0 := (cellB hb7 (by omega)).trans p0
 replace p1 := (cellB hb7 (by omega)).trans p1
 replace g0 := (cellB hb7 (by omega)).trans g0
 replace g1 := (cellB hb7 (by omega)).trans g1
 replace H0 := Lib.hid (H0.out.below hb7)
 replace H1 := Lib.hid (H1.out.below hb7)
 replace HOP := Lib.hid (HOP.out.below hb7)
 replace HG := Lib.hid (HG.out.below hb7)
 have hbw7 := bthen hbw6 hb7
 obtain ⟨arr, harr⟩ : ∃ arr : Nat, 1 + z = (arr : Int) := ⟨(1 + z).toNat, by omega⟩
 have hwq : IntKind.i64.wrap (1 + z) = (arr : Int) := by rw [harr]; exact wrap_small (by omega) (by omega)
 have harr2 : 1 ≤ arr ∧ arr ≤ 2 := by omega
 clear harr
 go_wp2_with fail
 clear hwq
 refine (P6Rel_any w7 H1.out (s := s) (ar := arr) hs4 harr2).mono ?_
 rintro e w8 ⟨cs, r, rfl, hf, hok, hoa, hb8⟩
 obtain ⟨ra, rc, rfl⟩ := fr_pair hf
 have HR := Lib.hid hf.rd
 have HRK := Lib.hid hok
 have HRA := Lib.hid hoa
 clear hf hok hoa
 have hz8 := hb8.size
 replace p0 := (cellB hb8 (by omega)).trans p0
 replace p1 := (cellB hb8 (by omega)).trans p1
 replace g0 := (cellB hb8 (by omega)).trans g0
 replace g1 := (cellB hb8 (by omega)).trans g1
 replace H0 := Lib.hid (H0.out.below hb8)
 replace H1 := Lib.hid (H1.out.below hb8)
 replace HOP := Lib.hid (HOP.out.below hb8)
 replace HG := Lib.hid (HG.out.below hb8)
 have hbw8 := bthen hbw7 hb8
 clear H0 H1
 have ta_p0 : ∀ o : Obj, (World.alloc w8 o).cell? ⟨w3.heap.size, 0, none⟩ = some (.int .i64 op.1) := fun o => (cellB bA (by omega)).trans p0
 have ta_p1 : ∀ o : Obj, (World.alloc w8 o).cell? ⟨w3.heap.size, 1, none⟩ = some (.slice oa op.2.length oc) := fun o => (cellB bA (by omega)).trans p1
 have ta_g0 : ∀ o : Obj, (World.alloc w8 o).cell? ⟨w5.heap.size, 0, none⟩ = some (.int .i64 g.1) := fun o => (cellB bA (by omega)).trans g0
 have ta_g1 : ∀ o : Obj, (World.alloc w8 o).cell? ⟨w5.heap.size, 1, none⟩ = some (.slice ga g.2.length gc) := fun o => (cellB bA (by omega)).trans g1
 go_wp2_with fail
 clear ta_p0 ta_p1 ta_g0 ta_g1
 generalize hW9 : World.alloc w8 _ = w9
 have hb9 : Below w8.heap.size w8 w9 := hW9 ▸ bA
 have hy9 : w8.heap.size + 1 ≤ w9.heap.size := by rw [← hW9]; simp
 have r0 : w9.cell? ⟨w8.heap.size, 0, none⟩ = some (.int .i64 r.1) := by rw [← hW9]; simp [go_sem]
 have r1 : w9.cell? ⟨w8.heap.size, 1, none⟩ = some (.slice ra r.2.length rc) := by rw [← hW9]; simp [go_sem]
 have hss9 : w9.heap.size = w8.heap.size + 1 := by rw [← hW9]; simp
 clear hW9
 have hz9 := hb9.size
 replace p0 := (cellB hb9 (by omega)).trans p0
 replace p1 := (cellB hb9 (by omega)).trans p1
 replace g0 := (cellB hb9 (by omega)).trans g0
 replace g1 := (cellB hb9 (by omega)).trans g1
 replace HOP := Lib.hid (HOP.out.below hb9)
 replace HG := Lib.hid (HG.out.below hb9)
 replace HR := Lib.hid (HR.out.below hb9)
 have hbw9 := bthen hbw8 hb9
 have HFG : Hid (∀ q ∈ [op, g], opOk s q) := fun q hq => by
  rcases List.mem_cons.1 hq with rfl | hq
  ·exact HOK.out
  ·rw [List.mem_singleton.1 hq]; exact HGK.out
 have HF1 : Hid (∀ q ∈ [op], opOk s q) := fun q hq => by rw [List.mem_singleton.1 hq]; exact HOK.out
 have HCZ := Lib.hid (co_zero (ops := [op, g]) HRK.out HFG.out (by simp))
 have HOZ := Lib.hid (co_zero (ops := [op]) HRK.out HF1.out (by simp))
 have HCI := Lib.hid (co_is (ops := [op, g]) HRK.out HFG.out (by simp) HRA.out)
 have HOE := Lib.hid (own_eq HRK.out HOK.out HRA.out)
 have HRL := Lib.hid (rel_lim HRK.out)
 cases hkb : tb (keepsP s op r)
 rotate_left
 ·have HK : Hid (keepsP s op r) := tb_iff.1 hkb
  rw [hkb] at HOE
  refine (Keeps_any w9 (f := op) (r := r) HOP.out HR.out (s := s) HRK.out HOK.out).mono ?_
  rintro e w10 ⟨rfl, hb10⟩
  rw [hkb]
  clear hkb
  have hz10 := hb10.size
  replace p0 := (cellB hb10 (by omega)).trans p0
  replace p1 := (cellB hb10 (by omega)).trans p1
  replace g0 := (cellB hb10 (by omega)).trans g0
  replace g1 := (cellB hb10 (by omega)).trans g1
  replace r0 := (cellB hb10 (by omega)).trans r0
  replace r1 := (cellB hb10 (by omega)).trans r1
  replace HOP := Lib.hid (HOP.out.below hb10)
  replace HG := Lib.hid (HG.out.below hb10)
  replace HR := Lib.hid (HR.out.below hb10)
  have hbw10 := bthen hbw9 hb10
  go_wp2_with fail
  refine (BreakingTuples_any w10 (f := op) (r := r) HOP.out HR.out (s := s) HRK.out HOK.out).mono ?_
  rintro e w11 ⟨hres, hb11⟩
  obtain ⟨-, rfl⟩ : keepsP s op r ∧ _ := hres.elim id (fun ⟨_, k, _, _, _, _, _, h, _⟩ => absurd HK.out h.not)
  have hz11 := hb11.size
  replace p0 := (cellB hb11 (by omega)).trans p0
  replace p1 := (cellB hb11 (by omega)).trans p1
  replace g0 := (cellB hb11 (by omega)).trans g0
  replace g1 := (cellB hb11 (by omega)).trans g1
  replace r0 := (cellB hb11 (by omega)).trans r0
  replace r1 := (cellB hb11 (by omega)).trans r1
  replace HOP := Lib.hid (HOP.out.below hb11)
  replace HG := Lib.hid (HG.out.below hb11)
  replace HR := Lib.hid (HR.out.below hb11)
  have hbw11 := bthen hbw10 hb11
  go_wp2_with fail
  refine (specBreakingTuples_any w11 (f := op) (r := r) HOP.out HR.out (s := s) HRK.out HOK.out).mono ?_
  rintro e w12 ⟨hres, hb12⟩
  obtain ⟨-, bb, rfl⟩ : keepsP s op r ∧ _ := hres.elim id (fun ⟨k, _, _, _, h, _⟩ => absurd HK.out h.not)
  have hz12 := hb12.size
  replace p0 := (cellB hb12 (by omega)).trans p0
  replace p1 := (cellB hb12 (by omega)).trans p1
  replace g0 := (cellB hb12 (by omega)).trans g0
  replace g1 := (cellB hb12 (by omega)).trans g1
  replace r0 := (cellB hb12 (by omega)).trans r0
  replace r1 := (cellB hb12 (by omega)).trans r1
  replace HOP := Lib.hid (HOP.out.below hb12)
  replace HG := Lib.hid (HG.out.below hb12)
  replace HR := Lib.hid (HR.out.below hb12)
  have hbw12 := bthen hbw11 hb12
  have ta_p0 : ∀ o : Obj, (World.alloc w12 o).cell? ⟨w3.heap.size, 0, none⟩ = some (.int .i64 op.1) := fun o => (cellB bA (by omega)).trans p0
  have ta_p1 : ∀ o : Obj, (World.alloc w12 o).cell? ⟨w3.heap.size, 1, none⟩ = some (.slice oa op.2.length oc) := fun o => (cellB bA (by omega)).trans p1
  have ta_g0 : ∀ o : Obj, (World.alloc w12 o).cell? ⟨w5.heap.size, 0, none⟩ = some (.int .i64 g.1) := fun o => (cellB bA (by omega)).trans g0
  have ta_g1 : ∀ o : Obj, (World.alloc w12 o).cell? ⟨w5.heap.size, 1, none⟩ = some (.slice ga g.2.length gc) := fun o => (cellB bA (by omega)).trans g1
  have ta_r0 : ∀ o : Obj, (World.alloc w12 o).cell? ⟨w8.heap.size, 0, none⟩ = some (.int .i64 r.1) := fun o => (cellB bA (by omega)).trans r0
  have ta_r1 : ∀ o : Obj, (World.alloc w12 o).cell? ⟨w8.heap.size, 1, none⟩ = some (.slice ra r.2.length rc) := fun o => (cellB bA (by omega)).trans r1
  go_wp2_with fail
  clear ta_p0 ta_p1 ta_g0 ta_g1 ta_r0 ta_r1
  generalize hW13 : World.alloc w12 _ = w13
  have hb13 : Below w12.heap.size w12 w13 := hW13 ▸ bA
  have hy13 : w12.heap.size + 1 ≤ w13.heap.size := by rw [← hW13]; simp
  have HLT : Hid (opsT.Rd w13 [.slice (some ⟨w12.heap.size, 0, none⟩) 2 2] [op, g]) := by unfold Hid; rw [← hW13]; exact lit_two HOP.out HG.out
  have hss13 : w13.heap.size = w12.heap.size + 1 := by rw [← hW13]; simp
  clear hW13
  have hz13 := hb13.size
  replace p0 := (cellB hb13 (by omega)).trans p0
  replace p1 := (cellB hb13 (by omega)).trans p1
  replace g0 := (cellB hb13 (by omega)).trans g0
  replace g1 := (cellB hb13 (by omega)).trans g1
  replace r0 := (cellB hb13 (by omega)).trans r0
  replace r1 := (cellB hb13 (by omega)).trans r1
  replace HOP := Lib.hid (HOP.out.below hb13)
  replace HG := Lib.hid (HG.out.below hb13)
  replace HR := Lib.hid (HR.out.below hb13)
  have hbw13 := bthen hbw12 hb13
  obtain ⟨D, hD⟩ : ∃ q, q = coV s r.1 [op, g] r.2 := ⟨_, rfl⟩
  have HED := Lib.hid hD
  clear hD
  have hco := ClosureOf_any w13 HLT.out (cons_tail HR.out) s r.1 (fun _ => HRL.out)
  rw [HCZ.out, ← HED.out] at hco
  refine (hco).mono ?_
  rintro e w14 ⟨cs, rfl, hf, hb14⟩
  obtain ⟨ca, cc, rfl⟩ := fr_pair hf
  have HC := Lib.hid hf.rd
  clear hf hco HLT
  have hz14 := hb14.size
  replace p0 := (cellB hb14 (by omega)).trans p0
  replace p1 := (cellB hb14 (by omega)).trans p1
  replace g0 := (cellB hb14 (by omega)).trans g0
  replace g1 := (cellB hb14 (by omega)).trans g1
  replace r0 := (cellB hb14 (by omega)).trans r0
  replace r1 := (cellB hb14 (by omega)).trans r1
  replace HOP := Lib.hid (HOP.out.below hb14)
  replace HG := Lib.hid (HG.out.below hb14)
  replace HR := Lib.hid (HR.out.below hb14)
  have hbw14 := bthen hbw13 hb14
  have HCD : Hid (relOk s D ∧ D.1 = r.1 ∧ (∀ l, l ∈ D.2 ↔ Clo s [op, g] arr r.2 l) ∧ (∀ f ∈ [op, g], keepsP s f D) ∧ ∀ l ∈ r.2, l ∈ D.2) := by unfold Hid; rw [HED.out]; exact HCI.out
  have ta_p0 : ∀ o : Obj, (World.alloc w14 o).cell? ⟨w3.heap.size, 0, none⟩ = some (.int .i64 op.1) := fun o => (cellB bA (by omega)).trans p0
  have ta_p1 : ∀ o : Obj, (World.alloc w14 o).cell? ⟨w3.heap.size, 1, none⟩ = some (.slice oa op.2.length oc) := fun o => (cellB bA (by omega)).trans p1
  have ta_g0 : ∀ o : Obj, (World.alloc w14 o).cell? ⟨w5.heap.size, 0, none⟩ = some (.int .i64 g.1) := fun o => (cellB bA (by omega)).trans g0
  have ta_g1 : ∀ o : Obj, (World.alloc w14 o).cell? ⟨w5.heap.size, 1, none⟩ = some (.slice ga g.2.length gc) := fun o => (cellB bA (by omega)).trans g1
  have ta_r0 : ∀ o : Obj, (World.alloc w14 o).cell? ⟨w8.heap.size, 0, none⟩ = some (.int .i64 r.1) := fun o => (cellB bA (by omega)).trans r0
  have ta_r1 : ∀ o : Obj, (World.alloc w14 o).cell? ⟨w8.heap.size, 1, none⟩ = some (.slice ra r.2.length rc) := fun o => (cellB bA (by omega)).trans r1
  have tb_p0 : ∀ o o2 : Obj, (World.alloc (World.alloc w14 o) o2).cell? ⟨w3.heap.size, 0, none⟩ = some (.int .i64 op.1) := fun o o2 => (cellB bAA (by omega)).trans p0
  have tb_p1 : ∀ o o2 : Obj, (World.alloc (World.alloc w14 o) o2).cell? ⟨w3.heap.size, 1, none⟩ = some (.slice oa op.2.length oc) := fun o o2 => (cellB bAA (by omega)).trans p1
  have tb_g0 : ∀ o o2 : Obj, (World.alloc (World.alloc w14 o) o2).cell? ⟨w5.heap.size, 0, none⟩ = some (.int .i64 g.1) := fun o o2 => (cellB bAA (by omega)).trans g0
  have tb_g1 : ∀ o o2 : Obj, (World.alloc (World.alloc w14 o) o2).cell? ⟨w5.heap.size, 1, none⟩ = some (.slice ga g.2.length gc) := fun o o2 => (cellB bAA (by omega)).trans g1
  have tb_r0 : ∀ o o2 : Obj, (World.alloc (World.alloc w14 o) o2).cell? ⟨w8.heap.size, 0, none⟩ = some (.int .i64 r.1) := fun o o2 => (cellB bAA (by omega)).trans r0
  have tb_r1 : ∀ o o2 : Obj, (World.alloc (World.alloc w14 o) o2).cell? ⟨w8.heap.size, 1, none⟩ = some (.slice ra r.2.length rc) := fun o o2 => (cellB bAA (by omega)).trans r1
  go_wp2_with fail
  clear ta_p0 ta_p1 ta_g0 ta_g1 ta_r0 ta_r1 tb_p0 tb_p1 tb_g0 tb_g1 tb_r0 tb_r1
  generalize hW15 : World.alloc w14 _ = w15
  have hb15 : Below w14.heap.size w14 w15 := hW15 ▸ bA
  have hy15 : w14.heap.size + 1 ≤ w15.heap.size := by rw [← hW15]; simp
  have c0 : w15.cell? ⟨w14.heap.size, 0, none⟩ = some (.int .i64 D.1) := by rw [← hW15]; simp [go_sem]
  have c1 : w15.cell? ⟨w14.heap.size, 1, none⟩ = some (.slice ca D.2.length cc) := by rw [← hW15]; simp [go_sem]
  have hss15 : w15.heap.size = w14.heap.size + 1 := by rw [← hW15]; simp
  clear hW15
  have hz15 := hb15.size
  replace p0 := (cellB hb15 (by omega)).trans p0
  replace p1 := (cellB hb15 (by omega)).trans p1
  replace g0 := (cellB hb15 (by omega)).trans g0
  replace g1 := (cellB hb15 (by omega)).trans g1
  replace r0 := (cellB hb15 (by omega)).trans r0
  replace r1 := (cellB hb15 (by omega)).trans r1
  replace HOP := Lib.hid (HOP.out.below hb15)
  replace HG := Lib.hid (HG.out.below hb15)
  replace HR := Lib.hid (HR.out.below hb15)
  replace HC := Lib.hid (HC.out.below hb15)
  have hbw15 := bthen hbw14 hb15
  generalize hW16 : World.alloc w15 _ = w16
  have hb16 : Below w15.heap.size w15 w16 := hW16 ▸ bA
  have hy16 : w15.heap.size + 1 ≤ w16.heap.size := by rw [← hW16]; simp
  have HLT : Hid (opsT.Rd w16 [.slice (some ⟨w14.heap.size + 1, 0, none⟩) 2 2] [op, g]) := by unfold Hid; rw [← hW16]; have hl := lit_two (T := 44) HOP.out HG.out; rw [hss15] at hl; exact hl
  have hss16 : w16.heap.size = w15.heap.size + 1 := by rw [← hW16]; simp
  clear hW16
  have hz16 := hb16.size
  replace p0 := (cellB hb16 (by omega)).trans p0
  replace p1 := (cellB hb16 (by omega)).trans p1
  replace g0 := (cellB hb16 (by omega)).trans g0
  replace g1 := (cellB hb16 (by omega)).trans g1
  replace r0 := (cellB hb16 (by omega)).trans r0
  replace r1 := (cellB hb16 (by omega)).trans r1
  replace c0 := (cellB hb16 (by omega)).trans c0
  replace c1 := (cellB hb16 (by omega)).trans c1
  replace HOP := Lib.hid (HOP.out.below hb16)
  replace HG := Lib.hid (HG.out.below hb16)
  replace HR := Lib.hid (HR.out.below hb16)
  replace HC := Lib.hid (HC.out.below hb16)
  have hbw16 := bthen hbw15 hb16
  have hco := specClosureOf_any w16 HLT.out (cons_tail HR.out) s r.1 (by have := HRL.out; omega)
  rw [HCZ.out, ← HED.out] at hco
  refine (hco).mono ?_
  rintro e w17 ⟨cs, rfl, hf, hb17⟩
  obtain ⟨da, dc, rfl⟩ := fr_pair hf
  have HD := Lib.hid hf.rd
  clear hf hco HLT
  have hz17 := hb17.size
  replace p0 := (cellB hb17 (by omega)).trans p0
  replace p1 := (cellB hb17 (by omega)).trans p1
  replace g0 := (cellB hb17 (by omega)).trans g0
  replace g1 := (cellB hb17 (by omega)).trans g1
  replace r0 := (cellB hb17 (by omega)).trans r0
  replace r1 := (cellB hb17 (by omega)).trans r1
  replace c0 := (cellB hb17 (by omega)).trans c0
  replace c1 := (cellB hb17 (by omega)).trans c1
  replace HOP := Lib.hid (HOP.out.below hb17)
  replace HG := Lib.hid (HG.out.below hb17)
  replace HR := Lib.hid (HR.out.below hb17)
  replace HC := Lib.hid (HC.out.below hb17)
  have hbw17 := bthen hbw16 hb17
  have ta_p0 : ∀ o : Obj, (World.alloc w17 o).cell? ⟨w3.heap.size, 0, none⟩ = some (.int .i64 op.1) := fun o => (cellB bA (by omega)).trans p0
  have ta_p1 : ∀ o : Obj, (World.alloc w17 o).cell? ⟨w3.heap.size, 1, none⟩ = some (.slice oa op.2.length oc) := fun o => (cellB bA (by omega)).trans p1
  have ta_g0 : ∀ o : Obj, (World.alloc w17 o).cell? ⟨w5.heap.size, 0, none⟩ = some (.int .i64 g.1) := fun o => (cellB bA (by omega)).trans g0
  have ta_g1 : ∀ o : Obj, (World.alloc w17 o).cell? ⟨w5.heap.size, 1, none⟩ = some (.slice ga g.2.length gc) := fun o => (cellB bA (by omega)).trans g1
  have ta_r0 : ∀ o : Obj, (World.alloc w17 o).cell? ⟨w8.heap.size, 0, none⟩ = some (.int .i64 r.1) := fun o => (cellB bA (by omega)).trans r0
  have ta_r1 : ∀ o : Obj, (World.alloc w17 o).cell? ⟨w8.heap.size, 1, none⟩ = some (.slice ra r.2.length rc) := fun o => (cellB bA (by omega)).trans r1
  have ta_c0 : ∀ o : Obj, (World.alloc w17 o).cell? ⟨w14.heap.size, 0, none⟩ = some (.int .i64 D.1) := fun o => (cellB bA (by omega)).trans c0
  have ta_c1 : ∀ o : Obj, (World.alloc w17 o).cell? ⟨w14.heap.size, 1, none⟩ = some (.slice ca D.2.length cc) := fun o => (cellB bA (by omega)).trans c1
  have tb_p0 : ∀ o o2 : Obj, (World.alloc (World.alloc w17 o) o2).cell? ⟨w3.heap.size, 0, none⟩ = some (.int .i64 op.1) := fun o o2 => (cellB bAA (by omega)).trans p0
  have tb_p1 : ∀ o o2 : Obj, (World.alloc (World.alloc w17 o) o2).cell? ⟨w3.heap.size, 1, none⟩ = some (.slice oa op.2.length oc) := fun o o2 => (cellB bAA (by omega)).trans p1
  have tb_g0 : ∀ o o2 : Obj, (World.alloc (World.alloc w17 o) o2).cell? ⟨w5.heap.size, 0, none⟩ = some (.int .i64 g.1) := fun o o2 => (cellB bAA (by omega)).trans g0
  have tb_g1 : ∀ o o2 : Obj, (World.alloc (World.alloc w17 o) o2).cell? ⟨w5.heap.size, 1, none⟩ = some (.slice ga g.2.length gc) := fun o o2 => (cellB bAA (by omega)).trans g1
  have tb_r0 : ∀ o o2 : Obj, (World.alloc (World.alloc w17 o) o2).cell? ⟨w8.heap.size, 0, none⟩ = some (.int .i64 r.1) := fun o o2 => (cellB bAA (by omega)).trans r0
  have tb_r1 : ∀ o o2 : Obj, (World.alloc (World.alloc w17 o) o2).cell? ⟨w8.heap.size, 1, none⟩ = some (.slice ra r.2.length rc) := fun o o2 => (cellB bAA (by omega)).trans r1
  have tb_c0 : ∀ o o2 : Obj, (World.alloc (World.alloc w17 o) o2).cell? ⟨w14.heap.size, 0, none⟩ = some (.int .i64 D.1) := fun o o2 => (cellB bAA (by omega)).trans c0
  have tb_c1 : ∀ o o2 : Obj, (World.alloc (World.alloc w17 o) o2).cell? ⟨w14.heap.size, 1, none⟩ = some (.slice ca D.2.length cc) := fun o o2 => (cellB bAA (by omega)).trans c1
  go_wp2_with fail
  clear ta_p0 ta_p1 ta_g0 ta_g1 ta_r0 ta_r1 ta_c0 ta_c1 tb_p0 tb_p1 tb_g0 tb_g1 tb_r0 tb_r1 tb_c0 tb_c1
  generalize hW18 : World.alloc w17 _ = w18
  have hb18 : Below w17.heap.size w17 w18 := hW18 ▸ bA
  have hy18 : w17.heap.size + 1 ≤ w18.heap.size := by rw [← hW18]; simp
  have d0 : w18.cell? ⟨w17.heap.size, 0, none⟩ = some (.int .i64 D.1) := by rw [← hW18]; simp [go_sem]
  have d1 : w18.cell? ⟨w17.heap.size, 1, none⟩ = some (.slice da D.2.length dc) := by rw [← hW18]; simp [go_sem]
  have hss18 : w18.heap.size = w17.heap.size + 1 := by rw [← hW18]; simp
  clear hW18
  have hz18 := hb18.size
  replace p0 := (cellB hb18 (by omega)).trans p0
  replace p1 := (cellB hb18 (by omega)).trans p1
  replace g0 := (cellB hb18 (by omega)).trans g0
  replace g1 := (cellB hb18 (by omega)).trans g1
  replace r0 := (cellB hb18 (by omega)).trans r0
  replace r1 := (cellB hb18 (by omega)).trans r1
  replace c0 := (cellB hb18 (by omega)).trans c0
  replace c1 := (cellB hb18 (by omega)).trans c1
  replace HOP := Lib.hid (HOP.out.below hb18)
  replace HG := Lib.hid (HG.out.below hb18)
  replace HR := Lib.hid (HR.out.below hb18)
  replace HC := Lib.hid (HC.out.below hb18)
  replace HD := Lib.hid (HD.out.below hb18)
  have hbw18 := bthen hbw17 hb18
  generalize hW19 : World.alloc w18 _ = w19
  have hb19 : Below w18.heap.size w18 w19 := hW19 ▸ bA
  have hy19 : w18.heap.size + 1 ≤ w19.heap.size := by rw [← hW19]; simp
  have HLT : Hid (opsT.Rd w19 [.slice (some ⟨w17.heap.size + 1, 0, none⟩) 1 1] [op]) := by unfold Hid; rw [← hW19]; have hl := lit_one (T := 44) HOP.out; rw [hss18] at hl; exact hl
  have hss19 : w19.heap.size = w18.heap.size + 1 := by rw [← hW19]; simp
  clear hW19
  have hz19 := hb19.size
  replace p0 := (cellB hb19 (by omega)).trans p0
  replace p1 := (cellB hb19 (by omega)).trans p1
  replace g0 := (cellB hb19 (by omega)).trans g0
  replace g1 := (cellB hb19 (by omega)).trans g1
  replace r0 := (cellB hb19 (by omega)).trans r0
  replace r1 := (cellB hb19 (by omega)).trans r1
  replace c0 := (cellB hb19 (by omega)).trans c0
  replace c1 := (cellB hb19 (by omega)).trans c1
  replace d0 := (cellB hb19 (by omega)).trans d0
  replace d1 := (cellB hb19 (by omega)).trans d1
  replace HOP := Lib.hid (HOP.out.below hb19)
  replace HG := Lib.hid (HG.out.below hb19)
  replace HR := Lib.hid (HR.out.below hb19)
  replace HC := Lib.hid (HC.out.below hb19)
  replace HD := Lib.hid (HD.out.below hb19)
  have hbw19 := bthen hbw18 hb19
  obtain ⟨O, hO⟩ : ∃ q, q = coV s r.1 [op] r.2 := ⟨_, rfl⟩
  have HEO := Lib.hid hO
  clear hO
  have hco := ClosureOf_any w19 HLT.out (cons_tail HR.out) s r.1 (fun _ => HRL.out)
  rw [HOZ.out, ← HEO.out] at hco
  refine (hco).mono ?_
  rintro e w20 ⟨cs, rfl, hf, hb20⟩
  obtain ⟨oa2, oc2, rfl⟩ := fr_pair hf
  have HO := Lib.hid hf.rd
  clear hf hco HLT
  have hz20 := hb20.size
  replace p0 := (cellB hb20 (by omega)).trans p0
  replace p1 := (cellB hb20 (by omega)).trans p1
  replace g0 := (cellB hb20 (by omega)).trans g0
  replace g1 := (cellB hb20 (by omega)).trans g1
  replace r0 := (cellB hb20 (by omega)).trans r0
  replace r1 := (cellB hb20 (by omega)).trans r1
  replace c0 := (cellB hb20 (by omega)).trans c0
  replace c1 := (cellB hb20 (by omega)).trans c1
  replace d0 := (cellB hb20 (by omega)).trans d0
  replace d1 := (cellB hb20 (by omega)).trans d1
  replace HOP := Lib.hid (HOP.out.below hb20)
  replace HG := Lib.hid (HG.out.below hb20)
  replace HR := Lib.hid (HR.out.below hb20)
  replace HC := Lib.hid (HC.out.below hb20)
  replace HD := Lib.hid (HD.out.below hb20)
  have hbw20 := bthen hbw19 hb20
  have HOE2 : Hid (eqB O r = true) := by unfold Hid; rw [HEO.out]; exact HOE.out
  clear HED HEO HCI HOE
  have ta_p0 : ∀ o : Obj, (World.alloc w20 o).cell? ⟨w3.heap.size, 0, none⟩ = some (.int .i64 op.1) := fun o => (cellB bA (by omega)).trans p0
  have ta_p1 : ∀ o : Obj, (World.alloc w20 o).cell? ⟨w3.heap.size, 1, none⟩ = some (.slice oa op.2.length oc) := fun o => (cellB bA (by omega)).trans p1
  have ta_g0 : ∀ o : Obj, (World.alloc w20 o).cell? ⟨w5.heap.size, 0, none⟩ = some (.int .i64 g.1) := fun o => (cellB bA (by omega)).trans g0
  have ta_g1 : ∀ o : Obj, (World.alloc w20 o).cell? ⟨w5.heap.size, 1, none⟩ = some (.slice ga g.2.length gc) := fun o => (cellB bA (by omega)).trans g1
  have ta_r0 : ∀ o : Obj, (World.alloc w20 o).cell? ⟨w8.heap.size, 0, none⟩ = some (.int .i64 r.1) := fun o => (cellB bA (by omega)).trans r0
  have ta_r1 : ∀ o : Obj, (World.alloc w20 o).cell? ⟨w8.heap.size, 1, none⟩ = some (.slice ra r.2.length rc) := fun o => (cellB bA (by omega)).trans r1
  have ta_c0 : ∀ o : Obj, (World.alloc w20 o).cell? ⟨w14.heap.size, 0, none⟩ = some (.int .i64 D.1) := fun o => (cellB bA (by omega)).trans c0
  have ta_c1 : ∀ o : Obj, (World.alloc w20 o).cell? ⟨w14.heap.size, 1, none⟩ = some (.slice ca D.2.length cc) := fun o => (cellB bA (by omega)).trans c1
  have ta_d0 : ∀ o : Obj, (World.alloc w20 o).cell? ⟨w17.heap.size, 0, none⟩ = some (.int .i64 D.1) := fun o => (cellB bA (by omega)).trans d0
  have ta_d1 : ∀ o : Obj, (World.alloc w20 o).cell? ⟨w17.heap.size, 1, none⟩ = some (.slice da D.2.length dc) := fun o => (cellB bA (by omega)).trans d1
  go_wp2_with fail
  clear ta_p0 ta_p1 ta_g0 ta_g1 ta_r0 ta_r1 ta_c0 ta_c1 ta_d0 ta_d1
  generalize hW21 : World.alloc w20 _ = w21
  have hb21 : Below w20.heap.size w20 w21 := hW21 ▸ bA
  have hy21 : w20.heap.size + 1 ≤ w21.heap.size := by rw [← hW21]; simp
  have o0 : w21.cell? ⟨w20.heap.size, 0, none⟩ = some (.int .i64 O.1) := by rw [← hW21]; simp [go_sem]
  have o1 : w21.cell? ⟨w20.heap.size, 1, none⟩ = some (.slice oa2 O.2.length oc2) := by rw [← hW21]; simp [go_sem]
  have hss21 : w21.heap.size = w20.heap.size + 1 := by rw [← hW21]; simp
  clear hW21
  have hz21 := hb21.size
  replace p0 := (cellB hb21 (by omega)).trans p0
  replace p1 := (cellB hb21 (by omega)).trans p1
  replace g0 := (cellB hb21 (by omega)).trans g0
  replace g1 := (cellB hb21 (by omega)).trans g1
  replace r0 := (cellB hb21 (by omega)).trans r0
  replace r1 := (cellB hb21 (by omega)).trans r1
  replace c0 := (cellB hb21 (by omega)).trans c0
  replace c1 := (cellB hb21 (by omega)).trans c1
  replace d0 := (cellB hb21 (by omega)).trans d0
  replace d1 := (cellB hb21 (by omega)).trans d1
  replace HOP := Lib.hid (HOP.out.below hb21)
  replace HG := Lib.hid (HG.out.below hb21)
  replace HR := Lib.hid (HR.out.below hb21)
  replace HC := Lib.hid (HC.out.below hb21)
  replace HD := Lib.hid (HD.out.below hb21)
  replace HO := Lib.hid (HO.out.below hb21)
  have hbw21 := bthen hbw20 hb21
  refine (specSameRel_any w21 (x := D) (y := D) HC.out HD.out).mono ?_
  rintro e w22 ⟨rfl, hb22⟩
  rw [show eqB D D = true from eqB_true rfl]
  have hz22 := hb22.size
  replace p0 := (cellB hb22 (by omega)).trans p0
  replace p1 := (cellB hb22 (by omega)).trans p1
  replace g0 := (cellB hb22 (by omega)).trans g0
  replace g1 := (cellB hb22 (by omega)).trans g1
  replace r0 := (cellB hb22 (by omega)).trans r0
  replace r1 := (cellB hb22 (by omega)).trans r1
  replace c0 := (cellB hb22 (by omega)).trans c0
  replace c1 := (cellB hb22 (by omega)).trans c1
  replace d0 := (cellB hb22 (by omega)).trans d0
  replace d1 := (cellB hb22 (by omega)).trans d1
  replace o0 := (cellB hb22 (by omega)).trans o0
  replace o1 := (cellB hb22 (by omega)).trans o1
  replace HOP := Lib.hid (HOP.out.below hb22)
  replace HG := Lib.hid (HG.out.below hb22)
  replace HR := Lib.hid (HR.out.below hb22)
  replace HC := Lib.hid (HC.out.below hb22)
  replace HD := Lib.hid (HD.out.below hb22)
  replace HO := Lib.hid (HO.out.below hb22)
  have hbw22 := bthen hbw21 hb22
  clear c0 c1
  clear HC
  go_wp2_with fail
  refine (specSameRel_any w22 (x := O) (y := r) HO.out HR.out).mono ?_
  rintro e w23 ⟨rfl, hb23⟩
  rw [HOE2.out]
  have hz23 := hb23.size
  replace p0 := (cellB hb23 (by omega)).trans p0
  replace p1 := (cellB hb23 (by omega)).trans p1
  replace g0 := (cellB hb23 (by omega)).trans g0
  replace g1 := (cellB hb23 (by omega)).trans g1
  replace r0 := (cellB hb23 (by omega)).trans r0
  replace r1 := (cellB hb23 (by omega)).trans r1
  replace d0 := (cellB hb23 (by omega)).trans d0
  replace d1 := (cellB hb23 (by omega)).trans d1
  replace o0 := (cellB hb23 (by omega)).trans o0
  replace o1 := (cellB hb23 (by omega)).trans o1
  replace HOP := Lib.hid (HOP.out.below hb23)
  replace HG := Lib.hid (HG.out.below hb23)
  replace HR := Lib.hid (HR.out.below hb23)
  replace HD := Lib.hid (HD.out.below hb23)
  replace HO := Lib.hid (HO.out.below hb23)
  have hbw23 := bthen hbw22 hb23
  clear o0 o1
  clear HO
  have ta_p0 : ∀ o : Obj, (World.alloc w23 o).cell? ⟨w3.heap.size, 0, none⟩ = some (.int .i64 op.1) := fun o => (cellB bA (by omega)).trans p0
  have ta_p1 : ∀ o : Obj, (World.alloc w23 o).cell? ⟨w3.heap.size, 1, none⟩ = some (.slice oa op.2.length oc) := fun o => (cellB bA (by omega)).trans p1
  have ta_g0 : ∀ o : Obj, (World.alloc w23 o).cell? ⟨w5.heap.size, 0, none⟩ = some (.int .i64 g.1) := fun o => (cellB bA (by omega)).trans g0
  have ta_g1 : ∀ o : Obj, (World.alloc w23 o).cell? ⟨w5.heap.size, 1, none⟩ = some (.slice ga g.2.length gc) := fun o => (cellB bA (by omega)).trans g1
  have ta_r0 : ∀ o : Obj, (World.alloc w23 o).cell? ⟨w8.heap.size, 0, none⟩ = some (.int .i64 r.1) := fun o => (cellB bA (by omega)).trans r0
  have ta_r1 : ∀ o : Obj, (World.alloc w23 o).cell? ⟨w8.heap.size, 1, none⟩ = some (.slice ra r.2.length rc) := fun o => (cellB bA (by omega)).trans r1
  have ta_d0 : ∀ o : Obj, (World.alloc w23 o).cell? ⟨w17.heap.size, 0, none⟩ = some (.int .i64 D.1) := fun o => (cellB bA (by omega)).trans d0
  have ta_d1 : ∀ o : Obj, (World.alloc w23 o).cell? ⟨w17.heap.size, 1, none⟩ = some (.slice da D.2.length dc) := fun o => (cellB bA (by omega)).trans d1
  have tb_p0 : ∀ o o2 : Obj, (World.alloc (World.alloc w23 o) o2).cell? ⟨w3.heap.size, 0, none⟩ = some (.int .i64 op.1) := fun o o2 => (cellB bAA (by omega)).trans p0
  have tb_p1 : ∀ o o2 : Obj, (World.alloc (World.alloc w23 o) o2).cell? ⟨w3.heap.size, 1, none⟩ = some (.slice oa op.2.length oc) := fun o o2 => (cellB bAA (by omega)).trans p1
  have tb_g0 : ∀ o o2 : Obj, (World.alloc (World.alloc w23 o) o2).cell? ⟨w5.heap.size, 0, none⟩ = some (.int .i64 g.1) := fun o o2 => (cellB bAA (by omega)).trans g0
  have tb_g1 : ∀ o o2 : Obj, (World.alloc (World.alloc w23 o) o2).cell? ⟨w5.heap.size, 1, none⟩ = some (.slice ga g.2.length gc) := fun o o2 => (cellB bAA (by omega)).trans g1
  have tb_r0 : ∀ o o2 : Obj, (World.alloc (World.alloc w23 o) o2).cell? ⟨w8.heap.size, 0, none⟩ = some (.int .i64 r.1) := fun o o2 => (cellB bAA (by omega)).trans r0
  have tb_r1 : ∀ o o2 : Obj, (World.alloc (World.alloc w23 o) o2).cell? ⟨w8.heap.size, 1, none⟩ = some (.slice ra r.2.length rc) := fun o o2 => (cellB bAA (by omega)).trans r1
  have tb_d0 : ∀ o o2 : Obj, (World.alloc (World.alloc w23 o) o2).cell? ⟨w17.heap.size, 0, none⟩ = some (.int .i64 D.1) := fun o o2 => (cellB bAA (by omega)).trans d0
  have tb_d1 : ∀ o o2 : Obj, (World.alloc (World.alloc w23 o) o2).cell? ⟨w17.heap.size, 1, none⟩ = some (.slice da D.2.length dc) := fun o o2 => (cellB bAA (by omega)).trans d1
  go_wp2_with fail
  clear ta_p0 ta_p1 ta_g0 ta_g1 ta_r0 ta_r1 ta_d0 ta_d1 tb_p0 tb_p1 tb_g0 tb_g1 tb_r0 tb_r1 tb_d0 tb_d1
  generalize hW24 : World.alloc (World.alloc w23 _) _ = w24
  have hb24 : Below w23.heap.size w23 w24 := hW24 ▸ bAA
  have hy24 : w23.heap.size + 2 ≤ w24.heap.size := by rw [← hW24]; simp
  have u0 : w24.cell? ⟨w23.heap.size + 1, 0, none⟩ = some (.int .i64 s) := by rw [← hW24]; simp [go_sem]
  have u1 : w24.cell? ⟨w23.heap.size + 1, 1, none⟩ = some (.slice (some ⟨w23.heap.size, 0, none⟩) 1 1) := by rw [← hW24]; simp [go_sem]
  have HU : Hid (tplT.Rd w24 [.int .i64 s, .slice (some ⟨w23.heap.size, 0, none⟩) 1 1] (s, [D])) := by unfold Hid; rw [← hW24]; exact pair_mk (I64.small (by omega) (by omega)) ((lit_one HD.out).below bA)
  have hss24 : w24.heap.size = w23.heap.size + 2 := by rw [← hW24]; simp
  clear hW24
  have hz24 := hb24.size
  replace p0 := (cellB hb24 (by omega)).trans p0
  replace p1 := (cellB hb24 (by omega)).trans p1
  replace g0 := (cellB hb24 (by omega)).trans g0
  replace g1 := (cellB hb24 (by omega)).trans g1
  replace r0 := (cellB hb24 (by omega)).trans r0
  replace r1 := (cellB hb24 (by omega)).trans r1
  replace d0 := (cellB hb24 (by omega)).trans d0
  replace d1 := (cellB hb24 (by omega)).trans d1
  replace HOP := Lib.hid (HOP.out.below hb24)
  replace HG := Lib.hid (HG.out.below hb24)
  replace HR := Lib.hid (HR.out.below hb24)
  replace HD := Lib.hid (HD.out.below hb24)
  have hbw24 := bthen hbw23 hb24
  have HDT : Hid (tplOk (s, [D])) := ⟨HRK.out.1, by simp, fun q hq => by rw [List.mem_singleton.1 hq]; exact HCD.out.1⟩
  refine (KeepsAll_any w24 (t := (s, [D])) (f := op) HU.out HOP.out HDT.out HOK.out).mono ?_
  rintro e w25 ⟨rfl, hb25⟩
  rw [brk_one (HCD.out.2.2.2.1 op (List.mem_cons_self ..))]
  have hz25 := hb25.size
  replace p0 := (cellB hb25 (by omega)).trans p0
  replace p1 := (cellB hb25 (by omega)).trans p1
  replace g0 := (cellB hb25 (by omega)).trans g0
  replace g1 := (cellB hb25 (by omega)).trans g1
  replace r0 := (cellB hb25 (by omega)).trans r0
  replace r1 := (cellB hb25 (by omega)).trans r1
  replace d0 := (cellB hb25 (by omega)).trans d0
  replace d1 := (cellB hb25 (by omega)).trans d1
  replace u0 := (cellB hb25 (by omega)).trans u0
  replace u1 := (cellB hb25 (by omega)).trans u1
  replace HOP := Lib.hid (HOP.out.below hb25)
  replace HG := Lib.hid (HG.out.below hb25)
  replace HR := Lib.hid (HR.out.below hb25)
  replace HD := Lib.hid (HD.out.below hb25)
  replace HU := Lib.hid (HU.out.below hb25)
  have hbw25 := bthen hbw24 hb25
  go_wp2_with fail
  refine (KeepsAll_any w25 (t := (s, [D])) (f := g) HU.out HG.out HDT.out HGK.out).mono ?_
  rintro e w26 ⟨rfl, hb26⟩
  rw [brk_one (HCD.out.2.2.2.1 g (List.mem_cons_of_mem _ (List.mem_cons_self ..)))]
  have hz26 := hb26.size
  replace p0 := (cellB hb26 (by omega)).trans p0
  replace p1 := (cellB hb26 (by omega)).trans p1
  replace g0 := (cellB hb26 (by omega)).trans g0
  replace g1 := (cellB hb26 (by omega)).trans g1
  replace r0 := (cellB hb26 (by omega)).trans r0
  replace r1 := (cellB hb26 (by omega)).trans r1
  replace d0 := (cellB hb26 (by omega)).trans d0
  replace d1 := (cellB hb26 (by omega)).trans d1
  replace u0 := (cellB hb26 (by omega)).trans u0
  replace u1 := (cellB hb26 (by omega)).trans u1
  replace HOP := Lib.hid (HOP.out.below hb26)
  replace HG := Lib.hid (HG.out.below hb26)
  replace HR := Lib.hid (HR.out.below hb26)
  replace HD := Lib.hid (HD.out.below hb26)
  replace HU := Lib.hid (HU.out.below hb26)
  have hbw26 := bthen hbw25 hb26
  clear u0 u1
  clear HU
  go_wp2_with fail
  refine (IsPartOf_any w26 (r := r) (q := D) HR.out HD.out HRK.out HCD.out.1 HCD.out.2.1.symm).mono ?_
  rintro e w27 ⟨rfl, hb27⟩
  rw [part_yes HCD.out.2.2.2.2]
  have hz27 := hb27.size
  replace p0 := (cellB hb27 (by omega)).trans p0
  replace p1 := (cellB hb27 (by omega)).trans p1
  replace g0 := (cellB hb27 (by omega)).trans g0
  replace g1 := (cellB hb27 (by omega)).trans g1
  replace r0 := (cellB hb27 (by omega)).trans r0
  replace r1 := (cellB hb27 (by omega)).trans r1
  replace d0 := (cellB hb27 (by omega)).trans d0
  replace d1 := (cellB hb27 (by omega)).trans d1
  replace HOP := Lib.hid (HOP.out.below hb27)
  replace HG := Lib.hid (HG.out.below hb27)
  replace HR := Lib.hid (HR.out.below hb27)
  replace HD := Lib.hid (HD.out.below hb27)
  have hbw27 := bthen hbw26 hb27
  go_wp2_with fail
  obtain ⟨N, hN⟩ : ∃ N : Nat, s ^ arr = (N : Int) := ⟨(s ^ arr).toNat, by have := pow_nn (s := s) (by omega) arr; omega⟩
  have HN := Lib.hid hN
  clear hN
  refine (FullRel_at w27 HRA.out hs4 harr2 HN.out).mono ?_
  rintro e w28 ⟨cs, rfl, hf, hb28⟩
  obtain ⟨F, hF⟩ : ∃ q : Int × List (List Int), q = (r.1, allT s arr N) := ⟨_, rfl⟩
  rw [← hF] at hf
  obtain ⟨ua, uc, rfl⟩ := fr_pair hf
  have HFU := Lib.hid hf.rd
  have HFK : Hid (relOk s F ∧ keepsP s op F) := by unfold Hid; rw [hF, HRA.out]; exact ⟨allT_ok HRK.out.1 (by omega) HN.out, full_keeps HRK.out.1 (by omega) HN.out HOK.out⟩
  clear hf hF
  have hz28 := hb28.size
  replace p0 := (cellB hb28 (by omega)).trans p0
  replace p1 := (cellB hb28 (by omega)).trans p1
  replace g0 := (cellB hb28 (by omega)).trans g0
  replace g1 := (cellB hb28 (by omega)).trans g1
  replace r0 := (cellB hb28 (by omega)).trans r0
  replace r1 := (cellB hb28 (by omega)).trans r1
  replace d0 := (cellB hb28 (by omega)).trans d0
  replace d1 := (cellB hb28 (by omega)).trans d1
  replace HOP := Lib.hid (HOP.out.below hb28)
  replace HG := Lib.hid (HG.out.below hb28)
  replace HR := Lib.hid (HR.out.below hb28)
  replace HD := Lib.hid (HD.out.below hb28)
  have hbw28 := bthen hbw27 hb28
  have ta_p0 : ∀ o : Obj, (World.alloc w28 o).cell? ⟨w3.heap.size, 0, none⟩ = some (.int .i64 op.1) := fun o => (cellB bA (by omega)).trans p0
  have ta_p1 : ∀ o : Obj, (World.alloc w28 o).cell? ⟨w3.heap.size, 1, none⟩ = some (.slice oa op.2.length oc) := fun o => (cellB bA (by omega)).trans p1
  have ta_g0 : ∀ o : Obj, (World.alloc w28 o).cell? ⟨w5.heap.size, 0, none⟩ = some (.int .i64 g.1) := fun o => (cellB bA (by omega)).trans g0
  have ta_g1 : ∀ o : Obj, (World.alloc w28 o).cell? ⟨w5.heap.size, 1, none⟩ = some (.slice ga g.2.length gc) := fun o => (cellB bA (by omega)).trans g1
  have ta_r0 : ∀ o : Obj, (World.alloc w28 o).cell? ⟨w8.heap.size, 0, none⟩ = some (.int .i64 r.1) := fun o => (cellB bA (by omega)).trans r0
  have ta_r1 : ∀ o : Obj, (World.alloc w28 o).cell? ⟨w8.heap.size, 1, none⟩ = some (.slice ra r.2.length rc) := fun o => (cellB bA (by omega)).trans r1
  have ta_d0 : ∀ o : Obj, (World.alloc w28 o).cell? ⟨w17.heap.size, 0, none⟩ = some (.int .i64 D.1) := fun o => (cellB bA (by omega)).trans d0
  have ta_d1 : ∀ o : Obj, (World.alloc w28 o).cell? ⟨w17.heap.size, 1, none⟩ = some (.slice da D.2.length dc) := fun o => (cellB bA (by omega)).trans d1
  have tb_p0 : ∀ o o2 : Obj, (World.alloc (World.alloc w28 o) o2).cell? ⟨w3.heap.size, 0, none⟩ = some (.int .i64 op.1) := fun o o2 => (cellB bAA (by omega)).trans p0
  have tb_p1 : ∀ o o2 : Obj, (World.alloc (World.alloc w28 o) o2).cell? ⟨w3.heap.size, 1, none⟩ = some (.slice oa op.2.length oc) := fun o o2 => (cellB bAA (by omega)).trans p1
  have tb_g0 : ∀ o o2 : Obj, (World.alloc (World.alloc w28 o) o2).cell? ⟨w5.heap.size, 0, none⟩ = some (.int .i64 g.1) := fun o o2 => (cellB bAA (by omega)).trans g0
  have tb_g1 : ∀ o o2 : Obj, (World.alloc (World.alloc w28 o) o2).cell? ⟨w5.heap.size, 1, none⟩ = some (.slice ga g.2.length gc) := fun o o2 => (cellB bAA (by omega)).trans g1
  have tb_r0 : ∀ o o2 : Obj, (World.alloc (World.alloc w28 o) o2).cell? ⟨w8.heap.size, 0, none⟩ = some (.int .i64 r.1) := fun o o2 => (cellB bAA (by omega)).trans r0
  have tb_r1 : ∀ o o2 : Obj, (World.alloc (World.alloc w28 o) o2).cell? ⟨w8.heap.size, 1, none⟩ = some (.slice ra r.2.length rc) := fun o o2 => (cellB bAA (by omega)).trans r1
  have tb_d0 : ∀ o o2 : Obj, (World.alloc (World.alloc w28 o) o2).cell? ⟨w17.heap.size, 0, none⟩ = some (.int .i64 D.1) := fun o o2 => (cellB bAA (by omega)).trans d0
  have tb_d1 : ∀ o o2 : Obj, (World.alloc (World.alloc w28 o) o2).cell? ⟨w17.heap.size, 1, none⟩ = some (.slice da D.2.length dc) := fun o o2 => (cellB bAA (by omega)).trans d1
  go_wp2_with fail
  clear ta_p0 ta_p1 ta_g0 ta_g1 ta_r0 ta_r1 ta_d0 ta_d1 tb_p0 tb_p1 tb_g0 tb_g1 tb_r0 tb_r1 tb_d0 tb_d1
  generalize hW29 : World.alloc w28 _ = w29
  have hb29 : Below w28.heap.size w28 w29 := hW29 ▸ bA
  have hy29 : w28.heap.size + 1 ≤ w29.heap.size := by rw [← hW29]; simp
  have f0 : w29.cell? ⟨w28.heap.size, 0, none⟩ = some (.int .i64 F.1) := by rw [← hW29]; simp [go_sem]
  have f1 : w29.cell? ⟨w28.heap.size, 1, none⟩ = some (.slice ua F.2.length uc) := by rw [← hW29]; simp [go_sem]
  have hss29 : w29.heap.size = w28.heap.size + 1 := by rw [← hW29]; simp
  clear hW29
  have hz29 := hb29.size
  replace p0 := (cellB hb29 (by omega)).trans p0
  replace p1 := (cellB hb29 (by omega)).trans p1
  replace g0 := (cellB hb29 (by omega)).trans g0
  replace g1 := (cellB hb29 (by omega)).trans g1
  replace r0 := (cellB hb29 (by omega)).trans r0
  replace r1 := (cellB hb29 (by omega)).trans r1
  replace d0 := (cellB hb29 (by omega)).trans d0
  replace d1 := (cellB hb29 (by omega)).trans d1
  replace HOP := Lib.hid (HOP.out.below hb29)
  replace HG := Lib.hid (HG.out.below hb29)
  replace HR := Lib.hid (HR.out.below hb29)
  replace HD := Lib.hid (HD.out.below hb29)
  replace HFU := Lib.hid (HFU.out.below hb29)
  have hbw29 := bthen hbw28 hb29
  generalize hW30 : World.alloc w29 _ = w30
  have hb30 : Below w29.heap.size w29 w30 := hW30 ▸ bA
  have hy30 : w29.heap.size + 1 ≤ w30.heap.size := by rw [← hW30]; simp
  have HT2 : Hid (tplT.Rd w30 [.int .i64 s, .slice (some ⟨w28.heap.size + 1, 0, none⟩) 2 2] (s, [F, r])) := by unfold Hid; rw [← hW30]; have hl := lit_two (T := 27) HFU.out HR.out; rw [hss29] at hl; exact pair_mk (I64.small (by omega) (by omega)) hl
  have hss30 : w30.heap.size = w29.heap.size + 1 := by rw [← hW30]; simp
  clear hW30
  have hz30 := hb30.size
  replace p0 := (cellB hb30 (by omega)).trans p0
  replace p1 := (cellB hb30 (by omega)).trans p1
  replace g0 := (cellB hb30 (by omega)).trans g0
  replace g1 := (cellB hb30 (by omega)).trans g1
  replace r0 := (cellB hb30 (by omega)).trans r0
  replace r1 := (cellB hb30 (by omega)).trans r1
  replace d0 := (cellB hb30 (by omega)).trans d0
  replace d1 := (cellB hb30 (by omega)).trans d1
  replace f0 := (cellB hb30 (by omega)).trans f0
  replace f1 := (cellB hb30 (by omega)).trans f1
  replace HOP := Lib.hid (HOP.out.below hb30)
  replace HG := Lib.hid (HG.out.below hb30)
  replace HR := Lib.hid (HR.out.below hb30)
  replace HD := Lib.hid (HD.out.below hb30)
  replace HFU := Lib.hid (HFU.out.below hb30)
  have hbw30 := bthen hbw29 hb30
  have HDT2 : Hid (tplOk (s, [F, r])) := ⟨HRK.out.1, by simp, fun q hq => by
   rcases List.mem_cons.1 hq with rfl | hq
   ·exact HFK.out.1
   ·rw [List.mem_singleton.1 hq]; exact HRK.out⟩
  have HB2 : Hid (brokenI (s, [F, r]) op = -1) := by unfold Hid; rw [brk_two HFK.out.2, tb_true HK.out]
  refine (KeepsAll_any w30 (t := (s, [F, r])) (f := op) HT2.out HOP.out HDT2.out HOK.out).mono ?_
  rintro e w31 ⟨rfl, hb31⟩
  rw [HB2.out]
  clear HT2
  have hz31 := hb31.size
  replace p0 := (cellB hb31 (by omega)).trans p0
  replace p1 := (cellB hb31 (by omega)).trans p1
  replace g0 := (cellB hb31 (by omega)).trans g0
  replace g1 := (cellB hb31 (by omega)).trans g1
  replace r0 := (cellB hb31 (by omega)).trans r0
  replace r1 := (cellB hb31 (by omega)).trans r1
  replace d0 := (cellB hb31 (by omega)).trans d0
  replace d1 := (cellB hb31 (by omega)).trans d1
  replace f0 := (cellB hb31 (by omega)).trans f0
  replace f1 := (cellB hb31 (by omega)).trans f1
  replace HOP := Lib.hid (HOP.out.below hb31)
  replace HG := Lib.hid (HG.out.below hb31)
  replace HR := Lib.hid (HR.out.below hb31)
  replace HD := Lib.hid (HD.out.below hb31)
  replace HFU := Lib.hid (HFU.out.below hb31)
  have hbw31 := bthen hbw30 hb31
  clear f0 f1 p0 p1 r0 r1
  clear HFU HOP HR
  have HCK : Hid (∀ q ∈ cuV s 1 [g], opOk s q ∧ keepsP s q D) := by
   have := cu_keeps (s := s) (D := D) (ops := [g]) (ar := 1) HCD.out.1 (fun q hq => by
    rw [List.mem_singleton.1 hq]
    exact ⟨HGK.out, HCD.out.2.2.2.1 g (List.mem_cons_of_mem _ (List.mem_cons_self ..))⟩) (by omega)
   exact this
  have ta_g0 : ∀ o : Obj, (World.alloc w31 o).cell? ⟨w5.heap.size, 0, none⟩ = some (.int .i64 g.1) := fun o => (cellB bA (by omega)).trans g0
  have ta_g1 : ∀ o : Obj, (World.alloc w31 o).cell? ⟨w5.heap.size, 1, none⟩ = some (.slice ga g.2.length gc) := fun o => (cellB bA (by omega)).trans g1
  have ta_d0 : ∀ o : Obj, (World.alloc w31 o).cell? ⟨w17.heap.size, 0, none⟩ = some (.int .i64 D.1) := fun o => (cellB bA (by omega)).trans d0
  have ta_d1 : ∀ o : Obj, (World.alloc w31 o).cell? ⟨w17.heap.size, 1, none⟩ = some (.slice da D.2.length dc) := fun o => (cellB bA (by omega)).trans d1
  go_wp2_with fail
  clear ta_g0 ta_g1 ta_d0 ta_d1
  generalize hW32 : World.alloc w31 _ = w32
  have hb32 : Below w31.heap.size w31 w32 := hW32 ▸ bA
  have hy32 : w31.heap.size + 1 ≤ w32.heap.size := by rw [← hW32]; simp
  have HLT : Hid (opsT.Rd w32 [.slice (some ⟨w31.heap.size, 0, none⟩) 1 1] [g]) := by unfold Hid; rw [← hW32]; exact lit_one HG.out
  have hss32 : w32.heap.size = w31.heap.size + 1 := by rw [← hW32]; simp
  clear hW32
  have hz32 := hb32.size
  replace g0 := (cellB hb32 (by omega)).trans g0
  replace g1 := (cellB hb32 (by omega)).trans g1
  replace d0 := (cellB hb32 (by omega)).trans d0
  replace d1 := (cellB hb32 (by omega)).trans d1
  replace HG := Lib.hid (HG.out.below hb32)
  replace HD := Lib.hid (HD.out.below hb32)
  have hbw32 := bthen hbw31 hb32
  refine (CloneUpTo_any w32 HLT.out (s := s) (ar := 1)).mono ?_
  rintro e w33 ⟨u, rfl, hf, hb33⟩
  obtain ⟨na, nc, rfl⟩ := fr_slice hf
  have HQ1 := Lib.hid hf.rd
  clear hf HLT
  have hz33 := hb33.size
  replace g0 := (cellB hb33 (by omega)).trans g0
  replace g1 := (cellB hb33 (by omega)).trans g1
  replace d0 := (cellB hb33 (by omega)).trans d0
  replace d1 := (cellB hb33 (by omega)).trans d1
  replace HG := Lib.hid (HG.out.below hb33)
  replace HD := Lib.hid (HD.out.below hb33)
  have hbw33 := bthen hbw32 hb33
  have ta_g0 : ∀ o : Obj, (World.alloc w33 o).cell? ⟨w5.heap.size, 0, none⟩ = some (.int .i64 g.1) := fun o => (cellB bA (by omega)).trans g0
  have ta_g1 : ∀ o : Obj, (World.alloc w33 o).cell? ⟨w5.heap.size, 1, none⟩ = some (.slice ga g.2.length gc) := fun o => (cellB bA (by omega)).trans g1
  have ta_d0 : ∀ o : Obj, (World.alloc w33 o).cell? ⟨w17.heap.size, 0, none⟩ = some (.int .i64 D.1) := fun o => (cellB bA (by omega)).trans d0
  have ta_d1 : ∀ o : Obj, (World.alloc w33 o).cell? ⟨w17.heap.size, 1, none⟩ = some (.slice da D.2.length dc) := fun o => (cellB bA (by omega)).trans d1
  go_wp2_with fail
  clear ta_g0 ta_g1 ta_d0 ta_d1
  generalize hW34 : World.alloc w33 _ = w34
  have hb34 : Below w33.heap.size w33 w34 := hW34 ▸ bA
  have hy34 : w33.heap.size + 1 ≤ w34.heap.size := by rw [← hW34]; simp
  have HLT : Hid (opsT.Rd w34 [.slice (some ⟨w33.heap.size, 0, none⟩) 1 1] [g]) := by unfold Hid; rw [← hW34]; exact lit_one HG.out
  have hss34 : w34.heap.size = w33.heap.size + 1 := by rw [← hW34]; simp
  clear hW34
  have hz34 := hb34.size
  replace g0 := (cellB hb34 (by omega)).trans g0
  replace g1 := (cellB hb34 (by omega)).trans g1
  replace d0 := (cellB hb34 (by omega)).trans d0
  replace d1 := (cellB hb34 (by omega)).trans d1
  replace HG := Lib.hid (HG.out.below hb34)
  replace HD := Lib.hid (HD.out.below hb34)
  replace HQ1 := Lib.hid (HQ1.out.below hb34)
  have hbw34 := bthen hbw33 hb34
  refine (specCloneUpTo_any w34 HLT.out (s := s) (ar := 1)).mono ?_
  rintro e w35 ⟨u, rfl, hf, hb35⟩
  obtain ⟨ma1, mc1, rfl⟩ := fr_slice hf
  have HQ2 := Lib.hid hf.rd
  clear hf HLT
  have hz35 := hb35.size
  replace g0 := (cellB hb35 (by omega)).trans g0
  replace g1 := (cellB hb35 (by omega)).trans g1
  replace d0 := (cellB hb35 (by omega)).trans d0
  replace d1 := (cellB hb35 (by omega)).trans d1
  replace HG := Lib.hid (HG.out.below hb35)
  replace HD := Lib.hid (HD.out.below hb35)
  replace HQ1 := Lib.hid (HQ1.out.below hb35)
  have hbw35 := bthen hbw34 hb35
  clear g0 g1
  clear HG
  generalize cuC s 1 [g] = qc
  generalize cuV s 1 [g] = Q at HQ1 HQ2 HCK ⊢
  have hnn : (qc != qc) = false := by simp
  go_wp2_with fail
  clear hnn
  refine (SameOps_quiet w35 HQ1.out HQ2.out).mono ?_
  rintro e w36 ⟨rfl, hq⟩
  rw [show eqB Q Q = true from eqB_true rfl]
  have hb36 := hq.below
  clear hq
  have hz36 := hb36.size
  replace d0 := (cellB hb36 (by omega)).trans d0
  replace d1 := (cellB hb36 (by omega)).trans d1
  replace HD := Lib.hid (HD.out.below hb36)
  replace HQ1 := Lib.hid (HQ1.out.below hb36)
  replace HQ2 := Lib.hid (HQ2.out.below hb36)
  have hbw36 := bthen hbw35 hb36
  clear HQ1
  obtain ⟨qad, qcap, hqv, -, hql, hqc⟩ := pairs_ex HQ2.out
  simp only [List.cons.injEq, Value.slice.injEq, and_true, true_and] at hqv
  obtain ⟨rfl, rfl⟩ := hqv
  have HQC := Lib.hid hqc
  clear hqc
  go_wp2_with fail
  go_loopw [42] (fun i wr => ∃ k : Nat, k ≤ Q.length ∧ i = .int .i64 k ∧ Below w36.heap.size w36 wr) (fun i _ => Q.length - (intOf i).toNat)
  case atStart => exact ⟨0, Nat.zero_le _, rfl, Below.refl _ _⟩
  case round =>
   obtain ⟨k, hk, rfl, hbe⟩ := hrel
   obtain ⟨wv, rfl⟩ : ∃ wv : World, wv = wr := ⟨_, rfl⟩
   have hzv := hbe.size
   by_cases hkl : k < Q.length
   ·obtain ⟨ab, ao, rfl, hab, hac⟩ := HQC.out (by omega)
    obtain ⟨tv, htv, hIt, e0, e1⟩ := hac k hkl
    obtain ⟨ta, tc, rfl⟩ := rd_slice htv
    replace e0 := (cellB hbe hab).trans e0
    replace e1 := (cellB hbe hab).trans e1
    have hdb : w17.heap.size < w36.heap.size := by omega
    replace d0 := (cellB hbe hdb).trans d0
    replace d1 := (cellB hbe hdb).trans d1
    have HT := Lib.hid ((pair_mk hIt htv).below hbe)
    have HDv := Lib.hid (HD.out.below hbe)
    have HQK := Lib.hid (HCK.out _ (List.getElem_mem hkl))
    change Hid (opT.Rd wv [.int .i64 (Q[k]).1, _] Q[k]) at HT
    generalize Q[k] = q at e0 e1 HT HQK
    clear hac htv hIt
    go_wp2_with fail
    refine wp_region_T (fun w' => w'.cell? ⟨ab, ao + k * 2, none⟩ = some (.int .i64 q.1) ∧ w'.cell? ⟨ab, ao + k * 2 + 1, none⟩ = some (.slice ta q.2.length tc) ∧ w'.cell? ⟨w17.heap.size, 0, none⟩ = some (.int .i64 D.1) ∧ w'.cell? ⟨w17.heap.size, 1, none⟩ = some (.slice da D.2.length dc)) [] (by kernel_rfl) ⟨e0, e1, d0, d1⟩ (fun hHeld => ?_)
    refine wpAnyT_take (i := 0) (v := ?_) rfl (by as_aux_lemma => kernel_rfl) (fun _ _ _ h => h) (Or.inl ⟨by rfl, ?_⟩) (by assumption) ?_
    rotate_left
    ·(intro w hSw; (try dsimp only at hSw); go_simp <;> with_reducible rfl)
    go_simp
    refine wpAnyT_take (i := 1) (v := ?_) rfl (by as_aux_lemma => kernel_rfl) (fun _ _ _ h => h) (Or.inl ⟨by rfl, ?_⟩) (by assumption) ?_
    rotate_left
    ·(intro w hSw; (try dsimp only at hSw); go_simp <;> with_reducible rfl)
    go_simp
    refine wpAnyT_take (i := 2) (v := ?_) rfl (by as_aux_lemma => kernel_rfl) (fun _ _ _ h => h) (Or.inl ⟨by rfl, ?_⟩) (by assumption) ?_
    rotate_left
    ·(intro w hSw; (try dsimp only at hSw); go_simp <;> with_reducible rfl)
    go_simp
    refine wpAnyT_take (i := 3) (v := ?_) rfl (by as_aux_lemma => kernel_rfl) (fun _ _ _ h => h) (Or.inl ⟨by rfl, ?_⟩) (by assumption) ?_
    rotate_left
    ·(intro w hSw; (try dsimp only at hSw); go_simp <;> with_reducible rfl)
    go_simp
    refine wpAnyT_take (i := 4) (v := ?_) rfl (by as_aux_lemma => kernel_rfl) (fun _ _ _ h => h) (Or.inl ⟨by rfl, ?_⟩) (by assumption) ?_
    rotate_left
    ·(intro w hSw; (try dsimp only at hSw); go_simp <;> with_reducible rfl)
    go_simp
    refine wpAnyT_take (i := 5) (v := ?_) rfl (by as_aux_lemma => kernel_rfl) (fun _ _ _ h => h) (Or.inl ⟨by rfl, ?_⟩) (by assumption) ?_
    rotate_left
    ·(intro w hSw; (try dsimp only at hSw); go_simp <;> with_reducible rfl)
    go_simp
    have hbD : Below wv.heap.size wv wv.drew := bD
    obtain ⟨wx, hwx⟩ : ∃ x : World, x = wv.drew := ⟨_, rfl⟩
    rw [← hwx] at hHeld hbD ⊢
    clear hwx
    have hzx := hbD.size
    refine wpAnyT_one (i := 6) rfl (by kernel_rfl) (fun K hK => ?_)
    go_simp
    go_at_call 22
    refine (Keeps_any wx (f := q) (r := D) (HT.out.below hbD) (HDv.out.below hbD) (s := s) HCD.out.1 HQK.out.1).mono ?_
    rintro e wy ⟨rfl, hby⟩
    rw [tb_true HQK.out.2]
    have hbY := bthen hbD hby
    dsimp only
    have habv : ab < wv.heap.size := by omega
    have hdbv : w17.heap.size < wv.heap.size := by omega
    refine hK.out _ _ ⟨(cellB hbY habv).trans e0, (cellB hbY habv).trans e1, (cellB hbY hdbv).trans d0, (cellB hbY hdbv).trans d1⟩ (fun hHeld => ?_)
    clear hK K
    refine wpAnyT_take (i := 7) (v := ?_) rfl (by as_aux_lemma => kernel_rfl) (fun _ _ _ h => h) (Or.inl ⟨by rfl, ?_⟩) (by assumption) ?_
    rotate_left
    ·(intro w hSw; (try dsimp only at hSw); go_simp <;> with_reducible rfl)
    go_simp
    refine wpAnyT_take (i := 8) (v := ?_) rfl (by as_aux_lemma => kernel_rfl) (fun _ _ _ h => h) (Or.inl ⟨by rfl, ?_⟩) (by assumption) ?_
    rotate_left
    ·(intro w hSw; (try dsimp only at hSw); go_simp <;> with_reducible rfl)
    go_simp
    refine wpAnyT_take (i := 9) (v := ?_) rfl (by as_aux_lemma => kernel_rfl) (fun _ _ _ h => h) (Or.inl ⟨by rfl, ?_⟩) (by assumption) ?_
    rotate_left
    ·(intro w hSw; (try dsimp only at hSw); go_simp <;> with_reducible rfl)
    go_simp
    refine wpAnyT_take (i := 10) (v := ?_) rfl (by as_aux_lemma => kernel_rfl) (fun _ _ _ h => h) (Or.inl ⟨by rfl, ?_⟩) (by assumption) ?_
    rotate_left
    ·(intro w hSw; (try dsimp only at hSw); go_simp <;> with_reducible rfl)
    go_simp
    refine wpAnyT_take (i := 11) (v := ?_) rfl (by as_aux_lemma => kernel_rfl) (fun _ _ _ h => h) (Or.inl ⟨by rfl, ?_⟩) (by assumption) ?_
    rotate_left
    ·(intro w hSw; (try dsimp only at hSw); go_simp <;> with_reducible rfl)
    go_simp
    refine wpAnyT_done (by kernel_rfl) ?_ _
    go_simp
    clear hHeld
    go_wp2_with fail
    go_roundw
    case rel => exact ⟨k + 1, by omega, by go_num, bthen hbe hbY⟩
    case measure => simp [intOf]; omega
   ·obtain rfl : k = Q.length := by omega
    go_wp2_with fail
    go_ret
    exact ⟨rfl, bthen hbw36 hbe⟩
 ·have HK : Hid (¬ keepsP s op r) := fun h => by rw [tb_true h] at hkb; cases hkb
  rw [hkb] at HOE
  refine (Keeps_any w9 (f := op) (r := r) HOP.out HR.out (s := s) HRK.out HOK.out).mono ?_
  rintro e w10 ⟨rfl, hb10⟩
  rw [hkb]
  clear hkb
  have hz10 := hb10.size
  replace p0 := (cellB hb10 (by omega)).trans p0
  replace p1 := (cellB hb10 (by omega)).trans p1
  replace g0 := (cellB hb10 (by omega)).trans g0
  replace g1 := (cellB hb10 (by omega)).trans g1
  replace r0 := (cellB hb10 (by omega)).trans r0
  replace r1 := (cellB hb10 (by omega)).trans r1
  replace HOP := Lib.hid (HOP.out.below hb10)
  replace HG := Lib.hid (HG.out.below hb10)
  replace HR := Lib.hid (HR.out.below hb10)
  have hbw10 := bthen hbw9 hb10
  go_wp2_with fail
  refine (BreakingTuples_any w10 (f := op) (r := r) HOP.out HR.out (s := s) HRK.out HOK.out).mono ?_
  rintro e w11 ⟨hres, hb11⟩
  obtain ⟨ar, k, la, ma, lc, mc, hfa, hbk, rfl, hl, hm⟩ := hres.resolve_left (fun h => HK.out h.1)
  have HL := Lib.hid hl
  have HM := Lib.hid hm
  have HBK := Lib.hid hbk
  have HFA := Lib.hid hfa
  clear hl hm hbk hfa hres
  have hz11 := hb11.size
  replace p0 := (cellB hb11 (by omega)).trans p0
  replace p1 := (cellB hb11 (by omega)).trans p1
  replace g0 := (cellB hb11 (by omega)).trans g0
  replace g1 := (cellB hb11 (by omega)).trans g1
  replace r0 := (cellB hb11 (by omega)).trans r0
  replace r1 := (cellB hb11 (by omega)).trans r1
  replace HOP := Lib.hid (HOP.out.below hb11)
  replace HG := Lib.hid (HG.out.below hb11)
  replace HR := Lib.hid (HR.out.below hb11)
  have hbw11 := bthen hbw10 hb11
  go_wp2_with fail
  refine (specBreakingTuples_any w11 (f := op) (r := r) HOP.out HR.out (s := s) HRK.out HOK.out).mono ?_
  rintro e w12 ⟨hres, hb12⟩
  obtain ⟨k', lv, ma', mc', hbk, rfl, hm⟩ := hres.resolve_left (fun h => HK.out h.1)
  obtain rfl := hbk.one HBK.out
  have HM2 := Lib.hid hm
  clear hm hbk hres
  have hz12 := hb12.size
  replace p0 := (cellB hb12 (by omega)).trans p0
  replace p1 := (cellB hb12 (by omega)).trans p1
  replace g0 := (cellB hb12 (by omega)).trans g0
  replace g1 := (cellB hb12 (by omega)).trans g1
  replace r0 := (cellB hb12 (by omega)).trans r0
  replace r1 := (cellB hb12 (by omega)).trans r1
  replace HOP := Lib.hid (HOP.out.below hb12)
  replace HG := Lib.hid (HG.out.below hb12)
  replace HR := Lib.hid (HR.out.below hb12)
  replace HL := Lib.hid (HL.out.below hb12)
  replace HM := Lib.hid (HM.out.below hb12)
  have hbw12 := bthen hbw11 hb12
  have HMK : Hid (madeL s op.2 (picks r.2 ar k') r.1.toNat = makes s op r k') := by unfold Hid makes; rw [HFA.out, Int.toNat_natCast]
  have HTO : Hid (tupsOk s op.1 r.1.toNat (picks r.2 ar k')) := by
   have := picks_ok HRK.out HOK.out (brk_pos HOK.out HBK.out) (k' : Int)
   rw [HFA.out, Int.toNat_natCast] at this
   rw [HFA.out]
   exact this
  have hrn : r.1.toNat ≤ 1000 := by have := HRA.out; omega
  have HNI : Hid (tb (makes s op r k' ∈ r.2) = false) := tb_false HBK.out.2.1
  generalize makes s op r k' = mk at HM HM2 HMK HNI ⊢
  generalize picks r.2 ar k' = pk at HL HMK HTO ⊢
  go_wp2_with fail
  refine (ApplyToTuples_any w12 (f := op) HOP.out HL.out (s := s) HOK.out HTO.out hrn).mono ?_
  rintro e w13 ⟨xv, rfl, hf, hb13⟩
  rw [HMK.out] at hf
  obtain ⟨xa, xc, rfl⟩ := fr_slice hf
  have HX := Lib.hid hf.rd
  clear hf
  have hz13 := hb13.size
  replace p0 := (cellB hb13 (by omega)).trans p0
  replace p1 := (cellB hb13 (by omega)).trans p1
  replace g0 := (cellB hb13 (by omega)).trans g0
  replace g1 := (cellB hb13 (by omega)).trans g1
  replace r0 := (cellB hb13 (by omega)).trans r0
  replace r1 := (cellB hb13 (by omega)).trans r1
  replace HOP := Lib.hid (HOP.out.below hb13)
  replace HG := Lib.hid (HG.out.below hb13)
  replace HR := Lib.hid (HR.out.below hb13)
  replace HL := Lib.hid (HL.out.below hb13)
  replace HM := Lib.hid (HM.out.below hb13)
  replace HM2 := Lib.hid (HM2.out.below hb13)
  have hbw13 := bthen hbw12 hb13
  go_wp2_with fail
  refine (HasTuple_any w13 (r := r) HR.out HM.out (s := s) HRK.out).mono ?_
  rintro e w14 ⟨rfl, hb14⟩
  rw [HNI.out]
  have hz14 := hb14.size
  replace p0 := (cellB hb14 (by omega)).trans p0
  replace p1 := (cellB hb14 (by omega)).trans p1
  replace g0 := (cellB hb14 (by omega)).trans g0
  replace g1 := (cellB hb14 (by omega)).trans g1
  replace r0 := (cellB hb14 (by omega)).trans r0
  replace r1 := (cellB hb14 (by omega)).trans r1
  replace HOP := Lib.hid (HOP.out.below hb14)
  replace HG := Lib.hid (HG.out.below hb14)
  replace HR := Lib.hid (HR.out.below hb14)
  replace HL := Lib.hid (HL.out.below hb14)
  replace HM := Lib.hid (HM.out.below hb14)
  replace HM2 := Lib.hid (HM2.out.below hb14)
  replace HX := Lib.hid (HX.out.below hb14)
  have hbw14 := bthen hbw13 hb14
  go_wp2_with fail
  refine (SameNumbers_any w14 HM.out HM2.out).mono ?_
  rintro e w15 ⟨rfl, hb15⟩
  rw [show eqB mk mk = true from eqB_true rfl]
  have hz15 := hb15.size
  replace p0 := (cellB hb15 (by omega)).trans p0
  replace p1 := (cellB hb15 (by omega)).trans p1
  replace g0 := (cellB hb15 (by omega)).trans g0
  replace g1 := (cellB hb15 (by omega)).trans g1
  replace r0 := (cellB hb15 (by omega)).trans r0
  replace r1 := (cellB hb15 (by omega)).trans r1
  replace HOP := Lib.hid (HOP.out.below hb15)
  replace HG := Lib.hid (HG.out.below hb15)
  replace HR := Lib.hid (HR.out.below hb15)
  replace HL := Lib.hid (HL.out.below hb15)
  replace HM := Lib.hid (HM.out.below hb15)
  replace HM2 := Lib.hid (HM2.out.below hb15)
  replace HX := Lib.hid (HX.out.below hb15)
  have hbw15 := bthen hbw14 hb15
  go_wp2_with fail
  refine (SameNumbers_any w15 HX.out HM.out).mono ?_
  rintro e w16 ⟨rfl, hb16⟩
  rw [show eqB mk mk = true from eqB_true rfl]
  have hz16 := hb16.size
  replace p0 := (cellB hb16 (by omega)).trans p0
  replace p1 := (cellB hb16 (by omega)).trans p1
  replace g0 := (cellB hb16 (by omega)).trans g0
  replace g1 := (cellB hb16 (by omega)).trans g1
  replace r0 := (cellB hb16 (by omega)).trans r0
  replace r1 := (cellB hb16 (by omega)).trans r1
  replace HOP := Lib.hid (HOP.out.below hb16)
  replace HG := Lib.hid (HG.out.below hb16)
  replace HR := Lib.hid (HR.out.below hb16)
  replace HL := Lib.hid (HL.out.below hb16)
  replace HM := Lib.hid (HM.out.below hb16)
  replace HM2 := Lib.hid (HM2.out.below hb16)
  replace HX := Lib.hid (HX.out.below hb16)
  have hbw16 := bthen hbw15 hb16
  clear HL HM HM2 HX
  clear HMK HTO HNI hrn
  have ta_p0 : ∀ o : Obj, (World.alloc w16 o).cell? ⟨w3.heap.size, 0, none⟩ = some (.int .i64 op.1) := fun o => (cellB bA (by omega)).trans p0
  have ta_p1 : ∀ o : Obj, (World.alloc w16 o).cell? ⟨w3.heap.size, 1, none⟩ = some (.slice oa op.2.length oc) := fun o => (cellB bA (by omega)).trans p1
  have ta_g0 : ∀ o : Obj, (World.alloc w16 o).cell? ⟨w5.heap.size, 0, none⟩ = some (.int .i64 g.1) := fun o => (cellB bA (by omega)).trans g0
  have ta_g1 : ∀ o : Obj, (World.alloc w16 o).cell? ⟨w5.heap.size, 1, none⟩ = some (.slice ga g.2.length gc) := fun o => (cellB bA (by omega)).trans g1
  have ta_r0 : ∀ o : Obj, (World.alloc w16 o).cell? ⟨w8.heap.size, 0, none⟩ = some (.int .i64 r.1) := fun o => (cellB bA (by omega)).trans r0
  have ta_r1 : ∀ o : Obj, (World.alloc w16 o).cell? ⟨w8.heap.size, 1, none⟩ = some (.slice ra r.2.length rc) := fun o => (cellB bA (by omega)).trans r1
  go_wp2_with fail
  clear ta_p0 ta_p1 ta_g0 ta_g1 ta_r0 ta_r1
  generalize hW17 : World.alloc w16 _ = w17
  have hb17 : Below w16.heap.size w16 w17 := hW17 ▸ bA
  have hy17 : w16.heap.size + 1 ≤ w17.heap.size := by rw [← hW17]; simp
  have HLT : Hid (opsT.Rd w17 [.slice (some ⟨w16.heap.size, 0, none⟩) 2 2] [op, g]) := by unfold Hid; rw [← hW17]; exact lit_two HOP.out HG.out
  have hss17 : w17.heap.size = w16.heap.size + 1 := by rw [← hW17]; simp
  clear hW17
  have hz17 := hb17.size
  replace p0 := (cellB hb17 (by omega)).trans p0
  replace p1 := (cellB hb17 (by omega)).trans p1
  replace g0 := (cellB hb17 (by omega)).trans g0
  replace g1 := (cellB hb17 (by omega)).trans g1
  replace r0 := (cellB hb17 (by omega)).trans r0
  replace r1 := (cellB hb17 (by omega)).trans r1
  replace HOP := Lib.hid (HOP.out.below hb17)
  replace HG := Lib.hid (HG.out.below hb17)
  replace HR := Lib.hid (HR.out.below hb17)
  have hbw17 := bthen hbw16 hb17
  obtain ⟨D, hD⟩ : ∃ q, q = coV s r.1 [op, g] r.2 := ⟨_, rfl⟩
  have HED := Lib.hid hD
  clear hD
  have hco := ClosureOf_any w17 HLT.out (cons_tail HR.out) s r.1 (fun _ => HRL.out)
  rw [HCZ.out, ← HED.out] at hco
  refine (hco).mono ?_
  rintro e w18 ⟨cs, rfl, hf, hb18⟩
  obtain ⟨ca, cc, rfl⟩ := fr_pair hf
  have HC := Lib.hid hf.rd
  clear hf hco HLT
  have hz18 := hb18.size
  replace p0 := (cellB hb18 (by omega)).trans p0
  replace p1 := (cellB hb18 (by omega)).trans p1
  replace g0 := (cellB hb18 (by omega)).trans g0
  replace g1 := (cellB hb18 (by omega)).trans g1
  replace r0 := (cellB hb18 (by omega)).trans r0
  replace r1 := (cellB hb18 (by omega)).trans r1
  replace HOP := Lib.hid (HOP.out.below hb18)
  replace HG := Lib.hid (HG.out.below hb18)
  replace HR := Lib.hid (HR.out.below hb18)
  have hbw18 := bthen hbw17 hb18
  have HCD : Hid (relOk s D ∧ D.1 = r.1 ∧ (∀ l, l ∈ D.2 ↔ Clo s [op, g] arr r.2 l) ∧ (∀ f ∈ [op, g], keepsP s f D) ∧ ∀ l ∈ r.2, l ∈ D.2) := by unfold Hid; rw [HED.out]; exact HCI.out
  have ta_p0 : ∀ o : Obj, (World.alloc w18 o).cell? ⟨w3.heap.size, 0, none⟩ = some (.int .i64 op.1) := fun o => (cellB bA (by omega)).trans p0
  have ta_p1 : ∀ o : Obj, (World.alloc w18 o).cell? ⟨w3.heap.size, 1, none⟩ = some (.slice oa op.2.length oc) := fun o => (cellB bA (by omega)).trans p1
  have ta_g0 : ∀ o : Obj, (World.alloc w18 o).cell? ⟨w5.heap.size, 0, none⟩ = some (.int .i64 g.1) := fun o => (cellB bA (by omega)).trans g0
  have ta_g1 : ∀ o : Obj, (World.alloc w18 o).cell? ⟨w5.heap.size, 1, none⟩ = some (.slice ga g.2.length gc) := fun o => (cellB bA (by omega)).trans g1
  have ta_r0 : ∀ o : Obj, (World.alloc w18 o).cell? ⟨w8.heap.size, 0, none⟩ = some (.int .i64 r.1) := fun o => (cellB bA (by omega)).trans r0
  have ta_r1 : ∀ o : Obj, (World.alloc w18 o).cell? ⟨w8.heap.size, 1, none⟩ = some (.slice ra r.2.length rc) := fun o => (cellB bA (by omega)).trans r1
  have tb_p0 : ∀ o o2 : Obj, (World.alloc (World.alloc w18 o) o2).cell? ⟨w3.heap.size, 0, none⟩ = some (.int .i64 op.1) := fun o o2 => (cellB bAA (by omega)).trans p0
  have tb_p1 : ∀ o o2 : Obj, (World.alloc (World.alloc w18 o) o2).cell? ⟨w3.heap.size, 1, none⟩ = some (.slice oa op.2.length oc) := fun o o2 => (cellB bAA (by omega)).trans p1
  have tb_g0 : ∀ o o2 : Obj, (World.alloc (World.alloc w18 o) o2).cell? ⟨w5.heap.size, 0, none⟩ = some (.int .i64 g.1) := fun o o2 => (cellB bAA (by omega)).trans g0
  have tb_g1 : ∀ o o2 : Obj, (World.alloc (World.alloc w18 o) o2).cell? ⟨w5.heap.size, 1, none⟩ = some (.slice ga g.2.length gc) := fun o o2 => (cellB bAA (by omega)).trans g1
  have tb_r0 : ∀ o o2 : Obj, (World.alloc (World.alloc w18 o) o2).cell? ⟨w8.heap.size, 0, none⟩ = some (.int .i64 r.1) := fun o o2 => (cellB bAA (by omega)).trans r0
  have tb_r1 : ∀ o o2 : Obj, (World.alloc (World.alloc w18 o) o2).cell? ⟨w8.heap.size, 1, none⟩ = some (.slice ra r.2.length rc) := fun o o2 => (cellB bAA (by omega)).trans r1
  go_wp2_with fail
  clear ta_p0 ta_p1 ta_g0 ta_g1 ta_r0 ta_r1 tb_p0 tb_p1 tb_g0 tb_g1 tb_r0 tb_r1
  generalize hW19 : World.alloc w18 _ = w19
  have hb19 : Below w18.heap.size w18 w19 := hW19 ▸ bA
  have hy19 : w18.heap.size + 1 ≤ w19.heap.size := by rw [← hW19]; simp
  have c0 : w19.cell? ⟨w18.heap.size, 0, none⟩ = some (.int .i64 D.1) := by rw [← hW19]; simp [go_sem]
  have c1 : w19.cell? ⟨w18.heap.size, 1, none⟩ = some (.slice ca D.2.length cc) := by rw [← hW19]; simp [go_sem]
  have hss19 : w19.heap.size = w18.heap.size + 1 := by rw [← hW19]; simp
  clear hW19
  have hz19 := hb19.size
  replace p0 := (cellB hb19 (by omega)).trans p0
  replace p1 := (cellB hb19 (by omega)).trans p1
  replace g0 := (cellB hb19 (by omega)).trans g0
  replace g1 := (cellB hb19 (by omega)).trans g1
  replace r0 := (cellB hb19 (by omega)).trans r0
  replace r1 := (cellB hb19 (by omega)).trans r1
  replace HOP := Lib.hid (HOP.out.below hb19)
  replace HG := Lib.hid (HG.out.below hb19)
  replace HR := Lib.hid (HR.out.below hb19)
  replace HC := Lib.hid (HC.out.below hb19)
  have hbw19 := bthen hbw18 hb19
  generalize hW20 : World.alloc w19 _ = w20
  have hb20 : Below w19.heap.size w19 w20 := hW20 ▸ bA
  have hy20 : w19.heap.size + 1 ≤ w20.heap.size := by rw [← hW20]; simp
  have HLT : Hid (opsT.Rd w20 [.slice (some ⟨w18.heap.size + 1, 0, none⟩) 2 2] [op, g]) := by unfold Hid; rw [← hW20]; have hl := lit_two (T := 44) HOP.out HG.out; rw [hss19] at hl; exact hl
  have hss20 : w20.heap.size = w19.heap.size + 1 := by rw [← hW20]; simp
  clear hW20
  have hz20 := hb20.size
  replace p0 := (cellB hb20 (by omega)).trans p0
  replace p1 := (cellB hb20 (by omega)).trans p1
  replace g0 := (cellB hb20 (by omega)).trans g0
  replace g1 := (cellB hb20 (by omega)).trans g1
  replace r0 := (cellB hb20 (by omega)).trans r0
  replace r1 := (cellB hb20 (by omega)).trans r1
  replace c0 := (cellB hb20 (by omega)).trans c0
  replace c1 := (cellB hb20 (by omega)).trans c1
  replace HOP := Lib.hid (HOP.out.below hb20)
  replace HG := Lib.hid (HG.out.below hb20)
  replace HR := Lib.hid (HR.out.below hb20)
  replace HC := Lib.hid (HC.out.below hb20)
  have hbw20 := bthen hbw19 hb20
  have hco := specClosureOf_any w20 HLT.out (cons_tail HR.out) s r.1 (by have := HRL.out; omega)
  rw [HCZ.out, ← HED.out] at hco
  refine (hco).mono ?_
  rintro e w21 ⟨cs, rfl, hf, hb21⟩
  obtain ⟨da, dc, rfl⟩ := fr_pair hf
  have HD := Lib.hid hf.rd
  clear hf hco HLT
  have hz21 := hb21.size
  replace p0 := (cellB hb21 (by omega)).trans p0
  replace p1 := (cellB hb21 (by omega)).trans p1
  replace g0 := (cellB hb21 (by omega)).trans g0
  replace g1 := (cellB hb21 (by omega)).trans g1
  replace r0 := (cellB hb21 (by omega)).trans r0
  replace r1 := (cellB hb21 (by omega)).trans r1
  replace c0 := (cellB hb21 (by omega)).trans c0
  replace c1 := (cellB hb21 (by omega)).trans c1
  replace HOP := Lib.hid (HOP.out.below hb21)
  replace HG := Lib.hid (HG.out.below hb21)
  replace HR := Lib.hid (HR.out.below hb21)
  replace HC := Lib.hid (HC.out.below hb21)
  have hbw21 := bthen hbw20 hb21
  have ta_p0 : ∀ o : Obj, (World.alloc w21 o).cell? ⟨w3.heap.size, 0, none⟩ = some (.int .i64 op.1) := fun o => (cellB bA (by omega)).trans p0
  have ta_p1 : ∀ o : Obj, (World.alloc w21 o).cell? ⟨w3.heap.size, 1, none⟩ = some (.slice oa op.2.length oc) := fun o => (cellB bA (by omega)).trans p1
  have ta_g0 : ∀ o : Obj, (World.alloc w21 o).cell? ⟨w5.heap.size, 0, none⟩ = some (.int .i64 g.1) := fun o => (cellB bA (by omega)).trans g0
  have ta_g1 : ∀ o : Obj, (World.alloc w21 o).cell? ⟨w5.heap.size, 1, none⟩ = some (.slice ga g.2.length gc) := fun o => (cellB bA (by omega)).trans g1
  have ta_r0 : ∀ o : Obj, (World.alloc w21 o).cell? ⟨w8.heap.size, 0, none⟩ = some (.int .i64 r.1) := fun o => (cellB bA (by omega)).trans r0
  have ta_r1 : ∀ o : Obj, (World.alloc w21 o).cell? ⟨w8.heap.size, 1, none⟩ = some (.slice ra r.2.length rc) := fun o => (cellB bA (by omega)).trans r1
  have ta_c0 : ∀ o : Obj, (World.alloc w21 o).cell? ⟨w18.heap.size, 0, none⟩ = some (.int .i64 D.1) := fun o => (cellB bA (by omega)).trans c0
  have ta_c1 : ∀ o : Obj, (World.alloc w21 o).cell? ⟨w18.heap.size, 1, none⟩ = some (.slice ca D.2.length cc) := fun o => (cellB bA (by omega)).trans c1
  have tb_p0 : ∀ o o2 : Obj, (World.alloc (World.alloc w21 o) o2).cell? ⟨w3.heap.size, 0, none⟩ = some (.int .i64 op.1) := fun o o2 => (cellB bAA (by omega)).trans p0
  have tb_p1 : ∀ o o2 : Obj, (World.alloc (World.alloc w21 o) o2).cell? ⟨w3.heap.size, 1, none⟩ = some (.slice oa op.2.length oc) := fun o o2 => (cellB bAA (by omega)).trans p1
  have tb_g0 : ∀ o o2 : Obj, (World.alloc (World.alloc w21 o) o2).cell? ⟨w5.heap.size, 0, none⟩ = some (.int .i64 g.1) := fun o o2 => (cellB bAA (by omega)).trans g0
  have tb_g1 : ∀ o o2 : Obj, (World.alloc (World.alloc w21 o) o2).cell? ⟨w5.heap.size, 1, none⟩ = some (.slice ga g.2.length gc) := fun o o2 => (cellB bAA (by omega)).trans g1
  have tb_r0 : ∀ o o2 : Obj, (World.alloc (World.alloc w21 o) o2).cell? ⟨w8.heap.size, 0, none⟩ = some (.int .i64 r.1) := fun o o2 => (cellB bAA (by omega)).trans r0
  have tb_r1 : ∀ o o2 : Obj, (World.alloc (World.alloc w21 o) o2).cell? ⟨w8.heap.size, 1, none⟩ = some (.slice ra r.2.length rc) := fun o o2 => (cellB bAA (by omega)).trans r1
  have tb_c0 : ∀ o o2 : Obj, (World.alloc (World.alloc w21 o) o2).cell? ⟨w18.heap.size, 0, none⟩ = some (.int .i64 D.1) := fun o o2 => (cellB bAA (by omega)).trans c0
  have tb_c1 : ∀ o o2 : Obj, (World.alloc (World.alloc w21 o) o2).cell? ⟨w18.heap.size, 1, none⟩ = some (.slice ca D.2.length cc) := fun o o2 => (cellB bAA (by omega)).trans c1
  go_wp2_with fail
  clear ta_p0 ta_p1 ta_g0 ta_g1 ta_r0 ta_r1 ta_c0 ta_c1 tb_p0 tb_p1 tb_g0 tb_g1 tb_r0 tb_r1 tb_c0 tb_c1
  generalize hW22 : World.alloc w21 _ = w22
  have hb22 : Below w21.heap.size w21 w22 := hW22 ▸ bA
  have hy22 : w21.heap.size + 1 ≤ w22.heap.size := by rw [← hW22]; simp
  have d0 : w22.cell? ⟨w21.heap.size, 0, none⟩ = some (.int .i64 D.1) := by rw [← hW22]; simp [go_sem]
  have d1 : w22.cell? ⟨w21.heap.size, 1, none⟩ = some (.slice da D.2.length dc) := by rw [← hW22]; simp [go_sem]
  have hss22 : w22.heap.size = w21.heap.size + 1 := by rw [← hW22]; simp
  clear hW22
  have hz22 := hb22.size
  replace p0 := (cellB hb22 (by omega)).trans p0
  replace p1 := (cellB hb22 (by omega)).trans p1
  replace g0 := (cellB hb22 (by omega)).trans g0
  replace g1 := (cellB hb22 (by omega)).trans g1
  replace r0 := (cellB hb22 (by omega)).trans r0
  replace r1 := (cellB hb22 (by omega)).trans r1
  replace c0 := (cellB hb22 (by omega)).trans c0
  replace c1 := (cellB hb22 (by omega)).trans c1
  replace HOP := Lib.hid (HOP.out.below hb22)
  replace HG := Lib.hid (HG.out.below hb22)
  replace HR := Lib.hid (HR.out.below hb22)
  replace HC := Lib.hid (HC.out.below hb22)
  replace HD := Lib.hid (HD.out.below hb22)
  have hbw22 := bthen hbw21 hb22
  generalize hW23 : World.alloc w22 _ = w23
  have hb23 : Below w22.heap.size w22 w23 := hW23 ▸ bA
  have hy23 : w22.heap.size + 1 ≤ w23.heap.size := by rw [← hW23]; simp
  have HLT : Hid (opsT.Rd w23 [.slice (some ⟨w21.heap.size + 1, 0, none⟩) 1 1] [op]) := by unfold Hid; rw [← hW23]; have hl := lit_one (T := 44) HOP.out; rw [hss22] at hl; exact hl
  have hss23 : w23.heap.size = w22.heap.size + 1 := by rw [← hW23]; simp
  clear hW23
  have hz23 := hb23.size
  replace p0 := (cellB hb23 (by omega)).trans p0
  replace p1 := (cellB hb23 (by omega)).trans p1
  replace g0 := (cellB hb23 (by omega)).trans g0
  replace g1 := (cellB hb23 (by omega)).trans g1
  replace r0 := (cellB hb23 (by omega)).trans r0
  replace r1 := (cellB hb23 (by omega)).trans r1
  replace c0 := (cellB hb23 (by omega)).trans c0
  replace c1 := (cellB hb23 (by omega)).trans c1
  replace d0 := (cellB hb23 (by omega)).trans d0
  replace d1 := (cellB hb23 (by omega)).trans d1
  replace HOP := Lib.hid (HOP.out.below hb23)
  replace HG := Lib.hid (HG.out.below hb23)
  replace HR := Lib.hid (HR.out.below hb23)
  replace HC := Lib.hid (HC.out.below hb23)
  replace HD := Lib.hid (HD.out.below hb23)
  have hbw23 := bthen hbw22 hb23
  obtain ⟨O, hO⟩ : ∃ q, q = coV s r.1 [op] r.2 := ⟨_, rfl⟩
  have HEO := Lib.hid hO
  clear hO
  have hco := ClosureOf_any w23 HLT.out (cons_tail HR.out) s r.1 (fun _ => HRL.out)
  rw [HOZ.out, ← HEO.out] at hco
  refine (hco).mono ?_
  rintro e w24 ⟨cs, rfl, hf, hb24⟩
  obtain ⟨oa2, oc2, rfl⟩ := fr_pair hf
  have HO := Lib.hid hf.rd
  clear hf hco HLT
  have hz24 := hb24.size
  replace p0 := (cellB hb24 (by omega)).trans p0
  replace p1 := (cellB hb24 (by omega)).trans p1
  replace g0 := (cellB hb24 (by omega)).trans g0
  replace g1 := (cellB hb24 (by omega)).trans g1
  replace r0 := (cellB hb24 (by omega)).trans r0
  replace r1 := (cellB hb24 (by omega)).trans r1
  replace c0 := (cellB hb24 (by omega)).trans c0
  replace c1 := (cellB hb24 (by omega)).trans c1
  replace d0 := (cellB hb24 (by omega)).trans d0
  replace d1 := (cellB hb24 (by omega)).trans d1
  replace HOP := Lib.hid (HOP.out.below hb24)
  replace HG := Lib.hid (HG.out.below hb24)
  replace HR := Lib.hid (HR.out.below hb24)
  replace HC := Lib.hid (HC.out.below hb24)
  replace HD := Lib.hid (HD.out.below hb24)
  have hbw24 := bthen hbw23 hb24
  have HOE2 : Hid (eqB O r = false) := by unfold Hid; rw [HEO.out]; exact HOE.out
  clear HED HEO HCI HOE
  have ta_p0 : ∀ o : Obj, (World.alloc w24 o).cell? ⟨w3.heap.size, 0, none⟩ = some (.int .i64 op.1) := fun o => (cellB bA (by omega)).trans p0
  have ta_p1 : ∀ o : Obj, (World.alloc w24 o).cell? ⟨w3.heap.size, 1, none⟩ = some (.slice oa op.2.length oc) := fun o => (cellB bA (by omega)).trans p1
  have ta_g0 : ∀ o : Obj, (World.alloc w24 o).cell? ⟨w5.heap.size, 0, none⟩ = some (.int .i64 g.1) := fun o => (cellB bA (by omega)).trans g0
  have ta_g1 : ∀ o : Obj, (World.alloc w24 o).cell? ⟨w5.heap.size, 1, none⟩ = some (.slice ga g.2.length gc) := fun o => (cellB bA (by omega)).trans g1
  have ta_r0 : ∀ o : Obj, (World.alloc w24 o).cell? ⟨w8.heap.size, 0, none⟩ = some (.int .i64 r.1) := fun o => (cellB bA (by omega)).trans r0
  have ta_r1 : ∀ o : Obj, (World.alloc w24 o).cell? ⟨w8.heap.size, 1, none⟩ = some (.slice ra r.2.length rc) := fun o => (cellB bA (by omega)).trans r1
  have ta_c0 : ∀ o : Obj, (World.alloc w24 o).cell? ⟨w18.heap.size, 0, none⟩ = some (.int .i64 D.1) := fun o => (cellB bA (by omega)).trans c0
  have ta_c1 : ∀ o : Obj, (World.alloc w24 o).cell? ⟨w18.heap.size, 1, none⟩ = some (.slice ca D.2.length cc) := fun o => (cellB bA (by omega)).trans c1
  have ta_d0 : ∀ o : Obj, (World.alloc w24 o).cell? ⟨w21.heap.size, 0, none⟩ = some (.int .i64 D.1) := fun o => (cellB bA (by omega)).trans d0
  have ta_d1 : ∀ o : Obj, (World.alloc w24 o).cell? ⟨w21.heap.size, 1, none⟩ = some (.slice da D.2.length dc) := fun o => (cellB bA (by omega)).trans d1
  go_wp2_with fail
  clear ta_p0 ta_p1 ta_g0 ta_g1 ta_r0 ta_r1 ta_c0 ta_c1 ta_d0 ta_d1
  generalize hW25 : World.alloc w24 _ = w25
  have hb25 : Below w24.heap.size w24 w25 := hW25 ▸ bA
  have hy25 : w24.heap.size + 1 ≤ w25.heap.size := by rw [← hW25]; simp
  have o0 : w25.cell? ⟨w24.heap.size, 0, none⟩ = some (.int .i64 O.1) := by rw [← hW25]; simp [go_sem]
  have o1 : w25.cell? ⟨w24.heap.size, 1, none⟩ = some (.slice oa2 O.2.length oc2) := by rw [← hW25]; simp [go_sem]
  have hss25 : w25.heap.size = w24.heap.size + 1 := by rw [← hW25]; simp
  clear hW25
  have hz25 := hb25.size
  replace p0 := (cellB hb25 (by omega)).trans p0
  replace p1 := (cellB hb25 (by omega)).trans p1
  replace g0 := (cellB hb25 (by omega)).trans g0
  replace g1 := (cellB hb25 (by omega)).trans g1
  replace r0 := (cellB hb25 (by omega)).trans r0
  replace r1 := (cellB hb25 (by omega)).trans r1
  replace c0 := (cellB hb25 (by omega)).trans c0
  replace c1 := (cellB hb25 (by omega)).trans c1
  replace d0 := (cellB hb25 (by omega)).trans d0
  replace d1 := (cellB hb25 (by omega)).trans d1
  replace HOP := Lib.hid (HOP.out.below hb25)
  replace HG := Lib.hid (HG.out.below hb25)
  replace HR := Lib.hid (HR.out.below hb25)
  replace HC := Lib.hid (HC.out.below hb25)
  replace HD := Lib.hid (HD.out.below hb25)
  replace HO := Lib.hid (HO.out.below hb25)
  have hbw25 := bthen hbw24 hb25
  refine (specSameRel_any w25 (x := D) (y := D) HC.out HD.out).mono ?_
  rintro e w26 ⟨rfl, hb26⟩
  rw [show eqB D D = true from eqB_true rfl]
  have hz26 := hb26.size
  replace p0 := (cellB hb26 (by omega)).trans p0
  replace p1 := (cellB hb26 (by omega)).trans p1
  replace g0 := (cellB hb26 (by omega)).trans g0
  replace g1 := (cellB hb26 (by omega)).trans g1
  replace r0 := (cellB hb26 (by omega)).trans r0
  replace r1 := (cellB hb26 (by omega)).trans r1
  replace c0 := (cellB hb26 (by omega)).trans c0
  replace c1 := (cellB hb26 (by omega)).trans c1
  replace d0 := (cellB hb26 (by omega)).trans d0
  replace d1 := (cellB hb26 (by omega)).trans d1
  replace o0 := (cellB hb26 (by omega)).trans o0
  replace o1 := (cellB hb26 (by omega)).trans o1
  replace HOP := Lib.hid (HOP.out.below hb26)
  replace HG := Lib.hid (HG.out.below hb26)
  replace HR := Lib.hid (HR.out.below hb26)
  replace HC := Lib.hid (HC.out.below hb26)
  replace HD := Lib.hid (HD.out.below hb26)
  replace HO := Lib.hid (HO.out.below hb26)
  have hbw26 := bthen hbw25 hb26
  clear c0 c1
  clear HC
  go_wp2_with fail
  refine (specSameRel_any w26 (x := O) (y := r) HO.out HR.out).mono ?_
  rintro e w27 ⟨rfl, hb27⟩
  rw [HOE2.out]
  have hz27 := hb27.size
  replace p0 := (cellB hb27 (by omega)).trans p0
  replace p1 := (cellB hb27 (by omega)).trans p1
  replace g0 := (cellB hb27 (by omega)).trans g0
  replace g1 := (cellB hb27 (by omega)).trans g1
  replace r0 := (cellB hb27 (by omega)).trans r0
  replace r1 := (cellB hb27 (by omega)).trans r1
  replace d0 := (cellB hb27 (by omega)).trans d0
  replace d1 := (cellB hb27 (by omega)).trans d1
  replace o0 := (cellB hb27 (by omega)).trans o0
  replace o1 := (cellB hb27 (by omega)).trans o1
  replace HOP := Lib.hid (HOP.out.below hb27)
  replace HG := Lib.hid (HG.out.below hb27)
  replace HR := Lib.hid (HR.out.below hb27)
  replace HD := Lib.hid (HD.out.below hb27)
  replace HO := Lib.hid (HO.out.below hb27)
  have hbw27 := bthen hbw26 hb27
  clear o0 o1
  clear HO
  have ta_p0 : ∀ o : Obj, (World.alloc w27 o).cell? ⟨w3.heap.size, 0, none⟩ = some (.int .i64 op.1) := fun o => (cellB bA (by omega)).trans p0
  have ta_p1 : ∀ o : Obj, (World.alloc w27 o).cell? ⟨w3.heap.size, 1, none⟩ = some (.slice oa op.2.length oc) := fun o => (cellB bA (by omega)).trans p1
  have ta_g0 : ∀ o : Obj, (World.alloc w27 o).cell? ⟨w5.heap.size, 0, none⟩ = some (.int .i64 g.1) := fun o => (cellB bA (by omega)).trans g0
  have ta_g1 : ∀ o : Obj, (World.alloc w27 o).cell? ⟨w5.heap.size, 1, none⟩ = some (.slice ga g.2.length gc) := fun o => (cellB bA (by omega)).trans g1
  have ta_r0 : ∀ o : Obj, (World.alloc w27 o).cell? ⟨w8.heap.size, 0, none⟩ = some (.int .i64 r.1) := fun o => (cellB bA (by omega)).trans r0
  have ta_r1 : ∀ o : Obj, (World.alloc w27 o).cell? ⟨w8.heap.size, 1, none⟩ = some (.slice ra r.2.length rc) := fun o => (cellB bA (by omega)).trans r1
  have ta_d0 : ∀ o : Obj, (World.alloc w27 o).cell? ⟨w21.heap.size, 0, none⟩ = some (.int .i64 D.1) := fun o => (cellB bA (by omega)).trans d0
  have ta_d1 : ∀ o : Obj, (World.alloc w27 o).cell? ⟨w21.heap.size, 1, none⟩ = some (.slice da D.2.length dc) := fun o => (cellB bA (by omega)).trans d1
  have tb_p0 : ∀ o o2 : Obj, (World.alloc (World.alloc w27 o) o2).cell? ⟨w3.heap.size, 0, none⟩ = some (.int .i64 op.1) := fun o o2 => (cellB bAA (by omega)).trans p0
  have tb_p1 : ∀ o o2 : Obj, (World.alloc (World.alloc w27 o) o2).cell? ⟨w3.heap.size, 1, none⟩ = some (.slice oa op.2.length oc) := fun o o2 => (cellB bAA (by omega)).trans p1
  have tb_g0 : ∀ o o2 : Obj, (World.alloc (World.alloc w27 o) o2).cell? ⟨w5.heap.size, 0, none⟩ = some (.int .i64 g.1) := fun o o2 => (cellB bAA (by omega)).trans g0
  have tb_g1 : ∀ o o2 : Obj, (World.alloc (World.alloc w27 o) o2).cell? ⟨w5.heap.size, 1, none⟩ = some (.slice ga g.2.length gc) := fun o o2 => (cellB bAA (by omega)).trans g1
  have tb_r0 : ∀ o o2 : Obj, (World.alloc (World.alloc w27 o) o2).cell? ⟨w8.heap.size, 0, none⟩ = some (.int .i64 r.1) := fun o o2 => (cellB bAA (by omega)).trans r0
  have tb_r1 : ∀ o o2 : Obj, (World.alloc (World.alloc w27 o) o2).cell? ⟨w8.heap.size, 1, none⟩ = some (.slice ra r.2.length rc) := fun o o2 => (cellB bAA (by omega)).trans r1
  have tb_d0 : ∀ o o2 : Obj, (World.alloc (World.alloc w27 o) o2).cell? ⟨w21.heap.size, 0, none⟩ = some (.int .i64 D.1) := fun o o2 => (cellB bAA (by omega)).trans d0
  have tb_d1 : ∀ o o2 : Obj, (World.alloc (World.alloc w27 o) o2).cell? ⟨w21.heap.size, 1, none⟩ = some (.slice da D.2.length dc) := fun o o2 => (cellB bAA (by omega)).trans d1
  go_wp2_with fail
  clear ta_p0 ta_p1 ta_g0 ta_g1 ta_r0 ta_r1 ta_d0 ta_d1 tb_p0 tb_p1 tb_g0 tb_g1 tb_r0 tb_r1 tb_d0 tb_d1
  generalize hW28 : World.alloc (World.alloc w27 _) _ = w28
  have hb28 : Below w27.heap.size w27 w28 := hW28 ▸ bAA
  have hy28 : w27.heap.size + 2 ≤ w28.heap.size := by rw [← hW28]; simp
  have u0 : w28.cell? ⟨w27.heap.size + 1, 0, none⟩ = some (.int .i64 s) := by rw [← hW28]; simp [go_sem]
  have u1 : w28.cell? ⟨w27.heap.size + 1, 1, none⟩ = some (.slice (some ⟨w27.heap.size, 0, none⟩) 1 1) := by rw [← hW28]; simp [go_sem]
  have HU : Hid (tplT.Rd w28 [.int .i64 s, .slice (some ⟨w27.heap.size, 0, none⟩) 1 1] (s, [D])) := by unfold Hid; rw [← hW28]; exact pair_mk (I64.small (by omega) (by omega)) ((lit_one HD.out).below bA)
  have hss28 : w28.heap.size = w27.heap.size + 2 := by rw [← hW28]; simp
  clear hW28
  have hz28 := hb28.size
  replace p0 := (cellB hb28 (by omega)).trans p0
  replace p1 := (cellB hb28 (by omega)).trans p1
  replace g0 := (cellB hb28 (by omega)).trans g0
  replace g1 := (cellB hb28 (by omega)).trans g1
  replace r0 := (cellB hb28 (by omega)).trans r0
  replace r1 := (cellB hb28 (by omega)).trans r1
  replace d0 := (cellB hb28 (by omega)).trans d0
  replace d1 := (cellB hb28 (by omega)).trans d1
  replace HOP := Lib.hid (HOP.out.below hb28)
  replace HG := Lib.hid (HG.out.below hb28)
  replace HR := Lib.hid (HR.out.below hb28)
  replace HD := Lib.hid (HD.out.below hb28)
  have hbw28 := bthen hbw27 hb28
  have HDT : Hid (tplOk (s, [D])) := ⟨HRK.out.1, by simp, fun q hq => by rw [List.mem_singleton.1 hq]; exact HCD.out.1⟩
  refine (KeepsAll_any w28 (t := (s, [D])) (f := op) HU.out HOP.out HDT.out HOK.out).mono ?_
  rintro e w29 ⟨rfl, hb29⟩
  rw [brk_one (HCD.out.2.2.2.1 op (List.mem_cons_self ..))]
  have hz29 := hb29.size
  replace p0 := (cellB hb29 (by omega)).trans p0
  replace p1 := (cellB hb29 (by omega)).trans p1
  replace g0 := (cellB hb29 (by omega)).trans g0
  replace g1 := (cellB hb29 (by omega)).trans g1
  replace r0 := (cellB hb29 (by omega)).trans r0
  replace r1 := (cellB hb29 (by omega)).trans r1
  replace d0 := (cellB hb29 (by omega)).trans d0
  replace d1 := (cellB hb29 (by omega)).trans d1
  replace u0 := (cellB hb29 (by omega)).trans u0
  replace u1 := (cellB hb29 (by omega)).trans u1
  replace HOP := Lib.hid (HOP.out.below hb29)
  replace HG := Lib.hid (HG.out.below hb29)
  replace HR := Lib.hid (HR.out.below hb29)
  replace HD := Lib.hid (HD.out.below hb29)
  replace HU := Lib.hid (HU.out.below hb29)
  have hbw29 := bthen hbw28 hb29
  go_wp2_with fail
  refine (KeepsAll_any w29 (t := (s, [D])) (f := g) HU.out HG.out HDT.out HGK.out).mono ?_
  rintro e w30 ⟨rfl, hb30⟩
  rw [brk_one (HCD.out.2.2.2.1 g (List.mem_cons_of_mem _ (List.mem_cons_self ..)))]
  have hz30 := hb30.size
  replace p0 := (cellB hb30 (by omega)).trans p0
  replace p1 := (cellB hb30 (by omega)).trans p1
  replace g0 := (cellB hb30 (by omega)).trans g0
  replace g1 := (cellB hb30 (by omega)).trans g1
  replace r0 := (cellB hb30 (by omega)).trans r0
  replace r1 := (cellB hb30 (by omega)).trans r1
  replace d0 := (cellB hb30 (by omega)).trans d0
  replace d1 := (cellB hb30 (by omega)).trans d1
  replace u0 := (cellB hb30 (by omega)).trans u0
  replace u1 := (cellB hb30 (by omega)).trans u1
  replace HOP := Lib.hid (HOP.out.below hb30)
  replace HG := Lib.hid (HG.out.below hb30)
  replace HR := Lib.hid (HR.out.below hb30)
  replace HD := Lib.hid (HD.out.below hb30)
  replace HU := Lib.hid (HU.out.below hb30)
  have hbw30 := bthen hbw29 hb30
  clear u0 u1
  clear HU
  go_wp2_with fail
  refine (IsPartOf_any w30 (r := r) (q := D) HR.out HD.out HRK.out HCD.out.1 HCD.out.2.1.symm).mono ?_
  rintro e w31 ⟨rfl, hb31⟩
  rw [part_yes HCD.out.2.2.2.2]
  have hz31 := hb31.size
  replace p0 := (cellB hb31 (by omega)).trans p0
  replace p1 := (cellB hb31 (by omega)).trans p1
  replace g0 := (cellB hb31 (by omega)).trans g0
  replace g1 := (cellB hb31 (by omega)).trans g1
  replace r0 := (cellB hb31 (by omega)).trans r0
  replace r1 := (cellB hb31 (by omega)).trans r1
  replace d0 := (cellB hb31 (by omega)).trans d0
  replace d1 := (cellB hb31 (by omega)).trans d1
  replace HOP := Lib.hid (HOP.out.below hb31)
  replace HG := Lib.hid (HG.out.below hb31)
  replace HR := Lib.hid (HR.out.below hb31)
  replace HD := Lib.hid (HD.out.below hb31)
  have hbw31 := bthen hbw30 hb31
  go_wp2_with fail
  obtain ⟨N, hN⟩ : ∃ N : Nat, s ^ arr = (N : Int) := ⟨(s ^ arr).toNat, by have := pow_nn (s := s) (by omega) arr; omega⟩
  have HN := Lib.hid hN
  clear hN
  refine (FullRel_at w31 HRA.out hs4 harr2 HN.out).mono ?_
  rintro e w32 ⟨cs, rfl, hf, hb32⟩
  obtain ⟨F, hF⟩ : ∃ q : Int × List (List Int), q = (r.1, allT s arr N) := ⟨_, rfl⟩
  rw [← hF] at hf
  obtain ⟨ua, uc, rfl⟩ := fr_pair hf
  have HFU := Lib.hid hf.rd
  have HFK : Hid (relOk s F ∧ keepsP s op F) := by unfold Hid; rw [hF, HRA.out]; exact ⟨allT_ok HRK.out.1 (by omega) HN.out, full_keeps HRK.out.1 (by omega) HN.out HOK.out⟩
  clear hf hF
  have hz32 := hb32.size
  replace p0 := (cellB hb32 (by omega)).trans p0
  replace p1 := (cellB hb32 (by omega)).trans p1
  replace g0 := (cellB hb32 (by omega)).trans g0
  replace g1 := (cellB hb32 (by omega)).trans g1
  replace r0 := (cellB hb32 (by omega)).trans r0
  replace r1 := (cellB hb32 (by omega)).trans r1
  replace d0 := (cellB hb32 (by omega)).trans d0
  replace d1 := (cellB hb32 (by omega)).trans d1
  replace HOP := Lib.hid (HOP.out.below hb32)
  replace HG := Lib.hid (HG.out.below hb32)
  replace HR := Lib.hid (HR.out.below hb32)
  replace HD := Lib.hid (HD.out.below hb32)
  have hbw32 := bthen hbw31 hb32
  have ta_p0 : ∀ o : Obj, (World.alloc w32 o).cell? ⟨w3.heap.size, 0, none⟩ = some (.int .i64 op.1) := fun o => (cellB bA (by omega)).trans p0
  have ta_p1 : ∀ o : Obj, (World.alloc w32 o).cell? ⟨w3.heap.size, 1, none⟩ = some (.slice oa op.2.length oc) := fun o => (cellB bA (by omega)).trans p1
  have ta_g0 : ∀ o : Obj, (World.alloc w32 o).cell? ⟨w5.heap.size, 0, none⟩ = some (.int .i64 g.1) := fun o => (cellB bA (by omega)).trans g0
  have ta_g1 : ∀ o : Obj, (World.alloc w32 o).cell? ⟨w5.heap.size, 1, none⟩ = some (.slice ga g.2.length gc) := fun o => (cellB bA (by omega)).trans g1
  have ta_r0 : ∀ o : Obj, (World.alloc w32 o).cell? ⟨w8.heap.size, 0, none⟩ = some (.int .i64 r.1) := fun o => (cellB bA (by omega)).trans r0
  have ta_r1 : ∀ o : Obj, (World.alloc w32 o).cell? ⟨w8.heap.size, 1, none⟩ = some (.slice ra r.2.length rc) := fun o => (cellB bA (by omega)).trans r1
  have ta_d0 : ∀ o : Obj, (World.alloc w32 o).cell? ⟨w21.heap.size, 0, none⟩ = some (.int .i64 D.1) := fun o => (cellB bA (by omega)).trans d0
  have ta_d1 : ∀ o : Obj, (World.alloc w32 o).cell? ⟨w21.heap.size, 1, none⟩ = some (.slice da D.2.length dc) := fun o => (cellB bA (by omega)).trans d1
  have tb_p0 : ∀ o o2 : Obj, (World.alloc (World.alloc w32 o) o2).cell? ⟨w3.heap.size, 0, none⟩ = some (.int .i64 op.1) := fun o o2 => (cellB bAA (by omega)).trans p0
  have tb_p1 : ∀ o o2 : Obj, (World.alloc (World.alloc w32 o) o2).cell? ⟨w3.heap.size, 1, none⟩ = some (.slice oa op.2.length oc) := fun o o2 => (cellB bAA (by omega)).trans p1
  have tb_g0 : ∀ o o2 : Obj, (World.alloc (World.alloc w32 o) o2).cell? ⟨w5.heap.size, 0, none⟩ = some (.int .i64 g.1) := fun o o2 => (cellB bAA (by omega)).trans g0
  have tb_g1 : ∀ o o2 : Obj, (World.alloc (World.alloc w32 o) o2).cell? ⟨w5.heap.size, 1, none⟩ = some (.slice ga g.2.length gc) := fun o o2 => (cellB bAA (by omega)).trans g1
  have tb_r0 : ∀ o o2 : Obj, (World.alloc (World.alloc w32 o) o2).cell? ⟨w8.heap.size, 0, none⟩ = some (.int .i64 r.1) := fun o o2 => (cellB bAA (by omega)).trans r0
  have tb_r1 : ∀ o o2 : Obj, (World.alloc (World.alloc w32 o) o2).cell? ⟨w8.heap.size, 1, none⟩ = some (.slice ra r.2.length rc) := fun o o2 => (cellB bAA (by omega)).trans r1
  have tb_d0 : ∀ o o2 : Obj, (World.alloc (World.alloc w32 o) o2).cell? ⟨w21.heap.size, 0, none⟩ = some (.int .i64 D.1) := fun o o2 => (cellB bAA (by omega)).trans d0
  have tb_d1 : ∀ o o2 : Obj, (World.alloc (World.alloc w32 o) o2).cell? ⟨w21.heap.size, 1, none⟩ = some (.slice da D.2.length dc) := fun o o2 => (cellB bAA (by omega)).trans d1
  go_wp2_with fail
  clear ta_p0 ta_p1 ta_g0 ta_g1 ta_r0 ta_r1 ta_d0 ta_d1 tb_p0 tb_p1 tb_g0 tb_g1 tb_r0 tb_r1 tb_d0 tb_d1
  generalize hW33 : World.alloc w32 _ = w33
  have hb33 : Below w32.heap.size w32 w33 := hW33 ▸ bA
  have hy33 : w32.heap.size + 1 ≤ w33.heap.size := by rw [← hW33]; simp
  have f0 : w33.cell? ⟨w32.heap.size, 0, none⟩ = some (.int .i64 F.1) := by rw [← hW33]; simp [go_sem]
  have f1 : w33.cell? ⟨w32.heap.size, 1, none⟩ = some (.slice ua F.2.length uc) := by rw [← hW33]; simp [go_sem]
  have hss33 : w33.heap.size = w32.heap.size + 1 := by rw [← hW33]; simp
  clear hW33
  have hz33 := hb33.size
  replace p0 := (cellB hb33 (by omega)).trans p0
  replace p1 := (cellB hb33 (by omega)).trans p1
  replace g0 := (cellB hb33 (by omega)).trans g0
  replace g1 := (cellB hb33 (by omega)).trans g1
  replace r0 := (cellB hb33 (by omega)).trans r0
  replace r1 := (cellB hb33 (by omega)).trans r1
  replace d0 := (cellB hb33 (by omega)).trans d0
  replace d1 := (cellB hb33 (by omega)).trans d1
  replace HOP := Lib.hid (HOP.out.below hb33)
  replace HG := Lib.hid (HG.out.below hb33)
  replace HR := Lib.hid (HR.out.below hb33)
  replace HD := Lib.hid (HD.out.below hb33)
  replace HFU := Lib.hid (HFU.out.below hb33)
  have hbw33 := bthen hbw32 hb33
  generalize hW34 : World.alloc w33 _ = w34
  have hb34 : Below w33.heap.size w33 w34 := hW34 ▸ bA
  have hy34 : w33.heap.size + 1 ≤ w34.heap.size := by rw [← hW34]; simp
  have HT2 : Hid (tplT.Rd w34 [.int .i64 s, .slice (some ⟨w32.heap.size + 1, 0, none⟩) 2 2] (s, [F, r])) := by unfold Hid; rw [← hW34]; have hl := lit_two (T := 27) HFU.out HR.out; rw [hss33] at hl; exact pair_mk (I64.small (by omega) (by omega)) hl
  have hss34 : w34.heap.size = w33.heap.size + 1 := by rw [← hW34]; simp
  clear hW34
  have hz34 := hb34.size
  replace p0 := (cellB hb34 (by omega)).trans p0
  replace p1 := (cellB hb34 (by omega)).trans p1
  replace g0 := (cellB hb34 (by omega)).trans g0
  replace g1 := (cellB hb34 (by omega)).trans g1
  replace r0 := (cellB hb34 (by omega)).trans r0
  replace r1 := (cellB hb34 (by omega)).trans r1
  replace d0 := (cellB hb34 (by omega)).trans d0
  replace d1 := (cellB hb34 (by omega)).trans d1
  replace f0 := (cellB hb34 (by omega)).trans f0
  replace f1 := (cellB hb34 (by omega)).trans f1
  replace HOP := Lib.hid (HOP.out.below hb34)
  replace HG := Lib.hid (HG.out.below hb34)
  replace HR := Lib.hid (HR.out.below hb34)
  replace HD := Lib.hid (HD.out.below hb34)
  replace HFU := Lib.hid (HFU.out.below hb34)
  have hbw34 := bthen hbw33 hb34
  have HDT2 : Hid (tplOk (s, [F, r])) := ⟨HRK.out.1, by simp, fun q hq => by
   rcases List.mem_cons.1 hq with rfl | hq
   ·exact HFK.out.1
   ·rw [List.mem_singleton.1 hq]; exact HRK.out⟩
  have HB2 : Hid (brokenI (s, [F, r]) op = 1) := by unfold Hid; rw [brk_two HFK.out.2, tb_false HK.out]
  refine (KeepsAll_any w34 (t := (s, [F, r])) (f := op) HT2.out HOP.out HDT2.out HOK.out).mono ?_
  rintro e w35 ⟨rfl, hb35⟩
  rw [HB2.out]
  clear HT2
  have hz35 := hb35.size
  replace p0 := (cellB hb35 (by omega)).trans p0
  replace p1 := (cellB hb35 (by omega)).trans p1
  replace g0 := (cellB hb35 (by omega)).trans g0
  replace g1 := (cellB hb35 (by omega)).trans g1
  replace r0 := (cellB hb35 (by omega)).trans r0
  replace r1 := (cellB hb35 (by omega)).trans r1
  replace d0 := (cellB hb35 (by omega)).trans d0
  replace d1 := (cellB hb35 (by omega)).trans d1
  replace f0 := (cellB hb35 (by omega)).trans f0
  replace f1 := (cellB hb35 (by omega)).trans f1
  replace HOP := Lib.hid (HOP.out.below hb35)
  replace HG := Lib.hid (HG.out.below hb35)
  replace HR := Lib.hid (HR.out.below hb35)
  replace HD := Lib.hid (HD.out.below hb35)
  replace HFU := Lib.hid (HFU.out.below hb35)
  have hbw35 := bthen hbw34 hb35
  clear f0 f1 p0 p1 r0 r1
  clear HFU HOP HR
  have HCK : Hid (∀ q ∈ cuV s 1 [g], opOk s q ∧ keepsP s q D) := by
   have := cu_keeps (s := s) (D := D) (ops := [g]) (ar := 1) HCD.out.1 (fun q hq => by
    rw [List.mem_singleton.1 hq]
    exact ⟨HGK.out, HCD.out.2.2.2.1 g (List.mem_cons_of_mem _ (List.mem_cons_self ..))⟩) (by omega)
   exact this
  have ta_g0 : ∀ o : Obj, (World.alloc w35 o).cell? ⟨w5.heap.size, 0, none⟩ = some (.int .i64 g.1) := fun o => (cellB bA (by omega)).trans g0
  have ta_g1 : ∀ o : Obj, (World.alloc w35 o).cell? ⟨w5.heap.size, 1, none⟩ = some (.slice ga g.2.length gc) := fun o => (cellB bA (by omega)).trans g1
  have ta_d0 : ∀ o : Obj, (World.alloc w35 o).cell? ⟨w21.heap.size, 0, none⟩ = some (.int .i64 D.1) := fun o => (cellB bA (by omega)).trans d0
  have ta_d1 : ∀ o : Obj, (World.alloc w35 o).cell? ⟨w21.heap.size, 1, none⟩ = some (.slice da D.2.length dc) := fun o => (cellB bA (by omega)).trans d1
  go_wp2_with fail
  clear ta_g0 ta_g1 ta_d0 ta_d1
  generalize hW36 : World.alloc w35 _ = w36
  have hb36 : Below w35.heap.size w35 w36 := hW36 ▸ bA
  have hy36 : w35.heap.size + 1 ≤ w36.heap.size := by rw [← hW36]; simp
  have HLT : Hid (opsT.Rd w36 [.slice (some ⟨w35.heap.size, 0, none⟩) 1 1] [g]) := by unfold Hid; rw [← hW36]; exact lit_one HG.out
  have hss36 : w36.heap.size = w35.heap.size + 1 := by rw [← hW36]; simp
  clear hW36
  have hz36 := hb36.size
  replace g0 := (cellB hb36 (by omega)).trans g0
  replace g1 := (cellB hb36 (by omega)).trans g1
  replace d0 := (cellB hb36 (by omega)).trans d0
  replace d1 := (cellB hb36 (by omega)).trans d1
  replace HG := Lib.hid (HG.out.below hb36)
  replace HD := Lib.hid (HD.out.below hb36)
  have hbw36 := bthen hbw35 hb36
  refine (CloneUpTo_any w36 HLT.out (s := s) (ar := 1)).mono ?_
  rintro e w37 ⟨u, rfl, hf, hb37⟩
  obtain ⟨na, nc, rfl⟩ := fr_slice hf
  have HQ1 := Lib.hid hf.rd
  clear hf HLT
  have hz37 := hb37.size
  replace g0 := (cellB hb37 (by omega)).trans g0
  replace g1 := (cellB hb37 (by omega)).trans g1
  replace d0 := (cellB hb37 (by omega)).trans d0
  replace d1 := (cellB hb37 (by omega)).trans d1
  replace HG := Lib.hid (HG.out.below hb37)
  replace HD := Lib.hid (HD.out.below hb37)
  have hbw37 := bthen hbw36 hb37
  have ta_g0 : ∀ o : Obj, (World.alloc w37 o).cell? ⟨w5.heap.size, 0, none⟩ = some (.int .i64 g.1) := fun o => (cellB bA (by omega)).trans g0
  have ta_g1 : ∀ o : Obj, (World.alloc w37 o).cell? ⟨w5.heap.size, 1, none⟩ = some (.slice ga g.2.length gc) := fun o => (cellB bA (by omega)).trans g1
  have ta_d0 : ∀ o : Obj, (World.alloc w37 o).cell? ⟨w21.heap.size, 0, none⟩ = some (.int .i64 D.1) := fun o => (cellB bA (by omega)).trans d0
  have ta_d1 : ∀ o : Obj, (World.alloc w37 o).cell? ⟨w21.heap.size, 1, none⟩ = some (.slice da D.2.length dc) := fun o => (cellB bA (by omega)).trans d1
  go_wp2_with fail
  clear ta_g0 ta_g1 ta_d0 ta_d1
  generalize hW38 : World.alloc w37 _ = w38
  have hb38 : Below w37.heap.size w37 w38 := hW38 ▸ bA
  have hy38 : w37.heap.size + 1 ≤ w38.heap.size := by rw [← hW38]; simp
  have HLT : Hid (opsT.Rd w38 [.slice (some ⟨w37.heap.size, 0, none⟩) 1 1] [g]) := by unfold Hid; rw [← hW38]; exact lit_one HG.out
  have hss38 : w38.heap.size = w37.heap.size + 1 := by rw [← hW38]; simp
  clear hW38
  have hz38 := hb38.size
  replace g0 := (cellB hb38 (by omega)).trans g0
  replace g1 := (cellB hb38 (by omega)).trans g1
  replace d0 := (cellB hb38 (by omega)).trans d0
  replace d1 := (cellB hb38 (by omega)).trans d1
  replace HG := Lib.hid (HG.out.below hb38)
  replace HD := Lib.hid (HD.out.below hb38)
  replace HQ1 := Lib.hid (HQ1.out.below hb38)
  have hbw38 := bthen hbw37 hb38
  refine (specCloneUpTo_any w38 HLT.out (s := s) (ar := 1)).mono ?_
  rintro e w39 ⟨u, rfl, hf, hb39⟩
  obtain ⟨ma1, mc1, rfl⟩ := fr_slice hf
  have HQ2 := Lib.hid hf.rd
  clear hf HLT
  have hz39 := hb39.size
  replace g0 := (cellB hb39 (by omega)).trans g0
  replace g1 := (cellB hb39 (by omega)).trans g1
  replace d0 := (cellB hb39 (by omega)).trans d0
  replace d1 := (cellB hb39 (by omega)).trans d1
  replace HG := Lib.hid (HG.out.below hb39)
  replace HD := Lib.hid (HD.out.below hb39)
  replace HQ1 := Lib.hid (HQ1.out.below hb39)
  have hbw39 := bthen hbw38 hb39
  clear g0 g1
  clear HG
  generalize cuC s 1 [g] = qc
  generalize cuV s 1 [g] = Q at HQ1 HQ2 HCK ⊢
  have hnn : (qc != qc) = false := by simp
  go_wp2_with fail
  clear hnn
  refine (SameOps_quiet w39 HQ1.out HQ2.out).mono ?_
  rintro e w40 ⟨rfl, hq⟩
  rw [show eqB Q Q = true from eqB_true rfl]
  have hb40 := hq.below
  clear hq
  have hz40 := hb40.size
  replace d0 := (cellB hb40 (by omega)).trans d0
  replace d1 := (cellB hb40 (by omega)).trans d1
  replace HD := Lib.hid (HD.out.below hb40)
  replace HQ1 := Lib.hid (HQ1.out.below hb40)
  replace HQ2 := Lib.hid (HQ2.out.below hb40)
  have hbw40 := bthen hbw39 hb40
  clear HQ1
  obtain ⟨qad, qcap, hqv, -, hql, hqc⟩ := pairs_ex HQ2.out
  simp only [List.cons.injEq, Value.slice.injEq, and_true, true_and] at hqv
  obtain ⟨rfl, rfl⟩ := hqv
  have HQC := Lib.hid hqc
  clear hqc
  go_wp2_with fail
  go_loopw [42] (fun i wr => ∃ k : Nat, k ≤ Q.length ∧ i = .int .i64 k ∧ Below w40.heap.size w40 wr) (fun i _ => Q.length - (intOf i).toNat)
  case atStart => exact ⟨0, Nat.zero_le _, rfl, Below.refl _ _⟩
  case round =>
   obtain ⟨k, hk, rfl, hbe⟩ := hrel
   obtain ⟨wv, rfl⟩ : ∃ wv : World, wv = wr := ⟨_, rfl⟩
   have hzv := hbe.size
   by_cases hkl : k < Q.length
   ·obtain ⟨ab, ao, rfl, hab, hac⟩ := HQC.out (by omega)
    obtain ⟨tv, htv, hIt, e0, e1⟩ := hac k hkl
    obtain ⟨ta, tc, rfl⟩ := rd_slice htv
    replace e0 := (cellB hbe hab).trans e0
    replace e1 := (cellB hbe hab).trans e1
    have hdb : w21.heap.size < w40.heap.size := by omega
    replace d0 := (cellB hbe hdb).trans d0
    replace d1 := (cellB hbe hdb).trans d1
    have HT := Lib.hid ((pair_mk hIt htv).below hbe)
    have HDv := Lib.hid (HD.out.below hbe)
    have HQK := Lib.hid (HCK.out _ (List.getElem_mem hkl))
    change Hid (opT.Rd wv [.int .i64 (Q[k]).1, _] Q[k]) at HT
    generalize Q[k] = q at e0 e1 HT HQK
    clear hac htv hIt
    go_wp2_with fail
    refine wp_region_T (fun w' => w'.cell? ⟨ab, ao + k * 2, none⟩ = some (.int .i64 q.1) ∧ w'.cell? ⟨ab, ao + k * 2 + 1, none⟩ = some (.slice ta q.2.length tc) ∧ w'.cell? ⟨w21.heap.size, 0, none⟩ = some (.int .i64 D.1) ∧ w'.cell? ⟨w21.heap.size, 1, none⟩ = some (.slice da D.2.length dc)) [] (by kernel_rfl) ⟨e0, e1, d0, d1⟩ (fun hHeld => ?_)
    refine wpAnyT_take (i := 0) (v := ?_) rfl (by as_aux_lemma => kernel_rfl) (fun _ _ _ h => h) (Or.inl ⟨by rfl, ?_⟩) (by assumption) ?_
    rotate_left
    ·(intro w hSw; (try dsimp only at hSw); go_simp <;> with_reducible rfl)
    go_simp
    refine wpAnyT_take (i := 1) (v := ?_) rfl (by as_aux_lemma => kernel_rfl) (fun _ _ _ h => h) (Or.inl ⟨by rfl, ?_⟩) (by assumption) ?_
    rotate_left
    ·(intro w hSw; (try dsimp only at hSw); go_simp <;> with_reducible rfl)
    go_simp
    refine wpAnyT_take (i := 2) (v := ?_) rfl (by as_aux_lemma => kernel_rfl) (fun _ _ _ h => h) (Or.inl ⟨by rfl, ?_⟩) (by assumption) ?_
    rotate_left
    ·(intro w hSw; (try dsimp only at hSw); go_simp <;> with_reducible rfl)
    go_simp
    refine wpAnyT_take (i := 3) (v := ?_) rfl (by as_aux_lemma => kernel_rfl) (fun _ _ _ h => h) (Or.inl ⟨by rfl, ?_⟩) (by assumption) ?_
    rotate_left
    ·(intro w hSw; (try dsimp only at hSw); go_simp <;> with_reducible rfl)
    go_simp
    refine wpAnyT_take (i := 4) (v := ?_) rfl (by as_aux_lemma => kernel_rfl) (fun _ _ _ h => h) (Or.inl ⟨by rfl, ?_⟩) (by assumption) ?_
    rotate_left
    ·(intro w hSw; (try dsimp only at hSw); go_simp <;> with_reducible rfl)
    go_simp
    refine wpAnyT_take (i := 5) (v := ?_) rfl (by as_aux_lemma => kernel_rfl) (fun _ _ _ h => h) (Or.inl ⟨by rfl, ?_⟩) (by assumption) ?_
    rotate_left
    ·(intro w hSw; (try dsimp only at hSw); go_simp <;> with_reducible rfl)
    go_simp
    have hbD : Below wv.heap.size wv wv.drew := bD
    obtain ⟨wx, hwx⟩ : ∃ x : World, x = wv.drew := ⟨_, rfl⟩
    rw [← hwx] at hHeld hbD ⊢
    clear hwx
    have hzx := hbD.size
    refine wpAnyT_one (i := 6) rfl (by kernel_rfl) (fun K hK => ?_)
    go_simp
    go_at_call 22
    refine (Keeps_any wx (f := q) (r := D) (HT.out.below hbD) (HDv.out.below hbD) (s := s) HCD.out.1 HQK.out.1).mono ?_
    rintro e wy ⟨rfl, hby⟩
    rw [tb_true HQK.out.2]
    have hbY := bthen hbD hby
    dsimp only
    have habv : ab < wv.heap.size := by omega
    have hdbv : w21.heap.size < wv.heap.size := by omega
    refine hK.out _ _ ⟨(cellB hbY habv).trans e0, (cellB hbY habv).trans e1, (cellB hbY hdbv).trans d0, (cellB hbY hdbv).trans d1⟩ (fun hHeld => ?_)
    clear hK K
    refine wpAnyT_take (i := 7) (v := ?_) rfl (by as_aux_lemma => kernel_rfl) (fun _ _ _ h => h) (Or.inl ⟨by rfl, ?_⟩) (by assumption) ?_
    rotate_left
    ·(intro w hSw; (try dsimp only at hSw); go_simp <;> with_reducible rfl)
    go_simp
    refine wpAnyT_take (i := 8) (v := ?_) rfl (by as_aux_lemma => kernel_rfl) (fun _ _ _ h => h) (Or.inl ⟨by rfl, ?_⟩) (by assumption) ?_
    rotate_left
    ·(intro w hSw; (try dsimp only at hSw); go_simp <;> with_reducible rfl)
    go_simp
    refine wpAnyT_take (i := 9) (v := ?_) rfl (by as_aux_lemma => kernel_rfl) (fun _ _ _ h => h) (Or.inl ⟨by rfl, ?_⟩) (by assumption) ?_
    rotate_left
    ·(intro w hSw; (try dsimp only at hSw); go_simp <;> with_reducible rfl)
    go_simp
    refine wpAnyT_take (i := 10) (v := ?_) rfl (by as_aux_lemma => kernel_rfl) (fun _ _ _ h => h) (Or.inl ⟨by rfl, ?_⟩) (by assumption) ?_
    rotate_left
    ·(intro w hSw; (try dsimp only at hSw); go_simp <;> with_reducible rfl)
    go_simp
    refine wpAnyT_take (i := 11) (v := ?_) rfl (by as_aux_lemma => kernel_rfl) (fun _ _ _ h => h) (Or.inl ⟨by rfl, ?_⟩) (by assumption) ?_
    rotate_left
    ·(intro w hSw; (try dsimp only at hSw); go_simp <;> with_reducible rfl)
    go_simp
    refine wpAnyT_done (by kernel_rfl) ?_ _
    go_simp
    clear hHeld
    go_wp2_with fail
    go_roundw
    case rel => exact ⟨k + 1, by omega, by go_num, bthen hbe hbY⟩
    case measure => simp [intOf]; omega
   ·obtain rfl : k = Q.length := by omega
    go_wp2_with fail
    go_ret
    exact ⟨rfl, bthen hbw40 hbe⟩
end Go.Proofs.YtggelmbnliajeaaGreatDoor
