/-
 The law FnOperations, walked: its contract. Printed by gen_wop.py.
-/
import Derived.Test.YtnhdohednekhjaaGreatDoorQAJ
import Derived.Test.YtnhdohednekhjaaGreatDoorQAG
import Derived.Test.YtnhdohednekhjaaGreatDoorQAD
import Derived.Test.YtnhdohednekhjaaGreatDoorQAB
import Derived.Deep.CutRange
namespace Go.Proofs.YtnhdohednekhjaaGreatDoor
open Go.RowKit Go.Sort
/-- a new operation of two places -/
def p2O (s : Int) (base : Nat) : OP := fun o v W => ∃ f : Int × List Int, (opOk s f ∧ f.1 = 2) ∧ frAO opT base f o v W
theorem elByteO : ElT Tryz.prog 22 5 1 1 := .mk (z := .int .u8 0) Tryz.underlying22 (by kernel_rfl) rfl (by decide)
set_option maxHeartbeats 25600000 in
set_option maxRecDepth 100000 in
theorem fnOperations_any (w : World) (hp : RfPre w) {v0 v1 : Value} {x0 x1 : List Int} (h0 : bytesT.Rd w [v0] x0) (h1 : bytesT.Rd w [v1] x1) :
  Calls Tryz.prog 4 #[v0, v1] w fun e w' => e = .returned (.bool true) ∧ Below w.heap.size w w' := by
 obtain ⟨a0, k0, rfl⟩ := rd_slice h0
 obtain ⟨a1, k1, rfl⟩ := rd_slice h1
 have H0 := Lib.hid h0
 have H1 := Lib.hid h1
 have HP := Lib.hid hp
 have hbw0 : Below w.heap.size w w := Below.refl _ _
 clear h0 h1 hp
 go_enter Tryz.func4, Tryz.ntmps4
 go_wp2_with fail
 refine (f6bigL_any w H0.out).mono ?_
 rintro e _ ⟨rfl, rfl⟩
 cases hL0 : decide ((4096 : Int) < ((x0.length : Nat) : Int))
 rotate_left
 ·go_wp2_with fail
  go_ret
  exact ⟨rfl, Below.refl _ _⟩
 go_wp2_with fail
 refine (f6bigL_any w H1.out).mono ?_
 rintro e _ ⟨rfl, rfl⟩
 cases hL1 : decide ((4096 : Int) < ((x1.length : Nat) : Int))
 rotate_left
 ·go_wp2_with fail
  go_ret
  exact ⟨rfl, Below.refl _ _⟩
 have HL1 : Hid (x1.length ≤ 4096) := by have := of_decide_eq_false hL1; unfold Hid; omega
 clear hL0 hL1
 go_wp2_with fail
 refine (P6Pick_any w H0.out (n := 2) (by omega)).mono ?_
 rintro e w1 ⟨pk, rfl, hx0, hx1, hb1⟩
 have hz1 := hb1.size
 replace H0 := Lib.hid (H0.out.below hb1)
 replace H1 := Lib.hid (H1.out.below hb1)
 replace HP := Lib.hid (HP.out.below hb1)
 have hbw1 := bthen hbw0 hb1
 obtain ⟨s, hs⟩ : ∃ s : Int, 2 + pk = s := ⟨_, rfl⟩
 have hwr : IntKind.i64.wrap (2 + pk) = s := by rw [hs]; exact wrap_small (by omega) (by omega)
 have hs4 : 1 ≤ s ∧ s ≤ 4 := by omega
 clear hs
 go_wp2_with fail
 clear hwr
 refine (P6OpO_any w1 H0.out (s := s) hs4).mono ?_
 rintro e w2 ⟨cs, f, rfl, hf, hp, hb2⟩
 obtain ⟨fa, fc, rfl⟩ := fr_pair hf
 have HF := Lib.hid hf.rd
 have HFK := Lib.hid hp
 clear hf hp
 have hz2 := hb2.size
 replace H0 := Lib.hid (H0.out.below hb2)
 replace H1 := Lib.hid (H1.out.below hb2)
 replace HP := Lib.hid (HP.out.below hb2)
 have hbw2 := bthen hbw1 hb2
 go_wp2_with fail
 generalize hW3 : World.alloc w2 _ = w3
 have hb3 : Below w2.heap.size w2 w3 := hW3 ▸ bA
 have hy3 : w2.heap.size + 1 ≤ w3.heap.size := by rw [← hW3]; simp
 have f0 : w3.cell? ⟨w2.heap.size, 0, none⟩ = some (.int .i64 f.1) := by rw [← hW3]; simp [go_sem]
 have f1 : w3.cell? ⟨w2.heap.size, 1, none⟩ = some (.slice fa f.2.length fc) := by rw [← hW3]; simp [go_sem]
 clear hW3
 have hz3 := hb3.size
 replace H0 := Lib.hid (H0.out.below hb3)
 replace H1 := Lib.hid (H1.out.below hb3)
 replace HP := Lib.hid (HP.out.below hb3)
 replace HF := Lib.hid (HF.out.below hb3)
 have hbw3 := bthen hbw2 hb3
 refine (P6OpO_any w3 H1.out (s := s) hs4).mono ?_
 rintro e w4 ⟨cs, g, rfl, hf, hp, hb4⟩
 obtain ⟨ga, gc, rfl⟩ := fr_pair hf
 have HG := Lib.hid hf.rd
 have HGK := Lib.hid hp
 clear hf hp
 have hz4 := hb4.size
 replace f0 := (cellB hb4 (by omega)).trans f0
 replace f1 := (cellB hb4 (by omega)).trans f1
 replace H0 := Lib.hid (H0.out.below hb4)
 replace H1 := Lib.hid (H1.out.below hb4)
 replace HP := Lib.hid (HP.out.below hb4)
 replace HF := Lib.hid (HF.out.below hb4)
 have hbw4 := bthen hbw3 hb4
 go_upto_region 6 with fail
 generalize hW5 : World.alloc w4 _ = w5
 have hb5 : Below w4.heap.size w4 w5 := hW5 ▸ bA
 have hy5 : w4.heap.size + 1 ≤ w5.heap.size := by rw [← hW5]; simp
 have g0 : w5.cell? ⟨w4.heap.size, 0, none⟩ = some (.int .i64 g.1) := by rw [← hW5]; simp [go_sem]
 have g1 : w5.cell? ⟨w4.heap.size, 1, none⟩ = some (.slice ga g.2.length gc) := by rw [← hW5]; simp [go_sem]
 clear hW5
 have hz5 := hb5.size
 replace f0 := (cellB hb5 (by omega)).trans f0
 replace f1 := (cellB hb5 (by omega)).trans f1
 replace H0 := Lib.hid (H0.out.below hb5)
 replace H1 := Lib.hid (H1.out.below hb5)
 replace HP := Lib.hid (HP.out.below hb5)
 replace HF := Lib.hid (HF.out.below hb5)
 replace HG := Lib.hid (HG.out.below hb5)
 have hbw5 := bthen hbw4 hb5
 go_wp2_with (at_builtin; go_loud (refine wpList_onB _ rfl _ _ 22 5 rfl elByteO (c := 6) (by omega) rfl (by simp) (by simp [go_sem]) rfl (H1.out.below bA) HL1.out ?_; intro v6 w6 hbq hr6))
 have hb6 : Below w5.heap.size w5 w6 := bthen bA hbq
 clear hbq
 have hz6 := hb6.size
 replace f0 := (cellB hb6 (by omega)).trans f0
 replace f1 := (cellB hb6 (by omega)).trans f1
 replace g0 := (cellB hb6 (by omega)).trans g0
 replace g1 := (cellB hb6 (by omega)).trans g1
 replace H0 := Lib.hid (H0.out.below hb6)
 replace H1 := Lib.hid (H1.out.below hb6)
 replace HP := Lib.hid (HP.out.below hb6)
 replace HF := Lib.hid (HF.out.below hb6)
 replace HG := Lib.hid (HG.out.below hb6)
 have hbw6 := bthen hbw5 hb6
 refine (P6OpO_any w6 hr6 (s := s) hs4).mono ?_
 rintro e w7 ⟨cs, h, rfl, hf, hp, hb7⟩
 obtain ⟨ha, hc, rfl⟩ := fr_pair hf
 have HH := Lib.hid hf.rd
 have HHK := Lib.hid hp
 clear hf hp
 have hz7 := hb7.size
 replace f0 := (cellB hb7 (by omega)).trans f0
 replace f1 := (cellB hb7 (by omega)).trans f1
 replace g0 := (cellB hb7 (by omega)).trans g0
 replace g1 := (cellB hb7 (by omega)).trans g1
 replace H0 := Lib.hid (H0.out.below hb7)
 replace H1 := Lib.hid (H1.out.below hb7)
 replace HP := Lib.hid (HP.out.below hb7)
 replace HF := Lib.hid (HF.out.below hb7)
 replace HG := Lib.hid (HG.out.below hb7)
 have hbw7 := bthen hbw6 hb7
 clear hr6
 go_wp2_with fail
 generalize hW8 : World.alloc w7 _ = w8
 have hb8 : Below w7.heap.size w7 w8 := hW8 ▸ bA
 have hy8 : w7.heap.size + 1 ≤ w8.heap.size := by rw [← hW8]; simp
 have h0 : w8.cell? ⟨w7.heap.size, 0, none⟩ = some (.int .i64 h.1) := by rw [← hW8]; simp [go_sem]
 have h1 : w8.cell? ⟨w7.heap.size, 1, none⟩ = some (.slice ha h.2.length hc) := by rw [← hW8]; simp [go_sem]
 clear hW8
 have hz8 := hb8.size
 replace f0 := (cellB hb8 (by omega)).trans f0
 replace f1 := (cellB hb8 (by omega)).trans f1
 replace g0 := (cellB hb8 (by omega)).trans g0
 replace g1 := (cellB hb8 (by omega)).trans g1
 replace H0 := Lib.hid (H0.out.below hb8)
 replace H1 := Lib.hid (H1.out.below hb8)
 replace HP := Lib.hid (HP.out.below hb8)
 replace HF := Lib.hid (HF.out.below hb8)
 replace HG := Lib.hid (HG.out.below hb8)
 replace HH := Lib.hid (HH.out.below hb8)
 have hbw8 := bthen hbw7 hb8
 refine (P6Tup2_any w8 H1.out (s := s) hs4).mono ?_
 rintro e w9 ⟨_, u, rfl, hf, htp, hb9⟩
 obtain ⟨ua, uc, rfl⟩ := fr_slice hf
 have HU := Lib.hid hf.rd
 have HUT := Lib.hid htp
 obtain ⟨ub, uo, rfl, hlu, uz⟩ := ints_0 hf.rd (by have := htp.1; omega)
 have hiu := tup_0 htp (by omega)
 have hzu : 0 < u.length := by have := htp.1; omega
 generalize u.getD 0 0 = u0 at uz hiu
 clear hf htp
 have hz9 := hb9.size
 replace f0 := (cellB hb9 (by omega)).trans f0
 replace f1 := (cellB hb9 (by omega)).trans f1
 replace g0 := (cellB hb9 (by omega)).trans g0
 replace g1 := (cellB hb9 (by omega)).trans g1
 replace h0 := (cellB hb9 (by omega)).trans h0
 replace h1 := (cellB hb9 (by omega)).trans h1
 replace H0 := Lib.hid (H0.out.below hb9)
 replace H1 := Lib.hid (H1.out.below hb9)
 replace HP := Lib.hid (HP.out.below hb9)
 replace HF := Lib.hid (HF.out.below hb9)
 replace HG := Lib.hid (HG.out.below hb9)
 replace HH := Lib.hid (HH.out.below hb9)
 have hbw9 := bthen hbw8 hb9
 go_wp2_with fail
 generalize hW10 : World.alloc w9 _ = w10
 have hb10 : Below w9.heap.size w9 w10 := hW10 ▸ bA
 have HLT : Hid (opsT.Rd w10 [.slice (some ⟨w9.heap.size, 0, none⟩) 2 2] [g, h]) := by
  unfold Hid
  rw [← hW10]
  exact lit2_ops HG.out HH.out
 clear hW10
 have hz10 := hb10.size
 replace f0 := (cellB hb10 (by omega)).trans f0
 replace f1 := (cellB hb10 (by omega)).trans f1
 replace g0 := (cellB hb10 (by omega)).trans g0
 replace g1 := (cellB hb10 (by omega)).trans g1
 replace h0 := (cellB hb10 (by omega)).trans h0
 replace h1 := (cellB hb10 (by omega)).trans h1
 replace uz := (cellB hb10 (by omega)).trans uz
 replace H0 := Lib.hid (H0.out.below hb10)
 replace H1 := Lib.hid (H1.out.below hb10)
 replace HP := Lib.hid (HP.out.below hb10)
 replace HF := Lib.hid (HF.out.below hb10)
 replace HG := Lib.hid (HG.out.below hb10)
 replace HH := Lib.hid (HH.out.below hb10)
 replace HU := Lib.hid (HU.out.below hb10)
 have hbw10 := bthen hbw9 hb10
 refine (Comp2_any w10 HF.out HLT.out HFK.out HGK.out HHK.out).mono ?_
 rintro e w11 ⟨cs, C, rfl, hf, hp, hb11⟩
 obtain ⟨ca, cc, rfl⟩ := fr_pair hf
 have HC := Lib.hid hf.rd
 have HCP := Lib.hid hp
 clear hf hp
 have hz11 := hb11.size
 replace f0 := (cellB hb11 (by omega)).trans f0
 replace f1 := (cellB hb11 (by omega)).trans f1
 replace g0 := (cellB hb11 (by omega)).trans g0
 replace g1 := (cellB hb11 (by omega)).trans g1
 replace h0 := (cellB hb11 (by omega)).trans h0
 replace h1 := (cellB hb11 (by omega)).trans h1
 replace uz := (cellB hb11 (by omega)).trans uz
 replace H0 := Lib.hid (H0.out.below hb11)
 replace H1 := Lib.hid (H1.out.below hb11)
 replace HP := Lib.hid (HP.out.below hb11)
 replace HF := Lib.hid (HF.out.below hb11)
 replace HG := Lib.hid (HG.out.below hb11)
 replace HH := Lib.hid (HH.out.below hb11)
 replace HU := Lib.hid (HU.out.below hb11)
 have hbw11 := bthen hbw10 hb11
 have HCK := Lib.hid HCP.out.1
 have HCV := Lib.hid (HCP.out.2 u HUT.out)
 clear HCP HLT
 have ta_g0 : ∀ o : Obj, (World.alloc w11 o).cell? ⟨w4.heap.size, 0, none⟩ = some (.int .i64 g.1) := fun o => (cellB bA (by omega)).trans g0
 have ta_g1 : ∀ o : Obj, (World.alloc w11 o).cell? ⟨w4.heap.size, 1, none⟩ = some (.slice ga g.2.length gc) := fun o => (cellB bA (by omega)).trans g1
 go_wp2_with fail
 clear ta_g0 ta_g1
 generalize hW12 : World.alloc w11 _ = w12
 have hb12 : Below w11.heap.size w11 w12 := hW12 ▸ bA
 have hy12 : w11.heap.size + 1 ≤ w12.heap.size := by rw [← hW12]; simp
 have c0 : w12.cell? ⟨w11.heap.size, 0, none⟩ = some (.int .i64 C.1) := by rw [← hW12]; simp [go_sem]
 have c1 : w12.cell? ⟨w11.heap.size, 1, none⟩ = some (.slice ca C.2.length cc) := by rw [← hW12]; simp [go_sem]
 clear hW12
 have hz12 := hb12.size
 replace f0 := (cellB hb12 (by omega)).trans f0
 replace f1 := (cellB hb12 (by omega)).trans f1
 replace g0 := (cellB hb12 (by omega)).trans g0
 replace g1 := (cellB hb12 (by omega)).trans g1
 replace h0 := (cellB hb12 (by omega)).trans h0
 replace h1 := (cellB hb12 (by omega)).trans h1
 replace uz := (cellB hb12 (by omega)).trans uz
 replace H0 := Lib.hid (H0.out.below hb12)
 replace H1 := Lib.hid (H1.out.below hb12)
 replace HP := Lib.hid (HP.out.below hb12)
 replace HF := Lib.hid (HF.out.below hb12)
 replace HG := Lib.hid (HG.out.below hb12)
 replace HH := Lib.hid (HH.out.below hb12)
 replace HU := Lib.hid (HU.out.below hb12)
 replace HC := Lib.hid (HC.out.below hb12)
 have hbw12 := bthen hbw11 hb12
 refine (ApplyT_any w12 HG.out HU.out HGK.out.1 (n := 2) HGK.out.2 HUT.out).mono ?_
 rintro e w13 ⟨rfl, hb13⟩
 have hag := opV_tup HGK.out.1 (n := 2) HGK.out.2 HUT.out
 generalize opV s g.2 u = a at HCV hag ⊢
 have hz13 := hb13.size
 replace f0 := (cellB hb13 (by omega)).trans f0
 replace f1 := (cellB hb13 (by omega)).trans f1
 replace g0 := (cellB hb13 (by omega)).trans g0
 replace g1 := (cellB hb13 (by omega)).trans g1
 replace h0 := (cellB hb13 (by omega)).trans h0
 replace h1 := (cellB hb13 (by omega)).trans h1
 replace uz := (cellB hb13 (by omega)).trans uz
 replace c0 := (cellB hb13 (by omega)).trans c0
 replace c1 := (cellB hb13 (by omega)).trans c1
 replace H0 := Lib.hid (H0.out.below hb13)
 replace H1 := Lib.hid (H1.out.below hb13)
 replace HP := Lib.hid (HP.out.below hb13)
 replace HF := Lib.hid (HF.out.below hb13)
 replace HG := Lib.hid (HG.out.below hb13)
 replace HH := Lib.hid (HH.out.below hb13)
 replace HU := Lib.hid (HU.out.below hb13)
 replace HC := Lib.hid (HC.out.below hb13)
 have hbw13 := bthen hbw12 hb13
 clear g0 g1
 clear HG
 go_wp2_with fail
 refine (ApplyT_any w13 HH.out HU.out HHK.out.1 (n := 2) HHK.out.2 HUT.out).mono ?_
 rintro e w14 ⟨rfl, hb14⟩
 have hah := opV_tup HHK.out.1 (n := 2) HHK.out.2 HUT.out
 generalize opV s h.2 u = b at HCV hah ⊢
 have hz14 := hb14.size
 replace f0 := (cellB hb14 (by omega)).trans f0
 replace f1 := (cellB hb14 (by omega)).trans f1
 replace h0 := (cellB hb14 (by omega)).trans h0
 replace h1 := (cellB hb14 (by omega)).trans h1
 replace uz := (cellB hb14 (by omega)).trans uz
 replace c0 := (cellB hb14 (by omega)).trans c0
 replace c1 := (cellB hb14 (by omega)).trans c1
 replace H0 := Lib.hid (H0.out.below hb14)
 replace H1 := Lib.hid (H1.out.below hb14)
 replace HP := Lib.hid (HP.out.below hb14)
 replace HF := Lib.hid (HF.out.below hb14)
 replace HH := Lib.hid (HH.out.below hb14)
 replace HU := Lib.hid (HU.out.below hb14)
 replace HC := Lib.hid (HC.out.below hb14)
 have hbw14 := bthen hbw13 hb14
 clear h0 h1
 clear HH
 go_wp2_with fail
 refine (ApplyT_any w14 HC.out HU.out HCK.out.1 (n := 2) HCK.out.2 HUT.out).mono ?_
 rintro e w15 ⟨rfl, hb15⟩
 rw [HCV.out]
 clear HCV HGK HHK
 have hz15 := hb15.size
 replace f0 := (cellB hb15 (by omega)).trans f0
 replace f1 := (cellB hb15 (by omega)).trans f1
 replace uz := (cellB hb15 (by omega)).trans uz
 replace c0 := (cellB hb15 (by omega)).trans c0
 replace c1 := (cellB hb15 (by omega)).trans c1
 replace H0 := Lib.hid (H0.out.below hb15)
 replace H1 := Lib.hid (H1.out.below hb15)
 replace HP := Lib.hid (HP.out.below hb15)
 replace HF := Lib.hid (HF.out.below hb15)
 replace HU := Lib.hid (HU.out.below hb15)
 replace HC := Lib.hid (HC.out.below hb15)
 have hbw15 := bthen hbw14 hb15
 go_wp2_with fail
 generalize hW16 : World.alloc w15 _ = w16
 have hb16 : Below w15.heap.size w15 w16 := hW16 ▸ bA
 have HAB : Hid (intsT.Rd w16 [.slice (some ⟨w15.heap.size, 0, none⟩) 2 2] [a, b]) := by
  unfold Hid
  rw [← hW16]
  exact lit2_ints (I64.small (by omega) (by omega)) (I64.small (by omega) (by omega))
 clear hW16
 have hz16 := hb16.size
 replace f0 := (cellB hb16 (by omega)).trans f0
 replace f1 := (cellB hb16 (by omega)).trans f1
 replace uz := (cellB hb16 (by omega)).trans uz
 replace c0 := (cellB hb16 (by omega)).trans c0
 replace c1 := (cellB hb16 (by omega)).trans c1
 replace H0 := Lib.hid (H0.out.below hb16)
 replace H1 := Lib.hid (H1.out.below hb16)
 replace HP := Lib.hid (HP.out.below hb16)
 replace HF := Lib.hid (HF.out.below hb16)
 replace HU := Lib.hid (HU.out.below hb16)
 replace HC := Lib.hid (HC.out.below hb16)
 have hbw16 := bthen hbw15 hb16
 refine (ApplyT_any w16 HF.out HAB.out HFK.out.1 (n := 2) HFK.out.2 (pair_tup hag hah)).mono ?_
 rintro e w17 ⟨rfl, hb17⟩
 clear HAB hag hah
 generalize opV s f.2 [a, b] = v5
 have hz17 := hb17.size
 replace f0 := (cellB hb17 (by omega)).trans f0
 replace f1 := (cellB hb17 (by omega)).trans f1
 replace uz := (cellB hb17 (by omega)).trans uz
 replace c0 := (cellB hb17 (by omega)).trans c0
 replace c1 := (cellB hb17 (by omega)).trans c1
 replace H0 := Lib.hid (H0.out.below hb17)
 replace H1 := Lib.hid (H1.out.below hb17)
 replace HP := Lib.hid (HP.out.below hb17)
 replace HF := Lib.hid (HF.out.below hb17)
 replace HU := Lib.hid (HU.out.below hb17)
 replace HC := Lib.hid (HC.out.below hb17)
 have hbw17 := bthen hbw16 hb17
 go_wp2_with fail
 obtain ⟨N, hN⟩ := pow_ex (s := s) (by omega) 2
 have HN := Lib.hid hN
 clear hN
 refine (Proj0_any w17 hs4 HN.out).mono ?_
 rintro e w18 ⟨cs, P0, rfl, hf, hp, hb18⟩
 obtain ⟨pa, pc, rfl⟩ := fr_pair hf
 have HP0 := Lib.hid hf.rd
 have HPE0 := Lib.hid hp
 clear hf hp
 have hz18 := hb18.size
 replace f0 := (cellB hb18 (by omega)).trans f0
 replace f1 := (cellB hb18 (by omega)).trans f1
 replace uz := (cellB hb18 (by omega)).trans uz
 replace c0 := (cellB hb18 (by omega)).trans c0
 replace c1 := (cellB hb18 (by omega)).trans c1
 replace H0 := Lib.hid (H0.out.below hb18)
 replace H1 := Lib.hid (H1.out.below hb18)
 replace HP := Lib.hid (HP.out.below hb18)
 replace HF := Lib.hid (HF.out.below hb18)
 replace HU := Lib.hid (HU.out.below hb18)
 replace HC := Lib.hid (HC.out.below hb18)
 have hbw18 := bthen hbw17 hb18
 go_wp2_with fail
 generalize hW19 : World.alloc w18 _ = w19
 have hb19 : Below w18.heap.size w18 w19 := hW19 ▸ bA
 have hy19 : w18.heap.size + 1 ≤ w19.heap.size := by rw [← hW19]; simp
 have p0 : w19.cell? ⟨w18.heap.size, 0, none⟩ = some (.int .i64 P0.1) := by rw [← hW19]; simp [go_sem]
 have p1 : w19.cell? ⟨w18.heap.size, 1, none⟩ = some (.slice pa P0.2.length pc) := by rw [← hW19]; simp [go_sem]
 clear hW19
 have hz19 := hb19.size
 replace f0 := (cellB hb19 (by omega)).trans f0
 replace f1 := (cellB hb19 (by omega)).trans f1
 replace uz := (cellB hb19 (by omega)).trans uz
 replace c0 := (cellB hb19 (by omega)).trans c0
 replace c1 := (cellB hb19 (by omega)).trans c1
 replace H0 := Lib.hid (H0.out.below hb19)
 replace H1 := Lib.hid (H1.out.below hb19)
 replace HP := Lib.hid (HP.out.below hb19)
 replace HF := Lib.hid (HF.out.below hb19)
 replace HU := Lib.hid (HU.out.below hb19)
 replace HC := Lib.hid (HC.out.below hb19)
 replace HP0 := Lib.hid (HP0.out.below hb19)
 have hbw19 := bthen hbw18 hb19
 refine (Proj1_any w19 hs4 HN.out).mono ?_
 rintro e w20 ⟨cs, P1, rfl, hf, hp, hb20⟩
 obtain ⟨qa, qc, rfl⟩ := fr_pair hf
 have HP1 := Lib.hid hf.rd
 have HPE1 := Lib.hid hp
 clear hf hp
 have hz20 := hb20.size
 replace f0 := (cellB hb20 (by omega)).trans f0
 replace f1 := (cellB hb20 (by omega)).trans f1
 replace uz := (cellB hb20 (by omega)).trans uz
 replace c0 := (cellB hb20 (by omega)).trans c0
 replace c1 := (cellB hb20 (by omega)).trans c1
 replace p0 := (cellB hb20 (by omega)).trans p0
 replace p1 := (cellB hb20 (by omega)).trans p1
 replace H0 := Lib.hid (H0.out.below hb20)
 replace H1 := Lib.hid (H1.out.below hb20)
 replace HP := Lib.hid (HP.out.below hb20)
 replace HF := Lib.hid (HF.out.below hb20)
 replace HU := Lib.hid (HU.out.below hb20)
 replace HC := Lib.hid (HC.out.below hb20)
 replace HP0 := Lib.hid (HP0.out.below hb20)
 have hbw20 := bthen hbw19 hb20
 go_upto_region 15 with fail
 generalize hW21 : World.alloc w20 _ = w21
 have hb21 : Below w20.heap.size w20 w21 := hW21 ▸ bA
 have hy21 : w20.heap.size + 1 ≤ w21.heap.size := by rw [← hW21]; simp
 have q0 : w21.cell? ⟨w20.heap.size, 0, none⟩ = some (.int .i64 P1.1) := by rw [← hW21]; simp [go_sem]
 have q1 : w21.cell? ⟨w20.heap.size, 1, none⟩ = some (.slice qa P1.2.length qc) := by rw [← hW21]; simp [go_sem]
 clear hW21
 have hz21 := hb21.size
 replace f0 := (cellB hb21 (by omega)).trans f0
 replace f1 := (cellB hb21 (by omega)).trans f1
 replace uz := (cellB hb21 (by omega)).trans uz
 replace c0 := (cellB hb21 (by omega)).trans c0
 replace c1 := (cellB hb21 (by omega)).trans c1
 replace p0 := (cellB hb21 (by omega)).trans p0
 replace p1 := (cellB hb21 (by omega)).trans p1
 replace H0 := Lib.hid (H0.out.below hb21)
 replace H1 := Lib.hid (H1.out.below hb21)
 replace HP := Lib.hid (HP.out.below hb21)
 replace HF := Lib.hid (HF.out.below hb21)
 replace HU := Lib.hid (HU.out.below hb21)
 replace HC := Lib.hid (HC.out.below hb21)
 replace HP0 := Lib.hid (HP0.out.below hb21)
 replace HP1 := Lib.hid (HP1.out.below hb21)
 have hbw21 := bthen hbw20 hb21
 go_wp2_with fail
 generalize hW22 : World.alloc w21 _ = w22
 have hb22 : Below w21.heap.size w21 w22 := hW22 ▸ bA
 have HLT : Hid (opsT.Rd w22 [.slice (some ⟨w21.heap.size, 0, none⟩) 2 2] [P0, P1]) := by
  unfold Hid
  rw [← hW22]
  exact lit2_ops HP0.out HP1.out
 clear hW22
 have hz22 := hb22.size
 replace f0 := (cellB hb22 (by omega)).trans f0
 replace f1 := (cellB hb22 (by omega)).trans f1
 replace uz := (cellB hb22 (by omega)).trans uz
 replace c0 := (cellB hb22 (by omega)).trans c0
 replace c1 := (cellB hb22 (by omega)).trans c1
 replace p0 := (cellB hb22 (by omega)).trans p0
 replace p1 := (cellB hb22 (by omega)).trans p1
 replace q0 := (cellB hb22 (by omega)).trans q0
 replace q1 := (cellB hb22 (by omega)).trans q1
 replace H0 := Lib.hid (H0.out.below hb22)
 replace H1 := Lib.hid (H1.out.below hb22)
 replace HP := Lib.hid (HP.out.below hb22)
 replace HF := Lib.hid (HF.out.below hb22)
 replace HU := Lib.hid (HU.out.below hb22)
 replace HC := Lib.hid (HC.out.below hb22)
 replace HP0 := Lib.hid (HP0.out.below hb22)
 replace HP1 := Lib.hid (HP1.out.below hb22)
 have hbw22 := bthen hbw21 hb22
 refine (CompP_any w22 HF.out HLT.out HFK.out HN.out HPE0.out HPE1.out).mono ?_
 rintro e w23 ⟨cs, rfl, hf, hb23⟩
 obtain ⟨sa, sc, rfl⟩ := fr_pair hf
 have HS := Lib.hid hf.rd
 clear hf
 have hz23 := hb23.size
 replace f0 := (cellB hb23 (by omega)).trans f0
 replace f1 := (cellB hb23 (by omega)).trans f1
 replace uz := (cellB hb23 (by omega)).trans uz
 replace c0 := (cellB hb23 (by omega)).trans c0
 replace c1 := (cellB hb23 (by omega)).trans c1
 replace p0 := (cellB hb23 (by omega)).trans p0
 replace p1 := (cellB hb23 (by omega)).trans p1
 replace q0 := (cellB hb23 (by omega)).trans q0
 replace q1 := (cellB hb23 (by omega)).trans q1
 replace H0 := Lib.hid (H0.out.below hb23)
 replace H1 := Lib.hid (H1.out.below hb23)
 replace HP := Lib.hid (HP.out.below hb23)
 replace HF := Lib.hid (HF.out.below hb23)
 replace HU := Lib.hid (HU.out.below hb23)
 replace HC := Lib.hid (HC.out.below hb23)
 replace HP0 := Lib.hid (HP0.out.below hb23)
 replace HP1 := Lib.hid (HP1.out.below hb23)
 have hbw23 := bthen hbw22 hb23
 clear HLT HPE0 HPE1
 clear p0 p1
 clear q0 q1
 clear HP0 HP1
 go_upto_region 16 with fail
 generalize hW24 : World.alloc w23 _ = w24
 have hb24 : Below w23.heap.size w23 w24 := hW24 ▸ bA
 have hy24 : w23.heap.size + 1 ≤ w24.heap.size := by rw [← hW24]; simp
 have s0 : w24.cell? ⟨w23.heap.size, 0, none⟩ = some (.int .i64 f.1) := by rw [← hW24]; simp [go_sem]
 have s1 : w24.cell? ⟨w23.heap.size, 1, none⟩ = some (.slice sa f.2.length sc) := by rw [← hW24]; simp [go_sem]
 clear hW24
 have hz24 := hb24.size
 replace f0 := (cellB hb24 (by omega)).trans f0
 replace f1 := (cellB hb24 (by omega)).trans f1
 replace uz := (cellB hb24 (by omega)).trans uz
 replace c0 := (cellB hb24 (by omega)).trans c0
 replace c1 := (cellB hb24 (by omega)).trans c1
 replace H0 := Lib.hid (H0.out.below hb24)
 replace H1 := Lib.hid (H1.out.below hb24)
 replace HP := Lib.hid (HP.out.below hb24)
 replace HF := Lib.hid (HF.out.below hb24)
 replace HU := Lib.hid (HU.out.below hb24)
 replace HC := Lib.hid (HC.out.below hb24)
 replace HS := Lib.hid (HS.out.below hb24)
 have hbw24 := bthen hbw23 hb24
 as_aux_lemma =>
  go_wp2_with fail
  refine (specSameOp_any w24 (x := f) (y := f) HS.out HF.out).mono ?_
  rintro e w25 ⟨rfl, hb25⟩
  rw [show eqB f f = true from eqB_true rfl]
  have hz25 := hb25.size
  replace f0 := (cellB hb25 (by omega)).trans f0
  replace f1 := (cellB hb25 (by omega)).trans f1
  replace uz := (cellB hb25 (by omega)).trans uz
  replace c0 := (cellB hb25 (by omega)).trans c0
  replace c1 := (cellB hb25 (by omega)).trans c1
  replace s0 := (cellB hb25 (by omega)).trans s0
  replace s1 := (cellB hb25 (by omega)).trans s1
  replace H0 := Lib.hid (H0.out.below hb25)
  replace H1 := Lib.hid (H1.out.below hb25)
  replace HP := Lib.hid (HP.out.below hb25)
  replace HF := Lib.hid (HF.out.below hb25)
  replace HU := Lib.hid (HU.out.below hb25)
  replace HC := Lib.hid (HC.out.below hb25)
  replace HS := Lib.hid (HS.out.below hb25)
  have hbw25 := bthen hbw24 hb25
  go_wp2_with fail
  refine (ValidOp_any w25 (f := C) HC.out s).mono ?_
  rintro e w26 ⟨rfl, hb26⟩
  rw [tb_true HCK.out.1]
  have hz26 := hb26.size
  replace f0 := (cellB hb26 (by omega)).trans f0
  replace f1 := (cellB hb26 (by omega)).trans f1
  replace uz := (cellB hb26 (by omega)).trans uz
  replace c0 := (cellB hb26 (by omega)).trans c0
  replace c1 := (cellB hb26 (by omega)).trans c1
  replace s0 := (cellB hb26 (by omega)).trans s0
  replace s1 := (cellB hb26 (by omega)).trans s1
  replace H0 := Lib.hid (H0.out.below hb26)
  replace H1 := Lib.hid (H1.out.below hb26)
  replace HP := Lib.hid (HP.out.below hb26)
  replace HF := Lib.hid (HF.out.below hb26)
  replace HU := Lib.hid (HU.out.below hb26)
  replace HC := Lib.hid (HC.out.below hb26)
  replace HS := Lib.hid (HS.out.below hb26)
  have hbw26 := bthen hbw25 hb26
  clear s0 s1
  clear HS
  clear c0 c1
  clear HC
  clear HCK HN
  go_wp2_with fail
  refine (P6Pl23_any w26 H1.out).mono ?_
  rintro e w27 ⟨_, ps, rfl, hf, htp, hb27⟩
  obtain ⟨psa, psc, rfl⟩ := fr_slice hf
  have HPS := Lib.hid hf.rd
  have HPT := Lib.hid htp
  clear hf htp
  have hz27 := hb27.size
  replace f0 := (cellB hb27 (by omega)).trans f0
  replace f1 := (cellB hb27 (by omega)).trans f1
  replace uz := (cellB hb27 (by omega)).trans uz
  replace H0 := Lib.hid (H0.out.below hb27)
  replace H1 := Lib.hid (H1.out.below hb27)
  replace HP := Lib.hid (HP.out.below hb27)
  replace HF := Lib.hid (HF.out.below hb27)
  replace HU := Lib.hid (HU.out.below hb27)
  have hbw27 := bthen hbw26 hb27
  go_wp2_with fail
  refine (Minor3_any w27 HF.out HPS.out HFK.out HPT.out).mono ?_
  rintro e w28 ⟨cs, M, rfl, hf, hp, hb28⟩
  obtain ⟨ma, mc, rfl⟩ := fr_pair hf
  have HM := Lib.hid hf.rd
  have HMP := Lib.hid hp
  clear hf hp
  have hz28 := hb28.size
  replace f0 := (cellB hb28 (by omega)).trans f0
  replace f1 := (cellB hb28 (by omega)).trans f1
  replace uz := (cellB hb28 (by omega)).trans uz
  replace H0 := Lib.hid (H0.out.below hb28)
  replace H1 := Lib.hid (H1.out.below hb28)
  replace HP := Lib.hid (HP.out.below hb28)
  replace HF := Lib.hid (HF.out.below hb28)
  replace HU := Lib.hid (HU.out.below hb28)
  replace HPS := Lib.hid (HPS.out.below hb28)
  have hbw28 := bthen hbw27 hb28
  go_wp2_with fail
  generalize hW29 : World.alloc w28 _ = w29
  have hb29 : Below w28.heap.size w28 w29 := hW29 ▸ bA
  have hy29 : w28.heap.size + 1 ≤ w29.heap.size := by rw [← hW29]; simp
  have m0 : w29.cell? ⟨w28.heap.size, 0, none⟩ = some (.int .i64 M.1) := by rw [← hW29]; simp [go_sem]
  have m1 : w29.cell? ⟨w28.heap.size, 1, none⟩ = some (.slice ma M.2.length mc) := by rw [← hW29]; simp [go_sem]
  clear hW29
  have hz29 := hb29.size
  replace f0 := (cellB hb29 (by omega)).trans f0
  replace f1 := (cellB hb29 (by omega)).trans f1
  replace uz := (cellB hb29 (by omega)).trans uz
  replace H0 := Lib.hid (H0.out.below hb29)
  replace H1 := Lib.hid (H1.out.below hb29)
  replace HP := Lib.hid (HP.out.below hb29)
  replace HF := Lib.hid (HF.out.below hb29)
  replace HU := Lib.hid (HU.out.below hb29)
  replace HPS := Lib.hid (HPS.out.below hb29)
  replace HM := Lib.hid (HM.out.below hb29)
  have hbw29 := bthen hbw28 hb29
  refine (P6Tup3_any w29 H0.out (s := s) hs4).mono ?_
  rintro e w30 ⟨_, x, rfl, hf, htp, hb30⟩
  obtain ⟨xa, xc, rfl⟩ := fr_slice hf
  have HX := Lib.hid hf.rd
  have HXT := Lib.hid htp
  obtain ⟨xb, xo, rfl, hlx, xz⟩ := ints_0 hf.rd (by have := htp.1; omega)
  have hix := tup_0 htp (by omega)
  have hzx : 0 < x.length := by have := htp.1; omega
  generalize x.getD 0 0 = x0 at xz hix
  clear hf htp
  have hz30 := hb30.size
  replace f0 := (cellB hb30 (by omega)).trans f0
  replace f1 := (cellB hb30 (by omega)).trans f1
  replace uz := (cellB hb30 (by omega)).trans uz
  replace m0 := (cellB hb30 (by omega)).trans m0
  replace m1 := (cellB hb30 (by omega)).trans m1
  replace H0 := Lib.hid (H0.out.below hb30)
  replace H1 := Lib.hid (H1.out.below hb30)
  replace HP := Lib.hid (HP.out.below hb30)
  replace HF := Lib.hid (HF.out.below hb30)
  replace HU := Lib.hid (HU.out.below hb30)
  replace HPS := Lib.hid (HPS.out.below hb30)
  replace HM := Lib.hid (HM.out.below hb30)
  have hbw30 := bthen hbw29 hb30
  have HAT := Lib.hid (atL_tup HXT.out HPT.out)
  have HMK := Lib.hid HMP.out.1
  have HMV := Lib.hid (HMP.out.2 x HXT.out)
  clear HMP
  go_wp2_with fail
  refine (ApplyT_any w30 HM.out HX.out HMK.out.1 (n := 3) HMK.out.2 HXT.out).mono ?_
  rintro e w31 ⟨rfl, hb31⟩
  rw [HMV.out]
  obtain ⟨y5, hy5⟩ : ∃ y, opV s f.2 (atL x ps) = y := ⟨_, rfl⟩
  have HY5 := Lib.hid hy5
  rw [hy5]
  clear hy5 HMV HMK
  have hz31 := hb31.size
  replace f0 := (cellB hb31 (by omega)).trans f0
  replace f1 := (cellB hb31 (by omega)).trans f1
  replace uz := (cellB hb31 (by omega)).trans uz
  replace m0 := (cellB hb31 (by omega)).trans m0
  replace m1 := (cellB hb31 (by omega)).trans m1
  replace xz := (cellB hb31 (by omega)).trans xz
  replace H0 := Lib.hid (H0.out.below hb31)
  replace H1 := Lib.hid (H1.out.below hb31)
  replace HP := Lib.hid (HP.out.below hb31)
  replace HF := Lib.hid (HF.out.below hb31)
  replace HU := Lib.hid (HU.out.below hb31)
  replace HPS := Lib.hid (HPS.out.below hb31)
  replace HM := Lib.hid (HM.out.below hb31)
  replace HX := Lib.hid (HX.out.below hb31)
  have hbw31 := bthen hbw30 hb31
  clear m0 m1
  clear HM
  go_upto_region 22 with fail
  refine wp_region_T (fun w' => w'.cell? ⟨w2.heap.size, 0, none⟩ = some (.int .i64 f.1) ∧ w'.cell? ⟨w2.heap.size, 1, none⟩ = some (.slice fa f.2.length fc)) [] (by as_aux_lemma => kernel_rfl) ⟨f0, f1⟩ (fun hHeld => ?_)
  refine wpAnyT_take (i := 0) (v := ?_) rfl (by as_aux_lemma => kernel_rfl) (fun _ _ _ h => h) (Or.inl ⟨by rfl, ?_⟩) (by assumption) ?_
  rotate_left
  ·(intro w hSw; (try dsimp only at hSw); go_simp <;> with_reducible rfl)
  go_simp
  refine wpAnyT_take (i := 1) (v := ?_) rfl (by as_aux_lemma => kernel_rfl) (fun _ _ _ h => h) (Or.inl ⟨by rfl, ?_⟩) (by assumption) ?_
  rotate_left
  ·(intro w hSw; (try dsimp only at hSw); go_simp <;> with_reducible rfl)
  go_simp
  refine wpAnyT_take (i := 2) (v := ?_) rfl (by as_aux_lemma => kernel_rfl) (fun _ _ _ h => h) (Or.inl ⟨by rfl, ?_⟩) (by assumption) ?_
  rotate_left
  ·(intro w hSw; (try dsimp only at hSw); go_simp <;> with_reducible rfl)
  go_simp
  refine wpAnyT_take (i := 3) (v := ?_) rfl (by as_aux_lemma => kernel_rfl) (fun _ _ _ h => h) (Or.inl ⟨by rfl, ?_⟩) (by assumption) ?_
  rotate_left
  ·(intro w hSw; (try dsimp only at hSw); go_simp <;> with_reducible rfl)
  go_simp
  have hb32 : Below w31.heap.size w31 w31.drew := bD
  generalize w31.drew = w32 at hHeld hb32 ⊢
  have hz32 := hb32.size
  replace f0 := (cellB hb32 (by omega)).trans f0
  replace f1 := (cellB hb32 (by omega)).trans f1
  replace uz := (cellB hb32 (by omega)).trans uz
  replace xz := (cellB hb32 (by omega)).trans xz
  replace H0 := Lib.hid (H0.out.below hb32)
  replace H1 := Lib.hid (H1.out.below hb32)
  replace HP := Lib.hid (HP.out.below hb32)
  replace HF := Lib.hid (HF.out.below hb32)
  replace HU := Lib.hid (HU.out.below hb32)
  replace HPS := Lib.hid (HPS.out.below hb32)
  replace HX := Lib.hid (HX.out.below hb32)
  have hbw32 := bthen hbw31 hb32
  clear hHeld
  refine wpAnyT_one (i := 4) rfl (by as_aux_lemma => kernel_rfl) (fun K hK => ?_)
  go_simp
  go_at_call 41
  refine (ValuesAt_any w32 HX.out HPS.out HAT.out.2.1 HAT.out.2.2).mono ?_
  rintro e w33 ⟨_, rfl, hf, hb33⟩
  obtain ⟨va, vc, rfl⟩ := fr_slice hf
  have HVA := Lib.hid hf.rd
  clear hf
  have hz33 := hb33.size
  replace f0 := (cellB hb33 (by omega)).trans f0
  replace f1 := (cellB hb33 (by omega)).trans f1
  replace uz := (cellB hb33 (by omega)).trans uz
  replace xz := (cellB hb33 (by omega)).trans xz
  replace H0 := Lib.hid (H0.out.below hb33)
  replace H1 := Lib.hid (H1.out.below hb33)
  replace HP := Lib.hid (HP.out.below hb33)
  replace HF := Lib.hid (HF.out.below hb33)
  replace HU := Lib.hid (HU.out.below hb33)
  replace HPS := Lib.hid (HPS.out.below hb33)
  replace HX := Lib.hid (HX.out.below hb33)
  have hbw33 := bthen hbw32 hb33
  dsimp only
  refine hK.out _ _ ⟨f0, f1⟩ (fun hHeld => ?_)
  clear hK K hHeld
  refine wpAnyT_one (i := 5) rfl (by as_aux_lemma => kernel_rfl) (fun K hK => ?_)
  go_simp
  go_at_call 40
  refine (specApplyT_any w33 HF.out HVA.out HFK.out.1 (n := 2) HFK.out.2 HAT.out.1).mono ?_
  rintro e w34 ⟨rfl, hb34⟩
  rw [HY5.out]
  have hz34 := hb34.size
  replace f0 := (cellB hb34 (by omega)).trans f0
  replace f1 := (cellB hb34 (by omega)).trans f1
  replace uz := (cellB hb34 (by omega)).trans uz
  replace xz := (cellB hb34 (by omega)).trans xz
  replace H0 := Lib.hid (H0.out.below hb34)
  replace H1 := Lib.hid (H1.out.below hb34)
  replace HP := Lib.hid (HP.out.below hb34)
  replace HF := Lib.hid (HF.out.below hb34)
  replace HU := Lib.hid (HU.out.below hb34)
  replace HPS := Lib.hid (HPS.out.below hb34)
  replace HX := Lib.hid (HX.out.below hb34)
  replace HVA := Lib.hid (HVA.out.below hb34)
  have hbw34 := bthen hbw33 hb34
  dsimp only
  refine hK.out _ _ ⟨f0, f1⟩ (fun hHeld => ?_)
  clear hK K
  clear HVA
  refine wpAnyT_take (i := 6) (v := ?_) rfl (by as_aux_lemma => kernel_rfl) (fun _ _ _ h => h) (Or.inl ⟨by rfl, ?_⟩) (by assumption) ?_
  rotate_left
  ·(intro w hSw; (try dsimp only at hSw); go_simp <;> with_reducible rfl)
  go_simp
  refine wpAnyT_take (i := 7) (v := ?_) rfl (by as_aux_lemma => kernel_rfl) (fun _ _ _ h => h) (Or.inl ⟨by rfl, ?_⟩) (by assumption) ?_
  rotate_left
  ·(intro w hSw; (try dsimp only at hSw); go_simp <;> with_reducible rfl)
  go_simp
  refine wpAnyT_take (i := 8) (v := ?_) rfl (by as_aux_lemma => kernel_rfl) (fun _ _ _ h => h) (Or.inl ⟨by rfl, ?_⟩) (by assumption) ?_
  rotate_left
  ·(intro w hSw; (try dsimp only at hSw); go_simp <;> with_reducible rfl)
  go_simp
  refine wpAnyT_take (i := 9) (v := ?_) rfl (by as_aux_lemma => kernel_rfl) (fun _ _ _ h => h) (Or.inl ⟨by rfl, ?_⟩) (by assumption) ?_
  rotate_left
  ·(intro w hSw; (try dsimp only at hSw); go_simp <;> with_reducible rfl)
  go_simp
  refine wpAnyT_take (i := 10) (v := ?_) rfl (by as_aux_lemma => kernel_rfl) (fun _ _ _ h => h) (Or.inl ⟨by rfl, ?_⟩) (by assumption) ?_
  rotate_left
  ·(intro w hSw; (try dsimp only at hSw); go_simp <;> with_reducible rfl)
  go_simp
  refine wpAnyT_done (by as_aux_lemma => kernel_rfl) ?_ _
  go_simp
  clear hHeld
  clear HPS
  clear HY5 HAT HPT
  go_wp2_with fail
  refine (Depends2_any w34 HF.out HFK.out).mono ?_
  rintro e w35 ⟨_, D, rfl, hf, hdp, hb35⟩
  obtain ⟨da, dc, rfl⟩ := fr_slice hf
  have HD := Lib.hid hf.rd
  have HDP := Lib.hid hdp
  clear hf hdp
  have hz35 := hb35.size
  replace f0 := (cellB hb35 (by omega)).trans f0
  replace f1 := (cellB hb35 (by omega)).trans f1
  replace uz := (cellB hb35 (by omega)).trans uz
  replace xz := (cellB hb35 (by omega)).trans xz
  replace H0 := Lib.hid (H0.out.below hb35)
  replace H1 := Lib.hid (H1.out.below hb35)
  replace HP := Lib.hid (HP.out.below hb35)
  replace HF := Lib.hid (HF.out.below hb35)
  replace HU := Lib.hid (HU.out.below hb35)
  replace HX := Lib.hid (HX.out.below hb35)
  have hbw35 := bthen hbw34 hb35
  go_upto_region 24 with fail
  as_aux_lemma =>
   go_wp2_with fail
   go_loopw [36] (fun i wr => ∃ k : Nat, k ≤ 2 ∧ i = .int .i64 (k : Int) ∧ Below w35.heap.size w35 wr) (fun i _ => 2 - (intOf i).toNat)
   case atStart => exact ⟨0, by omega, rfl, Below.refl _ _⟩
   case round =>
    obtain ⟨k, hk, rfl, hb36⟩ := hrel
    obtain ⟨w36, rfl⟩ : ∃ x : World, x = wr := ⟨_, rfl⟩
    have hz36 := hb36.size
    replace f0 := (cellB hb36 (by omega)).trans f0
    replace f1 := (cellB hb36 (by omega)).trans f1
    replace uz := (cellB hb36 (by omega)).trans uz
    replace xz := (cellB hb36 (by omega)).trans xz
    replace H0 := Lib.hid (H0.out.below hb36)
    replace H1 := Lib.hid (H1.out.below hb36)
    replace HP := Lib.hid (HP.out.below hb36)
    replace HF := Lib.hid (HF.out.below hb36)
    replace HU := Lib.hid (HU.out.below hb36)
    replace HX := Lib.hid (HX.out.below hb36)
    replace HD := Lib.hid (HD.out.below hb36)
    have hbw36 := bthen hbw35 hb36
    by_cases hk2 : k < 2
    ·as_aux_lemma =>
      cases hq : hasI D (k : Int)
      rotate_left
      ·go_wp2_with fail
       refine (HasNumber_any w36 HD.out (k : Int)).mono ?_
       rintro e _ ⟨rfl, rfl⟩
       rw [hq]
       go_wp2_with fail
       go_roundw
       case rel => exact ⟨k + 1, by omega, by go_num, hb36⟩
       case measure => simp [intOf]; omega
      ·have HJ := Lib.hid (HDP.out k hk2 hq u x0 HUT.out hix)
       have HB := Lib.hid (Bl.lit0 (E := Ty.int) (e := 2) (base := w36.heap.size) (w := w36) (Nat.le_refl _))
       go_wp2_with fail
       refine (HasNumber_any w36 HD.out (k : Int)).mono ?_
       rintro e _ ⟨rfl, rfl⟩
       rw [hq]
       go_upto_region 31 with (at_builtin; go_loud (refine wpList_appI _ rfl _ _ 48 2 rfl elInt rfl HB.out rfl (HU.out.below bA) hzu (by have := HUT.out.1; simp; omega) (by decide) (by omega) (by simp) ?_; intro v8 x8 hB8 hg8 _))
       have hb8 : Below w36.heap.size w36 x8 := (bA (w := w36)).grown hg8 (by simp) (fun k hk => HB.out.own hk)
       have hKF : intsT.Fr w36.heap.size x8 [v8] u := by simpa using hB8.fr (by have := HUT.out.1; unfold capMax; simp; omega)
       have xz8 := (cellB hb8 (show xb < w36.heap.size by omega)).trans xz
       have HUL : u.length = 2 := HUT.out.1
       obtain ⟨kb, ko, kc, rfl, hkc, hkcm, hkb, hkbs, hkI, hkf, hkH⟩ := fr_holds hKF (by omega)
       obtain ⟨y0, hy0⟩ : ∃ y, x8.cell? ⟨kb, ko + k, none⟩ = some y := ⟨_, (hkH k (by simp; omega)).1⟩
       have hm0 := hkf (ko + k)
       have hIx0 : I64 x0 := I64.small (by omega) (by omega)
       have HK2 : Hid (intsT.Fr w36.heap.size (x8.setCell ⟨kb, ko + k, none⟩ (.int .i64 x0)) [.slice (some ⟨kb, ko, none⟩) u.length kc] (u.set k x0)) := fr_setI hKF (by omega) hIx0
       have hb37 : Below w36.heap.size w36 (x8.setCell ⟨kb, ko + k, none⟩ (.int .i64 x0)) := hb8.setCell hkbs _
       have HKT : Hid (tupP s 2 (u.set k x0)) := ⟨by rw [List.length_set]; exact HUL, fun b hb => by
        rcases List.mem_or_eq_of_mem_set hb with h | rfl
        ·exact HUT.out.2 b h
        ·exact hix⟩
       have hku : k < u.length := by omega
       have hku2 : ((k : Nat) : Int) < ((u.length : Nat) : Int) := by omega
       have hzx2 : (0 : Int) < ((x.length : Nat) : Int) := by omega
       clear hB8 hg8 hKF hkH hkI hkf HUL HB
       go_upto_region 32 with fail
       clear hy0 hm0 xz8 hku hku2 hb8
       generalize x8.setCell ⟨kb, ko + k, none⟩ (.int .i64 x0) = w37 at HK2 hb37 ⊢
       have hz37 := hb37.size
       replace f0 := (cellB hb37 (by omega)).trans f0
       replace f1 := (cellB hb37 (by omega)).trans f1
       replace uz := (cellB hb37 (by omega)).trans uz
       replace xz := (cellB hb37 (by omega)).trans xz
       replace H0 := Lib.hid (H0.out.below hb37)
       replace H1 := Lib.hid (H1.out.below hb37)
       replace HP := Lib.hid (HP.out.below hb37)
       replace HF := Lib.hid (HF.out.below hb37)
       replace HU := Lib.hid (HU.out.below hb37)
       replace HX := Lib.hid (HX.out.below hb37)
       replace HD := Lib.hid (HD.out.below hb37)
       have hbw37 := bthen hbw36 hb37
       go_wp2_with fail
       refine (specApplyT_any w37 HF.out HU.out HFK.out.1 (n := 2) HFK.out.2 HUT.out).mono ?_
       rintro e w38 ⟨rfl, hb38⟩
       generalize opV s f.2 u = z5 at HJ ⊢
       have hz38 := hb38.size
       replace f0 := (cellB hb38 (by omega)).trans f0
       replace f1 := (cellB hb38 (by omega)).trans f1
       replace uz := (cellB hb38 (by omega)).trans uz
       replace xz := (cellB hb38 (by omega)).trans xz
       replace H0 := Lib.hid (H0.out.below hb38)
       replace H1 := Lib.hid (H1.out.below hb38)
       replace HP := Lib.hid (HP.out.below hb38)
       replace HF := Lib.hid (HF.out.below hb38)
       replace HU := Lib.hid (HU.out.below hb38)
       replace HX := Lib.hid (HX.out.below hb38)
       replace HD := Lib.hid (HD.out.below hb38)
       replace HK2 := Lib.hid (HK2.out.below hb38)
       have hbw38 := bthen hbw37 hb38
       go_wp2_with fail
       refine (specApplyT_any w38 HF.out HK2.out.rd HFK.out.1 (n := 2) HFK.out.2 HKT.out).mono ?_
       rintro e w39 ⟨rfl, hb39⟩
       rw [HJ.out]
       clear HJ HKT
       have hz39 := hb39.size
       replace f0 := (cellB hb39 (by omega)).trans f0
       replace f1 := (cellB hb39 (by omega)).trans f1
       replace uz := (cellB hb39 (by omega)).trans uz
       replace xz := (cellB hb39 (by omega)).trans xz
       replace H0 := Lib.hid (H0.out.below hb39)
       replace H1 := Lib.hid (H1.out.below hb39)
       replace HP := Lib.hid (HP.out.below hb39)
       replace HF := Lib.hid (HF.out.below hb39)
       replace HU := Lib.hid (HU.out.below hb39)
       replace HX := Lib.hid (HX.out.below hb39)
       replace HD := Lib.hid (HD.out.below hb39)
       replace HK2 := Lib.hid (HK2.out.below hb39)
       have hbw39 := bthen hbw38 hb39
       go_wp2_with fail
       go_roundw
       case rel => exact ⟨k + 1, by omega, by go_num, bthen (bthen (bthen (hb36) hb37) hb38) hb39⟩
       case measure => simp [intOf]; omega
    ·as_aux_lemma =>
      obtain rfl : k = 2 := by omega
      clear hk hk2 HDP
      clear HD
      clear xz
      clear HX
      clear HXT hix hzx hlx
      go_wp2_with fail
      obtain ⟨K, hK⟩ : ∃ K, kdsV s f = K := ⟨_, rfl⟩
      have HKA := kd_all HFK.out.1
      have hki := KindsOf_any w36 HF.out (s := s) HFK.out.1
      rw [hK] at HKA hki
      have HK := Lib.hid hK
      have HKA := Lib.hid HKA
      clear hK
      refine (hki).mono ?_
      rintro e w37 ⟨_, rfl, hf, hb37⟩
      obtain ⟨ka, kc, rfl⟩ := fr_slice hf
      have HK1 := Lib.hid hf.rd
      clear hf hki
      have hz37 := hb37.size
      replace f0 := (cellB hb37 (by omega)).trans f0
      replace f1 := (cellB hb37 (by omega)).trans f1
      replace uz := (cellB hb37 (by omega)).trans uz
      replace H0 := Lib.hid (H0.out.below hb37)
      replace H1 := Lib.hid (H1.out.below hb37)
      replace HP := Lib.hid (HP.out.below hb37)
      replace HF := Lib.hid (HF.out.below hb37)
      replace HU := Lib.hid (HU.out.below hb37)
      have hbw37 := bthen hbw36 hb37
      go_wp2_with fail
      have hki := specKindsOf_any w37 HF.out (s := s) HFK.out.1
      rw [HK.out] at hki
      refine (hki).mono ?_
      rintro e w38 ⟨_, rfl, hf, hb38⟩
      obtain ⟨ja, jc, rfl⟩ := fr_slice hf
      have HK2 := Lib.hid hf.rd
      clear hf hki HK
      have hz38 := hb38.size
      replace f0 := (cellB hb38 (by omega)).trans f0
      replace f1 := (cellB hb38 (by omega)).trans f1
      replace uz := (cellB hb38 (by omega)).trans uz
      replace H0 := Lib.hid (H0.out.below hb38)
      replace H1 := Lib.hid (H1.out.below hb38)
      replace HP := Lib.hid (HP.out.below hb38)
      replace HF := Lib.hid (HF.out.below hb38)
      replace HU := Lib.hid (HU.out.below hb38)
      replace HK1 := Lib.hid (HK1.out.below hb38)
      have hbw38 := bthen hbw37 hb38
      go_wp2_with fail
      refine (Graph2_any w38 HF.out HFK.out).mono ?_
      rintro e w39 ⟨cs, R, rfl, hf, hR, hb39⟩
      obtain ⟨ra, rc, rfl⟩ := fr_pair hf
      have HR := Lib.hid hf.rd
      have HRP := Lib.hid hR
      clear hf hR
      have hz39 := hb39.size
      replace f0 := (cellB hb39 (by omega)).trans f0
      replace f1 := (cellB hb39 (by omega)).trans f1
      replace uz := (cellB hb39 (by omega)).trans uz
      replace H0 := Lib.hid (H0.out.below hb39)
      replace H1 := Lib.hid (H1.out.below hb39)
      replace HP := Lib.hid (HP.out.below hb39)
      replace HF := Lib.hid (HF.out.below hb39)
      replace HU := Lib.hid (HU.out.below hb39)
      replace HK1 := Lib.hid (HK1.out.below hb39)
      replace HK2 := Lib.hid (HK2.out.below hb39)
      have hbw39 := bthen hbw38 hb39
      go_wp2_with fail
      generalize hW40 : World.alloc w39 _ = w40
      have hb40 : Below w39.heap.size w39 w40 := hW40 ▸ bA
      have hy40 : w39.heap.size + 1 ≤ w40.heap.size := by rw [← hW40]; simp
      have r0 : w40.cell? ⟨w39.heap.size, 0, none⟩ = some (.int .i64 R.1) := by rw [← hW40]; simp [go_sem]
      have r1 : w40.cell? ⟨w39.heap.size, 1, none⟩ = some (.slice ra R.2.length rc) := by rw [← hW40]; simp [go_sem]
      clear hW40
      have hz40 := hb40.size
      replace f0 := (cellB hb40 (by omega)).trans f0
      replace f1 := (cellB hb40 (by omega)).trans f1
      replace uz := (cellB hb40 (by omega)).trans uz
      replace H0 := Lib.hid (H0.out.below hb40)
      replace H1 := Lib.hid (H1.out.below hb40)
      replace HP := Lib.hid (HP.out.below hb40)
      replace HF := Lib.hid (HF.out.below hb40)
      replace HU := Lib.hid (HU.out.below hb40)
      replace HK1 := Lib.hid (HK1.out.below hb40)
      replace HK2 := Lib.hid (HK2.out.below hb40)
      replace HR := Lib.hid (HR.out.below hb40)
      have hbw40 := bthen hbw39 hb40
      refine (OfGraph2_any w40 HR.out HFK.out HRP.out).mono ?_
      rintro e w41 ⟨cs, rfl, hf, hb41⟩
      obtain ⟨ba, bc, rfl⟩ := fr_pair hf
      have HB := Lib.hid hf.rd
      clear hf
      have hz41 := hb41.size
      replace f0 := (cellB hb41 (by omega)).trans f0
      replace f1 := (cellB hb41 (by omega)).trans f1
      replace uz := (cellB hb41 (by omega)).trans uz
      replace r0 := (cellB hb41 (by omega)).trans r0
      replace r1 := (cellB hb41 (by omega)).trans r1
      replace H0 := Lib.hid (H0.out.below hb41)
      replace H1 := Lib.hid (H1.out.below hb41)
      replace HP := Lib.hid (HP.out.below hb41)
      replace HF := Lib.hid (HF.out.below hb41)
      replace HU := Lib.hid (HU.out.below hb41)
      replace HK1 := Lib.hid (HK1.out.below hb41)
      replace HK2 := Lib.hid (HK2.out.below hb41)
      replace HR := Lib.hid (HR.out.below hb41)
      have hbw41 := bthen hbw40 hb41
      clear r0 r1
      clear HR
      clear HRP
      have ta_f0 : ∀ o : Obj, (World.alloc w41 o).cell? ⟨w2.heap.size, 0, none⟩ = some (.int .i64 f.1) := fun o => (cellB bA (by omega)).trans f0
      have ta_f1 : ∀ o : Obj, (World.alloc w41 o).cell? ⟨w2.heap.size, 1, none⟩ = some (.slice fa f.2.length fc) := fun o => (cellB bA (by omega)).trans f1
      go_wp2_with fail
      clear ta_f0 ta_f1
      generalize hW42 : World.alloc w41 _ = w42
      have hb42 : Below w41.heap.size w41 w42 := hW42 ▸ bA
      have hy42 : w41.heap.size + 1 ≤ w42.heap.size := by rw [← hW42]; simp
      have b0 : w42.cell? ⟨w41.heap.size, 0, none⟩ = some (.int .i64 f.1) := by rw [← hW42]; simp [go_sem]
      have b1 : w42.cell? ⟨w41.heap.size, 1, none⟩ = some (.slice ba f.2.length bc) := by rw [← hW42]; simp [go_sem]
      clear hW42
      have hz42 := hb42.size
      replace f0 := (cellB hb42 (by omega)).trans f0
      replace f1 := (cellB hb42 (by omega)).trans f1
      replace uz := (cellB hb42 (by omega)).trans uz
      replace H0 := Lib.hid (H0.out.below hb42)
      replace H1 := Lib.hid (H1.out.below hb42)
      replace HP := Lib.hid (HP.out.below hb42)
      replace HF := Lib.hid (HF.out.below hb42)
      replace HU := Lib.hid (HU.out.below hb42)
      replace HK1 := Lib.hid (HK1.out.below hb42)
      replace HK2 := Lib.hid (HK2.out.below hb42)
      replace HB := Lib.hid (HB.out.below hb42)
      have hbw42 := bthen hbw41 hb42
      refine (OpText_any w42 HF.out HFK.out.1).mono ?_
      rintro e w43 ⟨rfl, hb43⟩
      have hz43 := hb43.size
      replace f0 := (cellB hb43 (by omega)).trans f0
      replace f1 := (cellB hb43 (by omega)).trans f1
      replace uz := (cellB hb43 (by omega)).trans uz
      replace b0 := (cellB hb43 (by omega)).trans b0
      replace b1 := (cellB hb43 (by omega)).trans b1
      replace H0 := Lib.hid (H0.out.below hb43)
      replace H1 := Lib.hid (H1.out.below hb43)
      replace HP := Lib.hid (HP.out.below hb43)
      replace HF := Lib.hid (HF.out.below hb43)
      replace HU := Lib.hid (HU.out.below hb43)
      replace HK1 := Lib.hid (HK1.out.below hb43)
      replace HK2 := Lib.hid (HK2.out.below hb43)
      replace HB := Lib.hid (HB.out.below hb43)
      have hbw43 := bthen hbw42 hb43
      go_wp2_with fail
      refine (ReadOp_any w43 HP.out HFK.out.1).mono ?_
      rintro e w44 ⟨cs, rfl, hf, hb44⟩
      obtain ⟨ta, tc, rfl⟩ := fr_pair hf
      have HT := Lib.hid hf.rd
      clear hf
      have hz44 := hb44.size
      replace f0 := (cellB hb44 (by omega)).trans f0
      replace f1 := (cellB hb44 (by omega)).trans f1
      replace uz := (cellB hb44 (by omega)).trans uz
      replace b0 := (cellB hb44 (by omega)).trans b0
      replace b1 := (cellB hb44 (by omega)).trans b1
      replace H0 := Lib.hid (H0.out.below hb44)
      replace H1 := Lib.hid (H1.out.below hb44)
      replace HP := Lib.hid (HP.out.below hb44)
      replace HF := Lib.hid (HF.out.below hb44)
      replace HU := Lib.hid (HU.out.below hb44)
      replace HK1 := Lib.hid (HK1.out.below hb44)
      replace HK2 := Lib.hid (HK2.out.below hb44)
      replace HB := Lib.hid (HB.out.below hb44)
      have hbw44 := bthen hbw43 hb44
      go_upto_region 41 with fail
      generalize hW45 : World.alloc w44 _ = w45
      have hb45 : Below w44.heap.size w44 w45 := hW45 ▸ bA
      have hy45 : w44.heap.size + 1 ≤ w45.heap.size := by rw [← hW45]; simp
      have t0 : w45.cell? ⟨w44.heap.size, 0, none⟩ = some (.int .i64 f.1) := by rw [← hW45]; simp [go_sem]
      have t1 : w45.cell? ⟨w44.heap.size, 1, none⟩ = some (.slice ta f.2.length tc) := by rw [← hW45]; simp [go_sem]
      clear hW45
      have hz45 := hb45.size
      replace f0 := (cellB hb45 (by omega)).trans f0
      replace f1 := (cellB hb45 (by omega)).trans f1
      replace uz := (cellB hb45 (by omega)).trans uz
      replace b0 := (cellB hb45 (by omega)).trans b0
      replace b1 := (cellB hb45 (by omega)).trans b1
      replace H0 := Lib.hid (H0.out.below hb45)
      replace H1 := Lib.hid (H1.out.below hb45)
      replace HP := Lib.hid (HP.out.below hb45)
      replace HF := Lib.hid (HF.out.below hb45)
      replace HU := Lib.hid (HU.out.below hb45)
      replace HK1 := Lib.hid (HK1.out.below hb45)
      replace HK2 := Lib.hid (HK2.out.below hb45)
      replace HB := Lib.hid (HB.out.below hb45)
      replace HT := Lib.hid (HT.out.below hb45)
      have hbw45 := bthen hbw44 hb45
      as_aux_lemma =>
       go_wp2_with fail
       refine (SameNumbers_any w45 HK1.out HK2.out).mono ?_
       rintro e w46 ⟨rfl, hb46⟩
       rw [show eqB K K = true from eqB_true rfl]
       have hz46 := hb46.size
       replace f0 := (cellB hb46 (by omega)).trans f0
       replace f1 := (cellB hb46 (by omega)).trans f1
       replace uz := (cellB hb46 (by omega)).trans uz
       replace b0 := (cellB hb46 (by omega)).trans b0
       replace b1 := (cellB hb46 (by omega)).trans b1
       replace t0 := (cellB hb46 (by omega)).trans t0
       replace t1 := (cellB hb46 (by omega)).trans t1
       replace H0 := Lib.hid (H0.out.below hb46)
       replace H1 := Lib.hid (H1.out.below hb46)
       replace HP := Lib.hid (HP.out.below hb46)
       replace HF := Lib.hid (HF.out.below hb46)
       replace HU := Lib.hid (HU.out.below hb46)
       replace HK1 := Lib.hid (HK1.out.below hb46)
       replace HK2 := Lib.hid (HK2.out.below hb46)
       replace HB := Lib.hid (HB.out.below hb46)
       replace HT := Lib.hid (HT.out.below hb46)
       have hbw46 := bthen hbw45 hb46
       go_wp2_with fail
       refine (specSameOp_any w46 (x := f) (y := f) HB.out HF.out).mono ?_
       rintro e w47 ⟨rfl, hb47⟩
       rw [show eqB f f = true from eqB_true rfl]
       have hz47 := hb47.size
       replace f0 := (cellB hb47 (by omega)).trans f0
       replace f1 := (cellB hb47 (by omega)).trans f1
       replace uz := (cellB hb47 (by omega)).trans uz
       replace b0 := (cellB hb47 (by omega)).trans b0
       replace b1 := (cellB hb47 (by omega)).trans b1
       replace t0 := (cellB hb47 (by omega)).trans t0
       replace t1 := (cellB hb47 (by omega)).trans t1
       replace H0 := Lib.hid (H0.out.below hb47)
       replace H1 := Lib.hid (H1.out.below hb47)
       replace HP := Lib.hid (HP.out.below hb47)
       replace HF := Lib.hid (HF.out.below hb47)
       replace HU := Lib.hid (HU.out.below hb47)
       replace HK1 := Lib.hid (HK1.out.below hb47)
       replace HK2 := Lib.hid (HK2.out.below hb47)
       replace HB := Lib.hid (HB.out.below hb47)
       replace HT := Lib.hid (HT.out.below hb47)
       have hbw47 := bthen hbw46 hb47
       go_wp2_with fail
       refine (specSameOp_any w47 (x := f) (y := f) HT.out HF.out).mono ?_
       rintro e w48 ⟨rfl, hb48⟩
       rw [show eqB f f = true from eqB_true rfl]
       have hz48 := hb48.size
       replace f0 := (cellB hb48 (by omega)).trans f0
       replace f1 := (cellB hb48 (by omega)).trans f1
       replace uz := (cellB hb48 (by omega)).trans uz
       replace b0 := (cellB hb48 (by omega)).trans b0
       replace b1 := (cellB hb48 (by omega)).trans b1
       replace t0 := (cellB hb48 (by omega)).trans t0
       replace t1 := (cellB hb48 (by omega)).trans t1
       replace H0 := Lib.hid (H0.out.below hb48)
       replace H1 := Lib.hid (H1.out.below hb48)
       replace HP := Lib.hid (HP.out.below hb48)
       replace HF := Lib.hid (HF.out.below hb48)
       replace HU := Lib.hid (HU.out.below hb48)
       replace HK1 := Lib.hid (HK1.out.below hb48)
       replace HK2 := Lib.hid (HK2.out.below hb48)
       replace HB := Lib.hid (HB.out.below hb48)
       replace HT := Lib.hid (HT.out.below hb48)
       have hbw48 := bthen hbw47 hb48
       go_wp2_with fail
       refine (SameOp_any w48 (x := f) (y := f) HT.out HF.out).mono ?_
       rintro e w49 ⟨rfl, hb49⟩
       rw [show eqB f f = true from eqB_true rfl]
       have hz49 := hb49.size
       replace f0 := (cellB hb49 (by omega)).trans f0
       replace f1 := (cellB hb49 (by omega)).trans f1
       replace uz := (cellB hb49 (by omega)).trans uz
       replace b0 := (cellB hb49 (by omega)).trans b0
       replace b1 := (cellB hb49 (by omega)).trans b1
       replace t0 := (cellB hb49 (by omega)).trans t0
       replace t1 := (cellB hb49 (by omega)).trans t1
       replace H0 := Lib.hid (H0.out.below hb49)
       replace H1 := Lib.hid (H1.out.below hb49)
       replace HP := Lib.hid (HP.out.below hb49)
       replace HF := Lib.hid (HF.out.below hb49)
       replace HU := Lib.hid (HU.out.below hb49)
       replace HK1 := Lib.hid (HK1.out.below hb49)
       replace HK2 := Lib.hid (HK2.out.below hb49)
       replace HB := Lib.hid (HB.out.below hb49)
       replace HT := Lib.hid (HT.out.below hb49)
       have hbw49 := bthen hbw48 hb49
       clear b0 b1 t0 t1
       clear HB HT HK1 HP H0 H1
       go_wp2_with fail
       go_loopw [52] (fun i wr => ∃ k : Nat, (1 ≤ k ∧ k ≤ 11) ∧ i = .int .i64 (k : Int) ∧ Below w49.heap.size w49 wr) (fun i _ => 11 - (intOf i).toNat)
       case atStart => exact ⟨1, by omega, rfl, Below.refl _ _⟩
       case round =>
        obtain ⟨k, hk, rfl, hb50⟩ := hrel
        obtain ⟨w50, rfl⟩ : ∃ x : World, x = wr := ⟨_, rfl⟩
        have hz50 := hb50.size
        replace f0 := (cellB hb50 (by omega)).trans f0
        replace f1 := (cellB hb50 (by omega)).trans f1
        replace uz := (cellB hb50 (by omega)).trans uz
        replace HF := Lib.hid (HF.out.below hb50)
        replace HU := Lib.hid (HU.out.below hb50)
        replace HK2 := Lib.hid (HK2.out.below hb50)
        have hbw50 := bthen hbw49 hb50
        by_cases hk2 : k < 11
        ·as_aux_lemma =>
          have hkk := HKA.out.1 k hk.1 (by omega)
          have HKK := Lib.hid hkk
          clear hkk
          obtain ⟨bk, hbk⟩ : ∃ q : Bool, kindB s f (k : Int) = q := ⟨_, rfl⟩
          have HBK := Lib.hid hbk
          rw [hbk] at HKK
          clear hbk
          go_wp2_with fail
          refine (IsOfKind_any w50 HF.out (s := s) (k := (k : Int)) HFK.out.1 (by omega)).mono ?_
          rintro e w51 ⟨rfl, hb51⟩
          rw [HBK.out]
          have hz51 := hb51.size
          replace f0 := (cellB hb51 (by omega)).trans f0
          replace f1 := (cellB hb51 (by omega)).trans f1
          replace uz := (cellB hb51 (by omega)).trans uz
          replace HF := Lib.hid (HF.out.below hb51)
          replace HU := Lib.hid (HU.out.below hb51)
          replace HK2 := Lib.hid (HK2.out.below hb51)
          have hbw51 := bthen hbw50 hb51
          go_wp2_with fail
          refine (HasNumber_any w51 HK2.out (k : Int)).mono ?_
          rintro e _ ⟨rfl, rfl⟩
          rw [HKK.out]
          cases bk
          all_goals
           go_wp2_with fail
           go_roundw
           case rel => exact ⟨k + 1, by omega, by go_num, bthen (hb50) hb51⟩
           case measure => simp [intOf]; omega
        ·as_aux_lemma =>
          obtain rfl : k = 11 := by omega
          clear hk hk2
          have hzu2 : (0 : Int) < ((u.length : Nat) : Int) := by omega
          go_wp2_with fail
          refine (Const2_any w50 hs4 hiu).mono ?_
          rintro e w51 ⟨cs, E, rfl, hf, hp, hb51⟩
          obtain ⟨ea, ec, rfl⟩ := fr_pair hf
          have HE := Lib.hid hf.rd
          have HEP := Lib.hid hp
          clear hf hp
          have hz51 := hb51.size
          replace f0 := (cellB hb51 (by omega)).trans f0
          replace f1 := (cellB hb51 (by omega)).trans f1
          replace uz := (cellB hb51 (by omega)).trans uz
          replace HF := Lib.hid (HF.out.below hb51)
          replace HU := Lib.hid (HU.out.below hb51)
          replace HK2 := Lib.hid (HK2.out.below hb51)
          have hbw51 := bthen hbw50 hb51
          have HEK := Lib.hid HEP.out.1
          have HEV := Lib.hid (HEP.out.2 u HUT.out)
          clear HEP
          go_wp2_with fail
          generalize hW52 : World.alloc w51 _ = w52
          have hb52 : Below w51.heap.size w51 w52 := hW52 ▸ bA
          have hy52 : w51.heap.size + 1 ≤ w52.heap.size := by rw [← hW52]; simp
          have e0 : w52.cell? ⟨w51.heap.size, 0, none⟩ = some (.int .i64 E.1) := by rw [← hW52]; simp [go_sem]
          have e1 : w52.cell? ⟨w51.heap.size, 1, none⟩ = some (.slice ea E.2.length ec) := by rw [← hW52]; simp [go_sem]
          clear hW52
          have hz52 := hb52.size
          replace f0 := (cellB hb52 (by omega)).trans f0
          replace f1 := (cellB hb52 (by omega)).trans f1
          replace uz := (cellB hb52 (by omega)).trans uz
          replace HF := Lib.hid (HF.out.below hb52)
          replace HU := Lib.hid (HU.out.below hb52)
          replace HK2 := Lib.hid (HK2.out.below hb52)
          replace HE := Lib.hid (HE.out.below hb52)
          have hbw52 := bthen hbw51 hb52
          refine (ApplyT_any w52 HE.out HU.out HEK.out.1 (n := 2) HEK.out.2 HUT.out).mono ?_
          rintro e w53 ⟨rfl, hb53⟩
          rw [HEV.out]
          clear HEV HEK
          have hz53 := hb53.size
          replace f0 := (cellB hb53 (by omega)).trans f0
          replace f1 := (cellB hb53 (by omega)).trans f1
          replace uz := (cellB hb53 (by omega)).trans uz
          replace e0 := (cellB hb53 (by omega)).trans e0
          replace e1 := (cellB hb53 (by omega)).trans e1
          replace HF := Lib.hid (HF.out.below hb53)
          replace HU := Lib.hid (HU.out.below hb53)
          replace HK2 := Lib.hid (HK2.out.below hb53)
          replace HE := Lib.hid (HE.out.below hb53)
          have hbw53 := bthen hbw52 hb53
          clear e0 e1
          clear HE
          have HK6 := Lib.hid HKA.out.2.1
          have HK7 := Lib.hid HKA.out.2.2
          clear HKA
          go_upto_region 51 with fail
          rcases HK6.out with hq6 | ⟨hq6, hq5, hq3⟩
          ·rcases HK7.out with hq1 | ⟨hq1, hq4⟩
           ·as_aux_lemma =>
             clear HK6 HK7
             go_wp2_with fail
             refine (HasNumber_any w53 HK2.out 6).mono ?_
             rintro e _ ⟨rfl, rfl⟩
             rw [hq6]
             go_wp2_with fail
             refine (HasNumber_any w53 HK2.out 1).mono ?_
             rintro e _ ⟨rfl, rfl⟩
             rw [hq1]
             go_wp2_with fail
             go_ret
             exact ⟨rfl, hbw53⟩
           ·as_aux_lemma =>
             clear HK6 HK7
             go_wp2_with fail
             refine (HasNumber_any w53 HK2.out 6).mono ?_
             rintro e _ ⟨rfl, rfl⟩
             rw [hq6]
             go_wp2_with fail
             refine (HasNumber_any w53 HK2.out 1).mono ?_
             rintro e _ ⟨rfl, rfl⟩
             rw [hq1]
             go_wp2_with fail
             refine (HasNumber_any w53 HK2.out 4).mono ?_
             rintro e _ ⟨rfl, rfl⟩
             rw [hq4]
             go_wp2_with fail
             go_ret
             exact ⟨rfl, hbw53⟩
          ·rcases HK7.out with hq1 | ⟨hq1, hq4⟩
           ·as_aux_lemma =>
             clear HK6 HK7
             go_wp2_with fail
             refine (HasNumber_any w53 HK2.out 6).mono ?_
             rintro e _ ⟨rfl, rfl⟩
             rw [hq6]
             go_wp2_with fail
             refine (HasNumber_any w53 HK2.out 5).mono ?_
             rintro e _ ⟨rfl, rfl⟩
             rw [hq5]
             go_wp2_with fail
             refine (HasNumber_any w53 HK2.out 3).mono ?_
             rintro e _ ⟨rfl, rfl⟩
             rw [hq3]
             go_wp2_with fail
             refine (HasNumber_any w53 HK2.out 1).mono ?_
             rintro e _ ⟨rfl, rfl⟩
             rw [hq1]
             go_wp2_with fail
             go_ret
             exact ⟨rfl, hbw53⟩
           ·as_aux_lemma =>
             clear HK6 HK7
             go_wp2_with fail
             refine (HasNumber_any w53 HK2.out 6).mono ?_
             rintro e _ ⟨rfl, rfl⟩
             rw [hq6]
             go_wp2_with fail
             refine (HasNumber_any w53 HK2.out 5).mono ?_
             rintro e _ ⟨rfl, rfl⟩
             rw [hq5]
             go_wp2_with fail
             refine (HasNumber_any w53 HK2.out 3).mono ?_
             rintro e _ ⟨rfl, rfl⟩
             rw [hq3]
             go_wp2_with fail
             refine (HasNumber_any w53 HK2.out 1).mono ?_
             rintro e _ ⟨rfl, rfl⟩
             rw [hq1]
             go_wp2_with fail
             refine (HasNumber_any w53 HK2.out 4).mono ?_
             rintro e _ ⟨rfl, rfl⟩
             rw [hq4]
             go_wp2_with fail
             go_ret
             exact ⟨rfl, hbw53⟩
end Go.Proofs.YtnhdohednekhjaaGreatDoor
