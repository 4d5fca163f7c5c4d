/-
 The law FnFormulas, walked: its contract. Printed by gen_wff.py.
-/
import Derived.Test.YtnhdohednekhjaaGreatDoorQAJ
import Derived.Test.YtnhdohednekhjaaGreatDoorQBA
import Derived.Test.YtnhdohednekhjaaGreatDoorQBB
import Derived.Test.YtnhdohednekhjaaGreatDoorQAH
import Derived.Test.YtnhdohednekhjaaGreatDoorQBD
import Derived.Test.YtnhdohednekhjaaGreatDoorQBC
import Derived.Test.YtnhdohednekhjaaGreatDoorQAE
import Derived.Test.YtnhdohednekhjaaGreatDoorQBE
import Derived.Test.YtnhdohednekhjaaGreatDoorQBF
import Derived.Test.YtnhdohednekhjaaGreatDoorQAC
import Derived.Test.YtnhdohednekhjaaGreatDoorQAG
import Derived.Deep.CutRange
namespace Go.Proofs.YtnhdohednekhjaaGreatDoor
open Go.RowKit Go.Sort
theorem stX_ex {α : Type} {tg : Tag} {Φ : α → OP} (h : ∀ x, StG tg (Φ x)) : StG tg (fun o v W => ∃ x, Φ x o v W) := by
 cases tg
 ·exact ⟨⟨fun o v w1 w2 ⟨x, hx⟩ hb => ⟨x, (h x).1.1 o v w1 w2 hx hb⟩, fun v w1 w2 ⟨x, hx⟩ hb => ⟨x, (h x).1.2 v w1 w2 hx hb⟩⟩, fun b v w1 w2 ⟨x, hx⟩ hb => ⟨x, (h x).2 b v w1 w2 hx hb⟩⟩
 ·exact ⟨⟨fun o v w1 w2 ⟨x, hx⟩ hb => ⟨x, (h x).1.1 o v w1 w2 hx hb⟩, fun v w1 w2 ⟨x, hx⟩ hb => ⟨x, (h x).1.2 v w1 w2 hx hb⟩⟩, fun b v w1 w2 ⟨x, hx⟩ hb => ⟨x, (h x).2 b v w1 w2 hx hb⟩⟩
 ·exact ⟨⟨fun o v w1 w2 ⟨x, hx⟩ hb => ⟨x, (h x).1.1 o v w1 w2 hx hb⟩, fun v w1 w2 ⟨x, hx⟩ hb => ⟨x, (h x).1.2 v w1 w2 hx hb⟩⟩, fun o v v' w ⟨x, hx⟩ => ⟨x, (h x).2 o v v' w hx⟩⟩
theorem stX_and {tg : Tag} {p : Prop} {Φ : OP} (h : StG tg Φ) : StG tg (fun o v W => p ∧ Φ o v W) := by
 cases tg
 ·exact ⟨⟨fun o v w1 w2 ⟨hp, hx⟩ hb => ⟨hp, h.1.1 o v w1 w2 hx hb⟩, fun v w1 w2 ⟨hp, hx⟩ hb => ⟨hp, h.1.2 v w1 w2 hx hb⟩⟩, fun b v w1 w2 ⟨hp, hx⟩ hb => ⟨hp, h.2 b v w1 w2 hx hb⟩⟩
 ·exact ⟨⟨fun o v w1 w2 ⟨hp, hx⟩ hb => ⟨hp, h.1.1 o v w1 w2 hx hb⟩, fun v w1 w2 ⟨hp, hx⟩ hb => ⟨hp, h.1.2 v w1 w2 hx hb⟩⟩, fun b v w1 w2 ⟨hp, hx⟩ hb => ⟨hp, h.2 b v w1 w2 hx hb⟩⟩
 ·exact ⟨⟨fun o v w1 w2 ⟨hp, hx⟩ hb => ⟨hp, h.1.1 o v w1 w2 hx hb⟩, fun v w1 w2 ⟨hp, hx⟩ hb => ⟨hp, h.1.2 v w1 w2 hx hb⟩⟩, fun o v v' w ⟨hp, hx⟩ => ⟨hp, h.2 o v v' w hx⟩⟩
/-- a new formula of two free variables that fits a template -/
def f2O (t : Tpl) (base : Nat) : OP := fun o v W => ∃ f : Frm, (frmOk t f ∧ f.1 = 2) ∧ frAO frmT base f o v W
theorem st_f2O {t : Tpl} {base : Nat} : StG .plain (f2O t base) := stX_ex fun _ => stX_and st_frAO
def f2HO (t : Tpl) (base : Nat) : OP := fun o v W => ∃ f : Frm, (frmOk t f ∧ f.1 = 2) ∧ heldO frmT base f o v W
theorem st_f2HO {t : Tpl} {base : Nat} : StG .store (f2HO t base) := stX_ex fun _ => stX_and st_heldO
theorem elByteX : ElT Tryz.prog 22 5 1 1 := .mk (z := .int .u8 0) Tryz.underlying22 (by kernel_rfl) rfl (by decide)
set_option maxHeartbeats 25600000 in
set_option maxRecDepth 100000 in
theorem fnFormulas_any (w : World) (hp : RfPre w) {v0 v1 : Value} {x0 x1 : List Int} (h0 : bytesT.Rd w [v0] x0) (h1 : bytesT.Rd w [v1] x1) :
  Calls Tryz.prog 3 #[v0, v1] w fun e w' => e = .returned (.bool true) ∧ Below w.heap.size w w' := by
 obtain ⟨a0, k0, rfl⟩ := rd_slice h0
 obtain ⟨a1, k1, rfl⟩ := rd_slice h1
 have H0 := Lib.hid h0
 have H1 := Lib.hid h1
 have HP := Lib.hid hp
 have hbw0 : Below w.heap.size w w := Below.refl _ _
 clear h0 h1 hp
 go_enter Tryz.func3, Tryz.ntmps3
 go_wp2_with fail
 refine (f6bigL_any w H0.out).mono ?_
 rintro e _ ⟨rfl, rfl⟩
 cases hL0 : decide ((4096 : Int) < ((x0.length : Nat) : Int))
 rotate_left
 ·go_wp2_with fail
  go_ret
  exact ⟨rfl, Below.refl _ _⟩
 go_wp2_with fail
 refine (f6bigL_any w H1.out).mono ?_
 rintro e _ ⟨rfl, rfl⟩
 cases hL1 : decide ((4096 : Int) < ((x1.length : Nat) : Int))
 rotate_left
 ·go_wp2_with fail
  go_ret
  exact ⟨rfl, Below.refl _ _⟩
 have HL0 : Hid (x0.length ≤ 4096) := by have := of_decide_eq_false hL0; unfold Hid; omega
 clear hL0 hL1
 go_wp2_with fail
 refine (P6Pick_any w H0.out (n := 2) (by omega)).mono ?_
 rintro e w1 ⟨x, rfl, hx0, hx1, hb1⟩
 have hz1 := hb1.size
 replace H0 := Lib.hid (H0.out.below hb1)
 replace H1 := Lib.hid (H1.out.below hb1)
 replace HP := Lib.hid (HP.out.below hb1)
 have hbw1 := bthen hbw0 hb1
 obtain ⟨s, hs⟩ : ∃ s : Int, 2 + x = s := ⟨_, rfl⟩
 have hwr : IntKind.i64.wrap (2 + x) = s := by rw [hs]; exact wrap_small (by omega) (by omega)
 have hs4 : 1 ≤ s ∧ s ≤ 4 := by omega
 clear hs
 go_wp2_with fail
 clear hwr
 refine (P6Template_any w1 H0.out (s := s) hs4).mono ?_
 rintro e w2 ⟨cs, t, rfl, hf, htok, hts, htl, hb2⟩
 obtain ⟨ta, tc, rfl⟩ := fr_pair hf
 have HT := Lib.hid hf.rd
 have HTOK := Lib.hid htok
 subst hts
 clear hf htok htl
 have hz2 := hb2.size
 replace H0 := Lib.hid (H0.out.below hb2)
 replace H1 := Lib.hid (H1.out.below hb2)
 replace HP := Lib.hid (HP.out.below hb2)
 have hbw2 := bthen hbw1 hb2
 go_wp2_with fail
 generalize hW3 : World.alloc w2 _ = w3
 have hb3 : Below w2.heap.size w2 w3 := hW3 ▸ bA
 have hy3 : w2.heap.size + 1 ≤ w3.heap.size := by rw [← hW3]; simp
 have t0 : w3.cell? ⟨w2.heap.size, 0, none⟩ = some (.int .i64 t.1) := by rw [← hW3]; simp [go_sem]
 have t1 : w3.cell? ⟨w2.heap.size, 1, none⟩ = some (.slice ta t.2.length tc) := by rw [← hW3]; simp [go_sem]
 clear hW3
 have hz3 := hb3.size
 replace H0 := Lib.hid (H0.out.below hb3)
 replace H1 := Lib.hid (H1.out.below hb3)
 replace HP := Lib.hid (HP.out.below hb3)
 replace HT := Lib.hid (HT.out.below hb3)
 have hbw3 := bthen hbw2 hb3
 have hpf := P6Formula_any w3 H1.out HT.out HTOK.out (free := 2) (by omega)
 rw [show ((2 : Nat) : Int) = 2 from rfl] at hpf
 refine (hpf).mono ?_
 rintro e w4 ⟨cs, f, rfl, hf, hfok, hf1, -, -, hb4⟩
 obtain ⟨fa, fc, rfl⟩ := fr_trip hf
 have HF := Lib.hid hf.rd
 have HFOK := Lib.hid hfok
 have HF1 : Hid (f.1 = 2) := hf1
 clear hf hfok hpf hf1
 have hz4 := hb4.size
 replace t0 := (cellB hb4 (by omega)).trans t0
 replace t1 := (cellB hb4 (by omega)).trans t1
 replace H0 := Lib.hid (H0.out.below hb4)
 replace H1 := Lib.hid (H1.out.below hb4)
 replace HP := Lib.hid (HP.out.below hb4)
 replace HT := Lib.hid (HT.out.below hb4)
 have hbw4 := bthen hbw3 hb4
 have ta_t0 : ∀ o : Obj, (World.alloc w4 o).cell? ⟨w2.heap.size, 0, none⟩ = some (.int .i64 t.1) := fun o => (cellB bA (by omega)).trans t0
 have ta_t1 : ∀ o : Obj, (World.alloc w4 o).cell? ⟨w2.heap.size, 1, none⟩ = some (.slice ta t.2.length tc) := fun o => (cellB bA (by omega)).trans t1
 go_wp2_with fail
 clear ta_t0 ta_t1
 generalize hW5 : World.alloc w4 _ = w5
 have hb5 : Below w4.heap.size w4 w5 := hW5 ▸ bA
 have hy5 : w4.heap.size + 1 ≤ w5.heap.size := by rw [← hW5]; simp
 have f0 : w5.cell? ⟨w4.heap.size, 0, none⟩ = some (.int .i64 f.1) := by rw [← hW5]; simp [go_sem]
 have f1 : w5.cell? ⟨w4.heap.size, 1, none⟩ = some (.int .i64 f.2.1) := by rw [← hW5]; simp [go_sem]
 have f2 : w5.cell? ⟨w4.heap.size, 2, none⟩ = some (.slice fa f.2.2.length fc) := by rw [← hW5]; simp [go_sem]
 clear hW5
 have hz5 := hb5.size
 replace t0 := (cellB hb5 (by omega)).trans t0
 replace t1 := (cellB hb5 (by omega)).trans t1
 replace H0 := Lib.hid (H0.out.below hb5)
 replace H1 := Lib.hid (H1.out.below hb5)
 replace HP := Lib.hid (HP.out.below hb5)
 replace HT := Lib.hid (HT.out.below hb5)
 replace HF := Lib.hid (HF.out.below hb5)
 have hbw5 := bthen hbw4 hb5
 refine wp_region_box [(.plain, litO 8), (.plain, exO (.slice a0 x0.length k0)), (.plain, rdSO bytesT (8 :: x0)), (.plain, exO (.agg #[.int .i64 t.1, .slice ta t.2.length tc])), (.plain, f2O t w5.heap.size), (.alloc, boxO 3), (.store, f2HO t w5.heap.size)] (by kernel_rfl) (by kernel_rfl) ⟨st_litO, st_exO, st_rdSO, st_exO, st_f2O, st_boxO, st_f2HO, trivial⟩ ⟨?j8_0, ?j8_1, ?j8_2, ?j8_3, ?j8_4, ?j8_5, ?j8_6, trivial⟩ ?hQ8
 case j8_0 =>
  intro a' w' ob hb hbo hal hd
  go_simp
  exact ⟨_, ⟨rfl, bA⟩, w'.heap.size, rfl, by simp, by simp [go_sem], fun e => by have := hbo _ e; omega⟩
 case j8_1 =>
  intro a' w' ob hb hbo hal hd
  have e0 : a'.tmps[0]?.getD undef = .slice a0 x0.length k0 := ev (slot_o2 hd 0 rfl rfl)
  go_simp
  exact ⟨_, ⟨rfl, Below.refl _ _⟩, rfl⟩
 case j8_2 =>
  intro a' w' ob hb hbo hal hd
  obtain ⟨lg, e70, hlg, hlc, hlo⟩ := slot_w2 hd 70 (litO 8) rfl rfl
  have e0 := ev e70
  have e1 := ev (slot_w2 hd 71 (exO (.slice a0 x0.length k0)) rfl rfl)
  obtain ⟨v', W', hrun, hbW, fp, hrd, hfp⟩ := run_onB w' 22 22 5 elByteX (c := 8) (by omega) hlg hlc (H0.out.below hb) HL0.out
  unfold execOp
  simp only [resolve, invoke, builtin, Sem.run_bind, Sem.run_pure, Result.andThen_ok, List.map_toArray, List.map_cons, List.map_nil, Act.eval]
  rw [Array.getD_eq_getD_getElem?, Array.getD_eq_getD_getElem?, e0, e1, hrun]
  exact ⟨_, ⟨rfl, hbW⟩, fp, hrd, fun k hk e => (hfp k hk).elim (fun h => hlo (by rw [e, h])) fun h => by have := hbo k e; omega⟩
 case j8_3 =>
  intro a' w' ob hb hbo hal hd
  have e0 : a'.tmps[6]?.getD undef = .pointer (some ⟨w2.heap.size, 0, none⟩) := ev (slot_o2 hd 6 rfl rfl)
  have q0 := (cellB hb (show w2.heap.size < w5.heap.size by omega)).trans t0
  have q1 := (cellB hb (show w2.heap.size < w5.heap.size by omega)).trans t1
  go_simp
  exact ⟨_, ⟨rfl, Below.refl _ _⟩, rfl⟩
 case j8_4 =>
  intro a' w' ob hb hbo hal hd
  have d72 := slot_w2 hd 72 (rdSO bytesT (8 :: x0)) rfl rfl
  obtain ⟨ba, bc, e72⟩ := rdSO_val d72
  have R72 := d72.rd
  rw [e72] at R72
  have e0 := ev e72
  have e1 := ev (slot_w2 hd 73 (exO (.agg #[.int .i64 t.1, .slice ta t.2.length tc])) rfl rfl)
  have hpf := P6Formula_any w' R72 (HT.out.below hb) HTOK.out (free := 2) (by omega)
  rw [show ((2 : Nat) : Int) = 2 from rfl] at hpf
  go_simp
  exact ⟨rfl, Below.refl _ _, hpf.mono fun e w'' ⟨cs, f, he, hf, hfok, hf1, _, _, hb2⟩ => by
   obtain ⟨fp, h1, h2, h3, h4⟩ := hf
   exact ⟨_, he, hb2, f, ⟨hfok, hf1⟩, cs, fp, rfl, h1, h2, fun k hk => Nat.le_trans hb.size (h3 k hk), h4, fun k hk e => by have := hbo k e; have := h3 k hk; omega⟩⟩
 case j8_5 =>
  intro a' w' ob hb hbo hal hd
  obtain rfl := hal rfl
  go_simp
  exact ⟨_, ⟨rfl, by simp, bA⟩, _, rfl, rfl, by simp, box3⟩
 case j8_6 =>
  intro a' w' ob hb hbo hal hd
  obtain ⟨bb, rfl, e10, hbb, hcl⟩ := slot_w2 hd 8 (boxO 3) rfl rfl
  have e10' := ev e10
  obtain ⟨f, hfok, d47⟩ := slot_w2 hd 74 (f2O t w5.heap.size) rfl rfl
  have HFK := Lib.hid hfok
  clear hfok
  obtain ⟨cs47, fp47, e47, hr47, hn47, hg47, hu47, ho47⟩ := d47
  obtain ⟨u47, rfl, hr47', -⟩ := rd_trip hr47
  obtain ⟨ad47', cap47', rfl⟩ := rd_slice ⟨_, hr47'⟩
  have e47' := ev e47
  obtain ⟨⟨y0, c0⟩, f0⟩ := hcl 0 (by decide)
  obtain ⟨⟨y1, c1⟩, f1⟩ := hcl 1 (by decide)
  obtain ⟨⟨y2, c2⟩, f2⟩ := hcl 2 (by decide)
  go_simp
  obtain ⟨o', s1, s2⟩ := held3 c0 c1 c2 hr47 hn47 hg47 hu47 ho47 undef
  exact ⟨o', s1, f, HFK.out, s2⟩
 intro vs8 w6 ob8 hb6 hbo8 J0
 obtain ⟨v8_0, _, rfl, q0, J1⟩ := HAll2_cons J0
 obtain ⟨v8_1, _, rfl, q1, J2⟩ := HAll2_cons J1
 obtain ⟨v8_2, _, rfl, q2, J3⟩ := HAll2_cons J2
 obtain ⟨v8_3, _, rfl, q3, J4⟩ := HAll2_cons J3
 obtain ⟨v8_4, _, rfl, q4, J5⟩ := HAll2_cons J4
 obtain ⟨v8_5, _, rfl, q5, J6⟩ := HAll2_cons J5
 obtain ⟨v8_6, _, rfl, q6, J7⟩ := HAll2_cons J6
 obtain rfl := HAll2_nil J7
 obtain rfl := id q1
 obtain rfl := id q3
 obtain ⟨lg, rfl, -⟩ := id q0
 obtain ⟨ba, bc, rfl⟩ := rdSO_val q2
 obtain ⟨_, -, cs5, fp5, hq5, -⟩ := id q4
 obtain rfl := id hq5
 obtain ⟨bb, rfl, rfl, hltbb, -⟩ := id q5
 obtain ⟨g, hgok, _, cs, fpx, hob, hr1, hr2, hr3, hr4, -, kk⟩ := id q6
 simp only [Option.some.injEq] at hob
 subst hob
 have hcf : frmT.Fr w5.heap.size w6 cs g := ⟨fpx, hr1, hr2, hr3, hr4⟩
 obtain ⟨ga, gc, rfl⟩ := fr_trip hcf
 have g0 : w6.cell? ⟨bb, 0, none⟩ = some (.int .i64 g.1) := kk 0 (by simp)
 have g1 : w6.cell? ⟨bb, 1, none⟩ = some (.int .i64 g.2.1) := kk 1 (by simp)
 have g2 : w6.cell? ⟨bb, 2, none⟩ = some (.slice ga g.2.2.length gc) := kk 2 (by simp)
 have HG := Lib.hid hcf.rd
 have HGOK := Lib.hid hgok.1
 have HG1 := Lib.hid hgok.2
 have hz6 := hb6.size
 replace t0 := (cellB hb6 (by omega)).trans t0
 replace t1 := (cellB hb6 (by omega)).trans t1
 replace f0 := (cellB hb6 (by omega)).trans f0
 replace f1 := (cellB hb6 (by omega)).trans f1
 replace f2 := (cellB hb6 (by omega)).trans f2
 replace H0 := Lib.hid (H0.out.below hb6)
 replace H1 := Lib.hid (H1.out.below hb6)
 replace HP := Lib.hid (HP.out.below hb6)
 replace HT := Lib.hid (HT.out.below hb6)
 replace HF := Lib.hid (HF.out.below hb6)
 have hbw6 := bthen hbw5 hb6
 clear kk hr1 hr2 hr3 hr4 hcf q0 q1 q2 q3 q4 q5 q6 hq5 hgok
 simp only [putAll, Act.put]
 go_simp
 have HVO := Lib.hid (va_ok HFOK.out)
 have HUO := Lib.hid (va_ok HGOK.out)
 have HVU : Hid ((vaR t f).1 = (vaR t g).1) := by unfold Hid; rw [va_ar, va_ar, HF1.out, HG1.out]
 have HV1 : Hid ((vaR t f).1 = 2) := by unfold Hid; rw [va_ar, HF1.out]
 have HRB := Lib.hid (read_back HFOK.out)
 have HCJ := Lib.hid (ff_conj HFOK.out HGOK.out HF1.out HG1.out)
 have HHD := Lib.hid (ff_hide HFOK.out HF1.out)
 have HPL : Hid (∀ ps, tupP 3 2 ps → _) := fun ps h => ff_place HFOK.out HF1.out h
 have HSI := Lib.hid (ff_sim HFOK.out)
 have HAP := Lib.hid (ff_apart HFOK.out HGOK.out HF1.out HG1.out)
 have HATU : Hid (∀ u, tupP t.1 2 u → _) := fun u h => ff_at HFOK.out HF1.out h
 have HVF := Lib.hid (vo_yes (tb_true HFOK.out))
 have HVG := Lib.hid (vo_yes (tb_true HGOK.out))
 generalize vaR t f = V at HVO HVU HV1 HCJ HHD HPL HAP HATU HVF
 generalize vaR t g = U at HUO HVU HCJ HAP HVG
 go_wp2_with fail
 have hvo := ValueOf_any w6 HT.out HF.out
 rw [HVF.out.1, HVF.out.2] at hvo
 refine (hvo).mono ?_
 rintro e w7 ⟨cs, rfl, hf, hb7⟩
 obtain ⟨va, vc, rfl⟩ := fr_pair hf
 have HV := Lib.hid hf.rd
 clear hf hvo
 have hz7 := hb7.size
 replace t0 := (cellB hb7 (by omega)).trans t0
 replace t1 := (cellB hb7 (by omega)).trans t1
 replace f0 := (cellB hb7 (by omega)).trans f0
 replace f1 := (cellB hb7 (by omega)).trans f1
 replace f2 := (cellB hb7 (by omega)).trans f2
 replace g0 := (cellB hb7 (by omega)).trans g0
 replace g1 := (cellB hb7 (by omega)).trans g1
 replace g2 := (cellB hb7 (by omega)).trans g2
 replace H0 := Lib.hid (H0.out.below hb7)
 replace H1 := Lib.hid (H1.out.below hb7)
 replace HP := Lib.hid (HP.out.below hb7)
 replace HT := Lib.hid (HT.out.below hb7)
 replace HF := Lib.hid (HF.out.below hb7)
 replace HG := Lib.hid (HG.out.below hb7)
 have hbw7 := bthen hbw6 hb7
 have ta_t0 : ∀ o : Obj, (World.alloc w7 o).cell? ⟨w2.heap.size, 0, none⟩ = some (.int .i64 t.1) := fun o => (cellB bA (by omega)).trans t0
 have ta_t1 : ∀ o : Obj, (World.alloc w7 o).cell? ⟨w2.heap.size, 1, none⟩ = some (.slice ta t.2.length tc) := fun o => (cellB bA (by omega)).trans t1
 have ta_f0 : ∀ o : Obj, (World.alloc w7 o).cell? ⟨w4.heap.size, 0, none⟩ = some (.int .i64 f.1) := fun o => (cellB bA (by omega)).trans f0
 have ta_f1 : ∀ o : Obj, (World.alloc w7 o).cell? ⟨w4.heap.size, 1, none⟩ = some (.int .i64 f.2.1) := fun o => (cellB bA (by omega)).trans f1
 have ta_f2 : ∀ o : Obj, (World.alloc w7 o).cell? ⟨w4.heap.size, 2, none⟩ = some (.slice fa f.2.2.length fc) := fun o => (cellB bA (by omega)).trans f2
 go_wp2_with fail
 clear ta_t0 ta_t1 ta_f0 ta_f1 ta_f2
 generalize hW8 : World.alloc w7 _ = w8
 have hb8 : Below w7.heap.size w7 w8 := hW8 ▸ bA
 have hy8 : w7.heap.size + 1 ≤ w8.heap.size := by rw [← hW8]; simp
 have v0 : w8.cell? ⟨w7.heap.size, 0, none⟩ = some (.int .i64 V.1) := by rw [← hW8]; simp [go_sem]
 have v1 : w8.cell? ⟨w7.heap.size, 1, none⟩ = some (.slice va V.2.length vc) := by rw [← hW8]; simp [go_sem]
 clear hW8
 have hz8 := hb8.size
 replace t0 := (cellB hb8 (by omega)).trans t0
 replace t1 := (cellB hb8 (by omega)).trans t1
 replace f0 := (cellB hb8 (by omega)).trans f0
 replace f1 := (cellB hb8 (by omega)).trans f1
 replace f2 := (cellB hb8 (by omega)).trans f2
 replace g0 := (cellB hb8 (by omega)).trans g0
 replace g1 := (cellB hb8 (by omega)).trans g1
 replace g2 := (cellB hb8 (by omega)).trans g2
 replace H0 := Lib.hid (H0.out.below hb8)
 replace H1 := Lib.hid (H1.out.below hb8)
 replace HP := Lib.hid (HP.out.below hb8)
 replace HT := Lib.hid (HT.out.below hb8)
 replace HF := Lib.hid (HF.out.below hb8)
 replace HG := Lib.hid (HG.out.below hb8)
 replace HV := Lib.hid (HV.out.below hb8)
 have hbw8 := bthen hbw7 hb8
 have hvo := specValueOf_any w8 HT.out HF.out
 rw [HVF.out.1, HVF.out.2] at hvo
 refine (hvo).mono ?_
 rintro e w9 ⟨cs, rfl, hf, hb9⟩
 obtain ⟨da, dc, rfl⟩ := fr_pair hf
 have HD := Lib.hid hf.rd
 clear hf hvo
 have hz9 := hb9.size
 replace t0 := (cellB hb9 (by omega)).trans t0
 replace t1 := (cellB hb9 (by omega)).trans t1
 replace f0 := (cellB hb9 (by omega)).trans f0
 replace f1 := (cellB hb9 (by omega)).trans f1
 replace f2 := (cellB hb9 (by omega)).trans f2
 replace g0 := (cellB hb9 (by omega)).trans g0
 replace g1 := (cellB hb9 (by omega)).trans g1
 replace g2 := (cellB hb9 (by omega)).trans g2
 replace v0 := (cellB hb9 (by omega)).trans v0
 replace v1 := (cellB hb9 (by omega)).trans v1
 replace H0 := Lib.hid (H0.out.below hb9)
 replace H1 := Lib.hid (H1.out.below hb9)
 replace HP := Lib.hid (HP.out.below hb9)
 replace HT := Lib.hid (HT.out.below hb9)
 replace HF := Lib.hid (HF.out.below hb9)
 replace HG := Lib.hid (HG.out.below hb9)
 replace HV := Lib.hid (HV.out.below hb9)
 have hbw9 := bthen hbw8 hb9
 have ta_t0 : ∀ o : Obj, (World.alloc w9 o).cell? ⟨w2.heap.size, 0, none⟩ = some (.int .i64 t.1) := fun o => (cellB bA (by omega)).trans t0
 have ta_t1 : ∀ o : Obj, (World.alloc w9 o).cell? ⟨w2.heap.size, 1, none⟩ = some (.slice ta t.2.length tc) := fun o => (cellB bA (by omega)).trans t1
 have ta_g0 : ∀ o : Obj, (World.alloc w9 o).cell? ⟨bb, 0, none⟩ = some (.int .i64 g.1) := fun o => (cellB bA (by omega)).trans g0
 have ta_g1 : ∀ o : Obj, (World.alloc w9 o).cell? ⟨bb, 1, none⟩ = some (.int .i64 g.2.1) := fun o => (cellB bA (by omega)).trans g1
 have ta_g2 : ∀ o : Obj, (World.alloc w9 o).cell? ⟨bb, 2, none⟩ = some (.slice ga g.2.2.length gc) := fun o => (cellB bA (by omega)).trans g2
 go_wp2_with fail
 clear ta_t0 ta_t1 ta_g0 ta_g1 ta_g2
 generalize hW10 : World.alloc w9 _ = w10
 have hb10 : Below w9.heap.size w9 w10 := hW10 ▸ bA
 have hy10 : w9.heap.size + 1 ≤ w10.heap.size := by rw [← hW10]; simp
 have d0 : w10.cell? ⟨w9.heap.size, 0, none⟩ = some (.int .i64 V.1) := by rw [← hW10]; simp [go_sem]
 have d1 : w10.cell? ⟨w9.heap.size, 1, none⟩ = some (.slice da V.2.length dc) := by rw [← hW10]; simp [go_sem]
 clear hW10
 have hz10 := hb10.size
 replace t0 := (cellB hb10 (by omega)).trans t0
 replace t1 := (cellB hb10 (by omega)).trans t1
 replace f0 := (cellB hb10 (by omega)).trans f0
 replace f1 := (cellB hb10 (by omega)).trans f1
 replace f2 := (cellB hb10 (by omega)).trans f2
 replace g0 := (cellB hb10 (by omega)).trans g0
 replace g1 := (cellB hb10 (by omega)).trans g1
 replace g2 := (cellB hb10 (by omega)).trans g2
 replace v0 := (cellB hb10 (by omega)).trans v0
 replace v1 := (cellB hb10 (by omega)).trans v1
 replace H0 := Lib.hid (H0.out.below hb10)
 replace H1 := Lib.hid (H1.out.below hb10)
 replace HP := Lib.hid (HP.out.below hb10)
 replace HT := Lib.hid (HT.out.below hb10)
 replace HF := Lib.hid (HF.out.below hb10)
 replace HG := Lib.hid (HG.out.below hb10)
 replace HV := Lib.hid (HV.out.below hb10)
 replace HD := Lib.hid (HD.out.below hb10)
 have hbw10 := bthen hbw9 hb10
 have hvo := specValueOf_any w10 HT.out HG.out
 rw [HVG.out.1, HVG.out.2] at hvo
 refine (hvo).mono ?_
 rintro e w11 ⟨cs, rfl, hf, hb11⟩
 obtain ⟨ua, uc, rfl⟩ := fr_pair hf
 have HU := Lib.hid hf.rd
 clear hf hvo
 have hz11 := hb11.size
 replace t0 := (cellB hb11 (by omega)).trans t0
 replace t1 := (cellB hb11 (by omega)).trans t1
 replace f0 := (cellB hb11 (by omega)).trans f0
 replace f1 := (cellB hb11 (by omega)).trans f1
 replace f2 := (cellB hb11 (by omega)).trans f2
 replace g0 := (cellB hb11 (by omega)).trans g0
 replace g1 := (cellB hb11 (by omega)).trans g1
 replace g2 := (cellB hb11 (by omega)).trans g2
 replace v0 := (cellB hb11 (by omega)).trans v0
 replace v1 := (cellB hb11 (by omega)).trans v1
 replace d0 := (cellB hb11 (by omega)).trans d0
 replace d1 := (cellB hb11 (by omega)).trans d1
 replace H0 := Lib.hid (H0.out.below hb11)
 replace H1 := Lib.hid (H1.out.below hb11)
 replace HP := Lib.hid (HP.out.below hb11)
 replace HT := Lib.hid (HT.out.below hb11)
 replace HF := Lib.hid (HF.out.below hb11)
 replace HG := Lib.hid (HG.out.below hb11)
 replace HV := Lib.hid (HV.out.below hb11)
 replace HD := Lib.hid (HD.out.below hb11)
 have hbw11 := bthen hbw10 hb11
 have ta_v0 : ∀ o : Obj, (World.alloc w11 o).cell? ⟨w7.heap.size, 0, none⟩ = some (.int .i64 V.1) := fun o => (cellB bA (by omega)).trans v0
 have ta_v1 : ∀ o : Obj, (World.alloc w11 o).cell? ⟨w7.heap.size, 1, none⟩ = some (.slice va V.2.length vc) := fun o => (cellB bA (by omega)).trans v1
 have ta_d0 : ∀ o : Obj, (World.alloc w11 o).cell? ⟨w9.heap.size, 0, none⟩ = some (.int .i64 V.1) := fun o => (cellB bA (by omega)).trans d0
 have ta_d1 : ∀ o : Obj, (World.alloc w11 o).cell? ⟨w9.heap.size, 1, none⟩ = some (.slice da V.2.length dc) := fun o => (cellB bA (by omega)).trans d1
 go_wp2_with fail
 clear ta_v0 ta_v1 ta_d0 ta_d1
 generalize hW12 : World.alloc w11 _ = w12
 have hb12 : Below w11.heap.size w11 w12 := hW12 ▸ bA
 have hy12 : w11.heap.size + 1 ≤ w12.heap.size := by rw [← hW12]; simp
 have u0 : w12.cell? ⟨w11.heap.size, 0, none⟩ = some (.int .i64 U.1) := by rw [← hW12]; simp [go_sem]
 have u1 : w12.cell? ⟨w11.heap.size, 1, none⟩ = some (.slice ua U.2.length uc) := by rw [← hW12]; simp [go_sem]
 clear hW12
 have hz12 := hb12.size
 replace t0 := (cellB hb12 (by omega)).trans t0
 replace t1 := (cellB hb12 (by omega)).trans t1
 replace f0 := (cellB hb12 (by omega)).trans f0
 replace f1 := (cellB hb12 (by omega)).trans f1
 replace f2 := (cellB hb12 (by omega)).trans f2
 replace g0 := (cellB hb12 (by omega)).trans g0
 replace g1 := (cellB hb12 (by omega)).trans g1
 replace g2 := (cellB hb12 (by omega)).trans g2
 replace v0 := (cellB hb12 (by omega)).trans v0
 replace v1 := (cellB hb12 (by omega)).trans v1
 replace d0 := (cellB hb12 (by omega)).trans d0
 replace d1 := (cellB hb12 (by omega)).trans d1
 replace H0 := Lib.hid (H0.out.below hb12)
 replace H1 := Lib.hid (H1.out.below hb12)
 replace HP := Lib.hid (HP.out.below hb12)
 replace HT := Lib.hid (HT.out.below hb12)
 replace HF := Lib.hid (HF.out.below hb12)
 replace HG := Lib.hid (HG.out.below hb12)
 replace HV := Lib.hid (HV.out.below hb12)
 replace HD := Lib.hid (HD.out.below hb12)
 replace HU := Lib.hid (HU.out.below hb12)
 have hbw12 := bthen hbw11 hb12
 refine (specSameRel_any w12 (x := V) (y := V) HV.out HD.out).mono ?_
 rintro e w13 ⟨rfl, hb13⟩
 rw [show eqB V V = true from eqB_true rfl]
 have hz13 := hb13.size
 replace t0 := (cellB hb13 (by omega)).trans t0
 replace t1 := (cellB hb13 (by omega)).trans t1
 replace f0 := (cellB hb13 (by omega)).trans f0
 replace f1 := (cellB hb13 (by omega)).trans f1
 replace f2 := (cellB hb13 (by omega)).trans f2
 replace g0 := (cellB hb13 (by omega)).trans g0
 replace g1 := (cellB hb13 (by omega)).trans g1
 replace g2 := (cellB hb13 (by omega)).trans g2
 replace v0 := (cellB hb13 (by omega)).trans v0
 replace v1 := (cellB hb13 (by omega)).trans v1
 replace d0 := (cellB hb13 (by omega)).trans d0
 replace d1 := (cellB hb13 (by omega)).trans d1
 replace u0 := (cellB hb13 (by omega)).trans u0
 replace u1 := (cellB hb13 (by omega)).trans u1
 replace H0 := Lib.hid (H0.out.below hb13)
 replace H1 := Lib.hid (H1.out.below hb13)
 replace HP := Lib.hid (HP.out.below hb13)
 replace HT := Lib.hid (HT.out.below hb13)
 replace HF := Lib.hid (HF.out.below hb13)
 replace HG := Lib.hid (HG.out.below hb13)
 replace HV := Lib.hid (HV.out.below hb13)
 replace HD := Lib.hid (HD.out.below hb13)
 replace HU := Lib.hid (HU.out.below hb13)
 have hbw13 := bthen hbw12 hb13
 clear v0 v1
 clear HV
 go_wp2_with fail
 refine (ValidFormula_any w13 HT.out HF.out).mono ?_
 rintro e w14 ⟨rfl, hb14⟩
 rw [tb_true HFOK.out]
 have hz14 := hb14.size
 replace t0 := (cellB hb14 (by omega)).trans t0
 replace t1 := (cellB hb14 (by omega)).trans t1
 replace f0 := (cellB hb14 (by omega)).trans f0
 replace f1 := (cellB hb14 (by omega)).trans f1
 replace f2 := (cellB hb14 (by omega)).trans f2
 replace g0 := (cellB hb14 (by omega)).trans g0
 replace g1 := (cellB hb14 (by omega)).trans g1
 replace g2 := (cellB hb14 (by omega)).trans g2
 replace d0 := (cellB hb14 (by omega)).trans d0
 replace d1 := (cellB hb14 (by omega)).trans d1
 replace u0 := (cellB hb14 (by omega)).trans u0
 replace u1 := (cellB hb14 (by omega)).trans u1
 replace H0 := Lib.hid (H0.out.below hb14)
 replace H1 := Lib.hid (H1.out.below hb14)
 replace HP := Lib.hid (HP.out.below hb14)
 replace HT := Lib.hid (HT.out.below hb14)
 replace HF := Lib.hid (HF.out.below hb14)
 replace HG := Lib.hid (HG.out.below hb14)
 replace HD := Lib.hid (HD.out.below hb14)
 replace HU := Lib.hid (HU.out.below hb14)
 have hbw14 := bthen hbw13 hb14
 go_wp2_with fail
 refine (FormulaText_any w14 HF.out).mono ?_
 rintro e w15 ⟨rfl, hb15⟩
 have hz15 := hb15.size
 replace t0 := (cellB hb15 (by omega)).trans t0
 replace t1 := (cellB hb15 (by omega)).trans t1
 replace f0 := (cellB hb15 (by omega)).trans f0
 replace f1 := (cellB hb15 (by omega)).trans f1
 replace f2 := (cellB hb15 (by omega)).trans f2
 replace g0 := (cellB hb15 (by omega)).trans g0
 replace g1 := (cellB hb15 (by omega)).trans g1
 replace g2 := (cellB hb15 (by omega)).trans g2
 replace d0 := (cellB hb15 (by omega)).trans d0
 replace d1 := (cellB hb15 (by omega)).trans d1
 replace u0 := (cellB hb15 (by omega)).trans u0
 replace u1 := (cellB hb15 (by omega)).trans u1
 replace H0 := Lib.hid (H0.out.below hb15)
 replace H1 := Lib.hid (H1.out.below hb15)
 replace HP := Lib.hid (HP.out.below hb15)
 replace HT := Lib.hid (HT.out.below hb15)
 replace HF := Lib.hid (HF.out.below hb15)
 replace HG := Lib.hid (HG.out.below hb15)
 replace HD := Lib.hid (HD.out.below hb15)
 replace HU := Lib.hid (HU.out.below hb15)
 have hbw15 := bthen hbw14 hb15
 go_wp2_with fail
 have hrf := ReadFormula_any w15 HP.out (t := ftV f)
 rw [HRB.out.1, HRB.out.2] at hrf
 refine (hrf).mono ?_
 rintro e w16 ⟨cs, rfl, hf, hb16⟩
 obtain ⟨ea, ec, rfl⟩ := fr_trip hf
 have HE := Lib.hid hf.rd
 clear hf hrf
 have hz16 := hb16.size
 replace t0 := (cellB hb16 (by omega)).trans t0
 replace t1 := (cellB hb16 (by omega)).trans t1
 replace f0 := (cellB hb16 (by omega)).trans f0
 replace f1 := (cellB hb16 (by omega)).trans f1
 replace f2 := (cellB hb16 (by omega)).trans f2
 replace g0 := (cellB hb16 (by omega)).trans g0
 replace g1 := (cellB hb16 (by omega)).trans g1
 replace g2 := (cellB hb16 (by omega)).trans g2
 replace d0 := (cellB hb16 (by omega)).trans d0
 replace d1 := (cellB hb16 (by omega)).trans d1
 replace u0 := (cellB hb16 (by omega)).trans u0
 replace u1 := (cellB hb16 (by omega)).trans u1
 replace H0 := Lib.hid (H0.out.below hb16)
 replace H1 := Lib.hid (H1.out.below hb16)
 replace HP := Lib.hid (HP.out.below hb16)
 replace HT := Lib.hid (HT.out.below hb16)
 replace HF := Lib.hid (HF.out.below hb16)
 replace HG := Lib.hid (HG.out.below hb16)
 replace HD := Lib.hid (HD.out.below hb16)
 replace HU := Lib.hid (HU.out.below hb16)
 have hbw16 := bthen hbw15 hb16
 clear HP
 have ta_t0 : ∀ o : Obj, (World.alloc w16 o).cell? ⟨w2.heap.size, 0, none⟩ = some (.int .i64 t.1) := fun o => (cellB bA (by omega)).trans t0
 have ta_t1 : ∀ o : Obj, (World.alloc w16 o).cell? ⟨w2.heap.size, 1, none⟩ = some (.slice ta t.2.length tc) := fun o => (cellB bA (by omega)).trans t1
 have ta_f0 : ∀ o : Obj, (World.alloc w16 o).cell? ⟨w4.heap.size, 0, none⟩ = some (.int .i64 f.1) := fun o => (cellB bA (by omega)).trans f0
 have ta_f1 : ∀ o : Obj, (World.alloc w16 o).cell? ⟨w4.heap.size, 1, none⟩ = some (.int .i64 f.2.1) := fun o => (cellB bA (by omega)).trans f1
 have ta_f2 : ∀ o : Obj, (World.alloc w16 o).cell? ⟨w4.heap.size, 2, none⟩ = some (.slice fa f.2.2.length fc) := fun o => (cellB bA (by omega)).trans f2
 have ta_g0 : ∀ o : Obj, (World.alloc w16 o).cell? ⟨bb, 0, none⟩ = some (.int .i64 g.1) := fun o => (cellB bA (by omega)).trans g0
 have ta_g1 : ∀ o : Obj, (World.alloc w16 o).cell? ⟨bb, 1, none⟩ = some (.int .i64 g.2.1) := fun o => (cellB bA (by omega)).trans g1
 have ta_g2 : ∀ o : Obj, (World.alloc w16 o).cell? ⟨bb, 2, none⟩ = some (.slice ga g.2.2.length gc) := fun o => (cellB bA (by omega)).trans g2
 go_wp2_with fail
 clear ta_t0 ta_t1 ta_f0 ta_f1 ta_f2 ta_g0 ta_g1 ta_g2
 generalize hW17 : World.alloc w16 _ = w17
 have hb17 : Below w16.heap.size w16 w17 := hW17 ▸ bA
 have hy17 : w16.heap.size + 1 ≤ w17.heap.size := by rw [← hW17]; simp
 have e0 : w17.cell? ⟨w16.heap.size, 0, none⟩ = some (.int .i64 f.1) := by rw [← hW17]; simp [go_sem]
 have e1 : w17.cell? ⟨w16.heap.size, 1, none⟩ = some (.int .i64 f.2.1) := by rw [← hW17]; simp [go_sem]
 have e2 : w17.cell? ⟨w16.heap.size, 2, none⟩ = some (.slice ea f.2.2.length ec) := by rw [← hW17]; simp [go_sem]
 clear hW17
 have hz17 := hb17.size
 replace t0 := (cellB hb17 (by omega)).trans t0
 replace t1 := (cellB hb17 (by omega)).trans t1
 replace f0 := (cellB hb17 (by omega)).trans f0
 replace f1 := (cellB hb17 (by omega)).trans f1
 replace f2 := (cellB hb17 (by omega)).trans f2
 replace g0 := (cellB hb17 (by omega)).trans g0
 replace g1 := (cellB hb17 (by omega)).trans g1
 replace g2 := (cellB hb17 (by omega)).trans g2
 replace d0 := (cellB hb17 (by omega)).trans d0
 replace d1 := (cellB hb17 (by omega)).trans d1
 replace u0 := (cellB hb17 (by omega)).trans u0
 replace u1 := (cellB hb17 (by omega)).trans u1
 replace H0 := Lib.hid (H0.out.below hb17)
 replace H1 := Lib.hid (H1.out.below hb17)
 replace HT := Lib.hid (HT.out.below hb17)
 replace HF := Lib.hid (HF.out.below hb17)
 replace HG := Lib.hid (HG.out.below hb17)
 replace HD := Lib.hid (HD.out.below hb17)
 replace HU := Lib.hid (HU.out.below hb17)
 replace HE := Lib.hid (HE.out.below hb17)
 have hbw17 := bthen hbw16 hb17
 have hcj := ConjoinFormulas_any w17 HT.out HF.out HG.out
 generalize conjV t f g = B at hcj HCJ
 generalize conjC t f g = C at hcj HCJ
 refine (hcj).mono ?_
 rintro e w18 ⟨cs, rfl, hf, hb18⟩
 obtain ⟨ba, bc, rfl⟩ := fr_trip hf
 have HB := Lib.hid hf.rd
 clear hf hcj
 have hz18 := hb18.size
 replace t0 := (cellB hb18 (by omega)).trans t0
 replace t1 := (cellB hb18 (by omega)).trans t1
 replace f0 := (cellB hb18 (by omega)).trans f0
 replace f1 := (cellB hb18 (by omega)).trans f1
 replace f2 := (cellB hb18 (by omega)).trans f2
 replace g0 := (cellB hb18 (by omega)).trans g0
 replace g1 := (cellB hb18 (by omega)).trans g1
 replace g2 := (cellB hb18 (by omega)).trans g2
 replace d0 := (cellB hb18 (by omega)).trans d0
 replace d1 := (cellB hb18 (by omega)).trans d1
 replace u0 := (cellB hb18 (by omega)).trans u0
 replace u1 := (cellB hb18 (by omega)).trans u1
 replace e0 := (cellB hb18 (by omega)).trans e0
 replace e1 := (cellB hb18 (by omega)).trans e1
 replace e2 := (cellB hb18 (by omega)).trans e2
 replace H0 := Lib.hid (H0.out.below hb18)
 replace H1 := Lib.hid (H1.out.below hb18)
 replace HT := Lib.hid (HT.out.below hb18)
 replace HF := Lib.hid (HF.out.below hb18)
 replace HG := Lib.hid (HG.out.below hb18)
 replace HD := Lib.hid (HD.out.below hb18)
 replace HU := Lib.hid (HU.out.below hb18)
 replace HE := Lib.hid (HE.out.below hb18)
 have hbw18 := bthen hbw17 hb18
 have ta_d0 : ∀ o : Obj, (World.alloc w18 o).cell? ⟨w9.heap.size, 0, none⟩ = some (.int .i64 V.1) := fun o => (cellB bA (by omega)).trans d0
 have ta_d1 : ∀ o : Obj, (World.alloc w18 o).cell? ⟨w9.heap.size, 1, none⟩ = some (.slice da V.2.length dc) := fun o => (cellB bA (by omega)).trans d1
 have ta_u0 : ∀ o : Obj, (World.alloc w18 o).cell? ⟨w11.heap.size, 0, none⟩ = some (.int .i64 U.1) := fun o => (cellB bA (by omega)).trans u0
 have ta_u1 : ∀ o : Obj, (World.alloc w18 o).cell? ⟨w11.heap.size, 1, none⟩ = some (.slice ua U.2.length uc) := fun o => (cellB bA (by omega)).trans u1
 go_wp2_with fail
 clear ta_d0 ta_d1 ta_u0 ta_u1
 generalize hW19 : World.alloc w18 _ = w19
 have hb19 : Below w18.heap.size w18 w19 := hW19 ▸ bA
 have hy19 : w18.heap.size + 1 ≤ w19.heap.size := by rw [← hW19]; simp
 have b0 : w19.cell? ⟨w18.heap.size, 0, none⟩ = some (.int .i64 B.1) := by rw [← hW19]; simp [go_sem]
 have b1 : w19.cell? ⟨w18.heap.size, 1, none⟩ = some (.int .i64 B.2.1) := by rw [← hW19]; simp [go_sem]
 have b2 : w19.cell? ⟨w18.heap.size, 2, none⟩ = some (.slice ba B.2.2.length bc) := by rw [← hW19]; simp [go_sem]
 clear hW19
 have hz19 := hb19.size
 replace t0 := (cellB hb19 (by omega)).trans t0
 replace t1 := (cellB hb19 (by omega)).trans t1
 replace f0 := (cellB hb19 (by omega)).trans f0
 replace f1 := (cellB hb19 (by omega)).trans f1
 replace f2 := (cellB hb19 (by omega)).trans f2
 replace g0 := (cellB hb19 (by omega)).trans g0
 replace g1 := (cellB hb19 (by omega)).trans g1
 replace g2 := (cellB hb19 (by omega)).trans g2
 replace d0 := (cellB hb19 (by omega)).trans d0
 replace d1 := (cellB hb19 (by omega)).trans d1
 replace u0 := (cellB hb19 (by omega)).trans u0
 replace u1 := (cellB hb19 (by omega)).trans u1
 replace e0 := (cellB hb19 (by omega)).trans e0
 replace e1 := (cellB hb19 (by omega)).trans e1
 replace e2 := (cellB hb19 (by omega)).trans e2
 replace H0 := Lib.hid (H0.out.below hb19)
 replace H1 := Lib.hid (H1.out.below hb19)
 replace HT := Lib.hid (HT.out.below hb19)
 replace HF := Lib.hid (HF.out.below hb19)
 replace HG := Lib.hid (HG.out.below hb19)
 replace HD := Lib.hid (HD.out.below hb19)
 replace HU := Lib.hid (HU.out.below hb19)
 replace HE := Lib.hid (HE.out.below hb19)
 replace HB := Lib.hid (HB.out.below hb19)
 have hbw19 := bthen hbw18 hb19
 have hmr := MeetRels_any w19 HD.out HU.out HVO.out HUO.out HVU.out
 generalize meetR V U = M at hmr HCJ
 refine (hmr).mono ?_
 rintro e w20 ⟨cs, rfl, hf, hb20⟩
 obtain ⟨ma, mc, rfl⟩ := fr_pair hf
 have HM := Lib.hid hf.rd
 clear hf hmr
 have hz20 := hb20.size
 replace t0 := (cellB hb20 (by omega)).trans t0
 replace t1 := (cellB hb20 (by omega)).trans t1
 replace f0 := (cellB hb20 (by omega)).trans f0
 replace f1 := (cellB hb20 (by omega)).trans f1
 replace f2 := (cellB hb20 (by omega)).trans f2
 replace g0 := (cellB hb20 (by omega)).trans g0
 replace g1 := (cellB hb20 (by omega)).trans g1
 replace g2 := (cellB hb20 (by omega)).trans g2
 replace d0 := (cellB hb20 (by omega)).trans d0
 replace d1 := (cellB hb20 (by omega)).trans d1
 replace u0 := (cellB hb20 (by omega)).trans u0
 replace u1 := (cellB hb20 (by omega)).trans u1
 replace e0 := (cellB hb20 (by omega)).trans e0
 replace e1 := (cellB hb20 (by omega)).trans e1
 replace e2 := (cellB hb20 (by omega)).trans e2
 replace b0 := (cellB hb20 (by omega)).trans b0
 replace b1 := (cellB hb20 (by omega)).trans b1
 replace b2 := (cellB hb20 (by omega)).trans b2
 replace H0 := Lib.hid (H0.out.below hb20)
 replace H1 := Lib.hid (H1.out.below hb20)
 replace HT := Lib.hid (HT.out.below hb20)
 replace HF := Lib.hid (HF.out.below hb20)
 replace HG := Lib.hid (HG.out.below hb20)
 replace HD := Lib.hid (HD.out.below hb20)
 replace HU := Lib.hid (HU.out.below hb20)
 replace HE := Lib.hid (HE.out.below hb20)
 replace HB := Lib.hid (HB.out.below hb20)
 have hbw20 := bthen hbw19 hb20
 go_upto_region 15 with fail
 generalize hW21 : World.alloc w20 _ = w21
 have hb21 : Below w20.heap.size w20 w21 := hW21 ▸ bA
 have hy21 : w20.heap.size + 1 ≤ w21.heap.size := by rw [← hW21]; simp
 have m0 : w21.cell? ⟨w20.heap.size, 0, none⟩ = some (.int .i64 M.1) := by rw [← hW21]; simp [go_sem]
 have m1 : w21.cell? ⟨w20.heap.size, 1, none⟩ = some (.slice ma M.2.length mc) := by rw [← hW21]; simp [go_sem]
 clear hW21
 have hz21 := hb21.size
 replace t0 := (cellB hb21 (by omega)).trans t0
 replace t1 := (cellB hb21 (by omega)).trans t1
 replace f0 := (cellB hb21 (by omega)).trans f0
 replace f1 := (cellB hb21 (by omega)).trans f1
 replace f2 := (cellB hb21 (by omega)).trans f2
 replace g0 := (cellB hb21 (by omega)).trans g0
 replace g1 := (cellB hb21 (by omega)).trans g1
 replace g2 := (cellB hb21 (by omega)).trans g2
 replace d0 := (cellB hb21 (by omega)).trans d0
 replace d1 := (cellB hb21 (by omega)).trans d1
 replace u0 := (cellB hb21 (by omega)).trans u0
 replace u1 := (cellB hb21 (by omega)).trans u1
 replace e0 := (cellB hb21 (by omega)).trans e0
 replace e1 := (cellB hb21 (by omega)).trans e1
 replace e2 := (cellB hb21 (by omega)).trans e2
 replace b0 := (cellB hb21 (by omega)).trans b0
 replace b1 := (cellB hb21 (by omega)).trans b1
 replace b2 := (cellB hb21 (by omega)).trans b2
 replace H0 := Lib.hid (H0.out.below hb21)
 replace H1 := Lib.hid (H1.out.below hb21)
 replace HT := Lib.hid (HT.out.below hb21)
 replace HF := Lib.hid (HF.out.below hb21)
 replace HG := Lib.hid (HG.out.below hb21)
 replace HD := Lib.hid (HD.out.below hb21)
 replace HU := Lib.hid (HU.out.below hb21)
 replace HE := Lib.hid (HE.out.below hb21)
 replace HB := Lib.hid (HB.out.below hb21)
 replace HM := Lib.hid (HM.out.below hb21)
 have hbw21 := bthen hbw20 hb21
 go_cut [161] from 21 (fun v wx => v = .bool false ∧ Below w21.heap.size w21 wx)
 case first =>
  as_aux_lemma =>
   rcases HCJ.out with ⟨hc, -, -⟩ | hc
   ·subst hc
    clear HCJ
    go_wp2_with fail
    refine (specSameFormula_any w21 (x := f) (y := f) HE.out HF.out).mono ?_
    rintro e w22 ⟨rfl, hb22⟩
    rw [show eqB f f = true from eqB_true rfl]
    have hz22 := hb22.size
    replace t0 := (cellB hb22 (by omega)).trans t0
    replace t1 := (cellB hb22 (by omega)).trans t1
    replace f0 := (cellB hb22 (by omega)).trans f0
    replace f1 := (cellB hb22 (by omega)).trans f1
    replace f2 := (cellB hb22 (by omega)).trans f2
    replace g0 := (cellB hb22 (by omega)).trans g0
    replace g1 := (cellB hb22 (by omega)).trans g1
    replace g2 := (cellB hb22 (by omega)).trans g2
    replace d0 := (cellB hb22 (by omega)).trans d0
    replace d1 := (cellB hb22 (by omega)).trans d1
    replace u0 := (cellB hb22 (by omega)).trans u0
    replace u1 := (cellB hb22 (by omega)).trans u1
    replace e0 := (cellB hb22 (by omega)).trans e0
    replace e1 := (cellB hb22 (by omega)).trans e1
    replace e2 := (cellB hb22 (by omega)).trans e2
    replace b0 := (cellB hb22 (by omega)).trans b0
    replace b1 := (cellB hb22 (by omega)).trans b1
    replace b2 := (cellB hb22 (by omega)).trans b2
    replace m0 := (cellB hb22 (by omega)).trans m0
    replace m1 := (cellB hb22 (by omega)).trans m1
    replace H0 := Lib.hid (H0.out.below hb22)
    replace H1 := Lib.hid (H1.out.below hb22)
    replace HT := Lib.hid (HT.out.below hb22)
    replace HF := Lib.hid (HF.out.below hb22)
    replace HG := Lib.hid (HG.out.below hb22)
    replace HD := Lib.hid (HD.out.below hb22)
    replace HU := Lib.hid (HU.out.below hb22)
    replace HE := Lib.hid (HE.out.below hb22)
    replace HB := Lib.hid (HB.out.below hb22)
    replace HM := Lib.hid (HM.out.below hb22)
    have hbw22 := bthen hbw21 hb22
    go_wp2_with fail
    refine (sameFormula_any w22 (x := f) (y := f) HE.out HF.out).mono ?_
    rintro e w23 ⟨rfl, hb23⟩
    rw [show eqB f f = true from eqB_true rfl]
    have hz23 := hb23.size
    replace t0 := (cellB hb23 (by omega)).trans t0
    replace t1 := (cellB hb23 (by omega)).trans t1
    replace f0 := (cellB hb23 (by omega)).trans f0
    replace f1 := (cellB hb23 (by omega)).trans f1
    replace f2 := (cellB hb23 (by omega)).trans f2
    replace g0 := (cellB hb23 (by omega)).trans g0
    replace g1 := (cellB hb23 (by omega)).trans g1
    replace g2 := (cellB hb23 (by omega)).trans g2
    replace d0 := (cellB hb23 (by omega)).trans d0
    replace d1 := (cellB hb23 (by omega)).trans d1
    replace u0 := (cellB hb23 (by omega)).trans u0
    replace u1 := (cellB hb23 (by omega)).trans u1
    replace e0 := (cellB hb23 (by omega)).trans e0
    replace e1 := (cellB hb23 (by omega)).trans e1
    replace e2 := (cellB hb23 (by omega)).trans e2
    replace b0 := (cellB hb23 (by omega)).trans b0
    replace b1 := (cellB hb23 (by omega)).trans b1
    replace b2 := (cellB hb23 (by omega)).trans b2
    replace m0 := (cellB hb23 (by omega)).trans m0
    replace m1 := (cellB hb23 (by omega)).trans m1
    replace H0 := Lib.hid (H0.out.below hb23)
    replace H1 := Lib.hid (H1.out.below hb23)
    replace HT := Lib.hid (HT.out.below hb23)
    replace HF := Lib.hid (HF.out.below hb23)
    replace HG := Lib.hid (HG.out.below hb23)
    replace HD := Lib.hid (HD.out.below hb23)
    replace HU := Lib.hid (HU.out.below hb23)
    replace HE := Lib.hid (HE.out.below hb23)
    replace HB := Lib.hid (HB.out.below hb23)
    replace HM := Lib.hid (HM.out.below hb23)
    have hbw23 := bthen hbw22 hb23
    go_wp2_with fail
    go_meet
    case rel => exact ⟨rfl, bthen (hb22) hb23⟩
   ·subst hc
    clear HCJ
    go_wp2_with fail
    refine (specSameFormula_any w21 (x := f) (y := f) HE.out HF.out).mono ?_
    rintro e w22 ⟨rfl, hb22⟩
    rw [show eqB f f = true from eqB_true rfl]
    have hz22 := hb22.size
    replace t0 := (cellB hb22 (by omega)).trans t0
    replace t1 := (cellB hb22 (by omega)).trans t1
    replace f0 := (cellB hb22 (by omega)).trans f0
    replace f1 := (cellB hb22 (by omega)).trans f1
    replace f2 := (cellB hb22 (by omega)).trans f2
    replace g0 := (cellB hb22 (by omega)).trans g0
    replace g1 := (cellB hb22 (by omega)).trans g1
    replace g2 := (cellB hb22 (by omega)).trans g2
    replace d0 := (cellB hb22 (by omega)).trans d0
    replace d1 := (cellB hb22 (by omega)).trans d1
    replace u0 := (cellB hb22 (by omega)).trans u0
    replace u1 := (cellB hb22 (by omega)).trans u1
    replace e0 := (cellB hb22 (by omega)).trans e0
    replace e1 := (cellB hb22 (by omega)).trans e1
    replace e2 := (cellB hb22 (by omega)).trans e2
    replace b0 := (cellB hb22 (by omega)).trans b0
    replace b1 := (cellB hb22 (by omega)).trans b1
    replace b2 := (cellB hb22 (by omega)).trans b2
    replace m0 := (cellB hb22 (by omega)).trans m0
    replace m1 := (cellB hb22 (by omega)).trans m1
    replace H0 := Lib.hid (H0.out.below hb22)
    replace H1 := Lib.hid (H1.out.below hb22)
    replace HT := Lib.hid (HT.out.below hb22)
    replace HF := Lib.hid (HF.out.below hb22)
    replace HG := Lib.hid (HG.out.below hb22)
    replace HD := Lib.hid (HD.out.below hb22)
    replace HU := Lib.hid (HU.out.below hb22)
    replace HE := Lib.hid (HE.out.below hb22)
    replace HB := Lib.hid (HB.out.below hb22)
    replace HM := Lib.hid (HM.out.below hb22)
    have hbw22 := bthen hbw21 hb22
    go_wp2_with fail
    refine (sameFormula_any w22 (x := f) (y := f) HE.out HF.out).mono ?_
    rintro e w23 ⟨rfl, hb23⟩
    rw [show eqB f f = true from eqB_true rfl]
    have hz23 := hb23.size
    replace t0 := (cellB hb23 (by omega)).trans t0
    replace t1 := (cellB hb23 (by omega)).trans t1
    replace f0 := (cellB hb23 (by omega)).trans f0
    replace f1 := (cellB hb23 (by omega)).trans f1
    replace f2 := (cellB hb23 (by omega)).trans f2
    replace g0 := (cellB hb23 (by omega)).trans g0
    replace g1 := (cellB hb23 (by omega)).trans g1
    replace g2 := (cellB hb23 (by omega)).trans g2
    replace d0 := (cellB hb23 (by omega)).trans d0
    replace d1 := (cellB hb23 (by omega)).trans d1
    replace u0 := (cellB hb23 (by omega)).trans u0
    replace u1 := (cellB hb23 (by omega)).trans u1
    replace e0 := (cellB hb23 (by omega)).trans e0
    replace e1 := (cellB hb23 (by omega)).trans e1
    replace e2 := (cellB hb23 (by omega)).trans e2
    replace b0 := (cellB hb23 (by omega)).trans b0
    replace b1 := (cellB hb23 (by omega)).trans b1
    replace b2 := (cellB hb23 (by omega)).trans b2
    replace m0 := (cellB hb23 (by omega)).trans m0
    replace m1 := (cellB hb23 (by omega)).trans m1
    replace H0 := Lib.hid (H0.out.below hb23)
    replace H1 := Lib.hid (H1.out.below hb23)
    replace HT := Lib.hid (HT.out.below hb23)
    replace HF := Lib.hid (HF.out.below hb23)
    replace HG := Lib.hid (HG.out.below hb23)
    replace HD := Lib.hid (HD.out.below hb23)
    replace HU := Lib.hid (HU.out.below hb23)
    replace HE := Lib.hid (HE.out.below hb23)
    replace HB := Lib.hid (HB.out.below hb23)
    replace HM := Lib.hid (HM.out.below hb23)
    have hbw23 := bthen hbw22 hb23
    go_wp2_with fail
    go_meet
    case rel => exact ⟨rfl, bthen (hb22) hb23⟩
 case rest =>
  as_aux_lemma =>
   obtain ⟨rfl, hb22⟩ := hcut
   obtain ⟨w22, rfl⟩ : ∃ x : World, x = wc := ⟨_, rfl⟩
   have hz22 := hb22.size
   replace t0 := (cellB hb22 (by omega)).trans t0
   replace t1 := (cellB hb22 (by omega)).trans t1
   replace f0 := (cellB hb22 (by omega)).trans f0
   replace f1 := (cellB hb22 (by omega)).trans f1
   replace f2 := (cellB hb22 (by omega)).trans f2
   replace g0 := (cellB hb22 (by omega)).trans g0
   replace g1 := (cellB hb22 (by omega)).trans g1
   replace g2 := (cellB hb22 (by omega)).trans g2
   replace d0 := (cellB hb22 (by omega)).trans d0
   replace d1 := (cellB hb22 (by omega)).trans d1
   replace u0 := (cellB hb22 (by omega)).trans u0
   replace u1 := (cellB hb22 (by omega)).trans u1
   replace e0 := (cellB hb22 (by omega)).trans e0
   replace e1 := (cellB hb22 (by omega)).trans e1
   replace e2 := (cellB hb22 (by omega)).trans e2
   replace b0 := (cellB hb22 (by omega)).trans b0
   replace b1 := (cellB hb22 (by omega)).trans b1
   replace b2 := (cellB hb22 (by omega)).trans b2
   replace m0 := (cellB hb22 (by omega)).trans m0
   replace m1 := (cellB hb22 (by omega)).trans m1
   replace H0 := Lib.hid (H0.out.below hb22)
   replace H1 := Lib.hid (H1.out.below hb22)
   replace HT := Lib.hid (HT.out.below hb22)
   replace HF := Lib.hid (HF.out.below hb22)
   replace HG := Lib.hid (HG.out.below hb22)
   replace HD := Lib.hid (HD.out.below hb22)
   replace HU := Lib.hid (HU.out.below hb22)
   replace HE := Lib.hid (HE.out.below hb22)
   replace HB := Lib.hid (HB.out.below hb22)
   replace HM := Lib.hid (HM.out.below hb22)
   have hbw22 := bthen hbw21 hb22
   clear e0 e1 e2
   clear HE
   go_upto_if 163 with fail
   go_cut [20] from 21 (fun v wx => v = .int .i64 0 ∧ Below w22.heap.size w22 wx)
   case first =>
    as_aux_lemma =>
     rcases HCJ.out with ⟨hc, hok, hval⟩ | hc
     ·subst hc
      go_wp2_with fail
      have hvo := ValueOf_any w22 HT.out HB.out
      rw [(vo_yes (tb_true hok)).1, (vo_yes (tb_true hok)).2, hval] at hvo
      clear hok hval HCJ
      refine (hvo).mono ?_
      rintro e w23 ⟨cs, rfl, hf, hb23⟩
      obtain ⟨xa, xc, rfl⟩ := fr_pair hf
      have HX := Lib.hid hf.rd
      clear hf hvo
      have hz23 := hb23.size
      replace t0 := (cellB hb23 (by omega)).trans t0
      replace t1 := (cellB hb23 (by omega)).trans t1
      replace f0 := (cellB hb23 (by omega)).trans f0
      replace f1 := (cellB hb23 (by omega)).trans f1
      replace f2 := (cellB hb23 (by omega)).trans f2
      replace g0 := (cellB hb23 (by omega)).trans g0
      replace g1 := (cellB hb23 (by omega)).trans g1
      replace g2 := (cellB hb23 (by omega)).trans g2
      replace d0 := (cellB hb23 (by omega)).trans d0
      replace d1 := (cellB hb23 (by omega)).trans d1
      replace u0 := (cellB hb23 (by omega)).trans u0
      replace u1 := (cellB hb23 (by omega)).trans u1
      replace b0 := (cellB hb23 (by omega)).trans b0
      replace b1 := (cellB hb23 (by omega)).trans b1
      replace b2 := (cellB hb23 (by omega)).trans b2
      replace m0 := (cellB hb23 (by omega)).trans m0
      replace m1 := (cellB hb23 (by omega)).trans m1
      replace H0 := Lib.hid (H0.out.below hb23)
      replace H1 := Lib.hid (H1.out.below hb23)
      replace HT := Lib.hid (HT.out.below hb23)
      replace HF := Lib.hid (HF.out.below hb23)
      replace HG := Lib.hid (HG.out.below hb23)
      replace HD := Lib.hid (HD.out.below hb23)
      replace HU := Lib.hid (HU.out.below hb23)
      replace HB := Lib.hid (HB.out.below hb23)
      replace HM := Lib.hid (HM.out.below hb23)
      have hbw23 := bthen hbw22 hb23
      have ta_m0 : ∀ o : Obj, (World.alloc w23 o).cell? ⟨w20.heap.size, 0, none⟩ = some (.int .i64 M.1) := fun o => (cellB bA (by omega)).trans m0
      have ta_m1 : ∀ o : Obj, (World.alloc w23 o).cell? ⟨w20.heap.size, 1, none⟩ = some (.slice ma M.2.length mc) := fun o => (cellB bA (by omega)).trans m1
      go_wp2_with fail
      clear ta_m0 ta_m1
      generalize hW24 : World.alloc w23 _ = w24
      have hb24 : Below w23.heap.size w23 w24 := hW24 ▸ bA
      have hy24 : w23.heap.size + 1 ≤ w24.heap.size := by rw [← hW24]; simp
      have x0 : w24.cell? ⟨w23.heap.size, 0, none⟩ = some (.int .i64 M.1) := by rw [← hW24]; simp [go_sem]
      have x1 : w24.cell? ⟨w23.heap.size, 1, none⟩ = some (.slice xa M.2.length xc) := by rw [← hW24]; simp [go_sem]
      clear hW24
      have hz24 := hb24.size
      replace t0 := (cellB hb24 (by omega)).trans t0
      replace t1 := (cellB hb24 (by omega)).trans t1
      replace f0 := (cellB hb24 (by omega)).trans f0
      replace f1 := (cellB hb24 (by omega)).trans f1
      replace f2 := (cellB hb24 (by omega)).trans f2
      replace g0 := (cellB hb24 (by omega)).trans g0
      replace g1 := (cellB hb24 (by omega)).trans g1
      replace g2 := (cellB hb24 (by omega)).trans g2
      replace d0 := (cellB hb24 (by omega)).trans d0
      replace d1 := (cellB hb24 (by omega)).trans d1
      replace u0 := (cellB hb24 (by omega)).trans u0
      replace u1 := (cellB hb24 (by omega)).trans u1
      replace b0 := (cellB hb24 (by omega)).trans b0
      replace b1 := (cellB hb24 (by omega)).trans b1
      replace b2 := (cellB hb24 (by omega)).trans b2
      replace m0 := (cellB hb24 (by omega)).trans m0
      replace m1 := (cellB hb24 (by omega)).trans m1
      replace H0 := Lib.hid (H0.out.below hb24)
      replace H1 := Lib.hid (H1.out.below hb24)
      replace HT := Lib.hid (HT.out.below hb24)
      replace HF := Lib.hid (HF.out.below hb24)
      replace HG := Lib.hid (HG.out.below hb24)
      replace HD := Lib.hid (HD.out.below hb24)
      replace HU := Lib.hid (HU.out.below hb24)
      replace HB := Lib.hid (HB.out.below hb24)
      replace HM := Lib.hid (HM.out.below hb24)
      replace HX := Lib.hid (HX.out.below hb24)
      have hbw24 := bthen hbw23 hb24
      refine (specSameRel_any w24 (x := M) (y := M) HX.out HM.out).mono ?_
      rintro e w25 ⟨rfl, hb25⟩
      rw [show eqB M M = true from eqB_true rfl]
      have hz25 := hb25.size
      replace t0 := (cellB hb25 (by omega)).trans t0
      replace t1 := (cellB hb25 (by omega)).trans t1
      replace f0 := (cellB hb25 (by omega)).trans f0
      replace f1 := (cellB hb25 (by omega)).trans f1
      replace f2 := (cellB hb25 (by omega)).trans f2
      replace g0 := (cellB hb25 (by omega)).trans g0
      replace g1 := (cellB hb25 (by omega)).trans g1
      replace g2 := (cellB hb25 (by omega)).trans g2
      replace d0 := (cellB hb25 (by omega)).trans d0
      replace d1 := (cellB hb25 (by omega)).trans d1
      replace u0 := (cellB hb25 (by omega)).trans u0
      replace u1 := (cellB hb25 (by omega)).trans u1
      replace b0 := (cellB hb25 (by omega)).trans b0
      replace b1 := (cellB hb25 (by omega)).trans b1
      replace b2 := (cellB hb25 (by omega)).trans b2
      replace m0 := (cellB hb25 (by omega)).trans m0
      replace m1 := (cellB hb25 (by omega)).trans m1
      replace x0 := (cellB hb25 (by omega)).trans x0
      replace x1 := (cellB hb25 (by omega)).trans x1
      replace H0 := Lib.hid (H0.out.below hb25)
      replace H1 := Lib.hid (H1.out.below hb25)
      replace HT := Lib.hid (HT.out.below hb25)
      replace HF := Lib.hid (HF.out.below hb25)
      replace HG := Lib.hid (HG.out.below hb25)
      replace HD := Lib.hid (HD.out.below hb25)
      replace HU := Lib.hid (HU.out.below hb25)
      replace HB := Lib.hid (HB.out.below hb25)
      replace HM := Lib.hid (HM.out.below hb25)
      replace HX := Lib.hid (HX.out.below hb25)
      have hbw25 := bthen hbw24 hb25
      go_wp2_with fail
      go_meet
      case rel => exact ⟨rfl, bthen (bthen (hb23) hb24) hb25⟩
     ·subst hc
      clear HCJ
      go_wp2_with fail
      go_meet
      case rel => exact ⟨rfl, Below.refl _ _⟩
   case rest =>
    as_aux_lemma =>
     obtain ⟨rfl, hb23⟩ := hcut
     obtain ⟨w23, rfl⟩ : ∃ x : World, x = wc := ⟨_, rfl⟩
     have hz23 := hb23.size
     replace t0 := (cellB hb23 (by omega)).trans t0
     replace t1 := (cellB hb23 (by omega)).trans t1
     replace f0 := (cellB hb23 (by omega)).trans f0
     replace f1 := (cellB hb23 (by omega)).trans f1
     replace f2 := (cellB hb23 (by omega)).trans f2
     replace g0 := (cellB hb23 (by omega)).trans g0
     replace g1 := (cellB hb23 (by omega)).trans g1
     replace g2 := (cellB hb23 (by omega)).trans g2
     replace d0 := (cellB hb23 (by omega)).trans d0
     replace d1 := (cellB hb23 (by omega)).trans d1
     replace u0 := (cellB hb23 (by omega)).trans u0
     replace u1 := (cellB hb23 (by omega)).trans u1
     replace b0 := (cellB hb23 (by omega)).trans b0
     replace b1 := (cellB hb23 (by omega)).trans b1
     replace b2 := (cellB hb23 (by omega)).trans b2
     replace m0 := (cellB hb23 (by omega)).trans m0
     replace m1 := (cellB hb23 (by omega)).trans m1
     replace H0 := Lib.hid (H0.out.below hb23)
     replace H1 := Lib.hid (H1.out.below hb23)
     replace HT := Lib.hid (HT.out.below hb23)
     replace HF := Lib.hid (HF.out.below hb23)
     replace HG := Lib.hid (HG.out.below hb23)
     replace HD := Lib.hid (HD.out.below hb23)
     replace HU := Lib.hid (HU.out.below hb23)
     replace HB := Lib.hid (HB.out.below hb23)
     replace HM := Lib.hid (HM.out.below hb23)
     have hbw23 := bthen hbw22 hb23
     clear HCJ
     clear b0 b1 b2 m0 m1
     clear HB HM
     go_wp2_with fail
     have hhd := HideVariable_any w23 HT.out HF.out (n := 0)
     rw [HHD.out.1] at hhd
     have HHO := Lib.hid HHD.out.2.1
     have HHV := Lib.hid HHD.out.2.2
     clear HHD
     generalize hideV t f 0 = H5 at hhd HHO HHV
     refine (hhd).mono ?_
     rintro e w24 ⟨cs, rfl, hf, hb24⟩
     obtain ⟨ha, hc, rfl⟩ := fr_trip hf
     have HH := Lib.hid hf.rd
     clear hf hhd
     have hz24 := hb24.size
     replace t0 := (cellB hb24 (by omega)).trans t0
     replace t1 := (cellB hb24 (by omega)).trans t1
     replace f0 := (cellB hb24 (by omega)).trans f0
     replace f1 := (cellB hb24 (by omega)).trans f1
     replace f2 := (cellB hb24 (by omega)).trans f2
     replace g0 := (cellB hb24 (by omega)).trans g0
     replace g1 := (cellB hb24 (by omega)).trans g1
     replace g2 := (cellB hb24 (by omega)).trans g2
     replace d0 := (cellB hb24 (by omega)).trans d0
     replace d1 := (cellB hb24 (by omega)).trans d1
     replace u0 := (cellB hb24 (by omega)).trans u0
     replace u1 := (cellB hb24 (by omega)).trans u1
     replace H0 := Lib.hid (H0.out.below hb24)
     replace H1 := Lib.hid (H1.out.below hb24)
     replace HT := Lib.hid (HT.out.below hb24)
     replace HF := Lib.hid (HF.out.below hb24)
     replace HG := Lib.hid (HG.out.below hb24)
     replace HD := Lib.hid (HD.out.below hb24)
     replace HU := Lib.hid (HU.out.below hb24)
     have hbw24 := bthen hbw23 hb24
     have ta_t0 : ∀ o : Obj, (World.alloc w24 o).cell? ⟨w2.heap.size, 0, none⟩ = some (.int .i64 t.1) := fun o => (cellB bA (by omega)).trans t0
     have ta_t1 : ∀ o : Obj, (World.alloc w24 o).cell? ⟨w2.heap.size, 1, none⟩ = some (.slice ta t.2.length tc) := fun o => (cellB bA (by omega)).trans t1
     go_wp2_with fail
     clear ta_t0 ta_t1
     generalize hW25 : World.alloc w24 _ = w25
     have hb25 : Below w24.heap.size w24 w25 := hW25 ▸ bA
     have hy25 : w24.heap.size + 1 ≤ w25.heap.size := by rw [← hW25]; simp
     have h0 : w25.cell? ⟨w24.heap.size, 0, none⟩ = some (.int .i64 H5.1) := by rw [← hW25]; simp [go_sem]
     have h1 : w25.cell? ⟨w24.heap.size, 1, none⟩ = some (.int .i64 H5.2.1) := by rw [← hW25]; simp [go_sem]
     have h2 : w25.cell? ⟨w24.heap.size, 2, none⟩ = some (.slice ha H5.2.2.length hc) := by rw [← hW25]; simp [go_sem]
     clear hW25
     have hz25 := hb25.size
     replace t0 := (cellB hb25 (by omega)).trans t0
     replace t1 := (cellB hb25 (by omega)).trans t1
     replace f0 := (cellB hb25 (by omega)).trans f0
     replace f1 := (cellB hb25 (by omega)).trans f1
     replace f2 := (cellB hb25 (by omega)).trans f2
     replace g0 := (cellB hb25 (by omega)).trans g0
     replace g1 := (cellB hb25 (by omega)).trans g1
     replace g2 := (cellB hb25 (by omega)).trans g2
     replace d0 := (cellB hb25 (by omega)).trans d0
     replace d1 := (cellB hb25 (by omega)).trans d1
     replace u0 := (cellB hb25 (by omega)).trans u0
     replace u1 := (cellB hb25 (by omega)).trans u1
     replace H0 := Lib.hid (H0.out.below hb25)
     replace H1 := Lib.hid (H1.out.below hb25)
     replace HT := Lib.hid (HT.out.below hb25)
     replace HF := Lib.hid (HF.out.below hb25)
     replace HG := Lib.hid (HG.out.below hb25)
     replace HD := Lib.hid (HD.out.below hb25)
     replace HU := Lib.hid (HU.out.below hb25)
     replace HH := Lib.hid (HH.out.below hb25)
     have hbw25 := bthen hbw24 hb25
     have hvo := ValueOf_any w25 HT.out HH.out
     rw [(vo_yes (tb_true HHO.out)).1, (vo_yes (tb_true HHO.out)).2, HHV.out] at hvo
     obtain ⟨Q, hQ⟩ : ∃ Q, projR t.1 V [1] = Q := ⟨_, rfl⟩
     have HQ := Lib.hid hQ
     rw [hQ] at hvo
     clear HHO HHV hQ
     refine (hvo).mono ?_
     rintro e w26 ⟨cs, rfl, hf, hb26⟩
     obtain ⟨ya, yc, rfl⟩ := fr_pair hf
     have HY := Lib.hid hf.rd
     clear hf hvo
     have hz26 := hb26.size
     replace t0 := (cellB hb26 (by omega)).trans t0
     replace t1 := (cellB hb26 (by omega)).trans t1
     replace f0 := (cellB hb26 (by omega)).trans f0
     replace f1 := (cellB hb26 (by omega)).trans f1
     replace f2 := (cellB hb26 (by omega)).trans f2
     replace g0 := (cellB hb26 (by omega)).trans g0
     replace g1 := (cellB hb26 (by omega)).trans g1
     replace g2 := (cellB hb26 (by omega)).trans g2
     replace d0 := (cellB hb26 (by omega)).trans d0
     replace d1 := (cellB hb26 (by omega)).trans d1
     replace u0 := (cellB hb26 (by omega)).trans u0
     replace u1 := (cellB hb26 (by omega)).trans u1
     replace h0 := (cellB hb26 (by omega)).trans h0
     replace h1 := (cellB hb26 (by omega)).trans h1
     replace h2 := (cellB hb26 (by omega)).trans h2
     replace H0 := Lib.hid (H0.out.below hb26)
     replace H1 := Lib.hid (H1.out.below hb26)
     replace HT := Lib.hid (HT.out.below hb26)
     replace HF := Lib.hid (HF.out.below hb26)
     replace HG := Lib.hid (HG.out.below hb26)
     replace HD := Lib.hid (HD.out.below hb26)
     replace HU := Lib.hid (HU.out.below hb26)
     replace HH := Lib.hid (HH.out.below hb26)
     have hbw26 := bthen hbw25 hb26
     clear h0 h1 h2
     clear HH
     have ta_d0 : ∀ o : Obj, (World.alloc w26 o).cell? ⟨w9.heap.size, 0, none⟩ = some (.int .i64 V.1) := fun o => (cellB bA (by omega)).trans d0
     have ta_d1 : ∀ o : Obj, (World.alloc w26 o).cell? ⟨w9.heap.size, 1, none⟩ = some (.slice da V.2.length dc) := fun o => (cellB bA (by omega)).trans d1
     have tb_d0 : ∀ o o2 : Obj, ((World.alloc w26 o).alloc o2).cell? ⟨w9.heap.size, 0, none⟩ = some (.int .i64 V.1) := fun o o2 => (cellB bA (by simp; omega)).trans (ta_d0 o)
     have tb_d1 : ∀ o o2 : Obj, ((World.alloc w26 o).alloc o2).cell? ⟨w9.heap.size, 1, none⟩ = some (.slice da V.2.length dc) := fun o o2 => (cellB bA (by simp; omega)).trans (ta_d1 o)
     go_wp2_with fail
     clear ta_d0 ta_d1 tb_d0 tb_d1
     generalize hW27 : World.alloc (World.alloc w26 _) _ = w27
     have hb27 : Below w26.heap.size w26 w27 := by rw [← hW27]; exact bAA
     have hy27 : w26.heap.size + 2 ≤ w27.heap.size := by rw [← hW27]; simp
     have y0 : w27.cell? ⟨w26.heap.size, 0, none⟩ = some (.int .i64 Q.1) := by rw [← hW27]; simp [go_sem]
     have y1 : w27.cell? ⟨w26.heap.size, 1, none⟩ = some (.slice ya Q.2.length yc) := by rw [← hW27]; simp [go_sem]
     have HLT : Hid (intsT.Rd w27 [.slice (some ⟨w26.heap.size + 1, 0, none⟩) 1 1] [1]) := by
      unfold Hid
      rw [← hW27]
      exact (fr_ints1 (base := 0) (I64.small (by omega) (by omega)) (by simp) (Nat.zero_le _)).rd
     clear hW27
     have hz27 := hb27.size
     replace t0 := (cellB hb27 (by omega)).trans t0
     replace t1 := (cellB hb27 (by omega)).trans t1
     replace f0 := (cellB hb27 (by omega)).trans f0
     replace f1 := (cellB hb27 (by omega)).trans f1
     replace f2 := (cellB hb27 (by omega)).trans f2
     replace g0 := (cellB hb27 (by omega)).trans g0
     replace g1 := (cellB hb27 (by omega)).trans g1
     replace g2 := (cellB hb27 (by omega)).trans g2
     replace d0 := (cellB hb27 (by omega)).trans d0
     replace d1 := (cellB hb27 (by omega)).trans d1
     replace u0 := (cellB hb27 (by omega)).trans u0
     replace u1 := (cellB hb27 (by omega)).trans u1
     replace H0 := Lib.hid (H0.out.below hb27)
     replace H1 := Lib.hid (H1.out.below hb27)
     replace HT := Lib.hid (HT.out.below hb27)
     replace HF := Lib.hid (HF.out.below hb27)
     replace HG := Lib.hid (HG.out.below hb27)
     replace HD := Lib.hid (HD.out.below hb27)
     replace HU := Lib.hid (HU.out.below hb27)
     replace HY := Lib.hid (HY.out.below hb27)
     have hbw27 := bthen hbw26 hb27
     have hpj := ProjectRel_any w27 HD.out HLT.out HVO.out (fun p hp => by rw [List.mem_singleton.1 hp, HV1.out]; omega) (by simp)
     rw [HQ.out] at hpj
     refine (hpj).mono ?_
     rintro e w28 ⟨cs, rfl, hf, hb28⟩
     obtain ⟨pa, pc, rfl⟩ := fr_pair hf
     have HPJ := Lib.hid hf.rd
     clear hf hpj
     have hz28 := hb28.size
     replace t0 := (cellB hb28 (by omega)).trans t0
     replace t1 := (cellB hb28 (by omega)).trans t1
     replace f0 := (cellB hb28 (by omega)).trans f0
     replace f1 := (cellB hb28 (by omega)).trans f1
     replace f2 := (cellB hb28 (by omega)).trans f2
     replace g0 := (cellB hb28 (by omega)).trans g0
     replace g1 := (cellB hb28 (by omega)).trans g1
     replace g2 := (cellB hb28 (by omega)).trans g2
     replace d0 := (cellB hb28 (by omega)).trans d0
     replace d1 := (cellB hb28 (by omega)).trans d1
     replace u0 := (cellB hb28 (by omega)).trans u0
     replace u1 := (cellB hb28 (by omega)).trans u1
     replace y0 := (cellB hb28 (by omega)).trans y0
     replace y1 := (cellB hb28 (by omega)).trans y1
     replace H0 := Lib.hid (H0.out.below hb28)
     replace H1 := Lib.hid (H1.out.below hb28)
     replace HT := Lib.hid (HT.out.below hb28)
     replace HF := Lib.hid (HF.out.below hb28)
     replace HG := Lib.hid (HG.out.below hb28)
     replace HD := Lib.hid (HD.out.below hb28)
     replace HU := Lib.hid (HU.out.below hb28)
     replace HY := Lib.hid (HY.out.below hb28)
     have hbw28 := bthen hbw27 hb28
     clear HLT HQ
     go_wp2_with fail
     generalize hW29 : World.alloc w28 _ = w29
     have hb29 : Below w28.heap.size w28 w29 := hW29 ▸ bA
     have hy29 : w28.heap.size + 1 ≤ w29.heap.size := by rw [← hW29]; simp
     have p0 : w29.cell? ⟨w28.heap.size, 0, none⟩ = some (.int .i64 Q.1) := by rw [← hW29]; simp [go_sem]
     have p1 : w29.cell? ⟨w28.heap.size, 1, none⟩ = some (.slice pa Q.2.length pc) := by rw [← hW29]; simp [go_sem]
     clear hW29
     have hz29 := hb29.size
     replace t0 := (cellB hb29 (by omega)).trans t0
     replace t1 := (cellB hb29 (by omega)).trans t1
     replace f0 := (cellB hb29 (by omega)).trans f0
     replace f1 := (cellB hb29 (by omega)).trans f1
     replace f2 := (cellB hb29 (by omega)).trans f2
     replace g0 := (cellB hb29 (by omega)).trans g0
     replace g1 := (cellB hb29 (by omega)).trans g1
     replace g2 := (cellB hb29 (by omega)).trans g2
     replace d0 := (cellB hb29 (by omega)).trans d0
     replace d1 := (cellB hb29 (by omega)).trans d1
     replace u0 := (cellB hb29 (by omega)).trans u0
     replace u1 := (cellB hb29 (by omega)).trans u1
     replace y0 := (cellB hb29 (by omega)).trans y0
     replace y1 := (cellB hb29 (by omega)).trans y1
     replace H0 := Lib.hid (H0.out.below hb29)
     replace H1 := Lib.hid (H1.out.below hb29)
     replace HT := Lib.hid (HT.out.below hb29)
     replace HF := Lib.hid (HF.out.below hb29)
     replace HG := Lib.hid (HG.out.below hb29)
     replace HD := Lib.hid (HD.out.below hb29)
     replace HU := Lib.hid (HU.out.below hb29)
     replace HY := Lib.hid (HY.out.below hb29)
     replace HPJ := Lib.hid (HPJ.out.below hb29)
     have hbw29 := bthen hbw28 hb29
     have hpp := P6Places_any w29 H1.out (ar := 3) (cnt := 2) (by omega) (by omega)
     rw [show ((3 : Nat) : Int) = 3 from rfl, show ((2 : Nat) : Int) = 2 from rfl] at hpp
     refine (hpp).mono ?_
     rintro e w30 ⟨u9, ps, rfl, hf, htp, hb30⟩
     obtain ⟨psa, psc, rfl⟩ := fr_slice hf
     have HPS := Lib.hid hf.rd
     have HPT := Lib.hid htp
     have HPL1 := Lib.hid (HPL.out ps htp)
     clear hf hpp htp HPL
     have hz30 := hb30.size
     replace t0 := (cellB hb30 (by omega)).trans t0
     replace t1 := (cellB hb30 (by omega)).trans t1
     replace f0 := (cellB hb30 (by omega)).trans f0
     replace f1 := (cellB hb30 (by omega)).trans f1
     replace f2 := (cellB hb30 (by omega)).trans f2
     replace g0 := (cellB hb30 (by omega)).trans g0
     replace g1 := (cellB hb30 (by omega)).trans g1
     replace g2 := (cellB hb30 (by omega)).trans g2
     replace d0 := (cellB hb30 (by omega)).trans d0
     replace d1 := (cellB hb30 (by omega)).trans d1
     replace u0 := (cellB hb30 (by omega)).trans u0
     replace u1 := (cellB hb30 (by omega)).trans u1
     replace y0 := (cellB hb30 (by omega)).trans y0
     replace y1 := (cellB hb30 (by omega)).trans y1
     replace p0 := (cellB hb30 (by omega)).trans p0
     replace p1 := (cellB hb30 (by omega)).trans p1
     replace H0 := Lib.hid (H0.out.below hb30)
     replace H1 := Lib.hid (H1.out.below hb30)
     replace HT := Lib.hid (HT.out.below hb30)
     replace HF := Lib.hid (HF.out.below hb30)
     replace HG := Lib.hid (HG.out.below hb30)
     replace HD := Lib.hid (HD.out.below hb30)
     replace HU := Lib.hid (HU.out.below hb30)
     replace HY := Lib.hid (HY.out.below hb30)
     replace HPJ := Lib.hid (HPJ.out.below hb30)
     have hbw30 := bthen hbw29 hb30
     go_wp2_with fail
     have hpl := PlaceFormula_any w30 HT.out HF.out (nn := 3) HPS.out
     generalize placeV t f 3 ps = L5 at hpl HPL1
     generalize placeC t f 3 ps = C2 at hpl HPL1
     refine (hpl).mono ?_
     rintro e w31 ⟨cs, rfl, hf, hb31⟩
     obtain ⟨la, lc, rfl⟩ := fr_trip hf
     have HL := Lib.hid hf.rd
     clear hf hpl
     have hz31 := hb31.size
     replace t0 := (cellB hb31 (by omega)).trans t0
     replace t1 := (cellB hb31 (by omega)).trans t1
     replace f0 := (cellB hb31 (by omega)).trans f0
     replace f1 := (cellB hb31 (by omega)).trans f1
     replace f2 := (cellB hb31 (by omega)).trans f2
     replace g0 := (cellB hb31 (by omega)).trans g0
     replace g1 := (cellB hb31 (by omega)).trans g1
     replace g2 := (cellB hb31 (by omega)).trans g2
     replace d0 := (cellB hb31 (by omega)).trans d0
     replace d1 := (cellB hb31 (by omega)).trans d1
     replace u0 := (cellB hb31 (by omega)).trans u0
     replace u1 := (cellB hb31 (by omega)).trans u1
     replace y0 := (cellB hb31 (by omega)).trans y0
     replace y1 := (cellB hb31 (by omega)).trans y1
     replace p0 := (cellB hb31 (by omega)).trans p0
     replace p1 := (cellB hb31 (by omega)).trans p1
     replace H0 := Lib.hid (H0.out.below hb31)
     replace H1 := Lib.hid (H1.out.below hb31)
     replace HT := Lib.hid (HT.out.below hb31)
     replace HF := Lib.hid (HF.out.below hb31)
     replace HG := Lib.hid (HG.out.below hb31)
     replace HD := Lib.hid (HD.out.below hb31)
     replace HU := Lib.hid (HU.out.below hb31)
     replace HY := Lib.hid (HY.out.below hb31)
     replace HPJ := Lib.hid (HPJ.out.below hb31)
     replace HPS := Lib.hid (HPS.out.below hb31)
     have hbw31 := bthen hbw30 hb31
     go_upto_region 26 with fail
     generalize hW32 : World.alloc w31 _ = w32
     have hb32 : Below w31.heap.size w31 w32 := hW32 ▸ bA
     have hy32 : w31.heap.size + 1 ≤ w32.heap.size := by rw [← hW32]; simp
     have l0 : w32.cell? ⟨w31.heap.size, 0, none⟩ = some (.int .i64 L5.1) := by rw [← hW32]; simp [go_sem]
     have l1 : w32.cell? ⟨w31.heap.size, 1, none⟩ = some (.int .i64 L5.2.1) := by rw [← hW32]; simp [go_sem]
     have l2 : w32.cell? ⟨w31.heap.size, 2, none⟩ = some (.slice la L5.2.2.length lc) := by rw [← hW32]; simp [go_sem]
     clear hW32
     have hz32 := hb32.size
     replace t0 := (cellB hb32 (by omega)).trans t0
     replace t1 := (cellB hb32 (by omega)).trans t1
     replace f0 := (cellB hb32 (by omega)).trans f0
     replace f1 := (cellB hb32 (by omega)).trans f1
     replace f2 := (cellB hb32 (by omega)).trans f2
     replace g0 := (cellB hb32 (by omega)).trans g0
     replace g1 := (cellB hb32 (by omega)).trans g1
     replace g2 := (cellB hb32 (by omega)).trans g2
     replace d0 := (cellB hb32 (by omega)).trans d0
     replace d1 := (cellB hb32 (by omega)).trans d1
     replace u0 := (cellB hb32 (by omega)).trans u0
     replace u1 := (cellB hb32 (by omega)).trans u1
     replace y0 := (cellB hb32 (by omega)).trans y0
     replace y1 := (cellB hb32 (by omega)).trans y1
     replace p0 := (cellB hb32 (by omega)).trans p0
     replace p1 := (cellB hb32 (by omega)).trans p1
     replace H0 := Lib.hid (H0.out.below hb32)
     replace H1 := Lib.hid (H1.out.below hb32)
     replace HT := Lib.hid (HT.out.below hb32)
     replace HF := Lib.hid (HF.out.below hb32)
     replace HG := Lib.hid (HG.out.below hb32)
     replace HD := Lib.hid (HD.out.below hb32)
     replace HU := Lib.hid (HU.out.below hb32)
     replace HY := Lib.hid (HY.out.below hb32)
     replace HPJ := Lib.hid (HPJ.out.below hb32)
     replace HPS := Lib.hid (HPS.out.below hb32)
     replace HL := Lib.hid (HL.out.below hb32)
     have hbw32 := bthen hbw31 hb32
     go_cut [229] from 32 (fun v wx => v = .bool false ∧ Below w32.heap.size w32 wx)
     case first =>
      as_aux_lemma =>
       rcases HPL1.out with ⟨hc, -, -⟩ | hc
       ·subst hc
        clear HPL1
        go_wp2_with fail
        refine (specSameRel_any w32 (x := Q) (y := Q) HY.out HPJ.out).mono ?_
        rintro e w33 ⟨rfl, hb33⟩
        rw [show eqB Q Q = true from eqB_true rfl]
        have hz33 := hb33.size
        replace t0 := (cellB hb33 (by omega)).trans t0
        replace t1 := (cellB hb33 (by omega)).trans t1
        replace f0 := (cellB hb33 (by omega)).trans f0
        replace f1 := (cellB hb33 (by omega)).trans f1
        replace f2 := (cellB hb33 (by omega)).trans f2
        replace g0 := (cellB hb33 (by omega)).trans g0
        replace g1 := (cellB hb33 (by omega)).trans g1
        replace g2 := (cellB hb33 (by omega)).trans g2
        replace d0 := (cellB hb33 (by omega)).trans d0
        replace d1 := (cellB hb33 (by omega)).trans d1
        replace u0 := (cellB hb33 (by omega)).trans u0
        replace u1 := (cellB hb33 (by omega)).trans u1
        replace y0 := (cellB hb33 (by omega)).trans y0
        replace y1 := (cellB hb33 (by omega)).trans y1
        replace p0 := (cellB hb33 (by omega)).trans p0
        replace p1 := (cellB hb33 (by omega)).trans p1
        replace l0 := (cellB hb33 (by omega)).trans l0
        replace l1 := (cellB hb33 (by omega)).trans l1
        replace l2 := (cellB hb33 (by omega)).trans l2
        replace H0 := Lib.hid (H0.out.below hb33)
        replace H1 := Lib.hid (H1.out.below hb33)
        replace HT := Lib.hid (HT.out.below hb33)
        replace HF := Lib.hid (HF.out.below hb33)
        replace HG := Lib.hid (HG.out.below hb33)
        replace HD := Lib.hid (HD.out.below hb33)
        replace HU := Lib.hid (HU.out.below hb33)
        replace HY := Lib.hid (HY.out.below hb33)
        replace HPJ := Lib.hid (HPJ.out.below hb33)
        replace HPS := Lib.hid (HPS.out.below hb33)
        replace HL := Lib.hid (HL.out.below hb33)
        have hbw33 := bthen hbw32 hb33
        go_wp2_with fail
        go_meet
        case rel => exact ⟨rfl, hb33⟩
       ·subst hc
        clear HPL1
        go_wp2_with fail
        refine (specSameRel_any w32 (x := Q) (y := Q) HY.out HPJ.out).mono ?_
        rintro e w33 ⟨rfl, hb33⟩
        rw [show eqB Q Q = true from eqB_true rfl]
        have hz33 := hb33.size
        replace t0 := (cellB hb33 (by omega)).trans t0
        replace t1 := (cellB hb33 (by omega)).trans t1
        replace f0 := (cellB hb33 (by omega)).trans f0
        replace f1 := (cellB hb33 (by omega)).trans f1
        replace f2 := (cellB hb33 (by omega)).trans f2
        replace g0 := (cellB hb33 (by omega)).trans g0
        replace g1 := (cellB hb33 (by omega)).trans g1
        replace g2 := (cellB hb33 (by omega)).trans g2
        replace d0 := (cellB hb33 (by omega)).trans d0
        replace d1 := (cellB hb33 (by omega)).trans d1
        replace u0 := (cellB hb33 (by omega)).trans u0
        replace u1 := (cellB hb33 (by omega)).trans u1
        replace y0 := (cellB hb33 (by omega)).trans y0
        replace y1 := (cellB hb33 (by omega)).trans y1
        replace p0 := (cellB hb33 (by omega)).trans p0
        replace p1 := (cellB hb33 (by omega)).trans p1
        replace l0 := (cellB hb33 (by omega)).trans l0
        replace l1 := (cellB hb33 (by omega)).trans l1
        replace l2 := (cellB hb33 (by omega)).trans l2
        replace H0 := Lib.hid (H0.out.below hb33)
        replace H1 := Lib.hid (H1.out.below hb33)
        replace HT := Lib.hid (HT.out.below hb33)
        replace HF := Lib.hid (HF.out.below hb33)
        replace HG := Lib.hid (HG.out.below hb33)
        replace HD := Lib.hid (HD.out.below hb33)
        replace HU := Lib.hid (HU.out.below hb33)
        replace HY := Lib.hid (HY.out.below hb33)
        replace HPJ := Lib.hid (HPJ.out.below hb33)
        replace HPS := Lib.hid (HPS.out.below hb33)
        replace HL := Lib.hid (HL.out.below hb33)
        have hbw33 := bthen hbw32 hb33
        go_wp2_with fail
        go_meet
        case rel => exact ⟨rfl, hb33⟩
     case rest =>
      as_aux_lemma =>
       obtain ⟨rfl, hb33⟩ := hcut
       obtain ⟨w33, rfl⟩ : ∃ x : World, x = wc := ⟨_, rfl⟩
       have hz33 := hb33.size
       replace t0 := (cellB hb33 (by omega)).trans t0
       replace t1 := (cellB hb33 (by omega)).trans t1
       replace f0 := (cellB hb33 (by omega)).trans f0
       replace f1 := (cellB hb33 (by omega)).trans f1
       replace f2 := (cellB hb33 (by omega)).trans f2
       replace g0 := (cellB hb33 (by omega)).trans g0
       replace g1 := (cellB hb33 (by omega)).trans g1
       replace g2 := (cellB hb33 (by omega)).trans g2
       replace d0 := (cellB hb33 (by omega)).trans d0
       replace d1 := (cellB hb33 (by omega)).trans d1
       replace u0 := (cellB hb33 (by omega)).trans u0
       replace u1 := (cellB hb33 (by omega)).trans u1
       replace y0 := (cellB hb33 (by omega)).trans y0
       replace y1 := (cellB hb33 (by omega)).trans y1
       replace p0 := (cellB hb33 (by omega)).trans p0
       replace p1 := (cellB hb33 (by omega)).trans p1
       replace l0 := (cellB hb33 (by omega)).trans l0
       replace l1 := (cellB hb33 (by omega)).trans l1
       replace l2 := (cellB hb33 (by omega)).trans l2
       replace H0 := Lib.hid (H0.out.below hb33)
       replace H1 := Lib.hid (H1.out.below hb33)
       replace HT := Lib.hid (HT.out.below hb33)
       replace HF := Lib.hid (HF.out.below hb33)
       replace HG := Lib.hid (HG.out.below hb33)
       replace HD := Lib.hid (HD.out.below hb33)
       replace HU := Lib.hid (HU.out.below hb33)
       replace HY := Lib.hid (HY.out.below hb33)
       replace HPJ := Lib.hid (HPJ.out.below hb33)
       replace HPS := Lib.hid (HPS.out.below hb33)
       replace HL := Lib.hid (HL.out.below hb33)
       have hbw33 := bthen hbw32 hb33
       clear y0 y1 p0 p1
       clear HY HPJ
       go_upto_if 231 with fail
       go_cut [20] from 32 (fun v wx => v = .int .i64 0 ∧ Below w33.heap.size w33 wx)
       case first =>
        as_aux_lemma =>
         rcases HPL1.out with ⟨hc, hok, hval⟩ | hc
         ·subst hc
          go_wp2_with fail
          have hvo := ValueOf_any w33 HT.out HL.out
          rw [(vo_yes (tb_true hok)).1, (vo_yes (tb_true hok)).2, hval] at hvo
          have hpr : ∀ (w : World) (hd : relT.Rd w (#[.int .i64 V.1, .slice da V.2.length dc] : Array Value).toList V) (hps : intsT.Rd w [.slice psa ps.length psc] ps), _ := fun w hd hps => PlaceRel_any w hd hps HVO.out (ar := 3) (by omega) HPT.out.2 (by rw [HPT.out.1, HV1.out]; rfl)
          have HPR := Lib.hid hpr
          generalize plaR t.1 3 V ps = Z5 at hvo HPR
          clear hok hval HPL1 hpr
          refine (hvo).mono ?_
          rintro e w34 ⟨cs, rfl, hf, hb34⟩
          obtain ⟨za, zc, rfl⟩ := fr_pair hf
          have HZ := Lib.hid hf.rd
          clear hf hvo
          have hz34 := hb34.size
          replace t0 := (cellB hb34 (by omega)).trans t0
          replace t1 := (cellB hb34 (by omega)).trans t1
          replace f0 := (cellB hb34 (by omega)).trans f0
          replace f1 := (cellB hb34 (by omega)).trans f1
          replace f2 := (cellB hb34 (by omega)).trans f2
          replace g0 := (cellB hb34 (by omega)).trans g0
          replace g1 := (cellB hb34 (by omega)).trans g1
          replace g2 := (cellB hb34 (by omega)).trans g2
          replace d0 := (cellB hb34 (by omega)).trans d0
          replace d1 := (cellB hb34 (by omega)).trans d1
          replace u0 := (cellB hb34 (by omega)).trans u0
          replace u1 := (cellB hb34 (by omega)).trans u1
          replace l0 := (cellB hb34 (by omega)).trans l0
          replace l1 := (cellB hb34 (by omega)).trans l1
          replace l2 := (cellB hb34 (by omega)).trans l2
          replace H0 := Lib.hid (H0.out.below hb34)
          replace H1 := Lib.hid (H1.out.below hb34)
          replace HT := Lib.hid (HT.out.below hb34)
          replace HF := Lib.hid (HF.out.below hb34)
          replace HG := Lib.hid (HG.out.below hb34)
          replace HD := Lib.hid (HD.out.below hb34)
          replace HU := Lib.hid (HU.out.below hb34)
          replace HPS := Lib.hid (HPS.out.below hb34)
          replace HL := Lib.hid (HL.out.below hb34)
          have hbw34 := bthen hbw33 hb34
          have ta_d0 : ∀ o : Obj, (World.alloc w34 o).cell? ⟨w9.heap.size, 0, none⟩ = some (.int .i64 V.1) := fun o => (cellB bA (by omega)).trans d0
          have ta_d1 : ∀ o : Obj, (World.alloc w34 o).cell? ⟨w9.heap.size, 1, none⟩ = some (.slice da V.2.length dc) := fun o => (cellB bA (by omega)).trans d1
          go_wp2_with fail
          clear ta_d0 ta_d1
          generalize hW35 : World.alloc w34 _ = w35
          have hb35 : Below w34.heap.size w34 w35 := hW35 ▸ bA
          have hy35 : w34.heap.size + 1 ≤ w35.heap.size := by rw [← hW35]; simp
          have z0 : w35.cell? ⟨w34.heap.size, 0, none⟩ = some (.int .i64 Z5.1) := by rw [← hW35]; simp [go_sem]
          have z1 : w35.cell? ⟨w34.heap.size, 1, none⟩ = some (.slice za Z5.2.length zc) := by rw [← hW35]; simp [go_sem]
          clear hW35
          have hz35 := hb35.size
          replace t0 := (cellB hb35 (by omega)).trans t0
          replace t1 := (cellB hb35 (by omega)).trans t1
          replace f0 := (cellB hb35 (by omega)).trans f0
          replace f1 := (cellB hb35 (by omega)).trans f1
          replace f2 := (cellB hb35 (by omega)).trans f2
          replace g0 := (cellB hb35 (by omega)).trans g0
          replace g1 := (cellB hb35 (by omega)).trans g1
          replace g2 := (cellB hb35 (by omega)).trans g2
          replace d0 := (cellB hb35 (by omega)).trans d0
          replace d1 := (cellB hb35 (by omega)).trans d1
          replace u0 := (cellB hb35 (by omega)).trans u0
          replace u1 := (cellB hb35 (by omega)).trans u1
          replace l0 := (cellB hb35 (by omega)).trans l0
          replace l1 := (cellB hb35 (by omega)).trans l1
          replace l2 := (cellB hb35 (by omega)).trans l2
          replace H0 := Lib.hid (H0.out.below hb35)
          replace H1 := Lib.hid (H1.out.below hb35)
          replace HT := Lib.hid (HT.out.below hb35)
          replace HF := Lib.hid (HF.out.below hb35)
          replace HG := Lib.hid (HG.out.below hb35)
          replace HD := Lib.hid (HD.out.below hb35)
          replace HU := Lib.hid (HU.out.below hb35)
          replace HPS := Lib.hid (HPS.out.below hb35)
          replace HL := Lib.hid (HL.out.below hb35)
          replace HZ := Lib.hid (HZ.out.below hb35)
          have hbw35 := bthen hbw34 hb35
          have hpr := HPR.out w35 HD.out HPS.out
          rw [show ((3 : Nat) : Int) = 3 from rfl] at hpr
          refine (hpr).mono ?_
          rintro e w36 ⟨cs, rfl, hf, hb36⟩
          obtain ⟨qa, qc, rfl⟩ := fr_pair hf
          have HQR := Lib.hid hf.rd
          clear hf hpr
          have hz36 := hb36.size
          replace t0 := (cellB hb36 (by omega)).trans t0
          replace t1 := (cellB hb36 (by omega)).trans t1
          replace f0 := (cellB hb36 (by omega)).trans f0
          replace f1 := (cellB hb36 (by omega)).trans f1
          replace f2 := (cellB hb36 (by omega)).trans f2
          replace g0 := (cellB hb36 (by omega)).trans g0
          replace g1 := (cellB hb36 (by omega)).trans g1
          replace g2 := (cellB hb36 (by omega)).trans g2
          replace d0 := (cellB hb36 (by omega)).trans d0
          replace d1 := (cellB hb36 (by omega)).trans d1
          replace u0 := (cellB hb36 (by omega)).trans u0
          replace u1 := (cellB hb36 (by omega)).trans u1
          replace l0 := (cellB hb36 (by omega)).trans l0
          replace l1 := (cellB hb36 (by omega)).trans l1
          replace l2 := (cellB hb36 (by omega)).trans l2
          replace z0 := (cellB hb36 (by omega)).trans z0
          replace z1 := (cellB hb36 (by omega)).trans z1
          replace H0 := Lib.hid (H0.out.below hb36)
          replace H1 := Lib.hid (H1.out.below hb36)
          replace HT := Lib.hid (HT.out.below hb36)
          replace HF := Lib.hid (HF.out.below hb36)
          replace HG := Lib.hid (HG.out.below hb36)
          replace HD := Lib.hid (HD.out.below hb36)
          replace HU := Lib.hid (HU.out.below hb36)
          replace HPS := Lib.hid (HPS.out.below hb36)
          replace HL := Lib.hid (HL.out.below hb36)
          replace HZ := Lib.hid (HZ.out.below hb36)
          have hbw36 := bthen hbw35 hb36
          have ta_z0 : ∀ o : Obj, (World.alloc w36 o).cell? ⟨w34.heap.size, 0, none⟩ = some (.int .i64 Z5.1) := fun o => (cellB bA (by omega)).trans z0
          have ta_z1 : ∀ o : Obj, (World.alloc w36 o).cell? ⟨w34.heap.size, 1, none⟩ = some (.slice za Z5.2.length zc) := fun o => (cellB bA (by omega)).trans z1
          go_wp2_with fail
          clear ta_z0 ta_z1
          generalize hW37 : World.alloc w36 _ = w37
          have hb37 : Below w36.heap.size w36 w37 := hW37 ▸ bA
          have hy37 : w36.heap.size + 1 ≤ w37.heap.size := by rw [← hW37]; simp
          have q0 : w37.cell? ⟨w36.heap.size, 0, none⟩ = some (.int .i64 Z5.1) := by rw [← hW37]; simp [go_sem]
          have q1 : w37.cell? ⟨w36.heap.size, 1, none⟩ = some (.slice qa Z5.2.length qc) := by rw [← hW37]; simp [go_sem]
          clear hW37
          have hz37 := hb37.size
          replace t0 := (cellB hb37 (by omega)).trans t0
          replace t1 := (cellB hb37 (by omega)).trans t1
          replace f0 := (cellB hb37 (by omega)).trans f0
          replace f1 := (cellB hb37 (by omega)).trans f1
          replace f2 := (cellB hb37 (by omega)).trans f2
          replace g0 := (cellB hb37 (by omega)).trans g0
          replace g1 := (cellB hb37 (by omega)).trans g1
          replace g2 := (cellB hb37 (by omega)).trans g2
          replace d0 := (cellB hb37 (by omega)).trans d0
          replace d1 := (cellB hb37 (by omega)).trans d1
          replace u0 := (cellB hb37 (by omega)).trans u0
          replace u1 := (cellB hb37 (by omega)).trans u1
          replace l0 := (cellB hb37 (by omega)).trans l0
          replace l1 := (cellB hb37 (by omega)).trans l1
          replace l2 := (cellB hb37 (by omega)).trans l2
          replace z0 := (cellB hb37 (by omega)).trans z0
          replace z1 := (cellB hb37 (by omega)).trans z1
          replace H0 := Lib.hid (H0.out.below hb37)
          replace H1 := Lib.hid (H1.out.below hb37)
          replace HT := Lib.hid (HT.out.below hb37)
          replace HF := Lib.hid (HF.out.below hb37)
          replace HG := Lib.hid (HG.out.below hb37)
          replace HD := Lib.hid (HD.out.below hb37)
          replace HU := Lib.hid (HU.out.below hb37)
          replace HPS := Lib.hid (HPS.out.below hb37)
          replace HL := Lib.hid (HL.out.below hb37)
          replace HZ := Lib.hid (HZ.out.below hb37)
          replace HQR := Lib.hid (HQR.out.below hb37)
          have hbw37 := bthen hbw36 hb37
          refine (specSameRel_any w37 (x := Z5) (y := Z5) HZ.out HQR.out).mono ?_
          rintro e w38 ⟨rfl, hb38⟩
          rw [show eqB Z5 Z5 = true from eqB_true rfl]
          have hz38 := hb38.size
          replace t0 := (cellB hb38 (by omega)).trans t0
          replace t1 := (cellB hb38 (by omega)).trans t1
          replace f0 := (cellB hb38 (by omega)).trans f0
          replace f1 := (cellB hb38 (by omega)).trans f1
          replace f2 := (cellB hb38 (by omega)).trans f2
          replace g0 := (cellB hb38 (by omega)).trans g0
          replace g1 := (cellB hb38 (by omega)).trans g1
          replace g2 := (cellB hb38 (by omega)).trans g2
          replace d0 := (cellB hb38 (by omega)).trans d0
          replace d1 := (cellB hb38 (by omega)).trans d1
          replace u0 := (cellB hb38 (by omega)).trans u0
          replace u1 := (cellB hb38 (by omega)).trans u1
          replace l0 := (cellB hb38 (by omega)).trans l0
          replace l1 := (cellB hb38 (by omega)).trans l1
          replace l2 := (cellB hb38 (by omega)).trans l2
          replace z0 := (cellB hb38 (by omega)).trans z0
          replace z1 := (cellB hb38 (by omega)).trans z1
          replace q0 := (cellB hb38 (by omega)).trans q0
          replace q1 := (cellB hb38 (by omega)).trans q1
          replace H0 := Lib.hid (H0.out.below hb38)
          replace H1 := Lib.hid (H1.out.below hb38)
          replace HT := Lib.hid (HT.out.below hb38)
          replace HF := Lib.hid (HF.out.below hb38)
          replace HG := Lib.hid (HG.out.below hb38)
          replace HD := Lib.hid (HD.out.below hb38)
          replace HU := Lib.hid (HU.out.below hb38)
          replace HPS := Lib.hid (HPS.out.below hb38)
          replace HL := Lib.hid (HL.out.below hb38)
          replace HZ := Lib.hid (HZ.out.below hb38)
          replace HQR := Lib.hid (HQR.out.below hb38)
          have hbw38 := bthen hbw37 hb38
          go_wp2_with fail
          go_meet
          case rel => exact ⟨rfl, bthen (bthen (bthen (bthen (hb34) hb35) hb36) hb37) hb38⟩
         ·subst hc
          clear HPL1
          go_wp2_with fail
          go_meet
          case rel => exact ⟨rfl, Below.refl _ _⟩
       case rest =>
        as_aux_lemma =>
         obtain ⟨rfl, hb34⟩ := hcut
         obtain ⟨w34, rfl⟩ : ∃ x : World, x = wc := ⟨_, rfl⟩
         have hz34 := hb34.size
         replace t0 := (cellB hb34 (by omega)).trans t0
         replace t1 := (cellB hb34 (by omega)).trans t1
         replace f0 := (cellB hb34 (by omega)).trans f0
         replace f1 := (cellB hb34 (by omega)).trans f1
         replace f2 := (cellB hb34 (by omega)).trans f2
         replace g0 := (cellB hb34 (by omega)).trans g0
         replace g1 := (cellB hb34 (by omega)).trans g1
         replace g2 := (cellB hb34 (by omega)).trans g2
         replace d0 := (cellB hb34 (by omega)).trans d0
         replace d1 := (cellB hb34 (by omega)).trans d1
         replace u0 := (cellB hb34 (by omega)).trans u0
         replace u1 := (cellB hb34 (by omega)).trans u1
         replace l0 := (cellB hb34 (by omega)).trans l0
         replace l1 := (cellB hb34 (by omega)).trans l1
         replace l2 := (cellB hb34 (by omega)).trans l2
         replace H0 := Lib.hid (H0.out.below hb34)
         replace H1 := Lib.hid (H1.out.below hb34)
         replace HT := Lib.hid (HT.out.below hb34)
         replace HF := Lib.hid (HF.out.below hb34)
         replace HG := Lib.hid (HG.out.below hb34)
         replace HD := Lib.hid (HD.out.below hb34)
         replace HU := Lib.hid (HU.out.below hb34)
         replace HPS := Lib.hid (HPS.out.below hb34)
         replace HL := Lib.hid (HL.out.below hb34)
         have hbw34 := bthen hbw33 hb34
         clear HPL1
         clear l0 l1 l2
         clear HL HPS
         go_wp2_with fail
         have hsf := SimplifyFormula_any w34 HT.out HF.out
         rw [HSI.out.1] at hsf
         have hv1 := HSI.out.2.2.1
         have hv2 := HSI.out.2.2.2.1
         have HS5 := Lib.hid HSI.out.2.2.2.2
         clear HSI
         generalize simV t f = S5 at hsf HS5 hv1 hv2
         have hn1 : decide (f.2.1 < S5.2.1) = false := decide_eq_false (by omega)
         have hn2 : decide (((f.2.2.length : Nat) : Int) < ((S5.2.2.length : Nat) : Int)) = false := decide_eq_false (by omega)
         have hn3 : decide (f.2.2.length < S5.2.2.length) = false := decide_eq_false (by omega)
         refine (hsf).mono ?_
         rintro e w35 ⟨cs, rfl, hf, hb35⟩
         obtain ⟨sa, sc, rfl⟩ := fr_trip hf
         have HSS := Lib.hid hf.rd
         clear hf hsf
         have hz35 := hb35.size
         replace t0 := (cellB hb35 (by omega)).trans t0
         replace t1 := (cellB hb35 (by omega)).trans t1
         replace f0 := (cellB hb35 (by omega)).trans f0
         replace f1 := (cellB hb35 (by omega)).trans f1
         replace f2 := (cellB hb35 (by omega)).trans f2
         replace g0 := (cellB hb35 (by omega)).trans g0
         replace g1 := (cellB hb35 (by omega)).trans g1
         replace g2 := (cellB hb35 (by omega)).trans g2
         replace d0 := (cellB hb35 (by omega)).trans d0
         replace d1 := (cellB hb35 (by omega)).trans d1
         replace u0 := (cellB hb35 (by omega)).trans u0
         replace u1 := (cellB hb35 (by omega)).trans u1
         replace H0 := Lib.hid (H0.out.below hb35)
         replace H1 := Lib.hid (H1.out.below hb35)
         replace HT := Lib.hid (HT.out.below hb35)
         replace HF := Lib.hid (HF.out.below hb35)
         replace HG := Lib.hid (HG.out.below hb35)
         replace HD := Lib.hid (HD.out.below hb35)
         replace HU := Lib.hid (HU.out.below hb35)
         have hbw35 := bthen hbw34 hb35
         have ta_t0 : ∀ o : Obj, (World.alloc w35 o).cell? ⟨w2.heap.size, 0, none⟩ = some (.int .i64 t.1) := fun o => (cellB bA (by omega)).trans t0
         have ta_t1 : ∀ o : Obj, (World.alloc w35 o).cell? ⟨w2.heap.size, 1, none⟩ = some (.slice ta t.2.length tc) := fun o => (cellB bA (by omega)).trans t1
         have ta_f0 : ∀ o : Obj, (World.alloc w35 o).cell? ⟨w4.heap.size, 0, none⟩ = some (.int .i64 f.1) := fun o => (cellB bA (by omega)).trans f0
         have ta_f1 : ∀ o : Obj, (World.alloc w35 o).cell? ⟨w4.heap.size, 1, none⟩ = some (.int .i64 f.2.1) := fun o => (cellB bA (by omega)).trans f1
         have ta_f2 : ∀ o : Obj, (World.alloc w35 o).cell? ⟨w4.heap.size, 2, none⟩ = some (.slice fa f.2.2.length fc) := fun o => (cellB bA (by omega)).trans f2
         go_wp2_with fail
         clear ta_t0 ta_t1 ta_f0 ta_f1 ta_f2
         generalize hW36 : World.alloc w35 _ = w36
         have hb36 : Below w35.heap.size w35 w36 := hW36 ▸ bA
         have hy36 : w35.heap.size + 1 ≤ w36.heap.size := by rw [← hW36]; simp
         have s0 : w36.cell? ⟨w35.heap.size, 0, none⟩ = some (.int .i64 S5.1) := by rw [← hW36]; simp [go_sem]
         have s1 : w36.cell? ⟨w35.heap.size, 1, none⟩ = some (.int .i64 S5.2.1) := by rw [← hW36]; simp [go_sem]
         have s2 : w36.cell? ⟨w35.heap.size, 2, none⟩ = some (.slice sa S5.2.2.length sc) := by rw [← hW36]; simp [go_sem]
         clear hW36
         have hz36 := hb36.size
         replace t0 := (cellB hb36 (by omega)).trans t0
         replace t1 := (cellB hb36 (by omega)).trans t1
         replace f0 := (cellB hb36 (by omega)).trans f0
         replace f1 := (cellB hb36 (by omega)).trans f1
         replace f2 := (cellB hb36 (by omega)).trans f2
         replace g0 := (cellB hb36 (by omega)).trans g0
         replace g1 := (cellB hb36 (by omega)).trans g1
         replace g2 := (cellB hb36 (by omega)).trans g2
         replace d0 := (cellB hb36 (by omega)).trans d0
         replace d1 := (cellB hb36 (by omega)).trans d1
         replace u0 := (cellB hb36 (by omega)).trans u0
         replace u1 := (cellB hb36 (by omega)).trans u1
         replace H0 := Lib.hid (H0.out.below hb36)
         replace H1 := Lib.hid (H1.out.below hb36)
         replace HT := Lib.hid (HT.out.below hb36)
         replace HF := Lib.hid (HF.out.below hb36)
         replace HG := Lib.hid (HG.out.below hb36)
         replace HD := Lib.hid (HD.out.below hb36)
         replace HU := Lib.hid (HU.out.below hb36)
         replace HSS := Lib.hid (HSS.out.below hb36)
         have hbw36 := bthen hbw35 hb36
         refine (AreEquivalent_any w36 HT.out HF.out HSS.out).mono ?_
         rintro e w37 ⟨rfl, hb37⟩
         rw [HS5.out.1, HS5.out.2]
         have hz37 := hb37.size
         replace t0 := (cellB hb37 (by omega)).trans t0
         replace t1 := (cellB hb37 (by omega)).trans t1
         replace f0 := (cellB hb37 (by omega)).trans f0
         replace f1 := (cellB hb37 (by omega)).trans f1
         replace f2 := (cellB hb37 (by omega)).trans f2
         replace g0 := (cellB hb37 (by omega)).trans g0
         replace g1 := (cellB hb37 (by omega)).trans g1
         replace g2 := (cellB hb37 (by omega)).trans g2
         replace d0 := (cellB hb37 (by omega)).trans d0
         replace d1 := (cellB hb37 (by omega)).trans d1
         replace u0 := (cellB hb37 (by omega)).trans u0
         replace u1 := (cellB hb37 (by omega)).trans u1
         replace s0 := (cellB hb37 (by omega)).trans s0
         replace s1 := (cellB hb37 (by omega)).trans s1
         replace s2 := (cellB hb37 (by omega)).trans s2
         replace H0 := Lib.hid (H0.out.below hb37)
         replace H1 := Lib.hid (H1.out.below hb37)
         replace HT := Lib.hid (HT.out.below hb37)
         replace HF := Lib.hid (HF.out.below hb37)
         replace HG := Lib.hid (HG.out.below hb37)
         replace HD := Lib.hid (HD.out.below hb37)
         replace HU := Lib.hid (HU.out.below hb37)
         replace HSS := Lib.hid (HSS.out.below hb37)
         have hbw37 := bthen hbw36 hb37
         go_wp2_with fail
         clear hv1 hv2 hn1 hn2 hn3 HS5
         clear s0 s1 s2
         clear HSS
         have HAE := Lib.hid (And.intro HAP.out.1 HAP.out.2.1)
         have HA3 := Lib.hid HAP.out.2.2
         clear HAP
         obtain ⟨eq5, heq5⟩ : ∃ q : Bool, eqB V U = q := ⟨_, rfl⟩
         have HEQ := Lib.hid heq5
         rw [heq5] at HAE HA3
         clear heq5
         refine (AreEquivalent_any w37 HT.out HF.out HG.out).mono ?_
         rintro e w38 ⟨rfl, hb38⟩
         rw [HAE.out.1, HAE.out.2]
         have hz38 := hb38.size
         replace t0 := (cellB hb38 (by omega)).trans t0
         replace t1 := (cellB hb38 (by omega)).trans t1
         replace f0 := (cellB hb38 (by omega)).trans f0
         replace f1 := (cellB hb38 (by omega)).trans f1
         replace f2 := (cellB hb38 (by omega)).trans f2
         replace g0 := (cellB hb38 (by omega)).trans g0
         replace g1 := (cellB hb38 (by omega)).trans g1
         replace g2 := (cellB hb38 (by omega)).trans g2
         replace d0 := (cellB hb38 (by omega)).trans d0
         replace d1 := (cellB hb38 (by omega)).trans d1
         replace u0 := (cellB hb38 (by omega)).trans u0
         replace u1 := (cellB hb38 (by omega)).trans u1
         replace H0 := Lib.hid (H0.out.below hb38)
         replace H1 := Lib.hid (H1.out.below hb38)
         replace HT := Lib.hid (HT.out.below hb38)
         replace HF := Lib.hid (HF.out.below hb38)
         replace HG := Lib.hid (HG.out.below hb38)
         replace HD := Lib.hid (HD.out.below hb38)
         replace HU := Lib.hid (HU.out.below hb38)
         have hbw38 := bthen hbw37 hb38
         go_wp2_with fail
         have hfa := FirstApart_any w38 HT.out HF.out HG.out
         generalize faV t f g = av at hfa HA3
         generalize faC t f g = C3 at hfa HA3
         refine (hfa).mono ?_
         rintro e w39 ⟨u8, rfl, hf, hb39⟩
         obtain ⟨ava, avc, rfl⟩ := fr_slice hf
         have HAV := Lib.hid hf.rd
         clear hf hfa HAE
         have hz39 := hb39.size
         replace t0 := (cellB hb39 (by omega)).trans t0
         replace t1 := (cellB hb39 (by omega)).trans t1
         replace f0 := (cellB hb39 (by omega)).trans f0
         replace f1 := (cellB hb39 (by omega)).trans f1
         replace f2 := (cellB hb39 (by omega)).trans f2
         replace g0 := (cellB hb39 (by omega)).trans g0
         replace g1 := (cellB hb39 (by omega)).trans g1
         replace g2 := (cellB hb39 (by omega)).trans g2
         replace d0 := (cellB hb39 (by omega)).trans d0
         replace d1 := (cellB hb39 (by omega)).trans d1
         replace u0 := (cellB hb39 (by omega)).trans u0
         replace u1 := (cellB hb39 (by omega)).trans u1
         replace H0 := Lib.hid (H0.out.below hb39)
         replace H1 := Lib.hid (H1.out.below hb39)
         replace HT := Lib.hid (HT.out.below hb39)
         replace HF := Lib.hid (HF.out.below hb39)
         replace HG := Lib.hid (HG.out.below hb39)
         replace HD := Lib.hid (HD.out.below hb39)
         replace HU := Lib.hid (HU.out.below hb39)
         have hbw39 := bthen hbw38 hb39
         go_upto_region 39 with fail
         go_cut [324] from 44 (fun v wx => v = .bool false ∧ Below w39.heap.size w39 wx)
         case first =>
          as_aux_lemma =>
           rcases HA3.out with ⟨hc, hq⟩ | ⟨hc, hq, -⟩
           ·subst hc
            rw [hq] at HEQ
            subst hq
            clear HA3
            go_wp2_with fail
            refine (specSameRel_any w39 (x := V) (y := U) HD.out HU.out).mono ?_
            rintro e w40 ⟨rfl, hb40⟩
            rw [HEQ.out]
            have hz40 := hb40.size
            replace t0 := (cellB hb40 (by omega)).trans t0
            replace t1 := (cellB hb40 (by omega)).trans t1
            replace f0 := (cellB hb40 (by omega)).trans f0
            replace f1 := (cellB hb40 (by omega)).trans f1
            replace f2 := (cellB hb40 (by omega)).trans f2
            replace g0 := (cellB hb40 (by omega)).trans g0
            replace g1 := (cellB hb40 (by omega)).trans g1
            replace g2 := (cellB hb40 (by omega)).trans g2
            replace d0 := (cellB hb40 (by omega)).trans d0
            replace d1 := (cellB hb40 (by omega)).trans d1
            replace u0 := (cellB hb40 (by omega)).trans u0
            replace u1 := (cellB hb40 (by omega)).trans u1
            replace H0 := Lib.hid (H0.out.below hb40)
            replace H1 := Lib.hid (H1.out.below hb40)
            replace HT := Lib.hid (HT.out.below hb40)
            replace HF := Lib.hid (HF.out.below hb40)
            replace HG := Lib.hid (HG.out.below hb40)
            replace HD := Lib.hid (HD.out.below hb40)
            replace HU := Lib.hid (HU.out.below hb40)
            replace HAV := Lib.hid (HAV.out.below hb40)
            have hbw40 := bthen hbw39 hb40
            go_wp2_with fail
            go_meet
            case rel => exact ⟨rfl, hb40⟩
           ·subst hc
            rw [hq] at HEQ
            subst hq
            clear HA3
            go_wp2_with fail
            refine (specSameRel_any w39 (x := V) (y := U) HD.out HU.out).mono ?_
            rintro e w40 ⟨rfl, hb40⟩
            rw [HEQ.out]
            have hz40 := hb40.size
            replace t0 := (cellB hb40 (by omega)).trans t0
            replace t1 := (cellB hb40 (by omega)).trans t1
            replace f0 := (cellB hb40 (by omega)).trans f0
            replace f1 := (cellB hb40 (by omega)).trans f1
            replace f2 := (cellB hb40 (by omega)).trans f2
            replace g0 := (cellB hb40 (by omega)).trans g0
            replace g1 := (cellB hb40 (by omega)).trans g1
            replace g2 := (cellB hb40 (by omega)).trans g2
            replace d0 := (cellB hb40 (by omega)).trans d0
            replace d1 := (cellB hb40 (by omega)).trans d1
            replace u0 := (cellB hb40 (by omega)).trans u0
            replace u1 := (cellB hb40 (by omega)).trans u1
            replace H0 := Lib.hid (H0.out.below hb40)
            replace H1 := Lib.hid (H1.out.below hb40)
            replace HT := Lib.hid (HT.out.below hb40)
            replace HF := Lib.hid (HF.out.below hb40)
            replace HG := Lib.hid (HG.out.below hb40)
            replace HD := Lib.hid (HD.out.below hb40)
            replace HU := Lib.hid (HU.out.below hb40)
            replace HAV := Lib.hid (HAV.out.below hb40)
            have hbw40 := bthen hbw39 hb40
            go_wp2_with fail
            go_meet
            case rel => exact ⟨rfl, hb40⟩
         case rest =>
          as_aux_lemma =>
           obtain ⟨rfl, hb40⟩ := hcut
           obtain ⟨w40, rfl⟩ : ∃ x : World, x = wc := ⟨_, rfl⟩
           have hz40 := hb40.size
           replace t0 := (cellB hb40 (by omega)).trans t0
           replace t1 := (cellB hb40 (by omega)).trans t1
           replace f0 := (cellB hb40 (by omega)).trans f0
           replace f1 := (cellB hb40 (by omega)).trans f1
           replace f2 := (cellB hb40 (by omega)).trans f2
           replace g0 := (cellB hb40 (by omega)).trans g0
           replace g1 := (cellB hb40 (by omega)).trans g1
           replace g2 := (cellB hb40 (by omega)).trans g2
           replace d0 := (cellB hb40 (by omega)).trans d0
           replace d1 := (cellB hb40 (by omega)).trans d1
           replace u0 := (cellB hb40 (by omega)).trans u0
           replace u1 := (cellB hb40 (by omega)).trans u1
           replace H0 := Lib.hid (H0.out.below hb40)
           replace H1 := Lib.hid (H1.out.below hb40)
           replace HT := Lib.hid (HT.out.below hb40)
           replace HF := Lib.hid (HF.out.below hb40)
           replace HG := Lib.hid (HG.out.below hb40)
           replace HD := Lib.hid (HD.out.below hb40)
           replace HU := Lib.hid (HU.out.below hb40)
           replace HAV := Lib.hid (HAV.out.below hb40)
           have hbw40 := bthen hbw39 hb40
           clear u0 u1
           clear HU
           go_upto_if 326 with fail
           go_cut [20] from 44 (fun v wx => v = .int .i64 0 ∧ Below w40.heap.size w40 wx)
           case first =>
            as_aux_lemma =>
             rcases HA3.out with ⟨hc, hq⟩ | ⟨hc, hq, ha1, ha2, ha3⟩
             ·subst hc
              clear HA3 hq
              go_wp2_with fail
              go_meet
              case rel => exact ⟨rfl, Below.refl _ _⟩
             ·subst hc
              clear HA3 hq
              obtain ⟨bb1, hbb1⟩ : ∃ q : Bool, haB t f av = q := ⟨_, rfl⟩
              rw [hbb1] at ha3
              have HA1 := Lib.hid (And.intro ha1 hbb1)
              have HA2 := Lib.hid (And.intro ha2 ha3)
              clear ha1 ha2 ha3 hbb1
              go_wp2_with fail
              refine (specHoldsAt_any w40 HT.out HF.out HAV.out).mono ?_
              rintro e w41 ⟨rfl, hb41⟩
              rw [HA1.out.1, HA1.out.2]
              have hz41 := hb41.size
              replace t0 := (cellB hb41 (by omega)).trans t0
              replace t1 := (cellB hb41 (by omega)).trans t1
              replace f0 := (cellB hb41 (by omega)).trans f0
              replace f1 := (cellB hb41 (by omega)).trans f1
              replace f2 := (cellB hb41 (by omega)).trans f2
              replace g0 := (cellB hb41 (by omega)).trans g0
              replace g1 := (cellB hb41 (by omega)).trans g1
              replace g2 := (cellB hb41 (by omega)).trans g2
              replace d0 := (cellB hb41 (by omega)).trans d0
              replace d1 := (cellB hb41 (by omega)).trans d1
              replace H0 := Lib.hid (H0.out.below hb41)
              replace H1 := Lib.hid (H1.out.below hb41)
              replace HT := Lib.hid (HT.out.below hb41)
              replace HF := Lib.hid (HF.out.below hb41)
              replace HG := Lib.hid (HG.out.below hb41)
              replace HD := Lib.hid (HD.out.below hb41)
              replace HAV := Lib.hid (HAV.out.below hb41)
              have hbw41 := bthen hbw40 hb41
              go_wp2_with fail
              refine (specHoldsAt_any w41 HT.out HG.out HAV.out).mono ?_
              rintro e w42 ⟨rfl, hb42⟩
              rw [HA2.out.1, HA2.out.2]
              have hz42 := hb42.size
              replace t0 := (cellB hb42 (by omega)).trans t0
              replace t1 := (cellB hb42 (by omega)).trans t1
              replace f0 := (cellB hb42 (by omega)).trans f0
              replace f1 := (cellB hb42 (by omega)).trans f1
              replace f2 := (cellB hb42 (by omega)).trans f2
              replace g0 := (cellB hb42 (by omega)).trans g0
              replace g1 := (cellB hb42 (by omega)).trans g1
              replace g2 := (cellB hb42 (by omega)).trans g2
              replace d0 := (cellB hb42 (by omega)).trans d0
              replace d1 := (cellB hb42 (by omega)).trans d1
              replace H0 := Lib.hid (H0.out.below hb42)
              replace H1 := Lib.hid (H1.out.below hb42)
              replace HT := Lib.hid (HT.out.below hb42)
              replace HF := Lib.hid (HF.out.below hb42)
              replace HG := Lib.hid (HG.out.below hb42)
              replace HD := Lib.hid (HD.out.below hb42)
              replace HAV := Lib.hid (HAV.out.below hb42)
              have hbw42 := bthen hbw41 hb42
              cases bb1
              ·go_wp2_with fail
               go_meet
               case rel => exact ⟨rfl, bthen (hb41) hb42⟩
              ·go_wp2_with fail
               go_meet
               case rel => exact ⟨rfl, bthen (hb41) hb42⟩
           case rest =>
            as_aux_lemma =>
             obtain ⟨rfl, hb41⟩ := hcut
             obtain ⟨w41, rfl⟩ : ∃ x : World, x = wc := ⟨_, rfl⟩
             have hz41 := hb41.size
             replace t0 := (cellB hb41 (by omega)).trans t0
             replace t1 := (cellB hb41 (by omega)).trans t1
             replace f0 := (cellB hb41 (by omega)).trans f0
             replace f1 := (cellB hb41 (by omega)).trans f1
             replace f2 := (cellB hb41 (by omega)).trans f2
             replace g0 := (cellB hb41 (by omega)).trans g0
             replace g1 := (cellB hb41 (by omega)).trans g1
             replace g2 := (cellB hb41 (by omega)).trans g2
             replace d0 := (cellB hb41 (by omega)).trans d0
             replace d1 := (cellB hb41 (by omega)).trans d1
             replace H0 := Lib.hid (H0.out.below hb41)
             replace H1 := Lib.hid (H1.out.below hb41)
             replace HT := Lib.hid (HT.out.below hb41)
             replace HF := Lib.hid (HF.out.below hb41)
             replace HG := Lib.hid (HG.out.below hb41)
             replace HD := Lib.hid (HD.out.below hb41)
             replace HAV := Lib.hid (HAV.out.below hb41)
             have hbw41 := bthen hbw40 hb41
             clear HA3
             clear g0 g1 g2
             clear HG HAV
             go_wp2_with fail
             have hpt := P6Tuple_any w41 H1.out (s := t.1) (ar := 2) hs4 (by omega)
             rw [show ((2 : Nat) : Int) = 2 from rfl] at hpt
             refine (hpt).mono ?_
             rintro e w42 ⟨u9, tu, rfl, hf, htp, hb42⟩
             obtain ⟨tua, tuc, rfl⟩ := fr_slice hf
             have HTU := Lib.hid hf.rd
             have HTL : Hid (tu.length = 2) := htp.1
             have HAT := Lib.hid (HATU.out tu htp)
             clear hf hpt htp HATU
             have hz42 := hb42.size
             replace t0 := (cellB hb42 (by omega)).trans t0
             replace t1 := (cellB hb42 (by omega)).trans t1
             replace f0 := (cellB hb42 (by omega)).trans f0
             replace f1 := (cellB hb42 (by omega)).trans f1
             replace f2 := (cellB hb42 (by omega)).trans f2
             replace d0 := (cellB hb42 (by omega)).trans d0
             replace d1 := (cellB hb42 (by omega)).trans d1
             replace H0 := Lib.hid (H0.out.below hb42)
             replace H1 := Lib.hid (H1.out.below hb42)
             replace HT := Lib.hid (HT.out.below hb42)
             replace HF := Lib.hid (HF.out.below hb42)
             replace HD := Lib.hid (HD.out.below hb42)
             have hbw42 := bthen hbw41 hb42
             go_wp2_with fail
             have HAT1 := Lib.hid (And.intro HAT.out.1 HAT.out.2.1)
             have HAT2 := Lib.hid HAT.out.2.2
             clear HAT
             obtain ⟨hb5, hhb5⟩ : ∃ q : Bool, tb (tu ∈ V.2) = q := ⟨_, rfl⟩
             have HHB := Lib.hid hhb5
             rw [hhb5] at HAT1 HAT2
             clear hhb5
             refine (HoldsAt_any w42 HT.out HF.out HTU.out).mono ?_
             rintro e w43 ⟨rfl, hb43⟩
             rw [HAT1.out.1, HAT1.out.2]
             have hz43 := hb43.size
             replace t0 := (cellB hb43 (by omega)).trans t0
             replace t1 := (cellB hb43 (by omega)).trans t1
             replace f0 := (cellB hb43 (by omega)).trans f0
             replace f1 := (cellB hb43 (by omega)).trans f1
             replace f2 := (cellB hb43 (by omega)).trans f2
             replace d0 := (cellB hb43 (by omega)).trans d0
             replace d1 := (cellB hb43 (by omega)).trans d1
             replace H0 := Lib.hid (H0.out.below hb43)
             replace H1 := Lib.hid (H1.out.below hb43)
             replace HT := Lib.hid (HT.out.below hb43)
             replace HF := Lib.hid (HF.out.below hb43)
             replace HD := Lib.hid (HD.out.below hb43)
             replace HTU := Lib.hid (HTU.out.below hb43)
             have hbw43 := bthen hbw42 hb43
             go_wp2_with fail
             have hwa := WitnessAt_any w43 HT.out HF.out HTU.out
             generalize waV t f tu = wv at hwa HAT2
             generalize waC t f tu = C4 at hwa HAT2
             refine (hwa).mono ?_
             rintro e w44 ⟨u8, rfl, hf, hb44⟩
             obtain ⟨wva, wvc, rfl⟩ := fr_slice hf
             have HWV := Lib.hid hf.rd
             clear hf hwa HAT1
             have hz44 := hb44.size
             replace t0 := (cellB hb44 (by omega)).trans t0
             replace t1 := (cellB hb44 (by omega)).trans t1
             replace f0 := (cellB hb44 (by omega)).trans f0
             replace f1 := (cellB hb44 (by omega)).trans f1
             replace f2 := (cellB hb44 (by omega)).trans f2
             replace d0 := (cellB hb44 (by omega)).trans d0
             replace d1 := (cellB hb44 (by omega)).trans d1
             replace H0 := Lib.hid (H0.out.below hb44)
             replace H1 := Lib.hid (H1.out.below hb44)
             replace HT := Lib.hid (HT.out.below hb44)
             replace HF := Lib.hid (HF.out.below hb44)
             replace HD := Lib.hid (HD.out.below hb44)
             replace HTU := Lib.hid (HTU.out.below hb44)
             have hbw44 := bthen hbw43 hb44
             go_wp2_with fail
             refine (specHasTupleX_any w44 HD.out HTU.out HVO.out).mono ?_
             rintro e w45 ⟨rfl, hb45⟩
             rw [HHB.out]
             have hz45 := hb45.size
             replace t0 := (cellB hb45 (by omega)).trans t0
             replace t1 := (cellB hb45 (by omega)).trans t1
             replace f0 := (cellB hb45 (by omega)).trans f0
             replace f1 := (cellB hb45 (by omega)).trans f1
             replace f2 := (cellB hb45 (by omega)).trans f2
             replace d0 := (cellB hb45 (by omega)).trans d0
             replace d1 := (cellB hb45 (by omega)).trans d1
             replace H0 := Lib.hid (H0.out.below hb45)
             replace H1 := Lib.hid (H1.out.below hb45)
             replace HT := Lib.hid (HT.out.below hb45)
             replace HF := Lib.hid (HF.out.below hb45)
             replace HD := Lib.hid (HD.out.below hb45)
             replace HTU := Lib.hid (HTU.out.below hb45)
             replace HWV := Lib.hid (HWV.out.below hb45)
             have hbw45 := bthen hbw44 hb45
             rcases HAT2.out with ⟨hc, hq, hwl, hwt⟩ | ⟨hc, hq⟩
             ·subst hc
              subst hq
              have hm2 : 2 ≤ wv.length := by have h1 := congrArg List.length hwt; rw [List.length_take, HTL.out] at h1; omega
              obtain ⟨_, _, hwx, hwc1, hwc2, hwc3⟩ := ints_ex HWV.out
              simp only [List.cons.injEq, Value.slice.injEq, and_true, true_and] at hwx
              obtain ⟨rfl, rfl⟩ := hwx
              obtain ⟨wb, wo, rfl, -, -⟩ := hwc3 (by omega)
              have HW2 : Hid (intsT.Rd w45 [.slice (some ⟨wb, wo, none⟩) 2 wvc] tu) := by
               have h5 := rd_sub HWV.out (i := 0) (m := 2) (c' := wvc) (by omega) (by omega) (by omega)
               unfold Hid
               rw [← hwt]
               simpa using h5
              have hc2 : (2 : Int) ≤ (wvc : Int) := by omega
              have hc2n : 2 ≤ wvc := by omega
              have hwl2 : (((wv.length : Nat) : Int) == f.2.1) = true := beq_iff_eq.2 hwl
              clear hwt hwc1 hwc2 hwc3
              go_wp2_with fail
              refine (SameNumbers_any w45 HW2.out HTU.out).mono ?_
              rintro e w46 ⟨rfl, hb46⟩
              rw [show eqB tu tu = true from eqB_true rfl]
              have hz46 := hb46.size
              replace t0 := (cellB hb46 (by omega)).trans t0
              replace t1 := (cellB hb46 (by omega)).trans t1
              replace f0 := (cellB hb46 (by omega)).trans f0
              replace f1 := (cellB hb46 (by omega)).trans f1
              replace f2 := (cellB hb46 (by omega)).trans f2
              replace d0 := (cellB hb46 (by omega)).trans d0
              replace d1 := (cellB hb46 (by omega)).trans d1
              replace H0 := Lib.hid (H0.out.below hb46)
              replace H1 := Lib.hid (H1.out.below hb46)
              replace HT := Lib.hid (HT.out.below hb46)
              replace HF := Lib.hid (HF.out.below hb46)
              replace HD := Lib.hid (HD.out.below hb46)
              replace HTU := Lib.hid (HTU.out.below hb46)
              replace HWV := Lib.hid (HWV.out.below hb46)
              have hbw46 := bthen hbw45 hb46
              go_wp2_with fail
              go_ret
              exact ⟨rfl, hbw46⟩
             ·subst hc
              subst hq
              go_wp2_with fail
              go_ret
              exact ⟨rfl, hbw45⟩
end Go.Proofs.YtnhdohednekhjaaGreatDoor
