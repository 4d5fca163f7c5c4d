/-
 The law FnReplaced, walked: its contract. Printed by gen_wrep.py.
-/
import Derived.Test.YtajmjfbejfiipaaGreatQAJ
import Derived.Test.YtajmjfbejfiipaaGreatQBA
import Derived.Test.YtajmjfbejfiipaaGreatQAH
namespace Go.Proofs.YtajmjfbejfiipaaGreat
open Go.RowKit Go.Sort
theorem f6big_any (w : World) {v : Value} {xs : List Int} (h : bytesT.Rd w [v] xs) : Calls Tryz.prog 26 #[v] w fun e w' => ∃ b, e = .returned (.bool b) ∧ w = w' := by
 obtain ⟨ad, cap, rfl⟩ := rd_slice h
 clear h
 cases hb : decide ((4096 : Int) < ((xs.length : Nat) : Int))
 all_goals
  go_enter Tryz.func26, Tryz.ntmps26
  go_wp2
  go_ret
  exact ⟨_, rfl, rfl⟩
/-- something described by a property alone -/
theorem st_ex {α : Type} {tg : Tag} {Φ : α → OP} (h : ∀ x, StG tg (Φ x)) : StG tg (fun o v W => ∃ x, Φ x o v W) := by
 cases tg
 ·exact ⟨⟨fun o v w1 w2 ⟨x, hx⟩ hb => ⟨x, (h x).1.1 o v w1 w2 hx hb⟩, fun v w1 w2 ⟨x, hx⟩ hb => ⟨x, (h x).1.2 v w1 w2 hx hb⟩⟩, fun b v w1 w2 ⟨x, hx⟩ hb => ⟨x, (h x).2 b v w1 w2 hx hb⟩⟩
 ·exact ⟨⟨fun o v w1 w2 ⟨x, hx⟩ hb => ⟨x, (h x).1.1 o v w1 w2 hx hb⟩, fun v w1 w2 ⟨x, hx⟩ hb => ⟨x, (h x).1.2 v w1 w2 hx hb⟩⟩, fun b v w1 w2 ⟨x, hx⟩ hb => ⟨x, (h x).2 b v w1 w2 hx hb⟩⟩
 ·exact ⟨⟨fun o v w1 w2 ⟨x, hx⟩ hb => ⟨x, (h x).1.1 o v w1 w2 hx hb⟩, fun v w1 w2 ⟨x, hx⟩ hb => ⟨x, (h x).1.2 v w1 w2 hx hb⟩⟩, fun o v v' w ⟨x, hx⟩ => ⟨x, (h x).2 o v v' w hx⟩⟩
theorem st_and {tg : Tag} {p : Prop} {Φ : OP} (h : StG tg Φ) : StG tg (fun o v W => p ∧ Φ o v W) := by
 cases tg
 ·exact ⟨⟨fun o v w1 w2 ⟨hp, hx⟩ hb => ⟨hp, h.1.1 o v w1 w2 hx hb⟩, fun v w1 w2 ⟨hp, hx⟩ hb => ⟨hp, h.1.2 v w1 w2 hx hb⟩⟩, fun b v w1 w2 ⟨hp, hx⟩ hb => ⟨hp, h.2 b v w1 w2 hx hb⟩⟩
 ·exact ⟨⟨fun o v w1 w2 ⟨hp, hx⟩ hb => ⟨hp, h.1.1 o v w1 w2 hx hb⟩, fun v w1 w2 ⟨hp, hx⟩ hb => ⟨hp, h.1.2 v w1 w2 hx hb⟩⟩, fun b v w1 w2 ⟨hp, hx⟩ hb => ⟨hp, h.2 b v w1 w2 hx hb⟩⟩
 ·exact ⟨⟨fun o v w1 w2 ⟨hp, hx⟩ hb => ⟨hp, h.1.1 o v w1 w2 hx hb⟩, fun v w1 w2 ⟨hp, hx⟩ hb => ⟨hp, h.1.2 v w1 w2 hx hb⟩⟩, fun o v v' w ⟨hp, hx⟩ => ⟨hp, h.2 o v v' w hx⟩⟩
/-- a number between bounds -/
def numO (lo hi : Int) : OP := fun o v W => ∃ x : Int, (lo ≤ x ∧ x ≤ hi) ∧ exO (.int .i64 x) o v W
theorem st_numO {lo hi : Int} : StG .plain (numO lo hi) := st_ex fun _ => st_and st_exO
/-- a new formula that fits a template -/
def fmO (t : Tpl) (base : Nat) : OP := fun o v W => ∃ f : Frm, frmOk t f ∧ frAO frmT base f o v W
theorem st_fmO {t : Tpl} {base : Nat} : StG .plain (fmO t base) := st_ex fun _ => st_and st_frAO
def fmHO (t : Tpl) (base : Nat) : OP := fun o v W => ∃ f : Frm, frmOk t f ∧ heldO frmT base f o v W
theorem st_fmHO {t : Tpl} {base : Nat} : StG .store (fmHO t base) := st_ex fun _ => st_and st_heldO
set_option maxHeartbeats 25600000 in
set_option maxRecDepth 100000 in
theorem fnReplaced_any (w : World) {v0 v1 : Value} {x0 x1 : List Int} (h0 : bytesT.Rd w [v0] x0) (h1 : bytesT.Rd w [v1] x1) :
  Calls Tryz.prog 4 #[v0, v1] w fun e w' => e = .returned (.bool true) ∧ Below w.heap.size w w' := by
 obtain ⟨a0, k0, rfl⟩ := rd_slice h0
 obtain ⟨a1, k1, rfl⟩ := rd_slice h1
 have H0 := Lib.hid h0
 have H1 := Lib.hid h1
 have hbw0 : Below w.heap.size w w := Below.refl _ _
 clear h0 h1
 go_enter Tryz.func4, Tryz.ntmps4
 go_wp2_with fail
 refine (f6big_any w H0.out).mono ?_
 rintro e _ ⟨b, rfl, rfl⟩
 cases b
 rotate_left
 ·go_wp2_with fail
  go_ret
  exact ⟨rfl, Below.refl _ _⟩
 go_wp2_with fail
 refine (f6big_any w H1.out).mono ?_
 rintro e _ ⟨b, rfl, rfl⟩
 cases b
 rotate_left
 ·go_wp2_with fail
  go_ret
  exact ⟨rfl, Below.refl _ _⟩
 go_wp2_with fail
 refine (P6Pick_any w H0.out (n := 2) (by omega)).mono ?_
 rintro e w1 ⟨x, rfl, hx0, hx1, hb1⟩
 have hz1 := hb1.size
 replace H0 := Lib.hid (H0.out.below hb1)
 replace H1 := Lib.hid (H1.out.below hb1)
 have hbw1 := bthen hbw0 hb1
 obtain ⟨s, hs⟩ : ∃ s : Int, 2 + x = s := ⟨_, rfl⟩
 have hwr : IntKind.i64.wrap (2 + x) = s := by rw [hs]; exact wrap_small (by omega) (by omega)
 have hs4 : 1 ≤ s ∧ s ≤ 4 := by omega
 clear hs
 go_wp2_with fail
 refine (P6Pick_any w1 H1.out (n := 2) (by omega)).mono ?_
 rintro e w2 ⟨y, rfl, hy0, hy1, hb2⟩
 have hz2 := hb2.size
 replace H0 := Lib.hid (H0.out.below hb2)
 replace H1 := Lib.hid (H1.out.below hb2)
 have hbw2 := bthen hbw1 hb2
 obtain ⟨aop, haop⟩ : ∃ aop : Nat, 1 + y = (aop : Int) := ⟨(1 + y).toNat, by omega⟩
 have hwq : IntKind.i64.wrap (1 + y) = (aop : Int) := by rw [haop]; exact wrap_small (by omega) (by omega)
 have haop2 : 1 ≤ aop ∧ aop ≤ 2 := by omega
 clear haop
 go_wp2_with fail
 clear hwr hwq
 refine (P6Op_any w2 H0.out (s := s) (ar := aop) hs4 haop2).mono ?_
 rintro e w3 ⟨cs, op, rfl, hf, hok, hoa, hb3⟩
 obtain ⟨oa, oc, rfl⟩ := fr_pair hf
 have HOP := Lib.hid hf.rd
 have HOK := Lib.hid hok
 clear hf hok hoa
 have hz3 := hb3.size
 replace H0 := Lib.hid (H0.out.below hb3)
 replace H1 := Lib.hid (H1.out.below hb3)
 have hbw3 := bthen hbw2 hb3
 go_wp2_with fail
 generalize hW4 : World.alloc w3 _ = w4
 have hb4 : Below w3.heap.size w3 w4 := hW4 ▸ bA
 have hy4 : w3.heap.size + 1 ≤ w4.heap.size := by rw [← hW4]; simp
 have p0 : w4.cell? ⟨w3.heap.size, 0, none⟩ = some (.int .i64 op.1) := by rw [← hW4]; simp [go_sem]
 have p1 : w4.cell? ⟨w3.heap.size, 1, none⟩ = some (.slice oa op.2.length oc) := by rw [← hW4]; simp [go_sem]
 clear hW4
 have hz4 := hb4.size
 replace H0 := Lib.hid (H0.out.below hb4)
 replace H1 := Lib.hid (H1.out.below hb4)
 replace HOP := Lib.hid (HOP.out.below hb4)
 have hbw4 := bthen hbw3 hb4
 refine (P6Kept_any w4 H1.out HOP.out HOK.out hs4).mono ?_
 rintro e w5 ⟨cs, t, rfl, hf, htok, hts, htl, hkp, hb5⟩
 obtain ⟨ta, tc, rfl⟩ := fr_pair hf
 have HT := Lib.hid hf.rd
 have HTOK := Lib.hid htok
 have HKP := Lib.hid hkp
 subst hts
 clear hf htok hkp
 have hz5 := hb5.size
 replace p0 := (cellB hb5 (by omega)).trans p0
 replace p1 := (cellB hb5 (by omega)).trans p1
 replace H0 := Lib.hid (H0.out.below hb5)
 replace H1 := Lib.hid (H1.out.below hb5)
 replace HOP := Lib.hid (HOP.out.below hb5)
 have hbw5 := bthen hbw4 hb5
 go_wp2_with fail
 generalize hW6 : World.alloc w5 _ = w6
 have hb6 : Below w5.heap.size w5 w6 := hW6 ▸ bA
 have hy6 : w5.heap.size + 1 ≤ w6.heap.size := by rw [← hW6]; simp
 have t0 : w6.cell? ⟨w5.heap.size, 0, none⟩ = some (.int .i64 t.1) := by rw [← hW6]; simp [go_sem]
 have t1 : w6.cell? ⟨w5.heap.size, 1, none⟩ = some (.slice ta t.2.length tc) := by rw [← hW6]; simp [go_sem]
 clear hW6
 have hz6 := hb6.size
 replace p0 := (cellB hb6 (by omega)).trans p0
 replace p1 := (cellB hb6 (by omega)).trans p1
 replace H0 := Lib.hid (H0.out.below hb6)
 replace H1 := Lib.hid (H1.out.below hb6)
 replace HOP := Lib.hid (HOP.out.below hb6)
 replace HT := Lib.hid (HT.out.below hb6)
 have hbw6 := bthen hbw5 hb6
 have hpf := P6Formula_any w6 H0.out HT.out HTOK.out (free := 2) (by omega)
 rw [show ((2 : Nat) : Int) = 2 from rfl] at hpf
 refine (hpf).mono ?_
 rintro e w7 ⟨cs, f, rfl, hf, hfok, -, -, -, hb7⟩
 obtain ⟨fa, fc, rfl⟩ := fr_trip hf
 have HF := Lib.hid hf.rd
 have HFOK := Lib.hid hfok
 clear hf hfok hpf
 have hz7 := hb7.size
 replace p0 := (cellB hb7 (by omega)).trans p0
 replace p1 := (cellB hb7 (by omega)).trans p1
 replace t0 := (cellB hb7 (by omega)).trans t0
 replace t1 := (cellB hb7 (by omega)).trans t1
 replace H0 := Lib.hid (H0.out.below hb7)
 replace H1 := Lib.hid (H1.out.below hb7)
 replace HOP := Lib.hid (HOP.out.below hb7)
 replace HT := Lib.hid (HT.out.below hb7)
 have hbw7 := bthen hbw6 hb7
 have ta_t0 : ∀ o : Obj, (World.alloc w7 o).cell? ⟨w5.heap.size, 0, none⟩ = some (.int .i64 t.1) := fun o => (cellB bA (by omega)).trans t0
 have ta_t1 : ∀ o : Obj, (World.alloc w7 o).cell? ⟨w5.heap.size, 1, none⟩ = some (.slice ta t.2.length tc) := fun o => (cellB bA (by omega)).trans t1
 go_wp2_with fail
 clear ta_t0 ta_t1
 generalize hW8 : World.alloc w7 _ = w8
 have hb8 : Below w7.heap.size w7 w8 := hW8 ▸ bA
 have hy8 : w7.heap.size + 1 ≤ w8.heap.size := by rw [← hW8]; simp
 have f0 : w8.cell? ⟨w7.heap.size, 0, none⟩ = some (.int .i64 f.1) := by rw [← hW8]; simp [go_sem]
 have f1 : w8.cell? ⟨w7.heap.size, 1, none⟩ = some (.int .i64 f.2.1) := by rw [← hW8]; simp [go_sem]
 have f2 : w8.cell? ⟨w7.heap.size, 2, none⟩ = some (.slice fa f.2.2.length fc) := by rw [← hW8]; simp [go_sem]
 clear hW8
 have hz8 := hb8.size
 replace p0 := (cellB hb8 (by omega)).trans p0
 replace p1 := (cellB hb8 (by omega)).trans p1
 replace t0 := (cellB hb8 (by omega)).trans t0
 replace t1 := (cellB hb8 (by omega)).trans t1
 replace H0 := Lib.hid (H0.out.below hb8)
 replace H1 := Lib.hid (H1.out.below hb8)
 replace HOP := Lib.hid (HOP.out.below hb8)
 replace HT := Lib.hid (HT.out.below hb8)
 replace HF := Lib.hid (HF.out.below hb8)
 have hbw8 := bthen hbw7 hb8
 have hvo := ValueOf_any w8 HT.out HF.out
 rw [(vo_yes (tb_true HFOK.out)).1, (vo_yes (tb_true HFOK.out)).2] at hvo
 have HKV := Lib.hid (tb_true (keep_value HFOK.out HOK.out HKP.out))
 have HVOK := Lib.hid (va_ok HFOK.out)
 generalize vaR t f = V at hvo HKV HVOK
 refine (hvo).mono ?_
 rintro e w9 ⟨cs, rfl, hf, hb9⟩
 obtain ⟨va, vc, rfl⟩ := fr_pair hf
 have HV := Lib.hid hf.rd
 clear hf hvo
 have hz9 := hb9.size
 replace p0 := (cellB hb9 (by omega)).trans p0
 replace p1 := (cellB hb9 (by omega)).trans p1
 replace t0 := (cellB hb9 (by omega)).trans t0
 replace t1 := (cellB hb9 (by omega)).trans t1
 replace f0 := (cellB hb9 (by omega)).trans f0
 replace f1 := (cellB hb9 (by omega)).trans f1
 replace f2 := (cellB hb9 (by omega)).trans f2
 replace H0 := Lib.hid (H0.out.below hb9)
 replace H1 := Lib.hid (H1.out.below hb9)
 replace HOP := Lib.hid (HOP.out.below hb9)
 replace HT := Lib.hid (HT.out.below hb9)
 replace HF := Lib.hid (HF.out.below hb9)
 have hbw9 := bthen hbw8 hb9
 clear f0 f1 f2
 clear HF
 have ta_p0 : ∀ o : Obj, (World.alloc w9 o).cell? ⟨w3.heap.size, 0, none⟩ = some (.int .i64 op.1) := fun o => (cellB bA (by omega)).trans p0
 have ta_p1 : ∀ o : Obj, (World.alloc w9 o).cell? ⟨w3.heap.size, 1, none⟩ = some (.slice oa op.2.length oc) := fun o => (cellB bA (by omega)).trans p1
 go_wp2_with fail
 clear ta_p0 ta_p1
 generalize hW10 : World.alloc w9 _ = w10
 have hb10 : Below w9.heap.size w9 w10 := hW10 ▸ bA
 have hy10 : w9.heap.size + 1 ≤ w10.heap.size := by rw [← hW10]; simp
 have v0 : w10.cell? ⟨w9.heap.size, 0, none⟩ = some (.int .i64 V.1) := by rw [← hW10]; simp [go_sem]
 have v1 : w10.cell? ⟨w9.heap.size, 1, none⟩ = some (.slice va V.2.length vc) := by rw [← hW10]; simp [go_sem]
 clear hW10
 have hz10 := hb10.size
 replace p0 := (cellB hb10 (by omega)).trans p0
 replace p1 := (cellB hb10 (by omega)).trans p1
 replace t0 := (cellB hb10 (by omega)).trans t0
 replace t1 := (cellB hb10 (by omega)).trans t1
 replace H0 := Lib.hid (H0.out.below hb10)
 replace H1 := Lib.hid (H1.out.below hb10)
 replace HOP := Lib.hid (HOP.out.below hb10)
 replace HT := Lib.hid (HT.out.below hb10)
 replace HV := Lib.hid (HV.out.below hb10)
 have hbw10 := bthen hbw9 hb10
 refine (Keeps_any w10 (f := op) (r := V) HOP.out HV.out (s := t.1) HVOK.out HOK.out).mono ?_
 rintro e w11 ⟨rfl, hb11⟩
 rw [HKV.out]
 have hz11 := hb11.size
 replace p0 := (cellB hb11 (by omega)).trans p0
 replace p1 := (cellB hb11 (by omega)).trans p1
 replace t0 := (cellB hb11 (by omega)).trans t0
 replace t1 := (cellB hb11 (by omega)).trans t1
 replace v0 := (cellB hb11 (by omega)).trans v0
 replace v1 := (cellB hb11 (by omega)).trans v1
 replace H0 := Lib.hid (H0.out.below hb11)
 replace H1 := Lib.hid (H1.out.below hb11)
 replace HOP := Lib.hid (HOP.out.below hb11)
 replace HT := Lib.hid (HT.out.below hb11)
 replace HV := Lib.hid (HV.out.below hb11)
 have hbw11 := bthen hbw10 hb11
 clear p0 p1 v0 v1
 clear HOP HV
 go_wp2_with fail
 refine wp_region_box [(.plain, exO (.slice a1 x1.length k1)), (.plain, exO (.agg #[.int .i64 t.1, .slice ta t.2.length tc])), (.plain, exO (.slice a0 x0.length k0)), (.plain, numO 0 1), (.plain, numO 1 2), (.plain, fmO t w11.heap.size), (.alloc, boxO 3), (.store, fmHO t w11.heap.size)] (by kernel_rfl) (by kernel_rfl) ⟨st_exO, st_exO, st_exO, st_numO, st_numO, st_fmO, st_boxO, st_fmHO, trivial⟩ ⟨?j8_0, ?j8_1, ?j8_2, ?j8_3, ?j8_4, ?j8_5, ?j8_6, ?j8_7, trivial⟩ ?hQ8
 case j8_0 =>
  intro a' w' ob hb hbo hal hd
  have e0 : a'.tmps[1]?.getD undef = .slice a1 x1.length k1 := ev (slot_o2 hd 1 rfl rfl)
  go_simp
  exact ⟨_, ⟨rfl, Below.refl _ _⟩, rfl⟩
 case j8_1 =>
  intro a' w' ob hb hbo hal hd
  have e0 : a'.tmps[7]?.getD undef = .pointer (some ⟨w5.heap.size, 0, none⟩) := ev (slot_o2 hd 7 rfl rfl)
  have q0 := (cellB hb (show w5.heap.size < w11.heap.size by omega)).trans t0
  have q1 := (cellB hb (show w5.heap.size < w11.heap.size by omega)).trans t1
  go_simp
  exact ⟨_, ⟨rfl, Below.refl _ _⟩, rfl⟩
 case j8_2 =>
  intro a' w' ob hb hbo hal hd
  have e0 : a'.tmps[0]?.getD undef = .slice a0 x0.length k0 := ev (slot_o2 hd 0 rfl rfl)
  go_simp
  exact ⟨_, ⟨rfl, Below.refl _ _⟩, rfl⟩
 case j8_3 =>
  intro a' w' ob hb hbo hal hd
  have e0 := ev (slot_w2 hd 80 (exO (.slice a0 x0.length k0)) rfl rfl)
  go_simp
  exact ⟨rfl, Below.refl _ _, (P6Pick_any w' (H0.out.below hb) (n := 2) (by omega)).mono fun e w'' ⟨x, he, hx0, hx1, hb2⟩ => ⟨_, he, hb2, x, ⟨hx0, by omega⟩, rfl⟩⟩
 case j8_4 =>
  intro a' w' ob hb hbo hal hd
  obtain ⟨x, hx, e⟩ := slot_w2 hd 81 (numO 0 1) rfl rfl
  have e0 := ev e
  have hw : IntKind.i64.wrap (1 + x) = 1 + x := wrap_small (by omega) (by omega)
  go_simp
  exact ⟨_, ⟨rfl, Below.refl _ _⟩, 1 + x, ⟨by omega, by omega⟩, rfl⟩
 case j8_5 =>
  intro a' w' ob hb hbo hal hd
  have e0 := ev (slot_w2 hd 78 (exO (.slice a1 x1.length k1)) rfl rfl)
  have e1 := ev (slot_w2 hd 79 (exO (.agg #[.int .i64 t.1, .slice ta t.2.length tc])) rfl rfl)
  obtain ⟨x, hx, e⟩ := slot_w2 hd 82 (numO 1 2) rfl rfl
  obtain ⟨fr, rfl⟩ : ∃ fr : Nat, x = (fr : Int) := ⟨x.toNat, by omega⟩
  have e2 := ev e
  go_simp
  exact ⟨rfl, Below.refl _ _, (P6Formula_any w' (H1.out.below hb) (HT.out.below hb) HTOK.out (free := fr) (by omega)).mono fun e w'' ⟨cs, f, he, hf, hfok, _, _, _, hb2⟩ => by
   obtain ⟨fp, h1, h2, h3, h4⟩ := hf
   exact ⟨_, he, hb2, f, hfok, cs, fp, rfl, h1, h2, fun k hk => Nat.le_trans hb.size (h3 k hk), h4, fun k hk e => by have := hbo k e; have := h3 k hk; omega⟩⟩
 case j8_6 =>
  intro a' w' ob hb hbo hal hd
  obtain rfl := hal rfl
  go_simp
  exact ⟨_, ⟨rfl, by simp, bA⟩, _, rfl, rfl, by simp, box3⟩
 case j8_7 =>
  intro a' w' ob hb hbo hal hd
  obtain ⟨bb, rfl, e10, hbb, hcl⟩ := slot_w2 hd 13 (boxO 3) rfl rfl
  have e10' := ev e10
  obtain ⟨f, hfok, d47⟩ := slot_w2 hd 83 (fmO t w11.heap.size) rfl rfl
  obtain ⟨cs47, fp47, e47, hr47, hn47, hg47, hu47, ho47⟩ := d47
  obtain ⟨u47, rfl, hr47', -⟩ := rd_trip hr47
  obtain ⟨ad47', cap47', rfl⟩ := rd_slice ⟨_, hr47'⟩
  have e47' := ev e47
  obtain ⟨⟨y0, c0⟩, f0⟩ := hcl 0 (by decide)
  obtain ⟨⟨y1, c1⟩, f1⟩ := hcl 1 (by decide)
  obtain ⟨⟨y2, c2⟩, f2⟩ := hcl 2 (by decide)
  go_simp
  obtain ⟨o', s1, s2⟩ := held3 c0 c1 c2 hr47 hn47 hg47 hu47 ho47 undef
  exact ⟨o', s1, f, hfok, s2⟩
 intro vs8 w12 ob8 hb12 hbo8 J0
 obtain ⟨v8_0, _, rfl, q0, J1⟩ := HAll2_cons J0
 obtain ⟨v8_1, _, rfl, q1, J2⟩ := HAll2_cons J1
 obtain ⟨v8_2, _, rfl, q2, J3⟩ := HAll2_cons J2
 obtain ⟨v8_3, _, rfl, q3, J4⟩ := HAll2_cons J3
 obtain ⟨v8_4, _, rfl, q4, J5⟩ := HAll2_cons J4
 obtain ⟨v8_5, _, rfl, q5, J6⟩ := HAll2_cons J5
 obtain ⟨v8_6, _, rfl, q6, J7⟩ := HAll2_cons J6
 obtain ⟨v8_7, _, rfl, q7, J8⟩ := HAll2_cons J7
 obtain rfl := HAll2_nil J8
 obtain rfl := id q0
 obtain rfl := id q1
 obtain rfl := id q2
 obtain ⟨_, -, hq3⟩ := id q3
 obtain rfl := id hq3
 obtain ⟨_, -, hq4⟩ := id q4
 obtain rfl := id hq4
 obtain ⟨_, -, cs5, fp5, hq5, -⟩ := id q5
 obtain rfl := id hq5
 obtain ⟨bb, rfl, rfl, hltbb, -⟩ := id q6
 obtain ⟨g, hgok, _, cs, fpx, hob, hr1, hr2, hr3, hr4, -, kk⟩ := id q7
 simp only [Option.some.injEq] at hob
 subst hob
 have hcf : frmT.Fr w11.heap.size w12 cs g := ⟨fpx, hr1, hr2, hr3, hr4⟩
 obtain ⟨ga, gc, rfl⟩ := fr_trip hcf
 have g0 : w12.cell? ⟨bb, 0, none⟩ = some (.int .i64 g.1) := kk 0 (by simp)
 have g1 : w12.cell? ⟨bb, 1, none⟩ = some (.int .i64 g.2.1) := kk 1 (by simp)
 have g2 : w12.cell? ⟨bb, 2, none⟩ = some (.slice ga g.2.2.length gc) := kk 2 (by simp)
 have HG := Lib.hid hcf.rd
 have HGOK := Lib.hid hgok
 have hz12 := hb12.size
 replace t0 := (cellB hb12 (by omega)).trans t0
 replace t1 := (cellB hb12 (by omega)).trans t1
 replace H0 := Lib.hid (H0.out.below hb12)
 replace H1 := Lib.hid (H1.out.below hb12)
 replace HT := Lib.hid (HT.out.below hb12)
 have hbw12 := bthen hbw11 hb12
 clear kk hr1 hr2 hr3 hr4 hcf q0 q1 q2 q3 q4 q5 q6 q7 hq3 hq4 hq5 hgok
 simp only [putAll, Act.put]
 go_simp
 go_wp2_with fail
 have hxt := ExtendTemplate_any w12 HT.out HG.out
 rw [(xt_yes HGOK.out (by omega)).1, (xt_yes HGOK.out (by omega)).2] at hxt
 have HF1 : Hid (∀ h, frmOk (xtT t g) h → (repC (xtT t g) h t.2.length g = 0 ∨ repC (xtT t g) h t.2.length g = 3) ∧ (repC (xtT t g) h t.2.length g = 0 → frmOk t (rplV (xtT t g) h t.2.length g) ∧ (∀ a ∈ (rplV (xtT t g) h t.2.length g).2.2, a.1 ≠ (t.2.length : Int)) ∧ vaR t (rplV (xtT t g) h t.2.length g) = vaR (xtT t g) h)) := fun h hh => ⟨rep_code HGOK.out (by omega) hh, rep_value HGOK.out (by omega) hh⟩
 have HF2 := Lib.hid (atom_value HGOK.out (by omega))
 have HF3 := Lib.hid (xtT_ok HGOK.out (by omega))
 have HF4 : Hid ((xtT t g).2.length = t.2.length + 1 ∧ ∀ h : t.2.length < (xtT t g).2.length, (xtT t g).2[t.2.length] = vaR t g) := ⟨by simp [xtT], fun h => by simp [xtT]⟩
 generalize xtT t g = u at hxt HF1 HF2 HF3 HF4
 refine (hxt).mono ?_
 rintro e w13 ⟨cs, rfl, hf, hb13⟩
 obtain ⟨ua, uc, rfl⟩ := fr_pair hf
 have HU := Lib.hid hf.rd
 clear hf hxt
 have hz13 := hb13.size
 replace t0 := (cellB hb13 (by omega)).trans t0
 replace t1 := (cellB hb13 (by omega)).trans t1
 replace g0 := (cellB hb13 (by omega)).trans g0
 replace g1 := (cellB hb13 (by omega)).trans g1
 replace g2 := (cellB hb13 (by omega)).trans g2
 replace H0 := Lib.hid (H0.out.below hb13)
 replace H1 := Lib.hid (H1.out.below hb13)
 replace HT := Lib.hid (HT.out.below hb13)
 replace HG := Lib.hid (HG.out.below hb13)
 have hbw13 := bthen hbw12 hb13
 have ta_t0 : ∀ o : Obj, (World.alloc w13 o).cell? ⟨w5.heap.size, 0, none⟩ = some (.int .i64 t.1) := fun o => (cellB bA (by omega)).trans t0
 have ta_t1 : ∀ o : Obj, (World.alloc w13 o).cell? ⟨w5.heap.size, 1, none⟩ = some (.slice ta t.2.length tc) := fun o => (cellB bA (by omega)).trans t1
 have ta_g0 : ∀ o : Obj, (World.alloc w13 o).cell? ⟨bb, 0, none⟩ = some (.int .i64 g.1) := fun o => (cellB bA (by omega)).trans g0
 have ta_g1 : ∀ o : Obj, (World.alloc w13 o).cell? ⟨bb, 1, none⟩ = some (.int .i64 g.2.1) := fun o => (cellB bA (by omega)).trans g1
 have ta_g2 : ∀ o : Obj, (World.alloc w13 o).cell? ⟨bb, 2, none⟩ = some (.slice ga g.2.2.length gc) := fun o => (cellB bA (by omega)).trans g2
 go_wp2_with fail
 clear ta_t0 ta_t1 ta_g0 ta_g1 ta_g2
 generalize hW14 : World.alloc w13 _ = w14
 have hb14 : Below w13.heap.size w13 w14 := hW14 ▸ bA
 have hy14 : w13.heap.size + 1 ≤ w14.heap.size := by rw [← hW14]; simp
 have u0 : w14.cell? ⟨w13.heap.size, 0, none⟩ = some (.int .i64 u.1) := by rw [← hW14]; simp [go_sem]
 have u1 : w14.cell? ⟨w13.heap.size, 1, none⟩ = some (.slice ua u.2.length uc) := by rw [← hW14]; simp [go_sem]
 clear hW14
 have hz14 := hb14.size
 replace t0 := (cellB hb14 (by omega)).trans t0
 replace t1 := (cellB hb14 (by omega)).trans t1
 replace g0 := (cellB hb14 (by omega)).trans g0
 replace g1 := (cellB hb14 (by omega)).trans g1
 replace g2 := (cellB hb14 (by omega)).trans g2
 replace H0 := Lib.hid (H0.out.below hb14)
 replace H1 := Lib.hid (H1.out.below hb14)
 replace HT := Lib.hid (HT.out.below hb14)
 replace HG := Lib.hid (HG.out.below hb14)
 replace HU := Lib.hid (HU.out.below hb14)
 have hbw14 := bthen hbw13 hb14
 have hvo := specValueOf_any w14 HT.out HG.out
 rw [(vo_yes (tb_true HGOK.out)).1, (vo_yes (tb_true HGOK.out)).2] at hvo
 generalize vaR t g = VG at hvo HF2 HF4
 refine (hvo).mono ?_
 rintro e w15 ⟨cs, rfl, hf, hb15⟩
 obtain ⟨ga2, gc2, rfl⟩ := fr_pair hf
 have HVG := Lib.hid hf.rd
 clear hf hvo
 have hz15 := hb15.size
 replace t0 := (cellB hb15 (by omega)).trans t0
 replace t1 := (cellB hb15 (by omega)).trans t1
 replace g0 := (cellB hb15 (by omega)).trans g0
 replace g1 := (cellB hb15 (by omega)).trans g1
 replace g2 := (cellB hb15 (by omega)).trans g2
 replace u0 := (cellB hb15 (by omega)).trans u0
 replace u1 := (cellB hb15 (by omega)).trans u1
 replace H0 := Lib.hid (H0.out.below hb15)
 replace H1 := Lib.hid (H1.out.below hb15)
 replace HT := Lib.hid (HT.out.below hb15)
 replace HG := Lib.hid (HG.out.below hb15)
 replace HU := Lib.hid (HU.out.below hb15)
 have hbw15 := bthen hbw14 hb15
 go_wp2_with fail
 generalize hW16 : World.alloc w15 _ = w16
 have hb16 : Below w15.heap.size w15 w16 := hW16 ▸ bA
 have hy16 : w15.heap.size + 1 ≤ w16.heap.size := by rw [← hW16]; simp
 have v0 : w16.cell? ⟨w15.heap.size, 0, none⟩ = some (.int .i64 VG.1) := by rw [← hW16]; simp [go_sem]
 have v1 : w16.cell? ⟨w15.heap.size, 1, none⟩ = some (.slice ga2 VG.2.length gc2) := by rw [← hW16]; simp [go_sem]
 clear hW16
 have hz16 := hb16.size
 replace t0 := (cellB hb16 (by omega)).trans t0
 replace t1 := (cellB hb16 (by omega)).trans t1
 replace g0 := (cellB hb16 (by omega)).trans g0
 replace g1 := (cellB hb16 (by omega)).trans g1
 replace g2 := (cellB hb16 (by omega)).trans g2
 replace u0 := (cellB hb16 (by omega)).trans u0
 replace u1 := (cellB hb16 (by omega)).trans u1
 replace H0 := Lib.hid (H0.out.below hb16)
 replace H1 := Lib.hid (H1.out.below hb16)
 replace HT := Lib.hid (HT.out.below hb16)
 replace HG := Lib.hid (HG.out.below hb16)
 replace HU := Lib.hid (HU.out.below hb16)
 replace HVG := Lib.hid (HVG.out.below hb16)
 have hbw16 := bthen hbw15 hb16
 have hul : t.2.length < u.2.length := by rw [HF4.out.1]; omega
 obtain ⟨v9, hv9, -, hrels⟩ := pair_ex HU.out
 simp only [List.cons.injEq, true_and, and_true] at hv9
 rw [← hv9] at hrels
 obtain ⟨ad9, cp9, hr9, -, -, hrc⟩ := pairs_ex hrels
 simp only [List.cons.injEq, Value.slice.injEq, and_true, true_and] at hr9
 obtain ⟨rfl, rfl⟩ := hr9
 obtain ⟨ub, uo, rfl, hub, hrc⟩ := hrc (by omega)
 obtain ⟨ve, hve, hIe, e0, e1⟩ := hrc t.2.length hul
 rw [HF4.out.2 hul] at hve hIe e0
 obtain ⟨ea, ec, rfl⟩ := rd_slice hve
 have HE : Hid (relT.Rd w16 [.int .i64 VG.1, .slice ea VG.2.length ec] VG) := pair_mk hIe hve
 have HUL := Lib.hid HF4.out.1
 have hw1 : IntKind.i64.wrap ((t.2.length : Int) + 1) = (u.2.length : Int) := by rw [HUL.out]; exact (wrap_small (by omega) (by omega)).trans (by omega)
 clear hv9 hrels hrc hve hIe
 go_wp2_with fail
 refine wp_region_T (fun w' => w'.cell? ⟨w13.heap.size, 1, none⟩ = some (.slice (some ⟨ub, uo, none⟩) u.2.length uc) ∧ w'.cell? ⟨w5.heap.size, 1, none⟩ = some (.slice ta t.2.length tc) ∧ w'.cell? ⟨ub, uo + t.2.length * 2, none⟩ = some (.int .i64 VG.1) ∧ w'.cell? ⟨ub, uo + t.2.length * 2 + 1, none⟩ = some (.slice ea VG.2.length ec) ∧ w'.cell? ⟨w15.heap.size, 0, none⟩ = some (.int .i64 VG.1) ∧ w'.cell? ⟨w15.heap.size, 1, none⟩ = some (.slice ga2 VG.2.length gc2)) [] (by kernel_rfl) ⟨u1, t1, e0, e1, v0, v1⟩ (fun hHeld => ?_)
 refine wpAnyT_take (i := 0) (v := ?_) rfl (by as_aux_lemma => kernel_rfl) (fun _ _ _ h => h) (Or.inl ⟨by rfl, ?_⟩) (by assumption) ?_
 rotate_left
 ·(intro w hSw; (try dsimp only at hSw); go_simp <;> with_reducible rfl)
 go_simp
 refine wpAnyT_take (i := 1) (v := ?_) rfl (by as_aux_lemma => kernel_rfl) (fun _ _ _ h => h) (Or.inl ⟨by rfl, ?_⟩) (by assumption) ?_
 rotate_left
 ·(intro w hSw; (try dsimp only at hSw); go_simp <;> with_reducible rfl)
 go_simp
 refine wpAnyT_take (i := 2) (v := ?_) rfl (by as_aux_lemma => kernel_rfl) (fun _ _ _ h => h) (Or.inl ⟨by rfl, ?_⟩) (by assumption) ?_
 rotate_left
 ·(intro w hSw; (try dsimp only at hSw); go_simp <;> with_reducible rfl)
 go_simp
 refine wpAnyT_take (i := 3) (v := ?_) rfl (by as_aux_lemma => kernel_rfl) (fun _ _ _ h => h) (Or.inl ⟨by rfl, ?_⟩) (by assumption) ?_
 rotate_left
 ·(intro w hSw; (try dsimp only at hSw); go_simp <;> with_reducible rfl)
 go_simp
 refine wpAnyT_take (i := 4) (v := ?_) rfl (by as_aux_lemma => kernel_rfl) (fun _ _ _ h => h) (Or.inl ⟨by rfl, ?_⟩) (by assumption) ?_
 rotate_left
 ·(intro w hSw; (try dsimp only at hSw); go_simp <;> with_reducible rfl)
 go_simp
 refine wpAnyT_take (i := 5) (v := ?_) rfl (by as_aux_lemma => kernel_rfl) (fun _ _ _ h => h) (Or.inl ⟨by rfl, ?_⟩) (by assumption) ?_
 rotate_left
 ·(intro w hSw; (try dsimp only at hSw); go_simp <;> with_reducible rfl)
 go_simp
 refine wpAnyT_take (i := 6) (v := ?_) rfl (by as_aux_lemma => kernel_rfl) (fun _ _ _ h => h) (Or.inl ⟨by rfl, ?_⟩) (by assumption) ?_
 rotate_left
 ·(intro w hSw; (try dsimp only at hSw); go_simp <;> with_reducible rfl)
 go_simp
 refine wpAnyT_take (i := 7) (v := ?_) rfl (by as_aux_lemma => kernel_rfl) (fun _ _ _ h => h) (Or.inl ⟨by rfl, ?_⟩) (by assumption) ?_
 rotate_left
 ·(intro w hSw; (try dsimp only at hSw); go_simp <;> with_reducible rfl)
 go_simp
 refine wpAnyT_take (i := 8) (v := ?_) rfl (by as_aux_lemma => kernel_rfl) (fun _ _ _ h => h) (Or.inl ⟨by rfl, ?_⟩) (by assumption) ?_
 rotate_left
 ·(intro w hSw; (try dsimp only at hSw); go_simp <;> with_reducible rfl)
 go_simp
 refine wpAnyT_take (i := 9) (v := ?_) rfl (by as_aux_lemma => kernel_rfl) (fun _ _ _ h => h) (Or.inl ⟨by rfl, ?_⟩) (by assumption) ?_
 rotate_left
 ·(intro w hSw; (try dsimp only at hSw); go_simp <;> with_reducible rfl)
 go_simp
 refine wpAnyT_take (i := 10) (v := ?_) rfl (by as_aux_lemma => kernel_rfl) (fun _ _ _ h => h) (Or.inl ⟨by rfl, ?_⟩) (by assumption) ?_
 rotate_left
 ·(intro w hSw; (try dsimp only at hSw); go_simp <;> with_reducible rfl)
 go_simp
 refine wpAnyT_take (i := 11) (v := ?_) rfl (by as_aux_lemma => kernel_rfl) (fun _ _ _ h => h) (Or.inl ⟨by rfl, ?_⟩) (by assumption) ?_
 rotate_left
 ·(intro w hSw; (try dsimp only at hSw); go_simp <;> with_reducible rfl)
 go_simp
 refine wpAnyT_take (i := 12) (v := ?_) rfl (by as_aux_lemma => kernel_rfl) (fun _ _ _ h => h) (Or.inl ⟨by rfl, ?_⟩) (by assumption) ?_
 rotate_left
 ·(intro w hSw; (try dsimp only at hSw); go_simp <;> with_reducible rfl)
 go_simp
 refine wpAnyT_take (i := 13) (v := ?_) rfl (by as_aux_lemma => kernel_rfl) (fun _ _ _ h => h) (Or.inl ⟨by rfl, ?_⟩) (by assumption) ?_
 rotate_left
 ·(intro w hSw; (try dsimp only at hSw); go_simp <;> with_reducible rfl)
 go_simp
 refine wpAnyT_take (i := 14) (v := ?_) rfl (by as_aux_lemma => kernel_rfl) (fun _ _ _ h => h) (Or.inl ⟨by rfl, ?_⟩) (by assumption) ?_
 rotate_left
 ·(intro w hSw; (try dsimp only at hSw); go_simp <;> with_reducible rfl)
 go_simp
 refine wpAnyT_take (i := 15) (v := ?_) rfl (by as_aux_lemma => kernel_rfl) (fun _ _ _ h => h) (Or.inl ⟨by rfl, ?_⟩) (by assumption) ?_
 rotate_left
 ·(intro w hSw; (try dsimp only at hSw); go_simp <;> with_reducible rfl)
 go_simp
 refine wpAnyT_take (i := 16) (v := ?_) rfl (by as_aux_lemma => kernel_rfl) (fun _ _ _ h => h) (Or.inl ⟨by rfl, ?_⟩) (by assumption) ?_
 rotate_left
 ·(intro w hSw; (try dsimp only at hSw); go_simp <;> with_reducible rfl)
 go_simp
 refine wpAnyT_take (i := 17) (v := ?_) rfl (by as_aux_lemma => kernel_rfl) (fun _ _ _ h => h) (Or.inl ⟨by rfl, ?_⟩) (by assumption) ?_
 rotate_left
 ·(intro w hSw; (try dsimp only at hSw); go_simp <;> with_reducible rfl)
 go_simp
 refine wpAnyT_take (i := 18) (v := ?_) rfl (by as_aux_lemma => kernel_rfl) (fun _ _ _ h => h) (Or.inl ⟨by rfl, ?_⟩) (by assumption) ?_
 rotate_left
 ·(intro w hSw; (try dsimp only at hSw); go_simp <;> with_reducible rfl)
 go_simp
 refine wpAnyT_take (i := 19) (v := ?_) rfl (by as_aux_lemma => kernel_rfl) (fun _ _ _ h => h) (Or.inl ⟨by rfl, ?_⟩) (by assumption) ?_
 rotate_left
 ·(intro w hSw; (try dsimp only at hSw); go_simp <;> with_reducible rfl)
 go_simp
 refine wpAnyT_take (i := 20) (v := ?_) rfl (by as_aux_lemma => kernel_rfl) (fun _ _ _ h => h) (Or.inl ⟨by rfl, ?_⟩) (by assumption) ?_
 rotate_left
 ·(intro w hSw; (try dsimp only at hSw); go_simp <;> with_reducible rfl)
 go_simp
 refine wpAnyT_take (i := 21) (v := ?_) rfl (by as_aux_lemma => kernel_rfl) (fun _ _ _ h => h) (Or.inl ⟨by rfl, ?_⟩) (by assumption) ?_
 rotate_left
 ·(intro w hSw; (try dsimp only at hSw); go_simp <;> with_reducible rfl)
 go_simp
 refine wpAnyT_take (i := 22) (v := ?_) rfl (by as_aux_lemma => kernel_rfl) (fun _ _ _ h => h) (Or.inl ⟨by rfl, ?_⟩) (by assumption) ?_
 rotate_left
 ·(intro w hSw; (try dsimp only at hSw); go_simp <;> with_reducible rfl)
 go_simp
 refine wpAnyT_take (i := 23) (v := ?_) rfl (by as_aux_lemma => kernel_rfl) (fun _ _ _ h => h) (Or.inl ⟨by rfl, ?_⟩) (by assumption) ?_
 rotate_left
 ·(intro w hSw; (try dsimp only at hSw); go_simp <;> with_reducible rfl)
 go_simp
 refine wpAnyT_take (i := 24) (v := ?_) rfl (by as_aux_lemma => kernel_rfl) (fun _ _ _ h => h) (Or.inl ⟨by rfl, ?_⟩) (by assumption) ?_
 rotate_left
 ·(intro w hSw; (try dsimp only at hSw); go_simp <;> with_reducible rfl)
 go_simp
 have hb17 : Below w16.heap.size w16 w16.drew := bD
 obtain ⟨w17, hx17⟩ : ∃ x : World, x = w16.drew := ⟨_, rfl⟩
 rw [← hx17] at hHeld hb17 ⊢
 clear hx17
 have hE := HE.out.below hb17
 have e0 := hHeld.2.2.1
 have e1 := hHeld.2.2.2.1
 have hubx : ub < w17.heap.size := Nat.lt_of_lt_of_le hub hb17.size
 have hz17 := hb17.size
 replace t0 := (cellB hb17 (by omega)).trans t0
 replace t1 := (cellB hb17 (by omega)).trans t1
 replace g0 := (cellB hb17 (by omega)).trans g0
 replace g1 := (cellB hb17 (by omega)).trans g1
 replace g2 := (cellB hb17 (by omega)).trans g2
 replace u0 := (cellB hb17 (by omega)).trans u0
 replace u1 := (cellB hb17 (by omega)).trans u1
 replace v0 := (cellB hb17 (by omega)).trans v0
 replace v1 := (cellB hb17 (by omega)).trans v1
 replace H0 := Lib.hid (H0.out.below hb17)
 replace H1 := Lib.hid (H1.out.below hb17)
 replace HT := Lib.hid (HT.out.below hb17)
 replace HG := Lib.hid (HG.out.below hb17)
 replace HU := Lib.hid (HU.out.below hb17)
 replace HVG := Lib.hid (HVG.out.below hb17)
 have hbw17 := bthen hbw16 hb17
 refine wpAnyT_one (i := 25) rfl (by kernel_rfl) (fun K hK => ?_)
 go_simp
 go_at_call 12
 refine (specSameRel_any w17 (x := VG) (y := VG) hE HVG.out).mono ?_
 rintro e w18 ⟨rfl, hb18⟩
 rw [show eqB VG VG = true from eqB_true rfl]
 have hz18 := hb18.size
 replace t0 := (cellB hb18 (by omega)).trans t0
 replace t1 := (cellB hb18 (by omega)).trans t1
 replace g0 := (cellB hb18 (by omega)).trans g0
 replace g1 := (cellB hb18 (by omega)).trans g1
 replace g2 := (cellB hb18 (by omega)).trans g2
 replace u0 := (cellB hb18 (by omega)).trans u0
 replace u1 := (cellB hb18 (by omega)).trans u1
 replace v0 := (cellB hb18 (by omega)).trans v0
 replace v1 := (cellB hb18 (by omega)).trans v1
 replace H0 := Lib.hid (H0.out.below hb18)
 replace H1 := Lib.hid (H1.out.below hb18)
 replace HT := Lib.hid (HT.out.below hb18)
 replace HG := Lib.hid (HG.out.below hb18)
 replace HU := Lib.hid (HU.out.below hb18)
 replace HVG := Lib.hid (HVG.out.below hb18)
 have hbw18 := bthen hbw17 hb18
 replace e0 := (cellB hb18 hubx).trans e0
 replace e1 := (cellB hb18 hubx).trans e1
 dsimp only
 refine hK.out _ _ ⟨u1, t1, e0, e1, v0, v1⟩ (fun hHeld => ?_)
 clear hK K
 refine wpAnyT_take (i := 26) (v := ?_) rfl (by as_aux_lemma => kernel_rfl) (fun _ _ _ h => h) (Or.inl ⟨by rfl, ?_⟩) (by assumption) ?_
 rotate_left
 ·(intro w hSw; (try dsimp only at hSw); go_simp <;> with_reducible rfl)
 go_simp
 refine wpAnyT_take (i := 27) (v := ?_) rfl (by as_aux_lemma => kernel_rfl) (fun _ _ _ h => h) (Or.inl ⟨by rfl, ?_⟩) (by assumption) ?_
 rotate_left
 ·(intro w hSw; (try dsimp only at hSw); go_simp <;> with_reducible rfl)
 go_simp
 refine wpAnyT_done (by kernel_rfl) ?_ _
 go_simp
 clear hHeld e0 e1 hE HE hubx hub hw1
 go_wp2_with fail
 have hpf := P6Formula_any w18 H1.out HU.out HF3.out (free := 2) (by omega)
 rw [show ((2 : Nat) : Int) = 2 from rfl] at hpf
 refine (hpf).mono ?_
 rintro e w19 ⟨cs, h, rfl, hf, hhok, -, -, -, hb19⟩
 obtain ⟨ha, hc, rfl⟩ := fr_trip hf
 have HH := Lib.hid hf.rd
 have HHOK := Lib.hid hhok
 clear hf hhok hpf
 have hz19 := hb19.size
 replace t0 := (cellB hb19 (by omega)).trans t0
 replace t1 := (cellB hb19 (by omega)).trans t1
 replace g0 := (cellB hb19 (by omega)).trans g0
 replace g1 := (cellB hb19 (by omega)).trans g1
 replace g2 := (cellB hb19 (by omega)).trans g2
 replace u0 := (cellB hb19 (by omega)).trans u0
 replace u1 := (cellB hb19 (by omega)).trans u1
 replace v0 := (cellB hb19 (by omega)).trans v0
 replace v1 := (cellB hb19 (by omega)).trans v1
 replace H0 := Lib.hid (H0.out.below hb19)
 replace H1 := Lib.hid (H1.out.below hb19)
 replace HT := Lib.hid (HT.out.below hb19)
 replace HG := Lib.hid (HG.out.below hb19)
 replace HU := Lib.hid (HU.out.below hb19)
 replace HVG := Lib.hid (HVG.out.below hb19)
 have hbw19 := bthen hbw18 hb19
 have ta_u0 : ∀ o : Obj, (World.alloc w19 o).cell? ⟨w13.heap.size, 0, none⟩ = some (.int .i64 u.1) := fun o => (cellB bA (by omega)).trans u0
 have ta_u1 : ∀ o : Obj, (World.alloc w19 o).cell? ⟨w13.heap.size, 1, none⟩ = some (.slice (some ⟨ub, uo, none⟩) u.2.length uc) := fun o => (cellB bA (by omega)).trans u1
 go_wp2_with fail
 clear ta_u0 ta_u1
 generalize hW20 : World.alloc w19 _ = w20
 have hb20 : Below w19.heap.size w19 w20 := hW20 ▸ bA
 have hy20 : w19.heap.size + 1 ≤ w20.heap.size := by rw [← hW20]; simp
 have h0 : w20.cell? ⟨w19.heap.size, 0, none⟩ = some (.int .i64 h.1) := by rw [← hW20]; simp [go_sem]
 have h1 : w20.cell? ⟨w19.heap.size, 1, none⟩ = some (.int .i64 h.2.1) := by rw [← hW20]; simp [go_sem]
 have h2 : w20.cell? ⟨w19.heap.size, 2, none⟩ = some (.slice ha h.2.2.length hc) := by rw [← hW20]; simp [go_sem]
 clear hW20
 have hz20 := hb20.size
 replace t0 := (cellB hb20 (by omega)).trans t0
 replace t1 := (cellB hb20 (by omega)).trans t1
 replace g0 := (cellB hb20 (by omega)).trans g0
 replace g1 := (cellB hb20 (by omega)).trans g1
 replace g2 := (cellB hb20 (by omega)).trans g2
 replace u0 := (cellB hb20 (by omega)).trans u0
 replace u1 := (cellB hb20 (by omega)).trans u1
 replace v0 := (cellB hb20 (by omega)).trans v0
 replace v1 := (cellB hb20 (by omega)).trans v1
 replace H0 := Lib.hid (H0.out.below hb20)
 replace H1 := Lib.hid (H1.out.below hb20)
 replace HT := Lib.hid (HT.out.below hb20)
 replace HG := Lib.hid (HG.out.below hb20)
 replace HU := Lib.hid (HU.out.below hb20)
 replace HVG := Lib.hid (HVG.out.below hb20)
 replace HH := Lib.hid (HH.out.below hb20)
 have hbw20 := bthen hbw19 hb20
 have hvo := specValueOf_any w20 HU.out HH.out
 rw [(vo_yes (tb_true HHOK.out)).1, (vo_yes (tb_true HHOK.out)).2] at hvo
 have HF5 := Lib.hid (HF1.out h HHOK.out)
 generalize vaR u h = D at hvo HF5
 refine (hvo).mono ?_
 rintro e w21 ⟨cs, rfl, hf, hb21⟩
 obtain ⟨da, dc, rfl⟩ := fr_pair hf
 have HD := Lib.hid hf.rd
 clear hf hvo HF1
 have hz21 := hb21.size
 replace t0 := (cellB hb21 (by omega)).trans t0
 replace t1 := (cellB hb21 (by omega)).trans t1
 replace g0 := (cellB hb21 (by omega)).trans g0
 replace g1 := (cellB hb21 (by omega)).trans g1
 replace g2 := (cellB hb21 (by omega)).trans g2
 replace u0 := (cellB hb21 (by omega)).trans u0
 replace u1 := (cellB hb21 (by omega)).trans u1
 replace v0 := (cellB hb21 (by omega)).trans v0
 replace v1 := (cellB hb21 (by omega)).trans v1
 replace h0 := (cellB hb21 (by omega)).trans h0
 replace h1 := (cellB hb21 (by omega)).trans h1
 replace h2 := (cellB hb21 (by omega)).trans h2
 replace H0 := Lib.hid (H0.out.below hb21)
 replace H1 := Lib.hid (H1.out.below hb21)
 replace HT := Lib.hid (HT.out.below hb21)
 replace HG := Lib.hid (HG.out.below hb21)
 replace HU := Lib.hid (HU.out.below hb21)
 replace HVG := Lib.hid (HVG.out.below hb21)
 replace HH := Lib.hid (HH.out.below hb21)
 have hbw21 := bthen hbw20 hb21
 have ta_u0 : ∀ o : Obj, (World.alloc w21 o).cell? ⟨w13.heap.size, 0, none⟩ = some (.int .i64 u.1) := fun o => (cellB bA (by omega)).trans u0
 have ta_u1 : ∀ o : Obj, (World.alloc w21 o).cell? ⟨w13.heap.size, 1, none⟩ = some (.slice (some ⟨ub, uo, none⟩) u.2.length uc) := fun o => (cellB bA (by omega)).trans u1
 have ta_h0 : ∀ o : Obj, (World.alloc w21 o).cell? ⟨w19.heap.size, 0, none⟩ = some (.int .i64 h.1) := fun o => (cellB bA (by omega)).trans h0
 have ta_h1 : ∀ o : Obj, (World.alloc w21 o).cell? ⟨w19.heap.size, 1, none⟩ = some (.int .i64 h.2.1) := fun o => (cellB bA (by omega)).trans h1
 have ta_h2 : ∀ o : Obj, (World.alloc w21 o).cell? ⟨w19.heap.size, 2, none⟩ = some (.slice ha h.2.2.length hc) := fun o => (cellB bA (by omega)).trans h2
 have ta_g0 : ∀ o : Obj, (World.alloc w21 o).cell? ⟨bb, 0, none⟩ = some (.int .i64 g.1) := fun o => (cellB bA (by omega)).trans g0
 have ta_g1 : ∀ o : Obj, (World.alloc w21 o).cell? ⟨bb, 1, none⟩ = some (.int .i64 g.2.1) := fun o => (cellB bA (by omega)).trans g1
 have ta_g2 : ∀ o : Obj, (World.alloc w21 o).cell? ⟨bb, 2, none⟩ = some (.slice ga g.2.2.length gc) := fun o => (cellB bA (by omega)).trans g2
 go_wp2_with fail
 clear ta_u0 ta_u1 ta_h0 ta_h1 ta_h2 ta_g0 ta_g1 ta_g2
 generalize hW22 : World.alloc w21 _ = w22
 have hb22 : Below w21.heap.size w21 w22 := hW22 ▸ bA
 have hy22 : w21.heap.size + 1 ≤ w22.heap.size := by rw [← hW22]; simp
 have d0 : w22.cell? ⟨w21.heap.size, 0, none⟩ = some (.int .i64 D.1) := by rw [← hW22]; simp [go_sem]
 have d1 : w22.cell? ⟨w21.heap.size, 1, none⟩ = some (.slice da D.2.length dc) := by rw [← hW22]; simp [go_sem]
 clear hW22
 have hz22 := hb22.size
 replace t0 := (cellB hb22 (by omega)).trans t0
 replace t1 := (cellB hb22 (by omega)).trans t1
 replace g0 := (cellB hb22 (by omega)).trans g0
 replace g1 := (cellB hb22 (by omega)).trans g1
 replace g2 := (cellB hb22 (by omega)).trans g2
 replace u0 := (cellB hb22 (by omega)).trans u0
 replace u1 := (cellB hb22 (by omega)).trans u1
 replace v0 := (cellB hb22 (by omega)).trans v0
 replace v1 := (cellB hb22 (by omega)).trans v1
 replace h0 := (cellB hb22 (by omega)).trans h0
 replace h1 := (cellB hb22 (by omega)).trans h1
 replace h2 := (cellB hb22 (by omega)).trans h2
 replace H0 := Lib.hid (H0.out.below hb22)
 replace H1 := Lib.hid (H1.out.below hb22)
 replace HT := Lib.hid (HT.out.below hb22)
 replace HG := Lib.hid (HG.out.below hb22)
 replace HU := Lib.hid (HU.out.below hb22)
 replace HVG := Lib.hid (HVG.out.below hb22)
 replace HH := Lib.hid (HH.out.below hb22)
 replace HD := Lib.hid (HD.out.below hb22)
 have hbw22 := bthen hbw21 hb22
 have hrp := ReplaceRel_any w22 HU.out HH.out (rel := (t.2.length : Int)) HG.out
 have hrq := fun w => @specReplaceRel_any w
 clear hrq
 refine (hrp).mono ?_
 rintro e w23 ⟨cs, rfl, hf, hb23⟩
 obtain ⟨ra, rc, rfl⟩ := fr_trip hf
 have HR := Lib.hid hf.rd
 clear hf hrp
 have hz23 := hb23.size
 replace t0 := (cellB hb23 (by omega)).trans t0
 replace t1 := (cellB hb23 (by omega)).trans t1
 replace g0 := (cellB hb23 (by omega)).trans g0
 replace g1 := (cellB hb23 (by omega)).trans g1
 replace g2 := (cellB hb23 (by omega)).trans g2
 replace u0 := (cellB hb23 (by omega)).trans u0
 replace u1 := (cellB hb23 (by omega)).trans u1
 replace v0 := (cellB hb23 (by omega)).trans v0
 replace v1 := (cellB hb23 (by omega)).trans v1
 replace h0 := (cellB hb23 (by omega)).trans h0
 replace h1 := (cellB hb23 (by omega)).trans h1
 replace h2 := (cellB hb23 (by omega)).trans h2
 replace d0 := (cellB hb23 (by omega)).trans d0
 replace d1 := (cellB hb23 (by omega)).trans d1
 replace H0 := Lib.hid (H0.out.below hb23)
 replace H1 := Lib.hid (H1.out.below hb23)
 replace HT := Lib.hid (HT.out.below hb23)
 replace HG := Lib.hid (HG.out.below hb23)
 replace HU := Lib.hid (HU.out.below hb23)
 replace HVG := Lib.hid (HVG.out.below hb23)
 replace HH := Lib.hid (HH.out.below hb23)
 replace HD := Lib.hid (HD.out.below hb23)
 have hbw23 := bthen hbw22 hb23
 have ta_u0 : ∀ o : Obj, (World.alloc w23 o).cell? ⟨w13.heap.size, 0, none⟩ = some (.int .i64 u.1) := fun o => (cellB bA (by omega)).trans u0
 have ta_u1 : ∀ o : Obj, (World.alloc w23 o).cell? ⟨w13.heap.size, 1, none⟩ = some (.slice (some ⟨ub, uo, none⟩) u.2.length uc) := fun o => (cellB bA (by omega)).trans u1
 have ta_h0 : ∀ o : Obj, (World.alloc w23 o).cell? ⟨w19.heap.size, 0, none⟩ = some (.int .i64 h.1) := fun o => (cellB bA (by omega)).trans h0
 have ta_h1 : ∀ o : Obj, (World.alloc w23 o).cell? ⟨w19.heap.size, 1, none⟩ = some (.int .i64 h.2.1) := fun o => (cellB bA (by omega)).trans h1
 have ta_h2 : ∀ o : Obj, (World.alloc w23 o).cell? ⟨w19.heap.size, 2, none⟩ = some (.slice ha h.2.2.length hc) := fun o => (cellB bA (by omega)).trans h2
 have ta_g0 : ∀ o : Obj, (World.alloc w23 o).cell? ⟨bb, 0, none⟩ = some (.int .i64 g.1) := fun o => (cellB bA (by omega)).trans g0
 have ta_g1 : ∀ o : Obj, (World.alloc w23 o).cell? ⟨bb, 1, none⟩ = some (.int .i64 g.2.1) := fun o => (cellB bA (by omega)).trans g1
 have ta_g2 : ∀ o : Obj, (World.alloc w23 o).cell? ⟨bb, 2, none⟩ = some (.slice ga g.2.2.length gc) := fun o => (cellB bA (by omega)).trans g2
 go_wp2_with fail
 clear ta_u0 ta_u1 ta_h0 ta_h1 ta_h2 ta_g0 ta_g1 ta_g2
 generalize hW24 : World.alloc w23 _ = w24
 have hb24 : Below w23.heap.size w23 w24 := hW24 ▸ bA
 have hy24 : w23.heap.size + 1 ≤ w24.heap.size := by rw [← hW24]; simp
 have r0 : w24.cell? ⟨w23.heap.size, 0, none⟩ = some (.int .i64 (rplV u h (t.2.length : Int) g).1) := by rw [← hW24]; simp [go_sem]
 have r1 : w24.cell? ⟨w23.heap.size, 1, none⟩ = some (.int .i64 (rplV u h (t.2.length : Int) g).2.1) := by rw [← hW24]; simp [go_sem]
 have r2 : w24.cell? ⟨w23.heap.size, 2, none⟩ = some (.slice ra (rplV u h (t.2.length : Int) g).2.2.length rc) := by rw [← hW24]; simp [go_sem]
 clear hW24
 have hz24 := hb24.size
 replace t0 := (cellB hb24 (by omega)).trans t0
 replace t1 := (cellB hb24 (by omega)).trans t1
 replace g0 := (cellB hb24 (by omega)).trans g0
 replace g1 := (cellB hb24 (by omega)).trans g1
 replace g2 := (cellB hb24 (by omega)).trans g2
 replace u0 := (cellB hb24 (by omega)).trans u0
 replace u1 := (cellB hb24 (by omega)).trans u1
 replace v0 := (cellB hb24 (by omega)).trans v0
 replace v1 := (cellB hb24 (by omega)).trans v1
 replace h0 := (cellB hb24 (by omega)).trans h0
 replace h1 := (cellB hb24 (by omega)).trans h1
 replace h2 := (cellB hb24 (by omega)).trans h2
 replace d0 := (cellB hb24 (by omega)).trans d0
 replace d1 := (cellB hb24 (by omega)).trans d1
 replace H0 := Lib.hid (H0.out.below hb24)
 replace H1 := Lib.hid (H1.out.below hb24)
 replace HT := Lib.hid (HT.out.below hb24)
 replace HG := Lib.hid (HG.out.below hb24)
 replace HU := Lib.hid (HU.out.below hb24)
 replace HVG := Lib.hid (HVG.out.below hb24)
 replace HH := Lib.hid (HH.out.below hb24)
 replace HD := Lib.hid (HD.out.below hb24)
 replace HR := Lib.hid (HR.out.below hb24)
 have hbw24 := bthen hbw23 hb24
 refine (specReplaceRel_any w24 HU.out HH.out (rel := (t.2.length : Int)) HG.out).mono ?_
 rintro e w25 ⟨cs, rfl, hf, hb25⟩
 obtain ⟨ma, mc, rfl⟩ := fr_trip hf
 have HM := Lib.hid hf.rd
 clear hf
 have hz25 := hb25.size
 replace t0 := (cellB hb25 (by omega)).trans t0
 replace t1 := (cellB hb25 (by omega)).trans t1
 replace g0 := (cellB hb25 (by omega)).trans g0
 replace g1 := (cellB hb25 (by omega)).trans g1
 replace g2 := (cellB hb25 (by omega)).trans g2
 replace u0 := (cellB hb25 (by omega)).trans u0
 replace u1 := (cellB hb25 (by omega)).trans u1
 replace v0 := (cellB hb25 (by omega)).trans v0
 replace v1 := (cellB hb25 (by omega)).trans v1
 replace h0 := (cellB hb25 (by omega)).trans h0
 replace h1 := (cellB hb25 (by omega)).trans h1
 replace h2 := (cellB hb25 (by omega)).trans h2
 replace d0 := (cellB hb25 (by omega)).trans d0
 replace d1 := (cellB hb25 (by omega)).trans d1
 replace r0 := (cellB hb25 (by omega)).trans r0
 replace r1 := (cellB hb25 (by omega)).trans r1
 replace r2 := (cellB hb25 (by omega)).trans r2
 replace H0 := Lib.hid (H0.out.below hb25)
 replace H1 := Lib.hid (H1.out.below hb25)
 replace HT := Lib.hid (HT.out.below hb25)
 replace HG := Lib.hid (HG.out.below hb25)
 replace HU := Lib.hid (HU.out.below hb25)
 replace HVG := Lib.hid (HVG.out.below hb25)
 replace HH := Lib.hid (HH.out.below hb25)
 replace HD := Lib.hid (HD.out.below hb25)
 replace HR := Lib.hid (HR.out.below hb25)
 have hbw25 := bthen hbw24 hb25
 have hnn : (repC u h (t.2.length : Int) g != repC u h (t.2.length : Int) g) = false := by simp
 have ta_r0 : ∀ o : Obj, (World.alloc w25 o).cell? ⟨w23.heap.size, 0, none⟩ = some (.int .i64 (rplV u h (t.2.length : Int) g).1) := fun o => (cellB bA (by omega)).trans r0
 have ta_r1 : ∀ o : Obj, (World.alloc w25 o).cell? ⟨w23.heap.size, 1, none⟩ = some (.int .i64 (rplV u h (t.2.length : Int) g).2.1) := fun o => (cellB bA (by omega)).trans r1
 have ta_r2 : ∀ o : Obj, (World.alloc w25 o).cell? ⟨w23.heap.size, 2, none⟩ = some (.slice ra (rplV u h (t.2.length : Int) g).2.2.length rc) := fun o => (cellB bA (by omega)).trans r2
 go_wp2_with fail
 clear ta_r0 ta_r1 ta_r2
 clear hnn
 generalize hW26 : World.alloc w25 _ = w26
 have hb26 : Below w25.heap.size w25 w26 := hW26 ▸ bA
 have hy26 : w25.heap.size + 1 ≤ w26.heap.size := by rw [← hW26]; simp
 have m0 : w26.cell? ⟨w25.heap.size, 0, none⟩ = some (.int .i64 (rplV u h (t.2.length : Int) g).1) := by rw [← hW26]; simp [go_sem]
 have m1 : w26.cell? ⟨w25.heap.size, 1, none⟩ = some (.int .i64 (rplV u h (t.2.length : Int) g).2.1) := by rw [← hW26]; simp [go_sem]
 have m2 : w26.cell? ⟨w25.heap.size, 2, none⟩ = some (.slice ma (rplV u h (t.2.length : Int) g).2.2.length mc) := by rw [← hW26]; simp [go_sem]
 clear hW26
 have hz26 := hb26.size
 replace t0 := (cellB hb26 (by omega)).trans t0
 replace t1 := (cellB hb26 (by omega)).trans t1
 replace g0 := (cellB hb26 (by omega)).trans g0
 replace g1 := (cellB hb26 (by omega)).trans g1
 replace g2 := (cellB hb26 (by omega)).trans g2
 replace u0 := (cellB hb26 (by omega)).trans u0
 replace u1 := (cellB hb26 (by omega)).trans u1
 replace v0 := (cellB hb26 (by omega)).trans v0
 replace v1 := (cellB hb26 (by omega)).trans v1
 replace h0 := (cellB hb26 (by omega)).trans h0
 replace h1 := (cellB hb26 (by omega)).trans h1
 replace h2 := (cellB hb26 (by omega)).trans h2
 replace d0 := (cellB hb26 (by omega)).trans d0
 replace d1 := (cellB hb26 (by omega)).trans d1
 replace r0 := (cellB hb26 (by omega)).trans r0
 replace r1 := (cellB hb26 (by omega)).trans r1
 replace r2 := (cellB hb26 (by omega)).trans r2
 replace H0 := Lib.hid (H0.out.below hb26)
 replace H1 := Lib.hid (H1.out.below hb26)
 replace HT := Lib.hid (HT.out.below hb26)
 replace HG := Lib.hid (HG.out.below hb26)
 replace HU := Lib.hid (HU.out.below hb26)
 replace HVG := Lib.hid (HVG.out.below hb26)
 replace HH := Lib.hid (HH.out.below hb26)
 replace HD := Lib.hid (HD.out.below hb26)
 replace HR := Lib.hid (HR.out.below hb26)
 replace HM := Lib.hid (HM.out.below hb26)
 have hbw26 := bthen hbw25 hb26
 refine (specSameFormula_any w26 (x := rplV u h (t.2.length : Int) g) (y := rplV u h (t.2.length : Int) g) HR.out HM.out).mono ?_
 rintro e w27 ⟨rfl, hb27⟩
 rw [show eqB (rplV u h (t.2.length : Int) g) (rplV u h (t.2.length : Int) g) = true from eqB_true rfl]
 have hz27 := hb27.size
 replace t0 := (cellB hb27 (by omega)).trans t0
 replace t1 := (cellB hb27 (by omega)).trans t1
 replace g0 := (cellB hb27 (by omega)).trans g0
 replace g1 := (cellB hb27 (by omega)).trans g1
 replace g2 := (cellB hb27 (by omega)).trans g2
 replace u0 := (cellB hb27 (by omega)).trans u0
 replace u1 := (cellB hb27 (by omega)).trans u1
 replace v0 := (cellB hb27 (by omega)).trans v0
 replace v1 := (cellB hb27 (by omega)).trans v1
 replace h0 := (cellB hb27 (by omega)).trans h0
 replace h1 := (cellB hb27 (by omega)).trans h1
 replace h2 := (cellB hb27 (by omega)).trans h2
 replace d0 := (cellB hb27 (by omega)).trans d0
 replace d1 := (cellB hb27 (by omega)).trans d1
 replace r0 := (cellB hb27 (by omega)).trans r0
 replace r1 := (cellB hb27 (by omega)).trans r1
 replace r2 := (cellB hb27 (by omega)).trans r2
 replace m0 := (cellB hb27 (by omega)).trans m0
 replace m1 := (cellB hb27 (by omega)).trans m1
 replace m2 := (cellB hb27 (by omega)).trans m2
 replace H0 := Lib.hid (H0.out.below hb27)
 replace H1 := Lib.hid (H1.out.below hb27)
 replace HT := Lib.hid (HT.out.below hb27)
 replace HG := Lib.hid (HG.out.below hb27)
 replace HU := Lib.hid (HU.out.below hb27)
 replace HVG := Lib.hid (HVG.out.below hb27)
 replace HH := Lib.hid (HH.out.below hb27)
 replace HD := Lib.hid (HD.out.below hb27)
 replace HR := Lib.hid (HR.out.below hb27)
 replace HM := Lib.hid (HM.out.below hb27)
 have hbw27 := bthen hbw26 hb27
 clear r0 r1 r2 h0 h1 h2 g0 g1 g2
 clear HR HH HG
 have hf5 := HF5.out
 clear HF5
 generalize repC u h (t.2.length : Int) g = c5 at *
 generalize rplV u h (t.2.length : Int) g = m at *
 obtain ⟨hc5, hrest⟩ := hf5
 rcases hc5 with rfl | rfl
 rotate_left
 ·go_wp2_with fail
  go_ret
  exact ⟨rfl, hbw27⟩
 obtain ⟨hmok, hmne, hmv⟩ := hrest rfl
 have HMOK := Lib.hid hmok
 have hm16 : m.2.2.length ≤ 16 := hmok.2.1.2.2
 have HMNE := Lib.hid hmne
 have HMV := Lib.hid hmv
 clear hmok hmne hmv hrest
 obtain ⟨v9, hv9, -, -, hats⟩ := trip_ex HM.out
 simp only [List.cons.injEq, true_and, and_true] at hv9
 rw [← hv9] at hats
 obtain ⟨ad9, cp9, hr9, -, -, hac⟩ := pairs_ex hats
 simp only [List.cons.injEq, Value.slice.injEq, and_true, true_and] at hr9
 obtain ⟨rfl, rfl⟩ := hr9
 have HAC := Lib.hid hac
 clear hv9 hats hac
 go_wp2_with fail
 go_loopw [26] (fun i wr => ∃ (k : Nat), k ≤ m.2.2.length ∧ i = .int .i64 k ∧ w27 = wr) (fun i _ => m.2.2.length - (intOf i).toNat)
 case atStart => exact ⟨0, Nat.zero_le _, rfl, rfl⟩
 case round =>
  obtain ⟨k, hk, rfl, rfl⟩ := hrel
  by_cases hkl : k < m.2.2.length
  ·obtain ⟨ab, ao, rfl, hab, hac⟩ := HAC.out (by omega)
   obtain ⟨_, -, -, e0, -⟩ := hac k hkl
   have hne : ((m.2.2[k]).1 == (t.2.length : Int)) = false := by
    have := HMNE.out _ (List.getElem_mem hkl)
    simpa using this
   generalize (m.2.2[k]).1 = rl at e0 hne
   go_wp2_with fail
   go_roundw
   case rel => exact ⟨k + 1, by omega, by go_num, trivial⟩
   case measure => simp [intOf]; omega
  ·obtain rfl : k = m.2.2.length := by omega
   go_wp2_with fail
   have hvo := ValueOf_any w27 HT.out HM.out
   rw [(vo_yes (tb_true HMOK.out)).1, (vo_yes (tb_true HMOK.out)).2, HMV.out] at hvo
   refine (hvo).mono ?_
   rintro e w28 ⟨cs, rfl, hf, hb28⟩
   obtain ⟨sa, sc, rfl⟩ := fr_pair hf
   have HSV := Lib.hid hf.rd
   clear hf hvo
   have hz28 := hb28.size
   replace t0 := (cellB hb28 (by omega)).trans t0
   replace t1 := (cellB hb28 (by omega)).trans t1
   replace u0 := (cellB hb28 (by omega)).trans u0
   replace u1 := (cellB hb28 (by omega)).trans u1
   replace v0 := (cellB hb28 (by omega)).trans v0
   replace v1 := (cellB hb28 (by omega)).trans v1
   replace d0 := (cellB hb28 (by omega)).trans d0
   replace d1 := (cellB hb28 (by omega)).trans d1
   replace m0 := (cellB hb28 (by omega)).trans m0
   replace m1 := (cellB hb28 (by omega)).trans m1
   replace m2 := (cellB hb28 (by omega)).trans m2
   replace H0 := Lib.hid (H0.out.below hb28)
   replace H1 := Lib.hid (H1.out.below hb28)
   replace HT := Lib.hid (HT.out.below hb28)
   replace HU := Lib.hid (HU.out.below hb28)
   replace HVG := Lib.hid (HVG.out.below hb28)
   replace HD := Lib.hid (HD.out.below hb28)
   replace HM := Lib.hid (HM.out.below hb28)
   have hbw28 := bthen hbw27 hb28
   clear m0 m1 m2 t0 t1
   clear HM HT
   have ta_u0 : ∀ o : Obj, (World.alloc w28 o).cell? ⟨w13.heap.size, 0, none⟩ = some (.int .i64 u.1) := fun o => (cellB bA (by omega)).trans u0
   have ta_u1 : ∀ o : Obj, (World.alloc w28 o).cell? ⟨w13.heap.size, 1, none⟩ = some (.slice (some ⟨ub, uo, none⟩) u.2.length uc) := fun o => (cellB bA (by omega)).trans u1
   go_wp2_with fail
   clear ta_u0 ta_u1
   generalize hW29 : World.alloc w28 _ = w29
   have hb29 : Below w28.heap.size w28 w29 := hW29 ▸ bA
   have hy29 : w28.heap.size + 1 ≤ w29.heap.size := by rw [← hW29]; simp
   have s0 : w29.cell? ⟨w28.heap.size, 0, none⟩ = some (.int .i64 D.1) := by rw [← hW29]; simp [go_sem]
   have s1 : w29.cell? ⟨w28.heap.size, 1, none⟩ = some (.slice sa D.2.length sc) := by rw [← hW29]; simp [go_sem]
   clear hW29
   have hz29 := hb29.size
   replace u0 := (cellB hb29 (by omega)).trans u0
   replace u1 := (cellB hb29 (by omega)).trans u1
   replace v0 := (cellB hb29 (by omega)).trans v0
   replace v1 := (cellB hb29 (by omega)).trans v1
   replace d0 := (cellB hb29 (by omega)).trans d0
   replace d1 := (cellB hb29 (by omega)).trans d1
   replace H0 := Lib.hid (H0.out.below hb29)
   replace H1 := Lib.hid (H1.out.below hb29)
   replace HU := Lib.hid (HU.out.below hb29)
   replace HVG := Lib.hid (HVG.out.below hb29)
   replace HD := Lib.hid (HD.out.below hb29)
   replace HSV := Lib.hid (HSV.out.below hb29)
   have hbw29 := bthen hbw28 hb29
   have haf := AtomFormula_any w29 HU.out (rel := (t.2.length : Int))
   rw [HF2.out.1] at haf
   have HAOK := Lib.hid HF2.out.2.1
   have HAV := Lib.hid HF2.out.2.2
   generalize atomV u (t.2.length : Int) = at5 at haf HAOK HAV
   refine (haf).mono ?_
   rintro e w30 ⟨cs, rfl, hf, hb30⟩
   obtain ⟨ba, bc, rfl⟩ := fr_trip hf
   have HA := Lib.hid hf.rd
   clear hf haf HF2
   have hz30 := hb30.size
   replace u0 := (cellB hb30 (by omega)).trans u0
   replace u1 := (cellB hb30 (by omega)).trans u1
   replace v0 := (cellB hb30 (by omega)).trans v0
   replace v1 := (cellB hb30 (by omega)).trans v1
   replace d0 := (cellB hb30 (by omega)).trans d0
   replace d1 := (cellB hb30 (by omega)).trans d1
   replace s0 := (cellB hb30 (by omega)).trans s0
   replace s1 := (cellB hb30 (by omega)).trans s1
   replace H0 := Lib.hid (H0.out.below hb30)
   replace H1 := Lib.hid (H1.out.below hb30)
   replace HU := Lib.hid (HU.out.below hb30)
   replace HVG := Lib.hid (HVG.out.below hb30)
   replace HD := Lib.hid (HD.out.below hb30)
   replace HSV := Lib.hid (HSV.out.below hb30)
   have hbw30 := bthen hbw29 hb30
   have ta_u0 : ∀ o : Obj, (World.alloc w30 o).cell? ⟨w13.heap.size, 0, none⟩ = some (.int .i64 u.1) := fun o => (cellB bA (by omega)).trans u0
   have ta_u1 : ∀ o : Obj, (World.alloc w30 o).cell? ⟨w13.heap.size, 1, none⟩ = some (.slice (some ⟨ub, uo, none⟩) u.2.length uc) := fun o => (cellB bA (by omega)).trans u1
   go_wp2_with fail
   clear ta_u0 ta_u1
   generalize hW31 : World.alloc w30 _ = w31
   have hb31 : Below w30.heap.size w30 w31 := hW31 ▸ bA
   have hy31 : w30.heap.size + 1 ≤ w31.heap.size := by rw [← hW31]; simp
   have b0 : w31.cell? ⟨w30.heap.size, 0, none⟩ = some (.int .i64 at5.1) := by rw [← hW31]; simp [go_sem]
   have b1 : w31.cell? ⟨w30.heap.size, 1, none⟩ = some (.int .i64 at5.2.1) := by rw [← hW31]; simp [go_sem]
   have b2 : w31.cell? ⟨w30.heap.size, 2, none⟩ = some (.slice ba at5.2.2.length bc) := by rw [← hW31]; simp [go_sem]
   clear hW31
   have hz31 := hb31.size
   replace u0 := (cellB hb31 (by omega)).trans u0
   replace u1 := (cellB hb31 (by omega)).trans u1
   replace v0 := (cellB hb31 (by omega)).trans v0
   replace v1 := (cellB hb31 (by omega)).trans v1
   replace d0 := (cellB hb31 (by omega)).trans d0
   replace d1 := (cellB hb31 (by omega)).trans d1
   replace s0 := (cellB hb31 (by omega)).trans s0
   replace s1 := (cellB hb31 (by omega)).trans s1
   replace H0 := Lib.hid (H0.out.below hb31)
   replace H1 := Lib.hid (H1.out.below hb31)
   replace HU := Lib.hid (HU.out.below hb31)
   replace HVG := Lib.hid (HVG.out.below hb31)
   replace HD := Lib.hid (HD.out.below hb31)
   replace HSV := Lib.hid (HSV.out.below hb31)
   replace HA := Lib.hid (HA.out.below hb31)
   have hbw31 := bthen hbw30 hb31
   have hvo := ValueOf_any w31 HU.out HA.out
   rw [(vo_yes (tb_true HAOK.out)).1, (vo_yes (tb_true HAOK.out)).2, HAV.out] at hvo
   refine (hvo).mono ?_
   rintro e w32 ⟨cs, rfl, hf, hb32⟩
   obtain ⟨xa, xc, rfl⟩ := fr_pair hf
   have HX := Lib.hid hf.rd
   clear hf hvo
   have hz32 := hb32.size
   replace u0 := (cellB hb32 (by omega)).trans u0
   replace u1 := (cellB hb32 (by omega)).trans u1
   replace v0 := (cellB hb32 (by omega)).trans v0
   replace v1 := (cellB hb32 (by omega)).trans v1
   replace d0 := (cellB hb32 (by omega)).trans d0
   replace d1 := (cellB hb32 (by omega)).trans d1
   replace s0 := (cellB hb32 (by omega)).trans s0
   replace s1 := (cellB hb32 (by omega)).trans s1
   replace b0 := (cellB hb32 (by omega)).trans b0
   replace b1 := (cellB hb32 (by omega)).trans b1
   replace b2 := (cellB hb32 (by omega)).trans b2
   replace H0 := Lib.hid (H0.out.below hb32)
   replace H1 := Lib.hid (H1.out.below hb32)
   replace HU := Lib.hid (HU.out.below hb32)
   replace HVG := Lib.hid (HVG.out.below hb32)
   replace HD := Lib.hid (HD.out.below hb32)
   replace HSV := Lib.hid (HSV.out.below hb32)
   replace HA := Lib.hid (HA.out.below hb32)
   have hbw32 := bthen hbw31 hb32
   clear b0 b1 b2 u0 u1
   clear HA HU
   have ta_s0 : ∀ o : Obj, (World.alloc w32 o).cell? ⟨w28.heap.size, 0, none⟩ = some (.int .i64 D.1) := fun o => (cellB bA (by omega)).trans s0
   have ta_s1 : ∀ o : Obj, (World.alloc w32 o).cell? ⟨w28.heap.size, 1, none⟩ = some (.slice sa D.2.length sc) := fun o => (cellB bA (by omega)).trans s1
   have ta_d0 : ∀ o : Obj, (World.alloc w32 o).cell? ⟨w21.heap.size, 0, none⟩ = some (.int .i64 D.1) := fun o => (cellB bA (by omega)).trans d0
   have ta_d1 : ∀ o : Obj, (World.alloc w32 o).cell? ⟨w21.heap.size, 1, none⟩ = some (.slice da D.2.length dc) := fun o => (cellB bA (by omega)).trans d1
   go_wp2_with fail
   clear ta_s0 ta_s1 ta_d0 ta_d1
   generalize hW33 : World.alloc w32 _ = w33
   have hb33 : Below w32.heap.size w32 w33 := hW33 ▸ bA
   have hy33 : w32.heap.size + 1 ≤ w33.heap.size := by rw [← hW33]; simp
   have y0 : w33.cell? ⟨w32.heap.size, 0, none⟩ = some (.int .i64 VG.1) := by rw [← hW33]; simp [go_sem]
   have y1 : w33.cell? ⟨w32.heap.size, 1, none⟩ = some (.slice xa VG.2.length xc) := by rw [← hW33]; simp [go_sem]
   clear hW33
   have hz33 := hb33.size
   replace v0 := (cellB hb33 (by omega)).trans v0
   replace v1 := (cellB hb33 (by omega)).trans v1
   replace d0 := (cellB hb33 (by omega)).trans d0
   replace d1 := (cellB hb33 (by omega)).trans d1
   replace s0 := (cellB hb33 (by omega)).trans s0
   replace s1 := (cellB hb33 (by omega)).trans s1
   replace H0 := Lib.hid (H0.out.below hb33)
   replace H1 := Lib.hid (H1.out.below hb33)
   replace HVG := Lib.hid (HVG.out.below hb33)
   replace HD := Lib.hid (HD.out.below hb33)
   replace HSV := Lib.hid (HSV.out.below hb33)
   replace HX := Lib.hid (HX.out.below hb33)
   have hbw33 := bthen hbw32 hb33
   refine (specSameRel_any w33 (x := D) (y := D) HSV.out HD.out).mono ?_
   rintro e w34 ⟨rfl, hb34⟩
   rw [show eqB D D = true from eqB_true rfl]
   have hz34 := hb34.size
   replace v0 := (cellB hb34 (by omega)).trans v0
   replace v1 := (cellB hb34 (by omega)).trans v1
   replace d0 := (cellB hb34 (by omega)).trans d0
   replace d1 := (cellB hb34 (by omega)).trans d1
   replace s0 := (cellB hb34 (by omega)).trans s0
   replace s1 := (cellB hb34 (by omega)).trans s1
   replace y0 := (cellB hb34 (by omega)).trans y0
   replace y1 := (cellB hb34 (by omega)).trans y1
   replace H0 := Lib.hid (H0.out.below hb34)
   replace H1 := Lib.hid (H1.out.below hb34)
   replace HVG := Lib.hid (HVG.out.below hb34)
   replace HD := Lib.hid (HD.out.below hb34)
   replace HSV := Lib.hid (HSV.out.below hb34)
   replace HX := Lib.hid (HX.out.below hb34)
   have hbw34 := bthen hbw33 hb34
   go_wp2_with fail
   refine (specSameRel_any w34 (x := VG) (y := VG) HX.out HVG.out).mono ?_
   rintro e w35 ⟨rfl, hb35⟩
   rw [show eqB VG VG = true from eqB_true rfl]
   have hz35 := hb35.size
   replace v0 := (cellB hb35 (by omega)).trans v0
   replace v1 := (cellB hb35 (by omega)).trans v1
   replace d0 := (cellB hb35 (by omega)).trans d0
   replace d1 := (cellB hb35 (by omega)).trans d1
   replace s0 := (cellB hb35 (by omega)).trans s0
   replace s1 := (cellB hb35 (by omega)).trans s1
   replace y0 := (cellB hb35 (by omega)).trans y0
   replace y1 := (cellB hb35 (by omega)).trans y1
   replace H0 := Lib.hid (H0.out.below hb35)
   replace H1 := Lib.hid (H1.out.below hb35)
   replace HVG := Lib.hid (HVG.out.below hb35)
   replace HD := Lib.hid (HD.out.below hb35)
   replace HSV := Lib.hid (HSV.out.below hb35)
   replace HX := Lib.hid (HX.out.below hb35)
   have hbw35 := bthen hbw34 hb35
   go_wp2_with fail
   go_ret
   exact ⟨rfl, hbw35⟩
end Go.Proofs.YtajmjfbejfiipaaGreat
