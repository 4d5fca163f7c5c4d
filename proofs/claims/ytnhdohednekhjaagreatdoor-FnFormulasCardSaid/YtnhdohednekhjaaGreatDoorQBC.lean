/-
Contracts: the first tuple at which two formulas are apart, and whether there is none; the program's. (The region's orders are printed by gen_apart.py.)
-/
import Derived.Test.YtnhdohednekhjaaGreatDoorQAH
import Derived.Test.YtnhdohednekhjaaGreatDoorQAF
import Derived.Deep.CutRange
namespace Go.Proofs.YtnhdohednekhjaaGreatDoor
open Go.RowKit Go.Sort
theorem vaR_sorted {t : Int × List (Int × List (List Int))} {f : Int × Int × List (Int × List Int)} (hok : frmOk t f) : sortedL (vaR t f).2 := by
 have h := frm_nums hok
 have h1 := pow_nn (s := t.1) (by omega) f.1.toNat
 exact relL_sorted (by omega) (by omega)
set_option maxHeartbeats 1600000 in
set_option maxRecDepth 100000 in
theorem apart1_any (w : World) {b1 b2 : Nat} {v : Value} {tu : List Int} {t : Int × List (Int × List (List Int))} {f g : Int × Int × List (Int × List Int)} (hf : frmOk t f) (hg : frmOk t g) (h1 : relT.Pt w (.pointer (some ⟨b1, 0, none⟩)) (vaR t f)) (h2 : relT.Pt w (.pointer (some ⟨b2, 0, none⟩)) (vaR t g)) (hv : intsT.Rd w [v] tu) :
  Calls Tryz.prog 96 #[v, .pointer (some ⟨b1, 0, none⟩), .pointer (some ⟨b2, 0, none⟩)] w fun e w' => e = .returned (.bool (apB t f g tu)) ∧ Below w.heap.size w w' := by
 have HV := Lib.hid hv
 have HFS := Lib.hid (vaR_sorted hf)
 have HGS := Lib.hid (vaR_sorted hg)
 obtain ⟨_, _, a1, c1, e1, hb1, hI1, p0, p1, hr1⟩ := pt_pair h1
 simp only [Value.pointer.injEq, Option.some.injEq, Addr.mk.injEq, and_true] at e1
 obtain ⟨rfl, rfl⟩ := e1
 obtain ⟨_, _, a2, c2, e2, hb2, hI2, q0, q1, hr2⟩ := pt_pair h2
 simp only [Value.pointer.injEq, Option.some.injEq, Addr.mk.injEq, and_true] at e2
 obtain ⟨rfl, rfl⟩ := e2
 have HR1 : Hid (relT.Rd w (#[.int .i64 (vaR t f).1, .slice a1 (vaR t f).2.length c1] : Array Value).toList (vaR t f)) := pair_mk hI1 hr1
 have HR2 : Hid (relT.Rd w (#[.int .i64 (vaR t g).1, .slice a2 (vaR t g).2.length c2] : Array Value).toList (vaR t g)) := pair_mk hI2 hr2
 obtain ⟨va, vc, rfl⟩ := rd_slice hv
 rw [Nat.zero_add] at p1 q1
 clear hf hg h1 h2 hv hr1 hr2
 go_enter Tryz.func96, Tryz.ntmps96
 go_wp2_with fail
 refine wp_region_T (fun w' => w'.cell? ⟨b1, 0, none⟩ = some (.int .i64 (vaR t f).1) ∧ w'.cell? ⟨b1, 0 + 1, none⟩ = some (.slice a1 (vaR t f).2.length c1) ∧ w'.cell? ⟨b2, 0, none⟩ = some (.int .i64 (vaR t g).1) ∧ w'.cell? ⟨b2, 0 + 1, none⟩ = some (.slice a2 (vaR t g).2.length c2)) [7] (by kernel_rfl) ⟨p0, p1, q0, q1⟩ (fun hHeld => ?_)
 refine wpAnyT_take (i := 0) (v := ?_) rfl (by kernel_rfl) (fun _ _ _ h => h) (Or.inl ⟨by rfl, ?_⟩) (by assumption) ?_
 rotate_left
 ·(intro w hSw; (try dsimp only at hSw); go_simp <;> with_reducible rfl)
 try simp only [Act.put]
 refine wpAnyT_take (i := 1) (v := ?_) rfl (by kernel_rfl) (fun _ _ _ h => h) (Or.inl ⟨by rfl, ?_⟩) (by assumption) ?_
 rotate_left
 ·(intro w hSw; (try dsimp only at hSw); go_simp <;> with_reducible rfl)
 try simp only [Act.put]
 refine wpAnyT_take (i := 3) (v := ?_) rfl (by kernel_rfl) (fun _ _ _ h => h) (Or.inl ⟨by rfl, ?_⟩) (by assumption) ?_
 rotate_left
 ·(intro w hSw; (try dsimp only at hSw); go_simp <;> with_reducible rfl)
 try simp only [Act.put]
 refine wpAnyT_take (i := 4) (v := ?_) rfl (by kernel_rfl) (fun _ _ _ h => h) (Or.inl ⟨by rfl, ?_⟩) (by assumption) ?_
 rotate_left
 ·(intro w hSw; (try dsimp only at hSw); go_simp <;> with_reducible rfl)
 try simp only [Act.put]
 refine wpAnyT_one (i := 2) rfl (by kernel_rfl) (fun K hK => ?_)
 go_simp
 go_at_call 97
 refine (has_any _ (HR1.out.below bD) (HV.out.below bD) HFS.out).mono ?_
 rintro e w2 ⟨rfl, hx2⟩
 have hb2' : Below w.heap.size w w2 := bthen bD hx2
 replace p0 := (cellB hb2' (by omega)).trans p0
 replace p1 := (cellB hb2' (by omega)).trans p1
 replace q0 := (cellB hb2' (by omega)).trans q0
 replace q1 := (cellB hb2' (by omega)).trans q1
 dsimp only
 refine hK.out _ _ ⟨p0, p1, q0, q1⟩ (fun hHeld => ?_)
 clear hK K
 refine wpAnyT_one (i := 5) rfl (by kernel_rfl) (fun K hK => ?_)
 go_simp
 go_at_call 97
 refine (has_any _ (HR2.out.below hb2') (HV.out.below hb2') HGS.out).mono ?_
 rintro e w3 ⟨rfl, hx3⟩
 have hb3' : Below w.heap.size w w3 := bthen hb2' hx3
 have hz2 := hb2'.size
 replace p0 := (cellB hx3 (by omega)).trans p0
 replace p1 := (cellB hx3 (by omega)).trans p1
 replace q0 := (cellB hx3 (by omega)).trans q0
 replace q1 := (cellB hx3 (by omega)).trans q1
 dsimp only
 refine hK.out _ _ ⟨p0, p1, q0, q1⟩ (fun hHeld => ?_)
 clear hK K
 refine wpAnyT_take (i := 6) (v := ?_) rfl (by kernel_rfl) (fun _ _ _ h => h) (Or.inl ⟨by rfl, ?_⟩) (by assumption) ?_
 rotate_left
 ·(intro w hSw; (try dsimp only at hSw); go_simp <;> with_reducible rfl)
 try simp only [Act.put]
 refine wpAnyT_last (i := 7) rfl (by kernel_rfl) (by kernel_rfl) (fun K hK => ?_)
 go_simp
 refine hK.out _ _ ?_
 clear hK K
 refine wpAnyT_done (by kernel_rfl) ?_ _
 go_simp
 go_wp2_with fail
 go_ret
 exact ⟨rfl, hb3'⟩
set_option maxHeartbeats 12800000 in
set_option maxRecDepth 100000 in
theorem FirstApart_any (w : World) {cs cf cg : Array Value} {t : Int × List (Int × List (List Int))} {f g : Int × Int × List (Int × List Int)} (h : tplT.Rd w cs.toList t) (hf : frmT.Rd w cf.toList f) (hg : frmT.Rd w cg.toList g) :
  Calls Tryz.prog 26 #[.agg cs, .agg cf, .agg cg] w (RetSC intsT w (faV t f g) (faC t f g)) := by
 have HT := Lib.hid h
 have HF := Lib.hid hf
 have HG := Lib.hid hg
 obtain ⟨v1, hv1, hI, -⟩ := pair_ex h
 obtain rfl := agg_of hv1
 obtain ⟨v2, hv2, hIf, hIf2, -⟩ := trip_ex hf
 obtain rfl := agg_of hv2
 obtain ⟨v3, hv3, hIg, hIg2, -⟩ := trip_ex hg
 obtain rfl := agg_of hv3
 clear h hf hg hv1 hv2 hv3
 go_enter Tryz.func26, Tryz.ntmps26
 go_wp2_with fail
 generalize hW : World.alloc _ _ = W
 have hbW : Below w.heap.size w W := hW ▸ ((bAA (w := w)).alloc (by simp; omega) _)
 have hsW : w.heap.size + 3 ≤ W.heap.size := by rw [← hW]; simp
 have t0 : W.cell? ⟨w.heap.size, 0, none⟩ = some (.int .i64 t.1) := by rw [← hW]; simp [go_sem]
 have t1 : W.cell? ⟨w.heap.size, 1, none⟩ = some v1 := by rw [← hW]; simp [go_sem]
 have f0 : W.cell? ⟨w.heap.size + 1, 0, none⟩ = some (.int .i64 f.1) := by rw [← hW]; simp [go_sem]
 have f1 : W.cell? ⟨w.heap.size + 1, 1, none⟩ = some (.int .i64 f.2.1) := by rw [← hW]; simp [go_sem]
 have f2 : W.cell? ⟨w.heap.size + 1, 2, none⟩ = some v2 := by rw [← hW]; simp [go_sem]
 have g0 : W.cell? ⟨w.heap.size + 2, 0, none⟩ = some (.int .i64 g.1) := by rw [← hW]; simp [go_sem]
 have g1 : W.cell? ⟨w.heap.size + 2, 1, none⟩ = some (.int .i64 g.2.1) := by rw [← hW]; simp [go_sem]
 have g2 : W.cell? ⟨w.heap.size + 2, 2, none⟩ = some v3 := by rw [← hW]; simp [go_sem]
 clear hW
 refine (twoFault_any _ (HT.out.below hbW) (HF.out.below hbW) (HG.out.below hbW)).mono ?_
 rintro e w1 ⟨rfl, hb1⟩
 have hB1 := bthen hbW hb1
 have hz1 := hb1.size
 replace t0 := (cellB hb1 (by omega)).trans t0
 replace t1 := (cellB hb1 (by omega)).trans t1
 replace f0 := (cellB hb1 (by omega)).trans f0
 replace f1 := (cellB hb1 (by omega)).trans f1
 replace f2 := (cellB hb1 (by omega)).trans f2
 replace g0 := (cellB hb1 (by omega)).trans g0
 replace g1 := (cellB hb1 (by omega)).trans g1
 replace g2 := (cellB hb1 (by omega)).trans g2
 cases hc : (twoC t f g != 0)
 rotate_left
 ·have HR : Hid (faV t f g = [] ∧ faC t f g = twoC t f g ∧ aeB t f g = false) := fa_no (by simpa using hc)
  go_wp2_with fail
  go_ret2
  exact ⟨.slice none 0 0, by rw [HR.out.2.1]; rfl, by rw [HR.out.1]; exact fr_nil, hB1⟩
 ·have hc0 : twoC t f g = 0 := by simpa using hc
  obtain ⟨hok1, hok2, hfg⟩ := two_ok hc0
  have HRN := Lib.hid (fun h => fa_none hc0 h)
  have HRY := Lib.hid (fun h => fa_yes hc0 h)
  have HFOK := Lib.hid (tb_iff.1 hok1)
  have HGOK := Lib.hid (tb_iff.1 hok2)
  rw [hc0]
  clear hc hok1 hok2 hfg hc0
  go_wp2_with fail
  go_upto_region 4 with fail
  go_cut [9, 10] from 11 (fun v9 v10 wx => ∃ b1 b2, v9 = .pointer (some ⟨b1, 0, none⟩) ∧ v10 = .pointer (some ⟨b2, 0, none⟩) ∧ relT.Pt wx (.pointer (some ⟨b1, 0, none⟩)) (vaR t f) ∧ relT.Pt wx (.pointer (some ⟨b2, 0, none⟩)) (vaR t g) ∧ Below w1.heap.size w1 wx)
  case rest =>
   obtain ⟨b1, b2, rfl, rfl, P1, P2, hbc⟩ := hcut
   have hBc := bthen hB1 hbc
   have hzc := hbc.size
   have HP1 := Lib.hid P1
   have HP2 := Lib.hid P2
   have hnum := frm_nums HFOK.out
   obtain ⟨ar, har⟩ : ∃ ar : Nat, f.1 = ar := ⟨f.1.toNat, by omega⟩
   have ht4 : 1 ≤ t.1 ∧ t.1 ≤ 4 := by omega
   have har4 : ar ≤ 4 := by omega
   have HAL : Hid (apL t f g = relL t.1 ar (apB t f g) (t.1 ^ ar).toNat) := by
    unfold Hid apL
    rw [har, Int.toNat_natCast]
   have HPN : Hid (t.1 ^ ar = ((t.1 ^ ar).toNat : Int)) := by
    unfold Hid
    have := pow_nn (s := t.1) (by omega) ar
    omega
   have HLE : Hid ((apL t f g).length ≤ 1000000) := by
    unfold Hid
    rw [HAL.out]
    have h1 := relL_len (s := t.1) (ar := ar) (p := apB t f g) (k := (t.1 ^ ar).toNat)
    have h2 : t.1 ^ ar ≤ 1000000 := by
     refine Int.le_trans (pow_mono' (by omega) (show t.1 ≤ 4 by omega) ar) ?_
     rcases (show ar = 0 ∨ ar = 1 ∨ ar = 2 ∨ ar = 3 ∨ ar = 4 by omega) with e | e | e | e | e <;> rw [e] <;> decide
    omega
   have HEL : Hid (∀ y ∈ apL t f g, y.length ≤ 4) := fun y hy => by
    rw [HAL.out] at hy
    obtain ⟨q, -, rfl⟩ := List.mem_map.1 (List.mem_filter.1 hy).1
    rw [digL_len]
    exact har4
   rw [har] at f0
   replace t0 := (cellB hbc (by omega)).trans t0
   replace f0 := (cellB hbc (by omega)).trans f0
   clear t1 f1 f2 g0 g1 g2 har hnum P1 P2
   go_wp2_with fail
   refine (relOf_any _ t.1 ar ht4 har4 96 #[.pointer (some ⟨b1, 0, none⟩), .pointer (some ⟨b2, 0, none⟩)] (enters Tryz.func96 (by kernel_rfl) rfl) (apB t f g) _ HPN.out (Lib.hid (fun W' u k hW' hk hu => apart1_any W' HFOK.out HGOK.out (HP1.out.below hW') (HP2.out.below hW') hu))).mono ?_
   rintro e w2 ⟨cs2, rfl, hf2, hb2⟩
   rw [← HAL.out] at hf2
   obtain ⟨a2, c2, rfl⟩ := fr_pair hf2
   have hrd : rowsT.Rd w2 [.slice a2 (apL t f g).length c2] (apL t f g) := by
    obtain ⟨_, he, -, hr⟩ := pair_ex hf2.rd
    obtain rfl := (List.cons.inj (List.cons.inj he).2).1
    exact hr
   have hz2 := hb2.size
   have hB2 := bthen hBc hb2
   have HE4 := HEL.out
   have HL4 := HLE.out
   clear t0 f0 hf2 HP1 HP2
   rcases hL : apL t f g with _ | ⟨y, r⟩
   ·have HR := Lib.hid (HRN.out (by rw [hL]; rfl))
    have hl0 : ((([] : List (List Int)).length : Int)) = 0 := rfl
    clear hrd HE4 HL4
    rw [hL] at *
    clear hL
    go_wp2_with fail
    go_ret2
    exact ⟨.slice none 0 0, by rw [HR.out.2.1]; rfl, by rw [HR.out.1]; exact fr_nil, hB2.alloc hB2.size _⟩
   ·have HR := Lib.hid (HRY.out (by rw [hL]; rfl))
    obtain ⟨_, _, he, -, -, hce⟩ := slices_ex hrd
    simp only [List.cons.injEq, Value.slice.injEq, and_true, true_and] at he
    obtain ⟨rfl, rfl⟩ := he
    have hpos : 0 < (apL t f g).length := by rw [hL]; simp
    obtain ⟨b, o, rfl, hbl, hcc⟩ := hce hpos
    obtain ⟨u, hu, hcu⟩ := hcc 0 hpos
    have hy0 : (apL t f g)[0] = y := by simp [hL]
    rw [hy0] at hu
    obtain ⟨ua, uc, rfl⟩ := rd_slice hu
    have HU := Lib.hid hu
    have hyl : y.length ≤ 4 := HE4 y (by rw [hL]; exact List.mem_cons_self ..)
    have e0 : w2.cell? ⟨b, o, none⟩ = some (.slice ua y.length uc) := by simpa using hcu
    have hHV : headV (apL t f g) = y := by rw [hL]; rfl
    have HHV := Lib.hid hHV
    have hpos2 : 0 < ((apL t f g).length : Int) := by omega
    have hne : (((apL t f g).length : Int) == 0) = false := beq_false_of_ne (by omega)
    clear hrd hce hcc hu hcu hy0 hL hHV HE4
    generalize (apL t f g).length = ln at *
    go_wp2_with fail
    refine (Clone_any _ (HU.out.below bA) (by omega)).mono ?_
    rintro e w3 ⟨u3, rfl, hf3, hb3⟩
    obtain ⟨a3, c3, rfl⟩ := fr_slice hf3
    have HF3 := Lib.hid hf3
    have hb23 := bthen bA hb3
    clear hf3
    go_wp2_with fail
    go_ret2
    exact ⟨.slice a3 y.length c3, by rw [HR.out.2.1]; rfl, by rw [HR.out.1, HHV.out]; exact HF3.out.mono (by simp; have := hB2.size; omega), bthen hB2 hb23⟩
  have hy0 : Below w.heap.size w w1.drew := bthen hB1 bD
  have hv0 : Below w1.heap.size w1 w1.drew := bD
  refine wp_region_T (fun w' => w'.cell? ⟨w.heap.size, 0, none⟩ = some (.int .i64 t.1) ∧ w'.cell? ⟨w.heap.size, 1, none⟩ = some v1 ∧ w'.cell? ⟨w.heap.size + 1, 0, none⟩ = some (.int .i64 f.1) ∧ w'.cell? ⟨w.heap.size + 1, 1, none⟩ = some (.int .i64 f.2.1) ∧ w'.cell? ⟨w.heap.size + 1, 2, none⟩ = some v2 ∧ w'.cell? ⟨w.heap.size + 2, 0, none⟩ = some (.int .i64 g.1) ∧ w'.cell? ⟨w.heap.size + 2, 1, none⟩ = some (.int .i64 g.2.1) ∧ w'.cell? ⟨w.heap.size + 2, 2, none⟩ = some v3) [8, 9] (by kernel_rfl) ⟨t0, t1, f0, f1, f2, g0, g1, g2⟩ (fun hHeld => ?_)
  refine wpAnyT_take (i := 0) (v := ?_) rfl (by kernel_rfl) (fun _ _ _ h => h) (Or.inl ⟨by rfl, ?_⟩) (by assumption) ?_
  rotate_left
  ·(intro w hSw; (try dsimp only at hSw); go_simp <;> with_reducible rfl)
  try simp only [Act.put]
  refine wpAnyT_take (i := 1) (v := ?_) rfl (by kernel_rfl) (fun _ _ _ h => h) (Or.inl ⟨by rfl, ?_⟩) (by assumption) ?_
  rotate_left
  ·(intro w hSw; (try dsimp only at hSw); go_simp <;> with_reducible rfl)
  try simp only [Act.put]
  refine wpAnyT_take (i := 3) (v := ?_) rfl (by kernel_rfl) (fun _ _ _ h => h) (Or.inl ⟨by rfl, ?_⟩) (by assumption) ?_
  rotate_left
  ·(intro w hSw; (try dsimp only at hSw); go_simp <;> with_reducible rfl)
  try simp only [Act.put]
  refine wpAnyT_take (i := 4) (v := ?_) rfl (by kernel_rfl) (fun _ _ _ h => h) (Or.inl ⟨by rfl, ?_⟩) (by assumption) ?_
  rotate_left
  ·(intro w hSw; (try dsimp only at hSw); go_simp <;> with_reducible rfl)
  try simp only [Act.put]
  have hzD : w1.heap.size ≤ w1.drew.heap.size := Nat.le_refl _
  clear t0 t1 f0 f1 f2 g0 g1 g2
  generalize w1.drew = x0 at hHeld hy0 hv0 hzD ⊢
  obtain ⟨t0, t1, f0, f1, f2, g0, g1, g2⟩ := hHeld
  refine wpAnyT_three (i := 2) (j := 6) (k := 7) rfl rfl rfl (by kernel_rfl) (fun K hK => ?_) (fun K hK => ?_) (fun K hK => ?_)
  ·go_simp
   go_at_call 57
   refine (valueOf_any (cs := #[.int .i64 t.1, v1]) (cf := #[.int .i64 f.1, .int .i64 f.2.1, v2]) _ (HT.out.below hy0) (HF.out.below hy0) HFOK.out).mono ?_
   rintro e x1 ⟨cs1, rfl, hf1, hx1⟩
   obtain ⟨ra1, rc1, rfl⟩ := fr_pair hf1
   have hz1 := hx1.size
   have R1 := Lib.hid (hf1.P.mono (ok' := fun k => x0.heap.size ≤ k ∧ k < x1.heap.size) (fun k h1 h2 => ⟨h2, h1⟩))
   clear hf1
   dsimp only
   have hy1 : Below w.heap.size w x1 := bthen hy0 hx1
   have hv1 : Below w1.heap.size w1 x1 := bthen hv0 hx1
   replace t0 := (cellB hx1 (by omega)).trans t0
   replace t1 := (cellB hx1 (by omega)).trans t1
   replace f0 := (cellB hx1 (by omega)).trans f0
   replace f1 := (cellB hx1 (by omega)).trans f1
   replace f2 := (cellB hx1 (by omega)).trans f2
   replace g0 := (cellB hx1 (by omega)).trans g0
   replace g1 := (cellB hx1 (by omega)).trans g1
   replace g2 := (cellB hx1 (by omega)).trans g2
   refine hK.out _ _ ⟨t0, t1, f0, f1, f2, g0, g1, g2⟩ (fun hHeld => ?_)
   clear hK K hHeld
   refine wpAnyT_three (i := 5) (j := 6) (k := 7) rfl rfl rfl (by kernel_rfl) (fun K hK => ?_) (fun K hK => ?_) (fun K hK => ?_)
   ·go_simp
    go_at_call 57
    refine (valueOf_any (cs := #[.int .i64 t.1, v1]) (cf := #[.int .i64 g.1, .int .i64 g.2.1, v3]) _ (HT.out.below hy1) (HG.out.below hy1) HGOK.out).mono ?_
    rintro e x2 ⟨cs2, rfl, hf2, hx2⟩
    obtain ⟨ra2, rc2, rfl⟩ := fr_pair hf2
    have hz2 := hx2.size
    have R2 := Lib.hid (hf2.P.mono (ok' := fun k => x1.heap.size ≤ k ∧ k < x2.heap.size) (fun k h1 h2 => ⟨h2, h1⟩))
    clear hf2
    dsimp only
    have hy2 : Below w.heap.size w x2 := bthen hy1 hx2
    have hv2 : Below w1.heap.size w1 x2 := bthen hv1 hx2
    replace t0 := (cellB hx2 (by omega)).trans t0
    replace t1 := (cellB hx2 (by omega)).trans t1
    replace f0 := (cellB hx2 (by omega)).trans f0
    replace f1 := (cellB hx2 (by omega)).trans f1
    replace f2 := (cellB hx2 (by omega)).trans f2
    replace g0 := (cellB hx2 (by omega)).trans g0
    replace g1 := (cellB hx2 (by omega)).trans g1
    replace g2 := (cellB hx2 (by omega)).trans g2
    replace R1 := Lib.hid (R1.out.below hx2)
    refine hK.out _ _ ⟨t0, t1, f0, f1, f2, g0, g1, g2⟩ (fun hHeld => ?_)
    clear hK K hHeld
    refine wpAnyT_two (i := 6) (j := 7) rfl rfl (by kernel_rfl) (fun K hK => ?_) (fun K hK => ?_)
    ·go_simp
     generalize hW3 : World.alloc x2 _ = x3
     have hx3 : Below x2.heap.size x2 x3 := by rw [← hW3]; exact bA
     have hz3 : x2.heap.size + 1 ≤ x3.heap.size := by rw [← hW3]; simp
     have k10 : x3.cell? ⟨x2.heap.size, 0, none⟩ = some (.int .i64 0) := by rw [← hW3]; simp [go_sem]
     have k11 : x3.cell? ⟨x2.heap.size, 1, none⟩ = some (.slice none 0 0) := by rw [← hW3]; simp [go_sem]
     have m10 : x3.frozen? ⟨x2.heap.size, 0, none⟩ = false := by rw [← hW3]; simp [go_sem]
     have m11 : x3.frozen? ⟨x2.heap.size, 1, none⟩ = false := by rw [← hW3]; simp [go_sem]
     clear hW3
     obtain ⟨b1, hb1⟩ : ∃ b, b = x2.heap.size := ⟨_, rfl⟩
     rw [← hb1] at k10 k11 m10 m11 ⊢
     have hl1 : x2.heap.size ≤ b1 ∧ b1 < x3.heap.size := by omega
     clear hb1
     have hy3 : Below w.heap.size w x3 := bthen hy2 hx3
     have hv3 : Below w1.heap.size w1 x3 := bthen hv2 hx3
     replace t0 := (cellB hx3 (by omega)).trans t0
     replace t1 := (cellB hx3 (by omega)).trans t1
     replace f0 := (cellB hx3 (by omega)).trans f0
     replace f1 := (cellB hx3 (by omega)).trans f1
     replace f2 := (cellB hx3 (by omega)).trans f2
     replace g0 := (cellB hx3 (by omega)).trans g0
     replace g1 := (cellB hx3 (by omega)).trans g1
     replace g2 := (cellB hx3 (by omega)).trans g2
     replace R1 := Lib.hid (R1.out.below hx3)
     replace R2 := Lib.hid (R2.out.below hx3)
     refine hK.out _ _ ⟨t0, t1, f0, f1, f2, g0, g1, g2⟩ (fun hHeld => ?_)
     clear hK K hHeld
     refine wpAnyT_one (i := 7) rfl (by kernel_rfl) (fun K hK => ?_)
     go_simp
     generalize hW4 : World.alloc x3 _ = x4
     have hx4 : Below x3.heap.size x3 x4 := by rw [← hW4]; exact bA
     have hz4 : x3.heap.size + 1 ≤ x4.heap.size := by rw [← hW4]; simp
     have k20 : x4.cell? ⟨x3.heap.size, 0, none⟩ = some (.int .i64 0) := by rw [← hW4]; simp [go_sem]
     have k21 : x4.cell? ⟨x3.heap.size, 1, none⟩ = some (.slice none 0 0) := by rw [← hW4]; simp [go_sem]
     have m20 : x4.frozen? ⟨x3.heap.size, 0, none⟩ = false := by rw [← hW4]; simp [go_sem]
     have m21 : x4.frozen? ⟨x3.heap.size, 1, none⟩ = false := by rw [← hW4]; simp [go_sem]
     clear hW4
     obtain ⟨b2, hb2⟩ : ∃ b, b = x3.heap.size := ⟨_, rfl⟩
     rw [← hb2] at k20 k21 m20 m21 ⊢
     have hl2 : x3.heap.size ≤ b2 ∧ b2 < x4.heap.size := by omega
     clear hb2
     have hy4 : Below w.heap.size w x4 := bthen hy3 hx4
     have hv4 : Below w1.heap.size w1 x4 := bthen hv3 hx4
     replace t0 := (cellB hx4 (by omega)).trans t0
     replace t1 := (cellB hx4 (by omega)).trans t1
     replace f0 := (cellB hx4 (by omega)).trans f0
     replace f1 := (cellB hx4 (by omega)).trans f1
     replace f2 := (cellB hx4 (by omega)).trans f2
     replace g0 := (cellB hx4 (by omega)).trans g0
     replace g1 := (cellB hx4 (by omega)).trans g1
     replace g2 := (cellB hx4 (by omega)).trans g2
     replace k10 := (cellB hx4 (by omega)).trans k10
     replace k11 := (cellB hx4 (by omega)).trans k11
     replace m10 := (frozenB hx4 (by omega)).trans m10
     replace m11 := (frozenB hx4 (by omega)).trans m11
     replace R1 := Lib.hid (R1.out.below hx4)
     replace R2 := Lib.hid (R2.out.below hx4)
     refine hK.out _ _ ⟨t0, t1, f0, f1, f2, g0, g1, g2⟩ (fun hHeld => ?_)
     clear hK K hHeld
     refine wpAnyT_last (i := 8) rfl (by kernel_rfl) (by kernel_rfl) (fun K hK => ?_)
     go_simp
     refine hK.out _ _ ?_
     clear hK K
     have k20' := (World.cell?_setCell_other (x4.setCell ⟨b1, 0, none⟩ (.int .i64 f.1)) ⟨b1, 1, none⟩ ⟨b2, 0, none⟩ (.slice ra1 (vaR t f).2.length rc1) (by first | (simp; done) | (simp; omega))).trans ((World.cell?_setCell_other x4 ⟨b1, 0, none⟩ ⟨b2, 0, none⟩ (.int .i64 f.1) (by first | (simp; done) | (simp; omega))).trans k20)
     have k21' := (World.cell?_setCell_other (x4.setCell ⟨b1, 0, none⟩ (.int .i64 f.1)) ⟨b1, 1, none⟩ ⟨b2, 1, none⟩ (.slice ra1 (vaR t f).2.length rc1) (by first | (simp; done) | (simp; omega))).trans ((World.cell?_setCell_other x4 ⟨b1, 0, none⟩ ⟨b2, 1, none⟩ (.int .i64 f.1) (by first | (simp; done) | (simp; omega))).trans k21)
     have m20' := (World.frozen?_setCell (x4.setCell ⟨b1, 0, none⟩ (.int .i64 f.1)) ⟨b1, 1, none⟩ ⟨b2, 0, none⟩ (.slice ra1 (vaR t f).2.length rc1)).trans ((World.frozen?_setCell x4 ⟨b1, 0, none⟩ ⟨b2, 0, none⟩ (.int .i64 f.1)).trans m20)
     have m21' := (World.frozen?_setCell (x4.setCell ⟨b1, 0, none⟩ (.int .i64 f.1)) ⟨b1, 1, none⟩ ⟨b2, 1, none⟩ (.slice ra1 (vaR t f).2.length rc1)).trans ((World.frozen?_setCell x4 ⟨b1, 0, none⟩ ⟨b2, 1, none⟩ (.int .i64 f.1)).trans m21)
     refine wpAnyT_last (i := 9) rfl (by kernel_rfl) (by kernel_rfl) (fun K hK => ?_)
     go_simp
     refine hK.out _ _ ?_
     clear hK K
     have HTB := Lib.hid (two_boxes (E := relT) (F := relT) (r := vaR t f) (s := vaR t g) hv4 (by omega) (by omega) (show b1 < x4.heap.size by omega) (show b2 < x4.heap.size by omega) (by omega) k10 k11 k20 k21 R1.out R2.out (by omega) (by omega) (by omega) (by omega))
     refine wpAnyT_done (by kernel_rfl) ?_ _
     go_simp
     go_wp2_with fail
     go_meet
     case rel => exact ⟨b1, b2, rfl, rfl, HTB.out.1, HTB.out.2.1, HTB.out.2.2⟩
    ·go_simp
     generalize hW3 : World.alloc x2 _ = x3
     have hx3 : Below x2.heap.size x2 x3 := by rw [← hW3]; exact bA
     have hz3 : x2.heap.size + 1 ≤ x3.heap.size := by rw [← hW3]; simp
     have k20 : x3.cell? ⟨x2.heap.size, 0, none⟩ = some (.int .i64 0) := by rw [← hW3]; simp [go_sem]
     have k21 : x3.cell? ⟨x2.heap.size, 1, none⟩ = some (.slice none 0 0) := by rw [← hW3]; simp [go_sem]
     have m20 : x3.frozen? ⟨x2.heap.size, 0, none⟩ = false := by rw [← hW3]; simp [go_sem]
     have m21 : x3.frozen? ⟨x2.heap.size, 1, none⟩ = false := by rw [← hW3]; simp [go_sem]
     clear hW3
     obtain ⟨b2, hb2⟩ : ∃ b, b = x2.heap.size := ⟨_, rfl⟩
     rw [← hb2] at k20 k21 m20 m21 ⊢
     have hl2 : x2.heap.size ≤ b2 ∧ b2 < x3.heap.size := by omega
     clear hb2
     have hy3 : Below w.heap.size w x3 := bthen hy2 hx3
     have hv3 : Below w1.heap.size w1 x3 := bthen hv2 hx3
     replace t0 := (cellB hx3 (by omega)).trans t0
     replace t1 := (cellB hx3 (by omega)).trans t1
     replace f0 := (cellB hx3 (by omega)).trans f0
     replace f1 := (cellB hx3 (by omega)).trans f1
     replace f2 := (cellB hx3 (by omega)).trans f2
     replace g0 := (cellB hx3 (by omega)).trans g0
     replace g1 := (cellB hx3 (by omega)).trans g1
     replace g2 := (cellB hx3 (by omega)).trans g2
     replace R1 := Lib.hid (R1.out.below hx3)
     replace R2 := Lib.hid (R2.out.below hx3)
     refine hK.out _ _ ⟨t0, t1, f0, f1, f2, g0, g1, g2⟩ (fun hHeld => ?_)
     clear hK K hHeld
     refine wpAnyT_one (i := 6) rfl (by kernel_rfl) (fun K hK => ?_)
     go_simp
     generalize hW4 : World.alloc x3 _ = x4
     have hx4 : Below x3.heap.size x3 x4 := by rw [← hW4]; exact bA
     have hz4 : x3.heap.size + 1 ≤ x4.heap.size := by rw [← hW4]; simp
     have k10 : x4.cell? ⟨x3.heap.size, 0, none⟩ = some (.int .i64 0) := by rw [← hW4]; simp [go_sem]
     have k11 : x4.cell? ⟨x3.heap.size, 1, none⟩ = some (.slice none 0 0) := by rw [← hW4]; simp [go_sem]
     have m10 : x4.frozen? ⟨x3.heap.size, 0, none⟩ = false := by rw [← hW4]; simp [go_sem]
     have m11 : x4.frozen? ⟨x3.heap.size, 1, none⟩ = false := by rw [← hW4]; simp [go_sem]
     clear hW4
     obtain ⟨b1, hb1⟩ : ∃ b, b = x3.heap.size := ⟨_, rfl⟩
     rw [← hb1] at k10 k11 m10 m11 ⊢
     have hl1 : x3.heap.size ≤ b1 ∧ b1 < x4.heap.size := by omega
     clear hb1
     have hy4 : Below w.heap.size w x4 := bthen hy3 hx4
     have hv4 : Below w1.heap.size w1 x4 := bthen hv3 hx4
     replace t0 := (cellB hx4 (by omega)).trans t0
     replace t1 := (cellB hx4 (by omega)).trans t1
     replace f0 := (cellB hx4 (by omega)).trans f0
     replace f1 := (cellB hx4 (by omega)).trans f1
     replace f2 := (cellB hx4 (by omega)).trans f2
     replace g0 := (cellB hx4 (by omega)).trans g0
     replace g1 := (cellB hx4 (by omega)).trans g1
     replace g2 := (cellB hx4 (by omega)).trans g2
     replace k20 := (cellB hx4 (by omega)).trans k20
     replace k21 := (cellB hx4 (by omega)).trans k21
     replace m20 := (frozenB hx4 (by omega)).trans m20
     replace m21 := (frozenB hx4 (by omega)).trans m21
     replace R1 := Lib.hid (R1.out.below hx4)
     replace R2 := Lib.hid (R2.out.below hx4)
     refine hK.out _ _ ⟨t0, t1, f0, f1, f2, g0, g1, g2⟩ (fun hHeld => ?_)
     clear hK K hHeld
     refine wpAnyT_last (i := 8) rfl (by kernel_rfl) (by kernel_rfl) (fun K hK => ?_)
     go_simp
     refine hK.out _ _ ?_
     clear hK K
     have k20' := (World.cell?_setCell_other (x4.setCell ⟨b1, 0, none⟩ (.int .i64 f.1)) ⟨b1, 1, none⟩ ⟨b2, 0, none⟩ (.slice ra1 (vaR t f).2.length rc1) (by first | (simp; done) | (simp; omega))).trans ((World.cell?_setCell_other x4 ⟨b1, 0, none⟩ ⟨b2, 0, none⟩ (.int .i64 f.1) (by first | (simp; done) | (simp; omega))).trans k20)
     have k21' := (World.cell?_setCell_other (x4.setCell ⟨b1, 0, none⟩ (.int .i64 f.1)) ⟨b1, 1, none⟩ ⟨b2, 1, none⟩ (.slice ra1 (vaR t f).2.length rc1) (by first | (simp; done) | (simp; omega))).trans ((World.cell?_setCell_other x4 ⟨b1, 0, none⟩ ⟨b2, 1, none⟩ (.int .i64 f.1) (by first | (simp; done) | (simp; omega))).trans k21)
     have m20' := (World.frozen?_setCell (x4.setCell ⟨b1, 0, none⟩ (.int .i64 f.1)) ⟨b1, 1, none⟩ ⟨b2, 0, none⟩ (.slice ra1 (vaR t f).2.length rc1)).trans ((World.frozen?_setCell x4 ⟨b1, 0, none⟩ ⟨b2, 0, none⟩ (.int .i64 f.1)).trans m20)
     have m21' := (World.frozen?_setCell (x4.setCell ⟨b1, 0, none⟩ (.int .i64 f.1)) ⟨b1, 1, none⟩ ⟨b2, 1, none⟩ (.slice ra1 (vaR t f).2.length rc1)).trans ((World.frozen?_setCell x4 ⟨b1, 0, none⟩ ⟨b2, 1, none⟩ (.int .i64 f.1)).trans m21)
     refine wpAnyT_last (i := 9) rfl (by kernel_rfl) (by kernel_rfl) (fun K hK => ?_)
     go_simp
     refine hK.out _ _ ?_
     clear hK K
     have HTB := Lib.hid (two_boxes (E := relT) (F := relT) (r := vaR t f) (s := vaR t g) hv4 (by omega) (by omega) (show b1 < x4.heap.size by omega) (show b2 < x4.heap.size by omega) (by omega) k10 k11 k20 k21 R1.out R2.out (by omega) (by omega) (by omega) (by omega))
     refine wpAnyT_done (by kernel_rfl) ?_ _
     go_simp
     go_wp2_with fail
     go_meet
     case rel => exact ⟨b1, b2, rfl, rfl, HTB.out.1, HTB.out.2.1, HTB.out.2.2⟩
   ·go_simp
    generalize hW2 : World.alloc x1 _ = x2
    have hx2 : Below x1.heap.size x1 x2 := by rw [← hW2]; exact bA
    have hz2 : x1.heap.size + 1 ≤ x2.heap.size := by rw [← hW2]; simp
    have k10 : x2.cell? ⟨x1.heap.size, 0, none⟩ = some (.int .i64 0) := by rw [← hW2]; simp [go_sem]
    have k11 : x2.cell? ⟨x1.heap.size, 1, none⟩ = some (.slice none 0 0) := by rw [← hW2]; simp [go_sem]
    have m10 : x2.frozen? ⟨x1.heap.size, 0, none⟩ = false := by rw [← hW2]; simp [go_sem]
    have m11 : x2.frozen? ⟨x1.heap.size, 1, none⟩ = false := by rw [← hW2]; simp [go_sem]
    clear hW2
    obtain ⟨b1, hb1⟩ : ∃ b, b = x1.heap.size := ⟨_, rfl⟩
    rw [← hb1] at k10 k11 m10 m11 ⊢
    have hl1 : x1.heap.size ≤ b1 ∧ b1 < x2.heap.size := by omega
    clear hb1
    have hy2 : Below w.heap.size w x2 := bthen hy1 hx2
    have hv2 : Below w1.heap.size w1 x2 := bthen hv1 hx2
    replace t0 := (cellB hx2 (by omega)).trans t0
    replace t1 := (cellB hx2 (by omega)).trans t1
    replace f0 := (cellB hx2 (by omega)).trans f0
    replace f1 := (cellB hx2 (by omega)).trans f1
    replace f2 := (cellB hx2 (by omega)).trans f2
    replace g0 := (cellB hx2 (by omega)).trans g0
    replace g1 := (cellB hx2 (by omega)).trans g1
    replace g2 := (cellB hx2 (by omega)).trans g2
    replace R1 := Lib.hid (R1.out.below hx2)
    refine hK.out _ _ ⟨t0, t1, f0, f1, f2, g0, g1, g2⟩ (fun hHeld => ?_)
    clear hK K hHeld
    refine wpAnyT_two (i := 5) (j := 7) rfl rfl (by kernel_rfl) (fun K hK => ?_) (fun K hK => ?_)
    ·go_simp
     go_at_call 57
     refine (valueOf_any (cs := #[.int .i64 t.1, v1]) (cf := #[.int .i64 g.1, .int .i64 g.2.1, v3]) _ (HT.out.below hy2) (HG.out.below hy2) HGOK.out).mono ?_
     rintro e x3 ⟨cs2, rfl, hf2, hx3⟩
     obtain ⟨ra2, rc2, rfl⟩ := fr_pair hf2
     have hz3 := hx3.size
     have R2 := Lib.hid (hf2.P.mono (ok' := fun k => x2.heap.size ≤ k ∧ k < x3.heap.size) (fun k h1 h2 => ⟨h2, h1⟩))
     clear hf2
     dsimp only
     have hy3 : Below w.heap.size w x3 := bthen hy2 hx3
     have hv3 : Below w1.heap.size w1 x3 := bthen hv2 hx3
     replace t0 := (cellB hx3 (by omega)).trans t0
     replace t1 := (cellB hx3 (by omega)).trans t1
     replace f0 := (cellB hx3 (by omega)).trans f0
     replace f1 := (cellB hx3 (by omega)).trans f1
     replace f2 := (cellB hx3 (by omega)).trans f2
     replace g0 := (cellB hx3 (by omega)).trans g0
     replace g1 := (cellB hx3 (by omega)).trans g1
     replace g2 := (cellB hx3 (by omega)).trans g2
     replace k10 := (cellB hx3 (by omega)).trans k10
     replace k11 := (cellB hx3 (by omega)).trans k11
     replace m10 := (frozenB hx3 (by omega)).trans m10
     replace m11 := (frozenB hx3 (by omega)).trans m11
     replace R1 := Lib.hid (R1.out.below hx3)
     refine hK.out _ _ ⟨t0, t1, f0, f1, f2, g0, g1, g2⟩ (fun hHeld => ?_)
     clear hK K hHeld
     refine wpAnyT_one (i := 7) rfl (by kernel_rfl) (fun K hK => ?_)
     go_simp
     generalize hW4 : World.alloc x3 _ = x4
     have hx4 : Below x3.heap.size x3 x4 := by rw [← hW4]; exact bA
     have hz4 : x3.heap.size + 1 ≤ x4.heap.size := by rw [← hW4]; simp
     have k20 : x4.cell? ⟨x3.heap.size, 0, none⟩ = some (.int .i64 0) := by rw [← hW4]; simp [go_sem]
     have k21 : x4.cell? ⟨x3.heap.size, 1, none⟩ = some (.slice none 0 0) := by rw [← hW4]; simp [go_sem]
     have m20 : x4.frozen? ⟨x3.heap.size, 0, none⟩ = false := by rw [← hW4]; simp [go_sem]
     have m21 : x4.frozen? ⟨x3.heap.size, 1, none⟩ = false := by rw [← hW4]; simp [go_sem]
     clear hW4
     obtain ⟨b2, hb2⟩ : ∃ b, b = x3.heap.size := ⟨_, rfl⟩
     rw [← hb2] at k20 k21 m20 m21 ⊢
     have hl2 : x3.heap.size ≤ b2 ∧ b2 < x4.heap.size := by omega
     clear hb2
     have hy4 : Below w.heap.size w x4 := bthen hy3 hx4
     have hv4 : Below w1.heap.size w1 x4 := bthen hv3 hx4
     replace t0 := (cellB hx4 (by omega)).trans t0
     replace t1 := (cellB hx4 (by omega)).trans t1
     replace f0 := (cellB hx4 (by omega)).trans f0
     replace f1 := (cellB hx4 (by omega)).trans f1
     replace f2 := (cellB hx4 (by omega)).trans f2
     replace g0 := (cellB hx4 (by omega)).trans g0
     replace g1 := (cellB hx4 (by omega)).trans g1
     replace g2 := (cellB hx4 (by omega)).trans g2
     replace k10 := (cellB hx4 (by omega)).trans k10
     replace k11 := (cellB hx4 (by omega)).trans k11
     replace m10 := (frozenB hx4 (by omega)).trans m10
     replace m11 := (frozenB hx4 (by omega)).trans m11
     replace R1 := Lib.hid (R1.out.below hx4)
     replace R2 := Lib.hid (R2.out.below hx4)
     refine hK.out _ _ ⟨t0, t1, f0, f1, f2, g0, g1, g2⟩ (fun hHeld => ?_)
     clear hK K hHeld
     refine wpAnyT_last (i := 8) rfl (by kernel_rfl) (by kernel_rfl) (fun K hK => ?_)
     go_simp
     refine hK.out _ _ ?_
     clear hK K
     have k20' := (World.cell?_setCell_other (x4.setCell ⟨b1, 0, none⟩ (.int .i64 f.1)) ⟨b1, 1, none⟩ ⟨b2, 0, none⟩ (.slice ra1 (vaR t f).2.length rc1) (by first | (simp; done) | (simp; omega))).trans ((World.cell?_setCell_other x4 ⟨b1, 0, none⟩ ⟨b2, 0, none⟩ (.int .i64 f.1) (by first | (simp; done) | (simp; omega))).trans k20)
     have k21' := (World.cell?_setCell_other (x4.setCell ⟨b1, 0, none⟩ (.int .i64 f.1)) ⟨b1, 1, none⟩ ⟨b2, 1, none⟩ (.slice ra1 (vaR t f).2.length rc1) (by first | (simp; done) | (simp; omega))).trans ((World.cell?_setCell_other x4 ⟨b1, 0, none⟩ ⟨b2, 1, none⟩ (.int .i64 f.1) (by first | (simp; done) | (simp; omega))).trans k21)
     have m20' := (World.frozen?_setCell (x4.setCell ⟨b1, 0, none⟩ (.int .i64 f.1)) ⟨b1, 1, none⟩ ⟨b2, 0, none⟩ (.slice ra1 (vaR t f).2.length rc1)).trans ((World.frozen?_setCell x4 ⟨b1, 0, none⟩ ⟨b2, 0, none⟩ (.int .i64 f.1)).trans m20)
     have m21' := (World.frozen?_setCell (x4.setCell ⟨b1, 0, none⟩ (.int .i64 f.1)) ⟨b1, 1, none⟩ ⟨b2, 1, none⟩ (.slice ra1 (vaR t f).2.length rc1)).trans ((World.frozen?_setCell x4 ⟨b1, 0, none⟩ ⟨b2, 1, none⟩ (.int .i64 f.1)).trans m21)
     refine wpAnyT_last (i := 9) rfl (by kernel_rfl) (by kernel_rfl) (fun K hK => ?_)
     go_simp
     refine hK.out _ _ ?_
     clear hK K
     have HTB := Lib.hid (two_boxes (E := relT) (F := relT) (r := vaR t f) (s := vaR t g) hv4 (by omega) (by omega) (show b1 < x4.heap.size by omega) (show b2 < x4.heap.size by omega) (by omega) k10 k11 k20 k21 R1.out R2.out (by omega) (by omega) (by omega) (by omega))
     refine wpAnyT_done (by kernel_rfl) ?_ _
     go_simp
     go_wp2_with fail
     go_meet
     case rel => exact ⟨b1, b2, rfl, rfl, HTB.out.1, HTB.out.2.1, HTB.out.2.2⟩
    ·go_simp
     generalize hW3 : World.alloc x2 _ = x3
     have hx3 : Below x2.heap.size x2 x3 := by rw [← hW3]; exact bA
     have hz3 : x2.heap.size + 1 ≤ x3.heap.size := by rw [← hW3]; simp
     have k20 : x3.cell? ⟨x2.heap.size, 0, none⟩ = some (.int .i64 0) := by rw [← hW3]; simp [go_sem]
     have k21 : x3.cell? ⟨x2.heap.size, 1, none⟩ = some (.slice none 0 0) := by rw [← hW3]; simp [go_sem]
     have m20 : x3.frozen? ⟨x2.heap.size, 0, none⟩ = false := by rw [← hW3]; simp [go_sem]
     have m21 : x3.frozen? ⟨x2.heap.size, 1, none⟩ = false := by rw [← hW3]; simp [go_sem]
     clear hW3
     obtain ⟨b2, hb2⟩ : ∃ b, b = x2.heap.size := ⟨_, rfl⟩
     rw [← hb2] at k20 k21 m20 m21 ⊢
     have hl2 : x2.heap.size ≤ b2 ∧ b2 < x3.heap.size := by omega
     clear hb2
     have hy3 : Below w.heap.size w x3 := bthen hy2 hx3
     have hv3 : Below w1.heap.size w1 x3 := bthen hv2 hx3
     replace t0 := (cellB hx3 (by omega)).trans t0
     replace t1 := (cellB hx3 (by omega)).trans t1
     replace f0 := (cellB hx3 (by omega)).trans f0
     replace f1 := (cellB hx3 (by omega)).trans f1
     replace f2 := (cellB hx3 (by omega)).trans f2
     replace g0 := (cellB hx3 (by omega)).trans g0
     replace g1 := (cellB hx3 (by omega)).trans g1
     replace g2 := (cellB hx3 (by omega)).trans g2
     replace k10 := (cellB hx3 (by omega)).trans k10
     replace k11 := (cellB hx3 (by omega)).trans k11
     replace m10 := (frozenB hx3 (by omega)).trans m10
     replace m11 := (frozenB hx3 (by omega)).trans m11
     replace R1 := Lib.hid (R1.out.below hx3)
     refine hK.out _ _ ⟨t0, t1, f0, f1, f2, g0, g1, g2⟩ (fun hHeld => ?_)
     clear hK K hHeld
     refine wpAnyT_one (i := 5) rfl (by kernel_rfl) (fun K hK => ?_)
     go_simp
     go_at_call 57
     refine (valueOf_any (cs := #[.int .i64 t.1, v1]) (cf := #[.int .i64 g.1, .int .i64 g.2.1, v3]) _ (HT.out.below hy3) (HG.out.below hy3) HGOK.out).mono ?_
     rintro e x4 ⟨cs2, rfl, hf2, hx4⟩
     obtain ⟨ra2, rc2, rfl⟩ := fr_pair hf2
     have hz4 := hx4.size
     have R2 := Lib.hid (hf2.P.mono (ok' := fun k => x3.heap.size ≤ k ∧ k < x4.heap.size) (fun k h1 h2 => ⟨h2, h1⟩))
     clear hf2
     dsimp only
     have hy4 : Below w.heap.size w x4 := bthen hy3 hx4
     have hv4 : Below w1.heap.size w1 x4 := bthen hv3 hx4
     replace t0 := (cellB hx4 (by omega)).trans t0
     replace t1 := (cellB hx4 (by omega)).trans t1
     replace f0 := (cellB hx4 (by omega)).trans f0
     replace f1 := (cellB hx4 (by omega)).trans f1
     replace f2 := (cellB hx4 (by omega)).trans f2
     replace g0 := (cellB hx4 (by omega)).trans g0
     replace g1 := (cellB hx4 (by omega)).trans g1
     replace g2 := (cellB hx4 (by omega)).trans g2
     replace k10 := (cellB hx4 (by omega)).trans k10
     replace k11 := (cellB hx4 (by omega)).trans k11
     replace k20 := (cellB hx4 (by omega)).trans k20
     replace k21 := (cellB hx4 (by omega)).trans k21
     replace m10 := (frozenB hx4 (by omega)).trans m10
     replace m11 := (frozenB hx4 (by omega)).trans m11
     replace m20 := (frozenB hx4 (by omega)).trans m20
     replace m21 := (frozenB hx4 (by omega)).trans m21
     replace R1 := Lib.hid (R1.out.below hx4)
     refine hK.out _ _ ⟨t0, t1, f0, f1, f2, g0, g1, g2⟩ (fun hHeld => ?_)
     clear hK K hHeld
     refine wpAnyT_last (i := 8) rfl (by kernel_rfl) (by kernel_rfl) (fun K hK => ?_)
     go_simp
     refine hK.out _ _ ?_
     clear hK K
     have k20' := (World.cell?_setCell_other (x4.setCell ⟨b1, 0, none⟩ (.int .i64 f.1)) ⟨b1, 1, none⟩ ⟨b2, 0, none⟩ (.slice ra1 (vaR t f).2.length rc1) (by first | (simp; done) | (simp; omega))).trans ((World.cell?_setCell_other x4 ⟨b1, 0, none⟩ ⟨b2, 0, none⟩ (.int .i64 f.1) (by first | (simp; done) | (simp; omega))).trans k20)
     have k21' := (World.cell?_setCell_other (x4.setCell ⟨b1, 0, none⟩ (.int .i64 f.1)) ⟨b1, 1, none⟩ ⟨b2, 1, none⟩ (.slice ra1 (vaR t f).2.length rc1) (by first | (simp; done) | (simp; omega))).trans ((World.cell?_setCell_other x4 ⟨b1, 0, none⟩ ⟨b2, 1, none⟩ (.int .i64 f.1) (by first | (simp; done) | (simp; omega))).trans k21)
     have m20' := (World.frozen?_setCell (x4.setCell ⟨b1, 0, none⟩ (.int .i64 f.1)) ⟨b1, 1, none⟩ ⟨b2, 0, none⟩ (.slice ra1 (vaR t f).2.length rc1)).trans ((World.frozen?_setCell x4 ⟨b1, 0, none⟩ ⟨b2, 0, none⟩ (.int .i64 f.1)).trans m20)
     have m21' := (World.frozen?_setCell (x4.setCell ⟨b1, 0, none⟩ (.int .i64 f.1)) ⟨b1, 1, none⟩ ⟨b2, 1, none⟩ (.slice ra1 (vaR t f).2.length rc1)).trans ((World.frozen?_setCell x4 ⟨b1, 0, none⟩ ⟨b2, 1, none⟩ (.int .i64 f.1)).trans m21)
     refine wpAnyT_last (i := 9) rfl (by kernel_rfl) (by kernel_rfl) (fun K hK => ?_)
     go_simp
     refine hK.out _ _ ?_
     clear hK K
     have HTB := Lib.hid (two_boxes (E := relT) (F := relT) (r := vaR t f) (s := vaR t g) hv4 (by omega) (by omega) (show b1 < x4.heap.size by omega) (show b2 < x4.heap.size by omega) (by omega) k10 k11 k20 k21 R1.out R2.out (by omega) (by omega) (by omega) (by omega))
     refine wpAnyT_done (by kernel_rfl) ?_ _
     go_simp
     go_wp2_with fail
     go_meet
     case rel => exact ⟨b1, b2, rfl, rfl, HTB.out.1, HTB.out.2.1, HTB.out.2.2⟩
   ·go_simp
    generalize hW2 : World.alloc x1 _ = x2
    have hx2 : Below x1.heap.size x1 x2 := by rw [← hW2]; exact bA
    have hz2 : x1.heap.size + 1 ≤ x2.heap.size := by rw [← hW2]; simp
    have k20 : x2.cell? ⟨x1.heap.size, 0, none⟩ = some (.int .i64 0) := by rw [← hW2]; simp [go_sem]
    have k21 : x2.cell? ⟨x1.heap.size, 1, none⟩ = some (.slice none 0 0) := by rw [← hW2]; simp [go_sem]
    have m20 : x2.frozen? ⟨x1.heap.size, 0, none⟩ = false := by rw [← hW2]; simp [go_sem]
    have m21 : x2.frozen? ⟨x1.heap.size, 1, none⟩ = false := by rw [← hW2]; simp [go_sem]
    clear hW2
    obtain ⟨b2, hb2⟩ : ∃ b, b = x1.heap.size := ⟨_, rfl⟩
    rw [← hb2] at k20 k21 m20 m21 ⊢
    have hl2 : x1.heap.size ≤ b2 ∧ b2 < x2.heap.size := by omega
    clear hb2
    have hy2 : Below w.heap.size w x2 := bthen hy1 hx2
    have hv2 : Below w1.heap.size w1 x2 := bthen hv1 hx2
    replace t0 := (cellB hx2 (by omega)).trans t0
    replace t1 := (cellB hx2 (by omega)).trans t1
    replace f0 := (cellB hx2 (by omega)).trans f0
    replace f1 := (cellB hx2 (by omega)).trans f1
    replace f2 := (cellB hx2 (by omega)).trans f2
    replace g0 := (cellB hx2 (by omega)).trans g0
    replace g1 := (cellB hx2 (by omega)).trans g1
    replace g2 := (cellB hx2 (by omega)).trans g2
    replace R1 := Lib.hid (R1.out.below hx2)
    refine hK.out _ _ ⟨t0, t1, f0, f1, f2, g0, g1, g2⟩ (fun hHeld => ?_)
    clear hK K hHeld
    refine wpAnyT_two (i := 5) (j := 6) rfl rfl (by kernel_rfl) (fun K hK => ?_) (fun K hK => ?_)
    ·go_simp
     go_at_call 57
     refine (valueOf_any (cs := #[.int .i64 t.1, v1]) (cf := #[.int .i64 g.1, .int .i64 g.2.1, v3]) _ (HT.out.below hy2) (HG.out.below hy2) HGOK.out).mono ?_
     rintro e x3 ⟨cs2, rfl, hf2, hx3⟩
     obtain ⟨ra2, rc2, rfl⟩ := fr_pair hf2
     have hz3 := hx3.size
     have R2 := Lib.hid (hf2.P.mono (ok' := fun k => x2.heap.size ≤ k ∧ k < x3.heap.size) (fun k h1 h2 => ⟨h2, h1⟩))
     clear hf2
     dsimp only
     have hy3 : Below w.heap.size w x3 := bthen hy2 hx3
     have hv3 : Below w1.heap.size w1 x3 := bthen hv2 hx3
     replace t0 := (cellB hx3 (by omega)).trans t0
     replace t1 := (cellB hx3 (by omega)).trans t1
     replace f0 := (cellB hx3 (by omega)).trans f0
     replace f1 := (cellB hx3 (by omega)).trans f1
     replace f2 := (cellB hx3 (by omega)).trans f2
     replace g0 := (cellB hx3 (by omega)).trans g0
     replace g1 := (cellB hx3 (by omega)).trans g1
     replace g2 := (cellB hx3 (by omega)).trans g2
     replace k20 := (cellB hx3 (by omega)).trans k20
     replace k21 := (cellB hx3 (by omega)).trans k21
     replace m20 := (frozenB hx3 (by omega)).trans m20
     replace m21 := (frozenB hx3 (by omega)).trans m21
     replace R1 := Lib.hid (R1.out.below hx3)
     refine hK.out _ _ ⟨t0, t1, f0, f1, f2, g0, g1, g2⟩ (fun hHeld => ?_)
     clear hK K hHeld
     refine wpAnyT_one (i := 6) rfl (by kernel_rfl) (fun K hK => ?_)
     go_simp
     generalize hW4 : World.alloc x3 _ = x4
     have hx4 : Below x3.heap.size x3 x4 := by rw [← hW4]; exact bA
     have hz4 : x3.heap.size + 1 ≤ x4.heap.size := by rw [← hW4]; simp
     have k10 : x4.cell? ⟨x3.heap.size, 0, none⟩ = some (.int .i64 0) := by rw [← hW4]; simp [go_sem]
     have k11 : x4.cell? ⟨x3.heap.size, 1, none⟩ = some (.slice none 0 0) := by rw [← hW4]; simp [go_sem]
     have m10 : x4.frozen? ⟨x3.heap.size, 0, none⟩ = false := by rw [← hW4]; simp [go_sem]
     have m11 : x4.frozen? ⟨x3.heap.size, 1, none⟩ = false := by rw [← hW4]; simp [go_sem]
     clear hW4
     obtain ⟨b1, hb1⟩ : ∃ b, b = x3.heap.size := ⟨_, rfl⟩
     rw [← hb1] at k10 k11 m10 m11 ⊢
     have hl1 : x3.heap.size ≤ b1 ∧ b1 < x4.heap.size := by omega
     clear hb1
     have hy4 : Below w.heap.size w x4 := bthen hy3 hx4
     have hv4 : Below w1.heap.size w1 x4 := bthen hv3 hx4
     replace t0 := (cellB hx4 (by omega)).trans t0
     replace t1 := (cellB hx4 (by omega)).trans t1
     replace f0 := (cellB hx4 (by omega)).trans f0
     replace f1 := (cellB hx4 (by omega)).trans f1
     replace f2 := (cellB hx4 (by omega)).trans f2
     replace g0 := (cellB hx4 (by omega)).trans g0
     replace g1 := (cellB hx4 (by omega)).trans g1
     replace g2 := (cellB hx4 (by omega)).trans g2
     replace k20 := (cellB hx4 (by omega)).trans k20
     replace k21 := (cellB hx4 (by omega)).trans k21
     replace m20 := (frozenB hx4 (by omega)).trans m20
     replace m21 := (frozenB hx4 (by omega)).trans m21
     replace R1 := Lib.hid (R1.out.below hx4)
     replace R2 := Lib.hid (R2.out.below hx4)
     refine hK.out _ _ ⟨t0, t1, f0, f1, f2, g0, g1, g2⟩ (fun hHeld => ?_)
     clear hK K hHeld
     refine wpAnyT_last (i := 8) rfl (by kernel_rfl) (by kernel_rfl) (fun K hK => ?_)
     go_simp
     refine hK.out _ _ ?_
     clear hK K
     have k20' := (World.cell?_setCell_other (x4.setCell ⟨b1, 0, none⟩ (.int .i64 f.1)) ⟨b1, 1, none⟩ ⟨b2, 0, none⟩ (.slice ra1 (vaR t f).2.length rc1) (by first | (simp; done) | (simp; omega))).trans ((World.cell?_setCell_other x4 ⟨b1, 0, none⟩ ⟨b2, 0, none⟩ (.int .i64 f.1) (by first | (simp; done) | (simp; omega))).trans k20)
     have k21' := (World.cell?_setCell_other (x4.setCell ⟨b1, 0, none⟩ (.int .i64 f.1)) ⟨b1, 1, none⟩ ⟨b2, 1, none⟩ (.slice ra1 (vaR t f).2.length rc1) (by first | (simp; done) | (simp; omega))).trans ((World.cell?_setCell_other x4 ⟨b1, 0, none⟩ ⟨b2, 1, none⟩ (.int .i64 f.1) (by first | (simp; done) | (simp; omega))).trans k21)
     have m20' := (World.frozen?_setCell (x4.setCell ⟨b1, 0, none⟩ (.int .i64 f.1)) ⟨b1, 1, none⟩ ⟨b2, 0, none⟩ (.slice ra1 (vaR t f).2.length rc1)).trans ((World.frozen?_setCell x4 ⟨b1, 0, none⟩ ⟨b2, 0, none⟩ (.int .i64 f.1)).trans m20)
     have m21' := (World.frozen?_setCell (x4.setCell ⟨b1, 0, none⟩ (.int .i64 f.1)) ⟨b1, 1, none⟩ ⟨b2, 1, none⟩ (.slice ra1 (vaR t f).2.length rc1)).trans ((World.frozen?_setCell x4 ⟨b1, 0, none⟩ ⟨b2, 1, none⟩ (.int .i64 f.1)).trans m21)
     refine wpAnyT_last (i := 9) rfl (by kernel_rfl) (by kernel_rfl) (fun K hK => ?_)
     go_simp
     refine hK.out _ _ ?_
     clear hK K
     have HTB := Lib.hid (two_boxes (E := relT) (F := relT) (r := vaR t f) (s := vaR t g) hv4 (by omega) (by omega) (show b1 < x4.heap.size by omega) (show b2 < x4.heap.size by omega) (by omega) k10 k11 k20 k21 R1.out R2.out (by omega) (by omega) (by omega) (by omega))
     refine wpAnyT_done (by kernel_rfl) ?_ _
     go_simp
     go_wp2_with fail
     go_meet
     case rel => exact ⟨b1, b2, rfl, rfl, HTB.out.1, HTB.out.2.1, HTB.out.2.2⟩
    ·go_simp
     generalize hW3 : World.alloc x2 _ = x3
     have hx3 : Below x2.heap.size x2 x3 := by rw [← hW3]; exact bA
     have hz3 : x2.heap.size + 1 ≤ x3.heap.size := by rw [← hW3]; simp
     have k10 : x3.cell? ⟨x2.heap.size, 0, none⟩ = some (.int .i64 0) := by rw [← hW3]; simp [go_sem]
     have k11 : x3.cell? ⟨x2.heap.size, 1, none⟩ = some (.slice none 0 0) := by rw [← hW3]; simp [go_sem]
     have m10 : x3.frozen? ⟨x2.heap.size, 0, none⟩ = false := by rw [← hW3]; simp [go_sem]
     have m11 : x3.frozen? ⟨x2.heap.size, 1, none⟩ = false := by rw [← hW3]; simp [go_sem]
     clear hW3
     obtain ⟨b1, hb1⟩ : ∃ b, b = x2.heap.size := ⟨_, rfl⟩
     rw [← hb1] at k10 k11 m10 m11 ⊢
     have hl1 : x2.heap.size ≤ b1 ∧ b1 < x3.heap.size := by omega
     clear hb1
     have hy3 : Below w.heap.size w x3 := bthen hy2 hx3
     have hv3 : Below w1.heap.size w1 x3 := bthen hv2 hx3
     replace t0 := (cellB hx3 (by omega)).trans t0
     replace t1 := (cellB hx3 (by omega)).trans t1
     replace f0 := (cellB hx3 (by omega)).trans f0
     replace f1 := (cellB hx3 (by omega)).trans f1
     replace f2 := (cellB hx3 (by omega)).trans f2
     replace g0 := (cellB hx3 (by omega)).trans g0
     replace g1 := (cellB hx3 (by omega)).trans g1
     replace g2 := (cellB hx3 (by omega)).trans g2
     replace k20 := (cellB hx3 (by omega)).trans k20
     replace k21 := (cellB hx3 (by omega)).trans k21
     replace m20 := (frozenB hx3 (by omega)).trans m20
     replace m21 := (frozenB hx3 (by omega)).trans m21
     replace R1 := Lib.hid (R1.out.below hx3)
     refine hK.out _ _ ⟨t0, t1, f0, f1, f2, g0, g1, g2⟩ (fun hHeld => ?_)
     clear hK K hHeld
     refine wpAnyT_one (i := 5) rfl (by kernel_rfl) (fun K hK => ?_)
     go_simp
     go_at_call 57
     refine (valueOf_any (cs := #[.int .i64 t.1, v1]) (cf := #[.int .i64 g.1, .int .i64 g.2.1, v3]) _ (HT.out.below hy3) (HG.out.below hy3) HGOK.out).mono ?_
     rintro e x4 ⟨cs2, rfl, hf2, hx4⟩
     obtain ⟨ra2, rc2, rfl⟩ := fr_pair hf2
     have hz4 := hx4.size
     have R2 := Lib.hid (hf2.P.mono (ok' := fun k => x3.heap.size ≤ k ∧ k < x4.heap.size) (fun k h1 h2 => ⟨h2, h1⟩))
     clear hf2
     dsimp only
     have hy4 : Below w.heap.size w x4 := bthen hy3 hx4
     have hv4 : Below w1.heap.size w1 x4 := bthen hv3 hx4
     replace t0 := (cellB hx4 (by omega)).trans t0
     replace t1 := (cellB hx4 (by omega)).trans t1
     replace f0 := (cellB hx4 (by omega)).trans f0
     replace f1 := (cellB hx4 (by omega)).trans f1
     replace f2 := (cellB hx4 (by omega)).trans f2
     replace g0 := (cellB hx4 (by omega)).trans g0
     replace g1 := (cellB hx4 (by omega)).trans g1
     replace g2 := (cellB hx4 (by omega)).trans g2
     replace k10 := (cellB hx4 (by omega)).trans k10
     replace k11 := (cellB hx4 (by omega)).trans k11
     replace k20 := (cellB hx4 (by omega)).trans k20
     replace k21 := (cellB hx4 (by omega)).trans k21
     replace m10 := (frozenB hx4 (by omega)).trans m10
     replace m11 := (frozenB hx4 (by omega)).trans m11
     replace m20 := (frozenB hx4 (by omega)).trans m20
     replace m21 := (frozenB hx4 (by omega)).trans m21
     replace R1 := Lib.hid (R1.out.below hx4)
     refine hK.out _ _ ⟨t0, t1, f0, f1, f2, g0, g1, g2⟩ (fun hHeld => ?_)
     clear hK K hHeld
     refine wpAnyT_last (i := 8) rfl (by kernel_rfl) (by kernel_rfl) (fun K hK => ?_)
     go_simp
     refine hK.out _ _ ?_
     clear hK K
     have k20' := (World.cell?_setCell_other (x4.setCell ⟨b1, 0, none⟩ (.int .i64 f.1)) ⟨b1, 1, none⟩ ⟨b2, 0, none⟩ (.slice ra1 (vaR t f).2.length rc1) (by first | (simp; done) | (simp; omega))).trans ((World.cell?_setCell_other x4 ⟨b1, 0, none⟩ ⟨b2, 0, none⟩ (.int .i64 f.1) (by first | (simp; done) | (simp; omega))).trans k20)
     have k21' := (World.cell?_setCell_other (x4.setCell ⟨b1, 0, none⟩ (.int .i64 f.1)) ⟨b1, 1, none⟩ ⟨b2, 1, none⟩ (.slice ra1 (vaR t f).2.length rc1) (by first | (simp; done) | (simp; omega))).trans ((World.cell?_setCell_other x4 ⟨b1, 0, none⟩ ⟨b2, 1, none⟩ (.int .i64 f.1) (by first | (simp; done) | (simp; omega))).trans k21)
     have m20' := (World.frozen?_setCell (x4.setCell ⟨b1, 0, none⟩ (.int .i64 f.1)) ⟨b1, 1, none⟩ ⟨b2, 0, none⟩ (.slice ra1 (vaR t f).2.length rc1)).trans ((World.frozen?_setCell x4 ⟨b1, 0, none⟩ ⟨b2, 0, none⟩ (.int .i64 f.1)).trans m20)
     have m21' := (World.frozen?_setCell (x4.setCell ⟨b1, 0, none⟩ (.int .i64 f.1)) ⟨b1, 1, none⟩ ⟨b2, 1, none⟩ (.slice ra1 (vaR t f).2.length rc1)).trans ((World.frozen?_setCell x4 ⟨b1, 0, none⟩ ⟨b2, 1, none⟩ (.int .i64 f.1)).trans m21)
     refine wpAnyT_last (i := 9) rfl (by kernel_rfl) (by kernel_rfl) (fun K hK => ?_)
     go_simp
     refine hK.out _ _ ?_
     clear hK K
     have HTB := Lib.hid (two_boxes (E := relT) (F := relT) (r := vaR t f) (s := vaR t g) hv4 (by omega) (by omega) (show b1 < x4.heap.size by omega) (show b2 < x4.heap.size by omega) (by omega) k10 k11 k20 k21 R1.out R2.out (by omega) (by omega) (by omega) (by omega))
     refine wpAnyT_done (by kernel_rfl) ?_ _
     go_simp
     go_wp2_with fail
     go_meet
     case rel => exact ⟨b1, b2, rfl, rfl, HTB.out.1, HTB.out.2.1, HTB.out.2.2⟩
  ·go_simp
   generalize hW1 : World.alloc x0 _ = x1
   have hx1 : Below x0.heap.size x0 x1 := by rw [← hW1]; exact bA
   have hz1 : x0.heap.size + 1 ≤ x1.heap.size := by rw [← hW1]; simp
   have k10 : x1.cell? ⟨x0.heap.size, 0, none⟩ = some (.int .i64 0) := by rw [← hW1]; simp [go_sem]
   have k11 : x1.cell? ⟨x0.heap.size, 1, none⟩ = some (.slice none 0 0) := by rw [← hW1]; simp [go_sem]
   have m10 : x1.frozen? ⟨x0.heap.size, 0, none⟩ = false := by rw [← hW1]; simp [go_sem]
   have m11 : x1.frozen? ⟨x0.heap.size, 1, none⟩ = false := by rw [← hW1]; simp [go_sem]
   clear hW1
   obtain ⟨b1, hb1⟩ : ∃ b, b = x0.heap.size := ⟨_, rfl⟩
   rw [← hb1] at k10 k11 m10 m11 ⊢
   have hl1 : x0.heap.size ≤ b1 ∧ b1 < x1.heap.size := by omega
   clear hb1
   have hy1 : Below w.heap.size w x1 := bthen hy0 hx1
   have hv1 : Below w1.heap.size w1 x1 := bthen hv0 hx1
   replace t0 := (cellB hx1 (by omega)).trans t0
   replace t1 := (cellB hx1 (by omega)).trans t1
   replace f0 := (cellB hx1 (by omega)).trans f0
   replace f1 := (cellB hx1 (by omega)).trans f1
   replace f2 := (cellB hx1 (by omega)).trans f2
   replace g0 := (cellB hx1 (by omega)).trans g0
   replace g1 := (cellB hx1 (by omega)).trans g1
   replace g2 := (cellB hx1 (by omega)).trans g2
   refine hK.out _ _ ⟨t0, t1, f0, f1, f2, g0, g1, g2⟩ (fun hHeld => ?_)
   clear hK K hHeld
   refine wpAnyT_two (i := 2) (j := 7) rfl rfl (by kernel_rfl) (fun K hK => ?_) (fun K hK => ?_)
   ·go_simp
    go_at_call 57
    refine (valueOf_any (cs := #[.int .i64 t.1, v1]) (cf := #[.int .i64 f.1, .int .i64 f.2.1, v2]) _ (HT.out.below hy1) (HF.out.below hy1) HFOK.out).mono ?_
    rintro e x2 ⟨cs1, rfl, hf1, hx2⟩
    obtain ⟨ra1, rc1, rfl⟩ := fr_pair hf1
    have hz2 := hx2.size
    have R1 := Lib.hid (hf1.P.mono (ok' := fun k => x1.heap.size ≤ k ∧ k < x2.heap.size) (fun k h1 h2 => ⟨h2, h1⟩))
    clear hf1
    dsimp only
    have hy2 : Below w.heap.size w x2 := bthen hy1 hx2
    have hv2 : Below w1.heap.size w1 x2 := bthen hv1 hx2
    replace t0 := (cellB hx2 (by omega)).trans t0
    replace t1 := (cellB hx2 (by omega)).trans t1
    replace f0 := (cellB hx2 (by omega)).trans f0
    replace f1 := (cellB hx2 (by omega)).trans f1
    replace f2 := (cellB hx2 (by omega)).trans f2
    replace g0 := (cellB hx2 (by omega)).trans g0
    replace g1 := (cellB hx2 (by omega)).trans g1
    replace g2 := (cellB hx2 (by omega)).trans g2
    replace k10 := (cellB hx2 (by omega)).trans k10
    replace k11 := (cellB hx2 (by omega)).trans k11
    replace m10 := (frozenB hx2 (by omega)).trans m10
    replace m11 := (frozenB hx2 (by omega)).trans m11
    refine hK.out _ _ ⟨t0, t1, f0, f1, f2, g0, g1, g2⟩ (fun hHeld => ?_)
    clear hK K hHeld
    refine wpAnyT_two (i := 5) (j := 7) rfl rfl (by kernel_rfl) (fun K hK => ?_) (fun K hK => ?_)
    ·go_simp
     go_at_call 57
     refine (valueOf_any (cs := #[.int .i64 t.1, v1]) (cf := #[.int .i64 g.1, .int .i64 g.2.1, v3]) _ (HT.out.below hy2) (HG.out.below hy2) HGOK.out).mono ?_
     rintro e x3 ⟨cs2, rfl, hf2, hx3⟩
     obtain ⟨ra2, rc2, rfl⟩ := fr_pair hf2
     have hz3 := hx3.size
     have R2 := Lib.hid (hf2.P.mono (ok' := fun k => x2.heap.size ≤ k ∧ k < x3.heap.size) (fun k h1 h2 => ⟨h2, h1⟩))
     clear hf2
     dsimp only
     have hy3 : Below w.heap.size w x3 := bthen hy2 hx3
     have hv3 : Below w1.heap.size w1 x3 := bthen hv2 hx3
     replace t0 := (cellB hx3 (by omega)).trans t0
     replace t1 := (cellB hx3 (by omega)).trans t1
     replace f0 := (cellB hx3 (by omega)).trans f0
     replace f1 := (cellB hx3 (by omega)).trans f1
     replace f2 := (cellB hx3 (by omega)).trans f2
     replace g0 := (cellB hx3 (by omega)).trans g0
     replace g1 := (cellB hx3 (by omega)).trans g1
     replace g2 := (cellB hx3 (by omega)).trans g2
     replace k10 := (cellB hx3 (by omega)).trans k10
     replace k11 := (cellB hx3 (by omega)).trans k11
     replace m10 := (frozenB hx3 (by omega)).trans m10
     replace m11 := (frozenB hx3 (by omega)).trans m11
     replace R1 := Lib.hid (R1.out.below hx3)
     refine hK.out _ _ ⟨t0, t1, f0, f1, f2, g0, g1, g2⟩ (fun hHeld => ?_)
     clear hK K hHeld
     refine wpAnyT_one (i := 7) rfl (by kernel_rfl) (fun K hK => ?_)
     go_simp
     generalize hW4 : World.alloc x3 _ = x4
     have hx4 : Below x3.heap.size x3 x4 := by rw [← hW4]; exact bA
     have hz4 : x3.heap.size + 1 ≤ x4.heap.size := by rw [← hW4]; simp
     have k20 : x4.cell? ⟨x3.heap.size, 0, none⟩ = some (.int .i64 0) := by rw [← hW4]; simp [go_sem]
     have k21 : x4.cell? ⟨x3.heap.size, 1, none⟩ = some (.slice none 0 0) := by rw [← hW4]; simp [go_sem]
     have m20 : x4.frozen? ⟨x3.heap.size, 0, none⟩ = false := by rw [← hW4]; simp [go_sem]
     have m21 : x4.frozen? ⟨x3.heap.size, 1, none⟩ = false := by rw [← hW4]; simp [go_sem]
     clear hW4
     obtain ⟨b2, hb2⟩ : ∃ b, b = x3.heap.size := ⟨_, rfl⟩
     rw [← hb2] at k20 k21 m20 m21 ⊢
     have hl2 : x3.heap.size ≤ b2 ∧ b2 < x4.heap.size := by omega
     clear hb2
     have hy4 : Below w.heap.size w x4 := bthen hy3 hx4
     have hv4 : Below w1.heap.size w1 x4 := bthen hv3 hx4
     replace t0 := (cellB hx4 (by omega)).trans t0
     replace t1 := (cellB hx4 (by omega)).trans t1
     replace f0 := (cellB hx4 (by omega)).trans f0
     replace f1 := (cellB hx4 (by omega)).trans f1
     replace f2 := (cellB hx4 (by omega)).trans f2
     replace g0 := (cellB hx4 (by omega)).trans g0
     replace g1 := (cellB hx4 (by omega)).trans g1
     replace g2 := (cellB hx4 (by omega)).trans g2
     replace k10 := (cellB hx4 (by omega)).trans k10
     replace k11 := (cellB hx4 (by omega)).trans k11
     replace m10 := (frozenB hx4 (by omega)).trans m10
     replace m11 := (frozenB hx4 (by omega)).trans m11
     replace R1 := Lib.hid (R1.out.below hx4)
     replace R2 := Lib.hid (R2.out.below hx4)
     refine hK.out _ _ ⟨t0, t1, f0, f1, f2, g0, g1, g2⟩ (fun hHeld => ?_)
     clear hK K hHeld
     refine wpAnyT_last (i := 8) rfl (by kernel_rfl) (by kernel_rfl) (fun K hK => ?_)
     go_simp
     refine hK.out _ _ ?_
     clear hK K
     have k20' := (World.cell?_setCell_other (x4.setCell ⟨b1, 0, none⟩ (.int .i64 f.1)) ⟨b1, 1, none⟩ ⟨b2, 0, none⟩ (.slice ra1 (vaR t f).2.length rc1) (by first | (simp; done) | (simp; omega))).trans ((World.cell?_setCell_other x4 ⟨b1, 0, none⟩ ⟨b2, 0, none⟩ (.int .i64 f.1) (by first | (simp; done) | (simp; omega))).trans k20)
     have k21' := (World.cell?_setCell_other (x4.setCell ⟨b1, 0, none⟩ (.int .i64 f.1)) ⟨b1, 1, none⟩ ⟨b2, 1, none⟩ (.slice ra1 (vaR t f).2.length rc1) (by first | (simp; done) | (simp; omega))).trans ((World.cell?_setCell_other x4 ⟨b1, 0, none⟩ ⟨b2, 1, none⟩ (.int .i64 f.1) (by first | (simp; done) | (simp; omega))).trans k21)
     have m20' := (World.frozen?_setCell (x4.setCell ⟨b1, 0, none⟩ (.int .i64 f.1)) ⟨b1, 1, none⟩ ⟨b2, 0, none⟩ (.slice ra1 (vaR t f).2.length rc1)).trans ((World.frozen?_setCell x4 ⟨b1, 0, none⟩ ⟨b2, 0, none⟩ (.int .i64 f.1)).trans m20)
     have m21' := (World.frozen?_setCell (x4.setCell ⟨b1, 0, none⟩ (.int .i64 f.1)) ⟨b1, 1, none⟩ ⟨b2, 1, none⟩ (.slice ra1 (vaR t f).2.length rc1)).trans ((World.frozen?_setCell x4 ⟨b1, 0, none⟩ ⟨b2, 1, none⟩ (.int .i64 f.1)).trans m21)
     refine wpAnyT_last (i := 9) rfl (by kernel_rfl) (by kernel_rfl) (fun K hK => ?_)
     go_simp
     refine hK.out _ _ ?_
     clear hK K
     have HTB := Lib.hid (two_boxes (E := relT) (F := relT) (r := vaR t f) (s := vaR t g) hv4 (by omega) (by omega) (show b1 < x4.heap.size by omega) (show b2 < x4.heap.size by omega) (by omega) k10 k11 k20 k21 R1.out R2.out (by omega) (by omega) (by omega) (by omega))
     refine wpAnyT_done (by kernel_rfl) ?_ _
     go_simp
     go_wp2_with fail
     go_meet
     case rel => exact ⟨b1, b2, rfl, rfl, HTB.out.1, HTB.out.2.1, HTB.out.2.2⟩
    ·go_simp
     generalize hW3 : World.alloc x2 _ = x3
     have hx3 : Below x2.heap.size x2 x3 := by rw [← hW3]; exact bA
     have hz3 : x2.heap.size + 1 ≤ x3.heap.size := by rw [← hW3]; simp
     have k20 : x3.cell? ⟨x2.heap.size, 0, none⟩ = some (.int .i64 0) := by rw [← hW3]; simp [go_sem]
     have k21 : x3.cell? ⟨x2.heap.size, 1, none⟩ = some (.slice none 0 0) := by rw [← hW3]; simp [go_sem]
     have m20 : x3.frozen? ⟨x2.heap.size, 0, none⟩ = false := by rw [← hW3]; simp [go_sem]
     have m21 : x3.frozen? ⟨x2.heap.size, 1, none⟩ = false := by rw [← hW3]; simp [go_sem]
     clear hW3
     obtain ⟨b2, hb2⟩ : ∃ b, b = x2.heap.size := ⟨_, rfl⟩
     rw [← hb2] at k20 k21 m20 m21 ⊢
     have hl2 : x2.heap.size ≤ b2 ∧ b2 < x3.heap.size := by omega
     clear hb2
     have hy3 : Below w.heap.size w x3 := bthen hy2 hx3
     have hv3 : Below w1.heap.size w1 x3 := bthen hv2 hx3
     replace t0 := (cellB hx3 (by omega)).trans t0
     replace t1 := (cellB hx3 (by omega)).trans t1
     replace f0 := (cellB hx3 (by omega)).trans f0
     replace f1 := (cellB hx3 (by omega)).trans f1
     replace f2 := (cellB hx3 (by omega)).trans f2
     replace g0 := (cellB hx3 (by omega)).trans g0
     replace g1 := (cellB hx3 (by omega)).trans g1
     replace g2 := (cellB hx3 (by omega)).trans g2
     replace k10 := (cellB hx3 (by omega)).trans k10
     replace k11 := (cellB hx3 (by omega)).trans k11
     replace m10 := (frozenB hx3 (by omega)).trans m10
     replace m11 := (frozenB hx3 (by omega)).trans m11
     replace R1 := Lib.hid (R1.out.below hx3)
     refine hK.out _ _ ⟨t0, t1, f0, f1, f2, g0, g1, g2⟩ (fun hHeld => ?_)
     clear hK K hHeld
     refine wpAnyT_one (i := 5) rfl (by kernel_rfl) (fun K hK => ?_)
     go_simp
     go_at_call 57
     refine (valueOf_any (cs := #[.int .i64 t.1, v1]) (cf := #[.int .i64 g.1, .int .i64 g.2.1, v3]) _ (HT.out.below hy3) (HG.out.below hy3) HGOK.out).mono ?_
     rintro e x4 ⟨cs2, rfl, hf2, hx4⟩
     obtain ⟨ra2, rc2, rfl⟩ := fr_pair hf2
     have hz4 := hx4.size
     have R2 := Lib.hid (hf2.P.mono (ok' := fun k => x3.heap.size ≤ k ∧ k < x4.heap.size) (fun k h1 h2 => ⟨h2, h1⟩))
     clear hf2
     dsimp only
     have hy4 : Below w.heap.size w x4 := bthen hy3 hx4
     have hv4 : Below w1.heap.size w1 x4 := bthen hv3 hx4
     replace t0 := (cellB hx4 (by omega)).trans t0
     replace t1 := (cellB hx4 (by omega)).trans t1
     replace f0 := (cellB hx4 (by omega)).trans f0
     replace f1 := (cellB hx4 (by omega)).trans f1
     replace f2 := (cellB hx4 (by omega)).trans f2
     replace g0 := (cellB hx4 (by omega)).trans g0
     replace g1 := (cellB hx4 (by omega)).trans g1
     replace g2 := (cellB hx4 (by omega)).trans g2
     replace k10 := (cellB hx4 (by omega)).trans k10
     replace k11 := (cellB hx4 (by omega)).trans k11
     replace k20 := (cellB hx4 (by omega)).trans k20
     replace k21 := (cellB hx4 (by omega)).trans k21
     replace m10 := (frozenB hx4 (by omega)).trans m10
     replace m11 := (frozenB hx4 (by omega)).trans m11
     replace m20 := (frozenB hx4 (by omega)).trans m20
     replace m21 := (frozenB hx4 (by omega)).trans m21
     replace R1 := Lib.hid (R1.out.below hx4)
     refine hK.out _ _ ⟨t0, t1, f0, f1, f2, g0, g1, g2⟩ (fun hHeld => ?_)
     clear hK K hHeld
     refine wpAnyT_last (i := 8) rfl (by kernel_rfl) (by kernel_rfl) (fun K hK => ?_)
     go_simp
     refine hK.out _ _ ?_
     clear hK K
     have k20' := (World.cell?_setCell_other (x4.setCell ⟨b1, 0, none⟩ (.int .i64 f.1)) ⟨b1, 1, none⟩ ⟨b2, 0, none⟩ (.slice ra1 (vaR t f).2.length rc1) (by first | (simp; done) | (simp; omega))).trans ((World.cell?_setCell_other x4 ⟨b1, 0, none⟩ ⟨b2, 0, none⟩ (.int .i64 f.1) (by first | (simp; done) | (simp; omega))).trans k20)
     have k21' := (World.cell?_setCell_other (x4.setCell ⟨b1, 0, none⟩ (.int .i64 f.1)) ⟨b1, 1, none⟩ ⟨b2, 1, none⟩ (.slice ra1 (vaR t f).2.length rc1) (by first | (simp; done) | (simp; omega))).trans ((World.cell?_setCell_other x4 ⟨b1, 0, none⟩ ⟨b2, 1, none⟩ (.int .i64 f.1) (by first | (simp; done) | (simp; omega))).trans k21)
     have m20' := (World.frozen?_setCell (x4.setCell ⟨b1, 0, none⟩ (.int .i64 f.1)) ⟨b1, 1, none⟩ ⟨b2, 0, none⟩ (.slice ra1 (vaR t f).2.length rc1)).trans ((World.frozen?_setCell x4 ⟨b1, 0, none⟩ ⟨b2, 0, none⟩ (.int .i64 f.1)).trans m20)
     have m21' := (World.frozen?_setCell (x4.setCell ⟨b1, 0, none⟩ (.int .i64 f.1)) ⟨b1, 1, none⟩ ⟨b2, 1, none⟩ (.slice ra1 (vaR t f).2.length rc1)).trans ((World.frozen?_setCell x4 ⟨b1, 0, none⟩ ⟨b2, 1, none⟩ (.int .i64 f.1)).trans m21)
     refine wpAnyT_last (i := 9) rfl (by kernel_rfl) (by kernel_rfl) (fun K hK => ?_)
     go_simp
     refine hK.out _ _ ?_
     clear hK K
     have HTB := Lib.hid (two_boxes (E := relT) (F := relT) (r := vaR t f) (s := vaR t g) hv4 (by omega) (by omega) (show b1 < x4.heap.size by omega) (show b2 < x4.heap.size by omega) (by omega) k10 k11 k20 k21 R1.out R2.out (by omega) (by omega) (by omega) (by omega))
     refine wpAnyT_done (by kernel_rfl) ?_ _
     go_simp
     go_wp2_with fail
     go_meet
     case rel => exact ⟨b1, b2, rfl, rfl, HTB.out.1, HTB.out.2.1, HTB.out.2.2⟩
   ·go_simp
    generalize hW2 : World.alloc x1 _ = x2
    have hx2 : Below x1.heap.size x1 x2 := by rw [← hW2]; exact bA
    have hz2 : x1.heap.size + 1 ≤ x2.heap.size := by rw [← hW2]; simp
    have k20 : x2.cell? ⟨x1.heap.size, 0, none⟩ = some (.int .i64 0) := by rw [← hW2]; simp [go_sem]
    have k21 : x2.cell? ⟨x1.heap.size, 1, none⟩ = some (.slice none 0 0) := by rw [← hW2]; simp [go_sem]
    have m20 : x2.frozen? ⟨x1.heap.size, 0, none⟩ = false := by rw [← hW2]; simp [go_sem]
    have m21 : x2.frozen? ⟨x1.heap.size, 1, none⟩ = false := by rw [← hW2]; simp [go_sem]
    clear hW2
    obtain ⟨b2, hb2⟩ : ∃ b, b = x1.heap.size := ⟨_, rfl⟩
    rw [← hb2] at k20 k21 m20 m21 ⊢
    have hl2 : x1.heap.size ≤ b2 ∧ b2 < x2.heap.size := by omega
    clear hb2
    have hy2 : Below w.heap.size w x2 := bthen hy1 hx2
    have hv2 : Below w1.heap.size w1 x2 := bthen hv1 hx2
    replace t0 := (cellB hx2 (by omega)).trans t0
    replace t1 := (cellB hx2 (by omega)).trans t1
    replace f0 := (cellB hx2 (by omega)).trans f0
    replace f1 := (cellB hx2 (by omega)).trans f1
    replace f2 := (cellB hx2 (by omega)).trans f2
    replace g0 := (cellB hx2 (by omega)).trans g0
    replace g1 := (cellB hx2 (by omega)).trans g1
    replace g2 := (cellB hx2 (by omega)).trans g2
    replace k10 := (cellB hx2 (by omega)).trans k10
    replace k11 := (cellB hx2 (by omega)).trans k11
    replace m10 := (frozenB hx2 (by omega)).trans m10
    replace m11 := (frozenB hx2 (by omega)).trans m11
    refine hK.out _ _ ⟨t0, t1, f0, f1, f2, g0, g1, g2⟩ (fun hHeld => ?_)
    clear hK K hHeld
    refine wpAnyT_one (i := 2) rfl (by kernel_rfl) (fun K hK => ?_)
    go_simp
    go_at_call 57
    refine (valueOf_any (cs := #[.int .i64 t.1, v1]) (cf := #[.int .i64 f.1, .int .i64 f.2.1, v2]) _ (HT.out.below hy2) (HF.out.below hy2) HFOK.out).mono ?_
    rintro e x3 ⟨cs1, rfl, hf1, hx3⟩
    obtain ⟨ra1, rc1, rfl⟩ := fr_pair hf1
    have hz3 := hx3.size
    have R1 := Lib.hid (hf1.P.mono (ok' := fun k => x2.heap.size ≤ k ∧ k < x3.heap.size) (fun k h1 h2 => ⟨h2, h1⟩))
    clear hf1
    dsimp only
    have hy3 : Below w.heap.size w x3 := bthen hy2 hx3
    have hv3 : Below w1.heap.size w1 x3 := bthen hv2 hx3
    replace t0 := (cellB hx3 (by omega)).trans t0
    replace t1 := (cellB hx3 (by omega)).trans t1
    replace f0 := (cellB hx3 (by omega)).trans f0
    replace f1 := (cellB hx3 (by omega)).trans f1
    replace f2 := (cellB hx3 (by omega)).trans f2
    replace g0 := (cellB hx3 (by omega)).trans g0
    replace g1 := (cellB hx3 (by omega)).trans g1
    replace g2 := (cellB hx3 (by omega)).trans g2
    replace k10 := (cellB hx3 (by omega)).trans k10
    replace k11 := (cellB hx3 (by omega)).trans k11
    replace k20 := (cellB hx3 (by omega)).trans k20
    replace k21 := (cellB hx3 (by omega)).trans k21
    replace m10 := (frozenB hx3 (by omega)).trans m10
    replace m11 := (frozenB hx3 (by omega)).trans m11
    replace m20 := (frozenB hx3 (by omega)).trans m20
    replace m21 := (frozenB hx3 (by omega)).trans m21
    refine hK.out _ _ ⟨t0, t1, f0, f1, f2, g0, g1, g2⟩ (fun hHeld => ?_)
    clear hK K hHeld
    refine wpAnyT_one (i := 5) rfl (by kernel_rfl) (fun K hK => ?_)
    go_simp
    go_at_call 57
    refine (valueOf_any (cs := #[.int .i64 t.1, v1]) (cf := #[.int .i64 g.1, .int .i64 g.2.1, v3]) _ (HT.out.below hy3) (HG.out.below hy3) HGOK.out).mono ?_
    rintro e x4 ⟨cs2, rfl, hf2, hx4⟩
    obtain ⟨ra2, rc2, rfl⟩ := fr_pair hf2
    have hz4 := hx4.size
    have R2 := Lib.hid (hf2.P.mono (ok' := fun k => x3.heap.size ≤ k ∧ k < x4.heap.size) (fun k h1 h2 => ⟨h2, h1⟩))
    clear hf2
    dsimp only
    have hy4 : Below w.heap.size w x4 := bthen hy3 hx4
    have hv4 : Below w1.heap.size w1 x4 := bthen hv3 hx4
    replace t0 := (cellB hx4 (by omega)).trans t0
    replace t1 := (cellB hx4 (by omega)).trans t1
    replace f0 := (cellB hx4 (by omega)).trans f0
    replace f1 := (cellB hx4 (by omega)).trans f1
    replace f2 := (cellB hx4 (by omega)).trans f2
    replace g0 := (cellB hx4 (by omega)).trans g0
    replace g1 := (cellB hx4 (by omega)).trans g1
    replace g2 := (cellB hx4 (by omega)).trans g2
    replace k10 := (cellB hx4 (by omega)).trans k10
    replace k11 := (cellB hx4 (by omega)).trans k11
    replace k20 := (cellB hx4 (by omega)).trans k20
    replace k21 := (cellB hx4 (by omega)).trans k21
    replace m10 := (frozenB hx4 (by omega)).trans m10
    replace m11 := (frozenB hx4 (by omega)).trans m11
    replace m20 := (frozenB hx4 (by omega)).trans m20
    replace m21 := (frozenB hx4 (by omega)).trans m21
    replace R1 := Lib.hid (R1.out.below hx4)
    refine hK.out _ _ ⟨t0, t1, f0, f1, f2, g0, g1, g2⟩ (fun hHeld => ?_)
    clear hK K hHeld
    refine wpAnyT_last (i := 8) rfl (by kernel_rfl) (by kernel_rfl) (fun K hK => ?_)
    go_simp
    refine hK.out _ _ ?_
    clear hK K
    have k20' := (World.cell?_setCell_other (x4.setCell ⟨b1, 0, none⟩ (.int .i64 f.1)) ⟨b1, 1, none⟩ ⟨b2, 0, none⟩ (.slice ra1 (vaR t f).2.length rc1) (by first | (simp; done) | (simp; omega))).trans ((World.cell?_setCell_other x4 ⟨b1, 0, none⟩ ⟨b2, 0, none⟩ (.int .i64 f.1) (by first | (simp; done) | (simp; omega))).trans k20)
    have k21' := (World.cell?_setCell_other (x4.setCell ⟨b1, 0, none⟩ (.int .i64 f.1)) ⟨b1, 1, none⟩ ⟨b2, 1, none⟩ (.slice ra1 (vaR t f).2.length rc1) (by first | (simp; done) | (simp; omega))).trans ((World.cell?_setCell_other x4 ⟨b1, 0, none⟩ ⟨b2, 1, none⟩ (.int .i64 f.1) (by first | (simp; done) | (simp; omega))).trans k21)
    have m20' := (World.frozen?_setCell (x4.setCell ⟨b1, 0, none⟩ (.int .i64 f.1)) ⟨b1, 1, none⟩ ⟨b2, 0, none⟩ (.slice ra1 (vaR t f).2.length rc1)).trans ((World.frozen?_setCell x4 ⟨b1, 0, none⟩ ⟨b2, 0, none⟩ (.int .i64 f.1)).trans m20)
    have m21' := (World.frozen?_setCell (x4.setCell ⟨b1, 0, none⟩ (.int .i64 f.1)) ⟨b1, 1, none⟩ ⟨b2, 1, none⟩ (.slice ra1 (vaR t f).2.length rc1)).trans ((World.frozen?_setCell x4 ⟨b1, 0, none⟩ ⟨b2, 1, none⟩ (.int .i64 f.1)).trans m21)
    refine wpAnyT_last (i := 9) rfl (by kernel_rfl) (by kernel_rfl) (fun K hK => ?_)
    go_simp
    refine hK.out _ _ ?_
    clear hK K
    have HTB := Lib.hid (two_boxes (E := relT) (F := relT) (r := vaR t f) (s := vaR t g) hv4 (by omega) (by omega) (show b1 < x4.heap.size by omega) (show b2 < x4.heap.size by omega) (by omega) k10 k11 k20 k21 R1.out R2.out (by omega) (by omega) (by omega) (by omega))
    refine wpAnyT_done (by kernel_rfl) ?_ _
    go_simp
    go_wp2_with fail
    go_meet
    case rel => exact ⟨b1, b2, rfl, rfl, HTB.out.1, HTB.out.2.1, HTB.out.2.2⟩
  ·go_simp
   generalize hW1 : World.alloc x0 _ = x1
   have hx1 : Below x0.heap.size x0 x1 := by rw [← hW1]; exact bA
   have hz1 : x0.heap.size + 1 ≤ x1.heap.size := by rw [← hW1]; simp
   have k20 : x1.cell? ⟨x0.heap.size, 0, none⟩ = some (.int .i64 0) := by rw [← hW1]; simp [go_sem]
   have k21 : x1.cell? ⟨x0.heap.size, 1, none⟩ = some (.slice none 0 0) := by rw [← hW1]; simp [go_sem]
   have m20 : x1.frozen? ⟨x0.heap.size, 0, none⟩ = false := by rw [← hW1]; simp [go_sem]
   have m21 : x1.frozen? ⟨x0.heap.size, 1, none⟩ = false := by rw [← hW1]; simp [go_sem]
   clear hW1
   obtain ⟨b2, hb2⟩ : ∃ b, b = x0.heap.size := ⟨_, rfl⟩
   rw [← hb2] at k20 k21 m20 m21 ⊢
   have hl2 : x0.heap.size ≤ b2 ∧ b2 < x1.heap.size := by omega
   clear hb2
   have hy1 : Below w.heap.size w x1 := bthen hy0 hx1
   have hv1 : Below w1.heap.size w1 x1 := bthen hv0 hx1
   replace t0 := (cellB hx1 (by omega)).trans t0
   replace t1 := (cellB hx1 (by omega)).trans t1
   replace f0 := (cellB hx1 (by omega)).trans f0
   replace f1 := (cellB hx1 (by omega)).trans f1
   replace f2 := (cellB hx1 (by omega)).trans f2
   replace g0 := (cellB hx1 (by omega)).trans g0
   replace g1 := (cellB hx1 (by omega)).trans g1
   replace g2 := (cellB hx1 (by omega)).trans g2
   refine hK.out _ _ ⟨t0, t1, f0, f1, f2, g0, g1, g2⟩ (fun hHeld => ?_)
   clear hK K hHeld
   refine wpAnyT_two (i := 2) (j := 6) rfl rfl (by kernel_rfl) (fun K hK => ?_) (fun K hK => ?_)
   ·go_simp
    go_at_call 57
    refine (valueOf_any (cs := #[.int .i64 t.1, v1]) (cf := #[.int .i64 f.1, .int .i64 f.2.1, v2]) _ (HT.out.below hy1) (HF.out.below hy1) HFOK.out).mono ?_
    rintro e x2 ⟨cs1, rfl, hf1, hx2⟩
    obtain ⟨ra1, rc1, rfl⟩ := fr_pair hf1
    have hz2 := hx2.size
    have R1 := Lib.hid (hf1.P.mono (ok' := fun k => x1.heap.size ≤ k ∧ k < x2.heap.size) (fun k h1 h2 => ⟨h2, h1⟩))
    clear hf1
    dsimp only
    have hy2 : Below w.heap.size w x2 := bthen hy1 hx2
    have hv2 : Below w1.heap.size w1 x2 := bthen hv1 hx2
    replace t0 := (cellB hx2 (by omega)).trans t0
    replace t1 := (cellB hx2 (by omega)).trans t1
    replace f0 := (cellB hx2 (by omega)).trans f0
    replace f1 := (cellB hx2 (by omega)).trans f1
    replace f2 := (cellB hx2 (by omega)).trans f2
    replace g0 := (cellB hx2 (by omega)).trans g0
    replace g1 := (cellB hx2 (by omega)).trans g1
    replace g2 := (cellB hx2 (by omega)).trans g2
    replace k20 := (cellB hx2 (by omega)).trans k20
    replace k21 := (cellB hx2 (by omega)).trans k21
    replace m20 := (frozenB hx2 (by omega)).trans m20
    replace m21 := (frozenB hx2 (by omega)).trans m21
    refine hK.out _ _ ⟨t0, t1, f0, f1, f2, g0, g1, g2⟩ (fun hHeld => ?_)
    clear hK K hHeld
    refine wpAnyT_two (i := 5) (j := 6) rfl rfl (by kernel_rfl) (fun K hK => ?_) (fun K hK => ?_)
    ·go_simp
     go_at_call 57
     refine (valueOf_any (cs := #[.int .i64 t.1, v1]) (cf := #[.int .i64 g.1, .int .i64 g.2.1, v3]) _ (HT.out.below hy2) (HG.out.below hy2) HGOK.out).mono ?_
     rintro e x3 ⟨cs2, rfl, hf2, hx3⟩
     obtain ⟨ra2, rc2, rfl⟩ := fr_pair hf2
     have hz3 := hx3.size
     have R2 := Lib.hid (hf2.P.mono (ok' := fun k => x2.heap.size ≤ k ∧ k < x3.heap.size) (fun k h1 h2 => ⟨h2, h1⟩))
     clear hf2
     dsimp only
     have hy3 : Below w.heap.size w x3 := bthen hy2 hx3
     have hv3 : Below w1.heap.size w1 x3 := bthen hv2 hx3
     replace t0 := (cellB hx3 (by omega)).trans t0
     replace t1 := (cellB hx3 (by omega)).trans t1
     replace f0 := (cellB hx3 (by omega)).trans f0
     replace f1 := (cellB hx3 (by omega)).trans f1
     replace f2 := (cellB hx3 (by omega)).trans f2
     replace g0 := (cellB hx3 (by omega)).trans g0
     replace g1 := (cellB hx3 (by omega)).trans g1
     replace g2 := (cellB hx3 (by omega)).trans g2
     replace k20 := (cellB hx3 (by omega)).trans k20
     replace k21 := (cellB hx3 (by omega)).trans k21
     replace m20 := (frozenB hx3 (by omega)).trans m20
     replace m21 := (frozenB hx3 (by omega)).trans m21
     replace R1 := Lib.hid (R1.out.below hx3)
     refine hK.out _ _ ⟨t0, t1, f0, f1, f2, g0, g1, g2⟩ (fun hHeld => ?_)
     clear hK K hHeld
     refine wpAnyT_one (i := 6) rfl (by kernel_rfl) (fun K hK => ?_)
     go_simp
     generalize hW4 : World.alloc x3 _ = x4
     have hx4 : Below x3.heap.size x3 x4 := by rw [← hW4]; exact bA
     have hz4 : x3.heap.size + 1 ≤ x4.heap.size := by rw [← hW4]; simp
     have k10 : x4.cell? ⟨x3.heap.size, 0, none⟩ = some (.int .i64 0) := by rw [← hW4]; simp [go_sem]
     have k11 : x4.cell? ⟨x3.heap.size, 1, none⟩ = some (.slice none 0 0) := by rw [← hW4]; simp [go_sem]
     have m10 : x4.frozen? ⟨x3.heap.size, 0, none⟩ = false := by rw [← hW4]; simp [go_sem]
     have m11 : x4.frozen? ⟨x3.heap.size, 1, none⟩ = false := by rw [← hW4]; simp [go_sem]
     clear hW4
     obtain ⟨b1, hb1⟩ : ∃ b, b = x3.heap.size := ⟨_, rfl⟩
     rw [← hb1] at k10 k11 m10 m11 ⊢
     have hl1 : x3.heap.size ≤ b1 ∧ b1 < x4.heap.size := by omega
     clear hb1
     have hy4 : Below w.heap.size w x4 := bthen hy3 hx4
     have hv4 : Below w1.heap.size w1 x4 := bthen hv3 hx4
     replace t0 := (cellB hx4 (by omega)).trans t0
     replace t1 := (cellB hx4 (by omega)).trans t1
     replace f0 := (cellB hx4 (by omega)).trans f0
     replace f1 := (cellB hx4 (by omega)).trans f1
     replace f2 := (cellB hx4 (by omega)).trans f2
     replace g0 := (cellB hx4 (by omega)).trans g0
     replace g1 := (cellB hx4 (by omega)).trans g1
     replace g2 := (cellB hx4 (by omega)).trans g2
     replace k20 := (cellB hx4 (by omega)).trans k20
     replace k21 := (cellB hx4 (by omega)).trans k21
     replace m20 := (frozenB hx4 (by omega)).trans m20
     replace m21 := (frozenB hx4 (by omega)).trans m21
     replace R1 := Lib.hid (R1.out.below hx4)
     replace R2 := Lib.hid (R2.out.below hx4)
     refine hK.out _ _ ⟨t0, t1, f0, f1, f2, g0, g1, g2⟩ (fun hHeld => ?_)
     clear hK K hHeld
     refine wpAnyT_last (i := 8) rfl (by kernel_rfl) (by kernel_rfl) (fun K hK => ?_)
     go_simp
     refine hK.out _ _ ?_
     clear hK K
     have k20' := (World.cell?_setCell_other (x4.setCell ⟨b1, 0, none⟩ (.int .i64 f.1)) ⟨b1, 1, none⟩ ⟨b2, 0, none⟩ (.slice ra1 (vaR t f).2.length rc1) (by first | (simp; done) | (simp; omega))).trans ((World.cell?_setCell_other x4 ⟨b1, 0, none⟩ ⟨b2, 0, none⟩ (.int .i64 f.1) (by first | (simp; done) | (simp; omega))).trans k20)
     have k21' := (World.cell?_setCell_other (x4.setCell ⟨b1, 0, none⟩ (.int .i64 f.1)) ⟨b1, 1, none⟩ ⟨b2, 1, none⟩ (.slice ra1 (vaR t f).2.length rc1) (by first | (simp; done) | (simp; omega))).trans ((World.cell?_setCell_other x4 ⟨b1, 0, none⟩ ⟨b2, 1, none⟩ (.int .i64 f.1) (by first | (simp; done) | (simp; omega))).trans k21)
     have m20' := (World.frozen?_setCell (x4.setCell ⟨b1, 0, none⟩ (.int .i64 f.1)) ⟨b1, 1, none⟩ ⟨b2, 0, none⟩ (.slice ra1 (vaR t f).2.length rc1)).trans ((World.frozen?_setCell x4 ⟨b1, 0, none⟩ ⟨b2, 0, none⟩ (.int .i64 f.1)).trans m20)
     have m21' := (World.frozen?_setCell (x4.setCell ⟨b1, 0, none⟩ (.int .i64 f.1)) ⟨b1, 1, none⟩ ⟨b2, 1, none⟩ (.slice ra1 (vaR t f).2.length rc1)).trans ((World.frozen?_setCell x4 ⟨b1, 0, none⟩ ⟨b2, 1, none⟩ (.int .i64 f.1)).trans m21)
     refine wpAnyT_last (i := 9) rfl (by kernel_rfl) (by kernel_rfl) (fun K hK => ?_)
     go_simp
     refine hK.out _ _ ?_
     clear hK K
     have HTB := Lib.hid (two_boxes (E := relT) (F := relT) (r := vaR t f) (s := vaR t g) hv4 (by omega) (by omega) (show b1 < x4.heap.size by omega) (show b2 < x4.heap.size by omega) (by omega) k10 k11 k20 k21 R1.out R2.out (by omega) (by omega) (by omega) (by omega))
     refine wpAnyT_done (by kernel_rfl) ?_ _
     go_simp
     go_wp2_with fail
     go_meet
     case rel => exact ⟨b1, b2, rfl, rfl, HTB.out.1, HTB.out.2.1, HTB.out.2.2⟩
    ·go_simp
     generalize hW3 : World.alloc x2 _ = x3
     have hx3 : Below x2.heap.size x2 x3 := by rw [← hW3]; exact bA
     have hz3 : x2.heap.size + 1 ≤ x3.heap.size := by rw [← hW3]; simp
     have k10 : x3.cell? ⟨x2.heap.size, 0, none⟩ = some (.int .i64 0) := by rw [← hW3]; simp [go_sem]
     have k11 : x3.cell? ⟨x2.heap.size, 1, none⟩ = some (.slice none 0 0) := by rw [← hW3]; simp [go_sem]
     have m10 : x3.frozen? ⟨x2.heap.size, 0, none⟩ = false := by rw [← hW3]; simp [go_sem]
     have m11 : x3.frozen? ⟨x2.heap.size, 1, none⟩ = false := by rw [← hW3]; simp [go_sem]
     clear hW3
     obtain ⟨b1, hb1⟩ : ∃ b, b = x2.heap.size := ⟨_, rfl⟩
     rw [← hb1] at k10 k11 m10 m11 ⊢
     have hl1 : x2.heap.size ≤ b1 ∧ b1 < x3.heap.size := by omega
     clear hb1
     have hy3 : Below w.heap.size w x3 := bthen hy2 hx3
     have hv3 : Below w1.heap.size w1 x3 := bthen hv2 hx3
     replace t0 := (cellB hx3 (by omega)).trans t0
     replace t1 := (cellB hx3 (by omega)).trans t1
     replace f0 := (cellB hx3 (by omega)).trans f0
     replace f1 := (cellB hx3 (by omega)).trans f1
     replace f2 := (cellB hx3 (by omega)).trans f2
     replace g0 := (cellB hx3 (by omega)).trans g0
     replace g1 := (cellB hx3 (by omega)).trans g1
     replace g2 := (cellB hx3 (by omega)).trans g2
     replace k20 := (cellB hx3 (by omega)).trans k20
     replace k21 := (cellB hx3 (by omega)).trans k21
     replace m20 := (frozenB hx3 (by omega)).trans m20
     replace m21 := (frozenB hx3 (by omega)).trans m21
     replace R1 := Lib.hid (R1.out.below hx3)
     refine hK.out _ _ ⟨t0, t1, f0, f1, f2, g0, g1, g2⟩ (fun hHeld => ?_)
     clear hK K hHeld
     refine wpAnyT_one (i := 5) rfl (by kernel_rfl) (fun K hK => ?_)
     go_simp
     go_at_call 57
     refine (valueOf_any (cs := #[.int .i64 t.1, v1]) (cf := #[.int .i64 g.1, .int .i64 g.2.1, v3]) _ (HT.out.below hy3) (HG.out.below hy3) HGOK.out).mono ?_
     rintro e x4 ⟨cs2, rfl, hf2, hx4⟩
     obtain ⟨ra2, rc2, rfl⟩ := fr_pair hf2
     have hz4 := hx4.size
     have R2 := Lib.hid (hf2.P.mono (ok' := fun k => x3.heap.size ≤ k ∧ k < x4.heap.size) (fun k h1 h2 => ⟨h2, h1⟩))
     clear hf2
     dsimp only
     have hy4 : Below w.heap.size w x4 := bthen hy3 hx4
     have hv4 : Below w1.heap.size w1 x4 := bthen hv3 hx4
     replace t0 := (cellB hx4 (by omega)).trans t0
     replace t1 := (cellB hx4 (by omega)).trans t1
     replace f0 := (cellB hx4 (by omega)).trans f0
     replace f1 := (cellB hx4 (by omega)).trans f1
     replace f2 := (cellB hx4 (by omega)).trans f2
     replace g0 := (cellB hx4 (by omega)).trans g0
     replace g1 := (cellB hx4 (by omega)).trans g1
     replace g2 := (cellB hx4 (by omega)).trans g2
     replace k10 := (cellB hx4 (by omega)).trans k10
     replace k11 := (cellB hx4 (by omega)).trans k11
     replace k20 := (cellB hx4 (by omega)).trans k20
     replace k21 := (cellB hx4 (by omega)).trans k21
     replace m10 := (frozenB hx4 (by omega)).trans m10
     replace m11 := (frozenB hx4 (by omega)).trans m11
     replace m20 := (frozenB hx4 (by omega)).trans m20
     replace m21 := (frozenB hx4 (by omega)).trans m21
     replace R1 := Lib.hid (R1.out.below hx4)
     refine hK.out _ _ ⟨t0, t1, f0, f1, f2, g0, g1, g2⟩ (fun hHeld => ?_)
     clear hK K hHeld
     refine wpAnyT_last (i := 8) rfl (by kernel_rfl) (by kernel_rfl) (fun K hK => ?_)
     go_simp
     refine hK.out _ _ ?_
     clear hK K
     have k20' := (World.cell?_setCell_other (x4.setCell ⟨b1, 0, none⟩ (.int .i64 f.1)) ⟨b1, 1, none⟩ ⟨b2, 0, none⟩ (.slice ra1 (vaR t f).2.length rc1) (by first | (simp; done) | (simp; omega))).trans ((World.cell?_setCell_other x4 ⟨b1, 0, none⟩ ⟨b2, 0, none⟩ (.int .i64 f.1) (by first | (simp; done) | (simp; omega))).trans k20)
     have k21' := (World.cell?_setCell_other (x4.setCell ⟨b1, 0, none⟩ (.int .i64 f.1)) ⟨b1, 1, none⟩ ⟨b2, 1, none⟩ (.slice ra1 (vaR t f).2.length rc1) (by first | (simp; done) | (simp; omega))).trans ((World.cell?_setCell_other x4 ⟨b1, 0, none⟩ ⟨b2, 1, none⟩ (.int .i64 f.1) (by first | (simp; done) | (simp; omega))).trans k21)
     have m20' := (World.frozen?_setCell (x4.setCell ⟨b1, 0, none⟩ (.int .i64 f.1)) ⟨b1, 1, none⟩ ⟨b2, 0, none⟩ (.slice ra1 (vaR t f).2.length rc1)).trans ((World.frozen?_setCell x4 ⟨b1, 0, none⟩ ⟨b2, 0, none⟩ (.int .i64 f.1)).trans m20)
     have m21' := (World.frozen?_setCell (x4.setCell ⟨b1, 0, none⟩ (.int .i64 f.1)) ⟨b1, 1, none⟩ ⟨b2, 1, none⟩ (.slice ra1 (vaR t f).2.length rc1)).trans ((World.frozen?_setCell x4 ⟨b1, 0, none⟩ ⟨b2, 1, none⟩ (.int .i64 f.1)).trans m21)
     refine wpAnyT_last (i := 9) rfl (by kernel_rfl) (by kernel_rfl) (fun K hK => ?_)
     go_simp
     refine hK.out _ _ ?_
     clear hK K
     have HTB := Lib.hid (two_boxes (E := relT) (F := relT) (r := vaR t f) (s := vaR t g) hv4 (by omega) (by omega) (show b1 < x4.heap.size by omega) (show b2 < x4.heap.size by omega) (by omega) k10 k11 k20 k21 R1.out R2.out (by omega) (by omega) (by omega) (by omega))
     refine wpAnyT_done (by kernel_rfl) ?_ _
     go_simp
     go_wp2_with fail
     go_meet
     case rel => exact ⟨b1, b2, rfl, rfl, HTB.out.1, HTB.out.2.1, HTB.out.2.2⟩
   ·go_simp
    generalize hW2 : World.alloc x1 _ = x2
    have hx2 : Below x1.heap.size x1 x2 := by rw [← hW2]; exact bA
    have hz2 : x1.heap.size + 1 ≤ x2.heap.size := by rw [← hW2]; simp
    have k10 : x2.cell? ⟨x1.heap.size, 0, none⟩ = some (.int .i64 0) := by rw [← hW2]; simp [go_sem]
    have k11 : x2.cell? ⟨x1.heap.size, 1, none⟩ = some (.slice none 0 0) := by rw [← hW2]; simp [go_sem]
    have m10 : x2.frozen? ⟨x1.heap.size, 0, none⟩ = false := by rw [← hW2]; simp [go_sem]
    have m11 : x2.frozen? ⟨x1.heap.size, 1, none⟩ = false := by rw [← hW2]; simp [go_sem]
    clear hW2
    obtain ⟨b1, hb1⟩ : ∃ b, b = x1.heap.size := ⟨_, rfl⟩
    rw [← hb1] at k10 k11 m10 m11 ⊢
    have hl1 : x1.heap.size ≤ b1 ∧ b1 < x2.heap.size := by omega
    clear hb1
    have hy2 : Below w.heap.size w x2 := bthen hy1 hx2
    have hv2 : Below w1.heap.size w1 x2 := bthen hv1 hx2
    replace t0 := (cellB hx2 (by omega)).trans t0
    replace t1 := (cellB hx2 (by omega)).trans t1
    replace f0 := (cellB hx2 (by omega)).trans f0
    replace f1 := (cellB hx2 (by omega)).trans f1
    replace f2 := (cellB hx2 (by omega)).trans f2
    replace g0 := (cellB hx2 (by omega)).trans g0
    replace g1 := (cellB hx2 (by omega)).trans g1
    replace g2 := (cellB hx2 (by omega)).trans g2
    replace k20 := (cellB hx2 (by omega)).trans k20
    replace k21 := (cellB hx2 (by omega)).trans k21
    replace m20 := (frozenB hx2 (by omega)).trans m20
    replace m21 := (frozenB hx2 (by omega)).trans m21
    refine hK.out _ _ ⟨t0, t1, f0, f1, f2, g0, g1, g2⟩ (fun hHeld => ?_)
    clear hK K hHeld
    refine wpAnyT_one (i := 2) rfl (by kernel_rfl) (fun K hK => ?_)
    go_simp
    go_at_call 57
    refine (valueOf_any (cs := #[.int .i64 t.1, v1]) (cf := #[.int .i64 f.1, .int .i64 f.2.1, v2]) _ (HT.out.below hy2) (HF.out.below hy2) HFOK.out).mono ?_
    rintro e x3 ⟨cs1, rfl, hf1, hx3⟩
    obtain ⟨ra1, rc1, rfl⟩ := fr_pair hf1
    have hz3 := hx3.size
    have R1 := Lib.hid (hf1.P.mono (ok' := fun k => x2.heap.size ≤ k ∧ k < x3.heap.size) (fun k h1 h2 => ⟨h2, h1⟩))
    clear hf1
    dsimp only
    have hy3 : Below w.heap.size w x3 := bthen hy2 hx3
    have hv3 : Below w1.heap.size w1 x3 := bthen hv2 hx3
    replace t0 := (cellB hx3 (by omega)).trans t0
    replace t1 := (cellB hx3 (by omega)).trans t1
    replace f0 := (cellB hx3 (by omega)).trans f0
    replace f1 := (cellB hx3 (by omega)).trans f1
    replace f2 := (cellB hx3 (by omega)).trans f2
    replace g0 := (cellB hx3 (by omega)).trans g0
    replace g1 := (cellB hx3 (by omega)).trans g1
    replace g2 := (cellB hx3 (by omega)).trans g2
    replace k10 := (cellB hx3 (by omega)).trans k10
    replace k11 := (cellB hx3 (by omega)).trans k11
    replace k20 := (cellB hx3 (by omega)).trans k20
    replace k21 := (cellB hx3 (by omega)).trans k21
    replace m10 := (frozenB hx3 (by omega)).trans m10
    replace m11 := (frozenB hx3 (by omega)).trans m11
    replace m20 := (frozenB hx3 (by omega)).trans m20
    replace m21 := (frozenB hx3 (by omega)).trans m21
    refine hK.out _ _ ⟨t0, t1, f0, f1, f2, g0, g1, g2⟩ (fun hHeld => ?_)
    clear hK K hHeld
    refine wpAnyT_one (i := 5) rfl (by kernel_rfl) (fun K hK => ?_)
    go_simp
    go_at_call 57
    refine (valueOf_any (cs := #[.int .i64 t.1, v1]) (cf := #[.int .i64 g.1, .int .i64 g.2.1, v3]) _ (HT.out.below hy3) (HG.out.below hy3) HGOK.out).mono ?_
    rintro e x4 ⟨cs2, rfl, hf2, hx4⟩
    obtain ⟨ra2, rc2, rfl⟩ := fr_pair hf2
    have hz4 := hx4.size
    have R2 := Lib.hid (hf2.P.mono (ok' := fun k => x3.heap.size ≤ k ∧ k < x4.heap.size) (fun k h1 h2 => ⟨h2, h1⟩))
    clear hf2
    dsimp only
    have hy4 : Below w.heap.size w x4 := bthen hy3 hx4
    have hv4 : Below w1.heap.size w1 x4 := bthen hv3 hx4
    replace t0 := (cellB hx4 (by omega)).trans t0
    replace t1 := (cellB hx4 (by omega)).trans t1
    replace f0 := (cellB hx4 (by omega)).trans f0
    replace f1 := (cellB hx4 (by omega)).trans f1
    replace f2 := (cellB hx4 (by omega)).trans f2
    replace g0 := (cellB hx4 (by omega)).trans g0
    replace g1 := (cellB hx4 (by omega)).trans g1
    replace g2 := (cellB hx4 (by omega)).trans g2
    replace k10 := (cellB hx4 (by omega)).trans k10
    replace k11 := (cellB hx4 (by omega)).trans k11
    replace k20 := (cellB hx4 (by omega)).trans k20
    replace k21 := (cellB hx4 (by omega)).trans k21
    replace m10 := (frozenB hx4 (by omega)).trans m10
    replace m11 := (frozenB hx4 (by omega)).trans m11
    replace m20 := (frozenB hx4 (by omega)).trans m20
    replace m21 := (frozenB hx4 (by omega)).trans m21
    replace R1 := Lib.hid (R1.out.below hx4)
    refine hK.out _ _ ⟨t0, t1, f0, f1, f2, g0, g1, g2⟩ (fun hHeld => ?_)
    clear hK K hHeld
    refine wpAnyT_last (i := 8) rfl (by kernel_rfl) (by kernel_rfl) (fun K hK => ?_)
    go_simp
    refine hK.out _ _ ?_
    clear hK K
    have k20' := (World.cell?_setCell_other (x4.setCell ⟨b1, 0, none⟩ (.int .i64 f.1)) ⟨b1, 1, none⟩ ⟨b2, 0, none⟩ (.slice ra1 (vaR t f).2.length rc1) (by first | (simp; done) | (simp; omega))).trans ((World.cell?_setCell_other x4 ⟨b1, 0, none⟩ ⟨b2, 0, none⟩ (.int .i64 f.1) (by first | (simp; done) | (simp; omega))).trans k20)
    have k21' := (World.cell?_setCell_other (x4.setCell ⟨b1, 0, none⟩ (.int .i64 f.1)) ⟨b1, 1, none⟩ ⟨b2, 1, none⟩ (.slice ra1 (vaR t f).2.length rc1) (by first | (simp; done) | (simp; omega))).trans ((World.cell?_setCell_other x4 ⟨b1, 0, none⟩ ⟨b2, 1, none⟩ (.int .i64 f.1) (by first | (simp; done) | (simp; omega))).trans k21)
    have m20' := (World.frozen?_setCell (x4.setCell ⟨b1, 0, none⟩ (.int .i64 f.1)) ⟨b1, 1, none⟩ ⟨b2, 0, none⟩ (.slice ra1 (vaR t f).2.length rc1)).trans ((World.frozen?_setCell x4 ⟨b1, 0, none⟩ ⟨b2, 0, none⟩ (.int .i64 f.1)).trans m20)
    have m21' := (World.frozen?_setCell (x4.setCell ⟨b1, 0, none⟩ (.int .i64 f.1)) ⟨b1, 1, none⟩ ⟨b2, 1, none⟩ (.slice ra1 (vaR t f).2.length rc1)).trans ((World.frozen?_setCell x4 ⟨b1, 0, none⟩ ⟨b2, 1, none⟩ (.int .i64 f.1)).trans m21)
    refine wpAnyT_last (i := 9) rfl (by kernel_rfl) (by kernel_rfl) (fun K hK => ?_)
    go_simp
    refine hK.out _ _ ?_
    clear hK K
    have HTB := Lib.hid (two_boxes (E := relT) (F := relT) (r := vaR t f) (s := vaR t g) hv4 (by omega) (by omega) (show b1 < x4.heap.size by omega) (show b2 < x4.heap.size by omega) (by omega) k10 k11 k20 k21 R1.out R2.out (by omega) (by omega) (by omega) (by omega))
    refine wpAnyT_done (by kernel_rfl) ?_ _
    go_simp
    go_wp2_with fail
    go_meet
    case rel => exact ⟨b1, b2, rfl, rfl, HTB.out.1, HTB.out.2.1, HTB.out.2.2⟩
end Go.Proofs.YtnhdohednekhjaaGreatDoor
