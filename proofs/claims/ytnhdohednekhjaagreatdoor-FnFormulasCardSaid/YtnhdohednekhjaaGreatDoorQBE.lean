/-
Contracts: a formula made simpler, the program's. (The region's orders are printed by gen_simp.py.)
Contracts: a formula made simpler, with its code; the program's.
-/
import Derived.Test.YtnhdohednekhjaaGreatDoorQBD
import Derived.Test.YtnhdohednekhjaaGreatDoorQAF
import Derived.Deep.LoopGhost
namespace Go.Proofs.YtnhdohednekhjaaGreatDoor
open Go.RowKit Go.Sort
theorem pair_mk2 {w : World} {n : Int} {u : Value} {xs : List Int} (h : I64 n) (hr : intsT.Rd w [u] xs) : opT.Rd w [.int .i64 n, u] (n, xs) := by
 obtain ⟨fp, hf⟩ := hr
 exact ⟨fp, [u], rfl, h, hf⟩
set_option maxHeartbeats 12800000 in
set_option maxRecDepth 100000 in
theorem simplified_any (w : World) {cf : Array Value} {t : Int × List (Int × List (List Int))} {f : Int × Int × Atoms} (hf : frmT.Rd w cf.toList f) (hok : frmOk t f) :
  Calls Tryz.prog 94 #[.agg cf] w (RetA frmT w (simF f)) := by
 obtain ⟨v2, hv2, hIf, hIf2, hfx⟩ := trip_ex hf
 obtain rfl := agg_of hv2
 obtain ⟨fa, fn, fc, rfl⟩ := rd_sl hfx
 have HFX := Lib.hid hfx
 obtain ⟨a1, a2, a3, a4, a5⟩ := frm_bd (tb_true hok)
 have A5 := Lib.hid a5
 have HOL := Lib.hid (frm_okL hok)
 have HEQ := Lib.hid (okL_eq2 (frm_okL hok))
 have HLF := Lib.hid (lef_ok hok)
 clear hf hv2 hfx hok a5 hIf hIf2
 go_enter Tryz.func94, Tryz.ntmps94
 go_wp2_with fail
 generalize hW : World.alloc _ _ = W
 have hbW : Below w.heap.size w W := hW ▸ bAA
 have hsW : w.heap.size + 2 ≤ W.heap.size := by rw [← hW]; simp
 have f0 : W.cell? ⟨w.heap.size, 0, none⟩ = some (.int .i64 f.1) := by rw [← hW]; simp [go_sem]
 have f1 : W.cell? ⟨w.heap.size, 1, none⟩ = some (.int .i64 f.2.1) := by rw [← hW]; simp [go_sem]
 have r0 : W.cell? ⟨w.heap.size + 1, 0, none⟩ = some (.int .i64 0) := by rw [← hW]; simp [go_sem]
 have rr1 : W.cell? ⟨w.heap.size + 1, 1, none⟩ = some (.int .i64 0) := by rw [← hW]; simp [go_sem]
 have r2 : W.cell? ⟨w.heap.size + 1, 2, none⟩ = some (.slice none 0 0) := by rw [← hW]; simp [go_sem]
 have m0 : W.frozen? ⟨w.heap.size + 1, 0, none⟩ = false := by rw [← hW]; simp [go_sem]
 have m1 : W.frozen? ⟨w.heap.size + 1, 1, none⟩ = false := by rw [← hW]; simp [go_sem]
 have m2 : W.frozen? ⟨w.heap.size + 1, 2, none⟩ = false := by rw [← hW]; simp [go_sem]
 clear hW
 refine (renamed_any _ (HFX.out.below hbW) 78 #[] (enters Tryz.func78 (by kernel_rfl) rfl) (fun v => v) (fun W' a _ _ => same_any W' a) (fun c hc => ⟨fun a ha => I64.small (by have := (A5.out c hc).1 a ha; omega) (by have := (A5.out c hc).1 a ha; omega), by have := (A5.out c hc).2; omega⟩) (by omega)).mono ?_
 rintro e w1 ⟨u1, rfl, hf1, hb1⟩
 rw [rnL_id] at hf1
 obtain ⟨ba, bn, bc, rfl⟩ := ex_slice hf1
 have HR1 := Lib.hid hf1.rd
 have hz1 := hb1.size
 replace f0 := (cellB hb1 (by omega)).trans f0
 replace f1 := (cellB hb1 (by omega)).trans f1
 replace r0 := (cellB hb1 (by omega)).trans r0
 replace rr1 := (cellB hb1 (by omega)).trans rr1
 replace r2 := (cellB hb1 (by omega)).trans r2
 replace m0 := (frozenB hb1 (by omega)).trans m0
 replace m1 := (frozenB hb1 (by omega)).trans m1
 replace m2 := (frozenB hb1 (by omega)).trans m2
 have hB1 := bthen hbW hb1
 clear hf1
 go_wp2_with fail
 refine (IndexFuncAtom_any _ HR1.out (mrgB f.1) 167 #[.pointer (some ⟨w.heap.size, 0, none⟩)] (enters Tryz.func167 (by kernel_rfl) rfl) (Lib.hid (fun W' hW' k hk cs hcs => simp1_any W' hcs (fun h => HEQ.out _ (List.getElem_mem hk) h) ((cellB hW' (by omega)).trans f0)))).mono ?_
 rintro e w2 ⟨rfl, hb2⟩
 have hz2 := hb2.size
 replace f0 := (cellB hb2 (by omega)).trans f0
 replace f1 := (cellB hb2 (by omega)).trans f1
 replace r0 := (cellB hb2 (by omega)).trans r0
 replace rr1 := (cellB hb2 (by omega)).trans rr1
 replace r2 := (cellB hb2 (by omega)).trans r2
 replace m0 := (frozenB hb2 (by omega)).trans m0
 replace m1 := (frozenB hb2 (by omega)).trans m1
 replace m2 := (frozenB hb2 (by omega)).trans m2
 have hB2 := bthen hB1 hb2
 have HR2 := Lib.hid (HR1.out.below hb2)
 clear HR1
 go_wp2_with fail
 go_loopg [5, 3] (f.2.2.countP (mrgB f.1)) (fun g i o wr => ∃ l : Atoms, l.countP (mrgB f.1) = g ∧ i = .int .i64 (firstI (mrgB f.1) l) ∧ opsT.Rd wr [o] l ∧ okL f.2.1 l ∧ l.length = f.2.2.length ∧ mrgF f.1 l = mrgF f.1 f.2.2 ∧ Below w2.heap.size w2 wr)
 case atStart => exact ⟨f.2.2, rfl, rfl, HR2.out, HOL.out, rfl, rfl, Below.refl _ _⟩
 case round =>
  obtain ⟨l, hcg, rfl, hrl, hol, hll, hml, hbe⟩ := hrel
  have HCG := Lib.hid hcg
  have HRL := Lib.hid hrl
  have HO := Lib.hid hol
  have HLL := Lib.hid hll
  have HML := Lib.hid hml
  obtain ⟨va, vn, vc, rfl⟩ := rd_sl hrl
  have hze := hbe.size
  replace f0 := (cellB hbe (by omega)).trans f0
  replace f1 := (cellB hbe (by omega)).trans f1
  replace r0 := (cellB hbe (by omega)).trans r0
  replace rr1 := (cellB hbe (by omega)).trans rr1
  replace r2 := (cellB hbe (by omega)).trans r2
  replace m0 := (frozenB hbe (by omega)).trans m0
  replace m1 := (frozenB hbe (by omega)).trans m1
  replace m2 := (frozenB hbe (by omega)).trans m2
  have hBe := bthen hB2 hbe
  clear hcg hrl hol hll hml HR2
  rcases first_find (p := mrgB f.1) (xs := l) with ⟨e1, hnone⟩ | ⟨k, hk, e1, hsome, hp⟩
  ·have HND := Lib.hid (mrg_done hnone)
   have HLE : Hid (lefL f = lessL l l.length) := by unfold Hid lefL; rw [← HML.out, HND.out]
   obtain ⟨_, _, he, -, -, hco⟩ := pairs_ex HRL.out
   simp only [List.cons.injEq, Value.slice.injEq, and_true] at he
   obtain ⟨rfl, rfl, rfl⟩ := he
   have HCO := Lib.hid hco
   have hll16 : l.length ≤ 16 := by have := HLL.out; omega
   obtain ⟨wv, rfl⟩ : ∃ wv : World, wv = wr := ⟨_, rfl⟩
   rw [e1]
   clear hnone e1 hco
   go_wp2_with fail
   generalize hWa : World.alloc wv _ = wa
   have hba : Below wv.heap.size wv wa := hWa ▸ bA
   have HB0 : Hid (Bl pvT 98 wv.heap.size wa.heap.size wa (.slice (some ⟨wv.heap.size, 0, none⟩) 0 0) []) := by
    unfold Hid
    rw [← hWa]
    simpa using Bl.lit0 (E := pvT) (e := 98) (base := wv.heap.size) (w := wv) (Nat.le_refl _)
   clear hWa
   go_loopw [43, 8] (fun i o wi => ∃ (j : Nat) (VS : List (Int × Value)), j ≤ l.length ∧ i = .int .i64 j ∧ Bl pvT 98 wv.heap.size wi.heap.size wi o VS ∧ VRd wv VS (lessL l j) ∧ Below wv.heap.size wv wi) (fun i _ _ => l.length - (intOf i).toNat)
   case atStart => exact ⟨0, [], Nat.zero_le _, rfl, HB0.out, by rw [less_zero]; exact VRd.nil, hba⟩
   case round =>
    obtain ⟨j, VS, hj, rfl, hBl, hVR, hbe2⟩ := hrel
    have HB := Lib.hid hBl
    have HV := Lib.hid hVR
    have hse := hbe2.size
    have hll2 := (less_mem (l := l) j hj).2
    have hvl : VS.length ≤ l.length := by rw [hVR.1]; omega
    have hfr := hBl.fr (by unfold capMax; omega)
    have HRD := Lib.hid (hVR.ops hfr.rd hbe2)
    obtain ⟨oa, oc, rfl⟩ := rd_slice HRD.out
    clear hBl HB0 hVR hfr
    by_cases hjl : j < l.length
    ·obtain ⟨q, p, rfl, hqb, hce⟩ := HCO.out (by omega)
     obtain ⟨u, hu, hIj, g0, g1⟩ := hce j hjl
     obtain ⟨ua, un, uc, rfl⟩ := rd_sl hu
     have HU := Lib.hid hu
     have HIJ := Lib.hid hIj
     have c0 := (hbe2.cell hqb).trans g0
     have c1 := (hbe2.cell hqb).trans g1
     have HLS := Lib.hid (less_succ hjl)
     obtain ⟨wx0, rfl⟩ : ∃ wx : World, wx = wr := ⟨_, rfl⟩
     clear hce g0 g1
     go_wp2_with fail
     generalize hWb : World.alloc wx0 _ = wb
     have hbb : Below wx0.heap.size wx0 wb := hWb ▸ bA
     have hsb : wx0.heap.size + 1 ≤ wb.heap.size := by rw [← hWb]; simp
     have y0 : wb.cell? ⟨wx0.heap.size, 0, none⟩ = some (.int .i64 (l[j]).1) := by rw [← hWb]; simp
     have y1 : wb.cell? ⟨wx0.heap.size, 1, none⟩ = some (.slice ua un uc) := by rw [← hWb]; simp
     have hbwb := bthen hbe2 hbb
     have HAB : Hid (opT.Rd wb [.int .i64 (l[j]).1, .slice ua un uc] l[j]) := pair_mk2 HIJ.out (HU.out.below hbwb)
     have HRB := Lib.hid (HRD.out.below hbb)
     clear hWb c0 c1
     go_cut [65] from 47 to 64 (fun d wx => d = .bool (dropB (lessL l j) l[j]) ∧ Below wb.heap.size wb wx)
     case rest =>
      obtain ⟨rfl, hbx⟩ := hcut
      have hbx2 := bthen hbb hbx
      have hbw := bthen hbe2 hbx2
      replace y0 := (cellB hbx (by omega)).trans y0
      replace y1 := (cellB hbx (by omega)).trans y1
      have hzx := hbx.size
      cases hD : dropB (lessL l j) l[j]
      ·have HNX : Hid (lessL l (j + 1) = lessL l j ++ [l[j]]) := by unfold Hid; rw [HLS.out, less_no hD]
       have HBi : Hid (Bl pvT 98 wv.heap.size wx0.heap.size wc _ VS) := HB.out.below hbx2 (Nat.le_refl _)
       clear hD hu hIj
       go_wp2_with (refine wpList_push (E := pvT) _ rfl _ _ 29 98 rfl elAtomS rfl (HBi.out.below (bA.mono (by omega)) (Nat.le_refl _)) rfl news2 (fr_pv (x := .slice ua un uc) HIJ.out rfl) (by omega) (by decide) (by omega) (by first | (simp; done) | (simp; omega)) ?_; intro v5 w5 hB5 hg5 _; have hb5 : Below wv.heap.size wc w5 := ((Below.refl _ wc).alloc (by omega) _).grown hg5 (by first | (simp; done) | (simp; omega)) (fun q hq => HBi.out.own hq))
       have HB5 := Lib.hid hB5
       clear hB5 hg5
       go_wp2_with fail
       go_roundw
       case rel => exact ⟨j + 1, _, by omega, by go_num, HB5.out, by rw [HNX.out]; exact HV.out.snoc HIJ.out HU.out, hbw.trans hb5⟩
       case measure => simp [intOf]; omega
      ·have HNX : Hid (lessL l (j + 1) = lessL l j) := by unfold Hid; rw [HLS.out, less_yes hD]
       clear hD hu hIj
       go_wp2_with fail
       go_roundw
       case rel => exact ⟨j + 1, VS, by omega, by go_num, (HB.out.below hbx2 (Nat.le_refl _)).mono (by omega), by rw [HNX.out]; exact HV.out, hbw⟩
       case measure => simp [intOf]; omega
     cases hq : ((l[j]).1 == -1)
     ·have HE : Hid (dropB (lessL l j) l[j] = anyB (fun b => eqB l[j] b) (lessL l j)) := by unfold Hid dropB; rw [hq]; rfl
      clear hu hIj
      refine wp_region_T (fun w' => w'.cell? ⟨wx0.heap.size, 0, none⟩ = some (.int .i64 (l[j]).1)) [] (by kernel_rfl) y0 (fun hHeld => ?_)
      refine wpAnyT_take (i := 0) (v := ?_) rfl (by kernel_rfl) (fun _ _ _ h => h) (Or.inl ⟨by rfl, ?_⟩) (by assumption) ?_
      rotate_left
      ·(intro w hSw; (try dsimp only at hSw); go_simp <;> with_reducible rfl)
      go_simp
      refine wpAnyT_take (i := 1) (v := ?_) rfl (by kernel_rfl) (fun _ _ _ h => h) (Or.inl ⟨by rfl, ?_⟩) (by assumption) ?_
      rotate_left
      ·(intro w hSw; (try dsimp only at hSw); go_simp <;> with_reducible rfl)
      go_simp
      refine wpAnyT_take (i := 2) (v := ?_) rfl (by kernel_rfl) (fun _ _ _ h => h) (Or.inl ⟨by rfl, ?_⟩) (by assumption) ?_
      rotate_left
      ·(intro w hSw; (try dsimp only at hSw); go_simp <;> with_reducible rfl)
      go_simp
      refine wpAnyT_take (i := 3) (v := ?_) rfl (by kernel_rfl) (fun _ _ _ h => h) (Or.inl ⟨by rfl, ?_⟩) (by assumption) ?_
      rotate_left
      ·(intro w hSw; (try dsimp only at hSw); go_simp <;> with_reducible rfl)
      go_simp
      refine wpAnyT_take (i := 4) (v := undef) rfl (by kernel_rfl) (fun _ _ _ h => h) (Or.inr ⟨by rfl, rfl⟩) (by assumption) ?_
      go_simp
      refine wpAnyT_take (i := 5) (v := undef) rfl (by kernel_rfl) (fun _ _ _ h => h) (Or.inr ⟨by rfl, rfl⟩) (by assumption) ?_
      go_simp
      refine wpAnyT_take (i := 6) (v := undef) rfl (by kernel_rfl) (fun _ _ _ h => h) (Or.inr ⟨by rfl, rfl⟩) (by assumption) ?_
      go_simp
      refine wpAnyT_take (i := 7) (v := undef) rfl (by kernel_rfl) (fun _ _ _ h => h) (Or.inr ⟨by rfl, rfl⟩) (by assumption) ?_
      go_simp
      refine wpAnyT_take (i := 8) (v := undef) rfl (by kernel_rfl) (fun _ _ _ h => h) (Or.inr ⟨by rfl, rfl⟩) (by assumption) ?_
      go_simp
      refine wpAnyT_take (i := 9) (v := undef) rfl (by kernel_rfl) (fun _ _ _ h => h) (Or.inr ⟨by rfl, rfl⟩) (by assumption) ?_
      go_simp
      refine wpAnyT_take (i := 10) (v := undef) rfl (by kernel_rfl) (fun _ _ _ h => h) (Or.inr ⟨by rfl, rfl⟩) (by assumption) ?_
      go_simp
      refine wpAnyT_take (i := 11) (v := undef) rfl (by kernel_rfl) (fun _ _ _ h => h) (Or.inr ⟨by rfl, rfl⟩) (by assumption) ?_
      go_simp
      refine wpAnyT_take (i := 12) (v := undef) rfl (by kernel_rfl) (fun _ _ _ h => h) (Or.inr ⟨by rfl, rfl⟩) (by assumption) ?_
      go_simp
      refine wpAnyT_take (i := 13) (v := ?_) rfl (by kernel_rfl) (fun _ _ _ h => h) (Or.inl ⟨by rfl, ?_⟩) (by assumption) ?_
      rotate_left
      ·(intro w hSw; (try dsimp only at hSw); go_simp <;> with_reducible rfl)
      go_simp
      refine wpAnyT_take (i := 14) (v := ?_) rfl (by kernel_rfl) (fun _ _ _ h => h) (Or.inl ⟨by rfl, ?_⟩) (by assumption) ?_
      rotate_left
      ·(intro w hSw; (try dsimp only at hSw); go_simp <;> with_reducible rfl)
      go_simp
      refine wpAnyT_take (i := 15) (v := ?_) rfl (by kernel_rfl) (fun _ _ _ h => h) (Or.inl ⟨by rfl, ?_⟩) (by assumption) ?_
      rotate_left
      ·(intro w hSw; (try dsimp only at hSw); go_simp <;> with_reducible rfl)
      go_simp
      refine wpAnyT_one (i := 16) rfl (by kernel_rfl) (fun K hK => ?_)
      go_simp
      refine hK.out _ _ hHeld (fun hHeld => ?_)
      clear hK K
      refine wpAnyT_one (i := 17) rfl (by kernel_rfl) (fun K hK => ?_)
      go_simp
      go_at_call 63
      refine (ContainsFuncAtom_any _ (HRB.out.below bD) (fun b => eqB l[j] b) 171 #[.pointer (some ⟨wx0.heap.size, 0, none⟩)] (enters Tryz.func171 (by kernel_rfl) rfl) (Lib.hid (fun W' hW' k hk cs hcs => simp3_any W' hcs (HAB.out.below (bthen bD hW')) ((cellB (bthen bD hW') (by omega)).trans y0) ((cellB (bthen bD hW') (by omega)).trans y1)))).mono ?_
      rintro e w3 ⟨rfl, hb3⟩
      have hb3' : Below wb.heap.size wb w3 := bthen bD hb3
      dsimp only
      refine hK.out _ _ ((cellB hb3' (by omega)).trans y0) (fun hHeld => ?_)
      clear hK K
      refine wpAnyT_one (i := 18) rfl (by kernel_rfl) (fun K hK => ?_)
      go_simp
      refine hK.out _ _ ((cellB hb3' (by omega)).trans y0) (fun hHeld => ?_)
      clear hK K
      refine wpAnyT_done (by kernel_rfl) ?_ _
      go_simp
      go_wp2_with fail
      go_meet
      case rel => exact ⟨by rw [HE.out], hb3'⟩
     ·obtain ⟨x, y, hxy⟩ := len_two ((HO.out _ (List.getElem_mem hjl)).2.2 (by simpa using hq))
      have HXY : Hid (((l[j]).1 == -1 && mrgX l[j] == mrgY l[j]) = (x == y)) := by unfold Hid; rw [hq]; unfold mrgX mrgY; rw [hxy]; rfl
      rw [hxy] at hu
      obtain ⟨_, _, hv, -, -, hcu⟩ := ints_ex hu
      simp only [List.cons.injEq, Value.slice.injEq, and_true] at hv
      obtain ⟨rfl, rfl, rfl⟩ := hv
      obtain ⟨b3, o3, rfl, hb3, hc3⟩ := hcu (by simp)
      have e0 := (hbwb.cell hb3).trans (hc3 0 (by simp)).2
      have e1 := (hbwb.cell hb3).trans (hc3 1 (by simp)).2
      have hb3b : b3 < wb.heap.size := by have := hbwb.size; omega
      simp only [Nat.add_zero, List.getElem_cons_zero, List.getElem_cons_succ] at e0 e1
      clear hu hIj hcu hc3 hxy
      cases hn : (x == y)
      ·have HE : Hid (dropB (lessL l j) l[j] = anyB (fun b => eqB l[j] b) (lessL l j)) := by unfold Hid dropB; rw [HXY.out, hn]; rfl
       refine wp_region_T (fun w' => w'.cell? ⟨wx0.heap.size, 0, none⟩ = some (.int .i64 (l[j]).1) ∧ w'.cell? ⟨wx0.heap.size, 1, none⟩ = some (.slice (some ⟨b3, o3, none⟩) [x, y].length uc) ∧ w'.cell? ⟨b3, o3, none⟩ = some (.int .i64 x) ∧ w'.cell? ⟨b3, o3 + 1, none⟩ = some (.int .i64 y)) [] (by kernel_rfl) ⟨y0, y1, e0, e1⟩ (fun hHeld => ?_)
       refine wpAnyT_take (i := 0) (v := ?_) rfl (by kernel_rfl) (fun _ _ _ h => h) (Or.inl ⟨by rfl, ?_⟩) (by assumption) ?_
       rotate_left
       ·(intro w hSw; (try dsimp only at hSw); go_simp <;> with_reducible rfl)
       go_simp
       refine wpAnyT_take (i := 1) (v := ?_) rfl (by kernel_rfl) (fun _ _ _ h => h) (Or.inl ⟨by rfl, ?_⟩) (by assumption) ?_
       rotate_left
       ·(intro w hSw; (try dsimp only at hSw); go_simp <;> with_reducible rfl)
       go_simp
       refine wpAnyT_take (i := 2) (v := ?_) rfl (by kernel_rfl) (fun _ _ _ h => h) (Or.inl ⟨by rfl, ?_⟩) (by assumption) ?_
       rotate_left
       ·(intro w hSw; (try dsimp only at hSw); go_simp <;> with_reducible rfl)
       go_simp
       refine wpAnyT_take (i := 3) (v := ?_) rfl (by kernel_rfl) (fun _ _ _ h => h) (Or.inl ⟨by rfl, ?_⟩) (by assumption) ?_
       rotate_left
       ·(intro w hSw; (try dsimp only at hSw); go_simp <;> with_reducible rfl)
       go_simp
       refine wpAnyT_take (i := 4) (v := ?_) rfl (by kernel_rfl) (fun _ _ _ h => h) (Or.inl ⟨by rfl, ?_⟩) (by assumption) ?_
       rotate_left
       ·(intro w hSw; (try dsimp only at hSw); go_simp <;> with_reducible rfl)
       go_simp
       refine wpAnyT_take (i := 5) (v := ?_) rfl (by kernel_rfl) (fun _ _ _ h => h) (Or.inl ⟨by rfl, ?_⟩) (by assumption) ?_
       rotate_left
       ·(intro w hSw; (try dsimp only at hSw); go_simp <;> with_reducible rfl)
       go_simp
       refine wpAnyT_take (i := 6) (v := ?_) rfl (by kernel_rfl) (fun _ _ _ h => h) (Or.inl ⟨by rfl, ?_⟩) (by assumption) ?_
       rotate_left
       ·(intro w hSw; (try dsimp only at hSw); go_simp <;> with_reducible rfl)
       go_simp
       refine wpAnyT_take (i := 7) (v := ?_) rfl (by kernel_rfl) (fun _ _ _ h => h) (Or.inl ⟨by rfl, ?_⟩) (by assumption) ?_
       rotate_left
       ·(intro w hSw; (try dsimp only at hSw); go_simp <;> with_reducible rfl)
       go_simp
       refine wpAnyT_take (i := 8) (v := ?_) rfl (by kernel_rfl) (fun _ _ _ h => h) (Or.inl ⟨by rfl, ?_⟩) (by assumption) ?_
       rotate_left
       ·(intro w hSw; (try dsimp only at hSw); go_simp <;> with_reducible rfl)
       go_simp
       refine wpAnyT_take (i := 9) (v := ?_) rfl (by kernel_rfl) (fun _ _ _ h => h) (Or.inl ⟨by rfl, ?_⟩) (by assumption) ?_
       rotate_left
       ·(intro w hSw; (try dsimp only at hSw); go_simp <;> with_reducible rfl)
       go_simp
       refine wpAnyT_take (i := 10) (v := ?_) rfl (by kernel_rfl) (fun _ _ _ h => h) (Or.inl ⟨by rfl, ?_⟩) (by assumption) ?_
       rotate_left
       ·(intro w hSw; (try dsimp only at hSw); go_simp <;> with_reducible rfl)
       go_simp
       refine wpAnyT_take (i := 11) (v := ?_) rfl (by kernel_rfl) (fun _ _ _ h => h) (Or.inl ⟨by rfl, ?_⟩) (by assumption) ?_
       rotate_left
       ·(intro w hSw; (try dsimp only at hSw); go_simp <;> with_reducible rfl)
       go_simp
       refine wpAnyT_take (i := 12) (v := ?_) rfl (by kernel_rfl) (fun _ _ _ h => h) (Or.inl ⟨by rfl, ?_⟩) (by assumption) ?_
       rotate_left
       ·(intro w hSw; (try dsimp only at hSw); go_simp <;> with_reducible rfl)
       go_simp
       refine wpAnyT_take (i := 13) (v := ?_) rfl (by kernel_rfl) (fun _ _ _ h => h) (Or.inl ⟨by rfl, ?_⟩) (by assumption) ?_
       rotate_left
       ·(intro w hSw; (try dsimp only at hSw); go_simp <;> with_reducible rfl)
       go_simp
       refine wpAnyT_take (i := 14) (v := ?_) rfl (by kernel_rfl) (fun _ _ _ h => h) (Or.inl ⟨by rfl, ?_⟩) (by assumption) ?_
       rotate_left
       ·(intro w hSw; (try dsimp only at hSw); go_simp <;> with_reducible rfl)
       go_simp
       refine wpAnyT_take (i := 15) (v := ?_) rfl (by kernel_rfl) (fun _ _ _ h => h) (Or.inl ⟨by rfl, ?_⟩) (by assumption) ?_
       rotate_left
       ·(intro w hSw; (try dsimp only at hSw); go_simp <;> with_reducible rfl)
       go_simp
       refine wpAnyT_one (i := 16) rfl (by kernel_rfl) (fun K hK => ?_)
       go_simp
       refine hK.out _ _ hHeld (fun hHeld => ?_)
       clear hK K
       refine wpAnyT_one (i := 17) rfl (by kernel_rfl) (fun K hK => ?_)
       go_simp
       go_at_call 63
       refine (ContainsFuncAtom_any _ (HRB.out.below bD) (fun b => eqB l[j] b) 171 #[.pointer (some ⟨wx0.heap.size, 0, none⟩)] (enters Tryz.func171 (by kernel_rfl) rfl) (Lib.hid (fun W' hW' k hk cs hcs => simp3_any W' hcs (HAB.out.below (bthen bD hW')) ((cellB (bthen bD hW') (by omega)).trans y0) ((cellB (bthen bD hW') (by omega)).trans y1)))).mono ?_
       rintro e w3 ⟨rfl, hb3⟩
       have hb3' : Below wb.heap.size wb w3 := bthen bD hb3
       dsimp only
       refine hK.out _ _ ⟨(cellB hb3' (by omega)).trans y0, (cellB hb3' (by omega)).trans y1, (cellB hb3' hb3b).trans e0, (cellB hb3' hb3b).trans e1⟩ (fun hHeld => ?_)
       clear hK K
       refine wpAnyT_one (i := 18) rfl (by kernel_rfl) (fun K hK => ?_)
       go_simp
       refine hK.out _ _ ⟨(cellB hb3' (by omega)).trans y0, (cellB hb3' (by omega)).trans y1, (cellB hb3' hb3b).trans e0, (cellB hb3' hb3b).trans e1⟩ (fun hHeld => ?_)
       clear hK K
       refine wpAnyT_done (by kernel_rfl) ?_ _
       go_simp
       go_wp2_with fail
       go_meet
       case rel => exact ⟨by rw [HE.out], hb3'⟩
      ·have HE : Hid (dropB (lessL l j) l[j] = true) := by unfold Hid dropB; rw [HXY.out, hn]; rfl
       go_quiet (fail)
       go_wp2_with fail
       go_meet
       case rel => exact ⟨by rw [HE.out], (Quiet.drewN _ _).below⟩
    ·obtain rfl : j = l.length := by omega
     replace f0 := (cellB hbe2 (by omega)).trans f0
     replace f1 := (cellB hbe2 (by omega)).trans f1
     replace r0 := (cellB hbe2 (by omega)).trans r0
     replace rr1 := (cellB hbe2 (by omega)).trans rr1
     replace r2 := (cellB hbe2 (by omega)).trans r2
     replace m0 := (frozenB hbe2 (by omega)).trans m0
     replace m1 := (frozenB hbe2 (by omega)).trans m1
     replace m2 := (frozenB hbe2 (by omega)).trans m2
     have hBl := bthen hBe hbe2
     have HRD2 : Hid (opsT.Rd wr [.slice oa (lessL l l.length).length oc] (lefL f)) := by unfold Hid; rw [HLE.out]; exact HRD.out
     obtain ⟨fr, hfr⟩ : ∃ fr : Nat, f.1 = fr := ⟨f.1.toNat, by omega⟩
     have HFR := Lib.hid hfr
     rw [hfr] at f0
     obtain ⟨wl, rfl⟩ : ∃ wl : World, wl = wr := ⟨_, rfl⟩
     have hfr8 : 1 ≤ fr ∧ fr ≤ 8 := by omega
     clear hfr
     go_wp2_with fail
     refine (upTo_bl _ 0 (fr : Int) (by omega) (by omega) (by omega)).mono ?_
     rintro e w3 ⟨u3, rfl, hB3, hb3⟩
     rw [Int.toNat_natCast] at hB3
     obtain ⟨ua3, un3, uc3, rfl⟩ := ex_slice (hB3.fr (by rw [upL_len]; unfold capMax; omega))
     rw [← var_zero (left := lefL f)] at hB3
     have HB3 := Lib.hid hB3
     have hz3 := hb3.size
     have L0 := f0
     have L1 := f1
     replace f0 := (cellB hb3 (by omega)).trans f0
     replace f1 := (cellB hb3 (by omega)).trans f1
     have hl0 : w.heap.size < w3.heap.size := by omega
     have hl01 : w.heap.size + 1 < w3.heap.size := by omega
     clear hB3
     go_wp2_with fail
     generalize hWc : World.alloc (World.alloc _ _) _ = wd
     have hbd : Below w3.heap.size w3 wd := hWc ▸ bAA
     have hsd : w3.heap.size + 2 ≤ wd.heap.size := by rw [← hWc]; simp
     have v0 : wd.cell? ⟨w3.heap.size, 0, none⟩ = some (.slice ua3 un3 uc3) := by rw [← hWc]; simp [go_sem]
     have vm : wd.frozen? ⟨w3.heap.size, 0, none⟩ = false := by rw [← hWc]; simp [go_sem]
     have b0 : wd.cell? ⟨w3.heap.size + 1, 0, none⟩ = some (.int .i64 fr) := by rw [← hWc]; simp [go_sem]
     have bm : wd.frozen? ⟨w3.heap.size + 1, 0, none⟩ = false := by rw [← hWc]; simp [go_sem]
     clear hWc
     obtain ⟨N, hN⟩ : ∃ N : Nat, f.2.1 = N := ⟨f.2.1.toNat, by omega⟩
     have hNf : fr ≤ N ∧ N ≤ 8 := by have := HFR.out; omega
     have HN := Lib.hid hN
     rw [hN] at f1 L1
     clear hN
     have hbld := bthen hb3 hbd
     go_loopg [12] (N - fr) (fun g b wi => ∃ (n bk : Nat) (v : Value), fr ≤ n ∧ n + g = N ∧ b = .pointer (some ⟨bk, 0, none⟩) ∧ wi.cell? ⟨bk, 0, none⟩ = some (.int .i64 (n : Int)) ∧ wi.frozen? ⟨bk, 0, none⟩ = false ∧ w3.heap.size < bk ∧ bk < wi.heap.size ∧ wi.cell? ⟨w3.heap.size, 0, none⟩ = some v ∧ wi.frozen? ⟨w3.heap.size, 0, none⟩ = false ∧ Bl Ty.int 2 wl.heap.size wi.heap.size wi v (varS fr (lefL f) (n - fr)) ∧ v.ownBlock ≠ some w3.heap.size ∧ v.ownBlock ≠ some bk ∧ Below wl.heap.size wl wi ∧ w3.heap.size ≤ wi.heap.size)
     case atStart => exact ⟨fr, w3.heap.size + 1, _, Nat.le_refl _, by omega, rfl, b0, bm, by omega, by omega, v0, vm, by rw [Nat.sub_self]; exact int_same HB3.out (fun b hb => hbd.block b (HB3.out.lt_top hb)) (by omega), fun h => absurd (HB3.out.lt_top h) (by omega), fun h => absurd (HB3.out.lt_top h) (by omega), hbld, by omega⟩
     case round =>
      obtain ⟨n, bk, v, hfn, hng, rfl, z0, zm, hbk, hbk2, u0, um, hBv, hv1, hv2, hbe3, hz33⟩ := hrel
      have hvl := var_len (fr := fr) (left := lefL f) (k := n - fr)
      obtain ⟨va3, vc3, rfl⟩ := rd_slice (hBv.fr (by unfold capMax; omega)).rd
      have HBv := Lib.hid hBv
      have HV1 := Lib.hid hv1
      have HV2 := Lib.hid hv2
      have hze3 := hbe3.size
      have q0 := (cellB hbe3 (by omega)).trans L0
      have q1 := (cellB hbe3 (by omega)).trans L1
      have HLA := Lib.hid (HRD2.out.below hbe3)
      obtain ⟨wy, rfl⟩ : ∃ wy : World, wy = wr := ⟨_, rfl⟩
      clear hBv hv1 hv2 v0 vm b0 bm
      by_cases hkl : n < N
      ·have hkl' : (n : Int) < (N : Int) := by omega
       go_wp2_with fail
       refine (ContainsFuncAtom_any _ HLA.out (fun a => hasI a.2 (n : Int)) 173 #[.pointer (some ⟨bk, 0, none⟩)] (enters Tryz.func173 (by kernel_rfl) rfl) (Lib.hid (fun W' hW' i hi cs hcs => simp4_any W' hcs ((cellB hW' hbk2).trans z0)))).mono ?_
       rintro e w4 ⟨rfl, hb4⟩
       rw [show anyB (fun a => hasI a.2 (n : Int)) (lefL f) = usB (lefL f) (n : Int) from rfl]
       have hz4 := hb4.size
       replace z0 := (cellB hb4 (by omega)).trans z0
       replace u0 := (cellB hb4 (by omega)).trans u0
       replace zm := (frozenB hb4 (by omega)).trans zm
       replace um := (frozenB hb4 (by omega)).trans um
       have hb34 := bthen hbe3 hb4
       have HB4 : Hid (Bl Ty.int 2 wl.heap.size w4.heap.size w4 (.slice va3 (varS fr (lefL f) (n - fr)).length vc3) (varS fr (lefL f) (n - fr))) := (HBv.out.below hb4 (Nat.le_refl _)).mono hz4
       have hlk : bk < w4.heap.size := by omega
       have hlv : w3.heap.size < w4.heap.size := by omega
       cases hu : usB (lefL f) (n : Int)
       ·have HNX := Lib.hid (var_no' hfn hu)
        clear hu
        go_wp2_with fail
        go_roundg (gk - 1)
        case measure => omega
        case rel => exact ⟨n + 1, w4.heap.size, _, by omega, by omega, rfl, by first | (simp; done) | (simp [go_sem]), by first | (simp; done) | (simp [go_sem]), by omega, by simp, (cellB bA hlv).trans u0, (frozenB bA hlv).trans um, by rw [← HNX.out]; exact (HB4.out.below bA (Nat.le_refl _)).mono (by simp), HV1.out, fun h => absurd (HB4.out.lt_top h) (by omega), hb34.alloc hb34.size _, by simp; omega⟩
       ·have HNX := Lib.hid (var_yes' hfn hu)
        have hlr : (varS fr (lefL f) (n - fr)).length ≤ 16 := by omega
        clear hu
        go_wp2_with (at_builtin; go_loud (refine wpList_push (E := Ty.int) _ rfl _ _ 48 2 rfl elInt rfl (HB4.out.below bA (Nat.le_refl _)) rfl news1 (fr_int (I64.small (by omega) (by omega))) (by omega) (by decide) (by omega) (by first | (simp; done) | (simp; omega)) ?_; intro v5 w5 hB5 hg5 hown; obtain ⟨a5, n5, c5, rfl⟩ := ex_slice (hB5.fr (by rw [List.length_append]; unfold capMax; simp only [List.length_singleton]; omega)); have i0 := (grown_cell' (i := 0) hg5 (show w3.heap.size < _ by first | (simp; done) | (simp; omega)) HV1.out).trans ((cellB (bA (w := w4)) hlv).trans u0); have im := (World.frozen?_of_block (a := ⟨w3.heap.size, 0, none⟩) (hg5.block w3.heap.size (by first | (simp; done) | (simp; omega)) (fun e => HV1.out e.symm))).trans ((frozenB (bA (w := w4)) hlv).trans um); have k0 := (grown_cell' (i := 0) hg5 (show bk < _ by first | (simp; done) | (simp; omega)) HV2.out).trans ((cellB (bA (w := w4)) hlk).trans z0); have j0 := (World.cell?_setCell_other w5 ⟨w3.heap.size, 0, none⟩ ⟨bk, 0, none⟩ (.slice a5 n5 c5) (by first | (simp; done) | (simp; omega))).trans k0; have hb5 : Below wl.heap.size w4 w5 := ((Below.refl _ w4).alloc (by omega) _).grown hg5 (by first | (simp; done) | (simp; omega)) (fun q hq => HB4.out.own hq); have hz5 := hb5.size; have hlk5 : bk < w5.heap.size := (by omega); have hlv5 : w3.heap.size < w5.heap.size := (by omega)))
        have HV5 : Hid ((Value.slice a5 n5 c5).ownBlock ≠ some w3.heap.size) := by
         unfold Hid
         rcases hown with e | e
         ·rw [e]; exact HV1.out
         ·rw [e]; simp; omega
        rw [HNX.out] at hB5
        have HB5 := Lib.hid hB5
        clear hB5 hown
        have hbf : Below wl.heap.size wl (w5.setCell ⟨w3.heap.size, 0, none⟩ (.slice a5 n5 c5)) := (hb34.trans hb5).setCell (show wl.heap.size ≤ w3.heap.size by omega) _
        go_roundg (gk - 1)
        case measure => omega
        case rel => exact ⟨n + 1, w5.heap.size, _, by omega, by omega, by first | rfl | simp, by first | (simp; done) | (simp [go_sem]), by first | (simp; done) | (simp [go_sem]), by omega, by simp, (cellB bA (by rw [size_set]; exact hlv5)).trans (World.cell?_setCell_same _ _ _ i0), (frozenB bA (by rw [size_set]; exact hlv5)).trans ((World.frozen?_setCell _ _ _ _).trans im), int_same HB5.out (fun b hb => (bA.block b (by rw [size_set]; exact HB5.out.lt_top hb)).trans (Below.heap_setCell _ _ _ _ (fun e => HV5.out (by rw [hb, e])))) (by simp), HV5.out, fun h => absurd (HB5.out.lt_top h) (by omega), hbf.alloc (by rw [size_set]; omega) _, by simp; omega⟩
      ·obtain rfl : n = N := by omega
       have hnl : ¬ (n : Int) < (n : Int) := by omega
       have HVR := Lib.hid (HBv.out.fr (by unfold capMax; omega)).rd
       have HOF := Lib.hid (HLF.out.1)
       have hlf16 := HLF.out.2
       have R0 := (cellB hbe3 (by omega)).trans r0
       have R1 := (cellB hbe3 (by omega)).trans rr1
       have R2 := (cellB hbe3 (by omega)).trans r2
       have M0 := (frozenB hbe3 (by omega)).trans m0
       have M1 := (frozenB hbe3 (by omega)).trans m1
       have M2 := (frozenB hbe3 (by omega)).trans m2
       have hl23 : w3.heap.size < wy.heap.size := by omega
       have hl24 : w.heap.size + 1 < wl.heap.size := by omega
       obtain ⟨hs0, hs1⟩ := hvl
       clear r0 rr1 r2 m0 m1 m2
       go_wp2_with fail
       refine wp_region_T (fun w' => w'.cell? ⟨w.heap.size, 0, none⟩ = some (.int .i64 (fr : Int)) ∧ w'.cell? ⟨w3.heap.size, 0, none⟩ = some (.slice va3 (varS fr (lefL f) (n - fr)).length vc3)) [8] (by kernel_rfl) ⟨q0, u0⟩ (fun hHeld => ?_)
       refine wpAnyT_take (i := 0) (v := ?_) rfl (by kernel_rfl) (fun _ _ _ h => h) (Or.inl ⟨by rfl, ?_⟩) (by assumption) ?_
       rotate_left
       ·(intro w hSw; (try dsimp only at hSw); go_simp <;> with_reducible rfl)
       go_simp
       refine wpAnyT_take (i := 1) (v := ?_) rfl (by kernel_rfl) (fun _ _ _ h => h) (Or.inl ⟨by rfl, ?_⟩) (by assumption) ?_
       rotate_left
       ·(intro w hSw; (try dsimp only at hSw); go_simp <;> with_reducible rfl)
       go_simp
       refine wpAnyT_take (i := 2) (v := ?_) rfl (by kernel_rfl) (fun _ _ _ h => h) (Or.inl ⟨by rfl, ?_⟩) (by assumption) ?_
       rotate_left
       ·(intro w hSw; (try dsimp only at hSw); go_simp <;> with_reducible rfl)
       go_simp
       refine wpAnyT_take (i := 3) (v := ?_) rfl (by kernel_rfl) (fun _ _ _ h => h) (Or.inl ⟨by rfl, ?_⟩) (by assumption) ?_
       rotate_left
       ·(intro w hSw; (try dsimp only at hSw); go_simp <;> with_reducible rfl)
       go_simp
       refine wpAnyT_take (i := 4) (v := ?_) rfl (by kernel_rfl) (fun _ _ _ h => h) (Or.inl ⟨by rfl, ?_⟩) (by assumption) ?_
       rotate_left
       ·(intro w hSw; (try dsimp only at hSw); go_simp <;> with_reducible rfl)
       go_simp
       refine wpAnyT_one (i := 5) rfl (by kernel_rfl) (fun K hK => ?_)
       go_simp
       refine hK.out _ _ hHeld (fun hHeld => ?_)
       clear hK K
       refine wpAnyT_one (i := 6) rfl (by kernel_rfl) (fun K hK => ?_)
       go_simp
       go_at_call 75
       refine (renamed_any _ (HLA.out.below bD) 175 #[.pointer (some ⟨w3.heap.size, 0, none⟩)] (enters Tryz.func175 (by kernel_rfl) rfl) (fun v => firstI (fun a => v == a) (varS fr (lefL f) (n - fr))) (Lib.hid (fun W' a hW' _ => simp5_any W' a (HVR.out.below (bthen bD hW')) ((cellB (bthen bD hW') hl23).trans u0))) (fun c hc => ⟨fun a ha => by
        have h1 := (HOF.out c hc).1 a ha
        rw [var_first h1.1 (by have := HN.out; omega) (us_yes hc ha)]
        exact num_I (by omega) (by omega) (by omega), by have := (HOF.out c hc).2.1; omega⟩) (by omega)).mono ?_
       rintro e w5 ⟨u5, rfl, hf5, hb5'⟩
       have hb5 : Below wy.heap.size wy w5 := bthen bD hb5'
       have HE5 : Hid (rnL (fun v => firstI (fun a => v == a) (varS fr (lefL f) (n - fr))) (lefL f) = rnL (numTo fr (lefL f)) (lefL f)) := rn_congr (fun a ha p hp => by
        have h1 := (HOF.out a ha).1 p hp
        exact var_first h1.1 (by have := HN.out; omega) (us_yes ha hp))
       rw [HE5.out] at hf5
       have HF5 : Hid (opsT.Fr wy.heap.size w5 [u5] (rnL (numTo fr (lefL f)) (lefL f))) := hf5
       obtain ⟨a5, n5, c5, rfl⟩ := ex_slice hf5
       have hz5 := hb5.size
       replace q0 := (cellB hb5 (by omega)).trans q0
       replace u0 := (cellB hb5 (by omega)).trans u0
       replace R0 := (cellB hb5 (by omega)).trans R0
       replace R1 := (cellB hb5 (by omega)).trans R1
       replace R2 := (cellB hb5 (by omega)).trans R2
       replace M0 := (frozenB hb5 (by omega)).trans M0
       replace M1 := (frozenB hb5 (by omega)).trans M1
       replace M2 := (frozenB hb5 (by omega)).trans M2
       clear hf5 hb5'
       dsimp only
       refine hK.out _ _ ⟨q0, u0⟩ (fun hHeld => ?_)
       clear hK K
       refine wpAnyT_one (i := 7) rfl (by kernel_rfl) (fun K hK => ?_)
       go_simp
       refine hK.out _ _ ⟨q0, u0⟩ (fun hHeld => ?_)
       clear hK K
       refine wpAnyT_last (i := 8) rfl (by kernel_rfl) (by kernel_rfl) (fun K hK => ?_)
       go_simp
       refine hK.out _ _ ?_
       clear hK K
       refine wpAnyT_done (by kernel_rfl) ?_ _
       go_simp
       obtain ⟨s0, s1, s2⟩ := set3_cells (x := .int .i64 (fr : Int)) (y := .int .i64 ((varS fr (lefL f) (n - fr)).length : Int)) (z := .slice a5 n5 c5) R0 R1 R2
       have hbwl := bthen (bthen hBe hbe2) hbe3
       have hbw5 := bthen hbwl hb5
       have HRES : Hid (simF f = ((fr : Int), ((varS fr (lefL f) (n - fr)).length : Int), rnL (numTo fr (lefL f)) (lefL f))) := by
        unfold Hid simF
        rw [HFR.out, HN.out, Int.toNat_natCast, show ((n : Int) - (fr : Int)).toNat = n - fr by omega]
       go_wp2_with fail
       refine bodyPost_ret (v := .agg #[.int .i64 (fr : Int), .int .i64 ((varS fr (lefL f) (n - fr)).length : Int), .slice a5 n5 c5]) (by simp [results, Tryz.results94, go_sem, s0, s1, s2]) rfl ⟨[.int .i64 (fr : Int), .int .i64 ((varS fr (lefL f) (n - fr)).length : Int), .slice a5 n5 c5], rfl, ?_, ?_⟩
       ·rw [HRES.out]
        exact (fr_cons (I64.small (by omega) (by omega)) (fr_cons (I64.small (by omega) (by omega)) (HF5.out.set3 (by omega)))).mono (by omega)
       ·exact set3_below hbw5 (by omega)
  ·have HSM := Lib.hid hsome
   have HMP := Lib.hid (mrgB_iff.1 hp)
   have hmem := List.getElem_mem hk
   have HMEM := Lib.hid hmem
   obtain ⟨_, _, he, -, -, hco⟩ := pairs_ex HRL.out
   simp only [List.cons.injEq, Value.slice.injEq, and_true] at he
   obtain ⟨rfl, rfl, rfl⟩ := he
   obtain ⟨q, p, rfl, hqb, hce⟩ := hco (by omega)
   obtain ⟨uk, huk, hIk, g0, g1⟩ := hce k hk
   obtain ⟨x, y, hxy⟩ := len_two ((HO.out _ hmem).2.2 HMP.out.1)
   have hin := (HO.out _ hmem).1
   rw [hxy] at huk hin
   obtain ⟨ua, uc, rfl⟩ := rd_slice huk
   have HAR := Lib.hid huk
   have HNN : Hid (∀ z ∈ [x, y], (0 : Int) ≤ z) := fun z hz => (hin z hz).1
   have hx0 := hin x (by simp)
   have hy0 := hin y (by simp)
   have HTP : Hid (topI [x, y] = max x y) := topI_two hx0.1 hy0.1
   have HLO : Hid (loA l[k] = min x y) := by unfold Hid loA mrgX mrgY; rw [hxy]; rfl
   have HHI : Hid (hiA l[k] = max x y) := by unfold Hid hiA mrgX mrgY; rw [hxy]; rfl
   have r1 : wr.cell? ⟨q, p + k * 2 + 1, none⟩ = some (.slice ua [x, y].length uc) := g1
   simp only [List.length_cons, List.length_nil, Nat.zero_add, Nat.reduceAdd] at r1
   rw [e1]
   clear hsome hp hco hce huk hIk g0 g1 hxy hin hmem e1
   obtain ⟨wv, rfl⟩ : ∃ wv : World, wv = wr := ⟨_, rfl⟩
   go_wp2_with fail
   go_cut [6, 7] from 25 to 36 (fun v6 v7 wx => ∃ b1 b2, v6 = .pointer (some ⟨b1, 0, none⟩) ∧ v7 = .pointer (some ⟨b2, 0, none⟩) ∧ wx.cell? ⟨b1, 0, none⟩ = some (.int .i64 (min x y)) ∧ wx.cell? ⟨b2, 0, none⟩ = some (.int .i64 (max x y)) ∧ Below wv.heap.size wv wx)
   case rest =>
    obtain ⟨b1, b2, rfl, rfl, k1, k2, hbx⟩ := hcut
    have hzx := hbx.size
    have hbwx := bthen hbe hbx
    have hB3 := bthen hBe hbx
    replace f0 := (cellB hbx (by omega)).trans f0
    replace f1 := (cellB hbx (by omega)).trans f1
    replace r0 := (cellB hbx (by omega)).trans r0
    replace rr1 := (cellB hbx (by omega)).trans rr1
    replace r2 := (cellB hbx (by omega)).trans r2
    replace m0 := (frozenB hbx (by omega)).trans m0
    replace m1 := (frozenB hbx (by omega)).trans m1
    replace m2 := (frozenB hbx (by omega)).trans m2
    have hto : Hid (∀ W a, Below wc.heap.size wc W → (∃ c ∈ l, a ∈ c.2) → Calls Tryz.prog 170 (#[.int .i64 a] ++ #[.pointer (some ⟨b2, 0, none⟩), .pointer (some ⟨b1, 0, none⟩)]) W fun e w' => e = .returned (.int .i64 (subTo (min x y) (max x y) a)) ∧ W = w') := by
     intro W' a hW' _
     exact simp2_any W' a _ _ b2 b1 ((cellB hW' (cell_lt k2)).trans k2) ((cellB hW' (cell_lt k1)).trans k1)
    have HGH := Lib.hid (show ∀ c ∈ l, (∀ a ∈ c.2, I64 (subTo (min x y) (max x y) a)) ∧ c.2.length ≤ 1000000 from fun c hc => ⟨fun a ha => by
     have h1 := sub_in HO.out HMEM.out HMP.out.1 ((HO.out c hc).1 a ha)
     rw [HLO.out, HHI.out] at h1
     exact I64.small (by omega) (by omega), by have := (HO.out c hc).2.1; omega⟩)
    have HST : Hid (rnL (subTo (min x y) (max x y)) l = stM l l[k]) := by unfold Hid stM; rw [HLO.out, HHI.out]
    go_wp2_with fail
    refine (renamed_any _ (HRL.out.below hbx) 170 _ (enters Tryz.func170 (by kernel_rfl) rfl) (subTo (min x y) (max x y)) hto HGH.out (by have := HLL.out; omega)).mono ?_
    rintro e w3 ⟨u3, rfl, hf3, hb3⟩
    rw [HST.out] at hf3
    obtain ⟨xa, xn, xc, rfl⟩ := ex_slice hf3
    have HR3 := Lib.hid hf3.rd
    have hz3 := hb3.size
    replace f0 := (cellB hb3 (by omega)).trans f0
    replace f1 := (cellB hb3 (by omega)).trans f1
    replace r0 := (cellB hb3 (by omega)).trans r0
    replace rr1 := (cellB hb3 (by omega)).trans rr1
    replace r2 := (cellB hb3 (by omega)).trans r2
    replace m0 := (frozenB hb3 (by omega)).trans m0
    replace m1 := (frozenB hb3 (by omega)).trans m1
    replace m2 := (frozenB hb3 (by omega)).trans m2
    have hbw3 := bthen hbwx hb3
    have HO3 := Lib.hid (ok_st HO.out HMEM.out HMP.out.1)
    clear hf3 hto k1 k2
    go_wp2_with fail
    refine (IndexFuncAtom_any _ HR3.out (mrgB f.1) 167 #[.pointer (some ⟨w.heap.size, 0, none⟩)] (enters Tryz.func167 (by kernel_rfl) rfl) (Lib.hid (fun W' hW' k hk cs hcs => simp1_any W' hcs (fun h => (HO3.out _ (List.getElem_mem hk)).2.2 h) ((cellB hW' (by omega)).trans f0)))).mono ?_
    rintro e w4 ⟨rfl, hb4⟩
    go_wp2_with fail
    go_roundg ((stM l l[k]).countP (mrgB f.1))
    case measure => rw [← HCG.out]; exact cnt_st (okL_eq2 HO.out) HMEM.out (mrgB_iff.2 HMP.out)
    case rel => exact ⟨stM l l[k], rfl, rfl, HR3.out.below hb4, HO3.out, by rw [← HLL.out]; exact rnL_len, by rw [mrg_go (okL_eq2 HO.out) HSM.out]; exact HML.out, bthen hbw3 hb4⟩
   have hv0 : Below wv.heap.size wv wv.drew := bD
   refine wp_region_T (fun w' => w'.cell? ⟨q, p + k * 2 + 1, none⟩ = some (.slice ua 2 uc)) [14, 15] (by kernel_rfl) r1 (fun hHeld => ?_)
   refine wpAnyT_take (i := 0) (v := ?_) rfl (by kernel_rfl) (fun _ _ _ h => h) (Or.inl ⟨by rfl, ?_⟩) (by assumption) ?_
   rotate_left
   ·(intro w hSw; (try dsimp only at hSw); go_simp <;> with_reducible rfl)
   try simp only [Act.put]
   refine wpAnyT_take (i := 1) (v := ?_) rfl (by kernel_rfl) (fun _ _ _ h => h) (Or.inl ⟨by rfl, ?_⟩) (by assumption) ?_
   rotate_left
   ·(intro w hSw; (try dsimp only at hSw); go_simp <;> with_reducible rfl)
   try simp only [Act.put]
   refine wpAnyT_take (i := 2) (v := ?_) rfl (by kernel_rfl) (fun _ _ _ h => h) (Or.inl ⟨by rfl, ?_⟩) (by assumption) ?_
   rotate_left
   ·(intro w hSw; (try dsimp only at hSw); go_simp <;> with_reducible rfl)
   try simp only [Act.put]
   refine wpAnyT_take (i := 3) (v := ?_) rfl (by kernel_rfl) (fun _ _ _ h => h) (Or.inl ⟨by rfl, ?_⟩) (by assumption) ?_
   rotate_left
   ·(intro w hSw; (try dsimp only at hSw); go_simp <;> with_reducible rfl)
   try simp only [Act.put]
   refine wpAnyT_take (i := 4) (v := ?_) rfl (by kernel_rfl) (fun _ _ _ h => h) (Or.inl ⟨by rfl, ?_⟩) (by assumption) ?_
   rotate_left
   ·(intro w hSw; (try dsimp only at hSw); go_simp <;> with_reducible rfl)
   try simp only [Act.put]
   refine wpAnyT_take (i := 6) (v := ?_) rfl (by kernel_rfl) (fun _ _ _ h => h) (Or.inl ⟨by rfl, ?_⟩) (by assumption) ?_
   rotate_left
   ·(intro w hSw; (try dsimp only at hSw); go_simp <;> with_reducible rfl)
   try simp only [Act.put]
   refine wpAnyT_take (i := 7) (v := ?_) rfl (by kernel_rfl) (fun _ _ _ h => h) (Or.inl ⟨by rfl, ?_⟩) (by assumption) ?_
   rotate_left
   ·(intro w hSw; (try dsimp only at hSw); go_simp <;> with_reducible rfl)
   try simp only [Act.put]
   refine wpAnyT_take (i := 8) (v := ?_) rfl (by kernel_rfl) (fun _ _ _ h => h) (Or.inl ⟨by rfl, ?_⟩) (by assumption) ?_
   rotate_left
   ·(intro w hSw; (try dsimp only at hSw); go_simp <;> with_reducible rfl)
   try simp only [Act.put]
   refine wpAnyT_take (i := 9) (v := ?_) rfl (by kernel_rfl) (fun _ _ _ h => h) (Or.inl ⟨by rfl, ?_⟩) (by assumption) ?_
   rotate_left
   ·(intro w hSw; (try dsimp only at hSw); go_simp <;> with_reducible rfl)
   try simp only [Act.put]
   refine wpAnyT_take (i := 10) (v := ?_) rfl (by kernel_rfl) (fun _ _ _ h => h) (Or.inl ⟨by rfl, ?_⟩) (by assumption) ?_
   rotate_left
   ·(intro w hSw; (try dsimp only at hSw); go_simp <;> with_reducible rfl)
   try simp only [Act.put]
   have hzD : wv.heap.size ≤ wv.drew.heap.size := Nat.le_refl _
   clear r1
   generalize wv.drew = x0 at hHeld hv0 hzD ⊢
   have r1 := hHeld
   clear hHeld
   refine wpAnyT_three (i := 5) (j := 12) (k := 13) rfl rfl rfl (by kernel_rfl) (fun K hK => ?_) (fun K hK => ?_) (fun K hK => ?_)
   ·go_simp
    go_at_call 168
    refine (MinI_any _ (HAR.out.below hv0)).mono ?_
    rintro e x1 ⟨rfl, hw1⟩
    have hx1 : Below x0.heap.size x0 x1 := by rw [← hw1]; exact Below.refl _ _
    have hz1 := hx1.size
    clear hw1
    dsimp only
    have hv1 : Below wv.heap.size wv x1 := bthen hv0 hx1
    replace r1 := (cellB hx1 (by omega)).trans r1
    refine hK.out _ _ r1 (fun hHeld => ?_)
    clear hK K hHeld
    refine wpAnyT_three (i := 11) (j := 12) (k := 13) rfl rfl rfl (by kernel_rfl) (fun K hK => ?_) (fun K hK => ?_) (fun K hK => ?_)
    ·go_simp
     go_at_call 169
     refine (MaxI_any _ (HAR.out.below hv1) (by simp) HNN.out).mono ?_
     rintro e x2 ⟨rfl, hw2⟩
     have hx2 : Below x1.heap.size x1 x2 := by rw [← hw2]; exact Below.refl _ _
     have hz2 := hx2.size
     clear hw2
     dsimp only
     have hv2 : Below wv.heap.size wv x2 := bthen hv1 hx2
     replace r1 := (cellB hx2 (by omega)).trans r1
     refine hK.out _ _ r1 (fun hHeld => ?_)
     clear hK K hHeld
     refine wpAnyT_two (i := 12) (j := 13) rfl rfl (by kernel_rfl) (fun K hK => ?_) (fun K hK => ?_)
     ·go_simp
      generalize hW3 : World.alloc x2 _ = x3
      have hx3 : Below x2.heap.size x2 x3 := by rw [← hW3]; exact bA
      have hz3 : x2.heap.size + 1 ≤ x3.heap.size := by rw [← hW3]; simp
      have k1 : x3.cell? ⟨x2.heap.size, 0, none⟩ = some (.int .i64 0) := by rw [← hW3]; simp [go_sem]
      have m1 : x3.frozen? ⟨x2.heap.size, 0, none⟩ = false := by rw [← hW3]; simp [go_sem]
      clear hW3
      obtain ⟨b1, hb1⟩ : ∃ b, b = x2.heap.size := ⟨_, rfl⟩
      rw [← hb1] at k1 m1 ⊢
      have hl1 : x2.heap.size ≤ b1 ∧ b1 < x3.heap.size := by omega
      clear hb1
      have hv3 : Below wv.heap.size wv x3 := bthen hv2 hx3
      replace r1 := (cellB hx3 (by omega)).trans r1
      refine hK.out _ _ r1 (fun hHeld => ?_)
      clear hK K hHeld
      refine wpAnyT_one (i := 13) rfl (by kernel_rfl) (fun K hK => ?_)
      go_simp
      generalize hW4 : World.alloc x3 _ = x4
      have hx4 : Below x3.heap.size x3 x4 := by rw [← hW4]; exact bA
      have hz4 : x3.heap.size + 1 ≤ x4.heap.size := by rw [← hW4]; simp
      have k2 : x4.cell? ⟨x3.heap.size, 0, none⟩ = some (.int .i64 0) := by rw [← hW4]; simp [go_sem]
      have m2 : x4.frozen? ⟨x3.heap.size, 0, none⟩ = false := by rw [← hW4]; simp [go_sem]
      clear hW4
      obtain ⟨b2, hb2⟩ : ∃ b, b = x3.heap.size := ⟨_, rfl⟩
      rw [← hb2] at k2 m2 ⊢
      have hl2 : x3.heap.size ≤ b2 ∧ b2 < x4.heap.size := by omega
      clear hb2
      have hv4 : Below wv.heap.size wv x4 := bthen hv3 hx4
      replace r1 := (cellB hx4 (by omega)).trans r1
      replace k1 := (cellB hx4 (by omega)).trans k1
      replace m1 := (frozenB hx4 (by omega)).trans m1
      refine hK.out _ _ r1 (fun hHeld => ?_)
      clear hK K hHeld
      refine wpAnyT_last (i := 14) rfl (by kernel_rfl) (by kernel_rfl) (fun K hK => ?_)
      go_simp
      refine hK.out _ _ ?_
      clear hK K
      have k2' := (World.cell?_setCell_other x4 ⟨b1, 0, none⟩ ⟨b2, 0, none⟩ (.int .i64 (min x y)) (by first | (simp; done) | (simp; omega))).trans k2
      have m2' := (World.frozen?_setCell x4 ⟨b1, 0, none⟩ ⟨b2, 0, none⟩ (.int .i64 (min x y))).trans m2
      refine wpAnyT_last (i := 15) rfl (by kernel_rfl) (by kernel_rfl) (fun K hK => ?_)
      go_simp
      refine hK.out _ _ ?_
      clear hK K
      refine wpAnyT_done (by kernel_rfl) ?_ _
      go_simp
      go_wp2_with fail
      go_meet
      case rel => exact ⟨b1, b2, rfl, rfl, (World.cell?_setCell_other _ _ _ _ (by first | (simp; done) | (simp; omega))).trans (World.cell?_setCell_same _ _ _ k1), by rw [← HTP.out]; exact World.cell?_setCell_same _ _ _ k2', (hv4.setCell (by show wv.heap.size ≤ b1; omega) _).setCell (by show wv.heap.size ≤ b2; omega) _⟩
     ·go_simp
      generalize hW3 : World.alloc x2 _ = x3
      have hx3 : Below x2.heap.size x2 x3 := by rw [← hW3]; exact bA
      have hz3 : x2.heap.size + 1 ≤ x3.heap.size := by rw [← hW3]; simp
      have k2 : x3.cell? ⟨x2.heap.size, 0, none⟩ = some (.int .i64 0) := by rw [← hW3]; simp [go_sem]
      have m2 : x3.frozen? ⟨x2.heap.size, 0, none⟩ = false := by rw [← hW3]; simp [go_sem]
      clear hW3
      obtain ⟨b2, hb2⟩ : ∃ b, b = x2.heap.size := ⟨_, rfl⟩
      rw [← hb2] at k2 m2 ⊢
      have hl2 : x2.heap.size ≤ b2 ∧ b2 < x3.heap.size := by omega
      clear hb2
      have hv3 : Below wv.heap.size wv x3 := bthen hv2 hx3
      replace r1 := (cellB hx3 (by omega)).trans r1
      refine hK.out _ _ r1 (fun hHeld => ?_)
      clear hK K hHeld
      refine wpAnyT_one (i := 12) rfl (by kernel_rfl) (fun K hK => ?_)
      go_simp
      generalize hW4 : World.alloc x3 _ = x4
      have hx4 : Below x3.heap.size x3 x4 := by rw [← hW4]; exact bA
      have hz4 : x3.heap.size + 1 ≤ x4.heap.size := by rw [← hW4]; simp
      have k1 : x4.cell? ⟨x3.heap.size, 0, none⟩ = some (.int .i64 0) := by rw [← hW4]; simp [go_sem]
      have m1 : x4.frozen? ⟨x3.heap.size, 0, none⟩ = false := by rw [← hW4]; simp [go_sem]
      clear hW4
      obtain ⟨b1, hb1⟩ : ∃ b, b = x3.heap.size := ⟨_, rfl⟩
      rw [← hb1] at k1 m1 ⊢
      have hl1 : x3.heap.size ≤ b1 ∧ b1 < x4.heap.size := by omega
      clear hb1
      have hv4 : Below wv.heap.size wv x4 := bthen hv3 hx4
      replace r1 := (cellB hx4 (by omega)).trans r1
      replace k2 := (cellB hx4 (by omega)).trans k2
      replace m2 := (frozenB hx4 (by omega)).trans m2
      refine hK.out _ _ r1 (fun hHeld => ?_)
      clear hK K hHeld
      refine wpAnyT_last (i := 14) rfl (by kernel_rfl) (by kernel_rfl) (fun K hK => ?_)
      go_simp
      refine hK.out _ _ ?_
      clear hK K
      have k2' := (World.cell?_setCell_other x4 ⟨b1, 0, none⟩ ⟨b2, 0, none⟩ (.int .i64 (min x y)) (by first | (simp; done) | (simp; omega))).trans k2
      have m2' := (World.frozen?_setCell x4 ⟨b1, 0, none⟩ ⟨b2, 0, none⟩ (.int .i64 (min x y))).trans m2
      refine wpAnyT_last (i := 15) rfl (by kernel_rfl) (by kernel_rfl) (fun K hK => ?_)
      go_simp
      refine hK.out _ _ ?_
      clear hK K
      refine wpAnyT_done (by kernel_rfl) ?_ _
      go_simp
      go_wp2_with fail
      go_meet
      case rel => exact ⟨b1, b2, rfl, rfl, (World.cell?_setCell_other _ _ _ _ (by first | (simp; done) | (simp; omega))).trans (World.cell?_setCell_same _ _ _ k1), by rw [← HTP.out]; exact World.cell?_setCell_same _ _ _ k2', (hv4.setCell (by show wv.heap.size ≤ b1; omega) _).setCell (by show wv.heap.size ≤ b2; omega) _⟩
    ·go_simp
     generalize hW2 : World.alloc x1 _ = x2
     have hx2 : Below x1.heap.size x1 x2 := by rw [← hW2]; exact bA
     have hz2 : x1.heap.size + 1 ≤ x2.heap.size := by rw [← hW2]; simp
     have k1 : x2.cell? ⟨x1.heap.size, 0, none⟩ = some (.int .i64 0) := by rw [← hW2]; simp [go_sem]
     have m1 : x2.frozen? ⟨x1.heap.size, 0, none⟩ = false := by rw [← hW2]; simp [go_sem]
     clear hW2
     obtain ⟨b1, hb1⟩ : ∃ b, b = x1.heap.size := ⟨_, rfl⟩
     rw [← hb1] at k1 m1 ⊢
     have hl1 : x1.heap.size ≤ b1 ∧ b1 < x2.heap.size := by omega
     clear hb1
     have hv2 : Below wv.heap.size wv x2 := bthen hv1 hx2
     replace r1 := (cellB hx2 (by omega)).trans r1
     refine hK.out _ _ r1 (fun hHeld => ?_)
     clear hK K hHeld
     refine wpAnyT_two (i := 11) (j := 13) rfl rfl (by kernel_rfl) (fun K hK => ?_) (fun K hK => ?_)
     ·go_simp
      go_at_call 169
      refine (MaxI_any _ (HAR.out.below hv2) (by simp) HNN.out).mono ?_
      rintro e x3 ⟨rfl, hw3⟩
      have hx3 : Below x2.heap.size x2 x3 := by rw [← hw3]; exact Below.refl _ _
      have hz3 := hx3.size
      clear hw3
      dsimp only
      have hv3 : Below wv.heap.size wv x3 := bthen hv2 hx3
      replace r1 := (cellB hx3 (by omega)).trans r1
      replace k1 := (cellB hx3 (by omega)).trans k1
      replace m1 := (frozenB hx3 (by omega)).trans m1
      refine hK.out _ _ r1 (fun hHeld => ?_)
      clear hK K hHeld
      refine wpAnyT_one (i := 13) rfl (by kernel_rfl) (fun K hK => ?_)
      go_simp
      generalize hW4 : World.alloc x3 _ = x4
      have hx4 : Below x3.heap.size x3 x4 := by rw [← hW4]; exact bA
      have hz4 : x3.heap.size + 1 ≤ x4.heap.size := by rw [← hW4]; simp
      have k2 : x4.cell? ⟨x3.heap.size, 0, none⟩ = some (.int .i64 0) := by rw [← hW4]; simp [go_sem]
      have m2 : x4.frozen? ⟨x3.heap.size, 0, none⟩ = false := by rw [← hW4]; simp [go_sem]
      clear hW4
      obtain ⟨b2, hb2⟩ : ∃ b, b = x3.heap.size := ⟨_, rfl⟩
      rw [← hb2] at k2 m2 ⊢
      have hl2 : x3.heap.size ≤ b2 ∧ b2 < x4.heap.size := by omega
      clear hb2
      have hv4 : Below wv.heap.size wv x4 := bthen hv3 hx4
      replace r1 := (cellB hx4 (by omega)).trans r1
      replace k1 := (cellB hx4 (by omega)).trans k1
      replace m1 := (frozenB hx4 (by omega)).trans m1
      refine hK.out _ _ r1 (fun hHeld => ?_)
      clear hK K hHeld
      refine wpAnyT_last (i := 14) rfl (by kernel_rfl) (by kernel_rfl) (fun K hK => ?_)
      go_simp
      refine hK.out _ _ ?_
      clear hK K
      have k2' := (World.cell?_setCell_other x4 ⟨b1, 0, none⟩ ⟨b2, 0, none⟩ (.int .i64 (min x y)) (by first | (simp; done) | (simp; omega))).trans k2
      have m2' := (World.frozen?_setCell x4 ⟨b1, 0, none⟩ ⟨b2, 0, none⟩ (.int .i64 (min x y))).trans m2
      refine wpAnyT_last (i := 15) rfl (by kernel_rfl) (by kernel_rfl) (fun K hK => ?_)
      go_simp
      refine hK.out _ _ ?_
      clear hK K
      refine wpAnyT_done (by kernel_rfl) ?_ _
      go_simp
      go_wp2_with fail
      go_meet
      case rel => exact ⟨b1, b2, rfl, rfl, (World.cell?_setCell_other _ _ _ _ (by first | (simp; done) | (simp; omega))).trans (World.cell?_setCell_same _ _ _ k1), by rw [← HTP.out]; exact World.cell?_setCell_same _ _ _ k2', (hv4.setCell (by show wv.heap.size ≤ b1; omega) _).setCell (by show wv.heap.size ≤ b2; omega) _⟩
     ·go_simp
      generalize hW3 : World.alloc x2 _ = x3
      have hx3 : Below x2.heap.size x2 x3 := by rw [← hW3]; exact bA
      have hz3 : x2.heap.size + 1 ≤ x3.heap.size := by rw [← hW3]; simp
      have k2 : x3.cell? ⟨x2.heap.size, 0, none⟩ = some (.int .i64 0) := by rw [← hW3]; simp [go_sem]
      have m2 : x3.frozen? ⟨x2.heap.size, 0, none⟩ = false := by rw [← hW3]; simp [go_sem]
      clear hW3
      obtain ⟨b2, hb2⟩ : ∃ b, b = x2.heap.size := ⟨_, rfl⟩
      rw [← hb2] at k2 m2 ⊢
      have hl2 : x2.heap.size ≤ b2 ∧ b2 < x3.heap.size := by omega
      clear hb2
      have hv3 : Below wv.heap.size wv x3 := bthen hv2 hx3
      replace r1 := (cellB hx3 (by omega)).trans r1
      replace k1 := (cellB hx3 (by omega)).trans k1
      replace m1 := (frozenB hx3 (by omega)).trans m1
      refine hK.out _ _ r1 (fun hHeld => ?_)
      clear hK K hHeld
      refine wpAnyT_one (i := 11) rfl (by kernel_rfl) (fun K hK => ?_)
      go_simp
      go_at_call 169
      refine (MaxI_any _ (HAR.out.below hv3) (by simp) HNN.out).mono ?_
      rintro e x4 ⟨rfl, hw4⟩
      have hx4 : Below x3.heap.size x3 x4 := by rw [← hw4]; exact Below.refl _ _
      have hz4 := hx4.size
      clear hw4
      dsimp only
      have hv4 : Below wv.heap.size wv x4 := bthen hv3 hx4
      replace r1 := (cellB hx4 (by omega)).trans r1
      replace k1 := (cellB hx4 (by omega)).trans k1
      replace m1 := (frozenB hx4 (by omega)).trans m1
      replace k2 := (cellB hx4 (by omega)).trans k2
      replace m2 := (frozenB hx4 (by omega)).trans m2
      refine hK.out _ _ r1 (fun hHeld => ?_)
      clear hK K hHeld
      refine wpAnyT_last (i := 14) rfl (by kernel_rfl) (by kernel_rfl) (fun K hK => ?_)
      go_simp
      refine hK.out _ _ ?_
      clear hK K
      have k2' := (World.cell?_setCell_other x4 ⟨b1, 0, none⟩ ⟨b2, 0, none⟩ (.int .i64 (min x y)) (by first | (simp; done) | (simp; omega))).trans k2
      have m2' := (World.frozen?_setCell x4 ⟨b1, 0, none⟩ ⟨b2, 0, none⟩ (.int .i64 (min x y))).trans m2
      refine wpAnyT_last (i := 15) rfl (by kernel_rfl) (by kernel_rfl) (fun K hK => ?_)
      go_simp
      refine hK.out _ _ ?_
      clear hK K
      refine wpAnyT_done (by kernel_rfl) ?_ _
      go_simp
      go_wp2_with fail
      go_meet
      case rel => exact ⟨b1, b2, rfl, rfl, (World.cell?_setCell_other _ _ _ _ (by first | (simp; done) | (simp; omega))).trans (World.cell?_setCell_same _ _ _ k1), by rw [← HTP.out]; exact World.cell?_setCell_same _ _ _ k2', (hv4.setCell (by show wv.heap.size ≤ b1; omega) _).setCell (by show wv.heap.size ≤ b2; omega) _⟩
    ·go_simp
     generalize hW2 : World.alloc x1 _ = x2
     have hx2 : Below x1.heap.size x1 x2 := by rw [← hW2]; exact bA
     have hz2 : x1.heap.size + 1 ≤ x2.heap.size := by rw [← hW2]; simp
     have k2 : x2.cell? ⟨x1.heap.size, 0, none⟩ = some (.int .i64 0) := by rw [← hW2]; simp [go_sem]
     have m2 : x2.frozen? ⟨x1.heap.size, 0, none⟩ = false := by rw [← hW2]; simp [go_sem]
     clear hW2
     obtain ⟨b2, hb2⟩ : ∃ b, b = x1.heap.size := ⟨_, rfl⟩
     rw [← hb2] at k2 m2 ⊢
     have hl2 : x1.heap.size ≤ b2 ∧ b2 < x2.heap.size := by omega
     clear hb2
     have hv2 : Below wv.heap.size wv x2 := bthen hv1 hx2
     replace r1 := (cellB hx2 (by omega)).trans r1
     refine hK.out _ _ r1 (fun hHeld => ?_)
     clear hK K hHeld
     refine wpAnyT_two (i := 11) (j := 12) rfl rfl (by kernel_rfl) (fun K hK => ?_) (fun K hK => ?_)
     ·go_simp
      go_at_call 169
      refine (MaxI_any _ (HAR.out.below hv2) (by simp) HNN.out).mono ?_
      rintro e x3 ⟨rfl, hw3⟩
      have hx3 : Below x2.heap.size x2 x3 := by rw [← hw3]; exact Below.refl _ _
      have hz3 := hx3.size
      clear hw3
      dsimp only
      have hv3 : Below wv.heap.size wv x3 := bthen hv2 hx3
      replace r1 := (cellB hx3 (by omega)).trans r1
      replace k2 := (cellB hx3 (by omega)).trans k2
      replace m2 := (frozenB hx3 (by omega)).trans m2
      refine hK.out _ _ r1 (fun hHeld => ?_)
      clear hK K hHeld
      refine wpAnyT_one (i := 12) rfl (by kernel_rfl) (fun K hK => ?_)
      go_simp
      generalize hW4 : World.alloc x3 _ = x4
      have hx4 : Below x3.heap.size x3 x4 := by rw [← hW4]; exact bA
      have hz4 : x3.heap.size + 1 ≤ x4.heap.size := by rw [← hW4]; simp
      have k1 : x4.cell? ⟨x3.heap.size, 0, none⟩ = some (.int .i64 0) := by rw [← hW4]; simp [go_sem]
      have m1 : x4.frozen? ⟨x3.heap.size, 0, none⟩ = false := by rw [← hW4]; simp [go_sem]
      clear hW4
      obtain ⟨b1, hb1⟩ : ∃ b, b = x3.heap.size := ⟨_, rfl⟩
      rw [← hb1] at k1 m1 ⊢
      have hl1 : x3.heap.size ≤ b1 ∧ b1 < x4.heap.size := by omega
      clear hb1
      have hv4 : Below wv.heap.size wv x4 := bthen hv3 hx4
      replace r1 := (cellB hx4 (by omega)).trans r1
      replace k2 := (cellB hx4 (by omega)).trans k2
      replace m2 := (frozenB hx4 (by omega)).trans m2
      refine hK.out _ _ r1 (fun hHeld => ?_)
      clear hK K hHeld
      refine wpAnyT_last (i := 14) rfl (by kernel_rfl) (by kernel_rfl) (fun K hK => ?_)
      go_simp
      refine hK.out _ _ ?_
      clear hK K
      have k2' := (World.cell?_setCell_other x4 ⟨b1, 0, none⟩ ⟨b2, 0, none⟩ (.int .i64 (min x y)) (by first | (simp; done) | (simp; omega))).trans k2
      have m2' := (World.frozen?_setCell x4 ⟨b1, 0, none⟩ ⟨b2, 0, none⟩ (.int .i64 (min x y))).trans m2
      refine wpAnyT_last (i := 15) rfl (by kernel_rfl) (by kernel_rfl) (fun K hK => ?_)
      go_simp
      refine hK.out _ _ ?_
      clear hK K
      refine wpAnyT_done (by kernel_rfl) ?_ _
      go_simp
      go_wp2_with fail
      go_meet
      case rel => exact ⟨b1, b2, rfl, rfl, (World.cell?_setCell_other _ _ _ _ (by first | (simp; done) | (simp; omega))).trans (World.cell?_setCell_same _ _ _ k1), by rw [← HTP.out]; exact World.cell?_setCell_same _ _ _ k2', (hv4.setCell (by show wv.heap.size ≤ b1; omega) _).setCell (by show wv.heap.size ≤ b2; omega) _⟩
     ·go_simp
      generalize hW3 : World.alloc x2 _ = x3
      have hx3 : Below x2.heap.size x2 x3 := by rw [← hW3]; exact bA
      have hz3 : x2.heap.size + 1 ≤ x3.heap.size := by rw [← hW3]; simp
      have k1 : x3.cell? ⟨x2.heap.size, 0, none⟩ = some (.int .i64 0) := by rw [← hW3]; simp [go_sem]
      have m1 : x3.frozen? ⟨x2.heap.size, 0, none⟩ = false := by rw [← hW3]; simp [go_sem]
      clear hW3
      obtain ⟨b1, hb1⟩ : ∃ b, b = x2.heap.size := ⟨_, rfl⟩
      rw [← hb1] at k1 m1 ⊢
      have hl1 : x2.heap.size ≤ b1 ∧ b1 < x3.heap.size := by omega
      clear hb1
      have hv3 : Below wv.heap.size wv x3 := bthen hv2 hx3
      replace r1 := (cellB hx3 (by omega)).trans r1
      replace k2 := (cellB hx3 (by omega)).trans k2
      replace m2 := (frozenB hx3 (by omega)).trans m2
      refine hK.out _ _ r1 (fun hHeld => ?_)
      clear hK K hHeld
      refine wpAnyT_one (i := 11) rfl (by kernel_rfl) (fun K hK => ?_)
      go_simp
      go_at_call 169
      refine (MaxI_any _ (HAR.out.below hv3) (by simp) HNN.out).mono ?_
      rintro e x4 ⟨rfl, hw4⟩
      have hx4 : Below x3.heap.size x3 x4 := by rw [← hw4]; exact Below.refl _ _
      have hz4 := hx4.size
      clear hw4
      dsimp only
      have hv4 : Below wv.heap.size wv x4 := bthen hv3 hx4
      replace r1 := (cellB hx4 (by omega)).trans r1
      replace k1 := (cellB hx4 (by omega)).trans k1
      replace m1 := (frozenB hx4 (by omega)).trans m1
      replace k2 := (cellB hx4 (by omega)).trans k2
      replace m2 := (frozenB hx4 (by omega)).trans m2
      refine hK.out _ _ r1 (fun hHeld => ?_)
      clear hK K hHeld
      refine wpAnyT_last (i := 14) rfl (by kernel_rfl) (by kernel_rfl) (fun K hK => ?_)
      go_simp
      refine hK.out _ _ ?_
      clear hK K
      have k2' := (World.cell?_setCell_other x4 ⟨b1, 0, none⟩ ⟨b2, 0, none⟩ (.int .i64 (min x y)) (by first | (simp; done) | (simp; omega))).trans k2
      have m2' := (World.frozen?_setCell x4 ⟨b1, 0, none⟩ ⟨b2, 0, none⟩ (.int .i64 (min x y))).trans m2
      refine wpAnyT_last (i := 15) rfl (by kernel_rfl) (by kernel_rfl) (fun K hK => ?_)
      go_simp
      refine hK.out _ _ ?_
      clear hK K
      refine wpAnyT_done (by kernel_rfl) ?_ _
      go_simp
      go_wp2_with fail
      go_meet
      case rel => exact ⟨b1, b2, rfl, rfl, (World.cell?_setCell_other _ _ _ _ (by first | (simp; done) | (simp; omega))).trans (World.cell?_setCell_same _ _ _ k1), by rw [← HTP.out]; exact World.cell?_setCell_same _ _ _ k2', (hv4.setCell (by show wv.heap.size ≤ b1; omega) _).setCell (by show wv.heap.size ≤ b2; omega) _⟩
   ·go_simp
    generalize hW1 : World.alloc x0 _ = x1
    have hx1 : Below x0.heap.size x0 x1 := by rw [← hW1]; exact bA
    have hz1 : x0.heap.size + 1 ≤ x1.heap.size := by rw [← hW1]; simp
    have k1 : x1.cell? ⟨x0.heap.size, 0, none⟩ = some (.int .i64 0) := by rw [← hW1]; simp [go_sem]
    have m1 : x1.frozen? ⟨x0.heap.size, 0, none⟩ = false := by rw [← hW1]; simp [go_sem]
    clear hW1
    obtain ⟨b1, hb1⟩ : ∃ b, b = x0.heap.size := ⟨_, rfl⟩
    rw [← hb1] at k1 m1 ⊢
    have hl1 : x0.heap.size ≤ b1 ∧ b1 < x1.heap.size := by omega
    clear hb1
    have hv1 : Below wv.heap.size wv x1 := bthen hv0 hx1
    replace r1 := (cellB hx1 (by omega)).trans r1
    refine hK.out _ _ r1 (fun hHeld => ?_)
    clear hK K hHeld
    refine wpAnyT_two (i := 5) (j := 13) rfl rfl (by kernel_rfl) (fun K hK => ?_) (fun K hK => ?_)
    ·go_simp
     go_at_call 168
     refine (MinI_any _ (HAR.out.below hv1)).mono ?_
     rintro e x2 ⟨rfl, hw2⟩
     have hx2 : Below x1.heap.size x1 x2 := by rw [← hw2]; exact Below.refl _ _
     have hz2 := hx2.size
     clear hw2
     dsimp only
     have hv2 : Below wv.heap.size wv x2 := bthen hv1 hx2
     replace r1 := (cellB hx2 (by omega)).trans r1
     replace k1 := (cellB hx2 (by omega)).trans k1
     replace m1 := (frozenB hx2 (by omega)).trans m1
     refine hK.out _ _ r1 (fun hHeld => ?_)
     clear hK K hHeld
     refine wpAnyT_two (i := 11) (j := 13) rfl rfl (by kernel_rfl) (fun K hK => ?_) (fun K hK => ?_)
     ·go_simp
      go_at_call 169
      refine (MaxI_any _ (HAR.out.below hv2) (by simp) HNN.out).mono ?_
      rintro e x3 ⟨rfl, hw3⟩
      have hx3 : Below x2.heap.size x2 x3 := by rw [← hw3]; exact Below.refl _ _
      have hz3 := hx3.size
      clear hw3
      dsimp only
      have hv3 : Below wv.heap.size wv x3 := bthen hv2 hx3
      replace r1 := (cellB hx3 (by omega)).trans r1
      replace k1 := (cellB hx3 (by omega)).trans k1
      replace m1 := (frozenB hx3 (by omega)).trans m1
      refine hK.out _ _ r1 (fun hHeld => ?_)
      clear hK K hHeld
      refine wpAnyT_one (i := 13) rfl (by kernel_rfl) (fun K hK => ?_)
      go_simp
      generalize hW4 : World.alloc x3 _ = x4
      have hx4 : Below x3.heap.size x3 x4 := by rw [← hW4]; exact bA
      have hz4 : x3.heap.size + 1 ≤ x4.heap.size := by rw [← hW4]; simp
      have k2 : x4.cell? ⟨x3.heap.size, 0, none⟩ = some (.int .i64 0) := by rw [← hW4]; simp [go_sem]
      have m2 : x4.frozen? ⟨x3.heap.size, 0, none⟩ = false := by rw [← hW4]; simp [go_sem]
      clear hW4
      obtain ⟨b2, hb2⟩ : ∃ b, b = x3.heap.size := ⟨_, rfl⟩
      rw [← hb2] at k2 m2 ⊢
      have hl2 : x3.heap.size ≤ b2 ∧ b2 < x4.heap.size := by omega
      clear hb2
      have hv4 : Below wv.heap.size wv x4 := bthen hv3 hx4
      replace r1 := (cellB hx4 (by omega)).trans r1
      replace k1 := (cellB hx4 (by omega)).trans k1
      replace m1 := (frozenB hx4 (by omega)).trans m1
      refine hK.out _ _ r1 (fun hHeld => ?_)
      clear hK K hHeld
      refine wpAnyT_last (i := 14) rfl (by kernel_rfl) (by kernel_rfl) (fun K hK => ?_)
      go_simp
      refine hK.out _ _ ?_
      clear hK K
      have k2' := (World.cell?_setCell_other x4 ⟨b1, 0, none⟩ ⟨b2, 0, none⟩ (.int .i64 (min x y)) (by first | (simp; done) | (simp; omega))).trans k2
      have m2' := (World.frozen?_setCell x4 ⟨b1, 0, none⟩ ⟨b2, 0, none⟩ (.int .i64 (min x y))).trans m2
      refine wpAnyT_last (i := 15) rfl (by kernel_rfl) (by kernel_rfl) (fun K hK => ?_)
      go_simp
      refine hK.out _ _ ?_
      clear hK K
      refine wpAnyT_done (by kernel_rfl) ?_ _
      go_simp
      go_wp2_with fail
      go_meet
      case rel => exact ⟨b1, b2, rfl, rfl, (World.cell?_setCell_other _ _ _ _ (by first | (simp; done) | (simp; omega))).trans (World.cell?_setCell_same _ _ _ k1), by rw [← HTP.out]; exact World.cell?_setCell_same _ _ _ k2', (hv4.setCell (by show wv.heap.size ≤ b1; omega) _).setCell (by show wv.heap.size ≤ b2; omega) _⟩
     ·go_simp
      generalize hW3 : World.alloc x2 _ = x3
      have hx3 : Below x2.heap.size x2 x3 := by rw [← hW3]; exact bA
      have hz3 : x2.heap.size + 1 ≤ x3.heap.size := by rw [← hW3]; simp
      have k2 : x3.cell? ⟨x2.heap.size, 0, none⟩ = some (.int .i64 0) := by rw [← hW3]; simp [go_sem]
      have m2 : x3.frozen? ⟨x2.heap.size, 0, none⟩ = false := by rw [← hW3]; simp [go_sem]
      clear hW3
      obtain ⟨b2, hb2⟩ : ∃ b, b = x2.heap.size := ⟨_, rfl⟩
      rw [← hb2] at k2 m2 ⊢
      have hl2 : x2.heap.size ≤ b2 ∧ b2 < x3.heap.size := by omega
      clear hb2
      have hv3 : Below wv.heap.size wv x3 := bthen hv2 hx3
      replace r1 := (cellB hx3 (by omega)).trans r1
      replace k1 := (cellB hx3 (by omega)).trans k1
      replace m1 := (frozenB hx3 (by omega)).trans m1
      refine hK.out _ _ r1 (fun hHeld => ?_)
      clear hK K hHeld
      refine wpAnyT_one (i := 11) rfl (by kernel_rfl) (fun K hK => ?_)
      go_simp
      go_at_call 169
      refine (MaxI_any _ (HAR.out.below hv3) (by simp) HNN.out).mono ?_
      rintro e x4 ⟨rfl, hw4⟩
      have hx4 : Below x3.heap.size x3 x4 := by rw [← hw4]; exact Below.refl _ _
      have hz4 := hx4.size
      clear hw4
      dsimp only
      have hv4 : Below wv.heap.size wv x4 := bthen hv3 hx4
      replace r1 := (cellB hx4 (by omega)).trans r1
      replace k1 := (cellB hx4 (by omega)).trans k1
      replace m1 := (frozenB hx4 (by omega)).trans m1
      replace k2 := (cellB hx4 (by omega)).trans k2
      replace m2 := (frozenB hx4 (by omega)).trans m2
      refine hK.out _ _ r1 (fun hHeld => ?_)
      clear hK K hHeld
      refine wpAnyT_last (i := 14) rfl (by kernel_rfl) (by kernel_rfl) (fun K hK => ?_)
      go_simp
      refine hK.out _ _ ?_
      clear hK K
      have k2' := (World.cell?_setCell_other x4 ⟨b1, 0, none⟩ ⟨b2, 0, none⟩ (.int .i64 (min x y)) (by first | (simp; done) | (simp; omega))).trans k2
      have m2' := (World.frozen?_setCell x4 ⟨b1, 0, none⟩ ⟨b2, 0, none⟩ (.int .i64 (min x y))).trans m2
      refine wpAnyT_last (i := 15) rfl (by kernel_rfl) (by kernel_rfl) (fun K hK => ?_)
      go_simp
      refine hK.out _ _ ?_
      clear hK K
      refine wpAnyT_done (by kernel_rfl) ?_ _
      go_simp
      go_wp2_with fail
      go_meet
      case rel => exact ⟨b1, b2, rfl, rfl, (World.cell?_setCell_other _ _ _ _ (by first | (simp; done) | (simp; omega))).trans (World.cell?_setCell_same _ _ _ k1), by rw [← HTP.out]; exact World.cell?_setCell_same _ _ _ k2', (hv4.setCell (by show wv.heap.size ≤ b1; omega) _).setCell (by show wv.heap.size ≤ b2; omega) _⟩
    ·go_simp
     generalize hW2 : World.alloc x1 _ = x2
     have hx2 : Below x1.heap.size x1 x2 := by rw [← hW2]; exact bA
     have hz2 : x1.heap.size + 1 ≤ x2.heap.size := by rw [← hW2]; simp
     have k2 : x2.cell? ⟨x1.heap.size, 0, none⟩ = some (.int .i64 0) := by rw [← hW2]; simp [go_sem]
     have m2 : x2.frozen? ⟨x1.heap.size, 0, none⟩ = false := by rw [← hW2]; simp [go_sem]
     clear hW2
     obtain ⟨b2, hb2⟩ : ∃ b, b = x1.heap.size := ⟨_, rfl⟩
     rw [← hb2] at k2 m2 ⊢
     have hl2 : x1.heap.size ≤ b2 ∧ b2 < x2.heap.size := by omega
     clear hb2
     have hv2 : Below wv.heap.size wv x2 := bthen hv1 hx2
     replace r1 := (cellB hx2 (by omega)).trans r1
     replace k1 := (cellB hx2 (by omega)).trans k1
     replace m1 := (frozenB hx2 (by omega)).trans m1
     refine hK.out _ _ r1 (fun hHeld => ?_)
     clear hK K hHeld
     refine wpAnyT_one (i := 5) rfl (by kernel_rfl) (fun K hK => ?_)
     go_simp
     go_at_call 168
     refine (MinI_any _ (HAR.out.below hv2)).mono ?_
     rintro e x3 ⟨rfl, hw3⟩
     have hx3 : Below x2.heap.size x2 x3 := by rw [← hw3]; exact Below.refl _ _
     have hz3 := hx3.size
     clear hw3
     dsimp only
     have hv3 : Below wv.heap.size wv x3 := bthen hv2 hx3
     replace r1 := (cellB hx3 (by omega)).trans r1
     replace k1 := (cellB hx3 (by omega)).trans k1
     replace m1 := (frozenB hx3 (by omega)).trans m1
     replace k2 := (cellB hx3 (by omega)).trans k2
     replace m2 := (frozenB hx3 (by omega)).trans m2
     refine hK.out _ _ r1 (fun hHeld => ?_)
     clear hK K hHeld
     refine wpAnyT_one (i := 11) rfl (by kernel_rfl) (fun K hK => ?_)
     go_simp
     go_at_call 169
     refine (MaxI_any _ (HAR.out.below hv3) (by simp) HNN.out).mono ?_
     rintro e x4 ⟨rfl, hw4⟩
     have hx4 : Below x3.heap.size x3 x4 := by rw [← hw4]; exact Below.refl _ _
     have hz4 := hx4.size
     clear hw4
     dsimp only
     have hv4 : Below wv.heap.size wv x4 := bthen hv3 hx4
     replace r1 := (cellB hx4 (by omega)).trans r1
     replace k1 := (cellB hx4 (by omega)).trans k1
     replace m1 := (frozenB hx4 (by omega)).trans m1
     replace k2 := (cellB hx4 (by omega)).trans k2
     replace m2 := (frozenB hx4 (by omega)).trans m2
     refine hK.out _ _ r1 (fun hHeld => ?_)
     clear hK K hHeld
     refine wpAnyT_last (i := 14) rfl (by kernel_rfl) (by kernel_rfl) (fun K hK => ?_)
     go_simp
     refine hK.out _ _ ?_
     clear hK K
     have k2' := (World.cell?_setCell_other x4 ⟨b1, 0, none⟩ ⟨b2, 0, none⟩ (.int .i64 (min x y)) (by first | (simp; done) | (simp; omega))).trans k2
     have m2' := (World.frozen?_setCell x4 ⟨b1, 0, none⟩ ⟨b2, 0, none⟩ (.int .i64 (min x y))).trans m2
     refine wpAnyT_last (i := 15) rfl (by kernel_rfl) (by kernel_rfl) (fun K hK => ?_)
     go_simp
     refine hK.out _ _ ?_
     clear hK K
     refine wpAnyT_done (by kernel_rfl) ?_ _
     go_simp
     go_wp2_with fail
     go_meet
     case rel => exact ⟨b1, b2, rfl, rfl, (World.cell?_setCell_other _ _ _ _ (by first | (simp; done) | (simp; omega))).trans (World.cell?_setCell_same _ _ _ k1), by rw [← HTP.out]; exact World.cell?_setCell_same _ _ _ k2', (hv4.setCell (by show wv.heap.size ≤ b1; omega) _).setCell (by show wv.heap.size ≤ b2; omega) _⟩
   ·go_simp
    generalize hW1 : World.alloc x0 _ = x1
    have hx1 : Below x0.heap.size x0 x1 := by rw [← hW1]; exact bA
    have hz1 : x0.heap.size + 1 ≤ x1.heap.size := by rw [← hW1]; simp
    have k2 : x1.cell? ⟨x0.heap.size, 0, none⟩ = some (.int .i64 0) := by rw [← hW1]; simp [go_sem]
    have m2 : x1.frozen? ⟨x0.heap.size, 0, none⟩ = false := by rw [← hW1]; simp [go_sem]
    clear hW1
    obtain ⟨b2, hb2⟩ : ∃ b, b = x0.heap.size := ⟨_, rfl⟩
    rw [← hb2] at k2 m2 ⊢
    have hl2 : x0.heap.size ≤ b2 ∧ b2 < x1.heap.size := by omega
    clear hb2
    have hv1 : Below wv.heap.size wv x1 := bthen hv0 hx1
    replace r1 := (cellB hx1 (by omega)).trans r1
    refine hK.out _ _ r1 (fun hHeld => ?_)
    clear hK K hHeld
    refine wpAnyT_two (i := 5) (j := 12) rfl rfl (by kernel_rfl) (fun K hK => ?_) (fun K hK => ?_)
    ·go_simp
     go_at_call 168
     refine (MinI_any _ (HAR.out.below hv1)).mono ?_
     rintro e x2 ⟨rfl, hw2⟩
     have hx2 : Below x1.heap.size x1 x2 := by rw [← hw2]; exact Below.refl _ _
     have hz2 := hx2.size
     clear hw2
     dsimp only
     have hv2 : Below wv.heap.size wv x2 := bthen hv1 hx2
     replace r1 := (cellB hx2 (by omega)).trans r1
     replace k2 := (cellB hx2 (by omega)).trans k2
     replace m2 := (frozenB hx2 (by omega)).trans m2
     refine hK.out _ _ r1 (fun hHeld => ?_)
     clear hK K hHeld
     refine wpAnyT_two (i := 11) (j := 12) rfl rfl (by kernel_rfl) (fun K hK => ?_) (fun K hK => ?_)
     ·go_simp
      go_at_call 169
      refine (MaxI_any _ (HAR.out.below hv2) (by simp) HNN.out).mono ?_
      rintro e x3 ⟨rfl, hw3⟩
      have hx3 : Below x2.heap.size x2 x3 := by rw [← hw3]; exact Below.refl _ _
      have hz3 := hx3.size
      clear hw3
      dsimp only
      have hv3 : Below wv.heap.size wv x3 := bthen hv2 hx3
      replace r1 := (cellB hx3 (by omega)).trans r1
      replace k2 := (cellB hx3 (by omega)).trans k2
      replace m2 := (frozenB hx3 (by omega)).trans m2
      refine hK.out _ _ r1 (fun hHeld => ?_)
      clear hK K hHeld
      refine wpAnyT_one (i := 12) rfl (by kernel_rfl) (fun K hK => ?_)
      go_simp
      generalize hW4 : World.alloc x3 _ = x4
      have hx4 : Below x3.heap.size x3 x4 := by rw [← hW4]; exact bA
      have hz4 : x3.heap.size + 1 ≤ x4.heap.size := by rw [← hW4]; simp
      have k1 : x4.cell? ⟨x3.heap.size, 0, none⟩ = some (.int .i64 0) := by rw [← hW4]; simp [go_sem]
      have m1 : x4.frozen? ⟨x3.heap.size, 0, none⟩ = false := by rw [← hW4]; simp [go_sem]
      clear hW4
      obtain ⟨b1, hb1⟩ : ∃ b, b = x3.heap.size := ⟨_, rfl⟩
      rw [← hb1] at k1 m1 ⊢
      have hl1 : x3.heap.size ≤ b1 ∧ b1 < x4.heap.size := by omega
      clear hb1
      have hv4 : Below wv.heap.size wv x4 := bthen hv3 hx4
      replace r1 := (cellB hx4 (by omega)).trans r1
      replace k2 := (cellB hx4 (by omega)).trans k2
      replace m2 := (frozenB hx4 (by omega)).trans m2
      refine hK.out _ _ r1 (fun hHeld => ?_)
      clear hK K hHeld
      refine wpAnyT_last (i := 14) rfl (by kernel_rfl) (by kernel_rfl) (fun K hK => ?_)
      go_simp
      refine hK.out _ _ ?_
      clear hK K
      have k2' := (World.cell?_setCell_other x4 ⟨b1, 0, none⟩ ⟨b2, 0, none⟩ (.int .i64 (min x y)) (by first | (simp; done) | (simp; omega))).trans k2
      have m2' := (World.frozen?_setCell x4 ⟨b1, 0, none⟩ ⟨b2, 0, none⟩ (.int .i64 (min x y))).trans m2
      refine wpAnyT_last (i := 15) rfl (by kernel_rfl) (by kernel_rfl) (fun K hK => ?_)
      go_simp
      refine hK.out _ _ ?_
      clear hK K
      refine wpAnyT_done (by kernel_rfl) ?_ _
      go_simp
      go_wp2_with fail
      go_meet
      case rel => exact ⟨b1, b2, rfl, rfl, (World.cell?_setCell_other _ _ _ _ (by first | (simp; done) | (simp; omega))).trans (World.cell?_setCell_same _ _ _ k1), by rw [← HTP.out]; exact World.cell?_setCell_same _ _ _ k2', (hv4.setCell (by show wv.heap.size ≤ b1; omega) _).setCell (by show wv.heap.size ≤ b2; omega) _⟩
     ·go_simp
      generalize hW3 : World.alloc x2 _ = x3
      have hx3 : Below x2.heap.size x2 x3 := by rw [← hW3]; exact bA
      have hz3 : x2.heap.size + 1 ≤ x3.heap.size := by rw [← hW3]; simp
      have k1 : x3.cell? ⟨x2.heap.size, 0, none⟩ = some (.int .i64 0) := by rw [← hW3]; simp [go_sem]
      have m1 : x3.frozen? ⟨x2.heap.size, 0, none⟩ = false := by rw [← hW3]; simp [go_sem]
      clear hW3
      obtain ⟨b1, hb1⟩ : ∃ b, b = x2.heap.size := ⟨_, rfl⟩
      rw [← hb1] at k1 m1 ⊢
      have hl1 : x2.heap.size ≤ b1 ∧ b1 < x3.heap.size := by omega
      clear hb1
      have hv3 : Below wv.heap.size wv x3 := bthen hv2 hx3
      replace r1 := (cellB hx3 (by omega)).trans r1
      replace k2 := (cellB hx3 (by omega)).trans k2
      replace m2 := (frozenB hx3 (by omega)).trans m2
      refine hK.out _ _ r1 (fun hHeld => ?_)
      clear hK K hHeld
      refine wpAnyT_one (i := 11) rfl (by kernel_rfl) (fun K hK => ?_)
      go_simp
      go_at_call 169
      refine (MaxI_any _ (HAR.out.below hv3) (by simp) HNN.out).mono ?_
      rintro e x4 ⟨rfl, hw4⟩
      have hx4 : Below x3.heap.size x3 x4 := by rw [← hw4]; exact Below.refl _ _
      have hz4 := hx4.size
      clear hw4
      dsimp only
      have hv4 : Below wv.heap.size wv x4 := bthen hv3 hx4
      replace r1 := (cellB hx4 (by omega)).trans r1
      replace k1 := (cellB hx4 (by omega)).trans k1
      replace m1 := (frozenB hx4 (by omega)).trans m1
      replace k2 := (cellB hx4 (by omega)).trans k2
      replace m2 := (frozenB hx4 (by omega)).trans m2
      refine hK.out _ _ r1 (fun hHeld => ?_)
      clear hK K hHeld
      refine wpAnyT_last (i := 14) rfl (by kernel_rfl) (by kernel_rfl) (fun K hK => ?_)
      go_simp
      refine hK.out _ _ ?_
      clear hK K
      have k2' := (World.cell?_setCell_other x4 ⟨b1, 0, none⟩ ⟨b2, 0, none⟩ (.int .i64 (min x y)) (by first | (simp; done) | (simp; omega))).trans k2
      have m2' := (World.frozen?_setCell x4 ⟨b1, 0, none⟩ ⟨b2, 0, none⟩ (.int .i64 (min x y))).trans m2
      refine wpAnyT_last (i := 15) rfl (by kernel_rfl) (by kernel_rfl) (fun K hK => ?_)
      go_simp
      refine hK.out _ _ ?_
      clear hK K
      refine wpAnyT_done (by kernel_rfl) ?_ _
      go_simp
      go_wp2_with fail
      go_meet
      case rel => exact ⟨b1, b2, rfl, rfl, (World.cell?_setCell_other _ _ _ _ (by first | (simp; done) | (simp; omega))).trans (World.cell?_setCell_same _ _ _ k1), by rw [← HTP.out]; exact World.cell?_setCell_same _ _ _ k2', (hv4.setCell (by show wv.heap.size ≤ b1; omega) _).setCell (by show wv.heap.size ≤ b2; omega) _⟩
    ·go_simp
     generalize hW2 : World.alloc x1 _ = x2
     have hx2 : Below x1.heap.size x1 x2 := by rw [← hW2]; exact bA
     have hz2 : x1.heap.size + 1 ≤ x2.heap.size := by rw [← hW2]; simp
     have k1 : x2.cell? ⟨x1.heap.size, 0, none⟩ = some (.int .i64 0) := by rw [← hW2]; simp [go_sem]
     have m1 : x2.frozen? ⟨x1.heap.size, 0, none⟩ = false := by rw [← hW2]; simp [go_sem]
     clear hW2
     obtain ⟨b1, hb1⟩ : ∃ b, b = x1.heap.size := ⟨_, rfl⟩
     rw [← hb1] at k1 m1 ⊢
     have hl1 : x1.heap.size ≤ b1 ∧ b1 < x2.heap.size := by omega
     clear hb1
     have hv2 : Below wv.heap.size wv x2 := bthen hv1 hx2
     replace r1 := (cellB hx2 (by omega)).trans r1
     replace k2 := (cellB hx2 (by omega)).trans k2
     replace m2 := (frozenB hx2 (by omega)).trans m2
     refine hK.out _ _ r1 (fun hHeld => ?_)
     clear hK K hHeld
     refine wpAnyT_one (i := 5) rfl (by kernel_rfl) (fun K hK => ?_)
     go_simp
     go_at_call 168
     refine (MinI_any _ (HAR.out.below hv2)).mono ?_
     rintro e x3 ⟨rfl, hw3⟩
     have hx3 : Below x2.heap.size x2 x3 := by rw [← hw3]; exact Below.refl _ _
     have hz3 := hx3.size
     clear hw3
     dsimp only
     have hv3 : Below wv.heap.size wv x3 := bthen hv2 hx3
     replace r1 := (cellB hx3 (by omega)).trans r1
     replace k1 := (cellB hx3 (by omega)).trans k1
     replace m1 := (frozenB hx3 (by omega)).trans m1
     replace k2 := (cellB hx3 (by omega)).trans k2
     replace m2 := (frozenB hx3 (by omega)).trans m2
     refine hK.out _ _ r1 (fun hHeld => ?_)
     clear hK K hHeld
     refine wpAnyT_one (i := 11) rfl (by kernel_rfl) (fun K hK => ?_)
     go_simp
     go_at_call 169
     refine (MaxI_any _ (HAR.out.below hv3) (by simp) HNN.out).mono ?_
     rintro e x4 ⟨rfl, hw4⟩
     have hx4 : Below x3.heap.size x3 x4 := by rw [← hw4]; exact Below.refl _ _
     have hz4 := hx4.size
     clear hw4
     dsimp only
     have hv4 : Below wv.heap.size wv x4 := bthen hv3 hx4
     replace r1 := (cellB hx4 (by omega)).trans r1
     replace k1 := (cellB hx4 (by omega)).trans k1
     replace m1 := (frozenB hx4 (by omega)).trans m1
     replace k2 := (cellB hx4 (by omega)).trans k2
     replace m2 := (frozenB hx4 (by omega)).trans m2
     refine hK.out _ _ r1 (fun hHeld => ?_)
     clear hK K hHeld
     refine wpAnyT_last (i := 14) rfl (by kernel_rfl) (by kernel_rfl) (fun K hK => ?_)
     go_simp
     refine hK.out _ _ ?_
     clear hK K
     have k2' := (World.cell?_setCell_other x4 ⟨b1, 0, none⟩ ⟨b2, 0, none⟩ (.int .i64 (min x y)) (by first | (simp; done) | (simp; omega))).trans k2
     have m2' := (World.frozen?_setCell x4 ⟨b1, 0, none⟩ ⟨b2, 0, none⟩ (.int .i64 (min x y))).trans m2
     refine wpAnyT_last (i := 15) rfl (by kernel_rfl) (by kernel_rfl) (fun K hK => ?_)
     go_simp
     refine hK.out _ _ ?_
     clear hK K
     refine wpAnyT_done (by kernel_rfl) ?_ _
     go_simp
     go_wp2_with fail
     go_meet
     case rel => exact ⟨b1, b2, rfl, rfl, (World.cell?_setCell_other _ _ _ _ (by first | (simp; done) | (simp; omega))).trans (World.cell?_setCell_same _ _ _ k1), by rw [← HTP.out]; exact World.cell?_setCell_same _ _ _ k2', (hv4.setCell (by show wv.heap.size ≤ b1; omega) _).setCell (by show wv.heap.size ≤ b2; omega) _⟩
end Go.Proofs.YtnhdohednekhjaaGreatDoor
namespace Go.Proofs.YtnhdohednekhjaaGreatDoor
open Go.RowKit Go.Sort
set_option maxHeartbeats 1600000 in
set_option maxRecDepth 100000 in
theorem SimplifyFormula_any (w : World) {cs cf : Array Value} {t : Int × List (Int × List (List Int))} {f : Int × Int × Atoms} (h : tplT.Rd w cs.toList t) (hf : frmT.Rd w cf.toList f) :
  Calls Tryz.prog 24 #[.agg cs, .agg cf] w (RetAC frmT w (simV t f) (simC t f)) := by
 have HT := Lib.hid h
 have HF := Lib.hid hf
 obtain ⟨v1, hv1, hI, -⟩ := pair_ex h
 obtain rfl := agg_of hv1
 obtain ⟨v2, hv2, hIf, hIf2, -⟩ := trip_ex hf
 obtain rfl := agg_of hv2
 clear h hf hv1 hv2
 go_enter Tryz.func24, Tryz.ntmps24
 go_wp2_with fail
 generalize hW : World.alloc _ _ = W
 have hbW : Below w.heap.size w W := hW ▸ ((bAA (w := w)).alloc (by simp; omega) _)
 have hsW : w.heap.size + 3 ≤ W.heap.size := by rw [← hW]; simp
 have t0 : W.cell? ⟨w.heap.size, 0, none⟩ = some (.int .i64 t.1) := by rw [← hW]; simp [go_sem]
 have t1 : W.cell? ⟨w.heap.size, 1, none⟩ = some v1 := by rw [← hW]; simp [go_sem]
 have f0 : W.cell? ⟨w.heap.size + 1, 0, none⟩ = some (.int .i64 f.1) := by rw [← hW]; simp [go_sem]
 have f1 : W.cell? ⟨w.heap.size + 1, 1, none⟩ = some (.int .i64 f.2.1) := by rw [← hW]; simp [go_sem]
 have f2 : W.cell? ⟨w.heap.size + 1, 2, none⟩ = some v2 := by rw [← hW]; simp [go_sem]
 have r0 : W.cell? ⟨w.heap.size + 2, 0, none⟩ = some (.int .i64 0) := by rw [← hW]; simp [go_sem]
 have r1 : W.cell? ⟨w.heap.size + 2, 1, none⟩ = some (.int .i64 0) := by rw [← hW]; simp [go_sem]
 have r2 : W.cell? ⟨w.heap.size + 2, 2, none⟩ = some (.slice none 0 0) := by rw [← hW]; simp [go_sem]
 have m0 : W.frozen? ⟨w.heap.size + 2, 0, none⟩ = false := by rw [← hW]; simp [go_sem]
 have m1 : W.frozen? ⟨w.heap.size + 2, 1, none⟩ = false := by rw [← hW]; simp [go_sem]
 have m2 : W.frozen? ⟨w.heap.size + 2, 2, none⟩ = false := by rw [← hW]; simp [go_sem]
 clear hW
 refine (ValidFormula_any _ (cs := #[.int .i64 t.1, v1]) (cs' := #[.int .i64 f.1, .int .i64 f.2.1, v2]) (HT.out.below hbW) (HF.out.below hbW)).mono ?_
 rintro e w1 ⟨rfl, hb1⟩
 have hz1 := hb1.size
 have hB1 := bthen hbW hb1
 replace t0 := (cellB hb1 (by omega)).trans t0
 replace t1 := (cellB hb1 (by omega)).trans t1
 replace f0 := (cellB hb1 (by omega)).trans f0
 replace f1 := (cellB hb1 (by omega)).trans f1
 replace f2 := (cellB hb1 (by omega)).trans f2
 replace r0 := (cellB hb1 (by omega)).trans r0
 replace r1 := (cellB hb1 (by omega)).trans r1
 replace r2 := (cellB hb1 (by omega)).trans r2
 replace m0 := (frozenB hb1 (by omega)).trans m0
 replace m1 := (frozenB hb1 (by omega)).trans m1
 replace m2 := (frozenB hb1 (by omega)).trans m2
 cases hT : tb (frmOk t f)
 ·have HR := Lib.hid (sim_no hT)
  clear hT
  obtain ⟨g0, g1, g2⟩ := set3_cells (x := .int .i64 0) (y := .int .i64 0) (z := .slice none 0 0) r0 r1 r2
  go_wp2_with fail
  refine bodyPost_ret (v := .tuple #[.agg #[.int .i64 0, .int .i64 0, .slice none 0 0], .int .i64 1]) (by simp [results, Tryz.results24, go_sem, g0, g1, g2]) rfl ⟨[.int .i64 0, .int .i64 0, .slice none 0 0], by rw [HR.out.2], by rw [HR.out.1]; exact fr_frm0, set3_below hB1 (by omega)⟩
 ·have HR := Lib.hid (sim_yes hT)
  have HOK := Lib.hid (tb_iff.1 hT)
  clear hT
  go_wp2_with fail
  refine (simplified_any _ (cf := #[.int .i64 f.1, .int .i64 f.2.1, v2]) (HF.out.below hB1) HOK.out).mono ?_
  rintro e w2 ⟨cs2, rfl, hf2, hb2⟩
  obtain ⟨a2, c2, rfl⟩ := fr_trip hf2
  have HF2 := Lib.hid hf2
  have hB2 := bthen hB1 hb2
  have hz2 := hb2.size
  replace r0 := (cellB hb2 (by omega)).trans r0
  replace r1 := (cellB hb2 (by omega)).trans r1
  replace r2 := (cellB hb2 (by omega)).trans r2
  replace m0 := (frozenB hb2 (by omega)).trans m0
  replace m1 := (frozenB hb2 (by omega)).trans m1
  replace m2 := (frozenB hb2 (by omega)).trans m2
  obtain ⟨g0, g1, g2⟩ := set3_cells (x := .int .i64 (simF f).1) (y := .int .i64 (simF f).2.1) (z := .slice a2 (simF f).2.2.length c2) r0 r1 r2
  clear hf2 t0 t1 f0 f1 f2
  go_wp2_with fail
  refine bodyPost_ret (v := .tuple #[.agg #[.int .i64 (simF f).1, .int .i64 (simF f).2.1, .slice a2 (simF f).2.2.length c2], .int .i64 0]) (by simp [results, Tryz.results24, go_sem, g0, g1, g2]) rfl ⟨[.int .i64 (simF f).1, .int .i64 (simF f).2.1, .slice a2 (simF f).2.2.length c2], by rw [HR.out.2], ?_, ?_⟩
  ·rw [HR.out.1]
   exact (HF2.out.set3 (by omega)).mono (by omega)
  ·exact set3_below hB2 (by omega)
end Go.Proofs.YtnhdohednekhjaaGreatDoor
