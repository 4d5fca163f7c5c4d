/-
 The law FnPairsLeft, walked: its contract.
-/
import Derived.Test.YtmnjlhcbabhhlaaGreatQAG
import Derived.Test.YtmnjlhcbabhhlaaGreatQAJ
import Derived.Test.YtmnjlhcbabhhlaaGreatQBA
namespace Go.Proofs.YtmnjlhcbabhhlaaGreat
open Go.RowKit Go.Sort
set_option maxHeartbeats 25600000 in
set_option maxRecDepth 100000 in
theorem fnPairsLeft_any (w : World) {v0 v1 : Value} {x0 x1 : List Int} (h0 : bytesT.Rd w [v0] x0) (h1 : bytesT.Rd w [v1] x1) :
  Calls Tryz.prog 3 #[v0, v1] w fun e w' => e = .returned (.bool true) ∧ Below w.heap.size w w' := by
 obtain ⟨a0, k0, rfl⟩ := rd_slice h0
 obtain ⟨a1, k1, rfl⟩ := rd_slice h1
 have H0 := Lib.hid h0
 have H1 := Lib.hid h1
 clear h0 h1
 go_enter Tryz.func3, Tryz.ntmps3
 go_wp2_with fail
 refine (f6bigY_any w H0.out).mono ?_
 rintro e _ ⟨b, rfl, rfl⟩
 cases b
 rotate_left
 ·go_wp2_with fail
  go_ret
  exact ⟨rfl, Below.refl _ _⟩
 go_wp2_with fail
 refine (f6bigY_any w H1.out).mono ?_
 rintro e _ ⟨b, rfl, rfl⟩
 cases b
 rotate_left
 ·go_wp2_with fail
  go_ret
  exact ⟨rfl, Below.refl _ _⟩
 clear H1
 go_wp2_with fail
 refine (P6Hard_any w H0.out).mono ?_
 rintro e w1 ⟨cs, cs', t, x, rfl, hT, hX, hok, hb1⟩
 obtain ⟨ta, tc, rfl⟩ := rd_pair2 hT
 obtain ⟨xa, xc, rfl⟩ := rd_pair2 hX
 have HT := Lib.hid hT
 have HX := Lib.hid hX
 have HOK := Lib.hid hok
 have HF0 := plF_of hok
 have HFPY0 := fp_yes (tb_true hok)
 obtain ⟨P, hPE⟩ : ∃ P, allP t x (t.1 ^ 2).toNat x.1.toNat = P := ⟨_, rfl⟩
 obtain ⟨D, hDE⟩ : ∃ D, (mkpV t x).1 = D := ⟨_, rfl⟩
 obtain ⟨S, hSE⟩ : ∃ S, (mkpV t x).2 = S := ⟨_, rfl⟩
 rw [hPE] at HF0 HFPY0
 rw [hDE, hSE] at HF0
 have HF := Lib.hid HF0
 have HFPY := Lib.hid HFPY0
 have HPE := Lib.hid hPE
 have HDE := Lib.hid hDE
 have HSE := Lib.hid hSE
 have hPD : P.length = D.length := HF0.1
 clear hT hX hok H0 HF0 HFPY0 hPE hDE hSE
 have hz1 := hb1.size
 go_upto_region 4 with fail
 generalize hW : World.alloc (World.alloc _ _) _ = W
 have hbW : Below w1.heap.size w1 W := hW ▸ bAA
 have hsW : w1.heap.size + 2 ≤ W.heap.size := by rw [← hW]; simp
 have t0 : W.cell? ⟨w1.heap.size, 0, none⟩ = some (.int .i64 t.1) := by rw [← hW]; simp [go_sem]
 have t1 : W.cell? ⟨w1.heap.size, 1, none⟩ = some (.slice ta t.2.length tc) := by rw [← hW]; simp [go_sem]
 have x0 : W.cell? ⟨w1.heap.size + 1, 0, none⟩ = some (.int .i64 x.1) := by rw [← hW]; simp [go_sem]
 have x1 : W.cell? ⟨w1.heap.size + 1, 1, none⟩ = some (.slice xa x.2.length xc) := by rw [← hW]; simp [go_sem]
 clear hW
 replace HT := Lib.hid (HT.out.below hbW)
 replace HX := Lib.hid (HX.out.below hbW)
 have hbw1 : Below w.heap.size w W := bthen hb1 hbW
 generalize hB : w1.heap.size = B at *
 clear hb1 hbW hz1
 go_wp2_with fail
 refine (FirstPairs_any W HT.out HX.out).mono ?_
 rintro e w2 ⟨u, rfl, hf, hb2⟩
 rw [HFPY.out.1] at hf
 rw [HFPY.out.2]
 obtain ⟨fa, fc, rfl⟩ := fr_slice hf
 have HFP := Lib.hid hf.rd
 rw [hPD] at HFP ⊢
 clear hf
 have hz2 := hb2.size
 replace t0 := (cellB hb2 (by omega)).trans t0
 replace t1 := (cellB hb2 (by omega)).trans t1
 replace x0 := (cellB hb2 (by omega)).trans x0
 replace x1 := (cellB hb2 (by omega)).trans x1
 replace HT := Lib.hid (HT.out.below hb2)
 replace HX := Lib.hid (HX.out.below hb2)
 have hbw2 := bthen hbw1 hb2
 clear hb2 hbw1
 go_wp2_with fail
 refine (MakePairs_any w2 HT.out HX.out HOK.out).mono ?_
 rintro e w3 ⟨qa, qc, ov, rfl, hq, hs, hb3⟩
 rw [HDE.out] at hq ⊢
 rw [HSE.out] at hs
 obtain ⟨sa, sc, rfl⟩ := fr_slice hs
 rw [List.length_map]
 have HQ := Lib.hid hq
 clear hq hs
 have hz3 := hb3.size
 replace t0 := (cellB hb3 (by omega)).trans t0
 replace t1 := (cellB hb3 (by omega)).trans t1
 replace x0 := (cellB hb3 (by omega)).trans x0
 replace x1 := (cellB hb3 (by omega)).trans x1
 replace HT := Lib.hid (HT.out.below hb3)
 replace HX := Lib.hid (HX.out.below hb3)
 replace HFP := Lib.hid (HFP.out.below hb3)
 have hbw3 := bthen hbw2 hb3
 clear hb3 hbw2
 go_wp2_with fail
 refine (specMakePairs_any thrC w3 HT.out HX.out HOK.out).mono ?_
 rintro e w4 ⟨da, dc, ov, rfl, hd, hs, hb4⟩
 rw [HDE.out] at hd ⊢
 rw [HSE.out] at hs
 obtain ⟨ma, mc, rfl⟩ := fr_slice hs
 rw [List.length_map] at hs ⊢
 have HD := Lib.hid hd
 have hDL := rels_le hd
 have HS := Lib.hid hs
 clear hd hs
 have hz4 := hb4.size
 replace t0 := (cellB hb4 (by omega)).trans t0
 replace t1 := (cellB hb4 (by omega)).trans t1
 replace x0 := (cellB hb4 (by omega)).trans x0
 replace x1 := (cellB hb4 (by omega)).trans x1
 replace HT := Lib.hid (HT.out.below hb4)
 replace HX := Lib.hid (HX.out.below hb4)
 replace HFP := Lib.hid (HFP.out.below hb4)
 replace HQ := Lib.hid (HQ.out.below hb4)
 have hbw4 := bthen hbw3 hb4
 clear hb4 hbw3
 go_wp2_with fail
 have hrp := ReplayPairs_any w4 HT.out HX.out HOK.out HS.out.rd HF.out.2.2.2.2.2.2.2.1 (Nat.le_trans HF.out.2.2.2.2.2.2.2.2.2 (by decide)) (M := S.length) (Nat.le_refl _) (by rw [HPE.out]; simpa using good_app HF.out.2.2.2.2.2.1 []) (fun h => absurd h (Nat.lt_irrefl _))
 rw [HPE.out] at hrp
 refine hrp.mono ?_
 rintro e w5 ⟨ba, bc, B5, r5, k5, rfl, hbk, hb5, hcase⟩
 clear hrp
 rcases hcase with ⟨-, rfl, rfl, rfl⟩ | ⟨hlt, -⟩
 rotate_left
 ·exact absurd hlt (Nat.lt_irrefl _)
 rw [HF.out.2.2.2.2.2.2.1] at hbk ⊢
 have HBK := Lib.hid hbk
 clear hbk
 have hz5 := hb5.size
 replace t0 := (cellB hb5 (by omega)).trans t0
 replace t1 := (cellB hb5 (by omega)).trans t1
 replace x0 := (cellB hb5 (by omega)).trans x0
 replace x1 := (cellB hb5 (by omega)).trans x1
 replace HT := Lib.hid (HT.out.below hb5)
 replace HX := Lib.hid (HX.out.below hb5)
 replace HFP := Lib.hid (HFP.out.below hb5)
 replace HQ := Lib.hid (HQ.out.below hb5)
 replace HD := Lib.hid (HD.out.below hb5)
 replace HS := Lib.hid (HS.out.below hb5)
 have hbw5 := bthen hbw4 hb5
 clear hb5 hbw4
 have hnD : ((D.length : Int) != (D.length : Int)) = false := by simp
 have hnS : ((S.length : Int) != (S.length : Int)) = false := by simp
 go_upto_region 11 with fail
 clear hnD hnS
 go_loopw [18] (fun i wr => ∃ (k : Nat), k ≤ D.length ∧ i = .int .i64 k ∧ Below w5.heap.size w5 wr) (fun i _ => D.length - (intOf i).toNat)
 case atStart => exact ⟨0, Nat.zero_le _, rfl, Below.refl _ _⟩
 case round =>
  obtain ⟨k, hk, rfl, hbr⟩ := hrel
  obtain ⟨wa, rfl⟩ : ∃ wa : World, wa = wr := ⟨_, rfl⟩
  have HBR := Lib.hid hbr
  have hza := hbr.size
  have hbwa := bthen hbw5 hbr
  by_cases hkD : k < D.length
  ·have hkP : k < P.length := by omega
   obtain ⟨fb, fo, fea, fec, rfl, hfb, hrf, f0, f1⟩ := rel_at hPD (HFP.out.below hbr) hkP
   obtain ⟨qb, qo, qea, qec, rfl, hqb, hrq, q0, q1⟩ := rel_at rfl (HQ.out.below hbr) hkD
   obtain ⟨db, do', dea, dec, rfl, hdb, hrd, d0, d1⟩ := rel_at rfl (HD.out.below hbr) hkD
   obtain ⟨bb, bo, bea, bec, rfl, hbb, hrb, b0, b1⟩ := rel_at rfl (HBK.out.below hbr) hkD
   have y0 := (cellB hbr (show B < w5.heap.size by omega)).trans t0
   have HRF := Lib.hid hrf
   have HRQ := Lib.hid hrq
   have HRD := Lib.hid hrd
   have HRB := Lib.hid hrb
   have HOD := Lib.hid (HF.out.2.2.1.2 _ (List.getElem_mem hkD))
   have HOP := Lib.hid (HF.out.2.1.2 _ (List.getElem_mem hkP))
   have HPT := Lib.hid (HF.out.part hkD hkP)
   clear hrf hrq hrd hrb hbr
   go_wp2_with fail
   generalize hPk : P[k] = pk at HRF HOP HPT f0 f1
   generalize hDk : D[k] = dk at HRQ HRD HRB HOD HPT q0 q1 d0 d1 b0 b1
   clear hPk hDk
   refine wp_region_T (fun w' => w'.cell? ⟨B, 0, none⟩ = some (.int .i64 t.1) ∧ w'.cell? ⟨db, do' + k * 2, none⟩ = some (.int .i64 dk.1) ∧ w'.cell? ⟨db, do' + k * 2 + 1, none⟩ = some (.slice dea dk.2.length dec) ∧ w'.cell? ⟨fb, fo + k * 2, none⟩ = some (.int .i64 pk.1) ∧ w'.cell? ⟨fb, fo + k * 2 + 1, none⟩ = some (.slice fea pk.2.length fec)) [] (by kernel_rfl) ⟨y0, d0, d1, f0, f1⟩ (fun hHeld => ?_)
   refine wpAnyT_take (i := 0) (v := ?_) rfl (by as_aux_lemma => kernel_rfl) (fun _ _ _ h => h) (Or.inl ⟨by rfl, ?_⟩) (by assumption) ?_
   rotate_left
   ·(intro w hSw; (try dsimp only at hSw); go_simp <;> with_reducible rfl)
   go_simp
   refine wpAnyT_take (i := 1) (v := ?_) rfl (by as_aux_lemma => kernel_rfl) (fun _ _ _ h => h) (Or.inl ⟨by rfl, ?_⟩) (by assumption) ?_
   rotate_left
   ·(intro w hSw; (try dsimp only at hSw); go_simp <;> with_reducible rfl)
   go_simp
   refine wpAnyT_take (i := 2) (v := ?_) rfl (by as_aux_lemma => kernel_rfl) (fun _ _ _ h => h) (Or.inl ⟨by rfl, ?_⟩) (by assumption) ?_
   rotate_left
   ·(intro w hSw; (try dsimp only at hSw); go_simp <;> with_reducible rfl)
   go_simp
   refine wpAnyT_take (i := 3) (v := ?_) rfl (by as_aux_lemma => kernel_rfl) (fun _ _ _ h => h) (Or.inl ⟨by rfl, ?_⟩) (by assumption) ?_
   rotate_left
   ·(intro w hSw; (try dsimp only at hSw); go_simp <;> with_reducible rfl)
   go_simp
   refine wpAnyT_take (i := 4) (v := ?_) rfl (by as_aux_lemma => kernel_rfl) (fun _ _ _ h => h) (Or.inl ⟨by rfl, ?_⟩) (by assumption) ?_
   rotate_left
   ·(intro w hSw; (try dsimp only at hSw); go_simp <;> with_reducible rfl)
   go_simp
   refine wpAnyT_take (i := 5) (v := ?_) rfl (by as_aux_lemma => kernel_rfl) (fun _ _ _ h => h) (Or.inl ⟨by rfl, ?_⟩) (by assumption) ?_
   rotate_left
   ·(intro w hSw; (try dsimp only at hSw); go_simp <;> with_reducible rfl)
   go_simp
   refine wpAnyT_take (i := 6) (v := ?_) rfl (by as_aux_lemma => kernel_rfl) (fun _ _ _ h => h) (Or.inl ⟨by rfl, ?_⟩) (by assumption) ?_
   rotate_left
   ·(intro w hSw; (try dsimp only at hSw); go_simp <;> with_reducible rfl)
   go_simp
   refine wpAnyT_take (i := 7) (v := ?_) rfl (by as_aux_lemma => kernel_rfl) (fun _ _ _ h => h) (Or.inl ⟨by rfl, ?_⟩) (by assumption) ?_
   rotate_left
   ·(intro w hSw; (try dsimp only at hSw); go_simp <;> with_reducible rfl)
   go_simp
   refine wpAnyT_take (i := 8) (v := ?_) rfl (by as_aux_lemma => kernel_rfl) (fun _ _ _ h => h) (Or.inl ⟨by rfl, ?_⟩) (by assumption) ?_
   rotate_left
   ·(intro w hSw; (try dsimp only at hSw); go_simp <;> with_reducible rfl)
   go_simp
   refine wpAnyT_take (i := 9) (v := ?_) rfl (by as_aux_lemma => kernel_rfl) (fun _ _ _ h => h) (Or.inl ⟨by rfl, ?_⟩) (by assumption) ?_
   rotate_left
   ·(intro w hSw; (try dsimp only at hSw); go_simp <;> with_reducible rfl)
   go_simp
   have hb6 : Below wa.heap.size wa wa.drew := bD
   obtain ⟨w6, hx6⟩ : ∃ x : World, x = wa.drew := ⟨_, rfl⟩
   rw [← hx6] at hHeld hb6 ⊢
   clear hx6
   have hz6 := hb6.size
   replace d0 := (cellB hb6 (by omega)).trans d0
   replace d1 := (cellB hb6 (by omega)).trans d1
   replace f0 := (cellB hb6 (by omega)).trans f0
   replace f1 := (cellB hb6 (by omega)).trans f1
   replace q0 := (cellB hb6 (by omega)).trans q0
   replace q1 := (cellB hb6 (by omega)).trans q1
   replace b0 := (cellB hb6 (by omega)).trans b0
   replace b1 := (cellB hb6 (by omega)).trans b1
   replace HRF := Lib.hid (HRF.out.below hb6)
   replace HRQ := Lib.hid (HRQ.out.below hb6)
   replace HRD := Lib.hid (HRD.out.below hb6)
   replace HRB := Lib.hid (HRB.out.below hb6)
   have hbwA := bthen hbwa hb6
   have HBA := Lib.hid (HBR.out.trans (hb6.mono hza))
   replace y0 := hHeld.1
   clear hHeld
   refine wpAnyT_one (i := 10) rfl (by kernel_rfl) (fun K hK => ?_)
   go_simp
   go_at_call 10
   refine (IsPartOf_any w6 HRD.out HRF.out HOD.out.1 HOP.out.1 (HOD.out.2.trans HOP.out.2.symm)).mono ?_
   rintro e w7 ⟨rfl, hb7⟩
   rw [HPT.out]
   have hz7 := hb7.size
   replace d0 := (cellB hb7 (by omega)).trans d0
   replace d1 := (cellB hb7 (by omega)).trans d1
   replace f0 := (cellB hb7 (by omega)).trans f0
   replace f1 := (cellB hb7 (by omega)).trans f1
   replace q0 := (cellB hb7 (by omega)).trans q0
   replace q1 := (cellB hb7 (by omega)).trans q1
   replace b0 := (cellB hb7 (by omega)).trans b0
   replace b1 := (cellB hb7 (by omega)).trans b1
   replace y0 := (cellB hb7 (by omega)).trans y0
   replace HRQ := Lib.hid (HRQ.out.below hb7)
   replace HRD := Lib.hid (HRD.out.below hb7)
   replace HRB := Lib.hid (HRB.out.below hb7)
   have hbwB := bthen hbwA hb7
   have HBB := Lib.hid (HBA.out.trans (hb7.mono (by omega)))
   dsimp only
   refine hK.out _ _ ⟨y0, d0, d1, f0, f1⟩ (fun hHeld => ?_)
   clear hK K
   refine wpAnyT_take (i := 11) (v := ?_) rfl (by as_aux_lemma => kernel_rfl) (fun _ _ _ h => h) (Or.inl ⟨by rfl, ?_⟩) (by assumption) ?_
   rotate_left
   ·(intro w hSw; (try dsimp only at hSw); go_simp <;> with_reducible rfl)
   go_simp
   refine wpAnyT_take (i := 12) (v := ?_) rfl (by as_aux_lemma => kernel_rfl) (fun _ _ _ h => h) (Or.inl ⟨by rfl, ?_⟩) (by assumption) ?_
   rotate_left
   ·(intro w hSw; (try dsimp only at hSw); go_simp <;> with_reducible rfl)
   go_simp
   refine wpAnyT_take (i := 13) (v := ?_) rfl (by as_aux_lemma => kernel_rfl) (fun _ _ _ h => h) (Or.inl ⟨by rfl, ?_⟩) (by assumption) ?_
   rotate_left
   ·(intro w hSw; (try dsimp only at hSw); go_simp <;> with_reducible rfl)
   go_simp
   refine wpAnyT_take (i := 14) (v := ?_) rfl (by as_aux_lemma => kernel_rfl) (fun _ _ _ h => h) (Or.inl ⟨by rfl, ?_⟩) (by assumption) ?_
   rotate_left
   ·(intro w hSw; (try dsimp only at hSw); go_simp <;> with_reducible rfl)
   go_simp
   refine wpAnyT_take (i := 15) (v := ?_) rfl (by as_aux_lemma => kernel_rfl) (fun _ _ _ h => h) (Or.inl ⟨by rfl, ?_⟩) (by assumption) ?_
   rotate_left
   ·(intro w hSw; (try dsimp only at hSw); go_simp <;> with_reducible rfl)
   go_simp
   refine wpAnyT_done (by kernel_rfl) ?_ _
   go_simp
   clear hHeld y0 f0 f1 HRF HOP HPT
   go_wp2_with fail
   refine wp_region_T (fun w' => w'.cell? ⟨qb, qo + k * 2, none⟩ = some (.int .i64 dk.1) ∧ w'.cell? ⟨qb, qo + k * 2 + 1, none⟩ = some (.slice qea dk.2.length qec) ∧ w'.cell? ⟨db, do' + k * 2, none⟩ = some (.int .i64 dk.1) ∧ w'.cell? ⟨db, do' + k * 2 + 1, none⟩ = some (.slice dea dk.2.length dec) ∧ w'.cell? ⟨bb, bo + k * 2, none⟩ = some (.int .i64 dk.1) ∧ w'.cell? ⟨bb, bo + k * 2 + 1, none⟩ = some (.slice bea dk.2.length bec)) [] (by kernel_rfl) ⟨q0, q1, d0, d1, b0, b1⟩ (fun hHeld => ?_)
   refine wpAnyT_take (i := 0) (v := ?_) rfl (by as_aux_lemma => kernel_rfl) (fun _ _ _ h => h) (Or.inl ⟨by rfl, ?_⟩) (by assumption) ?_
   rotate_left
   ·(intro w hSw; (try dsimp only at hSw); go_simp <;> with_reducible rfl)
   go_simp
   refine wpAnyT_take (i := 1) (v := ?_) rfl (by as_aux_lemma => kernel_rfl) (fun _ _ _ h => h) (Or.inl ⟨by rfl, ?_⟩) (by assumption) ?_
   rotate_left
   ·(intro w hSw; (try dsimp only at hSw); go_simp <;> with_reducible rfl)
   go_simp
   refine wpAnyT_take (i := 2) (v := ?_) rfl (by as_aux_lemma => kernel_rfl) (fun _ _ _ h => h) (Or.inl ⟨by rfl, ?_⟩) (by assumption) ?_
   rotate_left
   ·(intro w hSw; (try dsimp only at hSw); go_simp <;> with_reducible rfl)
   go_simp
   refine wpAnyT_take (i := 3) (v := ?_) rfl (by as_aux_lemma => kernel_rfl) (fun _ _ _ h => h) (Or.inl ⟨by rfl, ?_⟩) (by assumption) ?_
   rotate_left
   ·(intro w hSw; (try dsimp only at hSw); go_simp <;> with_reducible rfl)
   go_simp
   refine wpAnyT_take (i := 4) (v := ?_) rfl (by as_aux_lemma => kernel_rfl) (fun _ _ _ h => h) (Or.inl ⟨by rfl, ?_⟩) (by assumption) ?_
   rotate_left
   ·(intro w hSw; (try dsimp only at hSw); go_simp <;> with_reducible rfl)
   go_simp
   refine wpAnyT_take (i := 5) (v := ?_) rfl (by as_aux_lemma => kernel_rfl) (fun _ _ _ h => h) (Or.inl ⟨by rfl, ?_⟩) (by assumption) ?_
   rotate_left
   ·(intro w hSw; (try dsimp only at hSw); go_simp <;> with_reducible rfl)
   go_simp
   refine wpAnyT_take (i := 6) (v := ?_) rfl (by as_aux_lemma => kernel_rfl) (fun _ _ _ h => h) (Or.inl ⟨by rfl, ?_⟩) (by assumption) ?_
   rotate_left
   ·(intro w hSw; (try dsimp only at hSw); go_simp <;> with_reducible rfl)
   go_simp
   refine wpAnyT_take (i := 7) (v := ?_) rfl (by as_aux_lemma => kernel_rfl) (fun _ _ _ h => h) (Or.inl ⟨by rfl, ?_⟩) (by assumption) ?_
   rotate_left
   ·(intro w hSw; (try dsimp only at hSw); go_simp <;> with_reducible rfl)
   go_simp
   have hb8 : Below w7.heap.size w7 w7.drew := bD
   obtain ⟨w8, hx8⟩ : ∃ x : World, x = w7.drew := ⟨_, rfl⟩
   rw [← hx8] at hHeld hb8 ⊢
   clear hx8 hHeld
   have hz8 := hb8.size
   replace d0 := (cellB hb8 (by omega)).trans d0
   replace d1 := (cellB hb8 (by omega)).trans d1
   replace q0 := (cellB hb8 (by omega)).trans q0
   replace q1 := (cellB hb8 (by omega)).trans q1
   replace b0 := (cellB hb8 (by omega)).trans b0
   replace b1 := (cellB hb8 (by omega)).trans b1
   replace HRQ := Lib.hid (HRQ.out.below hb8)
   replace HRD := Lib.hid (HRD.out.below hb8)
   replace HRB := Lib.hid (HRB.out.below hb8)
   have hbwC := bthen hbwB hb8
   have HBC := Lib.hid (HBB.out.trans (hb8.mono (by omega)))
   refine wpAnyT_one (i := 8) rfl (by kernel_rfl) (fun K hK => ?_)
   go_simp
   go_at_call 11
   refine (specSameRel_any w8 (x := dk) (y := dk) HRQ.out HRD.out).mono ?_
   rintro e w9 ⟨rfl, hb9⟩
   rw [show eqB dk dk = true from eqB_true rfl]
   have hz9 := hb9.size
   replace d0 := (cellB hb9 (by omega)).trans d0
   replace d1 := (cellB hb9 (by omega)).trans d1
   replace q0 := (cellB hb9 (by omega)).trans q0
   replace q1 := (cellB hb9 (by omega)).trans q1
   replace b0 := (cellB hb9 (by omega)).trans b0
   replace b1 := (cellB hb9 (by omega)).trans b1
   replace HRD := Lib.hid (HRD.out.below hb9)
   replace HRB := Lib.hid (HRB.out.below hb9)
   have hbwD := bthen hbwC hb9
   have HBD := Lib.hid (HBC.out.trans (hb9.mono (by omega)))
   dsimp only
   refine hK.out _ _ ⟨q0, q1, d0, d1, b0, b1⟩ (fun hHeld => ?_)
   clear hK K
   refine wpAnyT_take (i := 9) (v := ?_) rfl (by as_aux_lemma => kernel_rfl) (fun _ _ _ h => h) (Or.inl ⟨by rfl, ?_⟩) (by assumption) ?_
   rotate_left
   ·(intro w hSw; (try dsimp only at hSw); go_simp <;> with_reducible rfl)
   go_simp
   refine wpAnyT_take (i := 10) (v := ?_) rfl (by as_aux_lemma => kernel_rfl) (fun _ _ _ h => h) (Or.inl ⟨by rfl, ?_⟩) (by assumption) ?_
   rotate_left
   ·(intro w hSw; (try dsimp only at hSw); go_simp <;> with_reducible rfl)
   go_simp
   refine wpAnyT_take (i := 11) (v := ?_) rfl (by as_aux_lemma => kernel_rfl) (fun _ _ _ h => h) (Or.inl ⟨by rfl, ?_⟩) (by assumption) ?_
   rotate_left
   ·(intro w hSw; (try dsimp only at hSw); go_simp <;> with_reducible rfl)
   go_simp
   refine wpAnyT_take (i := 12) (v := ?_) rfl (by as_aux_lemma => kernel_rfl) (fun _ _ _ h => h) (Or.inl ⟨by rfl, ?_⟩) (by assumption) ?_
   rotate_left
   ·(intro w hSw; (try dsimp only at hSw); go_simp <;> with_reducible rfl)
   go_simp
   refine wpAnyT_take (i := 13) (v := ?_) rfl (by as_aux_lemma => kernel_rfl) (fun _ _ _ h => h) (Or.inl ⟨by rfl, ?_⟩) (by assumption) ?_
   rotate_left
   ·(intro w hSw; (try dsimp only at hSw); go_simp <;> with_reducible rfl)
   go_simp
   refine wpAnyT_take (i := 14) (v := ?_) rfl (by as_aux_lemma => kernel_rfl) (fun _ _ _ h => h) (Or.inl ⟨by rfl, ?_⟩) (by assumption) ?_
   rotate_left
   ·(intro w hSw; (try dsimp only at hSw); go_simp <;> with_reducible rfl)
   go_simp
   refine wpAnyT_take (i := 15) (v := ?_) rfl (by as_aux_lemma => kernel_rfl) (fun _ _ _ h => h) (Or.inl ⟨by rfl, ?_⟩) (by assumption) ?_
   rotate_left
   ·(intro w hSw; (try dsimp only at hSw); go_simp <;> with_reducible rfl)
   go_simp
   refine wpAnyT_take (i := 16) (v := ?_) rfl (by as_aux_lemma => kernel_rfl) (fun _ _ _ h => h) (Or.inl ⟨by rfl, ?_⟩) (by assumption) ?_
   rotate_left
   ·(intro w hSw; (try dsimp only at hSw); go_simp <;> with_reducible rfl)
   go_simp
   refine wpAnyT_take (i := 17) (v := ?_) rfl (by as_aux_lemma => kernel_rfl) (fun _ _ _ h => h) (Or.inl ⟨by rfl, ?_⟩) (by assumption) ?_
   rotate_left
   ·(intro w hSw; (try dsimp only at hSw); go_simp <;> with_reducible rfl)
   go_simp
   refine wpAnyT_take (i := 18) (v := ?_) rfl (by as_aux_lemma => kernel_rfl) (fun _ _ _ h => h) (Or.inl ⟨by rfl, ?_⟩) (by assumption) ?_
   rotate_left
   ·(intro w hSw; (try dsimp only at hSw); go_simp <;> with_reducible rfl)
   go_simp
   clear hHeld
   refine wpAnyT_one (i := 19) rfl (by kernel_rfl) (fun K hK => ?_)
   go_simp
   go_at_call 11
   refine (specSameRel_any w9 (x := dk) (y := dk) HRB.out HRD.out).mono ?_
   rintro e w10 ⟨rfl, hb10⟩
   rw [show eqB dk dk = true from eqB_true rfl]
   have hz10 := hb10.size
   replace d0 := (cellB hb10 (by omega)).trans d0
   replace d1 := (cellB hb10 (by omega)).trans d1
   replace q0 := (cellB hb10 (by omega)).trans q0
   replace q1 := (cellB hb10 (by omega)).trans q1
   replace b0 := (cellB hb10 (by omega)).trans b0
   replace b1 := (cellB hb10 (by omega)).trans b1
   have HBE := Lib.hid (HBD.out.trans (hb10.mono (by omega)))
   dsimp only
   refine hK.out _ _ ⟨q0, q1, d0, d1, b0, b1⟩ (fun hHeld => ?_)
   clear hK K
   refine wpAnyT_take (i := 20) (v := ?_) rfl (by as_aux_lemma => kernel_rfl) (fun _ _ _ h => h) (Or.inl ⟨by rfl, ?_⟩) (by assumption) ?_
   rotate_left
   ·(intro w hSw; (try dsimp only at hSw); go_simp <;> with_reducible rfl)
   go_simp
   refine wpAnyT_take (i := 21) (v := ?_) rfl (by as_aux_lemma => kernel_rfl) (fun _ _ _ h => h) (Or.inl ⟨by rfl, ?_⟩) (by assumption) ?_
   rotate_left
   ·(intro w hSw; (try dsimp only at hSw); go_simp <;> with_reducible rfl)
   go_simp
   refine wpAnyT_take (i := 22) (v := ?_) rfl (by as_aux_lemma => kernel_rfl) (fun _ _ _ h => h) (Or.inl ⟨by rfl, ?_⟩) (by assumption) ?_
   rotate_left
   ·(intro w hSw; (try dsimp only at hSw); go_simp <;> with_reducible rfl)
   go_simp
   refine wpAnyT_take (i := 23) (v := ?_) rfl (by as_aux_lemma => kernel_rfl) (fun _ _ _ h => h) (Or.inl ⟨by rfl, ?_⟩) (by assumption) ?_
   rotate_left
   ·(intro w hSw; (try dsimp only at hSw); go_simp <;> with_reducible rfl)
   go_simp
   refine wpAnyT_take (i := 24) (v := ?_) rfl (by as_aux_lemma => kernel_rfl) (fun _ _ _ h => h) (Or.inl ⟨by rfl, ?_⟩) (by assumption) ?_
   rotate_left
   ·(intro w hSw; (try dsimp only at hSw); go_simp <;> with_reducible rfl)
   go_simp
   refine wpAnyT_take (i := 25) (v := ?_) rfl (by as_aux_lemma => kernel_rfl) (fun _ _ _ h => h) (Or.inl ⟨by rfl, ?_⟩) (by assumption) ?_
   rotate_left
   ·(intro w hSw; (try dsimp only at hSw); go_simp <;> with_reducible rfl)
   go_simp
   refine wpAnyT_take (i := 26) (v := ?_) rfl (by as_aux_lemma => kernel_rfl) (fun _ _ _ h => h) (Or.inl ⟨by rfl, ?_⟩) (by assumption) ?_
   rotate_left
   ·(intro w hSw; (try dsimp only at hSw); go_simp <;> with_reducible rfl)
   go_simp
   refine wpAnyT_take (i := 27) (v := ?_) rfl (by as_aux_lemma => kernel_rfl) (fun _ _ _ h => h) (Or.inl ⟨by rfl, ?_⟩) (by assumption) ?_
   rotate_left
   ·(intro w hSw; (try dsimp only at hSw); go_simp <;> with_reducible rfl)
   go_simp
   refine wpAnyT_take (i := 28) (v := ?_) rfl (by as_aux_lemma => kernel_rfl) (fun _ _ _ h => h) (Or.inl ⟨by rfl, ?_⟩) (by assumption) ?_
   rotate_left
   ·(intro w hSw; (try dsimp only at hSw); go_simp <;> with_reducible rfl)
   go_simp
   refine wpAnyT_take (i := 29) (v := ?_) rfl (by as_aux_lemma => kernel_rfl) (fun _ _ _ h => h) (Or.inl ⟨by rfl, ?_⟩) (by assumption) ?_
   rotate_left
   ·(intro w hSw; (try dsimp only at hSw); go_simp <;> with_reducible rfl)
   go_simp
   refine wpAnyT_done (by kernel_rfl) ?_ _
   go_simp
   clear hHeld d0 d1 q0 q1 b0 b1
   go_wp2_with fail
   go_roundw
   case rel => exact ⟨k + 1, by omega, by go_num, HBE.out⟩
   case measure => simp [intOf]; omega
   --B
  ·obtain rfl : k = D.length := by omega
   replace t0 := (cellB hbr (show B < w5.heap.size by omega)).trans t0
   replace t1 := (cellB hbr (show B < w5.heap.size by omega)).trans t1
   replace x0 := (cellB hbr (show B + 1 < w5.heap.size by omega)).trans x0
   replace x1 := (cellB hbr (show B + 1 < w5.heap.size by omega)).trans x1
   replace HT := Lib.hid (HT.out.below hbr)
   replace HX := Lib.hid (HX.out.below hbr)
   replace HD := Lib.hid (HD.out.below hbr)
   replace HS := Lib.hid (HS.out.below hbr)
   clear hbr HBR HFP HQ HBK hbw5
   have hB2 : B + 2 ≤ wa.heap.size := by omega
   clear hza hz5 hz4 hz3 hz2 hsW
   go_wp2_with fail
   refine (specAllSolutions_any wa HT.out HX.out).mono ?_
   rintro e w6 ⟨u, rfl, hf, hb6⟩
   have hcode : ∃ A c, asV t x = A ∧ asC t x = c ∧ (c = 0 ∨ c = 3) ∧ ∀ y ∈ A, y ∈ solsX t x := by
    cases h2 : decide ((solsX t x).length ≤ 200)
    ·have := as_more (tb_true HOK.out) h2
     exact ⟨_, _, this.1, this.2, .inr rfl, by simp⟩
    ·have := as_yes (tb_true HOK.out) h2
     exact ⟨_, _, this.1, this.2, .inl rfl, by simp⟩
   obtain ⟨A, c5, hA, hc5, hc03, hAs⟩ := hcode
   rw [hA] at hf
   rw [hc5]
   have HAS := Lib.hid hAs
   obtain ⟨aa, ac, rfl⟩ := fr_slice hf
   have HA := Lib.hid hf.rd
   have hAL := rows_le hf.rd
   clear hf hA hc5 hAs
   have hz6 := hb6.size
   replace t0 := (cellB hb6 (by omega)).trans t0
   replace t1 := (cellB hb6 (by omega)).trans t1
   replace x0 := (cellB hb6 (by omega)).trans x0
   replace x1 := (cellB hb6 (by omega)).trans x1
   replace HT := Lib.hid (HT.out.below hb6)
   replace HX := Lib.hid (HX.out.below hb6)
   replace HD := Lib.hid (HD.out.below hb6)
   replace HS := Lib.hid (HS.out.below hb6)
   have hbw6 := bthen hbwa hb6
   clear hb6 hbwa
   obtain ⟨n, hn⟩ : ∃ n : Nat, x.1 = n := ⟨x.1.toNat, by have := HF.out.2.2.2.2.2.2.2.2.1; omega⟩
   have hn10 : 1 ≤ n ∧ n ≤ 10 := by have := HF.out.2.2.2.2.2.2.2.2.1; omega
   rw [hn] at x0
   go_upto_region 18 with fail
   go_loopw [23] (fun i wr => ∃ (i' : Nat), i' ≤ n ∧ i = .int .i64 i' ∧ Below w6.heap.size w6 wr) (fun i _ => n - (intOf i).toNat)
   case atStart => exact ⟨0, Nat.zero_le _, rfl, Below.refl _ _⟩
   case round =>
    obtain ⟨i, hi, rfl, hbr⟩ := hrel
    obtain ⟨wb, rfl⟩ : ∃ wb : World, wb = wr := ⟨_, rfl⟩
    have HBR2 := Lib.hid hbr
    have hzb := hbr.size
    have e0 := (cellB hbr (show B + 1 < w6.heap.size by omega)).trans x0
    by_cases hin : i < n
    ·clear hbr
     go_wp2_with fail
     go_loopw [24] (fun j wr => ∃ (j' : Nat), i + 1 ≤ j' ∧ j' ≤ n ∧ j = .int .i64 j' ∧ Below w6.heap.size w6 wr) (fun j _ => n - (intOf j).toNat)
     case atStart => exact ⟨i + 1, Nat.le_refl _, by omega, by go_num, HBR2.out⟩
     case round =>
      obtain ⟨j, hij, hj, rfl, hbr⟩ := hrel
      obtain ⟨wc, rfl⟩ : ∃ wc : World, wc = wr := ⟨_, rfl⟩
      have HBR3 := Lib.hid hbr
      have hzc := hbr.size
      replace e0 := (cellB hbr (show B + 1 < w6.heap.size by omega)).trans x0
      clear hbr
      by_cases hjn : j < n
      ·have hqD : pxN i j < D.length := HF.out.2.2.1.at (show i < j by omega) (by omega)
       go_wp2_with fail
       refine (pairIndexY_any n i j wc (by omega) (by omega) (by omega)).mono ?_
       rintro e _ ⟨rfl, rfl⟩
       have HHAS : Hid (∀ y ∈ A, ∃ (h1 : i < y.length) (h2 : j < y.length) (hk : pxN i j < D.length), tb ([y[i], y[j]] ∈ D[pxN i j].2) = true) := fun y hy => HF.out.has (HAS.out y hy) (by omega) (by omega)
       generalize pxN i j = q at hqD HHAS ⊢
       have hq1 : ¬ ((q : Int) < 0) := by omega
       have hq2 : ¬ ((D.length : Int) ≤ q) := by omega
       have hd1 : decide ((q : Int) < 0) = false := by simp
       have hd2 : decide (D.length ≤ q) = false := by simp; omega
       go_upto_region 27 with fail
       clear hq1 hq2 hd1 hd2
       go_loopw [27] (fun k wr => ∃ (k' : Nat), k' ≤ A.length ∧ k = .int .i64 k' ∧ Below w6.heap.size w6 wr) (fun k _ => A.length - (intOf k).toNat)
       case atStart => exact ⟨0, Nat.zero_le _, rfl, HBR3.out⟩
       case round =>
        obtain ⟨k, hk, rfl, hbr⟩ := hrel
        obtain ⟨wd, rfl⟩ : ∃ wd : World, wd = wr := ⟨_, rfl⟩
        have HBR4 := Lib.hid hbr
        have hzd := hbr.size
        by_cases hkA : k < A.length
        ·obtain ⟨hiy, hjy, hqD', hhas⟩ := HHAS.out _ (List.getElem_mem hkA)
         obtain ⟨ab, ao, yea, yc, rfl, hab, hry, c0⟩ := row_at rfl (HA.out.below hbr) hkA
         obtain ⟨yb, yo, rfl, hyb, hyc⟩ := int_at rfl hry (by omega)
         obtain ⟨hIa, ca⟩ := hyc i hiy
         obtain ⟨hIb, cb⟩ := hyc j hjy
         obtain ⟨db, do', dea, dec, rfl, hdb, hrd, d0, d1⟩ := rel_at rfl (HD.out.below hbr) hqD
         have y0 := (cellB hbr (show B < w6.heap.size by omega)).trans t0
         have HRD := Lib.hid hrd
         have HOD := Lib.hid (HF.out.2.2.1.2 _ (List.getElem_mem hqD))
         have HHS : Hid (tb ([A[k][i], A[k][j]] ∈ (D[q]'hqD).2) = true) := hhas
         clear hry hyc hrd hbr hhas hqD'
         go_wp2_with fail
         have hkA' : k < (A.length : Nat) := hkA
         generalize hy : A[k] = y at hiy hjy hIa hIb c0 ca cb HHS
         generalize hva : y[i] = va at hIa ca HHS
         generalize hvb : y[j] = vb at hIb cb HHS
         generalize hDk : D[q] = dk at HRD HOD HHS d0 d1
         clear hy hva hvb hDk
         refine wp_region_T (fun w' => w'.cell? ⟨B, 0, none⟩ = some (.int .i64 t.1) ∧ w'.cell? ⟨db, do' + q * 2, none⟩ = some (.int .i64 dk.1) ∧ w'.cell? ⟨db, do' + q * 2 + 1, none⟩ = some (.slice dea dk.2.length dec) ∧ w'.cell? ⟨ab, ao + k, none⟩ = some (.slice (some ⟨yb, yo, none⟩) y.length yc) ∧ w'.cell? ⟨yb, yo + i, none⟩ = some (.int .i64 va) ∧ w'.cell? ⟨yb, yo + j, none⟩ = some (.int .i64 vb)) [] (by kernel_rfl) ⟨y0, d0, d1, c0, ca, cb⟩ (fun hHeld => ?_)
         refine wpAnyT_take (i := 0) (v := ?_) rfl (by as_aux_lemma => kernel_rfl) (fun _ _ _ h => h) (Or.inl ⟨by rfl, ?_⟩) (by assumption) ?_
         rotate_left
         ·(intro w hSw; (try dsimp only at hSw); go_simp <;> with_reducible rfl)
         go_simp
         refine wpAnyT_take (i := 1) (v := ?_) rfl (by as_aux_lemma => kernel_rfl) (fun _ _ _ h => h) (Or.inl ⟨by rfl, ?_⟩) (by assumption) ?_
         rotate_left
         ·(intro w hSw; (try dsimp only at hSw); go_simp <;> with_reducible rfl)
         go_simp
         refine wpAnyT_take (i := 2) (v := ?_) rfl (by as_aux_lemma => kernel_rfl) (fun _ _ _ h => h) (Or.inl ⟨by rfl, ?_⟩) (by assumption) ?_
         rotate_left
         ·(intro w hSw; (try dsimp only at hSw); go_simp <;> with_reducible rfl)
         go_simp
         refine wpAnyT_take (i := 3) (v := ?_) rfl (by as_aux_lemma => kernel_rfl) (fun _ _ _ h => h) (Or.inl ⟨by rfl, ?_⟩) (by assumption) ?_
         rotate_left
         ·(intro w hSw; (try dsimp only at hSw); go_simp <;> with_reducible rfl)
         go_simp
         refine wpAnyT_take (i := 4) (v := ?_) rfl (by as_aux_lemma => kernel_rfl) (fun _ _ _ h => h) (Or.inl ⟨by rfl, ?_⟩) (by assumption) ?_
         rotate_left
         ·(intro w hSw; (try dsimp only at hSw); go_simp <;> with_reducible rfl)
         go_simp
         refine wpAnyT_take (i := 5) (v := ?_) rfl (by as_aux_lemma => kernel_rfl) (fun _ _ _ h => h) (Or.inl ⟨by rfl, ?_⟩) (by assumption) ?_
         rotate_left
         ·(intro w hSw; (try dsimp only at hSw); go_simp <;> with_reducible rfl)
         go_simp
         refine wpAnyT_take (i := 6) (v := ?_) rfl (by as_aux_lemma => kernel_rfl) (fun _ _ _ h => h) (Or.inl ⟨by rfl, ?_⟩) (by assumption) ?_
         rotate_left
         ·(intro w hSw; (try dsimp only at hSw); go_simp <;> with_reducible rfl)
         go_simp
         refine wpAnyT_take (i := 7) (v := ?_) rfl (by as_aux_lemma => kernel_rfl) (fun _ _ _ h => h) (Or.inl ⟨by rfl, ?_⟩) (by assumption) ?_
         rotate_left
         ·(intro w hSw; (try dsimp only at hSw); go_simp <;> with_reducible rfl)
         go_simp
         refine wpAnyT_take (i := 8) (v := ?_) rfl (by as_aux_lemma => kernel_rfl) (fun _ _ _ h => h) (Or.inl ⟨by rfl, ?_⟩) (by assumption) ?_
         rotate_left
         ·(intro w hSw; (try dsimp only at hSw); go_simp <;> with_reducible rfl)
         go_simp
         refine wpAnyT_take (i := 9) (v := ?_) rfl (by as_aux_lemma => kernel_rfl) (fun _ _ _ h => h) (Or.inl ⟨by rfl, ?_⟩) (by assumption) ?_
         rotate_left
         ·(intro w hSw; (try dsimp only at hSw); go_simp <;> with_reducible rfl)
         go_simp
         refine wpAnyT_take (i := 10) (v := ?_) rfl (by as_aux_lemma => kernel_rfl) (fun _ _ _ h => h) (Or.inl ⟨by rfl, ?_⟩) (by assumption) ?_
         rotate_left
         ·(intro w hSw; (try dsimp only at hSw); go_simp <;> with_reducible rfl)
         go_simp
         refine wpAnyT_take (i := 11) (v := ?_) rfl (by as_aux_lemma => kernel_rfl) (fun _ _ _ h => h) (Or.inl ⟨by rfl, ?_⟩) (by assumption) ?_
         rotate_left
         ·(intro w hSw; (try dsimp only at hSw); go_simp <;> with_reducible rfl)
         go_simp
         refine wpAnyT_take (i := 12) (v := ?_) rfl (by as_aux_lemma => kernel_rfl) (fun _ _ _ h => h) (Or.inl ⟨by rfl, ?_⟩) (by assumption) ?_
         rotate_left
         ·(intro w hSw; (try dsimp only at hSw); go_simp <;> with_reducible rfl)
         go_simp
         refine wpAnyT_take (i := 13) (v := ?_) rfl (by as_aux_lemma => kernel_rfl) (fun _ _ _ h => h) (Or.inl ⟨by rfl, ?_⟩) (by assumption) ?_
         rotate_left
         ·(intro w hSw; (try dsimp only at hSw); go_simp <;> with_reducible rfl)
         go_simp
         refine wpAnyT_take (i := 14) (v := ?_) rfl (by as_aux_lemma => kernel_rfl) (fun _ _ _ h => h) (Or.inl ⟨by rfl, ?_⟩) (by assumption) ?_
         rotate_left
         ·(intro w hSw; (try dsimp only at hSw); go_simp <;> with_reducible rfl)
         go_simp
         refine wpAnyT_take (i := 15) (v := ?_) rfl (by as_aux_lemma => kernel_rfl) (fun _ _ _ h => h) (Or.inl ⟨by rfl, ?_⟩) (by assumption) ?_
         rotate_left
         ·(intro w hSw; (try dsimp only at hSw); go_simp <;> with_reducible rfl)
         go_simp
         refine wpAnyT_take (i := 16) (v := ?_) rfl (by as_aux_lemma => kernel_rfl) (fun _ _ _ h => h) (Or.inl ⟨by rfl, ?_⟩) (by assumption) ?_
         rotate_left
         ·(intro w hSw; (try dsimp only at hSw); go_simp <;> with_reducible rfl)
         go_simp
         refine wpAnyT_take (i := 17) (v := ?_) rfl (by as_aux_lemma => kernel_rfl) (fun _ _ _ h => h) (Or.inl ⟨by rfl, ?_⟩) (by assumption) ?_
         rotate_left
         ·(intro w hSw; (try dsimp only at hSw); go_simp <;> with_reducible rfl)
         go_simp
         refine wpAnyT_take (i := 18) (v := ?_) rfl (by as_aux_lemma => kernel_rfl) (fun _ _ _ h => h) (Or.inl ⟨by rfl, ?_⟩) (by assumption) ?_
         rotate_left
         ·(intro w hSw; (try dsimp only at hSw); go_simp <;> with_reducible rfl)
         go_simp
         refine wpAnyT_take (i := 19) (v := ?_) rfl (by as_aux_lemma => kernel_rfl) (fun _ _ _ h => h) (Or.inl ⟨by rfl, ?_⟩) (by assumption) ?_
         rotate_left
         ·(intro w hSw; (try dsimp only at hSw); go_simp <;> with_reducible rfl)
         go_simp
         have hb7 : Below wd.heap.size wd wd.drew := bD
         obtain ⟨w7, hx7⟩ : ∃ x : World, x = wd.drew := ⟨_, rfl⟩
         rw [← hx7] at hHeld hb7 ⊢
         clear hx7 hHeld
         have hz7 := hb7.size
         replace d0 := (cellB hb7 (by omega)).trans d0
         replace d1 := (cellB hb7 (by omega)).trans d1
         replace c0 := (cellB hb7 (by omega)).trans c0
         replace ca := (cellB hb7 (by omega)).trans ca
         replace cb := (cellB hb7 (by omega)).trans cb
         replace y0 := (cellB hb7 (by omega)).trans y0
         replace HRD := Lib.hid (HRD.out.below hb7)
         have HBA := Lib.hid (HBR4.out.trans (hb7.mono hzd))
         refine wpAnyT_one (i := 20) rfl (by kernel_rfl) (fun K hK => ?_)
         go_simp
         generalize hW8 : World.alloc w7 _ = w8
         have hb8 : Below w7.heap.size w7 w8 := hW8 ▸ bA
         have hz8 : w7.heap.size + 1 ≤ w8.heap.size := by rw [← hW8]; simp
         have HY : Hid (intsT.Rd w8 [.slice (some ⟨w7.heap.size, 0, none⟩) 2 2] [va, vb]) := by
          rw [← hW8]
          exact (fr_ints2 (base := w7.heap.size) hIa hIb rfl (Nat.le_refl _)).rd
         clear hW8
         replace d0 := (cellB hb8 (by omega)).trans d0
         replace d1 := (cellB hb8 (by omega)).trans d1
         replace c0 := (cellB hb8 (by omega)).trans c0
         replace ca := (cellB hb8 (by omega)).trans ca
         replace cb := (cellB hb8 (by omega)).trans cb
         replace y0 := (cellB hb8 (by omega)).trans y0
         replace HRD := Lib.hid (HRD.out.below hb8)
         have HBB := Lib.hid (HBA.out.trans (hb8.mono (by omega)))
         refine hK.out _ _ ⟨y0, d0, d1, c0, ca, cb⟩ (fun hHeld => ?_)
         clear hK K hHeld
         refine wpAnyT_one (i := 21) rfl (by kernel_rfl) (fun K hK => ?_)
         go_simp
         go_at_call 14
         refine (specHasTuple_any w8 HRD.out HY.out HOD.out.1).mono ?_
         rintro e w9 ⟨rfl, hb9⟩
         rw [HHS.out]
         have hz9 := hb9.size
         replace d0 := (cellB hb9 (by omega)).trans d0
         replace d1 := (cellB hb9 (by omega)).trans d1
         replace c0 := (cellB hb9 (by omega)).trans c0
         replace ca := (cellB hb9 (by omega)).trans ca
         replace cb := (cellB hb9 (by omega)).trans cb
         replace y0 := (cellB hb9 (by omega)).trans y0
         have HBC := Lib.hid (HBB.out.trans (hb9.mono (by omega)))
         dsimp only
         refine hK.out _ _ ⟨y0, d0, d1, c0, ca, cb⟩ (fun hHeld => ?_)
         clear hK K
         refine wpAnyT_take (i := 22) (v := ?_) rfl (by as_aux_lemma => kernel_rfl) (fun _ _ _ h => h) (Or.inl ⟨by rfl, ?_⟩) (by assumption) ?_
         rotate_left
         ·(intro w hSw; (try dsimp only at hSw); go_simp <;> with_reducible rfl)
         go_simp
         refine wpAnyT_take (i := 23) (v := ?_) rfl (by as_aux_lemma => kernel_rfl) (fun _ _ _ h => h) (Or.inl ⟨by rfl, ?_⟩) (by assumption) ?_
         rotate_left
         ·(intro w hSw; (try dsimp only at hSw); go_simp <;> with_reducible rfl)
         go_simp
         refine wpAnyT_take (i := 24) (v := ?_) rfl (by as_aux_lemma => kernel_rfl) (fun _ _ _ h => h) (Or.inl ⟨by rfl, ?_⟩) (by assumption) ?_
         rotate_left
         ·(intro w hSw; (try dsimp only at hSw); go_simp <;> with_reducible rfl)
         go_simp
         refine wpAnyT_take (i := 25) (v := ?_) rfl (by as_aux_lemma => kernel_rfl) (fun _ _ _ h => h) (Or.inl ⟨by rfl, ?_⟩) (by assumption) ?_
         rotate_left
         ·(intro w hSw; (try dsimp only at hSw); go_simp <;> with_reducible rfl)
         go_simp
         refine wpAnyT_take (i := 26) (v := ?_) rfl (by as_aux_lemma => kernel_rfl) (fun _ _ _ h => h) (Or.inl ⟨by rfl, ?_⟩) (by assumption) ?_
         rotate_left
         ·(intro w hSw; (try dsimp only at hSw); go_simp <;> with_reducible rfl)
         go_simp
         refine wpAnyT_done (by kernel_rfl) ?_ _
         go_simp
         clear hHeld y0 d0 d1 c0 ca cb
         go_wp2_with fail
         go_roundw
         case rel => exact ⟨k + 1, by omega, by go_num, HBC.out⟩
         case measure => simp [intOf]; omega
         --B
        ·obtain rfl : k = A.length := by omega
         clear hbr
         go_wp2_with fail
         go_roundw
         case rel => exact ⟨j + 1, by omega, by omega, by go_num, HBR4.out⟩
         case measure => simp [intOf]; omega
      ·obtain rfl : j = n := by omega
       go_wp2_with fail
       go_roundw
       case rel => exact ⟨i + 1, by omega, by go_num, HBR3.out⟩
       case measure => simp [intOf]; omega
    ·obtain rfl : i = n := by omega
     replace t0 := (cellB hbr (show B < w6.heap.size by omega)).trans t0
     replace t1 := (cellB hbr (show B < w6.heap.size by omega)).trans t1
     replace x0 := e0
     replace x1 := (cellB hbr (show B + 1 < w6.heap.size by omega)).trans x1
     replace HT := Lib.hid (HT.out.below hbr)
     replace HX := Lib.hid (HX.out.below hbr)
     replace HS := Lib.hid (HS.out.below hbr)
     have hbwb := bthen hbw6 hbr
     clear hbr HBR2 HD HA hbw6 e0
     rw [hn] at HX
     go_upto_region 32 with fail
     have hS16 := HF.out.2.2.2.2.2.2.2.2.2
     have hz9 : B + 2 ≤ wb.heap.size := by omega
     go_wp2_with (first | (refine wpList_pushOld (E := pstT) _ rfl _ _ 34 52 rfl elPst rfl (Bl.lit0 (E := pstT) (e := 52) (base := wb.heap.size) (w := wb) (Nat.le_refl _)) rfl (fx_below HS.out bA) (Nat.zero_le _) (by rw [List.length_map]; simp; omega) (by decide) (by omega) (by simp) ?_; intro v7 w7 hB7 hg7 hown7; have HB7 := Lib.hid hB7; have hg7' : (wb.alloc (.cells #[] 52)).grownBy w7 (some wb.heap.size) := hg7; have ho7 : v7.ownBlock = some wb.heap.size ∨ v7.ownBlock = some (wb.alloc (.cells #[] 52)).heap.size := hown7; have hb7 : Below wb.heap.size wb w7 := (bA (w := wb)).grown hg7' (by simp) (fun k hk => by cases hk; exact Nat.le_refl _); rw [World.size_alloc] at ho7; have hz7 := hb7.size; clear hB7 hg7 hg7' hown7) | (refine wpList_push (E := pstT) _ rfl _ _ 34 52 rfl elPst rfl (HB7.out.below bA (Nat.le_refl _)) rfl (news3' rfl) (show pstT.Fr _ _ [.int .i64 0, .int .i64 1, .int .i64 1] (pstI (0, 1, 1)) from fr_pst (i := 0) (j := 1) (k := 1) (by omega) (by omega) (by omega)) (by simp; omega) (by decide) (by omega) (by simp) ?_; intro v8 w8 hB8 hg8 hown8; have HB8 := Lib.hid hB8; have hb8 : Below wb.heap.size wb w8 := (hb7.trans ((bA (w := w7)).mono hz7)).grown hg8 (by simp; omega) (fun k hk => by have hk' : v7.ownBlock = some k := hk; rcases ho7 with h | h <;> rw [h] at hk' <;> cases hk' <;> omega); replace t0 := (cellB hb8 (show B < wb.heap.size by omega)).trans t0; replace t1 := (cellB hb8 (show B < wb.heap.size by omega)).trans t1; replace x0 := (cellB hb8 (show B + 1 < wb.heap.size by omega)).trans x0; replace x1 := (cellB hb8 (show B + 1 < wb.heap.size by omega)).trans x1; replace HT := Lib.hid (HT.out.below hb8); replace HX := Lib.hid (HX.out.below hb8); clear hB8 hg8 hown8 ho7 hb7))
     have HR := Lib.hid (HB8.out.fr (by simp; unfold capMax; omega)).rd
     rw [show [] ++ List.map pstI S ++ [pstI (0, 1, 1)] = (S ++ [((0 : Nat), (1 : Nat), (1 : Nat))]).map pstI by simp] at HR
     have HX' : Hid (instT.Rd w8 [.int .i64 x.1, .slice xa x.2.length xc] x) := by unfold Hid; rw [hn]; exact HX.out
     have hrp := ReplayPairs_any w8 HT.out HX'.out HOK.out (S := S ++ [((0 : Nat), (1 : Nat), (1 : Nat))]) HR.out (fun e he => by rcases List.mem_append.1 he with he | he; exact HF.out.2.2.2.2.2.2.2.1 e he; simp at he; subst he; decide) (by simp; omega) (M := S.length) (by simp) (by rw [HPE.out]; exact good_app HF.out.2.2.2.2.2.1 _) (fun h => by simp)
     rw [HPE.out, hn] at hrp
     refine hrp.mono ?_
     rintro e w9 ⟨ba', bc', B9, r9, k9, rfl, -, hb9, hcase⟩
     clear hrp
     rcases hcase with ⟨h, -⟩ | ⟨-, rfl, rfl, rfl⟩
     ·simp at h
     have hbw9 := bthen hbwb (hb8.trans (hb9.mono hb8.size))
     rcases hc03 with rfl | rfl
     ·go_wp2_with fail
      go_ret
      exact ⟨rfl, hbw9⟩
     ·go_wp2_with fail
      go_ret
      exact ⟨rfl, hbw9⟩
end Go.Proofs.YtmnjlhcbabhhlaaGreat
