/-
  Contracts: copies of relations, the reference's; a template extended by a formula, both sides.
-/
import Derived.Test.YtbpjejhjlmpcjaaGreatS18
namespace Go.Proofs.YtbpjejhjlmpcjaaGreat
open Go.RowKit Go.Sort
theorem fr_tpl0 {base : Nat} {w : World} : tplT.Fr base w [.int .i64 0, .slice none 0 0] (0, []) := fr_cons (I64.small (by omega) (by omega)) fr_nil
set_option maxHeartbeats 6400000 in
set_option maxRecDepth 100000 in
theorem l03Rels_any (w : World) {v : Value} {xs : List (Int × List (List Int))} (h : relsT.Rd w [v] xs) (hl : xs.length ≤ 1000000) (hl2 : ∀ c ∈ xs, c.2.length ≤ 1000000 ∧ ∀ y ∈ c.2, y.length ≤ 1000000) :
    Calls Tryz.prog 51 #[v] w fun e w' => ∃ u, e = .returned u ∧ Bl relT 32 w.heap.size w'.heap.size w' u xs ∧ Below w.heap.size w w' := by
  obtain ⟨ad, cap, hv, -, -, hcell⟩ := pairs_ex h
  obtain rfl : v = _ := by simpa using hv
  have HC := Lib.hid hcell
  have HL2 := Lib.hid hl2
  clear h hv hcell hl2
  go_enter Tryz.func51, Tryz.ntmps51
  go_wp2_with fail
  generalize hW : World.alloc w _ = W
  have hbW : Below w.heap.size w W := hW ▸ bA
  have HB0 : Hid (Bl relT 32 w.heap.size W.heap.size W (.slice (some ⟨w.heap.size, 0, none⟩) 0 0) []) := by
    unfold Hid
    rw [← hW]
    simpa using Bl.lit0 (E := relT) (e := 32) (base := w.heap.size) (w := w) (Nat.le_refl _)
  clear hW
  go_loopw [4, 3] (fun i o wr => ∃ j : Nat, j ≤ xs.length ∧ i = .int .i64 j ∧ Bl relT 32 w.heap.size wr.heap.size wr o (xs.take j) ∧ Below w.heap.size w wr) (fun i _ _ => xs.length - (intOf i).toNat)
  case atStart => exact ⟨0, Nat.zero_le _, rfl, by simpa using HB0.out, hbW⟩
  case round =>
    obtain ⟨j, hj, rfl, hBl, hbe⟩ := hrel
    have HB := Lib.hid hBl
    have hse := hbe.size
    clear hBl HB0 hbW
    by_cases hjl : j < xs.length
    · obtain ⟨b, o, rfl, hb, hce⟩ := HC.out (by omega)
      obtain ⟨uj, huj, hIj, g0, g1⟩ := hce j hjl
      obtain ⟨aj, cj, huv, -, -, hcj⟩ := slices_ex huj
      obtain rfl : uj = _ := by simpa using huv
      have d0 := (hbe.cell hb).trans g0
      have d1 := (hbe.cell hb).trans g1
      have HCJ := Lib.hid hcj
      have hlj := HL2.out _ (List.getElem_mem hjl)
      have HLJ := Lib.hid hlj.2
      have hlj1 := hlj.1
      have HTK := Lib.hid (take_snoc hjl)
      have HIJ := Lib.hid hIj
      clear hce huj g0 g1 huv hcj hlj hIj
      go_wp2_with fail
      generalize hWa : World.alloc wr _ = wa
      have hba : Below wr.heap.size wr wa := hWa ▸ bA
      have hsa : wa.heap.size = wr.heap.size + 1 := by rw [← hWa]; simp
      have y0 : wa.cell? ⟨wr.heap.size, 0, none⟩ = some (.int .i64 (xs[j]).1) := by rw [← hWa]; simp
      have y1 : wa.cell? ⟨wr.heap.size, 1, none⟩ = some (.slice none 0 0) := by rw [← hWa]; simp
      have n1 : wa.frozen? ⟨wr.heap.size, 1, none⟩ = false := by rw [← hWa]; simp
      have hbl : b < wr.heap.size := by omega
      replace d0 := (cellB hba (by omega)).trans d0
      replace d1 := (cellB hba (by omega)).trans d1
      clear hWa
      obtain ⟨wo, rfl⟩ : ∃ wo : World, wo = wr := ⟨_, rfl⟩
      go_loopw [6] (fun i wi => ∃ (k : Nat) (v : Value), k ≤ (xs[j]).2.length ∧ i = .int .i64 k ∧ Bl intsT 50 (wo.heap.size + 1) wi.heap.size wi v ((xs[j]).2.take k) ∧ wi.cell? ⟨wo.heap.size, 1, none⟩ = some v ∧ wi.cell? ⟨wo.heap.size, 0, none⟩ = some (.int .i64 (xs[j]).1) ∧ wi.frozen? ⟨wo.heap.size, 1, none⟩ = false ∧ Below wo.heap.size wa wi ∧ wo.heap.size + 1 ≤ wi.heap.size) (fun i _ => (xs[j]).2.length - (intOf i).toNat)
      case atStart => exact ⟨0, _, Nat.zero_le _, rfl, by simpa using Bl.nil, y1, y0, n1, Below.refl _ _, by omega⟩
      case round =>
        obtain ⟨k, v, hk, rfl, hBv, z1, z0, zn, hbi, hsi⟩ := hrel
        obtain ⟨av0, nv0, cv0, rfl⟩ := ex_slice (hBv.fr (by rw [take_len hk]; unfold capMax; omega))
        have HBv := Lib.hid hBv
        have hbai : Below wo.heap.size wo wr := hba.trans hbi
        have hbwi : Below w.heap.size w wr := hbe.trans (hbai.mono hse)
        have e0 := (cellB hbi hbl).trans d0
        have e1 := (cellB hbi hbl).trans d1
        clear hBv y0 y1 n1
        by_cases hkl : k < (xs[j]).2.length
        · obtain ⟨b2, o2, rfl, hb2, hce2⟩ := HCJ.out (by omega)
          obtain ⟨uk, huk, g2⟩ := hce2 k hkl
          obtain ⟨ak, nk, ck, rfl⟩ := rd_sl huk
          have e2 := (hbwi.cell hb2).trans g2
          have HU := Lib.hid (huk.below hbwi)
          have hlk := HLJ.out _ (List.getElem_mem hkl)
          have HTI := Lib.hid (take_snoc hkl)
          have hbl2 : b2 < wr.heap.size := by omega
          have hbl3 : b < wr.heap.size := by omega
          clear hce2 huk g2
          go_wp2_with fail
          refine wp_region_T (fun w' => w'.cell? ⟨wo.heap.size, 1, none⟩ = some (.slice av0 nv0 cv0) ∧ w'.cell? ⟨b, o + j * 2 + 1, none⟩ = some (.slice (some ⟨b2, o2, none⟩) (xs[j]).2.length cj) ∧ w'.cell? ⟨b2, o2 + k, none⟩ = some (.slice ak nk ck)) [12, 14] (by kernel_rfl) ⟨z1, e1, e2⟩ (fun hHeld => ?_)
          refine wpAnyT_take (i := 0) (v := ?_) rfl (by kernel_rfl) (fun _ _ _ h => h) (Or.inl ⟨by rfl, ?_⟩) (by assumption) ?_
          rotate_left
          · (intro w hSw; (try dsimp only at hSw); go_simp <;> with_reducible rfl)
          try simp only [Act.put]
          refine wpAnyT_take (i := 1) (v := ?_) rfl (by kernel_rfl) (fun _ _ _ h => h) (Or.inl ⟨by rfl, ?_⟩) (by assumption) ?_
          rotate_left
          · (intro w hSw; (try dsimp only at hSw); go_simp <;> with_reducible rfl)
          try simp only [Act.put]
          refine wpAnyT_take (i := 2) (v := ?_) rfl (by kernel_rfl) (fun _ _ _ h => h) (Or.inl ⟨by rfl, ?_⟩) (by assumption) ?_
          rotate_left
          · (intro w hSw; (try dsimp only at hSw); go_simp <;> with_reducible rfl)
          try simp only [Act.put]
          refine wpAnyT_take (i := 3) (v := ?_) rfl (by kernel_rfl) (fun _ _ _ h => h) (Or.inl ⟨by rfl, ?_⟩) (by assumption) ?_
          rotate_left
          · (intro w hSw; (try dsimp only at hSw); go_simp <;> with_reducible rfl)
          try simp only [Act.put]
          refine wpAnyT_take (i := 4) (v := ?_) rfl (by kernel_rfl) (fun _ _ _ h => h) (Or.inl ⟨by rfl, ?_⟩) (by assumption) ?_
          rotate_left
          · (intro w hSw; (try dsimp only at hSw); go_simp <;> with_reducible rfl)
          try simp only [Act.put]
          refine wpAnyT_take (i := 5) (v := ?_) rfl (by kernel_rfl) (fun _ _ _ h => h) (Or.inl ⟨by rfl, ?_⟩) (by assumption) ?_
          rotate_left
          · (intro w hSw; (try dsimp only at hSw); go_simp <;> with_reducible rfl)
          try simp only [Act.put]
          refine wpAnyT_take (i := 6) (v := ?_) rfl (by kernel_rfl) (fun _ _ _ h => h) (Or.inl ⟨by rfl, ?_⟩) (by assumption) ?_
          rotate_left
          · (intro w hSw; (try dsimp only at hSw); go_simp <;> with_reducible rfl)
          try simp only [Act.put]
          refine wpAnyT_take (i := 7) (v := ?_) rfl (by kernel_rfl) (fun _ _ _ h => h) (Or.inl ⟨by rfl, ?_⟩) (by assumption) ?_
          rotate_left
          · (intro w hSw; (try dsimp only at hSw); go_simp <;> with_reducible rfl)
          try simp only [Act.put]
          refine wpAnyT_take (i := 8) (v := ?_) rfl (by kernel_rfl) (fun _ _ _ h => h) (Or.inl ⟨by rfl, ?_⟩) (by assumption) ?_
          rotate_left
          · (intro w hSw; (try dsimp only at hSw); go_simp <;> with_reducible rfl)
          try simp only [Act.put]
          refine wpAnyT_take (i := 9) (v := ?_) rfl (by kernel_rfl) (fun _ _ _ h => h) (Or.inl ⟨by rfl, ?_⟩) (by assumption) ?_
          rotate_left
          · (intro w hSw; (try dsimp only at hSw); go_simp <;> with_reducible rfl)
          try simp only [Act.put]
          refine wpAnyT_one (i := 10) rfl (by kernel_rfl) (fun K hK => ?_)
          go_simp
          go_at_call 79
          refine (l00Own_any _ (HU.out.below bD) hlk).mono ?_
          rintro e w2 ⟨u2, rfl, hB2, hb2'⟩
          have hf := hB2.fr (by unfold capMax; omega)
          obtain ⟨a2, n2, c2, rfl⟩ := ex_slice hf
          have HF := Lib.hid hf
          have hb3 : Below wr.heap.size wr w2 := bthen bD hb2'
          replace z1 := (cellB hb3 (by omega)).trans z1
          replace e1 := (cellB hb3 (by omega)).trans e1
          replace e2 := (cellB hb3 (by omega)).trans e2
          replace z0 := (cellB hb3 (by omega)).trans z0
          replace zn := (frozenB hb3 (by omega)).trans zn
          have hz2 := hb3.size
          clear hf hB2 hb2'
          dsimp only
          refine hK.out _ _ ⟨z1, e1, e2⟩ (fun hHeld => ?_)
          clear hK K
          refine wpAnyT_one (i := 11) rfl (by kernel_rfl) (fun K hK => ?_)
          go_simp
          refine hK.out _ _ ⟨by go_keep, by go_keep, by go_keep⟩ (fun hHeld => ?_)
          clear hK K
          refine wpAnyT_last (i := 12) rfl (by kernel_rfl) (by kernel_rfl) (fun K hK => ?_)
          refine step_push (E := intsT) _ rfl _ _ 30 50 rfl elInt64SS rfl (HBv.out.below (hb3.alloc hb3.size _) (Nat.le_refl _)) rfl news1 ((HF.out.below bA).mono (by have := (bD (w := wr)).size; omega)) (by rw [take_len hk]; omega) (by decide) hsi (by simp; omega) ?_
          intro v1 w3 hB3 hg3 _
          rw [HTI.out] at hB3
          have hb4 : Below (wo.heap.size + 1) w2 w3 := ((Below.refl _ w2).alloc (by omega) _).grown hg3 (by simp; omega) (fun q hq => HBv.out.own hq)
          have i1 := (cellB hb4 (by omega)).trans z1
          have i0 := (cellB hb4 (by omega)).trans z0
          have in1 := (frozenB hb4 (by omega)).trans zn
          have hz3 := hb4.size
          have HB3 := Lib.hid hB3
          obtain ⟨a3, n3, c3, rfl⟩ := ex_slice (hB3.fr (by rw [take_len hkl]; unfold capMax; omega))
          clear hB3 hg3 z1 e0 e1 e2 z0 zn
          refine hK.out _ _ ?_
          clear hK K
          refine wpAnyT_any (i := 13) (v := ?_) rfl (by kernel_rfl) (fun _ _ _ h => h) (Or.inl ⟨by rfl, ?_⟩) (by first | exact fun _ => by assumption | (intro hp; exact absurd hp (by rw [show pastB _ _ = true by kernel_rfl]; simp))) ?_
          rotate_left
          · (intro w hSw; (try dsimp only at hSw); go_simp <;> with_reducible rfl)
          try simp only [Act.put]
          refine wpAnyT_last (i := 14) rfl (by kernel_rfl) (by kernel_rfl) (fun K hK => ?_)
          go_simp
          refine hK.out _ _ ?_
          clear hK K
          refine wpAnyT_done (by kernel_rfl) ?_ _
          go_simp
          go_wp2_with fail
          go_roundw
          case rel => exact ⟨k + 1, _, by omega, by go_num, by rw [size_set]; exact HB3.out.sameB (fun q hq1 hq2 => Below.heap_setCell _ _ _ _ (by simp; omega)), World.cell?_setCell_same _ _ _ i1, (World.cell?_setCell_other _ _ _ _ (by simp)).trans i0, (World.frozen?_setCell _ _ _ _).trans in1, (hbi.trans ((hb3.mono (by omega)).trans (hb4.mono (by omega)))).setCell (by simp) _, by rw [size_set]; omega⟩
          case measure => simp [intOf]; omega
        · obtain rfl : k = (xs[j]).2.length := by omega
          rw [List.take_length] at HBv
          have HFO := Lib.hid (HBv.out.fr (by unfold capMax; omega))
          have HBo : Hid (Bl relT 32 w.heap.size wo.heap.size wr _ (xs.take j)) := HB.out.below hbai (Nat.le_refl _)
          have HEL : Hid (relT.Fr (wo.heap.size + 1) wr [.int .i64 (xs[j]).1, .slice av0 nv0 cv0] xs[j]) := fr_cons HIJ.out HFO.out
          go_wp2_with (refine wpList_push (E := relT) _ rfl _ _ 35 32 rfl elRelS rfl (HBo.out.below (bA.mono (by omega)) (Nat.le_refl _)) rfl news2 ((HEL.out.below bA).mono (by omega)) (by rw [take_len hj]; omega) (by decide) (by omega) (by first | (simp; done) | (simp; omega)) ?_; intro v5 w5 hB5 hg5 _; have hb5 : Below w.heap.size wr w5 := ((Below.refl _ wr).alloc (by omega) _).grown hg5 (by first | (simp; done) | (simp; omega)) (fun q hq => HBo.out.own hq))
          rw [HTK.out] at hB5
          have HB5 := Lib.hid hB5
          clear hB5 hg5
          go_wp2_with fail
          go_roundw
          case rel => exact ⟨j + 1, by omega, by go_num, HB5.out, hbwi.trans hb5⟩
          case measure => simp [intOf]; omega
    · obtain rfl : j = xs.length := by omega
      rw [List.take_length] at HB
      obtain ⟨oa, on, oc, rfl⟩ := ex_slice (HB.out.fr (by unfold capMax; omega))
      go_wp2_with fail
      go_ret
      exact ⟨_, rfl, HB.out, hbe⟩
set_option maxHeartbeats 3200000 in
set_option maxRecDepth 100000 in
theorem ExtendTemplate_any (w : World) {cs cf : Array Value} {t : Int × List (Int × List (List Int))} {f : Int × Int × List (Int × List Int)} (h : tplT.Rd w cs.toList t) (hf : frmT.Rd w cf.toList f) :
    Calls Tryz.prog 25 #[.agg cs, .agg cf] w (RetAC tplT w (xtV t f) (xtC t f)) := by
  have HT := Lib.hid h
  have HF := Lib.hid hf
  obtain ⟨v1, hv1, hI, hx⟩ := pair_ex h
  obtain rfl := agg_of hv1
  obtain ⟨ta, tc, rfl⟩ := rd_slice hx
  obtain ⟨v2, hv2, hIf, hIf2, -⟩ := trip_ex hf
  obtain rfl := agg_of hv2
  have HI := Lib.hid hI
  clear h hf hv1 hv2 hx hI
  go_enter Tryz.func25, Tryz.ntmps25
  go_wp2_with fail
  generalize hW : World.alloc _ _ = W
  have hbW : Below w.heap.size w W := hW ▸ ((bAA (w := w)).alloc (by simp; omega) _)
  have hsW : w.heap.size + 3 ≤ W.heap.size := by rw [← hW]; simp
  have t0 : W.cell? ⟨w.heap.size, 0, none⟩ = some (.int .i64 t.1) := by rw [← hW]; simp [go_sem]
  have t1 : W.cell? ⟨w.heap.size, 1, none⟩ = some (.slice ta t.2.length tc) := by rw [← hW]; simp [go_sem]
  have f0 : W.cell? ⟨w.heap.size + 1, 0, none⟩ = some (.int .i64 f.1) := by rw [← hW]; simp [go_sem]
  have f1 : W.cell? ⟨w.heap.size + 1, 1, none⟩ = some (.int .i64 f.2.1) := by rw [← hW]; simp [go_sem]
  have f2 : W.cell? ⟨w.heap.size + 1, 2, none⟩ = some v2 := by rw [← hW]; simp [go_sem]
  have r0 : W.cell? ⟨w.heap.size + 2, 0, none⟩ = some (.int .i64 0) := by rw [← hW]; simp [go_sem]
  have r1 : W.cell? ⟨w.heap.size + 2, 1, none⟩ = some (.slice none 0 0) := by rw [← hW]; simp [go_sem]
  have m0 : W.frozen? ⟨w.heap.size + 2, 0, none⟩ = false := by rw [← hW]; simp [go_sem]
  have m1 : W.frozen? ⟨w.heap.size + 2, 1, none⟩ = false := by rw [← hW]; simp [go_sem]
  clear hW
  refine (ValidFormula_any _ (cs := #[.int .i64 t.1, .slice ta t.2.length tc]) (cs' := #[.int .i64 f.1, .int .i64 f.2.1, v2]) (HT.out.below hbW) (HF.out.below hbW)).mono ?_
  rintro e w1 ⟨rfl, hb1⟩
  have hz1 := hb1.size
  have hB1 := bthen hbW hb1
  replace t0 := (cellB hb1 (by omega)).trans t0
  replace t1 := (cellB hb1 (by omega)).trans t1
  replace f0 := (cellB hb1 (by omega)).trans f0
  replace f1 := (cellB hb1 (by omega)).trans f1
  replace f2 := (cellB hb1 (by omega)).trans f2
  replace r0 := (cellB hb1 (by omega)).trans r0
  replace r1 := (cellB hb1 (by omega)).trans r1
  replace m0 := (frozenB hb1 (by omega)).trans m0
  replace m1 := (frozenB hb1 (by omega)).trans m1
  obtain ⟨g0, g1⟩ := set2_cells (x := .int .i64 0) (y := .slice none 0 0) r0 r1
  have HBAD : Hid (Below w.heap.size w ((w1.setCell ⟨w.heap.size + 2, 0, none⟩ (.int .i64 0)).setCell ⟨w.heap.size + 2, 1, none⟩ (.slice none 0 0))) := (hB1.setCell (show w.heap.size ≤ w.heap.size + 2 by omega) _).setCell (show w.heap.size ≤ w.heap.size + 2 by omega) _
  cases hT : tb (frmOk t f)
  · have HR := Lib.hid (xt_1 hT)
    clear hT
    go_wp2_with fail
    exact bodyPost_ret (v := .tuple #[.agg #[.int .i64 0, .slice none 0 0], .int .i64 1]) (by simp [results, Tryz.results25, go_sem, g0, g1]) rfl ⟨[.int .i64 0, .slice none 0 0], by rw [HR.out.2], by rw [HR.out.1]; exact fr_tpl0, HBAD.out⟩
  cases hL : ((t.2.length : Int) == 6)
  rotate_left
  · have HR := Lib.hid (xt_3 hT hL)
    clear hT
    go_wp2_with fail
    exact bodyPost_ret (v := .tuple #[.agg #[.int .i64 0, .slice none 0 0], .int .i64 3]) (by simp [results, Tryz.results25, go_sem, g0, g1]) rfl ⟨[.int .i64 0, .slice none 0 0], by rw [HR.out.2], by rw [HR.out.1]; exact fr_tpl0, HBAD.out⟩
  have HR := Lib.hid (xt_0 hT hL)
  have HOK := Lib.hid (tb_iff.1 hT)
  have hbd := tpl_bds HOK.out.1
  have htl := hbd.1
  have HBD := Lib.hid hbd.2
  clear hT hbd g0 g1
  go_wp2_with fail
  refine (ownTemplate_any _ (cs := #[.int .i64 t.1, .slice ta t.2.length tc]) (HT.out.below hB1) (by omega) HBD.out).mono ?_
  rintro e w2 ⟨v, rfl, hBv0, hb2, hz2'⟩
  obtain ⟨av0, nv0, cv0, rfl⟩ := ex_slice (hBv0.fr (by unfold capMax; omega))
  have HBv := Lib.hid (bl_off hBv0 (Nat.le_refl _))
  have hz2 := hb2.size
  have hB2 := bthen hB1 hb2
  replace t0 := (cellB hb2 (by omega)).trans t0
  replace t1 := (cellB hb2 (by omega)).trans t1
  replace f0 := (cellB hb2 (by omega)).trans f0
  replace f1 := (cellB hb2 (by omega)).trans f1
  replace f2 := (cellB hb2 (by omega)).trans f2
  replace r0 := (cellB hb2 (by omega)).trans r0
  replace r1 := (cellB hb2 (by omega)).trans r1
  replace m0 := (frozenB hb2 (by omega)).trans m0
  replace m1 := (frozenB hb2 (by omega)).trans m1
  clear hBv0
  go_wp2_with fail
  generalize hWa : World.alloc w2 _ = wa
  have hba : Below w2.heap.size w2 wa := hWa ▸ bA
  have hsa : wa.heap.size = w2.heap.size + 1 := by rw [← hWa]; simp
  have y0 : wa.cell? ⟨w2.heap.size, 0, none⟩ = some (.int .i64 t.1) := by rw [← hWa]; simp
  have y1 : wa.cell? ⟨w2.heap.size, 1, none⟩ = some (.slice av0 nv0 cv0) := by rw [← hWa]; simp
  have n1 : wa.frozen? ⟨w2.heap.size, 1, none⟩ = false := by rw [← hWa]; simp
  replace t0 := (cellB hba (by omega)).trans t0
  replace t1 := (cellB hba (by omega)).trans t1
  replace f0 := (cellB hba (by omega)).trans f0
  replace f1 := (cellB hba (by omega)).trans f1
  replace f2 := (cellB hba (by omega)).trans f2
  replace r0 := (cellB hba (by omega)).trans r0
  replace r1 := (cellB hba (by omega)).trans r1
  replace m0 := (frozenB hba (by omega)).trans m0
  replace m1 := (frozenB hba (by omega)).trans m1
  have hBa := bthen hB2 hba
  clear hWa
  refine wp_region_T (fun w' => w'.cell? ⟨w2.heap.size, 1, none⟩ = some (.slice av0 nv0 cv0) ∧ w'.cell? ⟨w.heap.size, 0, none⟩ = some (.int .i64 t.1) ∧ w'.cell? ⟨w.heap.size, 1, none⟩ = some (.slice ta t.2.length tc) ∧ w'.cell? ⟨w.heap.size + 1, 0, none⟩ = some (.int .i64 f.1) ∧ w'.cell? ⟨w.heap.size + 1, 1, none⟩ = some (.int .i64 f.2.1) ∧ w'.cell? ⟨w.heap.size + 1, 2, none⟩ = some v2) [6, 8] (by kernel_rfl) ⟨y1, t0, t1, f0, f1, f2⟩ (fun hHeld => ?_)
  refine wpAnyT_take (i := 0) (v := ?_) rfl (by kernel_rfl) (fun _ _ _ h => h) (Or.inl ⟨by rfl, ?_⟩) (by assumption) ?_
  rotate_left
  · (intro w hSw; (try dsimp only at hSw); go_simp <;> with_reducible rfl)
  try simp only [Act.put]
  refine wpAnyT_take (i := 1) (v := ?_) rfl (by kernel_rfl) (fun _ _ _ h => h) (Or.inl ⟨by rfl, ?_⟩) (by assumption) ?_
  rotate_left
  · (intro w hSw; (try dsimp only at hSw); go_simp <;> with_reducible rfl)
  try simp only [Act.put]
  refine wpAnyT_take (i := 2) (v := ?_) rfl (by kernel_rfl) (fun _ _ _ h => h) (Or.inl ⟨by rfl, ?_⟩) (by assumption) ?_
  rotate_left
  · (intro w hSw; (try dsimp only at hSw); go_simp <;> with_reducible rfl)
  try simp only [Act.put]
  refine wpAnyT_take (i := 3) (v := ?_) rfl (by kernel_rfl) (fun _ _ _ h => h) (Or.inl ⟨by rfl, ?_⟩) (by assumption) ?_
  rotate_left
  · (intro w hSw; (try dsimp only at hSw); go_simp <;> with_reducible rfl)
  try simp only [Act.put]
  refine wpAnyT_one (i := 4) rfl (by kernel_rfl) (fun K hK => ?_)
  go_simp
  go_at_call 34
  refine (valueOf_any _ (cs := #[.int .i64 t.1, .slice ta t.2.length tc]) (cf := #[.int .i64 f.1, .int .i64 f.2.1, v2]) (HT.out.below (bthen hBa bD)) (HF.out.below (bthen hBa bD)) HOK.out).mono ?_
  rintro e w3 ⟨cs3, rfl, hf3, hb3'⟩
  obtain ⟨a3, c3, rfl⟩ := fr_pair hf3
  have HF3 : Hid (relT.Fr wa.heap.size w3 [.int .i64 (vaR t f).1, .slice a3 (vaR t f).2.length c3] (vaR t f)) := hf3
  have hb3 : Below wa.heap.size wa w3 := bthen bD hb3'
  have hz3 := hb3.size
  have hBa3 := bthen hBa hb3
  replace y0 := (cellB hb3 (by omega)).trans y0
  replace y1 := (cellB hb3 (by omega)).trans y1
  replace t0 := (cellB hb3 (by omega)).trans t0
  replace t1 := (cellB hb3 (by omega)).trans t1
  replace f0 := (cellB hb3 (by omega)).trans f0
  replace f1 := (cellB hb3 (by omega)).trans f1
  replace f2 := (cellB hb3 (by omega)).trans f2
  replace r0 := (cellB hb3 (by omega)).trans r0
  replace r1 := (cellB hb3 (by omega)).trans r1
  replace n1 := (frozenB hb3 (by omega)).trans n1
  replace m0 := (frozenB hb3 (by omega)).trans m0
  replace m1 := (frozenB hb3 (by omega)).trans m1
  clear hf3 hb3'
  dsimp only
  refine hK.out _ _ ⟨y1, t0, t1, f0, f1, f2⟩ (fun hHeld => ?_)
  clear hK K
  refine wpAnyT_one (i := 5) rfl (by kernel_rfl) (fun K hK => ?_)
  go_simp
  refine hK.out _ _ ⟨by go_keep, by go_keep, by go_keep, by go_keep, by go_keep, by go_keep⟩ (fun hHeld => ?_)
  clear hK K
  refine wpAnyT_last (i := 6) rfl (by kernel_rfl) (by kernel_rfl) (fun K hK => ?_)
  refine step_push (E := relT.off w2.heap.size) _ rfl _ _ 35 32 rfl elRelS rfl (HBv.out.below ((hba.trans (hb3.mono (by omega))).alloc (by omega) _) (Nat.le_refl _)) rfl news2 ((fr_off (HF3.out.below bA) (by omega)).mono (by omega)) (by omega) (by decide) (by omega) (by simp; omega) ?_
  intro v5 w5 hB5 hg5 hown
  have hoE : (Value.slice av0 nv0 cv0).ownBlock ≠ some w2.heap.size := fun hg => by have := HBv.out.lt_top hg; omega
  have hb5 : Below (w1.heap.size + 3) w3 w5 := ((Below.refl _ w3).alloc (by omega) _).grown hg5 (by simp; omega) (fun q hq => HBv.out.own hq)
  have i1 := (grown_cell' (i := 1) hg5 (show w2.heap.size < _ by simp; omega) hoE).trans ((cellB (bA (w := w3)) (by omega)).trans y1)
  have i0 := (grown_cell' (i := 0) hg5 (show w2.heap.size < _ by simp; omega) hoE).trans ((cellB (bA (w := w3)) (by omega)).trans y0)
  have in1 := (World.frozen?_of_block (a := ⟨w2.heap.size, 1, none⟩) (hg5.block w2.heap.size (by simp; omega) (fun e => hoE e.symm))).trans ((frozenB (bA (w := w3)) (by omega)).trans n1)
  have hz5 := hb5.size
  have hl5 : (t.2 ++ [vaR t f]).length ≤ capMax := by rw [List.length_append]; unfold capMax; simp only [List.length_singleton]; omega
  obtain ⟨a5, n5, c5, rfl⟩ := ex_slice (hB5.fr hl5)
  have HB5 := Lib.hid hB5
  have HO5 : Hid ((Value.slice a5 n5 c5).ownBlock ≠ some w2.heap.size) := by
    unfold Hid
    rcases hown with e | e
    · rw [e]; exact hoE
    · rw [e]; simp; omega
  replace r0 := (cellB hb5 (by omega)).trans r0
  replace r1 := (cellB hb5 (by omega)).trans r1
  replace m0 := (frozenB hb5 (by omega)).trans m0
  replace m1 := (frozenB hb5 (by omega)).trans m1
  have hB5w : Below w.heap.size w w5 := hBa3.trans (hb5.mono (by omega))
  clear hB5 hg5 hown hoE y0 y1 n1 t0 t1 f0 f1 f2 hHeld
  refine hK.out _ _ ?_
  clear hK K
  refine wpAnyT_any (i := 7) (v := ?_) rfl (by kernel_rfl) (fun _ _ _ h => h) (Or.inl ⟨by rfl, ?_⟩) (by first | exact fun _ => by assumption | (intro hp; exact absurd hp (by rw [show pastB _ _ = true by kernel_rfl]; simp))) ?_
  rotate_left
  · (intro w hSw; (try dsimp only at hSw); go_simp <;> with_reducible rfl)
  try simp only [Act.put]
  refine wpAnyT_last (i := 8) rfl (by kernel_rfl) (by kernel_rfl) (fun K hK => ?_)
  go_simp
  refine hK.out _ _ ?_
  clear hK K
  refine wpAnyT_done (by kernel_rfl) ?_ _
  go_simp
  generalize hW6 : World.setCell w5 _ _ = w6
  have q0 : w6.cell? ⟨w2.heap.size, 0, none⟩ = some (.int .i64 t.1) := by rw [← hW6]; exact (World.cell?_setCell_other _ _ _ _ (by simp)).trans i0
  have q1 : w6.cell? ⟨w2.heap.size, 1, none⟩ = some (.slice a5 n5 c5) := by rw [← hW6]; exact World.cell?_setCell_same _ _ _ i1
  have s0 : w6.cell? ⟨w.heap.size + 2, 0, none⟩ = some (.int .i64 0) := by rw [← hW6]; exact (World.cell?_setCell_other _ _ _ _ (by first | (simp; done) | (simp; omega))).trans r0
  have s1 : w6.cell? ⟨w.heap.size + 2, 1, none⟩ = some (.slice none 0 0) := by rw [← hW6]; exact (World.cell?_setCell_other _ _ _ _ (by first | (simp; done) | (simp; omega))).trans r1
  have k0 : w6.frozen? ⟨w.heap.size + 2, 0, none⟩ = false := by rw [← hW6]; exact (World.frozen?_setCell _ _ _ _).trans m0
  have k1 : w6.frozen? ⟨w.heap.size + 2, 1, none⟩ = false := by rw [← hW6]; exact (World.frozen?_setCell _ _ _ _).trans m1
  have hB6 : Below w.heap.size w w6 := by rw [← hW6]; exact hB5w.setCell (show w.heap.size ≤ w2.heap.size by omega) _
  have HF6 : Hid (relsT.Fr (w1.heap.size + 3) w6 [.slice a5 n5 c5] (t.2 ++ [vaR t f])) := by
    unfold Hid
    rw [← hW6]
    exact off_fr ((off_same HB5.out HO5.out (fun k hk => Below.heap_setCell _ _ _ _ hk)).fr hl5)
  have hz6 := hB6.size
  have hs6 : w5.heap.size ≤ w6.heap.size := by rw [← hW6]; simp
  clear hW6 i0 i1 in1 r0 r1 m0 m1
  obtain ⟨g0, g1⟩ := set2_cells (x := .int .i64 t.1) (y := .slice a5 n5 c5) s0 s1
  have hl6 : w2.heap.size < w6.heap.size := by omega
  go_wp2_with fail
  refine bodyPost_ret (v := .tuple #[.agg #[.int .i64 t.1, .slice a5 n5 c5], .int .i64 0]) (by simp [results, Tryz.results25, go_sem, g0, g1]) rfl ⟨[.int .i64 t.1, .slice a5 n5 c5], by rw [HR.out.2], ?_, ?_⟩
  · rw [HR.out.1]
    exact (fr_cons HI.out (fr_set2 HF6.out (by omega))).mono (by omega)
  · exact (hB6.setCell (show w.heap.size ≤ w.heap.size + 2 by omega) _).setCell (show w.heap.size ≤ w.heap.size + 2 by omega) _
end Go.Proofs.YtbpjejhjlmpcjaaGreat
