/-
  Contracts: a template extended by a formula, the reference's.
-/
import Derived.Test.YtbpjejhjlmpcjaaGreatS19
namespace Go.Proofs.YtbpjejhjlmpcjaaGreat
open Go.RowKit Go.Sort
set_option maxHeartbeats 3200000 in
set_option maxRecDepth 100000 in
theorem specExtendTemplate_any (w : World) {cs cf : Array Value} {t : Int × List (Int × List (List Int))} {f : Int × Int × List (Int × List Int)} (h : tplT.Rd w cs.toList t) (hf : frmT.Rd w cf.toList f) :
    Calls Tryz.prog 24 #[.agg cs, .agg cf] w (RetAC tplT w (xtV t f) (xtC t f)) := by
  have p0 : tplT.Pt ((w.alloc (.cells cs 37)).alloc (.cells cf 41)) (.pointer (some ⟨w.heap.size, 0, none⟩)) t := (pt_box h).below bA
  have p1 : frmT.Pt ((w.alloc (.cells cs 37)).alloc (.cells cf 41)) (.pointer (some ⟨w.heap.size + 1, 0, none⟩)) f := by
    simpa using pt_box (T := 41) (hf.below (bA (o := .cells cs 37)))
  obtain ⟨v1, hv1, hI, hx⟩ := pair_ex h
  obtain rfl := agg_of hv1
  obtain ⟨ta, tc, rfl⟩ := rd_slice hx
  obtain ⟨v2, hv2, hIf, hIf2, -⟩ := trip_ex hf
  obtain rfl := agg_of hv2
  have HI := Lib.hid hI
  have HX := Lib.hid hx
  clear h hf hv1 hv2 hx hI
  go_enter Tryz.func24, Tryz.ntmps24
  go_wp2_with fail
  have P0 := p0.below (bA (o := .cells #[.int .i64 0, .slice none 0 0] 37))
  have P1 := p1.below (bA (o := .cells #[.int .i64 0, .slice none 0 0] 37))
  generalize hW : World.alloc (World.alloc (World.alloc _ _) _) _ = W at P0 P1 ⊢
  have hbW : Below w.heap.size w W := hW ▸ ((bAA (w := w)).alloc (by simp; omega) _)
  have hsW : w.heap.size + 3 ≤ W.heap.size := by rw [← hW]; simp
  have t0 : W.cell? ⟨w.heap.size, 0, none⟩ = some (.int .i64 t.1) := by rw [← hW]; simp [go_sem]
  have t1 : W.cell? ⟨w.heap.size, 1, none⟩ = some (.slice ta t.2.length tc) := by rw [← hW]; simp [go_sem]
  have r0 : W.cell? ⟨w.heap.size + 2, 0, none⟩ = some (.int .i64 0) := by rw [← hW]; simp [go_sem]
  have r1 : W.cell? ⟨w.heap.size + 2, 1, none⟩ = some (.slice none 0 0) := by rw [← hW]; simp [go_sem]
  have m0 : W.frozen? ⟨w.heap.size + 2, 0, none⟩ = false := by rw [← hW]; simp [go_sem]
  have m1 : W.frozen? ⟨w.heap.size + 2, 1, none⟩ = false := by rw [← hW]; simp [go_sem]
  clear hW p0 p1
  refine (l03Ok_quiet _ P0 P1).mono ?_
  rintro e w1 ⟨rfl, hq1⟩
  have hb1 := hq1.below
  have hz1 := hb1.size
  have hB1 := bthen hbW hb1
  replace t0 := (cellB hb1 (by omega)).trans t0
  replace t1 := (cellB hb1 (by omega)).trans t1
  replace r0 := (cellB hb1 (by omega)).trans r0
  replace r1 := (cellB hb1 (by omega)).trans r1
  replace m0 := (frozenB hb1 (by omega)).trans m0
  replace m1 := (frozenB hb1 (by omega)).trans m1
  have P0' := Lib.hid (P0.below hb1)
  have P1' := Lib.hid (P1.below hb1)
  clear hq1 P0 P1
  obtain ⟨g0, g1⟩ := set2_cells (x := .int .i64 0) (y := .slice none 0 0) r0 r1
  have HBAD : Hid (Below w.heap.size w ((w1.setCell ⟨w.heap.size + 2, 0, none⟩ (.int .i64 0)).setCell ⟨w.heap.size + 2, 1, none⟩ (.slice none 0 0))) := (hB1.setCell (show w.heap.size ≤ w.heap.size + 2 by omega) _).setCell (show w.heap.size ≤ w.heap.size + 2 by omega) _
  cases hT : tb (frmOk t f)
  · have HR := Lib.hid (xt_1 hT)
    clear hT
    go_wp2_with fail
    exact bodyPost_ret (v := .tuple #[.agg #[.int .i64 0, .slice none 0 0], .int .i64 1]) (by simp [results, Tryz.results24, go_sem, g0, g1]) rfl ⟨[.int .i64 0, .slice none 0 0], by rw [HR.out.2], by rw [HR.out.1]; exact fr_tpl0, HBAD.out⟩
  cases hL : ((t.2.length : Int) == 6)
  rotate_left
  · have HR := Lib.hid (xt_3 hT hL)
    clear hT
    go_wp2_with fail
    exact bodyPost_ret (v := .tuple #[.agg #[.int .i64 0, .slice none 0 0], .int .i64 3]) (by simp [results, Tryz.results24, go_sem, g0, g1]) rfl ⟨[.int .i64 0, .slice none 0 0], by rw [HR.out.2], by rw [HR.out.1]; exact fr_tpl0, HBAD.out⟩
  have HR := Lib.hid (xt_0 hT hL)
  have HOK := Lib.hid (tb_iff.1 hT)
  have hbd := tpl_bds HOK.out.1
  have htl := hbd.1
  have HBD := Lib.hid hbd.2
  clear hT hbd g0 g1
  go_wp2_with fail
  refine wp_region_T (fun w' => w'.cell? ⟨w.heap.size, 0, none⟩ = some (.int .i64 t.1) ∧ w'.cell? ⟨w.heap.size, 1, none⟩ = some (.slice ta t.2.length tc)) [9, 10] (by kernel_rfl) ⟨t0, t1⟩ (fun hHeld => ?_)
  refine wpAnyT_take (i := 0) (v := ?_) rfl (by kernel_rfl) (fun _ _ _ h => h) (Or.inl ⟨by rfl, ?_⟩) (by assumption) ?_
  rotate_left
  · (intro w hSw; (try dsimp only at hSw); go_simp <;> with_reducible rfl)
  try simp only [Act.put]
  refine wpAnyT_take (i := 1) (v := ?_) rfl (by kernel_rfl) (fun _ _ _ h => h) (Or.inl ⟨by rfl, ?_⟩) (by assumption) ?_
  rotate_left
  · (intro w hSw; (try dsimp only at hSw); go_simp <;> with_reducible rfl)
  try simp only [Act.put]
  refine wpAnyT_take (i := 2) (v := ?_) rfl (by kernel_rfl) (fun _ _ _ h => h) (Or.inl ⟨by rfl, ?_⟩) (by assumption) ?_
  rotate_left
  · (intro w hSw; (try dsimp only at hSw); go_simp <;> with_reducible rfl)
  try simp only [Act.put]
  refine wpAnyT_take (i := 3) (v := ?_) rfl (by kernel_rfl) (fun _ _ _ h => h) (Or.inl ⟨by rfl, ?_⟩) (by assumption) ?_
  rotate_left
  · (intro w hSw; (try dsimp only at hSw); go_simp <;> with_reducible rfl)
  try simp only [Act.put]
  refine wpAnyT_one (i := 4) rfl (by kernel_rfl) (fun K hK => ?_)
  go_simp
  go_at_call 51
  refine (l03Rels_any _ (HX.out.below (bthen hB1 bD)) (by omega) HBD.out).mono ?_
  rintro e w2 ⟨v, rfl, hBv0, hb2'⟩
  have hb2 : Below w1.heap.size w1 w2 := bthen bD hb2'
  have hB0 : Bl relT 32 w1.heap.size w2.heap.size w2 v t.2 := hBv0
  obtain ⟨av0, nv0, cv0, rfl⟩ := ex_slice (hB0.fr (by unfold capMax; omega))
  have HBv := Lib.hid hB0
  have hz2 := hb2.size
  replace t0 := (cellB hb2 (by omega)).trans t0
  replace t1 := (cellB hb2 (by omega)).trans t1
  replace r0 := (cellB hb2 (by omega)).trans r0
  replace r1 := (cellB hb2 (by omega)).trans r1
  replace m0 := (frozenB hb2 (by omega)).trans m0
  replace m1 := (frozenB hb2 (by omega)).trans m1
  clear hBv0 hb2' hB0
  dsimp only
  refine hK.out _ _ ⟨t0, t1⟩ (fun hHeld => ?_)
  clear hK K
  refine wpAnyT_one (i := 5) rfl (by kernel_rfl) (fun K hK => ?_)
  go_simp
  go_at_call 30
  refine (l03Value_any _ (P0'.out.below hb2) (P1'.out.below hb2) HOK.out).mono ?_
  rintro e w3 ⟨cs3, rfl, hf3, hb3⟩
  obtain ⟨a3, c3, rfl⟩ := fr_pair hf3
  have HF3 := Lib.hid hf3
  have hz3 := hb3.size
  have hb23 := bthen hb2 hb3
  replace t0 := (cellB hb3 (by omega)).trans t0
  replace t1 := (cellB hb3 (by omega)).trans t1
  replace r0 := (cellB hb3 (by omega)).trans r0
  replace r1 := (cellB hb3 (by omega)).trans r1
  replace m0 := (frozenB hb3 (by omega)).trans m0
  replace m1 := (frozenB hb3 (by omega)).trans m1
  clear hf3
  dsimp only
  refine hK.out _ _ ⟨t0, t1⟩ (fun hHeld => ?_)
  clear hK K
  refine wpAnyT_one (i := 6) rfl (by kernel_rfl) (fun K hK => ?_)
  go_simp
  refine hK.out _ _ ⟨by go_keep, by go_keep⟩ (fun hHeld => ?_)
  clear hK K
  refine wpAnyT_one (i := 7) rfl (by kernel_rfl) (fun K hK => ?_)
  refine step_push (E := relT) _ rfl _ _ 35 32 rfl elRelS rfl (HBv.out.below (hb3.alloc hb3.size _) (Nat.le_refl _)) rfl news2 (HF3.out.below bA) (by omega) (by decide) (by omega) (by simp; omega) ?_
  intro v5 w5 hB5 hg5 _
  have hb5 : Below w1.heap.size w3 w5 := ((Below.refl _ w3).alloc (by omega) _).grown hg5 (by simp; omega) (fun q hq => HBv.out.own hq)
  have hz5 := hb5.size
  have hl5 : (t.2 ++ [vaR t f]).length ≤ capMax := by rw [List.length_append]; unfold capMax; simp only [List.length_singleton]; omega
  have hf5 := hB5.fr hl5
  obtain ⟨a5, n5, c5, rfl⟩ := ex_slice hf5
  have HF5 := Lib.hid hf5
  have u0 := (cellB hb5 (by omega)).trans t0
  have u1 := (cellB hb5 (by omega)).trans t1
  have s0 := (cellB hb5 (by omega)).trans r0
  have s1 := (cellB hb5 (by omega)).trans r1
  have k0 := (frozenB hb5 (by omega)).trans m0
  have k1 := (frozenB hb5 (by omega)).trans m1
  have hB5w : Below w.heap.size w w5 := (bthen hB1 hb23).trans (hb5.mono (by omega))
  clear hB5 hg5 hf5 t0 t1 r0 r1 m0 m1
  refine hK.out _ _ ⟨u0, u1⟩ (fun hHeld => ?_)
  clear hK K
  refine wpAnyT_one (i := 8) rfl (by kernel_rfl) (fun K hK => ?_)
  go_simp
  refine hK.out _ _ ⟨u0, u1⟩ (fun hHeld => ?_)
  clear hK K
  refine wpAnyT_last (i := 9) rfl (by kernel_rfl) (by kernel_rfl) (fun K hK => ?_)
  go_simp
  refine hK.out _ _ ?_
  clear hK K
  refine wpAnyT_last (i := 10) rfl (by kernel_rfl) (by kernel_rfl) (fun K hK => ?_)
  go_simp
  refine hK.out _ _ ?_
  clear hK K
  refine wpAnyT_done (by kernel_rfl) ?_ _
  go_simp
  obtain ⟨g0, g1⟩ := set2_cells (x := .int .i64 t.1) (y := .slice a5 n5 c5) s0 s1
  have hl6 : w.heap.size + 2 < w5.heap.size := by omega
  go_wp2_with fail
  refine bodyPost_ret (v := .tuple #[.agg #[.int .i64 t.1, .slice a5 n5 c5], .int .i64 0]) (by simp [results, Tryz.results24, go_sem, g0, g1]) rfl ⟨[.int .i64 t.1, .slice a5 n5 c5], by rw [HR.out.2], ?_, ?_⟩
  · rw [HR.out.1]
    exact (fr_cons HI.out (fr_set2 HF5.out (by omega))).mono (by omega)
  · exact (hB5w.setCell (show w.heap.size ≤ w.heap.size + 2 by omega) _).setCell (show w.heap.size ≤ w.heap.size + 2 by omega) _
end Go.Proofs.YtbpjejhjlmpcjaaGreat
