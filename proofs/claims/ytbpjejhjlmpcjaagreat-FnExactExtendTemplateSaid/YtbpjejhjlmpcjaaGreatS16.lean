/-
  Contracts: the value of a formula with its code, both sides.
-/
import Derived.Test.YtbpjejhjlmpcjaaGreatS13
namespace Go.Proofs.YtbpjejhjlmpcjaaGreat
open Go.RowKit Go.Sort
section
variable (t : Int × List (Int × List (List Int))) (f : Int × Int × List (Int × List Int))
noncomputable def voV : Int × List (List Int) := match tb (frmOk t f) with
  | true => vaR t f
  | false => (0, [])
noncomputable def voC : Int := match tb (frmOk t f) with
  | true => 0
  | false => 1
end
section
variable {t : Int × List (Int × List (List Int))} {f : Int × Int × List (Int × List Int)}
theorem vo_no (h : tb (frmOk t f) = false) : voV t f = (0, []) ∧ voC t f = 1 := by simp [voV, voC, h]
theorem vo_yes (h : tb (frmOk t f) = true) : voV t f = vaR t f ∧ voC t f = 0 := by simp [voV, voC, h]
theorem va_bd (hok : frmOk t f) : (vaR t f).2.length ≤ 256 ∧ ∀ y ∈ (vaR t f).2, y.length ≤ 4 := by
  have hnum := frm_nums hok
  obtain ⟨ar, har⟩ : ∃ ar : Nat, f.1 = ar := ⟨f.1.toNat, by omega⟩
  have h1 : t.1 ^ ar ≤ 256 := by
    refine Int.le_trans (pow_mono' (by omega) (show t.1 ≤ 4 by omega) ar) ?_
    rcases (show ar = 0 ∨ ar = 1 ∨ ar = 2 ∨ ar = 3 ∨ ar = 4 by omega) with e | e | e | e | e <;> rw [e] <;> decide
  have h2 := pow_nn (s := t.1) (by omega) ar
  unfold vaR
  rw [har, Int.toNat_natCast]
  refine ⟨?_, fun y hy => ?_⟩
  · have h3 := relL_len (s := t.1) (ar := ar) (p := vaP t f) (k := (t.1 ^ ar).toNat)
    show (relL t.1 ar (vaP t f) (t.1 ^ ar).toNat).length ≤ 256
    omega
  · obtain ⟨q, -, rfl⟩ := List.mem_map.1 (List.mem_filter.1 hy).1
    rw [digL_len]
    omega
theorem va_cnt (hok : frmOk t f) : cntRows (vaR t f).2 ≤ 1280 := by
  obtain ⟨h1, h2⟩ := va_bd hok
  have h4 := sumL_bd (f := cntI) (c := 5) (xs := (vaR t f).2) (fun y hy => by have := h2 y hy; unfold cntI; omega)
  unfold cntRows
  omega
theorem vo_cnt : cntRel (voV t f) ≤ 1000000 := by
  cases h : tb (frmOk t f)
  · rw [(vo_no h).1]; simp [cntRel, cntRows, sumL]
  · rw [(vo_yes h).1]
    have := va_cnt (tb_iff.1 h)
    unfold cntRel
    omega
end
theorem fr_rel0 {base : Nat} {w : World} : relT.Fr base w [.int .i64 0, .slice none 0 0] (0, []) := fr_cons (I64.small (by omega) (by omega)) fr_nil
set_option maxHeartbeats 1600000 in
set_option maxRecDepth 100000 in
theorem ValueOf_any (w : World) {cs cf : Array Value} {t : Int × List (Int × List (List Int))} {f : Int × Int × List (Int × List Int)} (h : tplT.Rd w cs.toList t) (hf : frmT.Rd w cf.toList f) :
    Calls Tryz.prog 11 #[.agg cs, .agg cf] w (RetAC relT w (voV t f) (voC t f)) := by
  have HT := Lib.hid h
  have HF := Lib.hid hf
  obtain ⟨v1, hv1, hI, -⟩ := pair_ex h
  obtain rfl := agg_of hv1
  obtain ⟨v2, hv2, hIf, hIf2, -⟩ := trip_ex hf
  obtain rfl := agg_of hv2
  clear h hf hv1 hv2
  go_enter Tryz.func11, Tryz.ntmps11
  go_wp2_with fail
  generalize hW : World.alloc _ _ = W
  have hbW : Below w.heap.size w W := hW ▸ ((bAA (w := w)).alloc (by simp; omega) _)
  have hsW : w.heap.size + 3 ≤ W.heap.size := by rw [← hW]; simp
  have t0 : W.cell? ⟨w.heap.size, 0, none⟩ = some (.int .i64 t.1) := by rw [← hW]; simp [go_sem]
  have t1 : W.cell? ⟨w.heap.size, 1, none⟩ = some v1 := by rw [← hW]; simp [go_sem]
  have f0 : W.cell? ⟨w.heap.size + 1, 0, none⟩ = some (.int .i64 f.1) := by rw [← hW]; simp [go_sem]
  have f1 : W.cell? ⟨w.heap.size + 1, 1, none⟩ = some (.int .i64 f.2.1) := by rw [← hW]; simp [go_sem]
  have f2 : W.cell? ⟨w.heap.size + 1, 2, none⟩ = some v2 := by rw [← hW]; simp [go_sem]
  have r0 : W.cell? ⟨w.heap.size + 2, 0, none⟩ = some (.int .i64 0) := by rw [← hW]; simp [go_sem]
  have r1 : W.cell? ⟨w.heap.size + 2, 1, none⟩ = some (.slice none 0 0) := by rw [← hW]; simp [go_sem]
  have m0 : W.frozen? ⟨w.heap.size + 2, 0, none⟩ = false := by rw [← hW]; simp [go_sem]
  have m1 : W.frozen? ⟨w.heap.size + 2, 1, none⟩ = false := by rw [← hW]; simp [go_sem]
  clear hW
  refine (ValidFormula_any _ (cs := #[.int .i64 t.1, v1]) (cs' := #[.int .i64 f.1, .int .i64 f.2.1, v2]) (HT.out.below hbW) (HF.out.below hbW)).mono ?_
  rintro e w1 ⟨rfl, hb1⟩
  have hz1 := hb1.size
  have hB1 := bthen hbW hb1
  replace t0 := (cellB hb1 (by omega)).trans t0
  replace t1 := (cellB hb1 (by omega)).trans t1
  replace f0 := (cellB hb1 (by omega)).trans f0
  replace f1 := (cellB hb1 (by omega)).trans f1
  replace f2 := (cellB hb1 (by omega)).trans f2
  replace r0 := (cellB hb1 (by omega)).trans r0
  replace r1 := (cellB hb1 (by omega)).trans r1
  replace m0 := (frozenB hb1 (by omega)).trans m0
  replace m1 := (frozenB hb1 (by omega)).trans m1
  cases hT : tb (frmOk t f)
  · have HR := Lib.hid (vo_no hT)
    clear hT
    obtain ⟨g0, g1⟩ := set2_cells (x := .int .i64 0) (y := .slice none 0 0) r0 r1
    go_wp2_with fail
    refine bodyPost_ret (v := .tuple #[.agg #[.int .i64 0, .slice none 0 0], .int .i64 1]) (by simp [results, Tryz.results11, go_sem, g0, g1]) rfl ⟨[.int .i64 0, .slice none 0 0], by rw [HR.out.2], by rw [HR.out.1]; exact fr_rel0, (hB1.setCell (show w.heap.size ≤ w.heap.size + 2 by omega) _).setCell (show w.heap.size ≤ w.heap.size + 2 by omega) _⟩
  · have HR := Lib.hid (vo_yes hT)
    have HOK := Lib.hid (tb_iff.1 hT)
    clear hT
    go_wp2_with fail
    refine (valueOf_any _ (cs := #[.int .i64 t.1, v1]) (cf := #[.int .i64 f.1, .int .i64 f.2.1, v2]) (HT.out.below hB1) (HF.out.below hB1) HOK.out).mono ?_
    rintro e w2 ⟨cs2, rfl, hf2, hb2⟩
    obtain ⟨a2, c2, rfl⟩ := fr_pair hf2
    have HF2 := Lib.hid hf2
    have hB2 := bthen hB1 hb2
    have hz2 := hb2.size
    replace r0 := (cellB hb2 (by omega)).trans r0
    replace r1 := (cellB hb2 (by omega)).trans r1
    replace m0 := (frozenB hb2 (by omega)).trans m0
    replace m1 := (frozenB hb2 (by omega)).trans m1
    obtain ⟨g0, g1⟩ := set2_cells (x := .int .i64 (vaR t f).1) (y := .slice a2 (vaR t f).2.length c2) r0 r1
    clear hf2 t0 t1 f0 f1 f2
    go_wp2_with fail
    refine bodyPost_ret (v := .tuple #[.agg #[.int .i64 (vaR t f).1, .slice a2 (vaR t f).2.length c2], .int .i64 0]) (by simp [results, Tryz.results11, go_sem, g0, g1]) rfl ⟨[.int .i64 (vaR t f).1, .slice a2 (vaR t f).2.length c2], by rw [HR.out.2], ?_, ?_⟩
    · rw [HR.out.1]
      exact (fr_set2 HF2.out (by omega)).mono (by omega)
    · exact (hB2.setCell (show w.heap.size ≤ w.heap.size + 2 by omega) _).setCell (show w.heap.size ≤ w.heap.size + 2 by omega) _
set_option maxHeartbeats 1600000 in
set_option maxRecDepth 100000 in
theorem specValueOf_any (w : World) {cs cf : Array Value} {t : Int × List (Int × List (List Int))} {f : Int × Int × List (Int × List Int)} (h : tplT.Rd w cs.toList t) (hf : frmT.Rd w cf.toList f) :
    Calls Tryz.prog 8 #[.agg cs, .agg cf] w (RetAC relT w (voV t f) (voC t f)) := by
  have p0 : tplT.Pt ((w.alloc (.cells cs 37)).alloc (.cells cf 41)) (.pointer (some ⟨w.heap.size, 0, none⟩)) t := (pt_box h).below bA
  have p1 : frmT.Pt ((w.alloc (.cells cs 37)).alloc (.cells cf 41)) (.pointer (some ⟨w.heap.size + 1, 0, none⟩)) f := by
    simpa using pt_box (T := 41) (hf.below (bA (o := .cells cs 37)))
  obtain ⟨v1, hv1, hI, -⟩ := pair_ex h
  obtain rfl := agg_of hv1
  obtain ⟨v2, hv2, hIf, hIf2, -⟩ := trip_ex hf
  obtain rfl := agg_of hv2
  clear h hf hv1 hv2
  go_enter Tryz.func8, Tryz.ntmps8
  go_wp2_with fail
  have P0 := p0.below (bA (o := .cells #[.int .i64 0, .slice none 0 0] 32))
  have P1 := p1.below (bA (o := .cells #[.int .i64 0, .slice none 0 0] 32))
  generalize hW : World.alloc (World.alloc (World.alloc _ _) _) _ = W at P0 P1 ⊢
  have hbW : Below w.heap.size w W := hW ▸ ((bAA (w := w)).alloc (by simp; omega) _)
  have hsW : w.heap.size + 3 ≤ W.heap.size := by rw [← hW]; simp
  have r0 : W.cell? ⟨w.heap.size + 2, 0, none⟩ = some (.int .i64 0) := by rw [← hW]; simp [go_sem]
  have r1 : W.cell? ⟨w.heap.size + 2, 1, none⟩ = some (.slice none 0 0) := by rw [← hW]; simp [go_sem]
  have m0 : W.frozen? ⟨w.heap.size + 2, 0, none⟩ = false := by rw [← hW]; simp [go_sem]
  have m1 : W.frozen? ⟨w.heap.size + 2, 1, none⟩ = false := by rw [← hW]; simp [go_sem]
  clear hW p0 p1
  refine (l03Ok_quiet _ P0 P1).mono ?_
  rintro e w1 ⟨rfl, hq1⟩
  have hb1 := hq1.below
  have hz1 := hb1.size
  have hB1 := bthen hbW hb1
  replace r0 := (cellB hb1 (by omega)).trans r0
  replace r1 := (cellB hb1 (by omega)).trans r1
  replace m0 := (frozenB hb1 (by omega)).trans m0
  replace m1 := (frozenB hb1 (by omega)).trans m1
  have P0' := Lib.hid (P0.below hb1)
  have P1' := Lib.hid (P1.below hb1)
  clear hq1 P0 P1
  cases hT : tb (frmOk t f)
  · have HR := Lib.hid (vo_no hT)
    clear hT
    obtain ⟨g0, g1⟩ := set2_cells (x := .int .i64 0) (y := .slice none 0 0) r0 r1
    go_wp2_with fail
    refine bodyPost_ret (v := .tuple #[.agg #[.int .i64 0, .slice none 0 0], .int .i64 1]) (by simp [results, Tryz.results8, go_sem, g0, g1]) rfl ⟨[.int .i64 0, .slice none 0 0], by rw [HR.out.2], by rw [HR.out.1]; exact fr_rel0, (hB1.setCell (show w.heap.size ≤ w.heap.size + 2 by omega) _).setCell (show w.heap.size ≤ w.heap.size + 2 by omega) _⟩
  · have HR := Lib.hid (vo_yes hT)
    have HOK := Lib.hid (tb_iff.1 hT)
    clear hT
    go_wp2_with fail
    refine (l03Value_any _ P0'.out P1'.out HOK.out).mono ?_
    rintro e w2 ⟨cs2, rfl, hf2, hb2⟩
    obtain ⟨a2, c2, rfl⟩ := fr_pair hf2
    have HF2 := Lib.hid hf2
    have hB2 := bthen hB1 hb2
    have hz2 := hb2.size
    replace r0 := (cellB hb2 (by omega)).trans r0
    replace r1 := (cellB hb2 (by omega)).trans r1
    replace m0 := (frozenB hb2 (by omega)).trans m0
    replace m1 := (frozenB hb2 (by omega)).trans m1
    obtain ⟨g0, g1⟩ := set2_cells (x := .int .i64 (vaR t f).1) (y := .slice a2 (vaR t f).2.length c2) r0 r1
    clear hf2
    go_wp2_with fail
    refine bodyPost_ret (v := .tuple #[.agg #[.int .i64 (vaR t f).1, .slice a2 (vaR t f).2.length c2], .int .i64 0]) (by simp [results, Tryz.results8, go_sem, g0, g1]) rfl ⟨[.int .i64 (vaR t f).1, .slice a2 (vaR t f).2.length c2], by rw [HR.out.2], ?_, ?_⟩
    · rw [HR.out.1]
      exact (fr_set2 HF2.out (by omega)).mono (by omega)
    · exact (hB2.setCell (show w.heap.size ≤ w.heap.size + 2 by omega) _).setCell (show w.heap.size ≤ w.heap.size + 2 by omega) _
end Go.Proofs.YtbpjejhjlmpcjaaGreat
