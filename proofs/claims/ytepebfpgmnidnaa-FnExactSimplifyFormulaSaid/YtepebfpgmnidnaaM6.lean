/-
  Contracts: a formula made simpler, with its code; the program's.
-/
import Derived.Test.YtepebfpgmnidnaaM4
namespace Go.Proofs.Ytepebfpgmnidnaa
open Go.RowKit Go.Sort
set_option maxHeartbeats 1600000 in
set_option maxRecDepth 100000 in
theorem SimplifyFormula_any (w : World) {cs cf : Array Value} {t : Int × List (Int × List (List Int))} {f : Int × Int × Atoms} (h : tplT.Rd w cs.toList t) (hf : frmT.Rd w cf.toList f) :
    Calls Try.prog 17 #[.agg cs, .agg cf] w (RetAC frmT w (simV t f) (simC t f)) := by
  have HT := Lib.hid h
  have HF := Lib.hid hf
  obtain ⟨v1, hv1, hI, -⟩ := pair_ex h
  obtain rfl := agg_of hv1
  obtain ⟨v2, hv2, hIf, hIf2, -⟩ := trip_ex hf
  obtain rfl := agg_of hv2
  clear h hf hv1 hv2
  go_enter Try.func17, Try.ntmps17
  go_wp2_with fail
  generalize hW : World.alloc _ _ = W
  have hbW : Below w.heap.size w W := hW ▸ ((bAA (w := w)).alloc (by simp; omega) _)
  have hsW : w.heap.size + 3 ≤ W.heap.size := by rw [← hW]; simp
  have t0 : W.cell? ⟨w.heap.size, 0, none⟩ = some (.int .i64 t.1) := by rw [← hW]; simp [go_sem]
  have t1 : W.cell? ⟨w.heap.size, 1, none⟩ = some v1 := by rw [← hW]; simp [go_sem]
  have f0 : W.cell? ⟨w.heap.size + 1, 0, none⟩ = some (.int .i64 f.1) := by rw [← hW]; simp [go_sem]
  have f1 : W.cell? ⟨w.heap.size + 1, 1, none⟩ = some (.int .i64 f.2.1) := by rw [← hW]; simp [go_sem]
  have f2 : W.cell? ⟨w.heap.size + 1, 2, none⟩ = some v2 := by rw [← hW]; simp [go_sem]
  have r0 : W.cell? ⟨w.heap.size + 2, 0, none⟩ = some (.int .i64 0) := by rw [← hW]; simp [go_sem]
  have r1 : W.cell? ⟨w.heap.size + 2, 1, none⟩ = some (.int .i64 0) := by rw [← hW]; simp [go_sem]
  have r2 : W.cell? ⟨w.heap.size + 2, 2, none⟩ = some (.slice none 0 0) := by rw [← hW]; simp [go_sem]
  have m0 : W.frozen? ⟨w.heap.size + 2, 0, none⟩ = false := by rw [← hW]; simp [go_sem]
  have m1 : W.frozen? ⟨w.heap.size + 2, 1, none⟩ = false := by rw [← hW]; simp [go_sem]
  have m2 : W.frozen? ⟨w.heap.size + 2, 2, none⟩ = false := by rw [← hW]; simp [go_sem]
  clear hW
  refine (ValidFormula_any _ (cs := #[.int .i64 t.1, v1]) (cs' := #[.int .i64 f.1, .int .i64 f.2.1, v2]) (HT.out.below hbW) (HF.out.below hbW)).mono ?_
  rintro e w1 ⟨rfl, hb1⟩
  have hz1 := hb1.size
  have hB1 := bthen hbW hb1
  replace t0 := (cellB hb1 (by omega)).trans t0
  replace t1 := (cellB hb1 (by omega)).trans t1
  replace f0 := (cellB hb1 (by omega)).trans f0
  replace f1 := (cellB hb1 (by omega)).trans f1
  replace f2 := (cellB hb1 (by omega)).trans f2
  replace r0 := (cellB hb1 (by omega)).trans r0
  replace r1 := (cellB hb1 (by omega)).trans r1
  replace r2 := (cellB hb1 (by omega)).trans r2
  replace m0 := (frozenB hb1 (by omega)).trans m0
  replace m1 := (frozenB hb1 (by omega)).trans m1
  replace m2 := (frozenB hb1 (by omega)).trans m2
  cases hT : tb (frmOk t f)
  · have HR := Lib.hid (sim_no hT)
    clear hT
    obtain ⟨g0, g1, g2⟩ := set3_cells (x := .int .i64 0) (y := .int .i64 0) (z := .slice none 0 0) r0 r1 r2
    go_wp2_with fail
    refine bodyPost_ret (v := .tuple #[.agg #[.int .i64 0, .int .i64 0, .slice none 0 0], .int .i64 1]) (by simp [results, Try.results17, go_sem, g0, g1, g2]) rfl ⟨[.int .i64 0, .int .i64 0, .slice none 0 0], by rw [HR.out.2], by rw [HR.out.1]; exact fr_frm0, set3_below hB1 (by omega)⟩
  · have HR := Lib.hid (sim_yes hT)
    have HOK := Lib.hid (tb_iff.1 hT)
    clear hT
    go_wp2_with fail
    refine (simplified_any _ (cf := #[.int .i64 f.1, .int .i64 f.2.1, v2]) (HF.out.below hB1) HOK.out).mono ?_
    rintro e w2 ⟨cs2, rfl, hf2, hb2⟩
    obtain ⟨a2, c2, rfl⟩ := fr_trip hf2
    have HF2 := Lib.hid hf2
    have hB2 := bthen hB1 hb2
    have hz2 := hb2.size
    replace r0 := (cellB hb2 (by omega)).trans r0
    replace r1 := (cellB hb2 (by omega)).trans r1
    replace r2 := (cellB hb2 (by omega)).trans r2
    replace m0 := (frozenB hb2 (by omega)).trans m0
    replace m1 := (frozenB hb2 (by omega)).trans m1
    replace m2 := (frozenB hb2 (by omega)).trans m2
    obtain ⟨g0, g1, g2⟩ := set3_cells (x := .int .i64 (simF f).1) (y := .int .i64 (simF f).2.1) (z := .slice a2 (simF f).2.2.length c2) r0 r1 r2
    clear hf2 t0 t1 f0 f1 f2
    go_wp2_with fail
    refine bodyPost_ret (v := .tuple #[.agg #[.int .i64 (simF f).1, .int .i64 (simF f).2.1, .slice a2 (simF f).2.2.length c2], .int .i64 0]) (by simp [results, Try.results17, go_sem, g0, g1, g2]) rfl ⟨[.int .i64 (simF f).1, .int .i64 (simF f).2.1, .slice a2 (simF f).2.2.length c2], by rw [HR.out.2], ?_, ?_⟩
    · rw [HR.out.1]
      exact (HF2.out.set3 (by omega)).mono (by omega)
    · exact set3_below hB2 (by omega)
end Go.Proofs.Ytepebfpgmnidnaa
