/-
  Contracts: the pairs that constraints tell, the program's.
-/
import Derived.Test.YtbpjejhjlmpcjaaK43
namespace Go.Proofs.Ytbpjejhjlmpcjaa
open Go.RowKit Go.Sort
set_option maxHeartbeats 3200000 in
set_option maxRecDepth 100000 in
theorem firstPairs11_any (w : World) {cs : Array Value} {c : Int × List Int} (h : opT.Rd w cs.toList c) {t : Int × List (Int × List (List Int))} {vars : Int} (hT : tplOk t) (hC : conOk t vars c) (i j a b : Int) (bt bi bj bp : Nat) {v : Value} {pa : Nat} {po pn pc : Nat}
    (t0 : w.cell? ⟨bt, 0, none⟩ = some (.int .i64 t.1)) (t1 : w.cell? ⟨bt, 1, none⟩ = some v) (ht : tplT.Rd w [.int .i64 t.1, v] t) (x0 : w.cell? ⟨bi, 0, none⟩ = some (.int .i64 i)) (x1 : w.cell? ⟨bj, 0, none⟩ = some (.int .i64 j))
    (p0 : w.cell? ⟨bp, 0, none⟩ = some (.slice (some ⟨pa, po, none⟩) pn pc)) (hn : pn = 2) (q0 : w.cell? ⟨pa, po, none⟩ = some (.int .i64 a)) (q1 : w.cell? ⟨pa, po + 1, none⟩ = some (.int .i64 b)) :
    Calls Try.prog 92 #[.agg cs, .pointer (some ⟨bt, 0, none⟩), .pointer (some ⟨bi, 0, none⟩), .pointer (some ⟨bj, 0, none⟩), .pointer (some ⟨bp, 0, none⟩)] w fun e w' => e = .returned (.bool (!tellsB t c i j a b)) ∧ Below w.heap.size w w' := by
  subst hn
  obtain ⟨u, hv, hI, hx⟩ := pair_ex h
  obtain rfl := agg_of hv
  have HC0 := Lib.hid h
  have HT0 := Lib.hid ht
  have HT := Lib.hid hT
  have HC := Lib.hid hC
  obtain ⟨u2, hv2, -, -⟩ := pair_ex ht
  clear h hv hx ht hT hC hv2
  go_enter Try.func92, Try.ntmps92
  go_wp2_with fail
  generalize hW : World.alloc _ _ = W
  have hbW : Below w.heap.size w W := hW ▸ bA
  have y0 : W.cell? ⟨w.heap.size, 0, none⟩ = some (.int .i64 c.1) := by rw [← hW]; simp
  have y1 : W.cell? ⟨w.heap.size, 1, none⟩ = some u := by rw [← hW]; simp
  have k0 := cell_regrown y0
  have k1 := cell_regrown y1
  have k2 := cell_regrown ((hbW.cell (cell_lt t0)).trans t0)
  have k3 := cell_regrown ((hbW.cell (cell_lt t1)).trans t1)
  have k4 := cell_regrown ((hbW.cell (cell_lt x0)).trans x0)
  have k5 := cell_regrown ((hbW.cell (cell_lt x1)).trans x1)
  have k6 := cell_regrown ((hbW.cell (cell_lt p0)).trans p0)
  have k7 := cell_regrown ((hbW.cell (cell_lt q0)).trans q0)
  have k8 := cell_regrown ((hbW.cell (cell_lt q1)).trans q1)
  have cA : ∀ d os, Calls Try.prog 93 #[.agg #[.int .i64 c.1, u], .agg #[.int .i64 t.1, v], .int .i64 i, .int .i64 j, .int .i64 a, .int .i64 b] (grow (redrawn W d) os) fun e w'' => e = .returned (.bool (tellsB t c i j a b)) ∧ ∃ p : Regrown, w'' = grow (redrawn W p.d) p.os := fun d os =>
    Calls.regrown_of (allows_any _ (HC0.out.below (bthen hbW (below_regrown W d os))) (HT0.out.below (bthen hbW (below_regrown W d os))) HT.out HC.out i j a b)
  clear hW y0 y1 t0 t1 x0 x1 p0 q0 q1
  refine wp_region_quiet_below (by kernel_rfl) (by kernel_rfl) ?_
  repeat (go_big_quiet_step (exact cA _ _))
  refine wpQuiet_nil ?_
  rintro w2 ⟨p, rfl⟩
  have hb2 := below_regrown W p.d p.os
  go_wp2_with fail
  go_ret
  exact ⟨rfl, bthen hbW hb2⟩
/-- is a pair of values left by all constraints? -/
noncomputable def leftB (t : Int × List (Int × List (List Int))) (x : Int × List (Int × List Int)) (i j : Int) (pr : List Int) : Bool := !anyB (fun c => !tellsB t c i j (pr.getD 0 0) (pr.getD 1 0)) x.2
set_option maxHeartbeats 3200000 in
set_option maxRecDepth 100000 in
theorem firstPairs1_any (w : World) {v : Value} {pr : List Int} (hp : intsT.Rd w [v] pr) (hl : pr.length = 2) {t : Int × List (Int × List (List Int))} {x : Int × List (Int × List Int)} (hok : instOk t x) (i j : Int) (bx bt bi bj : Nat) {vt vx : Value}
    (t0 : w.cell? ⟨bt, 0, none⟩ = some (.int .i64 t.1)) (t1 : w.cell? ⟨bt, 1, none⟩ = some vt) (ht : tplT.Rd w [.int .i64 t.1, vt] t) (x1 : w.cell? ⟨bx, 1, none⟩ = some vx) (hx : opsT.Rd w [vx] x.2) (y0 : w.cell? ⟨bi, 0, none⟩ = some (.int .i64 i)) (y1 : w.cell? ⟨bj, 0, none⟩ = some (.int .i64 j)) :
    Calls Try.prog 91 #[v, .pointer (some ⟨bx, 0, none⟩), .pointer (some ⟨bt, 0, none⟩), .pointer (some ⟨bi, 0, none⟩), .pointer (some ⟨bj, 0, none⟩)] w fun e w' => e = .returned (.bool (leftB t x i j pr)) ∧ Below w.heap.size w w' := by
  obtain ⟨ad, cap, hv, -, -, hcell⟩ := ints_ex hp
  obtain rfl : v = _ := by simpa using hv
  obtain ⟨pa, po, rfl, hpa, hce⟩ := hcell (by omega)
  have q0 : w.cell? ⟨pa, po, none⟩ = some (.int .i64 (pr.getD 0 0)) := by rw [getD_at (show 0 < pr.length by omega)]; exact (hce 0 (by omega)).2
  have q1 : w.cell? ⟨pa, po + 1, none⟩ = some (.int .i64 (pr.getD 1 0)) := by rw [getD_at (show 1 < pr.length by omega)]; exact (hce 1 (by omega)).2
  obtain ⟨xa, xn, xc, rfl⟩ := rd_sl hx
  have HX := Lib.hid hx
  have HT := Lib.hid ht
  have HOK := Lib.hid hok
  have HL := Lib.hid hl
  clear hp hv hcell hce hx ht hok hl
  have hbx := cell_lt x1
  go_enter Try.func91, Try.ntmps91
  go_wp2_with fail
  generalize hW : World.alloc _ _ = W
  have hbW : Below w.heap.size w W := hW ▸ bA
  have p0 : W.cell? ⟨w.heap.size, 0, none⟩ = some (.slice (some ⟨pa, po, none⟩) pr.length cap) := by rw [← hW]; simp
  have hlW : w.heap.size < W.heap.size := by rw [← hW]; simp
  have T0 := (hbW.cell (cell_lt t0)).trans t0
  have T1 := (hbW.cell (cell_lt t1)).trans t1
  have Y0 := (hbW.cell (cell_lt y0)).trans y0
  have Y1 := (hbW.cell (cell_lt y1)).trans y1
  have Q0 := (hbW.cell (cell_lt q0)).trans q0
  have Q1 := (hbW.cell (cell_lt q1)).trans q1
  clear hW
  refine (ContainsFuncCon_any _ (HX.out.below hbW) (fun c => !tellsB t c i j (pr.getD 0 0) (pr.getD 1 0)) 92 #[.pointer (some ⟨bt, 0, none⟩), .pointer (some ⟨bi, 0, none⟩), .pointer (some ⟨bj, 0, none⟩), .pointer (some ⟨w.heap.size, 0, none⟩)] (enters Try.func92 (by kernel_rfl) rfl) (fun W' hW' k hk cs hcs => firstPairs11_any W' hcs HOK.out.1 (HOK.out.2.2.2 _ (List.getElem_mem hk)) i j _ _ bt bi bj w.heap.size ((hW'.cell (cell_lt T0)).trans T0) ((hW'.cell (cell_lt T1)).trans T1) ((HT.out.below hbW).below hW') ((hW'.cell (cell_lt Y0)).trans Y0) ((hW'.cell (cell_lt Y1)).trans Y1) ((cellB hW' hlW).trans p0) HL.out ((hW'.cell (cell_lt Q0)).trans Q0) ((hW'.cell (cell_lt Q1)).trans Q1))).mono ?_
  rintro e w2 ⟨rfl, hb2⟩
  go_wp2_with fail
  go_ret
  exact ⟨rfl, bthen hbW hb2⟩
/-- the pair relations of variables below j with j; all of them -/
noncomputable def rowP (t : Int × List (Int × List (List Int))) (x : Int × List (Int × List Int)) (N : Nat) (j m : Nat) : List (Int × List (List Int)) := (List.range m).map fun i : Nat => ((2 : Int), relL t.1 2 (leftB t x i j) N)
noncomputable def allP (t : Int × List (Int × List (List Int))) (x : Int × List (Int × List Int)) (N : Nat) (n : Nat) : List (Int × List (List Int)) := (List.range n).flatMap fun j => rowP t x N j j
theorem rowP_succ {t : Int × List (Int × List (List Int))} {x : Int × List (Int × List Int)} {N j m : Nat} : rowP t x N j m ++ [((2 : Int), relL t.1 2 (leftB t x m j) N)] = rowP t x N j (m + 1) := by simp [rowP, List.range_succ]
theorem rowP_len {t : Int × List (Int × List (List Int))} {x : Int × List (Int × List Int)} {N j m : Nat} : (rowP t x N j m).length = m := by simp [rowP]
theorem allP_succ {t : Int × List (Int × List (List Int))} {x : Int × List (Int × List Int)} {N n : Nat} : allP t x N n ++ rowP t x N n n = allP t x N (n + 1) := by simp [allP, List.range_succ]
theorem allP_len {t : Int × List (Int × List (List Int))} {x : Int × List (Int × List Int)} {N : Nat} : ∀ {n : Nat}, n ≤ 10 → (allP t x N n).length ≤ 10 * n
  | 0, _ => by simp [allP]
  | n + 1, h => by
    rw [← allP_succ, List.length_append, rowP_len]
    have := allP_len (t := t) (x := x) (N := N) (n := n) (by omega)
    omega
theorem Bl.own_lt {α : Type} {E : Ty α} {e base top : Nat} {w : World} {v : Value} {ys : List α} (h : Bl E e base top w v ys) {g : Nat} (hg : v.ownBlock = some g) : g < top := by
  obtain ⟨L, fps, _, _, _, _, h5, _⟩ := h
  exact h5 g hg
theorem Bl.own_ne {α : Type} {E : Ty α} {e base top : Nat} {w : World} {v : Value} {ys : List α} (h : Bl E e base top w v ys) {b : Nat} (hb : top ≤ b) : v.ownBlock ≠ some b := fun hg => by have := h.own_lt hg; omega
/-- a cell beside the row that grew -/
theorem grown_cell {w w' : World} {row : Option Nat} {b i : Nat} (h : w.grownBy w' row) (hlt : b < w.heap.size) (hne : row ≠ some b) : w'.cell? ⟨b, i, none⟩ = w.cell? ⟨b, i, none⟩ := World.cell?_of_block (h.block b hlt fun e => hne e.symm)
theorem own_kept {row row' : Option Nat} {n b : Nat} (h : row' = row ∨ row' = some n) (hne : row ≠ some b) (hb : b < n) : row' ≠ some b := by
  rcases h with rfl | rfl
  · exact hne
  · intro e; cases e; omega
set_option maxHeartbeats 3200000 in
set_option maxRecDepth 100000 in
theorem firstPairs_any (w : World) {cs cs' : Array Value} {t : Int × List (Int × List (List Int))} {x : Int × List (Int × List Int)} (h : tplT.Rd w cs.toList t) (h' : instT.Rd w cs'.toList x) (hok : instOk t x) (N : Nat) (hN : t.1 ^ 2 = N) :
    Calls Try.prog 53 #[.agg cs, .agg cs'] w (RetS relsT w (allP t x N x.1.toNat)) := by
  have HT0 := Lib.hid h
  obtain ⟨v1, hv, hI, -⟩ := pair_ex h
  obtain rfl := agg_of hv
  obtain ⟨v2, hv', hI', hxx⟩ := pair_ex h'
  obtain rfl := agg_of hv'
  obtain ⟨xa, xn, xc, rfl⟩ := rd_sl hxx
  have HX := Lib.hid hxx
  have HOK := Lib.hid hok
  have hs := hok.1.1
  unfold sizeOk at hs
  have hx1 := hok.2.1
  obtain ⟨n, hn⟩ : ∃ n : Nat, x.1 = n := ⟨x.1.toNat, by omega⟩
  have HNN : Hid (x.1.toNat = n) := by unfold Hid; omega
  rw [hn] at hx1
  have HN := Lib.hid hN
  clear h hv h' hv' hxx hok hN
  go_enter Try.func53, Try.ntmps53
  rw [hn]
  clear hn
  go_wp2_with fail
  generalize hW : World.alloc _ _ = W
  have hbW : Below w.heap.size w W := hW ▸ ((bAA (w := w)).alloc (by simp; omega) _)
  have hsW : W.heap.size = w.heap.size + 3 := by rw [← hW]; simp
  have t0 : W.cell? ⟨w.heap.size, 0, none⟩ = some (.int .i64 t.1) := by rw [← hW]; simp [go_sem]
  have t1 : W.cell? ⟨w.heap.size, 1, none⟩ = some v1 := by rw [← hW]; simp [go_sem]
  have x1 : W.cell? ⟨w.heap.size + 1, 1, none⟩ = some (.slice xa xn xc) := by rw [← hW]; simp [go_sem]
  have hB0 : Bl relT 88 (w.heap.size + 2) W.heap.size W (.slice (some ⟨w.heap.size + 2, 0, none⟩) 0 0) [] := by
    rw [← hW]
    simpa using Bl.lit0 (E := relT) (e := 88) (base := w.heap.size + 2) (w := (w.alloc (.cells #[.int .i64 t.1, v1] 34)).alloc (.cells #[.int .i64 (n : Int), .slice xa xn xc] 38)) (by simp)
  have HB0 := Lib.hid hB0
  clear hW hB0
  go_loopw [11, 5] (fun i o wr => ∃ j : Nat, j ≤ n ∧ i = .int .i64 j ∧ Bl relT 88 (w.heap.size + 2) wr.heap.size wr o (allP t x N j) ∧ Below (w.heap.size + 2) W wr ∧ W.heap.size ≤ wr.heap.size) (fun i _ _ => n - (intOf i).toNat)
  case atStart => exact ⟨0, by omega, rfl, by simpa [allP] using HB0.out, Below.refl _ _, Nat.le_refl _⟩
  case round =>
    obtain ⟨j, hj, rfl, hBl, hbe, hse⟩ := hrel
    have HB := Lib.hid hBl
    have hao := HB.out.own_ne (Nat.le_refl _)
    have hbw : Below w.heap.size w wr := hbW.trans (hbe.mono (by omega))
    have HLA := Lib.hid (allP_len (t := t) (x := x) (N := N) (n := j) (by omega))
    clear hBl HB0
    by_cases hjl : j < n
    · go_wp2_with fail
      generalize hWa : World.alloc wr _ = wa
      have hba : Below wr.heap.size wr wa := hWa ▸ bA
      have hsa : wa.heap.size = wr.heap.size + 1 := by rw [← hWa]; simp
      have y0 : wa.cell? ⟨wr.heap.size, 0, none⟩ = some (.int .i64 (j : Int)) := by rw [← hWa]; simp
      have HBa : Hid (Bl relT 88 (w.heap.size + 2) wa.heap.size wa _ (allP t x N j)) := (HB.out.below hba (Nat.le_refl _)).mono (by omega)
      have hbea : Below (w.heap.size + 2) W wa := hbe.trans (hba.mono (by omega))
      clear hWa HB hbe hba hbw
      generalize hBe : wr.heap.size = B at hao hsa hse y0 ⊢
      clear hBe
      go_loopw [15, 5] (fun i o wi => ∃ m : Nat, m ≤ j ∧ i = .int .i64 m ∧ Bl relT 88 (w.heap.size + 2) wi.heap.size wi o (allP t x N j ++ rowP t x N j m) ∧ Below (w.heap.size + 2) W wi ∧ wi.cell? ⟨B, 0, none⟩ = some (.int .i64 (j : Int)) ∧ o.ownBlock ≠ some B ∧ B + 1 ≤ wi.heap.size) (fun i _ _ => j - (intOf i).toNat)
      case atStart => exact ⟨0, by omega, rfl, by rw [show rowP t x N j 0 = [] by simp [rowP], List.append_nil]; exact HBa.out, hbea, y0, hao, by omega⟩
      case round =>
        obtain ⟨m, hm, rfl, hBi, hbi, yi, hao2, hsi⟩ := hrel
        have HBi := Lib.hid hBi
        have hbwi : Below w.heap.size w wr := hbW.trans (hbi.mono (by omega))
        have HLR := Lib.hid (rowP_len (t := t) (x := x) (N := N) (j := j) (m := m))
        clear hBi HBa hao y0 hbea
        by_cases hml : m < j
        · have hml' := hml
          have hlw : w.heap.size < wr.heap.size := by omega
          replace t0 := (cellB hbi (by omega)).trans t0
          replace t1 := (cellB hbi (by omega)).trans t1
          replace x1 := (cellB hbi (by omega)).trans x1
          go_wp2_with fail
          generalize hWb : World.alloc wr _ = wb
          have hbb : Below wr.heap.size wr wb := hWb ▸ bA
          have hsb : wb.heap.size = wr.heap.size + 1 := by rw [← hWb]; simp
          have z0 : wb.cell? ⟨wr.heap.size, 0, none⟩ = some (.int .i64 (m : Int)) := by rw [← hWb]; simp
          replace t0 := (cellB hbb (by omega)).trans t0
          replace t1 := (cellB hbb (by omega)).trans t1
          replace x1 := (cellB hbb (by omega)).trans x1
          replace yi := (cellB hbb (by omega)).trans yi
          have hbwb : Below w.heap.size w wb := bthen hbwi hbb
          clear hWb
          refine (relOf_any _ t.1 2 hs (by omega) 91 _ (enters Try.func91 (by kernel_rfl) rfl) (leftB t x m j) N HN.out (Lib.hid fun W' u k hW' hk hu => ?_)).mono ?_
          · exact firstPairs1_any W' hu digL_len HOK.out m j (w.heap.size + 1) w.heap.size wr.heap.size B ((hW'.cell (cell_lt t0)).trans t0) ((hW'.cell (cell_lt t1)).trans t1) ((HT0.out.below hbwb).below hW') ((hW'.cell (cell_lt x1)).trans x1) ((HX.out.below hbwb).below hW') ((hW'.cell (cell_lt z0)).trans z0) ((hW'.cell (cell_lt yi)).trans yi)
          rintro e w3 ⟨cs3, rfl, hf3, hb3⟩
          have hz3 := hb3.size
          obtain ⟨v3, rfl⟩ : ∃ v3, cs3 = [.int .i64 2, v3] := let ⟨ad, cap, h⟩ := fr_pair hf3; ⟨_, h⟩
          have HF3 := Lib.hid hf3
          replace yi := (cellB hb3 (by omega)).trans yi
          clear hf3 z0
          have hb3' : Below wr.heap.size wr w3 := bthen hbb hb3
          go_wp2_with (refine wpList_push (E := relT) _ rfl _ _ 30 88 rfl elRelS rfl (HBi.out.below (hb3'.alloc hb3'.size _) (Nat.le_refl _)) rfl news2 ((HF3.out.below bA).mono (by omega)) (by rw [List.length_append, HLR.out]; have := HLA.out; omega) (by decide) (by omega) (by first | (simp; done) | (simp; omega)) ?_; intro v5 w5 hB5 hg5 hown; have hb5 : Below (w.heap.size + 2) w3 w5 := ((Below.refl _ w3).alloc (by omega) _).grown hg5 (by first | (simp; done) | (simp; omega)) (fun q hq => HBi.out.own hq); have i0 := (grown_cell hg5 (by simp; omega) hao2).trans ((cellB (bA (w := w3)) (by omega)).trans yi); have hao5 := own_kept hown hao2 (by simp; omega))
          have hz5 := hb5.size
          rw [List.append_assoc, show rowP t x N j m ++ [(((2 : Nat) : Int), relL t.1 2 (leftB t x m j) N)] = rowP t x N j (m + 1) from rowP_succ] at hB5
          have hbw5 : Below (w.heap.size + 2) W w5 := hbi.trans ((hbb.mono (by omega)).trans ((hb3.mono (by omega)).trans hb5))
          go_roundw
          case rel => exact ⟨m + 1, by omega, by go_num, hB5, hbw5, i0, hao5, by have := hg5.size; simp at this; omega⟩
          case measure => simp [intOf]; omega
        · obtain rfl : m = j := by omega
          go_wp2_with fail
          go_roundw
          case rel => exact ⟨m + 1, by omega, by go_num, by rw [← allP_succ]; exact HBi.out, hbi, by omega⟩
          case measure => simp [intOf]; omega
    · obtain rfl : j = n := by omega
      have HFO := Lib.hid (HB.out.fr (by have := HLA.out; unfold capMax; omega))
      obtain ⟨oa, on, oc, rfl⟩ := ex_slice HFO.out
      go_wp2_with fail
      go_ret
      exact ⟨_, rfl, by rw [Int.toNat_natCast]; exact HFO.out.mono (by omega), hbw⟩
end Go.Proofs.Ytbpjejhjlmpcjaa
