/-
  Contracts: the conjunction of two formulas, the reference's.
-/
import Derived.Test.YtigclobkmocfkaaK36
namespace Go.Proofs.Ytigclobkmocfkaa
open Go.RowKit Go.Sort
theorem bl_lower {α : Type} {E : Ty α} {e base top lo : Nat} {w : World} {v : Value} {ys : List α} (h : Bl E e base top w v ys) (hlo : lo ≤ base) : Bl E e lo top w v ys := by
  obtain ⟨L, fps, g1, g2, g3, g4, g5, g6⟩ := h
  refine ⟨L, fps, ⟨g1.1, ?_⟩, g2, g3, fun b hb => ⟨Nat.le_trans hlo (g4 b hb).1, (g4 b hb).2⟩, g5, g6⟩
  rcases g1.2 with h | ⟨g', cap', cur, hg', hbg, hh, r⟩
  · exact .inl h
  · exact .inr ⟨g', cap', cur, hg', Nat.le_trans hlo hbg, hh, r⟩
theorem toL_congr {g g' : Int → Int} {n : Nat} (h : ∀ k : Nat, k < n → g k = g' k) : toL g n = toL g' n := by
  unfold toL
  exact List.map_congr_left fun k hk => h k (by simpa using hk)
set_option maxHeartbeats 1600000 in
set_option maxRecDepth 100000 in
theorem l03Own_bl (w : World) {v : Value} {f : Int × Int × List (Int × List Int)} (h : frmT.Pt w v f) (h1 : 0 ≤ f.2.1 ∧ f.2.1 ≤ 1000000) (h2 : ∀ a ∈ f.2.2, (∀ p ∈ a.2, 0 ≤ p ∧ p < f.2.1) ∧ a.2.length ≤ 1000000) (h3 : f.2.2.length ≤ 1000000) :
    Calls Try.prog 105 #[v] w fun e w' => ∃ u, e = .returned u ∧ Bl opT 121 w.heap.size w'.heap.size w' u f.2.2 ∧ w.heap.size ≤ w'.heap.size ∧ Below w.heap.size w w' := by
  obtain ⟨b, o, ad, cap, rfl, hb, hI, hI2, c0, c1, c2, hx⟩ := pt_trip h
  obtain ⟨a2, n2, k2, hv⟩ := rd_sl hx
  rw [hv] at c2 hx
  have HX := Lib.hid hx
  have H2 := Lib.hid h2
  have HM : Hid (movedL (upL 0 f.2.1.toNat) f.2.2 = f.2.2) := by
    unfold Hid
    rw [← toL_id, movedL_toL (fun a ha p hp => by have := (h2 a ha).1 p hp; omega), rnL_id]
  clear h hx hv h2
  go_enter Try.func105, Try.ntmps105
  go_wp2_with fail
  refine wp_region_T (fun w' => w'.cell? ⟨b, o + 2, none⟩ = some (.slice a2 n2 k2) ∧ w'.cell? ⟨b, o + 1, none⟩ = some (.int .i64 f.2.1)) [] (by kernel_rfl) ⟨c2, c1⟩ (fun hHeld => ?_)
  refine wpAnyT_take (i := 0) (v := ?_) rfl (by kernel_rfl) (fun _ _ _ h => h) (Or.inl ⟨by rfl, ?_⟩) (by assumption) ?_
  rotate_left
  · (intro w hSw; (try dsimp only at hSw); go_simp <;> with_reducible rfl)
  try simp only [Act.put]
  refine wpAnyT_take (i := 1) (v := ?_) rfl (by kernel_rfl) (fun _ _ _ h => h) (Or.inl ⟨by rfl, ?_⟩) (by assumption) ?_
  rotate_left
  · (intro w hSw; (try dsimp only at hSw); go_simp <;> with_reducible rfl)
  try simp only [Act.put]
  refine wpAnyT_take (i := 2) (v := ?_) rfl (by kernel_rfl) (fun _ _ _ h => h) (Or.inl ⟨by rfl, ?_⟩) (by assumption) ?_
  rotate_left
  · (intro w hSw; (try dsimp only at hSw); go_simp <;> with_reducible rfl)
  try simp only [Act.put]
  refine wpAnyT_take (i := 3) (v := ?_) rfl (by kernel_rfl) (fun _ _ _ h => h) (Or.inl ⟨by rfl, ?_⟩) (by assumption) ?_
  rotate_left
  · (intro w hSw; (try dsimp only at hSw); go_simp <;> with_reducible rfl)
  try simp only [Act.put]
  refine wpAnyT_take (i := 4) (v := ?_) rfl (by kernel_rfl) (fun _ _ _ h => h) (Or.inl ⟨by rfl, ?_⟩) (by assumption) ?_
  rotate_left
  · (intro w hSw; (try dsimp only at hSw); go_simp <;> with_reducible rfl)
  try simp only [Act.put]
  refine wpAnyT_take (i := 5) (v := ?_) rfl (by kernel_rfl) (fun _ _ _ h => h) (Or.inl ⟨by rfl, ?_⟩) (by assumption) ?_
  rotate_left
  · (intro w hSw; (try dsimp only at hSw); go_simp <;> with_reducible rfl)
  try simp only [Act.put]
  refine wpAnyT_take (i := 6) (v := ?_) rfl (by kernel_rfl) (fun _ _ _ h => h) (Or.inl ⟨by rfl, ?_⟩) (by assumption) ?_
  rotate_left
  · (intro w hSw; (try dsimp only at hSw); go_simp <;> with_reducible rfl)
  try simp only [Act.put]
  refine wpAnyT_take (i := 7) (v := ?_) rfl (by kernel_rfl) (fun _ _ _ h => h) (Or.inl ⟨by rfl, ?_⟩) (by assumption) ?_
  rotate_left
  · (intro w hSw; (try dsimp only at hSw); go_simp <;> with_reducible rfl)
  try simp only [Act.put]
  refine wpAnyT_one (i := 8) rfl (by kernel_rfl) (fun K hK => ?_)
  go_simp
  go_at_call 104
  refine (l03Count_any _ _ h1.2).mono ?_
  rintro e w1 ⟨u1, rfl, hf1, hb1⟩
  have hb1' : Below w.heap.size w w1 := bthen bD hb1
  obtain ⟨a3, n3, k3, rfl⟩ := ex_slice hf1
  have HF1 := Lib.hid hf1.rd
  replace c1 := (cellB hb1' (by omega)).trans c1
  replace c2 := (cellB hb1' (by omega)).trans c2
  clear hf1
  dsimp only
  refine hK.out _ _ ⟨c2, c1⟩ (fun hHeld => ?_)
  clear hK K
  refine wpAnyT_one (i := 9) rfl (by kernel_rfl) (fun K hK => ?_)
  go_simp
  go_at_call 106
  refine (l03Moved_bl _ (HX.out.below hb1') HF1.out (fun a ha => ⟨fun p hp => by have := (H2.out a ha).1 p hp; rw [upL_len]; omega, (H2.out a ha).2⟩) h3).mono ?_
  rintro e w2 ⟨u2, rfl, hB2, hb2⟩
  rw [HM.out] at hB2
  have HB2 := Lib.hid hB2
  have hz1 := hb1'.size
  have hz2 := hb2.size
  replace c1 := (cellB hb2 (by omega)).trans c1
  replace c2 := (cellB hb2 (by omega)).trans c2
  clear hB2
  dsimp only
  refine hK.out _ _ ⟨c2, c1⟩ (fun hHeld => ?_)
  clear hK K
  refine wpAnyT_any (i := 10) (v := ?_) rfl (by kernel_rfl) (fun _ _ _ h => h) (Or.inl ⟨by rfl, ?_⟩) (by first | exact fun _ => by assumption | (intro hp; exact absurd hp (by rw [show pastB _ _ = true by kernel_rfl]; simp))) ?_
  rotate_left
  · (intro w hSw; (try dsimp only at hSw); go_simp <;> with_reducible rfl)
  try simp only [Act.put]
  refine wpAnyT_done (by kernel_rfl) ?_ _
  go_simp
  go_wp2_with fail
  go_ret
  exact ⟨_, rfl, bl_lower HB2.out hz1, by omega, bthen hb1' hb2⟩
set_option maxHeartbeats 3200000 in
set_option maxRecDepth 100000 in
theorem specConjoinFormulas_any (w : World) {cs cf cg : Array Value} {t : Int × List (Int × List (List Int))} {f g : Int × Int × List (Int × List Int)} (h : tplT.Rd w cs.toList t) (hf : frmT.Rd w cf.toList f) (hg : frmT.Rd w cg.toList g) :
    Calls Try.prog 39 #[.agg cs, .agg cf, .agg cg] w (RetAC frmT w (conjV t f g) (conjC t f g)) := by
  have p0 : tplT.Pt (((w.alloc (.cells cs 34)).alloc (.cells cf 57)).alloc (.cells cg 57)) (.pointer (some ⟨w.heap.size, 0, none⟩)) t := ((pt_box h).below bA).below bA
  have p1 : frmT.Pt (((w.alloc (.cells cs 34)).alloc (.cells cf 57)).alloc (.cells cg 57)) (.pointer (some ⟨w.heap.size + 1, 0, none⟩)) f := by
    simpa using (pt_box (T := 57) (hf.below (bA (o := .cells cs 34)))).below (bA (o := .cells cg 57))
  have p2 : frmT.Pt (((w.alloc (.cells cs 34)).alloc (.cells cf 57)).alloc (.cells cg 57)) (.pointer (some ⟨w.heap.size + 2, 0, none⟩)) g := by
    simpa using pt_box (T := 57) (hg.below (bAA (o := .cells cs 34) (o' := .cells cf 57)))
  obtain ⟨v1, hv, hI, -⟩ := pair_ex h
  obtain rfl := agg_of hv
  obtain ⟨v2, hv2, hIf, hIf2, hfx⟩ := trip_ex hf
  obtain rfl := agg_of hv2
  obtain ⟨v3, hv3, -, -, hgx⟩ := trip_ex hg
  obtain rfl := agg_of hv3
  obtain ⟨fa, fn, fc, rfl⟩ := rd_sl hfx
  obtain ⟨ga, gn, gc, rfl⟩ := rd_sl hgx
  have HGX := Lib.hid hgx
  clear h hf hg hv hv2 hv3 hfx hgx
  go_enter Try.func39, Try.ntmps39
  go_wp2_with fail
  have P0 := p0.below (bA (o := .cells #[.int .i64 0, .int .i64 0, .slice none 0 0] 57))
  have P1 := p1.below (bA (o := .cells #[.int .i64 0, .int .i64 0, .slice none 0 0] 57))
  have P2 := p2.below (bA (o := .cells #[.int .i64 0, .int .i64 0, .slice none 0 0] 57))
  generalize hW : World.alloc (World.alloc (World.alloc (World.alloc _ _) _) _) _ = W at P0 P1 P2 ⊢
  have hbW : Below w.heap.size w W := hW ▸ (((bAA (w := w)).alloc (by simp; omega) _).alloc (by simp; omega) _)
  have hsW : W.heap.size = w.heap.size + 4 := by rw [← hW]; simp
  have f0 : W.cell? ⟨w.heap.size + 1, 0, none⟩ = some (.int .i64 f.1) := by rw [← hW]; simp [go_sem]
  have f1 : W.cell? ⟨w.heap.size + 1, 1, none⟩ = some (.int .i64 f.2.1) := by rw [← hW]; simp [go_sem]
  have g0 : W.cell? ⟨w.heap.size + 2, 0, none⟩ = some (.int .i64 g.1) := by rw [← hW]; simp [go_sem]
  have g1 : W.cell? ⟨w.heap.size + 2, 1, none⟩ = some (.int .i64 g.2.1) := by rw [← hW]; simp [go_sem]
  have g2 : W.cell? ⟨w.heap.size + 2, 2, none⟩ = some (.slice ga gn gc) := by rw [← hW]; simp [go_sem]
  have r0 : W.cell? ⟨w.heap.size + 3, 0, none⟩ = some (.int .i64 0) := by rw [← hW]; simp [go_sem]
  have r1 : W.cell? ⟨w.heap.size + 3, 1, none⟩ = some (.int .i64 0) := by rw [← hW]; simp [go_sem]
  have r2 : W.cell? ⟨w.heap.size + 3, 2, none⟩ = some (.slice none 0 0) := by rw [← hW]; simp [go_sem]
  have m0 : W.frozen? ⟨w.heap.size + 3, 0, none⟩ = false := by rw [← hW]; simp [go_sem]
  have m1 : W.frozen? ⟨w.heap.size + 3, 1, none⟩ = false := by rw [← hW]; simp [go_sem]
  have m2 : W.frozen? ⟨w.heap.size + 3, 2, none⟩ = false := by rw [← hW]; simp [go_sem]
  clear hW p0 p1 p2
  refine (l03Two_quiet _ P0 P1 P2).mono ?_
  rintro e w1 ⟨rfl, hq1⟩
  have hb1 := hq1.below
  have hz1 := hb1.size
  have hB1 := bthen hbW hb1
  have PF := Lib.hid (P1.below hb1)
  replace f0 := (cellB hb1 (by omega)).trans f0
  replace f1 := (cellB hb1 (by omega)).trans f1
  replace g0 := (cellB hb1 (by omega)).trans g0
  replace g1 := (cellB hb1 (by omega)).trans g1
  replace g2 := (cellB hb1 (by omega)).trans g2
  replace r0 := (cellB hb1 (by omega)).trans r0
  replace r1 := (cellB hb1 (by omega)).trans r1
  replace r2 := (cellB hb1 (by omega)).trans r2
  replace m0 := (frozenB hb1 (by omega)).trans m0
  replace m1 := (frozenB hb1 (by omega)).trans m1
  replace m2 := (frozenB hb1 (by omega)).trans m2
  clear hq1 P0 P1 P2
  cases hE : (twoC t f g != 0)
  rotate_left
  · have HR := Lib.hid (conj_no (show twoC t f g ≠ 0 by simpa using hE))
    obtain ⟨q0, q1, q2⟩ := set3_cells (x := .int .i64 0) (y := .int .i64 0) (z := .slice none 0 0) r0 r1 r2
    go_wp2_with fail
    exact bodyPost_ret (v := .tuple #[.agg #[.int .i64 0, .int .i64 0, .slice none 0 0], .int .i64 (twoC t f g)]) (by simp [results, Try.results39, go_sem, q0, q1, q2]) rfl ⟨[.int .i64 0, .int .i64 0, .slice none 0 0], by rw [HR.out.2], by rw [HR.out.1]; exact fr_frm0, set3_below hB1 (by omega)⟩
  have hE0 : twoC t f g = 0 := by simpa using hE
  have HR := Lib.hid (conj_yes hE0)
  obtain ⟨e1, e2, e3⟩ := two_ok hE0
  obtain ⟨a1, a2, a3, a4, a5⟩ := frm_bd e1
  obtain ⟨c1, c2, c3, c4, c5⟩ := frm_bd e2
  have A5 := Lib.hid a5
  have C5 := Lib.hid c5
  have HGF := Lib.hid e3
  have hl1 : w.heap.size + 1 < w1.heap.size := by omega
  have hl2 : w.heap.size + 2 < w1.heap.size := by omega
  obtain ⟨p, hp⟩ : ∃ p : Nat, g.1 = p := ⟨g.1.toNat, by omega⟩
  obtain ⟨q, hq⟩ : ∃ q : Nat, g.2.1 = q := ⟨g.2.1.toNat, by omega⟩
  rw [hp] at g0
  rw [hq] at g1
  have hpq : 1 ≤ p ∧ p ≤ q ∧ q ≤ 8 := by omega
  have HP := Lib.hid hp
  have HQ := Lib.hid hq
  have HU : Hid (upL 0 p = toL (conjTo f g) p) := by
    unfold Hid
    rw [← toL_id]
    exact toL_congr fun k hk => (conj_lt (by omega)).symm
  clear e1 e2 a5 c5 hE0 e3 hp hq
  go_wp2_with fail
  refine (l03Count_bl _ (p : Int) (by omega)).mono ?_
  rintro e w2 ⟨u2, rfl, hB2, hb2⟩
  rw [Int.toNat_natCast, HU.out] at hB2
  have HB2 := Lib.hid hB2
  have hz2 := hb2.size
  have x0 := (cellB hb2 hl2).trans g0
  clear hB2
  go_wp2_with fail
  go_loopw [10, 9] (fun i o wr => ∃ k : Nat, p ≤ k ∧ k ≤ q ∧ i = .int .i64 k ∧ Bl Ty.int 2 w1.heap.size wr.heap.size wr o (toL (conjTo f g) k) ∧ Below w1.heap.size w1 wr) (fun i _ _ => q - (intOf i).toNat)
  case atStart => exact ⟨p, Nat.le_refl _, hpq.2.1, rfl, HB2.out, hb2⟩
  case round =>
    obtain ⟨k, hk0, hk, rfl, hBl, hbel⟩ := hrel
    have HB := Lib.hid hBl
    clear hBl x0
    have hsz := hbel.size
    have d0 := (cellB hbel hl1).trans f1
    have d1 := (cellB hbel hl2).trans g1
    have d2 := (cellB hbel hl2).trans g0
    by_cases hkl : k < q
    · have HE : Hid (conjTo f g k = f.2.1 + k - p) := by
        have := HGF.out
        have := HP.out
        unfold Hid
        rw [conj_ge (by omega)]; omega
      have hI9 : I64 (f.2.1 + k - p) := I64.small (by omega) (by omega)
      have HRT := Lib.hid (toL_succ (conjTo f g) k)
      go_wp2_with (refine wpList_push (E := Ty.int) _ rfl _ _ 25 2 rfl elInt rfl (HB.out.below bA (Nat.le_refl _)) rfl news1 (fr_int hI9) (by rw [toL_len]; omega) (by decide) hbel.size (by simp) ?_; intro v1 w3 hB3 hg1 _)
      have hbel1 : Below w1.heap.size w1 w3 := (hbel.alloc hbel.size _).grown hg1 (by simp; omega) (fun k hk => HB.out.own hk)
      have hB4 : Bl Ty.int 2 w1.heap.size w3.heap.size w3 v1 (toL (conjTo f g) (k + 1)) := by rw [← HRT.out, HE.out]; exact hB3
      have HB4 := Lib.hid hB4
      clear hB3 hB4
      go_wp2_with fail
      go_roundw
      case rel => exact ⟨k + 1, by omega, by omega, by go_num, HB4.out, hbel1⟩
      case measure => simp [intOf]; omega
    · obtain rfl : k = q := by omega
      have hft := HB.out.fr (by rw [toL_len]; unfold capMax; omega)
      obtain ⟨at0, nt0, ct0, rfl⟩ := ex_slice hft
      have HT := Lib.hid hft.rd
      have d3 := (cellB hbel hl1).trans f0
      have hBr := bthen hB1 hbel
      replace g2 := (cellB hbel (by omega)).trans g2
      replace r0 := (cellB hbel (by omega)).trans r0
      replace r1 := (cellB hbel (by omega)).trans r1
      replace r2 := (cellB hbel (by omega)).trans r2
      replace m0 := (frozenB hbel (by omega)).trans m0
      replace m1 := (frozenB hbel (by omega)).trans m1
      replace m2 := (frozenB hbel (by omega)).trans m2
      have hl1' : w.heap.size + 1 < wr.heap.size := by omega
      have hl2' : w.heap.size + 2 < wr.heap.size := by omega
      clear hft HB
      go_wp2_with fail
      generalize hWa : World.alloc wr _ = wa
      have hba : Below wr.heap.size wr wa := hWa ▸ bA
      have hsa : wa.heap.size = wr.heap.size + 1 := by rw [← hWa]; simp
      have y0 : wa.cell? ⟨wr.heap.size, 0, none⟩ = some (.int .i64 f.1) := by rw [← hWa]; simp
      have y1 : wa.cell? ⟨wr.heap.size, 1, none⟩ = some (.int .i64 (f.2.1 + (k : Int) - (p : Int))) := by rw [← hWa]; simp
      have y2 : wa.cell? ⟨wr.heap.size, 2, none⟩ = some (.slice none 0 0) := by rw [← hWa]; simp
      have n2 : wa.frozen? ⟨wr.heap.size, 2, none⟩ = false := by rw [← hWa]; simp
      replace g2 := (cellB hba (by omega)).trans g2
      replace r0 := (cellB hba (by omega)).trans r0
      replace r1 := (cellB hba (by omega)).trans r1
      replace r2 := (cellB hba (by omega)).trans r2
      replace m0 := (frozenB hba (by omega)).trans m0
      replace m1 := (frozenB hba (by omega)).trans m1
      replace m2 := (frozenB hba (by omega)).trans m2
      clear hWa
      refine wp_region_T (fun w' => w'.cell? ⟨w.heap.size + 2, 2, none⟩ = some (.slice ga gn gc)) [7] (by kernel_rfl) g2 (fun hHeld => ?_)
      refine wpAnyT_take (i := 1) (v := ?_) rfl (by kernel_rfl) (fun _ _ _ h => h) (Or.inl ⟨by rfl, ?_⟩) (by assumption) ?_
      rotate_left
      · (intro w hSw; (try dsimp only at hSw); go_simp <;> with_reducible rfl)
      try simp only [Act.put]
      refine wpAnyT_take (i := 2) (v := ?_) rfl (by kernel_rfl) (fun _ _ _ h => h) (Or.inl ⟨by rfl, ?_⟩) (by assumption) ?_
      rotate_left
      · (intro w hSw; (try dsimp only at hSw); go_simp <;> with_reducible rfl)
      try simp only [Act.put]
      refine wpAnyT_take (i := 3) (v := ?_) rfl (by kernel_rfl) (fun _ _ _ h => h) (Or.inl ⟨by rfl, ?_⟩) (by assumption) ?_
      rotate_left
      · (intro w hSw; (try dsimp only at hSw); go_simp <;> with_reducible rfl)
      try simp only [Act.put]
      have hba1 : Below w1.heap.size w1 wa := bthen hbel hba
      refine wpAnyT_one (i := 0) rfl (by kernel_rfl) (fun K hK => ?_)
      go_simp
      go_at_call 105
      refine (l03Own_bl _ (PF.out.below (bthen hba1 bD)) (by omega) (fun a ha => ⟨(A5.out a ha).1, by have := (A5.out a ha).2; omega⟩) (by omega)).mono ?_
      rintro e w3 ⟨u3, rfl, hB3, hz3, hb3⟩
      obtain ⟨a3, n3, c3, rfl⟩ := ex_slice (hB3.fr (by unfold capMax; omega))
      have HB3 := Lib.hid hB3
      have hb3' : Below wa.heap.size wa w3 := bthen bD hb3
      have hz3' := hb3'.size
      replace g2 := (cellB hb3' (by omega)).trans g2
      replace r0 := (cellB hb3' (by omega)).trans r0
      replace r1 := (cellB hb3' (by omega)).trans r1
      replace r2 := (cellB hb3' (by omega)).trans r2
      replace y0 := (cellB hb3' (by omega)).trans y0
      replace y1 := (cellB hb3' (by omega)).trans y1
      replace y2 := (cellB hb3' (by omega)).trans y2
      replace m0 := (frozenB hb3' (by omega)).trans m0
      replace m1 := (frozenB hb3' (by omega)).trans m1
      replace m2 := (frozenB hb3' (by omega)).trans m2
      replace n2 := (frozenB hb3' (by omega)).trans n2
      clear hB3 hb3
      dsimp only
      refine hK.out _ _ g2 (fun hHeld => ?_)
      clear hK K
      refine wpAnyT_one (i := 4) rfl (by kernel_rfl) (fun K hK => ?_)
      go_simp
      go_at_call 106
      refine (l03Moved_any _ (HGX.out.below (bthen hBr (bthen hba hb3'))) (HT.out.below (bthen hba hb3')) (fun a ha => ⟨fun v hv => by have := (C5.out a ha).1 v hv; have := HQ.out; rw [toL_len]; omega, by have := (C5.out a ha).2; omega⟩) (by omega)).mono ?_
      rintro e w4 ⟨u4, rfl, hf4, hb4⟩
      rw [movedL_toL (g := conjTo f g) (n := k) (xs := g.2.2) (fun a ha v hv => by have := (C5.out a ha).1 v hv; have := HQ.out; omega)] at hf4
      obtain ⟨a4, n4, c4, rfl⟩ := ex_slice hf4
      have HF4 := Lib.hid hf4
      have hz4 := hb4.size
      replace g2 := (cellB hb4 (by omega)).trans g2
      replace r0 := (cellB hb4 (by omega)).trans r0
      replace r1 := (cellB hb4 (by omega)).trans r1
      replace r2 := (cellB hb4 (by omega)).trans r2
      replace y0 := (cellB hb4 (by omega)).trans y0
      replace y1 := (cellB hb4 (by omega)).trans y1
      replace y2 := (cellB hb4 (by omega)).trans y2
      replace m0 := (frozenB hb4 (by omega)).trans m0
      replace m1 := (frozenB hb4 (by omega)).trans m1
      replace m2 := (frozenB hb4 (by omega)).trans m2
      replace n2 := (frozenB hb4 (by omega)).trans n2
      clear hf4
      dsimp only
      refine hK.out _ _ g2 (fun hHeld => ?_)
      clear hK K
      refine wpAnyT_one (i := 5) rfl (by kernel_rfl) (fun K hK => ?_)
      refine step_pushAll (E := opT) _ rfl _ _ 55 121 rfl elAtomS rfl (HB3.out.below hb4 (Nat.le_refl _)) rfl HF4.out (by rw [rnL_len]; omega) (by decide) hz3 hz4 ?_
      intro v5 w5 hB5 hg5 _
      have hF5 := hB5.fr (by rw [List.length_append, rnL_len]; unfold capMax; omega)
      obtain ⟨a5, n5, c5, rfl⟩ := ex_slice hF5
      have HF5 := Lib.hid hF5
      have hb5 : Below wa.heap.size w4 w5 := (Below.refl _ w4).grown hg5 (by omega) (fun q hq => by have := HB3.out.own hq; simpa using this)
      have hz5 := hb5.size
      replace g2 := (cellB hb5 (by omega)).trans g2
      replace r0 := (cellB hb5 (by omega)).trans r0
      replace r1 := (cellB hb5 (by omega)).trans r1
      replace r2 := (cellB hb5 (by omega)).trans r2
      replace y0 := (cellB hb5 (by omega)).trans y0
      replace y1 := (cellB hb5 (by omega)).trans y1
      replace y2 := (cellB hb5 (by omega)).trans y2
      replace m0 := (frozenB hb5 (by omega)).trans m0
      replace m1 := (frozenB hb5 (by omega)).trans m1
      replace m2 := (frozenB hb5 (by omega)).trans m2
      replace n2 := (frozenB hb5 (by omega)).trans n2
      clear hB5 hF5 hg5
      refine hK.out _ _ g2 (fun hHeld => ?_)
      clear hK K
      refine wpAnyT_any (i := 6) (v := ?_) rfl (by kernel_rfl) (fun _ _ _ h => h) (Or.inl ⟨by rfl, ?_⟩) (by first | exact fun _ => by assumption | (intro hp; exact absurd hp (by rw [show pastB _ _ = true by kernel_rfl]; simp))) ?_
      rotate_left
      · (intro w hSw; (try dsimp only at hSw); go_simp <;> with_reducible rfl)
      try simp only [Act.put]
      refine wpAnyT_last (i := 7) rfl (by kernel_rfl) (by kernel_rfl) (fun K hK => ?_)
      go_simp
      refine hK.out _ _ ?_
      clear hK K
      refine wpAnyT_done (by kernel_rfl) ?_ _
      go_simp
      generalize hW6 : World.setCell w5 _ _ = w6
      have hb6 : Below wr.heap.size w5 w6 := hW6 ▸ ((Below.refl _ w5).setCell (by simp) _)
      have hz6 : w6.heap.size = w5.heap.size := by rw [← hW6, size_set]
      have z0 : w6.cell? ⟨wr.heap.size, 0, none⟩ = some (.int .i64 f.1) := by rw [← hW6]; exact (World.cell?_setCell_other _ _ _ _ (by simp)).trans y0
      have z1 : w6.cell? ⟨wr.heap.size, 1, none⟩ = some (.int .i64 (f.2.1 + (k : Int) - (p : Int))) := by rw [← hW6]; exact (World.cell?_setCell_other _ _ _ _ (by simp)).trans y1
      have z2 : w6.cell? ⟨wr.heap.size, 2, none⟩ = some (.slice a5 n5 c5) := by rw [← hW6]; exact World.cell?_setCell_same _ _ _ y2
      have HF6 : Hid (opsT.Fr wa.heap.size w6 [.slice a5 n5 c5] (f.2.2 ++ rnL (conjTo f g) g.2.2)) := by
        unfold Hid
        rw [← hW6]
        exact (HF5.out.mono (by simp)).set (by simp; omega)
      replace r0 := (cellB hb6 (by omega)).trans r0
      replace r1 := (cellB hb6 (by omega)).trans r1
      replace r2 := (cellB hb6 (by omega)).trans r2
      replace m0 := (frozenB hb6 (by omega)).trans m0
      replace m1 := (frozenB hb6 (by omega)).trans m1
      replace m2 := (frozenB hb6 (by omega)).trans m2
      have HCF : Hid (conjF f g = (f.1, f.2.1 + (k : Int) - (p : Int), f.2.2 ++ rnL (conjTo f g) g.2.2)) := by unfold Hid; rw [conjF, HP.out, HQ.out]
      clear hW6 y0 y1 y2 n2
      go_wp2_with fail
      refine (l03Told_any _ (base := wa.heap.size) (f := conjF f g) (cs := #[.int .i64 f.1, .int .i64 (f.2.1 + (k : Int) - (p : Int)), .slice a5 n5 c5]) (by rw [HCF.out]; exact fr_cons hIf (fr_cons (I64.small (by omega) (by omega)) HF6.out)) (by omega)).mono ?_
      rintro e w7 ⟨cs7, rfl, hf7, hb7⟩
      obtain ⟨ad7, cap7, rfl⟩ := fr_trip hf7
      have HF7 := Lib.hid hf7
      have hz7 := hb7.size
      replace r0 := (cellB hb7 (by omega)).trans r0
      replace r1 := (cellB hb7 (by omega)).trans r1
      replace r2 := (cellB hb7 (by omega)).trans r2
      replace m0 := (frozenB hb7 (by omega)).trans m0
      replace m1 := (frozenB hb7 (by omega)).trans m1
      replace m2 := (frozenB hb7 (by omega)).trans m2
      clear hf7 z0 z1 z2
      obtain ⟨q0, q1, q2⟩ := set3_cells (x := .int .i64 (limV (conjF f g)).1) (y := .int .i64 (limV (conjF f g)).2.1) (z := .slice ad7 (limV (conjF f g)).2.2.length cap7) r0 r1 r2
      have hl7 : w.heap.size + 3 < w7.heap.size := by omega
      go_wp2_with fail
      refine bodyPost_ret (v := .tuple #[.agg #[.int .i64 (limV (conjF f g)).1, .int .i64 (limV (conjF f g)).2.1, .slice ad7 (limV (conjF f g)).2.2.length cap7], .int .i64 (limC (conjF f g))]) (by simp [results, Try.results39, go_sem, q0, q1, q2]) rfl ⟨[.int .i64 (limV (conjF f g)).1, .int .i64 (limV (conjF f g)).2.1, .slice ad7 (limV (conjF f g)).2.2.length cap7], by rw [HR.out.2], ?_, ?_⟩
      · rw [HR.out.1]
        exact (HF7.out.set3 (by omega)).mono (by omega)
      · exact set3_below (hBr.trans ((hba.mono (by omega)).trans ((hb3'.mono (by omega)).trans ((hb4.mono (by omega)).trans ((hb5.mono (by omega)).trans ((hb6.mono (by omega)).trans (hb7.mono (by omega)))))))) (by omega)
end Go.Proofs.Ytigclobkmocfkaa
