/-
  Contracts: the formula of an instance, both sides.
-/
import Derived.Test.YtigclobkmocfkaaK32
import Derived.Test.YtigclobkmocfkaaK12
import Derived.Test.YtigclobkmocfkaaAlias
import Derived.Test.YtigclobkmocfkaaK18
namespace Go.Proofs.Ytigclobkmocfkaa
open Go.RowKit Go.Sort
def ifrF (x : Int × List (Int × List Int)) (n : Int) : Int × Int × List (Int × List Int) := (n, x.1, x.2)
noncomputable def ifrV (t : Int × List (Int × List (List Int))) (x : Int × List (Int × List Int)) (n : Int) : Int × Int × List (Int × List Int) :=
  match tb (instOk t x), inB n 1 4, decide (n ≤ x.1) with
  | true, true, true => limV (ifrF x n)
  | _, _, _ => frm0
noncomputable def ifrC (t : Int × List (Int × List (List Int))) (x : Int × List (Int × List Int)) (n : Int) : Int :=
  match tb (instOk t x), inB n 1 4, decide (n ≤ x.1) with
  | false, _, _ => 1
  | true, false, _ => 2
  | true, true, false => 2
  | true, true, true => limC (ifrF x n)
section
variable {t : Int × List (Int × List (List Int))} {x : Int × List (Int × List Int)} {n : Int}
theorem ifr_1 (h : tb (instOk t x) = false) : ifrV t x n = frm0 ∧ ifrC t x n = 1 := by simp [ifrV, ifrC, h]
theorem ifr_2 (h : tb (instOk t x) = true) (h2 : inB n 1 4 = false) : ifrV t x n = frm0 ∧ ifrC t x n = 2 := by simp [ifrV, ifrC, h, h2]
theorem ifr_3 (h : tb (instOk t x) = true) (h2 : inB n 1 4 = true) (h3 : x.1 < n) : ifrV t x n = frm0 ∧ ifrC t x n = 2 := by
  have : decide (n ≤ x.1) = false := by simp; omega
  simp [ifrV, ifrC, h, h2, this]
theorem ifr_0 (h : tb (instOk t x) = true) (h2 : inB n 1 4 = true) (h3 : n ≤ x.1) : ifrV t x n = limV (ifrF x n) ∧ ifrC t x n = limC (ifrF x n) := by simp [ifrV, ifrC, h, h2, h3]
theorem inst_bd2 (h : tb (instOk t x) = true) : x.2.length ≤ 24 ∧ ∀ c ∈ x.2, c.2.length ≤ 1000000 := by
  have h1 := tb_iff.1 h
  refine ⟨h1.2.2.1, fun c hc => ?_⟩
  have h2 := scope_short h1.1 (h1.2.2.2 c hc)
  omega
theorem inst_scopes (h : tb (instOk t x) = true) : ∀ c ∈ x.2, c.2.length ≤ 4 := fun c hc => by
  have h1 := tb_iff.1 h
  exact scope_short h1.1 (h1.2.2.2 c hc)
theorem ifr_cnt : cntFrm (ifrV t x n) ≤ 1000000 := by
  cases h1 : tb (instOk t x)
  · rw [(ifr_1 h1).1, cnt_frm0]; omega
  cases h2 : inB n 1 4
  · rw [(ifr_2 h1 h2).1, cnt_frm0]; omega
  rcases ilt x.1 n with h3 | h3
  · rw [(ifr_3 h1 h2 h3).1, cnt_frm0]; omega
  · rw [(ifr_0 h1 h2 h3).1]
    have h4 := (inst_bd2 h1).1
    have := cntOps_bd (xs := x.2) (inst_scopes h1)
    by_cases hl : (ifrF x n).2.1 ≤ 8 ∧ (ifrF x n).2.2.length ≤ 16
    · rw [(lim_yes hl).1]
      simp only [ifrF, cntFrm]
      omega
    · rw [(lim_no hl).1, cnt_frm0]; omega
end
theorem fieldInst (w : World) (n : Int) (ad : Option Addr) (m c : Nat) : (Instr.field 47 (.agg #[.int .i64 n, .slice ad m c]) 1).run Try.prog w = .ok (.slice ad m c) w := by kernel_rfl
set_option maxHeartbeats 3200000 in
set_option maxRecDepth 100000 in
theorem InstanceFormula_any (w : World) {cs cs' : Array Value} {t : Int × List (Int × List (List Int))} {x : Int × List (Int × List Int)} (h : tplT.Rd w cs.toList t) (h' : instT.Rd w cs'.toList x) {n : Int} :
    Calls Try.prog 32 #[.agg cs, .agg cs', .int .i64 n] w (RetAC frmT w (ifrV t x n) (ifrC t x n)) := by
  have HT0 := Lib.hid h
  have HX0 := Lib.hid h'
  obtain ⟨v1, hv, hI, -⟩ := pair_ex h
  obtain rfl := agg_of hv
  obtain ⟨v2, hv', hI', hxx⟩ := pair_ex h'
  obtain rfl := agg_of hv'
  obtain ⟨ax, nx, cx, rfl⟩ := rd_sl hxx
  clear h hv h' hv' hxx
  go_enter Try.func32, Try.ntmps32
  go_wp2_with fail
  generalize hW : World.alloc _ _ = W
  have hbW : Below w.heap.size w W := hW ▸ ((bAA (w := w)).alloc (by simp; omega) _)
  have hsW : W.heap.size = w.heap.size + 3 := by rw [← hW]; simp
  have x0 : W.cell? ⟨w.heap.size + 1, 0, none⟩ = some (.int .i64 x.1) := by rw [← hW]; simp [go_sem]
  have x1 : W.cell? ⟨w.heap.size + 1, 1, none⟩ = some (.slice ax nx cx) := by rw [← hW]; simp [go_sem]
  have r0 : W.cell? ⟨w.heap.size + 2, 0, none⟩ = some (.int .i64 0) := by rw [← hW]; simp [go_sem]
  have r1 : W.cell? ⟨w.heap.size + 2, 1, none⟩ = some (.int .i64 0) := by rw [← hW]; simp [go_sem]
  have r2 : W.cell? ⟨w.heap.size + 2, 2, none⟩ = some (.slice none 0 0) := by rw [← hW]; simp [go_sem]
  have m0 : W.frozen? ⟨w.heap.size + 2, 0, none⟩ = false := by rw [← hW]; simp [go_sem]
  have m1 : W.frozen? ⟨w.heap.size + 2, 1, none⟩ = false := by rw [← hW]; simp [go_sem]
  have m2 : W.frozen? ⟨w.heap.size + 2, 2, none⟩ = false := by rw [← hW]; simp [go_sem]
  clear hW
  refine (ValidInstance_any _ (HT0.out.below hbW) (HX0.out.below hbW)).mono ?_
  rintro e w1 ⟨rfl, hb1⟩
  have hz1 := hb1.size
  have hB1 := bthen hbW hb1
  replace x0 := (cellB hb1 (by omega)).trans x0
  replace x1 := (cellB hb1 (by omega)).trans x1
  replace r0 := (cellB hb1 (by omega)).trans r0
  replace r1 := (cellB hb1 (by omega)).trans r1
  replace r2 := (cellB hb1 (by omega)).trans r2
  replace m0 := (frozenB hb1 (by omega)).trans m0
  replace m1 := (frozenB hb1 (by omega)).trans m1
  replace m2 := (frozenB hb1 (by omega)).trans m2
  cases hT : tb (instOk t x)
  · have HR := Lib.hid (ifr_1 (n := n) hT)
    clear hT
    go_wp2_with fail
    obtain ⟨g0, g1, g2⟩ := set3_cells (x := .int .i64 0) (y := .int .i64 0) (z := .slice none 0 0) r0 r1 r2
    refine bodyPost_ret (v := .tuple #[.agg #[.int .i64 0, .int .i64 0, .slice none 0 0], .int .i64 1]) (by simp [results, Try.results32, go_sem, g0, g1, g2]) rfl ⟨[.int .i64 0, .int .i64 0, .slice none 0 0], by rw [HR.out.2], by rw [HR.out.1]; exact fr_frm0, set3_below hB1 (by omega)⟩
  go_wp2_with fail
  refine (isArity_any _ _).mono ?_
  rintro e _ ⟨rfl, rfl⟩
  cases hA : inB n 1 4
  · have HR := Lib.hid (ifr_2 hT hA)
    clear hT hA
    go_wp2_with fail
    obtain ⟨g0, g1, g2⟩ := set3_cells (x := .int .i64 0) (y := .int .i64 0) (z := .slice none 0 0) r0 r1 r2
    refine bodyPost_ret (v := .tuple #[.agg #[.int .i64 0, .int .i64 0, .slice none 0 0], .int .i64 2]) (by simp [results, Try.results32, go_sem, g0, g1, g2]) rfl ⟨[.int .i64 0, .int .i64 0, .slice none 0 0], by rw [HR.out.2], by rw [HR.out.1]; exact fr_frm0, set3_below hB1 (by omega)⟩
  rcases ilt x.1 n with hG | hG
  · have HR := Lib.hid (ifr_3 hT hA hG)
    clear hT hA
    go_wp2_with fail
    obtain ⟨g0, g1, g2⟩ := set3_cells (x := .int .i64 0) (y := .int .i64 0) (z := .slice none 0 0) r0 r1 r2
    refine bodyPost_ret (v := .tuple #[.agg #[.int .i64 0, .int .i64 0, .slice none 0 0], .int .i64 2]) (by simp [results, Try.results32, go_sem, g0, g1, g2]) rfl ⟨[.int .i64 0, .int .i64 0, .slice none 0 0], by rw [HR.out.2], by rw [HR.out.1]; exact fr_frm0, set3_below hB1 (by omega)⟩
  have HR := Lib.hid (ifr_0 hT hA hG)
  obtain ⟨k1, k2⟩ := inst_bd2 hT
  have K2 := Lib.hid k2
  have hA2 := inB_true.1 hA
  have hlt1 : w.heap.size + 1 < w1.heap.size := by omega
  clear hT hA k2
  go_wp2_with fail
  generalize hW : World.alloc _ _ = wa
  have hba : Below w1.heap.size w1 wa := hW ▸ bA
  have hsa : wa.heap.size = w1.heap.size + 1 := by rw [← hW]; simp
  have y0 : wa.cell? ⟨w1.heap.size, 0, none⟩ = some (.int .i64 n) := by rw [← hW]; simp
  have y1 : wa.cell? ⟨w1.heap.size, 1, none⟩ = some (.int .i64 x.1) := by rw [← hW]; simp
  have y2 : wa.cell? ⟨w1.heap.size, 2, none⟩ = some (.slice none 0 0) := by rw [← hW]; simp
  have n2 : wa.frozen? ⟨w1.heap.size, 2, none⟩ = false := by rw [← hW]; simp
  replace r0 := (cellB hba (by omega)).trans r0
  replace r1 := (cellB hba (by omega)).trans r1
  replace r2 := (cellB hba (by omega)).trans r2
  replace m0 := (frozenB hba (by omega)).trans m0
  replace m1 := (frozenB hba (by omega)).trans m1
  replace m2 := (frozenB hba (by omega)).trans m2
  have hBa := bthen hB1 hba
  clear hW x0 x1
  refine (ownInstance_any _ (cs := #[.int .i64 x.1, .slice ax nx cx]) (HX0.out.below hBa) (by omega) K2.out).mono ?_
  rintro e w2 ⟨cs2, rfl, hf2, hb2⟩
  obtain ⟨u2, rfl, hf3⟩ : ∃ u2, cs2 = [.int .i64 x.1, u2] ∧ opsT.Fr wa.heap.size w2 [u2] x.2 := by
    obtain ⟨fp, ⟨cs', rfl, _, hr⟩, hrest⟩ := hf2
    obtain ⟨_, _, rfl, _⟩ := id hr
    exact ⟨_, rfl, fp, hr, hrest⟩
  obtain ⟨VS, hVl, hVe, ⟨a2, c2, rfl, hVc⟩, hVf⟩ := fr_vals hf3
  have hz2 := hb2.size
  replace r0 := (cellB hb2 (by omega)).trans r0
  replace r1 := (cellB hb2 (by omega)).trans r1
  replace r2 := (cellB hb2 (by omega)).trans r2
  replace y0 := (cellB hb2 (by omega)).trans y0
  replace y1 := (cellB hb2 (by omega)).trans y1
  replace y2 := (cellB hb2 (by omega)).trans y2
  replace m0 := (frozenB hb2 (by omega)).trans m0
  replace m1 := (frozenB hb2 (by omega)).trans m1
  replace m2 := (frozenB hb2 (by omega)).trans m2
  replace n2 := (frozenB hb2 (by omega)).trans n2
  have hB2 := bthen hBa hb2
  have HVC := Lib.hid hVc
  have HVE := Lib.hid hVe
  have HVL := Lib.hid hVl
  have HVF := Lib.hid hVf
  have hfld := fieldInst
  clear hf2 hf3 hVc hVe hVl hVf hb2
  go_wp2_with fail
  go_loopw [36] (fun i wr => ∃ (k : Nat) (v : Value), k ≤ x.2.length ∧ i = .int .i64 k ∧ Bl pvT 121 w2.heap.size wr.heap.size wr v (VS.take k) ∧ wr.cell? ⟨w1.heap.size, 2, none⟩ = some v ∧ wr.cell? ⟨w1.heap.size, 0, none⟩ = some (.int .i64 n) ∧ wr.cell? ⟨w1.heap.size, 1, none⟩ = some (.int .i64 x.1) ∧ wr.frozen? ⟨w1.heap.size, 2, none⟩ = false ∧ Below w1.heap.size w2 wr ∧ (∀ b, wa.heap.size ≤ b → b < w2.heap.size → wr.heap[b]? = w2.heap[b]?) ∧ w2.heap.size ≤ wr.heap.size) (fun i _ => x.2.length - (intOf i).toNat)
  case atStart => exact ⟨0, _, Nat.zero_le _, rfl, by simpa using Bl.nil, y2, y0, y1, n2, Below.refl _ _, fun _ _ _ => rfl, Nat.le_refl _⟩
  case round =>
    obtain ⟨k, v, hk, rfl, hBv, z2, z0, z1, z3, hbe, hmid, hse⟩ := hrel
    obtain ⟨av0, nv0, cv0, rfl⟩ := ex_slice (hBv.fr (by rw [List.length_take]; unfold capMax; omega))
    have HBv := Lib.hid hBv
    have HMID := Lib.hid hmid
    clear hBv y0 y1 y2 n2 hmid
    by_cases hkl : k < x.2.length
    · obtain ⟨b, o, rfl, hb, hbb, hce⟩ := HVC.out (by omega)
      have hkv : k < VS.length := by rw [HVL.out]; exact hkl
      obtain ⟨g0, g1⟩ := hce k hkv
      obtain ⟨e1, e2, a, m, c, e3⟩ := HVE.out k hkv hkl
      have HTK := Lib.hid (take_snoc hkv)
      have hVk : VS[k] = ((VS[k]).1, .slice a m c) := by rw [← e3]
      have d0 := (World.cell?_of_block (a := ⟨b, o + k * 2, none⟩) (HMID.out b hbb hb)).trans g0
      have d1 := (World.cell?_of_block (a := ⟨b, o + k * 2 + 1, none⟩) (HMID.out b hbb hb)).trans g1
      rw [e3] at d1
      have HVK := Lib.hid hVk
      have hvl : (VS.take k).length ≤ 1000000000 := by rw [List.length_take]; omega
      have hlw : w1.heap.size < wr.heap.size := by omega
      clear hce g0 g1 e1 e3 hVk
      go_wp2_with (at_builtin; go_loud (refine wpList_push (E := pvT) _ rfl _ _ 55 121 rfl elAtomS rfl (HBv.out.below bAA (Nat.le_refl _)) rfl (news2' (by simp)) (fr_pv (x := .slice a m c) e2 rfl) hvl (by decide) hse (by first | (simp; done) | (simp; omega)) ?_; intro v1 w3 hB3 hg3 _; obtain ⟨a3, n3, c3, rfl⟩ := ex_slice (hB3.fr (by rw [List.length_append]; unfold capMax; simp only [List.length_singleton]; omega)); have hb3 : Below w2.heap.size wr w3 := ((bAA (w := wr)).mono hse).grown hg3 (by first | (simp; done) | (simp; omega)) (fun q hq => HBv.out.own hq); have i2 := (cellB hb3 (by omega)).trans z2; have i0 := (cellB hb3 (by omega)).trans z0; have i1 := (cellB hb3 (by omega)).trans z1; have i3 := (frozenB hb3 (by omega)).trans z3))
      have hz3 := hb3.size
      have hB3' : Bl pvT 121 w2.heap.size w3.heap.size w3 (.slice a3 n3 c3) (VS.take k ++ [VS[k]]) := by rw [HVK.out]; exact hB3
      rw [HTK.out] at hB3'
      have HB3 := Lib.hid hB3'
      have HM3 : Hid (∀ b, wa.heap.size ≤ b → b < w2.heap.size → w3.heap[b]? = w2.heap[b]?) := fun q hq1 hq2 => (hb3.block q hq2).trans (HMID.out q hq1 hq2)
      clear hB3 hB3' hg3
      go_wp2_with fail
      go_roundw
      case rel => exact ⟨k + 1, _, by omega, by go_num, by rw [size_set]; exact HB3.out.sameB (fun q hq1 hq2 => Below.heap_setCell _ _ _ _ (by simp; omega)), World.cell?_setCell_same _ _ _ i2, (World.cell?_setCell_other _ _ _ _ (by simp)).trans i0, (World.cell?_setCell_other _ _ _ _ (by simp)).trans i1, (World.frozen?_setCell _ _ _ _).trans i3, (hbe.trans (hb3.mono (by omega))).setCell (by simp) _, fun q hq1 hq2 => (Below.heap_setCell _ _ _ _ (by simp; omega)).trans (HM3.out q hq1 hq2), by rw [size_set]; omega⟩
      case measure => simp [intOf]; omega
    · obtain rfl : k = x.2.length := by omega
      rw [List.take_of_length_le (by rw [HVL.out]; exact Nat.le_refl _)] at HBv
      have HFO := Lib.hid (HVF.out wr _ HMID.out (HBv.out.fr (by rw [HVL.out]; unfold capMax; omega)) (by omega))
      have hl1 : w1.heap.size < wr.heap.size := by omega
      have hgf : frmT.Fr wa.heap.size wr [.int .i64 n, .int .i64 x.1, .slice av0 nv0 cv0] (ifrF x n) := fr_cons (I64.small (by omega) (by omega)) (fr_cons hI' HFO.out)
      have HGF := Lib.hid hgf
      have hBr : Below w.heap.size w wr := hB2.trans (hbe.mono (by omega))
      replace r0 := (cellB hbe (by omega)).trans r0
      replace r1 := (cellB hbe (by omega)).trans r1
      replace r2 := (cellB hbe (by omega)).trans r2
      replace m0 := (frozenB hbe (by omega)).trans m0
      replace m1 := (frozenB hbe (by omega)).trans m1
      replace m2 := (frozenB hbe (by omega)).trans m2
      clear HVC HVE HMID hgf HFO
      go_wp2_with fail
      refine (limited_any _ (cs := #[.int .i64 n, .int .i64 x.1, .slice av0 nv0 cv0]) HGF.out (by omega)).mono ?_
      rintro e w4 ⟨cs4, rfl, hf4, hb4⟩
      obtain ⟨ad4, cap4, rfl⟩ := fr_trip hf4
      have HF4 := Lib.hid hf4
      have hz4 := hb4.size
      replace r0 := (cellB hb4 (by omega)).trans r0
      replace r1 := (cellB hb4 (by omega)).trans r1
      replace r2 := (cellB hb4 (by omega)).trans r2
      replace m0 := (frozenB hb4 (by omega)).trans m0
      replace m1 := (frozenB hb4 (by omega)).trans m1
      replace m2 := (frozenB hb4 (by omega)).trans m2
      clear hf4 z0 z1 z2 z3
      obtain ⟨g0, g1, g2⟩ := set3_cells (x := .int .i64 (limV (ifrF x n)).1) (y := .int .i64 (limV (ifrF x n)).2.1) (z := .slice ad4 (limV (ifrF x n)).2.2.length cap4) r0 r1 r2
      have hl4 : w.heap.size + 2 < w4.heap.size := by omega
      go_wp2_with fail
      refine bodyPost_ret (v := .tuple #[.agg #[.int .i64 (limV (ifrF x n)).1, .int .i64 (limV (ifrF x n)).2.1, .slice ad4 (limV (ifrF x n)).2.2.length cap4], .int .i64 (limC (ifrF x n))]) (by simp [results, Try.results32, go_sem, g0, g1, g2]) rfl ⟨[.int .i64 (limV (ifrF x n)).1, .int .i64 (limV (ifrF x n)).2.1, .slice ad4 (limV (ifrF x n)).2.2.length cap4], by rw [HR.out.2], ?_, ?_⟩
      · rw [HR.out.1]
        exact (HF4.out.set3 (by omega)).mono (by omega)
      · exact set3_below (bthen hBr hb4) (by omega)
set_option maxHeartbeats 3200000 in
set_option maxRecDepth 100000 in
theorem specInstanceFormula_any (w : World) {cs cs' : Array Value} {t : Int × List (Int × List (List Int))} {x : Int × List (Int × List Int)} (h : tplT.Rd w cs.toList t) (h' : instT.Rd w cs'.toList x) {n : Int} :
    Calls Try.prog 31 #[.agg cs, .agg cs', .int .i64 n] w (RetAC frmT w (ifrV t x n) (ifrC t x n)) := by
  have p0 : tplT.Pt ((w.alloc (.cells cs 34)).alloc (.cells cs' 47)) (.pointer (some ⟨w.heap.size, 0, none⟩)) t := (pt_box h).below bA
  have p1 : instT.Pt ((w.alloc (.cells cs 34)).alloc (.cells cs' 47)) (.pointer (some ⟨w.heap.size + 1, 0, none⟩)) x := by
    simpa using pt_box (T := 47) (h'.below (bA (o := .cells cs 34)))
  obtain ⟨v1, hv, hI, -⟩ := pair_ex h
  obtain rfl := agg_of hv
  obtain ⟨v2, hv', hI', hxx⟩ := pair_ex h'
  obtain rfl := agg_of hv'
  obtain ⟨ax, cx, hvv, -, -, hxc⟩ := pairs_ex hxx
  obtain rfl : v2 = _ := by simpa using hvv
  have HXC := Lib.hid hxc
  clear h hv h' hv' hvv hxx hxc
  go_enter Try.func31, Try.ntmps31
  go_wp2_with fail
  have P0 := p0.below (bA (o := .cells #[.int .i64 0, .int .i64 0, .slice none 0 0] 57))
  have P1 := p1.below (bA (o := .cells #[.int .i64 0, .int .i64 0, .slice none 0 0] 57))
  generalize hW : World.alloc (World.alloc (World.alloc _ _) _) _ = W at P0 P1 ⊢
  have hbW : Below w.heap.size w W := hW ▸ ((bAA (w := w)).alloc (by simp; omega) _)
  have hsW : W.heap.size = w.heap.size + 3 := by rw [← hW]; simp
  have x0 : W.cell? ⟨w.heap.size + 1, 0, none⟩ = some (.int .i64 x.1) := by rw [← hW]; simp [go_sem]
  have x1 : W.cell? ⟨w.heap.size + 1, 1, none⟩ = some (.slice ax x.2.length cx) := by rw [← hW]; simp [go_sem]
  have r0 : W.cell? ⟨w.heap.size + 2, 0, none⟩ = some (.int .i64 0) := by rw [← hW]; simp [go_sem]
  have r1 : W.cell? ⟨w.heap.size + 2, 1, none⟩ = some (.int .i64 0) := by rw [← hW]; simp [go_sem]
  have r2 : W.cell? ⟨w.heap.size + 2, 2, none⟩ = some (.slice none 0 0) := by rw [← hW]; simp [go_sem]
  have m0 : W.frozen? ⟨w.heap.size + 2, 0, none⟩ = false := by rw [← hW]; simp [go_sem]
  have m1 : W.frozen? ⟨w.heap.size + 2, 1, none⟩ = false := by rw [← hW]; simp [go_sem]
  have m2 : W.frozen? ⟨w.heap.size + 2, 2, none⟩ = false := by rw [← hW]; simp [go_sem]
  clear hW p0 p1
  refine (l05Ok_quiet _ P0 P1).mono ?_
  rintro e w1 ⟨rfl, hq1⟩
  have hb1 := hq1.below
  have hz1 := hb1.size
  have hB1 := bthen hbW hb1
  replace x0 := (cellB hb1 (by omega)).trans x0
  replace x1 := (cellB hb1 (by omega)).trans x1
  replace r0 := (cellB hb1 (by omega)).trans r0
  replace r1 := (cellB hb1 (by omega)).trans r1
  replace r2 := (cellB hb1 (by omega)).trans r2
  replace m0 := (frozenB hb1 (by omega)).trans m0
  replace m1 := (frozenB hb1 (by omega)).trans m1
  replace m2 := (frozenB hb1 (by omega)).trans m2
  clear hq1 P0 P1
  cases hT : tb (instOk t x)
  · have HR := Lib.hid (ifr_1 (n := n) hT)
    clear hT
    go_wp2_with fail
    obtain ⟨g0, g1, g2⟩ := set3_cells (x := .int .i64 0) (y := .int .i64 0) (z := .slice none 0 0) r0 r1 r2
    refine bodyPost_ret (v := .tuple #[.agg #[.int .i64 0, .int .i64 0, .slice none 0 0], .int .i64 1]) (by simp [results, Try.results31, go_sem, g0, g1, g2]) rfl ⟨[.int .i64 0, .int .i64 0, .slice none 0 0], by rw [HR.out.2], by rw [HR.out.1]; exact fr_frm0, set3_below hB1 (by omega)⟩
  go_wp2_with fail
  refine (l01Arity_any _ _).mono ?_
  rintro e _ ⟨rfl, rfl⟩
  cases hA : inB n 1 4
  · have HR := Lib.hid (ifr_2 hT hA)
    clear hT hA
    go_wp2_with fail
    obtain ⟨g0, g1, g2⟩ := set3_cells (x := .int .i64 0) (y := .int .i64 0) (z := .slice none 0 0) r0 r1 r2
    refine bodyPost_ret (v := .tuple #[.agg #[.int .i64 0, .int .i64 0, .slice none 0 0], .int .i64 2]) (by simp [results, Try.results31, go_sem, g0, g1, g2]) rfl ⟨[.int .i64 0, .int .i64 0, .slice none 0 0], by rw [HR.out.2], by rw [HR.out.1]; exact fr_frm0, set3_below hB1 (by omega)⟩
  rcases ilt x.1 n with hG | hG
  · have HR := Lib.hid (ifr_3 hT hA hG)
    clear hT hA
    go_wp2_with fail
    obtain ⟨g0, g1, g2⟩ := set3_cells (x := .int .i64 0) (y := .int .i64 0) (z := .slice none 0 0) r0 r1 r2
    refine bodyPost_ret (v := .tuple #[.agg #[.int .i64 0, .int .i64 0, .slice none 0 0], .int .i64 2]) (by simp [results, Try.results31, go_sem, g0, g1, g2]) rfl ⟨[.int .i64 0, .int .i64 0, .slice none 0 0], by rw [HR.out.2], by rw [HR.out.1]; exact fr_frm0, set3_below hB1 (by omega)⟩
  have HR := Lib.hid (ifr_0 hT hA hG)
  obtain ⟨k1, k2⟩ := inst_bd2 hT
  have K2 := Lib.hid k2
  have hA2 := inB_true.1 hA
  have hlt1 : w.heap.size + 1 < w1.heap.size := by omega
  clear hT hA k2
  go_wp2_with fail
  generalize hW : World.alloc _ _ = wa
  have hba : Below w1.heap.size w1 wa := hW ▸ bA
  have hsa : wa.heap.size = w1.heap.size + 1 := by rw [← hW]; simp
  have y0 : wa.cell? ⟨w1.heap.size, 0, none⟩ = some (.int .i64 n) := by rw [← hW]; simp
  have y1 : wa.cell? ⟨w1.heap.size, 1, none⟩ = some (.int .i64 x.1) := by rw [← hW]; simp
  have y2 : wa.cell? ⟨w1.heap.size, 2, none⟩ = some (.slice none 0 0) := by rw [← hW]; simp
  have n2 : wa.frozen? ⟨w1.heap.size, 2, none⟩ = false := by rw [← hW]; simp
  replace x1 := (cellB hba (by omega)).trans x1
  replace r0 := (cellB hba (by omega)).trans r0
  replace r1 := (cellB hba (by omega)).trans r1
  replace r2 := (cellB hba (by omega)).trans r2
  replace m0 := (frozenB hba (by omega)).trans m0
  replace m1 := (frozenB hba (by omega)).trans m1
  replace m2 := (frozenB hba (by omega)).trans m2
  have hBa := bthen hB1 hba
  clear hW x0
  go_loopw [9] (fun i wr => ∃ (k : Nat) (v : Value), k ≤ x.2.length ∧ i = .int .i64 k ∧ Bl opT 121 (w1.heap.size + 1) wr.heap.size wr v (x.2.take k) ∧ wr.cell? ⟨w1.heap.size, 2, none⟩ = some v ∧ wr.cell? ⟨w1.heap.size, 0, none⟩ = some (.int .i64 n) ∧ wr.cell? ⟨w1.heap.size, 1, none⟩ = some (.int .i64 x.1) ∧ wr.frozen? ⟨w1.heap.size, 2, none⟩ = false ∧ Below w1.heap.size wa wr ∧ w1.heap.size + 1 ≤ wr.heap.size) (fun i _ => x.2.length - (intOf i).toNat)
  case atStart => exact ⟨0, _, Nat.zero_le _, rfl, by simpa using Bl.nil, y2, y0, y1, n2, Below.refl _ _, by omega⟩
  case round =>
    obtain ⟨k, v, hk, rfl, hBv, z2, z0, z1, z3, hbe, hse⟩ := hrel
    obtain ⟨av0, nv0, cv0, rfl⟩ := ex_slice (hBv.fr (by rw [take_len hk]; unfold capMax; omega))
    have HBv := Lib.hid hBv
    have hbw : Below w.heap.size w wr := hBa.trans (hbe.mono (by omega))
    have xx1 := (cellB hbe (by omega)).trans x1
    clear hBv y0 y1 y2 n2
    by_cases hkl : k < x.2.length
    · obtain ⟨b, o, rfl, hb, hce⟩ := HXC.out (by omega)
      obtain ⟨uk, huk, hIk, g0, g1⟩ := hce k hkl
      obtain ⟨ak, nk, ck, rfl⟩ := rd_sl huk
      have d0 := (hbw.cell hb).trans g0
      have d1 := (hbw.cell hb).trans g1
      have HU := Lib.hid (huk.below hbw)
      have hlk := K2.out _ (List.getElem_mem hkl)
      have HTK := Lib.hid (take_snoc hkl)
      have hbl : b < wr.heap.size := by omega
      have hl1 : w.heap.size + 1 < wr.heap.size := by omega
      have hl2 : w1.heap.size < wr.heap.size := by omega
      clear hce huk g0 g1 x1
      go_wp2_with fail
      refine wp_region_T (fun w' => w'.cell? ⟨w1.heap.size, 2, none⟩ = some (.slice av0 nv0 cv0) ∧ w'.cell? ⟨w.heap.size + 1, 1, none⟩ = some (.slice (some ⟨b, o, none⟩) x.2.length cx) ∧ w'.cell? ⟨b, o + k * 2, none⟩ = some (.int .i64 (x.2[k]).1) ∧ w'.cell? ⟨b, o + k * 2 + 1, none⟩ = some (.slice ak nk ck)) [17, 19] (by kernel_rfl) ⟨z2, xx1, d0, d1⟩ (fun hHeld => ?_)
      refine wpAnyT_take (i := 0) (v := ?_) rfl (by kernel_rfl) (fun _ _ _ h => h) (Or.inl ⟨by rfl, ?_⟩) (by assumption) ?_
      rotate_left
      · (intro w hSw; (try dsimp only at hSw); go_simp <;> with_reducible rfl)
      try simp only [Act.put]
      refine wpAnyT_take (i := 1) (v := ?_) rfl (by kernel_rfl) (fun _ _ _ h => h) (Or.inl ⟨by rfl, ?_⟩) (by assumption) ?_
      rotate_left
      · (intro w hSw; (try dsimp only at hSw); go_simp <;> with_reducible rfl)
      try simp only [Act.put]
      refine wpAnyT_take (i := 2) (v := ?_) rfl (by kernel_rfl) (fun _ _ _ h => h) (Or.inl ⟨by rfl, ?_⟩) (by assumption) ?_
      rotate_left
      · (intro w hSw; (try dsimp only at hSw); go_simp <;> with_reducible rfl)
      try simp only [Act.put]
      refine wpAnyT_take (i := 3) (v := ?_) rfl (by kernel_rfl) (fun _ _ _ h => h) (Or.inl ⟨by rfl, ?_⟩) (by assumption) ?_
      rotate_left
      · (intro w hSw; (try dsimp only at hSw); go_simp <;> with_reducible rfl)
      try simp only [Act.put]
      refine wpAnyT_take (i := 4) (v := ?_) rfl (by kernel_rfl) (fun _ _ _ h => h) (Or.inl ⟨by rfl, ?_⟩) (by assumption) ?_
      rotate_left
      · (intro w hSw; (try dsimp only at hSw); go_simp <;> with_reducible rfl)
      try simp only [Act.put]
      refine wpAnyT_take (i := 5) (v := ?_) rfl (by kernel_rfl) (fun _ _ _ h => h) (Or.inl ⟨by rfl, ?_⟩) (by assumption) ?_
      rotate_left
      · (intro w hSw; (try dsimp only at hSw); go_simp <;> with_reducible rfl)
      try simp only [Act.put]
      refine wpAnyT_take (i := 6) (v := ?_) rfl (by kernel_rfl) (fun _ _ _ h => h) (Or.inl ⟨by rfl, ?_⟩) (by assumption) ?_
      rotate_left
      · (intro w hSw; (try dsimp only at hSw); go_simp <;> with_reducible rfl)
      try simp only [Act.put]
      refine wpAnyT_take (i := 7) (v := ?_) rfl (by kernel_rfl) (fun _ _ _ h => h) (Or.inl ⟨by rfl, ?_⟩) (by assumption) ?_
      rotate_left
      · (intro w hSw; (try dsimp only at hSw); go_simp <;> with_reducible rfl)
      try simp only [Act.put]
      refine wpAnyT_take (i := 8) (v := ?_) rfl (by kernel_rfl) (fun _ _ _ h => h) (Or.inl ⟨by rfl, ?_⟩) (by assumption) ?_
      rotate_left
      · (intro w hSw; (try dsimp only at hSw); go_simp <;> with_reducible rfl)
      try simp only [Act.put]
      refine wpAnyT_take (i := 9) (v := ?_) rfl (by kernel_rfl) (fun _ _ _ h => h) (Or.inl ⟨by rfl, ?_⟩) (by assumption) ?_
      rotate_left
      · (intro w hSw; (try dsimp only at hSw); go_simp <;> with_reducible rfl)
      try simp only [Act.put]
      refine wpAnyT_take (i := 10) (v := ?_) rfl (by kernel_rfl) (fun _ _ _ h => h) (Or.inl ⟨by rfl, ?_⟩) (by assumption) ?_
      rotate_left
      · (intro w hSw; (try dsimp only at hSw); go_simp <;> with_reducible rfl)
      try simp only [Act.put]
      refine wpAnyT_take (i := 11) (v := ?_) rfl (by kernel_rfl) (fun _ _ _ h => h) (Or.inl ⟨by rfl, ?_⟩) (by assumption) ?_
      rotate_left
      · (intro w hSw; (try dsimp only at hSw); go_simp <;> with_reducible rfl)
      try simp only [Act.put]
      refine wpAnyT_take (i := 12) (v := ?_) rfl (by kernel_rfl) (fun _ _ _ h => h) (Or.inl ⟨by rfl, ?_⟩) (by assumption) ?_
      rotate_left
      · (intro w hSw; (try dsimp only at hSw); go_simp <;> with_reducible rfl)
      try simp only [Act.put]
      refine wpAnyT_take (i := 13) (v := ?_) rfl (by kernel_rfl) (fun _ _ _ h => h) (Or.inl ⟨by rfl, ?_⟩) (by assumption) ?_
      rotate_left
      · (intro w hSw; (try dsimp only at hSw); go_simp <;> with_reducible rfl)
      try simp only [Act.put]
      refine wpAnyT_one (i := 14) rfl (by kernel_rfl) (fun K hK => ?_)
      go_simp
      go_at_call 91
      refine (l00Own_any _ (HU.out.below bD) hlk).mono ?_
      rintro e w2 ⟨u2, rfl, hB2, hb2⟩
      have hf := hB2.fr (by unfold capMax; omega)
      obtain ⟨a2, n2, c2, rfl⟩ := ex_slice hf
      have HF := Lib.hid hf
      have hb2' : Below wr.heap.size wr w2 := bthen bD hb2
      replace z2 := (cellB hb2' (by omega)).trans z2
      replace xx1 := (cellB hb2' (by omega)).trans xx1
      replace d0 := (cellB hb2' (by omega)).trans d0
      replace d1 := (cellB hb2' (by omega)).trans d1
      replace z0 := (cellB hb2' (by omega)).trans z0
      replace z1 := (cellB hb2' (by omega)).trans z1
      replace z3 := (frozenB hb2' (by omega)).trans z3
      have hz2 := hb2'.size
      clear hf hB2 hb2
      dsimp only
      refine hK.out _ _ ⟨z2, xx1, d0, d1⟩ (fun hHeld => ?_)
      clear hK K
      refine wpAnyT_take (i := 15) (v := ?_) rfl (by kernel_rfl) (fun _ _ _ h => h) (Or.inl ⟨by rfl, ?_⟩) (by assumption) ?_
      rotate_left
      · (intro w hSw; (try dsimp only at hSw); go_simp <;> with_reducible rfl)
      try simp only [Act.put]
      refine wpAnyT_one (i := 16) rfl (by kernel_rfl) (fun K hK => ?_)
      go_simp
      refine hK.out _ _ ⟨by go_keep, by go_keep, by go_keep, by go_keep⟩ (fun hHeld => ?_)
      clear hK K
      refine wpAnyT_last (i := 17) rfl (by kernel_rfl) (by kernel_rfl) (fun K hK => ?_)
      refine step_push (E := opT) _ rfl _ _ 55 121 rfl elAtomS rfl (HBv.out.below (hb2'.alloc hb2'.size _) (Nat.le_refl _)) rfl news2 ((fr_cons hIk (HF.out.below bA)).mono (by have := (bD (w := wr)).size; omega)) (by rw [take_len hk]; omega) (by decide) hse (by simp; omega) ?_
      intro v1 w3 hB3 hg3 _
      have hB3' : Bl opT 121 (w1.heap.size + 1) w3.heap.size w3 v1 (x.2.take k ++ [x.2[k]]) := hB3
      rw [HTK.out] at hB3'
      have hb3 : Below (w1.heap.size + 1) w2 w3 := ((Below.refl _ w2).alloc (by omega) _).grown hg3 (by simp; omega) (fun q hq => HBv.out.own hq)
      have i2 := (cellB hb3 (by omega)).trans z2
      have i0 := (cellB hb3 (by omega)).trans z0
      have i1 := (cellB hb3 (by omega)).trans z1
      have i3 := (frozenB hb3 (by omega)).trans z3
      have hz3 := hb3.size
      have HB3 := Lib.hid hB3'
      obtain ⟨a3, n3, c3, rfl⟩ := ex_slice (hB3'.fr (by rw [take_len hkl]; unfold capMax; omega))
      clear hB3 hB3' hg3 z2 xx1 d0 d1 z0 z1 z3
      refine hK.out _ _ ?_
      clear hK K
      refine wpAnyT_any (i := 18) (v := ?_) rfl (by kernel_rfl) (fun _ _ _ h => h) (Or.inl ⟨by rfl, ?_⟩) (by first | exact fun _ => by assumption | (intro hp; exact absurd hp (by rw [show pastB _ _ = true by kernel_rfl]; simp))) ?_
      rotate_left
      · (intro w hSw; (try dsimp only at hSw); go_simp <;> with_reducible rfl)
      try simp only [Act.put]
      refine wpAnyT_last (i := 19) rfl (by kernel_rfl) (by kernel_rfl) (fun K hK => ?_)
      go_simp
      refine hK.out _ _ ?_
      clear hK K
      refine wpAnyT_done (by kernel_rfl) ?_ _
      go_simp
      go_wp2_with fail
      go_roundw
      case rel => exact ⟨k + 1, _, by omega, by go_num, by rw [size_set]; exact HB3.out.sameB (fun q hq1 hq2 => Below.heap_setCell _ _ _ _ (by simp; omega)), World.cell?_setCell_same _ _ _ i2, (World.cell?_setCell_other _ _ _ _ (by simp)).trans i0, (World.cell?_setCell_other _ _ _ _ (by simp)).trans i1, (World.frozen?_setCell _ _ _ _).trans i3, (hbe.trans ((hb2'.mono (by omega)).trans (hb3.mono (by omega)))).setCell (by simp) _, by rw [size_set]; omega⟩
      case measure => simp [intOf]; omega
    · obtain rfl : k = x.2.length := by omega
      rw [List.take_length] at HBv
      have hfo := HBv.out.fr (by unfold capMax; omega)
      have HGF : Hid (frmT.Fr (w1.heap.size + 1) wr [.int .i64 n, .int .i64 x.1, .slice av0 nv0 cv0] (ifrF x n)) := fr_cons (I64.small (by omega) (by omega)) (fr_cons hI' hfo)
      have hl1 : w.heap.size + 1 < wr.heap.size := by omega
      have hl2 : w1.heap.size < wr.heap.size := by omega
      replace r0 := (cellB hbe (by omega)).trans r0
      replace r1 := (cellB hbe (by omega)).trans r1
      replace r2 := (cellB hbe (by omega)).trans r2
      replace m0 := (frozenB hbe (by omega)).trans m0
      replace m1 := (frozenB hbe (by omega)).trans m1
      replace m2 := (frozenB hbe (by omega)).trans m2
      clear hfo HXC x1
      go_wp2_with fail
      refine (l03Told_any _ (cs := #[.int .i64 n, .int .i64 x.1, .slice av0 nv0 cv0]) HGF.out (by omega)).mono ?_
      rintro e w4 ⟨cs4, rfl, hf4, hb4⟩
      obtain ⟨ad4, cap4, rfl⟩ := fr_trip hf4
      have HF4 := Lib.hid hf4
      have hz4 := hb4.size
      replace r0 := (cellB hb4 (by omega)).trans r0
      replace r1 := (cellB hb4 (by omega)).trans r1
      replace r2 := (cellB hb4 (by omega)).trans r2
      replace m0 := (frozenB hb4 (by omega)).trans m0
      replace m1 := (frozenB hb4 (by omega)).trans m1
      replace m2 := (frozenB hb4 (by omega)).trans m2
      clear hf4 z0 z1 z2 z3 xx1
      obtain ⟨g0, g1, g2⟩ := set3_cells (x := .int .i64 (limV (ifrF x n)).1) (y := .int .i64 (limV (ifrF x n)).2.1) (z := .slice ad4 (limV (ifrF x n)).2.2.length cap4) r0 r1 r2
      have hl4 : w.heap.size + 2 < w4.heap.size := by omega
      go_wp2_with fail
      refine bodyPost_ret (v := .tuple #[.agg #[.int .i64 (limV (ifrF x n)).1, .int .i64 (limV (ifrF x n)).2.1, .slice ad4 (limV (ifrF x n)).2.2.length cap4], .int .i64 (limC (ifrF x n))]) (by simp [results, Try.results31, go_sem, g0, g1, g2]) rfl ⟨[.int .i64 (limV (ifrF x n)).1, .int .i64 (limV (ifrF x n)).2.1, .slice ad4 (limV (ifrF x n)).2.2.length cap4], by rw [HR.out.2], ?_, ?_⟩
      · rw [HR.out.1]
        exact (HF4.out.set3 (by omega)).mono (by omega)
      · exact set3_below (bthen hbw hb4) (by omega)
end Go.Proofs.Ytigclobkmocfkaa
