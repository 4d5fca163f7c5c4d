/-
  Contracts: whether two formulas say the same, both sides.
-/
import Derived.Test.YtbpjejhjlmpcjaaS14
import Derived.Test.YtbpjejhjlmpcjaaKL
namespace Go.Proofs.Ytbpjejhjlmpcjaa
open Go.RowKit Go.Sort
set_option maxHeartbeats 3200000 in
set_option maxRecDepth 100000 in
theorem l01Same_quiet (w : World) {va vb : Value} {r q : Int × List (List Int)} (h1 : relT.Pt w va r) (h2 : relT.Pt w vb q) :
    Calls Try.prog 75 #[va, vb] w fun e w' => e = .returned (.bool (eqB r q)) ∧ Quiet w w' := by
  obtain ⟨b1, o1, a1, c1, rfl, hb1, -, p0, p1, hr1⟩ := pt_pair h1
  obtain ⟨b2, o2, a2, c2, rfl, hb2, -, q0, q1, hr2⟩ := pt_pair h2
  have HR1 := Lib.hid hr1
  have HR2 := Lib.hid hr2
  have hle1 : r.2.length ≤ 140737488351232 := by obtain ⟨_, _, he, _, h, _⟩ := slices_ex hr1; exact h
  have hle2 : q.2.length ≤ 140737488351232 := by obtain ⟨_, _, he, _, h, _⟩ := slices_ex hr2; exact h
  clear h1 h2 hr1 hr2
  cases hA : (r.1 != q.1)
  rotate_left
  · have HE : Hid (eqB r q = false) := eqB_fst (by simpa using hA)
    go_enter Try.func75, Try.ntmps75
    go_wp2_with fail
    go_quiet (fail)
    go_wp2_with fail
    go_ret
    exact ⟨ret_bool HE.out.symm, Quiet.drewN _ _⟩
  have hA' : r.1 = q.1 := by simpa using hA
  cases hL : ((r.2.length : Int) != (q.2.length : Int))
  rotate_left
  · have HE : Hid (eqB r q = false) := by
      unfold Hid
      refine eqB_snd hA' (eqB_len ?_)
      have : (r.2.length : Int) ≠ (q.2.length : Int) := by simpa using hL
      omega
    go_enter Try.func75, Try.ntmps75
    go_wp2_with fail
    go_quiet (fail)
    go_wp2_with fail
    go_ret
    exact ⟨ret_bool HE.out.symm, Quiet.drewN _ _⟩
  have hL' : r.2.length = q.2.length := by have : (r.2.length : Int) = (q.2.length : Int) := by simpa using hL
                                           omega
  have HLL := Lib.hid hL'
  have HA := Lib.hid hA'
  clear hA' hL'
  go_enter Try.func75, Try.ntmps75
  go_wp2_with fail
  go_quiet (fail)
  rename_i nq
  generalize hWq : w.drewN nq = wq
  have hq0 : Quiet w wq := ⟨nq, hWq.symm⟩
  have hbq := hq0.below
  replace p1 := (cellB hbq (by omega)).trans p1
  replace q1 := (cellB hbq (by omega)).trans q1
  have hzq := hbq.size
  have HS1 := Lib.hid (HR1.out.below hbq)
  have HS2 := Lib.hid (HR2.out.below hbq)
  clear hWq p0 q0 hA hL
  go_wp2_with fail
  obtain ⟨wz, rfl⟩ : ∃ wz : World, wz = wq := ⟨_, rfl⟩
  go_loopw [5] (fun i wr => ∃ k : Nat, k ≤ r.2.length ∧ i = .int .i64 k ∧ r.2.take k = q.2.take k ∧ Quiet wz wr) (fun i _ => r.2.length - (intOf i).toNat)
  case atStart => exact ⟨0, Nat.zero_le _, rfl, by simp, Quiet.refl _⟩
  case round =>
    obtain ⟨k, hk, rfl, htk, hq⟩ := hrel
    have HTK := Lib.hid htk
    have hbe := hq.below
    have d1 := (cellB hbe (show b1 < wz.heap.size by omega)).trans p1
    have d2 := (cellB hbe (show b2 < wz.heap.size by omega)).trans q1
    clear htk
    by_cases hkl : k < r.2.length
    · have hkl2 : k < q.2.length := by have := HLL.out; omega
      obtain ⟨_, _, e1, -, -, hc1⟩ := slices_ex HS1.out
      simp only [List.cons.injEq, Value.slice.injEq, and_true, true_and] at e1
      obtain ⟨rfl, rfl⟩ := e1
      obtain ⟨_, _, e2, -, -, hc2⟩ := slices_ex HS2.out
      simp only [List.cons.injEq, Value.slice.injEq, and_true, true_and] at e2
      obtain ⟨rfl, rfl⟩ := e2
      obtain ⟨ba, oa, rfl, hba, hca⟩ := hc1 (by omega)
      obtain ⟨bb, ob, rfl, hbb, hcb⟩ := hc2 (by omega)
      obtain ⟨u1, hu1, g1⟩ := hca k hkl
      obtain ⟨u2, hu2, g2⟩ := hcb k hkl2
      obtain ⟨x1, y1, rfl⟩ := rd_slice hu1
      obtain ⟨x2, y2, rfl⟩ := rd_slice hu2
      have s1 := (cellB hbe hba).trans g1
      have s2 := (cellB hbe hbb).trans g2
      have cS : ∀ n, Calls Try.prog 119 #[.slice x1 (r.2[k]).length y1, .slice x2 (q.2[k]).length y2] (wr.drewN n) fun e w'' => e = .returned (.bool (eqB r.2[k] q.2[k])) ∧ ∃ m, w'' = wr.drewN m := fun n => quiet_call (l00Same_quiet _ ((hu1.below hbe).below (Quiet.drewN wr n).below) ((hu2.below hbe).below (Quiet.drewN wr n).below))
      clear hc1 hc2 hca hcb hu1 hu2 g1 g2
      cases he : eqB r.2[k] q.2[k]
      · have HE : Hid (eqB r q = false) := by
          unfold Hid
          have hne : r.2[k] ≠ q.2[k] := fun e => by rw [eqB_true e] at he; cases he
          exact eqB_snd HA.out (eqB_get hkl hkl2 hne)
        rw [he] at cS
        clear he
        go_wp2_with fail
        go_quiet (exact cS _)
        go_wp2_with fail
        go_ret
        exact ⟨ret_bool HE.out.symm, (hq0.then hq).then (Quiet.drewN _ _)⟩
      · have HN := Lib.hid (take_eq_succ hkl hkl2 HTK.out (eqB_iff.1 he))
        rw [he] at cS
        clear he
        go_wp2_with fail
        go_quiet (exact cS _)
        go_wp2_with fail
        go_roundw
        case rel => exact ⟨k + 1, by omega, by go_num, HN.out, hq.then (Quiet.drewN _ _)⟩
        case measure => simp [intOf]; omega
    · obtain rfl : k = r.2.length := by omega
      have HE : Hid (eqB r q = true) := by
        unfold Hid
        refine eqB_true (Prod.ext HA.out ?_)
        have h1 := HTK.out
        have h2 := HLL.out
        rw [List.take_of_length_le (Nat.le_refl _), List.take_of_length_le (by omega)] at h1
        exact h1
      go_wp2_with fail
      go_ret
      exact ⟨ret_bool HE.out.symm, hq0.then hq⟩
set_option maxHeartbeats 3200000 in
set_option maxRecDepth 100000 in
theorem AreEquivalent_any (w : World) {cs cf cg : Array Value} {t : Int × List (Int × List (List Int))} {f g : Int × Int × List (Int × List Int)} (h : tplT.Rd w cs.toList t) (hf : frmT.Rd w cf.toList f) (hg : frmT.Rd w cg.toList g) :
    Calls Try.prog 45 #[.agg cs, .agg cf, .agg cg] w fun e w' => e = .returned (.tuple #[.bool (aeB t f g), .int .i64 (twoC t f g)]) ∧ Below w.heap.size w w' := by
  have HT := Lib.hid h
  have HF := Lib.hid hf
  have HG := Lib.hid hg
  obtain ⟨v1, hv1, hI, -⟩ := pair_ex h
  obtain rfl := agg_of hv1
  obtain ⟨v2, hv2, hIf, hIf2, -⟩ := trip_ex hf
  obtain rfl := agg_of hv2
  obtain ⟨v3, hv3, hIg, hIg2, -⟩ := trip_ex hg
  obtain rfl := agg_of hv3
  clear h hf hg hv1 hv2 hv3
  go_enter Try.func45, Try.ntmps45
  go_wp2_with fail
  generalize hW : World.alloc _ _ = W
  have hbW : Below w.heap.size w W := hW ▸ ((bAA (w := w)).alloc (by simp; omega) _)
  clear hW
  refine (FirstApart_any _ (cs := #[.int .i64 t.1, v1]) (cf := #[.int .i64 f.1, .int .i64 f.2.1, v2]) (cg := #[.int .i64 g.1, .int .i64 g.2.1, v3]) (HT.out.below hbW) (HF.out.below hbW) (HG.out.below hbW)).mono ?_
  rintro e w1 ⟨u, rfl, hf1, hb1⟩
  obtain ⟨ua, un, uc, rfl⟩ := ex_slice hf1
  have hB1 := bthen hbW hb1
  clear hf1
  cases hc : (twoC t f g == 0)
  · have hc' : twoC t f g ≠ 0 := by simpa using hc
    have HR := Lib.hid (fa_no hc')
    have hc6 : (twoC t f g == 6) = false := by
      have : twoC t f g ≠ 6 := by
        intro h6
        cases h1 : tb (frmOk t f)
        · rw [two_1 h1] at h6; omega
        cases h2 : tb (frmOk t g)
        · rw [two_2 h1 h2] at h6; omega
        cases h3 : (f.1 != g.1)
        · rw [two_0 h1 h2 h3] at h6; omega
        · rw [two_4 h1 h2 h3] at h6; omega
      exact beq_false_of_ne this
    rw [HR.out.2.1]
    clear hc hc'
    go_wp2_with fail
    go_ret2
    exact ⟨by rw [HR.out.2.2]; rfl, hB1⟩
  · have hc' : twoC t f g = 0 := by simpa using hc
    have HC := Lib.hid hc'
    clear hc
    cases hh : headB (apL t f g)
    · have HR := Lib.hid (fa_none hc' hh)
      rw [HR.out.2.1]
      clear hc' hh
      go_wp2_with fail
      go_ret2
      exact ⟨by rw [HR.out.2.2, HC.out]; rfl, hB1⟩
    · have HR := Lib.hid (fa_yes hc' hh)
      rw [HR.out.2.1]
      clear hc' hh
      go_wp2_with fail
      go_ret2
      exact ⟨by rw [HR.out.2.2, HC.out]; rfl, hB1⟩
set_option maxHeartbeats 3200000 in
set_option maxRecDepth 100000 in
theorem specAreEquivalent_any (w : World) {cs cf cg : Array Value} {t : Int × List (Int × List (List Int))} {f g : Int × Int × List (Int × List Int)} (h : tplT.Rd w cs.toList t) (hf : frmT.Rd w cf.toList f) (hg : frmT.Rd w cg.toList g) :
    Calls Try.prog 44 #[.agg cs, .agg cf, .agg cg] w fun e w' => e = .returned (.tuple #[.bool (aeB t f g), .int .i64 (twoC t f g)]) ∧ Below w.heap.size w w' := by
  have p0 : tplT.Pt (((w.alloc (.cells cs 34)).alloc (.cells cf 67)).alloc (.cells cg 67)) (.pointer (some ⟨w.heap.size, 0, none⟩)) t := ((pt_box h).below bA).below bA
  have p1 : frmT.Pt (((w.alloc (.cells cs 34)).alloc (.cells cf 67)).alloc (.cells cg 67)) (.pointer (some ⟨w.heap.size + 1, 0, none⟩)) f := by
    simpa using (pt_box (T := 67) (hf.below (bA (o := .cells cs 34)))).below (bA (o := .cells cg 67))
  have p2 : frmT.Pt (((w.alloc (.cells cs 34)).alloc (.cells cf 67)).alloc (.cells cg 67)) (.pointer (some ⟨w.heap.size + 2, 0, none⟩)) g := by
    simpa using pt_box (T := 67) (hg.below (bAA (o := .cells cs 34) (o' := .cells cf 67)))
  obtain ⟨v1, hv1, hI, -⟩ := pair_ex h
  obtain rfl := agg_of hv1
  obtain ⟨v2, hv2, hIf, hIf2, -⟩ := trip_ex hf
  obtain rfl := agg_of hv2
  obtain ⟨v3, hv3, hIg, hIg2, -⟩ := trip_ex hg
  obtain rfl := agg_of hv3
  clear h hf hg hv1 hv2 hv3
  go_enter Try.func44, Try.ntmps44
  go_wp2_with fail
  generalize hW : World.alloc _ _ = W at p0 p1 p2 ⊢
  have hbW : Below w.heap.size w W := hW ▸ ((bAA (w := w)).alloc (by simp; omega) _)
  clear hW
  refine (l03Two_quiet _ p0 p1 p2).mono ?_
  rintro e w1 ⟨rfl, hq1⟩
  have hb1 := hq1.below
  have hB1 := bthen hbW hb1
  have P0 := Lib.hid (p0.below hb1)
  have P1 := Lib.hid (p1.below hb1)
  have P2 := Lib.hid (p2.below hb1)
  clear hq1 p0 p1 p2
  cases hc : (twoC t f g != 0)
  rotate_left
  · have HR := Lib.hid (fa_no (show twoC t f g ≠ 0 by simpa using hc))
    go_wp2_with fail
    go_ret2
    exact ⟨by rw [HR.out.2.2]; rfl, hB1⟩
  · have hc0 : twoC t f g = 0 := by simpa using hc
    obtain ⟨hok1, hok2, -⟩ := two_ok hc0
    have HFOK := Lib.hid (tb_iff.1 hok1)
    have HGOK := Lib.hid (tb_iff.1 hok2)
    have HAE : Hid (aeB t f g = eqB (vaR t f) (vaR t g)) := by unfold Hid; simp [aeB, hc0]
    have HC := Lib.hid hc0
    rw [hc0]
    clear hc hok1 hok2 hc0
    go_wp2_with fail
    refine (l03Value_any _ P0.out P1.out HFOK.out).mono ?_
    rintro e w2 ⟨cs2, rfl, hf2, hb2⟩
    obtain ⟨a2, c2, rfl⟩ := fr_pair hf2
    have HF2 := Lib.hid hf2.rd
    have hB2 := bthen hB1 hb2
    clear hf2
    go_wp2_with fail
    have Q1 : relT.Pt (w2.alloc (.cells #[.int .i64 (vaR t f).1, .slice a2 (vaR t f).2.length c2] 88)) (.pointer (some ⟨w2.heap.size, 0, none⟩)) (vaR t f) := pt_box HF2.out
    generalize hWa : World.alloc w2 _ = wa at Q1 ⊢
    have hba : Below w2.heap.size w2 wa := hWa ▸ bA
    have hb2a := bthen hb2 hba
    clear hWa
    refine (l03Value_any _ (P0.out.below hb2a) (P2.out.below hb2a) HGOK.out).mono ?_
    rintro e w3 ⟨cs3, rfl, hf3, hb3⟩
    obtain ⟨a3, c3, rfl⟩ := fr_pair hf3
    have HF3 := Lib.hid hf3.rd
    have hB3 := bthen (bthen hB2 hba) hb3
    have Q1' := Q1.below hb3
    clear hf3 Q1
    go_wp2_with fail
    have Q2 : relT.Pt (w3.alloc (.cells #[.int .i64 (vaR t g).1, .slice a3 (vaR t g).2.length c3] 88)) (.pointer (some ⟨w3.heap.size, 0, none⟩)) (vaR t g) := pt_box HF3.out
    have Q1b := Q1'.below (bA (o := .cells #[.int .i64 (vaR t g).1, .slice a3 (vaR t g).2.length c3] 88))
    generalize hWb : World.alloc w3 _ = wb at Q1b Q2 ⊢
    have hbb : Below w3.heap.size w3 wb := hWb ▸ bA
    clear hWb
    refine (l01Same_quiet _ Q1b Q2).mono ?_
    rintro e w4 ⟨rfl, hq4⟩
    go_wp2_with fail
    go_ret2
    exact ⟨by rw [HAE.out, HC.out]; rfl, bthen (bthen hB3 hbb) hq4.below⟩
end Go.Proofs.Ytbpjejhjlmpcjaa
