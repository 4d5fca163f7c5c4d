/-
  Contracts: the first tuple at which two formulas are apart, the reference's.
-/
import Derived.Test.YtbpjejhjlmpcjaaGreatS14
namespace Go.Proofs.YtbpjejhjlmpcjaaGreat
open Go.RowKit Go.Sort
theorem relL_pre {s : Int} {ar : Nat} {p : List Int → Bool} {k : Nat} : ∀ m, ∃ r, relL s ar p (k + m) = relL s ar p k ++ r
  | 0 => ⟨[], by simp⟩
  | m + 1 => by
    obtain ⟨r, hr⟩ := relL_pre (s := s) (ar := ar) (p := p) (k := k) m
    cases hp : p (digL s ((k + m : Nat) : Int) ar)
    · exact ⟨r, by rw [← Nat.add_assoc, ← relL_no hp, hr]⟩
    · exact ⟨r ++ [digL s ((k + m : Nat) : Int) ar], by rw [← Nat.add_assoc, ← relL_yes hp, hr, List.append_assoc]⟩
theorem relL_first {s : Int} {ar : Nat} {p : List Int → Bool} {k N : Nat} (h0 : relL s ar p k = []) (hk : k < N) (hp : p (digL s k ar) = true) : headB (relL s ar p N) = true ∧ headV (relL s ar p N) = digL s k ar := by
  obtain ⟨r, hr⟩ := relL_pre (s := s) (ar := ar) (p := p) (k := k + 1) (N - (k + 1))
  rw [show k + 1 + (N - (k + 1)) = N by omega, ← relL_yes hp, h0] at hr
  rw [hr]
  exact ⟨rfl, rfl⟩
theorem fa_cnt {t : Int × List (Int × List (List Int))} {f g : Int × Int × List (Int × List Int)} : cntI (faV t f g) ≤ 1000000 := by
  by_cases h : twoC t f g = 0
  · cases h2 : headB (apL t f g)
    · rw [(fa_none h h2).1]; simp [cntI]
    · rw [(fa_yes h h2).1]
      have hnum := frm_nums (tb_iff.1 (two_ok h).1)
      have hEL : ∀ y ∈ apL t f g, y.length ≤ 4 := fun y hy => by
        obtain ⟨q, -, rfl⟩ := List.mem_map.1 (List.mem_filter.1 hy).1
        rw [digL_len]
        omega
      cases hs : apL t f g with
      | nil => simp [headV, cntI]
      | cons y r =>
        have := hEL y (by rw [hs]; exact List.mem_cons_self ..)
        simp only [headV, cntI]
        omega
  · rw [(fa_no h).1]; simp [cntI]
set_option maxHeartbeats 6400000 in
set_option maxRecDepth 100000 in
theorem specFirstApart_any (w : World) {cs cf cg : Array Value} {t : Int × List (Int × List (List Int))} {f g : Int × Int × List (Int × List Int)} (h : tplT.Rd w cs.toList t) (hf : frmT.Rd w cf.toList f) (hg : frmT.Rd w cg.toList g) :
    Calls Tryz.prog 19 #[.agg cs, .agg cf, .agg cg] w (RetSC intsT w (faV t f g) (faC t f g)) := by
  have p0 : tplT.Pt (((w.alloc (.cells cs 37)).alloc (.cells cf 41)).alloc (.cells cg 41)) (.pointer (some ⟨w.heap.size, 0, none⟩)) t := ((pt_box h).below bA).below bA
  have p1 : frmT.Pt (((w.alloc (.cells cs 37)).alloc (.cells cf 41)).alloc (.cells cg 41)) (.pointer (some ⟨w.heap.size + 1, 0, none⟩)) f := by
    simpa using (pt_box (T := 41) (hf.below (bA (o := .cells cs 37)))).below (bA (o := .cells cg 41))
  have p2 : frmT.Pt (((w.alloc (.cells cs 37)).alloc (.cells cf 41)).alloc (.cells cg 41)) (.pointer (some ⟨w.heap.size + 2, 0, none⟩)) g := by
    simpa using pt_box (T := 41) (hg.below (bAA (o := .cells cs 37) (o' := .cells cf 41)))
  obtain ⟨v1, hv1, hI, -⟩ := pair_ex h
  obtain rfl := agg_of hv1
  obtain ⟨v2, hv2, hIf, hIf2, -⟩ := trip_ex hf
  obtain rfl := agg_of hv2
  obtain ⟨v3, hv3, hIg, hIg2, -⟩ := trip_ex hg
  obtain rfl := agg_of hv3
  clear h hf hg hv1 hv2 hv3
  go_enter Tryz.func19, Tryz.ntmps19
  go_wp2_with fail
  generalize hW : World.alloc _ _ = W at p0 p1 p2 ⊢
  have hbW : Below w.heap.size w W := hW ▸ ((bAA (w := w)).alloc (by simp; omega) _)
  have hsW : w.heap.size + 3 ≤ W.heap.size := by rw [← hW]; simp
  have t0 : W.cell? ⟨w.heap.size, 0, none⟩ = some (.int .i64 t.1) := by rw [← hW]; simp [go_sem]
  have f0 : W.cell? ⟨w.heap.size + 1, 0, none⟩ = some (.int .i64 f.1) := by rw [← hW]; simp [go_sem]
  clear hW
  refine (l03Two_quiet _ p0 p1 p2).mono ?_
  rintro e w1 ⟨rfl, hq1⟩
  have hb1 := hq1.below
  have hz1 := hb1.size
  have hB1 := bthen hbW hb1
  have P0 := Lib.hid (p0.below hb1)
  have P1 := Lib.hid (p1.below hb1)
  have P2 := Lib.hid (p2.below hb1)
  replace t0 := (cellB hb1 (by omega)).trans t0
  replace f0 := (cellB hb1 (by omega)).trans f0
  clear hq1 p0 p1 p2
  cases hc : (twoC t f g != 0)
  rotate_left
  · have HR := Lib.hid (fa_no (show twoC t f g ≠ 0 by simpa using hc))
    go_wp2_with fail
    go_ret2
    exact ⟨.slice (some ⟨w1.heap.size, 0, none⟩) 0 0, by rw [HR.out.2.1]; rfl, by rw [HR.out.1]; exact fr_nil, hB1.alloc hB1.size _⟩
  · have hc0 : twoC t f g = 0 := by simpa using hc
    obtain ⟨hok1, hok2, hfg⟩ := two_ok hc0
    have HRN := Lib.hid (fun h => fa_none hc0 h)
    have HRY := Lib.hid (fun h => fa_yes hc0 h)
    have HFOK := Lib.hid (tb_iff.1 hok1)
    have HGOK := Lib.hid (tb_iff.1 hok2)
    have hnum := frm_nums HFOK.out
    obtain ⟨ar, har⟩ : ∃ ar : Nat, f.1 = ar := ⟨f.1.toNat, by omega⟩
    have har4 : ar ≤ 4 := by omega
    have ht4 : 1 ≤ t.1 ∧ t.1 ≤ 4 := by omega
    obtain ⟨N, hN⟩ : ∃ N : Nat, t.1 ^ ar = N := ⟨(t.1 ^ ar).toNat, by have := pow_nn (s := t.1) (by omega) ar; omega⟩
    have hNle : N ≤ 1000000 := by
      have h1 : t.1 ^ ar ≤ 1000000 := by
        refine Int.le_trans (pow_mono' (by omega) (show t.1 ≤ 4 by omega) ar) ?_
        rcases (show ar = 0 ∨ ar = 1 ∨ ar = 2 ∨ ar = 3 ∨ ar = 4 by omega) with e | e | e | e | e <;> rw [e] <;> decide
      omega
    have HP : Hid (t.1 ^ ((ar : Int)).toNat = N) := by unfold Hid; rw [Int.toNat_natCast]; exact hN
    have HAL : Hid (apL t f g = relL t.1 ar (apB t f g) N) := by
      unfold Hid apL
      rw [har, Int.toNat_natCast, hN, Int.toNat_natCast]
    rw [hc0]
    rw [har] at f0
    clear hc hok1 hok2 hc0 hnum har hN hfg
    go_wp2_with fail
    refine (l03Value_any _ P0.out P1.out HFOK.out).mono ?_
    rintro e w2 ⟨cs2, rfl, hf2, hb2⟩
    obtain ⟨a2, c2, rfl⟩ := fr_pair hf2
    have HF2 := Lib.hid hf2.rd
    have hB2 := bthen hB1 hb2
    have hz2 := hb2.size
    replace t0 := (cellB hb2 (by omega)).trans t0
    replace f0 := (cellB hb2 (by omega)).trans f0
    clear hf2
    go_wp2_with fail
    have Q1 : relT.Pt (w2.alloc (.cells #[.int .i64 (vaR t f).1, .slice a2 (vaR t f).2.length c2] 32)) (.pointer (some ⟨w2.heap.size, 0, none⟩)) (vaR t f) := pt_box HF2.out
    generalize hWa : World.alloc w2 _ = wa at Q1 ⊢
    have hba : Below w2.heap.size w2 wa := hWa ▸ bA
    have hza := hba.size
    have hb2a := bthen hb2 hba
    replace t0 := (cellB hba (by omega)).trans t0
    replace f0 := (cellB hba (by omega)).trans f0
    clear hWa
    refine (l03Value_any _ (P0.out.below hb2a) (P2.out.below hb2a) HGOK.out).mono ?_
    rintro e w3 ⟨cs3, rfl, hf3, hb3⟩
    obtain ⟨a3, c3, rfl⟩ := fr_pair hf3
    have HF3 := Lib.hid hf3.rd
    have hz3 := hb3.size
    have hB3 := bthen (bthen hB2 hba) hb3
    have Q1' := Q1.below hb3
    replace t0 := (cellB hb3 (by omega)).trans t0
    replace f0 := (cellB hb3 (by omega)).trans f0
    clear hf3 Q1
    go_wp2_with fail
    have Q2 : relT.Pt (w3.alloc (.cells #[.int .i64 (vaR t g).1, .slice a3 (vaR t g).2.length c3] 32)) (.pointer (some ⟨w3.heap.size, 0, none⟩)) (vaR t g) := pt_box HF3.out
    have Q1b := Q1'.below (bA (o := .cells #[.int .i64 (vaR t g).1, .slice a3 (vaR t g).2.length c3] 32))
    generalize hWb : World.alloc w3 _ = wb at Q1b Q2 ⊢
    have hbb : Below w3.heap.size w3 wb := hWb ▸ bA
    have hzb := hbb.size
    have hBb := bthen hB3 hbb
    have HQ1 := Lib.hid Q1b
    have HQ2 := Lib.hid Q2
    replace t0 := (cellB hbb (by omega)).trans t0
    replace f0 := (cellB hbb (by omega)).trans f0
    clear hWb Q1' Q1b Q2 HF2 HF3 P0 P1 P2
    go_loopw [11] (fun i wr => ∃ k : Nat, k ≤ N ∧ i = .int .i64 k ∧ relL t.1 ar (apB t f g) k = [] ∧ Below wb.heap.size wb wr) (fun i _ => N - (intOf i).toNat)
    case atStart => exact ⟨0, Nat.zero_le _, rfl, relL_zero, Below.refl _ _⟩
    case round =>
      obtain ⟨k, hk, rfl, h0, hbe⟩ := hrel
      have H0 := Lib.hid h0
      have hze := hbe.size
      have e0 := (cellB hbe (by omega)).trans t0
      have e1 := (cellB hbe (by omega)).trans f0
      have hbw := bthen hBb hbe
      have hP := l01Power_any wr t.1 (ar : Int) (by omega) (by omega) (by omega)
      rw [HP.out] at hP
      have HPW := Lib.hid hP
      clear hP
      clear h0
      by_cases hkl : k < N
      · go_wp2_with fail
        refine HPW.out.mono ?_
        rintro e _ ⟨rfl, rfl⟩
        have hbq := hbe
        go_wp2_with fail
        refine (l01Digits_any _ t.1 (k : Int) ar (by omega) (by omega) (by omega) (by omega) (by omega)).mono ?_
        rintro e w4 ⟨u, rfl, hf4, hb4⟩
        obtain ⟨a4, n4, c4, rfl⟩ := ex_slice hf4
        have HF4 : Hid (intsT.Fr wr.heap.size w4 [.slice a4 n4 c4] (digL t.1 k ar)) := hf4
        have hz4 := hb4.size
        have hb4' := hbq.trans (hb4.mono (by omega))
        clear hf4
        go_wp2_with fail
        refine (l01Has_quiet _ (HQ1.out.below hb4') HF4.out.rd).mono ?_
        rintro e w5 ⟨rfl, hq5⟩
        go_wp2_with fail
        refine (l01Has_quiet _ (HQ2.out.below (bthen hb4' hq5.below)) (HF4.out.rd.below hq5.below)).mono ?_
        rintro e w6 ⟨rfl, hq6⟩
        have hq46 := hq5.then hq6
        have hb6 := hq46.below
        have hz6 := hb6.size
        have hb6' := hb4'.trans (hb6.mono (by omega))
        have HF6 := Lib.hid (HF4.out.below hb6)
        clear hq5 hq6 HF4
        have HAB : Hid (apB t f g (digL t.1 (k : Int) ar) = (tb (digL t.1 (k : Int) ar ∈ (vaR t f).2) != tb (digL t.1 (k : Int) ar ∈ (vaR t g).2))) := rfl
        generalize tb (digL t.1 (k : Int) ar ∈ (vaR t f).2) = x at HAB ⊢
        generalize tb (digL t.1 (k : Int) ar ∈ (vaR t g).2) = y at HAB ⊢
        cases x <;> cases y
        · have HNO := Lib.hid (relL_no (s := t.1) (ar := ar) (p := apB t f g) (k := k) HAB.out)
          go_wp2_with fail
          go_roundw
          case rel => exact ⟨k + 1, by omega, by go_num, by rw [← HNO.out]; exact H0.out, hb6'⟩
          case measure => simp [intOf]; omega
        · have HYES := Lib.hid (relL_first (N := N) H0.out hkl HAB.out)
          go_wp2_with fail
          go_ret2
          have hR := HRY.out (by rw [HAL.out]; exact HYES.out.1)
          exact ⟨.slice a4 n4 c4, by rw [hR.2.1]; rfl, by rw [hR.1, HAL.out, HYES.out.2]; exact HF6.out.mono (by omega), bthen hBb hb6'⟩
        · have HYES := Lib.hid (relL_first (N := N) H0.out hkl HAB.out)
          go_wp2_with fail
          go_ret2
          have hR := HRY.out (by rw [HAL.out]; exact HYES.out.1)
          exact ⟨.slice a4 n4 c4, by rw [hR.2.1]; rfl, by rw [hR.1, HAL.out, HYES.out.2]; exact HF6.out.mono (by omega), bthen hBb hb6'⟩
        · have HNO := Lib.hid (relL_no (s := t.1) (ar := ar) (p := apB t f g) (k := k) HAB.out)
          go_wp2_with fail
          go_roundw
          case rel => exact ⟨k + 1, by omega, by go_num, by rw [← HNO.out]; exact H0.out, hb6'⟩
          case measure => simp [intOf]; omega
      · obtain rfl : k = N := by omega
        have hR := Lib.hid (HRN.out (by rw [HAL.out, H0.out]; rfl))
        go_wp2_with fail
        refine HPW.out.mono ?_
        rintro e _ ⟨rfl, rfl⟩
        have hbq := hbw
        go_wp2_with fail
        go_ret2
        exact ⟨.slice (some ⟨wr.heap.size, 0, none⟩) 0 0, by rw [hR.out.2.1]; rfl, by rw [hR.out.1]; exact fr_nil, hbq.alloc hbq.size _⟩
end Go.Proofs.YtbpjejhjlmpcjaaGreat
