/-
  Contracts: whether a formula holds at a tuple, and where; both sides.
-/
import Derived.Test.YtbpjejhjlmpcjaaS10
import Derived.Test.YtbpjejhjlmpcjaaS6
import Derived.Test.YtbpjejhjlmpcjaaK7
namespace Go.Proofs.Ytbpjejhjlmpcjaa
open Go.RowKit Go.Sort
set_option maxHeartbeats 3200000 in
set_option maxRecDepth 100000 in
theorem l03Witness_any (w : World) {t : Int × List (Int × List (List Int))} {f : Int × Int × List (Int × List Int)} (hok : frmOk t f) {n s : Nat} (hn : f.2.1 = n) (hs : t.1 = s) {vt vf v : Value} {tu : List Int} (ht : tplT.Pt w vt t) (hf : frmT.Pt w vf f) (hv : intsT.Rd w [v] tu) (hl : tu.length ≤ n) :
    Calls Try.prog 66 #[vt, vf, v] w fun e w' => ∃ u, e = .returned (.tuple #[u, .bool (headB (witL s (goesB t (duesL f.2.2 n)) n tu))]) ∧ intsT.Fr w.heap.size w' [u] (headV (witL s (goesB t (duesL f.2.2 n)) n tu)) ∧ Below w.heap.size w w' := by
  have HOK := Lib.hid hok
  have HTP := Lib.hid ht
  have HFP := Lib.hid hf
  have HV := Lib.hid hv
  have hn1 := hok.2.1
  have hn10 : n ≤ 10 := by unfold frameOk at hn1; omega
  have HN := Lib.hid hn
  have HS := Lib.hid hs
  obtain ⟨va, vc, rfl⟩ := rd_slice hv
  have hvc : tu.length ≤ vc := by obtain ⟨_, _, he, h, _⟩ := ints_ex hv; simp at he; omega
  clear hok ht hf hv hn1 hn hs
  go_enter Try.func66, Try.ntmps66
  go_wp2_with fail
  go_loopw [8] (fun i wr => ∃ k : Nat, k ≤ tu.length ∧ i = .int .i64 ((k : Int) + 1) ∧ preTo (goesB t (duesL f.2.2 n)) tu k ∧ Below w.heap.size w wr) (fun i _ => tu.length + 1 - (intOf i).toNat)
  case atStart => exact ⟨0, Nat.zero_le _, rfl, preTo_zero, Below.refl _ _⟩
  case round =>
    obtain ⟨k, hk, rfl, hpre, hbe⟩ := hrel
    have HP := Lib.hid hpre
    have hz := hbe.size
    clear hpre
    by_cases hkl : k < tu.length
    · have hk1 : k + 1 ≤ vc := by omega
      have hNN := HN.out
      have hle : (k : Int) + 1 ≤ (tu.length : Int) := by omega
      go_wp2_with fail
      refine (l03Sure_any _ (HTP.out.below hbe) (HFP.out.below hbe) (rd_prefix (HV.out.below hbe) (show k + 1 ≤ tu.length by omega)) HOK.out (k := k) (take_len (show k + 1 ≤ tu.length by omega)) (by omega)).mono ?_
      rintro e w1 ⟨rfl, hb1⟩
      rw [show f.2.1.toNat = n by omega]
      have hbw1 := bthen hbe hb1
      clear hNN
      cases hg : goesB t (duesL f.2.2 n) (tu.take (k + 1))
      · have HW := Lib.hid (witL_no (s := s) (n := n) hkl hg)
        clear hg
        go_wp2_with fail
        go_ret2
        exact ⟨.slice (some ⟨w1.heap.size, 0, none⟩) 0 0, by rw [HW.out]; rfl, by rw [HW.out]; exact fr_nil, hbw1.alloc hbw1.size _⟩
      · have HP1 := Lib.hid (preTo_succ HP.out hg)
        clear hg
        go_wp2_with fail
        go_roundw
        case rel => exact ⟨k + 1, by omega, by go_num, HP1.out, hbw1⟩
        case measure => simp [intOf]; omega
    · obtain rfl : k = tu.length := by omega
      have HW := Lib.hid (witL_yes (s := s) (n := n) HP.out)
      go_wp2_with fail
      refine (l00Own_any _ (HV.out.below hbe) (by omega)).mono ?_
      rintro e w2 ⟨u2, rfl, hB2, hb2⟩
      have hf2 := hB2.fr (by unfold capMax; omega)
      obtain ⟨a2, n2, c2, rfl⟩ := ex_slice hf2
      have HF2 := Lib.hid hf2
      have hz2 := hb2.size
      have hbw2 := bthen hbe hb2
      clear hB2 hf2
      go_wp2_with fail
      refine (l03Search_any HOK.out HN.out HS.out w.heap.size _ _ (n - tu.length) w2 _ tu (by omega) (by omega) (HTP.out.below hbw2) (HFP.out.below hbw2) (HF2.out.mono hz)).mono ?_
      rintro e w3 ⟨u3, rfl, hf3, hb3⟩
      obtain ⟨a3, n3, c3, rfl⟩ := ex_slice hf3
      rw [← HW.out] at hf3 ⊢
      have HF3 := Lib.hid hf3
      clear hf3
      go_wp2_with fail
      go_ret2
      exact ⟨.slice a3 n3 c3, rfl, HF3.out, bthen hbw2 hb3⟩
/-- the code of a formula and a tuple -/
noncomputable def atC (t : Int × List (Int × List (List Int))) (f : Int × Int × List (Int × List Int)) (tu : List Int) : Int := match tb (frmOk t f), tb (rowOk t.1 f.1 tu) with
  | false, _ => 1
  | true, false => 2
  | true, true => 0
noncomputable def witX (t : Int × List (Int × List (List Int))) (f : Int × Int × List (Int × List Int)) (tu : List Int) : List (List Int) := witL t.1.toNat (goesB t (duesL f.2.2 f.2.1.toNat)) f.2.1.toNat tu
noncomputable def waV (t : Int × List (Int × List (List Int))) (f : Int × Int × List (Int × List Int)) (tu : List Int) : List Int := match tb (frmOk t f), tb (rowOk t.1 f.1 tu) with
  | true, true => headV (witX t f tu)
  | _, _ => []
noncomputable def waC (t : Int × List (Int × List (List Int))) (f : Int × Int × List (Int × List Int)) (tu : List Int) : Int := match tb (frmOk t f), tb (rowOk t.1 f.1 tu), headB (witX t f tu) with
  | false, _, _ => 1
  | true, false, _ => 2
  | true, true, false => 6
  | true, true, true => 0
noncomputable def haB (t : Int × List (Int × List (List Int))) (f : Int × Int × List (Int × List Int)) (tu : List Int) : Bool := match tb (frmOk t f), tb (rowOk t.1 f.1 tu) with
  | true, true => headB (witX t f tu)
  | _, _ => false
section
variable {t : Int × List (Int × List (List Int))} {f : Int × Int × List (Int × List Int)} {tu : List Int}
theorem wa_1 (h : tb (frmOk t f) = false) : atC t f tu = 1 ∧ waV t f tu = [] ∧ waC t f tu = 1 ∧ haB t f tu = false := by simp [atC, waV, waC, haB, h]
theorem wa_2 (h : tb (frmOk t f) = true) (h2 : tb (rowOk t.1 f.1 tu) = false) : atC t f tu = 2 ∧ waV t f tu = [] ∧ waC t f tu = 2 ∧ haB t f tu = false := by simp [atC, waV, waC, haB, h, h2]
theorem wa_6 (h : tb (frmOk t f) = true) (h2 : tb (rowOk t.1 f.1 tu) = true) (h3 : headB (witX t f tu) = false) : atC t f tu = 0 ∧ waV t f tu = [] ∧ waC t f tu = 6 ∧ haB t f tu = false := by
  simp only [atC, waV, waC, haB, h, h2, h3, and_true, true_and]
  rw [head_no h3]
  rfl
theorem wa_0 (h : tb (frmOk t f) = true) (h2 : tb (rowOk t.1 f.1 tu) = true) (h3 : headB (witX t f tu) = true) : atC t f tu = 0 ∧ waV t f tu = headV (witX t f tu) ∧ waC t f tu = 0 ∧ haB t f tu = true := by simp only [atC, waV, waC, haB, h, h2, h3]; exact ⟨trivial, trivial, trivial, trivial⟩
theorem at_ok (h : tb (frmOk t f) = true) (h2 : tb (rowOk t.1 f.1 tu) = true) : atC t f tu = 0 := by simp only [atC, h, h2]
theorem frm_nums (h : frmOk t f) : 1 ≤ t.1 ∧ t.1 ≤ 4 ∧ 1 ≤ f.1 ∧ f.1 ≤ 4 ∧ f.1 ≤ f.2.1 ∧ f.2.1 ≤ 8 ∧ f.2.2.length ≤ 16 := by
  have h1 := h.1.1
  have h2 := h.2.1
  unfold sizeOk at h1
  unfold frameOk at h2
  omega
theorem witL_each {s n : Nat} {sure : List Int → Bool} {b : List Int} (hb : b.length ≤ n) : ∀ y ∈ witL s sure n b, y.length = n := by
  intro y hy
  cases h : tb (preTo sure b b.length)
  · simp only [witL, h] at hy; cases hy
  · simp only [witL, h] at hy
    have := solsL_each y hy
    omega
theorem wa_cnt : cntI (waV t f tu) ≤ 1000000 := by
  cases h : tb (frmOk t f)
  · rw [(wa_1 h).2.1]; simp [cntI]
  cases h2 : tb (rowOk t.1 f.1 tu)
  · rw [(wa_2 h h2).2.1]; simp [cntI]
  cases h3 : headB (witX t f tu)
  · rw [(wa_6 h h2 h3).2.1]; simp [cntI]
  rw [(wa_0 h h2 h3).2.1]
  have h4 := frm_nums (tb_iff.1 h)
  have h5 := (tb_iff.1 h2).1
  cases hw : witX t f tu with
  | nil => simp [headV, cntI]
  | cons y r =>
    have h6 := witL_each (s := t.1.toNat) (n := f.2.1.toNat) (sure := goesB t (duesL f.2.2 f.2.1.toNat)) (b := tu) (by omega) y (by unfold witX at hw; rw [hw]; exact List.mem_cons_self ..)
    simp only [headV, cntI]
    omega
end
set_option maxHeartbeats 1600000 in
theorem l03At_quiet (w : World) {vt vf v : Value} {t : Int × List (Int × List (List Int))} {f : Int × Int × List (Int × List Int)} {tu : List Int} (ht : tplT.Pt w vt t) (hfp : frmT.Pt w vf f) (hvr : intsT.Rd w [v] tu) :
    Calls Try.prog 65 #[vt, vf, v] w fun e w' => e = .returned (.int .i64 (atC t f tu)) ∧ Quiet w w' := by
  have htp := ht
  have hf0 := hfp
  obtain ⟨b, o, ad, cap, rfl, hb, -, -, c0, -, -, -⟩ := pt_trip hfp
  obtain ⟨b2, o2, _, _, rfl, hb2, -, f0, -, -⟩ := pt_pair ht
  obtain ⟨av, capv, rfl⟩ := rd_slice hvr
  clear ht hfp
  cases hi : tb (frmOk t f)
  · go_enter Try.func65, Try.ntmps65
    go_wp2_with fail
    refine (l03Ok_quiet _ htp hf0).mono ?_
    rintro e w1 ⟨rfl, hq1⟩
    rw [hi]
    go_wp2_with fail
    go_ret
    exact ⟨ret_int (wa_1 hi).1.symm, hq1⟩
  have hT := frm_nums (tb_iff.1 hi)
  have HH : Hid (0 ≤ t.1 ∧ t.1 ≤ 1000000000000) := ⟨by omega, by omega⟩
  clear hT
  cases hr : tb (rowOk t.1 f.1 tu)
  all_goals
    go_enter Try.func65, Try.ntmps65
    go_wp2_with fail
    refine (l03Ok_quiet _ htp hf0).mono ?_
    rintro e wr ⟨rfl, hq1⟩
    rw [hi]
    have d0 := (hq1.below.cell hb).trans c0
    have d1 := (hq1.below.cell hb2).trans f0
    have hv1 := hvr.below hq1.below
    have cT : ∀ n, Calls Try.prog 103 #[.int .i64 t.1, .int .i64 f.1, .slice av tu.length capv] (wr.drewN n) fun e w'' => e = .returned (.bool (tb (rowOk t.1 f.1 tu))) ∧ ∃ m, w'' = wr.drewN m := fun n => pure_drawn (l01Tuple_any _ _ _ (hv1.below (Quiet.drewN wr n).below) HH.out.1 HH.out.2)
    rw [hr] at cT
    clear c0 f0
    go_wp2_with fail
    go_quiet (exact cT _)
    go_wp2_with fail
    go_ret
  · exact ⟨ret_int (wa_2 hi hr).1.symm, hq1.then (by first | exact Quiet.refl _ | exact Quiet.drewN _ _ | exact (Quiet.drewN _ _).then (Quiet.drewN _ _) | exact ((Quiet.drewN _ _).then (Quiet.drewN _ _)).then (Quiet.drewN _ _))⟩
  · exact ⟨ret_int (at_ok hi hr).symm, hq1.then (by first | exact Quiet.refl _ | exact Quiet.drewN _ _ | exact (Quiet.drewN _ _).then (Quiet.drewN _ _) | exact ((Quiet.drewN _ _).then (Quiet.drewN _ _)).then (Quiet.drewN _ _))⟩
set_option maxHeartbeats 3200000 in
set_option maxRecDepth 100000 in
theorem WitnessAt_any (w : World) {cs cf : Array Value} {v : Value} {t : Int × List (Int × List (List Int))} {f : Int × Int × List (Int × List Int)} {tu : List Int} (h : tplT.Rd w cs.toList t) (hf : frmT.Rd w cf.toList f) (hv : intsT.Rd w [v] tu) :
    Calls Try.prog 42 #[.agg cs, .agg cf, v] w (RetSC intsT w (waV t f tu) (waC t f tu)) := by
  have HT := Lib.hid h
  have HF := Lib.hid hf
  have HV := Lib.hid hv
  obtain ⟨v1, hv1, hI, -⟩ := pair_ex h
  obtain rfl := agg_of hv1
  obtain ⟨v2, hv2, hIf, hIf2, hfx⟩ := trip_ex hf
  obtain rfl := agg_of hv2
  obtain ⟨fa, fn, fc, rfl⟩ := rd_sl hfx
  obtain ⟨va, vc, rfl⟩ := rd_slice hv
  have HFX := Lib.hid hfx
  clear h hv1 hf hv2 hfx hv
  go_enter Try.func42, Try.ntmps42
  go_wp2_with fail
  generalize hW : World.alloc _ _ = W
  have hbW : Below w.heap.size w W := hW ▸ bAA
  have hsW : w.heap.size + 2 ≤ W.heap.size := by rw [← hW]; simp
  have t0 : W.cell? ⟨w.heap.size, 0, none⟩ = some (.int .i64 t.1) := by rw [← hW]; simp [go_sem]
  have t1 : W.cell? ⟨w.heap.size, 1, none⟩ = some v1 := by rw [← hW]; simp [go_sem]
  have f0 : W.cell? ⟨w.heap.size + 1, 0, none⟩ = some (.int .i64 f.1) := by rw [← hW]; simp [go_sem]
  have f1 : W.cell? ⟨w.heap.size + 1, 1, none⟩ = some (.int .i64 f.2.1) := by rw [← hW]; simp [go_sem]
  have f2 : W.cell? ⟨w.heap.size + 1, 2, none⟩ = some (.slice fa fn fc) := by rw [← hW]; simp [go_sem]
  clear hW
  refine (ValidFormula_any _ (HT.out.below hbW) (HF.out.below hbW)).mono ?_
  rintro e w1 ⟨rfl, hb1⟩
  have hB1 := bthen hbW hb1
  have hz1 := hb1.size
  replace t0 := (cellB hb1 (by omega)).trans t0
  replace t1 := (cellB hb1 (by omega)).trans t1
  replace f0 := (cellB hb1 (by omega)).trans f0
  replace f1 := (cellB hb1 (by omega)).trans f1
  replace f2 := (cellB hb1 (by omega)).trans f2
  cases hok : tb (frmOk t f)
  · have HR := Lib.hid (wa_1 (tu := tu) hok)
    clear hok
    go_wp2_with fail
    go_ret2
    exact ⟨.slice none 0 0, by rw [HR.out.2.2.1]; rfl, by rw [HR.out.2.1]; exact fr_nil, hB1⟩
  have hnum := frm_nums (tb_iff.1 hok)
  have HOK := Lib.hid (tb_iff.1 hok)
  go_wp2_with fail
  refine (areValues_any _ (HV.out.below hB1) _ _ (by omega) (by omega)).mono ?_
  rintro e w2 ⟨rfl, hb2⟩
  have hB2 := bthen hB1 hb2
  have hz2 := hb2.size
  replace t0 := (cellB hb2 (by omega)).trans t0
  replace t1 := (cellB hb2 (by omega)).trans t1
  replace f0 := (cellB hb2 (by omega)).trans f0
  replace f1 := (cellB hb2 (by omega)).trans f1
  replace f2 := (cellB hb2 (by omega)).trans f2
  cases hr : tb (rowOk t.1 f.1 tu)
  · have HR := Lib.hid (wa_2 hok hr)
    clear hok hr
    go_wp2_with fail
    go_ret2
    exact ⟨.slice none 0 0, by rw [HR.out.2.2.1]; rfl, by rw [HR.out.2.1]; exact fr_nil, hB2⟩
  have HRN := Lib.hid (fun h => wa_6 hok hr h)
  have HRY := Lib.hid (fun h => wa_0 hok hr h)
  have hrl := (tb_iff.1 hr).1
  obtain ⟨n, hn⟩ : ∃ n : Nat, f.2.1 = n := ⟨f.2.1.toNat, by omega⟩
  obtain ⟨s, hs⟩ : ∃ s : Nat, t.1 = s := ⟨t.1.toNat, by omega⟩
  have HWX : Hid (witL s (goesB t (duesL f.2.2 n)) n tu = witX t f tu) := by
    unfold Hid witX
    rw [show f.2.1.toNat = n by omega, show t.1.toNat = s by omega]
  have HNM := Lib.hid hn
  have HSM := Lib.hid hs
  have hn8 : n ≤ 8 := by omega
  have htl : tu.length ≤ n := by omega
  have hfl : f.2.2.length ≤ 16 := hnum.2.2.2.2.2.2
  rw [hn] at f1
  clear hok hr hnum hrl hn hs
  go_wp2_with fail
  refine (solverOf_any (ct := #[.int .i64 t.1, v1]) _ ((HT.out.below hB2).P) (n := n) (by omega) ((HFX.out.below hB2).P) (by omega) (fun a ha => by
    have h1 := HOK.out.2.2 a ha
    have h2 := atom_len HOK.out.1 h1
    exact ⟨h2.1, fun p hp => by have := h1.2.2 p hp; have := HNM.out; omega⟩)).mono ?_
  rintro e w3 ⟨bs, rfl, hsv, hb3⟩
  have hB3 := bthen hB2 hb3
  have HSV := Lib.hid hsv
  have HDU : Hid (dueOk t n (duesL f.2.2 n)) := duesL_ok (fun a ha => by have := HOK.out.2.2 a ha; rwa [HNM.out] at this)
  clear hsv
  go_wp2_with fail
  refine (first_any (n := n) (s := s) w3 HOK.out.1 HSM.out (by omega) duesL_len HDU.out HSV.out (HV.out.below hB3) htl).mono ?_
  rintro e w4 ⟨u, rfl, hf4, hb4⟩
  rw [HWX.out] at hf4 ⊢
  obtain ⟨ua, un, uc, rfl⟩ := ex_slice hf4
  have HF4 := Lib.hid hf4
  have hz3 := hB3.size
  clear hf4
  cases hh : headB (witX t f tu)
  · have HR := Lib.hid (HRN.out hh)
    clear hh
    go_wp2_with fail
    go_ret2
    exact ⟨.slice none 0 0, by rw [HR.out.2.2.1]; rfl, by rw [HR.out.2.1]; exact fr_nil, bthen hB3 hb4⟩
  · have HR := Lib.hid (HRY.out hh)
    clear hh
    go_wp2_with fail
    go_ret2
    exact ⟨.slice ua un uc, by rw [HR.out.2.2.1]; rfl, by rw [HR.out.2.1]; exact HF4.out.mono hz3, bthen hB3 hb4⟩
set_option maxHeartbeats 3200000 in
set_option maxRecDepth 100000 in
theorem specWitnessAt_any (w : World) {cs cf : Array Value} {v : Value} {t : Int × List (Int × List (List Int))} {f : Int × Int × List (Int × List Int)} {tu : List Int} (h : tplT.Rd w cs.toList t) (hf : frmT.Rd w cf.toList f) (hv : intsT.Rd w [v] tu) :
    Calls Try.prog 41 #[.agg cs, .agg cf, v] w (RetSC intsT w (waV t f tu) (waC t f tu)) := by
  have p0 : tplT.Pt ((w.alloc (.cells cs 34)).alloc (.cells cf 67)) (.pointer (some ⟨w.heap.size, 0, none⟩)) t := (pt_box h).below bA
  have p1 : frmT.Pt ((w.alloc (.cells cs 34)).alloc (.cells cf 67)) (.pointer (some ⟨w.heap.size + 1, 0, none⟩)) f := by
    simpa using pt_box (T := 67) (hf.below (bA (o := .cells cs 34)))
  have HV := Lib.hid hv
  obtain ⟨v1, hv1, hI, -⟩ := pair_ex h
  obtain rfl := agg_of hv1
  obtain ⟨v2, hv2, hIf, hIf2, -⟩ := trip_ex hf
  obtain rfl := agg_of hv2
  obtain ⟨va, vc, rfl⟩ := rd_slice hv
  clear h hv1 hf hv2 hv
  go_enter Try.func41, Try.ntmps41
  go_wp2_with fail
  generalize hW : World.alloc _ _ = W at p0 p1 ⊢
  have hbW : Below w.heap.size w W := hW ▸ bAA
  clear hW
  refine (l03At_quiet _ p0 p1 (HV.out.below hbW)).mono ?_
  rintro e w1 ⟨rfl, hq1⟩
  have hb1 := hq1.below
  have hB1 := bthen hbW hb1
  clear hq1
  cases hok : tb (frmOk t f)
  · have HR := Lib.hid (wa_1 (tu := tu) hok)
    rw [HR.out.1]
    clear hok
    go_wp2_with fail
    go_ret2
    exact ⟨.slice (some ⟨w1.heap.size, 0, none⟩) 0 0, by rw [HR.out.2.2.1]; rfl, by rw [HR.out.2.1]; exact fr_nil, hB1.alloc hB1.size _⟩
  cases hr : tb (rowOk t.1 f.1 tu)
  · have HR := Lib.hid (wa_2 hok hr)
    rw [HR.out.1]
    clear hok hr
    go_wp2_with fail
    go_ret2
    exact ⟨.slice (some ⟨w1.heap.size, 0, none⟩) 0 0, by rw [HR.out.2.2.1]; rfl, by rw [HR.out.2.1]; exact fr_nil, hB1.alloc hB1.size _⟩
  have HRN := Lib.hid (fun h => wa_6 hok hr h)
  have HRY := Lib.hid (fun h => wa_0 hok hr h)
  have hrl := (tb_iff.1 hr).1
  have hnum := frm_nums (tb_iff.1 hok)
  have HOK := Lib.hid (tb_iff.1 hok)
  have htl : tu.length ≤ f.2.1.toNat := by omega
  have HNM : Hid (f.2.1 = (f.2.1.toNat : Int)) := by unfold Hid; omega
  have HSM : Hid (t.1 = (t.1.toNat : Int)) := by unfold Hid; omega
  rw [at_ok hok hr]
  clear hok hr hnum hrl
  go_wp2_with fail
  refine (l03Witness_any _ HOK.out HNM.out HSM.out (p0.below hb1) (p1.below hb1) (HV.out.below hB1) htl).mono ?_
  rintro e w2 ⟨u, rfl, hf2, hb2⟩
  rw [show witL t.1.toNat (goesB t (duesL f.2.2 f.2.1.toNat)) f.2.1.toNat tu = witX t f tu from rfl] at hf2 ⊢
  obtain ⟨ua, un, uc, rfl⟩ := ex_slice hf2
  have HF2 := Lib.hid hf2
  have hz1 := hB1.size
  have hB2 := bthen hB1 hb2
  clear hf2
  cases hh : headB (witX t f tu)
  · have HR := Lib.hid (HRN.out hh)
    clear hh
    go_wp2_with fail
    go_ret2
    exact ⟨.slice (some ⟨w2.heap.size, 0, none⟩) 0 0, by rw [HR.out.2.2.1]; rfl, by rw [HR.out.2.1]; exact fr_nil, hB2.alloc hB2.size _⟩
  · have HR := Lib.hid (HRY.out hh)
    clear hh
    go_wp2_with fail
    go_ret2
    exact ⟨.slice ua un uc, by rw [HR.out.2.2.1]; rfl, by rw [HR.out.2.1]; exact HF2.out.mono hz1, hB2⟩
set_option maxHeartbeats 3200000 in
set_option maxRecDepth 100000 in
theorem HoldsAt_any (w : World) {cs cf : Array Value} {v : Value} {t : Int × List (Int × List (List Int))} {f : Int × Int × List (Int × List Int)} {tu : List Int} (h : tplT.Rd w cs.toList t) (hf : frmT.Rd w cf.toList f) (hv : intsT.Rd w [v] tu) :
    Calls Try.prog 39 #[.agg cs, .agg cf, v] w fun e w' => e = .returned (.tuple #[.bool (haB t f tu), .int .i64 (atC t f tu)]) ∧ Below w.heap.size w w' := by
  have HT := Lib.hid h
  have HF := Lib.hid hf
  have HV := Lib.hid hv
  obtain ⟨v1, hv1, hI, -⟩ := pair_ex h
  obtain rfl := agg_of hv1
  obtain ⟨v2, hv2, hIf, hIf2, -⟩ := trip_ex hf
  obtain rfl := agg_of hv2
  obtain ⟨va, vc, rfl⟩ := rd_slice hv
  clear h hv1 hf hv2 hv
  go_enter Try.func39, Try.ntmps39
  go_wp2_with fail
  generalize hW : World.alloc _ _ = W
  have hbW : Below w.heap.size w W := hW ▸ bAA
  clear hW
  refine (WitnessAt_any _ (cs := #[.int .i64 t.1, v1]) (cf := #[.int .i64 f.1, .int .i64 f.2.1, v2]) (HT.out.below hbW) (HF.out.below hbW) (HV.out.below hbW)).mono ?_
  rintro e w1 ⟨u, rfl, hf1, hb1⟩
  obtain ⟨ua, un, uc, rfl⟩ := ex_slice hf1
  have hB1 := bthen hbW hb1
  clear hf1
  cases hok : tb (frmOk t f)
  · have HR := Lib.hid (wa_1 (tu := tu) hok)
    rw [HR.out.2.2.1]
    clear hok
    go_wp2_with fail
    go_ret2
    exact ⟨by rw [HR.out.1, HR.out.2.2.2]; rfl, hB1⟩
  cases hr : tb (rowOk t.1 f.1 tu)
  · have HR := Lib.hid (wa_2 hok hr)
    rw [HR.out.2.2.1]
    clear hok hr
    go_wp2_with fail
    go_ret2
    exact ⟨by rw [HR.out.1, HR.out.2.2.2]; rfl, hB1⟩
  cases hh : headB (witX t f tu)
  · have HR := Lib.hid (wa_6 hok hr hh)
    rw [HR.out.2.2.1]
    clear hok hr hh
    go_wp2_with fail
    go_ret2
    exact ⟨by rw [HR.out.1, HR.out.2.2.2]; rfl, hB1⟩
  · have HR := Lib.hid (wa_0 hok hr hh)
    rw [HR.out.2.2.1]
    clear hok hr hh
    go_wp2_with fail
    go_ret2
    exact ⟨by rw [HR.out.1, HR.out.2.2.2]; rfl, hB1⟩
set_option maxHeartbeats 3200000 in
set_option maxRecDepth 100000 in
theorem specHoldsAt_any (w : World) {cs cf : Array Value} {v : Value} {t : Int × List (Int × List (List Int))} {f : Int × Int × List (Int × List Int)} {tu : List Int} (h : tplT.Rd w cs.toList t) (hf : frmT.Rd w cf.toList f) (hv : intsT.Rd w [v] tu) :
    Calls Try.prog 36 #[.agg cs, .agg cf, v] w fun e w' => e = .returned (.tuple #[.bool (haB t f tu), .int .i64 (atC t f tu)]) ∧ Below w.heap.size w w' := by
  have p0 : tplT.Pt ((w.alloc (.cells cs 34)).alloc (.cells cf 67)) (.pointer (some ⟨w.heap.size, 0, none⟩)) t := (pt_box h).below bA
  have p1 : frmT.Pt ((w.alloc (.cells cs 34)).alloc (.cells cf 67)) (.pointer (some ⟨w.heap.size + 1, 0, none⟩)) f := by
    simpa using pt_box (T := 67) (hf.below (bA (o := .cells cs 34)))
  have HV := Lib.hid hv
  obtain ⟨v1, hv1, hI, -⟩ := pair_ex h
  obtain rfl := agg_of hv1
  obtain ⟨v2, hv2, hIf, hIf2, -⟩ := trip_ex hf
  obtain rfl := agg_of hv2
  obtain ⟨va, vc, rfl⟩ := rd_slice hv
  clear h hv1 hf hv2 hv
  go_enter Try.func36, Try.ntmps36
  go_wp2_with fail
  generalize hW : World.alloc _ _ = W at p0 p1 ⊢
  have hbW : Below w.heap.size w W := hW ▸ bAA
  clear hW
  refine (l03At_quiet _ p0 p1 (HV.out.below hbW)).mono ?_
  rintro e w1 ⟨rfl, hq1⟩
  have hb1 := hq1.below
  have hB1 := bthen hbW hb1
  clear hq1
  cases hok : tb (frmOk t f)
  · have HR := Lib.hid (wa_1 (tu := tu) hok)
    rw [HR.out.1]
    clear hok
    go_wp2_with fail
    go_ret2
    exact ⟨by rw [HR.out.1, HR.out.2.2.2]; rfl, hB1⟩
  cases hr : tb (rowOk t.1 f.1 tu)
  · have HR := Lib.hid (wa_2 hok hr)
    rw [HR.out.1]
    clear hok hr
    go_wp2_with fail
    go_ret2
    exact ⟨by rw [HR.out.1, HR.out.2.2.2]; rfl, hB1⟩
  have HHB : Hid (haB t f tu = headB (witX t f tu)) := by
    unfold Hid
    simp only [haB, hok, hr]
  have HAT := Lib.hid (at_ok hok hr)
  have hrl := (tb_iff.1 hr).1
  have hnum := frm_nums (tb_iff.1 hok)
  have HOK := Lib.hid (tb_iff.1 hok)
  have htl : tu.length ≤ f.2.1.toNat := by omega
  have HNM : Hid (f.2.1 = (f.2.1.toNat : Int)) := by unfold Hid; omega
  have HSM : Hid (t.1 = (t.1.toNat : Int)) := by unfold Hid; omega
  rw [at_ok hok hr]
  clear hok hr hnum hrl
  go_wp2_with fail
  refine (l03Witness_any _ HOK.out HNM.out HSM.out (p0.below hb1) (p1.below hb1) (HV.out.below hB1) htl).mono ?_
  rintro e w2 ⟨u, rfl, hf2, hb2⟩
  rw [show witL t.1.toNat (goesB t (duesL f.2.2 f.2.1.toNat)) f.2.1.toNat tu = witX t f tu from rfl]
  obtain ⟨ua, un, uc, rfl⟩ := ex_slice hf2
  have hB2 := bthen hB1 hb2
  clear hf2
  go_wp2_with fail
  go_ret2
  exact ⟨by rw [HHB.out, HAT.out]; rfl, hB2⟩
end Go.Proofs.Ytbpjejhjlmpcjaa
