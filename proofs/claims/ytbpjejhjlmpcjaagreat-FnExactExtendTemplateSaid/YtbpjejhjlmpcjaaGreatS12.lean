/-
  Contracts: the value of a formula, both sides.
-/
import Derived.Test.YtbpjejhjlmpcjaaGreatS11
import Derived.Test.YtbpjejhjlmpcjaaGreatK40
namespace Go.Proofs.YtbpjejhjlmpcjaaGreat
open Go.RowKit Go.Sort
noncomputable def vaP (t : Int × List (Int × List (List Int))) (f : Int × Int × List (Int × List Int)) (tu : List Int) : Bool := headB (witX t f tu)
/-- the value of a formula -/
noncomputable def vaR (t : Int × List (Int × List (List Int))) (f : Int × Int × List (Int × List Int)) : Int × List (List Int) := (f.1, relL t.1 f.1.toNat (vaP t f) (t.1 ^ f.1.toNat).toNat)
set_option maxHeartbeats 1600000 in
set_option maxRecDepth 100000 in
theorem valueOf1_any (w : World) {b1 bs : Nat} {v : Value} {tu : List Int} {t : Int × List (Int × List (List Int))} {f : Int × Int × List (Int × List Int)} (hok : frmOk t f) {n s : Nat} (hn : f.2.1 = n) (hs : t.1 = s) {ok : Nat → Prop} (hS : Sv ok w bs t n (duesL f.2.2 n)) (c0 : w.cell? ⟨b1, 0, none⟩ = some (.pointer (some ⟨bs, 0, none⟩))) (hv : intsT.Rd w [v] tu) (hl : tu.length ≤ n) :
    Calls Tryz.prog 70 #[v, .pointer (some ⟨b1, 0, none⟩)] w fun e w' => e = .returned (.bool (vaP t f tu)) ∧ Below w.heap.size w w' := by
  have HS := Lib.hid hS
  have HV := Lib.hid hv
  have HOK := Lib.hid hok
  have hn8 : n ≤ 8 := by have := frm_nums hok; omega
  have HWX : Hid (witL s (goesB t (duesL f.2.2 n)) n tu = witX t f tu) := by
    unfold Hid witX
    rw [show f.2.1.toNat = n by omega, show t.1.toNat = s by omega]
  have HDU : Hid (dueOk t n (duesL f.2.2 n)) := duesL_ok (fun a ha => by have := hok.2.2 a ha; rwa [hn] at this)
  have HSM := Lib.hid hs
  obtain ⟨va, vc, rfl⟩ := rd_slice hv
  clear hS hv hok hn hs
  go_enter Tryz.func70, Tryz.ntmps70
  go_wp2_with fail
  refine (first_any (n := n) (s := s) w HOK.out.1 HSM.out (by omega) duesL_len HDU.out HS.out HV.out hl).mono ?_
  rintro e w1 ⟨u, rfl, hf, hb1⟩
  rw [HWX.out]
  obtain ⟨ua, un, uc, rfl⟩ := ex_slice hf
  clear hf
  go_wp2_with fail
  go_ret
  exact ⟨rfl, hb1⟩
set_option maxHeartbeats 3200000 in
set_option maxRecDepth 100000 in
theorem valueOf_any (w : World) {cs cf : Array Value} {t : Int × List (Int × List (List Int))} {f : Int × Int × List (Int × List Int)} (h : tplT.Rd w cs.toList t) (hf : frmT.Rd w cf.toList f) (hok : frmOk t f) :
    Calls Tryz.prog 34 #[.agg cs, .agg cf] w (RetA relT w (vaR t f)) := by
  have HT := Lib.hid h
  have HF := Lib.hid hf
  have HOK := Lib.hid hok
  obtain ⟨v1, hv1, hI, -⟩ := pair_ex h
  obtain rfl := agg_of hv1
  obtain ⟨v2, hv2, hIf, hIf2, hfx⟩ := trip_ex hf
  obtain rfl := agg_of hv2
  obtain ⟨fa, fn, fc, rfl⟩ := rd_sl hfx
  have HFX := Lib.hid hfx
  have hnum := frm_nums hok
  obtain ⟨n, hn⟩ : ∃ n : Nat, f.2.1 = n := ⟨f.2.1.toNat, by omega⟩
  obtain ⟨s, hs⟩ : ∃ s : Nat, t.1 = s := ⟨t.1.toNat, by omega⟩
  obtain ⟨ar, har⟩ : ∃ ar : Nat, f.1 = ar := ⟨f.1.toNat, by omega⟩
  have HN := Lib.hid hn
  have HS := Lib.hid hs
  have HAR := Lib.hid har
  have hn8 : n ≤ 8 := by omega
  have har4 : ar ≤ 4 := by omega
  have harn : ar ≤ n := by omega
  have ht4 : 1 ≤ t.1 ∧ t.1 ≤ 4 := by omega
  have hfl : f.2.2.length ≤ 16 := hnum.2.2.2.2.2.2
  have HP : Hid (t.1 ^ ar = ((t.1 ^ ar).toNat : Int)) := by
    unfold Hid
    have := pow_nn (s := t.1) (by omega) ar
    omega
  clear h hv1 hf hv2 hfx hok hnum
  go_enter Tryz.func34, Tryz.ntmps34
  rw [hn, har]
  clear hn har hs
  go_wp2_with fail
  generalize hW : World.alloc _ _ = W
  have hbW : Below w.heap.size w W := hW ▸ ((bAA (w := w)).alloc (by simp; omega) _)
  have hsW : w.heap.size + 3 ≤ W.heap.size := by rw [← hW]; simp
  have t0 : W.cell? ⟨w.heap.size, 0, none⟩ = some (.int .i64 t.1) := by rw [← hW]; simp [go_sem]
  have t1 : W.cell? ⟨w.heap.size, 1, none⟩ = some v1 := by rw [← hW]; simp [go_sem]
  have f0 : W.cell? ⟨w.heap.size + 1, 0, none⟩ = some (.int .i64 ar) := by rw [← hW]; simp [go_sem]
  have f1 : W.cell? ⟨w.heap.size + 1, 1, none⟩ = some (.int .i64 n) := by rw [← hW]; simp [go_sem]
  have f2 : W.cell? ⟨w.heap.size + 1, 2, none⟩ = some (.slice fa fn fc) := by rw [← hW]; simp [go_sem]
  have r0 : W.cell? ⟨w.heap.size + 2, 0, none⟩ = some (.int .i64 0) := by rw [← hW]; simp [go_sem]
  have r1 : W.cell? ⟨w.heap.size + 2, 1, none⟩ = some (.slice none 0 0) := by rw [← hW]; simp [go_sem]
  have m0 : W.frozen? ⟨w.heap.size + 2, 0, none⟩ = false := by rw [← hW]; simp [go_sem]
  have m1 : W.frozen? ⟨w.heap.size + 2, 1, none⟩ = false := by rw [← hW]; simp [go_sem]
  clear hW
  refine (solverOf_any (ct := #[.int .i64 t.1, v1]) _ ((HT.out.below hbW).P) (n := n) (by omega) ((HFX.out.below hbW).P) (by omega) (fun a ha => by
    have h1 := HOK.out.2.2 a ha
    have h2 := atom_len HOK.out.1 h1
    exact ⟨h2.1, fun p hp => by have := h1.2.2 p hp; have := HN.out; omega⟩)).mono ?_
  rintro e w1 ⟨bs, rfl, hsv, hb1⟩
  have hB1 := bthen hbW hb1
  have hz1 := hb1.size
  replace t0 := (cellB hb1 (by omega)).trans t0
  replace f0 := (cellB hb1 (by omega)).trans f0
  replace r0 := (cellB hb1 (by omega)).trans r0
  replace r1 := (cellB hb1 (by omega)).trans r1
  replace m0 := (frozenB hb1 (by omega)).trans m0
  replace m1 := (frozenB hb1 (by omega)).trans m1
  have HSV := Lib.hid hsv
  have hl1 : w.heap.size + 2 < w1.heap.size := by omega
  have hl0 : w.heap.size + 1 < w1.heap.size := by omega
  have hl2 : w.heap.size < w1.heap.size := by omega
  clear hsv t1 f1 f2
  go_wp2_with fail
  generalize hWa : World.alloc w1 _ = wa
  have hba : Below w1.heap.size w1 wa := hWa ▸ bA
  have hsa : w1.heap.size + 1 ≤ wa.heap.size := by rw [← hWa]; simp
  have y0 : wa.cell? ⟨w1.heap.size, 0, none⟩ = some (.pointer (some ⟨bs, 0, none⟩)) := by rw [← hWa]; simp
  replace t0 := (cellB hba (by omega)).trans t0
  replace f0 := (cellB hba (by omega)).trans f0
  replace r0 := (cellB hba (by omega)).trans r0
  replace r1 := (cellB hba (by omega)).trans r1
  replace m0 := (frozenB hba (by omega)).trans m0
  replace m1 := (frozenB hba (by omega)).trans m1
  have hBa := bthen hB1 hba
  clear hWa
  refine (relOf_any _ t.1 ar ht4 har4 70 #[.pointer (some ⟨w1.heap.size, 0, none⟩)] (enters Tryz.func70 (by kernel_rfl) rfl) (vaP t f) _ HP.out (Lib.hid (fun W' u k hW' hk hu => valueOf1_any W' HOK.out HN.out HS.out ((HSV.out.below hba).below hW') ((cellB hW' (by omega)).trans y0) hu (by rw [digL_len]; exact harn)))).mono ?_
  rintro e w2 ⟨cs2, rfl, hf2, hb2⟩
  obtain ⟨a2, c2, rfl⟩ := fr_pair hf2
  have HF2 := Lib.hid hf2
  have hB2 := bthen hBa hb2
  have hz2 := hb2.size
  replace r0 := (cellB hb2 (by omega)).trans r0
  replace r1 := (cellB hb2 (by omega)).trans r1
  replace m0 := (frozenB hb2 (by omega)).trans m0
  replace m1 := (frozenB hb2 (by omega)).trans m1
  obtain ⟨g0, g1⟩ := set2_cells (x := .int .i64 (ar : Int)) (y := .slice a2 (relL t.1 ar (vaP t f) (t.1 ^ ar).toNat).length c2) r0 r1
  have hl3 : w.heap.size + 2 < w2.heap.size := by omega
  clear hf2 y0 t0 f0
  go_wp2_with fail
  refine bodyPost_ret (v := .agg #[.int .i64 (ar : Int), .slice a2 (relL t.1 ar (vaP t f) (t.1 ^ ar).toNat).length c2]) (by simp [results, Tryz.results34, go_sem, g0, g1]) rfl ⟨[.int .i64 (ar : Int), .slice a2 (relL t.1 ar (vaP t f) (t.1 ^ ar).toNat).length c2], rfl, ?_, ?_⟩
  · have e : vaR t f = ((ar : Int), relL t.1 ar (vaP t f) (t.1 ^ ar).toNat) := by unfold vaR; rw [HAR.out, Int.toNat_natCast]
    rw [e]
    exact (fr_set2 HF2.out (by omega)).mono (by omega)
  · exact (hB2.setCell (show w.heap.size ≤ w.heap.size + 2 by omega) _).setCell (show w.heap.size ≤ w.heap.size + 2 by omega) _
set_option maxHeartbeats 6400000 in
set_option maxRecDepth 100000 in
theorem l03Value_any (w : World) {vt vf : Value} {t : Int × List (Int × List (List Int))} {f : Int × Int × List (Int × List Int)} (ht : tplT.Pt w vt t) (hf : frmT.Pt w vf f) (hok : frmOk t f) :
    Calls Tryz.prog 30 #[vt, vf] w (RetA relT w (vaR t f)) := by
  have HTP := Lib.hid ht
  have HFP := Lib.hid hf
  have HOK := Lib.hid hok
  obtain ⟨bt, ot, _, _, rfl, hbt, -, t0, -, -⟩ := pt_pair ht
  obtain ⟨bf, of, _, _, rfl, hbf, -, -, f0, -, -, -⟩ := pt_trip hf
  have hnum := frm_nums hok
  obtain ⟨n, hn⟩ : ∃ n : Nat, f.2.1 = n := ⟨f.2.1.toNat, by omega⟩
  obtain ⟨s, hs⟩ : ∃ s : Nat, t.1 = s := ⟨t.1.toNat, by omega⟩
  obtain ⟨ar, har⟩ : ∃ ar : Nat, f.1 = ar := ⟨f.1.toNat, by omega⟩
  have HN := Lib.hid hn
  have HS := Lib.hid hs
  have HAR := Lib.hid har
  have har4 : ar ≤ 4 := by omega
  have harn : ar ≤ n := by omega
  have ht4 : 1 ≤ t.1 ∧ t.1 ≤ 4 := by omega
  obtain ⟨N, hN⟩ : ∃ N : Nat, t.1 ^ ar = N := ⟨(t.1 ^ ar).toNat, by have := pow_nn (s := t.1) (by omega) ar; omega⟩
  have hNle : N ≤ 1000000 := by
    have h1 : t.1 ^ ar ≤ 1000000 := by
      refine Int.le_trans (pow_mono' (by omega) (show t.1 ≤ 4 by omega) ar) ?_
      rcases (show ar = 0 ∨ ar = 1 ∨ ar = 2 ∨ ar = 3 ∨ ar = 4 by omega) with e | e | e | e | e <;> rw [e] <;> decide
    omega
  have HRES : Hid (vaR t f = ((ar : Int), relL t.1 ar (vaP t f) N)) := by unfold Hid vaR; rw [har, Int.toNat_natCast, hN]; simp
  have HP : Hid (t.1 ^ ((ar : Int)).toNat = N) := by unfold Hid; rw [Int.toNat_natCast]; exact hN
  have HWX : Hid (∀ tu, witL s (goesB t (duesL f.2.2 n)) n tu = witX t f tu) := fun tu => by
    unfold witX
    rw [show f.2.1.toNat = n by omega, show t.1.toNat = s by omega]
  rw [har] at f0
  clear ht hf hok hnum hn hs har hN
  go_enter Tryz.func30, Tryz.ntmps30
  go_wp2_with fail
  generalize hW : World.alloc _ _ = W
  have hbW : Below w.heap.size w W := hW ▸ bAA
  have hsW : w.heap.size + 2 ≤ W.heap.size := by rw [← hW]; simp
  have r0 : W.cell? ⟨w.heap.size, 0, none⟩ = some (.int .i64 0) := by rw [← hW]; simp [go_sem]
  have r1 : W.cell? ⟨w.heap.size, 1, none⟩ = some (.slice none 0 0) := by rw [← hW]; simp [go_sem]
  have m0 : W.frozen? ⟨w.heap.size, 0, none⟩ = false := by rw [← hW]; simp [go_sem]
  have m1 : W.frozen? ⟨w.heap.size, 1, none⟩ = false := by rw [← hW]; simp [go_sem]
  have y0 : W.cell? ⟨w.heap.size + 1, 0, none⟩ = some (.int .i64 ar) := by rw [← hW]; simp [go_sem]
  have y1 : W.cell? ⟨w.heap.size + 1, 1, none⟩ = some (.slice none 0 0) := by rw [← hW]; simp [go_sem]
  have n1 : W.frozen? ⟨w.heap.size + 1, 1, none⟩ = false := by rw [← hW]; simp [go_sem]
  clear hW
  go_loopw [6] (fun i wr => ∃ (k : Nat) (v : Value), k ≤ N ∧ i = .int .i64 k ∧ Bl intsT 50 (w.heap.size + 2) wr.heap.size wr v (relL t.1 ar (vaP t f) k) ∧ wr.cell? ⟨w.heap.size + 1, 1, none⟩ = some v ∧ wr.cell? ⟨w.heap.size + 1, 0, none⟩ = some (.int .i64 (ar : Int)) ∧ wr.frozen? ⟨w.heap.size + 1, 1, none⟩ = false ∧ Below (w.heap.size + 1) W wr ∧ w.heap.size + 2 ≤ wr.heap.size) (fun i _ => N - (intOf i).toNat)
  case atStart => exact ⟨0, _, Nat.zero_le _, rfl, by rw [relL_zero]; simpa using Bl.nil, y1, y0, n1, Below.refl _ _, hsW⟩
  case round =>
    obtain ⟨k, v, hk, rfl, hBv, z1, z0, zn, hbe, hse⟩ := hrel
    have hlr := relL_len (s := t.1) (ar := ar) (p := vaP t f) (k := k)
    obtain ⟨av0, nv0, cv0, rfl⟩ := ex_slice (hBv.fr (by unfold capMax; omega))
    have HBv := Lib.hid hBv
    have hbw : Below w.heap.size w wr := hbW.trans (hbe.mono (by omega))
    have e0 := (cellB hbw hbt).trans t0
    have e1 := (cellB hbw hbf).trans f0
    have cP : ∀ q, Calls Tryz.prog 43 #[.int .i64 t.1, .int .i64 (ar : Int)] (wr.drewN q) fun e w'' => e = .returned (.int .i64 N) ∧ ∃ m, w'' = wr.drewN m := fun q => by
      have h1 := l01Power_any (wr.drewN q) t.1 (ar : Int) (by omega) (by omega) (by omega)
      rw [HP.out] at h1
      exact pure_drawn h1
    clear hBv y0 y1 n1
    by_cases hkl : k < N
    · go_wp2_with fail
      go_quiet (exact cP _)
      rename_i nq
      generalize hWq : wr.drewN nq = wq
      have hbdq : Below wr.heap.size wr wq := hWq ▸ bDN (Below.refl _ _)
      have hzq := hbdq.size
      replace z1 := (cellB hbdq (by omega)).trans z1
      replace z0 := (cellB hbdq (by omega)).trans z0
      replace e0 := (cellB hbdq (by omega)).trans e0
      replace e1 := (cellB hbdq (by omega)).trans e1
      replace zn := (frozenB hbdq (by omega)).trans zn
      have HBq := Lib.hid ((HBv.out.below hbdq (Nat.le_refl _)).mono hzq)
      have hbwq := bthen hbw hbdq
      clear hWq cP HBv
      go_wp2_with fail
      refine wp_region_T (fun w' => w'.cell? ⟨bt, ot, none⟩ = some (.int .i64 t.1) ∧ w'.cell? ⟨bf, of, none⟩ = some (.int .i64 ar)) [9, 10] (by kernel_rfl) ⟨e0, e1⟩ (fun hHeld => ?_)
      refine wpAnyT_take (i := 0) (v := ?_) rfl (by kernel_rfl) (fun _ _ _ h => h) (Or.inl ⟨by rfl, ?_⟩) (by assumption) ?_
      rotate_left
      · (intro w hSw; (try dsimp only at hSw); go_simp <;> with_reducible rfl)
      try simp only [Act.put]
      refine wpAnyT_take (i := 1) (v := ?_) rfl (by kernel_rfl) (fun _ _ _ h => h) (Or.inl ⟨by rfl, ?_⟩) (by assumption) ?_
      rotate_left
      · (intro w hSw; (try dsimp only at hSw); go_simp <;> with_reducible rfl)
      try simp only [Act.put]
      refine wpAnyT_take (i := 2) (v := ?_) rfl (by kernel_rfl) (fun _ _ _ h => h) (Or.inl ⟨by rfl, ?_⟩) (by assumption) ?_
      rotate_left
      · (intro w hSw; (try dsimp only at hSw); go_simp <;> with_reducible rfl)
      try simp only [Act.put]
      refine wpAnyT_take (i := 3) (v := ?_) rfl (by kernel_rfl) (fun _ _ _ h => h) (Or.inl ⟨by rfl, ?_⟩) (by assumption) ?_
      rotate_left
      · (intro w hSw; (try dsimp only at hSw); go_simp <;> with_reducible rfl)
      try simp only [Act.put]
      refine wpAnyT_take (i := 4) (v := ?_) rfl (by kernel_rfl) (fun _ _ _ h => h) (Or.inl ⟨by rfl, ?_⟩) (by assumption) ?_
      rotate_left
      · (intro w hSw; (try dsimp only at hSw); go_simp <;> with_reducible rfl)
      try simp only [Act.put]
      refine wpAnyT_take (i := 5) (v := ?_) rfl (by kernel_rfl) (fun _ _ _ h => h) (Or.inl ⟨by rfl, ?_⟩) (by assumption) ?_
      rotate_left
      · (intro w hSw; (try dsimp only at hSw); go_simp <;> with_reducible rfl)
      try simp only [Act.put]
      refine wpAnyT_take (i := 6) (v := ?_) rfl (by kernel_rfl) (fun _ _ _ h => h) (Or.inl ⟨by rfl, ?_⟩) (by assumption) ?_
      rotate_left
      · (intro w hSw; (try dsimp only at hSw); go_simp <;> with_reducible rfl)
      try simp only [Act.put]
      refine wpAnyT_take (i := 7) (v := ?_) rfl (by kernel_rfl) (fun _ _ _ h => h) (Or.inl ⟨by rfl, ?_⟩) (by assumption) ?_
      rotate_left
      · (intro w hSw; (try dsimp only at hSw); go_simp <;> with_reducible rfl)
      try simp only [Act.put]
      refine wpAnyT_take (i := 8) (v := ?_) rfl (by kernel_rfl) (fun _ _ _ h => h) (Or.inl ⟨by rfl, ?_⟩) (by assumption) ?_
      rotate_left
      · (intro w hSw; (try dsimp only at hSw); go_simp <;> with_reducible rfl)
      try simp only [Act.put]
      refine wpAnyT_last (i := 9) rfl (by kernel_rfl) (by kernel_rfl) (fun K hK => ?_)
      go_simp
      go_at_call 44
      refine (l01Digits_any _ t.1 (k : Int) ar (by omega) (by omega) (by omega) (by omega) (by omega)).mono ?_
      rintro e w2 ⟨u, rfl, hf2, hb2⟩
      obtain ⟨a2, n2, c2, rfl⟩ := ex_slice hf2
      have hb2' : Below wq.heap.size wq w2 := bthen bD hb2
      have HF2 : Hid (intsT.Fr wq.heap.size w2 [.slice a2 n2 c2] (digL t.1 k ar)) := hf2
      replace z1 := (cellB hb2' (by omega)).trans z1
      replace z0 := (cellB hb2' (by omega)).trans z0
      replace e0 := (cellB hb2' (by omega)).trans e0
      replace e1 := (cellB hb2' (by omega)).trans e1
      replace zn := (frozenB hb2' (by omega)).trans zn
      have hz2 := hb2'.size
      have hbw2 := bthen hbwq hb2'
      clear hf2 hb2 hHeld
      dsimp only
      refine hK.out _ _ ?_
      clear hK K
      refine wpAnyT_last (i := 10) rfl (by kernel_rfl) (by kernel_rfl) (fun K hK => ?_)
      go_simp
      refine hK.out _ _ ?_
      clear hK K
      refine wpAnyT_done (by kernel_rfl) ?_ _
      go_simp
      go_wp2_with fail
      refine (l03Witness_any w2 HOK.out HN.out HS.out (HTP.out.below hbw2) (HFP.out.below hbw2) HF2.out.rd (by rw [digL_len]; exact harn)).mono ?_
      rintro e w3 ⟨u3, rfl, hf3, hb3⟩
      obtain ⟨a3, n3, c3, rfl⟩ := ex_slice hf3
      rw [HWX.out, show headB (witX t f (digL t.1 (k : Int) ar)) = vaP t f (digL t.1 (k : Int) ar) from rfl]
      replace z1 := (cellB hb3 (by omega)).trans z1
      replace z0 := (cellB hb3 (by omega)).trans z0
      replace e0 := (cellB hb3 (by omega)).trans e0
      replace e1 := (cellB hb3 (by omega)).trans e1
      replace zn := (frozenB hb3 (by omega)).trans zn
      have hz3 := hb3.size
      have hb23 : Below wq.heap.size wq w3 := bthen hb2' hb3
      have HB3 := Lib.hid (HBq.out.below hb23 (Nat.le_refl _))
      have HF3 := Lib.hid (HF2.out.below hb3)
      have hbe3 : Below (w.heap.size + 1) W w3 := hbe.trans ((hbdq.mono (by omega)).trans (hb23.mono (by omega)))
      clear hf3 HF2 HBq
      cases hp : vaP t f (digL t.1 (k : Int) ar)
      · have HNO := Lib.hid (relL_no hp)
        clear hp
        go_wp2_with fail
        go_roundw
        case rel => exact ⟨k + 1, _, by omega, by go_num, by rw [← HNO.out]; exact HB3.out.mono hb23.size, z1, z0, zn, hbe3, by omega⟩
        case measure => simp [intOf]; omega
      · have HYES := Lib.hid (relL_yes hp)
        clear hp
        go_wp2_with (refine wpList_push (E := intsT) _ rfl _ _ 30 50 rfl elInt64SS rfl (HB3.out.below (bA.mono (by omega)) (Nat.le_refl _)) rfl news1 (HF3.out.below bA) (by omega) (by decide) (by omega) (by first | (simp; done) | (simp; omega)) ?_; intro v5 w5 hB5 hg5 _; obtain ⟨a5, n5, c5, rfl⟩ := ex_slice (hB5.fr (by rw [List.length_append]; unfold capMax; simp only [List.length_singleton]; omega)); have hb5 : Below (w.heap.size + 2) w3 w5 := ((Below.refl _ w3).alloc (by omega) _).grown hg5 (by first | (simp; done) | (simp; omega)) (fun q hq => HB3.out.own hq); have i1 := (cellB hb5 (by omega)).trans z1; have i0 := (cellB hb5 (by omega)).trans z0; have i2 := (frozenB hb5 (by omega)).trans zn)
        have hz5 := hb5.size
        rw [HYES.out] at hB5
        have HB5 := Lib.hid hB5
        clear hB5 hg5
        go_wp2_with fail
        go_roundw
        case rel => exact ⟨k + 1, _, by omega, by go_num, by rw [size_set]; exact HB5.out.sameB (fun q hq1 hq2 => Below.heap_setCell _ _ _ _ (by simp; omega)), World.cell?_setCell_same _ _ _ i1, (World.cell?_setCell_other _ _ _ _ (by simp)).trans i0, (World.frozen?_setCell _ _ _ _).trans i2, (hbe3.trans (hb5.mono (by omega))).setCell (by simp) _, by rw [size_set]; omega⟩
        case measure => simp [intOf]; omega
    · obtain rfl : k = N := by omega
      have HFO := Lib.hid (HBv.out.fr (by unfold capMax; omega))
      replace r0 := (cellB hbe (by omega)).trans r0
      replace r1 := (cellB hbe (by omega)).trans r1
      replace m0 := (frozenB hbe (by omega)).trans m0
      replace m1 := (frozenB hbe (by omega)).trans m1
      go_wp2_with fail
      go_quiet (exact cP _)
      rename_i nq
      generalize hWq : wr.drewN nq = wq
      have hbdq : Below wr.heap.size wr wq := hWq ▸ bDN (Below.refl _ _)
      have hzq := hbdq.size
      replace z1 := (cellB hbdq (by omega)).trans z1
      replace z0 := (cellB hbdq (by omega)).trans z0
      replace r0 := (cellB hbdq (by omega)).trans r0
      replace r1 := (cellB hbdq (by omega)).trans r1
      replace m0 := (frozenB hbdq (by omega)).trans m0
      replace m1 := (frozenB hbdq (by omega)).trans m1
      have HFQ := Lib.hid (HFO.out.below hbdq)
      have hbwq := bthen hbw hbdq
      obtain ⟨q0, q1⟩ := set2_cells (x := .int .i64 (ar : Int)) (y := .slice av0 nv0 cv0) r0 r1
      have hl1 : w.heap.size + 1 < wq.heap.size := by omega
      clear hWq cP HFO e0 e1
      go_wp2_with fail
      refine bodyPost_ret (v := .agg #[.int .i64 (ar : Int), .slice av0 nv0 cv0]) (by simp [results, Tryz.results30, go_sem, q0, q1]) rfl ⟨[.int .i64 (ar : Int), .slice av0 nv0 cv0], rfl, ?_, ?_⟩
      · rw [HRES.out]
        exact (fr_cons (I64.small (by omega) (by omega)) (fr_set2 HFQ.out (by omega))).mono (by omega)
      · exact (hbwq.setCell (by simp) _).setCell (by simp) _
end Go.Proofs.YtbpjejhjlmpcjaaGreat
