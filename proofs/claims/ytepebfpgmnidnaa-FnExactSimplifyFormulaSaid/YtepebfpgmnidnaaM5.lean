/-
  Contracts: a formula made simpler, the reference's.
-/
import Derived.Test.YtepebfpgmnidnaaM5a
import Derived.Test.YtepebfpgmnidnaaTwo
import Derived.Deep.LoopGhost
namespace Go.Proofs.Ytepebfpgmnidnaa
open Go.RowKit Go.Sort
set_option maxHeartbeats 12800000 in
set_option maxRecDepth 100000 in
theorem l03Simple_any (w : World) {vf : Value} {t : Int × List (Int × List (List Int))} {f : Int × Int × Atoms} (h : frmT.Pt w vf f) (hok : frmOk t f) :
    Calls Try.prog 61 #[vf] w (RetA frmT w (simF f)) := by
  have HP := Lib.hid h
  obtain ⟨b, o, ad, cap, rfl, hb, hI, hI2, c0, c1, c2, hx⟩ := pt_trip h
  obtain ⟨a1, a2, a3, a4, a5⟩ := frm_bd (tb_true hok)
  have A5 := Lib.hid a5
  have HOL := Lib.hid (frm_okL hok)
  have HLF := Lib.hid (lef_ok hok)
  clear h hx hok a5 c2
  go_enter Try.func61, Try.ntmps61
  go_wp2_with fail
  generalize hW : World.alloc w _ = W
  have hbW : Below w.heap.size w W := hW ▸ bA
  have hsW : w.heap.size + 1 ≤ W.heap.size := by rw [← hW]; simp
  have r0 : W.cell? ⟨w.heap.size, 0, none⟩ = some (.int .i64 0) := by rw [← hW]; simp [go_sem]
  have r1 : W.cell? ⟨w.heap.size, 1, none⟩ = some (.int .i64 0) := by rw [← hW]; simp [go_sem]
  have r2 : W.cell? ⟨w.heap.size, 2, none⟩ = some (.slice none 0 0) := by rw [← hW]; simp [go_sem]
  have m0 : W.frozen? ⟨w.heap.size, 0, none⟩ = false := by rw [← hW]; simp [go_sem]
  have m1 : W.frozen? ⟨w.heap.size, 1, none⟩ = false := by rw [← hW]; simp [go_sem]
  have m2 : W.frozen? ⟨w.heap.size, 2, none⟩ = false := by rw [← hW]; simp [go_sem]
  clear hW
  replace c0 := (cellB hbW (by omega)).trans c0
  replace c1 := (cellB hbW (by omega)).trans c1
  go_cut [3] from 12 to 22 (fun v3 wx => ∃ b3 v, v3 = .pointer (some ⟨b3, 0, none⟩) ∧ W.heap.size ≤ b3 ∧ b3 < wx.heap.size ∧ wx.cell? ⟨b3, 0, none⟩ = some (.int .i64 f.1) ∧ wx.cell? ⟨b3, 1, none⟩ = some (.int .i64 f.2.1) ∧ wx.cell? ⟨b3, 2, none⟩ = some v ∧ wx.frozen? ⟨b3, 2, none⟩ = false ∧ opsT.RdP (fun k => k ≠ b3) wx [v] f.2.2 ∧ Below W.heap.size W wx)
  case rest =>
    obtain ⟨b3, v0, rfl, hb3, hb3', k0, k1, k2, n2, hrd, hbx⟩ := hcut
    have HRD := Lib.hid hrd
    have hzx := hbx.size
    obtain ⟨fr, hfr⟩ : ∃ fr : Nat, f.1 = fr := ⟨f.1.toNat, by omega⟩
    obtain ⟨N, hN⟩ : ∃ N : Nat, f.2.1 = N := ⟨f.2.1.toNat, by omega⟩
    have hfN : 1 ≤ fr ∧ fr ≤ N ∧ N ≤ 8 := by omega
    have HFR := Lib.hid hfr
    have HN := Lib.hid hN
    have HP3 : Hid (frmT.Pt wc (.pointer (some ⟨b3, 0, none⟩)) (f.1, f.2.1, f.2.2)) := pt_trip_mk hb3' hI hI2 k0 k1 k2 hrd.rd
    rw [hN] at k1
    clear hrd c0 c1 hfr hN
    go_wp2_with fail
    refine (l03Equal_quiet _ HP3.out (okL_eq2 HOL.out)).mono ?_
    rintro e w2 ⟨rfl, hq2⟩
    have hb2 := hq2.below
    have hz2 := hb2.size
    replace k0 := (cellB hb2 (by omega)).trans k0
    replace k1 := (cellB hb2 (by omega)).trans k1
    replace k2 := (cellB hb2 (by omega)).trans k2
    replace n2 := (frozenB hb2 (by omega)).trans n2
    have HR2 : Hid (opsT.RdP (fun k => k ≠ b3) w2 [v0] f.2.2) := HRD.out.below hb2
    have hB2 := bthen hbx hb2
    have hb32 : b3 < w2.heap.size := by omega
    clear hq2 HP3
    go_wp2_with fail
    go_loopg [4] (f.2.2.countP (mrgB f.1)) (fun g i wr => ∃ (l : Atoms) (v : Value), l.countP (mrgB f.1) = g ∧ i = .int .i64 (firstI (mrgB f.1) l) ∧ wr.cell? ⟨b3, 0, none⟩ = some (.int .i64 f.1) ∧ wr.cell? ⟨b3, 1, none⟩ = some (.int .i64 N) ∧ wr.cell? ⟨b3, 2, none⟩ = some v ∧ wr.frozen? ⟨b3, 2, none⟩ = false ∧ opsT.RdP (fun k => k ≠ b3) wr [v] l ∧ okL f.2.1 l ∧ l.length = f.2.2.length ∧ mrgF f.1 l = mrgF f.1 f.2.2 ∧ Below W.heap.size W wr ∧ b3 < wr.heap.size)
    case atStart => exact ⟨f.2.2, v0, rfl, rfl, k0, k1, k2, n2, HR2.out, HOL.out, rfl, rfl, hB2, hb32⟩
    case round =>
      obtain ⟨l, v, hcg, rfl, q0, q1, q2, qm, hrl, hol, hll, hml, hbe, hbl⟩ := hrel
      have HCG := Lib.hid hcg
      have HRL := Lib.hid hrl
      have HO := Lib.hid hol
      have HLL := Lib.hid hll
      have HML := Lib.hid hml
      obtain ⟨va, vn, vc, rfl⟩ := rd_sl hrl.rd
      have hze := hbe.size
      have hll16 : l.length ≤ 16 := by omega
      clear hcg hrl hol hll hml HR2 k0 k1 k2 n2
      rcases first_find (p := mrgB f.1) (xs := l) with ⟨e1, hnone⟩ | ⟨k, hk, e1, hsome, hp⟩
      · have HND := Lib.hid (mrg_done hnone)
        have HLE : Hid (lessL l l.length = lefL f) := by unfold Hid lefL; rw [← HML.out, HND.out]
        rw [e1]
        clear hnone e1
        rw [HFR.out] at q0
        obtain ⟨wv, rfl⟩ : ∃ wv : World, wv = wr := ⟨_, rfl⟩
        go_wp2_with fail
        refine (l03Less_P _ HRL.out (okL_eq2 HO.out) (by omega)).mono ?_
        rintro e w3 ⟨u3, rfl, hr3, hb3b⟩
        rw [HLE.out] at hr3
        obtain ⟨xa, xn, xc, rfl⟩ := rd_sl hr3.rd
        have hz3 := hb3b.size
        have HR3 : Hid (opsT.RdP (fun k => k ≠ b3) w3 [.slice xa xn xc] (lefL f)) := hr3.mono (fun k _ h => by
          rcases h with h | h
          · exact h
          · omega)
        replace q0 := (cellB hb3b (by omega)).trans q0
        replace q1 := (cellB hb3b (by omega)).trans q1
        replace q2 := (cellB hb3b (by omega)).trans q2
        replace qm := (frozenB hb3b (by omega)).trans qm
        clear hr3
        go_wp2_with fail
        generalize hWs : w3.setCell _ _ = ws
        have hbs : Below W.heap.size w3 ws := hWs ▸ (Below.refl _ w3).setCell (by first | (simp; done) | (simp; omega)) _
        have s0 : ws.cell? ⟨b3, 0, none⟩ = some (.int .i64 fr) := by rw [← hWs]; exact (World.cell?_setCell_other _ _ _ _ (by simp)).trans q0
        have s1 : ws.cell? ⟨b3, 1, none⟩ = some (.int .i64 N) := by rw [← hWs]; exact (World.cell?_setCell_other _ _ _ _ (by simp)).trans q1
        have s2 : ws.cell? ⟨b3, 2, none⟩ = some (.slice xa xn xc) := by rw [← hWs]; exact World.cell?_setCell_same _ _ _ q2
        have HRS : Hid (opsT.Rd ws [.slice xa xn xc] (lefL f)) := by unfold Hid; rw [← hWs]; exact (rdP_set HR3.out).rd
        have hzs := hbs.size
        have hBs : Below W.heap.size W ws := (hbe.trans (hb3b.mono (by omega))).trans hbs
        clear hWs q0 q1 q2 qm
        refine (l03Count_bl _ (fr : Int) (by omega)).mono ?_
        rintro e w4 ⟨u4, rfl, hB4, hb4⟩
        rw [Int.toNat_natCast, num_start (left := lefL f)] at hB4
        obtain ⟨ua4, un4, uc4, rfl⟩ := ex_slice (hB4.fr (by rw [toL_len]; unfold capMax; omega))
        have HB4 := Lib.hid hB4
        have hz4 := hb4.size
        have p0 := (cellB hb4 (by omega)).trans s0
        clear hB4
        go_wp2_with fail
        clear p0
        go_loopw [9, 8, 7] (fun i nx o wi => ∃ n : Nat, fr ≤ n ∧ n ≤ N ∧ i = .int .i64 n ∧ nx = .int .i64 ((varS fr (lefL f) (n - fr)).length : Int) ∧ Bl Ty.int 2 ws.heap.size wi.heap.size wi o (toL (numTo fr (lefL f)) n) ∧ Below ws.heap.size ws wi) (fun i _ _ _ => N - (intOf i).toNat)
        case atStart => exact ⟨fr, Nat.le_refl _, by omega, rfl, by rw [Nat.sub_self, var_zero, upL_len], HB4.out, hb4⟩
        case round =>
          obtain ⟨n, hfn, hnN, rfl, rfl, hBl, hbe2⟩ := hrel
          have hvl := var_len (fr := fr) (left := lefL f) (k := n - fr)
          obtain ⟨ua5, uc5, rfl⟩ := rd_slice (hBl.fr (by rw [toL_len]; unfold capMax; omega)).rd
          have HB := Lib.hid hBl
          have hse := hbe2.size
          have z0 := (cellB hbe2 (show b3 < ws.heap.size by omega)).trans s0
          have z1 := (cellB hbe2 (show b3 < ws.heap.size by omega)).trans s1
          have z2 := (cellB hbe2 (show b3 < ws.heap.size by omega)).trans s2
          have HRI := Lib.hid (HRS.out.below hbe2)
          obtain ⟨_, _, he, -, -, hco⟩ := pairs_ex HRI.out
          simp only [List.cons.injEq, Value.slice.injEq, and_true] at he
          obtain ⟨rfl, rfl, rfl⟩ := he
          have hll5 : (toL (numTo fr (lefL f)) n).length ≤ 8 := by rw [toL_len]; omega
          obtain ⟨wy, rfl⟩ : ∃ wy : World, wy = wr := ⟨_, rfl⟩
          have hwy : ws.heap.size ≤ wy.heap.size := hse
          have hlf16 := HLF.out.2
          clear hBl HB4 s0 s1 s2 HRL
          by_cases hkl : n < N
          · have hkl' : (n : Int) < (N : Int) := by omega
            go_wp2_with fail
            go_loop [11, 10] (fun i d => ∃ m : Nat, m ≤ (lefL f).length ∧ i = .int .i64 m ∧ d = .bool (anyB (fun a => hasI a.2 (n : Int)) ((lefL f).take m))) (fun i _ => (lefL f).length - (intOf i).toNat)
            case atStart => exact ⟨0, Nat.zero_le _, rfl, by simp [anyB]⟩
            case round =>
              obtain ⟨m, hm, rfl, rfl⟩ := hrel
              by_cases hml : m < (lefL f).length
              · obtain ⟨b6, o6, rfl, hb6, hce⟩ := hco (by omega)
                obtain ⟨u, hu, -, -, g1⟩ := hce m hml
                have HU := Lib.hid hu
                have HAT := Lib.hid (any_take (p := fun a => hasI a.2 (n : Int)) hml)
                clear hce hu hco
                cases hD : anyB (fun a => hasI a.2 (n : Int)) ((lefL f).take m)
                · have HNX : Hid (hasI ((lefL f)[m]).2 (n : Int) = anyB (fun a => hasI a.2 (n : Int)) ((lefL f).take (m + 1))) := by unfold Hid; rw [HAT.out, hD, Bool.false_or]
                  clear hD
                  go_wp2_with fail
                  refine (l00Has_any _ HU.out (n : Int)).mono ?_
                  rintro e _ ⟨rfl, rfl⟩
                  go_wp2_with fail
                  go_round
                  case rel => exact ⟨m + 1, by omega, by go_num, by rw [HNX.out]⟩
                  case measure => simp [intOf]; omega
                · have HNX : Hid (true = anyB (fun a => hasI a.2 (n : Int)) ((lefL f).take (m + 1))) := by unfold Hid; rw [HAT.out, hD, Bool.true_or]
                  clear hD
                  go_wp2_with fail
                  go_round
                  case rel => exact ⟨m + 1, by omega, by go_num, by rw [← HNX.out]⟩
                  case measure => simp [intOf]; omega
              · obtain rfl : m = (lefL f).length := by omega
                rw [List.take_length, show anyB (fun a => hasI a.2 (n : Int)) (lefL f) = usB (lefL f) (n : Int) from rfl]
                have HSN := Lib.hid (num_snoc (left := lefL f) hfn)
                have hI : I64 ((varS fr (lefL f) (n - fr)).length : Int) := I64.small (by omega) (by omega)
                clear hco
                cases hu : usB (lefL f) (n : Int)
                · have HNX := Lib.hid (var_no' hfn hu)
                  clear hu
                  go_wp2_with (at_builtin; go_loud (refine wpList_push (E := Ty.int) _ rfl _ _ 62 2 rfl elInt rfl (HB.out.below bA (Nat.le_refl _)) rfl news1 (fr_int hI) (by omega) (by decide) hwy (by simp) ?_; intro v5 w5 hB5 hg5 _; have hb5 : Below ws.heap.size wy w5 := ((Below.refl _ wy).alloc hwy _).grown hg5 (by first | (simp; done) | (simp; omega)) (fun q hq => HB.out.own hq)))
                  rw [HSN.out] at hB5
                  have HB5 := Lib.hid hB5
                  have hbw5 := hbe2.trans hb5
                  clear hB5 hg5
                  go_wp2_with fail
                  go_roundw
                  case rel => exact ⟨n + 1, by omega, by omega, by go_num, by rw [← HNX.out], HB5.out, hbw5⟩
                  case measure => simp [intOf]; omega
                · have HNX := Lib.hid (var_yes' hfn hu)
                  have HNL : Hid ((varS fr (lefL f) (n + 1 - fr)).length = (varS fr (lefL f) (n - fr)).length + 1) := by unfold Hid; rw [← HNX.out, List.length_append, List.length_singleton]
                  clear hu
                  go_wp2_with (at_builtin; go_loud (refine wpList_push (E := Ty.int) _ rfl _ _ 62 2 rfl elInt rfl (HB.out.below bA (Nat.le_refl _)) rfl news1 (fr_int hI) (by omega) (by decide) hwy (by simp) ?_; intro v5 w5 hB5 hg5 _; have hb5 : Below ws.heap.size wy w5 := ((Below.refl _ wy).alloc hwy _).grown hg5 (by first | (simp; done) | (simp; omega)) (fun q hq => HB.out.own hq)))
                  rw [HSN.out] at hB5
                  have HB5 := Lib.hid hB5
                  have hbw5 := hbe2.trans hb5
                  clear hB5 hg5
                  go_wp2_with fail
                  go_roundw
                  case rel => exact ⟨n + 1, by omega, by omega, by go_num, by rw [HNL.out]; go_num, HB5.out, hbw5⟩
                  case measure => simp [intOf]; omega
          · obtain rfl : n = N := by omega
            have hnl : ¬ (n : Int) < (n : Int) := by omega
            have HVR := Lib.hid (HB.out.fr (by unfold capMax; omega)).rd
            have hBy : Below W.heap.size W wy := hBs.trans (hbe2.mono (by omega))
            have hWy := hBy.size
            have R0 := (cellB hBy (show w.heap.size < W.heap.size by omega)).trans r0
            have R1 := (cellB hBy (show w.heap.size < W.heap.size by omega)).trans r1
            have R2 := (cellB hBy (show w.heap.size < W.heap.size by omega)).trans r2
            have M0 := (frozenB hBy (show w.heap.size < W.heap.size by omega)).trans m0
            have M1 := (frozenB hBy (show w.heap.size < W.heap.size by omega)).trans m1
            have M2 := (frozenB hBy (show w.heap.size < W.heap.size by omega)).trans m2
            have hb3y : b3 < wy.heap.size := by omega
            have HOK6 : Hid (∀ a ∈ lefL f, (∀ p ∈ a.2, 0 ≤ p ∧ p < ((toL (numTo fr (lefL f)) n).length : Int)) ∧ a.2.length ≤ 1000000) := fun a ha => ⟨fun p hp => by rw [toL_len]; have := (HLF.out.1 a ha).1 p hp; have := HN.out; omega, by have := (HLF.out.1 a ha).2.1; omega⟩
            have HMV : Hid (movedL (toL (numTo fr (lefL f)) n) (lefL f) = rnL (numTo fr (lefL f)) (lefL f)) := movedL_toL (fun a ha p hp => by have := (HLF.out.1 a ha).1 p hp; have := HN.out; omega)
            have HRES : Hid (simF f = ((fr : Int), ((varS fr (lefL f) (n - fr)).length : Int), rnL (numTo fr (lefL f)) (lefL f))) := by
              unfold Hid simF
              rw [HFR.out, HN.out, Int.toNat_natCast, toNat_subN]
            clear hco r0 r1 r2 m0 m1 m2
            go_wp2_with fail
            refine wp_region_T (fun w' => w'.cell? ⟨b3, 0, none⟩ = some (.int .i64 (fr : Int)) ∧ w'.cell? ⟨b3, 2, none⟩ = some (.slice xa (lefL f).length xc)) [8] (by kernel_rfl) ⟨z0, z2⟩ (fun hHeld => ?_)
            refine wpAnyT_take (i := 0) (v := ?_) rfl (by kernel_rfl) (fun _ _ _ h => h) (Or.inl ⟨by rfl, ?_⟩) (by assumption) ?_
            rotate_left
            · (intro w hSw; (try dsimp only at hSw); go_simp <;> with_reducible rfl)
            go_simp
            refine wpAnyT_take (i := 1) (v := ?_) rfl (by kernel_rfl) (fun _ _ _ h => h) (Or.inl ⟨by rfl, ?_⟩) (by assumption) ?_
            rotate_left
            · (intro w hSw; (try dsimp only at hSw); go_simp <;> with_reducible rfl)
            go_simp
            refine wpAnyT_take (i := 2) (v := ?_) rfl (by kernel_rfl) (fun _ _ _ h => h) (Or.inl ⟨by rfl, ?_⟩) (by assumption) ?_
            rotate_left
            · (intro w hSw; (try dsimp only at hSw); go_simp <;> with_reducible rfl)
            go_simp
            refine wpAnyT_take (i := 3) (v := ?_) rfl (by kernel_rfl) (fun _ _ _ h => h) (Or.inl ⟨by rfl, ?_⟩) (by assumption) ?_
            rotate_left
            · (intro w hSw; (try dsimp only at hSw); go_simp <;> with_reducible rfl)
            go_simp
            refine wpAnyT_take (i := 4) (v := ?_) rfl (by kernel_rfl) (fun _ _ _ h => h) (Or.inl ⟨by rfl, ?_⟩) (by assumption) ?_
            rotate_left
            · (intro w hSw; (try dsimp only at hSw); go_simp <;> with_reducible rfl)
            go_simp
            refine wpAnyT_take (i := 5) (v := ?_) rfl (by kernel_rfl) (fun _ _ _ h => h) (Or.inl ⟨by rfl, ?_⟩) (by assumption) ?_
            rotate_left
            · (intro w hSw; (try dsimp only at hSw); go_simp <;> with_reducible rfl)
            go_simp
            refine wpAnyT_one (i := 6) rfl (by kernel_rfl) (fun K hK => ?_)
            go_simp
            go_at_call 130
            refine (l03Moved_any _ (HRI.out.below bD) (HVR.out.below bD) HOK6.out (by omega)).mono ?_
            rintro e w5 ⟨u5, rfl, hf5, hb5'⟩
            have hb5 : Below wy.heap.size wy w5 := bthen bD hb5'
            rw [HMV.out] at hf5
            have HF5 : Hid (opsT.Fr wy.heap.size w5 [u5] (rnL (numTo fr (lefL f)) (lefL f))) := hf5
            obtain ⟨a5, n5, c5, rfl⟩ := ex_slice hf5
            have hz5 := hb5.size
            replace z0 := (cellB hb5 (by omega)).trans z0
            replace z2 := (cellB hb5 (by omega)).trans z2
            replace R0 := (cellB hb5 (by omega)).trans R0
            replace R1 := (cellB hb5 (by omega)).trans R1
            replace R2 := (cellB hb5 (by omega)).trans R2
            replace M0 := (frozenB hb5 (by omega)).trans M0
            replace M1 := (frozenB hb5 (by omega)).trans M1
            replace M2 := (frozenB hb5 (by omega)).trans M2
            clear hf5 hb5'
            dsimp only
            refine hK.out _ _ ⟨z0, z2⟩ (fun hHeld => ?_)
            clear hK K
            refine wpAnyT_one (i := 7) rfl (by kernel_rfl) (fun K hK => ?_)
            go_simp
            refine hK.out _ _ ⟨z0, z2⟩ (fun hHeld => ?_)
            clear hK K
            refine wpAnyT_last (i := 8) rfl (by kernel_rfl) (by kernel_rfl) (fun K hK => ?_)
            go_simp
            refine hK.out _ _ ?_
            clear hK K
            refine wpAnyT_done (by kernel_rfl) ?_ _
            go_simp
            obtain ⟨g0, g1, g2⟩ := set3_cells (x := .int .i64 (fr : Int)) (y := .int .i64 ((varS fr (lefL f) (n - fr)).length : Int)) (z := .slice a5 n5 c5) R0 R1 R2
            have hbw5 : Below w.heap.size w w5 := (hbW.trans (hBy.mono (by omega))).trans (hb5.mono (by omega))
            have hvl8 := hvl.2
            go_wp2_with fail
            refine bodyPost_ret (v := .agg #[.int .i64 (fr : Int), .int .i64 ((varS fr (lefL f) (n - fr)).length : Int), .slice a5 n5 c5]) (by simp [results, Try.results61, go_sem, g0, g1, g2]) rfl ⟨[.int .i64 (fr : Int), .int .i64 ((varS fr (lefL f) (n - fr)).length : Int), .slice a5 n5 c5], rfl, ?_, ?_⟩
            · rw [HRES.out]
              exact (fr_cons (I64.small (by omega) (by omega)) (fr_cons (I64.small (by omega) (by omega)) (HF5.out.set3 (by omega)))).mono (by omega)
            · exact set3_below hbw5 (by omega)
      · have HSM := Lib.hid hsome
        have HMP := Lib.hid (mrgB_iff.1 hp)
        have hmem := List.getElem_mem hk
        have HMEM := Lib.hid hmem
        obtain ⟨_, _, he, -, hco⟩ := pairs_exP HRL.out
        simp only [Value.slice.injEq] at he
        obtain ⟨rfl, rfl, rfl⟩ := he
        obtain ⟨q, p, rfl, hqb, hce⟩ := hco (by omega)
        obtain ⟨uk, huk, hIk, g0, g1⟩ := hce k hk
        obtain ⟨x, y, hxy⟩ := len_two ((HO.out _ hmem).2.2 HMP.out.1)
        have hin := (HO.out _ hmem).1
        replace huk := huk.rd
        rw [hxy] at huk hin
        have hx0 := hin x (by simp)
        have hy0 := hin y (by simp)
        obtain ⟨hi, hhi⟩ : ∃ hi : Nat, max x y = hi := ⟨(max x y).toNat, by omega⟩
        have hiN : hi < N := by have := HN.out; omega
        have HLO : Hid (loA l[k] = min x y) := by unfold Hid loA mrgX mrgY; rw [hxy]; rfl
        have HHI : Hid (hiA l[k] = hi) := by unfold Hid hiA mrgX mrgY; rw [hxy]; exact hhi
        have HMX := Lib.hid hhi
        obtain ⟨ua, uc, hu, -, -, hcu⟩ := ints_ex huk
        obtain rfl : uk = _ := by simpa using hu
        obtain ⟨b4, o4, rfl, hb4, hc4⟩ := hcu (by simp)
        have e0 := (hc4 0 (by simp)).2
        have e2 := (hc4 1 (by simp)).2
        simp only [Nat.add_zero, List.getElem_cons_zero, List.getElem_cons_succ] at e0 e2 g1
        have hmin : 0 ≤ min x y ∧ min x y ≤ 8 := by have := HN.out; omega
        rw [e1]
        clear hsome hp hco hce huk hIk g0 hxy hin hmem e1 hu hcu hc4 hhi
        obtain ⟨wv, rfl⟩ : ∃ wv : World, wv = wr := ⟨_, rfl⟩
        go_wp2_with fail
        refine (l03Count_bl _ (N : Int) (by omega)).mono ?_
        rintro e w3 ⟨u3, rfl, hB3, hb3b⟩
        rw [Int.toNat_natCast] at hB3
        obtain ⟨ua3, un3, uc3, rfl⟩ := ex_slice (hB3.fr (by rw [upL_len]; unfold capMax; omega))
        obtain ⟨hn3, g3, rfl, hIR3⟩ := bl_IR hB3 (by rw [upL_len]; omega)
        rw [upL_len] at hn3 hIR3
        obtain rfl : un3 = N := hn3
        obtain ⟨d0, d1⟩ := hIR3.cell hiN
        have d2 := hIR3.free hi
        have d3 := hIR3.lt
        have d4 : wv.heap.size ≤ g3 := hIR3.2.2.1
        have HIS := Lib.hid (hIR3.set hi (a := min x y) (I64.small (by omega) (by omega)))
        have hz3 := hb3b.size
        replace q0 := (cellB hb3b (by omega)).trans q0
        replace q1 := (cellB hb3b (by omega)).trans q1
        replace q2 := (cellB hb3b (by omega)).trans q2
        replace e0 := (cellB hb3b (by omega)).trans e0
        replace e2 := (cellB hb3b (by omega)).trans e2
        replace qm := (frozenB hb3b (by omega)).trans qm
        clear hB3 hIR3 g1
        go_wp2_with fail
        go_cut [6] from 36 to 51 (fun v6 wx => v6 = .slice (some ⟨g3, 0, none⟩) un3 uc3 ∧ IR 2 wv.heap.size wx g3 un3 uc3 ((upL 0 un3).set hi (min x y)) ∧ Below wv.heap.size w3 wx)
        case rest =>
          obtain ⟨rfl, hIR4, hb4b⟩ := hcut
          have hb4w := hb3b.trans hb4b
          have hz4 := hb4b.size
          replace q0 := (cellB hb4b (by omega)).trans q0
          replace q1 := (cellB hb4b (by omega)).trans q1
          replace q2 := (cellB hb4b (by omega)).trans q2
          replace qm := (frozenB hb4b (by omega)).trans qm
          rw [set_upL hiN] at hIR4
          have HTO := Lib.hid (hIR4.fr (by unfold capMax; omega)).rd
          have HRL4 := Lib.hid (HRL.out.below hb4w)
          have HOK4 : Hid (∀ a ∈ l, (∀ p ∈ a.2, 0 ≤ p ∧ p < ((toL (subTo (min x y) hi) un3).length : Int)) ∧ a.2.length ≤ 1000000) := fun a ha => ⟨fun p hp => by rw [toL_len]; have := (HO.out a ha).1 p hp; have := HN.out; omega, by have := (HO.out a ha).2.1; omega⟩
          have HST : Hid (movedL (toL (subTo (min x y) hi) un3) l = stM l l[k]) := by
            unfold Hid stM
            rw [HLO.out, HHI.out, movedL_toL (fun a ha p hp => by have := (HO.out a ha).1 p hp; have := HN.out; omega)]
          clear hIR4
          go_wp2_with fail
          refine (l03Moved_any _ HRL4.out.rd HTO.out HOK4.out (by omega)).mono ?_
          rintro e w5 ⟨u5, rfl, hf5, hb5⟩
          rw [HST.out] at hf5
          obtain ⟨xa, xn, xc, rfl⟩ := ex_slice hf5
          have hz5 := hb5.size
          have HF5 : Hid (opsT.RdP (fun k => k ≠ b3) w5 [.slice xa xn xc] (stM l l[k])) := rdP_fr hf5 (by omega)
          replace q0 := (cellB hb5 (by omega)).trans q0
          replace q1 := (cellB hb5 (by omega)).trans q1
          replace q2 := (cellB hb5 (by omega)).trans q2
          replace qm := (frozenB hb5 (by omega)).trans qm
          have HO5 := Lib.hid (ok_st HO.out HMEM.out HMP.out.1)
          have hb5w := bthen hb4w hb5
          clear hf5
          go_wp2_with fail
          generalize hWs : w5.setCell _ _ = ws
          have hbs : Below W.heap.size w5 ws := hWs ▸ (Below.refl _ w5).setCell (by first | (simp; done) | (simp; omega)) _
          have s0 : ws.cell? ⟨b3, 0, none⟩ = some (.int .i64 f.1) := by rw [← hWs]; exact (World.cell?_setCell_other _ _ _ _ (by simp)).trans q0
          have s1 : ws.cell? ⟨b3, 1, none⟩ = some (.int .i64 un3) := by rw [← hWs]; exact (World.cell?_setCell_other _ _ _ _ (by simp)).trans q1
          have s2 : ws.cell? ⟨b3, 2, none⟩ = some (.slice xa xn xc) := by rw [← hWs]; exact World.cell?_setCell_same _ _ _ q2
          have sm : ws.frozen? ⟨b3, 2, none⟩ = false := by rw [← hWs]; exact (World.frozen?_setCell _ _ _ _).trans qm
          have HRS : Hid (opsT.RdP (fun k => k ≠ b3) ws [.slice xa xn xc] (stM l l[k])) := by unfold Hid; rw [← hWs]; exact rdP_set HF5.out
          have hzs := hbs.size
          have hBs : Below W.heap.size W ws := (hbe.trans (hb5w.mono (by omega))).trans hbs
          have HPS : Hid (frmT.Pt ws (.pointer (some ⟨b3, 0, none⟩)) (f.1, f.2.1, stM l l[k])) := pt_trip_mk (by omega) hI hI2 s0 (by rw [HN.out]; exact s1) s2 HRS.out.rd
          clear hWs q0 q1 q2 qm
          refine (l03Equal_quiet _ HPS.out (okL_eq2 HO5.out)).mono ?_
          rintro e w6 ⟨rfl, hq6⟩
          have hb6 := hq6.below
          have hz6 := hb6.size
          replace s0 := (cellB hb6 (by omega)).trans s0
          replace s1 := (cellB hb6 (by omega)).trans s1
          replace s2 := (cellB hb6 (by omega)).trans s2
          replace sm := (frozenB hb6 (by omega)).trans sm
          have HR6 := Lib.hid (HRS.out.below hb6)
          have hlt6 : b3 < w6.heap.size := by omega
          have hB6 := bthen hBs hb6
          clear hq6
          go_wp2_with fail
          go_roundg ((stM l l[k]).countP (mrgB f.1))
          case measure => rw [← HCG.out]; exact cnt_st (okL_eq2 HO.out) HMEM.out (mrgB_iff.2 HMP.out)
          case rel => exact ⟨stM l l[k], _, rfl, rfl, s0, s1, s2, sm, HR6.out, HO5.out, by rw [← HLL.out]; exact rnL_len, by rw [mrg_go (okL_eq2 HO.out) HSM.out]; exact HML.out, hB6, hlt6⟩
        refine wp_region_T (fun w' => w'.cell? ⟨b4, o4, none⟩ = some (.int .i64 x) ∧ w'.cell? ⟨b4, o4 + 1, none⟩ = some (.int .i64 y)) [16] (by kernel_rfl) ⟨e0, e2⟩ (fun hHeld => ?_)
        refine wpAnyT_take (i := 0) (v := ?_) rfl (by kernel_rfl) (fun _ _ _ h => h) (Or.inl ⟨by rfl, ?_⟩) (by assumption) ?_
        rotate_left
        · (intro w hSw; (try dsimp only at hSw); go_simp <;> with_reducible rfl)
        go_simp
        refine wpAnyT_take (i := 1) (v := ?_) rfl (by kernel_rfl) (fun _ _ _ h => h) (Or.inl ⟨by rfl, ?_⟩) (by assumption) ?_
        rotate_left
        · (intro w hSw; (try dsimp only at hSw); go_simp <;> with_reducible rfl)
        go_simp
        refine wpAnyT_take (i := 2) (v := ?_) rfl (by kernel_rfl) (fun _ _ _ h => h) (Or.inl ⟨by rfl, ?_⟩) (by assumption) ?_
        rotate_left
        · (intro w hSw; (try dsimp only at hSw); go_simp <;> with_reducible rfl)
        go_simp
        refine wpAnyT_take (i := 3) (v := ?_) rfl (by kernel_rfl) (fun _ _ _ h => h) (Or.inl ⟨by rfl, ?_⟩) (by assumption) ?_
        rotate_left
        · (intro w hSw; (try dsimp only at hSw); go_simp <;> with_reducible rfl)
        go_simp
        refine wpAnyT_take (i := 4) (v := ?_) rfl (by kernel_rfl) (fun _ _ _ h => h) (Or.inl ⟨by rfl, ?_⟩) (by assumption) ?_
        rotate_left
        · (intro w hSw; (try dsimp only at hSw); go_simp <;> with_reducible rfl)
        go_simp
        refine wpAnyT_take (i := 5) (v := ?_) rfl (by kernel_rfl) (fun _ _ _ h => h) (Or.inl ⟨by rfl, ?_⟩) (by assumption) ?_
        rotate_left
        · (intro w hSw; (try dsimp only at hSw); go_simp <;> with_reducible rfl)
        go_simp
        refine wpAnyT_take (i := 6) (v := ?_) rfl (by kernel_rfl) (fun _ _ _ h => h) (Or.inl ⟨by rfl, ?_⟩) (by assumption) ?_
        rotate_left
        · (intro w hSw; (try dsimp only at hSw); go_simp <;> with_reducible rfl)
        go_simp
        refine wpAnyT_take (i := 8) (v := ?_) rfl (by kernel_rfl) (fun _ _ _ h => h) (Or.inl ⟨by rfl, ?_⟩) (by assumption) ?_
        rotate_left
        · (intro w hSw; (try dsimp only at hSw); go_simp <;> with_reducible rfl)
        go_simp
        refine wpAnyT_take (i := 9) (v := ?_) rfl (by kernel_rfl) (fun _ _ _ h => h) (Or.inl ⟨by rfl, ?_⟩) (by assumption) ?_
        rotate_left
        · (intro w hSw; (try dsimp only at hSw); go_simp <;> with_reducible rfl)
        go_simp
        refine wpAnyT_take (i := 10) (v := ?_) rfl (by kernel_rfl) (fun _ _ _ h => h) (Or.inl ⟨by rfl, ?_⟩) (by assumption) ?_
        rotate_left
        · (intro w hSw; (try dsimp only at hSw); go_simp <;> with_reducible rfl)
        go_simp
        refine wpAnyT_take (i := 11) (v := ?_) rfl (by kernel_rfl) (fun _ _ _ h => h) (Or.inl ⟨by rfl, ?_⟩) (by assumption) ?_
        rotate_left
        · (intro w hSw; (try dsimp only at hSw); go_simp <;> with_reducible rfl)
        go_simp
        refine wpAnyT_take (i := 12) (v := ?_) rfl (by kernel_rfl) (fun _ _ _ h => h) (Or.inl ⟨by rfl, ?_⟩) (by assumption) ?_
        rotate_left
        · (intro w hSw; (try dsimp only at hSw); go_simp <;> with_reducible rfl)
        go_simp
        refine wpAnyT_take (i := 13) (v := ?_) rfl (by kernel_rfl) (fun _ _ _ h => h) (Or.inl ⟨by rfl, ?_⟩) (by assumption) ?_
        rotate_left
        · (intro w hSw; (try dsimp only at hSw); go_simp <;> with_reducible rfl)
        go_simp
        refine wpAnyT_one (i := 7) rfl (by kernel_rfl) (fun K hK => ?_)
        go_simp
        go_at_call 129
        refine (l00Max_any x y _).mono ?_
        rintro e _ ⟨rfl, rfl⟩
        rw [HMX.out]
        dsimp only
        refine hK.out _ _ hHeld (fun hHeld => ?_)
        clear hK K
        refine wpAnyT_one (i := 14) rfl (by kernel_rfl) (fun K hK => ?_)
        go_simp
        go_at_call 128
        refine (l00Min_any x y _).mono ?_
        rintro e _ ⟨rfl, rfl⟩
        dsimp only
        refine hK.out _ _ hHeld (fun hHeld => ?_)
        clear hK K
        refine wpAnyT_take (i := 15) (v := ?_) rfl (by kernel_rfl) (fun _ _ _ h => h) (Or.inl ⟨by rfl, ?_⟩) (by assumption) ?_
        rotate_left
        · (intro w hSw; (try dsimp only at hSw); go_simp <;> with_reducible rfl)
        go_simp
        refine wpAnyT_last (i := 16) rfl (by kernel_rfl) (by kernel_rfl) (fun K hK => ?_)
        go_simp
        refine hK.out _ _ ?_
        clear hK K
        refine wpAnyT_done (by kernel_rfl) ?_ _
        go_simp
        go_wp2_with fail
        go_meet
        case rel => exact ⟨rfl, HIS.out, ((Below.refl _ w3).drew).setCell d4 _⟩
  refine wp_region_T (fun w' => w'.cell? ⟨b, o, none⟩ = some (.int .i64 f.1) ∧ w'.cell? ⟨b, o + 1, none⟩ = some (.int .i64 f.2.1)) [12] (by kernel_rfl) ⟨c0, c1⟩ (fun hHeld => ?_)
  refine wpAnyT_take (i := 0) (v := ?_) rfl (by kernel_rfl) (fun _ _ _ h => h) (Or.inl ⟨by rfl, ?_⟩) (by assumption) ?_
  rotate_left
  · (intro w hSw; (try dsimp only at hSw); go_simp <;> with_reducible rfl)
  go_simp
  refine wpAnyT_take (i := 1) (v := ?_) rfl (by kernel_rfl) (fun _ _ _ h => h) (Or.inl ⟨by rfl, ?_⟩) (by assumption) ?_
  rotate_left
  · (intro w hSw; (try dsimp only at hSw); go_simp <;> with_reducible rfl)
  go_simp
  refine wpAnyT_take (i := 2) (v := ?_) rfl (by kernel_rfl) (fun _ _ _ h => h) (Or.inl ⟨by rfl, ?_⟩) (by assumption) ?_
  rotate_left
  · (intro w hSw; (try dsimp only at hSw); go_simp <;> with_reducible rfl)
  go_simp
  refine wpAnyT_take (i := 3) (v := ?_) rfl (by kernel_rfl) (fun _ _ _ h => h) (Or.inl ⟨by rfl, ?_⟩) (by assumption) ?_
  rotate_left
  · (intro w hSw; (try dsimp only at hSw); go_simp <;> with_reducible rfl)
  go_simp
  refine wpAnyT_take (i := 4) (v := ?_) rfl (by kernel_rfl) (fun _ _ _ h => h) (Or.inl ⟨by rfl, ?_⟩) (by assumption) ?_
  rotate_left
  · (intro w hSw; (try dsimp only at hSw); go_simp <;> with_reducible rfl)
  go_simp
  refine wpAnyT_take (i := 5) (v := ?_) rfl (by kernel_rfl) (fun _ _ _ h => h) (Or.inl ⟨by rfl, ?_⟩) (by assumption) ?_
  rotate_left
  · (intro w hSw; (try dsimp only at hSw); go_simp <;> with_reducible rfl)
  go_simp
  refine wpAnyT_take (i := 6) (v := ?_) rfl (by kernel_rfl) (fun _ _ _ h => h) (Or.inl ⟨by rfl, ?_⟩) (by assumption) ?_
  rotate_left
  · (intro w hSw; (try dsimp only at hSw); go_simp <;> with_reducible rfl)
  go_simp
  refine wpAnyT_take (i := 7) (v := ?_) rfl (by kernel_rfl) (fun _ _ _ h => h) (Or.inl ⟨by rfl, ?_⟩) (by assumption) ?_
  rotate_left
  · (intro w hSw; (try dsimp only at hSw); go_simp <;> with_reducible rfl)
  go_simp
  refine wpAnyT_take (i := 8) (v := ?_) rfl (by kernel_rfl) (fun _ _ _ h => h) (Or.inl ⟨by rfl, ?_⟩) (by assumption) ?_
  rotate_left
  · (intro w hSw; (try dsimp only at hSw); go_simp <;> with_reducible rfl)
  go_simp
  have hv0 : Below W.heap.size W W.drew := bD
  clear c0 c1
  generalize W.drew = x0 at hHeld hv0 ⊢
  have hzD := hv0.size
  obtain ⟨c0, c1⟩ := hHeld
  refine wpAnyT_two (i := 9) (j := 11) rfl rfl (by kernel_rfl) (fun K hK => ?_) (fun K hK => ?_)
  · go_simp
    go_at_call 125
    refine (l03Own_bl _ (HP.out.below (bthen hbW hv0)) ⟨by omega, by omega⟩ (fun a ha => ⟨(A5.out a ha).1, by have := (A5.out a ha).2; omega⟩) (by omega)).mono ?_
    rintro e x1 ⟨u2, rfl, hB2, -, hb2⟩
    have hb2' : Below W.heap.size W x1 := bthen hv0 hb2
    obtain ⟨ua2, un2, uc2, rfl⟩ := ex_slice (hB2.fr (by unfold capMax; omega))
    have HRB := Lib.hid (hB2.fr (by unfold capMax; omega)).rd
    have hz2 := hb2'.size
    have hzb := hb2.size
    replace c0 := (cellB hb2 (by omega)).trans c0
    replace c1 := (cellB hb2 (by omega)).trans c1
    clear hB2 hb2
    dsimp only
    refine hK.out _ _ ⟨c0, c1⟩ (fun hHeld => ?_)
    clear hK K
    refine wpAnyT_take (i := 10) (v := ?_) rfl (by kernel_rfl) (fun _ _ _ h => h) (Or.inl ⟨by rfl, ?_⟩) (by assumption) ?_
    rotate_left
    · (intro w hSw; (try dsimp only at hSw); go_simp <;> with_reducible rfl)
    go_simp
    refine wpAnyT_one (i := 11) rfl (by kernel_rfl) (fun K hK => ?_)
    go_simp
    generalize hWx : World.alloc x1 _ = x2
    have hbx : Below x1.heap.size x1 x2 := by rw [← hWx]; exact bA
    have hsx : x1.heap.size + 1 ≤ x2.heap.size := by rw [← hWx]; simp
    have z0 : x2.cell? ⟨x1.heap.size, 0, none⟩ = some (.int .i64 0) := by rw [← hWx]; simp [go_sem]
    have z1 : x2.cell? ⟨x1.heap.size, 1, none⟩ = some (.int .i64 0) := by rw [← hWx]; simp [go_sem]
    have z2 : x2.cell? ⟨x1.heap.size, 2, none⟩ = some (.slice none 0 0) := by rw [← hWx]; simp [go_sem]
    have y0 : x2.frozen? ⟨x1.heap.size, 0, none⟩ = false := by rw [← hWx]; simp [go_sem]
    have y1 : x2.frozen? ⟨x1.heap.size, 1, none⟩ = false := by rw [← hWx]; simp [go_sem]
    have y2 : x2.frozen? ⟨x1.heap.size, 2, none⟩ = false := by rw [← hWx]; simp [go_sem]
    have HR2 : Hid (opsT.RdP (fun k => k ≠ x1.heap.size) x2 [.slice ua2 un2 uc2] f.2.2) := (rdP_lt HRB.out (Nat.le_refl _)).below hbx
    replace c0 := (cellB hbx (by omega)).trans c0
    replace c1 := (cellB hbx (by omega)).trans c1
    have hbwx := bthen hb2' hbx
    clear hWx
    refine hK.out _ _ ⟨c0, c1⟩ (fun hHeld => ?_)
    clear hK K
    refine wpAnyT_last (i := 12) rfl (by kernel_rfl) (by kernel_rfl) (fun K hK => ?_)
    go_simp
    refine hK.out _ _ ?_
    clear hK K
    refine wpAnyT_done (by kernel_rfl) ?_ _
    go_simp
    obtain ⟨s0, s1, s2⟩ := set3_cells (x := .int .i64 f.1) (y := .int .i64 f.2.1) (z := .slice ua2 un2 uc2) z0 z1 z2
    go_wp2_with fail
    go_meet
    case rel => exact ⟨x1.heap.size, _, rfl, hz2, by simp [World.setCell]; omega, s0, s1, s2, by simp only [World.frozen?_setCell]; exact y2, rdP_set3 HR2.out, set3_below hbwx hz2⟩
  · go_simp
    generalize hWx : World.alloc x0 _ = x1
    have hbx0 : Below x0.heap.size x0 x1 := by rw [← hWx]; exact bA
    have hsx : x0.heap.size + 1 ≤ x1.heap.size := by rw [← hWx]; simp
    have z0 : x1.cell? ⟨x0.heap.size, 0, none⟩ = some (.int .i64 0) := by rw [← hWx]; simp [go_sem]
    have z1 : x1.cell? ⟨x0.heap.size, 1, none⟩ = some (.int .i64 0) := by rw [← hWx]; simp [go_sem]
    have z2 : x1.cell? ⟨x0.heap.size, 2, none⟩ = some (.slice none 0 0) := by rw [← hWx]; simp [go_sem]
    have y2 : x1.frozen? ⟨x0.heap.size, 2, none⟩ = false := by rw [← hWx]; simp [go_sem]
    have y1 : x1.frozen? ⟨x0.heap.size, 1, none⟩ = false := by rw [← hWx]; simp [go_sem]
    have y0 : x1.frozen? ⟨x0.heap.size, 0, none⟩ = false := by rw [← hWx]; simp [go_sem]
    have hbx := bthen hv0 hbx0
    replace c0 := (cellB hbx0 (by omega)).trans c0
    replace c1 := (cellB hbx0 (by omega)).trans c1
    clear hWx
    refine hK.out _ _ ⟨c0, c1⟩ (fun hHeld => ?_)
    clear hK K
    refine wpAnyT_one (i := 9) rfl (by kernel_rfl) (fun K hK => ?_)
    go_simp
    go_at_call 125
    refine (l03Own_bl _ (HP.out.below (bthen hbW hbx)) ⟨by omega, by omega⟩ (fun a ha => ⟨(A5.out a ha).1, by have := (A5.out a ha).2; omega⟩) (by omega)).mono ?_
    rintro e x2 ⟨u2, rfl, hB2, -, hb2⟩
    obtain ⟨ua2, un2, uc2, rfl⟩ := ex_slice (hB2.fr (by unfold capMax; omega))
    have HR2 : Hid (opsT.RdP (fun k => k ≠ x0.heap.size) x2 [.slice ua2 un2 uc2] f.2.2) := rdP_fr (hB2.fr (by unfold capMax; omega)) (by omega)
    have hz2 := hb2.size
    replace c0 := (cellB hb2 (by omega)).trans c0
    replace c1 := (cellB hb2 (by omega)).trans c1
    replace z0 := (cellB hb2 (by omega)).trans z0
    replace z1 := (cellB hb2 (by omega)).trans z1
    replace z2 := (cellB hb2 (by omega)).trans z2
    replace y0 := (frozenB hb2 (by omega)).trans y0
    replace y1 := (frozenB hb2 (by omega)).trans y1
    replace y2 := (frozenB hb2 (by omega)).trans y2
    have hbwx := bthen hbx hb2
    clear hB2
    dsimp only
    refine hK.out _ _ ⟨c0, c1⟩ (fun hHeld => ?_)
    clear hK K
    refine wpAnyT_take (i := 10) (v := ?_) rfl (by kernel_rfl) (fun _ _ _ h => h) (Or.inl ⟨by rfl, ?_⟩) (by assumption) ?_
    rotate_left
    · (intro w hSw; (try dsimp only at hSw); go_simp <;> with_reducible rfl)
    go_simp
    refine wpAnyT_last (i := 12) rfl (by kernel_rfl) (by kernel_rfl) (fun K hK => ?_)
    go_simp
    refine hK.out _ _ ?_
    clear hK K
    refine wpAnyT_done (by kernel_rfl) ?_ _
    go_simp
    obtain ⟨s0, s1, s2⟩ := set3_cells (x := .int .i64 f.1) (y := .int .i64 f.2.1) (z := .slice ua2 un2 uc2) z0 z1 z2
    go_wp2_with fail
    go_meet
    case rel => exact ⟨x0.heap.size, _, rfl, hzD, by simp [World.setCell]; omega, s0, s1, s2, by simp only [World.frozen?_setCell]; exact y2, rdP_set3 HR2.out, set3_below hbwx hzD⟩
end Go.Proofs.Ytepebfpgmnidnaa
