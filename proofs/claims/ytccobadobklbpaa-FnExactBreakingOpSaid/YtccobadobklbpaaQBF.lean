/-
The marks of the laws: mark writes numbers from k on into all memory of a datum, held finds them there.
Regions with a box: a call that hands back a struct, a slice and a number. No program is named here.
-/
import Derived.Test.YtccobadobklbpaaQAC
import Derived.Test.YtccobadobklbpaaQAD
import Derived.Test.YtccobadobklbpaaQBE
namespace Go.Proofs.Ytccobadobklbpaa
open Go.RowKit Go.Sort

set_option maxHeartbeats 800000 in
theorem markInt64S_any (w : World) {v : Value} {xs : List Int} {fp : List Nat} (h : intsT.rd w [v] xs fp) (hn : fp.Nodup) (hu : Unf w fp) (k : Int) (h0 : 0 ≤ k) (h1 : k + cntI xs ≤ 4611686018427387904) :
    Calls Try.prog 21 #[v, .int .i64 k] w fun e w' => e = .returned (.int .i64 (k + cntI xs)) ∧ TchF fp w w' ∧ intsT.rd w' [v] (mkI k xs) fp ∧ Unf w' fp := by
  obtain ⟨ad, cap, rfl⟩ := rd_slice ⟨fp, h⟩
  unfold cntI at h1
  go_enter Try.func21, Try.ntmps21
  go_wp2_with fail
  go_loopw [1, 5] (fun l i wr => ∃ j : Nat, j ≤ xs.length ∧ i = .int .i64 j ∧ l = .int .i64 (k + j) ∧ TchF fp w wr ∧ intsT.rd wr [.slice ad xs.length cap] (mkAt (fun k _ => k) (fun _ => 1) k xs j) fp ∧ Unf wr fp) (fun _ i _ => xs.length - (intOf i).toNat)
  case atStart => exact ⟨0, Nat.zero_le _, rfl, by simp, TchF.refl _ _, by rw [mkAt_zero]; exact h, hu⟩
  case round =>
    obtain ⟨j, hj, rfl, rfl, ht, hr, hU⟩ := hrel
    by_cases hjl : j < xs.length
    · obtain ⟨b, o, cap', hv, hb, hc, hf, hw⟩ := ints_mark hr hn hU (i := j) (by rw [mkAt_len]; exact hjl)
      simp only [mkAt_len, Value.slice.injEq, true_and] at hv
      obtain ⟨rfl, rfl⟩ := hv
      have H := Lib.hid (hw (k + j) ⟨by omega, by omega⟩)
      have e := mkAt_set (f := fun k _ => k) (c := fun _ => 1) (k := k) hjl
      rw [sumL_one, take_len hj] at e
      have HR := Lib.hid hr
      have HU := Lib.hid hU
      have HE := Lib.hid e
      clear hr hU hw h hu e
      go_wp2_with fail
      go_roundw
      case rel => exact ⟨j + 1, by omega, by go_num, by go_num, ht.trans H.out.2.2, by rw [← HE.out]; exact H.out.1, H.out.2.1⟩
      case measure => simp [intOf]; omega
    · obtain rfl : j = xs.length := by omega
      rw [mkAt_full] at hr
      have HR := Lib.hid hr
      have HU := Lib.hid hU
      clear hr hU h hu
      go_wp2_with fail
      go_ret
      exact ⟨rfl, ht, HR.out, HU.out⟩
set_option maxHeartbeats 800000 in
theorem heldInt64S_any (w : World) {v : Value} {xs : List Int} (k : Int) (h : intsT.Rd w [v] (mkI k xs)) (h0 : 0 ≤ k) (h1 : k + cntI xs ≤ 4611686018427387904) :
    Calls Try.prog 35 #[v, .int .i64 k] w fun e w' => e = .returned (.int .i64 (k + cntI xs)) ∧ Below w.heap.size w w' := by
  obtain ⟨ad, cap, hv, -, -, hcell⟩ := ints_ex h
  have hlen : (mkI k xs).length = xs.length := mkL_len
  rw [hlen] at hv
  obtain rfl : v = _ := by simpa using hv
  unfold cntI at h1
  clear h hv
  go_enter Try.func35, Try.ntmps35
  go_wp2_with fail
  go_loopw [1, 5] (fun l i wr => ∃ j : Nat, j ≤ xs.length ∧ i = .int .i64 j ∧ l = .int .i64 (k + j) ∧ Below w.heap.size w wr) (fun _ i _ => xs.length - (intOf i).toNat)
  case atStart => exact ⟨0, Nat.zero_le _, rfl, by simp, Below.refl _ _⟩
  case round =>
    obtain ⟨j, hj, rfl, rfl, hbel⟩ := hrel
    by_cases hjl : j < xs.length
    · obtain ⟨b, o, rfl, hb, hce⟩ := hcell (by omega)
      obtain ⟨-, hc0⟩ := hce j (by omega)
      have e : (mkI k xs)[j]'(by omega) = k + j := by
        have := mkL_get (f := fun (k : Int) (_ : Int) => k) (c := fun _ => 1) (k := k) hjl (by rw [mkL_len]; exact hjl)
        rw [sumL_one, take_len hj] at this
        exact this
      rw [e] at hc0
      have d0 : wr.cell? ⟨b, o + j, none⟩ = some (.int .i64 (k + j)) := (hbel.cell hb).trans hc0
      clear hcell hce hc0 e hlen
      go_wp2_with fail
      go_roundw
      case rel => exact ⟨j + 1, by omega, by go_num, by go_num, hbel⟩
      case measure => simp [intOf]; omega
    · obtain rfl : j = xs.length := by omega
      clear hcell
      go_wp2_with fail
      go_ret
      exact ⟨rfl, hbel⟩
set_option maxHeartbeats 800000 in
theorem markInt64SS_any (w : World) {v : Value} {xs : List (List Int)} {fp : List Nat} (h : rowsT.rd w [v] xs fp) (hn : fp.Nodup) (hu : Unf w fp) (k : Int) (h0 : 0 ≤ k) (h1 : k + cntRows xs ≤ 4611686018427387904) :
    Calls Try.prog 20 #[v, .int .i64 k] w fun e w' => e = .returned (.int .i64 (k + cntRows xs)) ∧ TchF fp w w' ∧ rowsT.rd w' [v] (mkRows k xs) fp ∧ Unf w' fp := by
  obtain ⟨_, _, _, _, hL, _⟩ := Ty.slice_ex ⟨fp, h⟩
  obtain ⟨ad, cap, rfl⟩ := rd_slice ⟨fp, h⟩
  have HS : Hid (cntRows xs = sumL cntI xs) := rfl
  rw [HS.out] at h1
  go_enter Try.func20, Try.ntmps20
  go_wp2_with fail
  go_loopw [1, 5] (fun l i wr => ∃ j : Nat, j ≤ xs.length ∧ i = .int .i64 j ∧ l = .int .i64 (k + sumL cntI (xs.take j)) ∧ TchF fp w wr ∧ rowsT.rd wr [.slice ad xs.length cap] (mkAt mkI cntI k xs j) fp ∧ Unf wr fp) (fun _ i _ => xs.length - (intOf i).toNat)
  case atStart => exact ⟨0, Nat.zero_le _, rfl, by simp [sumL], TchF.refl _ _, by rw [mkAt_zero]; exact h, hu⟩
  case round =>
    obtain ⟨j, hj, rfl, rfl, ht, hr, hU⟩ := hrel
    have hs0 := sumL_nonneg cntI_nn (xs.take j)
    by_cases hjl : j < xs.length
    · obtain ⟨b, o, cap', u, f, hv, hb, hc, hd, hfn, hfu, hw⟩ := rows_mark hr hn hU (i := j) (by rw [mkAt_len]; exact hjl)
      simp only [mkAt_len, Value.slice.injEq, true_and] at hv
      obtain ⟨rfl, rfl⟩ := hv
      rw [mkAt_get hjl] at hd
      have hs1 := sumL_succ cntI hjl
      have hs2 := sumL_take_le cntI_nn xs (j + 1)
      have HE := Lib.hid (mkAt_set (f := mkI) (c := cntI) (k := k) hjl)
      have HD := Lib.hid hd
      have HW := Lib.hid hw
      have HFN := Lib.hid hfn
      have HFU := Lib.hid hfu
      clear hr hU hw h hu hd hfn hfu
      go_wp2_with fail
      refine (markInt64S_any _ HD.out HFN.out HFU.out _ (by omega) (by omega)).mono ?_
      rintro e w1 ⟨rfl, g1, g2, g3⟩
      obtain ⟨q1, q2, q3⟩ := HW.out _ _ g1 g2 g3
      rw [HE.out] at q1
      have HQ := Lib.hid q1
      have HQ2 := Lib.hid q2
      clear q1 q2 g1 g2 g3 hc
      go_wp2_with fail
      go_roundw
      case rel => exact ⟨j + 1, by omega, by go_num, by rw [hs1]; go_num, ht.trans q3, HQ.out, HQ2.out⟩
      case measure => simp [intOf]; omega
    · obtain rfl : j = xs.length := by omega
      rw [mkAt_full] at hr
      rw [List.take_length]
      have HR := Lib.hid hr
      have HU := Lib.hid hU
      clear hr hU h hu
      go_wp2_with fail
      go_ret
      exact ⟨by rw [HS.out]; rfl, ht, HR.out, HU.out⟩
set_option maxHeartbeats 800000 in
theorem heldInt64SS_any (w : World) {v : Value} {xs : List (List Int)} (k : Int) (h : rowsT.Rd w [v] (mkRows k xs)) (h0 : 0 ≤ k) (h1 : k + cntRows xs ≤ 4611686018427387904) :
    Calls Try.prog 62 #[v, .int .i64 k] w fun e w' => e = .returned (.int .i64 (k + cntRows xs)) ∧ Below w.heap.size w w' := by
  obtain ⟨ad, cap, hv, -, hL, hcell⟩ := slices_ex h
  have hlen : (mkRows k xs).length = xs.length := mkL_len
  rw [hlen] at hv hL
  obtain rfl : v = _ := by simpa using hv
  have HS : Hid (cntRows xs = sumL cntI xs) := rfl
  rw [HS.out] at h1
  clear h hv
  go_enter Try.func62, Try.ntmps62
  go_wp2_with fail
  go_loopw [1, 5] (fun l i wr => ∃ j : Nat, j ≤ xs.length ∧ i = .int .i64 j ∧ l = .int .i64 (k + sumL cntI (xs.take j)) ∧ Below w.heap.size w wr) (fun _ i _ => xs.length - (intOf i).toNat)
  case atStart => exact ⟨0, Nat.zero_le _, rfl, by simp [sumL], Below.refl _ _⟩
  case round =>
    obtain ⟨j, hj, rfl, rfl, hbel⟩ := hrel
    have hs0 := sumL_nonneg cntI_nn (xs.take j)
    by_cases hjl : j < xs.length
    · obtain ⟨b, o, rfl, hb, hce⟩ := hcell (by omega)
      obtain ⟨u, hd, hc0⟩ := hce j (by omega)
      have e : (mkRows k xs)[j]'(by omega) = mkI (k + sumL cntI (xs.take j)) xs[j] := mkL_get hjl (by rw [mkL_len]; exact hjl)
      rw [e] at hd
      have d0 : wr.cell? ⟨b, o + j, none⟩ = some u := (hbel.cell hb).trans hc0
      have HD := Lib.hid (hd.below hbel)
      have hs1 := sumL_succ cntI hjl
      have hs2 := sumL_take_le cntI_nn xs (j + 1)
      clear hcell hce hc0 e hlen hd
      go_wp2_with fail
      refine (heldInt64S_any _ _ HD.out (by omega) (by omega)).mono ?_
      rintro e w1 ⟨rfl, hb1⟩
      have hp : 0 ≤ k + sumL cntI (xs.take j) + cntI xs[j] := by have := cntI_nn xs[j]; omega
      go_wp2_with fail
      go_roundw
      case rel => exact ⟨j + 1, by omega, by go_num, by rw [hs1]; go_num, bthen hbel hb1⟩
      case measure => simp [intOf]; omega
    · obtain rfl : j = xs.length := by omega
      rw [List.take_length]
      clear hcell
      go_wp2_with fail
      go_ret
      exact ⟨by rw [HS.out]; rfl, hbel⟩
set_option maxHeartbeats 800000 in
theorem markAtomS_any (w : World) {v : Value} {xs : List (Int × List Int)} {fp : List Nat} (h : opsT.rd w [v] xs fp) (hn : fp.Nodup) (hu : Unf w fp) (k : Int) (h0 : 0 ≤ k) (h1 : k + cntOps xs ≤ 4611686018427387904) :
    Calls Try.prog 88 #[v, .int .i64 k] w fun e w' => e = .returned (.int .i64 (k + cntOps xs)) ∧ TchF fp w w' ∧ opsT.rd w' [v] (mkOps k xs) fp ∧ Unf w' fp := by
  obtain ⟨_, _, _, _, hL, _⟩ := Ty.slice_ex ⟨fp, h⟩
  obtain ⟨ad, cap, rfl⟩ := rd_slice ⟨fp, h⟩
  have HS : Hid (cntOps xs = sumL cntOp1 xs) := rfl
  rw [HS.out] at h1
  go_enter Try.func88, Try.ntmps88
  go_wp2_with fail
  go_loopw [1, 5] (fun l i wr => ∃ j : Nat, j ≤ xs.length ∧ i = .int .i64 j ∧ l = .int .i64 (k + sumL cntOp1 (xs.take j)) ∧ TchF fp w wr ∧ opsT.rd wr [.slice ad xs.length cap] (mkAt mkOp1 cntOp1 k xs j) fp ∧ Unf wr fp) (fun _ i _ => xs.length - (intOf i).toNat)
  case atStart => exact ⟨0, Nat.zero_le _, rfl, by simp [sumL], TchF.refl _ _, by rw [mkAt_zero]; exact h, hu⟩
  case round =>
    obtain ⟨j, hj, rfl, rfl, ht, hr, hU⟩ := hrel
    have hs0 := sumL_nonneg cntOp1_nn (xs.take j)
    by_cases hjl : j < xs.length
    · obtain ⟨b, o, cap', u, f, hv, hb, hc, hc1, hfz, hw⟩ := pairs_mark hr hn hU (i := j) (by rw [mkAt_len]; exact hjl)
      simp only [mkAt_len, Value.slice.injEq, true_and] at hv
      obtain ⟨rfl, rfl⟩ := hv
      have hs1 := sumL_succ cntOp1 hjl
      have hs2 := sumL_take_le cntOp1_nn xs (j + 1)
      have hi0 := cntI_nn xs[j].2
      have hi1 : cntOp1 xs[j] = 1 + cntI xs[j].2 := rfl
      obtain ⟨w1, hw1, c1, hd, hfn, hfu, -, hw'⟩ := hw (k + sumL cntOp1 (xs.take j)) ⟨by omega, by omega⟩
      rw [mkAt_get hjl] at hd
      have HE := Lib.hid (mkAt_set (f := mkOp1) (c := cntOp1) (k := k) hjl)
      have HD := Lib.hid hd
      have HW := Lib.hid hw'
      have HFN := Lib.hid hfn
      have HFU := Lib.hid hfu
      clear hr hU hw hw' h hu hd hfn hfu
      go_wp2_with fail
      rw [← hw1]
      go_wp2_with fail
      refine (markInt64S_any _ HD.out HFN.out HFU.out _ (by omega) (by omega)).mono ?_
      rintro e w2 ⟨rfl, g1, g2, g3⟩
      obtain ⟨q1, q2, q3⟩ := HW.out _ _ g1 g2 g3
      have he : (mkAt mkOp1 cntOp1 k xs j).set j (k + sumL cntOp1 (xs.take j), mkI (k + sumL cntOp1 (xs.take j) + 1) xs[j].2) = mkAt mkOp1 cntOp1 k xs (j + 1) := HE.out
      rw [he] at q1
      have HQ := Lib.hid q1
      have HQ2 := Lib.hid q2
      clear q1 q2 g1 g2 g3 hc hc1 c1 hfz he
      go_wp2_with fail
      go_roundw
      case rel => exact ⟨j + 1, by omega, by go_num, by rw [hs1, hi1]; go_num, ht.trans q3, HQ.out, HQ2.out⟩
      case measure => simp [intOf]; omega
    · obtain rfl : j = xs.length := by omega
      rw [mkAt_full] at hr
      rw [List.take_length]
      have HR := Lib.hid hr
      have HU := Lib.hid hU
      clear hr hU h hu
      go_wp2_with fail
      go_ret
      exact ⟨by rw [HS.out]; rfl, ht, HR.out, HU.out⟩
set_option maxHeartbeats 800000 in
theorem heldAtomS_any (w : World) {v : Value} {xs : List (Int × List Int)} (k : Int) (h : opsT.Rd w [v] (mkOps k xs)) (h0 : 0 ≤ k) (h1 : k + cntOps xs ≤ 4611686018427387904) :
    Calls Try.prog 89 #[v, .int .i64 k] w fun e w' => e = .returned (.int .i64 (k + cntOps xs)) ∧ Below w.heap.size w w' := by
  obtain ⟨ad, cap, hv, -, hL, hcell⟩ := pairs_ex h
  have hlen : (mkOps k xs).length = xs.length := mkL_len
  rw [hlen] at hv hL
  obtain rfl : v = _ := by simpa using hv
  have HS : Hid (cntOps xs = sumL cntOp1 xs) := rfl
  rw [HS.out] at h1
  clear h hv
  go_enter Try.func89, Try.ntmps89
  go_wp2_with fail
  go_loopw [1, 5] (fun l i wr => ∃ j : Nat, j ≤ xs.length ∧ i = .int .i64 j ∧ l = .int .i64 (k + sumL cntOp1 (xs.take j)) ∧ Below w.heap.size w wr) (fun _ i _ => xs.length - (intOf i).toNat)
  case atStart => exact ⟨0, Nat.zero_le _, rfl, by simp [sumL], Below.refl _ _⟩
  case round =>
    obtain ⟨j, hj, rfl, rfl, hbel⟩ := hrel
    have hs0 := sumL_nonneg cntOp1_nn (xs.take j)
    by_cases hjl : j < xs.length
    · obtain ⟨b, o, rfl, hb, hce⟩ := hcell (by omega)
      obtain ⟨u, hd, -, hc0, hc1⟩ := hce j (by omega)
      have e : (mkOps k xs)[j]'(by omega) = mkOp1 (k + sumL cntOp1 (xs.take j)) xs[j] := mkL_get hjl (by rw [mkL_len]; exact hjl)
      rw [e] at hd hc0
      have d0 : wr.cell? ⟨b, o + j * 2, none⟩ = some (.int .i64 (k + sumL cntOp1 (xs.take j))) := (hbel.cell hb).trans hc0
      have d1 : wr.cell? ⟨b, o + j * 2 + 1, none⟩ = some u := (hbel.cell hb).trans hc1
      have hd' : _ := hd.below hbel
      have HD := Lib.hid hd'
      have hs1 := sumL_succ cntOp1 hjl
      have hs2 := sumL_take_le cntOp1_nn xs (j + 1)
      have hi0 := cntI_nn xs[j].2
      have hi1 : cntOp1 xs[j] = 1 + cntI xs[j].2 := rfl
      clear hcell hce hc0 hc1 e hlen hd hd'
      go_wp2_with fail
      refine (heldInt64S_any _ _ HD.out (by omega) (by omega)).mono ?_
      rintro e w1 ⟨rfl, hb1⟩
      have hp : 0 ≤ k + sumL cntOp1 (xs.take j) + 1 + cntI xs[j].2 := by omega
      go_wp2_with fail
      go_roundw
      case rel => exact ⟨j + 1, by omega, by go_num, by rw [hs1, hi1]; go_num, bthen hbel hb1⟩
      case measure => simp [intOf]; omega
    · obtain rfl : j = xs.length := by omega
      rw [List.take_length]
      clear hcell
      go_wp2_with fail
      go_ret
      exact ⟨by rw [HS.out]; rfl, hbel⟩
set_option maxHeartbeats 800000 in
theorem markRelS_any (w : World) {v : Value} {xs : List (Int × List (List Int))} {fp : List Nat} (h : relsT.rd w [v] xs fp) (hn : fp.Nodup) (hu : Unf w fp) (k : Int) (h0 : 0 ≤ k) (h1 : k + cntRels xs ≤ 4611686018427387904) :
    Calls Try.prog 57 #[v, .int .i64 k] w fun e w' => e = .returned (.int .i64 (k + cntRels xs)) ∧ TchF fp w w' ∧ relsT.rd w' [v] (mkRels k xs) fp ∧ Unf w' fp := by
  obtain ⟨_, _, _, _, hL, _⟩ := Ty.slice_ex ⟨fp, h⟩
  obtain ⟨ad, cap, rfl⟩ := rd_slice ⟨fp, h⟩
  have HS : Hid (cntRels xs = sumL cntRel1 xs) := rfl
  rw [HS.out] at h1
  go_enter Try.func57, Try.ntmps57
  go_wp2_with fail
  go_loopw [1, 5] (fun l i wr => ∃ j : Nat, j ≤ xs.length ∧ i = .int .i64 j ∧ l = .int .i64 (k + sumL cntRel1 (xs.take j)) ∧ TchF fp w wr ∧ relsT.rd wr [.slice ad xs.length cap] (mkAt mkRel1 cntRel1 k xs j) fp ∧ Unf wr fp) (fun _ i _ => xs.length - (intOf i).toNat)
  case atStart => exact ⟨0, Nat.zero_le _, rfl, by simp [sumL], TchF.refl _ _, by rw [mkAt_zero]; exact h, hu⟩
  case round =>
    obtain ⟨j, hj, rfl, rfl, ht, hr, hU⟩ := hrel
    have hs0 := sumL_nonneg cntRel1_nn (xs.take j)
    by_cases hjl : j < xs.length
    · obtain ⟨b, o, cap', u, f, hv, hb, hc, hc1, hfz, hw⟩ := pairs_mark hr hn hU (i := j) (by rw [mkAt_len]; exact hjl)
      simp only [mkAt_len, Value.slice.injEq, true_and] at hv
      obtain ⟨rfl, rfl⟩ := hv
      have hs1 := sumL_succ cntRel1 hjl
      have hs2 := sumL_take_le cntRel1_nn xs (j + 1)
      have hi0 := cntRows_nn xs[j].2
      have hi1 : cntRel1 xs[j] = 1 + cntRows xs[j].2 := rfl
      obtain ⟨w1, hw1, c1, hd, hfn, hfu, -, hw'⟩ := hw (k + sumL cntRel1 (xs.take j)) ⟨by omega, by omega⟩
      rw [mkAt_get hjl] at hd
      have HE := Lib.hid (mkAt_set (f := mkRel1) (c := cntRel1) (k := k) hjl)
      have HD := Lib.hid hd
      have HW := Lib.hid hw'
      have HFN := Lib.hid hfn
      have HFU := Lib.hid hfu
      clear hr hU hw hw' h hu hd hfn hfu
      go_wp2_with fail
      rw [← hw1]
      go_wp2_with fail
      refine (markInt64SS_any _ HD.out HFN.out HFU.out _ (by omega) (by omega)).mono ?_
      rintro e w2 ⟨rfl, g1, g2, g3⟩
      obtain ⟨q1, q2, q3⟩ := HW.out _ _ g1 g2 g3
      have he : (mkAt mkRel1 cntRel1 k xs j).set j (k + sumL cntRel1 (xs.take j), mkRows (k + sumL cntRel1 (xs.take j) + 1) xs[j].2) = mkAt mkRel1 cntRel1 k xs (j + 1) := HE.out
      rw [he] at q1
      have HQ := Lib.hid q1
      have HQ2 := Lib.hid q2
      clear q1 q2 g1 g2 g3 hc hc1 c1 hfz he
      go_wp2_with fail
      go_roundw
      case rel => exact ⟨j + 1, by omega, by go_num, by rw [hs1, hi1]; go_num, ht.trans q3, HQ.out, HQ2.out⟩
      case measure => simp [intOf]; omega
    · obtain rfl : j = xs.length := by omega
      rw [mkAt_full] at hr
      rw [List.take_length]
      have HR := Lib.hid hr
      have HU := Lib.hid hU
      clear hr hU h hu
      go_wp2_with fail
      go_ret
      exact ⟨by rw [HS.out]; rfl, ht, HR.out, HU.out⟩
set_option maxHeartbeats 800000 in
theorem markRel_any (w : World) {cs : Array Value} {xs : Int × List (List Int)} {fp : List Nat} (h : relT.rd w cs.toList xs fp) (hn : fp.Nodup) (hu : Unf w fp) (k : Int) (h0 : 0 ≤ k) (h1 : k + cntRel xs ≤ 4611686018427387904) :
    Calls Try.prog 27 #[.agg cs, .int .i64 k] w fun e w' => e = .returned (.int .i64 (k + cntRel xs)) ∧ TchF fp w w' ∧ relT.rd w' cs.toList (mkRel k xs) fp ∧ Unf w' fp := by
  obtain ⟨u, hv, hd, hcl⟩ := rd_pair h
  obtain rfl := agg_of hv
  clear hv
  go_enter Try.func27, Try.ntmps27
  go_wp2_with fail
  refine (markInt64SS_any _ ((Ty.slice _).same hd (Same.below bA ((Ty.slice _).lt hd))) hn (hu.same (Same.below bA ((Ty.slice _).lt hd))) _ h0 h1).mono ?_
  rintro e w1 ⟨rfl, g1, g2, g3⟩
  go_wp2_with fail
  go_ret
  exact ⟨rfl, (Below.tchF bA fp).trans g1, hcl _ _ g2, g3⟩
set_option maxHeartbeats 800000 in
theorem heldRel_any (w : World) {cs : Array Value} {xs : Int × List (List Int)} (k : Int) (h : relT.Rd w cs.toList (mkRel k xs)) (h0 : 0 ≤ k) (h1 : k + cntRel xs ≤ 4611686018427387904) :
    Calls Try.prog 28 #[.agg cs, .int .i64 k] w fun e w' => e = .returned (.int .i64 (k + cntRel xs)) ∧ Below w.heap.size w w' := by
  obtain ⟨u, hv, -, hd⟩ := pair_ex h
  obtain rfl := agg_of hv
  clear hv h
  go_enter Try.func28, Try.ntmps28
  go_wp2_with fail
  refine (heldInt64SS_any _ _ (hd.below bA) h0 h1).mono ?_
  rintro e w1 ⟨rfl, hb1⟩
  have hp : 0 ≤ k + cntRel xs := by have := cntRows_nn xs.2; unfold cntRel; omega
  unfold cntRel at hp
  go_wp2_with fail
  go_ret
  exact ⟨rfl, (by repeat (first | exact Below.refl _ _ | exact bA | assumption | refine Below.setCell ?_ (by first | omega | (simp; try omega)) _ | refine Below.alloc ?_ (by first | omega | (simp; try omega)) _ | refine Below.drew ?_ | refine bDN ?_ | refine bthen ?_ (by assumption)))⟩
set_option maxHeartbeats 800000 in
theorem markOp_any (w : World) {cs : Array Value} {xs : Int × List Int} {fp : List Nat} (h : opT.rd w cs.toList xs fp) (hn : fp.Nodup) (hu : Unf w fp) (k : Int) (h0 : 0 ≤ k) (h1 : k + cntOp xs ≤ 4611686018427387904) :
    Calls Try.prog 22 #[.agg cs, .int .i64 k] w fun e w' => e = .returned (.int .i64 (k + cntOp xs)) ∧ TchF fp w w' ∧ opT.rd w' cs.toList (mkOp k xs) fp ∧ Unf w' fp := by
  obtain ⟨u, hv, hd, hcl⟩ := rd_pair h
  obtain rfl := agg_of hv
  clear hv
  go_enter Try.func22, Try.ntmps22
  go_wp2_with fail
  refine (markInt64S_any _ ((Ty.slice _).same hd (Same.below bA ((Ty.slice _).lt hd))) hn (hu.same (Same.below bA ((Ty.slice _).lt hd))) _ h0 h1).mono ?_
  rintro e w1 ⟨rfl, g1, g2, g3⟩
  go_wp2_with fail
  go_ret
  exact ⟨rfl, (Below.tchF bA fp).trans g1, hcl _ _ g2, g3⟩
set_option maxHeartbeats 800000 in
theorem heldOp_any (w : World) {cs : Array Value} {xs : Int × List Int} (k : Int) (h : opT.Rd w cs.toList (mkOp k xs)) (h0 : 0 ≤ k) (h1 : k + cntOp xs ≤ 4611686018427387904) :
    Calls Try.prog 23 #[.agg cs, .int .i64 k] w fun e w' => e = .returned (.int .i64 (k + cntOp xs)) ∧ Below w.heap.size w w' := by
  obtain ⟨u, hv, -, hd⟩ := pair_ex h
  obtain rfl := agg_of hv
  clear hv h
  go_enter Try.func23, Try.ntmps23
  go_wp2_with fail
  refine (heldInt64S_any _ _ (hd.below bA) h0 h1).mono ?_
  rintro e w1 ⟨rfl, hb1⟩
  have hp : 0 ≤ k + cntOp xs := by have := cntI_nn xs.2; unfold cntOp; omega
  unfold cntOp at hp
  go_wp2_with fail
  go_ret
  exact ⟨rfl, (by repeat (first | exact Below.refl _ _ | exact bA | assumption | refine Below.setCell ?_ (by first | omega | (simp; try omega)) _ | refine Below.alloc ?_ (by first | omega | (simp; try omega)) _ | refine Below.drew ?_ | refine bDN ?_ | refine bthen ?_ (by assumption)))⟩
set_option maxHeartbeats 800000 in
theorem markTemplate_any (w : World) {cs : Array Value} {xs : Int × List (Int × List (List Int))} {fp : List Nat} (h : tplT.rd w cs.toList xs fp) (hn : fp.Nodup) (hu : Unf w fp) (k : Int) (h0 : 0 ≤ k) (h1 : k + cntTpl xs ≤ 4611686018427387904) :
    Calls Try.prog 19 #[.agg cs, .int .i64 k] w fun e w' => e = .returned (.int .i64 (k + cntTpl xs)) ∧ TchF fp w w' ∧ tplT.rd w' cs.toList (mkTpl k xs) fp ∧ Unf w' fp := by
  obtain ⟨u, hv, hd, hcl⟩ := rd_pair h
  obtain rfl := agg_of hv
  clear hv
  go_enter Try.func19, Try.ntmps19
  go_wp2_with fail
  refine (markRelS_any _ ((Ty.slice _).same hd (Same.below bA ((Ty.slice _).lt hd))) hn (hu.same (Same.below bA ((Ty.slice _).lt hd))) _ h0 h1).mono ?_
  rintro e w1 ⟨rfl, g1, g2, g3⟩
  go_wp2_with fail
  go_ret
  exact ⟨rfl, (Below.tchF bA fp).trans g1, hcl _ _ g2, g3⟩
set_option maxHeartbeats 800000 in
theorem markFormula_any (w : World) {cs : Array Value} {xs : Int × Int × List (Int × List Int)} {fp : List Nat} (h : frmT.rd w cs.toList xs fp) (hn : fp.Nodup) (hu : Unf w fp) (k : Int) (h0 : 0 ≤ k) (h1 : k + cntFrm xs ≤ 4611686018427387904) :
    Calls Try.prog 39 #[.agg cs, .int .i64 k] w fun e w' => e = .returned (.int .i64 (k + cntFrm xs)) ∧ TchF fp w w' ∧ frmT.rd w' cs.toList (mkFrm k xs) fp ∧ Unf w' fp := by
  obtain ⟨u, hv, hd, hcl⟩ := rd_trip h
  obtain rfl := agg_of hv
  clear hv
  go_enter Try.func39, Try.ntmps39
  go_wp2_with fail
  refine (markAtomS_any _ ((Ty.slice _).same hd (Same.below bA ((Ty.slice _).lt hd))) hn (hu.same (Same.below bA ((Ty.slice _).lt hd))) _ h0 h1).mono ?_
  rintro e w1 ⟨rfl, g1, g2, g3⟩
  go_wp2_with fail
  go_ret
  exact ⟨rfl, (Below.tchF bA fp).trans g1, hcl _ _ g2, g3⟩
set_option maxHeartbeats 800000 in
theorem heldFormula_any (w : World) {cs : Array Value} {xs : Int × Int × List (Int × List Int)} (k : Int) (h : frmT.Rd w cs.toList (mkFrm k xs)) (h0 : 0 ≤ k) (h1 : k + cntFrm xs ≤ 4611686018427387904) :
    Calls Try.prog 40 #[.agg cs, .int .i64 k] w fun e w' => e = .returned (.int .i64 (k + cntFrm xs)) ∧ Below w.heap.size w w' := by
  obtain ⟨u, hv, -, -, hd⟩ := trip_ex h
  obtain rfl := agg_of hv
  clear hv h
  go_enter Try.func40, Try.ntmps40
  go_wp2_with fail
  refine (heldAtomS_any _ _ (hd.below bA) h0 h1).mono ?_
  rintro e w1 ⟨rfl, hb1⟩
  have hp : 0 ≤ k + cntFrm xs := by have := cntOps_nn xs.2.2; unfold cntFrm; omega
  unfold cntFrm at hp
  go_wp2_with fail
  go_ret
  exact ⟨rfl, (by repeat (first | exact Below.refl _ _ | exact bA | assumption | refine Below.setCell ?_ (by first | omega | (simp; try omega)) _ | refine Below.alloc ?_ (by first | omega | (simp; try omega)) _ | refine Below.drew ?_ | refine bDN ?_ | refine bthen ?_ (by assumption)))⟩
theorem markInt64S_fx (w : World) {v : Value} {xs : List Int} {lo hi : Nat} (h : intsT.Fx lo hi w [v] xs) (k : Int) (h0 : 0 ≤ k) (h1 : k + cntI xs ≤ 4611686018427387904) :
    Calls Try.prog 21 #[v, .int .i64 k] w fun e w' => e = .returned (.int .i64 (k + cntI xs)) ∧ Tch lo hi w w' ∧ intsT.Fx lo hi w' [v] (mkI k xs) := by
  obtain ⟨fp, g1, g2, g3, g4⟩ := h
  exact (markInt64S_any w g1 g2 g4 k h0 h1).mono fun e w' ⟨he, ht, hr, hu⟩ => ⟨he, ht.tch g3, fp, hr, g2, g3, hu⟩
theorem markInt64SS_fx (w : World) {v : Value} {xs : List (List Int)} {lo hi : Nat} (h : rowsT.Fx lo hi w [v] xs) (k : Int) (h0 : 0 ≤ k) (h1 : k + cntRows xs ≤ 4611686018427387904) :
    Calls Try.prog 20 #[v, .int .i64 k] w fun e w' => e = .returned (.int .i64 (k + cntRows xs)) ∧ Tch lo hi w w' ∧ rowsT.Fx lo hi w' [v] (mkRows k xs) := by
  obtain ⟨fp, g1, g2, g3, g4⟩ := h
  exact (markInt64SS_any w g1 g2 g4 k h0 h1).mono fun e w' ⟨he, ht, hr, hu⟩ => ⟨he, ht.tch g3, fp, hr, g2, g3, hu⟩
theorem markRelS_fx (w : World) {v : Value} {xs : List (Int × List (List Int))} {lo hi : Nat} (h : relsT.Fx lo hi w [v] xs) (k : Int) (h0 : 0 ≤ k) (h1 : k + cntRels xs ≤ 4611686018427387904) :
    Calls Try.prog 57 #[v, .int .i64 k] w fun e w' => e = .returned (.int .i64 (k + cntRels xs)) ∧ Tch lo hi w w' ∧ relsT.Fx lo hi w' [v] (mkRels k xs) := by
  obtain ⟨fp, g1, g2, g3, g4⟩ := h
  exact (markRelS_any w g1 g2 g4 k h0 h1).mono fun e w' ⟨he, ht, hr, hu⟩ => ⟨he, ht.tch g3, fp, hr, g2, g3, hu⟩
theorem markRel_fx (w : World) {cs : Array Value} {xs : Int × List (List Int)} {lo hi : Nat} (h : relT.Fx lo hi w cs.toList xs) (k : Int) (h0 : 0 ≤ k) (h1 : k + cntRel xs ≤ 4611686018427387904) :
    Calls Try.prog 27 #[.agg cs, .int .i64 k] w fun e w' => e = .returned (.int .i64 (k + cntRel xs)) ∧ Tch lo hi w w' ∧ relT.Fx lo hi w' cs.toList (mkRel k xs) := by
  obtain ⟨fp, g1, g2, g3, g4⟩ := h
  exact (markRel_any w g1 g2 g4 k h0 h1).mono fun e w' ⟨he, ht, hr, hu⟩ => ⟨he, ht.tch g3, fp, hr, g2, g3, hu⟩
theorem markOp_fx (w : World) {cs : Array Value} {xs : Int × List Int} {lo hi : Nat} (h : opT.Fx lo hi w cs.toList xs) (k : Int) (h0 : 0 ≤ k) (h1 : k + cntOp xs ≤ 4611686018427387904) :
    Calls Try.prog 22 #[.agg cs, .int .i64 k] w fun e w' => e = .returned (.int .i64 (k + cntOp xs)) ∧ Tch lo hi w w' ∧ opT.Fx lo hi w' cs.toList (mkOp k xs) := by
  obtain ⟨fp, g1, g2, g3, g4⟩ := h
  exact (markOp_any w g1 g2 g4 k h0 h1).mono fun e w' ⟨he, ht, hr, hu⟩ => ⟨he, ht.tch g3, fp, hr, g2, g3, hu⟩
theorem markTemplate_fx (w : World) {cs : Array Value} {xs : Int × List (Int × List (List Int))} {lo hi : Nat} (h : tplT.Fx lo hi w cs.toList xs) (k : Int) (h0 : 0 ≤ k) (h1 : k + cntTpl xs ≤ 4611686018427387904) :
    Calls Try.prog 19 #[.agg cs, .int .i64 k] w fun e w' => e = .returned (.int .i64 (k + cntTpl xs)) ∧ Tch lo hi w w' ∧ tplT.Fx lo hi w' cs.toList (mkTpl k xs) := by
  obtain ⟨fp, g1, g2, g3, g4⟩ := h
  exact (markTemplate_any w g1 g2 g4 k h0 h1).mono fun e w' ⟨he, ht, hr, hu⟩ => ⟨he, ht.tch g3, fp, hr, g2, g3, hu⟩
theorem markFormula_fx (w : World) {cs : Array Value} {xs : Int × Int × List (Int × List Int)} {lo hi : Nat} (h : frmT.Fx lo hi w cs.toList xs) (k : Int) (h0 : 0 ≤ k) (h1 : k + cntFrm xs ≤ 4611686018427387904) :
    Calls Try.prog 39 #[.agg cs, .int .i64 k] w fun e w' => e = .returned (.int .i64 (k + cntFrm xs)) ∧ Tch lo hi w w' ∧ frmT.Fx lo hi w' cs.toList (mkFrm k xs) := by
  obtain ⟨fp, g1, g2, g3, g4⟩ := h
  exact (markFormula_any w g1 g2 g4 k h0 h1).mono fun e w' ⟨he, ht, hr, hu⟩ => ⟨he, ht.tch g3, fp, hr, g2, g3, hu⟩
end Go.Proofs.Ytccobadobklbpaa
namespace Go.Proofs.Ytccobadobklbpaa
open Go.RowKit
/-- new memory that a slice reads so -/
def frSO {α : Type} (E : Ty α) (base : Nat) (x : α) : OP := fun o v W => ∃ fp : List Nat, E.rd W [v] x fp ∧ fp.Nodup ∧ (∀ k ∈ fp, base ≤ k) ∧ Unf W fp ∧ ∀ k ∈ fp, o ≠ some k
def frT3O {α β : Type} (E : Ty α) (F : Ty β) (base : Nat) (x : α) (y : β) (n : Value) : OP := fun o v W => ∃ (cs : List Value) (u : Value), v = .tuple #[.agg cs.toArray, u, n] ∧ frAO E base x o (.agg cs.toArray) W ∧ frSO F base y o u W
theorem st_frSO {α : Type} {E : Ty α} {base : Nat} {x : α} : StG .plain (frSO E base x) :=
  ⟨⟨fun _ _ _ _ ⟨fp, h2, h4, h5, h6, h3⟩ hb => ⟨fp, E.same h2 (Same.below hb (E.lt h2)), h4, h5, h6.same (Same.below hb (E.lt h2)), h3⟩,
    fun _ _ _ ⟨fp, h2, h4, h5, h6, _⟩ hb => ⟨fp, E.same h2 (Same.below hb (E.lt h2)), h4, h5, h6.same (Same.below hb (E.lt h2)), some_ne (E.lt h2)⟩⟩,
    fun _ _ _ _ ⟨fp, h2, h4, h5, h6, h3⟩ hb => ⟨fp, E.same h2 (hb.same (E.lt h2) h3), h4, h5, h6.same (hb.same (E.lt h2) h3), h3⟩⟩
theorem st_frT3O {α β : Type} {E : Ty α} {F : Ty β} {base : Nat} {x : α} {y : β} {n : Value} : StG .plain (frT3O E F base x y n) :=
  ⟨⟨fun _ _ _ _ ⟨cs, u, h1, h2, h3⟩ hb => ⟨cs, u, h1, st_frAO.1.1 _ _ _ _ h2 hb, st_frSO.1.1 _ _ _ _ h3 hb⟩, fun _ _ _ ⟨cs, u, h1, h2, h3⟩ hb => ⟨cs, u, h1, st_frAO.1.2 _ _ _ h2 hb, st_frSO.1.2 _ _ _ h3 hb⟩⟩,
    fun _ _ _ _ ⟨cs, u, h1, h2, h3⟩ hb => ⟨cs, u, h1, st_frAO.2 _ _ _ _ h2 hb, st_frSO.2 _ _ _ _ h3 hb⟩⟩
theorem frSO_val {α : Type} {E : Ty α} {base : Nat} {x : List α} {W : World} {u : Value} {o : Option Nat} (h : frSO (Ty.slice E) base x o u W) : ∃ ad cap, u = .slice ad x.length cap := let ⟨_, h, _⟩ := h; rd_slice ⟨_, h⟩
theorem frT3O_mk {α β : Type} {E : Ty α} {F : Ty β} {x : α} {y : β} {W : World} {cs : List Value} {u : Value} {o : Option Nat} {B L base mid : Nat} {n : Value} (hB : base ≤ B) (hm : B ≤ mid) (hf : E.Fx B mid W cs x) (hg : F.Fr mid W [u] y) (hbo : ∀ k, o = some k → L ≤ k ∧ k < B) : frT3O E F base x y n o (.tuple #[.agg cs.toArray, u, n]) W :=
  let ⟨fp, h1, h2, h3, h4⟩ := hf
  let ⟨fq, g1, g2, g3, g4⟩ := hg
  ⟨cs, u, rfl, ⟨cs, fp, rfl, h1, h2, (fun k hk => Nat.le_trans hB (h3 k hk).1), h4, (fun k hk e => by have := hbo k e; have := (h3 k hk).1; omega)⟩, fq, g1, g2, (fun k hk => by have := g3 k hk; omega), g4, (fun k hk e => by have := hbo k e; have := g3 k hk; omega)⟩
theorem fx_pair {α : Type} {E : Ty α} {lo hi : Nat} {w : World} {cs : List Value} {x : Int × List α} (h : (Ty.cons (Ty.slice E)).Fx lo hi w cs x) : ∃ ad cap, cs = [.int .i64 x.1, .slice ad x.2.length cap] := by
  obtain ⟨fp, ⟨cs', rfl, -, hr⟩, -⟩ := h
  obtain ⟨ad, cap, rfl, -⟩ := hr
  exact ⟨ad, cap, rfl⟩
end Go.Proofs.Ytccobadobklbpaa
