/-
The marks of the laws: mark writes numbers from k on into all memory of a datum, held finds them there.
-/
import Derived.Test.YthjafhjghjbdmaaGreatQAC
import Derived.Test.YthjafhjghjbdmaaGreatQAE
namespace Go.Proofs.YthjafhjghjbdmaaGreat
open Go.RowKit Go.Sort

set_option maxHeartbeats 800000 in
theorem markInt64S_any (w : World) {v : Value} {xs : List Int} {fp : List Nat} (h : intsT.rd w [v] xs fp) (hn : fp.Nodup) (hu : Unf w fp) (k : Int) (h0 : 0 ≤ k) (h1 : k + cntI xs ≤ 4611686018427387904) :
    Calls Tryz.prog 57 #[v, .int .i64 k] w fun e w' => e = .returned (.int .i64 (k + cntI xs)) ∧ TchF fp w w' ∧ intsT.rd w' [v] (mkI k xs) fp ∧ Unf w' fp := by
  obtain ⟨ad, cap, rfl⟩ := rd_slice ⟨fp, h⟩
  unfold cntI at h1
  go_enter Tryz.func57, Tryz.ntmps57
  go_wp2_with fail
  go_loopw [1, 5] (fun l i wr => ∃ j : Nat, j ≤ xs.length ∧ i = .int .i64 j ∧ l = .int .i64 (k + j) ∧ TchF fp w wr ∧ intsT.rd wr [.slice ad xs.length cap] (mkAt (fun k _ => k) (fun _ => 1) k xs j) fp ∧ Unf wr fp) (fun _ i _ => xs.length - (intOf i).toNat)
  case atStart => exact ⟨0, Nat.zero_le _, rfl, by simp, TchF.refl _ _, by rw [mkAt_zero]; exact h, hu⟩
  case round =>
    obtain ⟨j, hj, rfl, rfl, ht, hr, hU⟩ := hrel
    by_cases hjl : j < xs.length
    · obtain ⟨b, o, cap', hv, hb, hc, hf, hw⟩ := ints_mark hr hn hU (i := j) (by rw [mkAt_len]; exact hjl)
      simp only [mkAt_len, Value.slice.injEq, true_and] at hv
      obtain ⟨rfl, rfl⟩ := hv
      have H := Lib.hid (hw (k + j) ⟨by omega, by omega⟩)
      have e := mkAt_set (f := fun k _ => k) (c := fun _ => 1) (k := k) hjl
      rw [sumL_one, take_len hj] at e
      have HR := Lib.hid hr
      have HU := Lib.hid hU
      have HE := Lib.hid e
      clear hr hU hw h hu e
      go_wp2_with fail
      go_roundw
      case rel => exact ⟨j + 1, by omega, by go_num, by go_num, ht.trans H.out.2.2, by rw [← HE.out]; exact H.out.1, H.out.2.1⟩
      case measure => simp [intOf]; omega
    · obtain rfl : j = xs.length := by omega
      rw [mkAt_full] at hr
      have HR := Lib.hid hr
      have HU := Lib.hid hU
      clear hr hU h hu
      go_wp2_with fail
      go_ret
      exact ⟨rfl, ht, HR.out, HU.out⟩
set_option maxHeartbeats 800000 in
theorem heldInt64S_any (w : World) {v : Value} {xs : List Int} (k : Int) (h : intsT.Rd w [v] (mkI k xs)) (h0 : 0 ≤ k) (h1 : k + cntI xs ≤ 4611686018427387904) :
    Calls Tryz.prog 58 #[v, .int .i64 k] w fun e w' => e = .returned (.int .i64 (k + cntI xs)) ∧ Below w.heap.size w w' := by
  obtain ⟨ad, cap, hv, -, -, hcell⟩ := ints_ex h
  have hlen : (mkI k xs).length = xs.length := mkL_len
  rw [hlen] at hv
  obtain rfl : v = _ := by simpa using hv
  unfold cntI at h1
  clear h hv
  go_enter Tryz.func58, Tryz.ntmps58
  go_wp2_with fail
  go_loopw [1, 5] (fun l i wr => ∃ j : Nat, j ≤ xs.length ∧ i = .int .i64 j ∧ l = .int .i64 (k + j) ∧ Below w.heap.size w wr) (fun _ i _ => xs.length - (intOf i).toNat)
  case atStart => exact ⟨0, Nat.zero_le _, rfl, by simp, Below.refl _ _⟩
  case round =>
    obtain ⟨j, hj, rfl, rfl, hbel⟩ := hrel
    by_cases hjl : j < xs.length
    · obtain ⟨b, o, rfl, hb, hce⟩ := hcell (by omega)
      obtain ⟨-, hc0⟩ := hce j (by omega)
      have e : (mkI k xs)[j]'(by omega) = k + j := by
        have := mkL_get (f := fun (k : Int) (_ : Int) => k) (c := fun _ => 1) (k := k) hjl (by rw [mkL_len]; exact hjl)
        rw [sumL_one, take_len hj] at this
        exact this
      rw [e] at hc0
      have d0 : wr.cell? ⟨b, o + j, none⟩ = some (.int .i64 (k + j)) := (hbel.cell hb).trans hc0
      clear hcell hce hc0 e hlen
      go_wp2_with fail
      go_roundw
      case rel => exact ⟨j + 1, by omega, by go_num, by go_num, hbel⟩
      case measure => simp [intOf]; omega
    · obtain rfl : j = xs.length := by omega
      clear hcell
      go_wp2_with fail
      go_ret
      exact ⟨rfl, hbel⟩
set_option maxHeartbeats 800000 in
theorem markInt64SS_any (w : World) {v : Value} {xs : List (List Int)} {fp : List Nat} (h : rowsT.rd w [v] xs fp) (hn : fp.Nodup) (hu : Unf w fp) (k : Int) (h0 : 0 ≤ k) (h1 : k + cntRows xs ≤ 4611686018427387904) :
    Calls Tryz.prog 146 #[v, .int .i64 k] w fun e w' => e = .returned (.int .i64 (k + cntRows xs)) ∧ TchF fp w w' ∧ rowsT.rd w' [v] (mkRows k xs) fp ∧ Unf w' fp := by
  obtain ⟨_, _, _, _, hL, _⟩ := Ty.slice_ex ⟨fp, h⟩
  obtain ⟨ad, cap, rfl⟩ := rd_slice ⟨fp, h⟩
  have HS : Hid (cntRows xs = sumL cntI xs) := rfl
  rw [HS.out] at h1
  go_enter Tryz.func146, Tryz.ntmps146
  go_wp2_with fail
  go_loopw [1, 5] (fun l i wr => ∃ j : Nat, j ≤ xs.length ∧ i = .int .i64 j ∧ l = .int .i64 (k + sumL cntI (xs.take j)) ∧ TchF fp w wr ∧ rowsT.rd wr [.slice ad xs.length cap] (mkAt mkI cntI k xs j) fp ∧ Unf wr fp) (fun _ i _ => xs.length - (intOf i).toNat)
  case atStart => exact ⟨0, Nat.zero_le _, rfl, by simp [sumL], TchF.refl _ _, by rw [mkAt_zero]; exact h, hu⟩
  case round =>
    obtain ⟨j, hj, rfl, rfl, ht, hr, hU⟩ := hrel
    have hs0 := sumL_nonneg cntI_nn (xs.take j)
    by_cases hjl : j < xs.length
    · obtain ⟨b, o, cap', u, f, hv, hb, hc, hd, hfn, hfu, hw⟩ := rows_mark hr hn hU (i := j) (by rw [mkAt_len]; exact hjl)
      simp only [mkAt_len, Value.slice.injEq, true_and] at hv
      obtain ⟨rfl, rfl⟩ := hv
      rw [mkAt_get hjl] at hd
      have hs1 := sumL_succ cntI hjl
      have hs2 := sumL_take_le cntI_nn xs (j + 1)
      have HE := Lib.hid (mkAt_set (f := mkI) (c := cntI) (k := k) hjl)
      have HD := Lib.hid hd
      have HW := Lib.hid hw
      have HFN := Lib.hid hfn
      have HFU := Lib.hid hfu
      clear hr hU hw h hu hd hfn hfu
      go_wp2_with fail
      refine (markInt64S_any _ HD.out HFN.out HFU.out _ (by omega) (by omega)).mono ?_
      rintro e w1 ⟨rfl, g1, g2, g3⟩
      obtain ⟨q1, q2, q3⟩ := HW.out _ _ g1 g2 g3
      rw [HE.out] at q1
      have HQ := Lib.hid q1
      have HQ2 := Lib.hid q2
      clear q1 q2 g1 g2 g3 hc
      go_wp2_with fail
      go_roundw
      case rel => exact ⟨j + 1, by omega, by go_num, by rw [hs1]; go_num, ht.trans q3, HQ.out, HQ2.out⟩
      case measure => simp [intOf]; omega
    · obtain rfl : j = xs.length := by omega
      rw [mkAt_full] at hr
      rw [List.take_length]
      have HR := Lib.hid hr
      have HU := Lib.hid hU
      clear hr hU h hu
      go_wp2_with fail
      go_ret
      exact ⟨by rw [HS.out]; rfl, ht, HR.out, HU.out⟩
set_option maxHeartbeats 800000 in
theorem markRelS_any (w : World) {v : Value} {xs : List (Int × List (List Int))} {fp : List Nat} (h : relsT.rd w [v] xs fp) (hn : fp.Nodup) (hu : Unf w fp) (k : Int) (h0 : 0 ≤ k) (h1 : k + cntRels xs ≤ 4611686018427387904) :
    Calls Tryz.prog 56 #[v, .int .i64 k] w fun e w' => e = .returned (.int .i64 (k + cntRels xs)) ∧ TchF fp w w' ∧ relsT.rd w' [v] (mkRels k xs) fp ∧ Unf w' fp := by
  obtain ⟨_, _, _, _, hL, _⟩ := Ty.slice_ex ⟨fp, h⟩
  obtain ⟨ad, cap, rfl⟩ := rd_slice ⟨fp, h⟩
  have HS : Hid (cntRels xs = sumL cntRel1 xs) := rfl
  rw [HS.out] at h1
  go_enter Tryz.func56, Tryz.ntmps56
  go_wp2_with fail
  go_loopw [1, 5] (fun l i wr => ∃ j : Nat, j ≤ xs.length ∧ i = .int .i64 j ∧ l = .int .i64 (k + sumL cntRel1 (xs.take j)) ∧ TchF fp w wr ∧ relsT.rd wr [.slice ad xs.length cap] (mkAt mkRel1 cntRel1 k xs j) fp ∧ Unf wr fp) (fun _ i _ => xs.length - (intOf i).toNat)
  case atStart => exact ⟨0, Nat.zero_le _, rfl, by simp [sumL], TchF.refl _ _, by rw [mkAt_zero]; exact h, hu⟩
  case round =>
    obtain ⟨j, hj, rfl, rfl, ht, hr, hU⟩ := hrel
    have hs0 := sumL_nonneg cntRel1_nn (xs.take j)
    by_cases hjl : j < xs.length
    · obtain ⟨b, o, cap', u, f, hv, hb, hc, hc1, hfz, hw⟩ := pairs_mark hr hn hU (i := j) (by rw [mkAt_len]; exact hjl)
      simp only [mkAt_len, Value.slice.injEq, true_and] at hv
      obtain ⟨rfl, rfl⟩ := hv
      have hs1 := sumL_succ cntRel1 hjl
      have hs2 := sumL_take_le cntRel1_nn xs (j + 1)
      have hi0 := cntRows_nn xs[j].2
      have hi1 : cntRel1 xs[j] = 1 + cntRows xs[j].2 := rfl
      obtain ⟨w1, hw1, c1, hd, hfn, hfu, -, hw'⟩ := hw (k + sumL cntRel1 (xs.take j)) ⟨by omega, by omega⟩
      rw [mkAt_get hjl] at hd
      have HE := Lib.hid (mkAt_set (f := mkRel1) (c := cntRel1) (k := k) hjl)
      have HD := Lib.hid hd
      have HW := Lib.hid hw'
      have HFN := Lib.hid hfn
      have HFU := Lib.hid hfu
      clear hr hU hw hw' h hu hd hfn hfu
      go_wp2_with fail
      rw [← hw1]
      go_wp2_with fail
      refine (markInt64SS_any _ HD.out HFN.out HFU.out _ (by omega) (by omega)).mono ?_
      rintro e w2 ⟨rfl, g1, g2, g3⟩
      obtain ⟨q1, q2, q3⟩ := HW.out _ _ g1 g2 g3
      have he : (mkAt mkRel1 cntRel1 k xs j).set j (k + sumL cntRel1 (xs.take j), mkRows (k + sumL cntRel1 (xs.take j) + 1) xs[j].2) = mkAt mkRel1 cntRel1 k xs (j + 1) := HE.out
      rw [he] at q1
      have HQ := Lib.hid q1
      have HQ2 := Lib.hid q2
      clear q1 q2 g1 g2 g3 hc hc1 c1 hfz he
      go_wp2_with fail
      go_roundw
      case rel => exact ⟨j + 1, by omega, by go_num, by rw [hs1, hi1]; go_num, ht.trans q3, HQ.out, HQ2.out⟩
      case measure => simp [intOf]; omega
    · obtain rfl : j = xs.length := by omega
      rw [mkAt_full] at hr
      rw [List.take_length]
      have HR := Lib.hid hr
      have HU := Lib.hid hU
      clear hr hU h hu
      go_wp2_with fail
      go_ret
      exact ⟨by rw [HS.out]; rfl, ht, HR.out, HU.out⟩
set_option maxHeartbeats 800000 in
theorem markOp_any (w : World) {cs : Array Value} {xs : Int × List Int} {fp : List Nat} (h : opT.rd w cs.toList xs fp) (hn : fp.Nodup) (hu : Unf w fp) (k : Int) (h0 : 0 ≤ k) (h1 : k + cntOp xs ≤ 4611686018427387904) :
    Calls Tryz.prog 13 #[.agg cs, .int .i64 k] w fun e w' => e = .returned (.int .i64 (k + cntOp xs)) ∧ TchF fp w w' ∧ opT.rd w' cs.toList (mkOp k xs) fp ∧ Unf w' fp := by
  obtain ⟨u, hv, hd, hcl⟩ := rd_pair h
  obtain rfl := agg_of hv
  clear hv
  go_enter Tryz.func13, Tryz.ntmps13
  go_wp2_with fail
  refine (markInt64S_any _ ((Ty.slice _).same hd (Same.below bA ((Ty.slice _).lt hd))) hn (hu.same (Same.below bA ((Ty.slice _).lt hd))) _ h0 h1).mono ?_
  rintro e w1 ⟨rfl, g1, g2, g3⟩
  go_wp2_with fail
  go_ret
  exact ⟨rfl, (Below.tchF bA fp).trans g1, hcl _ _ g2, g3⟩
set_option maxHeartbeats 800000 in
theorem heldOp_any (w : World) {cs : Array Value} {xs : Int × List Int} (k : Int) (h : opT.Rd w cs.toList (mkOp k xs)) (h0 : 0 ≤ k) (h1 : k + cntOp xs ≤ 4611686018427387904) :
    Calls Tryz.prog 14 #[.agg cs, .int .i64 k] w fun e w' => e = .returned (.int .i64 (k + cntOp xs)) ∧ Below w.heap.size w w' := by
  obtain ⟨u, hv, -, hd⟩ := pair_ex h
  obtain rfl := agg_of hv
  clear hv h
  go_enter Tryz.func14, Tryz.ntmps14
  go_wp2_with fail
  refine (heldInt64S_any _ _ (hd.below bA) h0 h1).mono ?_
  rintro e w1 ⟨rfl, hb1⟩
  have hp : 0 ≤ k + cntOp xs := by have := cntI_nn xs.2; unfold cntOp; omega
  unfold cntOp at hp
  go_wp2_with fail
  go_ret
  exact ⟨rfl, (by repeat (first | exact Below.refl _ _ | exact bA | assumption | refine Below.setCell ?_ (by first | omega | (simp; try omega)) _ | refine Below.alloc ?_ (by first | omega | (simp; try omega)) _ | refine Below.drew ?_ | refine bDN ?_ | refine bthen ?_ (by assumption)))⟩
set_option maxHeartbeats 800000 in
theorem markTemplate_any (w : World) {cs : Array Value} {xs : Int × List (Int × List (List Int))} {fp : List Nat} (h : tplT.rd w cs.toList xs fp) (hn : fp.Nodup) (hu : Unf w fp) (k : Int) (h0 : 0 ≤ k) (h1 : k + cntTpl xs ≤ 4611686018427387904) :
    Calls Tryz.prog 12 #[.agg cs, .int .i64 k] w fun e w' => e = .returned (.int .i64 (k + cntTpl xs)) ∧ TchF fp w w' ∧ tplT.rd w' cs.toList (mkTpl k xs) fp ∧ Unf w' fp := by
  obtain ⟨u, hv, hd, hcl⟩ := rd_pair h
  obtain rfl := agg_of hv
  clear hv
  go_enter Tryz.func12, Tryz.ntmps12
  go_wp2_with fail
  refine (markRelS_any _ ((Ty.slice _).same hd (Same.below bA ((Ty.slice _).lt hd))) hn (hu.same (Same.below bA ((Ty.slice _).lt hd))) _ h0 h1).mono ?_
  rintro e w1 ⟨rfl, g1, g2, g3⟩
  go_wp2_with fail
  go_ret
  exact ⟨rfl, (Below.tchF bA fp).trans g1, hcl _ _ g2, g3⟩
theorem markInt64S_fx (w : World) {v : Value} {xs : List Int} {lo hi : Nat} (h : intsT.Fx lo hi w [v] xs) (k : Int) (h0 : 0 ≤ k) (h1 : k + cntI xs ≤ 4611686018427387904) :
    Calls Tryz.prog 57 #[v, .int .i64 k] w fun e w' => e = .returned (.int .i64 (k + cntI xs)) ∧ Tch lo hi w w' ∧ intsT.Fx lo hi w' [v] (mkI k xs) := by
  obtain ⟨fp, g1, g2, g3, g4⟩ := h
  exact (markInt64S_any w g1 g2 g4 k h0 h1).mono fun e w' ⟨he, ht, hr, hu⟩ => ⟨he, ht.tch g3, fp, hr, g2, g3, hu⟩
theorem markInt64SS_fx (w : World) {v : Value} {xs : List (List Int)} {lo hi : Nat} (h : rowsT.Fx lo hi w [v] xs) (k : Int) (h0 : 0 ≤ k) (h1 : k + cntRows xs ≤ 4611686018427387904) :
    Calls Tryz.prog 146 #[v, .int .i64 k] w fun e w' => e = .returned (.int .i64 (k + cntRows xs)) ∧ Tch lo hi w w' ∧ rowsT.Fx lo hi w' [v] (mkRows k xs) := by
  obtain ⟨fp, g1, g2, g3, g4⟩ := h
  exact (markInt64SS_any w g1 g2 g4 k h0 h1).mono fun e w' ⟨he, ht, hr, hu⟩ => ⟨he, ht.tch g3, fp, hr, g2, g3, hu⟩
theorem markRelS_fx (w : World) {v : Value} {xs : List (Int × List (List Int))} {lo hi : Nat} (h : relsT.Fx lo hi w [v] xs) (k : Int) (h0 : 0 ≤ k) (h1 : k + cntRels xs ≤ 4611686018427387904) :
    Calls Tryz.prog 56 #[v, .int .i64 k] w fun e w' => e = .returned (.int .i64 (k + cntRels xs)) ∧ Tch lo hi w w' ∧ relsT.Fx lo hi w' [v] (mkRels k xs) := by
  obtain ⟨fp, g1, g2, g3, g4⟩ := h
  exact (markRelS_any w g1 g2 g4 k h0 h1).mono fun e w' ⟨he, ht, hr, hu⟩ => ⟨he, ht.tch g3, fp, hr, g2, g3, hu⟩
theorem markOp_fx (w : World) {cs : Array Value} {xs : Int × List Int} {lo hi : Nat} (h : opT.Fx lo hi w cs.toList xs) (k : Int) (h0 : 0 ≤ k) (h1 : k + cntOp xs ≤ 4611686018427387904) :
    Calls Tryz.prog 13 #[.agg cs, .int .i64 k] w fun e w' => e = .returned (.int .i64 (k + cntOp xs)) ∧ Tch lo hi w w' ∧ opT.Fx lo hi w' cs.toList (mkOp k xs) := by
  obtain ⟨fp, g1, g2, g3, g4⟩ := h
  exact (markOp_any w g1 g2 g4 k h0 h1).mono fun e w' ⟨he, ht, hr, hu⟩ => ⟨he, ht.tch g3, fp, hr, g2, g3, hu⟩
theorem markTemplate_fx (w : World) {cs : Array Value} {xs : Int × List (Int × List (List Int))} {lo hi : Nat} (h : tplT.Fx lo hi w cs.toList xs) (k : Int) (h0 : 0 ≤ k) (h1 : k + cntTpl xs ≤ 4611686018427387904) :
    Calls Tryz.prog 12 #[.agg cs, .int .i64 k] w fun e w' => e = .returned (.int .i64 (k + cntTpl xs)) ∧ Tch lo hi w w' ∧ tplT.Fx lo hi w' cs.toList (mkTpl k xs) := by
  obtain ⟨fp, g1, g2, g3, g4⟩ := h
  exact (markTemplate_any w g1 g2 g4 k h0 h1).mono fun e w' ⟨he, ht, hr, hu⟩ => ⟨he, ht.tch g3, fp, hr, g2, g3, hu⟩
end Go.Proofs.YthjafhjghjbdmaaGreat
