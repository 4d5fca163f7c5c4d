/-
  Contracts of the laws' own helpers: sz.. (how much an argument holds), to.. (a deep copy in new memory), eq.. (deep equality): by program (gen_laws.py), one text a make of type.
-/
import Derived.Test.YtepebfpgmnidnaaK0
import Derived.Test.YtepebfpgmnidnaaMem
import Derived.Lib.QuietBelow
namespace Go.Proofs.Ytepebfpgmnidnaa
open Go.RowKit Go.Sort

theorem szInt64S_any (w : World) {v : Value} {xs : List Int} (h : intsT.Rd w [v] xs) (left : Int) (h0 : 0 ≤ left) (h1 : left ≤ 1048576) :
    Calls Try.prog 71 #[v, .int .i64 left] w fun e w' => e = .returned (.int .i64 (szR left (szInts xs))) ∧ Below w.heap.size w w' := by
  obtain ⟨ad, cap, hv, hl, hc, -⟩ := ints_ex h
  obtain rfl : v = _ := by simpa using hv
  clear h hv
  rcases ilt left xs.length with hlt | hlt
  · go_enter Try.func71, Try.ntmps71
    go_wp2
    go_ret
    exact ⟨ret_int (szR_lt hlt).symm, Below.refl _ _⟩
  · go_enter Try.func71, Try.ntmps71
    go_wp2
    go_ret
    exact ⟨ret_int (szR_ge hlt).symm, Below.refl _ _⟩
theorem elInt : ElT Try.prog 62 2 1 8 := .mk (z := .int .i64 0) Try.underlying62 (by kernel_rfl) rfl (by decide)
set_option maxHeartbeats 400000 in
theorem toInt64S_any (w : World) {v : Value} {xs : List Int} (h : intsT.Rd w [v] xs) (hlen : szInts xs ≤ 1048576) :
    Calls Try.prog 39 #[v] w (RetS intsT w xs) := by
  obtain ⟨ad, cap, hv, hl, hc, hcell⟩ := ints_ex h
  obtain rfl : v = _ := by simpa using hv
  unfold szInts at hlen
  clear h hv
  go_enter Try.func39, Try.ntmps39
  go_wp2_with (refine wpList_mk (E := Ty.int) _ rfl _ _ 62 2 rfl elInt w.heap.size xs.length rfl rfl (by omega) (by decide) (by simp) ?_; intro w1 hA hg1 hs1)
  have hb1 := below_of_grown hg1
  go_loopw [4] (fun i wr => ∃ k : Nat, k ≤ xs.length ∧ i = .int .i64 k ∧ Ar Ty.int 2 w.heap.size wr.heap.size wr w.heap.size xs.length xs.length (xs.take k) ∧ Below w.heap.size w wr) (fun i _ => xs.length - (intOf i).toNat)
  case atStart => exact ⟨0, Nat.zero_le _, rfl, by rw [hs1]; exact hA, hb1⟩
  case round =>
    obtain ⟨k, hk, rfl, hAr, hbel⟩ := hrel
    by_cases hkl : k < xs.length
    · obtain ⟨b, o, rfl, hb, hce⟩ := hcell (by omega)
      obtain ⟨hI, hc0⟩ := hce k hkl
      have d0 : wr.cell? ⟨b, o + k, none⟩ = some (.int .i64 xs[k]) := (hbel.cell hb).trans hc0
      obtain ⟨u, d1⟩ := hAr.cell (j := k) (by simpa [Ty.int] using hkl)
      have d2 := hAr.free k
      have hP := hAr.put1 rfl (fr_int hI) (by rw [take_len hk]; exact hkl) (Nat.le_refl _)
      rw [take_len hk, take_snoc hkl] at hP
      have HP := Lib.hid hP
      have HA := Lib.hid hAr
      clear hP hAr hA
      go_wp2_with fail
      go_roundw
      case rel => exact ⟨k + 1, by omega, by go_num, by simpa using HP.out, hbel.setCell (Nat.le_refl _) _⟩
      case measure => simp [intOf]; omega
    · obtain rfl : k = xs.length := by omega
      rw [List.take_length] at hAr
      have HA := Lib.hid hAr
      clear hAr hA
      go_wp2_with fail
      go_ret
      exact ⟨_, rfl, HA.out.fr (by unfold capMax; omega) rfl, hbel⟩
set_option maxHeartbeats 400000 in
theorem eqInt64S_quiet (w : World) {v u : Value} {xs ys : List Int} (h : intsT.Rd w [v] xs) (h' : intsT.Rd w [u] ys) :
    Calls Try.prog 42 #[v, u] w fun e w' => e = .returned (.bool (eqB xs ys)) ∧ Quiet w w' := by
  obtain ⟨ad, cap, hv, hl, hc, hcell⟩ := ints_ex h
  obtain ⟨ad', cap', hv', hl', hc', hcell'⟩ := ints_ex h'
  obtain rfl : v = _ := by simpa using hv
  obtain rfl : u = _ := by simpa using hv'
  clear h hv h' hv'
  cases hn : (((xs.length : Nat) : Int) != (ys.length : Nat))
  rotate_left
  · go_enter Try.func42, Try.ntmps42
    go_wp2_with fail
    go_ret
    exact ⟨ret_bool (eqB_len (by simp at hn; omega)).symm, Quiet.refl _⟩
  · have hn' : xs.length = ys.length := by simp at hn; omega
    have HN := Lib.hid hn'
    clear hn'
    go_enter Try.func42, Try.ntmps42
    go_wp2_with fail
    go_loopw [5] (fun i wr => ∃ k : Nat, k ≤ xs.length ∧ i = .int .i64 k ∧ xs.take k = ys.take k ∧ Quiet w wr) (fun i _ => xs.length - (intOf i).toNat)
    case atStart => exact ⟨0, Nat.zero_le _, rfl, rfl, Quiet.refl _⟩
    case round =>
      obtain ⟨k, hk, rfl, ht, nq, rfl⟩ := hrel
      have HT := Lib.hid ht
      clear ht hn
      by_cases hkl : k < xs.length
      · have hkl' : k < ys.length := by have := HN.out; omega
        obtain ⟨b, o, rfl, hb, hce⟩ := hcell (by omega)
        obtain ⟨b', o', rfl, hb', hce'⟩ := hcell' (by omega)
        have d0 := (hce k hkl).2
        have d1 := (hce' k hkl').2
        clear hce hce' hcell hcell'
        cases hq : (xs[k] != ys[k])
        rotate_left
        · go_wp2_with fail
          go_quiet (fail)
          go_wp2_with fail
          go_ret
          exact ⟨ret_bool (eqB_get hkl hkl' (by simpa using hq)).symm, (by first | exact Quiet.refl _ | exact Quiet.drewN _ _ | exact (Quiet.drewN _ _).then (Quiet.drewN _ _) | exact ((Quiet.drewN _ _).then (Quiet.drewN _ _)).then (Quiet.drewN _ _))⟩
        · go_wp2_with fail
          go_quiet (fail)
          go_wp2_with fail
          go_roundw
          case rel => exact ⟨k + 1, by omega, by go_num, take_eq_succ hkl hkl' HT.out (by simpa using hq), (by first | exact Quiet.refl _ | exact Quiet.drewN _ _ | exact (Quiet.drewN _ _).then (Quiet.drewN _ _) | exact ((Quiet.drewN _ _).then (Quiet.drewN _ _)).then (Quiet.drewN _ _))⟩
          case measure => simp [intOf]; omega
      · obtain rfl : k = xs.length := by omega
        go_wp2_with fail
        go_ret
        exact ⟨ret_bool (eqB_true (by have h1 := HT.out; have h2 := HN.out; rw [List.take_length, h2, List.take_length] at h1; exact h1)).symm, (by first | exact Quiet.refl _ | exact Quiet.drewN _ _ | exact (Quiet.drewN _ _).then (Quiet.drewN _ _) | exact ((Quiet.drewN _ _).then (Quiet.drewN _ _)).then (Quiet.drewN _ _))⟩
theorem eqInt64S_any (w : World) {v u : Value} {xs ys : List Int} (h : intsT.Rd w [v] xs) (h' : intsT.Rd w [u] ys) :
    Calls Try.prog 42 #[v, u] w fun e w' => e = .returned (.bool (eqB xs ys)) ∧ Below w.heap.size w w' := (eqInt64S_quiet w h h').mono fun _ _ ⟨a, b⟩ => ⟨a, b.below⟩

set_option maxHeartbeats 400000 in
theorem szInt64SS_any (w : World) {v : Value} {xs : List (List Int)} (h : rowsT.Rd w [v] xs) (left : Int) (h0 : 0 ≤ left) (h1 : left ≤ 1048576) :
    Calls Try.prog 23 #[v, .int .i64 left] w fun e w' => e = .returned (.int .i64 (szR left (szRows xs))) ∧ Below w.heap.size w w' := by
  obtain ⟨ad, cap, hv, hl, hc, hcell⟩ := slices_ex h
  obtain rfl : v = _ := by simpa using hv
  clear h hv
  have hsn := sumL_nonneg szInts_nn xs
  have HS : Hid (szRows xs = xs.length + sumL szInts xs) := rfl
  rcases ilt left xs.length with hlt | hlt
  · go_enter Try.func23, Try.ntmps23
    go_wp2_with fail
    go_ret
    exact ⟨ret_int (szR_lt (by rw [HS.out]; omega)).symm, Below.refl _ _⟩
  · go_enter Try.func23, Try.ntmps23
    go_wp2_with fail
    go_loopw [1, 5] (fun l i wr => ∃ k : Nat, k ≤ xs.length ∧ i = .int .i64 k ∧ l = .int .i64 (left - xs.length - sumL szInts (xs.take k)) ∧ sumL szInts (xs.take k) ≤ left - xs.length ∧ Below w.heap.size w wr) (fun _ i _ => xs.length - (intOf i).toNat)
    case atStart => exact ⟨0, Nat.zero_le _, rfl, by simp [sumL], by simp [sumL]; omega, Below.refl _ _⟩
    case round =>
      obtain ⟨k, hk, rfl, rfl, hle, hbel⟩ := hrel
      have hs0 := sumL_nonneg szInts_nn (xs.take k)
      by_cases hkl : k < xs.length
      · obtain ⟨b, o, rfl, hb, hce⟩ := hcell (by omega)
        obtain ⟨u, hu, hc0⟩ := hce k hkl
        have d0 : wr.cell? ⟨b, o + k, none⟩ = some u := (hbel.cell hb).trans hc0
        have hx : intsT.Rd wr [u] xs[k] := hu.below hbel
        have hs1 := sumL_succ szInts hkl
        have hs2 := sumL_take_le szInts_nn xs (k + 1)
        go_wp2_with fail
        refine (szInt64S_any _ hx _ (by omega) (by omega)).mono ?_
        rintro e w1 ⟨rfl, hb1⟩
        rcases ilt (left - xs.length - sumL szInts (xs.take k)) (szInts xs[k]) with hq | hq
        · rw [szR_lt hq]
          go_wp2_with fail
          go_ret
          exact ⟨ret_int (szR_lt (by rw [HS.out]; omega)).symm, bthen hbel hb1⟩
        · rw [szR_ge hq]
          go_wp2_with fail
          go_roundw
          case rel => exact ⟨k + 1, by omega, by go_num, by rw [hs1]; go_num, by rw [hs1]; omega, bthen hbel hb1⟩
          case measure => simp [intOf]; omega
      · obtain rfl : k = xs.length := by omega
        go_wp2_with fail
        go_ret
        exact ⟨ret_int (by rw [HS.out, List.take_length, szR_ge (by rw [List.take_length] at hle; omega)]; omega), hbel⟩
theorem elInt64SS : ElT Try.prog 45 62 1 24 := .mk (z := .slice none 0 0) Try.underlying45 (by kernel_rfl) rfl (by decide)
set_option maxHeartbeats 400000 in
theorem toInt64SS_any (w : World) {v : Value} {xs : List (List Int)} (h : rowsT.Rd w [v] xs) (hlen : szRows xs ≤ 1048576) :
    Calls Try.prog 25 #[v] w (RetS rowsT w xs) := by
  obtain ⟨ad, cap, hv, hl, hc, hcell⟩ := slices_ex h
  obtain rfl : v = _ := by simpa using hv
  have hsn := sumL_nonneg szInts_nn xs
  have hsm : xs.length + sumL szInts xs ≤ 1048576 := hlen
  clear h hv hlen
  go_enter Try.func25, Try.ntmps25
  go_wp2_with (refine wpList_mk (E := intsT) _ rfl _ _ 45 62 rfl elInt64SS w.heap.size xs.length rfl rfl (by omega) (by decide) (by simp) ?_; intro w1 hA hg1 hs1)
  have hb1 := below_of_grown hg1
  go_loopw [4] (fun i wr => ∃ k : Nat, k ≤ xs.length ∧ i = .int .i64 k ∧ Ar intsT 62 w.heap.size wr.heap.size wr w.heap.size xs.length xs.length (xs.take k) ∧ Below w.heap.size w wr) (fun i _ => xs.length - (intOf i).toNat)
  case atStart => exact ⟨0, Nat.zero_le _, rfl, by rw [hs1]; exact hA, hb1⟩
  case round =>
    obtain ⟨k, hk, rfl, hAr, hbel⟩ := hrel
    have HA := Lib.hid hAr
    clear hAr hA
    by_cases hkl : k < xs.length
    · obtain ⟨b, o, rfl, hb, hce⟩ := hcell (by omega)
      obtain ⟨u, hu, hc0⟩ := hce k hkl
      have d0 : wr.cell? ⟨b, o + k, none⟩ = some u := (hbel.cell hb).trans hc0
      have hx : intsT.Rd wr [u] xs[k] := hu.below hbel
      have hsk := sumL_get_le szInts_nn hkl
      go_wp2_with fail
      refine (toInt64S_any _ hx (by omega)).mono ?_
      rintro e w2 ⟨c, rfl, hf, hb2⟩
      obtain ⟨c0, c1, rfl⟩ := fr_slice hf
      have hA2 := HA.out.below hb2 (Nat.le_refl _)
      obtain ⟨u0, e0⟩ := hA2.cell (j := k) (by simp [Ty.slice]; omega)
      have f0 := hA2.free k
      have hP := hA2.put1 rfl hf (by rw [take_len hk]; exact hkl) hb2.size
      rw [take_len hk, take_snoc hkl] at hP
      have HP := Lib.hid hP
      clear hP hA2
      go_wp2_with fail
      go_roundw
      case rel => exact ⟨k + 1, by omega, by go_num, by simpa using HP.out, (bthen hbel hb2).setCell (Nat.le_refl _) _⟩
      case measure => simp [intOf]; omega
    · obtain rfl : k = xs.length := by omega
      rw [List.take_length] at HA
      go_wp2_with fail
      go_ret
      exact ⟨_, rfl, HA.out.fr (by unfold capMax; omega) rfl, hbel⟩
set_option maxHeartbeats 400000 in
theorem eqInt64SS_any (w : World) {v u : Value} {xs ys : List (List Int)} (h : rowsT.Rd w [v] xs) (h' : rowsT.Rd w [u] ys) :
    Calls Try.prog 27 #[v, u] w fun e w' => e = .returned (.bool (eqB xs ys)) ∧ Below w.heap.size w w' := by
  obtain ⟨ad, cap, hv, hl, hc, hcell⟩ := slices_ex h
  obtain ⟨ad', cap', hv', hl', hc', hcell'⟩ := slices_ex h'
  obtain rfl : v = _ := by simpa using hv
  obtain rfl : u = _ := by simpa using hv'
  clear h hv h' hv'
  cases hn : (((xs.length : Nat) : Int) != (ys.length : Nat))
  rotate_left
  · go_enter Try.func27, Try.ntmps27
    go_wp2_with fail
    go_ret
    exact ⟨ret_bool (eqB_len (by simp at hn; omega)).symm, Below.refl _ _⟩
  · have hn' : xs.length = ys.length := by simp at hn; omega
    have HN := Lib.hid hn'
    clear hn'
    go_enter Try.func27, Try.ntmps27
    go_wp2_with fail
    go_loopw [5] (fun i wr => ∃ k : Nat, k ≤ xs.length ∧ i = .int .i64 k ∧ xs.take k = ys.take k ∧ Below w.heap.size w wr) (fun i _ => xs.length - (intOf i).toNat)
    case atStart => exact ⟨0, Nat.zero_le _, rfl, rfl, Below.refl _ _⟩
    case round =>
      obtain ⟨k, hk, rfl, ht, hbel⟩ := hrel
      have HT := Lib.hid ht
      clear ht hn
      by_cases hkl : k < xs.length
      · have hkl' : k < ys.length := by have := HN.out; omega
        obtain ⟨b, o, rfl, hb, hce⟩ := hcell (by omega)
        obtain ⟨b', o', rfl, hb', hce'⟩ := hcell' (by omega)
        obtain ⟨u, hu, hc0⟩ := hce k hkl
        have d0 : wr.cell? ⟨b, o + k, none⟩ = some u := (hbel.cell hb).trans hc0
        have hx : intsT.Rd wr [u] xs[k] := hu.below hbel
        obtain ⟨u', hu', hc0'⟩ := hce' k hkl'
        have d0' : wr.cell? ⟨b', o' + k, none⟩ = some u' := (hbel.cell hb').trans hc0'
        have hx' : intsT.Rd wr [u'] ys[k] := hu'.below hbel
        have k0 := cell_regrown d0
        have k0' := cell_regrown d0'
        have cQ : ∀ d os, Calls Try.prog 42 #[u, u'] (grow (redrawn wr d) os) fun e w'' => e = .returned (.bool (eqB xs[k] ys[k])) ∧ ∃ p : Regrown, w'' = grow (redrawn wr p.d) p.os := fun d os =>
          Calls.regrown_of (eqInt64S_any _ (hx.below (below_regrown _ d os)) (hx'.below (below_regrown _ d os)))
        clear hce hce' hcell hcell' hc0 hc0' d0 d0'
        go_wp2_with fail
        refine wp_region_quiet_below (by kernel_rfl) (by kernel_rfl) ?_
        repeat (go_big_quiet_step (exact cQ _ _))
        refine wpQuiet_nil ?_
        rintro w2 ⟨p, rfl⟩
        have hb2 := below_regrown wr p.d p.os
        cases hq : eqB xs[k] ys[k]
        · go_wp2_with fail
          go_ret
          exact ⟨ret_bool (eqB_get hkl hkl' (fun e => by rw [eqB_true e] at hq; cases hq)).symm, bthen hbel hb2⟩
        · go_wp2_with fail
          go_roundw
          case rel => exact ⟨k + 1, by omega, by go_num, take_eq_succ hkl hkl' HT.out (eqB_iff.1 hq), bthen hbel hb2⟩
          case measure => simp [intOf]; omega
      · obtain rfl : k = xs.length := by omega
        go_wp2_with fail
        go_ret
        exact ⟨ret_bool (eqB_true (by have h1 := HT.out; have h2 := HN.out; rw [List.take_length, h2, List.take_length] at h1; exact h1)).symm, hbel⟩
theorem szRel_any (w : World) {cs : Array Value} {x : Int × List (List Int)} (h : relT.Rd w cs.toList x) (left : Int) (h0 : 0 ≤ left) (h1 : left ≤ 1048576) :
    Calls Try.prog 46 #[.agg cs, .int .i64 left] w fun e w' => e = .returned (.int .i64 (szR left (szRel x))) ∧ Below w.heap.size w w' := by
  obtain ⟨v, hv, hI, hx⟩ := pair_ex h
  obtain rfl := agg_of hv
  clear h hv
  rcases ilt left (szRows x.2) with hlt | hlt
  · go_enter Try.func46, Try.ntmps46
    go_wp2_with fail
    refine (szInt64SS_any _ (hx.below bA) _ h0 h1).mono ?_
    rintro e w1 ⟨rfl, hb1⟩
    rw [szR_lt hlt]
    go_wp2_with fail
    go_ret
    exact ⟨ret_int (szR_lt hlt).symm, (by repeat (first | exact Below.refl _ _ | exact bA | assumption | refine Below.setCell ?_ (by first | omega | (simp; try omega)) _ | refine Below.alloc ?_ (by first | omega | (simp; try omega)) _ | refine Below.drew ?_ | refine bDN ?_ | refine bthen ?_ (by assumption)))⟩
  · go_enter Try.func46, Try.ntmps46
    go_wp2_with fail
    refine (szInt64SS_any _ (hx.below bA) _ h0 h1).mono ?_
    rintro e w1 ⟨rfl, hb1⟩
    rw [szR_ge hlt]
    go_wp2_with fail
    go_ret
    exact ⟨ret_int (szR_ge hlt).symm, (by repeat (first | exact Below.refl _ _ | exact bA | assumption | refine Below.setCell ?_ (by first | omega | (simp; try omega)) _ | refine Below.alloc ?_ (by first | omega | (simp; try omega)) _ | refine Below.drew ?_ | refine bDN ?_ | refine bthen ?_ (by assumption)))⟩
theorem toRel_any (w : World) {cs : Array Value} {x : Int × List (List Int)} (h : relT.Rd w cs.toList x) (hlen : szRel x ≤ 1048576) :
    Calls Try.prog 48 #[.agg cs] w (RetA relT w x) := by
  obtain ⟨v, hv, hI, hx⟩ := pair_ex h
  obtain rfl := agg_of hv
  clear h hv
  go_enter Try.func48, Try.ntmps48
  go_wp2_with fail
  refine (toInt64SS_any _ (hx.below (by repeat (first | exact Below.refl _ _ | exact bA | assumption | refine Below.setCell ?_ (by first | omega | (simp; try omega)) _ | refine Below.alloc ?_ (by first | omega | (simp; try omega)) _ | refine Below.drew ?_ | refine bDN ?_ | refine bthen ?_ (by assumption)))) hlen).mono ?_
  rintro e w1 ⟨u, rfl, hf, hb1⟩
  obtain ⟨ad, cap, rfl⟩ := fr_slice hf
  obtain ⟨q1, q2⟩ := bcell hb1
  have hz1 : w.heap.size + 3 ≤ w1.heap.size := by have := hb1.size; simp at this; omega
  go_wp2_with fail
  refine bodyPost_ret (v := .agg #[.int .i64 x.1, .slice ad x.2.length cap]) (by simp [results, Try.results48, go_sem, q1]) rfl ⟨_, rfl, fr_cons hI ?_, ?_⟩
  · exact (((hf.set (by simp)).set (by simp)).set (by simp)) |>.mono (by simp; try omega)
  · repeat (first | exact Below.refl _ _ | exact bA | assumption | refine Below.setCell ?_ (by first | omega | (simp; try omega)) _ | refine Below.alloc ?_ (by first | omega | (simp; try omega)) _ | refine Below.drew ?_ | refine bDN ?_ | refine bthen ?_ (by assumption))
theorem eqRel_any (w : World) {cs cs' : Array Value} {x y : Int × List (List Int)} (h : relT.Rd w cs.toList x) (h' : relT.Rd w cs'.toList y) :
    Calls Try.prog 50 #[.agg cs, .agg cs'] w fun e w' => e = .returned (.bool (eqB x y)) ∧ Below w.heap.size w w' := by
  obtain ⟨v, hv, hI, hx⟩ := pair_ex h
  obtain rfl := agg_of hv
  obtain ⟨v', hv', hI', hx'⟩ := pair_ex h'
  obtain rfl := agg_of hv'
  clear h hv h' hv'
  cases hn : (x.1 != y.1)
  rotate_left
  · go_enter Try.func50, Try.ntmps50
    go_wp2_with fail
    go_ret
    exact ⟨ret_bool (eqB_fst (by simpa using hn)).symm, (by repeat (first | exact Below.refl _ _ | exact bA | assumption | refine Below.setCell ?_ (by first | omega | (simp; try omega)) _ | refine Below.alloc ?_ (by first | omega | (simp; try omega)) _ | refine Below.drew ?_ | refine bDN ?_ | refine bthen ?_ (by assumption)))⟩
  have HN : Hid (x.1 = y.1) := by simpa [Hid] using hn
  cases hq : eqB x.2 y.2
  all_goals
    go_enter Try.func50, Try.ntmps50
    go_wp2_with fail
    refine (eqInt64SS_any _ (hx.below (by repeat (first | exact Below.refl _ _ | exact bA | assumption | refine Below.setCell ?_ (by first | omega | (simp; try omega)) _ | refine Below.alloc ?_ (by first | omega | (simp; try omega)) _ | refine Below.drew ?_ | refine bDN ?_ | refine bthen ?_ (by assumption)))) (hx'.below (by repeat (first | exact Below.refl _ _ | exact bA | assumption | refine Below.setCell ?_ (by first | omega | (simp; try omega)) _ | refine Below.alloc ?_ (by first | omega | (simp; try omega)) _ | refine Below.drew ?_ | refine bDN ?_ | refine bthen ?_ (by assumption))))).mono ?_
    rintro e w1 ⟨rfl, hb1⟩
    rw [hq]
    go_wp2_with fail
    go_ret
    exact ⟨ret_bool (eqB_snd HN.out hq).symm, (by repeat (first | exact Below.refl _ _ | exact bA | assumption | refine Below.setCell ?_ (by first | omega | (simp; try omega)) _ | refine Below.alloc ?_ (by first | omega | (simp; try omega)) _ | refine Below.drew ?_ | refine bDN ?_ | refine bthen ?_ (by assumption)))⟩
set_option maxHeartbeats 400000 in
theorem szRelS_any (w : World) {v : Value} {xs : List (Int × List (List Int))} (h : relsT.Rd w [v] xs) (left : Int) (h0 : 0 ≤ left) (h1 : left ≤ 1048576) :
    Calls Try.prog 58 #[v, .int .i64 left] w fun e w' => e = .returned (.int .i64 (szR left (szRels xs))) ∧ Below w.heap.size w w' := by
  obtain ⟨ad, cap, hv, hl, hc, hcell⟩ := pairs_ex h
  obtain rfl : v = _ := by simpa using hv
  clear h hv
  have hsn := sumL_nonneg szRel_nn xs
  have HS : Hid (szRels xs = xs.length + sumL szRel xs) := rfl
  rcases ilt left xs.length with hlt | hlt
  · go_enter Try.func58, Try.ntmps58
    go_wp2_with fail
    go_ret
    exact ⟨ret_int (szR_lt (by rw [HS.out]; omega)).symm, Below.refl _ _⟩
  · go_enter Try.func58, Try.ntmps58
    go_wp2_with fail
    go_loopw [1, 5] (fun l i wr => ∃ k : Nat, k ≤ xs.length ∧ i = .int .i64 k ∧ l = .int .i64 (left - xs.length - sumL szRel (xs.take k)) ∧ sumL szRel (xs.take k) ≤ left - xs.length ∧ Below w.heap.size w wr) (fun _ i _ => xs.length - (intOf i).toNat)
    case atStart => exact ⟨0, Nat.zero_le _, rfl, by simp [sumL], by simp [sumL]; omega, Below.refl _ _⟩
    case round =>
      obtain ⟨k, hk, rfl, rfl, hle, hbel⟩ := hrel
      have hs0 := sumL_nonneg szRel_nn (xs.take k)
      by_cases hkl : k < xs.length
      · obtain ⟨b, o, rfl, hb, hce⟩ := hcell (by omega)
        obtain ⟨u, hu, hI, hc0, hc1⟩ := hce k hkl
        have d0 : wr.cell? ⟨b, o + k * 2, none⟩ = some (.int .i64 xs[k].1) := (hbel.cell hb).trans hc0
        have d1 : wr.cell? ⟨b, o + k * 2 + 1, none⟩ = some u := (hbel.cell hb).trans hc1
        have hx : relT.Rd wr #[.int .i64 xs[k].1, u].toList xs[k] := pair_mk hI (hu.below hbel)
        have hs1 := sumL_succ szRel hkl
        have hs2 := sumL_take_le szRel_nn xs (k + 1)
        go_wp2_with fail
        refine (szRel_any _ hx _ (by omega) (by omega)).mono ?_
        rintro e w1 ⟨rfl, hb1⟩
        rcases ilt (left - xs.length - sumL szRel (xs.take k)) (szRel xs[k]) with hq | hq
        · rw [szR_lt hq]
          go_wp2_with fail
          go_ret
          exact ⟨ret_int (szR_lt (by rw [HS.out]; omega)).symm, bthen hbel hb1⟩
        · rw [szR_ge hq]
          go_wp2_with fail
          go_roundw
          case rel => exact ⟨k + 1, by omega, by go_num, by rw [hs1]; go_num, by rw [hs1]; omega, bthen hbel hb1⟩
          case measure => simp [intOf]; omega
      · obtain rfl : k = xs.length := by omega
        go_wp2_with fail
        go_ret
        exact ⟨ret_int (by rw [HS.out, List.take_length, szR_ge (by rw [List.take_length] at hle; omega)]; omega), hbel⟩
theorem elRelS : ElT Try.prog 35 77 2 32 := .mk (z := .agg #[.int .i64 0, .slice none 0 0]) Try.underlying35 (by kernel_rfl) rfl (by decide)
set_option maxHeartbeats 400000 in
theorem toRelS_any (w : World) {v : Value} {xs : List (Int × List (List Int))} (h : relsT.Rd w [v] xs) (hlen : szRels xs ≤ 1048576) :
    Calls Try.prog 62 #[v] w (RetS relsT w xs) := by
  obtain ⟨ad, cap, hv, hl, hc, hcell⟩ := pairs_ex h
  obtain rfl : v = _ := by simpa using hv
  have hsn := sumL_nonneg szRel_nn xs
  have hsm : xs.length + sumL szRel xs ≤ 1048576 := hlen
  clear h hv hlen
  go_enter Try.func62, Try.ntmps62
  go_wp2_with (refine wpList_mk (E := relT) _ rfl _ _ 35 77 rfl elRelS w.heap.size xs.length rfl rfl (by omega) (by decide) (by simp) ?_; intro w1 hA hg1 hs1)
  have hb1 := below_of_grown hg1
  go_loopw [4] (fun i wr => ∃ k : Nat, k ≤ xs.length ∧ i = .int .i64 k ∧ Ar relT 77 w.heap.size wr.heap.size wr w.heap.size xs.length xs.length (xs.take k) ∧ Below w.heap.size w wr) (fun i _ => xs.length - (intOf i).toNat)
  case atStart => exact ⟨0, Nat.zero_le _, rfl, by rw [hs1]; exact hA, hb1⟩
  case round =>
    obtain ⟨k, hk, rfl, hAr, hbel⟩ := hrel
    have HA := Lib.hid hAr
    clear hAr hA
    by_cases hkl : k < xs.length
    · obtain ⟨b, o, rfl, hb, hce⟩ := hcell (by omega)
      obtain ⟨u, hu, hI, hc0, hc1⟩ := hce k hkl
      have d0 : wr.cell? ⟨b, o + k * 2, none⟩ = some (.int .i64 xs[k].1) := (hbel.cell hb).trans hc0
      have d1 : wr.cell? ⟨b, o + k * 2 + 1, none⟩ = some u := (hbel.cell hb).trans hc1
      have hx : relT.Rd wr #[.int .i64 xs[k].1, u].toList xs[k] := pair_mk hI (hu.below hbel)
      have hsk := sumL_get_le szRel_nn hkl
      go_wp2_with fail
      refine (toRel_any _ hx (by omega)).mono ?_
      rintro e w2 ⟨cs, rfl, hf, hb2⟩
      obtain ⟨c, c', rfl⟩ := fr_pair hf
      have hA2 := HA.out.below hb2 (Nat.le_refl _)
      obtain ⟨u0, e0⟩ := hA2.cell (j := k * 2) (by simp [Ty.cons, Ty.slice]; omega)
      obtain ⟨u1, e1⟩ := hA2.cell (j := k * 2 + 1) (by simp [Ty.cons, Ty.slice]; omega)
      have f0 := hA2.free (k * 2)
      have f1 := hA2.free (k * 2 + 1)
      have hP := hA2.put2 rfl hf (by rw [take_len hk]; exact hkl) hb2.size
      rw [take_len hk, take_snoc hkl] at hP
      have HP := Lib.hid hP
      clear hP hA2
      go_wp2_with fail
      go_roundw
      case rel => exact ⟨k + 1, by omega, by go_num, by simpa using HP.out, ((bthen hbel hb2).setCell (Nat.le_refl _) _).setCell (Nat.le_refl _) _⟩
      case measure => simp [intOf]; omega
    · obtain rfl : k = xs.length := by omega
      rw [List.take_length] at HA
      go_wp2_with fail
      go_ret
      exact ⟨_, rfl, HA.out.fr (by unfold capMax; omega) rfl, hbel⟩
set_option maxHeartbeats 400000 in
theorem eqRelS_any (w : World) {v u : Value} {xs ys : List (Int × List (List Int))} (h : relsT.Rd w [v] xs) (h' : relsT.Rd w [u] ys) :
    Calls Try.prog 67 #[v, u] w fun e w' => e = .returned (.bool (eqB xs ys)) ∧ Below w.heap.size w w' := by
  obtain ⟨ad, cap, hv, hl, hc, hcell⟩ := pairs_ex h
  obtain ⟨ad', cap', hv', hl', hc', hcell'⟩ := pairs_ex h'
  obtain rfl : v = _ := by simpa using hv
  obtain rfl : u = _ := by simpa using hv'
  clear h hv h' hv'
  cases hn : (((xs.length : Nat) : Int) != (ys.length : Nat))
  rotate_left
  · go_enter Try.func67, Try.ntmps67
    go_wp2_with fail
    go_ret
    exact ⟨ret_bool (eqB_len (by simp at hn; omega)).symm, Below.refl _ _⟩
  · have hn' : xs.length = ys.length := by simp at hn; omega
    have HN := Lib.hid hn'
    clear hn'
    go_enter Try.func67, Try.ntmps67
    go_wp2_with fail
    go_loopw [5] (fun i wr => ∃ k : Nat, k ≤ xs.length ∧ i = .int .i64 k ∧ xs.take k = ys.take k ∧ Below w.heap.size w wr) (fun i _ => xs.length - (intOf i).toNat)
    case atStart => exact ⟨0, Nat.zero_le _, rfl, rfl, Below.refl _ _⟩
    case round =>
      obtain ⟨k, hk, rfl, ht, hbel⟩ := hrel
      have HT := Lib.hid ht
      clear ht hn
      by_cases hkl : k < xs.length
      · have hkl' : k < ys.length := by have := HN.out; omega
        obtain ⟨b, o, rfl, hb, hce⟩ := hcell (by omega)
        obtain ⟨b', o', rfl, hb', hce'⟩ := hcell' (by omega)
        obtain ⟨u, hu, hI, hc0, hc1⟩ := hce k hkl
        have d0 : wr.cell? ⟨b, o + k * 2, none⟩ = some (.int .i64 xs[k].1) := (hbel.cell hb).trans hc0
        have d1 : wr.cell? ⟨b, o + k * 2 + 1, none⟩ = some u := (hbel.cell hb).trans hc1
        have hx : relT.Rd wr #[.int .i64 xs[k].1, u].toList xs[k] := pair_mk hI (hu.below hbel)
        obtain ⟨u', hu', hI', hc0', hc1'⟩ := hce' k hkl'
        have d0' : wr.cell? ⟨b', o' + k * 2, none⟩ = some (.int .i64 ys[k].1) := (hbel.cell hb').trans hc0'
        have d1' : wr.cell? ⟨b', o' + k * 2 + 1, none⟩ = some u' := (hbel.cell hb').trans hc1'
        have hx' : relT.Rd wr #[.int .i64 ys[k].1, u'].toList ys[k] := pair_mk hI' (hu'.below hbel)
        have k0 := cell_regrown d0
        have k1 := cell_regrown d1
        have k0' := cell_regrown d0'
        have k1' := cell_regrown d1'
        have cQ : ∀ d os, Calls Try.prog 50 #[.agg #[.int .i64 xs[k].1, u], .agg #[.int .i64 ys[k].1, u']] (grow (redrawn wr d) os) fun e w'' => e = .returned (.bool (eqB xs[k] ys[k])) ∧ ∃ p : Regrown, w'' = grow (redrawn wr p.d) p.os := fun d os =>
          Calls.regrown_of (eqRel_any _ (hx.below (below_regrown _ d os)) (hx'.below (below_regrown _ d os)))
        clear hce hce' hcell hcell' hc0 hc1 hc0' hc1' d0 d1 d0' d1'
        go_wp2_with fail
        refine wp_region_quiet_below (by kernel_rfl) (by kernel_rfl) ?_
        repeat (go_big_quiet_step (exact cQ _ _))
        refine wpQuiet_nil ?_
        rintro w2 ⟨p, rfl⟩
        have hb2 := below_regrown wr p.d p.os
        cases hq : eqB xs[k] ys[k]
        · go_wp2_with fail
          go_ret
          exact ⟨ret_bool (eqB_get hkl hkl' (fun e => by rw [eqB_true e] at hq; cases hq)).symm, bthen hbel hb2⟩
        · go_wp2_with fail
          go_roundw
          case rel => exact ⟨k + 1, by omega, by go_num, take_eq_succ hkl hkl' HT.out (eqB_iff.1 hq), bthen hbel hb2⟩
          case measure => simp [intOf]; omega
      · obtain rfl : k = xs.length := by omega
        go_wp2_with fail
        go_ret
        exact ⟨ret_bool (eqB_true (by have h1 := HT.out; have h2 := HN.out; rw [List.take_length, h2, List.take_length] at h1; exact h1)).symm, hbel⟩
theorem szTemplate_any (w : World) {cs : Array Value} {x : Int × List (Int × List (List Int))} (h : tplT.Rd w cs.toList x) (left : Int) (h0 : 0 ≤ left) (h1 : left ≤ 1048576) :
    Calls Try.prog 12 #[.agg cs, .int .i64 left] w fun e w' => e = .returned (.int .i64 (szR left (szTpl x))) ∧ Below w.heap.size w w' := by
  obtain ⟨v, hv, hI, hx⟩ := pair_ex h
  obtain rfl := agg_of hv
  clear h hv
  rcases ilt left (szRels x.2) with hlt | hlt
  · go_enter Try.func12, Try.ntmps12
    go_wp2_with fail
    refine (szRelS_any _ (hx.below bA) _ h0 h1).mono ?_
    rintro e w1 ⟨rfl, hb1⟩
    rw [szR_lt hlt]
    go_wp2_with fail
    go_ret
    exact ⟨ret_int (szR_lt hlt).symm, (by repeat (first | exact Below.refl _ _ | exact bA | assumption | refine Below.setCell ?_ (by first | omega | (simp; try omega)) _ | refine Below.alloc ?_ (by first | omega | (simp; try omega)) _ | refine Below.drew ?_ | refine bDN ?_ | refine bthen ?_ (by assumption)))⟩
  · go_enter Try.func12, Try.ntmps12
    go_wp2_with fail
    refine (szRelS_any _ (hx.below bA) _ h0 h1).mono ?_
    rintro e w1 ⟨rfl, hb1⟩
    rw [szR_ge hlt]
    go_wp2_with fail
    go_ret
    exact ⟨ret_int (szR_ge hlt).symm, (by repeat (first | exact Below.refl _ _ | exact bA | assumption | refine Below.setCell ?_ (by first | omega | (simp; try omega)) _ | refine Below.alloc ?_ (by first | omega | (simp; try omega)) _ | refine Below.drew ?_ | refine bDN ?_ | refine bthen ?_ (by assumption)))⟩
theorem toTemplate_any (w : World) {cs : Array Value} {x : Int × List (Int × List (List Int))} (h : tplT.Rd w cs.toList x) (hlen : szTpl x ≤ 1048576) :
    Calls Try.prog 15 #[.agg cs] w (RetA tplT w x) := by
  obtain ⟨v, hv, hI, hx⟩ := pair_ex h
  obtain rfl := agg_of hv
  clear h hv
  go_enter Try.func15, Try.ntmps15
  go_wp2_with fail
  refine (toRelS_any _ (hx.below (by repeat (first | exact Below.refl _ _ | exact bA | assumption | refine Below.setCell ?_ (by first | omega | (simp; try omega)) _ | refine Below.alloc ?_ (by first | omega | (simp; try omega)) _ | refine Below.drew ?_ | refine bDN ?_ | refine bthen ?_ (by assumption)))) hlen).mono ?_
  rintro e w1 ⟨u, rfl, hf, hb1⟩
  obtain ⟨ad, cap, rfl⟩ := fr_slice hf
  obtain ⟨q1, q2⟩ := bcell hb1
  have hz1 : w.heap.size + 3 ≤ w1.heap.size := by have := hb1.size; simp at this; omega
  go_wp2_with fail
  refine bodyPost_ret (v := .agg #[.int .i64 x.1, .slice ad x.2.length cap]) (by simp [results, Try.results15, go_sem, q1]) rfl ⟨_, rfl, fr_cons hI ?_, ?_⟩
  · exact (((hf.set (by simp)).set (by simp)).set (by simp)) |>.mono (by simp; try omega)
  · repeat (first | exact Below.refl _ _ | exact bA | assumption | refine Below.setCell ?_ (by first | omega | (simp; try omega)) _ | refine Below.alloc ?_ (by first | omega | (simp; try omega)) _ | refine Below.drew ?_ | refine bDN ?_ | refine bthen ?_ (by assumption))
theorem eqTemplate_any (w : World) {cs cs' : Array Value} {x y : Int × List (Int × List (List Int))} (h : tplT.Rd w cs.toList x) (h' : tplT.Rd w cs'.toList y) :
    Calls Try.prog 19 #[.agg cs, .agg cs'] w fun e w' => e = .returned (.bool (eqB x y)) ∧ Below w.heap.size w w' := by
  obtain ⟨v, hv, hI, hx⟩ := pair_ex h
  obtain rfl := agg_of hv
  obtain ⟨v', hv', hI', hx'⟩ := pair_ex h'
  obtain rfl := agg_of hv'
  clear h hv h' hv'
  cases hn : (x.1 != y.1)
  rotate_left
  · go_enter Try.func19, Try.ntmps19
    go_wp2_with fail
    go_ret
    exact ⟨ret_bool (eqB_fst (by simpa using hn)).symm, (by repeat (first | exact Below.refl _ _ | exact bA | assumption | refine Below.setCell ?_ (by first | omega | (simp; try omega)) _ | refine Below.alloc ?_ (by first | omega | (simp; try omega)) _ | refine Below.drew ?_ | refine bDN ?_ | refine bthen ?_ (by assumption)))⟩
  have HN : Hid (x.1 = y.1) := by simpa [Hid] using hn
  cases hq : eqB x.2 y.2
  all_goals
    go_enter Try.func19, Try.ntmps19
    go_wp2_with fail
    refine (eqRelS_any _ (hx.below (by repeat (first | exact Below.refl _ _ | exact bA | assumption | refine Below.setCell ?_ (by first | omega | (simp; try omega)) _ | refine Below.alloc ?_ (by first | omega | (simp; try omega)) _ | refine Below.drew ?_ | refine bDN ?_ | refine bthen ?_ (by assumption)))) (hx'.below (by repeat (first | exact Below.refl _ _ | exact bA | assumption | refine Below.setCell ?_ (by first | omega | (simp; try omega)) _ | refine Below.alloc ?_ (by first | omega | (simp; try omega)) _ | refine Below.drew ?_ | refine bDN ?_ | refine bthen ?_ (by assumption))))).mono ?_
    rintro e w1 ⟨rfl, hb1⟩
    rw [hq]
    go_wp2_with fail
    go_ret
    exact ⟨ret_bool (eqB_snd HN.out hq).symm, (by repeat (first | exact Below.refl _ _ | exact bA | assumption | refine Below.setCell ?_ (by first | omega | (simp; try omega)) _ | refine Below.alloc ?_ (by first | omega | (simp; try omega)) _ | refine Below.drew ?_ | refine bDN ?_ | refine bthen ?_ (by assumption)))⟩
theorem eqOp_any (w : World) {cs cs' : Array Value} {x y : Int × List Int} (h : opT.Rd w cs.toList x) (h' : opT.Rd w cs'.toList y) :
    Calls Try.prog 41 #[.agg cs, .agg cs'] w fun e w' => e = .returned (.bool (eqB x y)) ∧ Below w.heap.size w w' := by
  obtain ⟨v, hv, hI, hx⟩ := pair_ex h
  obtain rfl := agg_of hv
  obtain ⟨v', hv', hI', hx'⟩ := pair_ex h'
  obtain rfl := agg_of hv'
  clear h hv h' hv'
  cases hn : (x.1 != y.1)
  rotate_left
  · go_enter Try.func41, Try.ntmps41
    go_wp2_with fail
    go_ret
    exact ⟨ret_bool (eqB_fst (by simpa using hn)).symm, (by repeat (first | exact Below.refl _ _ | exact bA | assumption | refine Below.setCell ?_ (by first | omega | (simp; try omega)) _ | refine Below.alloc ?_ (by first | omega | (simp; try omega)) _ | refine Below.drew ?_ | refine bDN ?_ | refine bthen ?_ (by assumption)))⟩
  have HN : Hid (x.1 = y.1) := by simpa [Hid] using hn
  cases hq : eqB x.2 y.2
  all_goals
    go_enter Try.func41, Try.ntmps41
    go_wp2_with fail
    refine (eqInt64S_any _ (hx.below (by repeat (first | exact Below.refl _ _ | exact bA | assumption | refine Below.setCell ?_ (by first | omega | (simp; try omega)) _ | refine Below.alloc ?_ (by first | omega | (simp; try omega)) _ | refine Below.drew ?_ | refine bDN ?_ | refine bthen ?_ (by assumption)))) (hx'.below (by repeat (first | exact Below.refl _ _ | exact bA | assumption | refine Below.setCell ?_ (by first | omega | (simp; try omega)) _ | refine Below.alloc ?_ (by first | omega | (simp; try omega)) _ | refine Below.drew ?_ | refine bDN ?_ | refine bthen ?_ (by assumption))))).mono ?_
    rintro e w1 ⟨rfl, hb1⟩
    rw [hq]
    go_wp2_with fail
    go_ret
    exact ⟨ret_bool (eqB_snd HN.out hq).symm, (by repeat (first | exact Below.refl _ _ | exact bA | assumption | refine Below.setCell ?_ (by first | omega | (simp; try omega)) _ | refine Below.alloc ?_ (by first | omega | (simp; try omega)) _ | refine Below.drew ?_ | refine bDN ?_ | refine bthen ?_ (by assumption)))⟩
set_option maxHeartbeats 400000 in
theorem eqOpS_any (w : World) {v u : Value} {xs ys : List (Int × List Int)} (h : opsT.Rd w [v] xs) (h' : opsT.Rd w [u] ys) :
    Calls Try.prog 35 #[v, u] w fun e w' => e = .returned (.bool (eqB xs ys)) ∧ Below w.heap.size w w' := by
  obtain ⟨ad, cap, hv, hl, hc, hcell⟩ := pairs_ex h
  obtain ⟨ad', cap', hv', hl', hc', hcell'⟩ := pairs_ex h'
  obtain rfl : v = _ := by simpa using hv
  obtain rfl : u = _ := by simpa using hv'
  clear h hv h' hv'
  cases hn : (((xs.length : Nat) : Int) != (ys.length : Nat))
  rotate_left
  · go_enter Try.func35, Try.ntmps35
    go_wp2_with fail
    go_ret
    exact ⟨ret_bool (eqB_len (by simp at hn; omega)).symm, Below.refl _ _⟩
  · have hn' : xs.length = ys.length := by simp at hn; omega
    have HN := Lib.hid hn'
    clear hn'
    go_enter Try.func35, Try.ntmps35
    go_wp2_with fail
    go_loopw [5] (fun i wr => ∃ k : Nat, k ≤ xs.length ∧ i = .int .i64 k ∧ xs.take k = ys.take k ∧ Below w.heap.size w wr) (fun i _ => xs.length - (intOf i).toNat)
    case atStart => exact ⟨0, Nat.zero_le _, rfl, rfl, Below.refl _ _⟩
    case round =>
      obtain ⟨k, hk, rfl, ht, hbel⟩ := hrel
      have HT := Lib.hid ht
      clear ht hn
      by_cases hkl : k < xs.length
      · have hkl' : k < ys.length := by have := HN.out; omega
        obtain ⟨b, o, rfl, hb, hce⟩ := hcell (by omega)
        obtain ⟨b', o', rfl, hb', hce'⟩ := hcell' (by omega)
        obtain ⟨u, hu, hI, hc0, hc1⟩ := hce k hkl
        have d0 : wr.cell? ⟨b, o + k * 2, none⟩ = some (.int .i64 xs[k].1) := (hbel.cell hb).trans hc0
        have d1 : wr.cell? ⟨b, o + k * 2 + 1, none⟩ = some u := (hbel.cell hb).trans hc1
        have hx : opT.Rd wr #[.int .i64 xs[k].1, u].toList xs[k] := pair_mk hI (hu.below hbel)
        obtain ⟨u', hu', hI', hc0', hc1'⟩ := hce' k hkl'
        have d0' : wr.cell? ⟨b', o' + k * 2, none⟩ = some (.int .i64 ys[k].1) := (hbel.cell hb').trans hc0'
        have d1' : wr.cell? ⟨b', o' + k * 2 + 1, none⟩ = some u' := (hbel.cell hb').trans hc1'
        have hx' : opT.Rd wr #[.int .i64 ys[k].1, u'].toList ys[k] := pair_mk hI' (hu'.below hbel)
        have k0 := cell_regrown d0
        have k1 := cell_regrown d1
        have k0' := cell_regrown d0'
        have k1' := cell_regrown d1'
        have cQ : ∀ d os, Calls Try.prog 41 #[.agg #[.int .i64 xs[k].1, u], .agg #[.int .i64 ys[k].1, u']] (grow (redrawn wr d) os) fun e w'' => e = .returned (.bool (eqB xs[k] ys[k])) ∧ ∃ p : Regrown, w'' = grow (redrawn wr p.d) p.os := fun d os =>
          Calls.regrown_of (eqOp_any _ (hx.below (below_regrown _ d os)) (hx'.below (below_regrown _ d os)))
        clear hce hce' hcell hcell' hc0 hc1 hc0' hc1' d0 d1 d0' d1'
        go_wp2_with fail
        refine wp_region_quiet_below (by kernel_rfl) (by kernel_rfl) ?_
        repeat (go_big_quiet_step (exact cQ _ _))
        refine wpQuiet_nil ?_
        rintro w2 ⟨p, rfl⟩
        have hb2 := below_regrown wr p.d p.os
        cases hq : eqB xs[k] ys[k]
        · go_wp2_with fail
          go_ret
          exact ⟨ret_bool (eqB_get hkl hkl' (fun e => by rw [eqB_true e] at hq; cases hq)).symm, bthen hbel hb2⟩
        · go_wp2_with fail
          go_roundw
          case rel => exact ⟨k + 1, by omega, by go_num, take_eq_succ hkl hkl' HT.out (eqB_iff.1 hq), bthen hbel hb2⟩
          case measure => simp [intOf]; omega
      · obtain rfl : k = xs.length := by omega
        go_wp2_with fail
        go_ret
        exact ⟨ret_bool (eqB_true (by have h1 := HT.out; have h2 := HN.out; rw [List.take_length, h2, List.take_length] at h1; exact h1)).symm, hbel⟩
theorem szAtom_any (w : World) {cs : Array Value} {x : Int × List Int} (h : opT.Rd w cs.toList x) (left : Int) (h0 : 0 ≤ left) (h1 : left ≤ 1048576) :
    Calls Try.prog 120 #[.agg cs, .int .i64 left] w fun e w' => e = .returned (.int .i64 (szR left (szOp x))) ∧ Below w.heap.size w w' := by
  obtain ⟨v, hv, hI, hx⟩ := pair_ex h
  obtain rfl := agg_of hv
  clear h hv
  rcases ilt left (szInts x.2) with hlt | hlt
  · go_enter Try.func120, Try.ntmps120
    go_wp2_with fail
    refine (szInt64S_any _ (hx.below bA) _ h0 h1).mono ?_
    rintro e w1 ⟨rfl, hb1⟩
    rw [szR_lt hlt]
    go_wp2_with fail
    go_ret
    exact ⟨ret_int (szR_lt hlt).symm, (by repeat (first | exact Below.refl _ _ | exact bA | assumption | refine Below.setCell ?_ (by first | omega | (simp; try omega)) _ | refine Below.alloc ?_ (by first | omega | (simp; try omega)) _ | refine Below.drew ?_ | refine bDN ?_ | refine bthen ?_ (by assumption)))⟩
  · go_enter Try.func120, Try.ntmps120
    go_wp2_with fail
    refine (szInt64S_any _ (hx.below bA) _ h0 h1).mono ?_
    rintro e w1 ⟨rfl, hb1⟩
    rw [szR_ge hlt]
    go_wp2_with fail
    go_ret
    exact ⟨ret_int (szR_ge hlt).symm, (by repeat (first | exact Below.refl _ _ | exact bA | assumption | refine Below.setCell ?_ (by first | omega | (simp; try omega)) _ | refine Below.alloc ?_ (by first | omega | (simp; try omega)) _ | refine Below.drew ?_ | refine bDN ?_ | refine bthen ?_ (by assumption)))⟩
theorem toAtom_any (w : World) {cs : Array Value} {x : Int × List Int} (h : opT.Rd w cs.toList x) (hlen : szOp x ≤ 1048576) :
    Calls Try.prog 133 #[.agg cs] w (RetA opT w x) := by
  obtain ⟨v, hv, hI, hx⟩ := pair_ex h
  obtain rfl := agg_of hv
  clear h hv
  go_enter Try.func133, Try.ntmps133
  go_wp2_with fail
  refine (toInt64S_any _ (hx.below (by repeat (first | exact Below.refl _ _ | exact bA | assumption | refine Below.setCell ?_ (by first | omega | (simp; try omega)) _ | refine Below.alloc ?_ (by first | omega | (simp; try omega)) _ | refine Below.drew ?_ | refine bDN ?_ | refine bthen ?_ (by assumption)))) hlen).mono ?_
  rintro e w1 ⟨u, rfl, hf, hb1⟩
  obtain ⟨ad, cap, rfl⟩ := fr_slice hf
  obtain ⟨q1, q2⟩ := bcell hb1
  have hz1 : w.heap.size + 3 ≤ w1.heap.size := by have := hb1.size; simp at this; omega
  go_wp2_with fail
  refine bodyPost_ret (v := .agg #[.int .i64 x.1, .slice ad x.2.length cap]) (by simp [results, Try.results133, go_sem, q1]) rfl ⟨_, rfl, fr_cons hI ?_, ?_⟩
  · exact (((hf.set (by simp)).set (by simp)).set (by simp)) |>.mono (by simp; try omega)
  · repeat (first | exact Below.refl _ _ | exact bA | assumption | refine Below.setCell ?_ (by first | omega | (simp; try omega)) _ | refine Below.alloc ?_ (by first | omega | (simp; try omega)) _ | refine Below.drew ?_ | refine bDN ?_ | refine bthen ?_ (by assumption))
theorem eqAtom_any (w : World) {cs cs' : Array Value} {x y : Int × List Int} (h : opT.Rd w cs.toList x) (h' : opT.Rd w cs'.toList y) :
    Calls Try.prog 151 #[.agg cs, .agg cs'] w fun e w' => e = .returned (.bool (eqB x y)) ∧ Below w.heap.size w w' := by
  obtain ⟨v, hv, hI, hx⟩ := pair_ex h
  obtain rfl := agg_of hv
  obtain ⟨v', hv', hI', hx'⟩ := pair_ex h'
  obtain rfl := agg_of hv'
  clear h hv h' hv'
  cases hn : (x.1 != y.1)
  rotate_left
  · go_enter Try.func151, Try.ntmps151
    go_wp2_with fail
    go_ret
    exact ⟨ret_bool (eqB_fst (by simpa using hn)).symm, (by repeat (first | exact Below.refl _ _ | exact bA | assumption | refine Below.setCell ?_ (by first | omega | (simp; try omega)) _ | refine Below.alloc ?_ (by first | omega | (simp; try omega)) _ | refine Below.drew ?_ | refine bDN ?_ | refine bthen ?_ (by assumption)))⟩
  have HN : Hid (x.1 = y.1) := by simpa [Hid] using hn
  cases hq : eqB x.2 y.2
  all_goals
    go_enter Try.func151, Try.ntmps151
    go_wp2_with fail
    refine (eqInt64S_any _ (hx.below (by repeat (first | exact Below.refl _ _ | exact bA | assumption | refine Below.setCell ?_ (by first | omega | (simp; try omega)) _ | refine Below.alloc ?_ (by first | omega | (simp; try omega)) _ | refine Below.drew ?_ | refine bDN ?_ | refine bthen ?_ (by assumption)))) (hx'.below (by repeat (first | exact Below.refl _ _ | exact bA | assumption | refine Below.setCell ?_ (by first | omega | (simp; try omega)) _ | refine Below.alloc ?_ (by first | omega | (simp; try omega)) _ | refine Below.drew ?_ | refine bDN ?_ | refine bthen ?_ (by assumption))))).mono ?_
    rintro e w1 ⟨rfl, hb1⟩
    rw [hq]
    go_wp2_with fail
    go_ret
    exact ⟨ret_bool (eqB_snd HN.out hq).symm, (by repeat (first | exact Below.refl _ _ | exact bA | assumption | refine Below.setCell ?_ (by first | omega | (simp; try omega)) _ | refine Below.alloc ?_ (by first | omega | (simp; try omega)) _ | refine Below.drew ?_ | refine bDN ?_ | refine bthen ?_ (by assumption)))⟩
set_option maxHeartbeats 400000 in
theorem szAtomS_any (w : World) {v : Value} {xs : List (Int × List Int)} (h : opsT.Rd w [v] xs) (left : Int) (h0 : 0 ≤ left) (h1 : left ≤ 1048576) :
    Calls Try.prog 59 #[v, .int .i64 left] w fun e w' => e = .returned (.int .i64 (szR left (szOps xs))) ∧ Below w.heap.size w w' := by
  obtain ⟨ad, cap, hv, hl, hc, hcell⟩ := pairs_ex h
  obtain rfl : v = _ := by simpa using hv
  clear h hv
  have hsn := sumL_nonneg szOp_nn xs
  have HS : Hid (szOps xs = xs.length + sumL szOp xs) := rfl
  rcases ilt left xs.length with hlt | hlt
  · go_enter Try.func59, Try.ntmps59
    go_wp2_with fail
    go_ret
    exact ⟨ret_int (szR_lt (by rw [HS.out]; omega)).symm, Below.refl _ _⟩
  · go_enter Try.func59, Try.ntmps59
    go_wp2_with fail
    go_loopw [1, 5] (fun l i wr => ∃ k : Nat, k ≤ xs.length ∧ i = .int .i64 k ∧ l = .int .i64 (left - xs.length - sumL szOp (xs.take k)) ∧ sumL szOp (xs.take k) ≤ left - xs.length ∧ Below w.heap.size w wr) (fun _ i _ => xs.length - (intOf i).toNat)
    case atStart => exact ⟨0, Nat.zero_le _, rfl, by simp [sumL], by simp [sumL]; omega, Below.refl _ _⟩
    case round =>
      obtain ⟨k, hk, rfl, rfl, hle, hbel⟩ := hrel
      have hs0 := sumL_nonneg szOp_nn (xs.take k)
      by_cases hkl : k < xs.length
      · obtain ⟨b, o, rfl, hb, hce⟩ := hcell (by omega)
        obtain ⟨u, hu, hI, hc0, hc1⟩ := hce k hkl
        have d0 : wr.cell? ⟨b, o + k * 2, none⟩ = some (.int .i64 xs[k].1) := (hbel.cell hb).trans hc0
        have d1 : wr.cell? ⟨b, o + k * 2 + 1, none⟩ = some u := (hbel.cell hb).trans hc1
        have hx : opT.Rd wr #[.int .i64 xs[k].1, u].toList xs[k] := pair_mk hI (hu.below hbel)
        have hs1 := sumL_succ szOp hkl
        have hs2 := sumL_take_le szOp_nn xs (k + 1)
        go_wp2_with fail
        refine (szAtom_any _ hx _ (by omega) (by omega)).mono ?_
        rintro e w1 ⟨rfl, hb1⟩
        rcases ilt (left - xs.length - sumL szOp (xs.take k)) (szOp xs[k]) with hq | hq
        · rw [szR_lt hq]
          go_wp2_with fail
          go_ret
          exact ⟨ret_int (szR_lt (by rw [HS.out]; omega)).symm, bthen hbel hb1⟩
        · rw [szR_ge hq]
          go_wp2_with fail
          go_roundw
          case rel => exact ⟨k + 1, by omega, by go_num, by rw [hs1]; go_num, by rw [hs1]; omega, bthen hbel hb1⟩
          case measure => simp [intOf]; omega
      · obtain rfl : k = xs.length := by omega
        go_wp2_with fail
        go_ret
        exact ⟨ret_int (by rw [HS.out, List.take_length, szR_ge (by rw [List.take_length] at hle; omega)]; omega), hbel⟩
theorem elAtomS : ElT Try.prog 30 105 2 32 := .mk (z := .agg #[.int .i64 0, .slice none 0 0]) Try.underlying30 (by kernel_rfl) rfl (by decide)
set_option maxHeartbeats 400000 in
theorem toAtomS_any (w : World) {v : Value} {xs : List (Int × List Int)} (h : opsT.Rd w [v] xs) (hlen : szOps xs ≤ 1048576) :
    Calls Try.prog 63 #[v] w (RetS opsT w xs) := by
  obtain ⟨ad, cap, hv, hl, hc, hcell⟩ := pairs_ex h
  obtain rfl : v = _ := by simpa using hv
  have hsn := sumL_nonneg szOp_nn xs
  have hsm : xs.length + sumL szOp xs ≤ 1048576 := hlen
  clear h hv hlen
  go_enter Try.func63, Try.ntmps63
  go_wp2_with (refine wpList_mk (E := opT) _ rfl _ _ 30 105 rfl elAtomS w.heap.size xs.length rfl rfl (by omega) (by decide) (by simp) ?_; intro w1 hA hg1 hs1)
  have hb1 := below_of_grown hg1
  go_loopw [4] (fun i wr => ∃ k : Nat, k ≤ xs.length ∧ i = .int .i64 k ∧ Ar opT 105 w.heap.size wr.heap.size wr w.heap.size xs.length xs.length (xs.take k) ∧ Below w.heap.size w wr) (fun i _ => xs.length - (intOf i).toNat)
  case atStart => exact ⟨0, Nat.zero_le _, rfl, by rw [hs1]; exact hA, hb1⟩
  case round =>
    obtain ⟨k, hk, rfl, hAr, hbel⟩ := hrel
    have HA := Lib.hid hAr
    clear hAr hA
    by_cases hkl : k < xs.length
    · obtain ⟨b, o, rfl, hb, hce⟩ := hcell (by omega)
      obtain ⟨u, hu, hI, hc0, hc1⟩ := hce k hkl
      have d0 : wr.cell? ⟨b, o + k * 2, none⟩ = some (.int .i64 xs[k].1) := (hbel.cell hb).trans hc0
      have d1 : wr.cell? ⟨b, o + k * 2 + 1, none⟩ = some u := (hbel.cell hb).trans hc1
      have hx : opT.Rd wr #[.int .i64 xs[k].1, u].toList xs[k] := pair_mk hI (hu.below hbel)
      have hsk := sumL_get_le szOp_nn hkl
      go_wp2_with fail
      refine (toAtom_any _ hx (by omega)).mono ?_
      rintro e w2 ⟨cs, rfl, hf, hb2⟩
      obtain ⟨c, c', rfl⟩ := fr_pair hf
      have hA2 := HA.out.below hb2 (Nat.le_refl _)
      obtain ⟨u0, e0⟩ := hA2.cell (j := k * 2) (by simp [Ty.cons, Ty.slice]; omega)
      obtain ⟨u1, e1⟩ := hA2.cell (j := k * 2 + 1) (by simp [Ty.cons, Ty.slice]; omega)
      have f0 := hA2.free (k * 2)
      have f1 := hA2.free (k * 2 + 1)
      have hP := hA2.put2 rfl hf (by rw [take_len hk]; exact hkl) hb2.size
      rw [take_len hk, take_snoc hkl] at hP
      have HP := Lib.hid hP
      clear hP hA2
      go_wp2_with fail
      go_roundw
      case rel => exact ⟨k + 1, by omega, by go_num, by simpa using HP.out, ((bthen hbel hb2).setCell (Nat.le_refl _) _).setCell (Nat.le_refl _) _⟩
      case measure => simp [intOf]; omega
    · obtain rfl : k = xs.length := by omega
      rw [List.take_length] at HA
      go_wp2_with fail
      go_ret
      exact ⟨_, rfl, HA.out.fr (by unfold capMax; omega) rfl, hbel⟩
set_option maxHeartbeats 400000 in
theorem eqAtomS_any (w : World) {v u : Value} {xs ys : List (Int × List Int)} (h : opsT.Rd w [v] xs) (h' : opsT.Rd w [u] ys) :
    Calls Try.prog 66 #[v, u] w fun e w' => e = .returned (.bool (eqB xs ys)) ∧ Below w.heap.size w w' := by
  obtain ⟨ad, cap, hv, hl, hc, hcell⟩ := pairs_ex h
  obtain ⟨ad', cap', hv', hl', hc', hcell'⟩ := pairs_ex h'
  obtain rfl : v = _ := by simpa using hv
  obtain rfl : u = _ := by simpa using hv'
  clear h hv h' hv'
  cases hn : (((xs.length : Nat) : Int) != (ys.length : Nat))
  rotate_left
  · go_enter Try.func66, Try.ntmps66
    go_wp2_with fail
    go_ret
    exact ⟨ret_bool (eqB_len (by simp at hn; omega)).symm, Below.refl _ _⟩
  · have hn' : xs.length = ys.length := by simp at hn; omega
    have HN := Lib.hid hn'
    clear hn'
    go_enter Try.func66, Try.ntmps66
    go_wp2_with fail
    go_loopw [5] (fun i wr => ∃ k : Nat, k ≤ xs.length ∧ i = .int .i64 k ∧ xs.take k = ys.take k ∧ Below w.heap.size w wr) (fun i _ => xs.length - (intOf i).toNat)
    case atStart => exact ⟨0, Nat.zero_le _, rfl, rfl, Below.refl _ _⟩
    case round =>
      obtain ⟨k, hk, rfl, ht, hbel⟩ := hrel
      have HT := Lib.hid ht
      clear ht hn
      by_cases hkl : k < xs.length
      · have hkl' : k < ys.length := by have := HN.out; omega
        obtain ⟨b, o, rfl, hb, hce⟩ := hcell (by omega)
        obtain ⟨b', o', rfl, hb', hce'⟩ := hcell' (by omega)
        obtain ⟨u, hu, hI, hc0, hc1⟩ := hce k hkl
        have d0 : wr.cell? ⟨b, o + k * 2, none⟩ = some (.int .i64 xs[k].1) := (hbel.cell hb).trans hc0
        have d1 : wr.cell? ⟨b, o + k * 2 + 1, none⟩ = some u := (hbel.cell hb).trans hc1
        have hx : opT.Rd wr #[.int .i64 xs[k].1, u].toList xs[k] := pair_mk hI (hu.below hbel)
        obtain ⟨u', hu', hI', hc0', hc1'⟩ := hce' k hkl'
        have d0' : wr.cell? ⟨b', o' + k * 2, none⟩ = some (.int .i64 ys[k].1) := (hbel.cell hb').trans hc0'
        have d1' : wr.cell? ⟨b', o' + k * 2 + 1, none⟩ = some u' := (hbel.cell hb').trans hc1'
        have hx' : opT.Rd wr #[.int .i64 ys[k].1, u'].toList ys[k] := pair_mk hI' (hu'.below hbel)
        have k0 := cell_regrown d0
        have k1 := cell_regrown d1
        have k0' := cell_regrown d0'
        have k1' := cell_regrown d1'
        have cQ : ∀ d os, Calls Try.prog 151 #[.agg #[.int .i64 xs[k].1, u], .agg #[.int .i64 ys[k].1, u']] (grow (redrawn wr d) os) fun e w'' => e = .returned (.bool (eqB xs[k] ys[k])) ∧ ∃ p : Regrown, w'' = grow (redrawn wr p.d) p.os := fun d os =>
          Calls.regrown_of (eqAtom_any _ (hx.below (below_regrown _ d os)) (hx'.below (below_regrown _ d os)))
        clear hce hce' hcell hcell' hc0 hc1 hc0' hc1' d0 d1 d0' d1'
        go_wp2_with fail
        refine wp_region_quiet_below (by kernel_rfl) (by kernel_rfl) ?_
        repeat (go_big_quiet_step (exact cQ _ _))
        refine wpQuiet_nil ?_
        rintro w2 ⟨p, rfl⟩
        have hb2 := below_regrown wr p.d p.os
        cases hq : eqB xs[k] ys[k]
        · go_wp2_with fail
          go_ret
          exact ⟨ret_bool (eqB_get hkl hkl' (fun e => by rw [eqB_true e] at hq; cases hq)).symm, bthen hbel hb2⟩
        · go_wp2_with fail
          go_roundw
          case rel => exact ⟨k + 1, by omega, by go_num, take_eq_succ hkl hkl' HT.out (eqB_iff.1 hq), bthen hbel hb2⟩
          case measure => simp [intOf]; omega
      · obtain rfl : k = xs.length := by omega
        go_wp2_with fail
        go_ret
        exact ⟨ret_bool (eqB_true (by have h1 := HT.out; have h2 := HN.out; rw [List.take_length, h2, List.take_length] at h1; exact h1)).symm, hbel⟩
theorem szFormula_any (w : World) {cs : Array Value} {x : Int × Int × List (Int × List Int)} (h : frmT.Rd w cs.toList x) (left : Int) (h0 : 0 ≤ left) (h1 : left ≤ 1048576) :
    Calls Try.prog 13 #[.agg cs, .int .i64 left] w fun e w' => e = .returned (.int .i64 (szR left (szFrm x))) ∧ Below w.heap.size w w' := by
  obtain ⟨v, hv, hI, hI2, hx⟩ := trip_ex h
  obtain rfl := agg_of hv
  clear h hv
  rcases ilt left (szOps x.2.2) with hlt | hlt
  · go_enter Try.func13, Try.ntmps13
    go_wp2_with fail
    refine (szAtomS_any _ (hx.below bA) _ h0 h1).mono ?_
    rintro e w1 ⟨rfl, hb1⟩
    rw [szR_lt hlt]
    go_wp2_with fail
    go_ret
    exact ⟨ret_int (szR_lt hlt).symm, (by repeat (first | exact Below.refl _ _ | exact bA | assumption | refine Below.setCell ?_ (by first | omega | (simp; try omega)) _ | refine Below.alloc ?_ (by first | omega | (simp; try omega)) _ | refine Below.drew ?_ | refine bDN ?_ | refine bthen ?_ (by assumption)))⟩
  · go_enter Try.func13, Try.ntmps13
    go_wp2_with fail
    refine (szAtomS_any _ (hx.below bA) _ h0 h1).mono ?_
    rintro e w1 ⟨rfl, hb1⟩
    rw [szR_ge hlt]
    go_wp2_with fail
    go_ret
    exact ⟨ret_int (szR_ge hlt).symm, (by repeat (first | exact Below.refl _ _ | exact bA | assumption | refine Below.setCell ?_ (by first | omega | (simp; try omega)) _ | refine Below.alloc ?_ (by first | omega | (simp; try omega)) _ | refine Below.drew ?_ | refine bDN ?_ | refine bthen ?_ (by assumption)))⟩
theorem toFormula_any (w : World) {cs : Array Value} {x : Int × Int × List (Int × List Int)} (h : frmT.Rd w cs.toList x) (hlen : szFrm x ≤ 1048576) :
    Calls Try.prog 16 #[.agg cs] w (RetA frmT w x) := by
  obtain ⟨v, hv, hI, hI2, hx⟩ := trip_ex h
  obtain rfl := agg_of hv
  clear h hv
  go_enter Try.func16, Try.ntmps16
  go_wp2_with fail
  refine (toAtomS_any _ (hx.below (by repeat (first | exact Below.refl _ _ | exact bA | assumption | refine Below.setCell ?_ (by first | omega | (simp; try omega)) _ | refine Below.alloc ?_ (by first | omega | (simp; try omega)) _ | refine Below.drew ?_ | refine bDN ?_ | refine bthen ?_ (by assumption)))) hlen).mono ?_
  rintro e w1 ⟨u, rfl, hf, hb1⟩
  obtain ⟨ad, cap, rfl⟩ := fr_slice hf
  obtain ⟨q1, q2⟩ := bcell hb1
  have hz1 : w.heap.size + 3 ≤ w1.heap.size := by have := hb1.size; simp at this; omega
  go_wp2_with fail
  refine bodyPost_ret (v := .agg #[.int .i64 x.1, .int .i64 x.2.1, .slice ad x.2.2.length cap]) (by simp [results, Try.results16, go_sem, q1]) rfl ⟨_, rfl, fr_cons hI (fr_cons hI2 ?_), ?_⟩
  · exact ((((hf.set (by simp)).set (by simp)).set (by simp)).set (by simp)) |>.mono (by simp; try omega)
  · repeat (first | exact Below.refl _ _ | exact bA | assumption | refine Below.setCell ?_ (by first | omega | (simp; try omega)) _ | refine Below.alloc ?_ (by first | omega | (simp; try omega)) _ | refine Below.drew ?_ | refine bDN ?_ | refine bthen ?_ (by assumption))
theorem eqFormula_any (w : World) {cs cs' : Array Value} {x y : Int × Int × List (Int × List Int)} (h : frmT.Rd w cs.toList x) (h' : frmT.Rd w cs'.toList y) :
    Calls Try.prog 18 #[.agg cs, .agg cs'] w fun e w' => e = .returned (.bool (eqB x y)) ∧ Below w.heap.size w w' := by
  obtain ⟨v, hv, hI, hI2, hx⟩ := trip_ex h
  obtain rfl := agg_of hv
  obtain ⟨v', hv', hI', hI2', hx'⟩ := trip_ex h'
  obtain rfl := agg_of hv'
  clear h hv h' hv'
  cases hn : (x.1 != y.1)
  rotate_left
  · go_enter Try.func18, Try.ntmps18
    go_wp2_with fail
    go_ret
    exact ⟨ret_bool (eqB_fst (by simpa using hn)).symm, (by repeat (first | exact Below.refl _ _ | exact bA | assumption | refine Below.setCell ?_ (by first | omega | (simp; try omega)) _ | refine Below.alloc ?_ (by first | omega | (simp; try omega)) _ | refine Below.drew ?_ | refine bDN ?_ | refine bthen ?_ (by assumption)))⟩
  have HN : Hid (x.1 = y.1) := by simpa [Hid] using hn
  cases hm : (x.2.1 != y.2.1)
  rotate_left
  · go_enter Try.func18, Try.ntmps18
    go_wp2_with fail
    go_ret
    exact ⟨ret_bool (eqB_snd HN.out (eqB_fst (by simpa using hm))).symm, (by repeat (first | exact Below.refl _ _ | exact bA | assumption | refine Below.setCell ?_ (by first | omega | (simp; try omega)) _ | refine Below.alloc ?_ (by first | omega | (simp; try omega)) _ | refine Below.drew ?_ | refine bDN ?_ | refine bthen ?_ (by assumption)))⟩
  have HM : Hid (x.2.1 = y.2.1) := by simpa [Hid] using hm
  cases hq : eqB x.2.2 y.2.2
  all_goals
    go_enter Try.func18, Try.ntmps18
    go_wp2_with fail
    refine (eqAtomS_any _ (hx.below (by repeat (first | exact Below.refl _ _ | exact bA | assumption | refine Below.setCell ?_ (by first | omega | (simp; try omega)) _ | refine Below.alloc ?_ (by first | omega | (simp; try omega)) _ | refine Below.drew ?_ | refine bDN ?_ | refine bthen ?_ (by assumption)))) (hx'.below (by repeat (first | exact Below.refl _ _ | exact bA | assumption | refine Below.setCell ?_ (by first | omega | (simp; try omega)) _ | refine Below.alloc ?_ (by first | omega | (simp; try omega)) _ | refine Below.drew ?_ | refine bDN ?_ | refine bthen ?_ (by assumption))))).mono ?_
    rintro e w1 ⟨rfl, hb1⟩
    rw [hq]
    go_wp2_with fail
    go_ret
    exact ⟨ret_bool (eqB_snd HN.out (eqB_snd HM.out hq)).symm, (by repeat (first | exact Below.refl _ _ | exact bA | assumption | refine Below.setCell ?_ (by first | omega | (simp; try omega)) _ | refine Below.alloc ?_ (by first | omega | (simp; try omega)) _ | refine Below.drew ?_ | refine bDN ?_ | refine bthen ?_ (by assumption)))⟩
end Go.Proofs.Ytepebfpgmnidnaa
