/-
Contracts of the laws' own helpers: sz.. (how much an argument holds), to.. (a deep copy in new memory), eq.. (deep equality): by program (gen_laws.py), one text a make of type.
Contracts: powers, indices of lists, lists of indices.
Contracts: the list of an index.
Contracts: valid relations and templates, in the program and in the reference.
Contracts: valid relations and templates (the program's), valid templates (the reference's).
Contracts: what a number of a relation tells; atoms' places; counts of formulas.
-/
import Derived.Test.YthjafhjghjbdmaaGreatQAA
import Derived.Lib.QuietBelow
import Derived.Test.YthjafhjghjbdmaaGreatQAB
import Derived.Laws.OwnMore
namespace Go.Proofs.YthjafhjghjbdmaaGreat
open Go.RowKit Go.Sort

theorem szInt64S_any (w : World) {v : Value} {xs : List Int} (h : intsT.Rd w [v] xs) (left : Int) (h0 : 0 ≤ left) (h1 : left ≤ 1048576) :
    Calls Tryz.prog 215 #[v, .int .i64 left] w fun e w' => e = .returned (.int .i64 (szR left (szInts xs))) ∧ Below w.heap.size w w' := by
  obtain ⟨ad, cap, hv, hl, hc, -⟩ := ints_ex h
  obtain rfl : v = _ := by simpa using hv
  clear h hv
  rcases ilt left xs.length with hlt | hlt
  · go_enter Tryz.func215, Tryz.ntmps215
    go_wp2
    go_ret
    exact ⟨ret_int (szR_lt hlt).symm, Below.refl _ _⟩
  · go_enter Tryz.func215, Tryz.ntmps215
    go_wp2
    go_ret
    exact ⟨ret_int (szR_ge hlt).symm, Below.refl _ _⟩
theorem elInt : ElT Tryz.prog 26 2 1 8 := .mk (z := .int .i64 0) Tryz.underlying26 (by kernel_rfl) rfl (by decide)
set_option maxHeartbeats 400000 in
theorem toInt64S_any (w : World) {v : Value} {xs : List Int} (h : intsT.Rd w [v] xs) (hlen : szInts xs ≤ 1048576) :
    Calls Tryz.prog 217 #[v] w (RetS intsT w xs) := by
  obtain ⟨ad, cap, hv, hl, hc, hcell⟩ := ints_ex h
  obtain rfl : v = _ := by simpa using hv
  unfold szInts at hlen
  clear h hv
  go_enter Tryz.func217, Tryz.ntmps217
  go_wp2_with (refine wpList_mk (E := Ty.int) _ rfl _ _ 26 2 rfl elInt w.heap.size xs.length rfl rfl (by omega) (by decide) (by simp) ?_; intro w1 hA hg1 hs1)
  have hb1 := below_of_grown hg1
  go_loopw [4] (fun i wr => ∃ k : Nat, k ≤ xs.length ∧ i = .int .i64 k ∧ Ar Ty.int 2 w.heap.size wr.heap.size wr w.heap.size xs.length xs.length (xs.take k) ∧ Below w.heap.size w wr) (fun i _ => xs.length - (intOf i).toNat)
  case atStart => exact ⟨0, Nat.zero_le _, rfl, by rw [hs1]; exact hA, hb1⟩
  case round =>
    obtain ⟨k, hk, rfl, hAr, hbel⟩ := hrel
    by_cases hkl : k < xs.length
    · obtain ⟨b, o, rfl, hb, hce⟩ := hcell (by omega)
      obtain ⟨hI, hc0⟩ := hce k hkl
      have d0 : wr.cell? ⟨b, o + k, none⟩ = some (.int .i64 xs[k]) := (hbel.cell hb).trans hc0
      obtain ⟨u, d1⟩ := hAr.cell (j := k) (by simpa [Ty.int] using hkl)
      have d2 := hAr.free k
      have hP := hAr.put1 rfl (fr_int hI) (by rw [take_len hk]; exact hkl) (Nat.le_refl _)
      rw [take_len hk, take_snoc hkl] at hP
      have HP := Lib.hid hP
      have HA := Lib.hid hAr
      clear hP hAr hA
      go_wp2_with fail
      go_roundw
      case rel => exact ⟨k + 1, by omega, by go_num, by simpa using HP.out, hbel.setCell (Nat.le_refl _) _⟩
      case measure => simp [intOf]; omega
    · obtain rfl : k = xs.length := by omega
      rw [List.take_length] at hAr
      have HA := Lib.hid hAr
      clear hAr hA
      go_wp2_with fail
      go_ret
      exact ⟨_, rfl, HA.out.fr (by unfold capMax; omega) rfl, hbel⟩
set_option maxHeartbeats 400000 in
theorem eqInt64S_quiet (w : World) {v u : Value} {xs ys : List Int} (h : intsT.Rd w [v] xs) (h' : intsT.Rd w [u] ys) :
    Calls Tryz.prog 54 #[v, u] w fun e w' => e = .returned (.bool (eqB xs ys)) ∧ Quiet w w' := by
  obtain ⟨ad, cap, hv, hl, hc, hcell⟩ := ints_ex h
  obtain ⟨ad', cap', hv', hl', hc', hcell'⟩ := ints_ex h'
  obtain rfl : v = _ := by simpa using hv
  obtain rfl : u = _ := by simpa using hv'
  clear h hv h' hv'
  cases hn : (((xs.length : Nat) : Int) != (ys.length : Nat))
  rotate_left
  · go_enter Tryz.func54, Tryz.ntmps54
    go_wp2_with fail
    go_ret
    exact ⟨ret_bool (eqB_len (by simp at hn; omega)).symm, Quiet.refl _⟩
  · have hn' : xs.length = ys.length := by simp at hn; omega
    have HN := Lib.hid hn'
    clear hn'
    go_enter Tryz.func54, Tryz.ntmps54
    go_wp2_with fail
    go_loopw [5] (fun i wr => ∃ k : Nat, k ≤ xs.length ∧ i = .int .i64 k ∧ xs.take k = ys.take k ∧ Quiet w wr) (fun i _ => xs.length - (intOf i).toNat)
    case atStart => exact ⟨0, Nat.zero_le _, rfl, rfl, Quiet.refl _⟩
    case round =>
      obtain ⟨k, hk, rfl, ht, nq, rfl⟩ := hrel
      have HT := Lib.hid ht
      clear ht hn
      by_cases hkl : k < xs.length
      · have hkl' : k < ys.length := by have := HN.out; omega
        obtain ⟨b, o, rfl, hb, hce⟩ := hcell (by omega)
        obtain ⟨b', o', rfl, hb', hce'⟩ := hcell' (by omega)
        have d0 := (hce k hkl).2
        have d1 := (hce' k hkl').2
        clear hce hce' hcell hcell'
        cases hq : (xs[k] != ys[k])
        rotate_left
        · go_wp2_with fail
          go_quiet (fail)
          go_wp2_with fail
          go_ret
          exact ⟨ret_bool (eqB_get hkl hkl' (by simpa using hq)).symm, (by first | exact Quiet.refl _ | exact Quiet.drewN _ _ | exact (Quiet.drewN _ _).then (Quiet.drewN _ _) | exact ((Quiet.drewN _ _).then (Quiet.drewN _ _)).then (Quiet.drewN _ _))⟩
        · go_wp2_with fail
          go_quiet (fail)
          go_wp2_with fail
          go_roundw
          case rel => exact ⟨k + 1, by omega, by go_num, take_eq_succ hkl hkl' HT.out (by simpa using hq), (by first | exact Quiet.refl _ | exact Quiet.drewN _ _ | exact (Quiet.drewN _ _).then (Quiet.drewN _ _) | exact ((Quiet.drewN _ _).then (Quiet.drewN _ _)).then (Quiet.drewN _ _))⟩
          case measure => simp [intOf]; omega
      · obtain rfl : k = xs.length := by omega
        go_wp2_with fail
        go_ret
        exact ⟨ret_bool (eqB_true (by have h1 := HT.out; have h2 := HN.out; rw [List.take_length, h2, List.take_length] at h1; exact h1)).symm, (by first | exact Quiet.refl _ | exact Quiet.drewN _ _ | exact (Quiet.drewN _ _).then (Quiet.drewN _ _) | exact ((Quiet.drewN _ _).then (Quiet.drewN _ _)).then (Quiet.drewN _ _))⟩
theorem eqInt64S_any (w : World) {v u : Value} {xs ys : List Int} (h : intsT.Rd w [v] xs) (h' : intsT.Rd w [u] ys) :
    Calls Tryz.prog 54 #[v, u] w fun e w' => e = .returned (.bool (eqB xs ys)) ∧ Below w.heap.size w w' := (eqInt64S_quiet w h h').mono fun _ _ ⟨a, b⟩ => ⟨a, b.below⟩

set_option maxHeartbeats 400000 in
theorem szInt64SS_any (w : World) {v : Value} {xs : List (List Int)} (h : rowsT.Rd w [v] xs) (left : Int) (h0 : 0 ≤ left) (h1 : left ≤ 1048576) :
    Calls Tryz.prog 185 #[v, .int .i64 left] w fun e w' => e = .returned (.int .i64 (szR left (szRows xs))) ∧ Below w.heap.size w w' := by
  obtain ⟨ad, cap, hv, hl, hc, hcell⟩ := slices_ex h
  obtain rfl : v = _ := by simpa using hv
  clear h hv
  have hsn := sumL_nonneg szInts_nn xs
  have HS : Hid (szRows xs = xs.length + sumL szInts xs) := rfl
  rcases ilt left xs.length with hlt | hlt
  · go_enter Tryz.func185, Tryz.ntmps185
    go_wp2_with fail
    go_ret
    exact ⟨ret_int (szR_lt (by rw [HS.out]; omega)).symm, Below.refl _ _⟩
  · go_enter Tryz.func185, Tryz.ntmps185
    go_wp2_with fail
    go_loopw [1, 5] (fun l i wr => ∃ k : Nat, k ≤ xs.length ∧ i = .int .i64 k ∧ l = .int .i64 (left - xs.length - sumL szInts (xs.take k)) ∧ sumL szInts (xs.take k) ≤ left - xs.length ∧ Below w.heap.size w wr) (fun _ i _ => xs.length - (intOf i).toNat)
    case atStart => exact ⟨0, Nat.zero_le _, rfl, by simp [sumL], by simp [sumL]; omega, Below.refl _ _⟩
    case round =>
      obtain ⟨k, hk, rfl, rfl, hle, hbel⟩ := hrel
      have hs0 := sumL_nonneg szInts_nn (xs.take k)
      by_cases hkl : k < xs.length
      · obtain ⟨b, o, rfl, hb, hce⟩ := hcell (by omega)
        obtain ⟨u, hu, hc0⟩ := hce k hkl
        have d0 : wr.cell? ⟨b, o + k, none⟩ = some u := (hbel.cell hb).trans hc0
        have hx : intsT.Rd wr [u] xs[k] := hu.below hbel
        have hs1 := sumL_succ szInts hkl
        have hs2 := sumL_take_le szInts_nn xs (k + 1)
        go_wp2_with fail
        refine (szInt64S_any _ hx _ (by omega) (by omega)).mono ?_
        rintro e w1 ⟨rfl, hb1⟩
        rcases ilt (left - xs.length - sumL szInts (xs.take k)) (szInts xs[k]) with hq | hq
        · rw [szR_lt hq]
          go_wp2_with fail
          go_ret
          exact ⟨ret_int (szR_lt (by rw [HS.out]; omega)).symm, bthen hbel hb1⟩
        · rw [szR_ge hq]
          go_wp2_with fail
          go_roundw
          case rel => exact ⟨k + 1, by omega, by go_num, by rw [hs1]; go_num, by rw [hs1]; omega, bthen hbel hb1⟩
          case measure => simp [intOf]; omega
      · obtain rfl : k = xs.length := by omega
        go_wp2_with fail
        go_ret
        exact ⟨ret_int (by rw [HS.out, List.take_length, szR_ge (by rw [List.take_length] at hle; omega)]; omega), hbel⟩
theorem elInt64SS : ElT Tryz.prog 49 26 1 24 := .mk (z := .slice none 0 0) Tryz.underlying49 (by kernel_rfl) rfl (by decide)
set_option maxHeartbeats 400000 in
theorem toInt64SS_any (w : World) {v : Value} {xs : List (List Int)} (h : rowsT.Rd w [v] xs) (hlen : szRows xs ≤ 1048576) :
    Calls Tryz.prog 194 #[v] w (RetS rowsT w xs) := by
  obtain ⟨ad, cap, hv, hl, hc, hcell⟩ := slices_ex h
  obtain rfl : v = _ := by simpa using hv
  have hsn := sumL_nonneg szInts_nn xs
  have hsm : xs.length + sumL szInts xs ≤ 1048576 := hlen
  clear h hv hlen
  go_enter Tryz.func194, Tryz.ntmps194
  go_wp2_with (refine wpList_mk (E := intsT) _ rfl _ _ 49 26 rfl elInt64SS w.heap.size xs.length rfl rfl (by omega) (by decide) (by simp) ?_; intro w1 hA hg1 hs1)
  have hb1 := below_of_grown hg1
  go_loopw [4] (fun i wr => ∃ k : Nat, k ≤ xs.length ∧ i = .int .i64 k ∧ Ar intsT 26 w.heap.size wr.heap.size wr w.heap.size xs.length xs.length (xs.take k) ∧ Below w.heap.size w wr) (fun i _ => xs.length - (intOf i).toNat)
  case atStart => exact ⟨0, Nat.zero_le _, rfl, by rw [hs1]; exact hA, hb1⟩
  case round =>
    obtain ⟨k, hk, rfl, hAr, hbel⟩ := hrel
    have HA := Lib.hid hAr
    clear hAr hA
    by_cases hkl : k < xs.length
    · obtain ⟨b, o, rfl, hb, hce⟩ := hcell (by omega)
      obtain ⟨u, hu, hc0⟩ := hce k hkl
      have d0 : wr.cell? ⟨b, o + k, none⟩ = some u := (hbel.cell hb).trans hc0
      have hx : intsT.Rd wr [u] xs[k] := hu.below hbel
      have hsk := sumL_get_le szInts_nn hkl
      go_wp2_with fail
      refine (toInt64S_any _ hx (by omega)).mono ?_
      rintro e w2 ⟨c, rfl, hf, hb2⟩
      obtain ⟨c0, c1, rfl⟩ := fr_slice hf
      have hA2 := HA.out.below hb2 (Nat.le_refl _)
      obtain ⟨u0, e0⟩ := hA2.cell (j := k) (by simp [Ty.slice]; omega)
      have f0 := hA2.free k
      have hP := hA2.put1 rfl hf (by rw [take_len hk]; exact hkl) hb2.size
      rw [take_len hk, take_snoc hkl] at hP
      have HP := Lib.hid hP
      clear hP hA2
      go_wp2_with fail
      go_roundw
      case rel => exact ⟨k + 1, by omega, by go_num, by simpa using HP.out, (bthen hbel hb2).setCell (Nat.le_refl _) _⟩
      case measure => simp [intOf]; omega
    · obtain rfl : k = xs.length := by omega
      rw [List.take_length] at HA
      go_wp2_with fail
      go_ret
      exact ⟨_, rfl, HA.out.fr (by unfold capMax; omega) rfl, hbel⟩
set_option maxHeartbeats 400000 in
theorem eqInt64SS_any (w : World) {v u : Value} {xs ys : List (List Int)} (h : rowsT.Rd w [v] xs) (h' : rowsT.Rd w [u] ys) :
    Calls Tryz.prog 203 #[v, u] w fun e w' => e = .returned (.bool (eqB xs ys)) ∧ Below w.heap.size w w' := by
  obtain ⟨ad, cap, hv, hl, hc, hcell⟩ := slices_ex h
  obtain ⟨ad', cap', hv', hl', hc', hcell'⟩ := slices_ex h'
  obtain rfl : v = _ := by simpa using hv
  obtain rfl : u = _ := by simpa using hv'
  clear h hv h' hv'
  cases hn : (((xs.length : Nat) : Int) != (ys.length : Nat))
  rotate_left
  · go_enter Tryz.func203, Tryz.ntmps203
    go_wp2_with fail
    go_ret
    exact ⟨ret_bool (eqB_len (by simp at hn; omega)).symm, Below.refl _ _⟩
  · have hn' : xs.length = ys.length := by simp at hn; omega
    have HN := Lib.hid hn'
    clear hn'
    go_enter Tryz.func203, Tryz.ntmps203
    go_wp2_with fail
    go_loopw [5] (fun i wr => ∃ k : Nat, k ≤ xs.length ∧ i = .int .i64 k ∧ xs.take k = ys.take k ∧ Below w.heap.size w wr) (fun i _ => xs.length - (intOf i).toNat)
    case atStart => exact ⟨0, Nat.zero_le _, rfl, rfl, Below.refl _ _⟩
    case round =>
      obtain ⟨k, hk, rfl, ht, hbel⟩ := hrel
      have HT := Lib.hid ht
      clear ht hn
      by_cases hkl : k < xs.length
      · have hkl' : k < ys.length := by have := HN.out; omega
        obtain ⟨b, o, rfl, hb, hce⟩ := hcell (by omega)
        obtain ⟨b', o', rfl, hb', hce'⟩ := hcell' (by omega)
        obtain ⟨u, hu, hc0⟩ := hce k hkl
        have d0 : wr.cell? ⟨b, o + k, none⟩ = some u := (hbel.cell hb).trans hc0
        have hx : intsT.Rd wr [u] xs[k] := hu.below hbel
        obtain ⟨u', hu', hc0'⟩ := hce' k hkl'
        have d0' : wr.cell? ⟨b', o' + k, none⟩ = some u' := (hbel.cell hb').trans hc0'
        have hx' : intsT.Rd wr [u'] ys[k] := hu'.below hbel
        have k0 := cell_regrown d0
        have k0' := cell_regrown d0'
        have cQ : ∀ d os, Calls Tryz.prog 54 #[u, u'] (grow (redrawn wr d) os) fun e w'' => e = .returned (.bool (eqB xs[k] ys[k])) ∧ ∃ p : Regrown, w'' = grow (redrawn wr p.d) p.os := fun d os =>
          Calls.regrown_of (eqInt64S_any _ (hx.below (below_regrown _ d os)) (hx'.below (below_regrown _ d os)))
        clear hce hce' hcell hcell' hc0 hc0' d0 d0'
        go_wp2_with fail
        refine wp_region_quiet_below (by kernel_rfl) (by kernel_rfl) ?_
        repeat (go_big_quiet_step (exact cQ _ _))
        refine wpQuiet_nil ?_
        rintro w2 ⟨p, rfl⟩
        have hb2 := below_regrown wr p.d p.os
        cases hq : eqB xs[k] ys[k]
        · go_wp2_with fail
          go_ret
          exact ⟨ret_bool (eqB_get hkl hkl' (fun e => by rw [eqB_true e] at hq; cases hq)).symm, bthen hbel hb2⟩
        · go_wp2_with fail
          go_roundw
          case rel => exact ⟨k + 1, by omega, by go_num, take_eq_succ hkl hkl' HT.out (eqB_iff.1 hq), bthen hbel hb2⟩
          case measure => simp [intOf]; omega
      · obtain rfl : k = xs.length := by omega
        go_wp2_with fail
        go_ret
        exact ⟨ret_bool (eqB_true (by have h1 := HT.out; have h2 := HN.out; rw [List.take_length, h2, List.take_length] at h1; exact h1)).symm, hbel⟩
theorem szRel_any (w : World) {cs : Array Value} {x : Int × List (List Int)} (h : relT.Rd w cs.toList x) (left : Int) (h0 : 0 ≤ left) (h1 : left ≤ 1048576) :
    Calls Tryz.prog 111 #[.agg cs, .int .i64 left] w fun e w' => e = .returned (.int .i64 (szR left (szRel x))) ∧ Below w.heap.size w w' := by
  obtain ⟨v, hv, hI, hx⟩ := pair_ex h
  obtain rfl := agg_of hv
  clear h hv
  rcases ilt left (szRows x.2) with hlt | hlt
  · go_enter Tryz.func111, Tryz.ntmps111
    go_wp2_with fail
    refine (szInt64SS_any _ (hx.below bA) _ h0 h1).mono ?_
    rintro e w1 ⟨rfl, hb1⟩
    rw [szR_lt hlt]
    go_wp2_with fail
    go_ret
    exact ⟨ret_int (szR_lt hlt).symm, (by repeat (first | exact Below.refl _ _ | exact bA | assumption | refine Below.setCell ?_ (by first | omega | (simp; try omega)) _ | refine Below.alloc ?_ (by first | omega | (simp; try omega)) _ | refine Below.drew ?_ | refine bDN ?_ | refine bthen ?_ (by assumption)))⟩
  · go_enter Tryz.func111, Tryz.ntmps111
    go_wp2_with fail
    refine (szInt64SS_any _ (hx.below bA) _ h0 h1).mono ?_
    rintro e w1 ⟨rfl, hb1⟩
    rw [szR_ge hlt]
    go_wp2_with fail
    go_ret
    exact ⟨ret_int (szR_ge hlt).symm, (by repeat (first | exact Below.refl _ _ | exact bA | assumption | refine Below.setCell ?_ (by first | omega | (simp; try omega)) _ | refine Below.alloc ?_ (by first | omega | (simp; try omega)) _ | refine Below.drew ?_ | refine bDN ?_ | refine bthen ?_ (by assumption)))⟩
theorem toRel_any (w : World) {cs : Array Value} {x : Int × List (List Int)} (h : relT.Rd w cs.toList x) (hlen : szRel x ≤ 1048576) :
    Calls Tryz.prog 126 #[.agg cs] w (RetA relT w x) := by
  obtain ⟨v, hv, hI, hx⟩ := pair_ex h
  obtain rfl := agg_of hv
  clear h hv
  go_enter Tryz.func126, Tryz.ntmps126
  go_wp2_with fail
  refine (toInt64SS_any _ (hx.below (by repeat (first | exact Below.refl _ _ | exact bA | assumption | refine Below.setCell ?_ (by first | omega | (simp; try omega)) _ | refine Below.alloc ?_ (by first | omega | (simp; try omega)) _ | refine Below.drew ?_ | refine bDN ?_ | refine bthen ?_ (by assumption)))) hlen).mono ?_
  rintro e w1 ⟨u, rfl, hf, hb1⟩
  obtain ⟨ad, cap, rfl⟩ := fr_slice hf
  obtain ⟨q1, q2⟩ := bcell hb1
  have hz1 : w.heap.size + 3 ≤ w1.heap.size := by have := hb1.size; simp at this; omega
  go_wp2_with fail
  refine bodyPost_ret (v := .agg #[.int .i64 x.1, .slice ad x.2.length cap]) (by simp [results, Tryz.results126, go_sem, q1]) rfl ⟨_, rfl, fr_cons hI ?_, ?_⟩
  · exact (((hf.set (by simp)).set (by simp)).set (by simp)) |>.mono (by simp; try omega)
  · repeat (first | exact Below.refl _ _ | exact bA | assumption | refine Below.setCell ?_ (by first | omega | (simp; try omega)) _ | refine Below.alloc ?_ (by first | omega | (simp; try omega)) _ | refine Below.drew ?_ | refine bDN ?_ | refine bthen ?_ (by assumption))
theorem eqRel_any (w : World) {cs cs' : Array Value} {x y : Int × List (List Int)} (h : relT.Rd w cs.toList x) (h' : relT.Rd w cs'.toList y) :
    Calls Tryz.prog 145 #[.agg cs, .agg cs'] w fun e w' => e = .returned (.bool (eqB x y)) ∧ Below w.heap.size w w' := by
  obtain ⟨v, hv, hI, hx⟩ := pair_ex h
  obtain rfl := agg_of hv
  obtain ⟨v', hv', hI', hx'⟩ := pair_ex h'
  obtain rfl := agg_of hv'
  clear h hv h' hv'
  cases hn : (x.1 != y.1)
  rotate_left
  · go_enter Tryz.func145, Tryz.ntmps145
    go_wp2_with fail
    go_ret
    exact ⟨ret_bool (eqB_fst (by simpa using hn)).symm, (by repeat (first | exact Below.refl _ _ | exact bA | assumption | refine Below.setCell ?_ (by first | omega | (simp; try omega)) _ | refine Below.alloc ?_ (by first | omega | (simp; try omega)) _ | refine Below.drew ?_ | refine bDN ?_ | refine bthen ?_ (by assumption)))⟩
  have HN : Hid (x.1 = y.1) := by simpa [Hid] using hn
  cases hq : eqB x.2 y.2
  all_goals
    go_enter Tryz.func145, Tryz.ntmps145
    go_wp2_with fail
    refine (eqInt64SS_any _ (hx.below (by repeat (first | exact Below.refl _ _ | exact bA | assumption | refine Below.setCell ?_ (by first | omega | (simp; try omega)) _ | refine Below.alloc ?_ (by first | omega | (simp; try omega)) _ | refine Below.drew ?_ | refine bDN ?_ | refine bthen ?_ (by assumption)))) (hx'.below (by repeat (first | exact Below.refl _ _ | exact bA | assumption | refine Below.setCell ?_ (by first | omega | (simp; try omega)) _ | refine Below.alloc ?_ (by first | omega | (simp; try omega)) _ | refine Below.drew ?_ | refine bDN ?_ | refine bthen ?_ (by assumption))))).mono ?_
    rintro e w1 ⟨rfl, hb1⟩
    rw [hq]
    go_wp2_with fail
    go_ret
    exact ⟨ret_bool (eqB_snd HN.out hq).symm, (by repeat (first | exact Below.refl _ _ | exact bA | assumption | refine Below.setCell ?_ (by first | omega | (simp; try omega)) _ | refine Below.alloc ?_ (by first | omega | (simp; try omega)) _ | refine Below.drew ?_ | refine bDN ?_ | refine bthen ?_ (by assumption)))⟩
set_option maxHeartbeats 400000 in
theorem szRelS_any (w : World) {v : Value} {xs : List (Int × List (List Int))} (h : relsT.Rd w [v] xs) (left : Int) (h0 : 0 ≤ left) (h1 : left ≤ 1048576) :
    Calls Tryz.prog 39 #[v, .int .i64 left] w fun e w' => e = .returned (.int .i64 (szR left (szRels xs))) ∧ Below w.heap.size w w' := by
  obtain ⟨ad, cap, hv, hl, hc, hcell⟩ := pairs_ex h
  obtain rfl : v = _ := by simpa using hv
  clear h hv
  have hsn := sumL_nonneg szRel_nn xs
  have HS : Hid (szRels xs = xs.length + sumL szRel xs) := rfl
  rcases ilt left xs.length with hlt | hlt
  · go_enter Tryz.func39, Tryz.ntmps39
    go_wp2_with fail
    go_ret
    exact ⟨ret_int (szR_lt (by rw [HS.out]; omega)).symm, Below.refl _ _⟩
  · go_enter Tryz.func39, Tryz.ntmps39
    go_wp2_with fail
    go_loopw [1, 5] (fun l i wr => ∃ k : Nat, k ≤ xs.length ∧ i = .int .i64 k ∧ l = .int .i64 (left - xs.length - sumL szRel (xs.take k)) ∧ sumL szRel (xs.take k) ≤ left - xs.length ∧ Below w.heap.size w wr) (fun _ i _ => xs.length - (intOf i).toNat)
    case atStart => exact ⟨0, Nat.zero_le _, rfl, by simp [sumL], by simp [sumL]; omega, Below.refl _ _⟩
    case round =>
      obtain ⟨k, hk, rfl, rfl, hle, hbel⟩ := hrel
      have hs0 := sumL_nonneg szRel_nn (xs.take k)
      by_cases hkl : k < xs.length
      · obtain ⟨b, o, rfl, hb, hce⟩ := hcell (by omega)
        obtain ⟨u, hu, hI, hc0, hc1⟩ := hce k hkl
        have d0 : wr.cell? ⟨b, o + k * 2, none⟩ = some (.int .i64 xs[k].1) := (hbel.cell hb).trans hc0
        have d1 : wr.cell? ⟨b, o + k * 2 + 1, none⟩ = some u := (hbel.cell hb).trans hc1
        have hx : relT.Rd wr #[.int .i64 xs[k].1, u].toList xs[k] := pair_mk hI (hu.below hbel)
        have hs1 := sumL_succ szRel hkl
        have hs2 := sumL_take_le szRel_nn xs (k + 1)
        go_wp2_with fail
        refine (szRel_any _ hx _ (by omega) (by omega)).mono ?_
        rintro e w1 ⟨rfl, hb1⟩
        rcases ilt (left - xs.length - sumL szRel (xs.take k)) (szRel xs[k]) with hq | hq
        · rw [szR_lt hq]
          go_wp2_with fail
          go_ret
          exact ⟨ret_int (szR_lt (by rw [HS.out]; omega)).symm, bthen hbel hb1⟩
        · rw [szR_ge hq]
          go_wp2_with fail
          go_roundw
          case rel => exact ⟨k + 1, by omega, by go_num, by rw [hs1]; go_num, by rw [hs1]; omega, bthen hbel hb1⟩
          case measure => simp [intOf]; omega
      · obtain rfl : k = xs.length := by omega
        go_wp2_with fail
        go_ret
        exact ⟨ret_int (by rw [HS.out, List.take_length, szR_ge (by rw [List.take_length] at hle; omega)]; omega), hbel⟩
theorem elRelS : ElT Tryz.prog 31 55 2 32 := .mk (z := .agg #[.int .i64 0, .slice none 0 0]) Tryz.underlying31 (by kernel_rfl) rfl (by decide)
set_option maxHeartbeats 400000 in
theorem toRelS_any (w : World) {v : Value} {xs : List (Int × List (List Int))} (h : relsT.Rd w [v] xs) (hlen : szRels xs ≤ 1048576) :
    Calls Tryz.prog 46 #[v] w (RetS relsT w xs) := by
  obtain ⟨ad, cap, hv, hl, hc, hcell⟩ := pairs_ex h
  obtain rfl : v = _ := by simpa using hv
  have hsn := sumL_nonneg szRel_nn xs
  have hsm : xs.length + sumL szRel xs ≤ 1048576 := hlen
  clear h hv hlen
  go_enter Tryz.func46, Tryz.ntmps46
  go_wp2_with (refine wpList_mk (E := relT) _ rfl _ _ 31 55 rfl elRelS w.heap.size xs.length rfl rfl (by omega) (by decide) (by simp) ?_; intro w1 hA hg1 hs1)
  have hb1 := below_of_grown hg1
  go_loopw [4] (fun i wr => ∃ k : Nat, k ≤ xs.length ∧ i = .int .i64 k ∧ Ar relT 55 w.heap.size wr.heap.size wr w.heap.size xs.length xs.length (xs.take k) ∧ Below w.heap.size w wr) (fun i _ => xs.length - (intOf i).toNat)
  case atStart => exact ⟨0, Nat.zero_le _, rfl, by rw [hs1]; exact hA, hb1⟩
  case round =>
    obtain ⟨k, hk, rfl, hAr, hbel⟩ := hrel
    have HA := Lib.hid hAr
    clear hAr hA
    by_cases hkl : k < xs.length
    · obtain ⟨b, o, rfl, hb, hce⟩ := hcell (by omega)
      obtain ⟨u, hu, hI, hc0, hc1⟩ := hce k hkl
      have d0 : wr.cell? ⟨b, o + k * 2, none⟩ = some (.int .i64 xs[k].1) := (hbel.cell hb).trans hc0
      have d1 : wr.cell? ⟨b, o + k * 2 + 1, none⟩ = some u := (hbel.cell hb).trans hc1
      have hx : relT.Rd wr #[.int .i64 xs[k].1, u].toList xs[k] := pair_mk hI (hu.below hbel)
      have hsk := sumL_get_le szRel_nn hkl
      go_wp2_with fail
      refine (toRel_any _ hx (by omega)).mono ?_
      rintro e w2 ⟨cs, rfl, hf, hb2⟩
      obtain ⟨c, c', rfl⟩ := fr_pair hf
      have hA2 := HA.out.below hb2 (Nat.le_refl _)
      obtain ⟨u0, e0⟩ := hA2.cell (j := k * 2) (by simp [Ty.cons, Ty.slice]; omega)
      obtain ⟨u1, e1⟩ := hA2.cell (j := k * 2 + 1) (by simp [Ty.cons, Ty.slice]; omega)
      have f0 := hA2.free (k * 2)
      have f1 := hA2.free (k * 2 + 1)
      have hP := hA2.put2 rfl hf (by rw [take_len hk]; exact hkl) hb2.size
      rw [take_len hk, take_snoc hkl] at hP
      have HP := Lib.hid hP
      clear hP hA2
      go_wp2_with fail
      go_roundw
      case rel => exact ⟨k + 1, by omega, by go_num, by simpa using HP.out, ((bthen hbel hb2).setCell (Nat.le_refl _) _).setCell (Nat.le_refl _) _⟩
      case measure => simp [intOf]; omega
    · obtain rfl : k = xs.length := by omega
      rw [List.take_length] at HA
      go_wp2_with fail
      go_ret
      exact ⟨_, rfl, HA.out.fr (by unfold capMax; omega) rfl, hbel⟩
set_option maxHeartbeats 400000 in
theorem eqRelS_any (w : World) {v u : Value} {xs ys : List (Int × List (List Int))} (h : relsT.Rd w [v] xs) (h' : relsT.Rd w [u] ys) :
    Calls Tryz.prog 55 #[v, u] w fun e w' => e = .returned (.bool (eqB xs ys)) ∧ Below w.heap.size w w' := by
  obtain ⟨ad, cap, hv, hl, hc, hcell⟩ := pairs_ex h
  obtain ⟨ad', cap', hv', hl', hc', hcell'⟩ := pairs_ex h'
  obtain rfl : v = _ := by simpa using hv
  obtain rfl : u = _ := by simpa using hv'
  clear h hv h' hv'
  cases hn : (((xs.length : Nat) : Int) != (ys.length : Nat))
  rotate_left
  · go_enter Tryz.func55, Tryz.ntmps55
    go_wp2_with fail
    go_ret
    exact ⟨ret_bool (eqB_len (by simp at hn; omega)).symm, Below.refl _ _⟩
  · have hn' : xs.length = ys.length := by simp at hn; omega
    have HN := Lib.hid hn'
    clear hn'
    go_enter Tryz.func55, Tryz.ntmps55
    go_wp2_with fail
    go_loopw [5] (fun i wr => ∃ k : Nat, k ≤ xs.length ∧ i = .int .i64 k ∧ xs.take k = ys.take k ∧ Below w.heap.size w wr) (fun i _ => xs.length - (intOf i).toNat)
    case atStart => exact ⟨0, Nat.zero_le _, rfl, rfl, Below.refl _ _⟩
    case round =>
      obtain ⟨k, hk, rfl, ht, hbel⟩ := hrel
      have HT := Lib.hid ht
      clear ht hn
      by_cases hkl : k < xs.length
      · have hkl' : k < ys.length := by have := HN.out; omega
        obtain ⟨b, o, rfl, hb, hce⟩ := hcell (by omega)
        obtain ⟨b', o', rfl, hb', hce'⟩ := hcell' (by omega)
        obtain ⟨u, hu, hI, hc0, hc1⟩ := hce k hkl
        have d0 : wr.cell? ⟨b, o + k * 2, none⟩ = some (.int .i64 xs[k].1) := (hbel.cell hb).trans hc0
        have d1 : wr.cell? ⟨b, o + k * 2 + 1, none⟩ = some u := (hbel.cell hb).trans hc1
        have hx : relT.Rd wr #[.int .i64 xs[k].1, u].toList xs[k] := pair_mk hI (hu.below hbel)
        obtain ⟨u', hu', hI', hc0', hc1'⟩ := hce' k hkl'
        have d0' : wr.cell? ⟨b', o' + k * 2, none⟩ = some (.int .i64 ys[k].1) := (hbel.cell hb').trans hc0'
        have d1' : wr.cell? ⟨b', o' + k * 2 + 1, none⟩ = some u' := (hbel.cell hb').trans hc1'
        have hx' : relT.Rd wr #[.int .i64 ys[k].1, u'].toList ys[k] := pair_mk hI' (hu'.below hbel)
        have k0 := cell_regrown d0
        have k1 := cell_regrown d1
        have k0' := cell_regrown d0'
        have k1' := cell_regrown d1'
        have cQ : ∀ d os, Calls Tryz.prog 145 #[.agg #[.int .i64 xs[k].1, u], .agg #[.int .i64 ys[k].1, u']] (grow (redrawn wr d) os) fun e w'' => e = .returned (.bool (eqB xs[k] ys[k])) ∧ ∃ p : Regrown, w'' = grow (redrawn wr p.d) p.os := fun d os =>
          Calls.regrown_of (eqRel_any _ (hx.below (below_regrown _ d os)) (hx'.below (below_regrown _ d os)))
        clear hce hce' hcell hcell' hc0 hc1 hc0' hc1' d0 d1 d0' d1'
        go_wp2_with fail
        refine wp_region_quiet_below (by kernel_rfl) (by kernel_rfl) ?_
        repeat (go_big_quiet_step (exact cQ _ _))
        refine wpQuiet_nil ?_
        rintro w2 ⟨p, rfl⟩
        have hb2 := below_regrown wr p.d p.os
        cases hq : eqB xs[k] ys[k]
        · go_wp2_with fail
          go_ret
          exact ⟨ret_bool (eqB_get hkl hkl' (fun e => by rw [eqB_true e] at hq; cases hq)).symm, bthen hbel hb2⟩
        · go_wp2_with fail
          go_roundw
          case rel => exact ⟨k + 1, by omega, by go_num, take_eq_succ hkl hkl' HT.out (eqB_iff.1 hq), bthen hbel hb2⟩
          case measure => simp [intOf]; omega
      · obtain rfl : k = xs.length := by omega
        go_wp2_with fail
        go_ret
        exact ⟨ret_bool (eqB_true (by have h1 := HT.out; have h2 := HN.out; rw [List.take_length, h2, List.take_length] at h1; exact h1)).symm, hbel⟩
theorem szTemplate_any (w : World) {cs : Array Value} {x : Int × List (Int × List (List Int))} (h : tplT.Rd w cs.toList x) (left : Int) (h0 : 0 ≤ left) (h1 : left ≤ 1048576) :
    Calls Tryz.prog 6 #[.agg cs, .int .i64 left] w fun e w' => e = .returned (.int .i64 (szR left (szTpl x))) ∧ Below w.heap.size w w' := by
  obtain ⟨v, hv, hI, hx⟩ := pair_ex h
  obtain rfl := agg_of hv
  clear h hv
  rcases ilt left (szRels x.2) with hlt | hlt
  · go_enter Tryz.func6, Tryz.ntmps6
    go_wp2_with fail
    refine (szRelS_any _ (hx.below bA) _ h0 h1).mono ?_
    rintro e w1 ⟨rfl, hb1⟩
    rw [szR_lt hlt]
    go_wp2_with fail
    go_ret
    exact ⟨ret_int (szR_lt hlt).symm, (by repeat (first | exact Below.refl _ _ | exact bA | assumption | refine Below.setCell ?_ (by first | omega | (simp; try omega)) _ | refine Below.alloc ?_ (by first | omega | (simp; try omega)) _ | refine Below.drew ?_ | refine bDN ?_ | refine bthen ?_ (by assumption)))⟩
  · go_enter Tryz.func6, Tryz.ntmps6
    go_wp2_with fail
    refine (szRelS_any _ (hx.below bA) _ h0 h1).mono ?_
    rintro e w1 ⟨rfl, hb1⟩
    rw [szR_ge hlt]
    go_wp2_with fail
    go_ret
    exact ⟨ret_int (szR_ge hlt).symm, (by repeat (first | exact Below.refl _ _ | exact bA | assumption | refine Below.setCell ?_ (by first | omega | (simp; try omega)) _ | refine Below.alloc ?_ (by first | omega | (simp; try omega)) _ | refine Below.drew ?_ | refine bDN ?_ | refine bthen ?_ (by assumption)))⟩
theorem toTemplate_any (w : World) {cs : Array Value} {x : Int × List (Int × List (List Int))} (h : tplT.Rd w cs.toList x) (hlen : szTpl x ≤ 1048576) :
    Calls Tryz.prog 8 #[.agg cs] w (RetA tplT w x) := by
  obtain ⟨v, hv, hI, hx⟩ := pair_ex h
  obtain rfl := agg_of hv
  clear h hv
  go_enter Tryz.func8, Tryz.ntmps8
  go_wp2_with fail
  refine (toRelS_any _ (hx.below (by repeat (first | exact Below.refl _ _ | exact bA | assumption | refine Below.setCell ?_ (by first | omega | (simp; try omega)) _ | refine Below.alloc ?_ (by first | omega | (simp; try omega)) _ | refine Below.drew ?_ | refine bDN ?_ | refine bthen ?_ (by assumption)))) hlen).mono ?_
  rintro e w1 ⟨u, rfl, hf, hb1⟩
  obtain ⟨ad, cap, rfl⟩ := fr_slice hf
  obtain ⟨q1, q2⟩ := bcell hb1
  have hz1 : w.heap.size + 3 ≤ w1.heap.size := by have := hb1.size; simp at this; omega
  go_wp2_with fail
  refine bodyPost_ret (v := .agg #[.int .i64 x.1, .slice ad x.2.length cap]) (by simp [results, Tryz.results8, go_sem, q1]) rfl ⟨_, rfl, fr_cons hI ?_, ?_⟩
  · exact (((hf.set (by simp)).set (by simp)).set (by simp)) |>.mono (by simp; try omega)
  · repeat (first | exact Below.refl _ _ | exact bA | assumption | refine Below.setCell ?_ (by first | omega | (simp; try omega)) _ | refine Below.alloc ?_ (by first | omega | (simp; try omega)) _ | refine Below.drew ?_ | refine bDN ?_ | refine bthen ?_ (by assumption))
theorem eqTemplate_any (w : World) {cs cs' : Array Value} {x y : Int × List (Int × List (List Int))} (h : tplT.Rd w cs.toList x) (h' : tplT.Rd w cs'.toList y) :
    Calls Tryz.prog 11 #[.agg cs, .agg cs'] w fun e w' => e = .returned (.bool (eqB x y)) ∧ Below w.heap.size w w' := by
  obtain ⟨v, hv, hI, hx⟩ := pair_ex h
  obtain rfl := agg_of hv
  obtain ⟨v', hv', hI', hx'⟩ := pair_ex h'
  obtain rfl := agg_of hv'
  clear h hv h' hv'
  cases hn : (x.1 != y.1)
  rotate_left
  · go_enter Tryz.func11, Tryz.ntmps11
    go_wp2_with fail
    go_ret
    exact ⟨ret_bool (eqB_fst (by simpa using hn)).symm, (by repeat (first | exact Below.refl _ _ | exact bA | assumption | refine Below.setCell ?_ (by first | omega | (simp; try omega)) _ | refine Below.alloc ?_ (by first | omega | (simp; try omega)) _ | refine Below.drew ?_ | refine bDN ?_ | refine bthen ?_ (by assumption)))⟩
  have HN : Hid (x.1 = y.1) := by simpa [Hid] using hn
  cases hq : eqB x.2 y.2
  all_goals
    go_enter Tryz.func11, Tryz.ntmps11
    go_wp2_with fail
    refine (eqRelS_any _ (hx.below (by repeat (first | exact Below.refl _ _ | exact bA | assumption | refine Below.setCell ?_ (by first | omega | (simp; try omega)) _ | refine Below.alloc ?_ (by first | omega | (simp; try omega)) _ | refine Below.drew ?_ | refine bDN ?_ | refine bthen ?_ (by assumption)))) (hx'.below (by repeat (first | exact Below.refl _ _ | exact bA | assumption | refine Below.setCell ?_ (by first | omega | (simp; try omega)) _ | refine Below.alloc ?_ (by first | omega | (simp; try omega)) _ | refine Below.drew ?_ | refine bDN ?_ | refine bthen ?_ (by assumption))))).mono ?_
    rintro e w1 ⟨rfl, hb1⟩
    rw [hq]
    go_wp2_with fail
    go_ret
    exact ⟨ret_bool (eqB_snd HN.out hq).symm, (by repeat (first | exact Below.refl _ _ | exact bA | assumption | refine Below.setCell ?_ (by first | omega | (simp; try omega)) _ | refine Below.alloc ?_ (by first | omega | (simp; try omega)) _ | refine Below.drew ?_ | refine bDN ?_ | refine bthen ?_ (by assumption)))⟩
theorem eqOp_any (w : World) {cs cs' : Array Value} {x y : Int × List Int} (h : opT.Rd w cs.toList x) (h' : opT.Rd w cs'.toList y) :
    Calls Tryz.prog 10 #[.agg cs, .agg cs'] w fun e w' => e = .returned (.bool (eqB x y)) ∧ Below w.heap.size w w' := by
  obtain ⟨v, hv, hI, hx⟩ := pair_ex h
  obtain rfl := agg_of hv
  obtain ⟨v', hv', hI', hx'⟩ := pair_ex h'
  obtain rfl := agg_of hv'
  clear h hv h' hv'
  cases hn : (x.1 != y.1)
  rotate_left
  · go_enter Tryz.func10, Tryz.ntmps10
    go_wp2_with fail
    go_ret
    exact ⟨ret_bool (eqB_fst (by simpa using hn)).symm, (by repeat (first | exact Below.refl _ _ | exact bA | assumption | refine Below.setCell ?_ (by first | omega | (simp; try omega)) _ | refine Below.alloc ?_ (by first | omega | (simp; try omega)) _ | refine Below.drew ?_ | refine bDN ?_ | refine bthen ?_ (by assumption)))⟩
  have HN : Hid (x.1 = y.1) := by simpa [Hid] using hn
  cases hq : eqB x.2 y.2
  all_goals
    go_enter Tryz.func10, Tryz.ntmps10
    go_wp2_with fail
    refine (eqInt64S_any _ (hx.below (by repeat (first | exact Below.refl _ _ | exact bA | assumption | refine Below.setCell ?_ (by first | omega | (simp; try omega)) _ | refine Below.alloc ?_ (by first | omega | (simp; try omega)) _ | refine Below.drew ?_ | refine bDN ?_ | refine bthen ?_ (by assumption)))) (hx'.below (by repeat (first | exact Below.refl _ _ | exact bA | assumption | refine Below.setCell ?_ (by first | omega | (simp; try omega)) _ | refine Below.alloc ?_ (by first | omega | (simp; try omega)) _ | refine Below.drew ?_ | refine bDN ?_ | refine bthen ?_ (by assumption))))).mono ?_
    rintro e w1 ⟨rfl, hb1⟩
    rw [hq]
    go_wp2_with fail
    go_ret
    exact ⟨ret_bool (eqB_snd HN.out hq).symm, (by repeat (first | exact Below.refl _ _ | exact bA | assumption | refine Below.setCell ?_ (by first | omega | (simp; try omega)) _ | refine Below.alloc ?_ (by first | omega | (simp; try omega)) _ | refine Below.drew ?_ | refine bDN ?_ | refine bthen ?_ (by assumption)))⟩
theorem elOpS : ElT Tryz.prog 44 28 2 32 := .mk (z := .agg #[.int .i64 0, .slice none 0 0]) Tryz.underlying44 (by kernel_rfl) rfl (by decide)
theorem elAtomS : ElT Tryz.prog 61 126 2 32 := .mk (z := .agg #[.int .i64 0, .slice none 0 0]) Tryz.underlying61 (by kernel_rfl) rfl (by decide)
end Go.Proofs.YthjafhjghjbdmaaGreat
namespace Go.Proofs.YthjafhjghjbdmaaGreat
open Go.RowKit Go.Sort
theorem wrap64_id {n : Int} (h0 : -1000000000000000000 ≤ n) (h1 : n ≤ 1000000000000000000) : wrap64 n = n := by unfold wrap64; omega
theorem pow_nn {s : Int} (h : 0 ≤ s) : ∀ k : Nat, 0 ≤ s ^ k
  | 0 => by rw [Int.pow_zero]; decide
  | k + 1 => by rw [Int.pow_succ]; exact Int.mul_nonneg (pow_nn h k) h
theorem pow_mono {s : Int} (h : 0 ≤ s) (h1 : s ≤ 1000) : ∀ k : Nat, s ^ k ≤ 1000 ^ k
  | 0 => by rw [Int.pow_zero, Int.pow_zero]; exact Int.le_refl _
  | k + 1 => by
    rw [Int.pow_succ, Int.pow_succ]
    exact Int.mul_le_mul (pow_mono h h1 k) h1 h (pow_nn (by decide) k)
theorem pow_le {s : Int} (h : 0 ≤ s) (h1 : s ≤ 1000) {k : Nat} (hk : k ≤ 5) : s ^ k ≤ 1000000000000000 := by
  refine Int.le_trans (pow_mono h h1 k) ?_
  rcases (show k = 0 ∨ k = 1 ∨ k = 2 ∨ k = 3 ∨ k = 4 ∨ k = 5 by omega) with rfl | rfl | rfl | rfl | rfl | rfl <;> decide
theorem pow_mono' {s c : Int} (h : 0 ≤ s) (h1 : s ≤ c) : ∀ k : Nat, s ^ k ≤ c ^ k
  | 0 => by rw [Int.pow_zero, Int.pow_zero]; exact Int.le_refl _
  | k + 1 => by
    rw [Int.pow_succ, Int.pow_succ]
    exact Int.mul_le_mul (pow_mono' h h1 k) h1 h (pow_nn (by omega) k)
theorem bD' {B : Nat} {w : World} : Below B w w.drew := ⟨rfl, rfl, rfl, Nat.le_refl _, fun _ _ => rfl⟩
set_option maxHeartbeats 800000 in
theorem power_any (w : World) (s m : Int) (hs : 0 ≤ s) (hs1 : s ≤ 1000) (hm : m ≤ 5) :
    Calls Tryz.prog 81 #[.int .i64 s, .int .i64 m] w fun e w' => e = .returned (.int .i64 (s ^ m.toNat)) ∧ w = w' := by
  go_enter Tryz.func81, Tryz.ntmps81
  go_wp2_with fail
  go_loop [7, 5] (fun i o => ∃ k : Nat, k ≤ m.toNat ∧ i = .int .i64 k ∧ o = .int .i64 (s ^ k)) (fun i _ => m.toNat - (intOf i).toNat)
  case atStart => exact ⟨0, Nat.zero_le _, rfl, by simp⟩
  case round =>
    obtain ⟨k, hk, rfl, rfl⟩ := hrel
    by_cases hkl : (k : Int) < m
    · have h1 := pow_nn hs (k + 1)
      have h2 := pow_le hs hs1 (k := k + 1) (by omega)
      have HM : Hid (wrap64 (s ^ k * s) = s ^ (k + 1)) := by
        unfold Hid
        rw [← Int.pow_succ]; exact wrap64_id (Int.le_trans (by decide) h1) (Int.le_trans h2 (by decide))
      clear h1 h2
      go_wp2_with fail
      go_round
      case rel => exact ⟨k + 1, by omega, by go_num, by first | exact congrArg _ HM.out | (rw [← HM.out]; go_num)⟩
      case measure => simp [intOf]; omega
    · obtain rfl : k = m.toNat := by omega
      go_wp2_with fail
      go_ret
      exact ⟨rfl, rfl⟩
set_option maxHeartbeats 800000 in
theorem l01Power_any (w : World) (s m : Int) (hs : 0 ≤ s) (hs1 : s ≤ 1000) (hm : m ≤ 5) :
    Calls Tryz.prog 114 #[.int .i64 s, .int .i64 m] w fun e w' => e = .returned (.int .i64 (s ^ m.toNat)) ∧ w = w' := by
  by_cases hm0 : m ≤ 0
  · obtain h0 : m.toNat = 0 := by omega
    have HZ : Hid (s ^ m.toNat = 1) := by unfold Hid; rw [h0, Int.pow_zero]
    clear h0
    go_enter Tryz.func114, Tryz.ntmps114
    go_wp2_with fail
    go_loop [1, 5] (fun i o => i = .int .i64 m ∧ o = .int .i64 1) (fun i _ => (intOf i).toNat)
    case atStart => exact ⟨rfl, rfl⟩
    case round =>
      obtain ⟨rfl, rfl⟩ := hrel
      go_wp2_with fail
      go_ret
      exact ⟨ret_int HZ.out.symm, rfl⟩
  go_enter Tryz.func114, Tryz.ntmps114
  go_wp2_with fail
  go_loop [1, 5] (fun i o => ∃ k : Nat, k ≤ m.toNat ∧ i = .int .i64 (m - k) ∧ o = .int .i64 (s ^ k)) (fun i _ => (intOf i).toNat)
  case atStart => exact ⟨0, Nat.zero_le _, by simp, by simp⟩
  case round =>
    obtain ⟨k, hk, rfl, rfl⟩ := hrel
    by_cases hkl : (k : Int) < m
    · have h1 := pow_nn hs (k + 1)
      have h2 := pow_le hs hs1 (k := k + 1) (by omega)
      have HM : Hid (wrap64 (s ^ k * s) = s ^ (k + 1)) := by
        unfold Hid
        rw [← Int.pow_succ]; exact wrap64_id (Int.le_trans (by decide) h1) (Int.le_trans h2 (by decide))
      clear h1 h2
      go_wp2_with fail
      go_round
      case rel => exact ⟨k + 1, by omega, by go_num, by first | exact congrArg _ HM.out | (rw [← HM.out]; go_num)⟩
      case measure => simp [intOf]; omega
    · have hkm : (k : Int) = m := by omega
      have HK : Hid (s ^ k = s ^ m.toNat) := by unfold Hid; rw [show k = m.toNat by omega]
      go_wp2_with fail
      go_ret
      exact ⟨ret_int HK.out, rfl⟩
/-- a list's index in the order of lists -/
def idxL (s : Int) : Int → List Int → Int
  | acc, [] => acc
  | acc, a :: r => idxL s (acc * s + a) r
theorem idxL_append (s acc : Int) : ∀ (xs ys : List Int), idxL s acc (xs ++ ys) = idxL s (idxL s acc xs) ys := by
  intro xs
  induction xs generalizing acc with
  | nil => intro ys; rfl
  | cons a r ih => intro ys; exact ih _ ys
theorem idxL_take {s : Int} {xs : List Int} {k : Nat} (h : k < xs.length) : idxL s 0 (xs.take (k + 1)) = idxL s 0 (xs.take k) * s + xs[k] := by
  rw [List.take_succ_eq_append_getElem h, idxL_append]
  rfl
theorem idx_bd {s : Int} (hs : 1 ≤ s) {xs : List Int} (h : ∀ a ∈ xs, 0 ≤ a ∧ a ≤ s - 1) : ∀ k, k ≤ xs.length → 0 ≤ idxL s 0 (xs.take k) ∧ idxL s 0 (xs.take k) ≤ s ^ k - 1
  | 0, _ => by simp [idxL]
  | k + 1, hk => by
    have ih := idx_bd hs h k (by omega)
    have ha := h xs[k] (List.getElem_mem hk)
    have h1 := Int.mul_le_mul_of_nonneg_right ih.2 (show (0 : Int) ≤ s by omega)
    have h2 : (s ^ k - 1) * s = s ^ (k + 1) - s := by rw [Int.sub_mul, Int.pow_succ, Int.one_mul]
    have h3 := Int.mul_nonneg ih.1 (show (0 : Int) ≤ s by omega)
    rw [idxL_take hk]
    rw [h2] at h1
    generalize s ^ (k + 1) = P at *
    generalize idxL s 0 (xs.take k) * s = Q at *
    constructor <;> omega
set_option maxHeartbeats 800000 in
theorem indexOf_any (w : World) (s : Int) {v : Value} {xs : List Int} (h : intsT.Rd w [v] xs) (hs : 1 ≤ s) (hs1 : s ≤ 1000) (hl5 : xs.length ≤ 5) (hin : ∀ a ∈ xs, 0 ≤ a ∧ a ≤ s - 1) :
    Calls Tryz.prog 86 #[.int .i64 s, v] w fun e w' => e = .returned (.int .i64 (idxL s 0 xs)) ∧ w = w' := by
  obtain ⟨ad, cap, hv, hl, hc, hcell⟩ := ints_ex h
  obtain rfl : v = _ := by simpa using hv
  have HIN := Lib.hid hin
  clear h hv hin
  go_enter Tryz.func86, Tryz.ntmps86
  go_wp2_with fail
  go_loop [10, 5] (fun i o => ∃ k : Nat, k ≤ xs.length ∧ i = .int .i64 k ∧ o = .int .i64 (idxL s 0 (xs.take k))) (fun i _ => xs.length - (intOf i).toNat)
  case atStart => exact ⟨0, Nat.zero_le _, rfl, by simp [idxL]⟩
  case round =>
    obtain ⟨k, hk, rfl, rfl⟩ := hrel
    by_cases hkl : k < xs.length
    · obtain ⟨b, o, rfl, hb, hce⟩ := hcell (by omega)
      have e0 := (hce k hkl).2
      have b0 := idx_bd hs HIN.out k hk
      have b1 := idx_bd hs HIN.out (k + 1) hkl
      have p0 := pow_le (s := s) (by omega) hs1 (k := k + 1) (by omega)
      have ha := HIN.out xs[k] (List.getElem_mem hkl)
      have hr := idxL_take (s := s) hkl
      have HM : Hid (wrap64 (wrap64 (idxL s 0 (xs.take k) * s) + xs[k]) = idxL s 0 (xs.take (k + 1))) := by
        unfold Hid
        have hq := Int.mul_nonneg b0.1 (show (0 : Int) ≤ s by omega)
        rw [hr] at b1 ⊢
        generalize s ^ (k + 1) = P at *
        generalize idxL s 0 (xs.take k) * s = Q at *
        rw [wrap64_id (n := Q) (by omega) (by omega), wrap64_id (by omega) (by omega)]
      clear hcell hce b0 b1 p0 ha hr
      go_wp2_with fail
      go_round
      case rel => exact ⟨k + 1, by omega, by go_num, by first | exact congrArg _ HM.out | (rw [← HM.out]; go_num)⟩
      case measure => simp [intOf]; omega
    · obtain rfl : k = xs.length := by omega
      clear hcell
      rw [List.take_length]
      go_wp2_with fail
      go_ret
      exact ⟨rfl, rfl⟩
set_option maxHeartbeats 800000 in
theorem l01Code_any (w : World) (s : Int) {v : Value} {xs : List Int} (h : intsT.Rd w [v] xs) (hs : 1 ≤ s) (hs1 : s ≤ 1000) (hl5 : xs.length ≤ 5) (hin : ∀ a ∈ xs, 0 ≤ a ∧ a ≤ s - 1) :
    Calls Tryz.prog 93 #[.int .i64 s, v] w fun e w' => e = .returned (.int .i64 (idxL s 0 xs)) ∧ w = w' := by
  obtain ⟨ad, cap, hv, hl, hc, hcell⟩ := ints_ex h
  obtain rfl : v = _ := by simpa using hv
  have HIN := Lib.hid hin
  clear h hv hin
  go_enter Tryz.func93, Tryz.ntmps93
  go_wp2_with fail
  go_loop [6, 5] (fun i o => ∃ k : Nat, k ≤ xs.length ∧ i = .int .i64 k ∧ o = .int .i64 (idxL s 0 (xs.take k))) (fun i _ => xs.length - (intOf i).toNat)
  case atStart => exact ⟨0, Nat.zero_le _, rfl, by simp [idxL]⟩
  case round =>
    obtain ⟨k, hk, rfl, rfl⟩ := hrel
    by_cases hkl : k < xs.length
    · obtain ⟨b, o, rfl, hb, hce⟩ := hcell (by omega)
      have e0 := (hce k hkl).2
      have b0 := idx_bd hs HIN.out k hk
      have b1 := idx_bd hs HIN.out (k + 1) hkl
      have p0 := pow_le (s := s) (by omega) hs1 (k := k + 1) (by omega)
      have ha := HIN.out xs[k] (List.getElem_mem hkl)
      have hr := idxL_take (s := s) hkl
      have HM : Hid (wrap64 (wrap64 (idxL s 0 (xs.take k) * s) + xs[k]) = idxL s 0 (xs.take (k + 1))) := by
        unfold Hid
        have hq := Int.mul_nonneg b0.1 (show (0 : Int) ≤ s by omega)
        rw [hr] at b1 ⊢
        generalize s ^ (k + 1) = P at *
        generalize idxL s 0 (xs.take k) * s = Q at *
        rw [wrap64_id (n := Q) (by omega) (by omega), wrap64_id (by omega) (by omega)]
      clear hcell hce b0 b1 p0 ha hr
      go_wp2_with fail
      go_round
      case rel => exact ⟨k + 1, by omega, by go_num, by first | exact congrArg _ HM.out | (rw [← HM.out]; go_num)⟩
      case measure => simp [intOf]; omega
    · obtain rfl : k = xs.length := by omega
      clear hcell
      rw [List.take_length]
      go_wp2_with fail
      go_ret
      exact ⟨rfl, rfl⟩
end Go.Proofs.YthjafhjghjbdmaaGreat
namespace Go.Proofs.YthjafhjghjbdmaaGreat
open Go.RowKit Go.Sort
/-- a row of numbers of the call's own, made and then written at places -/
def IR (e base : Nat) (w : World) (g n cap : Nat) (L : List Int) : Prop := L.length = n ∧ (∀ a ∈ L, I64 a) ∧ base ≤ g ∧ w.ownsRow base e 1 (.slice (some ⟨g, 0, none⟩) n cap) n (L.map (Value.int .i64))
section
variable {e base g n cap : Nat} {w w' : World} {L : List Int}
theorem IR.cell (h : IR e base w g n cap L) {j : Nat} (hj : j < n) : ∃ u, w.cell? ⟨g, j, none⟩ = some u := by
  rw [World.ownsRow.cellAt h.2.2.2 j (by omega)]
  exact ⟨_, List.getElem?_eq_getElem (by rw [List.length_map, h.1]; exact hj)⟩
theorem IR.free (h : IR e base w g n cap L) (j : Nat) : w.frozen? ⟨g, j, none⟩ = false := World.ownsRow.frozenAt h.2.2.2 j
theorem IR.lt (h : IR e base w g n cap L) : g < w.heap.size := (h.2.2.2.lt g rfl).2
theorem IR.set (h : IR e base w g n cap L) (j : Nat) {a : Int} (ha : I64 a) : IR e base (w.setCell ⟨g, j, none⟩ (.int .i64 a)) g n cap (L.set j a) := by
  refine ⟨by rw [List.length_set]; exact h.1, fun b hb => ?_, h.2.2.1, ?_⟩
  · rcases List.mem_or_eq_of_mem_set hb with hb | rfl
    · exact h.2.1 b hb
    · exact ha
  · rw [List.map_set]
    exact (h.2.2.2.stored j _).1
theorem IR.fr (h : IR e base w g n cap L) (hl : n ≤ capMax) : intsT.Fr base w [.slice (some ⟨g, 0, none⟩) n cap] L := by
  obtain ⟨h1, h2, h3, h4⟩ := h
  subst h1
  have hlt := (h4.lt g rfl).2
  have hfl : flat (fun _ => []) L.length = [] := List.eq_nil_iff_forall_not_mem.2 fun x hx => by obtain ⟨_, _, h⟩ := List.mem_flatMap.1 hx; cases h
  refine Bl.fr (E := Ty.int) (e := e) (top := w.heap.size) ⟨L.map (Value.int .i64), fun _ => [], h4, fun i hi => ⟨[.int .i64 L[i]], ⟨rfl, h2 _ (List.getElem_mem hi), rfl⟩, fun j hj => ?_⟩, by rw [hfl]; exact List.nodup_nil, by rw [hfl]; simp, fun g' hg' => ?_, by rw [hfl]; intro b hb; cases hb⟩ hl
  · obtain rfl : j = 0 := by simpa using hj
    simp [Ty.int, hi]
  · simp [Value.ownBlock] at hg'
    omega
end
theorem wpList_mkI {P : Program} (w : World) {ops : Array Oper} {rest : List Oper} {o : Oper} {a : Act} {Q : Exit → Act → World → Prop} (hg : o.guard = none) (l c : Operand) (t e : TypeId) {bytes : Nat}
    (hop : o.op = Op.makeSlice t l c) (ht : P.underlying t = some (.slice e)) (hinfo : (P.info? e).map (fun i => (i.zero, i.size, i.bytes)) = some (some (.int .i64 0), 1, bytes)) (base : Nat) (n : Nat) (hl : a.eval l = .int .i64 (n : Int)) (hc : a.eval c = .int .i64 (n : Int)) (hn : n ≤ 1000000000) (hby : bytes ≤ 100000) (hb : base ≤ w.heap.size)
    (hK : ∀ w', IR e base w' w.heap.size n n (List.replicate n 0) → w.grownBy w' none → w'.heap.size = w.heap.size + 1 → wpList P ops Q rest (a.put o.dst (.slice (some ⟨w.heap.size, 0, none⟩) n n)) w') :
    wpList P ops Q (o :: rest) a w := by
  obtain ⟨i, hi, hz, hsz, hbt'⟩ := info_parts hinfo
  have hlen' : bytes * n ≤ 281474976710656 := Nat.le_trans (Nat.mul_le_mul hby hn) (by decide)
  refine wpList_plain hg fun K hK' => ?_
  have hb48 : (i.bytes : Int) * (n : Int) ≤ 281474976710656 := by
    have h : ((bytes * n : Nat) : Int) ≤ 281474976710656 := by omega
    rw [hbt']
    rwa [Int.natCast_mul] at h
  have hr := run_make (P := P) w t e i (.int .i64 0) ht hi hz .i64 .i64 (n : Int) (n : Int) (by omega) (Int.le_refl _) hb48 (by omega)
  simp only [Int.toNat_natCast] at hr
  unfold Oper.wp
  simp only [execOp, hop, hl, hc, hr, Result.andThen_ok, Sem.run_bind, Sem.run_pure]
  have hown := World.ownsRow_lit (base := base) (e := e) (size := 1) w (madeCells (Value.int .i64 0).cells (n * i.size)) n hb (by unfold maxLen; omega) (by rw [size_madeCells, hsz])
  refine hK' _ _ (hK _ ⟨by simp, fun a ha => ?_, hb, ?_⟩ (World.grownBy_alloc w _ none) (by simp))
  · rw [List.eq_of_mem_replicate ha]; exact I64.small (by omega) (by omega)
  · have e1 : (madeCells (Value.int .i64 0).cells (n * i.size)).toList = (List.replicate n (0 : Int)).map (Value.int .i64) := by
      rw [hsz, Nat.mul_one, List.map_replicate]
      have hc0 : (Value.int .i64 0).cells = #[.int .i64 0] := by simp [Value.cells]
      rw [hc0]
      exact toList_madeCells_one (.int .i64 0) n
    rw [← e1]
    exact hown
def dig (s idx : Int) (j : Nat) : Int := (idx / s ^ j) % s
def digL (s idx : Int) (n : Nat) : List Int := (List.range n).map fun i => dig s idx (n - 1 - i)
theorem digL_len {s idx : Int} {n : Nat} : (digL s idx n).length = n := by simp [digL]
theorem dig_nn {s idx : Int} (hs : 1 ≤ s) (j : Nat) : 0 ≤ dig s idx j ∧ dig s idx j < s := ⟨Int.emod_nonneg _ (by omega), Int.emod_lt_of_pos _ (by omega)⟩
theorem quo_nn {s idx : Int} (hs : 1 ≤ s) (h : 0 ≤ idx) (j : Nat) : 0 ≤ idx / s ^ j ∧ idx / s ^ j ≤ idx := by
  have h1 : 0 ≤ s ^ j := pow_nn (by omega) j
  exact ⟨Int.ediv_nonneg h h1, Int.ediv_le_self _ h⟩
theorem quo_succ {s idx : Int} (hs : 1 ≤ s) (j : Nat) : idx / s ^ j / s = idx / s ^ (j + 1) := by
  rw [Int.pow_succ, Int.ediv_ediv_of_nonneg (pow_nn (by omega) j)]
theorem infoInt : (Tryz.prog.info? 2).map (fun i => (i.zero, i.size, i.bytes)) = some (some (.int .i64 0), 1, 8) := by kernel_rfl
set_option maxHeartbeats 800000 in
set_option maxRecDepth 100000 in
theorem listOf_any (w : World) (s idx : Int) (n : Nat) (hs : 1 ≤ s) (hs1 : s ≤ 1000) (hn : n ≤ 5) (h0 : 0 ≤ idx) (h1 : idx ≤ 1000000000000000) :
    Calls Tryz.prog 82 #[.int .i64 s, .int .i64 n, .int .i64 idx] w (RetS intsT w (digL s idx n)) := by
  go_enter Tryz.func82, Tryz.ntmps82
  go_wp2_with (refine wpList_mkI _ rfl _ _ 26 2 rfl Tryz.underlying26 infoInt w.heap.size n rfl rfl (by omega) (by decide) (by simp) ?_; intro w1 hA hg1 hs1)
  have hb1 := below_of_grown hg1
  go_loopw [8, 2] (fun i q wr => ∃ (k : Nat) (L : List Int), k ≤ n ∧ i = .int .i64 ((n : Int) - 1 - k) ∧ q = .int .i64 (idx / s ^ k) ∧ IR 2 w.heap.size wr w.heap.size n n L ∧ (∀ (j : Nat) (h : j < L.length), n - k ≤ j → L[j] = dig s idx (n - 1 - j)) ∧ Below w.heap.size w wr) (fun i _ _ => ((intOf i) + 1).toNat)
  case atStart => exact ⟨0, _, Nat.zero_le _, by simp, by simp, hA, fun j h hj => by simp at h; omega, hb1⟩
  case round =>
    obtain ⟨k, L, hk, rfl, rfl, hIR, hL, hbel⟩ := hrel
    have hLl := hIR.1
    by_cases hkl : k < n
    · obtain ⟨j, hj⟩ : ∃ j : Nat, (n : Int) - 1 - k = j := ⟨n - 1 - k, by omega⟩
      have hjn : j < n := by omega
      have hjk : n - 1 - j = k := by omega
      obtain ⟨u0, d0⟩ := hIR.cell hjn
      have d1 := hIR.free j
      have hg := hIR.lt
      have hd := dig_nn (idx := idx) hs k
      have hq := quo_nn hs h0 k
      have hIs := hIR.set j (I64.small (n := dig s idx k) (by omega) (by omega))
      have HQ := Lib.hid (quo_succ (idx := idx) hs k)
      have HDG : Hid ((idx / s ^ k) % s = dig s idx k) := rfl
      have HIS := Lib.hid hIs
      have HLL := Lib.hid hL
      have HIR := Lib.hid hIR
      clear hIs hL hIR hA
      rw [hj]
      go_wp2_with fail
      refine ⟨⟨k + 1, L.set j (dig s idx k), by omega, congrArg _ (by omega), by rw [HQ.out], HIS.out, fun j' h hj' => ?_, hbel.setCell (Nat.le_refl _) _⟩, by simp [intOf]⟩
      by_cases e : j = j'
      · subst e
        rw [List.getElem_set_self, hjk]
      · rw [List.getElem_set_ne e]
        exact HLL.out j' (by simpa using h) (by omega)
    · obtain rfl : k = n := by omega
      have hfr := Lib.hid (hIR.fr (by unfold capMax; omega))
      have HE : Hid (L = digL s idx k) := List.ext_getElem (by rw [hLl, digL_len]) fun j h h' => by rw [hL j h (by omega)]; simp [digL]
      clear hIR hL hA
      go_wp2_with fail
      go_ret
      exact ⟨_, rfl, by rw [← HE.out]; exact hfr.out, hbel⟩
set_option maxHeartbeats 800000 in
set_option maxRecDepth 100000 in
theorem l01Digits_any (w : World) (s idx : Int) (n : Nat) (hs : 1 ≤ s) (hs1 : s ≤ 1000) (hn : n ≤ 5) (h0 : 0 ≤ idx) (h1 : idx ≤ 1000000000000000) :
    Calls Tryz.prog 159 #[.int .i64 s, .int .i64 n, .int .i64 idx] w (RetS intsT w (digL s idx n)) := by
  go_enter Tryz.func159, Tryz.ntmps159
  go_wp2_with (refine wpList_mkI _ rfl _ _ 26 2 rfl Tryz.underlying26 infoInt w.heap.size n rfl rfl (by omega) (by decide) (by simp) ?_; intro w1 hA hg1 hs1)
  have hb1 := below_of_grown hg1
  go_loopw [8, 2] (fun i q wr => ∃ (k : Nat) (L : List Int), k ≤ n ∧ i = .int .i64 ((n : Int) - 1 - k) ∧ q = .int .i64 (idx / s ^ k) ∧ IR 2 w.heap.size wr w.heap.size n n L ∧ (∀ (j : Nat) (h : j < L.length), n - k ≤ j → L[j] = dig s idx (n - 1 - j)) ∧ Below w.heap.size w wr) (fun i _ _ => ((intOf i) + 1).toNat)
  case atStart => exact ⟨0, _, Nat.zero_le _, by simp, by simp, hA, fun j h hj => by simp at h; omega, hb1⟩
  case round =>
    obtain ⟨k, L, hk, rfl, rfl, hIR, hL, hbel⟩ := hrel
    have hLl := hIR.1
    by_cases hkl : k < n
    · obtain ⟨j, hj⟩ : ∃ j : Nat, (n : Int) - 1 - k = j := ⟨n - 1 - k, by omega⟩
      have hjn : j < n := by omega
      have hjk : n - 1 - j = k := by omega
      obtain ⟨u0, d0⟩ := hIR.cell hjn
      have d1 := hIR.free j
      have hg := hIR.lt
      have hd := dig_nn (idx := idx) hs k
      have hq := quo_nn hs h0 k
      have hIs := hIR.set j (I64.small (n := dig s idx k) (by omega) (by omega))
      have HQ := Lib.hid (quo_succ (idx := idx) hs k)
      have HDG : Hid ((idx / s ^ k) % s = dig s idx k) := rfl
      have HIS := Lib.hid hIs
      have HLL := Lib.hid hL
      have HIR := Lib.hid hIR
      clear hIs hL hIR hA
      rw [hj]
      go_wp2_with fail
      refine ⟨⟨k + 1, L.set j (dig s idx k), by omega, congrArg _ (by omega), by rw [HQ.out], HIS.out, fun j' h hj' => ?_, hbel.setCell (Nat.le_refl _) _⟩, by simp [intOf]⟩
      by_cases e : j = j'
      · subst e
        rw [List.getElem_set_self, hjk]
      · rw [List.getElem_set_ne e]
        exact HLL.out j' (by simpa using h) (by omega)
    · obtain rfl : k = n := by omega
      have hfr := Lib.hid (hIR.fr (by unfold capMax; omega))
      have HE : Hid (L = digL s idx k) := List.ext_getElem (by rw [hLl, digL_len]) fun j h h' => by rw [hL j h (by omega)]; simp [digL]
      clear hIR hL hA
      go_wp2_with fail
      go_ret
      exact ⟨_, rfl, by rw [← HE.out]; exact hfr.out, hbel⟩
end Go.Proofs.YthjafhjghjbdmaaGreat
namespace Go.Proofs.YthjafhjghjbdmaaGreat
open Go.RowKit Go.Sort
set_option maxHeartbeats 400000 in
theorem l01Before_quiet (w : World) {v u : Value} {xs ys : List Int} (h : intsT.Rd w [v] xs) (h' : intsT.Rd w [u] ys) (hn : xs.length ≤ ys.length) (hs : xs.length = ys.length) :
    Calls Tryz.prog 216 #[v, u] w fun e w' => e = .returned (.bool (tb (ltL xs ys))) ∧ Quiet w w' := by
  obtain ⟨ad, cap, hv, hl, hc, hcell⟩ := ints_ex h
  obtain ⟨ad', cap', hv', hl', hc', hcell'⟩ := ints_ex h'
  obtain rfl : v = _ := by simpa using hv
  obtain rfl : u = _ := by simpa using hv'
  have HS := Lib.hid hs
  clear h hv h' hv' hs
  go_enter Tryz.func216, Tryz.ntmps216
  go_wp2_with fail
  go_loopw [5] (fun i wr => ∃ k : Nat, k ≤ xs.length ∧ i = .int .i64 k ∧ xs.take k = ys.take k ∧ Quiet w wr) (fun i _ => xs.length - (intOf i).toNat)
  case atStart => exact ⟨0, Nat.zero_le _, rfl, rfl, Quiet.refl _⟩
  case round =>
    obtain ⟨k, hk, rfl, ht, nq, rfl⟩ := hrel
    have HT := Lib.hid ht
    clear ht
    by_cases hkl : k < xs.length
    · have hkl' : k < ys.length := by omega
      obtain ⟨b, o, rfl, hb, hce⟩ := hcell (by omega)
      obtain ⟨b', o', rfl, hb', hce'⟩ := hcell' (by omega)
      have d0 := (hce k hkl).2
      have d1 := (hce' k hkl').2
      clear hce hce' hcell hcell'
      cases hq : (xs[k] != ys[k])
      · go_wp2_with fail
        go_quiet (fail)
        go_wp2_with fail
        go_roundw
        case rel => exact ⟨k + 1, by omega, by go_num, take_eq_succ hkl hkl' HT.out (by simpa using hq), (by first | exact Quiet.refl _ | exact Quiet.drewN _ _ | exact (Quiet.drewN _ _).then (Quiet.drewN _ _) | exact ((Quiet.drewN _ _).then (Quiet.drewN _ _)).then (Quiet.drewN _ _))⟩
        case measure => simp [intOf]; omega
      · have hc := cmpL_ne HT.out hkl hkl' (by simpa using hq)
        have hr : decide (xs[k] < ys[k]) = tb (ltL xs ys) := by
          rw [Bool.eq_iff_iff, tb_iff, ltL, hc, decide_eq_true_iff]
          rcases ilt xs[k] ys[k] with h | h
          · rw [cmpI_lt h]; simp [h]
          · have hne : xs[k] ≠ ys[k] := by simpa using hq
            rw [cmpI_gt (by omega)]; simp; omega
        have HR := Lib.hid hr
        clear hr hc
        go_wp2_with fail
        go_quiet (fail)
        go_wp2_with fail
        go_quiet (fail)
        go_wp2_with fail
        go_ret
        exact ⟨ret_bool HR.out, (by first | exact Quiet.refl _ | exact Quiet.drewN _ _ | exact (Quiet.drewN _ _).then (Quiet.drewN _ _) | exact ((Quiet.drewN _ _).then (Quiet.drewN _ _)).then (Quiet.drewN _ _))⟩
    · obtain rfl : k = xs.length := by omega
      go_wp2_with fail
      go_ret
      have e : xs = ys := by have := HT.out; rwa [List.take_length, HS.out, List.take_length] at this
      exact ⟨ret_bool (tb_false (by rw [e, ltL, cmpL_self]; omega)).symm, (by first | exact Quiet.refl _ | exact Quiet.drewN _ _ | exact (Quiet.drewN _ _).then (Quiet.drewN _ _) | exact ((Quiet.drewN _ _).then (Quiet.drewN _ _)).then (Quiet.drewN _ _))⟩
set_option maxHeartbeats 1600000 in
theorem l01Ok_quiet (w : World) {v : Value} {r : Int × List (List Int)} (h : relT.Pt w v r) (size : Int) :
    Calls Tryz.prog 186 #[.int .i64 size, v] w fun e w' => e = .returned (.bool (tb (relOk size r))) ∧ Quiet w w' := by
  obtain ⟨b, o, ad, cap, rfl, hb, hI, c0, c1, hx⟩ := pt_pair h
  clear h
  cases hs : inB size 1 4
  · go_enter Tryz.func186, Tryz.ntmps186
    go_wp2_with (go_at_call 187; refine (l01Size_any _ _).mono ?_; rintro e w' ⟨rfl, rfl⟩)
    go_ret
    exact ⟨ret_bool (tb_false (fun hr => by have := inB_true.2 hr.1; rw [hs] at this; cases this)).symm, Quiet.refl _⟩
  cases ha : inB r.1 1 4
  · go_enter Tryz.func186, Tryz.ntmps186
    go_wp2_with (first | (go_at_call 187; refine (l01Size_any _ _).mono ?_; rintro e w' ⟨rfl, rfl⟩) | (go_at_call 157; refine (l01Arity_any _ _).mono ?_; rintro e w' ⟨rfl, rfl⟩))
    go_ret
    exact ⟨ret_bool (tb_false (fun hr => by have := inB_true.2 hr.2.1; rw [ha] at this; cases this)).symm, Quiet.refl _⟩
  have hs' := inB_true.1 hs
  have ha' := inB_true.1 ha
  obtain ⟨_, _, e1, hle, hle2, hcell⟩ := slices_ex hx
  simp only [List.cons.injEq, Value.slice.injEq, and_true, true_and] at e1
  obtain ⟨rfl, rfl⟩ := e1
  go_enter Tryz.func186, Tryz.ntmps186
  go_wp2_with (first | (go_at_call 187; refine (l01Size_any _ _).mono ?_; rintro e w' ⟨rfl, rfl⟩) | (go_at_call 157; refine (l01Arity_any _ _).mono ?_; rintro e w' ⟨rfl, rfl⟩))
  go_loopw [5] (fun i wr => ∃ k : Nat, k ≤ r.2.length ∧ i = .int .i64 k ∧ relUp size r k ∧ Quiet w wr) (fun i _ => r.2.length - (intOf i).toNat)
  case atStart => exact ⟨0, Nat.zero_le _, rfl, relUp_zero _ _, Quiet.refl _⟩
  case round =>
    obtain ⟨k, hk, rfl, ht, hqw⟩ := hrel
    have HT := Lib.hid ht
    have d0 := (hqw.below.cell hb).trans c0
    have d1 := (hqw.below.cell hb).trans c1
    clear ht c0 c1
    by_cases hkl : k < r.2.length
    · obtain ⟨a, q, rfl, haa, hce⟩ := hcell (by omega)
      obtain ⟨u, hu, f0⟩ := hce k hkl
      have g0 := (hqw.below.cell haa).trans f0
      have hu' := hu.below hqw.below
      have cT : ∀ n, Calls Tryz.prog 158 #[.int .i64 size, .int .i64 r.1, u] (wr.drewN n) fun e w'' => e = .returned (.bool (tb (rowOk size r.1 r.2[k]))) ∧ ∃ m, w'' = wr.drewN m := fun n =>
        quiet_call ((l01Tuple_any _ _ _ (hu'.below (Quiet.drewN wr n).below) (by omega) (by omega)).mono fun _ _ ⟨p, q⟩ => ⟨p, q ▸ Quiet.refl _⟩)
      cases hr : tb (rowOk size r.1 r.2[k])
      · rw [hr] at cT
        clear hcell hce
        go_wp2_with fail
        go_quiet (exact cT _)
        go_wp2_with fail
        go_ret
        exact ⟨ret_bool (tb_false (fun hh => by have := tb_true (hh.2.2 k hkl).1; rw [hr] at this; cases this)).symm, hqw.then (by first | exact Quiet.refl _ | exact Quiet.drewN _ _ | exact (Quiet.drewN _ _).then (Quiet.drewN _ _) | exact ((Quiet.drewN _ _).then (Quiet.drewN _ _)).then (Quiet.drewN _ _))⟩
      have hrow := tb_iff.1 hr
      have HROW := Lib.hid hrow
      rw [hr] at cT
      clear hrow
      by_cases h0 : k = 0
      · have H0 := Lib.hid h0
        have hg : decide (0 < k) = false := by rw [h0]; rfl
        clear hcell hce h0
        go_wp2_with fail
        go_quiet (exact cT _)
        go_wp2_with fail
        go_roundw
        case rel => exact ⟨k + 1, by omega, by go_num, relUp_succ hkl HT.out HROW.out (fun h => by have := H0.out; omega), hqw.then (by first | exact Quiet.refl _ | exact Quiet.drewN _ _ | exact (Quiet.drewN _ _).then (Quiet.drewN _ _) | exact ((Quiet.drewN _ _).then (Quiet.drewN _ _)).then (Quiet.drewN _ _))⟩
        case measure => simp [intOf]; omega
      · have h1 : k - 1 < r.2.length := by omega
        obtain ⟨u1, hu1, f1⟩ := hce (k - 1) h1
        have g1 := (hqw.below.cell haa).trans f1
        have hu1' := hu1.below hqw.below
        have hg : decide (0 < k) = true := by simp; omega
        have hl1 : r.2[k - 1].length = r.2[k].length := by
          have p1 := (HT.out (k - 1) h1 (by omega)).1.1
          have p2 := HROW.out.1
          omega
        have cB : ∀ n, Calls Tryz.prog 216 #[u1, u] (wr.drewN n) fun e w'' => e = .returned (.bool (tb (ltL r.2[k - 1] r.2[k]))) ∧ ∃ m, w'' = wr.drewN m := fun n =>
          quiet_call (l01Before_quiet _ (hu1'.below (Quiet.drewN wr n).below) (hu'.below (Quiet.drewN wr n).below) (by omega) hl1)
        have HL := Lib.hid hl1
        clear hcell hce hl1
        go_wp2_with fail
        cases hlt : tb (ltL r.2[k - 1] r.2[k])
        · rw [hlt] at cB
          go_quiet (first | exact cT _ | exact cB _)
          go_wp2_with fail
          go_ret
          exact ⟨ret_bool (tb_false (fun hh => by have := tb_true ((hh.2.2 k hkl).2 (by omega)); rw [hlt] at this; cases this)).symm, hqw.then (by first | exact Quiet.refl _ | exact Quiet.drewN _ _ | exact (Quiet.drewN _ _).then (Quiet.drewN _ _) | exact ((Quiet.drewN _ _).then (Quiet.drewN _ _)).then (Quiet.drewN _ _))⟩
        · rw [hlt] at cB
          go_quiet (first | exact cT _ | exact cB _)
          go_wp2_with fail
          go_roundw
          case rel => exact ⟨k + 1, by omega, by go_num, relUp_succ hkl HT.out HROW.out (fun _ => tb_iff.1 hlt), hqw.then (by first | exact Quiet.refl _ | exact Quiet.drewN _ _ | exact (Quiet.drewN _ _).then (Quiet.drewN _ _) | exact ((Quiet.drewN _ _).then (Quiet.drewN _ _)).then (Quiet.drewN _ _))⟩
          case measure => simp [intOf]; omega
    · obtain rfl : k = r.2.length := by omega
      go_wp2_with fail
      go_ret
      exact ⟨ret_bool (tb_true ⟨hs', ha', fun i h => HT.out i h h⟩).symm, hqw⟩
end Go.Proofs.YthjafhjghjbdmaaGreat
namespace Go.Proofs.YthjafhjghjbdmaaGreat
open Go.RowKit Go.Sort
theorem geq_cmp (xs ys : List Int) : decide (0 ≤ cmpL xs ys) = !tb (ltL xs ys) := by
  rw [tb_not, Bool.eq_iff_iff, tb_iff, ltL, decide_eq_true_iff]; omega
set_option maxHeartbeats 1600000 in
theorem ValidRel_any (w : World) {cs : Array Value} {r : Int × List (List Int)} (h : relT.Rd w cs.toList r) (size : Int) :
    Calls Tryz.prog 77 #[.int .i64 size, .agg cs] w fun e w' => e = .returned (.bool (tb (relOk size r))) ∧ Below w.heap.size w w' := by
  obtain ⟨v, hv, hI, hx⟩ := pair_ex h
  obtain rfl := agg_of hv
  obtain ⟨ad, cap, rfl⟩ := rd_slice hx
  clear h hv
  cases hs : inB size 1 4
  · go_enter Tryz.func77, Tryz.ntmps77
    go_wp2_with (go_at_call 98; refine (isSize_any _ _).mono ?_; rintro e w' ⟨rfl, rfl⟩)
    go_ret
    exact ⟨ret_bool (tb_false (fun hr => by have := inB_true.2 hr.1; rw [hs] at this; cases this)).symm, (by repeat (first | exact Below.refl _ _ | exact bA | assumption | refine Below.setCell ?_ (by first | omega | (simp; try omega)) _ | refine Below.alloc ?_ (by first | omega | (simp; try omega)) _ | refine Below.drew ?_ | refine bDN ?_ | refine bthen ?_ (by assumption)))⟩
  cases ha : inB r.1 1 4
  · go_enter Tryz.func77, Tryz.ntmps77
    go_wp2_with (first | (go_at_call 98; refine (isSize_any _ _).mono ?_; rintro e w' ⟨rfl, rfl⟩) | (go_at_call 99; refine (isArity_any _ _).mono ?_; rintro e w' ⟨rfl, rfl⟩))
    go_ret
    exact ⟨ret_bool (tb_false (fun hr => by have := inB_true.2 hr.2.1; rw [ha] at this; cases this)).symm, (by repeat (first | exact Below.refl _ _ | exact bA | assumption | refine Below.setCell ?_ (by first | omega | (simp; try omega)) _ | refine Below.alloc ?_ (by first | omega | (simp; try omega)) _ | refine Below.drew ?_ | refine bDN ?_ | refine bthen ?_ (by assumption)))⟩
  have hs' := inB_true.1 hs
  have ha' := inB_true.1 ha
  obtain ⟨_, _, e1, hle, hle2, hcell⟩ := slices_ex hx
  simp only [List.cons.injEq, Value.slice.injEq, and_true, true_and] at e1
  obtain ⟨rfl, rfl⟩ := e1
  go_enter Tryz.func77, Tryz.ntmps77
  go_wp2_with (first | (go_at_call 98; refine (isSize_any _ _).mono ?_; rintro e w' ⟨rfl, rfl⟩) | (go_at_call 99; refine (isArity_any _ _).mono ?_; rintro e w' ⟨rfl, rfl⟩))
  go_loopw [19] (fun i wr => ∃ k : Nat, k ≤ r.2.length ∧ i = .int .i64 k ∧ relUp size r k ∧ Below w.heap.size w wr ∧ w.heap.size < wr.heap.size ∧ wr.cell? ⟨w.heap.size, 0, none⟩ = some (.int .i64 r.1) ∧ wr.cell? ⟨w.heap.size, 1, none⟩ = some (.slice ad r.2.length cap)) (fun i _ => r.2.length - (intOf i).toNat)
  case atStart => exact ⟨0, Nat.zero_le _, rfl, relUp_zero _ _, (by repeat (first | exact Below.refl _ _ | exact bA | assumption | refine Below.setCell ?_ (by first | omega | (simp; try omega)) _ | refine Below.alloc ?_ (by first | omega | (simp; try omega)) _ | refine Below.drew ?_ | refine bDN ?_ | refine bthen ?_ (by assumption))), by simp, by simp, by simp⟩
  case round =>
    obtain ⟨k, hk, rfl, ht, hbel, hz, b0, b1⟩ := hrel
    have HT := Lib.hid ht
    clear ht
    by_cases hkl : k < r.2.length
    · obtain ⟨a, q, rfl, haa, hce⟩ := hcell (by omega)
      obtain ⟨u, hu, f0⟩ := hce k hkl
      have g0 := (hbel.cell haa).trans f0
      cases hr : tb (rowOk size r.1 r.2[k])
      · clear hcell hce
        go_wp2_with fail
        refine (areValues_any _ (hu.below hbel) _ _ (by omega) (by omega)).mono ?_
        rintro e w1 ⟨rfl, hb1⟩
        rw [hr]
        go_wp2_with fail
        go_ret
        exact ⟨ret_bool (tb_false (fun hh => by have := tb_true (hh.2.2 k hkl).1; rw [hr] at this; cases this)).symm, bthen hbel hb1⟩
      have HROW := Lib.hid (tb_iff.1 hr)
      by_cases h0 : k = 0
      · have H0 := Lib.hid h0
        have hg : decide (0 < k) = false := by rw [h0]; rfl
        clear hcell hce h0
        go_wp2_with fail
        refine (areValues_any _ (hu.below hbel) _ _ (by omega) (by omega)).mono ?_
        rintro e w1 ⟨rfl, hb1⟩
        rw [hr]
        have c0 := (hb1.cell hz).trans b0
        have c1 := (hb1.cell hz).trans b1
        have hz1 : w.heap.size < w1.heap.size := Nat.lt_of_lt_of_le hz hb1.size
        go_wp2_with fail
        go_roundw
        case rel => exact ⟨k + 1, by omega, by go_num, relUp_succ hkl HT.out HROW.out (fun h => by have := H0.out; omega), bthen hbel hb1, hz1, c0, c1⟩
        case measure => simp [intOf]; omega
      · have h1 : k - 1 < r.2.length := by omega
        obtain ⟨u1, hu1, f1⟩ := hce (k - 1) h1
        have hg : decide (0 < k) = true := by simp; omega
        have hgeq := geq_cmp r.2[k - 1] r.2[k]
        clear hcell hce
        go_wp2_with fail
        refine (areValues_any _ (hu.below hbel) _ _ (by omega) (by omega)).mono ?_
        rintro e w1 ⟨rfl, hb1⟩
        rw [hr]
        have hbel1 := bthen hbel hb1
        have c0 := (hb1.cell hz).trans b0
        have c1 := (hb1.cell hz).trans b1
        have g1 := (hbel1.cell haa).trans f1
        have hz1 : w.heap.size < w1.heap.size := Nat.lt_of_lt_of_le hz hb1.size
        clear b0 b1 g0 hb1 hbel
        cases hlt : tb (ltL r.2[k - 1] r.2[k])
        · rw [hlt] at hgeq
          go_wp2_with fail
          refine (Compare_any _ (hu1.below hbel1) (hu.below hbel1)).mono ?_
          rintro e w2 ⟨rfl, rfl⟩
          go_wp2_with fail
          go_ret
          exact ⟨ret_bool (tb_false (fun hh => by have := tb_true ((hh.2.2 k hkl).2 (by omega)); rw [hlt] at this; cases this)).symm, hbel1⟩
        · rw [hlt] at hgeq
          go_wp2_with fail
          refine (Compare_any _ (hu1.below hbel1) (hu.below hbel1)).mono ?_
          rintro e w2 ⟨rfl, rfl⟩
          go_wp2_with fail
          go_roundw
          case rel => exact ⟨k + 1, by omega, by go_num, relUp_succ hkl HT.out HROW.out (fun _ => tb_iff.1 hlt), hbel1, hz1, c0, c1⟩
          case measure => simp [intOf]; omega
    · obtain rfl : k = r.2.length := by omega
      go_wp2_with fail
      go_ret
      exact ⟨ret_bool (tb_true ⟨hs', ha', fun i h => HT.out i h h⟩).symm, hbel⟩
theorem ValidTemplate1_any (w : World) {cs : Array Value} {r : Int × List (List Int)} (h : relT.Rd w cs.toList r) (size : Int) (b : Nat) (hb : b < w.heap.size) (hc : w.cell? ⟨b, 0, none⟩ = some (.int .i64 size)) :
    Calls Tryz.prog 182 #[.agg cs, .pointer (some ⟨b, 0, none⟩)] w fun e w' => e = .returned (.bool (!tb (relOk size r))) ∧ Below w.heap.size w w' := by
  have hx := h
  obtain ⟨v, hv, hI, -⟩ := pair_ex h
  obtain rfl := agg_of hv
  clear h hv
  go_enter Tryz.func182, Tryz.ntmps182
  go_wp2_with fail
  refine (ValidRel_any _ (hx.below bA) size).mono ?_
  rintro e w1 ⟨rfl, hb1⟩
  go_wp2_with fail
  go_ret
  exact ⟨rfl, (by repeat (first | exact Below.refl _ _ | exact bA | assumption | refine Below.setCell ?_ (by first | omega | (simp; try omega)) _ | refine Below.alloc ?_ (by first | omega | (simp; try omega)) _ | refine Below.drew ?_ | refine bDN ?_ | refine bthen ?_ (by assumption)))⟩
theorem tplOk_any {t : Int × List (Int × List (List Int))} (h0 : sizeOk t.1) (h1 : t.2.length ≤ 6) : (!anyB (fun r => !tb (relOk t.1 r)) t.2) = tb (tplOk t) := by
  rw [Bool.eq_iff_iff, tb_iff]
  simp only [anyB, tplOk, h0, h1, true_and, Bool.not_eq_true', List.any_eq_false, Bool.not_eq_false, tb_iff]
theorem ValidTemplate_any (w : World) {cs : Array Value} {t : Int × List (Int × List (List Int))} (h : tplT.Rd w cs.toList t) :
    Calls Tryz.prog 108 #[.agg cs] w fun e w' => e = .returned (.bool (tb (tplOk t))) ∧ Below w.heap.size w w' := by
  obtain ⟨v, hv, hI, hx⟩ := pair_ex h
  obtain rfl := agg_of hv
  obtain ⟨ad, cap, rfl⟩ := rd_slice hx
  clear h hv
  cases hs : inB t.1 1 4
  · go_enter Tryz.func108, Tryz.ntmps108
    go_wp2_with (go_at_call 98; refine (isSize_any _ _).mono ?_; rintro e w' ⟨rfl, rfl⟩)
    go_ret
    exact ⟨ret_bool (tb_false (fun hr => by have := inB_true.2 hr.1; rw [hs] at this; cases this)).symm, (by repeat (first | exact Below.refl _ _ | exact bA | assumption | refine Below.setCell ?_ (by first | omega | (simp; try omega)) _ | refine Below.alloc ?_ (by first | omega | (simp; try omega)) _ | refine Below.drew ?_ | refine bDN ?_ | refine bthen ?_ (by assumption)))⟩
  have hs' := inB_true.1 hs
  by_cases hl : t.2.length ≤ 6
  rotate_left
  · have hl' : decide (t.2.length ≤ 6) = false := by simpa using hl
    have hl2 : decide ((t.2.length : Int) ≤ 6) = false := by simp; omega
    have HL := Lib.hid hl
    clear hl
    go_enter Tryz.func108, Tryz.ntmps108
    go_wp2_with (go_at_call 98; refine (isSize_any _ _).mono ?_; rintro e w' ⟨rfl, rfl⟩)
    go_ret
    exact ⟨ret_bool (tb_false (fun hr => HL.out hr.2.1)).symm, (by repeat (first | exact Below.refl _ _ | exact bA | assumption | refine Below.setCell ?_ (by first | omega | (simp; try omega)) _ | refine Below.alloc ?_ (by first | omega | (simp; try omega)) _ | refine Below.drew ?_ | refine bDN ?_ | refine bthen ?_ (by assumption)))⟩
  have hl2 : decide ((t.2.length : Int) ≤ 6) = true := by simp; omega
  have HT := Lib.hid (tplOk_any hs' hl)
  clear hs'
  go_enter Tryz.func108, Tryz.ntmps108
  go_wp2_with (go_at_call 98; refine (isSize_any _ _).mono ?_; rintro e w' ⟨rfl, rfl⟩)
  refine (ContainsFuncRel_any _ (hx.below bA) (fun r => !tb (relOk t.1 r)) 182 #[.pointer (some ⟨w.heap.size, 0, none⟩)] (enters Tryz.func182 (by kernel_rfl) rfl) (fun W hW k hk cs hcs => ValidTemplate1_any W hcs t.1 w.heap.size ?_ ?_)).mono ?_
  · have := hW.size; simp at this; omega
  · rw [hW.cell (by simp)]; simp
  rintro e w1 ⟨rfl, hb1⟩
  go_wp2_with fail
  go_ret
  exact ⟨ret_bool HT.out, (by repeat (first | exact Below.refl _ _ | exact bA | assumption | refine Below.setCell ?_ (by first | omega | (simp; try omega)) _ | refine Below.alloc ?_ (by first | omega | (simp; try omega)) _ | refine Below.drew ?_ | refine bDN ?_ | refine bthen ?_ (by assumption)))⟩
theorem pt_tpl_elem {w : World} {b o n cap : Nat} {xs : List (Int × List (List Int))} (h : relsT.Rd w [.slice (some ⟨b, o, none⟩) n cap] xs) {k : Nat} (hk : k < xs.length) : relT.Pt w (.pointer (some ⟨b, o + k * 2, none⟩)) xs[k] := pt_elem h hk
set_option maxHeartbeats 800000 in
theorem l01Template_quiet (w : World) {v : Value} {t : Int × List (Int × List (List Int))} (h : tplT.Pt w v t) :
    Calls Tryz.prog 112 #[v] w fun e w' => e = .returned (.bool (tb (tplOk t))) ∧ Quiet w w' := by
  obtain ⟨b, o, ad, cap, rfl, hb, hI, c0, c1, hx⟩ := pt_pair h
  clear h
  obtain ⟨_, _, e1, hle, hle2, hcell⟩ := pairs_ex hx
  simp only [List.cons.injEq, Value.slice.injEq, and_true, true_and] at e1
  obtain ⟨rfl, rfl⟩ := e1
  go_enter Tryz.func112, Tryz.ntmps112
  go_wp2_with fail
  go_loopw [3] (fun i wr => ∃ k : Nat, k ≤ t.2.length ∧ i = .int .i64 k ∧ noneB (fun r => !tb (relOk t.1 r)) (t.2.take k) ∧ Quiet w wr) (fun i _ => t.2.length - (intOf i).toNat)
  case atStart => exact ⟨0, Nat.zero_le _, rfl, noneB_zero _ _, Quiet.refl _⟩
  case round =>
    obtain ⟨k, hk, rfl, ht, hqw⟩ := hrel
    have HT := Lib.hid ht
    have d0 := (hqw.below.cell hb).trans c0
    have d1 := (hqw.below.cell hb).trans c1
    clear ht c0 c1
    by_cases hkl : k < t.2.length
    · obtain ⟨a, q, rfl, haa, -⟩ := hcell (by omega)
      have p := (pt_tpl_elem hx hkl).below hqw.below
      have cT : ∀ n, Calls Tryz.prog 186 #[.int .i64 t.1, .pointer (some ⟨a, q + k * 2, none⟩)] (wr.drewN n) fun e w'' => e = .returned (.bool (tb (relOk t.1 t.2[k]))) ∧ ∃ m, w'' = wr.drewN m := fun n =>
        quiet_call (l01Ok_quiet _ (p.below (Quiet.drewN wr n).below) t.1)
      cases hr : tb (relOk t.1 t.2[k])
      · rw [hr] at cT
        go_wp2_with fail
        go_quiet (exact cT _)
        go_wp2_with fail
        go_ret
        exact ⟨ret_bool (tb_false (fun hh => by have := tb_true (hh.2.2 _ (List.getElem_mem hkl)); rw [hr] at this; cases this)).symm, hqw.then (by first | exact Quiet.refl _ | exact Quiet.drewN _ _ | exact (Quiet.drewN _ _).then (Quiet.drewN _ _) | exact ((Quiet.drewN _ _).then (Quiet.drewN _ _)).then (Quiet.drewN _ _))⟩
      · rw [hr] at cT
        go_wp2_with fail
        go_quiet (exact cT _)
        go_wp2_with fail
        go_roundw
        case rel => exact ⟨k + 1, by omega, by go_num, noneB_succ hkl HT.out (by rw [hr]; rfl), hqw.then (by first | exact Quiet.refl _ | exact Quiet.drewN _ _ | exact (Quiet.drewN _ _).then (Quiet.drewN _ _) | exact ((Quiet.drewN _ _).then (Quiet.drewN _ _)).then (Quiet.drewN _ _))⟩
        case measure => simp [intOf]; omega
    · obtain rfl : k = t.2.length := by omega
      have hall : ∀ r ∈ t.2, relOk t.1 r := fun r hr => by
        have := HT.out r (by rw [List.take_length]; exact hr)
        simpa [tb_iff] using this
      have HALL := Lib.hid hall
      clear hall
      cases hs : inB t.1 1 4
      · go_wp2_with (go_at_call 187; refine (l01Size_any _ _).mono ?_; rintro e w' ⟨rfl, rfl⟩)
        go_ret
        exact ⟨ret_bool (tb_false (fun hr => by have := inB_true.2 hr.1; rw [hs] at this; cases this)).symm, hqw⟩
      have hs' := inB_true.1 hs
      have HR : Hid (decide ((t.2.length : Int) ≤ 6) = tb (tplOk t)) := by
        unfold Hid
        rw [Bool.eq_iff_iff, tb_iff, decide_eq_true_iff]
        exact ⟨fun h => ⟨hs', by omega, HALL.out⟩, fun h => by have := h.2.1; omega⟩
      go_wp2_with (go_at_call 187; refine (l01Size_any _ _).mono ?_; rintro e w' ⟨rfl, rfl⟩)
      go_ret
      exact ⟨ret_bool HR.out, hqw⟩
end Go.Proofs.YthjafhjghjbdmaaGreat
namespace Go.Proofs.YthjafhjghjbdmaaGreat
open Go.RowKit Go.Sort
theorem rd_elem {α : Type} {E : Ty α} {w : World} {ad : Option Addr} {cap : Nat} {xs : List α} (h : (Ty.slice E).Rd w [.slice ad xs.length cap] xs) {k : Nat} (hk : k < xs.length) :
    ∃ b o, ad = some ⟨b, o, none⟩ ∧ E.Pt w (.pointer (some ⟨b, o + k * E.sz, none⟩)) xs[k] := by
  obtain ⟨ad', cap', hv, _, _, h3⟩ := Ty.slice_ex h
  simp only [List.cons.injEq, Value.slice.injEq, and_true] at hv
  obtain ⟨rfl, -, rfl⟩ := hv
  obtain ⟨b, o, rfl, _⟩ := h3 (by omega)
  exact ⟨b, o, rfl, pt_elem h hk⟩
theorem arityOf_any (w : World) {cs : Array Value} {t : Int × List (Int × List (List Int))} (h : tplT.Rd w cs.toList t) (rel : Int) :
    Calls Tryz.prog 169 #[.agg cs, .int .i64 rel] w fun e w' => e = .returned (.int .i64 (arOf t rel)) ∧ Below w.heap.size w w' := by
  obtain ⟨v, hv, hI, hx⟩ := pair_ex h
  obtain rfl := agg_of hv
  obtain ⟨ad, cap, rfl⟩ := rd_slice hx
  clear h hv
  obtain ⟨_, _, -, hle, hle2, -⟩ := pairs_ex hx
  cases h1 : (rel == -1)
  rotate_left
  · have HE : Hid (arOf t rel = 2) := by unfold Hid; rw [eq_of_beq h1]; exact arOf_eq t
    go_enter Tryz.func169, Tryz.ntmps169
    go_wp2_with fail
    go_ret
    exact ⟨ret_int HE.out.symm, (by repeat (first | exact Below.refl _ _ | exact bA | assumption | refine Below.setCell ?_ (by first | omega | (simp; try omega)) _ | refine Below.alloc ?_ (by first | omega | (simp; try omega)) _ | refine Below.drew ?_ | refine bDN ?_ | refine bthen ?_ (by assumption)))⟩
  have HN : Hid (rel ≠ -1) := by unfold Hid; simpa using h1
  cases h2 : inB rel 0 ((t.2.length : Int) - 1)
  · go_enter Tryz.func169, Tryz.ntmps169
    go_wp2_with (go_at_call 128; refine (within_any _ _ _ _).mono ?_; rintro e w' ⟨rfl, rfl⟩)
    go_ret
    exact ⟨ret_int (arOf_no HN.out h2).symm, (by repeat (first | exact Below.refl _ _ | exact bA | assumption | refine Below.setCell ?_ (by first | omega | (simp; try omega)) _ | refine Below.alloc ?_ (by first | omega | (simp; try omega)) _ | refine Below.drew ?_ | refine bDN ?_ | refine bthen ?_ (by assumption)))⟩
  have hk := inB_true.1 h2
  obtain ⟨k, rfl⟩ : ∃ k : Nat, rel = k := ⟨rel.toNat, by omega⟩
  have hkl : k < t.2.length := by omega
  obtain ⟨a, q, rfl, hp⟩ := rd_elem hx hkl
  have hp' : relT.Pt w (.pointer (some ⟨a, q + k * 2, none⟩)) t.2[k] := hp
  obtain ⟨b, o, ad', cap', hbo, hb, -, c0, -, -⟩ := pt_pair hp'
  clear hp hp'
  simp only [Value.pointer.injEq, Option.some.injEq, Addr.mk.injEq, and_true] at hbo
  obtain ⟨rfl, rfl⟩ := hbo
  go_enter Tryz.func169, Tryz.ntmps169
  go_wp2_with (go_at_call 128; refine (within_any _ _ _ _).mono ?_; rintro e w' ⟨rfl, rfl⟩)
  go_ret
  exact ⟨ret_int (arOf_nat hkl).symm, (by repeat (first | exact Below.refl _ _ | exact bA | assumption | refine Below.setCell ?_ (by first | omega | (simp; try omega)) _ | refine Below.alloc ?_ (by first | omega | (simp; try omega)) _ | refine Below.drew ?_ | refine bDN ?_ | refine bthen ?_ (by assumption)))⟩
theorem isAtom_any (w : World) {cs : Array Value} {a : Int × List Int} (h : opT.Rd w cs.toList a) (ar vars : Int) (h0 : 0 ≤ vars) (h1 : vars ≤ 1000000000000) :
    Calls Tryz.prog 170 #[.agg cs, .int .i64 ar, .int .i64 vars] w fun e w' => e = .returned (.bool (tb (rowOk vars ar a.2))) ∧ Below w.heap.size w w' := by
  obtain ⟨v, hv, hI, hx⟩ := pair_ex h
  obtain rfl := agg_of hv
  clear h hv
  go_enter Tryz.func170, Tryz.ntmps170
  go_wp2_with fail
  refine (areValues_any _ (hx.below bA) _ _ h0 h1).mono ?_
  rintro e w1 ⟨rfl, hb1⟩
  go_wp2_with fail
  go_ret
  exact ⟨rfl, (by repeat (first | exact Below.refl _ _ | exact bA | assumption | refine Below.setCell ?_ (by first | omega | (simp; try omega)) _ | refine Below.alloc ?_ (by first | omega | (simp; try omega)) _ | refine Below.drew ?_ | refine bDN ?_ | refine bthen ?_ (by assumption)))⟩
theorem isFrame_any (w : World) {cs : Array Value} {f : Int × Int × List (Int × List Int)} (h : frmT.Rd w cs.toList f) :
    Calls Tryz.prog 167 #[.agg cs] w fun e w' => e = .returned (.bool (tb (frameOk f))) ∧ Below w.heap.size w w' := by
  obtain ⟨v, hv, hI, hI2, hx⟩ := trip_ex h
  obtain rfl := agg_of hv
  obtain ⟨ad, cap, rfl⟩ := rd_slice hx
  clear h hv
  cases h1 : inB f.1 1 4
  · go_enter Tryz.func167, Tryz.ntmps167
    go_wp2_with (go_at_call 99; refine (isArity_any _ _).mono ?_; rintro e w' ⟨rfl, rfl⟩)
    go_ret
    exact ⟨ret_bool (tb_false (fun hr => by have := inB_true.2 hr.1; rw [h1] at this; cases this)).symm, (by repeat (first | exact Below.refl _ _ | exact bA | assumption | refine Below.setCell ?_ (by first | omega | (simp; try omega)) _ | refine Below.alloc ?_ (by first | omega | (simp; try omega)) _ | refine Below.drew ?_ | refine bDN ?_ | refine bthen ?_ (by assumption)))⟩
  cases h2 : inB f.2.1 f.1 8
  · go_enter Tryz.func167, Tryz.ntmps167
    go_wp2_with (first | (go_at_call 99; refine (isArity_any _ _).mono ?_; rintro e w' ⟨rfl, rfl⟩) | (go_at_call 128; refine (within_any _ _ _ _).mono ?_; rintro e w' ⟨rfl, rfl⟩))
    go_ret
    exact ⟨ret_bool (tb_false (fun hr => by have := inB_true.2 hr.2.1; rw [h2] at this; cases this)).symm, (by repeat (first | exact Below.refl _ _ | exact bA | assumption | refine Below.setCell ?_ (by first | omega | (simp; try omega)) _ | refine Below.alloc ?_ (by first | omega | (simp; try omega)) _ | refine Below.drew ?_ | refine bDN ?_ | refine bthen ?_ (by assumption)))⟩
  have HR : Hid (decide ((f.2.2.length : Int) ≤ 16) = tb (frameOk f)) := by
    unfold Hid
    rw [Bool.eq_iff_iff, tb_iff, decide_eq_true_iff]
    exact ⟨fun h => ⟨inB_true.1 h1, inB_true.1 h2, by omega⟩, fun h => by have := h.2.2; omega⟩
  go_enter Tryz.func167, Tryz.ntmps167
  go_wp2_with (first | (go_at_call 99; refine (isArity_any _ _).mono ?_; rintro e w' ⟨rfl, rfl⟩) | (go_at_call 128; refine (within_any _ _ _ _).mono ?_; rintro e w' ⟨rfl, rfl⟩))
  go_ret
  exact ⟨ret_bool HR.out, (by repeat (first | exact Below.refl _ _ | exact bA | assumption | refine Below.setCell ?_ (by first | omega | (simp; try omega)) _ | refine Below.alloc ?_ (by first | omega | (simp; try omega)) _ | refine Below.drew ?_ | refine bDN ?_ | refine bthen ?_ (by assumption)))⟩
end Go.Proofs.YthjafhjghjbdmaaGreat
