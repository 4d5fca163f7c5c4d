/-
Contracts of the laws' own helpers: sz.. (how much an argument holds), to.. (a deep copy in new memory), eq.. (deep equality): by program (gen_laws.py), one text a make of type.
Contracts: powers, indices of lists, lists of indices.
Contracts: the list of an index.
Contracts: valid relations and templates, in the program and in the reference.
Contracts: valid relations and templates (the program's), valid templates (the reference's).
Contracts: what a number of a relation tells; atoms' places; counts of formulas.
Contracts: valid instances and formulas, the program's.
Contracts: valid instances and formulas, the reference's.
Contracts: valid operations.
Contracts: the tuple that an operation makes of tuples.
The order of tuples; tuples at places; search in a relation.
Contracts: the tuple that an operation makes of tuples, the reference's.
Rows whose elements point into older memory of the call's own: they read as new data. No program is named here.
Rows of truth values; rows of slices that lie in older memory; indices of lists are one to one.
Plain: a relation that has all tuples; what an operation makes of tuples of a relation; whether it keeps the relation.
Contracts: the set of a relation's tuples, the reference's.
Contracts: the set of a relation's tuples, filled.
Constraints that hold for values: the program's and the reference's.
-/
import Derived.Test.YtggelmbnliajeaaDoorQAA
import Derived.Lib.QuietBelow
import Derived.Laws.OwnMore
import Derived.Deep.RegionHeldLaw
namespace Go.Proofs.YtggelmbnliajeaaDoor
open Go.RowKit Go.Sort

theorem szInt64S_any (w : World) {v : Value} {xs : List Int} (h : intsT.Rd w [v] xs) (left : Int) (h0 : 0 ≤ left) (h1 : left ≤ 1048576) :
  Calls Tryd.prog 29 #[v, .int .i64 left] w fun e w' => e = .returned (.int .i64 (szR left (szInts xs))) ∧ Below w.heap.size w w' := by
 obtain ⟨ad, cap, hv, hl, hc, -⟩ := ints_ex h
 obtain rfl : v = _ := by simpa using hv
 clear h hv
 rcases ilt left xs.length with hlt | hlt
 ·go_enter Tryd.func29, Tryd.ntmps29
  go_wp2
  go_ret
  exact ⟨ret_int (szR_lt hlt).symm, Below.refl _ _⟩
 ·go_enter Tryd.func29, Tryd.ntmps29
  go_wp2
  go_ret
  exact ⟨ret_int (szR_ge hlt).symm, Below.refl _ _⟩
theorem elInt : ElT Tryd.prog 32 2 1 8 := .mk (z := .int .i64 0) Tryd.underlying32 (by kernel_rfl) rfl (by decide)
set_option maxHeartbeats 400000 in
theorem toInt64S_any (w : World) {v : Value} {xs : List Int} (h : intsT.Rd w [v] xs) (hlen : szInts xs ≤ 1048576) :
  Calls Tryd.prog 38 #[v] w (RetS intsT w xs) := by
 obtain ⟨ad, cap, hv, hl, hc, hcell⟩ := ints_ex h
 obtain rfl : v = _ := by simpa using hv
 unfold szInts at hlen
 clear h hv
 go_enter Tryd.func38, Tryd.ntmps38
 go_wp2_with (refine wpList_mk (E := Ty.int) _ rfl _ _ 32 2 rfl elInt w.heap.size xs.length rfl rfl (by omega) (by decide) (by simp) ?_; intro w1 hA hg1 hs1)
 have hb1 := below_of_grown hg1
 go_loopw [4] (fun i wr => ∃ k : Nat, k ≤ xs.length ∧ i = .int .i64 k ∧ Ar Ty.int 2 w.heap.size wr.heap.size wr w.heap.size xs.length xs.length (xs.take k) ∧ Below w.heap.size w wr) (fun i _ => xs.length - (intOf i).toNat)
 case atStart => exact ⟨0, Nat.zero_le _, rfl, by rw [hs1]; exact hA, hb1⟩
 case round =>
  obtain ⟨k, hk, rfl, hAr, hbel⟩ := hrel
  by_cases hkl : k < xs.length
  ·obtain ⟨b, o, rfl, hb, hce⟩ := hcell (by omega)
   obtain ⟨hI, hc0⟩ := hce k hkl
   have d0 : wr.cell? ⟨b, o + k, none⟩ = some (.int .i64 xs[k]) := (hbel.cell hb).trans hc0
   obtain ⟨u, d1⟩ := hAr.cell (j := k) (by simpa [Ty.int] using hkl)
   have d2 := hAr.free k
   have hP := hAr.put1 rfl (fr_int hI) (by rw [take_len hk]; exact hkl) (Nat.le_refl _)
   rw [take_len hk, take_snoc hkl] at hP
   have HP := Lib.hid hP
   have HA := Lib.hid hAr
   clear hP hAr hA
   go_wp2_with fail
   go_roundw
   case rel => exact ⟨k + 1, by omega, by go_num, by simpa using HP.out, hbel.setCell (Nat.le_refl _) _⟩
   case measure => simp [intOf]; omega
  ·obtain rfl : k = xs.length := by omega
   rw [List.take_length] at hAr
   have HA := Lib.hid hAr
   clear hAr hA
   go_wp2_with fail
   go_ret
   exact ⟨_, rfl, HA.out.fr (by unfold capMax; omega) rfl, hbel⟩
set_option maxHeartbeats 400000 in
theorem eqInt64S_quiet (w : World) {v u : Value} {xs ys : List Int} (h : intsT.Rd w [v] xs) (h' : intsT.Rd w [u] ys) :
  Calls Tryd.prog 52 #[v, u] w fun e w' => e = .returned (.bool (eqB xs ys)) ∧ Quiet w w' := by
 obtain ⟨ad, cap, hv, hl, hc, hcell⟩ := ints_ex h
 obtain ⟨ad', cap', hv', hl', hc', hcell'⟩ := ints_ex h'
 obtain rfl : v = _ := by simpa using hv
 obtain rfl : u = _ := by simpa using hv'
 clear h hv h' hv'
 cases hn : (((xs.length : Nat) : Int) != (ys.length : Nat))
 rotate_left
 ·go_enter Tryd.func52, Tryd.ntmps52
  go_wp2_with fail
  go_ret
  exact ⟨ret_bool (eqB_len (by simp at hn; omega)).symm, Quiet.refl _⟩
 ·have hn' : xs.length = ys.length := by simp at hn; omega
  have HN := Lib.hid hn'
  clear hn'
  go_enter Tryd.func52, Tryd.ntmps52
  go_wp2_with fail
  go_loopw [5] (fun i wr => ∃ k : Nat, k ≤ xs.length ∧ i = .int .i64 k ∧ xs.take k = ys.take k ∧ Quiet w wr) (fun i _ => xs.length - (intOf i).toNat)
  case atStart => exact ⟨0, Nat.zero_le _, rfl, rfl, Quiet.refl _⟩
  case round =>
   obtain ⟨k, hk, rfl, ht, nq, rfl⟩ := hrel
   have HT := Lib.hid ht
   clear ht hn
   by_cases hkl : k < xs.length
   ·have hkl' : k < ys.length := by have := HN.out; omega
    obtain ⟨b, o, rfl, hb, hce⟩ := hcell (by omega)
    obtain ⟨b', o', rfl, hb', hce'⟩ := hcell' (by omega)
    have d0 := (hce k hkl).2
    have d1 := (hce' k hkl').2
    clear hce hce' hcell hcell'
    cases hq : (xs[k] != ys[k])
    rotate_left
    ·go_wp2_with fail
     go_quiet (fail)
     go_wp2_with fail
     go_ret
     exact ⟨ret_bool (eqB_get hkl hkl' (by simpa using hq)).symm, (by first | exact Quiet.refl _ | exact Quiet.drewN _ _ | exact (Quiet.drewN _ _).then (Quiet.drewN _ _) | exact ((Quiet.drewN _ _).then (Quiet.drewN _ _)).then (Quiet.drewN _ _))⟩
    ·go_wp2_with fail
     go_quiet (fail)
     go_wp2_with fail
     go_roundw
     case rel => exact ⟨k + 1, by omega, by go_num, take_eq_succ hkl hkl' HT.out (by simpa using hq), (by first | exact Quiet.refl _ | exact Quiet.drewN _ _ | exact (Quiet.drewN _ _).then (Quiet.drewN _ _) | exact ((Quiet.drewN _ _).then (Quiet.drewN _ _)).then (Quiet.drewN _ _))⟩
     case measure => simp [intOf]; omega
   ·obtain rfl : k = xs.length := by omega
    go_wp2_with fail
    go_ret
    exact ⟨ret_bool (eqB_true (by have h1 := HT.out; have h2 := HN.out; rw [List.take_length, h2, List.take_length] at h1; exact h1)).symm, (by first | exact Quiet.refl _ | exact Quiet.drewN _ _ | exact (Quiet.drewN _ _).then (Quiet.drewN _ _) | exact ((Quiet.drewN _ _).then (Quiet.drewN _ _)).then (Quiet.drewN _ _))⟩
theorem eqInt64S_any (w : World) {v u : Value} {xs ys : List Int} (h : intsT.Rd w [v] xs) (h' : intsT.Rd w [u] ys) :
  Calls Tryd.prog 52 #[v, u] w fun e w' => e = .returned (.bool (eqB xs ys)) ∧ Below w.heap.size w w' := (eqInt64S_quiet w h h').mono fun _ _ ⟨a, b⟩ => ⟨a, b.below⟩

theorem elInt64SS : ElT Tryd.prog 44 32 1 24 := .mk (z := .slice none 0 0) Tryd.underlying44 (by kernel_rfl) rfl (by decide)
theorem szOp_any (w : World) {cs : Array Value} {x : Int × List Int} (h : opT.Rd w cs.toList x) (left : Int) (h0 : 0 ≤ left) (h1 : left ≤ 1048576) :
  Calls Tryd.prog 11 #[.agg cs, .int .i64 left] w fun e w' => e = .returned (.int .i64 (szR left (szOp x))) ∧ Below w.heap.size w w' := by
 obtain ⟨v, hv, hI, hx⟩ := pair_ex h
 obtain rfl := agg_of hv
 clear h hv
 rcases ilt left (szInts x.2) with hlt | hlt
 ·go_enter Tryd.func11, Tryd.ntmps11
  go_wp2_with fail
  refine (szInt64S_any _ (hx.below bA) _ h0 h1).mono ?_
  rintro e w1 ⟨rfl, hb1⟩
  rw [szR_lt hlt]
  go_wp2_with fail
  go_ret
  exact ⟨ret_int (szR_lt hlt).symm, (by repeat (first | exact Below.refl _ _ | exact bA | assumption | refine Below.setCell ?_ (by first | omega | (simp; try omega)) _ | refine Below.alloc ?_ (by first | omega | (simp; try omega)) _ | refine Below.drew ?_ | refine bDN ?_ | refine bthen ?_ (by assumption)))⟩
 ·go_enter Tryd.func11, Tryd.ntmps11
  go_wp2_with fail
  refine (szInt64S_any _ (hx.below bA) _ h0 h1).mono ?_
  rintro e w1 ⟨rfl, hb1⟩
  rw [szR_ge hlt]
  go_wp2_with fail
  go_ret
  exact ⟨ret_int (szR_ge hlt).symm, (by repeat (first | exact Below.refl _ _ | exact bA | assumption | refine Below.setCell ?_ (by first | omega | (simp; try omega)) _ | refine Below.alloc ?_ (by first | omega | (simp; try omega)) _ | refine Below.drew ?_ | refine bDN ?_ | refine bthen ?_ (by assumption)))⟩
theorem toOp_any (w : World) {cs : Array Value} {x : Int × List Int} (h : opT.Rd w cs.toList x) (hlen : szOp x ≤ 1048576) :
  Calls Tryd.prog 17 #[.agg cs] w (RetA opT w x) := by
 obtain ⟨v, hv, hI, hx⟩ := pair_ex h
 obtain rfl := agg_of hv
 clear h hv
 go_enter Tryd.func17, Tryd.ntmps17
 go_wp2_with fail
 refine (toInt64S_any _ (hx.below (by repeat (first | exact Below.refl _ _ | exact bA | assumption | refine Below.setCell ?_ (by first | omega | (simp; try omega)) _ | refine Below.alloc ?_ (by first | omega | (simp; try omega)) _ | refine Below.drew ?_ | refine bDN ?_ | refine bthen ?_ (by assumption)))) hlen).mono ?_
 rintro e w1 ⟨u, rfl, hf, hb1⟩
 obtain ⟨ad, cap, rfl⟩ := fr_slice hf
 obtain ⟨q1, q2⟩ := bcell hb1
 have hz1 : w.heap.size + 3 ≤ w1.heap.size := by have := hb1.size; simp at this; omega
 go_wp2_with fail
 refine bodyPost_ret (v := .agg #[.int .i64 x.1, .slice ad x.2.length cap]) (by simp [results, Tryd.results17, go_sem, q1]) rfl ⟨_, rfl, fr_cons hI ?_, ?_⟩
 ·exact (((hf.set (by simp)).set (by simp)).set (by simp)) |>.mono (by simp; try omega)
 ·repeat (first | exact Below.refl _ _ | exact bA | assumption | refine Below.setCell ?_ (by first | omega | (simp; try omega)) _ | refine Below.alloc ?_ (by first | omega | (simp; try omega)) _ | refine Below.drew ?_ | refine bDN ?_ | refine bthen ?_ (by assumption))
theorem eqOp_any (w : World) {cs cs' : Array Value} {x y : Int × List Int} (h : opT.Rd w cs.toList x) (h' : opT.Rd w cs'.toList y) :
  Calls Tryd.prog 26 #[.agg cs, .agg cs'] w fun e w' => e = .returned (.bool (eqB x y)) ∧ Below w.heap.size w w' := by
 obtain ⟨v, hv, hI, hx⟩ := pair_ex h
 obtain rfl := agg_of hv
 obtain ⟨v', hv', hI', hx'⟩ := pair_ex h'
 obtain rfl := agg_of hv'
 clear h hv h' hv'
 cases hn : (x.1 != y.1)
 rotate_left
 ·go_enter Tryd.func26, Tryd.ntmps26
  go_wp2_with fail
  go_ret
  exact ⟨ret_bool (eqB_fst (by simpa using hn)).symm, (by repeat (first | exact Below.refl _ _ | exact bA | assumption | refine Below.setCell ?_ (by first | omega | (simp; try omega)) _ | refine Below.alloc ?_ (by first | omega | (simp; try omega)) _ | refine Below.drew ?_ | refine bDN ?_ | refine bthen ?_ (by assumption)))⟩
 have HN : Hid (x.1 = y.1) := by simpa [Hid] using hn
 cases hq : eqB x.2 y.2
 all_goals
  go_enter Tryd.func26, Tryd.ntmps26
  go_wp2_with fail
  refine (eqInt64S_any _ (hx.below (by repeat (first | exact Below.refl _ _ | exact bA | assumption | refine Below.setCell ?_ (by first | omega | (simp; try omega)) _ | refine Below.alloc ?_ (by first | omega | (simp; try omega)) _ | refine Below.drew ?_ | refine bDN ?_ | refine bthen ?_ (by assumption)))) (hx'.below (by repeat (first | exact Below.refl _ _ | exact bA | assumption | refine Below.setCell ?_ (by first | omega | (simp; try omega)) _ | refine Below.alloc ?_ (by first | omega | (simp; try omega)) _ | refine Below.drew ?_ | refine bDN ?_ | refine bthen ?_ (by assumption))))).mono ?_
  rintro e w1 ⟨rfl, hb1⟩
  rw [hq]
  go_wp2_with fail
  go_ret
  exact ⟨ret_bool (eqB_snd HN.out hq).symm, (by repeat (first | exact Below.refl _ _ | exact bA | assumption | refine Below.setCell ?_ (by first | omega | (simp; try omega)) _ | refine Below.alloc ?_ (by first | omega | (simp; try omega)) _ | refine Below.drew ?_ | refine bDN ?_ | refine bthen ?_ (by assumption)))⟩
set_option maxHeartbeats 400000 in
theorem szOpS_any (w : World) {v : Value} {xs : List (Int × List Int)} (h : opsT.Rd w [v] xs) (left : Int) (h0 : 0 ≤ left) (h1 : left ≤ 1048576) :
  Calls Tryd.prog 4 #[v, .int .i64 left] w fun e w' => e = .returned (.int .i64 (szR left (szOps xs))) ∧ Below w.heap.size w w' := by
 obtain ⟨ad, cap, hv, hl, hc, hcell⟩ := pairs_ex h
 obtain rfl : v = _ := by simpa using hv
 clear h hv
 have hsn := sumL_nonneg szOp_nn xs
 have HS : Hid (szOps xs = xs.length + sumL szOp xs) := rfl
 rcases ilt left xs.length with hlt | hlt
 ·go_enter Tryd.func4, Tryd.ntmps4
  go_wp2_with fail
  go_ret
  exact ⟨ret_int (szR_lt (by rw [HS.out]; omega)).symm, Below.refl _ _⟩
 ·go_enter Tryd.func4, Tryd.ntmps4
  go_wp2_with fail
  go_loopw [1, 5] (fun l i wr => ∃ k : Nat, k ≤ xs.length ∧ i = .int .i64 k ∧ l = .int .i64 (left - xs.length - sumL szOp (xs.take k)) ∧ sumL szOp (xs.take k) ≤ left - xs.length ∧ Below w.heap.size w wr) (fun _ i _ => xs.length - (intOf i).toNat)
  case atStart => exact ⟨0, Nat.zero_le _, rfl, by simp [sumL], by simp [sumL]; omega, Below.refl _ _⟩
  case round =>
   obtain ⟨k, hk, rfl, rfl, hle, hbel⟩ := hrel
   have hs0 := sumL_nonneg szOp_nn (xs.take k)
   by_cases hkl : k < xs.length
   ·obtain ⟨b, o, rfl, hb, hce⟩ := hcell (by omega)
    obtain ⟨u, hu, hI, hc0, hc1⟩ := hce k hkl
    have d0 : wr.cell? ⟨b, o + k * 2, none⟩ = some (.int .i64 xs[k].1) := (hbel.cell hb).trans hc0
    have d1 : wr.cell? ⟨b, o + k * 2 + 1, none⟩ = some u := (hbel.cell hb).trans hc1
    have hx : opT.Rd wr #[.int .i64 xs[k].1, u].toList xs[k] := pair_mk hI (hu.below hbel)
    have hs1 := sumL_succ szOp hkl
    have hs2 := sumL_take_le szOp_nn xs (k + 1)
    go_wp2_with fail
    refine (szOp_any _ hx _ (by omega) (by omega)).mono ?_
    rintro e w1 ⟨rfl, hb1⟩
    rcases ilt (left - xs.length - sumL szOp (xs.take k)) (szOp xs[k]) with hq | hq
    ·rw [szR_lt hq]
     go_wp2_with fail
     go_ret
     exact ⟨ret_int (szR_lt (by rw [HS.out]; omega)).symm, bthen hbel hb1⟩
    ·rw [szR_ge hq]
     go_wp2_with fail
     go_roundw
     case rel => exact ⟨k + 1, by omega, by go_num, by rw [hs1]; go_num, by rw [hs1]; omega, bthen hbel hb1⟩
     case measure => simp [intOf]; omega
   ·obtain rfl : k = xs.length := by omega
    go_wp2_with fail
    go_ret
    exact ⟨ret_int (by rw [HS.out, List.take_length, szR_ge (by rw [List.take_length] at hle; omega)]; omega), hbel⟩
theorem elOpS : ElT Tryd.prog 24 39 2 32 := .mk (z := .agg #[.int .i64 0, .slice none 0 0]) Tryd.underlying24 (by kernel_rfl) rfl (by decide)
set_option maxHeartbeats 400000 in
theorem toOpS_any (w : World) {v : Value} {xs : List (Int × List Int)} (h : opsT.Rd w [v] xs) (hlen : szOps xs ≤ 1048576) :
  Calls Tryd.prog 6 #[v] w (RetS opsT w xs) := by
 obtain ⟨ad, cap, hv, hl, hc, hcell⟩ := pairs_ex h
 obtain rfl : v = _ := by simpa using hv
 have hsn := sumL_nonneg szOp_nn xs
 have hsm : xs.length + sumL szOp xs ≤ 1048576 := hlen
 clear h hv hlen
 go_enter Tryd.func6, Tryd.ntmps6
 go_wp2_with (refine wpList_mk (E := opT) _ rfl _ _ 24 39 rfl elOpS w.heap.size xs.length rfl rfl (by omega) (by decide) (by simp) ?_; intro w1 hA hg1 hs1)
 have hb1 := below_of_grown hg1
 go_loopw [4] (fun i wr => ∃ k : Nat, k ≤ xs.length ∧ i = .int .i64 k ∧ Ar opT 39 w.heap.size wr.heap.size wr w.heap.size xs.length xs.length (xs.take k) ∧ Below w.heap.size w wr) (fun i _ => xs.length - (intOf i).toNat)
 case atStart => exact ⟨0, Nat.zero_le _, rfl, by rw [hs1]; exact hA, hb1⟩
 case round =>
  obtain ⟨k, hk, rfl, hAr, hbel⟩ := hrel
  have HA := Lib.hid hAr
  clear hAr hA
  by_cases hkl : k < xs.length
  ·obtain ⟨b, o, rfl, hb, hce⟩ := hcell (by omega)
   obtain ⟨u, hu, hI, hc0, hc1⟩ := hce k hkl
   have d0 : wr.cell? ⟨b, o + k * 2, none⟩ = some (.int .i64 xs[k].1) := (hbel.cell hb).trans hc0
   have d1 : wr.cell? ⟨b, o + k * 2 + 1, none⟩ = some u := (hbel.cell hb).trans hc1
   have hx : opT.Rd wr #[.int .i64 xs[k].1, u].toList xs[k] := pair_mk hI (hu.below hbel)
   have hsk := sumL_get_le szOp_nn hkl
   go_wp2_with fail
   refine (toOp_any _ hx (by omega)).mono ?_
   rintro e w2 ⟨cs, rfl, hf, hb2⟩
   obtain ⟨c, c', rfl⟩ := fr_pair hf
   have hA2 := HA.out.below hb2 (Nat.le_refl _)
   obtain ⟨u0, e0⟩ := hA2.cell (j := k * 2) (by simp [Ty.cons, Ty.slice]; omega)
   obtain ⟨u1, e1⟩ := hA2.cell (j := k * 2 + 1) (by simp [Ty.cons, Ty.slice]; omega)
   have f0 := hA2.free (k * 2)
   have f1 := hA2.free (k * 2 + 1)
   have hP := hA2.put2 rfl hf (by rw [take_len hk]; exact hkl) hb2.size
   rw [take_len hk, take_snoc hkl] at hP
   have HP := Lib.hid hP
   clear hP hA2
   go_wp2_with fail
   go_roundw
   case rel => exact ⟨k + 1, by omega, by go_num, by simpa using HP.out, ((bthen hbel hb2).setCell (Nat.le_refl _) _).setCell (Nat.le_refl _) _⟩
   case measure => simp [intOf]; omega
  ·obtain rfl : k = xs.length := by omega
   rw [List.take_length] at HA
   go_wp2_with fail
   go_ret
   exact ⟨_, rfl, HA.out.fr (by unfold capMax; omega) rfl, hbel⟩
set_option maxHeartbeats 400000 in
theorem eqOpS_any (w : World) {v u : Value} {xs ys : List (Int × List Int)} (h : opsT.Rd w [v] xs) (h' : opsT.Rd w [u] ys) :
  Calls Tryd.prog 8 #[v, u] w fun e w' => e = .returned (.bool (eqB xs ys)) ∧ Below w.heap.size w w' := by
 obtain ⟨ad, cap, hv, hl, hc, hcell⟩ := pairs_ex h
 obtain ⟨ad', cap', hv', hl', hc', hcell'⟩ := pairs_ex h'
 obtain rfl : v = _ := by simpa using hv
 obtain rfl : u = _ := by simpa using hv'
 clear h hv h' hv'
 cases hn : (((xs.length : Nat) : Int) != (ys.length : Nat))
 rotate_left
 ·go_enter Tryd.func8, Tryd.ntmps8
  go_wp2_with fail
  go_ret
  exact ⟨ret_bool (eqB_len (by simp at hn; omega)).symm, Below.refl _ _⟩
 ·have hn' : xs.length = ys.length := by simp at hn; omega
  have HN := Lib.hid hn'
  clear hn'
  go_enter Tryd.func8, Tryd.ntmps8
  go_wp2_with fail
  go_loopw [5] (fun i wr => ∃ k : Nat, k ≤ xs.length ∧ i = .int .i64 k ∧ xs.take k = ys.take k ∧ Below w.heap.size w wr) (fun i _ => xs.length - (intOf i).toNat)
  case atStart => exact ⟨0, Nat.zero_le _, rfl, rfl, Below.refl _ _⟩
  case round =>
   obtain ⟨k, hk, rfl, ht, hbel⟩ := hrel
   have HT := Lib.hid ht
   clear ht hn
   by_cases hkl : k < xs.length
   ·have hkl' : k < ys.length := by have := HN.out; omega
    obtain ⟨b, o, rfl, hb, hce⟩ := hcell (by omega)
    obtain ⟨b', o', rfl, hb', hce'⟩ := hcell' (by omega)
    obtain ⟨u, hu, hI, hc0, hc1⟩ := hce k hkl
    have d0 : wr.cell? ⟨b, o + k * 2, none⟩ = some (.int .i64 xs[k].1) := (hbel.cell hb).trans hc0
    have d1 : wr.cell? ⟨b, o + k * 2 + 1, none⟩ = some u := (hbel.cell hb).trans hc1
    have hx : opT.Rd wr #[.int .i64 xs[k].1, u].toList xs[k] := pair_mk hI (hu.below hbel)
    obtain ⟨u', hu', hI', hc0', hc1'⟩ := hce' k hkl'
    have d0' : wr.cell? ⟨b', o' + k * 2, none⟩ = some (.int .i64 ys[k].1) := (hbel.cell hb').trans hc0'
    have d1' : wr.cell? ⟨b', o' + k * 2 + 1, none⟩ = some u' := (hbel.cell hb').trans hc1'
    have hx' : opT.Rd wr #[.int .i64 ys[k].1, u'].toList ys[k] := pair_mk hI' (hu'.below hbel)
    have k0 := cell_regrown d0
    have k1 := cell_regrown d1
    have k0' := cell_regrown d0'
    have k1' := cell_regrown d1'
    have cQ : ∀ d os, Calls Tryd.prog 26 #[.agg #[.int .i64 xs[k].1, u], .agg #[.int .i64 ys[k].1, u']] (grow (redrawn wr d) os) fun e w'' => e = .returned (.bool (eqB xs[k] ys[k])) ∧ ∃ p : Regrown, w'' = grow (redrawn wr p.d) p.os := fun d os =>
     Calls.regrown_of (eqOp_any _ (hx.below (below_regrown _ d os)) (hx'.below (below_regrown _ d os)))
    clear hce hce' hcell hcell' hc0 hc1 hc0' hc1' d0 d1 d0' d1'
    go_wp2_with fail
    refine wp_region_quiet_below (by kernel_rfl) (by kernel_rfl) ?_
    repeat (go_big_quiet_step (exact cQ _ _))
    refine wpQuiet_nil ?_
    rintro w2 ⟨p, rfl⟩
    have hb2 := below_regrown wr p.d p.os
    cases hq : eqB xs[k] ys[k]
    ·go_wp2_with fail
     go_ret
     exact ⟨ret_bool (eqB_get hkl hkl' (fun e => by rw [eqB_true e] at hq; cases hq)).symm, bthen hbel hb2⟩
    ·go_wp2_with fail
     go_roundw
     case rel => exact ⟨k + 1, by omega, by go_num, take_eq_succ hkl hkl' HT.out (eqB_iff.1 hq), bthen hbel hb2⟩
     case measure => simp [intOf]; omega
   ·obtain rfl : k = xs.length := by omega
    go_wp2_with fail
    go_ret
    exact ⟨ret_bool (eqB_true (by have h1 := HT.out; have h2 := HN.out; rw [List.take_length, h2, List.take_length] at h1; exact h1)).symm, hbel⟩
end Go.Proofs.YtggelmbnliajeaaDoor
namespace Go.Proofs.YtggelmbnliajeaaDoor
open Go.RowKit Go.Sort
theorem wrap64_id {n : Int} (h0 : -1000000000000000000 ≤ n) (h1 : n ≤ 1000000000000000000) : wrap64 n = n := by unfold wrap64; omega
theorem pow_nn {s : Int} (h : 0 ≤ s) : ∀ k : Nat, 0 ≤ s ^ k
 | 0 => by rw [Int.pow_zero]; decide
 | k + 1 => by rw [Int.pow_succ]; exact Int.mul_nonneg (pow_nn h k) h
theorem pow_mono {s : Int} (h : 0 ≤ s) (h1 : s ≤ 1000) : ∀ k : Nat, s ^ k ≤ 1000 ^ k
 | 0 => by rw [Int.pow_zero, Int.pow_zero]; exact Int.le_refl _
 | k + 1 => by
  rw [Int.pow_succ, Int.pow_succ]
  exact Int.mul_le_mul (pow_mono h h1 k) h1 h (pow_nn (by decide) k)
theorem pow_le {s : Int} (h : 0 ≤ s) (h1 : s ≤ 1000) {k : Nat} (hk : k ≤ 5) : s ^ k ≤ 1000000000000000 := by
 refine Int.le_trans (pow_mono h h1 k) ?_
 rcases (show k = 0 ∨ k = 1 ∨ k = 2 ∨ k = 3 ∨ k = 4 ∨ k = 5 by omega) with rfl | rfl | rfl | rfl | rfl | rfl <;> decide
theorem pow_mono' {s c : Int} (h : 0 ≤ s) (h1 : s ≤ c) : ∀ k : Nat, s ^ k ≤ c ^ k
 | 0 => by rw [Int.pow_zero, Int.pow_zero]; exact Int.le_refl _
 | k + 1 => by
  rw [Int.pow_succ, Int.pow_succ]
  exact Int.mul_le_mul (pow_mono' h h1 k) h1 h (pow_nn (by omega) k)
set_option maxHeartbeats 800000 in
theorem power_any (w : World) (s m : Int) (hs : 0 ≤ s) (hs1 : s ≤ 1000) (hm : m ≤ 5) :
  Calls Tryd.prog 56 #[.int .i64 s, .int .i64 m] w fun e w' => e = .returned (.int .i64 (s ^ m.toNat)) ∧ w = w' := by
 go_enter Tryd.func56, Tryd.ntmps56
 go_wp2_with fail
 go_loop [7, 5] (fun i o => ∃ k : Nat, k ≤ m.toNat ∧ i = .int .i64 k ∧ o = .int .i64 (s ^ k)) (fun i _ => m.toNat - (intOf i).toNat)
 case atStart => exact ⟨0, Nat.zero_le _, rfl, by simp⟩
 case round =>
  obtain ⟨k, hk, rfl, rfl⟩ := hrel
  by_cases hkl : (k : Int) < m
  ·have h1 := pow_nn hs (k + 1)
   have h2 := pow_le hs hs1 (k := k + 1) (by omega)
   have HM : Hid (wrap64 (s ^ k * s) = s ^ (k + 1)) := by
    unfold Hid
    rw [← Int.pow_succ]; exact wrap64_id (Int.le_trans (by decide) h1) (Int.le_trans h2 (by decide))
   clear h1 h2
   go_wp2_with fail
   go_round
   case rel => exact ⟨k + 1, by omega, by go_num, by first | exact congrArg _ HM.out | (rw [← HM.out]; go_num)⟩
   case measure => simp [intOf]; omega
  ·obtain rfl : k = m.toNat := by omega
   go_wp2_with fail
   go_ret
   exact ⟨rfl, rfl⟩
set_option maxHeartbeats 800000 in
theorem l01Power_any (w : World) (s m : Int) (hs : 0 ≤ s) (hs1 : s ≤ 1000) (hm : m ≤ 5) :
  Calls Tryd.prog 35 #[.int .i64 s, .int .i64 m] w fun e w' => e = .returned (.int .i64 (s ^ m.toNat)) ∧ w = w' := by
 by_cases hm0 : m ≤ 0
 ·obtain h0 : m.toNat = 0 := by omega
  have HZ : Hid (s ^ m.toNat = 1) := by unfold Hid; rw [h0, Int.pow_zero]
  clear h0
  go_enter Tryd.func35, Tryd.ntmps35
  go_wp2_with fail
  go_loop [1, 5] (fun i o => i = .int .i64 m ∧ o = .int .i64 1) (fun i _ => (intOf i).toNat)
  case atStart => exact ⟨rfl, rfl⟩
  case round =>
   obtain ⟨rfl, rfl⟩ := hrel
   go_wp2_with fail
   go_ret
   exact ⟨ret_int HZ.out.symm, rfl⟩
 go_enter Tryd.func35, Tryd.ntmps35
 go_wp2_with fail
 go_loop [1, 5] (fun i o => ∃ k : Nat, k ≤ m.toNat ∧ i = .int .i64 (m - k) ∧ o = .int .i64 (s ^ k)) (fun i _ => (intOf i).toNat)
 case atStart => exact ⟨0, Nat.zero_le _, by simp, by simp⟩
 case round =>
  obtain ⟨k, hk, rfl, rfl⟩ := hrel
  by_cases hkl : (k : Int) < m
  ·have h1 := pow_nn hs (k + 1)
   have h2 := pow_le hs hs1 (k := k + 1) (by omega)
   have HM : Hid (wrap64 (s ^ k * s) = s ^ (k + 1)) := by
    unfold Hid
    rw [← Int.pow_succ]; exact wrap64_id (Int.le_trans (by decide) h1) (Int.le_trans h2 (by decide))
   clear h1 h2
   go_wp2_with fail
   go_round
   case rel => exact ⟨k + 1, by omega, by go_num, by first | exact congrArg _ HM.out | (rw [← HM.out]; go_num)⟩
   case measure => simp [intOf]; omega
  ·have hkm : (k : Int) = m := by omega
   have HK : Hid (s ^ k = s ^ m.toNat) := by unfold Hid; rw [show k = m.toNat by omega]
   go_wp2_with fail
   go_ret
   exact ⟨ret_int HK.out, rfl⟩
/-- a list's index in the order of lists -/
def idxL (s : Int) : Int → List Int → Int
 | acc, [] => acc
 | acc, a :: r => idxL s (acc * s + a) r
theorem idxL_append (s acc : Int) : ∀ (xs ys : List Int), idxL s acc (xs ++ ys) = idxL s (idxL s acc xs) ys := by
 intro xs
 induction xs generalizing acc with
 | nil => intro ys; rfl
 | cons a r ih => intro ys; exact ih _ ys
theorem idxL_take {s : Int} {xs : List Int} {k : Nat} (h : k < xs.length) : idxL s 0 (xs.take (k + 1)) = idxL s 0 (xs.take k) * s + xs[k] := by
 rw [List.take_succ_eq_append_getElem h, idxL_append]
 rfl
theorem idx_bd {s : Int} (hs : 1 ≤ s) {xs : List Int} (h : ∀ a ∈ xs, 0 ≤ a ∧ a ≤ s - 1) : ∀ k, k ≤ xs.length → 0 ≤ idxL s 0 (xs.take k) ∧ idxL s 0 (xs.take k) ≤ s ^ k - 1
 | 0, _ => by simp [idxL]
 | k + 1, hk => by
  have ih := idx_bd hs h k (by omega)
  have ha := h xs[k] (List.getElem_mem hk)
  have h1 := Int.mul_le_mul_of_nonneg_right ih.2 (show (0 : Int) ≤ s by omega)
  have h2 : (s ^ k - 1) * s = s ^ (k + 1) - s := by rw [Int.sub_mul, Int.pow_succ, Int.one_mul]
  have h3 := Int.mul_nonneg ih.1 (show (0 : Int) ≤ s by omega)
  rw [idxL_take hk]
  rw [h2] at h1
  generalize s ^ (k + 1) = P at *
  generalize idxL s 0 (xs.take k) * s = Q at *
  constructor <;> omega
set_option maxHeartbeats 800000 in
theorem l01Code_any (w : World) (s : Int) {v : Value} {xs : List Int} (h : intsT.Rd w [v] xs) (hs : 1 ≤ s) (hs1 : s ≤ 1000) (hl5 : xs.length ≤ 5) (hin : ∀ a ∈ xs, 0 ≤ a ∧ a ≤ s - 1) :
  Calls Tryd.prog 73 #[.int .i64 s, v] w fun e w' => e = .returned (.int .i64 (idxL s 0 xs)) ∧ w = w' := by
 obtain ⟨ad, cap, hv, hl, hc, hcell⟩ := ints_ex h
 obtain rfl : v = _ := by simpa using hv
 have HIN := Lib.hid hin
 clear h hv hin
 go_enter Tryd.func73, Tryd.ntmps73
 go_wp2_with fail
 go_loop [6, 5] (fun i o => ∃ k : Nat, k ≤ xs.length ∧ i = .int .i64 k ∧ o = .int .i64 (idxL s 0 (xs.take k))) (fun i _ => xs.length - (intOf i).toNat)
 case atStart => exact ⟨0, Nat.zero_le _, rfl, by simp [idxL]⟩
 case round =>
  obtain ⟨k, hk, rfl, rfl⟩ := hrel
  by_cases hkl : k < xs.length
  ·obtain ⟨b, o, rfl, hb, hce⟩ := hcell (by omega)
   have e0 := (hce k hkl).2
   have b0 := idx_bd hs HIN.out k hk
   have b1 := idx_bd hs HIN.out (k + 1) hkl
   have p0 := pow_le (s := s) (by omega) hs1 (k := k + 1) (by omega)
   have ha := HIN.out xs[k] (List.getElem_mem hkl)
   have hr := idxL_take (s := s) hkl
   have HM : Hid (wrap64 (wrap64 (idxL s 0 (xs.take k) * s) + xs[k]) = idxL s 0 (xs.take (k + 1))) := by
    unfold Hid
    have hq := Int.mul_nonneg b0.1 (show (0 : Int) ≤ s by omega)
    rw [hr] at b1 ⊢
    generalize s ^ (k + 1) = P at *
    generalize idxL s 0 (xs.take k) * s = Q at *
    rw [wrap64_id (n := Q) (by omega) (by omega), wrap64_id (by omega) (by omega)]
   clear hcell hce b0 b1 p0 ha hr
   go_wp2_with fail
   go_round
   case rel => exact ⟨k + 1, by omega, by go_num, by first | exact congrArg _ HM.out | (rw [← HM.out]; go_num)⟩
   case measure => simp [intOf]; omega
  ·obtain rfl : k = xs.length := by omega
   clear hcell
   rw [List.take_length]
   go_wp2_with fail
   go_ret
   exact ⟨rfl, rfl⟩
end Go.Proofs.YtggelmbnliajeaaDoor
namespace Go.Proofs.YtggelmbnliajeaaDoor
open Go.RowKit Go.Sort
/-- a row of numbers of the call's own, made and then written at places -/
def IR (e base : Nat) (w : World) (g n cap : Nat) (L : List Int) : Prop := L.length = n ∧ (∀ a ∈ L, I64 a) ∧ base ≤ g ∧ w.ownsRow base e 1 (.slice (some ⟨g, 0, none⟩) n cap) n (L.map (Value.int .i64))
section
variable {e base g n cap : Nat} {w w' : World} {L : List Int}
theorem IR.cell (h : IR e base w g n cap L) {j : Nat} (hj : j < n) : ∃ u, w.cell? ⟨g, j, none⟩ = some u := by
 rw [World.ownsRow.cellAt h.2.2.2 j (by omega)]
 exact ⟨_, List.getElem?_eq_getElem (by rw [List.length_map, h.1]; exact hj)⟩
theorem IR.free (h : IR e base w g n cap L) (j : Nat) : w.frozen? ⟨g, j, none⟩ = false := World.ownsRow.frozenAt h.2.2.2 j
theorem IR.lt (h : IR e base w g n cap L) : g < w.heap.size := (h.2.2.2.lt g rfl).2
theorem IR.set (h : IR e base w g n cap L) (j : Nat) {a : Int} (ha : I64 a) : IR e base (w.setCell ⟨g, j, none⟩ (.int .i64 a)) g n cap (L.set j a) := by
 refine ⟨by rw [List.length_set]; exact h.1, fun b hb => ?_, h.2.2.1, ?_⟩
 ·rcases List.mem_or_eq_of_mem_set hb with hb | rfl
  ·exact h.2.1 b hb
  ·exact ha
 ·rw [List.map_set]
  exact (h.2.2.2.stored j _).1
theorem IR.fr (h : IR e base w g n cap L) (hl : n ≤ capMax) : intsT.Fr base w [.slice (some ⟨g, 0, none⟩) n cap] L := by
 obtain ⟨h1, h2, h3, h4⟩ := h
 subst h1
 have hlt := (h4.lt g rfl).2
 have hfl : flat (fun _ => []) L.length = [] := List.eq_nil_iff_forall_not_mem.2 fun x hx => by obtain ⟨_, _, h⟩ := List.mem_flatMap.1 hx; cases h
 refine Bl.fr (E := Ty.int) (e := e) (top := w.heap.size) ⟨L.map (Value.int .i64), fun _ => [], h4, fun i hi => ⟨[.int .i64 L[i]], ⟨rfl, h2 _ (List.getElem_mem hi), rfl⟩, fun j hj => ?_⟩, by rw [hfl]; exact List.nodup_nil, by rw [hfl]; simp, fun g' hg' => ?_, by rw [hfl]; intro b hb; cases hb⟩ hl
 ·obtain rfl : j = 0 := by simpa using hj
  simp [Ty.int, hi]
 ·simp [Value.ownBlock] at hg'
  omega
end
theorem wpList_mkI {P : Program} (w : World) {ops : Array Oper} {rest : List Oper} {o : Oper} {a : Act} {Q : Exit → Act → World → Prop} (hg : o.guard = none) (l c : Operand) (t e : TypeId) {bytes : Nat}
  (hop : o.op = Op.makeSlice t l c) (ht : P.underlying t = some (.slice e)) (hinfo : (P.info? e).map (fun i => (i.zero, i.size, i.bytes)) = some (some (.int .i64 0), 1, bytes)) (base : Nat) (n : Nat) (hl : a.eval l = .int .i64 (n : Int)) (hc : a.eval c = .int .i64 (n : Int)) (hn : n ≤ 1000000000) (hby : bytes ≤ 100000) (hb : base ≤ w.heap.size)
  (hK : ∀ w', IR e base w' w.heap.size n n (List.replicate n 0) → w.grownBy w' none → w'.heap.size = w.heap.size + 1 → wpList P ops Q rest (a.put o.dst (.slice (some ⟨w.heap.size, 0, none⟩) n n)) w') :
  wpList P ops Q (o :: rest) a w := by
 obtain ⟨i, hi, hz, hsz, hbt'⟩ := info_parts hinfo
 have hlen' : bytes * n ≤ 281474976710656 := Nat.le_trans (Nat.mul_le_mul hby hn) (by decide)
 refine wpList_plain hg fun K hK' => ?_
 have hb48 : (i.bytes : Int) * (n : Int) ≤ 281474976710656 := by
  have h : ((bytes * n : Nat) : Int) ≤ 281474976710656 := by omega
  rw [hbt']
  rwa [Int.natCast_mul] at h
 have hr := run_make (P := P) w t e i (.int .i64 0) ht hi hz .i64 .i64 (n : Int) (n : Int) (by omega) (Int.le_refl _) hb48 (by omega)
 simp only [Int.toNat_natCast] at hr
 unfold Oper.wp
 simp only [execOp, hop, hl, hc, hr, Result.andThen_ok, Sem.run_bind, Sem.run_pure]
 have hown := World.ownsRow_lit (base := base) (e := e) (size := 1) w (madeCells (Value.int .i64 0).cells (n * i.size)) n hb (by unfold maxLen; omega) (by rw [size_madeCells, hsz])
 refine hK' _ _ (hK _ ⟨by simp, fun a ha => ?_, hb, ?_⟩ (World.grownBy_alloc w _ none) (by simp))
 ·rw [List.eq_of_mem_replicate ha]; exact I64.small (by omega) (by omega)
 ·have e1 : (madeCells (Value.int .i64 0).cells (n * i.size)).toList = (List.replicate n (0 : Int)).map (Value.int .i64) := by
   rw [hsz, Nat.mul_one, List.map_replicate]
   have hc0 : (Value.int .i64 0).cells = #[.int .i64 0] := by simp [Value.cells]
   rw [hc0]
   exact toList_madeCells_one (.int .i64 0) n
  rw [← e1]
  exact hown
def dig (s idx : Int) (j : Nat) : Int := (idx / s ^ j) % s
def digL (s idx : Int) (n : Nat) : List Int := (List.range n).map fun i => dig s idx (n - 1 - i)
theorem digL_len {s idx : Int} {n : Nat} : (digL s idx n).length = n := by simp [digL]
theorem dig_nn {s idx : Int} (hs : 1 ≤ s) (j : Nat) : 0 ≤ dig s idx j ∧ dig s idx j < s := ⟨Int.emod_nonneg _ (by omega), Int.emod_lt_of_pos _ (by omega)⟩
theorem quo_nn {s idx : Int} (hs : 1 ≤ s) (h : 0 ≤ idx) (j : Nat) : 0 ≤ idx / s ^ j ∧ idx / s ^ j ≤ idx := by
 have h1 : 0 ≤ s ^ j := pow_nn (by omega) j
 exact ⟨Int.ediv_nonneg h h1, Int.ediv_le_self _ h⟩
theorem quo_succ {s idx : Int} (hs : 1 ≤ s) (j : Nat) : idx / s ^ j / s = idx / s ^ (j + 1) := by
 rw [Int.pow_succ, Int.ediv_ediv_of_nonneg (pow_nn (by omega) j)]
theorem infoInt : (Tryd.prog.info? 2).map (fun i => (i.zero, i.size, i.bytes)) = some (some (.int .i64 0), 1, 8) := by kernel_rfl
set_option maxHeartbeats 800000 in
set_option maxRecDepth 100000 in
theorem listOf_any (w : World) (s idx : Int) (n : Nat) (hs : 1 ≤ s) (hs1 : s ≤ 1000) (hn : n ≤ 5) (h0 : 0 ≤ idx) (h1 : idx ≤ 1000000000000000) :
  Calls Tryd.prog 57 #[.int .i64 s, .int .i64 n, .int .i64 idx] w (RetS intsT w (digL s idx n)) := by
 go_enter Tryd.func57, Tryd.ntmps57
 go_wp2_with (refine wpList_mkI _ rfl _ _ 32 2 rfl Tryd.underlying32 infoInt w.heap.size n rfl rfl (by omega) (by decide) (by simp) ?_; intro w1 hA hg1 hs1)
 have hb1 := below_of_grown hg1
 go_loopw [8, 2] (fun i q wr => ∃ (k : Nat) (L : List Int), k ≤ n ∧ i = .int .i64 ((n : Int) - 1 - k) ∧ q = .int .i64 (idx / s ^ k) ∧ IR 2 w.heap.size wr w.heap.size n n L ∧ (∀ (j : Nat) (h : j < L.length), n - k ≤ j → L[j] = dig s idx (n - 1 - j)) ∧ Below w.heap.size w wr) (fun i _ _ => ((intOf i) + 1).toNat)
 case atStart => exact ⟨0, _, Nat.zero_le _, by simp, by simp, hA, fun j h hj => by simp at h; omega, hb1⟩
 case round =>
  obtain ⟨k, L, hk, rfl, rfl, hIR, hL, hbel⟩ := hrel
  have hLl := hIR.1
  by_cases hkl : k < n
  ·obtain ⟨j, hj⟩ : ∃ j : Nat, (n : Int) - 1 - k = j := ⟨n - 1 - k, by omega⟩
   have hjn : j < n := by omega
   have hjk : n - 1 - j = k := by omega
   obtain ⟨u0, d0⟩ := hIR.cell hjn
   have d1 := hIR.free j
   have hg := hIR.lt
   have hd := dig_nn (idx := idx) hs k
   have hq := quo_nn hs h0 k
   have hIs := hIR.set j (I64.small (n := dig s idx k) (by omega) (by omega))
   have HQ := Lib.hid (quo_succ (idx := idx) hs k)
   have HDG : Hid ((idx / s ^ k) % s = dig s idx k) := rfl
   have HIS := Lib.hid hIs
   have HLL := Lib.hid hL
   have HIR := Lib.hid hIR
   clear hIs hL hIR hA
   rw [hj]
   go_wp2_with fail
   refine ⟨⟨k + 1, L.set j (dig s idx k), by omega, congrArg _ (by omega), by rw [HQ.out], HIS.out, fun j' h hj' => ?_, hbel.setCell (Nat.le_refl _) _⟩, by simp [intOf]⟩
   by_cases e : j = j'
   ·subst e
    rw [List.getElem_set_self, hjk]
   ·rw [List.getElem_set_ne e]
    exact HLL.out j' (by simpa using h) (by omega)
  ·obtain rfl : k = n := by omega
   have hfr := Lib.hid (hIR.fr (by unfold capMax; omega))
   have HE : Hid (L = digL s idx k) := List.ext_getElem (by rw [hLl, digL_len]) fun j h h' => by rw [hL j h (by omega)]; simp [digL]
   clear hIR hL hA
   go_wp2_with fail
   go_ret
   exact ⟨_, rfl, by rw [← HE.out]; exact hfr.out, hbel⟩
set_option maxHeartbeats 800000 in
set_option maxRecDepth 100000 in
theorem l01Digits_any (w : World) (s idx : Int) (n : Nat) (hs : 1 ≤ s) (hs1 : s ≤ 1000) (hn : n ≤ 5) (h0 : 0 ≤ idx) (h1 : idx ≤ 1000000000000000) :
  Calls Tryd.prog 36 #[.int .i64 s, .int .i64 n, .int .i64 idx] w (RetS intsT w (digL s idx n)) := by
 go_enter Tryd.func36, Tryd.ntmps36
 go_wp2_with (refine wpList_mkI _ rfl _ _ 32 2 rfl Tryd.underlying32 infoInt w.heap.size n rfl rfl (by omega) (by decide) (by simp) ?_; intro w1 hA hg1 hs1)
 have hb1 := below_of_grown hg1
 go_loopw [8, 2] (fun i q wr => ∃ (k : Nat) (L : List Int), k ≤ n ∧ i = .int .i64 ((n : Int) - 1 - k) ∧ q = .int .i64 (idx / s ^ k) ∧ IR 2 w.heap.size wr w.heap.size n n L ∧ (∀ (j : Nat) (h : j < L.length), n - k ≤ j → L[j] = dig s idx (n - 1 - j)) ∧ Below w.heap.size w wr) (fun i _ _ => ((intOf i) + 1).toNat)
 case atStart => exact ⟨0, _, Nat.zero_le _, by simp, by simp, hA, fun j h hj => by simp at h; omega, hb1⟩
 case round =>
  obtain ⟨k, L, hk, rfl, rfl, hIR, hL, hbel⟩ := hrel
  have hLl := hIR.1
  by_cases hkl : k < n
  ·obtain ⟨j, hj⟩ : ∃ j : Nat, (n : Int) - 1 - k = j := ⟨n - 1 - k, by omega⟩
   have hjn : j < n := by omega
   have hjk : n - 1 - j = k := by omega
   obtain ⟨u0, d0⟩ := hIR.cell hjn
   have d1 := hIR.free j
   have hg := hIR.lt
   have hd := dig_nn (idx := idx) hs k
   have hq := quo_nn hs h0 k
   have hIs := hIR.set j (I64.small (n := dig s idx k) (by omega) (by omega))
   have HQ := Lib.hid (quo_succ (idx := idx) hs k)
   have HDG : Hid ((idx / s ^ k) % s = dig s idx k) := rfl
   have HIS := Lib.hid hIs
   have HLL := Lib.hid hL
   have HIR := Lib.hid hIR
   clear hIs hL hIR hA
   rw [hj]
   go_wp2_with fail
   refine ⟨⟨k + 1, L.set j (dig s idx k), by omega, congrArg _ (by omega), by rw [HQ.out], HIS.out, fun j' h hj' => ?_, hbel.setCell (Nat.le_refl _) _⟩, by simp [intOf]⟩
   by_cases e : j = j'
   ·subst e
    rw [List.getElem_set_self, hjk]
   ·rw [List.getElem_set_ne e]
    exact HLL.out j' (by simpa using h) (by omega)
  ·obtain rfl : k = n := by omega
   have hfr := Lib.hid (hIR.fr (by unfold capMax; omega))
   have HE : Hid (L = digL s idx k) := List.ext_getElem (by rw [hLl, digL_len]) fun j h h' => by rw [hL j h (by omega)]; simp [digL]
   clear hIR hL hA
   go_wp2_with fail
   go_ret
   exact ⟨_, rfl, by rw [← HE.out]; exact hfr.out, hbel⟩
end Go.Proofs.YtggelmbnliajeaaDoor
namespace Go.Proofs.YtggelmbnliajeaaDoor
open Go.RowKit Go.Sort
set_option maxHeartbeats 400000 in
theorem l01Before_quiet (w : World) {v u : Value} {xs ys : List Int} (h : intsT.Rd w [v] xs) (h' : intsT.Rd w [u] ys) (hn : xs.length ≤ ys.length) (hs : xs.length = ys.length) :
  Calls Tryd.prog 33 #[v, u] w fun e w' => e = .returned (.bool (tb (ltL xs ys))) ∧ Quiet w w' := by
 obtain ⟨ad, cap, hv, hl, hc, hcell⟩ := ints_ex h
 obtain ⟨ad', cap', hv', hl', hc', hcell'⟩ := ints_ex h'
 obtain rfl : v = _ := by simpa using hv
 obtain rfl : u = _ := by simpa using hv'
 have HS := Lib.hid hs
 clear h hv h' hv' hs
 go_enter Tryd.func33, Tryd.ntmps33
 go_wp2_with fail
 go_loopw [5] (fun i wr => ∃ k : Nat, k ≤ xs.length ∧ i = .int .i64 k ∧ xs.take k = ys.take k ∧ Quiet w wr) (fun i _ => xs.length - (intOf i).toNat)
 case atStart => exact ⟨0, Nat.zero_le _, rfl, rfl, Quiet.refl _⟩
 case round =>
  obtain ⟨k, hk, rfl, ht, nq, rfl⟩ := hrel
  have HT := Lib.hid ht
  clear ht
  by_cases hkl : k < xs.length
  ·have hkl' : k < ys.length := by omega
   obtain ⟨b, o, rfl, hb, hce⟩ := hcell (by omega)
   obtain ⟨b', o', rfl, hb', hce'⟩ := hcell' (by omega)
   have d0 := (hce k hkl).2
   have d1 := (hce' k hkl').2
   clear hce hce' hcell hcell'
   cases hq : (xs[k] != ys[k])
   ·go_wp2_with fail
    go_quiet (fail)
    go_wp2_with fail
    go_roundw
    case rel => exact ⟨k + 1, by omega, by go_num, take_eq_succ hkl hkl' HT.out (by simpa using hq), (by first | exact Quiet.refl _ | exact Quiet.drewN _ _ | exact (Quiet.drewN _ _).then (Quiet.drewN _ _) | exact ((Quiet.drewN _ _).then (Quiet.drewN _ _)).then (Quiet.drewN _ _))⟩
    case measure => simp [intOf]; omega
   ·have hc := cmpL_ne HT.out hkl hkl' (by simpa using hq)
    have hr : decide (xs[k] < ys[k]) = tb (ltL xs ys) := by
     rw [Bool.eq_iff_iff, tb_iff, ltL, hc, decide_eq_true_iff]
     rcases ilt xs[k] ys[k] with h | h
     ·rw [cmpI_lt h]; simp [h]
     ·have hne : xs[k] ≠ ys[k] := by simpa using hq
      rw [cmpI_gt (by omega)]; simp; omega
    have HR := Lib.hid hr
    clear hr hc
    go_wp2_with fail
    go_quiet (fail)
    go_wp2_with fail
    go_quiet (fail)
    go_wp2_with fail
    go_ret
    exact ⟨ret_bool HR.out, (by first | exact Quiet.refl _ | exact Quiet.drewN _ _ | exact (Quiet.drewN _ _).then (Quiet.drewN _ _) | exact ((Quiet.drewN _ _).then (Quiet.drewN _ _)).then (Quiet.drewN _ _))⟩
  ·obtain rfl : k = xs.length := by omega
   go_wp2_with fail
   go_ret
   have e : xs = ys := by have := HT.out; rwa [List.take_length, HS.out, List.take_length] at this
   exact ⟨ret_bool (tb_false (by rw [e, ltL, cmpL_self]; omega)).symm, (by first | exact Quiet.refl _ | exact Quiet.drewN _ _ | exact (Quiet.drewN _ _).then (Quiet.drewN _ _) | exact ((Quiet.drewN _ _).then (Quiet.drewN _ _)).then (Quiet.drewN _ _))⟩
end Go.Proofs.YtggelmbnliajeaaDoor
namespace Go.Proofs.YtggelmbnliajeaaDoor
open Go.RowKit Go.Sort
end Go.Proofs.YtggelmbnliajeaaDoor
namespace Go.Proofs.YtggelmbnliajeaaDoor
open Go.RowKit Go.Sort
end Go.Proofs.YtggelmbnliajeaaDoor
namespace Go.Proofs.YtggelmbnliajeaaDoor
open Go.RowKit Go.Sort
theorem pure_below {P : Program} {f : FuncId} {args : Array Value} {w : World} {v : Value} (h : Calls P f args w fun e w' => e = .returned v ∧ w = w') :
  Calls P f args w fun e w' => e = .returned v ∧ Below w.heap.size w w' := h.mono fun _ _ ⟨he, hw⟩ => ⟨he, hw ▸ Below.refl _ _⟩
end Go.Proofs.YtggelmbnliajeaaDoor
namespace Go.Proofs.YtggelmbnliajeaaDoor
open Go.RowKit Go.Sort
theorem pure_drawn {P : Program} {f : FuncId} {args : Array Value} {w : World} {n : Nat} {v : Value} (h : Calls P f args (w.drewN n) fun e w' => e = .returned v ∧ w.drewN n = w') :
  Calls P f args (w.drewN n) fun e w'' => e = .returned v ∧ ∃ m, w'' = w.drewN m := h.mono fun _ _ ⟨he, hw⟩ => ⟨he, n, hw.symm⟩
theorem noneB_all {α : Type} {p : α → Prop} {xs : List α} (h : noneB (fun c => !tb (p c)) (xs.take xs.length)) : ∀ c ∈ xs, p c := fun c hc => by
 have := h c (by rw [List.take_length]; exact hc)
 simpa [tb_iff] using this
end Go.Proofs.YtggelmbnliajeaaDoor
namespace Go.Proofs.YtggelmbnliajeaaDoor
open Go.RowKit Go.Sort
def opOk (s : Int) (f : Int × List Int) : Prop := sizeOk s ∧ (1 ≤ f.1 ∧ f.1 ≤ 3) ∧ rowOk s (s ^ f.1.toNat) f.2
set_option maxHeartbeats 1600000 in
set_option maxRecDepth 100000 in
theorem ValidOp_any (w : World) {cs : Array Value} {f : Int × List Int} (h : opT.Rd w cs.toList f) (s : Int) :
  Calls Tryd.prog 42 #[.int .i64 s, .agg cs] w fun e w' => e = .returned (.bool (tb (opOk s f))) ∧ Below w.heap.size w w' := by
 obtain ⟨u, hv, hI, hx⟩ := pair_ex h
 obtain rfl := agg_of hv
 obtain ⟨ad, cap, rfl⟩ := rd_slice hx
 clear h hv
 cases h1 : inB s 1 4
 ·have HR : Hid (false = tb (opOk s f)) := (tb_false (fun hh => by have := inB_true.2 hh.1; rw [h1] at this; cases this)).symm
  go_enter Tryd.func42, Tryd.ntmps42
  go_wp2_with fail
  generalize hW : w.alloc _ = wr
  have hB : Below w.heap.size w wr := hW ▸ bA
  clear hW
  have cS : ∀ d os, Calls Tryd.prog 39 #[.int .i64 s] (grow (redrawn wr d) os) fun e w'' => e = .returned (.bool (inB s 1 4)) ∧ ∃ p : Regrown, w'' = grow (redrawn wr p.d) p.os := fun d os =>
   Calls.regrown_of (pure_below (isSize_any _ _))
  rw [h1] at cS
  refine wp_region_quiet_below (by kernel_rfl) (by kernel_rfl) ?_
  repeat (go_big_quiet_step (exact cS _ _))
  refine wpQuiet_nil ?_
  rintro w2 ⟨p, rfl⟩
  have hb2 := below_regrown wr p.d p.os
  go_wp2_with fail
  go_ret
  exact ⟨ret_bool HR.out, bthen hB hb2⟩
 have hs := inB_true.1 h1
 cases h2 : inB f.1 1 3
 ·have HR : Hid (false = tb (opOk s f)) := (tb_false (fun hh => by have := inB_true.2 hh.2.1; rw [h2] at this; cases this)).symm
  go_enter Tryd.func42, Tryd.ntmps42
  go_wp2_with fail
  generalize hW : w.alloc _ = wr
  have hB : Below w.heap.size w wr := hW ▸ bA
  have e0 : wr.cell? ⟨w.heap.size, 0, none⟩ = some (.int .i64 f.1) := by rw [← hW]; simp
  clear hW
  have k0 := cell_regrown e0
  have cS : ∀ d os, Calls Tryd.prog 39 #[.int .i64 s] (grow (redrawn wr d) os) fun e w'' => e = .returned (.bool (inB s 1 4)) ∧ ∃ p : Regrown, w'' = grow (redrawn wr p.d) p.os := fun d os =>
   Calls.regrown_of (pure_below (isSize_any _ _))
  have cA : ∀ d os, Calls Tryd.prog 19 #[.int .i64 f.1] (grow (redrawn wr d) os) fun e w'' => e = .returned (.bool (inB f.1 1 3)) ∧ ∃ p : Regrown, w'' = grow (redrawn wr p.d) p.os := fun d os =>
   Calls.regrown_of (pure_below (isOpArity_any _ _))
  rw [h1] at cS
  rw [h2] at cA
  refine wp_region_quiet_below (by kernel_rfl) (by kernel_rfl) ?_
  repeat (go_big_quiet_step (first | exact cS _ _ | exact cA _ _))
  refine wpQuiet_nil ?_
  rintro w2 ⟨p, rfl⟩
  have hb2 := below_regrown wr p.d p.os
  go_wp2_with fail
  go_ret
  exact ⟨ret_bool HR.out, bthen hB hb2⟩
 have ha := inB_true.1 h2
 have HR : Hid (tb (rowOk s (s ^ f.1.toNat) f.2) = tb (opOk s f)) := tb_congr ⟨fun hh => ⟨hs, ha, hh⟩, fun hh => hh.2.2⟩
 go_enter Tryd.func42, Tryd.ntmps42
 go_wp2_with fail
 generalize hW : w.alloc _ = wr
 have hB : Below w.heap.size w wr := hW ▸ bA
 have e0 : wr.cell? ⟨w.heap.size, 0, none⟩ = some (.int .i64 f.1) := by rw [← hW]; simp
 have e1 : wr.cell? ⟨w.heap.size, 1, none⟩ = some (.slice ad f.2.length cap) := by rw [← hW]; simp
 have hxr := hx.below hB
 clear hW
 have k0 := cell_regrown e0
 have k1 := cell_regrown e1
 have cS : ∀ d os, Calls Tryd.prog 39 #[.int .i64 s] (grow (redrawn wr d) os) fun e w'' => e = .returned (.bool (inB s 1 4)) ∧ ∃ p : Regrown, w'' = grow (redrawn wr p.d) p.os := fun d os =>
  Calls.regrown_of (pure_below (isSize_any _ _))
 have cA : ∀ d os, Calls Tryd.prog 19 #[.int .i64 f.1] (grow (redrawn wr d) os) fun e w'' => e = .returned (.bool (inB f.1 1 3)) ∧ ∃ p : Regrown, w'' = grow (redrawn wr p.d) p.os := fun d os =>
  Calls.regrown_of (pure_below (isOpArity_any _ _))
 have cP : ∀ d os, Calls Tryd.prog 56 #[.int .i64 s, .int .i64 f.1] (grow (redrawn wr d) os) fun e w'' => e = .returned (.int .i64 (s ^ f.1.toNat)) ∧ ∃ p : Regrown, w'' = grow (redrawn wr p.d) p.os := fun d os =>
  Calls.regrown_of (pure_below (power_any _ _ _ (by omega) (by omega) (by omega)))
 have cV : ∀ d os, Calls Tryd.prog 55 #[.int .i64 s, .slice ad f.2.length cap, .int .i64 (s ^ f.1.toNat)] (grow (redrawn wr d) os) fun e w'' => e = .returned (.bool (tb (rowOk s (s ^ f.1.toNat) f.2))) ∧ ∃ p : Regrown, w'' = grow (redrawn wr p.d) p.os := fun d os =>
  Calls.regrown_of (areValues_any _ (hxr.below (below_regrown wr d os)) _ _ (by omega) (by omega))
 rw [h1] at cS
 rw [h2] at cA
 refine wp_region_quiet_below (by kernel_rfl) (by kernel_rfl) ?_
 repeat (go_big_quiet_step (first | exact cS _ _ | exact cA _ _ | exact cP _ _ | exact cV _ _))
 refine wpQuiet_nil ?_
 rintro w2 ⟨p, rfl⟩
 have hb2 := below_regrown wr p.d p.os
 go_wp2_with fail
 go_ret
 exact ⟨ret_bool HR.out, bthen hB hb2⟩
set_option maxHeartbeats 1600000 in
set_option maxRecDepth 100000 in
theorem l02Ok_quiet (w : World) {v : Value} {f : Int × List Int} (h : opT.Pt w v f) (s : Int) :
  Calls Tryd.prog 30 #[.int .i64 s, v] w fun e w' => e = .returned (.bool (tb (opOk s f))) ∧ Quiet w w' := by
 obtain ⟨b, o, ad, cap, rfl, hb, hI, c0, c1, hx⟩ := pt_pair h
 clear h
 obtain ⟨_, _, e1, hle, hle2, hcell⟩ := ints_ex hx
 simp only [List.cons.injEq, Value.slice.injEq, and_true, true_and] at e1
 obtain ⟨rfl, rfl⟩ := e1
 cases h1 : inB s 1 4
 ·have HR : Hid (false = tb (opOk s f)) := (tb_false (fun hh => by have := inB_true.2 hh.1; rw [h1] at this; cases this)).symm
  have cS : ∀ n, Calls Tryd.prog 31 #[.int .i64 s] (w.drewN n) fun e w'' => e = .returned (.bool (inB s 1 4)) ∧ ∃ m, w'' = w.drewN m := fun n => pure_drawn (l01Size_any _ _)
  rw [h1] at cS
  go_enter Tryd.func30, Tryd.ntmps30
  go_wp2_with fail
  go_quiet (exact cS _)
  go_wp2_with fail
  go_ret
  exact ⟨ret_bool HR.out, (by first | exact Quiet.refl _ | exact Quiet.drewN _ _ | exact (Quiet.drewN _ _).then (Quiet.drewN _ _) | exact ((Quiet.drewN _ _).then (Quiet.drewN _ _)).then (Quiet.drewN _ _))⟩
 have hs := inB_true.1 h1
 cases h2 : inB f.1 1 3
 ·have HR : Hid (false = tb (opOk s f)) := (tb_false (fun hh => by have := inB_true.2 hh.2.1; rw [h2] at this; cases this)).symm
  have cS : ∀ n, Calls Tryd.prog 31 #[.int .i64 s] (w.drewN n) fun e w'' => e = .returned (.bool (inB s 1 4)) ∧ ∃ m, w'' = w.drewN m := fun n => pure_drawn (l01Size_any _ _)
  have cA : ∀ n, Calls Tryd.prog 13 #[.int .i64 f.1] (w.drewN n) fun e w'' => e = .returned (.bool (inB f.1 1 3)) ∧ ∃ m, w'' = w.drewN m := fun n => pure_drawn (l02Arity_any _ _)
  rw [h1] at cS
  rw [h2] at cA
  go_enter Tryd.func30, Tryd.ntmps30
  go_wp2_with fail
  go_quiet (first | exact cS _ | exact cA _)
  go_wp2_with fail
  go_ret
  exact ⟨ret_bool HR.out, (by first | exact Quiet.refl _ | exact Quiet.drewN _ _ | exact (Quiet.drewN _ _).then (Quiet.drewN _ _) | exact ((Quiet.drewN _ _).then (Quiet.drewN _ _)).then (Quiet.drewN _ _))⟩
 have ha := inB_true.1 h2
 have cS : ∀ n, Calls Tryd.prog 31 #[.int .i64 s] (w.drewN n) fun e w'' => e = .returned (.bool (inB s 1 4)) ∧ ∃ m, w'' = w.drewN m := fun n => pure_drawn (l01Size_any _ _)
 have cA : ∀ n, Calls Tryd.prog 13 #[.int .i64 f.1] (w.drewN n) fun e w'' => e = .returned (.bool (inB f.1 1 3)) ∧ ∃ m, w'' = w.drewN m := fun n => pure_drawn (l02Arity_any _ _)
 have cP : ∀ n, Calls Tryd.prog 35 #[.int .i64 s, .int .i64 f.1] (w.drewN n) fun e w'' => e = .returned (.int .i64 (s ^ f.1.toNat)) ∧ ∃ m, w'' = w.drewN m := fun n => pure_drawn (l01Power_any _ _ _ (by omega) (by omega) (by omega))
 rw [h1] at cS
 rw [h2] at cA
 cases hl : ((f.2.length : Int) != s ^ f.1.toNat)
 rotate_left
 ·have HR : Hid (false = tb (opOk s f)) := (tb_false (fun hh => by have := hh.2.2.1; simp [this] at hl)).symm
  go_enter Tryd.func30, Tryd.ntmps30
  go_wp2_with fail
  go_quiet (first | exact cS _ | exact cA _ | exact cP _)
  go_wp2_with fail
  go_ret
  exact ⟨ret_bool HR.out, (by first | exact Quiet.refl _ | exact Quiet.drewN _ _ | exact (Quiet.drewN _ _).then (Quiet.drewN _ _) | exact ((Quiet.drewN _ _).then (Quiet.drewN _ _)).then (Quiet.drewN _ _))⟩
 have HLE : Hid ((f.2.length : Int) = s ^ f.1.toNat) := by unfold Hid; simpa using hl
 go_enter Tryd.func30, Tryd.ntmps30
 go_wp2_with fail
 go_quiet (first | exact cS _ | exact cA _ | exact cP _)
 clear cS cA cP hl
 go_wp2_with fail
 go_loopw [5] (fun i wr => ∃ k : Nat, k ≤ f.2.length ∧ i = .int .i64 k ∧ noneB (fun a => !inB a 0 (s - 1)) (f.2.take k) ∧ Quiet w wr) (fun i _ => f.2.length - (intOf i).toNat)
 case atStart => exact ⟨0, Nat.zero_le _, rfl, noneB_zero _ _, (by first | exact Quiet.refl _ | exact Quiet.drewN _ _ | exact (Quiet.drewN _ _).then (Quiet.drewN _ _) | exact ((Quiet.drewN _ _).then (Quiet.drewN _ _)).then (Quiet.drewN _ _))⟩
 case round =>
  obtain ⟨k, hk, rfl, ht, hqw⟩ := hrel
  have HT := Lib.hid ht
  have d0 := (hqw.below.cell hb).trans c0
  have d1 := (hqw.below.cell hb).trans c1
  clear ht c0 c1
  by_cases hkl : k < f.2.length
  ·obtain ⟨a, q, rfl, haa, hce⟩ := hcell (by omega)
   have e0 := (hqw.below.cell haa).trans (hce k hkl).2
   clear hcell hce
   cases hr : inB (f.2[k]) 0 (s - 1)
   ·have HR : Hid (false = tb (opOk s f)) := (tb_false (fun hh => by have := inB_true.2 (hh.2.2.2 _ (List.getElem_mem hkl)); rw [hr] at this; cases this)).symm
    go_wp2_with fail
    refine (l00In_any _ _ _ _).mono ?_
    rintro e _ ⟨rfl, rfl⟩
    rw [hr]
    go_wp2_with fail
    go_ret
    exact ⟨ret_bool HR.out, hqw⟩
   ·go_wp2_with fail
    refine (l00In_any _ _ _ _).mono ?_
    rintro e _ ⟨rfl, rfl⟩
    rw [hr]
    go_wp2_with fail
    go_roundw
    case rel => exact ⟨k + 1, by omega, by go_num, noneB_succ hkl HT.out (by rw [hr]; rfl), hqw⟩
    case measure => simp [intOf]; omega
  ·obtain rfl : k = f.2.length := by omega
   have HR : Hid (true = tb (opOk s f)) := (tb_true ⟨hs, ha, HLE.out, fun a ha' => by
    have := HT.out a (by rw [List.take_length]; exact ha')
    have h3 : inB a 0 (s - 1) = true := by simpa using this
    exact inB_true.1 h3⟩).symm
   clear hcell
   go_wp2_with fail
   go_ret
   exact ⟨ret_bool HR.out, hqw⟩
end Go.Proofs.YtggelmbnliajeaaDoor
namespace Go.Proofs.YtggelmbnliajeaaDoor
open Go.RowKit Go.Sort
/-- the values of tuples at a place -/
def colL (ts : List (List Int)) (p : Nat) : List Int := ts.map fun t => t.getD p 0
def madeV (s : Int) (tab : List Int) (ts : List (List Int)) (p : Nat) : Int := tab.getD (idxL s 0 (colL ts p)).toNat 0
def madeL (s : Int) (tab : List Int) (ts : List (List Int)) (m : Nat) : List Int := (List.range m).map fun p => madeV s tab ts p
theorem colL_len {ts : List (List Int)} {p : Nat} : (colL ts p).length = ts.length := by simp [colL]
theorem colL_get {ts : List (List Int)} {p k : Nat} (h : k < ts.length) (hp : p < (ts[k]).length) (h' : k < (colL ts p).length) : (colL ts p)[k] = (ts[k])[p] := by
 simp [colL, List.getD_eq_getElem?_getD, hp]
theorem madeL_len {s : Int} {tab : List Int} {ts : List (List Int)} {m : Nat} : (madeL s tab ts m).length = m := by simp [madeL]
/-- tuples that an operation may be applied to -/
def tupsOk (s ar : Int) (m : Nat) (ts : List (List Int)) : Prop := (ts.length : Int) = ar ∧ ∀ t ∈ ts, t.length = m ∧ ∀ a ∈ t, 0 ≤ a ∧ a ≤ s - 1
theorem colL_in {s ar : Int} {m p : Nat} {ts : List (List Int)} (h : tupsOk s ar m ts) (hp : p < m) : ∀ a ∈ colL ts p, 0 ≤ a ∧ a ≤ s - 1 := by
 intro a ha
 obtain ⟨t, ht, rfl⟩ := List.mem_map.1 ha
 obtain ⟨h1, h2⟩ := h.2 t ht
 have hl : p < t.length := by omega
 rw [List.getD_eq_getElem?_getD, List.getElem?_eq_getElem hl]
 exact h2 _ (List.getElem_mem hl)
/-- the index lies in the table, and what stands there -/
theorem madeV_get {s : Int} {f : Int × List Int} {ts : List (List Int)} {m p : Nat} (hf : opOk s f) (ht : tupsOk s f.1 m ts) (hp : p < m) :
  ∃ k : Nat, idxL s 0 (colL ts p) = k ∧ ∃ h : k < f.2.length, madeV s f.2 ts p = f.2[k] := by
 obtain ⟨⟨h1, h2⟩, ⟨h3, h4⟩, h5, h6⟩ := hf
 have hb := idx_bd h1 (colL_in ht hp) (colL ts p).length (Nat.le_refl _)
 rw [List.take_length, colL_len] at hb
 have hl := ht.1
 have he : s ^ ts.length = f.2.length := by rw [h5, ← hl, Int.toNat_natCast]
 rw [he] at hb
 refine ⟨(idxL s 0 (colL ts p)).toNat, by omega, by omega, ?_⟩
 have hk : (idxL s 0 (colL ts p)).toNat < f.2.length := by omega
 rw [madeV, List.getD_eq_getElem?_getD, List.getElem?_eq_getElem hk]
 rfl
set_option maxHeartbeats 1600000 in
set_option maxRecDepth 100000 in
theorem made_any (w : World) {cs : Array Value} {f : Int × List Int} (h : opT.Rd w cs.toList f) {v : Value} {ts : List (List Int)} (h' : rowsT.Rd w [v] ts) {s : Int} {m : Nat} (hf : opOk s f) (ht : tupsOk s f.1 m ts) (hm : m ≤ 1000) :
  Calls Tryd.prog 61 #[.int .i64 s, .agg cs, v] w fun e w' => ∃ g, e = .returned (.slice (some ⟨g, 0, none⟩) m m) ∧ intsT.Fr w.heap.size w' [.slice (some ⟨g, 0, none⟩) m m] (madeL s f.2 ts m) ∧ Below w.heap.size w w' := by
 obtain ⟨u, hv, hI, hx⟩ := pair_ex h
 obtain rfl := agg_of hv
 obtain ⟨tad, tcap, htv, -, -, htc⟩ := ints_ex hx
 obtain rfl : u = _ := by simpa using htv
 obtain ⟨ad, cap, hvv, -, hL, hcell⟩ := slices_ex h'
 obtain rfl : v = _ := by simpa using hvv
 have hn : (ts.length : Int) = f.1 := ht.1
 have hs := hf.1
 have ha := hf.2.1
 unfold sizeOk at hs
 have h0 : 0 < ts.length := by omega
 obtain ⟨b, o, rfl, hb, hce⟩ := hcell h0
 obtain ⟨u0, hu0, hc0⟩ := hce 0 h0
 obtain ⟨a0, c0, rfl⟩ := rd_slice hu0
 have hm0 : (ts[0]).length = m := (ht.2 _ (List.getElem_mem h0)).1
 rw [hm0] at hc0
 have hc0' : w.cell? ⟨b, o, none⟩ = some (.slice a0 m c0) := hc0
 have HF := Lib.hid hf
 have HT := Lib.hid ht
 have HC := Lib.hid hce
 have HTC := Lib.hid htc
 clear h h' hv htv hvv hf ht hcell hce htc hu0 hx hc0
 go_enter Tryd.func61, Tryd.ntmps61
 go_wp2_with (refine wpList_mkI _ rfl _ _ 32 2 rfl Tryd.underlying32 infoInt (w.heap.size + 1) m rfl rfl (by omega) (by decide) (by simp) ?_; intro w1 hA hg1 hs1)
 have hA' : IR 2 (w.heap.size + 1) w1 (w.heap.size + 1) m m (List.replicate m 0) := by simpa using hA
 have hb1 : Below w.heap.size w w1 := bthen bA (below_of_grown hg1)
 have x1 : w1.cell? ⟨w.heap.size, 1, none⟩ = some (.slice tad f.2.length tcap) := ((below_of_grown hg1).cell (by simp)).trans (by simp)
 have hsz1 : w1.heap.size = w.heap.size + 2 := by simpa using hs1
 clear hA hg1 hs1
 go_loopw [19] (fun i wr => ∃ (p : Nat) (L : List Int), p ≤ m ∧ i = .int .i64 p ∧ IR 2 (w.heap.size + 1) wr (w.heap.size + 1) m m L ∧ (∀ (j : Nat) (h : j < L.length), j < p → L[j] = madeV s f.2 ts j) ∧ Below w.heap.size w wr ∧ wr.cell? ⟨w.heap.size, 1, none⟩ = some (.slice tad f.2.length tcap)) (fun i _ => m - (intOf i).toNat)
 case atStart => exact ⟨0, _, Nat.zero_le _, rfl, hA', fun j h hj => absurd hj (Nat.not_lt_zero j), hb1, x1⟩
 case round =>
  obtain ⟨p, L, hp, rfl, hIR, hL, hbel, y1⟩ := hrel
  have hLl := hIR.1
  have HIR := Lib.hid hIR
  have HLL := Lib.hid hL
  clear hIR hL hA'
  by_cases hpl : p < m
  ·obtain ⟨kk, hkk, hkl2, hmv⟩ := madeV_get HF.out HT.out hpl
   obtain ⟨tb0, to0, rfl, htb, hte⟩ := HTC.out (by omega)
   have t0 := (hbel.cell htb).trans (hte kk hkl2).2
   have hIv := (hte kk hkl2).1
   obtain ⟨w0, d0⟩ := HIR.out.cell hpl
   have d1 := HIR.out.free p
   have hg := HIR.out.lt
   have HIS := Lib.hid (HIR.out.set p hIv)
   have HKK := Lib.hid hkk
   have HMV := Lib.hid hmv
   have HTE := Lib.hid hte
   clear hte hkk hmv
   go_wp2_with fail
   go_loop [24, 9] (fun i q => ∃ k : Nat, k ≤ ts.length ∧ i = .int .i64 k ∧ q = .int .i64 (idxL s 0 ((colL ts p).take k))) (fun i _ => ts.length - (intOf i).toNat)
   case atStart => exact ⟨0, Nat.zero_le _, rfl, by simp [idxL]⟩
   case round =>
    obtain ⟨k, hk, rfl, rfl⟩ := hrel
    by_cases hkl : k < ts.length
    ·obtain ⟨uk, huk, hck⟩ := HC.out k hkl
     obtain ⟨ak, ck, huv, -, -, hkc⟩ := ints_ex huk
     obtain rfl : uk = _ := by simpa using huv
     have hlk : (ts[k]).length = m := (HT.out.2 _ (List.getElem_mem hkl)).1
     obtain ⟨bk, ok, rfl, hbk, hkce⟩ := hkc (by omega)
     have e0 := (hbel.cell hb).trans hck
     have e1 := (hbel.cell hbk).trans (hkce p (by omega)).2
     have hpk : p < (ts[k]).length := by omega
     have hcl : k < (colL ts p).length := by rw [colL_len]; exact hkl
     have hin := colL_in HT.out hpl
     have b0 := idx_bd (by omega) hin k (by omega)
     have b1 := idx_bd (by omega) hin (k + 1) hcl
     have p0 := pow_le (s := s) (by omega) (by omega) (k := k + 1) (by omega)
     have hr := idxL_take (s := s) hcl
     rw [colL_get hkl hpk hcl] at hr
     have HM : Hid (wrap64 (wrap64 (idxL s 0 ((colL ts p).take k) * s) + (ts[k])[p]) = idxL s 0 ((colL ts p).take (k + 1))) := by
      unfold Hid
      have hq := Int.mul_nonneg b0.1 (show (0 : Int) ≤ s by omega)
      have hxx := hin _ (List.getElem_mem hcl)
      rw [colL_get hkl hpk hcl] at hxx
      rw [hr] at b1 ⊢
      generalize s ^ (k + 1) = P at *
      generalize idxL s 0 ((colL ts p).take k) * s = Q at *
      rw [wrap64_id (n := Q) (by omega) (by omega), wrap64_id (by omega) (by omega)]
     clear hkc hkce huv huk hck b0 b1 p0 hr hin
     go_wp2_with fail
     go_round
     case rel => exact ⟨k + 1, by omega, by go_num, by first | exact congrArg _ HM.out | (rw [← HM.out]; go_num)⟩
     case measure => simp [intOf]; omega
    ·obtain rfl : k = ts.length := by omega
     have hfull : idxL s 0 ((colL ts p).take ts.length) = kk := by rw [List.take_of_length_le (by rw [colL_len]; exact Nat.le_refl _)]; exact HKK.out
     rw [hfull]
     go_wp2_with fail
     refine ⟨⟨p + 1, L.set p (f.2[kk]), by omega, congrArg _ (by omega), HIS.out, fun j h hj => ?_, hbel.setCell (by simp) _, (World.cell?_setCell_other _ _ _ _ (by simp)).trans y1⟩, by simp [intOf]; omega⟩
     by_cases e : p = j
     ·subst e
      rw [List.getElem_set_self]
      exact HMV.out.symm
     ·rw [List.getElem_set_ne e]
      exact HLL.out j (by simpa using h) (by omega)
  ·obtain rfl : p = m := by omega
   have hfr := Lib.hid (HIR.out.fr (by unfold capMax; omega))
   have HE : Hid (L = madeL s f.2 ts p) := List.ext_getElem (by rw [hLl, madeL_len]) fun j h h' => by rw [HLL.out j h (by omega)]; simp [madeL]
   go_wp2_with fail
   go_ret
   exact ⟨w.heap.size + 1, rfl, by rw [← HE.out]; exact hfr.out.mono (by omega), hbel⟩
end Go.Proofs.YtggelmbnliajeaaDoor
namespace Go.Proofs.YtggelmbnliajeaaDoor
open Go.RowKit Go.Sort
theorem cmpI_neg {x y : Int} : cmpI x y < 0 ↔ x < y := by
 unfold cmpI
 split
 ·simpa
 ·split <;> omega
theorem ltL_trans : ∀ {a b c : List Int}, ltL a b → ltL b c → ltL a c
 | [], [], _, h, _ => by simp [ltL, cmpL] at h
 | _ :: _, [], _, h, _ => by simp [ltL, cmpL] at h
 | _, _ :: _, [], _, h => by simp [ltL, cmpL] at h
 | [], _ :: _, _ :: _, _, _ => by simp [ltL, cmpL]
 | x :: a, y :: b, z :: c, h, h' => by
  unfold ltL at h h' ⊢
  simp only [cmpL] at h h' ⊢
  by_cases e1 : x = y
  ·by_cases e2 : y = z
   ·subst e1; subst e2
    simp only [if_true] at h h' ⊢
    exact ltL_trans h h'
   ·subst e1
    rw [if_neg e2] at h' ⊢
    exact h'
  ·rw [if_neg e1] at h
   rw [cmpI_neg] at h
   by_cases e2 : y = z
   ·subst e2
    rw [if_neg e1, cmpI_neg]; exact h
   ·rw [if_neg e2, cmpI_neg] at h'
    rw [if_neg (by omega), cmpI_neg]; omega
theorem Bl.own {α : Type} {E : Ty α} {e base top : Nat} {w : World} {v : Value} {ys : List α} (h : Bl E e base top w v ys) {g : Nat} (hg : v.ownBlock = some g) : base ≤ g := by
 obtain ⟨L, fps, h1, _⟩ := h
 exact (h1.lt g hg).1
theorem news1 {w : World} {u : Value} {T : TypeId} : ∀ j x, [u][j]? = some x → (w.alloc (.cells #[u] T)).cell? ((⟨w.heap.size, 0, none⟩ : Addr).add j) = some x := by
 intro j x h
 match j with
 | 0 => simp at h; subst h; simp [Addr.add]
 | j + 1 => simp at h
end Go.Proofs.YtggelmbnliajeaaDoor
namespace Go.Proofs.YtggelmbnliajeaaDoor
open Go.RowKit Go.Sort
theorem madeL_succ (s : Int) (tab : List Int) (ts : List (List Int)) (m : Nat) : madeL s tab ts m ++ [madeV s tab ts m] = madeL s tab ts (m + 1) := by simp [madeL, List.range_succ]
theorem sl_ex {α : Type} {E : Ty α} {base : Nat} {w : World} {u : Value} {x : List α} (h : (Ty.slice E).Fr base w [u] x) : ∃ ad n cap, u = .slice ad n cap := let ⟨a, c, h⟩ := fr_slice h; ⟨a, _, c, h⟩
set_option maxHeartbeats 1600000 in
theorem l02Value_quiet (w : World) {v : Value} {f : Int × List Int} (h : opT.Pt w v f) {u : Value} {xs : List Int} (hu : intsT.Rd w [u] xs) {s : Int} (hs : 1 ≤ s) (hs1 : s ≤ 1000) (hl5 : xs.length ≤ 5) (hin : ∀ a ∈ xs, 0 ≤ a ∧ a ≤ s - 1) {k : Nat} (hk : idxL s 0 xs = k) (hkl : k < f.2.length) :
  Calls Tryd.prog 53 #[.int .i64 s, v, u] w fun e w' => e = .returned (.int .i64 f.2[k]) ∧ Quiet w w' := by
 obtain ⟨b, o, ad, cap, rfl, hb, -, c0, c1, hx⟩ := pt_pair h
 obtain ⟨_, _, e1, -, -, hcell⟩ := ints_ex hx
 simp only [List.cons.injEq, Value.slice.injEq, and_true, true_and] at e1
 obtain ⟨rfl, rfl⟩ := e1
 obtain ⟨tb0, to0, rfl, htb, hte⟩ := hcell (by omega)
 have t0 := (hte k hkl).2
 have cC : ∀ n, Calls Tryd.prog 73 #[.int .i64 s, u] (w.drewN n) fun e w'' => e = .returned (.int .i64 k) ∧ ∃ m, w'' = w.drewN m := fun n => by
  have := pure_drawn (l01Code_any (w.drewN n) s (hu.below (Quiet.drewN w n).below) hs hs1 hl5 hin)
  rw [hk] at this
  exact this
 clear h hx hcell hte hu
 go_enter Tryd.func53, Tryd.ntmps53
 go_wp2_with fail
 go_quiet (exact cC _)
 go_wp2_with fail
 go_ret
 exact ⟨rfl, (by first | exact Quiet.refl _ | exact Quiet.drewN _ _ | exact (Quiet.drewN _ _).then (Quiet.drewN _ _) | exact ((Quiet.drewN _ _).then (Quiet.drewN _ _)).then (Quiet.drewN _ _))⟩
end Go.Proofs.YtggelmbnliajeaaDoor
namespace Go.Proofs.YtggelmbnliajeaaDoor
open Go.RowKit
/-- a value as it is: for rows whose elements point into older memory -/
def Ty.val : Ty Value where
 sz := 1
 rd := fun _ cs x fp => cs = [x] ∧ x.oneCell' = true ∧ fp = []
 len := by rintro _ _ _ _ ⟨rfl, _, _⟩; rfl
 same := fun h _ => h
 lt := by rintro _ _ _ _ ⟨rfl, _, rfl⟩ k hk; cases hk
 one := by rintro _ _ _ _ ⟨rfl, h, _⟩ u hu; simp at hu; subst hu; exact h
theorem fr_val {base : Nat} {w : World} {x : Value} (h : x.oneCell' = true) : Ty.val.Fr base w [x] x := ⟨[], ⟨rfl, h, rfl⟩, List.nodup_nil, by simp, fun b hb => by cases hb⟩
/-- a number and a value -/
abbrev pvT : Ty (Int × Value) := Ty.cons Ty.val
theorem fr_pv {base : Nat} {w : World} {n : Int} {x : Value} (hn : I64 n) (h : x.oneCell' = true) : pvT.Fr base w [.int .i64 n, x] (n, x) := ⟨[], ⟨[x], rfl, hn, rfl, h, rfl⟩, List.nodup_nil, by simp, fun b hb => by cases hb⟩
/-- a row of these values reads as the data do -/
theorem ops_of_vals {w : World} {v : Value} {VS : List (Int × Value)} {xs : List (Int × List Int)} (h : (Ty.slice pvT).Rd w [v] VS) (hl : VS.length = xs.length)
  (hr : ∀ i (h : i < VS.length) (h' : i < xs.length), (VS[i]).1 = (xs[i]).1 ∧ I64 (VS[i]).1 ∧ intsT.Rd w [(VS[i]).2] (xs[i]).2) : opsT.Rd w [v] xs := by
 obtain ⟨fp, ad, cap, hv, h1, h2, h3⟩ := h
 obtain rfl : v = _ := by simpa using hv
 rcases h3 with ⟨h3, _⟩ | ⟨h3, b, o, fps, rfl, hb, _, h4⟩
 ·exact ⟨[], ad, cap, by rw [hl], by omega, by omega, .inl ⟨by omega, rfl⟩⟩
 ·have hch : ∀ i, ∃ fp, (h : i < xs.length) → intsT.rd w [(VS[i]'(by omega)).2] (xs[i]).2 fp := fun i => by
   by_cases hi : i < xs.length
   ·obtain ⟨fp, hfp⟩ := (hr i (by omega) hi).2.2
    exact ⟨fp, fun _ => hfp⟩
   ·exact ⟨[], fun h => absurd h hi⟩
  refine ⟨_, some ⟨b, o, none⟩, cap, by rw [hl], by omega, by omega, .inr ⟨by omega, b, o, fun i => (hch i).choose, rfl, hb, rfl, fun i hi => ?_⟩⟩
  obtain ⟨cs, ⟨cs', rfl, _, rfl, _, _⟩, h6⟩ := h4 i (by omega)
  obtain ⟨e1, e2, -⟩ := hr i (by omega) hi
  exact ⟨_, ⟨_, by rw [← e1], by rw [← e1]; exact e2, (hch i).choose_spec hi⟩, h6⟩
end Go.Proofs.YtggelmbnliajeaaDoor
namespace Go.Proofs.YtggelmbnliajeaaDoor
open Go.RowKit Go.Sort
/-- a row of slices reads as rows do, if each of its slices reads so -/
theorem rows_of_vals {w : World} {v : Value} {vs : List Value} {ts : List (List Int)} (h : (Ty.slice Ty.val).Rd w [v] vs) (hl : vs.length = ts.length) (hr : ∀ i (h : i < vs.length) (h' : i < ts.length), intsT.Rd w [vs[i]] ts[i]) : rowsT.Rd w [v] ts := by
 obtain ⟨fp, ad, cap, hv, h1, h2, h3⟩ := h
 obtain rfl : v = _ := by simpa using hv
 rcases h3 with ⟨h3, _⟩ | ⟨h3, b, o, fps, rfl, hb, _, h4⟩
 ·exact ⟨[], ad, cap, by rw [hl], by omega, by omega, .inl ⟨by omega, rfl⟩⟩
 ·have hch : ∀ i, ∃ fp, (h : i < ts.length) → intsT.rd w [vs[i]'(by omega)] ts[i] fp := fun i => by
   by_cases hi : i < ts.length
   ·obtain ⟨fp, hfp⟩ := hr i (by omega) hi
    exact ⟨fp, fun _ => hfp⟩
   ·exact ⟨[], fun h => absurd h hi⟩
  refine ⟨_, some ⟨b, o, none⟩, cap, by rw [hl], by omega, by omega, .inr ⟨by omega, b, o, fun i => (hch i).choose, rfl, hb, rfl, fun i hi => ?_⟩⟩
  obtain ⟨cs, ⟨rfl, _, _⟩, h6⟩ := h4 i (by omega)
  exact ⟨_, (hch i).choose_spec hi, h6⟩

/-- a row of truth values of the call's own -/
def BR (e base : Nat) (w : World) (g n cap : Nat) (L : List Bool) : Prop := L.length = n ∧ base ≤ g ∧ w.ownsRow base e 1 (.slice (some ⟨g, 0, none⟩) n cap) n (L.map Value.bool)
section
variable {e base g n cap : Nat} {w w' : World} {L : List Bool}
theorem BR.cell (h : BR e base w g n cap L) {j : Nat} (hj : j < L.length) : w.cell? ⟨g, j, none⟩ = some (.bool L[j]) := by
 rw [World.ownsRow.cellAt h.2.2 j (by have := h.1; omega)]
 simp [hj]
theorem BR.free (h : BR e base w g n cap L) (j : Nat) : w.frozen? ⟨g, j, none⟩ = false := World.ownsRow.frozenAt h.2.2 j
theorem BR.lt (h : BR e base w g n cap L) : g < w.heap.size := (h.2.2.lt g rfl).2
theorem BR.set (h : BR e base w g n cap L) (j : Nat) (a : Bool) : BR e base (w.setCell ⟨g, j, none⟩ (.bool a)) g n cap (L.set j a) := by
 refine ⟨by rw [List.length_set]; exact h.1, h.2.1, ?_⟩
 rw [List.map_set]
 exact (h.2.2.stored j _).1
theorem BR.below {B : Nat} (h : BR e base w g n cap L) (hb : Below B w w') (hg : g < B) : BR e base w' g n cap L := by
 refine ⟨h.1, h.2.1, h.2.2.1, ?_⟩
 rcases h.2.2.2 with ⟨h', _⟩ | ⟨g', cap', cur, hg', hbg, hh, r⟩
 ·simp at h'
 ·simp only [Value.slice.injEq, Option.some.injEq, Addr.mk.injEq, and_true, true_and] at hg'
  obtain ⟨rfl, rfl⟩ := hg'
  exact .inr ⟨g, _, cur, rfl, hbg, by rw [hb.block g hg]; exact hh, r⟩
end
/-- lists of one length with the same index are the same -/
theorem idxL_inj {s : Int} (hs : 1 ≤ s) : ∀ (n : Nat) {xs ys : List Int}, xs.length = n → ys.length = n → (∀ a ∈ xs, 0 ≤ a ∧ a ≤ s - 1) → (∀ a ∈ ys, 0 ≤ a ∧ a ≤ s - 1) → idxL s 0 xs = idxL s 0 ys → xs = ys
 | 0, xs, ys, hx, hy, _, _, _ => by rw [List.eq_nil_of_length_eq_zero hx, List.eq_nil_of_length_eq_zero hy]
 | n + 1, xs, ys, hx, hy, hxi, hyi, he => by
  have hx1 : n < xs.length := by omega
  have hy1 : n < ys.length := by omega
  have ex := idxL_take (s := s) hx1
  have ey := idxL_take (s := s) hy1
  rw [List.take_of_length_le (by omega)] at ex ey
  rw [ex, ey] at he
  have ax := hxi _ (List.getElem_mem hx1)
  have ay := hyi _ (List.getElem_mem hy1)
  have h1 : (idxL s 0 (xs.take n) * s + xs[n]) % s = xs[n] := by
   rw [Int.add_comm, Int.add_mul_emod_self_right]; exact Int.emod_eq_of_lt ax.1 (by omega)
  have h2 : (idxL s 0 (ys.take n) * s + ys[n]) % s = ys[n] := by
   rw [Int.add_comm, Int.add_mul_emod_self_right]; exact Int.emod_eq_of_lt ay.1 (by omega)
  have hn : xs[n] = ys[n] := by rw [← h1, ← h2, he]
  have hq : idxL s 0 (xs.take n) = idxL s 0 (ys.take n) := by
   have h3 : idxL s 0 (xs.take n) * s = idxL s 0 (ys.take n) * s := by omega
   exact Int.eq_of_mul_eq_mul_right (by omega) h3
  have ih := idxL_inj hs n (xs := xs.take n) (ys := ys.take n) (by rw [List.length_take]; omega) (by rw [List.length_take]; omega) (fun a ha => hxi a (List.mem_of_mem_take ha)) (fun a ha => hyi a (List.mem_of_mem_take ha)) hq
  rw [← List.take_of_length_le (l := xs) (i := n + 1) (by omega), ← List.take_of_length_le (l := ys) (i := n + 1) (by omega), List.take_succ_eq_append_getElem hx1, List.take_succ_eq_append_getElem hy1, ih, hn]
end Go.Proofs.YtggelmbnliajeaaDoor
namespace Go.Proofs.YtggelmbnliajeaaDoor
open Go.RowKit Go.Sort
theorem idx_lt {s : Int} (hs : 1 ≤ s) {xs : List Int} {m : Nat} (hl : xs.length = m) (h : ∀ a ∈ xs, 0 ≤ a ∧ a ≤ s - 1) : 0 ≤ idxL s 0 xs ∧ idxL s 0 xs ≤ s ^ m - 1 := by
 have := idx_bd hs h xs.length (Nat.le_refl _)
 rwa [List.take_length, hl] at this
/-- the tuples of a relation that an index picks -/
def picks (ts : List (List Int)) (ar : Nat) (i : Int) : List (List Int) := (digL ts.length i ar).map fun k => ts.getD k.toNat []
/-- what the operation makes of them -/
def makes (s : Int) (f : Int × List Int) (r : Int × List (List Int)) (i : Int) : List Int := madeL s f.2 (picks r.2 f.1.toNat i) r.1.toNat
def keepsP (s : Int) (f : Int × List Int) (r : Int × List (List Int)) : Prop := ∀ i : Nat, (i : Int) < (r.2.length : Int) ^ f.1.toNat → makes s f r i ∈ r.2
theorem picks_len {ts : List (List Int)} {ar : Nat} {i : Int} : (picks ts ar i).length = ar := by simp [picks, digL_len]
theorem dig_mem {n i : Int} {ar : Nat} (hn : 1 ≤ n) {k : Int} (h : k ∈ digL n i ar) : 0 ≤ k ∧ k < n := by
 obtain ⟨j, _, rfl⟩ := List.mem_map.1 h
 exact dig_nn hn _
end Go.Proofs.YtggelmbnliajeaaDoor
namespace Go.Proofs.YtggelmbnliajeaaDoor
open Go.RowKit Go.Sort
/-- a set of tuples in new memory: a box whose third cell is a row of truth values -/
def SetAt (e base : Nat) (w : World) (bx g n : Nat) (L : List Bool) : Prop := base ≤ bx ∧ bx < w.heap.size ∧ g ≠ bx ∧ w.cell? ⟨bx, 2, none⟩ = some (.slice (some ⟨g, 0, none⟩) n n) ∧ BR e base w g n n L
theorem SetAt.below {e base bx g n B : Nat} {w w' : World} {L : List Bool} (h : SetAt e base w bx g n L) (hb : Below B w w') (hB : w.heap.size ≤ B) : SetAt e base w' bx g n L :=
 let ⟨h1, h2, h3, h4, h5⟩ := h
 ⟨h1, Nat.lt_of_lt_of_le h2 hb.size, h3, (hb.cell (p := ⟨bx, 2, none⟩) (Nat.lt_of_lt_of_le h2 hB)).trans h4, h5.below hb (Nat.lt_of_lt_of_le h5.lt hB)⟩
/-- the indices that have come up among the first k tuples -/
def seenL (s : Int) (N : Nat) (ts : List (List Int)) : List Bool := (List.range N).map fun j : Nat => ts.any fun t => idxL s 0 t == (j : Int)
end Go.Proofs.YtggelmbnliajeaaDoor
namespace Go.Proofs.YtggelmbnliajeaaDoor
open Go.RowKit Go.Sort
end Go.Proofs.YtggelmbnliajeaaDoor
namespace Go.Proofs.YtggelmbnliajeaaDoor
open Go.RowKit Go.Sort
end Go.Proofs.YtggelmbnliajeaaDoor
