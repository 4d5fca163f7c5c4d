/-
Contracts of the library's searches with a predicate (IndexFunc, ContainsFunc, EqualFunc) at each element type, by program (gen_lib.py); equality of lists of numbers.
Plain mathematics: the order of lists, valid relations and templates. No program is named here.
Contracts: lists of values, valid relations and templates, in the program and in the reference.
Contracts of the laws' own helpers: sz.. (how much an argument holds), to.. (a deep copy in new memory), eq.. (deep equality): by program (gen_laws.py), one text a make of type.
Contracts: powers, indices of lists, lists of indices.
Contracts: the list of an index.
Contracts: valid relations and templates, in the program and in the reference.
Contracts: valid relations and templates (the program's), valid templates (the reference's).
Contracts: what a number of a relation tells; atoms' places; counts of formulas.
Contracts: valid instances and formulas, the program's.
Contracts: valid instances and formulas, the reference's.
Contracts: valid operations.
Contracts: the tuple that an operation makes of tuples.
-/
import Derived.Test.YtmnjlhcbabhhlaaGreatQAA
import Derived.Lib.QuietBelow
import Derived.Laws.OwnMore
namespace Go.Proofs.YtmnjlhcbabhhlaaGreat
open Go.RowKit Go.Sort

set_option maxHeartbeats 400000 in
theorem IndexFuncInt_any (w : World) {v : Value} {xs : List (Int)} (h : (Ty.slice Ty.int).Rd w [v] xs) (p : Int → Bool) (g : Nat) (lb : Array Value) (eg : ∀ args w, (callFunc g args).run Tryz.prog w = .ok (.enter g args) w)
  (hp : Hid (∀ W, Below w.heap.size w W → ∀ k (h : k < xs.length), Calls Tryz.prog g (#[.int .i64 xs[k]] ++ lb) W fun e W' => e = .returned (.bool (p xs[k])) ∧ Below W.heap.size W W')) :
  Calls Tryz.prog 97 #[v, .func (.func g) #[] lb] w fun e w' => e = .returned (.int .i64 (firstI p xs)) ∧ Below w.heap.size w w' := by
 obtain ⟨ad, cap, hv, hl, hc, hcell⟩ := ints_ex h
 obtain rfl : v = _ := by simpa using hv
 clear h hv
 go_enter Tryz.func97, Tryz.ntmps97
 go_wp2_with fail
 go_loopw [8] (fun i wr => ∃ k : Nat, k ≤ xs.length ∧ i = .int .i64 k ∧ noneB p (xs.take k) ∧ Below w.heap.size w wr) (fun i _ => xs.length - (intOf i).toNat)
 case atStart => exact ⟨0, Nat.zero_le _, rfl, noneB_zero p xs, Below.refl _ _⟩
 case round =>
  obtain ⟨k, hk, rfl, ht, hbel⟩ := hrel
  have HT := Lib.hid ht
  clear ht
  by_cases hkl : k < xs.length
  ·obtain ⟨b, o, rfl, hb, hce⟩ := hcell (by omega)
   obtain ⟨hI, hc0⟩ := hce k hkl
   have d0 : wr.cell? ⟨b, o + k, none⟩ = some (.int .i64 xs[k]) := (hbel.cell hb).trans hc0
   go_wp2_with fail
   refine (hp.out wr hbel k hkl).mono ?_
   rintro e w2 ⟨rfl, hb2⟩
   cases hq : p xs[k]
   ·go_wp2_with fail
    go_roundw
    case rel => exact ⟨k + 1, by omega, by go_num, noneB_succ hkl HT.out hq, bthen hbel hb2⟩
    case measure => simp [intOf]; omega
   ·go_wp2_with fail
    go_ret
    exact ⟨ret_int (firstI_at hkl HT.out hq).symm, bthen hbel hb2⟩
  ·obtain rfl : k = xs.length := by omega
   go_wp2_with fail
   go_ret
   exact ⟨ret_int (firstI_none (by have := HT.out; rwa [List.take_length] at this)).symm, hbel⟩
theorem ContainsFuncInt_any (w : World) {v : Value} {xs : List (Int)} (h : (Ty.slice Ty.int).Rd w [v] xs) (p : Int → Bool) (g : Nat) (lb : Array Value) (eg : ∀ args w, (callFunc g args).run Tryz.prog w = .ok (.enter g args) w)
  (hp : Hid (∀ W, Below w.heap.size w W → ∀ k (h : k < xs.length), Calls Tryz.prog g (#[.int .i64 xs[k]] ++ lb) W fun e W' => e = .returned (.bool (p xs[k])) ∧ Below W.heap.size W W')) :
  Calls Tryz.prog 78 #[v, .func (.func g) #[] lb] w fun e w' => e = .returned (.bool (anyB p xs)) ∧ Below w.heap.size w w' := by
 have hr := firstI_any p xs
 cases hq : anyB p xs
 all_goals
  rw [hq] at hr
  go_enter Tryz.func78, Tryz.ntmps78
  go_wp2_with fail
  refine (IndexFuncInt_any _ h p g lb eg hp).mono ?_
  rintro e w2 ⟨rfl, hb2⟩
  go_wp2_with fail
  go_ret
  first | exact ⟨rfl, hb2⟩ | exact ⟨ret_bool (by simpa using hr), hb2⟩
set_option maxHeartbeats 400000 in
theorem IndexFuncInts_any (w : World) {v : Value} {xs : List (List Int)} (h : (Ty.slice intsT).Rd w [v] xs) (p : List Int → Bool) (g : Nat) (lb : Array Value) (eg : ∀ args w, (callFunc g args).run Tryz.prog w = .ok (.enter g args) w)
  (hp : Hid (∀ W, Below w.heap.size w W → ∀ k (h : k < xs.length) (u : Value), intsT.Rd W [u] xs[k] → Calls Tryz.prog g (#[u] ++ lb) W fun e W' => e = .returned (.bool (p xs[k])) ∧ Below W.heap.size W W')) :
  Calls Tryz.prog 57 #[v, .func (.func g) #[] lb] w fun e w' => e = .returned (.int .i64 (firstI p xs)) ∧ Below w.heap.size w w' := by
 obtain ⟨ad, cap, hv, hl, hc, hcell⟩ := slices_ex h
 obtain rfl : v = _ := by simpa using hv
 clear h hv
 go_enter Tryz.func57, Tryz.ntmps57
 go_wp2_with fail
 go_loopw [8] (fun i wr => ∃ k : Nat, k ≤ xs.length ∧ i = .int .i64 k ∧ noneB p (xs.take k) ∧ Below w.heap.size w wr) (fun i _ => xs.length - (intOf i).toNat)
 case atStart => exact ⟨0, Nat.zero_le _, rfl, noneB_zero p xs, Below.refl _ _⟩
 case round =>
  obtain ⟨k, hk, rfl, ht, hbel⟩ := hrel
  have HT := Lib.hid ht
  clear ht
  by_cases hkl : k < xs.length
  ·obtain ⟨b, o, rfl, hb, hce⟩ := hcell (by omega)
   obtain ⟨u, hu, hc0⟩ := hce k hkl
   have d0 : wr.cell? ⟨b, o + k, none⟩ = some u := (hbel.cell hb).trans hc0
   go_wp2_with fail
   refine (hp.out wr hbel k hkl u (hu.below hbel)).mono ?_
   rintro e w2 ⟨rfl, hb2⟩
   cases hq : p xs[k]
   ·go_wp2_with fail
    go_roundw
    case rel => exact ⟨k + 1, by omega, by go_num, noneB_succ hkl HT.out hq, bthen hbel hb2⟩
    case measure => simp [intOf]; omega
   ·go_wp2_with fail
    go_ret
    exact ⟨ret_int (firstI_at hkl HT.out hq).symm, bthen hbel hb2⟩
  ·obtain rfl : k = xs.length := by omega
   go_wp2_with fail
   go_ret
   exact ⟨ret_int (firstI_none (by have := HT.out; rwa [List.take_length] at this)).symm, hbel⟩
theorem ContainsFuncInts_any (w : World) {v : Value} {xs : List (List Int)} (h : (Ty.slice intsT).Rd w [v] xs) (p : List Int → Bool) (g : Nat) (lb : Array Value) (eg : ∀ args w, (callFunc g args).run Tryz.prog w = .ok (.enter g args) w)
  (hp : Hid (∀ W, Below w.heap.size w W → ∀ k (h : k < xs.length) (u : Value), intsT.Rd W [u] xs[k] → Calls Tryz.prog g (#[u] ++ lb) W fun e W' => e = .returned (.bool (p xs[k])) ∧ Below W.heap.size W W')) :
  Calls Tryz.prog 27 #[v, .func (.func g) #[] lb] w fun e w' => e = .returned (.bool (anyB p xs)) ∧ Below w.heap.size w w' := by
 have hr := firstI_any p xs
 cases hq : anyB p xs
 all_goals
  rw [hq] at hr
  go_enter Tryz.func27, Tryz.ntmps27
  go_wp2_with fail
  refine (IndexFuncInts_any _ h p g lb eg hp).mono ?_
  rintro e w2 ⟨rfl, hb2⟩
  go_wp2_with fail
  go_ret
  first | exact ⟨rfl, hb2⟩ | exact ⟨ret_bool (by simpa using hr), hb2⟩
set_option maxHeartbeats 400000 in
theorem IndexFuncRel_any (w : World) {v : Value} {xs : List (Int × List (List Int))} (h : (Ty.slice relT).Rd w [v] xs) (p : Int × List (List Int) → Bool) (g : Nat) (lb : Array Value) (eg : ∀ args w, (callFunc g args).run Tryz.prog w = .ok (.enter g args) w)
  (hp : Hid (∀ W, Below w.heap.size w W → ∀ k (h : k < xs.length) (cs : Array Value), relT.Rd W cs.toList xs[k] → Calls Tryz.prog g (#[.agg cs] ++ lb) W fun e W' => e = .returned (.bool (p xs[k])) ∧ Below W.heap.size W W')) :
  Calls Tryz.prog 96 #[v, .func (.func g) #[] lb] w fun e w' => e = .returned (.int .i64 (firstI p xs)) ∧ Below w.heap.size w w' := by
 obtain ⟨ad, cap, hv, hl, hc, hcell⟩ := pairs_ex h
 obtain rfl : v = _ := by simpa using hv
 clear h hv
 go_enter Tryz.func96, Tryz.ntmps96
 go_wp2_with fail
 go_loopw [8] (fun i wr => ∃ k : Nat, k ≤ xs.length ∧ i = .int .i64 k ∧ noneB p (xs.take k) ∧ Below w.heap.size w wr) (fun i _ => xs.length - (intOf i).toNat)
 case atStart => exact ⟨0, Nat.zero_le _, rfl, noneB_zero p xs, Below.refl _ _⟩
 case round =>
  obtain ⟨k, hk, rfl, ht, hbel⟩ := hrel
  have HT := Lib.hid ht
  clear ht
  by_cases hkl : k < xs.length
  ·obtain ⟨b, o, rfl, hb, hce⟩ := hcell (by omega)
   obtain ⟨u, hu, hI, hc0, hc1⟩ := hce k hkl
   have d0 : wr.cell? ⟨b, o + k * 2, none⟩ = some (.int .i64 xs[k].1) := (hbel.cell hb).trans hc0
   have d1 : wr.cell? ⟨b, o + k * 2 + 1, none⟩ = some u := (hbel.cell hb).trans hc1
   go_wp2_with fail
   refine (hp.out wr hbel k hkl #[.int .i64 xs[k].1, u] (pair_mk hI (hu.below hbel))).mono ?_
   rintro e w2 ⟨rfl, hb2⟩
   cases hq : p xs[k]
   ·go_wp2_with fail
    go_roundw
    case rel => exact ⟨k + 1, by omega, by go_num, noneB_succ hkl HT.out hq, bthen hbel hb2⟩
    case measure => simp [intOf]; omega
   ·go_wp2_with fail
    go_ret
    exact ⟨ret_int (firstI_at hkl HT.out hq).symm, bthen hbel hb2⟩
  ·obtain rfl : k = xs.length := by omega
   go_wp2_with fail
   go_ret
   exact ⟨ret_int (firstI_none (by have := HT.out; rwa [List.take_length] at this)).symm, hbel⟩
theorem ContainsFuncRel_any (w : World) {v : Value} {xs : List (Int × List (List Int))} (h : (Ty.slice relT).Rd w [v] xs) (p : Int × List (List Int) → Bool) (g : Nat) (lb : Array Value) (eg : ∀ args w, (callFunc g args).run Tryz.prog w = .ok (.enter g args) w)
  (hp : Hid (∀ W, Below w.heap.size w W → ∀ k (h : k < xs.length) (cs : Array Value), relT.Rd W cs.toList xs[k] → Calls Tryz.prog g (#[.agg cs] ++ lb) W fun e W' => e = .returned (.bool (p xs[k])) ∧ Below W.heap.size W W')) :
  Calls Tryz.prog 75 #[v, .func (.func g) #[] lb] w fun e w' => e = .returned (.bool (anyB p xs)) ∧ Below w.heap.size w w' := by
 have hr := firstI_any p xs
 cases hq : anyB p xs
 all_goals
  rw [hq] at hr
  go_enter Tryz.func75, Tryz.ntmps75
  go_wp2_with fail
  refine (IndexFuncRel_any _ h p g lb eg hp).mono ?_
  rintro e w2 ⟨rfl, hb2⟩
  go_wp2_with fail
  go_ret
  first | exact ⟨rfl, hb2⟩ | exact ⟨ret_bool (by simpa using hr), hb2⟩
set_option maxHeartbeats 400000 in
theorem IndexFuncCon_any (w : World) {v : Value} {xs : List (Int × List Int)} (h : (Ty.slice opT).Rd w [v] xs) (p : Int × List Int → Bool) (g : Nat) (lb : Array Value) (eg : ∀ args w, (callFunc g args).run Tryz.prog w = .ok (.enter g args) w)
  (hp : Hid (∀ W, Below w.heap.size w W → ∀ k (h : k < xs.length) (cs : Array Value), opT.Rd W cs.toList xs[k] → Calls Tryz.prog g (#[.agg cs] ++ lb) W fun e W' => e = .returned (.bool (p xs[k])) ∧ Below W.heap.size W W')) :
  Calls Tryz.prog 77 #[v, .func (.func g) #[] lb] w fun e w' => e = .returned (.int .i64 (firstI p xs)) ∧ Below w.heap.size w w' := by
 obtain ⟨ad, cap, hv, hl, hc, hcell⟩ := pairs_ex h
 obtain rfl : v = _ := by simpa using hv
 clear h hv
 go_enter Tryz.func77, Tryz.ntmps77
 go_wp2_with fail
 go_loopw [8] (fun i wr => ∃ k : Nat, k ≤ xs.length ∧ i = .int .i64 k ∧ noneB p (xs.take k) ∧ Below w.heap.size w wr) (fun i _ => xs.length - (intOf i).toNat)
 case atStart => exact ⟨0, Nat.zero_le _, rfl, noneB_zero p xs, Below.refl _ _⟩
 case round =>
  obtain ⟨k, hk, rfl, ht, hbel⟩ := hrel
  have HT := Lib.hid ht
  clear ht
  by_cases hkl : k < xs.length
  ·obtain ⟨b, o, rfl, hb, hce⟩ := hcell (by omega)
   obtain ⟨u, hu, hI, hc0, hc1⟩ := hce k hkl
   have d0 : wr.cell? ⟨b, o + k * 2, none⟩ = some (.int .i64 xs[k].1) := (hbel.cell hb).trans hc0
   have d1 : wr.cell? ⟨b, o + k * 2 + 1, none⟩ = some u := (hbel.cell hb).trans hc1
   go_wp2_with fail
   refine (hp.out wr hbel k hkl #[.int .i64 xs[k].1, u] (pair_mk hI (hu.below hbel))).mono ?_
   rintro e w2 ⟨rfl, hb2⟩
   cases hq : p xs[k]
   ·go_wp2_with fail
    go_roundw
    case rel => exact ⟨k + 1, by omega, by go_num, noneB_succ hkl HT.out hq, bthen hbel hb2⟩
    case measure => simp [intOf]; omega
   ·go_wp2_with fail
    go_ret
    exact ⟨ret_int (firstI_at hkl HT.out hq).symm, bthen hbel hb2⟩
  ·obtain rfl : k = xs.length := by omega
   go_wp2_with fail
   go_ret
   exact ⟨ret_int (firstI_none (by have := HT.out; rwa [List.take_length] at this)).symm, hbel⟩
theorem ContainsFuncCon_any (w : World) {v : Value} {xs : List (Int × List Int)} (h : (Ty.slice opT).Rd w [v] xs) (p : Int × List Int → Bool) (g : Nat) (lb : Array Value) (eg : ∀ args w, (callFunc g args).run Tryz.prog w = .ok (.enter g args) w)
  (hp : Hid (∀ W, Below w.heap.size w W → ∀ k (h : k < xs.length) (cs : Array Value), opT.Rd W cs.toList xs[k] → Calls Tryz.prog g (#[.agg cs] ++ lb) W fun e W' => e = .returned (.bool (p xs[k])) ∧ Below W.heap.size W W')) :
  Calls Tryz.prog 45 #[v, .func (.func g) #[] lb] w fun e w' => e = .returned (.bool (anyB p xs)) ∧ Below w.heap.size w w' := by
 have hr := firstI_any p xs
 cases hq : anyB p xs
 all_goals
  rw [hq] at hr
  go_enter Tryz.func45, Tryz.ntmps45
  go_wp2_with fail
  refine (IndexFuncCon_any _ h p g lb eg hp).mono ?_
  rintro e w2 ⟨rfl, hb2⟩
  go_wp2_with fail
  go_ret
  first | exact ⟨rfl, hb2⟩ | exact ⟨ret_bool (by simpa using hr), hb2⟩
set_option maxHeartbeats 400000 in
theorem l00Same_quiet (w : World) {v u : Value} {xs ys : List Int} (h : intsT.Rd w [v] xs) (h' : intsT.Rd w [u] ys) :
  Calls Tryz.prog 61 #[v, u] w fun e w' => e = .returned (.bool (eqB xs ys)) ∧ Quiet w w' := by
 obtain ⟨ad, cap, hv, hl, hc, hcell⟩ := ints_ex h
 obtain ⟨ad', cap', hv', hl', hc', hcell'⟩ := ints_ex h'
 obtain rfl : v = _ := by simpa using hv
 obtain rfl : u = _ := by simpa using hv'
 clear h hv h' hv'
 cases hn : (((xs.length : Nat) : Int) != (ys.length : Nat))
 rotate_left
 ·go_enter Tryz.func61, Tryz.ntmps61
  go_wp2_with fail
  go_ret
  exact ⟨ret_bool (eqB_len (by simp at hn; omega)).symm, Quiet.refl _⟩
 ·have hn' : xs.length = ys.length := by simp at hn; omega
  have HN := Lib.hid hn'
  clear hn'
  go_enter Tryz.func61, Tryz.ntmps61
  go_wp2_with fail
  go_loopw [5] (fun i wr => ∃ k : Nat, k ≤ xs.length ∧ i = .int .i64 k ∧ xs.take k = ys.take k ∧ Quiet w wr) (fun i _ => xs.length - (intOf i).toNat)
  case atStart => exact ⟨0, Nat.zero_le _, rfl, rfl, Quiet.refl _⟩
  case round =>
   obtain ⟨k, hk, rfl, ht, nq, rfl⟩ := hrel
   have HT := Lib.hid ht
   clear ht hn
   by_cases hkl : k < xs.length
   ·have hkl' : k < ys.length := by have := HN.out; omega
    obtain ⟨b, o, rfl, hb, hce⟩ := hcell (by omega)
    obtain ⟨b', o', rfl, hb', hce'⟩ := hcell' (by omega)
    have d0 := (hce k hkl).2
    have d1 := (hce' k hkl').2
    clear hce hce' hcell hcell'
    cases hq : (xs[k] != ys[k])
    rotate_left
    ·go_wp2_with fail
     go_quiet (fail)
     go_wp2_with fail
     go_ret
     exact ⟨ret_bool (eqB_get hkl hkl' (by simpa using hq)).symm, (by first | exact Quiet.refl _ | exact Quiet.drewN _ _ | exact (Quiet.drewN _ _).then (Quiet.drewN _ _) | exact ((Quiet.drewN _ _).then (Quiet.drewN _ _)).then (Quiet.drewN _ _))⟩
    ·go_wp2_with fail
     go_quiet (fail)
     go_wp2_with fail
     go_roundw
     case rel => exact ⟨k + 1, by omega, by go_num, take_eq_succ hkl hkl' HT.out (by simpa using hq), (by first | exact Quiet.refl _ | exact Quiet.drewN _ _ | exact (Quiet.drewN _ _).then (Quiet.drewN _ _) | exact ((Quiet.drewN _ _).then (Quiet.drewN _ _)).then (Quiet.drewN _ _))⟩
     case measure => simp [intOf]; omega
   ·obtain rfl : k = xs.length := by omega
    go_wp2_with fail
    go_ret
    exact ⟨ret_bool (eqB_true (by have h1 := HT.out; have h2 := HN.out; rw [List.take_length, h2, List.take_length] at h1; exact h1)).symm, (by first | exact Quiet.refl _ | exact Quiet.drewN _ _ | exact (Quiet.drewN _ _).then (Quiet.drewN _ _) | exact ((Quiet.drewN _ _).then (Quiet.drewN _ _)).then (Quiet.drewN _ _))⟩
end Go.Proofs.YtmnjlhcbabhhlaaGreat
namespace Go.Proofs.YtmnjlhcbabhhlaaGreat

/-- a proposition as a test -/
noncomputable def tb (p : Prop) : Bool := @decide p (Classical.propDecidable p)
theorem tb_true {p : Prop} (h : p) : tb p = true := by simp [tb, h]
theorem tb_false {p : Prop} (h : ¬ p) : tb p = false := by simp [tb, h]
theorem tb_iff {p : Prop} : tb p = true ↔ p := by simp [tb]
theorem tb_congr {p q : Prop} (h : p ↔ q) : tb p = tb q := by rw [propext h]
theorem tb_and {p q : Prop} : (tb p && tb q) = tb (p ∧ q) := by rw [Bool.eq_iff_iff, Bool.and_eq_true, tb_iff, tb_iff, tb_iff]
theorem tb_not {p : Prop} : (!tb p) = tb (¬ p) := by cases h : tb p <;> simp [tb] at * <;> exact h
def cmpI (x y : Int) : Int := if x < y then -1 else if y < x then 1 else 0
theorem cmpI_lt {x y : Int} (h : x < y) : cmpI x y = -1 := if_pos h
theorem cmpI_gt {x y : Int} (h : y < x) : cmpI x y = 1 := by unfold cmpI; rw [if_neg (by omega), if_pos h]
theorem cmpI_eq {x y : Int} (h : x = y) : cmpI x y = 0 := by unfold cmpI; rw [if_neg (by omega), if_neg (by omega)]
/-- the order of lists -/
def cmpL : List Int → List Int → Int
 | [], [] => 0
 | [], _ :: _ => -1
 | _ :: _, [] => 1
 | x :: xs, y :: ys => if x = y then cmpL xs ys else cmpI x y
def ltL (xs ys : List Int) : Prop := cmpL xs ys < 0
theorem cmpL_self : ∀ xs : List Int, cmpL xs xs = 0
 | [] => rfl
 | x :: xs => by simp [cmpL, cmpL_self xs]
theorem cmpL_drop {xs ys : List Int} : ∀ {k : Nat}, xs.take k = ys.take k → cmpL xs ys = cmpL (xs.drop k) (ys.drop k) := by
 induction xs generalizing ys with
 | nil =>
  intro k h
  cases k with
  | zero => rfl
  | succ k => cases ys with
   | nil => simp
   | cons y ys => simp at h
 | cons x xs ih =>
  intro k h
  cases k with
  | zero => rfl
  | succ k => cases ys with
   | nil => simp at h
   | cons y ys =>
    simp only [List.take_succ_cons, List.cons.injEq] at h
    obtain ⟨rfl, h⟩ := h
    simp only [cmpL, if_true, List.drop_succ_cons]
    exact ih h
theorem cmpL_ne {xs ys : List Int} {k : Nat} (h : xs.take k = ys.take k) (h1 : k < xs.length) (h2 : k < ys.length) (hne : xs[k] ≠ ys[k]) : cmpL xs ys = cmpI xs[k] ys[k] := by
 rw [cmpL_drop h, List.drop_eq_getElem_cons h1, List.drop_eq_getElem_cons h2, cmpL, if_neg hne]
theorem cmpL_more {xs ys : List Int} (h : xs.take ys.length = ys) (h1 : ys.length < xs.length) : cmpL xs ys = 1 := by
 rw [cmpL_drop (k := ys.length) (by rw [h, List.take_length]), List.drop_eq_getElem_cons h1, List.drop_length, cmpL]
theorem cmpL_less {xs ys : List Int} (h : xs = ys.take xs.length) (h1 : xs.length < ys.length) : cmpL xs ys = -1 := by
 rw [cmpL_drop (k := xs.length) (by rw [List.take_length]; exact h), List.drop_eq_getElem_cons h1, List.drop_length, cmpL]

/-- so many values of a size -/
def rowOk (size ar : Int) (t : List Int) : Prop := (t.length : Int) = ar ∧ ∀ a ∈ t, 0 ≤ a ∧ a ≤ size - 1
def sizeOk (size : Int) : Prop := 1 ≤ size ∧ size ≤ 4
def relOk (size : Int) (r : Int × List (List Int)) : Prop :=
 sizeOk size ∧ sizeOk r.1 ∧ ∀ i (h : i < r.2.length), rowOk size r.1 r.2[i] ∧ (0 < i → ltL (r.2[i - 1]'(by omega)) r.2[i])
/-- as far as place k -/
def relUp (size : Int) (r : Int × List (List Int)) (k : Nat) : Prop := ∀ i (h : i < r.2.length), i < k → rowOk size r.1 r.2[i] ∧ (0 < i → ltL (r.2[i - 1]'(by omega)) r.2[i])
theorem relUp_zero (size : Int) (r : Int × List (List Int)) : relUp size r 0 := fun i _ h => absurd h (Nat.not_lt_zero i)
theorem relUp_succ {size : Int} {r : Int × List (List Int)} {k : Nat} (h : k < r.2.length) (hu : relUp size r k) (h1 : rowOk size r.1 r.2[k]) (h2 : 0 < k → ltL (r.2[k - 1]'(by omega)) r.2[k]) : relUp size r (k + 1) := fun i hi hlt => by
 by_cases e : i = k
 ·subst e; exact ⟨h1, h2⟩
 ·exact hu i hi (by omega)
def tplOk (t : Int × List (Int × List (List Int))) : Prop := sizeOk t.1 ∧ t.2.length ≤ 6 ∧ ∀ r ∈ t.2, relOk t.1 r
/-- the arity that a number tells in a template: -1 stands for equality -/
def arOf (t : Int × List (Int × List (List Int))) (rel : Int) : Int :=
 if rel = -1 then 2 else if h : 0 ≤ rel ∧ rel.toNat < t.2.length then (t.2[rel.toNat]).1 else 0
theorem arOf_nat {t : Int × List (Int × List (List Int))} {k : Nat} (h : k < t.2.length) : arOf t (k : Int) = (t.2[k]).1 := by
 unfold arOf
 rw [if_neg (by omega), dif_pos ⟨by omega, by simpa using h⟩]
 simp
def conOk (t : Int × List (Int × List (List Int))) (vars : Int) (c : Int × List Int) : Prop := (0 ≤ c.1 ∧ c.1 ≤ (t.2.length : Int) - 1) ∧ rowOk vars (arOf t c.1) c.2
def instOk (t : Int × List (Int × List (List Int))) (x : Int × List (Int × List Int)) : Prop := tplOk t ∧ (1 ≤ x.1 ∧ x.1 ≤ 10) ∧ x.2.length ≤ 24 ∧ ∀ c ∈ x.2, conOk t x.1 c
end Go.Proofs.YtmnjlhcbabhhlaaGreat
namespace Go.Proofs.YtmnjlhcbabhhlaaGreat
open Go.RowKit Go.Sort
theorem isNaN_any (x : Int) (w : World) : Calls Tryz.prog 99 #[.int .i64 x] w fun e w' => e = .returned (.bool false) ∧ w = w' := by
 go_enter Tryz.func99, Tryz.ntmps99
 go_wp2_with fail
 go_ret
 exact ⟨ret_bool (by simp), rfl⟩
theorem cmpCompare_any (x y : Int) (w : World) : Calls Tryz.prog 91 #[.int .i64 x, .int .i64 y] w fun e w' => e = .returned (.int .i64 (cmpI x y)) ∧ w = w' := by
 rcases ilt x y with h | h
 ·go_enter Tryz.func91, Tryz.ntmps91
  go_wp2_with (go_at_call 99; refine (isNaN_any _ _).mono ?_; rintro e w' ⟨rfl, rfl⟩)
  go_ret
  exact ⟨ret_int (cmpI_lt h).symm, rfl⟩
 ·rcases ilt y x with h' | h'
  ·go_enter Tryz.func91, Tryz.ntmps91
   go_wp2_with (go_at_call 99; refine (isNaN_any _ _).mono ?_; rintro e w' ⟨rfl, rfl⟩)
   go_ret
   exact ⟨ret_int (cmpI_gt h').symm, rfl⟩
  ·go_enter Tryz.func91, Tryz.ntmps91
   go_wp2_with (go_at_call 99; refine (isNaN_any _ _).mono ?_; rintro e w' ⟨rfl, rfl⟩)
   go_ret
   exact ⟨ret_int (cmpI_eq (by omega)).symm, rfl⟩
set_option maxHeartbeats 400000 in
theorem Compare_any (w : World) {v u : Value} {xs ys : List Int} (h : intsT.Rd w [v] xs) (h' : intsT.Rd w [u] ys) :
  Calls Tryz.prog 60 #[v, u] w fun e w' => e = .returned (.int .i64 (cmpL xs ys)) ∧ w = w' := by
 obtain ⟨ad, cap, hv, hl, hc, hcell⟩ := ints_ex h
 obtain ⟨ad', cap', hv', hl', hc', hcell'⟩ := ints_ex h'
 obtain rfl : v = _ := by simpa using hv
 obtain rfl : u = _ := by simpa using hv'
 clear h hv h' hv'
 go_enter Tryz.func60, Tryz.ntmps60
 go_wp2_with fail
 go_loop [11] (fun i => ∃ k : Nat, k ≤ xs.length ∧ k ≤ ys.length ∧ i = .int .i64 k ∧ xs.take k = ys.take k) (fun i => xs.length - (intOf i).toNat)
 case atStart => exact ⟨0, Nat.zero_le _, Nat.zero_le _, rfl, rfl⟩
 case round =>
  obtain ⟨k, hk, hk', rfl, ht⟩ := hrel
  have HT := Lib.hid ht
  clear ht
  by_cases hkl : k < xs.length
  ·obtain ⟨b, o, rfl, hb, hce⟩ := hcell (by omega)
   have d0 := (hce k hkl).2
   by_cases hkl' : k < ys.length
   ·obtain ⟨b', o', rfl, hb', hce'⟩ := hcell' (by omega)
    have d1 := (hce' k hkl').2
    clear hce hce' hcell hcell'
    by_cases hne : xs[k] = ys[k]
    ·have HE := Lib.hid hne
     have hz : cmpI xs[k] ys[k] = 0 := cmpI_eq hne
     clear hne
     go_wp2_with (go_at_call 91; refine (cmpCompare_any _ _ _).mono ?_; rintro e w' ⟨rfl, rfl⟩)
     go_round
     case rel => exact ⟨k + 1, by omega, by omega, by go_num, take_eq_succ hkl hkl' HT.out HE.out⟩
     case measure => simp [intOf]; omega
    ·have hz : (cmpI xs[k] ys[k] != 0) = true := by
      rcases ilt xs[k] ys[k] with h | h
      ·rw [cmpI_lt h]; rfl
      ·rw [cmpI_gt (by omega)]; rfl
     have HC := Lib.hid (cmpL_ne HT.out hkl hkl' hne)
     clear hne
     go_wp2_with (go_at_call 91; refine (cmpCompare_any _ _ _).mono ?_; rintro e w' ⟨rfl, rfl⟩)
     go_ret
     exact ⟨ret_int HC.out.symm, rfl⟩
   ·clear hce hcell hcell'
    go_wp2_with fail
    go_ret
    obtain rfl : k = ys.length := by omega
    exact ⟨ret_int (cmpL_more (by have := HT.out; rwa [List.take_length] at this) hkl).symm, rfl⟩
  ·obtain rfl : k = xs.length := by omega
   have hq : xs = ys.take xs.length := by have := HT.out; rwa [List.take_length] at this
   have HQ := Lib.hid hq
   clear hq
   by_cases hlt : xs.length < ys.length
   ·go_wp2_with fail
    go_ret
    exact ⟨ret_int (cmpL_less HQ.out hlt).symm, rfl⟩
   ·go_wp2_with fail
    go_ret
    have e : xs = ys := by have := HQ.out; rwa [List.take_of_length_le (by omega)] at this
    exact ⟨ret_int (by rw [e, cmpL_self]), rfl⟩
theorem areValues1_any (w : World) (size a : Int) (b : Nat) (h0 : 0 ≤ size) (h1 : size ≤ 1000000000000) (hc : w.cell? ⟨b, 0, none⟩ = some (.int .i64 size)) :
  Calls Tryz.prog 79 #[.int .i64 a, .pointer (some ⟨b, 0, none⟩)] w fun e w' => e = .returned (.bool (!inB a 0 (size - 1))) ∧ Below w.heap.size w w' := by
 go_enter Tryz.func79, Tryz.ntmps79
 go_wp2_with (go_at_call 80; refine (isValue_any _ _ _ h0 h1).mono ?_; rintro e w' ⟨rfl, rfl⟩)
 go_ret
 exact ⟨rfl, Below.refl _ _⟩
theorem areValues_any (w : World) {v : Value} {xs : List Int} (h : intsT.Rd w [v] xs) (size many : Int) (h0 : 0 ≤ size) (h1 : size ≤ 1000000000000) :
  Calls Tryz.prog 47 #[.int .i64 size, v, .int .i64 many] w fun e w' => e = .returned (.bool (tb (rowOk size many xs))) ∧ Below w.heap.size w w' := by
 have hx := h
 obtain ⟨ad, cap, hv, hl, hc, -⟩ := ints_ex h
 obtain rfl : v = _ := by simpa using hv
 clear h hv
 cases hn : (((xs.length : Nat) : Int) == many)
 ·go_enter Tryz.func47, Tryz.ntmps47
  go_wp2_with fail
  go_ret
  exact ⟨ret_bool (tb_false (fun hr => by simp at hn; exact hn hr.1)).symm, bA⟩
 have HN : Hid ((xs.length : Int) = many) := by simpa [Hid] using hn
 have ha : (!anyB (fun a => !inB a 0 (size - 1)) xs) = tb (rowOk size many xs) := by
  rw [Bool.eq_iff_iff, tb_iff]
  simp only [anyB, rowOk, HN.out, true_and, Bool.not_eq_true', List.any_eq_false, Bool.not_eq_false, inB_true]
 have HA := Lib.hid ha
 clear ha
 go_enter Tryz.func47, Tryz.ntmps47
 go_wp2_with fail
 refine (ContainsFuncInt_any _ (hx.below bA) (fun a => !inB a 0 (size - 1)) 79 #[.pointer (some ⟨w.heap.size, 0, none⟩)] (enters Tryz.func79 (by kernel_rfl) rfl) (fun W hW k hk => areValues1_any W size xs[k] w.heap.size h0 h1 ?_)).mono ?_
 ·rw [hW.cell (by simp)]; simp
 rintro e w1 ⟨rfl, hb1⟩
 go_wp2_with fail
 go_ret
 exact ⟨ret_bool HA.out, (by repeat (first | exact Below.refl _ _ | exact bA | assumption | refine Below.setCell ?_ (by first | omega | (simp; try omega)) _ | refine Below.alloc ?_ (by first | omega | (simp; try omega)) _ | refine Below.drew ?_ | refine bDN ?_ | refine bthen ?_ (by assumption)))⟩
theorem l01Tuple_any (size arity : Int) {v : Value} {xs : List Int} (w : World) (h : intsT.Rd w [v] xs) (h0 : 0 ≤ size) (h1 : size ≤ 1000000000000) :
  Calls Tryz.prog 65 #[.int .i64 size, .int .i64 arity, v] w fun e w' => e = .returned (.bool (tb (rowOk size arity xs))) ∧ w = w' := by
 obtain ⟨ad, cap, hv, hl, hc, hcell⟩ := ints_ex h
 obtain rfl : v = _ := by simpa using hv
 clear h hv
 go_enter Tryz.func65, Tryz.ntmps65
 go_wp2_with fail
 go_loop [7] (fun i => ∃ k : Nat, k ≤ xs.length ∧ i = .int .i64 k ∧ noneB (fun a => !inB a 0 (size - 1)) (xs.take k)) (fun i => xs.length - (intOf i).toNat)
 case atStart => exact ⟨0, Nat.zero_le _, rfl, noneB_zero _ _⟩
 case round =>
  obtain ⟨k, hk, rfl, ht⟩ := hrel
  have HT := Lib.hid ht
  clear ht
  by_cases hlt : k < xs.length
  ·obtain ⟨b, o, rfl, hb, hce⟩ := hcell (by omega)
   have hck := (hce k hlt).2
   clear hcell hce
   cases hi : inB xs[k] 0 (size - 1)
   ·go_wp2_with (go_at_call 42; refine (l00In_any _ _ _ _).mono ?_; rintro e w' ⟨rfl, rfl⟩)
    go_ret
    exact ⟨ret_bool (tb_false (fun hr => by have := inB_true.2 (hr.2 _ (List.getElem_mem hlt)); rw [hi] at this; cases this)).symm, rfl⟩
   ·go_wp2_with (go_at_call 42; refine (l00In_any _ _ _ _).mono ?_; rintro e w' ⟨rfl, rfl⟩)
    go_round
    case rel => exact ⟨k + 1, by omega, by go_num, noneB_succ hlt HT.out (by simp [hi])⟩
    case measure => simp [intOf]; omega
  ·obtain rfl : k = xs.length := by omega
   have hall : ∀ a ∈ xs, 0 ≤ a ∧ a ≤ size - 1 := fun a ha => by
    have := HT.out a (by rw [List.take_length]; exact ha)
    simpa [inB_true] using this
   have HR : Hid (((xs.length : Int) == arity) = tb (rowOk size arity xs)) := by
    unfold Hid
    rw [Bool.eq_iff_iff, tb_iff]
    simp only [rowOk, beq_iff_eq]
    exact ⟨fun h => ⟨h, hall⟩, fun h => h.1⟩
   clear hall
   go_wp2_with fail
   go_ret
   exact ⟨ret_bool HR.out, rfl⟩
end Go.Proofs.YtmnjlhcbabhhlaaGreat
namespace Go.Proofs.YtmnjlhcbabhhlaaGreat
open Go.RowKit Go.Sort

theorem elInt : ElT Tryz.prog 50 2 1 8 := .mk (z := .int .i64 0) Tryz.underlying50 (by kernel_rfl) rfl (by decide)
theorem elInt64SS : ElT Tryz.prog 41 50 1 24 := .mk (z := .slice none 0 0) Tryz.underlying41 (by kernel_rfl) rfl (by decide)
theorem elRelS : ElT Tryz.prog 24 43 2 32 := .mk (z := .agg #[.int .i64 0, .slice none 0 0]) Tryz.underlying24 (by kernel_rfl) rfl (by decide)
end Go.Proofs.YtmnjlhcbabhhlaaGreat
namespace Go.Proofs.YtmnjlhcbabhhlaaGreat
open Go.RowKit Go.Sort
theorem wrap64_id {n : Int} (h0 : -1000000000000000000 ≤ n) (h1 : n ≤ 1000000000000000000) : wrap64 n = n := by unfold wrap64; omega
theorem pow_nn {s : Int} (h : 0 ≤ s) : ∀ k : Nat, 0 ≤ s ^ k
 | 0 => by rw [Int.pow_zero]; decide
 | k + 1 => by rw [Int.pow_succ]; exact Int.mul_nonneg (pow_nn h k) h
theorem pow_mono {s : Int} (h : 0 ≤ s) (h1 : s ≤ 1000) : ∀ k : Nat, s ^ k ≤ 1000 ^ k
 | 0 => by rw [Int.pow_zero, Int.pow_zero]; exact Int.le_refl _
 | k + 1 => by
  rw [Int.pow_succ, Int.pow_succ]
  exact Int.mul_le_mul (pow_mono h h1 k) h1 h (pow_nn (by decide) k)
theorem pow_le {s : Int} (h : 0 ≤ s) (h1 : s ≤ 1000) {k : Nat} (hk : k ≤ 5) : s ^ k ≤ 1000000000000000 := by
 refine Int.le_trans (pow_mono h h1 k) ?_
 rcases (show k = 0 ∨ k = 1 ∨ k = 2 ∨ k = 3 ∨ k = 4 ∨ k = 5 by omega) with rfl | rfl | rfl | rfl | rfl | rfl <;> decide
theorem pow_mono' {s c : Int} (h : 0 ≤ s) (h1 : s ≤ c) : ∀ k : Nat, s ^ k ≤ c ^ k
 | 0 => by rw [Int.pow_zero, Int.pow_zero]; exact Int.le_refl _
 | k + 1 => by
  rw [Int.pow_succ, Int.pow_succ]
  exact Int.mul_le_mul (pow_mono' h h1 k) h1 h (pow_nn (by omega) k)
set_option maxHeartbeats 800000 in
theorem power_any (w : World) (s m : Int) (hs : 0 ≤ s) (hs1 : s ≤ 1000) (hm : m ≤ 5) :
  Calls Tryz.prog 81 #[.int .i64 s, .int .i64 m] w fun e w' => e = .returned (.int .i64 (s ^ m.toNat)) ∧ w = w' := by
 go_enter Tryz.func81, Tryz.ntmps81
 go_wp2_with fail
 go_loop [7, 5] (fun i o => ∃ k : Nat, k ≤ m.toNat ∧ i = .int .i64 k ∧ o = .int .i64 (s ^ k)) (fun i _ => m.toNat - (intOf i).toNat)
 case atStart => exact ⟨0, Nat.zero_le _, rfl, by simp⟩
 case round =>
  obtain ⟨k, hk, rfl, rfl⟩ := hrel
  by_cases hkl : (k : Int) < m
  ·have h1 := pow_nn hs (k + 1)
   have h2 := pow_le hs hs1 (k := k + 1) (by omega)
   have HM : Hid (wrap64 (s ^ k * s) = s ^ (k + 1)) := by
    unfold Hid
    rw [← Int.pow_succ]; exact wrap64_id (Int.le_trans (by decide) h1) (Int.le_trans h2 (by decide))
   clear h1 h2
   go_wp2_with fail
   go_round
   case rel => exact ⟨k + 1, by omega, by go_num, by first | exact congrArg _ HM.out | (rw [← HM.out]; go_num)⟩
   case measure => simp [intOf]; omega
  ·obtain rfl : k = m.toNat := by omega
   go_wp2_with fail
   go_ret
   exact ⟨rfl, rfl⟩
set_option maxHeartbeats 800000 in
theorem l01Power_any (w : World) (s m : Int) (hs : 0 ≤ s) (hs1 : s ≤ 1000) (hm : m ≤ 5) :
  Calls Tryz.prog 72 #[.int .i64 s, .int .i64 m] w fun e w' => e = .returned (.int .i64 (s ^ m.toNat)) ∧ w = w' := by
 by_cases hm0 : m ≤ 0
 ·obtain h0 : m.toNat = 0 := by omega
  have HZ : Hid (s ^ m.toNat = 1) := by unfold Hid; rw [h0, Int.pow_zero]
  clear h0
  go_enter Tryz.func72, Tryz.ntmps72
  go_wp2_with fail
  go_loop [1, 5] (fun i o => i = .int .i64 m ∧ o = .int .i64 1) (fun i _ => (intOf i).toNat)
  case atStart => exact ⟨rfl, rfl⟩
  case round =>
   obtain ⟨rfl, rfl⟩ := hrel
   go_wp2_with fail
   go_ret
   exact ⟨ret_int HZ.out.symm, rfl⟩
 go_enter Tryz.func72, Tryz.ntmps72
 go_wp2_with fail
 go_loop [1, 5] (fun i o => ∃ k : Nat, k ≤ m.toNat ∧ i = .int .i64 (m - k) ∧ o = .int .i64 (s ^ k)) (fun i _ => (intOf i).toNat)
 case atStart => exact ⟨0, Nat.zero_le _, by simp, by simp⟩
 case round =>
  obtain ⟨k, hk, rfl, rfl⟩ := hrel
  by_cases hkl : (k : Int) < m
  ·have h1 := pow_nn hs (k + 1)
   have h2 := pow_le hs hs1 (k := k + 1) (by omega)
   have HM : Hid (wrap64 (s ^ k * s) = s ^ (k + 1)) := by
    unfold Hid
    rw [← Int.pow_succ]; exact wrap64_id (Int.le_trans (by decide) h1) (Int.le_trans h2 (by decide))
   clear h1 h2
   go_wp2_with fail
   go_round
   case rel => exact ⟨k + 1, by omega, by go_num, by first | exact congrArg _ HM.out | (rw [← HM.out]; go_num)⟩
   case measure => simp [intOf]; omega
  ·have hkm : (k : Int) = m := by omega
   have HK : Hid (s ^ k = s ^ m.toNat) := by unfold Hid; rw [show k = m.toNat by omega]
   go_wp2_with fail
   go_ret
   exact ⟨ret_int HK.out, rfl⟩
/-- a list's index in the order of lists -/
def idxL (s : Int) : Int → List Int → Int
 | acc, [] => acc
 | acc, a :: r => idxL s (acc * s + a) r
theorem idxL_append (s acc : Int) : ∀ (xs ys : List Int), idxL s acc (xs ++ ys) = idxL s (idxL s acc xs) ys := by
 intro xs
 induction xs generalizing acc with
 | nil => intro ys; rfl
 | cons a r ih => intro ys; exact ih _ ys
theorem idxL_take {s : Int} {xs : List Int} {k : Nat} (h : k < xs.length) : idxL s 0 (xs.take (k + 1)) = idxL s 0 (xs.take k) * s + xs[k] := by
 rw [List.take_succ_eq_append_getElem h, idxL_append]
 rfl
theorem idx_bd {s : Int} (hs : 1 ≤ s) {xs : List Int} (h : ∀ a ∈ xs, 0 ≤ a ∧ a ≤ s - 1) : ∀ k, k ≤ xs.length → 0 ≤ idxL s 0 (xs.take k) ∧ idxL s 0 (xs.take k) ≤ s ^ k - 1
 | 0, _ => by simp [idxL]
 | k + 1, hk => by
  have ih := idx_bd hs h k (by omega)
  have ha := h xs[k] (List.getElem_mem hk)
  have h1 := Int.mul_le_mul_of_nonneg_right ih.2 (show (0 : Int) ≤ s by omega)
  have h2 : (s ^ k - 1) * s = s ^ (k + 1) - s := by rw [Int.sub_mul, Int.pow_succ, Int.one_mul]
  have h3 := Int.mul_nonneg ih.1 (show (0 : Int) ≤ s by omega)
  rw [idxL_take hk]
  rw [h2] at h1
  generalize s ^ (k + 1) = P at *
  generalize idxL s 0 (xs.take k) * s = Q at *
  constructor <;> omega
end Go.Proofs.YtmnjlhcbabhhlaaGreat
namespace Go.Proofs.YtmnjlhcbabhhlaaGreat
open Go.RowKit Go.Sort
/-- a row of numbers of the call's own, made and then written at places -/
def IR (e base : Nat) (w : World) (g n cap : Nat) (L : List Int) : Prop := L.length = n ∧ (∀ a ∈ L, I64 a) ∧ base ≤ g ∧ w.ownsRow base e 1 (.slice (some ⟨g, 0, none⟩) n cap) n (L.map (Value.int .i64))
section
variable {e base g n cap : Nat} {w w' : World} {L : List Int}
theorem IR.cell (h : IR e base w g n cap L) {j : Nat} (hj : j < n) : ∃ u, w.cell? ⟨g, j, none⟩ = some u := by
 rw [World.ownsRow.cellAt h.2.2.2 j (by omega)]
 exact ⟨_, List.getElem?_eq_getElem (by rw [List.length_map, h.1]; exact hj)⟩
theorem IR.free (h : IR e base w g n cap L) (j : Nat) : w.frozen? ⟨g, j, none⟩ = false := World.ownsRow.frozenAt h.2.2.2 j
theorem IR.lt (h : IR e base w g n cap L) : g < w.heap.size := (h.2.2.2.lt g rfl).2
theorem IR.set (h : IR e base w g n cap L) (j : Nat) {a : Int} (ha : I64 a) : IR e base (w.setCell ⟨g, j, none⟩ (.int .i64 a)) g n cap (L.set j a) := by
 refine ⟨by rw [List.length_set]; exact h.1, fun b hb => ?_, h.2.2.1, ?_⟩
 ·rcases List.mem_or_eq_of_mem_set hb with hb | rfl
  ·exact h.2.1 b hb
  ·exact ha
 ·rw [List.map_set]
  exact (h.2.2.2.stored j _).1
theorem IR.fr (h : IR e base w g n cap L) (hl : n ≤ capMax) : intsT.Fr base w [.slice (some ⟨g, 0, none⟩) n cap] L := by
 obtain ⟨h1, h2, h3, h4⟩ := h
 subst h1
 have hlt := (h4.lt g rfl).2
 have hfl : flat (fun _ => []) L.length = [] := List.eq_nil_iff_forall_not_mem.2 fun x hx => by obtain ⟨_, _, h⟩ := List.mem_flatMap.1 hx; cases h
 refine Bl.fr (E := Ty.int) (e := e) (top := w.heap.size) ⟨L.map (Value.int .i64), fun _ => [], h4, fun i hi => ⟨[.int .i64 L[i]], ⟨rfl, h2 _ (List.getElem_mem hi), rfl⟩, fun j hj => ?_⟩, by rw [hfl]; exact List.nodup_nil, by rw [hfl]; simp, fun g' hg' => ?_, by rw [hfl]; intro b hb; cases hb⟩ hl
 ·obtain rfl : j = 0 := by simpa using hj
  simp [Ty.int, hi]
 ·simp [Value.ownBlock] at hg'
  omega
end
theorem wpList_mkI {P : Program} (w : World) {ops : Array Oper} {rest : List Oper} {o : Oper} {a : Act} {Q : Exit → Act → World → Prop} (hg : o.guard = none) (l c : Operand) (t e : TypeId) {bytes : Nat}
  (hop : o.op = Op.makeSlice t l c) (ht : P.underlying t = some (.slice e)) (hinfo : (P.info? e).map (fun i => (i.zero, i.size, i.bytes)) = some (some (.int .i64 0), 1, bytes)) (base : Nat) (n : Nat) (hl : a.eval l = .int .i64 (n : Int)) (hc : a.eval c = .int .i64 (n : Int)) (hn : n ≤ 1000000000) (hby : bytes ≤ 100000) (hb : base ≤ w.heap.size)
  (hK : ∀ w', IR e base w' w.heap.size n n (List.replicate n 0) → w.grownBy w' none → w'.heap.size = w.heap.size + 1 → wpList P ops Q rest (a.put o.dst (.slice (some ⟨w.heap.size, 0, none⟩) n n)) w') :
  wpList P ops Q (o :: rest) a w := by
 obtain ⟨i, hi, hz, hsz, hbt'⟩ := info_parts hinfo
 have hlen' : bytes * n ≤ 281474976710656 := Nat.le_trans (Nat.mul_le_mul hby hn) (by decide)
 refine wpList_plain hg fun K hK' => ?_
 have hb48 : (i.bytes : Int) * (n : Int) ≤ 281474976710656 := by
  have h : ((bytes * n : Nat) : Int) ≤ 281474976710656 := by omega
  rw [hbt']
  rwa [Int.natCast_mul] at h
 have hr := run_make (P := P) w t e i (.int .i64 0) ht hi hz .i64 .i64 (n : Int) (n : Int) (by omega) (Int.le_refl _) hb48 (by omega)
 simp only [Int.toNat_natCast] at hr
 unfold Oper.wp
 simp only [execOp, hop, hl, hc, hr, Result.andThen_ok, Sem.run_bind, Sem.run_pure]
 have hown := World.ownsRow_lit (base := base) (e := e) (size := 1) w (madeCells (Value.int .i64 0).cells (n * i.size)) n hb (by unfold maxLen; omega) (by rw [size_madeCells, hsz])
 refine hK' _ _ (hK _ ⟨by simp, fun a ha => ?_, hb, ?_⟩ (World.grownBy_alloc w _ none) (by simp))
 ·rw [List.eq_of_mem_replicate ha]; exact I64.small (by omega) (by omega)
 ·have e1 : (madeCells (Value.int .i64 0).cells (n * i.size)).toList = (List.replicate n (0 : Int)).map (Value.int .i64) := by
   rw [hsz, Nat.mul_one, List.map_replicate]
   have hc0 : (Value.int .i64 0).cells = #[.int .i64 0] := by simp [Value.cells]
   rw [hc0]
   exact toList_madeCells_one (.int .i64 0) n
  rw [← e1]
  exact hown
def dig (s idx : Int) (j : Nat) : Int := (idx / s ^ j) % s
def digL (s idx : Int) (n : Nat) : List Int := (List.range n).map fun i => dig s idx (n - 1 - i)
theorem digL_len {s idx : Int} {n : Nat} : (digL s idx n).length = n := by simp [digL]
theorem dig_nn {s idx : Int} (hs : 1 ≤ s) (j : Nat) : 0 ≤ dig s idx j ∧ dig s idx j < s := ⟨Int.emod_nonneg _ (by omega), Int.emod_lt_of_pos _ (by omega)⟩
theorem quo_nn {s idx : Int} (hs : 1 ≤ s) (h : 0 ≤ idx) (j : Nat) : 0 ≤ idx / s ^ j ∧ idx / s ^ j ≤ idx := by
 have h1 : 0 ≤ s ^ j := pow_nn (by omega) j
 exact ⟨Int.ediv_nonneg h h1, Int.ediv_le_self _ h⟩
theorem quo_succ {s idx : Int} (hs : 1 ≤ s) (j : Nat) : idx / s ^ j / s = idx / s ^ (j + 1) := by
 rw [Int.pow_succ, Int.ediv_ediv_of_nonneg (pow_nn (by omega) j)]
theorem infoInt : (Tryz.prog.info? 2).map (fun i => (i.zero, i.size, i.bytes)) = some (some (.int .i64 0), 1, 8) := by kernel_rfl
set_option maxHeartbeats 800000 in
set_option maxRecDepth 100000 in
theorem listOf_any (w : World) (s idx : Int) (n : Nat) (hs : 1 ≤ s) (hs1 : s ≤ 1000) (hn : n ≤ 5) (h0 : 0 ≤ idx) (h1 : idx ≤ 1000000000000000) :
  Calls Tryz.prog 82 #[.int .i64 s, .int .i64 n, .int .i64 idx] w (RetS intsT w (digL s idx n)) := by
 go_enter Tryz.func82, Tryz.ntmps82
 go_wp2_with (refine wpList_mkI _ rfl _ _ 50 2 rfl Tryz.underlying50 infoInt w.heap.size n rfl rfl (by omega) (by decide) (by simp) ?_; intro w1 hA hg1 hs1)
 have hb1 := below_of_grown hg1
 go_loopw [8, 2] (fun i q wr => ∃ (k : Nat) (L : List Int), k ≤ n ∧ i = .int .i64 ((n : Int) - 1 - k) ∧ q = .int .i64 (idx / s ^ k) ∧ IR 2 w.heap.size wr w.heap.size n n L ∧ (∀ (j : Nat) (h : j < L.length), n - k ≤ j → L[j] = dig s idx (n - 1 - j)) ∧ Below w.heap.size w wr) (fun i _ _ => ((intOf i) + 1).toNat)
 case atStart => exact ⟨0, _, Nat.zero_le _, by simp, by simp, hA, fun j h hj => by simp at h; omega, hb1⟩
 case round =>
  obtain ⟨k, L, hk, rfl, rfl, hIR, hL, hbel⟩ := hrel
  have hLl := hIR.1
  by_cases hkl : k < n
  ·obtain ⟨j, hj⟩ : ∃ j : Nat, (n : Int) - 1 - k = j := ⟨n - 1 - k, by omega⟩
   have hjn : j < n := by omega
   have hjk : n - 1 - j = k := by omega
   obtain ⟨u0, d0⟩ := hIR.cell hjn
   have d1 := hIR.free j
   have hg := hIR.lt
   have hd := dig_nn (idx := idx) hs k
   have hq := quo_nn hs h0 k
   have hIs := hIR.set j (I64.small (n := dig s idx k) (by omega) (by omega))
   have HQ := Lib.hid (quo_succ (idx := idx) hs k)
   have HDG : Hid ((idx / s ^ k) % s = dig s idx k) := rfl
   have HIS := Lib.hid hIs
   have HLL := Lib.hid hL
   have HIR := Lib.hid hIR
   clear hIs hL hIR hA
   rw [hj]
   go_wp2_with fail
   refine ⟨⟨k + 1, L.set j (dig s idx k), by omega, congrArg _ (by omega), by rw [HQ.out], HIS.out, fun j' h hj' => ?_, hbel.setCell (Nat.le_refl _) _⟩, by simp [intOf]⟩
   by_cases e : j = j'
   ·subst e
    rw [List.getElem_set_self, hjk]
   ·rw [List.getElem_set_ne e]
    exact HLL.out j' (by simpa using h) (by omega)
  ·obtain rfl : k = n := by omega
   have hfr := Lib.hid (hIR.fr (by unfold capMax; omega))
   have HE : Hid (L = digL s idx k) := List.ext_getElem (by rw [hLl, digL_len]) fun j h h' => by rw [hL j h (by omega)]; simp [digL]
   clear hIR hL hA
   go_wp2_with fail
   go_ret
   exact ⟨_, rfl, by rw [← HE.out]; exact hfr.out, hbel⟩
set_option maxHeartbeats 800000 in
set_option maxRecDepth 100000 in
theorem l01Digits_any (w : World) (s idx : Int) (n : Nat) (hs : 1 ≤ s) (hs1 : s ≤ 1000) (hn : n ≤ 5) (h0 : 0 ≤ idx) (h1 : idx ≤ 1000000000000000) :
  Calls Tryz.prog 73 #[.int .i64 s, .int .i64 n, .int .i64 idx] w (RetS intsT w (digL s idx n)) := by
 go_enter Tryz.func73, Tryz.ntmps73
 go_wp2_with (refine wpList_mkI _ rfl _ _ 50 2 rfl Tryz.underlying50 infoInt w.heap.size n rfl rfl (by omega) (by decide) (by simp) ?_; intro w1 hA hg1 hs1)
 have hb1 := below_of_grown hg1
 go_loopw [8, 2] (fun i q wr => ∃ (k : Nat) (L : List Int), k ≤ n ∧ i = .int .i64 ((n : Int) - 1 - k) ∧ q = .int .i64 (idx / s ^ k) ∧ IR 2 w.heap.size wr w.heap.size n n L ∧ (∀ (j : Nat) (h : j < L.length), n - k ≤ j → L[j] = dig s idx (n - 1 - j)) ∧ Below w.heap.size w wr) (fun i _ _ => ((intOf i) + 1).toNat)
 case atStart => exact ⟨0, _, Nat.zero_le _, by simp, by simp, hA, fun j h hj => by simp at h; omega, hb1⟩
 case round =>
  obtain ⟨k, L, hk, rfl, rfl, hIR, hL, hbel⟩ := hrel
  have hLl := hIR.1
  by_cases hkl : k < n
  ·obtain ⟨j, hj⟩ : ∃ j : Nat, (n : Int) - 1 - k = j := ⟨n - 1 - k, by omega⟩
   have hjn : j < n := by omega
   have hjk : n - 1 - j = k := by omega
   obtain ⟨u0, d0⟩ := hIR.cell hjn
   have d1 := hIR.free j
   have hg := hIR.lt
   have hd := dig_nn (idx := idx) hs k
   have hq := quo_nn hs h0 k
   have hIs := hIR.set j (I64.small (n := dig s idx k) (by omega) (by omega))
   have HQ := Lib.hid (quo_succ (idx := idx) hs k)
   have HDG : Hid ((idx / s ^ k) % s = dig s idx k) := rfl
   have HIS := Lib.hid hIs
   have HLL := Lib.hid hL
   have HIR := Lib.hid hIR
   clear hIs hL hIR hA
   rw [hj]
   go_wp2_with fail
   refine ⟨⟨k + 1, L.set j (dig s idx k), by omega, congrArg _ (by omega), by rw [HQ.out], HIS.out, fun j' h hj' => ?_, hbel.setCell (Nat.le_refl _) _⟩, by simp [intOf]⟩
   by_cases e : j = j'
   ·subst e
    rw [List.getElem_set_self, hjk]
   ·rw [List.getElem_set_ne e]
    exact HLL.out j' (by simpa using h) (by omega)
  ·obtain rfl : k = n := by omega
   have hfr := Lib.hid (hIR.fr (by unfold capMax; omega))
   have HE : Hid (L = digL s idx k) := List.ext_getElem (by rw [hLl, digL_len]) fun j h h' => by rw [hL j h (by omega)]; simp [digL]
   clear hIR hL hA
   go_wp2_with fail
   go_ret
   exact ⟨_, rfl, by rw [← HE.out]; exact hfr.out, hbel⟩
end Go.Proofs.YtmnjlhcbabhhlaaGreat
namespace Go.Proofs.YtmnjlhcbabhhlaaGreat
open Go.RowKit Go.Sort
set_option maxHeartbeats 400000 in
theorem l01Before_quiet (w : World) {v u : Value} {xs ys : List Int} (h : intsT.Rd w [v] xs) (h' : intsT.Rd w [u] ys) (hn : xs.length ≤ ys.length) (hs : xs.length = ys.length) :
  Calls Tryz.prog 66 #[v, u] w fun e w' => e = .returned (.bool (tb (ltL xs ys))) ∧ Quiet w w' := by
 obtain ⟨ad, cap, hv, hl, hc, hcell⟩ := ints_ex h
 obtain ⟨ad', cap', hv', hl', hc', hcell'⟩ := ints_ex h'
 obtain rfl : v = _ := by simpa using hv
 obtain rfl : u = _ := by simpa using hv'
 have HS := Lib.hid hs
 clear h hv h' hv' hs
 go_enter Tryz.func66, Tryz.ntmps66
 go_wp2_with fail
 go_loopw [5] (fun i wr => ∃ k : Nat, k ≤ xs.length ∧ i = .int .i64 k ∧ xs.take k = ys.take k ∧ Quiet w wr) (fun i _ => xs.length - (intOf i).toNat)
 case atStart => exact ⟨0, Nat.zero_le _, rfl, rfl, Quiet.refl _⟩
 case round =>
  obtain ⟨k, hk, rfl, ht, nq, rfl⟩ := hrel
  have HT := Lib.hid ht
  clear ht
  by_cases hkl : k < xs.length
  ·have hkl' : k < ys.length := by omega
   obtain ⟨b, o, rfl, hb, hce⟩ := hcell (by omega)
   obtain ⟨b', o', rfl, hb', hce'⟩ := hcell' (by omega)
   have d0 := (hce k hkl).2
   have d1 := (hce' k hkl').2
   clear hce hce' hcell hcell'
   cases hq : (xs[k] != ys[k])
   ·go_wp2_with fail
    go_quiet (fail)
    go_wp2_with fail
    go_roundw
    case rel => exact ⟨k + 1, by omega, by go_num, take_eq_succ hkl hkl' HT.out (by simpa using hq), (by first | exact Quiet.refl _ | exact Quiet.drewN _ _ | exact (Quiet.drewN _ _).then (Quiet.drewN _ _) | exact ((Quiet.drewN _ _).then (Quiet.drewN _ _)).then (Quiet.drewN _ _))⟩
    case measure => simp [intOf]; omega
   ·have hc := cmpL_ne HT.out hkl hkl' (by simpa using hq)
    have hr : decide (xs[k] < ys[k]) = tb (ltL xs ys) := by
     rw [Bool.eq_iff_iff, tb_iff, ltL, hc, decide_eq_true_iff]
     rcases ilt xs[k] ys[k] with h | h
     ·rw [cmpI_lt h]; simp [h]
     ·have hne : xs[k] ≠ ys[k] := by simpa using hq
      rw [cmpI_gt (by omega)]; simp; omega
    have HR := Lib.hid hr
    clear hr hc
    go_wp2_with fail
    go_quiet (fail)
    go_wp2_with fail
    go_quiet (fail)
    go_wp2_with fail
    go_ret
    exact ⟨ret_bool HR.out, (by first | exact Quiet.refl _ | exact Quiet.drewN _ _ | exact (Quiet.drewN _ _).then (Quiet.drewN _ _) | exact ((Quiet.drewN _ _).then (Quiet.drewN _ _)).then (Quiet.drewN _ _))⟩
  ·obtain rfl : k = xs.length := by omega
   go_wp2_with fail
   go_ret
   have e : xs = ys := by have := HT.out; rwa [List.take_length, HS.out, List.take_length] at this
   exact ⟨ret_bool (tb_false (by rw [e, ltL, cmpL_self]; omega)).symm, (by first | exact Quiet.refl _ | exact Quiet.drewN _ _ | exact (Quiet.drewN _ _).then (Quiet.drewN _ _) | exact ((Quiet.drewN _ _).then (Quiet.drewN _ _)).then (Quiet.drewN _ _))⟩
set_option maxHeartbeats 1600000 in
theorem l01Ok_quiet (w : World) {v : Value} {r : Int × List (List Int)} (h : relT.Pt w v r) (size : Int) :
  Calls Tryz.prog 35 #[.int .i64 size, v] w fun e w' => e = .returned (.bool (tb (relOk size r))) ∧ Quiet w w' := by
 obtain ⟨b, o, ad, cap, rfl, hb, hI, c0, c1, hx⟩ := pt_pair h
 clear h
 cases hs : inB size 1 4
 ·go_enter Tryz.func35, Tryz.ntmps35
  go_wp2_with (go_at_call 63; refine (l01Size_any _ _).mono ?_; rintro e w' ⟨rfl, rfl⟩)
  go_ret
  exact ⟨ret_bool (tb_false (fun hr => by have := inB_true.2 hr.1; rw [hs] at this; cases this)).symm, Quiet.refl _⟩
 cases ha : inB r.1 1 4
 ·go_enter Tryz.func35, Tryz.ntmps35
  go_wp2_with (first | (go_at_call 63; refine (l01Size_any _ _).mono ?_; rintro e w' ⟨rfl, rfl⟩) | (go_at_call 64; refine (l01Arity_any _ _).mono ?_; rintro e w' ⟨rfl, rfl⟩))
  go_ret
  exact ⟨ret_bool (tb_false (fun hr => by have := inB_true.2 hr.2.1; rw [ha] at this; cases this)).symm, Quiet.refl _⟩
 have hs' := inB_true.1 hs
 have ha' := inB_true.1 ha
 obtain ⟨_, _, e1, hle, hle2, hcell⟩ := slices_ex hx
 simp only [List.cons.injEq, Value.slice.injEq, and_true, true_and] at e1
 obtain ⟨rfl, rfl⟩ := e1
 go_enter Tryz.func35, Tryz.ntmps35
 go_wp2_with (first | (go_at_call 63; refine (l01Size_any _ _).mono ?_; rintro e w' ⟨rfl, rfl⟩) | (go_at_call 64; refine (l01Arity_any _ _).mono ?_; rintro e w' ⟨rfl, rfl⟩))
 go_loopw [5] (fun i wr => ∃ k : Nat, k ≤ r.2.length ∧ i = .int .i64 k ∧ relUp size r k ∧ Quiet w wr) (fun i _ => r.2.length - (intOf i).toNat)
 case atStart => exact ⟨0, Nat.zero_le _, rfl, relUp_zero _ _, Quiet.refl _⟩
 case round =>
  obtain ⟨k, hk, rfl, ht, hqw⟩ := hrel
  have HT := Lib.hid ht
  have d0 := (hqw.below.cell hb).trans c0
  have d1 := (hqw.below.cell hb).trans c1
  clear ht c0 c1
  by_cases hkl : k < r.2.length
  ·obtain ⟨a, q, rfl, haa, hce⟩ := hcell (by omega)
   obtain ⟨u, hu, f0⟩ := hce k hkl
   have g0 := (hqw.below.cell haa).trans f0
   have hu' := hu.below hqw.below
   have cT : ∀ n, Calls Tryz.prog 65 #[.int .i64 size, .int .i64 r.1, u] (wr.drewN n) fun e w'' => e = .returned (.bool (tb (rowOk size r.1 r.2[k]))) ∧ ∃ m, w'' = wr.drewN m := fun n =>
    quiet_call ((l01Tuple_any _ _ _ (hu'.below (Quiet.drewN wr n).below) (by omega) (by omega)).mono fun _ _ ⟨p, q⟩ => ⟨p, q ▸ Quiet.refl _⟩)
   cases hr : tb (rowOk size r.1 r.2[k])
   ·rw [hr] at cT
    clear hcell hce
    go_wp2_with fail
    go_quiet (exact cT _)
    go_wp2_with fail
    go_ret
    exact ⟨ret_bool (tb_false (fun hh => by have := tb_true (hh.2.2 k hkl).1; rw [hr] at this; cases this)).symm, hqw.then (by first | exact Quiet.refl _ | exact Quiet.drewN _ _ | exact (Quiet.drewN _ _).then (Quiet.drewN _ _) | exact ((Quiet.drewN _ _).then (Quiet.drewN _ _)).then (Quiet.drewN _ _))⟩
   have hrow := tb_iff.1 hr
   have HROW := Lib.hid hrow
   rw [hr] at cT
   clear hrow
   by_cases h0 : k = 0
   ·have H0 := Lib.hid h0
    have hg : decide (0 < k) = false := by rw [h0]; rfl
    clear hcell hce h0
    go_wp2_with fail
    go_quiet (exact cT _)
    go_wp2_with fail
    go_roundw
    case rel => exact ⟨k + 1, by omega, by go_num, relUp_succ hkl HT.out HROW.out (fun h => by have := H0.out; omega), hqw.then (by first | exact Quiet.refl _ | exact Quiet.drewN _ _ | exact (Quiet.drewN _ _).then (Quiet.drewN _ _) | exact ((Quiet.drewN _ _).then (Quiet.drewN _ _)).then (Quiet.drewN _ _))⟩
    case measure => simp [intOf]; omega
   ·have h1 : k - 1 < r.2.length := by omega
    obtain ⟨u1, hu1, f1⟩ := hce (k - 1) h1
    have g1 := (hqw.below.cell haa).trans f1
    have hu1' := hu1.below hqw.below
    have hg : decide (0 < k) = true := by simp; omega
    have hl1 : r.2[k - 1].length = r.2[k].length := by
     have p1 := (HT.out (k - 1) h1 (by omega)).1.1
     have p2 := HROW.out.1
     omega
    have cB : ∀ n, Calls Tryz.prog 66 #[u1, u] (wr.drewN n) fun e w'' => e = .returned (.bool (tb (ltL r.2[k - 1] r.2[k]))) ∧ ∃ m, w'' = wr.drewN m := fun n =>
     quiet_call (l01Before_quiet _ (hu1'.below (Quiet.drewN wr n).below) (hu'.below (Quiet.drewN wr n).below) (by omega) hl1)
    have HL := Lib.hid hl1
    clear hcell hce hl1
    go_wp2_with fail
    cases hlt : tb (ltL r.2[k - 1] r.2[k])
    ·rw [hlt] at cB
     go_quiet (first | exact cT _ | exact cB _)
     go_wp2_with fail
     go_ret
     exact ⟨ret_bool (tb_false (fun hh => by have := tb_true ((hh.2.2 k hkl).2 (by omega)); rw [hlt] at this; cases this)).symm, hqw.then (by first | exact Quiet.refl _ | exact Quiet.drewN _ _ | exact (Quiet.drewN _ _).then (Quiet.drewN _ _) | exact ((Quiet.drewN _ _).then (Quiet.drewN _ _)).then (Quiet.drewN _ _))⟩
    ·rw [hlt] at cB
     go_quiet (first | exact cT _ | exact cB _)
     go_wp2_with fail
     go_roundw
     case rel => exact ⟨k + 1, by omega, by go_num, relUp_succ hkl HT.out HROW.out (fun _ => tb_iff.1 hlt), hqw.then (by first | exact Quiet.refl _ | exact Quiet.drewN _ _ | exact (Quiet.drewN _ _).then (Quiet.drewN _ _) | exact ((Quiet.drewN _ _).then (Quiet.drewN _ _)).then (Quiet.drewN _ _))⟩
     case measure => simp [intOf]; omega
  ·obtain rfl : k = r.2.length := by omega
   go_wp2_with fail
   go_ret
   exact ⟨ret_bool (tb_true ⟨hs', ha', fun i h => HT.out i h h⟩).symm, hqw⟩
end Go.Proofs.YtmnjlhcbabhhlaaGreat
namespace Go.Proofs.YtmnjlhcbabhhlaaGreat
open Go.RowKit Go.Sort
theorem geq_cmp (xs ys : List Int) : decide (0 ≤ cmpL xs ys) = !tb (ltL xs ys) := by
 rw [tb_not, Bool.eq_iff_iff, tb_iff, ltL, decide_eq_true_iff]; omega
set_option maxHeartbeats 1600000 in
theorem ValidRel_any (w : World) {cs : Array Value} {r : Int × List (List Int)} (h : relT.Rd w cs.toList r) (size : Int) :
  Calls Tryz.prog 56 #[.int .i64 size, .agg cs] w fun e w' => e = .returned (.bool (tb (relOk size r))) ∧ Below w.heap.size w w' := by
 obtain ⟨v, hv, hI, hx⟩ := pair_ex h
 obtain rfl := agg_of hv
 obtain ⟨ad, cap, rfl⟩ := rd_slice hx
 clear h hv
 cases hs : inB size 1 4
 ·go_enter Tryz.func56, Tryz.ntmps56
  go_wp2_with (go_at_call 74; refine (isSize_any _ _).mono ?_; rintro e w' ⟨rfl, rfl⟩)
  go_ret
  exact ⟨ret_bool (tb_false (fun hr => by have := inB_true.2 hr.1; rw [hs] at this; cases this)).symm, (by repeat (first | exact Below.refl _ _ | exact bA | assumption | refine Below.setCell ?_ (by first | omega | (simp; try omega)) _ | refine Below.alloc ?_ (by first | omega | (simp; try omega)) _ | refine Below.drew ?_ | refine bDN ?_ | refine bthen ?_ (by assumption)))⟩
 cases ha : inB r.1 1 4
 ·go_enter Tryz.func56, Tryz.ntmps56
  go_wp2_with (first | (go_at_call 74; refine (isSize_any _ _).mono ?_; rintro e w' ⟨rfl, rfl⟩) | (go_at_call 90; refine (isArity_any _ _).mono ?_; rintro e w' ⟨rfl, rfl⟩))
  go_ret
  exact ⟨ret_bool (tb_false (fun hr => by have := inB_true.2 hr.2.1; rw [ha] at this; cases this)).symm, (by repeat (first | exact Below.refl _ _ | exact bA | assumption | refine Below.setCell ?_ (by first | omega | (simp; try omega)) _ | refine Below.alloc ?_ (by first | omega | (simp; try omega)) _ | refine Below.drew ?_ | refine bDN ?_ | refine bthen ?_ (by assumption)))⟩
 have hs' := inB_true.1 hs
 have ha' := inB_true.1 ha
 obtain ⟨_, _, e1, hle, hle2, hcell⟩ := slices_ex hx
 simp only [List.cons.injEq, Value.slice.injEq, and_true, true_and] at e1
 obtain ⟨rfl, rfl⟩ := e1
 go_enter Tryz.func56, Tryz.ntmps56
 go_wp2_with (first | (go_at_call 74; refine (isSize_any _ _).mono ?_; rintro e w' ⟨rfl, rfl⟩) | (go_at_call 90; refine (isArity_any _ _).mono ?_; rintro e w' ⟨rfl, rfl⟩))
 go_loopw [19] (fun i wr => ∃ k : Nat, k ≤ r.2.length ∧ i = .int .i64 k ∧ relUp size r k ∧ Below w.heap.size w wr ∧ w.heap.size < wr.heap.size ∧ wr.cell? ⟨w.heap.size, 0, none⟩ = some (.int .i64 r.1) ∧ wr.cell? ⟨w.heap.size, 1, none⟩ = some (.slice ad r.2.length cap)) (fun i _ => r.2.length - (intOf i).toNat)
 case atStart => exact ⟨0, Nat.zero_le _, rfl, relUp_zero _ _, (by repeat (first | exact Below.refl _ _ | exact bA | assumption | refine Below.setCell ?_ (by first | omega | (simp; try omega)) _ | refine Below.alloc ?_ (by first | omega | (simp; try omega)) _ | refine Below.drew ?_ | refine bDN ?_ | refine bthen ?_ (by assumption))), by simp, by simp, by simp⟩
 case round =>
  obtain ⟨k, hk, rfl, ht, hbel, hz, b0, b1⟩ := hrel
  have HT := Lib.hid ht
  clear ht
  by_cases hkl : k < r.2.length
  ·obtain ⟨a, q, rfl, haa, hce⟩ := hcell (by omega)
   obtain ⟨u, hu, f0⟩ := hce k hkl
   have g0 := (hbel.cell haa).trans f0
   cases hr : tb (rowOk size r.1 r.2[k])
   ·clear hcell hce
    go_wp2_with fail
    refine (areValues_any _ (hu.below hbel) _ _ (by omega) (by omega)).mono ?_
    rintro e w1 ⟨rfl, hb1⟩
    rw [hr]
    go_wp2_with fail
    go_ret
    exact ⟨ret_bool (tb_false (fun hh => by have := tb_true (hh.2.2 k hkl).1; rw [hr] at this; cases this)).symm, bthen hbel hb1⟩
   have HROW := Lib.hid (tb_iff.1 hr)
   by_cases h0 : k = 0
   ·have H0 := Lib.hid h0
    have hg : decide (0 < k) = false := by rw [h0]; rfl
    clear hcell hce h0
    go_wp2_with fail
    refine (areValues_any _ (hu.below hbel) _ _ (by omega) (by omega)).mono ?_
    rintro e w1 ⟨rfl, hb1⟩
    rw [hr]
    have c0 := (hb1.cell hz).trans b0
    have c1 := (hb1.cell hz).trans b1
    have hz1 : w.heap.size < w1.heap.size := Nat.lt_of_lt_of_le hz hb1.size
    go_wp2_with fail
    go_roundw
    case rel => exact ⟨k + 1, by omega, by go_num, relUp_succ hkl HT.out HROW.out (fun h => by have := H0.out; omega), bthen hbel hb1, hz1, c0, c1⟩
    case measure => simp [intOf]; omega
   ·have h1 : k - 1 < r.2.length := by omega
    obtain ⟨u1, hu1, f1⟩ := hce (k - 1) h1
    have hg : decide (0 < k) = true := by simp; omega
    have hgeq := geq_cmp r.2[k - 1] r.2[k]
    clear hcell hce
    go_wp2_with fail
    refine (areValues_any _ (hu.below hbel) _ _ (by omega) (by omega)).mono ?_
    rintro e w1 ⟨rfl, hb1⟩
    rw [hr]
    have hbel1 := bthen hbel hb1
    have c0 := (hb1.cell hz).trans b0
    have c1 := (hb1.cell hz).trans b1
    have g1 := (hbel1.cell haa).trans f1
    have hz1 : w.heap.size < w1.heap.size := Nat.lt_of_lt_of_le hz hb1.size
    clear b0 b1 g0 hb1 hbel
    cases hlt : tb (ltL r.2[k - 1] r.2[k])
    ·rw [hlt] at hgeq
     go_wp2_with fail
     refine (Compare_any _ (hu1.below hbel1) (hu.below hbel1)).mono ?_
     rintro e w2 ⟨rfl, rfl⟩
     go_wp2_with fail
     go_ret
     exact ⟨ret_bool (tb_false (fun hh => by have := tb_true ((hh.2.2 k hkl).2 (by omega)); rw [hlt] at this; cases this)).symm, hbel1⟩
    ·rw [hlt] at hgeq
     go_wp2_with fail
     refine (Compare_any _ (hu1.below hbel1) (hu.below hbel1)).mono ?_
     rintro e w2 ⟨rfl, rfl⟩
     go_wp2_with fail
     go_roundw
     case rel => exact ⟨k + 1, by omega, by go_num, relUp_succ hkl HT.out HROW.out (fun _ => tb_iff.1 hlt), hbel1, hz1, c0, c1⟩
     case measure => simp [intOf]; omega
  ·obtain rfl : k = r.2.length := by omega
   go_wp2_with fail
   go_ret
   exact ⟨ret_bool (tb_true ⟨hs', ha', fun i h => HT.out i h h⟩).symm, hbel⟩
theorem ValidTemplate1_any (w : World) {cs : Array Value} {r : Int × List (List Int)} (h : relT.Rd w cs.toList r) (size : Int) (b : Nat) (hb : b < w.heap.size) (hc : w.cell? ⟨b, 0, none⟩ = some (.int .i64 size)) :
  Calls Tryz.prog 76 #[.agg cs, .pointer (some ⟨b, 0, none⟩)] w fun e w' => e = .returned (.bool (!tb (relOk size r))) ∧ Below w.heap.size w w' := by
 have hx := h
 obtain ⟨v, hv, hI, -⟩ := pair_ex h
 obtain rfl := agg_of hv
 clear h hv
 go_enter Tryz.func76, Tryz.ntmps76
 go_wp2_with fail
 refine (ValidRel_any _ (hx.below bA) size).mono ?_
 rintro e w1 ⟨rfl, hb1⟩
 go_wp2_with fail
 go_ret
 exact ⟨rfl, (by repeat (first | exact Below.refl _ _ | exact bA | assumption | refine Below.setCell ?_ (by first | omega | (simp; try omega)) _ | refine Below.alloc ?_ (by first | omega | (simp; try omega)) _ | refine Below.drew ?_ | refine bDN ?_ | refine bthen ?_ (by assumption)))⟩
theorem tplOk_any {t : Int × List (Int × List (List Int))} (h0 : sizeOk t.1) (h1 : t.2.length ≤ 6) : (!anyB (fun r => !tb (relOk t.1 r)) t.2) = tb (tplOk t) := by
 rw [Bool.eq_iff_iff, tb_iff]
 simp only [anyB, tplOk, h0, h1, true_and, Bool.not_eq_true', List.any_eq_false, Bool.not_eq_false, tb_iff]
theorem ValidTemplate_any (w : World) {cs : Array Value} {t : Int × List (Int × List (List Int))} (h : tplT.Rd w cs.toList t) :
  Calls Tryz.prog 44 #[.agg cs] w fun e w' => e = .returned (.bool (tb (tplOk t))) ∧ Below w.heap.size w w' := by
 obtain ⟨v, hv, hI, hx⟩ := pair_ex h
 obtain rfl := agg_of hv
 obtain ⟨ad, cap, rfl⟩ := rd_slice hx
 clear h hv
 cases hs : inB t.1 1 4
 ·go_enter Tryz.func44, Tryz.ntmps44
  go_wp2_with (go_at_call 74; refine (isSize_any _ _).mono ?_; rintro e w' ⟨rfl, rfl⟩)
  go_ret
  exact ⟨ret_bool (tb_false (fun hr => by have := inB_true.2 hr.1; rw [hs] at this; cases this)).symm, (by repeat (first | exact Below.refl _ _ | exact bA | assumption | refine Below.setCell ?_ (by first | omega | (simp; try omega)) _ | refine Below.alloc ?_ (by first | omega | (simp; try omega)) _ | refine Below.drew ?_ | refine bDN ?_ | refine bthen ?_ (by assumption)))⟩
 have hs' := inB_true.1 hs
 by_cases hl : t.2.length ≤ 6
 rotate_left
 ·have hl' : decide (t.2.length ≤ 6) = false := by simpa using hl
  have hl2 : decide ((t.2.length : Int) ≤ 6) = false := by simp; omega
  have HL := Lib.hid hl
  clear hl
  go_enter Tryz.func44, Tryz.ntmps44
  go_wp2_with (go_at_call 74; refine (isSize_any _ _).mono ?_; rintro e w' ⟨rfl, rfl⟩)
  go_ret
  exact ⟨ret_bool (tb_false (fun hr => HL.out hr.2.1)).symm, (by repeat (first | exact Below.refl _ _ | exact bA | assumption | refine Below.setCell ?_ (by first | omega | (simp; try omega)) _ | refine Below.alloc ?_ (by first | omega | (simp; try omega)) _ | refine Below.drew ?_ | refine bDN ?_ | refine bthen ?_ (by assumption)))⟩
 have hl2 : decide ((t.2.length : Int) ≤ 6) = true := by simp; omega
 have HT := Lib.hid (tplOk_any hs' hl)
 clear hs'
 go_enter Tryz.func44, Tryz.ntmps44
 go_wp2_with (go_at_call 74; refine (isSize_any _ _).mono ?_; rintro e w' ⟨rfl, rfl⟩)
 refine (ContainsFuncRel_any _ (hx.below bA) (fun r => !tb (relOk t.1 r)) 76 #[.pointer (some ⟨w.heap.size, 0, none⟩)] (enters Tryz.func76 (by kernel_rfl) rfl) (fun W hW k hk cs hcs => ValidTemplate1_any W hcs t.1 w.heap.size ?_ ?_)).mono ?_
 ·have := hW.size; simp at this; omega
 ·rw [hW.cell (by simp)]; simp
 rintro e w1 ⟨rfl, hb1⟩
 go_wp2_with fail
 go_ret
 exact ⟨ret_bool HT.out, (by repeat (first | exact Below.refl _ _ | exact bA | assumption | refine Below.setCell ?_ (by first | omega | (simp; try omega)) _ | refine Below.alloc ?_ (by first | omega | (simp; try omega)) _ | refine Below.drew ?_ | refine bDN ?_ | refine bthen ?_ (by assumption)))⟩
theorem pt_tpl_elem {w : World} {b o n cap : Nat} {xs : List (Int × List (List Int))} (h : relsT.Rd w [.slice (some ⟨b, o, none⟩) n cap] xs) {k : Nat} (hk : k < xs.length) : relT.Pt w (.pointer (some ⟨b, o + k * 2, none⟩)) xs[k] := pt_elem h hk
set_option maxHeartbeats 800000 in
theorem l01Template_quiet (w : World) {v : Value} {t : Int × List (Int × List (List Int))} (h : tplT.Pt w v t) :
  Calls Tryz.prog 41 #[v] w fun e w' => e = .returned (.bool (tb (tplOk t))) ∧ Quiet w w' := by
 obtain ⟨b, o, ad, cap, rfl, hb, hI, c0, c1, hx⟩ := pt_pair h
 clear h
 obtain ⟨_, _, e1, hle, hle2, hcell⟩ := pairs_ex hx
 simp only [List.cons.injEq, Value.slice.injEq, and_true, true_and] at e1
 obtain ⟨rfl, rfl⟩ := e1
 go_enter Tryz.func41, Tryz.ntmps41
 go_wp2_with fail
 go_loopw [3] (fun i wr => ∃ k : Nat, k ≤ t.2.length ∧ i = .int .i64 k ∧ noneB (fun r => !tb (relOk t.1 r)) (t.2.take k) ∧ Quiet w wr) (fun i _ => t.2.length - (intOf i).toNat)
 case atStart => exact ⟨0, Nat.zero_le _, rfl, noneB_zero _ _, Quiet.refl _⟩
 case round =>
  obtain ⟨k, hk, rfl, ht, hqw⟩ := hrel
  have HT := Lib.hid ht
  have d0 := (hqw.below.cell hb).trans c0
  have d1 := (hqw.below.cell hb).trans c1
  clear ht c0 c1
  by_cases hkl : k < t.2.length
  ·obtain ⟨a, q, rfl, haa, -⟩ := hcell (by omega)
   have p := (pt_tpl_elem hx hkl).below hqw.below
   have cT : ∀ n, Calls Tryz.prog 35 #[.int .i64 t.1, .pointer (some ⟨a, q + k * 2, none⟩)] (wr.drewN n) fun e w'' => e = .returned (.bool (tb (relOk t.1 t.2[k]))) ∧ ∃ m, w'' = wr.drewN m := fun n =>
    quiet_call (l01Ok_quiet _ (p.below (Quiet.drewN wr n).below) t.1)
   cases hr : tb (relOk t.1 t.2[k])
   ·rw [hr] at cT
    go_wp2_with fail
    go_quiet (exact cT _)
    go_wp2_with fail
    go_ret
    exact ⟨ret_bool (tb_false (fun hh => by have := tb_true (hh.2.2 _ (List.getElem_mem hkl)); rw [hr] at this; cases this)).symm, hqw.then (by first | exact Quiet.refl _ | exact Quiet.drewN _ _ | exact (Quiet.drewN _ _).then (Quiet.drewN _ _) | exact ((Quiet.drewN _ _).then (Quiet.drewN _ _)).then (Quiet.drewN _ _))⟩
   ·rw [hr] at cT
    go_wp2_with fail
    go_quiet (exact cT _)
    go_wp2_with fail
    go_roundw
    case rel => exact ⟨k + 1, by omega, by go_num, noneB_succ hkl HT.out (by rw [hr]; rfl), hqw.then (by first | exact Quiet.refl _ | exact Quiet.drewN _ _ | exact (Quiet.drewN _ _).then (Quiet.drewN _ _) | exact ((Quiet.drewN _ _).then (Quiet.drewN _ _)).then (Quiet.drewN _ _))⟩
    case measure => simp [intOf]; omega
  ·obtain rfl : k = t.2.length := by omega
   have hall : ∀ r ∈ t.2, relOk t.1 r := fun r hr => by
    have := HT.out r (by rw [List.take_length]; exact hr)
    simpa [tb_iff] using this
   have HALL := Lib.hid hall
   clear hall
   cases hs : inB t.1 1 4
   ·go_wp2_with (go_at_call 63; refine (l01Size_any _ _).mono ?_; rintro e w' ⟨rfl, rfl⟩)
    go_ret
    exact ⟨ret_bool (tb_false (fun hr => by have := inB_true.2 hr.1; rw [hs] at this; cases this)).symm, hqw⟩
   have hs' := inB_true.1 hs
   have HR : Hid (decide ((t.2.length : Int) ≤ 6) = tb (tplOk t)) := by
    unfold Hid
    rw [Bool.eq_iff_iff, tb_iff, decide_eq_true_iff]
    exact ⟨fun h => ⟨hs', by omega, HALL.out⟩, fun h => by have := h.2.1; omega⟩
   go_wp2_with (go_at_call 63; refine (l01Size_any _ _).mono ?_; rintro e w' ⟨rfl, rfl⟩)
   go_ret
   exact ⟨ret_bool HR.out, hqw⟩
end Go.Proofs.YtmnjlhcbabhhlaaGreat
namespace Go.Proofs.YtmnjlhcbabhhlaaGreat
open Go.RowKit Go.Sort
theorem rd_elem {α : Type} {E : Ty α} {w : World} {ad : Option Addr} {cap : Nat} {xs : List α} (h : (Ty.slice E).Rd w [.slice ad xs.length cap] xs) {k : Nat} (hk : k < xs.length) :
  ∃ b o, ad = some ⟨b, o, none⟩ ∧ E.Pt w (.pointer (some ⟨b, o + k * E.sz, none⟩)) xs[k] := by
 obtain ⟨ad', cap', hv, _, _, h3⟩ := Ty.slice_ex h
 simp only [List.cons.injEq, Value.slice.injEq, and_true] at hv
 obtain ⟨rfl, -, rfl⟩ := hv
 obtain ⟨b, o, rfl, _⟩ := h3 (by omega)
 exact ⟨b, o, rfl, pt_elem h hk⟩
theorem l01Places_any (size : Int) {v : Value} {xs : List Int} (w : World) (h : intsT.Rd w [v] xs) (h0 : 0 ≤ size) (h1 : size ≤ 1000000000000) :
  Calls Tryz.prog 43 #[v, .int .i64 size] w fun e w' => e = .returned (.bool (tb (rowOk size xs.length xs))) ∧ w = w' := by
 obtain ⟨ad, cap, hv, hl, hc, hcell⟩ := ints_ex h
 obtain rfl : v = _ := by simpa using hv
 clear h hv
 go_enter Tryz.func43, Tryz.ntmps43
 go_wp2_with fail
 go_loop [5] (fun i => ∃ k : Nat, k ≤ xs.length ∧ i = .int .i64 k ∧ noneB (fun a => !inB a 0 (size - 1)) (xs.take k)) (fun i => xs.length - (intOf i).toNat)
 case atStart => exact ⟨0, Nat.zero_le _, rfl, noneB_zero _ _⟩
 case round =>
  obtain ⟨k, hk, rfl, ht⟩ := hrel
  have HT := Lib.hid ht
  clear ht
  by_cases hlt : k < xs.length
  ·obtain ⟨b, o, rfl, hb, hce⟩ := hcell (by omega)
   have hck := (hce k hlt).2
   clear hcell hce
   cases hi : inB xs[k] 0 (size - 1)
   ·go_wp2_with (go_at_call 42; refine (l00In_any _ _ _ _).mono ?_; rintro e w' ⟨rfl, rfl⟩)
    go_ret
    exact ⟨ret_bool (tb_false (fun hr => by have := inB_true.2 (hr.2 _ (List.getElem_mem hlt)); rw [hi] at this; cases this)).symm, rfl⟩
   ·go_wp2_with (go_at_call 42; refine (l00In_any _ _ _ _).mono ?_; rintro e w' ⟨rfl, rfl⟩)
    go_round
    case rel => exact ⟨k + 1, by omega, by go_num, noneB_succ hlt HT.out (by simp [hi])⟩
    case measure => simp [intOf]; omega
  ·obtain rfl : k = xs.length := by omega
   have hall : ∀ a ∈ xs, 0 ≤ a ∧ a ≤ size - 1 := fun a ha => by
    have := HT.out a (by rw [List.take_length]; exact ha)
    simpa [inB_true] using this
   have HR : Hid (true = tb (rowOk size xs.length xs)) := (tb_true ⟨rfl, hall⟩).symm
   clear hall
   go_wp2_with fail
   go_ret
   exact ⟨ret_bool HR.out, rfl⟩
end Go.Proofs.YtmnjlhcbabhhlaaGreat
namespace Go.Proofs.YtmnjlhcbabhhlaaGreat
open Go.RowKit Go.Sort
theorem pure_below {P : Program} {f : FuncId} {args : Array Value} {w : World} {v : Value} (h : Calls P f args w fun e w' => e = .returned v ∧ w = w') :
  Calls P f args w fun e w' => e = .returned v ∧ Below w.heap.size w w' := h.mono fun _ _ ⟨he, hw⟩ => ⟨he, hw ▸ Below.refl _ _⟩
set_option maxHeartbeats 1600000 in
theorem ValidInstance1_any (w : World) {cs : Array Value} {c : Int × List Int} (h : opT.Rd w cs.toList c) {vt vx : Value} {t : Int × List (Int × List (List Int))} {x : Int × List (Int × List Int)}
  (ht : tplT.Pt w vt t) (hxp : instT.Pt w vx x) (h0 : 0 ≤ x.1) (h1 : x.1 ≤ 1000000000000) :
  Calls Tryz.prog 46 #[.agg cs, vt, vx] w fun e w' => e = .returned (.bool (!tb (conOk t x.1 c))) ∧ Below w.heap.size w w' := by
 obtain ⟨u, hv, hI, hu⟩ := pair_ex h
 obtain rfl := agg_of hv
 obtain ⟨b, o, ad, cap, rfl, hb, -, c0, c1, hx⟩ := pt_pair ht
 obtain ⟨b', o', ad', cap', rfl, hb', -, c0', c1', -⟩ := pt_pair hxp
 obtain ⟨_, _, -, hle, hle2, -⟩ := pairs_ex hx
 clear h hv ht hxp
 cases h2 : inB c.1 0 ((t.2.length : Int) - 1)
 ·have HR : Hid ((!tb (conOk t x.1 c)) = true) := by
   unfold Hid
   rw [tb_false (fun hh => by have := inB_true.2 hh.1; rw [h2] at this; cases this)]; rfl
  go_enter Tryz.func46, Tryz.ntmps46
  go_wp2_with fail
  generalize hW : w.alloc _ = wr
  have hB : Below w.heap.size w wr := hW ▸ bA
  have e0 : wr.cell? ⟨w.heap.size, 0, none⟩ = some (.int .i64 c.1) := by rw [← hW]; simp
  have d0 := (hB.cell hb).trans c0
  have d1 := (hB.cell hb).trans c1
  clear hW c0 c1 c0' c1'
  have k0 := cell_regrown e0
  have k1 := cell_regrown d0
  have k2 := cell_regrown d1
  have cW : ∀ d os, Calls Tryz.prog 33 #[.int .i64 c.1, .int .i64 0, .int .i64 ((t.2.length : Int) - 1)] (grow (redrawn wr d) os) fun e w'' => e = .returned (.bool (inB c.1 0 ((t.2.length : Int) - 1))) ∧ ∃ p : Regrown, w'' = grow (redrawn wr p.d) p.os := fun d os =>
   Calls.regrown_of (pure_below (within_any _ _ _ _))
  rw [h2] at cW
  refine wp_region_quiet_below (by kernel_rfl) (by kernel_rfl) ?_
  repeat (go_big_quiet_step (exact cW _ _))
  refine wpQuiet_nil ?_
  rintro w2 ⟨p, rfl⟩
  have hb2 := below_regrown wr p.d p.os
  go_wp2_with fail
  go_ret
  exact ⟨ret_bool HR.out.symm, bthen hB hb2⟩
 have hk := inB_true.1 h2
 have HK := Lib.hid hk
 obtain ⟨k, hck⟩ : ∃ k : Nat, c.1 = k := ⟨c.1.toNat, by omega⟩
 have hkl : k < t.2.length := by omega
 obtain ⟨a, q, rfl, hp⟩ := rd_elem hx hkl
 have hp' : relT.Pt w (.pointer (some ⟨a, q + k * 2, none⟩)) t.2[k] := hp
 obtain ⟨b1, o1, _, _, hbo, hb1, -, f0, -, -⟩ := pt_pair hp'
 simp only [Value.pointer.injEq, Option.some.injEq, Addr.mk.injEq, and_true] at hbo
 obtain ⟨rfl, rfl⟩ := hbo
 have HR : Hid ((!tb (rowOk x.1 (t.2[k]).1 c.2)) = !tb (conOk t x.1 c)) := by
  unfold Hid
  congr 1
  refine tb_congr ⟨fun hh => ⟨HK.out, ?_⟩, fun hh => ?_⟩
  ·rw [hck, arOf_nat hkl]; exact hh
  ·have := hh.2; rwa [hck, arOf_nat hkl] at this
 rw [hck] at h2
 clear hk hp hp'
 go_enter Tryz.func46, Tryz.ntmps46
 go_wp2_with fail
 generalize hW : w.alloc _ = wr
 have hB : Below w.heap.size w wr := hW ▸ bA
 have e0 : wr.cell? ⟨w.heap.size, 0, none⟩ = some (.int .i64 k) := by rw [← hW, ← hck]; simp
 have e1 : wr.cell? ⟨w.heap.size, 1, none⟩ = some u := by rw [← hW]; simp
 have d0 := (hB.cell hb).trans c0
 have d1 := (hB.cell hb).trans c1
 have d0' := (hB.cell hb').trans c0'
 have g0 := (hB.cell hb1).trans f0
 have hu' := hu.below hB
 clear hW c0 c1 c0' c1' f0
 have k0 := cell_regrown e0
 have k0' := cell_regrown e1
 have k1 := cell_regrown d0
 have k2 := cell_regrown d1
 have k3 := cell_regrown d0'
 have k4 := cell_regrown g0
 have cW : ∀ d os, Calls Tryz.prog 33 #[.int .i64 k, .int .i64 0, .int .i64 ((t.2.length : Int) - 1)] (grow (redrawn wr d) os) fun e w'' => e = .returned (.bool (inB k 0 ((t.2.length : Int) - 1))) ∧ ∃ p : Regrown, w'' = grow (redrawn wr p.d) p.os := fun d os =>
  Calls.regrown_of (pure_below (within_any _ _ _ _))
 have cV : ∀ d os, Calls Tryz.prog 47 #[.int .i64 x.1, u, .int .i64 (t.2[k]).1] (grow (redrawn wr d) os) fun e w'' => e = .returned (.bool (tb (rowOk x.1 (t.2[k]).1 c.2))) ∧ ∃ p : Regrown, w'' = grow (redrawn wr p.d) p.os := fun d os =>
  Calls.regrown_of (areValues_any _ (hu'.below (below_regrown _ d os)) _ _ h0 h1)
 rw [h2] at cW
 refine wp_region_quiet_below (by kernel_rfl) (by kernel_rfl) ?_
 repeat (go_big_quiet_step (first | exact cW _ _ | exact cV _ _))
 refine wpQuiet_nil ?_
 rintro w2 ⟨p, rfl⟩
 have hb2 := below_regrown wr p.d p.os
 go_wp2_with fail
 go_ret
 exact ⟨ret_bool HR.out, bthen hB hb2⟩
theorem instOk_any {t : Int × List (Int × List (List Int))} {x : Int × List (Int × List Int)} (h0 : tplOk t) (h1 : 1 ≤ x.1 ∧ x.1 ≤ 10) (h2 : x.2.length ≤ 24) : (!anyB (fun c => !tb (conOk t x.1 c)) x.2) = tb (instOk t x) := by
 rw [Bool.eq_iff_iff, tb_iff]
 simp only [anyB, instOk, h0, h1, h2, true_and, Bool.not_eq_true', List.any_eq_false, Bool.not_eq_false, tb_iff, and_self]
set_option maxHeartbeats 1600000 in
theorem ValidInstance_any (w : World) {cs cs' : Array Value} {t : Int × List (Int × List (List Int))} {x : Int × List (Int × List Int)} (h : tplT.Rd w cs.toList t) (h' : instT.Rd w cs'.toList x) :
  Calls Tryz.prog 19 #[.agg cs, .agg cs'] w fun e w' => e = .returned (.bool (tb (instOk t x))) ∧ Below w.heap.size w w' := by
 have ht := h
 have hxx := h'
 obtain ⟨v, hv, hI, -⟩ := pair_ex h
 obtain rfl := agg_of hv
 obtain ⟨v', hv', hI', hx⟩ := pair_ex h'
 obtain rfl := agg_of hv'
 obtain ⟨ad, cap, rfl⟩ := rd_slice hx
 clear h hv h' hv'
 have p0 : tplT.Pt ((w.alloc (.cells #[.int .i64 t.1, v] 26)).alloc (.cells #[.int .i64 x.1, .slice ad x.2.length cap] 29)) (.pointer (some ⟨w.heap.size, 0, none⟩)) t := (pt_box ht).below bA
 have p1 : instT.Pt ((w.alloc (.cells #[.int .i64 t.1, v] 26)).alloc (.cells #[.int .i64 x.1, .slice ad x.2.length cap] 29)) (.pointer (some ⟨w.heap.size + 1, 0, none⟩)) x := by
  simpa using pt_box (T := 29) (hxx.below (bA (o := .cells #[.int .i64 t.1, v] 26)))
 cases hT : tb (tplOk t)
 ·go_enter Tryz.func19, Tryz.ntmps19
  go_wp2_with fail
  refine (ValidTemplate_any _ (ht.below (by repeat (first | exact Below.refl _ _ | exact bA | assumption | refine Below.setCell ?_ (by first | omega | (simp; try omega)) _ | refine Below.alloc ?_ (by first | omega | (simp; try omega)) _ | refine Below.drew ?_ | refine bDN ?_ | refine bthen ?_ (by assumption))))).mono ?_
  rintro e w1 ⟨rfl, hb1⟩
  rw [hT]
  go_wp2_with fail
  go_ret
  exact ⟨ret_bool (tb_false (fun hh => by have := tb_true hh.1; rw [hT] at this; cases this)).symm, bthen (by repeat (first | exact Below.refl _ _ | exact bA | assumption | refine Below.setCell ?_ (by first | omega | (simp; try omega)) _ | refine Below.alloc ?_ (by first | omega | (simp; try omega)) _ | refine Below.drew ?_ | refine bDN ?_ | refine bthen ?_ (by assumption))) hb1⟩
 have hT' := tb_iff.1 hT
 cases hn : inB x.1 1 10
 ·clear hT'
  go_enter Tryz.func19, Tryz.ntmps19
  go_wp2_with fail
  refine (ValidTemplate_any _ (ht.below (by repeat (first | exact Below.refl _ _ | exact bA | assumption | refine Below.setCell ?_ (by first | omega | (simp; try omega)) _ | refine Below.alloc ?_ (by first | omega | (simp; try omega)) _ | refine Below.drew ?_ | refine bDN ?_ | refine bthen ?_ (by assumption))))).mono ?_
  rintro e w1 ⟨rfl, hb1⟩
  rw [hT]
  have q1 := p1.below hb1
  obtain ⟨_, _, _, _, hbo, z1, -, c0, c1, -⟩ := pt_pair q1
  simp only [Value.pointer.injEq, Option.some.injEq, Addr.mk.injEq, and_true] at hbo
  obtain ⟨rfl, rfl⟩ := hbo
  go_wp2_with (go_at_call 32; refine (isVars_any _ _).mono ?_; rintro e w' ⟨rfl, rfl⟩)
  go_ret
  exact ⟨ret_bool (tb_false (fun hh => by have := inB_true.2 hh.2.1; rw [hn] at this; cases this)).symm, bthen (by repeat (first | exact Below.refl _ _ | exact bA | assumption | refine Below.setCell ?_ (by first | omega | (simp; try omega)) _ | refine Below.alloc ?_ (by first | omega | (simp; try omega)) _ | refine Below.drew ?_ | refine bDN ?_ | refine bthen ?_ (by assumption))) hb1⟩
 have hn' := inB_true.1 hn
 by_cases hl : x.2.length ≤ 24
 rotate_left
 ·have hl2 : decide ((x.2.length : Int) ≤ 24) = false := by simp; omega
  have HL := Lib.hid hl
  clear hl hT' hn'
  go_enter Tryz.func19, Tryz.ntmps19
  go_wp2_with fail
  refine (ValidTemplate_any _ (ht.below (by repeat (first | exact Below.refl _ _ | exact bA | assumption | refine Below.setCell ?_ (by first | omega | (simp; try omega)) _ | refine Below.alloc ?_ (by first | omega | (simp; try omega)) _ | refine Below.drew ?_ | refine bDN ?_ | refine bthen ?_ (by assumption))))).mono ?_
  rintro e w1 ⟨rfl, hb1⟩
  rw [hT]
  have q1 := p1.below hb1
  obtain ⟨_, _, _, _, hbo, z1, -, c0, c1, -⟩ := pt_pair q1
  simp only [Value.pointer.injEq, Option.some.injEq, Addr.mk.injEq, and_true] at hbo
  obtain ⟨rfl, rfl⟩ := hbo
  go_wp2_with (go_at_call 32; refine (isVars_any _ _).mono ?_; rintro e w' ⟨rfl, rfl⟩)
  go_ret
  exact ⟨ret_bool (tb_false (fun hr => HL.out hr.2.2.1)).symm, bthen (by repeat (first | exact Below.refl _ _ | exact bA | assumption | refine Below.setCell ?_ (by first | omega | (simp; try omega)) _ | refine Below.alloc ?_ (by first | omega | (simp; try omega)) _ | refine Below.drew ?_ | refine bDN ?_ | refine bthen ?_ (by assumption))) hb1⟩
 have hl2 : decide ((x.2.length : Int) ≤ 24) = true := by simp; omega
 have HT := Lib.hid (instOk_any hT' hn' hl)
 clear hT'
 go_enter Tryz.func19, Tryz.ntmps19
 go_wp2_with fail
 refine (ValidTemplate_any _ (ht.below (by repeat (first | exact Below.refl _ _ | exact bA | assumption | refine Below.setCell ?_ (by first | omega | (simp; try omega)) _ | refine Below.alloc ?_ (by first | omega | (simp; try omega)) _ | refine Below.drew ?_ | refine bDN ?_ | refine bthen ?_ (by assumption))))).mono ?_
 rintro e w1 ⟨rfl, hb1⟩
 rw [hT]
 have hB1 : Below w.heap.size w w1 := bthen (by repeat (first | exact Below.refl _ _ | exact bA | assumption | refine Below.setCell ?_ (by first | omega | (simp; try omega)) _ | refine Below.alloc ?_ (by first | omega | (simp; try omega)) _ | refine Below.drew ?_ | refine bDN ?_ | refine bthen ?_ (by assumption))) hb1
 have q0 := p0.below hb1
 have q1 := p1.below hb1
 obtain ⟨_, _, ad2, cap2, hbo, z1, -, c0, c1, hx1⟩ := pt_pair q1
 simp only [Value.pointer.injEq, Option.some.injEq, Addr.mk.injEq, and_true] at hbo
 obtain ⟨rfl, rfl⟩ := hbo
 go_wp2_with (go_at_call 32; refine (isVars_any _ _).mono ?_; rintro e w' ⟨rfl, rfl⟩)
 refine (ContainsFuncCon_any _ hx1 (fun c => !tb (conOk t x.1 c)) 46 #[.pointer (some ⟨w.heap.size, 0, none⟩), .pointer (some ⟨w.heap.size + 1, 0, none⟩)] (enters Tryz.func46 (by kernel_rfl) rfl) (fun W hW k hk cs hcs => ValidInstance1_any W hcs (q0.below hW) (q1.below hW) (by omega) (by omega))).mono ?_
 rintro e w2 ⟨rfl, hb2⟩
 go_wp2_with fail
 go_ret
 exact ⟨ret_bool HT.out, bthen hB1 hb2⟩
end Go.Proofs.YtmnjlhcbabhhlaaGreat
namespace Go.Proofs.YtmnjlhcbabhhlaaGreat
open Go.RowKit Go.Sort
theorem pure_drawn {P : Program} {f : FuncId} {args : Array Value} {w : World} {n : Nat} {v : Value} (h : Calls P f args (w.drewN n) fun e w' => e = .returned v ∧ w.drewN n = w') :
  Calls P f args (w.drewN n) fun e w'' => e = .returned v ∧ ∃ m, w'' = w.drewN m := h.mono fun _ _ ⟨he, hw⟩ => ⟨he, n, hw.symm⟩
theorem noneB_all {α : Type} {p : α → Prop} {xs : List α} (h : noneB (fun c => !tb (p c)) (xs.take xs.length)) : ∀ c ∈ xs, p c := fun c hc => by
 have := h c (by rw [List.take_length]; exact hc)
 simpa [tb_iff] using this
set_option maxHeartbeats 1600000 in
theorem l05Ok_quiet (w : World) {vt vx : Value} {t : Int × List (Int × List (List Int))} {x : Int × List (Int × List Int)} (ht : tplT.Pt w vt t) (hxp : instT.Pt w vx x) :
  Calls Tryz.prog 17 #[vt, vx] w fun e w' => e = .returned (.bool (tb (instOk t x))) ∧ Quiet w w' := by
 have htp := ht
 obtain ⟨b, o, ad, cap, rfl, hb, -, c0, c1, hr⟩ := pt_pair ht
 obtain ⟨b', o', ad', cap', rfl, hb', -, c0', c1', hx⟩ := pt_pair hxp
 obtain ⟨_, _, -, hle, hle2, -⟩ := pairs_ex hr
 obtain ⟨_, _, e1, hle', hle2', hcell⟩ := pairs_ex hx
 simp only [List.cons.injEq, Value.slice.injEq, and_true, true_and] at e1
 obtain ⟨rfl, rfl⟩ := e1
 clear ht hxp
 cases hT : tb (tplOk t)
 ·go_enter Tryz.func17, Tryz.ntmps17
  go_wp2_with fail
  refine (l01Template_quiet _ htp).mono ?_
  rintro e w1 ⟨rfl, hq1⟩
  rw [hT]
  go_wp2_with fail
  go_ret
  exact ⟨ret_bool (tb_false (fun hh => by have := tb_true hh.1; rw [hT] at this; cases this)).symm, hq1⟩
 have hT' := tb_iff.1 hT
 cases hn : inB x.1 1 10
 ·clear hT'
  go_enter Tryz.func17, Tryz.ntmps17
  go_wp2_with fail
  refine (l01Template_quiet _ htp).mono ?_
  rintro e w1 ⟨rfl, hq1⟩
  rw [hT]
  have d0 := (hq1.below.cell hb').trans c0'
  clear c0'
  go_wp2_with (go_at_call 42; refine (l00In_any _ _ _ _).mono ?_; rintro e w' ⟨rfl, rfl⟩)
  go_ret
  exact ⟨ret_bool (tb_false (fun hh => by have := inB_true.2 hh.2.1; rw [hn] at this; cases this)).symm, hq1⟩
 have hn' := inB_true.1 hn
 by_cases hl : x.2.length ≤ 24
 rotate_left
 ·have hl2 : decide (24 < (x.2.length : Int)) = true := by simp; omega
  have HL := Lib.hid hl
  clear hl hT' hn'
  go_enter Tryz.func17, Tryz.ntmps17
  go_wp2_with fail
  refine (l01Template_quiet _ htp).mono ?_
  rintro e w1 ⟨rfl, hq1⟩
  rw [hT]
  have d0 := (hq1.below.cell hb').trans c0'
  have d1 := (hq1.below.cell hb').trans c1'
  clear c0' c1'
  go_wp2_with (go_at_call 42; refine (l00In_any _ _ _ _).mono ?_; rintro e w' ⟨rfl, rfl⟩)
  go_ret
  exact ⟨ret_bool (tb_false (fun hr => HL.out hr.2.2.1)).symm, hq1⟩
 have hl2 : decide (24 < (x.2.length : Int)) = false := by simp; omega
 have HT := Lib.hid hT'
 have HN := Lib.hid hn'
 have HL := Lib.hid hl
 clear hT' hn' hl
 go_enter Tryz.func17, Tryz.ntmps17
 go_wp2_with fail
 refine (l01Template_quiet _ htp).mono ?_
 rintro e w1 ⟨rfl, hq1⟩
 rw [hT]
 have d0 := (hq1.below.cell hb').trans c0'
 have d1 := (hq1.below.cell hb').trans c1'
 go_wp2_with (go_at_call 42; refine (l00In_any _ _ _ _).mono ?_; rintro e w' ⟨rfl, rfl⟩)
 clear d0 d1
 go_loopw [5, 6] (fun i _ wr => ∃ k : Nat, k ≤ x.2.length ∧ i = .int .i64 k ∧ noneB (fun c => !tb (conOk t x.1 c)) (x.2.take k) ∧ Quiet w wr) (fun i _ _ => x.2.length - (intOf i).toNat)
 case atStart => exact ⟨0, Nat.zero_le _, rfl, noneB_zero _ _, hq1⟩
 case round =>
  obtain ⟨k, hk, rfl, hne, hqw⟩ := hrel
  have HNE := Lib.hid hne
  have g0 := (hqw.below.cell hb').trans c0'
  have g1 := (hqw.below.cell hb').trans c1'
  have g2 := (hqw.below.cell hb).trans c1
  clear hne c0 c1 c0' c1'
  by_cases hkl : k < x.2.length
  ·obtain ⟨a, q, rfl, haa, hce⟩ := hcell (by omega)
   obtain ⟨u, hu, hI, f0, f1⟩ := hce k hkl
   have e0 := (hqw.below.cell haa).trans f0
   have e1 := (hqw.below.cell haa).trans f1
   clear hcell hce f0 f1
   have cW : ∀ n, Calls Tryz.prog 42 #[.int .i64 (x.2[k]).1, .int .i64 0, .int .i64 ((t.2.length : Int) - 1)] (wr.drewN n) fun e w'' => e = .returned (.bool (inB (x.2[k]).1 0 ((t.2.length : Int) - 1))) ∧ ∃ m, w'' = wr.drewN m := fun n => pure_drawn (l00In_any _ _ _ _)
   cases hi : inB (x.2[k]).1 0 ((t.2.length : Int) - 1)
   ·rw [hi] at cW
    go_wp2_with fail
    go_quiet (exact cW _)
    go_wp2_with fail
    go_ret
    exact ⟨ret_bool (tb_false (fun hh => by have := inB_true.2 (hh.2.2.2 _ (List.getElem_mem hkl)).1; rw [hi] at this; cases this)).symm, hqw.then (by first | exact Quiet.refl _ | exact Quiet.drewN _ _ | exact (Quiet.drewN _ _).then (Quiet.drewN _ _) | exact ((Quiet.drewN _ _).then (Quiet.drewN _ _)).then (Quiet.drewN _ _))⟩
   have hk2 := inB_true.1 hi
   obtain ⟨j, hcj⟩ : ∃ j : Nat, (x.2[k]).1 = j := ⟨(x.2[k]).1.toNat, by omega⟩
   have hjl : j < t.2.length := by omega
   obtain ⟨a2, q2, rfl, hp⟩ := rd_elem hr hjl
   have hp' : relT.Pt w (.pointer (some ⟨a2, q2 + j * 2, none⟩)) t.2[j] := hp
   obtain ⟨b1, o1, _, _, hbo, hb1, -, f0, -, -⟩ := pt_pair hp'
   simp only [Value.pointer.injEq, Option.some.injEq, Addr.mk.injEq, and_true] at hbo
   obtain ⟨rfl, rfl⟩ := hbo
   have f1 := (hqw.below.cell hb1).trans f0
   have HC : Hid (conOk t x.1 x.2[k] ↔ rowOk x.1 (t.2[j]).1 x.2[k].2) := by
    unfold Hid conOk
    rw [hcj, arOf_nat hjl]
    exact ⟨fun h => h.2, fun h => ⟨by omega, h⟩⟩
   obtain ⟨_, _, hu0, -, hlu, -⟩ := ints_ex hu
   simp only [List.cons.injEq, and_true] at hu0
   subst hu0
   rw [hi] at cW
   rw [hcj] at e0 cW
   clear hk2 hp hp' f0 hi
   cases hm : (((x.2[k]).2.length : Int) != (t.2[j]).1)
   rotate_left
   ·go_wp2_with fail
    go_quiet (exact cW _)
    go_wp2_with fail
    go_ret
    exact ⟨ret_bool (tb_false (fun hh => by have := (HC.out.1 (hh.2.2.2 _ (List.getElem_mem hkl))).1; simp [this] at hm)).symm, hqw.then (by first | exact Quiet.refl _ | exact Quiet.drewN _ _ | exact (Quiet.drewN _ _).then (Quiet.drewN _ _) | exact ((Quiet.drewN _ _).then (Quiet.drewN _ _)).then (Quiet.drewN _ _))⟩
   have hm' : ((x.2[k]).2.length : Int) = (t.2[j]).1 := by simpa using hm
   have HM := Lib.hid hm'
   have hu' := hu.below hqw.below
   have h0 : 0 ≤ x.1 := by have := HN.out.1; omega
   have h1 : x.1 ≤ 1000000000000 := by have := HN.out.2; omega
   have cV : ∀ n, Calls Tryz.prog 43 #[.slice _ _ _, .int .i64 x.1] (wr.drewN n) fun e w'' => e = .returned (.bool (tb (rowOk x.1 (x.2[k]).2.length (x.2[k]).2))) ∧ ∃ m, w'' = wr.drewN m := fun n => pure_drawn (l01Places_any _ _ (hu'.below (Quiet.drewN wr n).below) h0 h1)
   clear hm' h0 h1
   cases hv : tb (rowOk x.1 (x.2[k]).2.length (x.2[k]).2)
   ·rw [hv] at cV
    go_wp2_with fail
    go_quiet (first | exact cW _ | exact cV _)
    go_wp2_with fail
    go_ret
    exact ⟨ret_bool (tb_false (fun hh => by have h9 := HC.out.1 (hh.2.2.2 _ (List.getElem_mem hkl)); rw [← HM.out] at h9; have := tb_true h9; rw [hv] at this; cases this)).symm, hqw.then (by first | exact Quiet.refl _ | exact Quiet.drewN _ _ | exact (Quiet.drewN _ _).then (Quiet.drewN _ _) | exact ((Quiet.drewN _ _).then (Quiet.drewN _ _)).then (Quiet.drewN _ _))⟩
   have HV := Lib.hid (tb_iff.1 hv)
   rw [hv] at cV
   go_wp2_with fail
   go_quiet (first | exact cW _ | exact cV _)
   go_wp2_with fail
   go_roundw
   case rel => exact ⟨k + 1, by omega, by go_num, noneB_succ hkl HNE.out (by rw [tb_true (HC.out.2 (HM.out ▸ HV.out))]; rfl), hqw.then (by first | exact Quiet.refl _ | exact Quiet.drewN _ _ | exact (Quiet.drewN _ _).then (Quiet.drewN _ _) | exact ((Quiet.drewN _ _).then (Quiet.drewN _ _)).then (Quiet.drewN _ _))⟩
   case measure => simp [intOf]; omega
  ·obtain rfl : k = x.2.length := by omega
   have HA := Lib.hid (noneB_all HNE.out)
   go_wp2_with fail
   go_ret
   exact ⟨ret_bool (tb_true ⟨HT.out, HN.out, HL.out, HA.out⟩).symm, hqw⟩
end Go.Proofs.YtmnjlhcbabhhlaaGreat
namespace Go.Proofs.YtmnjlhcbabhhlaaGreat
open Go.RowKit Go.Sort
end Go.Proofs.YtmnjlhcbabhhlaaGreat
namespace Go.Proofs.YtmnjlhcbabhhlaaGreat
open Go.RowKit Go.Sort
/-- the values of tuples at a place -/
def colL (ts : List (List Int)) (p : Nat) : List Int := ts.map fun t => t.getD p 0
def madeV (s : Int) (tab : List Int) (ts : List (List Int)) (p : Nat) : Int := tab.getD (idxL s 0 (colL ts p)).toNat 0
def madeL (s : Int) (tab : List Int) (ts : List (List Int)) (m : Nat) : List Int := (List.range m).map fun p => madeV s tab ts p
end Go.Proofs.YtmnjlhcbabhhlaaGreat
