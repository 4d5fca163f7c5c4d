/-
Contracts of the library's searches with a predicate (IndexFunc, ContainsFunc, EqualFunc) at each element type, by program (gen_lib.py); equality of lists of numbers.
Plain mathematics: the order of lists, valid relations and templates. No program is named here.
A region that draws its order, whose operations read, compute, and call functions that make new memory: one account serves every order. Of each operation's value only a predicate is told (a copy lies somewhere in new memory), and it must outlast new memory. No program is named here.
Contracts: lists of values, valid relations and templates, in the program and in the reference.
-/
import Derived.Test.YthjafhjghjbdmaaGreatQAA
import Derived.Lib.QuietBelow
namespace Go.Proofs.YthjafhjghjbdmaaGreat
open Go.RowKit Go.Sort

set_option maxHeartbeats 400000 in
theorem IndexFuncInt_any (w : World) {v : Value} {xs : List (Int)} (h : (Ty.slice Ty.int).Rd w [v] xs) (p : Int → Bool) (g : Nat) (lb : Array Value) (eg : ∀ args w, (callFunc g args).run Tryz.prog w = .ok (.enter g args) w)
    (hp : Hid (∀ W, Below w.heap.size w W → ∀ k (h : k < xs.length), Calls Tryz.prog g (#[.int .i64 xs[k]] ++ lb) W fun e W' => e = .returned (.bool (p xs[k])) ∧ Below W.heap.size W W')) :
    Calls Tryz.prog 205 #[v, .func (.func g) #[] lb] w fun e w' => e = .returned (.int .i64 (firstI p xs)) ∧ Below w.heap.size w w' := by
  obtain ⟨ad, cap, hv, hl, hc, hcell⟩ := ints_ex h
  obtain rfl : v = _ := by simpa using hv
  clear h hv
  go_enter Tryz.func205, Tryz.ntmps205
  go_wp2_with fail
  go_loopw [8] (fun i wr => ∃ k : Nat, k ≤ xs.length ∧ i = .int .i64 k ∧ noneB p (xs.take k) ∧ Below w.heap.size w wr) (fun i _ => xs.length - (intOf i).toNat)
  case atStart => exact ⟨0, Nat.zero_le _, rfl, noneB_zero p xs, Below.refl _ _⟩
  case round =>
    obtain ⟨k, hk, rfl, ht, hbel⟩ := hrel
    have HT := Lib.hid ht
    clear ht
    by_cases hkl : k < xs.length
    · obtain ⟨b, o, rfl, hb, hce⟩ := hcell (by omega)
      obtain ⟨hI, hc0⟩ := hce k hkl
      have d0 : wr.cell? ⟨b, o + k, none⟩ = some (.int .i64 xs[k]) := (hbel.cell hb).trans hc0
      go_wp2_with fail
      refine (hp.out wr hbel k hkl).mono ?_
      rintro e w2 ⟨rfl, hb2⟩
      cases hq : p xs[k]
      · go_wp2_with fail
        go_roundw
        case rel => exact ⟨k + 1, by omega, by go_num, noneB_succ hkl HT.out hq, bthen hbel hb2⟩
        case measure => simp [intOf]; omega
      · go_wp2_with fail
        go_ret
        exact ⟨ret_int (firstI_at hkl HT.out hq).symm, bthen hbel hb2⟩
    · obtain rfl : k = xs.length := by omega
      go_wp2_with fail
      go_ret
      exact ⟨ret_int (firstI_none (by have := HT.out; rwa [List.take_length] at this)).symm, hbel⟩
theorem ContainsFuncInt_any (w : World) {v : Value} {xs : List (Int)} (h : (Ty.slice Ty.int).Rd w [v] xs) (p : Int → Bool) (g : Nat) (lb : Array Value) (eg : ∀ args w, (callFunc g args).run Tryz.prog w = .ok (.enter g args) w)
    (hp : Hid (∀ W, Below w.heap.size w W → ∀ k (h : k < xs.length), Calls Tryz.prog g (#[.int .i64 xs[k]] ++ lb) W fun e W' => e = .returned (.bool (p xs[k])) ∧ Below W.heap.size W W')) :
    Calls Tryz.prog 151 #[v, .func (.func g) #[] lb] w fun e w' => e = .returned (.bool (anyB p xs)) ∧ Below w.heap.size w w' := by
  have hr := firstI_any p xs
  cases hq : anyB p xs
  all_goals
    rw [hq] at hr
    go_enter Tryz.func151, Tryz.ntmps151
    go_wp2_with fail
    refine (IndexFuncInt_any _ h p g lb eg hp).mono ?_
    rintro e w2 ⟨rfl, hb2⟩
    go_wp2_with fail
    go_ret
    first | exact ⟨rfl, hb2⟩ | exact ⟨ret_bool (by simpa using hr), hb2⟩
set_option maxHeartbeats 400000 in
theorem IndexFuncInts_any (w : World) {v : Value} {xs : List (List Int)} (h : (Ty.slice intsT).Rd w [v] xs) (p : List Int → Bool) (g : Nat) (lb : Array Value) (eg : ∀ args w, (callFunc g args).run Tryz.prog w = .ok (.enter g args) w)
    (hp : Hid (∀ W, Below w.heap.size w W → ∀ k (h : k < xs.length) (u : Value), intsT.Rd W [u] xs[k] → Calls Tryz.prog g (#[u] ++ lb) W fun e W' => e = .returned (.bool (p xs[k])) ∧ Below W.heap.size W W')) :
    Calls Tryz.prog 83 #[v, .func (.func g) #[] lb] w fun e w' => e = .returned (.int .i64 (firstI p xs)) ∧ Below w.heap.size w w' := by
  obtain ⟨ad, cap, hv, hl, hc, hcell⟩ := slices_ex h
  obtain rfl : v = _ := by simpa using hv
  clear h hv
  go_enter Tryz.func83, Tryz.ntmps83
  go_wp2_with fail
  go_loopw [8] (fun i wr => ∃ k : Nat, k ≤ xs.length ∧ i = .int .i64 k ∧ noneB p (xs.take k) ∧ Below w.heap.size w wr) (fun i _ => xs.length - (intOf i).toNat)
  case atStart => exact ⟨0, Nat.zero_le _, rfl, noneB_zero p xs, Below.refl _ _⟩
  case round =>
    obtain ⟨k, hk, rfl, ht, hbel⟩ := hrel
    have HT := Lib.hid ht
    clear ht
    by_cases hkl : k < xs.length
    · obtain ⟨b, o, rfl, hb, hce⟩ := hcell (by omega)
      obtain ⟨u, hu, hc0⟩ := hce k hkl
      have d0 : wr.cell? ⟨b, o + k, none⟩ = some u := (hbel.cell hb).trans hc0
      go_wp2_with fail
      refine (hp.out wr hbel k hkl u (hu.below hbel)).mono ?_
      rintro e w2 ⟨rfl, hb2⟩
      cases hq : p xs[k]
      · go_wp2_with fail
        go_roundw
        case rel => exact ⟨k + 1, by omega, by go_num, noneB_succ hkl HT.out hq, bthen hbel hb2⟩
        case measure => simp [intOf]; omega
      · go_wp2_with fail
        go_ret
        exact ⟨ret_int (firstI_at hkl HT.out hq).symm, bthen hbel hb2⟩
    · obtain rfl : k = xs.length := by omega
      go_wp2_with fail
      go_ret
      exact ⟨ret_int (firstI_none (by have := HT.out; rwa [List.take_length] at this)).symm, hbel⟩
theorem ContainsFuncInts_any (w : World) {v : Value} {xs : List (List Int)} (h : (Ty.slice intsT).Rd w [v] xs) (p : List Int → Bool) (g : Nat) (lb : Array Value) (eg : ∀ args w, (callFunc g args).run Tryz.prog w = .ok (.enter g args) w)
    (hp : Hid (∀ W, Below w.heap.size w W → ∀ k (h : k < xs.length) (u : Value), intsT.Rd W [u] xs[k] → Calls Tryz.prog g (#[u] ++ lb) W fun e W' => e = .returned (.bool (p xs[k])) ∧ Below W.heap.size W W')) :
    Calls Tryz.prog 67 #[v, .func (.func g) #[] lb] w fun e w' => e = .returned (.bool (anyB p xs)) ∧ Below w.heap.size w w' := by
  have hr := firstI_any p xs
  cases hq : anyB p xs
  all_goals
    rw [hq] at hr
    go_enter Tryz.func67, Tryz.ntmps67
    go_wp2_with fail
    refine (IndexFuncInts_any _ h p g lb eg hp).mono ?_
    rintro e w2 ⟨rfl, hb2⟩
    go_wp2_with fail
    go_ret
    first | exact ⟨rfl, hb2⟩ | exact ⟨ret_bool (by simpa using hr), hb2⟩
set_option maxHeartbeats 400000 in
theorem IndexFuncRel_any (w : World) {v : Value} {xs : List (Int × List (List Int))} (h : (Ty.slice relT).Rd w [v] xs) (p : Int × List (List Int) → Bool) (g : Nat) (lb : Array Value) (eg : ∀ args w, (callFunc g args).run Tryz.prog w = .ok (.enter g args) w)
    (hp : Hid (∀ W, Below w.heap.size w W → ∀ k (h : k < xs.length) (cs : Array Value), relT.Rd W cs.toList xs[k] → Calls Tryz.prog g (#[.agg cs] ++ lb) W fun e W' => e = .returned (.bool (p xs[k])) ∧ Below W.heap.size W W')) :
    Calls Tryz.prog 183 #[v, .func (.func g) #[] lb] w fun e w' => e = .returned (.int .i64 (firstI p xs)) ∧ Below w.heap.size w w' := by
  obtain ⟨ad, cap, hv, hl, hc, hcell⟩ := pairs_ex h
  obtain rfl : v = _ := by simpa using hv
  clear h hv
  go_enter Tryz.func183, Tryz.ntmps183
  go_wp2_with fail
  go_loopw [8] (fun i wr => ∃ k : Nat, k ≤ xs.length ∧ i = .int .i64 k ∧ noneB p (xs.take k) ∧ Below w.heap.size w wr) (fun i _ => xs.length - (intOf i).toNat)
  case atStart => exact ⟨0, Nat.zero_le _, rfl, noneB_zero p xs, Below.refl _ _⟩
  case round =>
    obtain ⟨k, hk, rfl, ht, hbel⟩ := hrel
    have HT := Lib.hid ht
    clear ht
    by_cases hkl : k < xs.length
    · obtain ⟨b, o, rfl, hb, hce⟩ := hcell (by omega)
      obtain ⟨u, hu, hI, hc0, hc1⟩ := hce k hkl
      have d0 : wr.cell? ⟨b, o + k * 2, none⟩ = some (.int .i64 xs[k].1) := (hbel.cell hb).trans hc0
      have d1 : wr.cell? ⟨b, o + k * 2 + 1, none⟩ = some u := (hbel.cell hb).trans hc1
      go_wp2_with fail
      refine (hp.out wr hbel k hkl #[.int .i64 xs[k].1, u] (pair_mk hI (hu.below hbel))).mono ?_
      rintro e w2 ⟨rfl, hb2⟩
      cases hq : p xs[k]
      · go_wp2_with fail
        go_roundw
        case rel => exact ⟨k + 1, by omega, by go_num, noneB_succ hkl HT.out hq, bthen hbel hb2⟩
        case measure => simp [intOf]; omega
      · go_wp2_with fail
        go_ret
        exact ⟨ret_int (firstI_at hkl HT.out hq).symm, bthen hbel hb2⟩
    · obtain rfl : k = xs.length := by omega
      go_wp2_with fail
      go_ret
      exact ⟨ret_int (firstI_none (by have := HT.out; rwa [List.take_length] at this)).symm, hbel⟩
theorem ContainsFuncRel_any (w : World) {v : Value} {xs : List (Int × List (List Int))} (h : (Ty.slice relT).Rd w [v] xs) (p : Int × List (List Int) → Bool) (g : Nat) (lb : Array Value) (eg : ∀ args w, (callFunc g args).run Tryz.prog w = .ok (.enter g args) w)
    (hp : Hid (∀ W, Below w.heap.size w W → ∀ k (h : k < xs.length) (cs : Array Value), relT.Rd W cs.toList xs[k] → Calls Tryz.prog g (#[.agg cs] ++ lb) W fun e W' => e = .returned (.bool (p xs[k])) ∧ Below W.heap.size W W')) :
    Calls Tryz.prog 181 #[v, .func (.func g) #[] lb] w fun e w' => e = .returned (.bool (anyB p xs)) ∧ Below w.heap.size w w' := by
  have hr := firstI_any p xs
  cases hq : anyB p xs
  all_goals
    rw [hq] at hr
    go_enter Tryz.func181, Tryz.ntmps181
    go_wp2_with fail
    refine (IndexFuncRel_any _ h p g lb eg hp).mono ?_
    rintro e w2 ⟨rfl, hb2⟩
    go_wp2_with fail
    go_ret
    first | exact ⟨rfl, hb2⟩ | exact ⟨ret_bool (by simpa using hr), hb2⟩
set_option maxHeartbeats 400000 in
theorem IndexFuncAtom_any (w : World) {v : Value} {xs : List (Int × List Int)} (h : (Ty.slice opT).Rd w [v] xs) (p : Int × List Int → Bool) (g : Nat) (lb : Array Value) (eg : ∀ args w, (callFunc g args).run Tryz.prog w = .ok (.enter g args) w)
    (hp : Hid (∀ W, Below w.heap.size w W → ∀ k (h : k < xs.length) (cs : Array Value), opT.Rd W cs.toList xs[k] → Calls Tryz.prog g (#[.agg cs] ++ lb) W fun e W' => e = .returned (.bool (p xs[k])) ∧ Below W.heap.size W W')) :
    Calls Tryz.prog 165 #[v, .func (.func g) #[] lb] w fun e w' => e = .returned (.int .i64 (firstI p xs)) ∧ Below w.heap.size w w' := by
  obtain ⟨ad, cap, hv, hl, hc, hcell⟩ := pairs_ex h
  obtain rfl : v = _ := by simpa using hv
  clear h hv
  go_enter Tryz.func165, Tryz.ntmps165
  go_wp2_with fail
  go_loopw [8] (fun i wr => ∃ k : Nat, k ≤ xs.length ∧ i = .int .i64 k ∧ noneB p (xs.take k) ∧ Below w.heap.size w wr) (fun i _ => xs.length - (intOf i).toNat)
  case atStart => exact ⟨0, Nat.zero_le _, rfl, noneB_zero p xs, Below.refl _ _⟩
  case round =>
    obtain ⟨k, hk, rfl, ht, hbel⟩ := hrel
    have HT := Lib.hid ht
    clear ht
    by_cases hkl : k < xs.length
    · obtain ⟨b, o, rfl, hb, hce⟩ := hcell (by omega)
      obtain ⟨u, hu, hI, hc0, hc1⟩ := hce k hkl
      have d0 : wr.cell? ⟨b, o + k * 2, none⟩ = some (.int .i64 xs[k].1) := (hbel.cell hb).trans hc0
      have d1 : wr.cell? ⟨b, o + k * 2 + 1, none⟩ = some u := (hbel.cell hb).trans hc1
      go_wp2_with fail
      refine (hp.out wr hbel k hkl #[.int .i64 xs[k].1, u] (pair_mk hI (hu.below hbel))).mono ?_
      rintro e w2 ⟨rfl, hb2⟩
      cases hq : p xs[k]
      · go_wp2_with fail
        go_roundw
        case rel => exact ⟨k + 1, by omega, by go_num, noneB_succ hkl HT.out hq, bthen hbel hb2⟩
        case measure => simp [intOf]; omega
      · go_wp2_with fail
        go_ret
        exact ⟨ret_int (firstI_at hkl HT.out hq).symm, bthen hbel hb2⟩
    · obtain rfl : k = xs.length := by omega
      go_wp2_with fail
      go_ret
      exact ⟨ret_int (firstI_none (by have := HT.out; rwa [List.take_length] at this)).symm, hbel⟩
theorem ContainsFuncAtom_any (w : World) {v : Value} {xs : List (Int × List Int)} (h : (Ty.slice opT).Rd w [v] xs) (p : Int × List Int → Bool) (g : Nat) (lb : Array Value) (eg : ∀ args w, (callFunc g args).run Tryz.prog w = .ok (.enter g args) w)
    (hp : Hid (∀ W, Below w.heap.size w W → ∀ k (h : k < xs.length) (cs : Array Value), opT.Rd W cs.toList xs[k] → Calls Tryz.prog g (#[.agg cs] ++ lb) W fun e W' => e = .returned (.bool (p xs[k])) ∧ Below W.heap.size W W')) :
    Calls Tryz.prog 87 #[v, .func (.func g) #[] lb] w fun e w' => e = .returned (.bool (anyB p xs)) ∧ Below w.heap.size w w' := by
  have hr := firstI_any p xs
  cases hq : anyB p xs
  all_goals
    rw [hq] at hr
    go_enter Tryz.func87, Tryz.ntmps87
    go_wp2_with fail
    refine (IndexFuncAtom_any _ h p g lb eg hp).mono ?_
    rintro e w2 ⟨rfl, hb2⟩
    go_wp2_with fail
    go_ret
    first | exact ⟨rfl, hb2⟩ | exact ⟨ret_bool (by simpa using hr), hb2⟩
set_option maxHeartbeats 400000 in
theorem EqualFuncInts_any (w : World) {v v' : Value} {xs ys : List (List Int)} (h : (Ty.slice intsT).Rd w [v] xs) (h' : (Ty.slice intsT).Rd w [v'] ys) (p : List Int → List Int → Bool) (g : Nat) (lb : Array Value) (eg : ∀ args w, (callFunc g args).run Tryz.prog w = .ok (.enter g args) w)
    (hp : Hid (∀ W, Below w.heap.size w W → ∀ k (h : k < xs.length) (h' : k < ys.length) (u u' : Value), intsT.Rd W [u] xs[k] → intsT.Rd W [u'] ys[k] → Calls Tryz.prog g (#[u, u'] ++ lb) W fun e W' => e = .returned (.bool (p xs[k] ys[k])) ∧ Below W.heap.size W W')) :
    Calls Tryz.prog 213 #[v, v', .func (.func g) #[] lb] w fun e w' => e = .returned (.bool (eqL p xs ys)) ∧ Below w.heap.size w w' := by
  obtain ⟨ad, cap, hv, hl, hc, hcell⟩ := slices_ex h
  obtain ⟨ad', cap', hv', hl', hc', hcell'⟩ := slices_ex h'
  obtain rfl : v = _ := by simpa using hv
  obtain rfl : v' = _ := by simpa using hv'
  clear h hv h' hv'
  cases hn : (((xs.length : Nat) : Int) != (ys.length : Nat))
  rotate_left
  · go_enter Tryz.func213, Tryz.ntmps213
    go_wp2_with fail
    go_ret
    exact ⟨ret_bool (eqL_len (by simp at hn; omega)).symm, Below.refl _ _⟩
  have hn' : xs.length = ys.length := by simp at hn; omega
  have HN := Lib.hid hn'
  clear hn'
  go_enter Tryz.func213, Tryz.ntmps213
  go_wp2_with fail
  go_loopw [17] (fun i wr => ∃ k : Nat, k ≤ xs.length ∧ i = .int .i64 k ∧ eqU p xs ys k ∧ Below w.heap.size w wr) (fun i _ => xs.length - (intOf i).toNat)
  case atStart => exact ⟨0, Nat.zero_le _, rfl, eqU_zero p xs ys, Below.refl _ _⟩
  case round =>
    obtain ⟨k, hk, rfl, ht, hbel⟩ := hrel
    have HT := Lib.hid ht
    clear ht hn
    by_cases hkl : k < xs.length
    · have hkl' : k < ys.length := by have := HN.out; omega
      obtain ⟨b, o, rfl, hb, hce⟩ := hcell (by omega)
      obtain ⟨b', o', rfl, hb', hce'⟩ := hcell' (by omega)
      obtain ⟨u, hu, hc0⟩ := hce k hkl
      have d0 : wr.cell? ⟨b, o + k, none⟩ = some u := (hbel.cell hb).trans hc0
      obtain ⟨u', hu', hc0'⟩ := hce' k hkl'
      have d0' : wr.cell? ⟨b', o' + k, none⟩ = some u' := (hbel.cell hb').trans hc0'
      clear hce hce' hcell hcell'
      go_wp2_with fail
      refine (hp.out wr hbel k hkl hkl' u u' (hu.below hbel) (hu'.below hbel)).mono ?_
      rintro e w2 ⟨rfl, hb2⟩
      cases hq : p xs[k] ys[k]
      · go_wp2_with fail
        go_ret
        exact ⟨ret_bool (eqL_no HN.out hkl hkl' hq).symm, bthen hbel hb2⟩
      · go_wp2_with fail
        go_roundw
        case rel => exact ⟨k + 1, by omega, by go_num, eqU_succ hkl hkl' HT.out hq, bthen hbel hb2⟩
        case measure => simp [intOf]; omega
    · obtain rfl : k = xs.length := by omega
      go_wp2_with fail
      go_ret
      exact ⟨ret_bool (eqL_yes HN.out HT.out).symm, hbel⟩
set_option maxHeartbeats 400000 in
theorem Equal_quiet (w : World) {v u : Value} {xs ys : List Int} (h : intsT.Rd w [v] xs) (h' : intsT.Rd w [u] ys) :
    Calls Tryz.prog 85 #[v, u] w fun e w' => e = .returned (.bool (eqB xs ys)) ∧ Quiet w w' := by
  obtain ⟨ad, cap, hv, hl, hc, hcell⟩ := ints_ex h
  obtain ⟨ad', cap', hv', hl', hc', hcell'⟩ := ints_ex h'
  obtain rfl : v = _ := by simpa using hv
  obtain rfl : u = _ := by simpa using hv'
  clear h hv h' hv'
  cases hn : (((xs.length : Nat) : Int) != (ys.length : Nat))
  rotate_left
  · go_enter Tryz.func85, Tryz.ntmps85
    go_wp2_with fail
    go_ret
    exact ⟨ret_bool (eqB_len (by simp at hn; omega)).symm, Quiet.refl _⟩
  · have hn' : xs.length = ys.length := by simp at hn; omega
    have HN := Lib.hid hn'
    clear hn'
    go_enter Tryz.func85, Tryz.ntmps85
    go_wp2_with fail
    go_loopw [13] (fun i wr => ∃ k : Nat, k ≤ xs.length ∧ i = .int .i64 k ∧ xs.take k = ys.take k ∧ Quiet w wr) (fun i _ => xs.length - (intOf i).toNat)
    case atStart => exact ⟨0, Nat.zero_le _, rfl, rfl, Quiet.refl _⟩
    case round =>
      obtain ⟨k, hk, rfl, ht, nq, rfl⟩ := hrel
      have HT := Lib.hid ht
      clear ht hn
      by_cases hkl : k < xs.length
      · have hkl' : k < ys.length := by have := HN.out; omega
        obtain ⟨b, o, rfl, hb, hce⟩ := hcell (by omega)
        obtain ⟨b', o', rfl, hb', hce'⟩ := hcell' (by omega)
        have d0 := (hce k hkl).2
        have d1 := (hce' k hkl').2
        clear hce hce' hcell hcell'
        cases hq : (xs[k] != ys[k])
        rotate_left
        · go_wp2_with fail
          go_quiet (fail)
          go_wp2_with fail
          go_ret
          exact ⟨ret_bool (eqB_get hkl hkl' (by simpa using hq)).symm, (by first | exact Quiet.refl _ | exact Quiet.drewN _ _ | exact (Quiet.drewN _ _).then (Quiet.drewN _ _) | exact ((Quiet.drewN _ _).then (Quiet.drewN _ _)).then (Quiet.drewN _ _))⟩
        · go_wp2_with fail
          go_quiet (fail)
          go_wp2_with fail
          go_roundw
          case rel => exact ⟨k + 1, by omega, by go_num, take_eq_succ hkl hkl' HT.out (by simpa using hq), (by first | exact Quiet.refl _ | exact Quiet.drewN _ _ | exact (Quiet.drewN _ _).then (Quiet.drewN _ _) | exact ((Quiet.drewN _ _).then (Quiet.drewN _ _)).then (Quiet.drewN _ _))⟩
          case measure => simp [intOf]; omega
      · obtain rfl : k = xs.length := by omega
        go_wp2_with fail
        go_ret
        exact ⟨ret_bool (eqB_true (by have h1 := HT.out; have h2 := HN.out; rw [List.take_length, h2, List.take_length] at h1; exact h1)).symm, (by first | exact Quiet.refl _ | exact Quiet.drewN _ _ | exact (Quiet.drewN _ _).then (Quiet.drewN _ _) | exact ((Quiet.drewN _ _).then (Quiet.drewN _ _)).then (Quiet.drewN _ _))⟩
set_option maxHeartbeats 400000 in
theorem l00Same_quiet (w : World) {v u : Value} {xs ys : List Int} (h : intsT.Rd w [v] xs) (h' : intsT.Rd w [u] ys) :
    Calls Tryz.prog 110 #[v, u] w fun e w' => e = .returned (.bool (eqB xs ys)) ∧ Quiet w w' := by
  obtain ⟨ad, cap, hv, hl, hc, hcell⟩ := ints_ex h
  obtain ⟨ad', cap', hv', hl', hc', hcell'⟩ := ints_ex h'
  obtain rfl : v = _ := by simpa using hv
  obtain rfl : u = _ := by simpa using hv'
  clear h hv h' hv'
  cases hn : (((xs.length : Nat) : Int) != (ys.length : Nat))
  rotate_left
  · go_enter Tryz.func110, Tryz.ntmps110
    go_wp2_with fail
    go_ret
    exact ⟨ret_bool (eqB_len (by simp at hn; omega)).symm, Quiet.refl _⟩
  · have hn' : xs.length = ys.length := by simp at hn; omega
    have HN := Lib.hid hn'
    clear hn'
    go_enter Tryz.func110, Tryz.ntmps110
    go_wp2_with fail
    go_loopw [5] (fun i wr => ∃ k : Nat, k ≤ xs.length ∧ i = .int .i64 k ∧ xs.take k = ys.take k ∧ Quiet w wr) (fun i _ => xs.length - (intOf i).toNat)
    case atStart => exact ⟨0, Nat.zero_le _, rfl, rfl, Quiet.refl _⟩
    case round =>
      obtain ⟨k, hk, rfl, ht, nq, rfl⟩ := hrel
      have HT := Lib.hid ht
      clear ht hn
      by_cases hkl : k < xs.length
      · have hkl' : k < ys.length := by have := HN.out; omega
        obtain ⟨b, o, rfl, hb, hce⟩ := hcell (by omega)
        obtain ⟨b', o', rfl, hb', hce'⟩ := hcell' (by omega)
        have d0 := (hce k hkl).2
        have d1 := (hce' k hkl').2
        clear hce hce' hcell hcell'
        cases hq : (xs[k] != ys[k])
        rotate_left
        · go_wp2_with fail
          go_quiet (fail)
          go_wp2_with fail
          go_ret
          exact ⟨ret_bool (eqB_get hkl hkl' (by simpa using hq)).symm, (by first | exact Quiet.refl _ | exact Quiet.drewN _ _ | exact (Quiet.drewN _ _).then (Quiet.drewN _ _) | exact ((Quiet.drewN _ _).then (Quiet.drewN _ _)).then (Quiet.drewN _ _))⟩
        · go_wp2_with fail
          go_quiet (fail)
          go_wp2_with fail
          go_roundw
          case rel => exact ⟨k + 1, by omega, by go_num, take_eq_succ hkl hkl' HT.out (by simpa using hq), (by first | exact Quiet.refl _ | exact Quiet.drewN _ _ | exact (Quiet.drewN _ _).then (Quiet.drewN _ _) | exact ((Quiet.drewN _ _).then (Quiet.drewN _ _)).then (Quiet.drewN _ _))⟩
          case measure => simp [intOf]; omega
      · obtain rfl : k = xs.length := by omega
        go_wp2_with fail
        go_ret
        exact ⟨ret_bool (eqB_true (by have h1 := HT.out; have h2 := HN.out; rw [List.take_length, h2, List.take_length] at h1; exact h1)).symm, (by first | exact Quiet.refl _ | exact Quiet.drewN _ _ | exact (Quiet.drewN _ _).then (Quiet.drewN _ _) | exact ((Quiet.drewN _ _).then (Quiet.drewN _ _)).then (Quiet.drewN _ _))⟩
end Go.Proofs.YthjafhjghjbdmaaGreat
namespace Go.Proofs.YthjafhjghjbdmaaGreat

/-- a proposition as a test -/
noncomputable def tb (p : Prop) : Bool := @decide p (Classical.propDecidable p)
theorem tb_true {p : Prop} (h : p) : tb p = true := by simp [tb, h]
theorem tb_false {p : Prop} (h : ¬ p) : tb p = false := by simp [tb, h]
theorem tb_iff {p : Prop} : tb p = true ↔ p := by simp [tb]
theorem tb_no {p : Prop} : tb p = false ↔ ¬ p := by simp [tb]
theorem tb_congr {p q : Prop} (h : p ↔ q) : tb p = tb q := by rw [propext h]
theorem tb_and {p q : Prop} : (tb p && tb q) = tb (p ∧ q) := by rw [Bool.eq_iff_iff, Bool.and_eq_true, tb_iff, tb_iff, tb_iff]
theorem tb_not {p : Prop} : (!tb p) = tb (¬ p) := by cases h : tb p <;> simp [tb] at * <;> exact h
theorem inB_tb (a lo hi : Int) : inB a lo hi = tb (lo ≤ a ∧ a ≤ hi) := by rw [Bool.eq_iff_iff, inB_true, tb_iff]

def cmpI (x y : Int) : Int := if x < y then -1 else if y < x then 1 else 0
theorem cmpI_lt {x y : Int} (h : x < y) : cmpI x y = -1 := if_pos h
theorem cmpI_gt {x y : Int} (h : y < x) : cmpI x y = 1 := by unfold cmpI; rw [if_neg (by omega), if_pos h]
theorem cmpI_eq {x y : Int} (h : x = y) : cmpI x y = 0 := by unfold cmpI; rw [if_neg (by omega), if_neg (by omega)]
/-- the order of lists -/
def cmpL : List Int → List Int → Int
  | [], [] => 0
  | [], _ :: _ => -1
  | _ :: _, [] => 1
  | x :: xs, y :: ys => if x = y then cmpL xs ys else cmpI x y
def ltL (xs ys : List Int) : Prop := cmpL xs ys < 0
theorem cmpL_self : ∀ xs : List Int, cmpL xs xs = 0
  | [] => rfl
  | x :: xs => by simp [cmpL, cmpL_self xs]
theorem cmpL_drop {xs ys : List Int} : ∀ {k : Nat}, xs.take k = ys.take k → cmpL xs ys = cmpL (xs.drop k) (ys.drop k) := by
  induction xs generalizing ys with
  | nil =>
    intro k h
    cases k with
    | zero => rfl
    | succ k => cases ys with
      | nil => simp
      | cons y ys => simp at h
  | cons x xs ih =>
    intro k h
    cases k with
    | zero => rfl
    | succ k => cases ys with
      | nil => simp at h
      | cons y ys =>
        simp only [List.take_succ_cons, List.cons.injEq] at h
        obtain ⟨rfl, h⟩ := h
        simp only [cmpL, if_true, List.drop_succ_cons]
        exact ih h
theorem cmpL_ne {xs ys : List Int} {k : Nat} (h : xs.take k = ys.take k) (h1 : k < xs.length) (h2 : k < ys.length) (hne : xs[k] ≠ ys[k]) : cmpL xs ys = cmpI xs[k] ys[k] := by
  rw [cmpL_drop h, List.drop_eq_getElem_cons h1, List.drop_eq_getElem_cons h2, cmpL, if_neg hne]
theorem cmpL_more {xs ys : List Int} (h : xs.take ys.length = ys) (h1 : ys.length < xs.length) : cmpL xs ys = 1 := by
  rw [cmpL_drop (k := ys.length) (by rw [h, List.take_length]), List.drop_eq_getElem_cons h1, List.drop_length, cmpL]
theorem cmpL_less {xs ys : List Int} (h : xs = ys.take xs.length) (h1 : xs.length < ys.length) : cmpL xs ys = -1 := by
  rw [cmpL_drop (k := xs.length) (by rw [List.take_length]; exact h), List.drop_eq_getElem_cons h1, List.drop_length, cmpL]

/-- so many values of a size -/
def rowOk (size ar : Int) (t : List Int) : Prop := (t.length : Int) = ar ∧ ∀ a ∈ t, 0 ≤ a ∧ a ≤ size - 1
def sizeOk (size : Int) : Prop := 1 ≤ size ∧ size ≤ 4
def relOk (size : Int) (r : Int × List (List Int)) : Prop :=
  sizeOk size ∧ sizeOk r.1 ∧ ∀ i (h : i < r.2.length), rowOk size r.1 r.2[i] ∧ (0 < i → ltL (r.2[i - 1]'(by omega)) r.2[i])
/-- as far as place k -/
def relUp (size : Int) (r : Int × List (List Int)) (k : Nat) : Prop := ∀ i (h : i < r.2.length), i < k → rowOk size r.1 r.2[i] ∧ (0 < i → ltL (r.2[i - 1]'(by omega)) r.2[i])
theorem relUp_zero (size : Int) (r : Int × List (List Int)) : relUp size r 0 := fun i _ h => absurd h (Nat.not_lt_zero i)
theorem relUp_succ {size : Int} {r : Int × List (List Int)} {k : Nat} (h : k < r.2.length) (hu : relUp size r k) (h1 : rowOk size r.1 r.2[k]) (h2 : 0 < k → ltL (r.2[k - 1]'(by omega)) r.2[k]) : relUp size r (k + 1) := fun i hi hlt => by
  by_cases e : i = k
  · subst e; exact ⟨h1, h2⟩
  · exact hu i hi (by omega)
def tplOk (t : Int × List (Int × List (List Int))) : Prop := sizeOk t.1 ∧ t.2.length ≤ 6 ∧ ∀ r ∈ t.2, relOk t.1 r
theorem tupB_iff {size : Int} {xs : List Int} : xs.all (fun a => inB a 0 (size - 1)) = true ↔ ∀ a ∈ xs, 0 ≤ a ∧ a ≤ size - 1 := by
  rw [List.all_eq_true]
  exact ⟨fun h a ha => inB_true.1 (h a ha), fun h a ha => inB_true.2 (h a ha)⟩
/-- the arity that a number tells in a template: -1 stands for equality -/
def arOf (t : Int × List (Int × List (List Int))) (rel : Int) : Int :=
  if rel = -1 then 2 else if h : 0 ≤ rel ∧ rel.toNat < t.2.length then (t.2[rel.toNat]).1 else 0
theorem arOf_eq (t : Int × List (Int × List (List Int))) : arOf t (-1) = 2 := by simp [arOf]
theorem arOf_nat {t : Int × List (Int × List (List Int))} {k : Nat} (h : k < t.2.length) : arOf t (k : Int) = (t.2[k]).1 := by
  unfold arOf
  rw [if_neg (by omega), dif_pos ⟨by omega, by simpa using h⟩]
  simp
theorem arOf_no {t : Int × List (Int × List (List Int))} {rel : Int} (h1 : rel ≠ -1) (h : inB rel 0 ((t.2.length : Int) - 1) = false) : arOf t rel = 0 := by
  unfold arOf
  rw [if_neg h1, dif_neg]
  rw [inB_false] at h
  omega
def atomOk (t : Int × List (Int × List (List Int))) (vars : Int) (a : Int × List Int) : Prop := arOf t a.1 ≠ 0 ∧ rowOk vars (arOf t a.1) a.2
def frameOk (f : Int × Int × List (Int × List Int)) : Prop := (1 ≤ f.1 ∧ f.1 ≤ 4) ∧ (f.1 ≤ f.2.1 ∧ f.2.1 ≤ 8) ∧ f.2.2.length ≤ 16
def frmOk (t : Int × List (Int × List (List Int))) (f : Int × Int × List (Int × List Int)) : Prop := tplOk t ∧ frameOk f ∧ ∀ a ∈ f.2.2, atomOk t f.2.1 a
def conOk (t : Int × List (Int × List (List Int))) (vars : Int) (c : Int × List Int) : Prop := (0 ≤ c.1 ∧ c.1 ≤ (t.2.length : Int) - 1) ∧ rowOk vars (arOf t c.1) c.2
def instOk (t : Int × List (Int × List (List Int))) (x : Int × List (Int × List Int)) : Prop := tplOk t ∧ (1 ≤ x.1 ∧ x.1 ≤ 10) ∧ x.2.length ≤ 24 ∧ ∀ c ∈ x.2, conOk t x.1 c
end Go.Proofs.YthjafhjghjbdmaaGreat
namespace Go.Proofs.YthjafhjghjbdmaaGreat
open Go.RowKit

abbrev VP := Value → World → Prop

def looseUpon (P : Program) (w : World) (Φ : VP) : Result Next → Prop
  | .ok (.value v) w' => Below w.heap.size w w' ∧ Φ v w'
  | .ok .skip w' => Below w.heap.size w w' ∧ Φ undef w'
  | .ok (.enter f args) w' => Below w.heap.size w w' ∧ Calls P f args w' fun e w'' => ∃ v, e = .returned v ∧ Below w'.heap.size w' w'' ∧ Φ v w''
  | _ => False

def writer : List Oper → List VP → Tmp → Option VP
  | o :: l, Φ :: Φs, t => if o.dst = some t then some Φ else writer l Φs t
  | _, _, _ => none

def slotP (l : List Oper) (Φs : List VP) (a : Act) (t : Tmp) : VP := match writer l Φs t with
  | some Φ => Φ
  | none => fun v _ => v = a.eval (.tmp t)

def readsB (o : Oper) (t : Tmp) : Bool := o.op.operands.toList.any fun x => match x with | .tmp s => s == t | _ => false

def JAt (P : Program) (l : List Oper) (Φs : List VP) (a : Act) (w : World) (o : Oper) (Φ : VP) : Prop :=
  ∀ (a' : Act) (w' : World), Below w.heap.size w w' → (∀ t, readsB o t = true → slotP l Φs a t (a'.eval (.tmp t)) w') → looseUpon P w' Φ ((execOp a'.eval o).run P w')

def JAll (P : Program) (l : List Oper) (Φs : List VP) (a : Act) (w : World) : List Oper → List VP → Prop
  | o :: r, Φ :: Φr => JAt P l Φs a w o Φ ∧ JAll P l Φs a w r Φr
  | [], [] => True
  | _, _ => False

def putAll (a : Act) : List Oper → List Value → Act
  | o :: l, v :: vs => putAll (a.put o.dst v) l vs
  | _, _ => a

def HAll (w : World) : List Oper → List VP → List Value → Prop
  | o :: l, Φ :: Φs, v :: vs => (o.dst.isSome = true → Φ v w) ∧ HAll w l Φs vs
  | [], [], [] => True
  | _, _, _ => False

/-- no guards; each edge leads back; every slot that an operation names and that another one writes is written by one that it waits for; no slot is written twice; all slots lie in the frame -/
def looseB (l : List Oper) (n : Nat) : Bool :=
  l.zipIdx.all fun (o, i) => o.guard.isNone && o.after.toList.all (fun e => !Region.binds .any e || decide (e.on < i)) && (match o.dst with | some d => decide (d < n) | none => true) &&
    l.zipIdx.all fun (q, j) => match q.dst with
      | none => true
      | some d => (o.op.operands.toList.all fun x => match x with
          | .tmp t => t != d || o.after.toList.any (fun e => e.on == j && Region.binds .any e)
          | _ => true) && (i == j || o.dst != some d)

theorem writer_some {l : List Oper} {Φs : List VP} {t : Tmp} {Φ : VP} (h : writer l Φs t = some Φ) : ∃ (j : Nat) (o : Oper), l[j]? = some o ∧ o.dst = some t ∧ Φs[j]? = some Φ := by
  induction l generalizing Φs with
  | nil => simp [writer] at h
  | cons o l ih =>
    cases Φs with
    | nil => simp [writer] at h
    | cons Φ' Φs =>
      simp only [writer] at h
      split at h
      · rename_i hd
        exact ⟨0, o, rfl, hd, h⟩
      · obtain ⟨j, o', h1, h2, h3⟩ := ih h
        exact ⟨j + 1, o', h1, h2, h3⟩
theorem writer_none {l : List Oper} {Φs : List VP} {t : Tmp} (hl : l.length = Φs.length) (h : writer l Φs t = none) : ∀ (j : Nat) (o : Oper), l[j]? = some o → o.dst ≠ some t := by
  induction l generalizing Φs with
  | nil => intro j o h; simp at h
  | cons q l ih =>
    cases Φs with
    | nil => simp at hl
    | cons Φ' Φs =>
      simp only [writer] at h
      split at h
      · cases h
      · rename_i hd
        intro j o ho
        match j with
        | 0 => simp at ho; subst ho; exact hd
        | j + 1 => exact ih (by simpa using hl) h j o (by simpa using ho)

theorem JAll_len {P : Program} {l : List Oper} {Φs : List VP} {a : Act} {w : World} : ∀ {r : List Oper} {Φr : List VP}, JAll P l Φs a w r Φr → r.length = Φr.length
  | [], [], _ => rfl
  | _ :: _, _ :: _, h => by simp [JAll_len h.2]
  | [], _ :: _, h => by cases h
  | _ :: _, [], h => by cases h
theorem JAll_get {P : Program} {l : List Oper} {Φs : List VP} {a : Act} {w : World} : ∀ {r : List Oper} {Φr : List VP}, JAll P l Φs a w r Φr → ∀ {i : Nat} {o : Oper} {Φ : VP}, r[i]? = some o → Φr[i]? = some Φ → JAt P l Φs a w o Φ
  | [], _, _, i, o, Φ, h, _ => by simp at h
  | q :: r, [], h, _, _, _, _, _ => by cases h
  | q :: r, Φ' :: Φr, hj, i, o, Φ, h, h' => by
    match i with
    | 0 => simp at h h'; subst h; subst h'; exact hj.1
    | i + 1 => exact JAll_get hj.2 (by simpa using h) (by simpa using h')

/-- where the region stands -/
structure LInv (l : List Oper) (Φs : List VP) (a : Act) (w : World) (listed : Array Bool) (a' : Act) (w' : World) : Prop where
  below : Below w.heap.size w w'
  size : listed.size = l.length
  defers : a'.defers = a.defers
  tsize : a'.tmps.size = a.tmps.size
  old : ∀ t, (∀ (j : Nat) (o : Oper), l[j]? = some o → o.dst = some t → listed.getD j false = false) → a'.tmps[t]? = a.tmps[t]?
  new : ∀ (j : Nat) (o : Oper) (Φ : VP), l[j]? = some o → Φs[j]? = some Φ → listed.getD j false = true → ∀ d, o.dst = some d → Φ (a'.eval (.tmp d)) w'

theorem looseB_spec {l : List Oper} {n : Nat} (h : looseB l n = true) {i : Nat} {o : Oper} (hi : l[i]? = some o) :
    o.guard = none ∧ (∀ e ∈ o.after, Region.binds .any e = true → e.on < i) ∧ (∀ d, o.dst = some d → d < n) ∧
    ∀ (j : Nat) (q : Oper) (d : Tmp), l[j]? = some q → q.dst = some d → (Operand.tmp d ∈ o.op.operands.toList → ∃ e ∈ o.after, e.on = j ∧ Region.binds .any e = true) ∧ (i ≠ j → o.dst ≠ some d) := by
  have hmem : (o, i) ∈ l.zipIdx := by
    rw [List.mem_zipIdx_iff_getElem?]
    exact hi
  have h1 := List.all_eq_true.1 h _ hmem
  simp only [Bool.and_eq_true] at h1
  obtain ⟨⟨⟨g1, g2⟩, g3⟩, g4⟩ := h1
  refine ⟨by simpa using g1, fun e he hbd => ?_, fun d hd => ?_, fun j q d hj hd => ?_⟩
  · have := List.all_eq_true.1 g2 e (by simpa using he)
    simpa [hbd] using this
  · rw [hd] at g3; simpa using g3
  · have hmem2 : (q, j) ∈ l.zipIdx := by rw [List.mem_zipIdx_iff_getElem?]; exact hj
    have h2 := List.all_eq_true.1 g4 _ hmem2
    simp only [hd, Bool.and_eq_true] at h2
    refine ⟨fun ht => ?_, fun hne he => ?_⟩
    · have h3 := List.all_eq_true.1 h2.1 _ ht
      simp only [bne_self_eq_false, Bool.false_or, List.any_eq_true, Bool.and_eq_true, beq_iff_eq] at h3
      obtain ⟨e, he, h4, h5⟩ := h3
      exact ⟨e, by simpa using he, h4, h5⟩
    · have := h2.2
      rw [he] at this
      simp [hne] at this

theorem eval_put_self {a : Act} {d : Tmp} {v : Value} (h : d < a.tmps.size) : (a.put (some d) v).eval (.tmp d) = v := by
  simp [Act.put, Act.eval, h]
theorem eval_put_ne {a : Act} {o : Option Tmp} {d : Tmp} {v : Value} (h : o ≠ some d) : (a.put o v).eval (.tmp d) = a.eval (.tmp d) := by
  cases o with
  | none => rfl
  | some q => simp [Act.put, Act.eval, Array.getElem?_setIfInBounds_ne (show q ≠ d from fun e => h (by rw [e]))]
theorem put_size {a : Act} {o : Option Tmp} {v : Value} : (a.put o v).tmps.size = a.tmps.size := by cases o <;> simp [Act.put]
theorem put_defers {a : Act} {o : Option Tmp} {v : Value} : (a.put o v).defers = a.defers := by cases o <;> rfl
theorem put_other {a : Act} {o : Option Tmp} {v : Value} {t : Tmp} (h : o ≠ some t) : (a.put o v).tmps[t]? = a.tmps[t]? := by
  cases o with
  | none => rfl
  | some q => simp only [Act.put]; rw [Array.getElem?_setIfInBounds_ne (show q ≠ t from fun e => h (by rw [e]))]
theorem put_same {a : Act} {t : Tmp} {v : Value} (h : t < a.tmps.size) : (a.put (some t) v).tmps[t]? = some v := by
  simp only [Act.put]; rw [Array.getElem?_setIfInBounds_self_of_lt h]

theorem LInv.step {l : List Oper} {Φs : List VP} {a : Act} {w : World} {listed : Array Bool} {a' : Act} {w' w'' : World} (hB : looseB l a.tmps.size = true)
    (hst : ∀ Φ ∈ Φs, ∀ v w1 w2, Φ v w1 → Below w1.heap.size w1 w2 → Φ v w2) (h : LInv l Φs a w listed a' w') {i : Nat} {o : Oper} {Φ : VP} (hi : l[i]? = some o) (hΦ : Φs[i]? = some Φ) {v : Value} (hb : Below w'.heap.size w' w'') (hv : Φ v w'') :
    LInv l Φs a w (listed.setIfInBounds i true) (a'.put o.dst v) w'' := by
  have hlt : i < listed.size := by rw [h.size]; exact (List.getElem?_eq_some_iff.1 hi).1
  obtain ⟨_, _, hdn, hall⟩ := looseB_spec hB hi
  refine ⟨bthen h.below hb, by simpa using h.size, put_defers.trans h.defers, put_size.trans h.tsize, fun t ht => ?_, fun j q Ψ hj hΨ hl d hd => ?_⟩
  · have hne : o.dst ≠ some t := fun e => by
      have := ht i o hi e
      rw [Array.getD_eq_getD_getElem?, Array.getElem?_setIfInBounds_self_of_lt hlt] at this
      cases this
    rw [put_other hne]
    refine h.old t fun j q hj hd => ?_
    have := ht j q hj hd
    by_cases e : i = j
    · subst e; rw [Array.getD_eq_getD_getElem?, Array.getElem?_setIfInBounds_self_of_lt hlt] at this; cases this
    · rwa [getD_set_ne false e] at this
  · by_cases e : i = j
    · subst e
      rw [hi] at hj
      cases hj
      rw [hΦ] at hΨ
      cases hΨ
      rw [hd, eval_put_self (by rw [h.tsize]; exact hdn d hd)]
      exact hv
    · rw [getD_set_ne false e] at hl
      have hne := (hall j q d hj hd).2 e
      rw [eval_put_ne hne]
      exact hst Ψ (List.mem_of_getElem? hΨ) _ _ _ (h.new j q Ψ hj hΨ hl d hd) hb

theorem putAll_frame {l : List Oper} : ∀ {vs : List Value} {a : Act}, (putAll a l vs).tmps.size = a.tmps.size ∧ (putAll a l vs).defers = a.defers ∧
    ∀ t, (∀ o ∈ l, o.dst ≠ some t) → (putAll a l vs).tmps[t]? = a.tmps[t]? := by
  induction l with
  | nil => intro vs a; cases vs <;> exact ⟨rfl, rfl, fun _ _ => rfl⟩
  | cons o l ih =>
    intro vs a
    cases vs with
    | nil => exact ⟨rfl, rfl, fun _ _ => rfl⟩
    | cons v vs =>
      obtain ⟨h1, h2, h3⟩ := ih (vs := vs) (a := a.put o.dst v)
      exact ⟨h1.trans put_size, h2.trans put_defers, fun t ht => (h3 t fun q hq => ht q (List.mem_cons_of_mem _ hq)).trans (put_other (ht o (List.mem_cons_self ..)))⟩
theorem putAll_get {l : List Oper} : ∀ {a : Act} (f : Oper → Value) {j : Nat} {q : Oper} {d : Tmp}, l[j]? = some q → q.dst = some d → d < a.tmps.size → (∀ (i : Nat) (o : Oper), i ≠ j → l[i]? = some o → o.dst ≠ some d) →
    (putAll a l (l.map f)).tmps[d]? = some (f q) := by
  induction l with
  | nil => intro a f j q d h; simp at h
  | cons o l ih =>
    intro a f j q d hj hd hlt hne
    simp only [List.map_cons, putAll]
    match j with
    | 0 =>
      simp at hj
      subst hj
      rw [(putAll_frame (l := l) (vs := l.map f) (a := a.put o.dst (f o))).2.2 d (fun p hp => ?_), hd, put_same hlt]
      obtain ⟨i, hi⟩ := List.getElem?_of_mem hp
      exact hne (i + 1) p (by omega) (by simpa using hi)
    | j + 1 =>
      exact ih f (by simpa using hj) hd (by rw [put_size]; exact hlt) fun i p hi hp => hne (i + 1) p (by omega) (by simpa using hp)

theorem HAll_of {w : World} {f : Oper → Value} : ∀ {l : List Oper} {Φs : List VP}, l.length = Φs.length → (∀ (j : Nat) (o : Oper) (Φ : VP), l[j]? = some o → Φs[j]? = some Φ → o.dst.isSome = true → Φ (f o) w) → HAll w l Φs (l.map f)
  | [], [], _, _ => trivial
  | o :: l, Φ :: Φs, hl, h => ⟨h 0 o Φ rfl rfl, HAll_of (by simpa using hl) fun j q Ψ hj hΨ => h (j + 1) q Ψ (by simpa using hj) (by simpa using hΨ)⟩
  | [], _ :: _, hl, _ => by simp at hl
  | _ :: _, [], hl, _ => by simp at hl

theorem ready_nil {l : List Oper} {n : Nat} (hB : looseB l n = true) {listed : Array Bool} (hs : listed.size = l.length) (h : Region.ready .any l.toArray listed = []) : ∀ i, i < l.length → listed.getD i false = true := by
  intro i
  induction i using Nat.strongRecOn with
  | ind i ih =>
    intro hi
    cases hl : listed.getD i false
    · exfalso
      have hm : i ∈ Region.ready .any l.toArray listed := by
        refine mem_ready.2 ⟨?_, l[i], by simp [hi], fun e he hbd => ?_⟩
        · have : i < listed.size := by omega
          rw [Array.getD_eq_getD_getElem?, Array.getElem?_eq_getElem this] at hl ⊢
          exact hl
        · have hlt := (looseB_spec hB (i := i) (o := l[i]) (by simp [hi])).2.1 e he hbd
          exact ih e.on hlt (by omega)
      rw [h] at hm
      cases hm
    · rfl

theorem wpAny_loose {P : Program} {l : List Oper} {Φs : List VP} {a : Act} {w : World} {Q : Exit → Act → World → Prop} (hB : looseB l a.tmps.size = true)
    (hst : ∀ Φ ∈ Φs, ∀ v w1 w2, Φ v w1 → Below w1.heap.size w1 w2 → Φ v w2) (hJ : JAll P l Φs a w l Φs)
    (hQ : ∀ vs w', Below w.heap.size w w' → HAll w' l Φs vs → Q .normal (putAll a l vs) w') :
    ∀ (fuel : Nat) (listed : Array Bool) (a' : Act) (w' : World), (∃ s : List Nat, s.Nodup ∧ (∀ i ∈ s, i < l.length ∧ listed.getD i true = false) ∧ (∀ i, i < l.length → listed.getD i true = false → i ∈ s) ∧ s.length ≤ fuel) → LInv l Φs a w listed a' w' → wpAny P .any l.toArray Q fuel listed a' w' := by
  have hlen := JAll_len hJ
  have fin : ∀ (listed : Array Bool) (a' : Act) (w' : World), LInv l Φs a w listed a' w' → Region.ready .any l.toArray listed = [] → Q .normal a' w' := by
    intro listed a' w' hI hr
    have hall := ready_nil hB hI.size hr
    let f : Oper → Value := fun o => match o.dst with | some d => a'.eval (.tmp d) | none => undef
    have hH : HAll w' l Φs (l.map f) := HAll_of hlen fun j o Φ hj hΦ hs => by
      obtain ⟨d, hd⟩ := Option.isSome_iff_exists.1 hs
      have := hI.new j o Φ hj hΦ (hall j (List.getElem?_eq_some_iff.1 hj).1) d hd
      simpa [f, hd] using this
    have ha : a' = putAll a l (l.map f) := by
      obtain ⟨p1, p2, p3⟩ := putAll_frame (l := l) (vs := l.map f) (a := a)
      have e1 : a'.tmps = (putAll a l (l.map f)).tmps := by
        apply Array.ext_getElem?
        intro t
        by_cases ht : ∃ (j : Nat) (o : Oper), l[j]? = some o ∧ o.dst = some t
        · obtain ⟨j, o, hj, hd⟩ := ht
          obtain ⟨_, _, hdn, _⟩ := looseB_spec hB hj
          have hlt := hdn t hd
          rw [putAll_get f hj hd hlt (fun i q hne hq => ((looseB_spec hB hq).2.2.2 j o t hj hd).2 hne)]
          have hlt' : t < a'.tmps.size := by rw [hI.tsize]; exact hlt
          simp [f, hd, Act.eval, Array.getElem?_eq_getElem hlt']
        · rw [p3 t (fun o ho hd => ?_)]
          · exact hI.old t fun j o hj hd => absurd ⟨j, o, hj, hd⟩ ht
          · obtain ⟨j, hj⟩ := List.getElem?_of_mem ho
            exact ht ⟨j, o, hj, hd⟩
      have e2 : a'.defers = (putAll a l (l.map f)).defers := hI.defers.trans p2.symm
      cases a'
      cases hq : putAll a l (l.map f)
      rw [hq] at e1 e2
      simp only at e1 e2
      rw [e1, e2]
    rw [ha]
    exact hQ _ _ hI.below hH
  intro fuel
  induction fuel with
  | zero =>
    intro listed a' w' ⟨s, _, _, hs2, hs3⟩ hI
    have hr : Region.ready .any l.toArray listed = [] := by
      rw [List.eq_nil_iff_forall_not_mem]
      intro i hi
      obtain ⟨h1, o, ho, _⟩ := mem_ready.1 hi
      have hlt : i < l.length := by simpa using (Array.getElem?_eq_some_iff.1 ho).1
      have := hs2 i hlt h1
      obtain rfl : s = [] := List.eq_nil_of_length_eq_zero (by omega)
      cases this
    exact ⟨hr, fin _ _ _ hI hr⟩
  | succ fuel ih =>
    intro listed a' w' ⟨s, hs0, hs1, hs2, hs3⟩ hI
    refine ⟨fin _ _ _ hI, fun i hi => ?_⟩
    obtain ⟨h1, o, ho, hdeps⟩ := mem_ready.1 hi
    have hlt : i < l.length := by simpa using (Array.getElem?_eq_some_iff.1 ho).1
    have ho' : l[i]? = some o := by simpa using ho
    obtain ⟨Φ, hΦ⟩ : ∃ Φ, Φs[i]? = some Φ := ⟨_, List.getElem?_eq_getElem (by omega)⟩
    obtain ⟨hg, _, _, hall⟩ := looseB_spec hB ho'
    have hJi : JAt P l Φs a w o Φ := JAll_get hJ ho' hΦ
    have hj := hJi a' w' hI.below (fun t ht0 => by
      have ht : Operand.tmp t ∈ o.op.operands.toList := by
        unfold readsB at ht0
        obtain ⟨x, hx, he⟩ := List.any_eq_true.1 ht0
        cases x <;> simp at he
        subst he
        exact hx
      unfold slotP
      cases hwr : writer l Φs t with
      | some Ψ =>
        obtain ⟨j, q, hj, hd, hΨ⟩ := writer_some hwr
        obtain ⟨e, he, hon, hbind⟩ := (hall j q t hj hd).1 ht
        exact hI.new j q Ψ hj hΨ (by rw [← hon]; exact hdeps e he hbind) t hd
      | none =>
        have hno := writer_none hlen hwr
        have := hI.old t fun j q hj hd => absurd hd (hno j q hj)
        simp [Act.eval, this])
    have hnext : ∀ v w'', Below w'.heap.size w' w'' → Φ v w'' → wpAny P .any l.toArray Q fuel (listed.setIfInBounds i true) (a'.put o.dst v) w'' := by
      intro v w'' hb hv
      refine ih _ _ _ ⟨s.erase i, hs0.erase i, fun j hj => ?_, fun j hj hl => ?_, ?_⟩ (hI.step hB hst ho' hΦ hb hv)
      · have hj' := List.mem_of_mem_erase hj
        have hne : j ≠ i := fun e => by subst e; exact (hs0.not_mem_erase) hj
        exact ⟨(hs1 j hj').1, by rw [getD_set_ne true (Ne.symm hne)]; exact (hs1 j hj').2⟩
      · have hne : i ≠ j := fun e => by
          subst e
          have hsz : i < listed.size := by rw [hI.size]; exact hlt
          rw [Array.getD_eq_getD_getElem?, Array.getElem?_setIfInBounds_self_of_lt hsz] at hl
          cases hl
        rw [getD_set_ne true hne] at hl
        exact (List.mem_erase_of_ne (Ne.symm hne)).2 (hs2 j hj hl)
      · rw [List.length_erase_of_mem (hs2 i hlt h1)]; omega
    unfold wpOp
    rw [ho]
    simp only [Region.wanted, hg, if_true]
    left
    unfold Oper.wp
    generalize (execOp a'.eval o).run P w' = r at hj
    cases r with
    | ok n w1 =>
      cases n with
      | value v => exact hnext v w1 hj.1 hj.2
      | skip => exact hnext undef w1 hj.1 hj.2
      | enter f args =>
        refine hj.2.mono fun e w2 ⟨v, he, hb2, hv⟩ => ?_
        subst he
        exact hnext v w2 (bthen hj.1 hb2) hv
      | _ => exact hj.elim
    | halt x w1 => exact hj.elim

/-- predicates that outlast new memory -/
def Stab (Φ : VP) : Prop := ∀ v w1 w2, Φ v w1 → Below w1.heap.size w1 w2 → Φ v w2
def SAll : List VP → Prop
  | Φ :: Φs => Stab Φ ∧ SAll Φs
  | [] => True
theorem SAll_mem : ∀ {Φs : List VP}, SAll Φs → ∀ Φ ∈ Φs, ∀ v w1 w2, Φ v w1 → Below w1.heap.size w1 w2 → Φ v w2
  | _ :: _, h, Φ, hm, v, w1, w2, h1, hb => by
    rcases List.mem_cons.1 hm with rfl | hm
    · exact h.1 v w1 w2 h1 hb
    · exact SAll_mem h.2 Φ hm v w1 w2 h1 hb
/-- the very value; a struct, a slice that reads so; new memory that reads so -/
def exV (c : Value) : VP := fun v _ => v = c
def rdA {α : Type} (E : Ty α) (x : α) : VP := fun v W => ∃ cs : List Value, v = .agg cs.toArray ∧ E.Rd W cs x
def rdS {α : Type} (E : Ty α) (x : α) : VP := fun v W => E.Rd W [v] x
def frA {α : Type} (E : Ty α) (base : Nat) (x : α) : VP := fun v W => ∃ cs : List Value, v = .agg cs.toArray ∧ E.Fr base W cs x
def frS {α : Type} (E : Ty α) (base : Nat) (x : α) : VP := fun v W => E.Fr base W [v] x
theorem st_exV {c : Value} : Stab (exV c) := fun _ _ _ h _ => h
theorem st_rdA {α : Type} {E : Ty α} {x : α} : Stab (rdA E x) := fun _ _ _ ⟨cs, h1, h2⟩ hb => ⟨cs, h1, h2.below hb⟩
theorem st_rdS {α : Type} {E : Ty α} {x : α} : Stab (rdS E x) := fun _ _ _ h hb => Ty.Rd.below h hb
theorem st_frA {α : Type} {E : Ty α} {base : Nat} {x : α} : Stab (frA E base x) := fun _ _ _ ⟨cs, h1, h2⟩ hb => ⟨cs, h1, h2.below hb⟩
theorem st_frS {α : Type} {E : Ty α} {base : Nat} {x : α} : Stab (frS E base x) := fun _ _ _ h hb => Ty.Fr.below h hb
theorem st_any : Stab (fun _ _ => True) := fun _ _ _ _ _ => trivial
theorem ev {a : Act} {t : Tmp} {v : Value} (h : a.eval (.tmp t) = v) : a.tmps[t]?.getD undef = v := by simpa [Act.eval] using h
theorem HAll_cons {w : World} {o : Oper} {l : List Oper} {Φ : VP} {Φs : List VP} {vs : List Value} (h : HAll w (o :: l) (Φ :: Φs) vs) : ∃ v r, vs = v :: r ∧ (o.dst.isSome = true → Φ v w) ∧ HAll w l Φs r := by
  cases vs with
  | nil => cases h
  | cons v r => exact ⟨v, r, rfl, h.1, h.2⟩
theorem HAll_nil {w : World} {vs : List Value} (h : HAll w [] [] vs) : vs = [] := by
  cases vs with
  | nil => rfl
  | cons v r => cases h
theorem exV_eqB {α : Type} [DecidableEq α] {x : α} {w : World} : exV (.bool true) (.bool (eqB x x)) w := congrArg Value.bool (eqB_true rfl)
theorem slot_w {l : List Oper} {Φs : List VP} {a a' : Act} {w' : World} {o : Oper} (hd : ∀ t, readsB o t = true → slotP l Φs a t (a'.eval (.tmp t)) w') (t : Tmp) (Φ : VP) (hr : readsB o t = true) (hw : writer l Φs t = some Φ) : Φ (a'.eval (.tmp t)) w' := by
  have h := hd t hr
  unfold slotP at h
  rw [hw] at h
  exact h
theorem slot_o {l : List Oper} {Φs : List VP} {a a' : Act} {w' : World} {o : Oper} (hd : ∀ t, readsB o t = true → slotP l Φs a t (a'.eval (.tmp t)) w') (t : Tmp) (hr : readsB o t = true) (hw : writer l Φs t = none) : a'.eval (.tmp t) = a.eval (.tmp t) := by
  have h := hd t hr
  unfold slotP at h
  rw [hw] at h
  exact h
theorem wp_region_loose {P : Program} {id : Nat} {l : List Oper} {a : Act} {w : World} {Q : Exit → Act → World → Prop} (Φs : List VP) (hm : P.follows .mixedOrders = true) (hB : looseB l a.tmps.size = true)
    (hst0 : SAll Φs) (hJ : JAll P l Φs a w l Φs)
    (hQ : ∀ vs w', Below w.heap.size w w' → HAll w' l Φs vs → Q .normal (putAll a l vs) w') : (Code.region id l.toArray true).wp P Q a w := by
  have hst := SAll_mem hst0
  refine wp_region_any hm (wpAny_loose hB hst hJ hQ _ _ _ _ ⟨List.range l.length, List.nodup_range, fun i hi => ⟨by simpa using hi, ?_⟩, fun i hi _ => by simpa using hi, by simp⟩ ⟨⟨rfl, rfl, rfl, Nat.le_refl _, fun _ _ => rfl⟩, by simp, rfl, rfl, fun _ _ => rfl, fun j o Φ hj _ hl => ?_⟩)
  · simp at hi
    simp [hi]
  · have hjl := (List.getElem?_eq_some_iff.1 hj).1
    simp [hjl] at hl
end Go.Proofs.YthjafhjghjbdmaaGreat
namespace Go.Proofs.YthjafhjghjbdmaaGreat
open Go.RowKit Go.Sort
theorem isNaN_any (x : Int) (w : World) : Calls Tryz.prog 221 #[.int .i64 x] w fun e w' => e = .returned (.bool false) ∧ w = w' := by
  go_enter Tryz.func221, Tryz.ntmps221
  go_wp2_with fail
  go_ret
  exact ⟨ret_bool (by simp), rfl⟩
theorem cmpCompare_any (x y : Int) (w : World) : Calls Tryz.prog 207 #[.int .i64 x, .int .i64 y] w fun e w' => e = .returned (.int .i64 (cmpI x y)) ∧ w = w' := by
  rcases ilt x y with h | h
  · go_enter Tryz.func207, Tryz.ntmps207
    go_wp2_with (go_at_call 221; refine (isNaN_any _ _).mono ?_; rintro e w' ⟨rfl, rfl⟩)
    go_ret
    exact ⟨ret_int (cmpI_lt h).symm, rfl⟩
  · rcases ilt y x with h' | h'
    · go_enter Tryz.func207, Tryz.ntmps207
      go_wp2_with (go_at_call 221; refine (isNaN_any _ _).mono ?_; rintro e w' ⟨rfl, rfl⟩)
      go_ret
      exact ⟨ret_int (cmpI_gt h').symm, rfl⟩
    · go_enter Tryz.func207, Tryz.ntmps207
      go_wp2_with (go_at_call 221; refine (isNaN_any _ _).mono ?_; rintro e w' ⟨rfl, rfl⟩)
      go_ret
      exact ⟨ret_int (cmpI_eq (by omega)).symm, rfl⟩
set_option maxHeartbeats 400000 in
theorem Compare_any (w : World) {v u : Value} {xs ys : List Int} (h : intsT.Rd w [v] xs) (h' : intsT.Rd w [u] ys) :
    Calls Tryz.prog 161 #[v, u] w fun e w' => e = .returned (.int .i64 (cmpL xs ys)) ∧ w = w' := by
  obtain ⟨ad, cap, hv, hl, hc, hcell⟩ := ints_ex h
  obtain ⟨ad', cap', hv', hl', hc', hcell'⟩ := ints_ex h'
  obtain rfl : v = _ := by simpa using hv
  obtain rfl : u = _ := by simpa using hv'
  clear h hv h' hv'
  go_enter Tryz.func161, Tryz.ntmps161
  go_wp2_with fail
  go_loop [11] (fun i => ∃ k : Nat, k ≤ xs.length ∧ k ≤ ys.length ∧ i = .int .i64 k ∧ xs.take k = ys.take k) (fun i => xs.length - (intOf i).toNat)
  case atStart => exact ⟨0, Nat.zero_le _, Nat.zero_le _, rfl, rfl⟩
  case round =>
    obtain ⟨k, hk, hk', rfl, ht⟩ := hrel
    have HT := Lib.hid ht
    clear ht
    by_cases hkl : k < xs.length
    · obtain ⟨b, o, rfl, hb, hce⟩ := hcell (by omega)
      have d0 := (hce k hkl).2
      by_cases hkl' : k < ys.length
      · obtain ⟨b', o', rfl, hb', hce'⟩ := hcell' (by omega)
        have d1 := (hce' k hkl').2
        clear hce hce' hcell hcell'
        by_cases hne : xs[k] = ys[k]
        · have HE := Lib.hid hne
          have hz : cmpI xs[k] ys[k] = 0 := cmpI_eq hne
          clear hne
          go_wp2_with (go_at_call 207; refine (cmpCompare_any _ _ _).mono ?_; rintro e w' ⟨rfl, rfl⟩)
          go_round
          case rel => exact ⟨k + 1, by omega, by omega, by go_num, take_eq_succ hkl hkl' HT.out HE.out⟩
          case measure => simp [intOf]; omega
        · have hz : (cmpI xs[k] ys[k] != 0) = true := by
            rcases ilt xs[k] ys[k] with h | h
            · rw [cmpI_lt h]; rfl
            · rw [cmpI_gt (by omega)]; rfl
          have HC := Lib.hid (cmpL_ne HT.out hkl hkl' hne)
          clear hne
          go_wp2_with (go_at_call 207; refine (cmpCompare_any _ _ _).mono ?_; rintro e w' ⟨rfl, rfl⟩)
          go_ret
          exact ⟨ret_int HC.out.symm, rfl⟩
      · clear hce hcell hcell'
        go_wp2_with fail
        go_ret
        obtain rfl : k = ys.length := by omega
        exact ⟨ret_int (cmpL_more (by have := HT.out; rwa [List.take_length] at this) hkl).symm, rfl⟩
    · obtain rfl : k = xs.length := by omega
      have hq : xs = ys.take xs.length := by have := HT.out; rwa [List.take_length] at this
      have HQ := Lib.hid hq
      clear hq
      by_cases hlt : xs.length < ys.length
      · go_wp2_with fail
        go_ret
        exact ⟨ret_int (cmpL_less HQ.out hlt).symm, rfl⟩
      · go_wp2_with fail
        go_ret
        have e : xs = ys := by have := HQ.out; rwa [List.take_of_length_le (by omega)] at this
        exact ⟨ret_int (by rw [e, cmpL_self]), rfl⟩
theorem areValues1_any (w : World) (size a : Int) (b : Nat) (h0 : 0 ≤ size) (h1 : size ≤ 1000000000000) (hc : w.cell? ⟨b, 0, none⟩ = some (.int .i64 size)) :
    Calls Tryz.prog 152 #[.int .i64 a, .pointer (some ⟨b, 0, none⟩)] w fun e w' => e = .returned (.bool (!inB a 0 (size - 1))) ∧ Below w.heap.size w w' := by
  go_enter Tryz.func152, Tryz.ntmps152
  go_wp2_with (go_at_call 153; refine (isValue_any _ _ _ h0 h1).mono ?_; rintro e w' ⟨rfl, rfl⟩)
  go_ret
  exact ⟨rfl, Below.refl _ _⟩
theorem areValues_any (w : World) {v : Value} {xs : List Int} (h : intsT.Rd w [v] xs) (size many : Int) (h0 : 0 ≤ size) (h1 : size ≤ 1000000000000) :
    Calls Tryz.prog 66 #[.int .i64 size, v, .int .i64 many] w fun e w' => e = .returned (.bool (tb (rowOk size many xs))) ∧ Below w.heap.size w w' := by
  have hx := h
  obtain ⟨ad, cap, hv, hl, hc, -⟩ := ints_ex h
  obtain rfl : v = _ := by simpa using hv
  clear h hv
  cases hn : (((xs.length : Nat) : Int) == many)
  · go_enter Tryz.func66, Tryz.ntmps66
    go_wp2_with fail
    go_ret
    exact ⟨ret_bool (tb_false (fun hr => by simp at hn; exact hn hr.1)).symm, bA⟩
  have HN : Hid ((xs.length : Int) = many) := by simpa [Hid] using hn
  have ha : (!anyB (fun a => !inB a 0 (size - 1)) xs) = tb (rowOk size many xs) := by
    rw [Bool.eq_iff_iff, tb_iff]
    simp only [anyB, rowOk, HN.out, true_and, Bool.not_eq_true', List.any_eq_false, Bool.not_eq_false, inB_true]
  have HA := Lib.hid ha
  clear ha
  go_enter Tryz.func66, Tryz.ntmps66
  go_wp2_with fail
  refine (ContainsFuncInt_any _ (hx.below bA) (fun a => !inB a 0 (size - 1)) 152 #[.pointer (some ⟨w.heap.size, 0, none⟩)] (enters Tryz.func152 (by kernel_rfl) rfl) (fun W hW k hk => areValues1_any W size xs[k] w.heap.size h0 h1 ?_)).mono ?_
  · rw [hW.cell (by simp)]; simp
  rintro e w1 ⟨rfl, hb1⟩
  go_wp2_with fail
  go_ret
  exact ⟨ret_bool HA.out, (by repeat (first | exact Below.refl _ _ | exact bA | assumption | refine Below.setCell ?_ (by first | omega | (simp; try omega)) _ | refine Below.alloc ?_ (by first | omega | (simp; try omega)) _ | refine Below.drew ?_ | refine bDN ?_ | refine bthen ?_ (by assumption)))⟩
theorem l01Tuple_any (size arity : Int) {v : Value} {xs : List Int} (w : World) (h : intsT.Rd w [v] xs) (h0 : 0 ≤ size) (h1 : size ≤ 1000000000000) :
    Calls Tryz.prog 158 #[.int .i64 size, .int .i64 arity, v] w fun e w' => e = .returned (.bool (tb (rowOk size arity xs))) ∧ w = w' := by
  obtain ⟨ad, cap, hv, hl, hc, hcell⟩ := ints_ex h
  obtain rfl : v = _ := by simpa using hv
  clear h hv
  go_enter Tryz.func158, Tryz.ntmps158
  go_wp2_with fail
  go_loop [7] (fun i => ∃ k : Nat, k ≤ xs.length ∧ i = .int .i64 k ∧ noneB (fun a => !inB a 0 (size - 1)) (xs.take k)) (fun i => xs.length - (intOf i).toNat)
  case atStart => exact ⟨0, Nat.zero_le _, rfl, noneB_zero _ _⟩
  case round =>
    obtain ⟨k, hk, rfl, ht⟩ := hrel
    have HT := Lib.hid ht
    clear ht
    by_cases hlt : k < xs.length
    · obtain ⟨b, o, rfl, hb, hce⟩ := hcell (by omega)
      have hck := (hce k hlt).2
      clear hcell hce
      cases hi : inB xs[k] 0 (size - 1)
      · go_wp2_with (go_at_call 41; refine (l00In_any _ _ _ _).mono ?_; rintro e w' ⟨rfl, rfl⟩)
        go_ret
        exact ⟨ret_bool (tb_false (fun hr => by have := inB_true.2 (hr.2 _ (List.getElem_mem hlt)); rw [hi] at this; cases this)).symm, rfl⟩
      · go_wp2_with (go_at_call 41; refine (l00In_any _ _ _ _).mono ?_; rintro e w' ⟨rfl, rfl⟩)
        go_round
        case rel => exact ⟨k + 1, by omega, by go_num, noneB_succ hlt HT.out (by simp [hi])⟩
        case measure => simp [intOf]; omega
    · obtain rfl : k = xs.length := by omega
      have hall : ∀ a ∈ xs, 0 ≤ a ∧ a ≤ size - 1 := fun a ha => by
        have := HT.out a (by rw [List.take_length]; exact ha)
        simpa [inB_true] using this
      have HR : Hid (((xs.length : Int) == arity) = tb (rowOk size arity xs)) := by
        unfold Hid
        rw [Bool.eq_iff_iff, tb_iff]
        simp only [rowOk, beq_iff_eq]
        exact ⟨fun h => ⟨h, hall⟩, fun h => h.1⟩
      clear hall
      go_wp2_with fail
      go_ret
      exact ⟨ret_bool HR.out, rfl⟩
end Go.Proofs.YthjafhjghjbdmaaGreat
