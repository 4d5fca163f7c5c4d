/-
  Contracts of the library's searches with a predicate (IndexFunc, ContainsFunc, EqualFunc) at each element type, by program (gen_lib.py); equality of lists of numbers.
-/
import Derived.Test.YtepebfpgmnidnaaK0
import Derived.Test.YtepebfpgmnidnaaMem
import Derived.Lib.QuietBelow
namespace Go.Proofs.Ytepebfpgmnidnaa
open Go.RowKit Go.Sort

set_option maxHeartbeats 400000 in
theorem IndexFuncInt_any (w : World) {v : Value} {xs : List (Int)} (h : (Ty.slice Ty.int).Rd w [v] xs) (p : Int → Bool) (g : Nat) (lb : Array Value) (eg : ∀ args w, (callFunc g args).run Try.prog w = .ok (.enter g args) w)
    (hp : Hid (∀ W, Below w.heap.size w W → ∀ k (h : k < xs.length), Calls Try.prog g (#[.int .i64 xs[k]] ++ lb) W fun e W' => e = .returned (.bool (p xs[k])) ∧ Below W.heap.size W W')) :
    Calls Try.prog 189 #[v, .func (.func g) #[] lb] w fun e w' => e = .returned (.int .i64 (firstI p xs)) ∧ Below w.heap.size w w' := by
  obtain ⟨ad, cap, hv, hl, hc, hcell⟩ := ints_ex h
  obtain rfl : v = _ := by simpa using hv
  clear h hv
  go_enter Try.func189, Try.ntmps189
  go_wp2_with fail
  go_loopw [8] (fun i wr => ∃ k : Nat, k ≤ xs.length ∧ i = .int .i64 k ∧ noneB p (xs.take k) ∧ Below w.heap.size w wr) (fun i _ => xs.length - (intOf i).toNat)
  case atStart => exact ⟨0, Nat.zero_le _, rfl, noneB_zero p xs, Below.refl _ _⟩
  case round =>
    obtain ⟨k, hk, rfl, ht, hbel⟩ := hrel
    have HT := Lib.hid ht
    clear ht
    by_cases hkl : k < xs.length
    · obtain ⟨b, o, rfl, hb, hce⟩ := hcell (by omega)
      obtain ⟨hI, hc0⟩ := hce k hkl
      have d0 : wr.cell? ⟨b, o + k, none⟩ = some (.int .i64 xs[k]) := (hbel.cell hb).trans hc0
      go_wp2_with fail
      refine (hp.out wr hbel k hkl).mono ?_
      rintro e w2 ⟨rfl, hb2⟩
      cases hq : p xs[k]
      · go_wp2_with fail
        go_roundw
        case rel => exact ⟨k + 1, by omega, by go_num, noneB_succ hkl HT.out hq, bthen hbel hb2⟩
        case measure => simp [intOf]; omega
      · go_wp2_with fail
        go_ret
        exact ⟨ret_int (firstI_at hkl HT.out hq).symm, bthen hbel hb2⟩
    · obtain rfl : k = xs.length := by omega
      go_wp2_with fail
      go_ret
      exact ⟨ret_int (firstI_none (by have := HT.out; rwa [List.take_length] at this)).symm, hbel⟩
theorem ContainsFuncInt_any (w : World) {v : Value} {xs : List (Int)} (h : (Ty.slice Ty.int).Rd w [v] xs) (p : Int → Bool) (g : Nat) (lb : Array Value) (eg : ∀ args w, (callFunc g args).run Try.prog w = .ok (.enter g args) w)
    (hp : Hid (∀ W, Below w.heap.size w W → ∀ k (h : k < xs.length), Calls Try.prog g (#[.int .i64 xs[k]] ++ lb) W fun e W' => e = .returned (.bool (p xs[k])) ∧ Below W.heap.size W W')) :
    Calls Try.prog 170 #[v, .func (.func g) #[] lb] w fun e w' => e = .returned (.bool (anyB p xs)) ∧ Below w.heap.size w w' := by
  have hr := firstI_any p xs
  cases hq : anyB p xs
  all_goals
    rw [hq] at hr
    go_enter Try.func170, Try.ntmps170
    go_wp2_with fail
    refine (IndexFuncInt_any _ h p g lb eg hp).mono ?_
    rintro e w2 ⟨rfl, hb2⟩
    go_wp2_with fail
    go_ret
    first | exact ⟨rfl, hb2⟩ | exact ⟨ret_bool (by simpa using hr), hb2⟩
set_option maxHeartbeats 400000 in
theorem IndexFuncInts_any (w : World) {v : Value} {xs : List (List Int)} (h : (Ty.slice intsT).Rd w [v] xs) (p : List Int → Bool) (g : Nat) (lb : Array Value) (eg : ∀ args w, (callFunc g args).run Try.prog w = .ok (.enter g args) w)
    (hp : Hid (∀ W, Below w.heap.size w W → ∀ k (h : k < xs.length) (u : Value), intsT.Rd W [u] xs[k] → Calls Try.prog g (#[u] ++ lb) W fun e W' => e = .returned (.bool (p xs[k])) ∧ Below W.heap.size W W')) :
    Calls Try.prog 81 #[v, .func (.func g) #[] lb] w fun e w' => e = .returned (.int .i64 (firstI p xs)) ∧ Below w.heap.size w w' := by
  obtain ⟨ad, cap, hv, hl, hc, hcell⟩ := slices_ex h
  obtain rfl : v = _ := by simpa using hv
  clear h hv
  go_enter Try.func81, Try.ntmps81
  go_wp2_with fail
  go_loopw [8] (fun i wr => ∃ k : Nat, k ≤ xs.length ∧ i = .int .i64 k ∧ noneB p (xs.take k) ∧ Below w.heap.size w wr) (fun i _ => xs.length - (intOf i).toNat)
  case atStart => exact ⟨0, Nat.zero_le _, rfl, noneB_zero p xs, Below.refl _ _⟩
  case round =>
    obtain ⟨k, hk, rfl, ht, hbel⟩ := hrel
    have HT := Lib.hid ht
    clear ht
    by_cases hkl : k < xs.length
    · obtain ⟨b, o, rfl, hb, hce⟩ := hcell (by omega)
      obtain ⟨u, hu, hc0⟩ := hce k hkl
      have d0 : wr.cell? ⟨b, o + k, none⟩ = some u := (hbel.cell hb).trans hc0
      go_wp2_with fail
      refine (hp.out wr hbel k hkl u (hu.below hbel)).mono ?_
      rintro e w2 ⟨rfl, hb2⟩
      cases hq : p xs[k]
      · go_wp2_with fail
        go_roundw
        case rel => exact ⟨k + 1, by omega, by go_num, noneB_succ hkl HT.out hq, bthen hbel hb2⟩
        case measure => simp [intOf]; omega
      · go_wp2_with fail
        go_ret
        exact ⟨ret_int (firstI_at hkl HT.out hq).symm, bthen hbel hb2⟩
    · obtain rfl : k = xs.length := by omega
      go_wp2_with fail
      go_ret
      exact ⟨ret_int (firstI_none (by have := HT.out; rwa [List.take_length] at this)).symm, hbel⟩
theorem ContainsFuncInts_any (w : World) {v : Value} {xs : List (List Int)} (h : (Ty.slice intsT).Rd w [v] xs) (p : List Int → Bool) (g : Nat) (lb : Array Value) (eg : ∀ args w, (callFunc g args).run Try.prog w = .ok (.enter g args) w)
    (hp : Hid (∀ W, Below w.heap.size w W → ∀ k (h : k < xs.length) (u : Value), intsT.Rd W [u] xs[k] → Calls Try.prog g (#[u] ++ lb) W fun e W' => e = .returned (.bool (p xs[k])) ∧ Below W.heap.size W W')) :
    Calls Try.prog 104 #[v, .func (.func g) #[] lb] w fun e w' => e = .returned (.bool (anyB p xs)) ∧ Below w.heap.size w w' := by
  have hr := firstI_any p xs
  cases hq : anyB p xs
  all_goals
    rw [hq] at hr
    go_enter Try.func104, Try.ntmps104
    go_wp2_with fail
    refine (IndexFuncInts_any _ h p g lb eg hp).mono ?_
    rintro e w2 ⟨rfl, hb2⟩
    go_wp2_with fail
    go_ret
    first | exact ⟨rfl, hb2⟩ | exact ⟨ret_bool (by simpa using hr), hb2⟩
set_option maxHeartbeats 400000 in
theorem IndexFuncRel_any (w : World) {v : Value} {xs : List (Int × List (List Int))} (h : (Ty.slice relT).Rd w [v] xs) (p : Int × List (List Int) → Bool) (g : Nat) (lb : Array Value) (eg : ∀ args w, (callFunc g args).run Try.prog w = .ok (.enter g args) w)
    (hp : Hid (∀ W, Below w.heap.size w W → ∀ k (h : k < xs.length) (cs : Array Value), relT.Rd W cs.toList xs[k] → Calls Try.prog g (#[.agg cs] ++ lb) W fun e W' => e = .returned (.bool (p xs[k])) ∧ Below W.heap.size W W')) :
    Calls Try.prog 188 #[v, .func (.func g) #[] lb] w fun e w' => e = .returned (.int .i64 (firstI p xs)) ∧ Below w.heap.size w w' := by
  obtain ⟨ad, cap, hv, hl, hc, hcell⟩ := pairs_ex h
  obtain rfl : v = _ := by simpa using hv
  clear h hv
  go_enter Try.func188, Try.ntmps188
  go_wp2_with fail
  go_loopw [8] (fun i wr => ∃ k : Nat, k ≤ xs.length ∧ i = .int .i64 k ∧ noneB p (xs.take k) ∧ Below w.heap.size w wr) (fun i _ => xs.length - (intOf i).toNat)
  case atStart => exact ⟨0, Nat.zero_le _, rfl, noneB_zero p xs, Below.refl _ _⟩
  case round =>
    obtain ⟨k, hk, rfl, ht, hbel⟩ := hrel
    have HT := Lib.hid ht
    clear ht
    by_cases hkl : k < xs.length
    · obtain ⟨b, o, rfl, hb, hce⟩ := hcell (by omega)
      obtain ⟨u, hu, hI, hc0, hc1⟩ := hce k hkl
      have d0 : wr.cell? ⟨b, o + k * 2, none⟩ = some (.int .i64 xs[k].1) := (hbel.cell hb).trans hc0
      have d1 : wr.cell? ⟨b, o + k * 2 + 1, none⟩ = some u := (hbel.cell hb).trans hc1
      go_wp2_with fail
      refine (hp.out wr hbel k hkl #[.int .i64 xs[k].1, u] (pair_mk hI (hu.below hbel))).mono ?_
      rintro e w2 ⟨rfl, hb2⟩
      cases hq : p xs[k]
      · go_wp2_with fail
        go_roundw
        case rel => exact ⟨k + 1, by omega, by go_num, noneB_succ hkl HT.out hq, bthen hbel hb2⟩
        case measure => simp [intOf]; omega
      · go_wp2_with fail
        go_ret
        exact ⟨ret_int (firstI_at hkl HT.out hq).symm, bthen hbel hb2⟩
    · obtain rfl : k = xs.length := by omega
      go_wp2_with fail
      go_ret
      exact ⟨ret_int (firstI_none (by have := HT.out; rwa [List.take_length] at this)).symm, hbel⟩
theorem ContainsFuncRel_any (w : World) {v : Value} {xs : List (Int × List (List Int))} (h : (Ty.slice relT).Rd w [v] xs) (p : Int × List (List Int) → Bool) (g : Nat) (lb : Array Value) (eg : ∀ args w, (callFunc g args).run Try.prog w = .ok (.enter g args) w)
    (hp : Hid (∀ W, Below w.heap.size w W → ∀ k (h : k < xs.length) (cs : Array Value), relT.Rd W cs.toList xs[k] → Calls Try.prog g (#[.agg cs] ++ lb) W fun e W' => e = .returned (.bool (p xs[k])) ∧ Below W.heap.size W W')) :
    Calls Try.prog 167 #[v, .func (.func g) #[] lb] w fun e w' => e = .returned (.bool (anyB p xs)) ∧ Below w.heap.size w w' := by
  have hr := firstI_any p xs
  cases hq : anyB p xs
  all_goals
    rw [hq] at hr
    go_enter Try.func167, Try.ntmps167
    go_wp2_with fail
    refine (IndexFuncRel_any _ h p g lb eg hp).mono ?_
    rintro e w2 ⟨rfl, hb2⟩
    go_wp2_with fail
    go_ret
    first | exact ⟨rfl, hb2⟩ | exact ⟨ret_bool (by simpa using hr), hb2⟩
set_option maxHeartbeats 400000 in
theorem IndexFuncAtom_any (w : World) {v : Value} {xs : List (Int × List Int)} (h : (Ty.slice opT).Rd w [v] xs) (p : Int × List Int → Bool) (g : Nat) (lb : Array Value) (eg : ∀ args w, (callFunc g args).run Try.prog w = .ok (.enter g args) w)
    (hp : Hid (∀ W, Below w.heap.size w W → ∀ k (h : k < xs.length) (cs : Array Value), opT.Rd W cs.toList xs[k] → Calls Try.prog g (#[.agg cs] ++ lb) W fun e W' => e = .returned (.bool (p xs[k])) ∧ Below W.heap.size W W')) :
    Calls Try.prog 141 #[v, .func (.func g) #[] lb] w fun e w' => e = .returned (.int .i64 (firstI p xs)) ∧ Below w.heap.size w w' := by
  obtain ⟨ad, cap, hv, hl, hc, hcell⟩ := pairs_ex h
  obtain rfl : v = _ := by simpa using hv
  clear h hv
  go_enter Try.func141, Try.ntmps141
  go_wp2_with fail
  go_loopw [8] (fun i wr => ∃ k : Nat, k ≤ xs.length ∧ i = .int .i64 k ∧ noneB p (xs.take k) ∧ Below w.heap.size w wr) (fun i _ => xs.length - (intOf i).toNat)
  case atStart => exact ⟨0, Nat.zero_le _, rfl, noneB_zero p xs, Below.refl _ _⟩
  case round =>
    obtain ⟨k, hk, rfl, ht, hbel⟩ := hrel
    have HT := Lib.hid ht
    clear ht
    by_cases hkl : k < xs.length
    · obtain ⟨b, o, rfl, hb, hce⟩ := hcell (by omega)
      obtain ⟨u, hu, hI, hc0, hc1⟩ := hce k hkl
      have d0 : wr.cell? ⟨b, o + k * 2, none⟩ = some (.int .i64 xs[k].1) := (hbel.cell hb).trans hc0
      have d1 : wr.cell? ⟨b, o + k * 2 + 1, none⟩ = some u := (hbel.cell hb).trans hc1
      go_wp2_with fail
      refine (hp.out wr hbel k hkl #[.int .i64 xs[k].1, u] (pair_mk hI (hu.below hbel))).mono ?_
      rintro e w2 ⟨rfl, hb2⟩
      cases hq : p xs[k]
      · go_wp2_with fail
        go_roundw
        case rel => exact ⟨k + 1, by omega, by go_num, noneB_succ hkl HT.out hq, bthen hbel hb2⟩
        case measure => simp [intOf]; omega
      · go_wp2_with fail
        go_ret
        exact ⟨ret_int (firstI_at hkl HT.out hq).symm, bthen hbel hb2⟩
    · obtain rfl : k = xs.length := by omega
      go_wp2_with fail
      go_ret
      exact ⟨ret_int (firstI_none (by have := HT.out; rwa [List.take_length] at this)).symm, hbel⟩
theorem ContainsFuncAtom_any (w : World) {v : Value} {xs : List (Int × List Int)} (h : (Ty.slice opT).Rd w [v] xs) (p : Int × List Int → Bool) (g : Nat) (lb : Array Value) (eg : ∀ args w, (callFunc g args).run Try.prog w = .ok (.enter g args) w)
    (hp : Hid (∀ W, Below w.heap.size w W → ∀ k (h : k < xs.length) (cs : Array Value), opT.Rd W cs.toList xs[k] → Calls Try.prog g (#[.agg cs] ++ lb) W fun e W' => e = .returned (.bool (p xs[k])) ∧ Below W.heap.size W W')) :
    Calls Try.prog 85 #[v, .func (.func g) #[] lb] w fun e w' => e = .returned (.bool (anyB p xs)) ∧ Below w.heap.size w w' := by
  have hr := firstI_any p xs
  cases hq : anyB p xs
  all_goals
    rw [hq] at hr
    go_enter Try.func85, Try.ntmps85
    go_wp2_with fail
    refine (IndexFuncAtom_any _ h p g lb eg hp).mono ?_
    rintro e w2 ⟨rfl, hb2⟩
    go_wp2_with fail
    go_ret
    first | exact ⟨rfl, hb2⟩ | exact ⟨ret_bool (by simpa using hr), hb2⟩
set_option maxHeartbeats 400000 in
theorem EqualFuncInts_any (w : World) {v v' : Value} {xs ys : List (List Int)} (h : (Ty.slice intsT).Rd w [v] xs) (h' : (Ty.slice intsT).Rd w [v'] ys) (p : List Int → List Int → Bool) (g : Nat) (lb : Array Value) (eg : ∀ args w, (callFunc g args).run Try.prog w = .ok (.enter g args) w)
    (hp : Hid (∀ W, Below w.heap.size w W → ∀ k (h : k < xs.length) (h' : k < ys.length) (u u' : Value), intsT.Rd W [u] xs[k] → intsT.Rd W [u'] ys[k] → Calls Try.prog g (#[u, u'] ++ lb) W fun e W' => e = .returned (.bool (p xs[k] ys[k])) ∧ Below W.heap.size W W')) :
    Calls Try.prog 192 #[v, v', .func (.func g) #[] lb] w fun e w' => e = .returned (.bool (eqL p xs ys)) ∧ Below w.heap.size w w' := by
  obtain ⟨ad, cap, hv, hl, hc, hcell⟩ := slices_ex h
  obtain ⟨ad', cap', hv', hl', hc', hcell'⟩ := slices_ex h'
  obtain rfl : v = _ := by simpa using hv
  obtain rfl : v' = _ := by simpa using hv'
  clear h hv h' hv'
  cases hn : (((xs.length : Nat) : Int) != (ys.length : Nat))
  rotate_left
  · go_enter Try.func192, Try.ntmps192
    go_wp2_with fail
    go_ret
    exact ⟨ret_bool (eqL_len (by simp at hn; omega)).symm, Below.refl _ _⟩
  have hn' : xs.length = ys.length := by simp at hn; omega
  have HN := Lib.hid hn'
  clear hn'
  go_enter Try.func192, Try.ntmps192
  go_wp2_with fail
  go_loopw [17] (fun i wr => ∃ k : Nat, k ≤ xs.length ∧ i = .int .i64 k ∧ eqU p xs ys k ∧ Below w.heap.size w wr) (fun i _ => xs.length - (intOf i).toNat)
  case atStart => exact ⟨0, Nat.zero_le _, rfl, eqU_zero p xs ys, Below.refl _ _⟩
  case round =>
    obtain ⟨k, hk, rfl, ht, hbel⟩ := hrel
    have HT := Lib.hid ht
    clear ht hn
    by_cases hkl : k < xs.length
    · have hkl' : k < ys.length := by have := HN.out; omega
      obtain ⟨b, o, rfl, hb, hce⟩ := hcell (by omega)
      obtain ⟨b', o', rfl, hb', hce'⟩ := hcell' (by omega)
      obtain ⟨u, hu, hc0⟩ := hce k hkl
      have d0 : wr.cell? ⟨b, o + k, none⟩ = some u := (hbel.cell hb).trans hc0
      obtain ⟨u', hu', hc0'⟩ := hce' k hkl'
      have d0' : wr.cell? ⟨b', o' + k, none⟩ = some u' := (hbel.cell hb').trans hc0'
      clear hce hce' hcell hcell'
      go_wp2_with fail
      refine (hp.out wr hbel k hkl hkl' u u' (hu.below hbel) (hu'.below hbel)).mono ?_
      rintro e w2 ⟨rfl, hb2⟩
      cases hq : p xs[k] ys[k]
      · go_wp2_with fail
        go_ret
        exact ⟨ret_bool (eqL_no HN.out hkl hkl' hq).symm, bthen hbel hb2⟩
      · go_wp2_with fail
        go_roundw
        case rel => exact ⟨k + 1, by omega, by go_num, eqU_succ hkl hkl' HT.out hq, bthen hbel hb2⟩
        case measure => simp [intOf]; omega
    · obtain rfl : k = xs.length := by omega
      go_wp2_with fail
      go_ret
      exact ⟨ret_bool (eqL_yes HN.out HT.out).symm, hbel⟩
set_option maxHeartbeats 400000 in
theorem Equal_quiet (w : World) {v u : Value} {xs ys : List Int} (h : intsT.Rd w [v] xs) (h' : intsT.Rd w [u] ys) :
    Calls Try.prog 83 #[v, u] w fun e w' => e = .returned (.bool (eqB xs ys)) ∧ Quiet w w' := by
  obtain ⟨ad, cap, hv, hl, hc, hcell⟩ := ints_ex h
  obtain ⟨ad', cap', hv', hl', hc', hcell'⟩ := ints_ex h'
  obtain rfl : v = _ := by simpa using hv
  obtain rfl : u = _ := by simpa using hv'
  clear h hv h' hv'
  cases hn : (((xs.length : Nat) : Int) != (ys.length : Nat))
  rotate_left
  · go_enter Try.func83, Try.ntmps83
    go_wp2_with fail
    go_ret
    exact ⟨ret_bool (eqB_len (by simp at hn; omega)).symm, Quiet.refl _⟩
  · have hn' : xs.length = ys.length := by simp at hn; omega
    have HN := Lib.hid hn'
    clear hn'
    go_enter Try.func83, Try.ntmps83
    go_wp2_with fail
    go_loopw [13] (fun i wr => ∃ k : Nat, k ≤ xs.length ∧ i = .int .i64 k ∧ xs.take k = ys.take k ∧ Quiet w wr) (fun i _ => xs.length - (intOf i).toNat)
    case atStart => exact ⟨0, Nat.zero_le _, rfl, rfl, Quiet.refl _⟩
    case round =>
      obtain ⟨k, hk, rfl, ht, nq, rfl⟩ := hrel
      have HT := Lib.hid ht
      clear ht hn
      by_cases hkl : k < xs.length
      · have hkl' : k < ys.length := by have := HN.out; omega
        obtain ⟨b, o, rfl, hb, hce⟩ := hcell (by omega)
        obtain ⟨b', o', rfl, hb', hce'⟩ := hcell' (by omega)
        have d0 := (hce k hkl).2
        have d1 := (hce' k hkl').2
        clear hce hce' hcell hcell'
        cases hq : (xs[k] != ys[k])
        rotate_left
        · go_wp2_with fail
          go_quiet (fail)
          go_wp2_with fail
          go_ret
          exact ⟨ret_bool (eqB_get hkl hkl' (by simpa using hq)).symm, (by first | exact Quiet.refl _ | exact Quiet.drewN _ _ | exact (Quiet.drewN _ _).then (Quiet.drewN _ _) | exact ((Quiet.drewN _ _).then (Quiet.drewN _ _)).then (Quiet.drewN _ _))⟩
        · go_wp2_with fail
          go_quiet (fail)
          go_wp2_with fail
          go_roundw
          case rel => exact ⟨k + 1, by omega, by go_num, take_eq_succ hkl hkl' HT.out (by simpa using hq), (by first | exact Quiet.refl _ | exact Quiet.drewN _ _ | exact (Quiet.drewN _ _).then (Quiet.drewN _ _) | exact ((Quiet.drewN _ _).then (Quiet.drewN _ _)).then (Quiet.drewN _ _))⟩
          case measure => simp [intOf]; omega
      · obtain rfl : k = xs.length := by omega
        go_wp2_with fail
        go_ret
        exact ⟨ret_bool (eqB_true (by have h1 := HT.out; have h2 := HN.out; rw [List.take_length, h2, List.take_length] at h1; exact h1)).symm, (by first | exact Quiet.refl _ | exact Quiet.drewN _ _ | exact (Quiet.drewN _ _).then (Quiet.drewN _ _) | exact ((Quiet.drewN _ _).then (Quiet.drewN _ _)).then (Quiet.drewN _ _))⟩
set_option maxHeartbeats 400000 in
theorem l00Same_quiet (w : World) {v u : Value} {xs ys : List Int} (h : intsT.Rd w [v] xs) (h' : intsT.Rd w [u] ys) :
    Calls Try.prog 176 #[v, u] w fun e w' => e = .returned (.bool (eqB xs ys)) ∧ Quiet w w' := by
  obtain ⟨ad, cap, hv, hl, hc, hcell⟩ := ints_ex h
  obtain ⟨ad', cap', hv', hl', hc', hcell'⟩ := ints_ex h'
  obtain rfl : v = _ := by simpa using hv
  obtain rfl : u = _ := by simpa using hv'
  clear h hv h' hv'
  cases hn : (((xs.length : Nat) : Int) != (ys.length : Nat))
  rotate_left
  · go_enter Try.func176, Try.ntmps176
    go_wp2_with fail
    go_ret
    exact ⟨ret_bool (eqB_len (by simp at hn; omega)).symm, Quiet.refl _⟩
  · have hn' : xs.length = ys.length := by simp at hn; omega
    have HN := Lib.hid hn'
    clear hn'
    go_enter Try.func176, Try.ntmps176
    go_wp2_with fail
    go_loopw [5] (fun i wr => ∃ k : Nat, k ≤ xs.length ∧ i = .int .i64 k ∧ xs.take k = ys.take k ∧ Quiet w wr) (fun i _ => xs.length - (intOf i).toNat)
    case atStart => exact ⟨0, Nat.zero_le _, rfl, rfl, Quiet.refl _⟩
    case round =>
      obtain ⟨k, hk, rfl, ht, nq, rfl⟩ := hrel
      have HT := Lib.hid ht
      clear ht hn
      by_cases hkl : k < xs.length
      · have hkl' : k < ys.length := by have := HN.out; omega
        obtain ⟨b, o, rfl, hb, hce⟩ := hcell (by omega)
        obtain ⟨b', o', rfl, hb', hce'⟩ := hcell' (by omega)
        have d0 := (hce k hkl).2
        have d1 := (hce' k hkl').2
        clear hce hce' hcell hcell'
        cases hq : (xs[k] != ys[k])
        rotate_left
        · go_wp2_with fail
          go_quiet (fail)
          go_wp2_with fail
          go_ret
          exact ⟨ret_bool (eqB_get hkl hkl' (by simpa using hq)).symm, (by first | exact Quiet.refl _ | exact Quiet.drewN _ _ | exact (Quiet.drewN _ _).then (Quiet.drewN _ _) | exact ((Quiet.drewN _ _).then (Quiet.drewN _ _)).then (Quiet.drewN _ _))⟩
        · go_wp2_with fail
          go_quiet (fail)
          go_wp2_with fail
          go_roundw
          case rel => exact ⟨k + 1, by omega, by go_num, take_eq_succ hkl hkl' HT.out (by simpa using hq), (by first | exact Quiet.refl _ | exact Quiet.drewN _ _ | exact (Quiet.drewN _ _).then (Quiet.drewN _ _) | exact ((Quiet.drewN _ _).then (Quiet.drewN _ _)).then (Quiet.drewN _ _))⟩
          case measure => simp [intOf]; omega
      · obtain rfl : k = xs.length := by omega
        go_wp2_with fail
        go_ret
        exact ⟨ret_bool (eqB_true (by have h1 := HT.out; have h2 := HN.out; rw [List.take_length, h2, List.take_length] at h1; exact h1)).symm, (by first | exact Quiet.refl _ | exact Quiet.drewN _ _ | exact (Quiet.drewN _ _).then (Quiet.drewN _ _) | exact ((Quiet.drewN _ _).then (Quiet.drewN _ _)).then (Quiet.drewN _ _))⟩
end Go.Proofs.Ytepebfpgmnidnaa
