/-
Contracts of the laws' own helpers: sz.. (how much an argument holds), to.. (a deep copy in new memory), eq.. (deep equality): by program (gen_laws.py), one text a make of type.
The order of tuples; tuples at places; search in a relation.
The library's contracts of strings.Join and strconv.FormatInt (0 to 99), laid at this seat's program. Written by the kit's lay-shelf and lay-plain for seat YtjghcedmlklngaaDoor: its numbers hold there alone.
Texts: bytes joined; decimal numbers; rows of texts; the library's Join. Contracts of dec, digits, spaced, Decimal.
Contracts: valid instances and formulas, the program's.
Texts of instances and formulas: plain, and contracts of the program's InstanceText and FormulaText.
-/
import Derived.Test.YtjghcedmlklngaaDoorQAA
import Derived.Lib.QuietBelow
import Derived.Test.YtjghcedmlklngaaDoorQAB
import Derived.Shelf.Strings.OnBuilder
import Derived.Shelf.Strconv.Itoa4
import Derived.Test.YtjghcedmlklngaaDoorProg
namespace Go.Proofs.YtjghcedmlklngaaDoor
open Go.RowKit Go.Sort

theorem szInt64S_any (w : World) {v : Value} {xs : List Int} (h : intsT.Rd w [v] xs) (left : Int) (h0 : 0 ≤ left) (h1 : left ≤ 1048576) :
    Calls Tryd.prog 59 #[v, .int .i64 left] w fun e w' => e = .returned (.int .i64 (szR left (szInts xs))) ∧ Below w.heap.size w w' := by
  obtain ⟨ad, cap, hv, hl, hc, -⟩ := ints_ex h
  obtain rfl : v = _ := by simpa using hv
  clear h hv
  rcases ilt left xs.length with hlt | hlt
  · go_enter Tryd.func59, Tryd.ntmps59
    go_wp2
    go_ret
    exact ⟨ret_int (szR_lt hlt).symm, Below.refl _ _⟩
  · go_enter Tryd.func59, Tryd.ntmps59
    go_wp2
    go_ret
    exact ⟨ret_int (szR_ge hlt).symm, Below.refl _ _⟩
theorem elInt : ElT Tryd.prog 51 2 1 8 := .mk (z := .int .i64 0) Tryd.underlying51 (by kernel_rfl) rfl (by decide)
set_option maxHeartbeats 400000 in
theorem toInt64S_any (w : World) {v : Value} {xs : List Int} (h : intsT.Rd w [v] xs) (hlen : szInts xs ≤ 1048576) :
    Calls Tryd.prog 60 #[v] w (RetS intsT w xs) := by
  obtain ⟨ad, cap, hv, hl, hc, hcell⟩ := ints_ex h
  obtain rfl : v = _ := by simpa using hv
  unfold szInts at hlen
  clear h hv
  go_enter Tryd.func60, Tryd.ntmps60
  go_wp2_with (refine wpList_mk (E := Ty.int) _ rfl _ _ 51 2 rfl elInt w.heap.size xs.length rfl rfl (by omega) (by decide) (by simp) ?_; intro w1 hA hg1 hs1)
  have hb1 := below_of_grown hg1
  go_loopw [4] (fun i wr => ∃ k : Nat, k ≤ xs.length ∧ i = .int .i64 k ∧ Ar Ty.int 2 w.heap.size wr.heap.size wr w.heap.size xs.length xs.length (xs.take k) ∧ Below w.heap.size w wr) (fun i _ => xs.length - (intOf i).toNat)
  case atStart => exact ⟨0, Nat.zero_le _, rfl, by rw [hs1]; exact hA, hb1⟩
  case round =>
    obtain ⟨k, hk, rfl, hAr, hbel⟩ := hrel
    by_cases hkl : k < xs.length
    · obtain ⟨b, o, rfl, hb, hce⟩ := hcell (by omega)
      obtain ⟨hI, hc0⟩ := hce k hkl
      have d0 : wr.cell? ⟨b, o + k, none⟩ = some (.int .i64 xs[k]) := (hbel.cell hb).trans hc0
      obtain ⟨u, d1⟩ := hAr.cell (j := k) (by simpa [Ty.int] using hkl)
      have d2 := hAr.free k
      have hP := hAr.put1 rfl (fr_int hI) (by rw [take_len hk]; exact hkl) (Nat.le_refl _)
      rw [take_len hk, take_snoc hkl] at hP
      have HP := Lib.hid hP
      have HA := Lib.hid hAr
      clear hP hAr hA
      go_wp2_with fail
      go_roundw
      case rel => exact ⟨k + 1, by omega, by go_num, by simpa using HP.out, hbel.setCell (Nat.le_refl _) _⟩
      case measure => simp [intOf]; omega
    · obtain rfl : k = xs.length := by omega
      rw [List.take_length] at hAr
      have HA := Lib.hid hAr
      clear hAr hA
      go_wp2_with fail
      go_ret
      exact ⟨_, rfl, HA.out.fr (by unfold capMax; omega) rfl, hbel⟩
set_option maxHeartbeats 400000 in
theorem eqInt64S_quiet (w : World) {v u : Value} {xs ys : List Int} (h : intsT.Rd w [v] xs) (h' : intsT.Rd w [u] ys) :
    Calls Tryd.prog 63 #[v, u] w fun e w' => e = .returned (.bool (eqB xs ys)) ∧ Quiet w w' := by
  obtain ⟨ad, cap, hv, hl, hc, hcell⟩ := ints_ex h
  obtain ⟨ad', cap', hv', hl', hc', hcell'⟩ := ints_ex h'
  obtain rfl : v = _ := by simpa using hv
  obtain rfl : u = _ := by simpa using hv'
  clear h hv h' hv'
  cases hn : (((xs.length : Nat) : Int) != (ys.length : Nat))
  rotate_left
  · go_enter Tryd.func63, Tryd.ntmps63
    go_wp2_with fail
    go_ret
    exact ⟨ret_bool (eqB_len (by simp at hn; omega)).symm, Quiet.refl _⟩
  · have hn' : xs.length = ys.length := by simp at hn; omega
    have HN := Lib.hid hn'
    clear hn'
    go_enter Tryd.func63, Tryd.ntmps63
    go_wp2_with fail
    go_loopw [5] (fun i wr => ∃ k : Nat, k ≤ xs.length ∧ i = .int .i64 k ∧ xs.take k = ys.take k ∧ Quiet w wr) (fun i _ => xs.length - (intOf i).toNat)
    case atStart => exact ⟨0, Nat.zero_le _, rfl, rfl, Quiet.refl _⟩
    case round =>
      obtain ⟨k, hk, rfl, ht, nq, rfl⟩ := hrel
      have HT := Lib.hid ht
      clear ht hn
      by_cases hkl : k < xs.length
      · have hkl' : k < ys.length := by have := HN.out; omega
        obtain ⟨b, o, rfl, hb, hce⟩ := hcell (by omega)
        obtain ⟨b', o', rfl, hb', hce'⟩ := hcell' (by omega)
        have d0 := (hce k hkl).2
        have d1 := (hce' k hkl').2
        clear hce hce' hcell hcell'
        cases hq : (xs[k] != ys[k])
        rotate_left
        · go_wp2_with fail
          go_quiet (fail)
          go_wp2_with fail
          go_ret
          exact ⟨ret_bool (eqB_get hkl hkl' (by simpa using hq)).symm, (by first | exact Quiet.refl _ | exact Quiet.drewN _ _ | exact (Quiet.drewN _ _).then (Quiet.drewN _ _) | exact ((Quiet.drewN _ _).then (Quiet.drewN _ _)).then (Quiet.drewN _ _))⟩
        · go_wp2_with fail
          go_quiet (fail)
          go_wp2_with fail
          go_roundw
          case rel => exact ⟨k + 1, by omega, by go_num, take_eq_succ hkl hkl' HT.out (by simpa using hq), (by first | exact Quiet.refl _ | exact Quiet.drewN _ _ | exact (Quiet.drewN _ _).then (Quiet.drewN _ _) | exact ((Quiet.drewN _ _).then (Quiet.drewN _ _)).then (Quiet.drewN _ _))⟩
          case measure => simp [intOf]; omega
      · obtain rfl : k = xs.length := by omega
        go_wp2_with fail
        go_ret
        exact ⟨ret_bool (eqB_true (by have h1 := HT.out; have h2 := HN.out; rw [List.take_length, h2, List.take_length] at h1; exact h1)).symm, (by first | exact Quiet.refl _ | exact Quiet.drewN _ _ | exact (Quiet.drewN _ _).then (Quiet.drewN _ _) | exact ((Quiet.drewN _ _).then (Quiet.drewN _ _)).then (Quiet.drewN _ _))⟩
theorem eqInt64S_any (w : World) {v u : Value} {xs ys : List Int} (h : intsT.Rd w [v] xs) (h' : intsT.Rd w [u] ys) :
    Calls Tryd.prog 63 #[v, u] w fun e w' => e = .returned (.bool (eqB xs ys)) ∧ Below w.heap.size w w' := (eqInt64S_quiet w h h').mono fun _ _ ⟨a, b⟩ => ⟨a, b.below⟩

theorem szAtom_any (w : World) {cs : Array Value} {x : Int × List Int} (h : opT.Rd w cs.toList x) (left : Int) (h0 : 0 ≤ left) (h1 : left ≤ 1048576) :
    Calls Tryd.prog 48 #[.agg cs, .int .i64 left] w fun e w' => e = .returned (.int .i64 (szR left (szOp x))) ∧ Below w.heap.size w w' := by
  obtain ⟨v, hv, hI, hx⟩ := pair_ex h
  obtain rfl := agg_of hv
  clear h hv
  rcases ilt left (szInts x.2) with hlt | hlt
  · go_enter Tryd.func48, Tryd.ntmps48
    go_wp2_with fail
    refine (szInt64S_any _ (hx.below bA) _ h0 h1).mono ?_
    rintro e w1 ⟨rfl, hb1⟩
    rw [szR_lt hlt]
    go_wp2_with fail
    go_ret
    exact ⟨ret_int (szR_lt hlt).symm, (by repeat (first | exact Below.refl _ _ | exact bA | assumption | refine Below.setCell ?_ (by first | omega | (simp; try omega)) _ | refine Below.alloc ?_ (by first | omega | (simp; try omega)) _ | refine Below.drew ?_ | refine bDN ?_ | refine bthen ?_ (by assumption)))⟩
  · go_enter Tryd.func48, Tryd.ntmps48
    go_wp2_with fail
    refine (szInt64S_any _ (hx.below bA) _ h0 h1).mono ?_
    rintro e w1 ⟨rfl, hb1⟩
    rw [szR_ge hlt]
    go_wp2_with fail
    go_ret
    exact ⟨ret_int (szR_ge hlt).symm, (by repeat (first | exact Below.refl _ _ | exact bA | assumption | refine Below.setCell ?_ (by first | omega | (simp; try omega)) _ | refine Below.alloc ?_ (by first | omega | (simp; try omega)) _ | refine Below.drew ?_ | refine bDN ?_ | refine bthen ?_ (by assumption)))⟩
theorem toAtom_any (w : World) {cs : Array Value} {x : Int × List Int} (h : opT.Rd w cs.toList x) (hlen : szOp x ≤ 1048576) :
    Calls Tryd.prog 50 #[.agg cs] w (RetA opT w x) := by
  obtain ⟨v, hv, hI, hx⟩ := pair_ex h
  obtain rfl := agg_of hv
  clear h hv
  go_enter Tryd.func50, Tryd.ntmps50
  go_wp2_with fail
  refine (toInt64S_any _ (hx.below (by repeat (first | exact Below.refl _ _ | exact bA | assumption | refine Below.setCell ?_ (by first | omega | (simp; try omega)) _ | refine Below.alloc ?_ (by first | omega | (simp; try omega)) _ | refine Below.drew ?_ | refine bDN ?_ | refine bthen ?_ (by assumption)))) hlen).mono ?_
  rintro e w1 ⟨u, rfl, hf, hb1⟩
  obtain ⟨ad, cap, rfl⟩ := fr_slice hf
  obtain ⟨q1, q2⟩ := bcell hb1
  have hz1 : w.heap.size + 3 ≤ w1.heap.size := by have := hb1.size; simp at this; omega
  go_wp2_with fail
  refine bodyPost_ret (v := .agg #[.int .i64 x.1, .slice ad x.2.length cap]) (by simp [results, Tryd.results50, go_sem, q1]) rfl ⟨_, rfl, fr_cons hI ?_, ?_⟩
  · exact (((hf.set (by simp)).set (by simp)).set (by simp)) |>.mono (by simp; try omega)
  · repeat (first | exact Below.refl _ _ | exact bA | assumption | refine Below.setCell ?_ (by first | omega | (simp; try omega)) _ | refine Below.alloc ?_ (by first | omega | (simp; try omega)) _ | refine Below.drew ?_ | refine bDN ?_ | refine bthen ?_ (by assumption))
theorem eqAtom_any (w : World) {cs cs' : Array Value} {x y : Int × List Int} (h : opT.Rd w cs.toList x) (h' : opT.Rd w cs'.toList y) :
    Calls Tryd.prog 58 #[.agg cs, .agg cs'] w fun e w' => e = .returned (.bool (eqB x y)) ∧ Below w.heap.size w w' := by
  obtain ⟨v, hv, hI, hx⟩ := pair_ex h
  obtain rfl := agg_of hv
  obtain ⟨v', hv', hI', hx'⟩ := pair_ex h'
  obtain rfl := agg_of hv'
  clear h hv h' hv'
  cases hn : (x.1 != y.1)
  rotate_left
  · go_enter Tryd.func58, Tryd.ntmps58
    go_wp2_with fail
    go_ret
    exact ⟨ret_bool (eqB_fst (by simpa using hn)).symm, (by repeat (first | exact Below.refl _ _ | exact bA | assumption | refine Below.setCell ?_ (by first | omega | (simp; try omega)) _ | refine Below.alloc ?_ (by first | omega | (simp; try omega)) _ | refine Below.drew ?_ | refine bDN ?_ | refine bthen ?_ (by assumption)))⟩
  have HN : Hid (x.1 = y.1) := by simpa [Hid] using hn
  cases hq : eqB x.2 y.2
  all_goals
    go_enter Tryd.func58, Tryd.ntmps58
    go_wp2_with fail
    refine (eqInt64S_any _ (hx.below (by repeat (first | exact Below.refl _ _ | exact bA | assumption | refine Below.setCell ?_ (by first | omega | (simp; try omega)) _ | refine Below.alloc ?_ (by first | omega | (simp; try omega)) _ | refine Below.drew ?_ | refine bDN ?_ | refine bthen ?_ (by assumption)))) (hx'.below (by repeat (first | exact Below.refl _ _ | exact bA | assumption | refine Below.setCell ?_ (by first | omega | (simp; try omega)) _ | refine Below.alloc ?_ (by first | omega | (simp; try omega)) _ | refine Below.drew ?_ | refine bDN ?_ | refine bthen ?_ (by assumption))))).mono ?_
    rintro e w1 ⟨rfl, hb1⟩
    rw [hq]
    go_wp2_with fail
    go_ret
    exact ⟨ret_bool (eqB_snd HN.out hq).symm, (by repeat (first | exact Below.refl _ _ | exact bA | assumption | refine Below.setCell ?_ (by first | omega | (simp; try omega)) _ | refine Below.alloc ?_ (by first | omega | (simp; try omega)) _ | refine Below.drew ?_ | refine bDN ?_ | refine bthen ?_ (by assumption)))⟩
set_option maxHeartbeats 400000 in
theorem szAtomS_any (w : World) {v : Value} {xs : List (Int × List Int)} (h : opsT.Rd w [v] xs) (left : Int) (h0 : 0 ≤ left) (h1 : left ≤ 1048576) :
    Calls Tryd.prog 28 #[v, .int .i64 left] w fun e w' => e = .returned (.int .i64 (szR left (szOps xs))) ∧ Below w.heap.size w w' := by
  obtain ⟨ad, cap, hv, hl, hc, hcell⟩ := pairs_ex h
  obtain rfl : v = _ := by simpa using hv
  clear h hv
  have hsn := sumL_nonneg szOp_nn xs
  have HS : Hid (szOps xs = xs.length + sumL szOp xs) := rfl
  rcases ilt left xs.length with hlt | hlt
  · go_enter Tryd.func28, Tryd.ntmps28
    go_wp2_with fail
    go_ret
    exact ⟨ret_int (szR_lt (by rw [HS.out]; omega)).symm, Below.refl _ _⟩
  · go_enter Tryd.func28, Tryd.ntmps28
    go_wp2_with fail
    go_loopw [1, 5] (fun l i wr => ∃ k : Nat, k ≤ xs.length ∧ i = .int .i64 k ∧ l = .int .i64 (left - xs.length - sumL szOp (xs.take k)) ∧ sumL szOp (xs.take k) ≤ left - xs.length ∧ Below w.heap.size w wr) (fun _ i _ => xs.length - (intOf i).toNat)
    case atStart => exact ⟨0, Nat.zero_le _, rfl, by simp [sumL], by simp [sumL]; omega, Below.refl _ _⟩
    case round =>
      obtain ⟨k, hk, rfl, rfl, hle, hbel⟩ := hrel
      have hs0 := sumL_nonneg szOp_nn (xs.take k)
      by_cases hkl : k < xs.length
      · obtain ⟨b, o, rfl, hb, hce⟩ := hcell (by omega)
        obtain ⟨u, hu, hI, hc0, hc1⟩ := hce k hkl
        have d0 : wr.cell? ⟨b, o + k * 2, none⟩ = some (.int .i64 xs[k].1) := (hbel.cell hb).trans hc0
        have d1 : wr.cell? ⟨b, o + k * 2 + 1, none⟩ = some u := (hbel.cell hb).trans hc1
        have hx : opT.Rd wr #[.int .i64 xs[k].1, u].toList xs[k] := pair_mk hI (hu.below hbel)
        have hs1 := sumL_succ szOp hkl
        have hs2 := sumL_take_le szOp_nn xs (k + 1)
        go_wp2_with fail
        refine (szAtom_any _ hx _ (by omega) (by omega)).mono ?_
        rintro e w1 ⟨rfl, hb1⟩
        rcases ilt (left - xs.length - sumL szOp (xs.take k)) (szOp xs[k]) with hq | hq
        · rw [szR_lt hq]
          go_wp2_with fail
          go_ret
          exact ⟨ret_int (szR_lt (by rw [HS.out]; omega)).symm, bthen hbel hb1⟩
        · rw [szR_ge hq]
          go_wp2_with fail
          go_roundw
          case rel => exact ⟨k + 1, by omega, by go_num, by rw [hs1]; go_num, by rw [hs1]; omega, bthen hbel hb1⟩
          case measure => simp [intOf]; omega
      · obtain rfl : k = xs.length := by omega
        go_wp2_with fail
        go_ret
        exact ⟨ret_int (by rw [HS.out, List.take_length, szR_ge (by rw [List.take_length] at hle; omega)]; omega), hbel⟩
theorem elAtomS : ElT Tryd.prog 38 68 2 32 := .mk (z := .agg #[.int .i64 0, .slice none 0 0]) Tryd.underlying38 (by kernel_rfl) rfl (by decide)
set_option maxHeartbeats 400000 in
theorem toAtomS_any (w : World) {v : Value} {xs : List (Int × List Int)} (h : opsT.Rd w [v] xs) (hlen : szOps xs ≤ 1048576) :
    Calls Tryd.prog 31 #[v] w (RetS opsT w xs) := by
  obtain ⟨ad, cap, hv, hl, hc, hcell⟩ := pairs_ex h
  obtain rfl : v = _ := by simpa using hv
  have hsn := sumL_nonneg szOp_nn xs
  have hsm : xs.length + sumL szOp xs ≤ 1048576 := hlen
  clear h hv hlen
  go_enter Tryd.func31, Tryd.ntmps31
  go_wp2_with (refine wpList_mk (E := opT) _ rfl _ _ 38 68 rfl elAtomS w.heap.size xs.length rfl rfl (by omega) (by decide) (by simp) ?_; intro w1 hA hg1 hs1)
  have hb1 := below_of_grown hg1
  go_loopw [4] (fun i wr => ∃ k : Nat, k ≤ xs.length ∧ i = .int .i64 k ∧ Ar opT 68 w.heap.size wr.heap.size wr w.heap.size xs.length xs.length (xs.take k) ∧ Below w.heap.size w wr) (fun i _ => xs.length - (intOf i).toNat)
  case atStart => exact ⟨0, Nat.zero_le _, rfl, by rw [hs1]; exact hA, hb1⟩
  case round =>
    obtain ⟨k, hk, rfl, hAr, hbel⟩ := hrel
    have HA := Lib.hid hAr
    clear hAr hA
    by_cases hkl : k < xs.length
    · obtain ⟨b, o, rfl, hb, hce⟩ := hcell (by omega)
      obtain ⟨u, hu, hI, hc0, hc1⟩ := hce k hkl
      have d0 : wr.cell? ⟨b, o + k * 2, none⟩ = some (.int .i64 xs[k].1) := (hbel.cell hb).trans hc0
      have d1 : wr.cell? ⟨b, o + k * 2 + 1, none⟩ = some u := (hbel.cell hb).trans hc1
      have hx : opT.Rd wr #[.int .i64 xs[k].1, u].toList xs[k] := pair_mk hI (hu.below hbel)
      have hsk := sumL_get_le szOp_nn hkl
      go_wp2_with fail
      refine (toAtom_any _ hx (by omega)).mono ?_
      rintro e w2 ⟨cs, rfl, hf, hb2⟩
      obtain ⟨c, c', rfl⟩ := fr_pair hf
      have hA2 := HA.out.below hb2 (Nat.le_refl _)
      obtain ⟨u0, e0⟩ := hA2.cell (j := k * 2) (by simp [Ty.cons, Ty.slice]; omega)
      obtain ⟨u1, e1⟩ := hA2.cell (j := k * 2 + 1) (by simp [Ty.cons, Ty.slice]; omega)
      have f0 := hA2.free (k * 2)
      have f1 := hA2.free (k * 2 + 1)
      have hP := hA2.put2 rfl hf (by rw [take_len hk]; exact hkl) hb2.size
      rw [take_len hk, take_snoc hkl] at hP
      have HP := Lib.hid hP
      clear hP hA2
      go_wp2_with fail
      go_roundw
      case rel => exact ⟨k + 1, by omega, by go_num, by simpa using HP.out, ((bthen hbel hb2).setCell (Nat.le_refl _) _).setCell (Nat.le_refl _) _⟩
      case measure => simp [intOf]; omega
    · obtain rfl : k = xs.length := by omega
      rw [List.take_length] at HA
      go_wp2_with fail
      go_ret
      exact ⟨_, rfl, HA.out.fr (by unfold capMax; omega) rfl, hbel⟩
set_option maxHeartbeats 400000 in
theorem eqAtomS_any (w : World) {v u : Value} {xs ys : List (Int × List Int)} (h : opsT.Rd w [v] xs) (h' : opsT.Rd w [u] ys) :
    Calls Tryd.prog 35 #[v, u] w fun e w' => e = .returned (.bool (eqB xs ys)) ∧ Below w.heap.size w w' := by
  obtain ⟨ad, cap, hv, hl, hc, hcell⟩ := pairs_ex h
  obtain ⟨ad', cap', hv', hl', hc', hcell'⟩ := pairs_ex h'
  obtain rfl : v = _ := by simpa using hv
  obtain rfl : u = _ := by simpa using hv'
  clear h hv h' hv'
  cases hn : (((xs.length : Nat) : Int) != (ys.length : Nat))
  rotate_left
  · go_enter Tryd.func35, Tryd.ntmps35
    go_wp2_with fail
    go_ret
    exact ⟨ret_bool (eqB_len (by simp at hn; omega)).symm, Below.refl _ _⟩
  · have hn' : xs.length = ys.length := by simp at hn; omega
    have HN := Lib.hid hn'
    clear hn'
    go_enter Tryd.func35, Tryd.ntmps35
    go_wp2_with fail
    go_loopw [5] (fun i wr => ∃ k : Nat, k ≤ xs.length ∧ i = .int .i64 k ∧ xs.take k = ys.take k ∧ Below w.heap.size w wr) (fun i _ => xs.length - (intOf i).toNat)
    case atStart => exact ⟨0, Nat.zero_le _, rfl, rfl, Below.refl _ _⟩
    case round =>
      obtain ⟨k, hk, rfl, ht, hbel⟩ := hrel
      have HT := Lib.hid ht
      clear ht hn
      by_cases hkl : k < xs.length
      · have hkl' : k < ys.length := by have := HN.out; omega
        obtain ⟨b, o, rfl, hb, hce⟩ := hcell (by omega)
        obtain ⟨b', o', rfl, hb', hce'⟩ := hcell' (by omega)
        obtain ⟨u, hu, hI, hc0, hc1⟩ := hce k hkl
        have d0 : wr.cell? ⟨b, o + k * 2, none⟩ = some (.int .i64 xs[k].1) := (hbel.cell hb).trans hc0
        have d1 : wr.cell? ⟨b, o + k * 2 + 1, none⟩ = some u := (hbel.cell hb).trans hc1
        have hx : opT.Rd wr #[.int .i64 xs[k].1, u].toList xs[k] := pair_mk hI (hu.below hbel)
        obtain ⟨u', hu', hI', hc0', hc1'⟩ := hce' k hkl'
        have d0' : wr.cell? ⟨b', o' + k * 2, none⟩ = some (.int .i64 ys[k].1) := (hbel.cell hb').trans hc0'
        have d1' : wr.cell? ⟨b', o' + k * 2 + 1, none⟩ = some u' := (hbel.cell hb').trans hc1'
        have hx' : opT.Rd wr #[.int .i64 ys[k].1, u'].toList ys[k] := pair_mk hI' (hu'.below hbel)
        have k0 := cell_regrown d0
        have k1 := cell_regrown d1
        have k0' := cell_regrown d0'
        have k1' := cell_regrown d1'
        have cQ : ∀ d os, Calls Tryd.prog 58 #[.agg #[.int .i64 xs[k].1, u], .agg #[.int .i64 ys[k].1, u']] (grow (redrawn wr d) os) fun e w'' => e = .returned (.bool (eqB xs[k] ys[k])) ∧ ∃ p : Regrown, w'' = grow (redrawn wr p.d) p.os := fun d os =>
          Calls.regrown_of (eqAtom_any _ (hx.below (below_regrown _ d os)) (hx'.below (below_regrown _ d os)))
        clear hce hce' hcell hcell' hc0 hc1 hc0' hc1' d0 d1 d0' d1'
        go_wp2_with fail
        refine wp_region_quiet_below (by kernel_rfl) (by kernel_rfl) ?_
        repeat (go_big_quiet_step (exact cQ _ _))
        refine wpQuiet_nil ?_
        rintro w2 ⟨p, rfl⟩
        have hb2 := below_regrown wr p.d p.os
        cases hq : eqB xs[k] ys[k]
        · go_wp2_with fail
          go_ret
          exact ⟨ret_bool (eqB_get hkl hkl' (fun e => by rw [eqB_true e] at hq; cases hq)).symm, bthen hbel hb2⟩
        · go_wp2_with fail
          go_roundw
          case rel => exact ⟨k + 1, by omega, by go_num, take_eq_succ hkl hkl' HT.out (eqB_iff.1 hq), bthen hbel hb2⟩
          case measure => simp [intOf]; omega
      · obtain rfl : k = xs.length := by omega
        go_wp2_with fail
        go_ret
        exact ⟨ret_bool (eqB_true (by have h1 := HT.out; have h2 := HN.out; rw [List.take_length, h2, List.take_length] at h1; exact h1)).symm, hbel⟩
theorem szFormula_any (w : World) {cs : Array Value} {x : Int × Int × List (Int × List Int)} (h : frmT.Rd w cs.toList x) (left : Int) (h0 : 0 ≤ left) (h1 : left ≤ 1048576) :
    Calls Tryd.prog 10 #[.agg cs, .int .i64 left] w fun e w' => e = .returned (.int .i64 (szR left (szFrm x))) ∧ Below w.heap.size w w' := by
  obtain ⟨v, hv, hI, hI2, hx⟩ := trip_ex h
  obtain rfl := agg_of hv
  clear h hv
  rcases ilt left (szOps x.2.2) with hlt | hlt
  · go_enter Tryd.func10, Tryd.ntmps10
    go_wp2_with fail
    refine (szAtomS_any _ (hx.below bA) _ h0 h1).mono ?_
    rintro e w1 ⟨rfl, hb1⟩
    rw [szR_lt hlt]
    go_wp2_with fail
    go_ret
    exact ⟨ret_int (szR_lt hlt).symm, (by repeat (first | exact Below.refl _ _ | exact bA | assumption | refine Below.setCell ?_ (by first | omega | (simp; try omega)) _ | refine Below.alloc ?_ (by first | omega | (simp; try omega)) _ | refine Below.drew ?_ | refine bDN ?_ | refine bthen ?_ (by assumption)))⟩
  · go_enter Tryd.func10, Tryd.ntmps10
    go_wp2_with fail
    refine (szAtomS_any _ (hx.below bA) _ h0 h1).mono ?_
    rintro e w1 ⟨rfl, hb1⟩
    rw [szR_ge hlt]
    go_wp2_with fail
    go_ret
    exact ⟨ret_int (szR_ge hlt).symm, (by repeat (first | exact Below.refl _ _ | exact bA | assumption | refine Below.setCell ?_ (by first | omega | (simp; try omega)) _ | refine Below.alloc ?_ (by first | omega | (simp; try omega)) _ | refine Below.drew ?_ | refine bDN ?_ | refine bthen ?_ (by assumption)))⟩
theorem toFormula_any (w : World) {cs : Array Value} {x : Int × Int × List (Int × List Int)} (h : frmT.Rd w cs.toList x) (hlen : szFrm x ≤ 1048576) :
    Calls Tryd.prog 12 #[.agg cs] w (RetA frmT w x) := by
  obtain ⟨v, hv, hI, hI2, hx⟩ := trip_ex h
  obtain rfl := agg_of hv
  clear h hv
  go_enter Tryd.func12, Tryd.ntmps12
  go_wp2_with fail
  refine (toAtomS_any _ (hx.below (by repeat (first | exact Below.refl _ _ | exact bA | assumption | refine Below.setCell ?_ (by first | omega | (simp; try omega)) _ | refine Below.alloc ?_ (by first | omega | (simp; try omega)) _ | refine Below.drew ?_ | refine bDN ?_ | refine bthen ?_ (by assumption)))) hlen).mono ?_
  rintro e w1 ⟨u, rfl, hf, hb1⟩
  obtain ⟨ad, cap, rfl⟩ := fr_slice hf
  obtain ⟨q1, q2⟩ := bcell hb1
  have hz1 : w.heap.size + 3 ≤ w1.heap.size := by have := hb1.size; simp at this; omega
  go_wp2_with fail
  refine bodyPost_ret (v := .agg #[.int .i64 x.1, .int .i64 x.2.1, .slice ad x.2.2.length cap]) (by simp [results, Tryd.results12, go_sem, q1]) rfl ⟨_, rfl, fr_cons hI (fr_cons hI2 ?_), ?_⟩
  · exact ((((hf.set (by simp)).set (by simp)).set (by simp)).set (by simp)) |>.mono (by simp; try omega)
  · repeat (first | exact Below.refl _ _ | exact bA | assumption | refine Below.setCell ?_ (by first | omega | (simp; try omega)) _ | refine Below.alloc ?_ (by first | omega | (simp; try omega)) _ | refine Below.drew ?_ | refine bDN ?_ | refine bthen ?_ (by assumption))
theorem eqFormula_any (w : World) {cs cs' : Array Value} {x y : Int × Int × List (Int × List Int)} (h : frmT.Rd w cs.toList x) (h' : frmT.Rd w cs'.toList y) :
    Calls Tryd.prog 14 #[.agg cs, .agg cs'] w fun e w' => e = .returned (.bool (eqB x y)) ∧ Below w.heap.size w w' := by
  obtain ⟨v, hv, hI, hI2, hx⟩ := trip_ex h
  obtain rfl := agg_of hv
  obtain ⟨v', hv', hI', hI2', hx'⟩ := trip_ex h'
  obtain rfl := agg_of hv'
  clear h hv h' hv'
  cases hn : (x.1 != y.1)
  rotate_left
  · go_enter Tryd.func14, Tryd.ntmps14
    go_wp2_with fail
    go_ret
    exact ⟨ret_bool (eqB_fst (by simpa using hn)).symm, (by repeat (first | exact Below.refl _ _ | exact bA | assumption | refine Below.setCell ?_ (by first | omega | (simp; try omega)) _ | refine Below.alloc ?_ (by first | omega | (simp; try omega)) _ | refine Below.drew ?_ | refine bDN ?_ | refine bthen ?_ (by assumption)))⟩
  have HN : Hid (x.1 = y.1) := by simpa [Hid] using hn
  cases hm : (x.2.1 != y.2.1)
  rotate_left
  · go_enter Tryd.func14, Tryd.ntmps14
    go_wp2_with fail
    go_ret
    exact ⟨ret_bool (eqB_snd HN.out (eqB_fst (by simpa using hm))).symm, (by repeat (first | exact Below.refl _ _ | exact bA | assumption | refine Below.setCell ?_ (by first | omega | (simp; try omega)) _ | refine Below.alloc ?_ (by first | omega | (simp; try omega)) _ | refine Below.drew ?_ | refine bDN ?_ | refine bthen ?_ (by assumption)))⟩
  have HM : Hid (x.2.1 = y.2.1) := by simpa [Hid] using hm
  cases hq : eqB x.2.2 y.2.2
  all_goals
    go_enter Tryd.func14, Tryd.ntmps14
    go_wp2_with fail
    refine (eqAtomS_any _ (hx.below (by repeat (first | exact Below.refl _ _ | exact bA | assumption | refine Below.setCell ?_ (by first | omega | (simp; try omega)) _ | refine Below.alloc ?_ (by first | omega | (simp; try omega)) _ | refine Below.drew ?_ | refine bDN ?_ | refine bthen ?_ (by assumption)))) (hx'.below (by repeat (first | exact Below.refl _ _ | exact bA | assumption | refine Below.setCell ?_ (by first | omega | (simp; try omega)) _ | refine Below.alloc ?_ (by first | omega | (simp; try omega)) _ | refine Below.drew ?_ | refine bDN ?_ | refine bthen ?_ (by assumption))))).mono ?_
    rintro e w1 ⟨rfl, hb1⟩
    rw [hq]
    go_wp2_with fail
    go_ret
    exact ⟨ret_bool (eqB_snd HN.out (eqB_snd HM.out hq)).symm, (by repeat (first | exact Below.refl _ _ | exact bA | assumption | refine Below.setCell ?_ (by first | omega | (simp; try omega)) _ | refine Below.alloc ?_ (by first | omega | (simp; try omega)) _ | refine Below.drew ?_ | refine bDN ?_ | refine bthen ?_ (by assumption)))⟩
theorem szCon_any (w : World) {cs : Array Value} {x : Int × List Int} (h : opT.Rd w cs.toList x) (left : Int) (h0 : 0 ≤ left) (h1 : left ≤ 1048576) :
    Calls Tryd.prog 36 #[.agg cs, .int .i64 left] w fun e w' => e = .returned (.int .i64 (szR left (szOp x))) ∧ Below w.heap.size w w' := by
  obtain ⟨v, hv, hI, hx⟩ := pair_ex h
  obtain rfl := agg_of hv
  clear h hv
  rcases ilt left (szInts x.2) with hlt | hlt
  · go_enter Tryd.func36, Tryd.ntmps36
    go_wp2_with fail
    refine (szInt64S_any _ (hx.below bA) _ h0 h1).mono ?_
    rintro e w1 ⟨rfl, hb1⟩
    rw [szR_lt hlt]
    go_wp2_with fail
    go_ret
    exact ⟨ret_int (szR_lt hlt).symm, (by repeat (first | exact Below.refl _ _ | exact bA | assumption | refine Below.setCell ?_ (by first | omega | (simp; try omega)) _ | refine Below.alloc ?_ (by first | omega | (simp; try omega)) _ | refine Below.drew ?_ | refine bDN ?_ | refine bthen ?_ (by assumption)))⟩
  · go_enter Tryd.func36, Tryd.ntmps36
    go_wp2_with fail
    refine (szInt64S_any _ (hx.below bA) _ h0 h1).mono ?_
    rintro e w1 ⟨rfl, hb1⟩
    rw [szR_ge hlt]
    go_wp2_with fail
    go_ret
    exact ⟨ret_int (szR_ge hlt).symm, (by repeat (first | exact Below.refl _ _ | exact bA | assumption | refine Below.setCell ?_ (by first | omega | (simp; try omega)) _ | refine Below.alloc ?_ (by first | omega | (simp; try omega)) _ | refine Below.drew ?_ | refine bDN ?_ | refine bthen ?_ (by assumption)))⟩
theorem toCon_any (w : World) {cs : Array Value} {x : Int × List Int} (h : opT.Rd w cs.toList x) (hlen : szOp x ≤ 1048576) :
    Calls Tryd.prog 41 #[.agg cs] w (RetA opT w x) := by
  obtain ⟨v, hv, hI, hx⟩ := pair_ex h
  obtain rfl := agg_of hv
  clear h hv
  go_enter Tryd.func41, Tryd.ntmps41
  go_wp2_with fail
  refine (toInt64S_any _ (hx.below (by repeat (first | exact Below.refl _ _ | exact bA | assumption | refine Below.setCell ?_ (by first | omega | (simp; try omega)) _ | refine Below.alloc ?_ (by first | omega | (simp; try omega)) _ | refine Below.drew ?_ | refine bDN ?_ | refine bthen ?_ (by assumption)))) hlen).mono ?_
  rintro e w1 ⟨u, rfl, hf, hb1⟩
  obtain ⟨ad, cap, rfl⟩ := fr_slice hf
  obtain ⟨q1, q2⟩ := bcell hb1
  have hz1 : w.heap.size + 3 ≤ w1.heap.size := by have := hb1.size; simp at this; omega
  go_wp2_with fail
  refine bodyPost_ret (v := .agg #[.int .i64 x.1, .slice ad x.2.length cap]) (by simp [results, Tryd.results41, go_sem, q1]) rfl ⟨_, rfl, fr_cons hI ?_, ?_⟩
  · exact (((hf.set (by simp)).set (by simp)).set (by simp)) |>.mono (by simp; try omega)
  · repeat (first | exact Below.refl _ _ | exact bA | assumption | refine Below.setCell ?_ (by first | omega | (simp; try omega)) _ | refine Below.alloc ?_ (by first | omega | (simp; try omega)) _ | refine Below.drew ?_ | refine bDN ?_ | refine bthen ?_ (by assumption))
theorem eqCon_any (w : World) {cs cs' : Array Value} {x y : Int × List Int} (h : opT.Rd w cs.toList x) (h' : opT.Rd w cs'.toList y) :
    Calls Tryd.prog 47 #[.agg cs, .agg cs'] w fun e w' => e = .returned (.bool (eqB x y)) ∧ Below w.heap.size w w' := by
  obtain ⟨v, hv, hI, hx⟩ := pair_ex h
  obtain rfl := agg_of hv
  obtain ⟨v', hv', hI', hx'⟩ := pair_ex h'
  obtain rfl := agg_of hv'
  clear h hv h' hv'
  cases hn : (x.1 != y.1)
  rotate_left
  · go_enter Tryd.func47, Tryd.ntmps47
    go_wp2_with fail
    go_ret
    exact ⟨ret_bool (eqB_fst (by simpa using hn)).symm, (by repeat (first | exact Below.refl _ _ | exact bA | assumption | refine Below.setCell ?_ (by first | omega | (simp; try omega)) _ | refine Below.alloc ?_ (by first | omega | (simp; try omega)) _ | refine Below.drew ?_ | refine bDN ?_ | refine bthen ?_ (by assumption)))⟩
  have HN : Hid (x.1 = y.1) := by simpa [Hid] using hn
  cases hq : eqB x.2 y.2
  all_goals
    go_enter Tryd.func47, Tryd.ntmps47
    go_wp2_with fail
    refine (eqInt64S_any _ (hx.below (by repeat (first | exact Below.refl _ _ | exact bA | assumption | refine Below.setCell ?_ (by first | omega | (simp; try omega)) _ | refine Below.alloc ?_ (by first | omega | (simp; try omega)) _ | refine Below.drew ?_ | refine bDN ?_ | refine bthen ?_ (by assumption)))) (hx'.below (by repeat (first | exact Below.refl _ _ | exact bA | assumption | refine Below.setCell ?_ (by first | omega | (simp; try omega)) _ | refine Below.alloc ?_ (by first | omega | (simp; try omega)) _ | refine Below.drew ?_ | refine bDN ?_ | refine bthen ?_ (by assumption))))).mono ?_
    rintro e w1 ⟨rfl, hb1⟩
    rw [hq]
    go_wp2_with fail
    go_ret
    exact ⟨ret_bool (eqB_snd HN.out hq).symm, (by repeat (first | exact Below.refl _ _ | exact bA | assumption | refine Below.setCell ?_ (by first | omega | (simp; try omega)) _ | refine Below.alloc ?_ (by first | omega | (simp; try omega)) _ | refine Below.drew ?_ | refine bDN ?_ | refine bthen ?_ (by assumption)))⟩
set_option maxHeartbeats 400000 in
theorem szConS_any (w : World) {v : Value} {xs : List (Int × List Int)} (h : opsT.Rd w [v] xs) (left : Int) (h0 : 0 ≤ left) (h1 : left ≤ 1048576) :
    Calls Tryd.prog 15 #[v, .int .i64 left] w fun e w' => e = .returned (.int .i64 (szR left (szOps xs))) ∧ Below w.heap.size w w' := by
  obtain ⟨ad, cap, hv, hl, hc, hcell⟩ := pairs_ex h
  obtain rfl : v = _ := by simpa using hv
  clear h hv
  have hsn := sumL_nonneg szOp_nn xs
  have HS : Hid (szOps xs = xs.length + sumL szOp xs) := rfl
  rcases ilt left xs.length with hlt | hlt
  · go_enter Tryd.func15, Tryd.ntmps15
    go_wp2_with fail
    go_ret
    exact ⟨ret_int (szR_lt (by rw [HS.out]; omega)).symm, Below.refl _ _⟩
  · go_enter Tryd.func15, Tryd.ntmps15
    go_wp2_with fail
    go_loopw [1, 5] (fun l i wr => ∃ k : Nat, k ≤ xs.length ∧ i = .int .i64 k ∧ l = .int .i64 (left - xs.length - sumL szOp (xs.take k)) ∧ sumL szOp (xs.take k) ≤ left - xs.length ∧ Below w.heap.size w wr) (fun _ i _ => xs.length - (intOf i).toNat)
    case atStart => exact ⟨0, Nat.zero_le _, rfl, by simp [sumL], by simp [sumL]; omega, Below.refl _ _⟩
    case round =>
      obtain ⟨k, hk, rfl, rfl, hle, hbel⟩ := hrel
      have hs0 := sumL_nonneg szOp_nn (xs.take k)
      by_cases hkl : k < xs.length
      · obtain ⟨b, o, rfl, hb, hce⟩ := hcell (by omega)
        obtain ⟨u, hu, hI, hc0, hc1⟩ := hce k hkl
        have d0 : wr.cell? ⟨b, o + k * 2, none⟩ = some (.int .i64 xs[k].1) := (hbel.cell hb).trans hc0
        have d1 : wr.cell? ⟨b, o + k * 2 + 1, none⟩ = some u := (hbel.cell hb).trans hc1
        have hx : opT.Rd wr #[.int .i64 xs[k].1, u].toList xs[k] := pair_mk hI (hu.below hbel)
        have hs1 := sumL_succ szOp hkl
        have hs2 := sumL_take_le szOp_nn xs (k + 1)
        go_wp2_with fail
        refine (szCon_any _ hx _ (by omega) (by omega)).mono ?_
        rintro e w1 ⟨rfl, hb1⟩
        rcases ilt (left - xs.length - sumL szOp (xs.take k)) (szOp xs[k]) with hq | hq
        · rw [szR_lt hq]
          go_wp2_with fail
          go_ret
          exact ⟨ret_int (szR_lt (by rw [HS.out]; omega)).symm, bthen hbel hb1⟩
        · rw [szR_ge hq]
          go_wp2_with fail
          go_roundw
          case rel => exact ⟨k + 1, by omega, by go_num, by rw [hs1]; go_num, by rw [hs1]; omega, bthen hbel hb1⟩
          case measure => simp [intOf]; omega
      · obtain rfl : k = xs.length := by omega
        go_wp2_with fail
        go_ret
        exact ⟨ret_int (by rw [HS.out, List.take_length, szR_ge (by rw [List.take_length] at hle; omega)]; omega), hbel⟩
theorem elConS : ElT Tryd.prog 27 53 2 32 := .mk (z := .agg #[.int .i64 0, .slice none 0 0]) Tryd.underlying27 (by kernel_rfl) rfl (by decide)
set_option maxHeartbeats 400000 in
theorem toConS_any (w : World) {v : Value} {xs : List (Int × List Int)} (h : opsT.Rd w [v] xs) (hlen : szOps xs ≤ 1048576) :
    Calls Tryd.prog 18 #[v] w (RetS opsT w xs) := by
  obtain ⟨ad, cap, hv, hl, hc, hcell⟩ := pairs_ex h
  obtain rfl : v = _ := by simpa using hv
  have hsn := sumL_nonneg szOp_nn xs
  have hsm : xs.length + sumL szOp xs ≤ 1048576 := hlen
  clear h hv hlen
  go_enter Tryd.func18, Tryd.ntmps18
  go_wp2_with (refine wpList_mk (E := opT) _ rfl _ _ 27 53 rfl elConS w.heap.size xs.length rfl rfl (by omega) (by decide) (by simp) ?_; intro w1 hA hg1 hs1)
  have hb1 := below_of_grown hg1
  go_loopw [4] (fun i wr => ∃ k : Nat, k ≤ xs.length ∧ i = .int .i64 k ∧ Ar opT 53 w.heap.size wr.heap.size wr w.heap.size xs.length xs.length (xs.take k) ∧ Below w.heap.size w wr) (fun i _ => xs.length - (intOf i).toNat)
  case atStart => exact ⟨0, Nat.zero_le _, rfl, by rw [hs1]; exact hA, hb1⟩
  case round =>
    obtain ⟨k, hk, rfl, hAr, hbel⟩ := hrel
    have HA := Lib.hid hAr
    clear hAr hA
    by_cases hkl : k < xs.length
    · obtain ⟨b, o, rfl, hb, hce⟩ := hcell (by omega)
      obtain ⟨u, hu, hI, hc0, hc1⟩ := hce k hkl
      have d0 : wr.cell? ⟨b, o + k * 2, none⟩ = some (.int .i64 xs[k].1) := (hbel.cell hb).trans hc0
      have d1 : wr.cell? ⟨b, o + k * 2 + 1, none⟩ = some u := (hbel.cell hb).trans hc1
      have hx : opT.Rd wr #[.int .i64 xs[k].1, u].toList xs[k] := pair_mk hI (hu.below hbel)
      have hsk := sumL_get_le szOp_nn hkl
      go_wp2_with fail
      refine (toCon_any _ hx (by omega)).mono ?_
      rintro e w2 ⟨cs, rfl, hf, hb2⟩
      obtain ⟨c, c', rfl⟩ := fr_pair hf
      have hA2 := HA.out.below hb2 (Nat.le_refl _)
      obtain ⟨u0, e0⟩ := hA2.cell (j := k * 2) (by simp [Ty.cons, Ty.slice]; omega)
      obtain ⟨u1, e1⟩ := hA2.cell (j := k * 2 + 1) (by simp [Ty.cons, Ty.slice]; omega)
      have f0 := hA2.free (k * 2)
      have f1 := hA2.free (k * 2 + 1)
      have hP := hA2.put2 rfl hf (by rw [take_len hk]; exact hkl) hb2.size
      rw [take_len hk, take_snoc hkl] at hP
      have HP := Lib.hid hP
      clear hP hA2
      go_wp2_with fail
      go_roundw
      case rel => exact ⟨k + 1, by omega, by go_num, by simpa using HP.out, ((bthen hbel hb2).setCell (Nat.le_refl _) _).setCell (Nat.le_refl _) _⟩
      case measure => simp [intOf]; omega
    · obtain rfl : k = xs.length := by omega
      rw [List.take_length] at HA
      go_wp2_with fail
      go_ret
      exact ⟨_, rfl, HA.out.fr (by unfold capMax; omega) rfl, hbel⟩
set_option maxHeartbeats 400000 in
theorem eqConS_any (w : World) {v u : Value} {xs ys : List (Int × List Int)} (h : opsT.Rd w [v] xs) (h' : opsT.Rd w [u] ys) :
    Calls Tryd.prog 27 #[v, u] w fun e w' => e = .returned (.bool (eqB xs ys)) ∧ Below w.heap.size w w' := by
  obtain ⟨ad, cap, hv, hl, hc, hcell⟩ := pairs_ex h
  obtain ⟨ad', cap', hv', hl', hc', hcell'⟩ := pairs_ex h'
  obtain rfl : v = _ := by simpa using hv
  obtain rfl : u = _ := by simpa using hv'
  clear h hv h' hv'
  cases hn : (((xs.length : Nat) : Int) != (ys.length : Nat))
  rotate_left
  · go_enter Tryd.func27, Tryd.ntmps27
    go_wp2_with fail
    go_ret
    exact ⟨ret_bool (eqB_len (by simp at hn; omega)).symm, Below.refl _ _⟩
  · have hn' : xs.length = ys.length := by simp at hn; omega
    have HN := Lib.hid hn'
    clear hn'
    go_enter Tryd.func27, Tryd.ntmps27
    go_wp2_with fail
    go_loopw [5] (fun i wr => ∃ k : Nat, k ≤ xs.length ∧ i = .int .i64 k ∧ xs.take k = ys.take k ∧ Below w.heap.size w wr) (fun i _ => xs.length - (intOf i).toNat)
    case atStart => exact ⟨0, Nat.zero_le _, rfl, rfl, Below.refl _ _⟩
    case round =>
      obtain ⟨k, hk, rfl, ht, hbel⟩ := hrel
      have HT := Lib.hid ht
      clear ht hn
      by_cases hkl : k < xs.length
      · have hkl' : k < ys.length := by have := HN.out; omega
        obtain ⟨b, o, rfl, hb, hce⟩ := hcell (by omega)
        obtain ⟨b', o', rfl, hb', hce'⟩ := hcell' (by omega)
        obtain ⟨u, hu, hI, hc0, hc1⟩ := hce k hkl
        have d0 : wr.cell? ⟨b, o + k * 2, none⟩ = some (.int .i64 xs[k].1) := (hbel.cell hb).trans hc0
        have d1 : wr.cell? ⟨b, o + k * 2 + 1, none⟩ = some u := (hbel.cell hb).trans hc1
        have hx : opT.Rd wr #[.int .i64 xs[k].1, u].toList xs[k] := pair_mk hI (hu.below hbel)
        obtain ⟨u', hu', hI', hc0', hc1'⟩ := hce' k hkl'
        have d0' : wr.cell? ⟨b', o' + k * 2, none⟩ = some (.int .i64 ys[k].1) := (hbel.cell hb').trans hc0'
        have d1' : wr.cell? ⟨b', o' + k * 2 + 1, none⟩ = some u' := (hbel.cell hb').trans hc1'
        have hx' : opT.Rd wr #[.int .i64 ys[k].1, u'].toList ys[k] := pair_mk hI' (hu'.below hbel)
        have k0 := cell_regrown d0
        have k1 := cell_regrown d1
        have k0' := cell_regrown d0'
        have k1' := cell_regrown d1'
        have cQ : ∀ d os, Calls Tryd.prog 47 #[.agg #[.int .i64 xs[k].1, u], .agg #[.int .i64 ys[k].1, u']] (grow (redrawn wr d) os) fun e w'' => e = .returned (.bool (eqB xs[k] ys[k])) ∧ ∃ p : Regrown, w'' = grow (redrawn wr p.d) p.os := fun d os =>
          Calls.regrown_of (eqCon_any _ (hx.below (below_regrown _ d os)) (hx'.below (below_regrown _ d os)))
        clear hce hce' hcell hcell' hc0 hc1 hc0' hc1' d0 d1 d0' d1'
        go_wp2_with fail
        refine wp_region_quiet_below (by kernel_rfl) (by kernel_rfl) ?_
        repeat (go_big_quiet_step (exact cQ _ _))
        refine wpQuiet_nil ?_
        rintro w2 ⟨p, rfl⟩
        have hb2 := below_regrown wr p.d p.os
        cases hq : eqB xs[k] ys[k]
        · go_wp2_with fail
          go_ret
          exact ⟨ret_bool (eqB_get hkl hkl' (fun e => by rw [eqB_true e] at hq; cases hq)).symm, bthen hbel hb2⟩
        · go_wp2_with fail
          go_roundw
          case rel => exact ⟨k + 1, by omega, by go_num, take_eq_succ hkl hkl' HT.out (eqB_iff.1 hq), bthen hbel hb2⟩
          case measure => simp [intOf]; omega
      · obtain rfl : k = xs.length := by omega
        go_wp2_with fail
        go_ret
        exact ⟨ret_bool (eqB_true (by have h1 := HT.out; have h2 := HN.out; rw [List.take_length, h2, List.take_length] at h1; exact h1)).symm, hbel⟩
theorem szInstance_any (w : World) {cs : Array Value} {x : Int × List (Int × List Int)} (h : instT.Rd w cs.toList x) (left : Int) (h0 : 0 ≤ left) (h1 : left ≤ 1048576) :
    Calls Tryd.prog 5 #[.agg cs, .int .i64 left] w fun e w' => e = .returned (.int .i64 (szR left (szInst x))) ∧ Below w.heap.size w w' := by
  obtain ⟨v, hv, hI, hx⟩ := pair_ex h
  obtain rfl := agg_of hv
  clear h hv
  rcases ilt left (szOps x.2) with hlt | hlt
  · go_enter Tryd.func5, Tryd.ntmps5
    go_wp2_with fail
    refine (szConS_any _ (hx.below bA) _ h0 h1).mono ?_
    rintro e w1 ⟨rfl, hb1⟩
    rw [szR_lt hlt]
    go_wp2_with fail
    go_ret
    exact ⟨ret_int (szR_lt hlt).symm, (by repeat (first | exact Below.refl _ _ | exact bA | assumption | refine Below.setCell ?_ (by first | omega | (simp; try omega)) _ | refine Below.alloc ?_ (by first | omega | (simp; try omega)) _ | refine Below.drew ?_ | refine bDN ?_ | refine bthen ?_ (by assumption)))⟩
  · go_enter Tryd.func5, Tryd.ntmps5
    go_wp2_with fail
    refine (szConS_any _ (hx.below bA) _ h0 h1).mono ?_
    rintro e w1 ⟨rfl, hb1⟩
    rw [szR_ge hlt]
    go_wp2_with fail
    go_ret
    exact ⟨ret_int (szR_ge hlt).symm, (by repeat (first | exact Below.refl _ _ | exact bA | assumption | refine Below.setCell ?_ (by first | omega | (simp; try omega)) _ | refine Below.alloc ?_ (by first | omega | (simp; try omega)) _ | refine Below.drew ?_ | refine bDN ?_ | refine bthen ?_ (by assumption)))⟩
theorem toInstance_any (w : World) {cs : Array Value} {x : Int × List (Int × List Int)} (h : instT.Rd w cs.toList x) (hlen : szInst x ≤ 1048576) :
    Calls Tryd.prog 7 #[.agg cs] w (RetA instT w x) := by
  obtain ⟨v, hv, hI, hx⟩ := pair_ex h
  obtain rfl := agg_of hv
  clear h hv
  go_enter Tryd.func7, Tryd.ntmps7
  go_wp2_with fail
  refine (toConS_any _ (hx.below (by repeat (first | exact Below.refl _ _ | exact bA | assumption | refine Below.setCell ?_ (by first | omega | (simp; try omega)) _ | refine Below.alloc ?_ (by first | omega | (simp; try omega)) _ | refine Below.drew ?_ | refine bDN ?_ | refine bthen ?_ (by assumption)))) hlen).mono ?_
  rintro e w1 ⟨u, rfl, hf, hb1⟩
  obtain ⟨ad, cap, rfl⟩ := fr_slice hf
  obtain ⟨q1, q2⟩ := bcell hb1
  have hz1 : w.heap.size + 3 ≤ w1.heap.size := by have := hb1.size; simp at this; omega
  go_wp2_with fail
  refine bodyPost_ret (v := .agg #[.int .i64 x.1, .slice ad x.2.length cap]) (by simp [results, Tryd.results7, go_sem, q1]) rfl ⟨_, rfl, fr_cons hI ?_, ?_⟩
  · exact (((hf.set (by simp)).set (by simp)).set (by simp)) |>.mono (by simp; try omega)
  · repeat (first | exact Below.refl _ _ | exact bA | assumption | refine Below.setCell ?_ (by first | omega | (simp; try omega)) _ | refine Below.alloc ?_ (by first | omega | (simp; try omega)) _ | refine Below.drew ?_ | refine bDN ?_ | refine bthen ?_ (by assumption))
theorem eqInstance_any (w : World) {cs cs' : Array Value} {x y : Int × List (Int × List Int)} (h : instT.Rd w cs.toList x) (h' : instT.Rd w cs'.toList y) :
    Calls Tryd.prog 9 #[.agg cs, .agg cs'] w fun e w' => e = .returned (.bool (eqB x y)) ∧ Below w.heap.size w w' := by
  obtain ⟨v, hv, hI, hx⟩ := pair_ex h
  obtain rfl := agg_of hv
  obtain ⟨v', hv', hI', hx'⟩ := pair_ex h'
  obtain rfl := agg_of hv'
  clear h hv h' hv'
  cases hn : (x.1 != y.1)
  rotate_left
  · go_enter Tryd.func9, Tryd.ntmps9
    go_wp2_with fail
    go_ret
    exact ⟨ret_bool (eqB_fst (by simpa using hn)).symm, (by repeat (first | exact Below.refl _ _ | exact bA | assumption | refine Below.setCell ?_ (by first | omega | (simp; try omega)) _ | refine Below.alloc ?_ (by first | omega | (simp; try omega)) _ | refine Below.drew ?_ | refine bDN ?_ | refine bthen ?_ (by assumption)))⟩
  have HN : Hid (x.1 = y.1) := by simpa [Hid] using hn
  cases hq : eqB x.2 y.2
  all_goals
    go_enter Tryd.func9, Tryd.ntmps9
    go_wp2_with fail
    refine (eqConS_any _ (hx.below (by repeat (first | exact Below.refl _ _ | exact bA | assumption | refine Below.setCell ?_ (by first | omega | (simp; try omega)) _ | refine Below.alloc ?_ (by first | omega | (simp; try omega)) _ | refine Below.drew ?_ | refine bDN ?_ | refine bthen ?_ (by assumption)))) (hx'.below (by repeat (first | exact Below.refl _ _ | exact bA | assumption | refine Below.setCell ?_ (by first | omega | (simp; try omega)) _ | refine Below.alloc ?_ (by first | omega | (simp; try omega)) _ | refine Below.drew ?_ | refine bDN ?_ | refine bthen ?_ (by assumption))))).mono ?_
    rintro e w1 ⟨rfl, hb1⟩
    rw [hq]
    go_wp2_with fail
    go_ret
    exact ⟨ret_bool (eqB_snd HN.out hq).symm, (by repeat (first | exact Below.refl _ _ | exact bA | assumption | refine Below.setCell ?_ (by first | omega | (simp; try omega)) _ | refine Below.alloc ?_ (by first | omega | (simp; try omega)) _ | refine Below.drew ?_ | refine bDN ?_ | refine bthen ?_ (by assumption)))⟩
end Go.Proofs.YtjghcedmlklngaaDoor
namespace Go.Proofs.YtjghcedmlklngaaDoor
open Go.RowKit Go.Sort
theorem cmpI_neg {x y : Int} : cmpI x y < 0 ↔ x < y := by
  unfold cmpI
  split
  · simpa
  · split <;> omega
theorem ltL_trans : ∀ {a b c : List Int}, ltL a b → ltL b c → ltL a c
  | [], [], _, h, _ => by simp [ltL, cmpL] at h
  | _ :: _, [], _, h, _ => by simp [ltL, cmpL] at h
  | _, _ :: _, [], _, h => by simp [ltL, cmpL] at h
  | [], _ :: _, _ :: _, _, _ => by simp [ltL, cmpL]
  | x :: a, y :: b, z :: c, h, h' => by
    unfold ltL at h h' ⊢
    simp only [cmpL] at h h' ⊢
    by_cases e1 : x = y
    · by_cases e2 : y = z
      · subst e1; subst e2
        simp only [if_true] at h h' ⊢
        exact ltL_trans h h'
      · subst e1
        rw [if_neg e2] at h' ⊢
        exact h'
    · rw [if_neg e1] at h
      rw [cmpI_neg] at h
      by_cases e2 : y = z
      · subst e2
        rw [if_neg e1, cmpI_neg]; exact h
      · rw [if_neg e2, cmpI_neg] at h'
        rw [if_neg (by omega), cmpI_neg]; omega
theorem cmpL_zero : ∀ {a b : List Int}, cmpL a b = 0 → a = b
  | [], [], _ => rfl
  | [], _ :: _, h => by simp [cmpL] at h
  | _ :: _, [], h => by simp [cmpL] at h
  | x :: a, y :: b, h => by
    simp only [cmpL] at h
    by_cases e : x = y
    · subst e
      rw [if_pos rfl] at h
      rw [cmpL_zero h]
    · rw [if_neg e] at h
      unfold cmpI at h
      split at h
      · omega
      · split at h <;> omega
/-- sorted in the order of lists -/
def sortedL (xs : List (List Int)) : Prop := ∀ i (h : i < xs.length), 0 < i → ltL (xs[i - 1]'(by omega)) xs[i]
theorem sortedL_lt {xs : List (List Int)} (hs : sortedL xs) : ∀ {a b : Nat} (hb : b < xs.length) (hab : a < b), ltL (xs[a]'(by omega)) xs[b] := by
  intro a b hb hab
  induction b with
  | zero => omega
  | succ b ih =>
    have h1 := hs (b + 1) hb (by omega)
    simp only [Nat.add_sub_cancel] at h1
    by_cases e : a = b
    · subst e; exact h1
    · exact ltL_trans (ih (by omega) (by omega)) h1
theorem relOk_sorted {size : Int} {r : Int × List (List Int)} (h : relOk size r) : sortedL r.2 := fun i hi h0 => (h.2.2 i hi).2 h0
/-- the elements of a list at places -/
def atL (l places : List Int) : List Int := places.map fun p => l.getD p.toNat 0
theorem atL_len {l places : List Int} : (atL l places).length = places.length := by simp [atL]
theorem atL_take {l places : List Int} {k j : Nat} (hk : k < places.length) (hj : places[k] = (j : Int)) (hl : j < l.length) : atL l (places.take k) ++ [l[j]] = atL l (places.take (k + 1)) := by
  rw [← take_snoc hk]
  simp [atL, hj, hl]
theorem Bl.own {α : Type} {E : Ty α} {e base top : Nat} {w : World} {v : Value} {ys : List α} (h : Bl E e base top w v ys) {g : Nat} (hg : v.ownBlock = some g) : base ≤ g := by
  obtain ⟨L, fps, h1, _⟩ := h
  exact (h1.lt g hg).1
theorem news1 {w : World} {u : Value} {T : TypeId} : ∀ j x, [u][j]? = some x → (w.alloc (.cells #[u] T)).cell? ((⟨w.heap.size, 0, none⟩ : Addr).add j) = some x := by
  intro j x h
  match j with
  | 0 => simp at h; subst h; simp [Addr.add]
  | j + 1 => simp at h
end Go.Proofs.YtjghcedmlklngaaDoor
namespace Go.Proofs
open Go.Shelf
def Tryd.lays156_ren : Go.Shelf.Ren := ⟨fun | 156 => 34 | 165 => 55 | 166 => 56 | 169 => 57 | 240 => 65 | 241 => 66 | 276 => 71 | 277 => 72 | n => n, fun | 31 => 66 | 9 => 9 | 3 => 3 | 4 => 4 | 0 => 0 | 20 => 20 | 72 => 91 | 76 => 95 | 70 => 88 | 37 => 89 | 75 => 94 | 127 => 104 | 164 => 112 | 5 => 5 | 80 => 97 | n => n, fun | n => n⟩
theorem Tryd.lays156 : Go.Proofs.Lays.n156 Tryd.prog Tryd.lays156_ren := {
  mixed := by kernel_rfl
  f156 := Tryd.func34.trans (congrArg some (by kernel_rfl))
  f165 := Tryd.func55.trans (congrArg some (by kernel_rfl))
  f166 := Tryd.func56.trans (congrArg some (by kernel_rfl))
  f169 := Tryd.func57.trans (congrArg some (by kernel_rfl))
  f240 := Tryd.func65.trans (congrArg some (by kernel_rfl))
  f241 := Tryd.func66.trans (congrArg some (by kernel_rfl))
  f276 := Tryd.func71.trans (congrArg some (by kernel_rfl))
  f277 := Tryd.func72.trans (congrArg some (by kernel_rfl))
  t0 := Tryd.underlying0
  a0 := Tryd.isAgg0
  z0 := Tryd.sizeOf0
  v0 := Tryd.zeroValue0
  t3 := Tryd.underlying3
  a3 := Tryd.isAgg3
  z3 := Tryd.sizeOf3
  v3 := Tryd.zeroValue3
  t4 := Tryd.underlying4
  a4 := Tryd.isAgg4
  z4 := Tryd.sizeOf4
  v4 := Tryd.zeroValue4
  t9 := Tryd.underlying9
  a9 := Tryd.isAgg9
  z9 := Tryd.sizeOf9
  v9 := Tryd.zeroValue9
  t20 := Tryd.underlying20
  a20 := Tryd.isAgg20
  z20 := Tryd.sizeOf20
  v20 := Tryd.zeroValue20
  t31 := Tryd.underlying66
  a31 := Tryd.isAgg66
  z31 := Tryd.sizeOf66
  v31 := Tryd.zeroValue66
  t37 := Tryd.underlying89
  a37 := Tryd.isAgg89
  z37 := Tryd.sizeOf89
  v37 := Tryd.zeroValue89
  t70 := Tryd.underlying88
  a70 := Tryd.isAgg88
  z70 := Tryd.sizeOf88
  v70 := Tryd.zeroValue88
  t72 := Tryd.underlying91
  a72 := Tryd.isAgg91
  z72 := Tryd.sizeOf91
  v72 := Tryd.zeroValue91
  t75 := Tryd.underlying94
  a75 := Tryd.isAgg94
  z75 := Tryd.sizeOf94
  v75 := Tryd.zeroValue94
  t76 := Tryd.underlying95
  a76 := Tryd.isAgg95
  z76 := Tryd.sizeOf95
  v76 := Tryd.zeroValue95
  t127 := Tryd.underlying104
  a127 := Tryd.isAgg104
  z127 := Tryd.sizeOf104
  v127 := Tryd.zeroValue104
  t164 := Tryd.underlying112
  a164 := Tryd.isAgg112
  z164 := Tryd.sizeOf112
  v164 := Tryd.zeroValue112 }
theorem Tryd.Builder_Extra_156 : Builder.Extra Tryd.prog Tryd.lays156_ren := {
  sizeBuilder := by kernel_rfl
  liesBuilder := by kernel_rfl
  t5 := Tryd.underlying5
  a5 := Tryd.isAgg5
  z5 := Tryd.sizeOf5
  v5 := Tryd.zeroValue5
  infoByte := by kernel_rfl
  cellsByte := by kernel_rfl
  sizeByte := by kernel_rfl
  neB5 := by decide }
open Go.RowKit in
theorem Tryd.strings_Join_none (a : Option Addr) (c : Nat) (sep : ByteArray) (w : World) :
    Calls Tryd.prog 34 #[.slice a 0 c, .string sep] w fun e w' => e = .returned (.string ⟨#[]⟩) ∧ w' = w := Any.strings_Join_none Tryd.lays156 Tryd.Builder_Extra_156 a c sep w
open Go.RowKit in
theorem Tryd.strings_Join (bk o c : Nat) (xs : List ByteArray) (sep : ByteArray) (w : World) (hcells : ∀ (j : Nat) x, xs[j]? = some x → w.cell? ⟨bk, o + j, none⟩ = some (.string x)) (hbk : bk < w.heap.size) (hN : xs.length ≤ 140737488355328) (hcap : xs.length ≤ c) (hlen : (Lib.join (xs.map (·.data.toList)) sep.data.toList).length ≤ 140737488355328) :
    Calls Tryd.prog 34 #[.slice (some ⟨bk, o, none⟩) xs.length c, .string sep] w fun e w' => e = .returned (.string ⟨(Lib.join (xs.map (·.data.toList)) sep.data.toList).toArray⟩) ∧ Below w.heap.size w w' := Any.strings_Join Tryd.lays156 Tryd.Builder_Extra_156 bk o c xs sep w hcells hbk hN hcap hlen
def Tryd.lays173_ren : Go.Shelf.Ren := ⟨fun | 173 => 46 | 246 => 62 | 283 => 67 | 284 => 68 | 285 => 69 | 286 => 70 | 129 => 74 | 317 => 73 | 318 => 75 | 319 => 76 | 320 => 77 | 337 => 78 | 338 => 79 | n => n, fun | 2 => 2 | 3 => 3 | 9 => 9 | 4 => 4 | 171 => 106 | 0 => 0 | 53 => 107 | 37 => 89 | 5 => 5 | 173 => 110 | 212 => 117 | 51 => 118 | 20 => 20 | 213 => 119 | 46 => 121 | 232 => 124 | 233 => 125 | n => n, fun | 17 => 0 | 18 => 2 | 19 => 3 | n => n⟩
theorem Tryd.lays173 : Go.Proofs.Lays.n173 Tryd.prog Tryd.lays173_ren := {
  mixed := by kernel_rfl
  f129 := Tryd.func74.trans (congrArg some (by kernel_rfl))
  f173 := Tryd.func46.trans (congrArg some (by kernel_rfl))
  f246 := Tryd.func62.trans (congrArg some (by kernel_rfl))
  f283 := Tryd.func67.trans (congrArg some (by kernel_rfl))
  f284 := Tryd.func68.trans (congrArg some (by kernel_rfl))
  f285 := Tryd.func69.trans (congrArg some (by kernel_rfl))
  f286 := Tryd.func70.trans (congrArg some (by kernel_rfl))
  f317 := Tryd.func73.trans (congrArg some (by kernel_rfl))
  f318 := Tryd.func75.trans (congrArg some (by kernel_rfl))
  f319 := Tryd.func76.trans (congrArg some (by kernel_rfl))
  f320 := Tryd.func77.trans (congrArg some (by kernel_rfl))
  f337 := Tryd.func78.trans (congrArg some (by kernel_rfl))
  f338 := Tryd.func79.trans (congrArg some (by kernel_rfl))
  t0 := Tryd.underlying0
  a0 := Tryd.isAgg0
  z0 := Tryd.sizeOf0
  v0 := Tryd.zeroValue0
  t2 := Tryd.underlying2
  a2 := Tryd.isAgg2
  z2 := Tryd.sizeOf2
  v2 := Tryd.zeroValue2
  t3 := Tryd.underlying3
  a3 := Tryd.isAgg3
  z3 := Tryd.sizeOf3
  v3 := Tryd.zeroValue3
  t4 := Tryd.underlying4
  a4 := Tryd.isAgg4
  z4 := Tryd.sizeOf4
  v4 := Tryd.zeroValue4
  t5 := Tryd.underlying5
  a5 := Tryd.isAgg5
  z5 := Tryd.sizeOf5
  v5 := Tryd.zeroValue5
  t9 := Tryd.underlying9
  a9 := Tryd.isAgg9
  z9 := Tryd.sizeOf9
  v9 := Tryd.zeroValue9
  t20 := Tryd.underlying20
  a20 := Tryd.isAgg20
  z20 := Tryd.sizeOf20
  v20 := Tryd.zeroValue20
  t37 := Tryd.underlying89
  a37 := Tryd.isAgg89
  z37 := Tryd.sizeOf89
  v37 := Tryd.zeroValue89
  t46 := Tryd.underlying121
  a46 := Tryd.isAgg121
  z46 := Tryd.sizeOf121
  v46 := Tryd.zeroValue121
  t51 := Tryd.underlying118
  a51 := Tryd.isAgg118
  z51 := Tryd.sizeOf118
  v51 := Tryd.zeroValue118
  t53 := Tryd.underlying107
  a53 := Tryd.isAgg107
  z53 := Tryd.sizeOf107
  v53 := Tryd.zeroValue107
  t171 := Tryd.underlying106
  a171 := Tryd.isAgg106
  z171 := Tryd.sizeOf106
  v171 := Tryd.zeroValue106
  t173 := Tryd.underlying110
  a173 := Tryd.isAgg110
  z173 := Tryd.sizeOf110
  v173 := Tryd.zeroValue110
  t212 := Tryd.underlying117
  a212 := Tryd.isAgg117
  z212 := Tryd.sizeOf117
  v212 := Tryd.zeroValue117
  t213 := Tryd.underlying119
  a213 := Tryd.isAgg119
  z213 := Tryd.sizeOf119
  t232 := Tryd.underlying124
  a232 := Tryd.isAgg124
  z232 := Tryd.sizeOf124
  v232 := Tryd.zeroValue124
  t233 := Tryd.underlying125
  a233 := Tryd.isAgg125
  z233 := Tryd.sizeOf125
  v233 := Tryd.zeroValue125
  g17 := by kernel_rfl
  g18 := by kernel_rfl
  g19 := by kernel_rfl }
open Go.RowKit Go.Sort Go.Lib in
theorem Tryd.strconv_FormatInt_10_small (i : Nat) (hi : i < 100) (w : World) :
    Calls Tryd.prog 46 #[.int .i64 i, .int .i64 10] w fun e w' => e = .returned (.string ⟨(Lib.decDigits i).toArray⟩) ∧ w' = w := Any.strconv_FormatInt_10_small Tryd.lays173 i hi w
end Go.Proofs
namespace Go.Proofs.YtjghcedmlklngaaDoor
open Go.RowKit Go.Sort
theorem ex_sl {α : Type} {E : Ty α} {base : Nat} {w : World} {u : Value} {x : List α} (h : (Ty.slice E).Fr base w [u] x) : ∃ ad n cap, u = .slice ad n cap := let ⟨a, c, h⟩ := fr_slice h; ⟨a, _, c, h⟩
theorem news1s {w : World} {u : Value} {T : TypeId} {B : Nat} (hB : B = w.heap.size) : ∀ j x, [u][j]? = some x → (w.alloc (.cells #[u] T)).cell? ((⟨B, 0, none⟩ : Addr).add j) = some x := by subst hB; exact news1
/-- bytes joined, behind a name -/
def cat (a b : List UInt8) : List UInt8 := a ++ b
theorem cat_len {a b : List UInt8} : (cat a b).length = a.length + b.length := List.length_append
theorem add_cat {P : Program} (w : World) (a b : List UInt8) (h : a.length + b.length ≤ 1000000000) : (Op.stringOp .add ⟨a.toArray⟩ ⟨b.toArray⟩).run P w = .ok (.string ⟨(cat a b).toArray⟩) w := by
  have h1 : (ByteArray.mk a.toArray).size = a.length := by show a.toArray.size = _; simp
  have h2 : (ByteArray.mk b.toArray).size = b.length := by show b.toArray.size = _; simp
  rw [run_string_add_sum w _ _ (by rw [h1, h2]; omega), ByteArray.mk_append_mk]
  simp [cat]
/-- a number's digits -/
def decB (n : Int) : List UInt8 := Lib.decDigits n.toNat
theorem dec_one {n : Int} (h0 : 0 ≤ n) (h1 : n < 10) : decB n = [UInt8.ofNat (48 + n.toNat)] := Lib.decDigits_one (by omega)
theorem dec_two {n : Int} (h0 : 10 ≤ n) (h1 : n < 100) : decB n = cat (decB (n / 10)) [UInt8.ofNat (48 + (n % 10).toNat)] := by
  unfold decB cat
  rw [Lib.decDigits, dif_neg (by omega), show (n / 10).toNat = n.toNat / 10 by omega, show (n % 10).toNat = n.toNat % 10 by omega]
theorem dec_len {n : Int} (h1 : n < 100) : 1 ≤ (decB n).length ∧ (decB n).length ≤ 2 := by
  by_cases h : n < 10
  · unfold decB; rw [Lib.decDigits_one (by omega)]; simp
  · rw [dec_two (by omega) h1, cat_len, dec_one (by omega) (by omega)]; simp
/-- a text, and behind it each one's part -/
def catL {α : Type} (f : α → List UInt8) (hd : List UInt8) (xs : List α) : List UInt8 := hd ++ (xs.map f).flatten
section
variable {α : Type} {f : α → List UInt8} {hd : List UInt8} {xs : List α}
theorem catL_nil : catL f hd [] = hd := by simp [catL]
theorem catL_zero : catL f hd (xs.take 0) = hd := by simp [catL]
theorem catL_succ {k : Nat} (h : k < xs.length) : catL f hd (xs.take (k + 1)) = cat (catL f hd (xs.take k)) (f xs[k]) := by
  unfold catL cat
  rw [List.take_succ_eq_append_getElem h, List.map_append, List.flatten_append]
  simp only [List.map_cons, List.map_nil, List.flatten_cons, List.flatten_nil, List.append_nil, List.append_assoc]
theorem flat_len {B : Nat} : ∀ {ys : List α}, (∀ x ∈ ys, (f x).length ≤ B) → ((ys.map f).flatten).length ≤ ys.length * B
  | [], _ => by simp
  | y :: ys, hB => by
    have h1 := hB y (List.mem_cons_self ..)
    have h2 := flat_len fun z hz => hB z (List.mem_cons_of_mem _ hz)
    simp only [List.map_cons, List.flatten_cons, List.length_append, List.length_cons, Nat.succ_mul]
    omega
theorem catL_len {B : Nat} (hB : ∀ x ∈ xs, (f x).length ≤ B) : (catL f hd xs).length ≤ hd.length + xs.length * B := by
  unfold catL
  rw [List.length_append]
  have := flat_len hB
  omega
end
def Ty.str : Ty (List UInt8) where
  sz := 1
  rd := fun _ cs l fp => cs = [.string ⟨l.toArray⟩] ∧ fp = []
  len := by rintro _ _ _ _ ⟨rfl, _⟩; rfl
  same := fun h _ => h
  lt := by rintro _ _ _ _ ⟨rfl, rfl⟩ k hk; cases hk
  one := by rintro _ _ _ _ ⟨rfl, _⟩ u hu; simp at hu; subst hu; rfl
theorem fr_str {base : Nat} {w : World} {l : List UInt8} : Ty.str.Fr base w [.string ⟨l.toArray⟩] l := ⟨[], ⟨rfl, rfl⟩, List.nodup_nil, by simp, fun b hb => by cases hb⟩
theorem strs_ex {w : World} {cs : List Value} {xs : List (List UInt8)} (h : (Ty.slice Ty.str).Rd w cs xs) :
    ∃ ad cap, cs = [.slice ad xs.length cap] ∧ xs.length ≤ cap ∧ xs.length ≤ 140737488351232 ∧
      (0 < xs.length → ∃ b o, ad = some ⟨b, o, none⟩ ∧ b < w.heap.size ∧ ∀ i (h : i < xs.length), w.cell? ⟨b, o + i, none⟩ = some (.string ⟨(xs[i]).toArray⟩)) := by
  obtain ⟨ad, cap, h1, h2, h3, h4⟩ := Ty.slice_ex h
  refine ⟨ad, cap, h1, h2, h3, fun hp => ?_⟩
  obtain ⟨b, o, h5, h6, h7⟩ := h4 hp
  refine ⟨b, o, h5, h6, fun i hi => ?_⟩
  obtain ⟨cs, ⟨fp, rfl, h9⟩, h10⟩ := h7 i hi
  simpa [Ty.str] using h10 0 (by simp)
theorem elStr : ElT Tryd.prog 66 9 1 16 := .mk (z := .string ⟨#[]⟩) Tryd.underlying66 (by kernel_rfl) rfl (by decide)
theorem Join_any (w : World) {v : Value} {xs : List (List UInt8)} (h : (Ty.slice Ty.str).Rd w [v] xs) (sep : List UInt8) (hl : (Lib.join xs sep).length ≤ 1000000000) :
    Calls Tryd.prog 34 #[v, .string ⟨sep.toArray⟩] w fun e w' => e = .returned (.string ⟨(Lib.join xs sep).toArray⟩) ∧ Below w.heap.size w w' := by
  obtain ⟨ad, cap, hv, h1, h2, h3⟩ := strs_ex h
  obtain rfl : v = _ := by simpa using hv
  rcases Nat.eq_zero_or_pos xs.length with h0 | h0
  · obtain rfl := List.length_eq_zero_iff.1 h0
    refine (Tryd.strings_Join_none ad cap ⟨sep.toArray⟩ w).mono ?_
    rintro e w' ⟨rfl, rfl⟩
    exact ⟨rfl, Below.refl _ _⟩
  · obtain ⟨b, o, rfl, hb, hc⟩ := h3 h0
    have e1 : (xs.map fun l => (⟨l.toArray⟩ : ByteArray)).map (·.data.toList) = xs := by rw [List.map_map]; exact (List.map_congr_left fun l _ => by simp).trans (List.map_id xs)
    have key := Tryd.strings_Join b o cap (xs.map fun l => ⟨l.toArray⟩) ⟨sep.toArray⟩ w (fun j x hj => by
      rw [List.getElem?_map] at hj
      obtain ⟨y, hy, rfl⟩ := Option.map_eq_some_iff.1 hj
      obtain ⟨hj', rfl⟩ := List.getElem?_eq_some_iff.1 hy
      exact hc j hj') hb (by rw [List.length_map]; omega) (by rw [List.length_map]; exact h1) (by rw [e1]; show (Lib.join xs sep.toArray.toList).length ≤ _; simp; omega)
    rw [List.length_map, e1] at key
    refine key.mono ?_
    rintro e w' ⟨rfl, hb'⟩
    exact ⟨rfl, hb'⟩
theorem dec_any (w : World) {n : Int} (h0 : 0 ≤ n) (h1 : n < 100) : Calls Tryd.prog 25 #[.int .i64 n] w fun e w' => e = .returned (.string ⟨(decB n).toArray⟩) ∧ w = w' := by
  obtain ⟨k, rfl⟩ : ∃ k : Nat, n = k := ⟨n.toNat, by omega⟩
  have HK : Hid (Lib.decDigits k = decB k) := rfl
  go_enter Tryd.func25, Tryd.ntmps25
  go_wp2_with (go_at_call 46; refine (Tryd.strconv_FormatInt_10_small k (by omega) _).mono ?_; rintro e w' ⟨rfl, rfl⟩)
  go_ret
  exact ⟨by rw [HK.out]; rfl, rfl⟩
theorem digits_any (w : World) {v : Value} {xs : List Int} (h : intsT.Rd w [v] xs) (hx : ∀ a ∈ xs, 0 ≤ a ∧ a < 100) (hl : xs.length ≤ 1000) :
    Calls Tryd.prog 33 #[v] w fun e w' => e = .returned (.string ⟨(catL decB [] xs).toArray⟩) ∧ w = w' := by
  obtain ⟨ad, cap, hv, -, -, hc⟩ := ints_ex h
  obtain rfl : v = _ := by simpa using hv
  clear h hv
  go_enter Tryd.func33, Tryd.ntmps33
  go_wp2_with fail
  go_loopw [3, 8] (fun c i wr => ∃ k : Nat, k ≤ xs.length ∧ i = .int .i64 k ∧ c = .string ⟨(catL decB [] (xs.take k)).toArray⟩ ∧ wr = w) (fun _ i _ => xs.length - (intOf i).toNat)
  case atStart => exact ⟨0, Nat.zero_le _, rfl, by simp [catL], rfl⟩
  case round =>
    obtain ⟨k, hk, rfl, rfl, rfl⟩ := hrel
    by_cases hkl : k < xs.length
    · obtain ⟨b, o, rfl, hb, hce⟩ := hc (by omega)
      obtain ⟨hI, hck⟩ := hce k hkl
      have hin := hx _ (List.getElem_mem hkl)
      have HS := Lib.hid (catL_succ (f := decB) (hd := []) hkl)
      have hlen := catL_len (f := decB) (hd := []) (xs := xs.take k) (B := 2) fun y hy => (dec_len (hx y (List.mem_of_mem_take hy)).2).2
      have hl1 := dec_len hin.2
      rw [List.length_take] at hlen
      generalize hz : xs[k] = z at *
      have hlen' : (catL decB [] (xs.take k)).length ≤ 10000 := by simp at hlen; omega
      generalize catL decB [] (xs.take k) = C at *
      have hadd : ∀ W : World, (Op.stringOp .add ⟨C.toArray⟩ ⟨(decB z).toArray⟩).run Tryd.prog W = .ok (.string ⟨(cat C (decB z)).toArray⟩) W := fun W => add_cat W _ _ (by omega)
      clear hz hlen hlen' hl1 hce
      go_wp2_with (go_at_call 25; refine (dec_any _ hin.1 hin.2).mono ?_; rintro e w' ⟨rfl, rfl⟩)
      go_roundw
      case rel => exact ⟨k + 1, by omega, by go_num, by rw [HS.out], trivial⟩
      case measure => simp [intOf]; omega
    · obtain rfl : k = xs.length := by omega
      have HF : Hid (xs.take xs.length = xs) := List.take_length
      go_wp2_with fail
      go_ret
      exact ⟨by rw [HF.out]; rfl, rfl⟩
set_option maxRecDepth 100000 in
theorem spaced_any (w : World) {v : Value} {xs : List Int} (h : intsT.Rd w [v] xs) (hx : ∀ a ∈ xs, 0 ≤ a ∧ a < 100) (hl : xs.length ≤ 1000) (hj : (Lib.join (xs.map decB) [32]).length ≤ 1000000000) :
    Calls Tryd.prog 26 #[v] w fun e w' => e = .returned (.string ⟨(Lib.join (xs.map decB) [32]).toArray⟩) ∧ Below w.heap.size w w' := by
  obtain ⟨ad, cap, hv, -, -, hc⟩ := ints_ex h
  obtain rfl : v = _ := by simpa using hv
  have HJ := Lib.hid hj
  clear h hv hj
  go_enter Tryd.func26, Tryd.ntmps26
  go_wp2_with fail
  go_loopw [3, 9] (fun c i wr => ∃ k : Nat, k ≤ xs.length ∧ i = .int .i64 k ∧ Bl Ty.str 9 w.heap.size wr.heap.size wr c ((xs.map decB).take k) ∧ Below w.heap.size w wr) (fun _ i _ => xs.length - (intOf i).toNat)
  case atStart => exact ⟨0, Nat.zero_le _, rfl, by simpa using Bl.lit0 (E := Ty.str) (e := 9) (w := w) (Nat.le_refl _), bA⟩
  case round =>
    obtain ⟨k, hk, rfl, hBl, hbel⟩ := hrel
    have HB := Lib.hid hBl
    have hze := hbel.size
    have hkn : ((xs.map decB).take k).length ≤ 1000 := by rw [List.length_take]; omega
    clear hBl
    by_cases hkl : k < xs.length
    · obtain ⟨b, o, rfl, hb, hce⟩ := hc (by omega)
      obtain ⟨hI, hck⟩ := hce k hkl
      have hin := hx _ (List.getElem_mem hkl)
      have c0 := (cellB hbel hb).trans hck
      have HS : Hid ((xs.map decB).take k ++ [decB xs[k]] = (xs.map decB).take (k + 1)) := by
        have h1 : k < (xs.map decB).length := by simpa using hkl
        have := take_snoc h1
        rw [List.getElem_map] at this
        exact this
      generalize hz : xs[k] = z at *
      clear hz hck hce
      go_wp2_with (first | (go_at_call 25; refine (dec_any _ hin.1 hin.2).mono ?_; rintro e w' ⟨rfl, rfl⟩) | (at_builtin; go_loud (refine wpList_push (E := Ty.str) _ rfl _ _ 66 9 rfl elStr rfl (HB.out.below bA (Nat.le_refl _)) rfl news1 fr_str (by omega) (by decide) hbel.size (by simp) ?_; intro v1 w1 hB1 hg1 _)))
      have hb1 : RowKit.Below w.heap.size w w1 := (hbel.alloc hbel.size _).grown hg1 (by simp; omega) (fun q hq => HB.out.own hq)
      rw [HS.out] at hB1
      have HB1 := Lib.hid hB1
      clear hB1 hg1 c0
      go_wp2_with fail
      go_roundw
      case rel => exact ⟨k + 1, by omega, by go_num, HB1.out, hb1⟩
      case measure => simp [intOf]; omega
    · obtain rfl : k = xs.length := by omega
      have HF := Lib.hid (HB.out.fr (by unfold capMax; omega)).rd
      have HT : Hid ((xs.map decB).take xs.length = xs.map decB) := List.take_of_length_le (by simp)
      unfold Hid at HF
      rw [HT.out] at HF
      obtain ⟨ac, cc, rfl⟩ := rd_slice HF
      rw [List.length_map] at HF
      have HF' := Lib.hid HF
      clear HF HB hkn
      go_wp2_with (go_at_call 34; refine (Join_any _ HF'.out [32] HJ.out).mono ?_; rintro e w2 ⟨rfl, hb2⟩)
      go_ret
      exact ⟨rfl, bthen hbel hb2⟩
theorem cvt_at (W : World) (b : Nat) {n : Int} (h0 : 0 ≤ n) (h1 : n < 10) (hc : W.cell? ⟨b, 0, none⟩ = some (.int .u8 (48 + n))) : (convert 89 9 (.slice (some ⟨b, 0, none⟩) 1 1)).run Tryd.prog W = .ok (.string ⟨(decB n).toArray⟩) W := by
  have e := dec_one h0 h1
  have hl : (decB n).length = 1 := by rw [e]; rfl
  have := run_convert_bytes_back (P := Tryd.prog) W 89 9 5 ⟨b, 0, none⟩ 1 (decB n) Tryd.underlying89 Tryd.underlying5 Tryd.underlying9 (fun j hj => by
    rw [hl] at hj
    obtain rfl : j = 0 := by omega
    have e2 : (((decB n)[0]).toNat : Int) = 48 + n := by
      simp only [e, List.getElem_cons_zero]
      rw [UInt8.toNat_ofNat_of_lt' (by show 48 + n.toNat < 256; omega)]
      omega
    rw [e2]
    exact hc)
  rw [hl] at this
  exact this
theorem cvt_dec (w : World) {n : Int} (h0 : 0 ≤ n) (h1 : n < 10) : (convert 89 9 (.slice (some ⟨w.heap.size, 0, none⟩) 1 1)).run Tryd.prog (w.alloc (.cells #[.int .u8 (48 + n)] 5)) = .ok (.string ⟨(decB n).toArray⟩) (w.alloc (.cells #[.int .u8 (48 + n)] 5)) :=
  cvt_at _ _ h0 h1 (by simp [go_sem])
set_option maxHeartbeats 1600000 in
set_option maxRecDepth 100000 in
theorem Decimal1_any (w : World) {n : Int} (h0 : 0 ≤ n) (h1 : n < 10) : Calls Tryd.prog 40 #[.int .i64 n] w fun e w' => e = .returned (.string ⟨(decB n).toArray⟩) ∧ Below w.heap.size w w' := by
  have HC := cvt_dec w h0 h1
  go_enter Tryd.func40, Tryd.ntmps40
  go_wp2_with fail
  go_ret
  exact ⟨rfl, bA⟩
set_option maxHeartbeats 1600000 in
set_option maxRecDepth 100000 in
theorem Decimal_any (w : World) {n : Int} (h0 : 0 ≤ n) (h1 : n ≤ 10) : Calls Tryd.prog 40 #[.int .i64 n] w fun e w' => e = .returned (.string ⟨(decB n).toArray⟩) ∧ Below w.heap.size w w' := by
  rcases ilt n 10 with h | h
  · exact Decimal1_any w h0 h
  obtain rfl : n = 10 := by omega
  have HD : Hid (cat (decB 1) (decB 0) = decB 10) := ((dec_two (n := 10) (by omega) (by omega)).trans (by rw [show (10 : Int) / 10 = 1 by decide, show (10 : Int) % 10 = 0 by decide, dec_one (n := 0) (by omega) (by omega)])).symm
  have hcv : ∀ (W : World) (b : Nat), W.cell? ⟨b, 0, none⟩ = some (.int .u8 48) → (convert 89 9 (.slice (some ⟨b, 0, none⟩) 1 1)).run Tryd.prog W = .ok (.string ⟨(decB 0).toArray⟩) W := fun W b hc => cvt_at W b (n := 0) (by omega) (by omega) hc
  have hadd : ∀ W : World, (Op.stringOp .add ⟨(decB 1).toArray⟩ ⟨(decB 0).toArray⟩).run Tryd.prog W = .ok (.string ⟨(cat (decB 1) (decB 0)).toArray⟩) W := fun W => add_cat W _ _ (by have := @dec_len 1 (by omega); have := @dec_len 0 (by omega); omega)
  clear h h0 h1
  go_enter Tryd.func40, Tryd.ntmps40
  go_wp2_with fail
  have hw1 : IntKind.i64.wrap 1 = 1 := by decide
  have hw2 : IntKind.i64.wrap 48 = 48 := by decide
  have hw3 : IntKind.u8.wrap 48 = 48 := by decide
  have hc0 : ∀ W : World, (convert 89 9 (.slice (some ⟨W.heap.size, 0, none⟩) 1 1)).run Tryd.prog (W.alloc (.cells #[.int .u8 48] 5)) = .ok (.string ⟨(decB 0).toArray⟩) (W.alloc (.cells #[.int .u8 48] 5)) := fun W => hcv _ _ (by simp [go_sem])
  have hE : ∀ W : World, RowKit.Below (w.drew.alloc (.cells #[.int .u8 48] 5)).heap.size (w.drew.alloc (.cells #[.int .u8 48] 5)) W → (convert 89 9 (.slice (some ⟨w.heap.size, 0, none⟩) 1 1)).run Tryd.prog W = .ok (.string ⟨(decB 0).toArray⟩) W := fun W h => hcv W _ ((cellB h (by simp)).trans (by simp [go_sem]))
  have hE' : ∀ W : World, RowKit.Below (w.alloc (.cells #[.int .u8 48] 5)).drew.heap.size (w.alloc (.cells #[.int .u8 48] 5)).drew W → (convert 89 9 (.slice (some ⟨w.heap.size, 0, none⟩) 1 1)).run Tryd.prog W = .ok (.string ⟨(decB 0).toArray⟩) W := fun W h => hcv W _ ((cellB h (by simp)).trans (by simp [go_sem]))
  have HE := Lib.hid hE
  have HE' := Lib.hid hE'
  have hcd := hcv (w.alloc (.cells #[.int .u8 48] 5)).drew w.heap.size (by simp [go_sem])
  have hcd' := hcv (w.drew.alloc (.cells #[.int .u8 48] 5)) w.heap.size (by simp [go_sem])
  clear hE hE' hcv
  go_region_with (go_at_call 40; refine (Decimal1_any _ (n := 1) (by omega) (by omega)).mono ?_; rintro e w1 ⟨rfl, hb1⟩; first | (have hc1 := HE.out _ hb1) | (have hc1 := HE'.out _ hb1) | skip)
  all_goals
    go_wp2_with fail
    go_ret
    exact ⟨by rw [HD.out]; rfl, by first | exact bthen bD (bthen hb1 bA) | exact bthen (bthen bD bA) hb1 | exact bthen (bthen bA bD) hb1⟩
end Go.Proofs.YtjghcedmlklngaaDoor
namespace Go.Proofs.YtjghcedmlklngaaDoor
open Go.RowKit Go.Sort
theorem pure_below {P : Program} {f : FuncId} {args : Array Value} {w : World} {v : Value} (h : Calls P f args w fun e w' => e = .returned v ∧ w = w') :
    Calls P f args w fun e w' => e = .returned v ∧ Below w.heap.size w w' := h.mono fun _ _ ⟨he, hw⟩ => ⟨he, hw ▸ Below.refl _ _⟩
end Go.Proofs.YtjghcedmlklngaaDoor
namespace Go.Proofs.YtjghcedmlklngaaDoor
open Go.RowKit Go.Sort
/-- what stands in a text may be written: its relation, its places -/
def shC (v lo : Int) (c : Int × List Int) : Prop := (lo ≤ c.1 ∧ c.1 ≤ 5) ∧ (1 ≤ (c.2.length : Int) ∧ (c.2.length : Int) ≤ 4) ∧ rowOk v c.2.length c.2
def shI (x : Int × List (Int × List Int)) : Prop := (1 ≤ x.1 ∧ x.1 ≤ 10) ∧ x.2.length ≤ 24 ∧ ∀ c ∈ x.2, shC x.1 0 c
def shF (f : Int × Int × List (Int × List Int)) : Prop := frameOk f ∧ ∀ a ∈ f.2.2, shC f.2.1 (-1) a
def txC (c : Int × List Int) : List UInt8 := cat (catL (fun a => cat [32] (decB a)) (decB c.1) c.2) [10]
def txH (v : Int) : List UInt8 := cat (cat [105, 110, 115, 116, 97, 110, 99, 101, 32] (decB v)) [10]
def txI (x : Int × List (Int × List Int)) : List UInt8 := catL txC (txH x.1) x.2
noncomputable def itV (x : Int × List (Int × List Int)) : List UInt8 := match tb (shI x) with
  | true => txI x
  | false => []
theorem it_no {x : Int × List (Int × List Int)} (h : ¬ shI x) : itV x = [] := by unfold itV; rw [tb_false h]
theorem it_yes {x : Int × List (Int × List Int)} (h : shI x) : itV x = txI x := by unfold itV; rw [tb_true h]
def atP (a : Int × List Int) : List UInt8 := match a.1 == -1 with
  | true => [32, 61, 58]
  | false => cat (cat [32, 82] (decB a.1)) [58]
def atT (a : Int × List Int) : List UInt8 := catL decB (atP a) a.2
def fmH (f : Int × Int × List (Int × List Int)) : List UInt8 := cat (cat (cat [102, 111, 114, 109, 117, 108, 97, 32] (decB f.1)) [32]) (decB f.2.1)
def txF (f : Int × Int × List (Int × List Int)) : List UInt8 := catL atT (fmH f) f.2.2
noncomputable def ftV (f : Int × Int × List (Int × List Int)) : List UInt8 := match tb (shF f) with
  | true => txF f
  | false => []
theorem ft_no {x : Int × Int × List (Int × List Int)} (h : ¬ shF x) : ftV x = [] := by unfold ftV; rw [tb_false h]
theorem ft_yes {x : Int × Int × List (Int × List Int)} (h : shF x) : ftV x = txF x := by unfold ftV; rw [tb_true h]
theorem shC_dec {v lo : Int} {c : Int × List Int} (h : shC v lo c) (hv : v ≤ 10) : ∀ a ∈ c.2, 0 ≤ a ∧ a < 10 := fun a ha => by
  have := h.2.2.2 a ha
  omega
theorem txC_len {v lo : Int} {c : Int × List Int} (h : shC v lo c) (hv : v ≤ 10) : (txC c).length ≤ 20 := by
  unfold txC
  rw [cat_len]
  have h1 := catL_len (f := fun a => cat [32] (decB a)) (hd := decB c.1) (xs := c.2) (B := 3) fun a ha => by
    show (cat [32] (decB a)).length ≤ 3
    rw [cat_len]
    have := shC_dec h hv a ha
    have := (@dec_len a (by omega)).2
    simp; omega
  have h2 := (@dec_len c.1 (by have := h.1; omega)).2
  have h3 := h.2.1
  simp only [List.length_cons, List.length_nil]
  omega
theorem txH_len {v : Int} (h : v ≤ 10) : (txH v).length ≤ 20 := by
  unfold txH
  rw [cat_len, cat_len]
  have h2 := (@dec_len v (by omega)).2
  simp only [List.length_cons, List.length_nil]
  omega
theorem txI_len {x : Int × List (Int × List Int)} (h : shI x) (k : Nat) : (catL txC (txH x.1) (x.2.take k)).length ≤ 1000 := by
  have h1 := catL_len (f := txC) (hd := txH x.1) (xs := x.2.take k) (B := 20) fun c hc => txC_len (h.2.2 c (List.mem_of_mem_take hc)) h.1.2
  have h2 := txH_len h.1.2
  have h3 := h.2.1
  rw [List.length_take] at h1
  have : min k x.2.length ≤ 24 := by omega
  omega
theorem join_sp {x : List UInt8} {r : List (List UInt8)} : cat [32] (Lib.join (x :: r) [32]) = ((x :: r).map (cat [32])).flatten := by
  rw [Lib.join_cons]
  unfold Lib.joinTail cat
  simp
theorem join_len {xs : List (List UInt8)} {B : Nat} (h : ∀ x ∈ xs, x.length ≤ B) : (Lib.join xs [32]).length ≤ xs.length * (B + 1) := by
  cases xs with
  | nil => simp [Lib.join, List.intercalate]
  | cons x r =>
    have h1 := congrArg List.length (@join_sp x r)
    rw [cat_len] at h1
    have h2 := flat_len (f := cat [32]) (ys := x :: r) (B := B + 1) fun y hy => by rw [cat_len]; have := h y hy; simp; omega
    omega
/-- a constraint's line as the program puts it together -/
theorem con_join {c : Int × List Int} (h : 1 ≤ (c.2.length : Int)) : cat (cat (cat (decB c.1) [32]) (Lib.join (c.2.map decB) [32])) [10] = txC c := by
  obtain ⟨r, s⟩ := c
  cases s with
  | nil => simp at h
  | cons a s =>
    unfold txC
    have := @join_sp (decB a) (s.map decB)
    simp only [cat, catL] at this ⊢
    simp only [List.map_cons, List.append_assoc] at this ⊢
    rw [List.append_cancel_left_eq, ← List.append_assoc [32], this]
    simp [List.map_map, Function.comp_def, cat]
/-- an atom's word as the program puts it together -/
def wdP (a : Int × List Int) : List UInt8 := match a.1 != -1 with
  | true => cat [82] (decB a.1)
  | false => [61]
def wdT (a : Int × List Int) : List UInt8 := cat (cat (wdP a) [58]) (catL decB [] a.2)
theorem wd_at (a : Int × List Int) : cat [32] (wdT a) = atT a := by
  unfold wdT atT wdP atP
  cases h : (a.1 == -1)
  · simp [bne, h, cat, catL]
  · simp [bne, h, cat, catL]
theorem frm_join (f : Int × Int × List (Int × List Int)) : Lib.join ([102, 111, 114, 109, 117, 108, 97] :: decB f.1 :: decB f.2.1 :: f.2.2.map wdT) [32] = txF f := by
  rw [Lib.join_cons]
  unfold Lib.joinTail txF fmH
  have : (f.2.2.map wdT).map (fun x => ([32] : List UInt8) ++ x) = f.2.2.map atT := by
    rw [List.map_map]
    exact List.map_congr_left fun a _ => wd_at a
  simp only [List.map_cons, List.flatten_cons]
  rw [this]
  simp [cat, catL]
theorem atP_len {a : Int × List Int} (h : a.1 ≤ 5) : (atP a).length ≤ 10 := by
  unfold atP
  split
  · simp
  · rw [cat_len, cat_len]
    have h2 := (@dec_len a.1 (by omega)).2
    simp only [List.length_cons, List.length_nil]
    omega
theorem atT_len {v lo : Int} {c : Int × List Int} (h : shC v lo c) (hv : v ≤ 10) : (atT c).length ≤ 20 := by
  unfold atT
  have h1 := catL_len (f := decB) (hd := atP c) (xs := c.2) (B := 2) fun a ha => by
    have := shC_dec h hv a ha
    exact (@dec_len a (by omega)).2
  have h2 := atP_len (a := c) h.1.2
  have h3 := h.2.1
  omega
theorem wdT_len {v lo : Int} {c : Int × List Int} (h : shC v lo c) (hv : v ≤ 10) : (wdT c).length ≤ 20 := by
  have h1 := congrArg List.length (wd_at c)
  have h2 := atT_len h hv
  rw [cat_len] at h1
  omega
theorem fmH_len {f : Int × Int × List (Int × List Int)} (h : frameOk f) : (fmH f).length ≤ 20 := by
  unfold fmH
  rw [cat_len, cat_len, cat_len]
  have h1 := (@dec_len f.1 (by have := h.1; omega)).2
  have h2 := (@dec_len f.2.1 (by have := h.2.1; omega)).2
  simp only [List.length_cons, List.length_nil]
  omega
theorem shF_v {f : Int × Int × List (Int × List Int)} (h : frameOk f) : 0 ≤ f.1 ∧ f.1 ≤ 4 ∧ 0 ≤ f.2.1 ∧ f.2.1 ≤ 8 ∧ f.2.2.length ≤ 16 := by
  obtain ⟨h1, h2, h3⟩ := h
  omega
theorem txF_len {f : Int × Int × List (Int × List Int)} (h : shF f) (k : Nat) : (catL atT (fmH f) (f.2.2.take k)).length ≤ 1000 := by
  have h0 := shF_v h.1
  have h1 := catL_len (f := atT) (hd := fmH f) (xs := f.2.2.take k) (B := 20) fun c hc => atT_len (h.2 c (List.mem_of_mem_take hc)) (by omega)
  have h2 := fmH_len h.1
  rw [List.length_take] at h1
  have : min k f.2.2.length ≤ 16 := by omega
  omega
set_option maxHeartbeats 1600000 in
set_option maxRecDepth 100000 in
theorem InstanceText1_any (w : World) {cs : Array Value} {c : Int × List Int} (h : opT.Rd w cs.toList c) {vx : Value} {x : Int × List (Int × List Int)} (hxp : instT.Pt w vx x) (h0 : 0 ≤ x.1) (h1 : x.1 ≤ 1000000000000) :
    Calls Tryd.prog 21 #[.agg cs, vx] w fun e w' => e = .returned (.bool (!tb (shC x.1 0 c))) ∧ Below w.heap.size w w' := by
  obtain ⟨u, hv, hI, hu⟩ := pair_ex h
  obtain rfl := agg_of hv
  obtain ⟨ad, cap, rfl⟩ := rd_slice hu
  obtain ⟨b, o, ad', cap', rfl, hb, -, c0, c1, -⟩ := pt_pair hxp
  have e0 : ∀ q, (w.alloc q).cell? ⟨b, o, none⟩ = some (.int .i64 x.1) := fun q => (cellB bA hb).trans c0
  have HU := Lib.hid hu
  clear h hv hxp hu c0 c1
  cases h2 : inB c.1 0 5
  · have HR : Hid (true = !tb (shC x.1 0 c)) := by
      unfold Hid
      rw [tb_false fun hh => by have := inB_true.2 hh.1; rw [h2] at this; cases this]; rfl
    go_enter Tryd.func21, Tryd.ntmps21
    go_wp2_with (go_at_call 22; refine (within_any _ _ _ _).mono ?_; rintro e w' ⟨rfl, rfl⟩; rw [h2])
    go_ret
    exact ⟨ret_bool HR.out, bA⟩
  cases h3 : inB (c.2.length : Int) 1 4
  · have HR : Hid (true = !tb (shC x.1 0 c)) := by
      unfold Hid
      rw [tb_false fun hh => by have := inB_true.2 hh.2.1; rw [h3] at this; cases this]; rfl
    go_enter Tryd.func21, Tryd.ntmps21
    go_wp2_with (first | (go_at_call 22; refine (within_any _ _ _ _).mono ?_; rintro e w' ⟨rfl, rfl⟩; rw [h2]) | (go_at_call 23; refine (isArity_any _ _).mono ?_; rintro e w' ⟨rfl, rfl⟩; rw [h3]))
    go_ret
    exact ⟨ret_bool HR.out, bA⟩
  have HR : Hid ((!tb (rowOk x.1 c.2.length c.2)) = !tb (shC x.1 0 c)) := by
    unfold Hid
    congr 1
    exact tb_congr ⟨fun hh => ⟨inB_true.1 h2, inB_true.1 h3, hh⟩, fun hh => hh.2.2⟩
  go_enter Tryd.func21, Tryd.ntmps21
  go_wp2_with (first | (go_at_call 22; refine (within_any _ _ _ _).mono ?_; rintro e w' ⟨rfl, rfl⟩; rw [h2]) | (go_at_call 23; refine (isArity_any _ _).mono ?_; rintro e w' ⟨rfl, rfl⟩; rw [h3]) | (go_at_call 24; refine (areValues_any _ (HU.out.below bA) _ _ h0 h1).mono ?_; rintro e w1 ⟨rfl, hb1⟩))
  go_ret
  exact ⟨ret_bool HR.out, bthen bA hb1⟩
set_option maxHeartbeats 1600000 in
set_option maxRecDepth 100000 in
theorem isWritten1_any (w : World) {cs : Array Value} {c : Int × List Int} (h : opT.Rd w cs.toList c) {vx : Value} {x : Int × Int × List (Int × List Int)} (hxp : frmT.Pt w vx x) (h0 : 0 ≤ x.2.1) (h1 : x.2.1 ≤ 1000000000000) :
    Calls Tryd.prog 53 #[.agg cs, vx] w fun e w' => e = .returned (.bool (!tb (shC x.2.1 (-1) c))) ∧ Below w.heap.size w w' := by
  have hc := h
  obtain ⟨u, hv, hI, hu⟩ := pair_ex h
  obtain rfl := agg_of hv
  obtain ⟨ad, cap, rfl⟩ := rd_slice hu
  obtain ⟨b, o, ad', cap', rfl, hb, -, -, c0, c1, c2, -⟩ := pt_trip hxp
  have e0 : ∀ q, (w.alloc q).cell? ⟨b, o + 1, none⟩ = some (.int .i64 x.2.1) := fun q => (cellB bA hb).trans c1
  have HC := Lib.hid hc
  clear h hv hxp hu c0 c1 c2 hc
  cases h2 : inB c.1 (-1) 5
  · have HR : Hid (true = !tb (shC x.2.1 (-1) c)) := by
      unfold Hid
      rw [tb_false fun hh => by have := inB_true.2 hh.1; rw [h2] at this; cases this]; rfl
    go_enter Tryd.func53, Tryd.ntmps53
    go_wp2_with (go_at_call 22; refine (within_any _ _ _ _).mono ?_; rintro e w' ⟨rfl, rfl⟩; rw [h2])
    go_ret
    exact ⟨ret_bool HR.out, bA⟩
  cases h3 : inB (c.2.length : Int) 1 4
  · have HR : Hid (true = !tb (shC x.2.1 (-1) c)) := by
      unfold Hid
      rw [tb_false fun hh => by have := inB_true.2 hh.2.1; rw [h3] at this; cases this]; rfl
    go_enter Tryd.func53, Tryd.ntmps53
    go_wp2_with (first | (go_at_call 22; refine (within_any _ _ _ _).mono ?_; rintro e w' ⟨rfl, rfl⟩; rw [h2]) | (go_at_call 23; refine (isArity_any _ _).mono ?_; rintro e w' ⟨rfl, rfl⟩; rw [h3]))
    go_ret
    exact ⟨ret_bool HR.out, bA⟩
  have HR : Hid ((!tb (rowOk x.2.1 c.2.length c.2)) = !tb (shC x.2.1 (-1) c)) := by
    unfold Hid
    congr 1
    exact tb_congr ⟨fun hh => ⟨inB_true.1 h2, inB_true.1 h3, hh⟩, fun hh => hh.2.2⟩
  go_enter Tryd.func53, Tryd.ntmps53
  go_wp2_with (first | (go_at_call 22; refine (within_any _ _ _ _).mono ?_; rintro e w' ⟨rfl, rfl⟩; rw [h2]) | (go_at_call 23; refine (isArity_any _ _).mono ?_; rintro e w' ⟨rfl, rfl⟩; rw [h3]) | (go_at_call 54; refine (isAtom_any _ (cs := #[.int .i64 c.1, .slice ad c.2.length cap]) (HC.out.below bA) _ _ h0 h1).mono ?_; rintro e w1 ⟨rfl, hb1⟩))
  go_ret
  exact ⟨ret_bool HR.out, bthen bA hb1⟩
end Go.Proofs.YtjghcedmlklngaaDoor
