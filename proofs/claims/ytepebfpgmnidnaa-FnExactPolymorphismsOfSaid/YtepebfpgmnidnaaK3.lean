/-
  Contracts: lists of values, valid relations and templates, in the program and in the reference.
-/
import Derived.Test.YtepebfpgmnidnaaKL
import Derived.Test.YtepebfpgmnidnaaPl
import Derived.Test.YtepebfpgmnidnaaLoose
namespace Go.Proofs.Ytepebfpgmnidnaa
open Go.RowKit Go.Sort
theorem isNaN_any (x : Int) (w : World) : Calls Try.prog 199 #[.int .i64 x] w fun e w' => e = .returned (.bool false) ∧ w = w' := by
  go_enter Try.func199, Try.ntmps199
  go_wp2_with fail
  go_ret
  exact ⟨ret_bool (by simp), rfl⟩
theorem cmpCompare_any (x y : Int) (w : World) : Calls Try.prog 196 #[.int .i64 x, .int .i64 y] w fun e w' => e = .returned (.int .i64 (cmpI x y)) ∧ w = w' := by
  rcases ilt x y with h | h
  · go_enter Try.func196, Try.ntmps196
    go_wp2_with (go_at_call 199; refine (isNaN_any _ _).mono ?_; rintro e w' ⟨rfl, rfl⟩)
    go_ret
    exact ⟨ret_int (cmpI_lt h).symm, rfl⟩
  · rcases ilt y x with h' | h'
    · go_enter Try.func196, Try.ntmps196
      go_wp2_with (go_at_call 199; refine (isNaN_any _ _).mono ?_; rintro e w' ⟨rfl, rfl⟩)
      go_ret
      exact ⟨ret_int (cmpI_gt h').symm, rfl⟩
    · go_enter Try.func196, Try.ntmps196
      go_wp2_with (go_at_call 199; refine (isNaN_any _ _).mono ?_; rintro e w' ⟨rfl, rfl⟩)
      go_ret
      exact ⟨ret_int (cmpI_eq (by omega)).symm, rfl⟩
set_option maxHeartbeats 400000 in
theorem Compare_any (w : World) {v u : Value} {xs ys : List Int} (h : intsT.Rd w [v] xs) (h' : intsT.Rd w [u] ys) :
    Calls Try.prog 181 #[v, u] w fun e w' => e = .returned (.int .i64 (cmpL xs ys)) ∧ w = w' := by
  obtain ⟨ad, cap, hv, hl, hc, hcell⟩ := ints_ex h
  obtain ⟨ad', cap', hv', hl', hc', hcell'⟩ := ints_ex h'
  obtain rfl : v = _ := by simpa using hv
  obtain rfl : u = _ := by simpa using hv'
  clear h hv h' hv'
  go_enter Try.func181, Try.ntmps181
  go_wp2_with fail
  go_loop [11] (fun i => ∃ k : Nat, k ≤ xs.length ∧ k ≤ ys.length ∧ i = .int .i64 k ∧ xs.take k = ys.take k) (fun i => xs.length - (intOf i).toNat)
  case atStart => exact ⟨0, Nat.zero_le _, Nat.zero_le _, rfl, rfl⟩
  case round =>
    obtain ⟨k, hk, hk', rfl, ht⟩ := hrel
    have HT := Lib.hid ht
    clear ht
    by_cases hkl : k < xs.length
    · obtain ⟨b, o, rfl, hb, hce⟩ := hcell (by omega)
      have d0 := (hce k hkl).2
      by_cases hkl' : k < ys.length
      · obtain ⟨b', o', rfl, hb', hce'⟩ := hcell' (by omega)
        have d1 := (hce' k hkl').2
        clear hce hce' hcell hcell'
        by_cases hne : xs[k] = ys[k]
        · have HE := Lib.hid hne
          have hz : cmpI xs[k] ys[k] = 0 := cmpI_eq hne
          clear hne
          go_wp2_with (go_at_call 196; refine (cmpCompare_any _ _ _).mono ?_; rintro e w' ⟨rfl, rfl⟩)
          go_round
          case rel => exact ⟨k + 1, by omega, by omega, by go_num, take_eq_succ hkl hkl' HT.out HE.out⟩
          case measure => simp [intOf]; omega
        · have hz : (cmpI xs[k] ys[k] != 0) = true := by
            rcases ilt xs[k] ys[k] with h | h
            · rw [cmpI_lt h]; rfl
            · rw [cmpI_gt (by omega)]; rfl
          have HC := Lib.hid (cmpL_ne HT.out hkl hkl' hne)
          clear hne
          go_wp2_with (go_at_call 196; refine (cmpCompare_any _ _ _).mono ?_; rintro e w' ⟨rfl, rfl⟩)
          go_ret
          exact ⟨ret_int HC.out.symm, rfl⟩
      · clear hce hcell hcell'
        go_wp2_with fail
        go_ret
        obtain rfl : k = ys.length := by omega
        exact ⟨ret_int (cmpL_more (by have := HT.out; rwa [List.take_length] at this) hkl).symm, rfl⟩
    · obtain rfl : k = xs.length := by omega
      have hq : xs = ys.take xs.length := by have := HT.out; rwa [List.take_length] at this
      have HQ := Lib.hid hq
      clear hq
      by_cases hlt : xs.length < ys.length
      · go_wp2_with fail
        go_ret
        exact ⟨ret_int (cmpL_less HQ.out hlt).symm, rfl⟩
      · go_wp2_with fail
        go_ret
        have e : xs = ys := by have := HQ.out; rwa [List.take_of_length_le (by omega)] at this
        exact ⟨ret_int (by rw [e, cmpL_self]), rfl⟩
theorem areValues1_any (w : World) (size a : Int) (b : Nat) (h0 : 0 ≤ size) (h1 : size ≤ 1000000000000) (hc : w.cell? ⟨b, 0, none⟩ = some (.int .i64 size)) :
    Calls Try.prog 171 #[.int .i64 a, .pointer (some ⟨b, 0, none⟩)] w fun e w' => e = .returned (.bool (!inB a 0 (size - 1))) ∧ Below w.heap.size w w' := by
  go_enter Try.func171, Try.ntmps171
  go_wp2_with (go_at_call 172; refine (isValue_any _ _ _ h0 h1).mono ?_; rintro e w' ⟨rfl, rfl⟩)
  go_ret
  exact ⟨rfl, Below.refl _ _⟩
theorem areValues_any (w : World) {v : Value} {xs : List Int} (h : intsT.Rd w [v] xs) (size many : Int) (h0 : 0 ≤ size) (h1 : size ≤ 1000000000000) :
    Calls Try.prog 103 #[.int .i64 size, v, .int .i64 many] w fun e w' => e = .returned (.bool (tb (rowOk size many xs))) ∧ Below w.heap.size w w' := by
  have hx := h
  obtain ⟨ad, cap, hv, hl, hc, -⟩ := ints_ex h
  obtain rfl : v = _ := by simpa using hv
  clear h hv
  cases hn : (((xs.length : Nat) : Int) == many)
  · go_enter Try.func103, Try.ntmps103
    go_wp2_with fail
    go_ret
    exact ⟨ret_bool (tb_false (fun hr => by simp at hn; exact hn hr.1)).symm, bA⟩
  have HN : Hid ((xs.length : Int) = many) := by simpa [Hid] using hn
  have ha : (!anyB (fun a => !inB a 0 (size - 1)) xs) = tb (rowOk size many xs) := by
    rw [Bool.eq_iff_iff, tb_iff]
    simp only [anyB, rowOk, HN.out, true_and, Bool.not_eq_true', List.any_eq_false, Bool.not_eq_false, inB_true]
  have HA := Lib.hid ha
  clear ha
  go_enter Try.func103, Try.ntmps103
  go_wp2_with fail
  refine (ContainsFuncInt_any _ (hx.below bA) (fun a => !inB a 0 (size - 1)) 171 #[.pointer (some ⟨w.heap.size, 0, none⟩)] (enters Try.func171 (by kernel_rfl) rfl) (fun W hW k hk => areValues1_any W size xs[k] w.heap.size h0 h1 ?_)).mono ?_
  · rw [hW.cell (by simp)]; simp
  rintro e w1 ⟨rfl, hb1⟩
  go_wp2_with fail
  go_ret
  exact ⟨ret_bool HA.out, (by repeat (first | exact Below.refl _ _ | exact bA | assumption | refine Below.setCell ?_ (by first | omega | (simp; try omega)) _ | refine Below.alloc ?_ (by first | omega | (simp; try omega)) _ | refine Below.drew ?_ | refine bDN ?_ | refine bthen ?_ (by assumption)))⟩
theorem l01Tuple_any (size arity : Int) {v : Value} {xs : List Int} (w : World) (h : intsT.Rd w [v] xs) (h0 : 0 ≤ size) (h1 : size ≤ 1000000000000) :
    Calls Try.prog 100 #[.int .i64 size, .int .i64 arity, v] w fun e w' => e = .returned (.bool (tb (rowOk size arity xs))) ∧ w = w' := by
  obtain ⟨ad, cap, hv, hl, hc, hcell⟩ := ints_ex h
  obtain rfl : v = _ := by simpa using hv
  clear h hv
  go_enter Try.func100, Try.ntmps100
  go_wp2_with fail
  go_loop [7] (fun i => ∃ k : Nat, k ≤ xs.length ∧ i = .int .i64 k ∧ noneB (fun a => !inB a 0 (size - 1)) (xs.take k)) (fun i => xs.length - (intOf i).toNat)
  case atStart => exact ⟨0, Nat.zero_le _, rfl, noneB_zero _ _⟩
  case round =>
    obtain ⟨k, hk, rfl, ht⟩ := hrel
    have HT := Lib.hid ht
    clear ht
    by_cases hlt : k < xs.length
    · obtain ⟨b, o, rfl, hb, hce⟩ := hcell (by omega)
      have hck := (hce k hlt).2
      clear hcell hce
      cases hi : inB xs[k] 0 (size - 1)
      · go_wp2_with (go_at_call 101; refine (l00In_any _ _ _ _).mono ?_; rintro e w' ⟨rfl, rfl⟩)
        go_ret
        exact ⟨ret_bool (tb_false (fun hr => by have := inB_true.2 (hr.2 _ (List.getElem_mem hlt)); rw [hi] at this; cases this)).symm, rfl⟩
      · go_wp2_with (go_at_call 101; refine (l00In_any _ _ _ _).mono ?_; rintro e w' ⟨rfl, rfl⟩)
        go_round
        case rel => exact ⟨k + 1, by omega, by go_num, noneB_succ hlt HT.out (by simp [hi])⟩
        case measure => simp [intOf]; omega
    · obtain rfl : k = xs.length := by omega
      have hall : ∀ a ∈ xs, 0 ≤ a ∧ a ≤ size - 1 := fun a ha => by
        have := HT.out a (by rw [List.take_length]; exact ha)
        simpa [inB_true] using this
      have HR : Hid (((xs.length : Int) == arity) = tb (rowOk size arity xs)) := by
        unfold Hid
        rw [Bool.eq_iff_iff, tb_iff]
        simp only [rowOk, beq_iff_eq]
        exact ⟨fun h => ⟨h, hall⟩, fun h => h.1⟩
      clear hall
      go_wp2_with fail
      go_ret
      exact ⟨ret_bool HR.out, rfl⟩
end Go.Proofs.Ytepebfpgmnidnaa
