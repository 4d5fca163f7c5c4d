/-
  Contracts of the smallest functions: tests on numbers.
-/
import Derived.Test.YtiffaeiiodmnfaaBase
import Derived.Test.YtiffaeiiodmnfaaRows
namespace Go.Proofs.Ytiffaeiiodmnfaa
open Go.RowKit
theorem l00In_any (a lo hi : Int) (w : World) : Calls Try.prog 27 #[.int .i64 a, .int .i64 lo, .int .i64 hi] w fun e w' => e = .returned (.bool (inB a lo hi)) ∧ w = w' := by
  go_enter Try.func27, Try.ntmps27
  go_wp2
  all_goals
    go_ret
    exact ⟨ret_bool (by first | rw [inB_le (by assumption)] | rw [inB_lt (by assumption)]), rfl⟩
theorem within_any (a lo hi : Int) (w : World) : Calls Try.prog 32 #[.int .i64 a, .int .i64 lo, .int .i64 hi] w fun e w' => e = .returned (.bool (inB a lo hi)) ∧ w = w' := by
  go_enter Try.func32, Try.ntmps32
  go_wp2
  all_goals
    go_ret
    exact ⟨ret_bool (by first | rw [inB_le (by assumption)] | rw [inB_lt (by assumption)]), rfl⟩
theorem l00Min_any (a b : Int) (w : World) : Calls Try.prog 29 #[.int .i64 a, .int .i64 b] w fun e w' => e = .returned (.int .i64 (min a b)) ∧ w = w' := by
  go_enter Try.func29, Try.ntmps29
  go_wp2
  all_goals
    go_ret
    exact ⟨ret_int (by omega), rfl⟩
theorem l00Max_any (a b : Int) (w : World) : Calls Try.prog 30 #[.int .i64 a, .int .i64 b] w fun e w' => e = .returned (.int .i64 (max a b)) ∧ w = w' := by
  go_enter Try.func30, Try.ntmps30
  go_wp2
  all_goals
    go_ret
    exact ⟨ret_int (by omega), rfl⟩
theorem isVars_any (a : Int) (w : World) : Calls Try.prog 31 #[.int .i64 a] w fun e w' => e = .returned (.bool (inB a 1 10)) ∧ w = w' := by
  go_enter Try.func31, Try.ntmps31
  go_wp2_with (go_at_call 32; refine (within_any _ _ _ _).mono ?_; rintro e w' ⟨rfl, rfl⟩)
  go_ret
  exact ⟨rfl, rfl⟩
theorem isSize_any (a : Int) (w : World) : Calls Try.prog 73 #[.int .i64 a] w fun e w' => e = .returned (.bool (inB a 1 4)) ∧ w = w' := by
  go_enter Try.func73, Try.ntmps73
  go_wp2_with (go_at_call 32; refine (within_any _ _ _ _).mono ?_; rintro e w' ⟨rfl, rfl⟩)
  go_ret
  exact ⟨rfl, rfl⟩
theorem isArity_any (a : Int) (w : World) : Calls Try.prog 84 #[.int .i64 a] w fun e w' => e = .returned (.bool (inB a 1 4)) ∧ w = w' := by
  go_enter Try.func84, Try.ntmps84
  go_wp2_with (go_at_call 32; refine (within_any _ _ _ _).mono ?_; rintro e w' ⟨rfl, rfl⟩)
  go_ret
  exact ⟨rfl, rfl⟩
theorem l01Size_any (a : Int) (w : World) : Calls Try.prog 91 #[.int .i64 a] w fun e w' => e = .returned (.bool (inB a 1 4)) ∧ w = w' := by
  go_enter Try.func91, Try.ntmps91
  go_wp2_with (go_at_call 27; refine (l00In_any _ _ _ _).mono ?_; rintro e w' ⟨rfl, rfl⟩)
  go_ret
  exact ⟨rfl, rfl⟩
theorem l01Arity_any (a : Int) (w : World) : Calls Try.prog 97 #[.int .i64 a] w fun e w' => e = .returned (.bool (inB a 1 4)) ∧ w = w' := by
  go_enter Try.func97, Try.ntmps97
  go_wp2_with (go_at_call 27; refine (l00In_any _ _ _ _).mono ?_; rintro e w' ⟨rfl, rfl⟩)
  go_ret
  exact ⟨rfl, rfl⟩
theorem isValue_any (size a : Int) (w : World) (h0 : 0 ≤ size) (h1 : size ≤ 1000000000000) : Calls Try.prog 80 #[.int .i64 size, .int .i64 a] w fun e w' => e = .returned (.bool (inB a 0 (size - 1))) ∧ w = w' := by
  go_enter Try.func80, Try.ntmps80
  go_wp2_with (go_at_call 32; refine (within_any _ _ _ _).mono ?_; rintro e w' ⟨rfl, rfl⟩)
  go_ret
  exact ⟨rfl, rfl⟩
def pix (i j : Int) : Int := (max i j) * (max i j - 1) / 2 + min i j
theorem mul_bd (a : Int) (h : 0 ≤ a) (h' : a ≤ 100) : 0 ≤ a * (a - 1) ∧ a * (a - 1) ≤ 9900 := by
  rcases (show a = 0 ∨ 1 ≤ a by omega) with rfl | h1
  · simp
  · exact ⟨Int.mul_nonneg h (by omega), Int.le_trans (Int.mul_le_mul h' (show a - 1 ≤ 99 by omega) (by omega) (by omega)) (by omega)⟩
theorem pix_arith (m q : Int) (h0 : 0 ≤ m) (h1 : m ≤ 100) (h2 : 0 ≤ q) (h3 : q ≤ 100) : wrap64 (wrap64 ((wrap64 (m * (m - 1))).tdiv 2) + q) = m * (m - 1) / 2 + q := by
  have h := mul_bd m h0 h1
  generalize m * (m - 1) = p at *
  rw [IntWalk.wrap64_in p ⟨by omega, by omega⟩, Int.tdiv_eq_ediv_of_nonneg h.1, IntWalk.wrap64_in (p / 2) ⟨by omega, by omega⟩, IntWalk.wrap64_in _ ⟨by omega, by omega⟩]
theorem pairIndex_any (i j : Int) (w : World) (h0 : 0 ≤ i) (h1 : i ≤ 100) (h2 : 0 ≤ j) (h3 : j ≤ 100) : Calls Try.prog 33 #[.int .i64 i, .int .i64 j] w fun e w' => e = .returned (.int .i64 (pix i j)) ∧ w = w' := by
  go_enter Try.func33, Try.ntmps33
  go_wp2
  all_goals
    go_ret
    refine ⟨ret_int ?_, rfl⟩
    unfold pix
    rw [pix_arith _ _ (by omega) (by omega) (by omega) (by omega)]
    rcases Int.lt_trichotomy i j with h | rfl | h <;> simp only [Int.max_def, Int.min_def] <;> first | (exfalso; omega) | (simp only [Int.le_refl, if_true]; done) | (rw [if_pos (by omega), if_pos (by omega)]) | (rw [if_neg (by omega), if_neg (by omega)]) | (exfalso; omega)
theorem l05Index_any (i j : Int) (w : World) (h0 : 0 ≤ i) (h1 : i ≤ 100) (h2 : 0 ≤ j) (h3 : j ≤ 100) : Calls Try.prog 28 #[.int .i64 i, .int .i64 j] w fun e w' => e = .returned (.int .i64 (j * (j - 1) / 2 + i)) ∧ w = w' := by
  go_enter Try.func28, Try.ntmps28
  go_wp2
  go_ret
  exact ⟨ret_int (pix_arith _ _ h2 h3 h0 h1), rfl⟩
def pixOk (n i j : Int) : Bool := inB n 1 10 && inB i 0 (n - 1) && inB j 0 (n - 1) && !(i == j)
theorem ret_two {a b c d : Int} (h : a = c) (h' : b = d) : Ending.returned (.tuple #[.int .i64 a, .int .i64 b]) = .returned (.tuple #[.int .i64 c, .int .i64 d]) := by rw [h, h']
def pixV (n i j : Int) : Int := if pixOk n i j then pix i j else 0
def pixC (n i j : Int) : Int := if pixOk n i j then 0 else 2
theorem pix_no {n i j : Int} (h : pixOk n i j = false) : Ending.returned (.tuple #[.int .i64 0, .int .i64 2]) = .returned (.tuple #[.int .i64 (pixV n i j), .int .i64 (pixC n i j)]) := by simp [pixV, pixC, h]
theorem pix_yes {n i j : Int} (h : pixOk n i j = true) : Ending.returned (.tuple #[.int .i64 (pix i j), .int .i64 0]) = .returned (.tuple #[.int .i64 (pixV n i j), .int .i64 (pixC n i j)]) := by simp [pixV, pixC, h]
theorem implPairIndex_any (n i j : Int) (w : World) : Calls Try.prog 9 #[.int .i64 n, .int .i64 i, .int .i64 j] w fun e w' =>
    e = .returned (.tuple #[.int .i64 (pixV n i j), .int .i64 (pixC n i j)]) ∧ w = w' := by
  cases hn : inB n 1 10
  · go_enter Try.func9, Try.ntmps9
    go_wp2_with (first | (go_at_call 31; refine (isVars_any _ _).mono ?_; rintro e w' ⟨rfl, rfl⟩))
    go_ret2
    exact ⟨pix_no (by simp [pixOk, hn]), rfl⟩
  have hn' := inB_true.1 hn
  cases hi : inB i 0 (n - 1)
  · go_enter Try.func9, Try.ntmps9
    go_wp2_with (first | (go_at_call 32; refine (within_any _ _ _ _).mono ?_; rintro e w' ⟨rfl, rfl⟩) | (go_at_call 31; refine (isVars_any _ _).mono ?_; rintro e w' ⟨rfl, rfl⟩))
    go_ret2
    exact ⟨pix_no (by simp [pixOk, hi]), rfl⟩
  cases hj : inB j 0 (n - 1)
  · go_enter Try.func9, Try.ntmps9
    go_wp2_with (first | (go_at_call 32; refine (within_any _ _ _ _).mono ?_; rintro e w' ⟨rfl, rfl⟩) | (go_at_call 31; refine (isVars_any _ _).mono ?_; rintro e w' ⟨rfl, rfl⟩))
    go_ret2
    exact ⟨pix_no (by simp [pixOk, hj]), rfl⟩
  have hi' := inB_true.1 hi
  have hj' := inB_true.1 hj
  cases he : (i == j) <;> go_enter Try.func9, Try.ntmps9 <;>
  go_wp2_with (first | (go_at_call 32; refine (within_any _ _ _ _).mono ?_; rintro e w' ⟨rfl, rfl⟩) | (go_at_call 31; refine (isVars_any _ _).mono ?_; rintro e w' ⟨rfl, rfl⟩) | (go_at_call 33; refine (pairIndex_any _ _ _ (by omega) (by omega) (by omega) (by omega)).mono ?_; rintro e w' ⟨rfl, rfl⟩))
  · go_ret2
    exact ⟨pix_yes (by simp [pixOk, hn, hi, hj, he]), rfl⟩
  · go_ret2
    exact ⟨pix_no (by simp [pixOk, he]), rfl⟩
theorem specPairIndex_any (n i j : Int) (w : World) : Calls Try.prog 8 #[.int .i64 n, .int .i64 i, .int .i64 j] w fun e w' =>
    e = .returned (.tuple #[.int .i64 (pixV n i j), .int .i64 (pixC n i j)]) ∧ w = w' := by
  cases hn : inB n 1 10
  · go_enter Try.func8, Try.ntmps8
    go_wp2_with (first | (go_at_call 27; refine (l00In_any _ _ _ _).mono ?_; rintro e w' ⟨rfl, rfl⟩))
    go_ret2
    exact ⟨pix_no (by simp [pixOk, hn]), rfl⟩
  have hn' := inB_true.1 hn
  cases hi : inB i 0 (n - 1)
  · go_enter Try.func8, Try.ntmps8
    go_wp2_with (first | (go_at_call 27; refine (l00In_any _ _ _ _).mono ?_; rintro e w' ⟨rfl, rfl⟩))
    go_ret2
    exact ⟨pix_no (by simp [pixOk, hi]), rfl⟩
  cases hj : inB j 0 (n - 1)
  · go_enter Try.func8, Try.ntmps8
    go_wp2_with (first | (go_at_call 27; refine (l00In_any _ _ _ _).mono ?_; rintro e w' ⟨rfl, rfl⟩))
    go_ret2
    exact ⟨pix_no (by simp [pixOk, hj]), rfl⟩
  have hi' := inB_true.1 hi
  have hj' := inB_true.1 hj
  cases he : (i == j) <;> go_enter Try.func8, Try.ntmps8 <;>
  go_wp2_with (first | (go_at_call 27; refine (l00In_any _ _ _ _).mono ?_; rintro e w' ⟨rfl, rfl⟩) | (go_at_call 29; refine (l00Min_any _ _ _).mono ?_; rintro e w' ⟨rfl, rfl⟩) | (go_at_call 30; refine (l00Max_any _ _ _).mono ?_; rintro e w' ⟨rfl, rfl⟩) | (go_at_call 28; refine (l05Index_any _ _ _ (by omega) (by omega) (by omega) (by omega)).mono ?_; rintro e w' ⟨rfl, rfl⟩))
  · go_ret2
    exact ⟨pix_yes (by simp [pixOk, hn, hi, hj, he]), rfl⟩
  · go_ret2
    exact ⟨pix_no (by simp [pixOk, he]), rfl⟩
theorem fnExactPairIndex_any (w : World) {n i j : Int} (_ : I64 n) (_ : I64 i) (_ : I64 j) : Calls Try.prog 3 #[.int .i64 n, .int .i64 i, .int .i64 j] w fun e w' => e = .returned (.bool true) ∧ Below w.heap.size w w' := by
  go_enter Try.func3, Try.ntmps3
  go_wp2_with (first | (go_at_call 8; refine (specPairIndex_any _ _ _ _).mono ?_; rintro e w' ⟨rfl, rfl⟩) | (go_at_call 9; refine (implPairIndex_any _ _ _ _).mono ?_; rintro e w' ⟨rfl, rfl⟩))
  go_ret
  exact ⟨rfl, Below.refl _ _⟩
end Go.Proofs.Ytiffaeiiodmnfaa
