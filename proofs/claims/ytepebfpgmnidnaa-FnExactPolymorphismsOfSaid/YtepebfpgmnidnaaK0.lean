/-
  Contracts of the smallest functions: tests on numbers.
-/
import Derived.Test.YtepebfpgmnidnaaBase
import Derived.Test.YtepebfpgmnidnaaRows
namespace Go.Proofs.Ytepebfpgmnidnaa
open Go.RowKit
theorem l00In_any (a lo hi : Int) (w : World) : Calls Try.prog 101 #[.int .i64 a, .int .i64 lo, .int .i64 hi] w fun e w' => e = .returned (.bool (inB a lo hi)) ∧ w = w' := by
  go_enter Try.func101, Try.ntmps101
  go_wp2
  all_goals
    go_ret
    exact ⟨ret_bool (by first | rw [inB_le (by assumption)] | rw [inB_lt (by assumption)]), rfl⟩
theorem within_any (a lo hi : Int) (w : World) : Calls Try.prog 184 #[.int .i64 a, .int .i64 lo, .int .i64 hi] w fun e w' => e = .returned (.bool (inB a lo hi)) ∧ w = w' := by
  go_enter Try.func184, Try.ntmps184
  go_wp2
  all_goals
    go_ret
    exact ⟨ret_bool (by first | rw [inB_le (by assumption)] | rw [inB_lt (by assumption)]), rfl⟩
theorem l00Min_any (a b : Int) (w : World) : Calls Try.prog 128 #[.int .i64 a, .int .i64 b] w fun e w' => e = .returned (.int .i64 (min a b)) ∧ w = w' := by
  go_enter Try.func128, Try.ntmps128
  go_wp2
  all_goals
    go_ret
    exact ⟨ret_int (by omega), rfl⟩
theorem l00Max_any (a b : Int) (w : World) : Calls Try.prog 129 #[.int .i64 a, .int .i64 b] w fun e w' => e = .returned (.int .i64 (max a b)) ∧ w = w' := by
  go_enter Try.func129, Try.ntmps129
  go_wp2
  all_goals
    go_ret
    exact ⟨ret_int (by omega), rfl⟩
theorem isSize_any (a : Int) (w : World) : Calls Try.prog 166 #[.int .i64 a] w fun e w' => e = .returned (.bool (inB a 1 4)) ∧ w = w' := by
  go_enter Try.func166, Try.ntmps166
  go_wp2_with (go_at_call 184; refine (within_any _ _ _ _).mono ?_; rintro e w' ⟨rfl, rfl⟩)
  go_ret
  exact ⟨rfl, rfl⟩
theorem isArity_any (a : Int) (w : World) : Calls Try.prog 158 #[.int .i64 a] w fun e w' => e = .returned (.bool (inB a 1 4)) ∧ w = w' := by
  go_enter Try.func158, Try.ntmps158
  go_wp2_with (go_at_call 184; refine (within_any _ _ _ _).mono ?_; rintro e w' ⟨rfl, rfl⟩)
  go_ret
  exact ⟨rfl, rfl⟩
theorem l01Size_any (a : Int) (w : World) : Calls Try.prog 182 #[.int .i64 a] w fun e w' => e = .returned (.bool (inB a 1 4)) ∧ w = w' := by
  go_enter Try.func182, Try.ntmps182
  go_wp2_with (go_at_call 101; refine (l00In_any _ _ _ _).mono ?_; rintro e w' ⟨rfl, rfl⟩)
  go_ret
  exact ⟨rfl, rfl⟩
theorem l01Arity_any (a : Int) (w : World) : Calls Try.prog 153 #[.int .i64 a] w fun e w' => e = .returned (.bool (inB a 1 4)) ∧ w = w' := by
  go_enter Try.func153, Try.ntmps153
  go_wp2_with (go_at_call 101; refine (l00In_any _ _ _ _).mono ?_; rintro e w' ⟨rfl, rfl⟩)
  go_ret
  exact ⟨rfl, rfl⟩
theorem isValue_any (size a : Int) (w : World) (h0 : 0 ≤ size) (h1 : size ≤ 1000000000000) : Calls Try.prog 172 #[.int .i64 size, .int .i64 a] w fun e w' => e = .returned (.bool (inB a 0 (size - 1))) ∧ w = w' := by
  go_enter Try.func172, Try.ntmps172
  go_wp2_with (go_at_call 184; refine (within_any _ _ _ _).mono ?_; rintro e w' ⟨rfl, rfl⟩)
  go_ret
  exact ⟨rfl, rfl⟩
theorem isOpArity_any (a : Int) (w : World) : Calls Try.prog 157 #[.int .i64 a] w fun e w' => e = .returned (.bool (inB a 1 3)) ∧ w = w' := by
  go_enter Try.func157, Try.ntmps157
  go_wp2_with (go_at_call 184; refine (within_any _ _ _ _).mono ?_; rintro e w' ⟨rfl, rfl⟩)
  go_ret
  exact ⟨rfl, rfl⟩
theorem l02Arity_any (a : Int) (w : World) : Calls Try.prog 152 #[.int .i64 a] w fun e w' => e = .returned (.bool (inB a 1 3)) ∧ w = w' := by
  go_enter Try.func152, Try.ntmps152
  go_wp2_with (go_at_call 101; refine (l00In_any _ _ _ _).mono ?_; rintro e w' ⟨rfl, rfl⟩)
  go_ret
  exact ⟨rfl, rfl⟩
end Go.Proofs.Ytepebfpgmnidnaa
