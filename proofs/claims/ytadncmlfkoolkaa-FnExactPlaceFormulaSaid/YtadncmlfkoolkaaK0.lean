/-
  Contracts of the smallest functions: tests on numbers.
-/
import Derived.Test.YtadncmlfkoolkaaBase
import Derived.Test.YtadncmlfkoolkaaRows
namespace Go.Proofs.Ytadncmlfkoolkaa
open Go.RowKit
theorem l00In_any (a lo hi : Int) (w : World) : Calls Try.prog 55 #[.int .i64 a, .int .i64 lo, .int .i64 hi] w fun e w' => e = .returned (.bool (inB a lo hi)) ∧ w = w' := by
  go_enter Try.func55, Try.ntmps55
  go_wp2
  all_goals
    go_ret
    exact ⟨ret_bool (by first | rw [inB_le (by assumption)] | rw [inB_lt (by assumption)]), rfl⟩
theorem within_any (a lo hi : Int) (w : World) : Calls Try.prog 59 #[.int .i64 a, .int .i64 lo, .int .i64 hi] w fun e w' => e = .returned (.bool (inB a lo hi)) ∧ w = w' := by
  go_enter Try.func59, Try.ntmps59
  go_wp2
  all_goals
    go_ret
    exact ⟨ret_bool (by first | rw [inB_le (by assumption)] | rw [inB_lt (by assumption)]), rfl⟩
theorem l00Min_any (a b : Int) (w : World) : Calls Try.prog 85 #[.int .i64 a, .int .i64 b] w fun e w' => e = .returned (.int .i64 (min a b)) ∧ w = w' := by
  go_enter Try.func85, Try.ntmps85
  go_wp2
  all_goals
    go_ret
    exact ⟨ret_int (by omega), rfl⟩
theorem l00Max_any (a b : Int) (w : World) : Calls Try.prog 84 #[.int .i64 a, .int .i64 b] w fun e w' => e = .returned (.int .i64 (max a b)) ∧ w = w' := by
  go_enter Try.func84, Try.ntmps84
  go_wp2
  all_goals
    go_ret
    exact ⟨ret_int (by omega), rfl⟩
theorem isVars_any (a : Int) (w : World) : Calls Try.prog 126 #[.int .i64 a] w fun e w' => e = .returned (.bool (inB a 1 10)) ∧ w = w' := by
  go_enter Try.func126, Try.ntmps126
  go_wp2_with (go_at_call 59; refine (within_any _ _ _ _).mono ?_; rintro e w' ⟨rfl, rfl⟩)
  go_ret
  exact ⟨rfl, rfl⟩
theorem isSize_any (a : Int) (w : World) : Calls Try.prog 108 #[.int .i64 a] w fun e w' => e = .returned (.bool (inB a 1 4)) ∧ w = w' := by
  go_enter Try.func108, Try.ntmps108
  go_wp2_with (go_at_call 59; refine (within_any _ _ _ _).mono ?_; rintro e w' ⟨rfl, rfl⟩)
  go_ret
  exact ⟨rfl, rfl⟩
theorem isArity_any (a : Int) (w : World) : Calls Try.prog 98 #[.int .i64 a] w fun e w' => e = .returned (.bool (inB a 1 4)) ∧ w = w' := by
  go_enter Try.func98, Try.ntmps98
  go_wp2_with (go_at_call 59; refine (within_any _ _ _ _).mono ?_; rintro e w' ⟨rfl, rfl⟩)
  go_ret
  exact ⟨rfl, rfl⟩
theorem l01Size_any (a : Int) (w : World) : Calls Try.prog 106 #[.int .i64 a] w fun e w' => e = .returned (.bool (inB a 1 4)) ∧ w = w' := by
  go_enter Try.func106, Try.ntmps106
  go_wp2_with (go_at_call 55; refine (l00In_any _ _ _ _).mono ?_; rintro e w' ⟨rfl, rfl⟩)
  go_ret
  exact ⟨rfl, rfl⟩
theorem l01Arity_any (a : Int) (w : World) : Calls Try.prog 91 #[.int .i64 a] w fun e w' => e = .returned (.bool (inB a 1 4)) ∧ w = w' := by
  go_enter Try.func91, Try.ntmps91
  go_wp2_with (go_at_call 55; refine (l00In_any _ _ _ _).mono ?_; rintro e w' ⟨rfl, rfl⟩)
  go_ret
  exact ⟨rfl, rfl⟩
theorem isValue_any (size a : Int) (w : World) (h0 : 0 ≤ size) (h1 : size ≤ 1000000000000) : Calls Try.prog 131 #[.int .i64 size, .int .i64 a] w fun e w' => e = .returned (.bool (inB a 0 (size - 1))) ∧ w = w' := by
  go_enter Try.func131, Try.ntmps131
  go_wp2_with (go_at_call 59; refine (within_any _ _ _ _).mono ?_; rintro e w' ⟨rfl, rfl⟩)
  go_ret
  exact ⟨rfl, rfl⟩
theorem isOpArity_any (a : Int) (w : World) : Calls Try.prog 117 #[.int .i64 a] w fun e w' => e = .returned (.bool (inB a 1 3)) ∧ w = w' := by
  go_enter Try.func117, Try.ntmps117
  go_wp2_with (go_at_call 59; refine (within_any _ _ _ _).mono ?_; rintro e w' ⟨rfl, rfl⟩)
  go_ret
  exact ⟨rfl, rfl⟩
theorem l02Arity_any (a : Int) (w : World) : Calls Try.prog 114 #[.int .i64 a] w fun e w' => e = .returned (.bool (inB a 1 3)) ∧ w = w' := by
  go_enter Try.func114, Try.ntmps114
  go_wp2_with (go_at_call 55; refine (l00In_any _ _ _ _).mono ?_; rintro e w' ⟨rfl, rfl⟩)
  go_ret
  exact ⟨rfl, rfl⟩
end Go.Proofs.Ytadncmlfkoolkaa
