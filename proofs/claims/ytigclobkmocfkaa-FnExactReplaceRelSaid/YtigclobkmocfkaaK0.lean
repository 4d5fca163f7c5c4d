/-
  Contracts of the smallest functions: tests on numbers.
-/
import Derived.Test.YtigclobkmocfkaaBase
import Derived.Test.YtigclobkmocfkaaRows
namespace Go.Proofs.Ytigclobkmocfkaa
open Go.RowKit
theorem l00In_any (a lo hi : Int) (w : World) : Calls Try.prog 79 #[.int .i64 a, .int .i64 lo, .int .i64 hi] w fun e w' => e = .returned (.bool (inB a lo hi)) ∧ w = w' := by
  go_enter Try.func79, Try.ntmps79
  go_wp2
  all_goals
    go_ret
    exact ⟨ret_bool (by first | rw [inB_le (by assumption)] | rw [inB_lt (by assumption)]), rfl⟩
theorem within_any (a lo hi : Int) (w : World) : Calls Try.prog 85 #[.int .i64 a, .int .i64 lo, .int .i64 hi] w fun e w' => e = .returned (.bool (inB a lo hi)) ∧ w = w' := by
  go_enter Try.func85, Try.ntmps85
  go_wp2
  all_goals
    go_ret
    exact ⟨ret_bool (by first | rw [inB_le (by assumption)] | rw [inB_lt (by assumption)]), rfl⟩
theorem l00Min_any (a b : Int) (w : World) : Calls Try.prog 81 #[.int .i64 a, .int .i64 b] w fun e w' => e = .returned (.int .i64 (min a b)) ∧ w = w' := by
  go_enter Try.func81, Try.ntmps81
  go_wp2
  all_goals
    go_ret
    exact ⟨ret_int (by omega), rfl⟩
theorem l00Max_any (a b : Int) (w : World) : Calls Try.prog 80 #[.int .i64 a, .int .i64 b] w fun e w' => e = .returned (.int .i64 (max a b)) ∧ w = w' := by
  go_enter Try.func80, Try.ntmps80
  go_wp2
  all_goals
    go_ret
    exact ⟨ret_int (by omega), rfl⟩
theorem isVars_any (a : Int) (w : World) : Calls Try.prog 168 #[.int .i64 a] w fun e w' => e = .returned (.bool (inB a 1 10)) ∧ w = w' := by
  go_enter Try.func168, Try.ntmps168
  go_wp2_with (go_at_call 85; refine (within_any _ _ _ _).mono ?_; rintro e w' ⟨rfl, rfl⟩)
  go_ret
  exact ⟨rfl, rfl⟩
theorem isSize_any (a : Int) (w : World) : Calls Try.prog 155 #[.int .i64 a] w fun e w' => e = .returned (.bool (inB a 1 4)) ∧ w = w' := by
  go_enter Try.func155, Try.ntmps155
  go_wp2_with (go_at_call 85; refine (within_any _ _ _ _).mono ?_; rintro e w' ⟨rfl, rfl⟩)
  go_ret
  exact ⟨rfl, rfl⟩
theorem isArity_any (a : Int) (w : World) : Calls Try.prog 93 #[.int .i64 a] w fun e w' => e = .returned (.bool (inB a 1 4)) ∧ w = w' := by
  go_enter Try.func93, Try.ntmps93
  go_wp2_with (go_at_call 85; refine (within_any _ _ _ _).mono ?_; rintro e w' ⟨rfl, rfl⟩)
  go_ret
  exact ⟨rfl, rfl⟩
theorem l01Size_any (a : Int) (w : World) : Calls Try.prog 150 #[.int .i64 a] w fun e w' => e = .returned (.bool (inB a 1 4)) ∧ w = w' := by
  go_enter Try.func150, Try.ntmps150
  go_wp2_with (go_at_call 79; refine (l00In_any _ _ _ _).mono ?_; rintro e w' ⟨rfl, rfl⟩)
  go_ret
  exact ⟨rfl, rfl⟩
theorem l01Arity_any (a : Int) (w : World) : Calls Try.prog 90 #[.int .i64 a] w fun e w' => e = .returned (.bool (inB a 1 4)) ∧ w = w' := by
  go_enter Try.func90, Try.ntmps90
  go_wp2_with (go_at_call 79; refine (l00In_any _ _ _ _).mono ?_; rintro e w' ⟨rfl, rfl⟩)
  go_ret
  exact ⟨rfl, rfl⟩
theorem isValue_any (size a : Int) (w : World) (h0 : 0 ≤ size) (h1 : size ≤ 1000000000000) : Calls Try.prog 212 #[.int .i64 size, .int .i64 a] w fun e w' => e = .returned (.bool (inB a 0 (size - 1))) ∧ w = w' := by
  go_enter Try.func212, Try.ntmps212
  go_wp2_with (go_at_call 85; refine (within_any _ _ _ _).mono ?_; rintro e w' ⟨rfl, rfl⟩)
  go_ret
  exact ⟨rfl, rfl⟩
theorem isOpArity_any (a : Int) (w : World) : Calls Try.prog 159 #[.int .i64 a] w fun e w' => e = .returned (.bool (inB a 1 3)) ∧ w = w' := by
  go_enter Try.func159, Try.ntmps159
  go_wp2_with (go_at_call 85; refine (within_any _ _ _ _).mono ?_; rintro e w' ⟨rfl, rfl⟩)
  go_ret
  exact ⟨rfl, rfl⟩
theorem l02Arity_any (a : Int) (w : World) : Calls Try.prog 151 #[.int .i64 a] w fun e w' => e = .returned (.bool (inB a 1 3)) ∧ w = w' := by
  go_enter Try.func151, Try.ntmps151
  go_wp2_with (go_at_call 79; refine (l00In_any _ _ _ _).mono ?_; rintro e w' ⟨rfl, rfl⟩)
  go_ret
  exact ⟨rfl, rfl⟩
end Go.Proofs.Ytigclobkmocfkaa
