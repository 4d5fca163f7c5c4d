/-
  Contracts of the smallest functions: tests on numbers.
-/
import Derived.Test.YtbpjejhjlmpcjaaGreatBase
import Derived.Test.YtbpjejhjlmpcjaaGreatRows
namespace Go.Proofs.YtbpjejhjlmpcjaaGreat
open Go.RowKit
theorem l00In_any (a lo hi : Int) (w : World) : Calls Tryz.prog 86 #[.int .i64 a, .int .i64 lo, .int .i64 hi] w fun e w' => e = .returned (.bool (inB a lo hi)) ∧ w = w' := by
  go_enter Tryz.func86, Tryz.ntmps86
  go_wp2
  all_goals
    go_ret
    exact ⟨ret_bool (by first | rw [inB_le (by assumption)] | rw [inB_lt (by assumption)]), rfl⟩
theorem within_any (a lo hi : Int) (w : World) : Calls Tryz.prog 96 #[.int .i64 a, .int .i64 lo, .int .i64 hi] w fun e w' => e = .returned (.bool (inB a lo hi)) ∧ w = w' := by
  go_enter Tryz.func96, Tryz.ntmps96
  go_wp2
  all_goals
    go_ret
    exact ⟨ret_bool (by first | rw [inB_le (by assumption)] | rw [inB_lt (by assumption)]), rfl⟩
theorem l00Max_any (a b : Int) (w : World) : Calls Tryz.prog 106 #[.int .i64 a, .int .i64 b] w fun e w' => e = .returned (.int .i64 (max a b)) ∧ w = w' := by
  go_enter Tryz.func106, Tryz.ntmps106
  go_wp2
  all_goals
    go_ret
    exact ⟨ret_int (by omega), rfl⟩
theorem isSize_any (a : Int) (w : World) : Calls Tryz.prog 91 #[.int .i64 a] w fun e w' => e = .returned (.bool (inB a 1 4)) ∧ w = w' := by
  go_enter Tryz.func91, Tryz.ntmps91
  go_wp2_with (go_at_call 96; refine (within_any _ _ _ _).mono ?_; rintro e w' ⟨rfl, rfl⟩)
  go_ret
  exact ⟨rfl, rfl⟩
theorem isArity_any (a : Int) (w : World) : Calls Tryz.prog 95 #[.int .i64 a] w fun e w' => e = .returned (.bool (inB a 1 4)) ∧ w = w' := by
  go_enter Tryz.func95, Tryz.ntmps95
  go_wp2_with (go_at_call 96; refine (within_any _ _ _ _).mono ?_; rintro e w' ⟨rfl, rfl⟩)
  go_ret
  exact ⟨rfl, rfl⟩
theorem l01Size_any (a : Int) (w : World) : Calls Tryz.prog 84 #[.int .i64 a] w fun e w' => e = .returned (.bool (inB a 1 4)) ∧ w = w' := by
  go_enter Tryz.func84, Tryz.ntmps84
  go_wp2_with (go_at_call 86; refine (l00In_any _ _ _ _).mono ?_; rintro e w' ⟨rfl, rfl⟩)
  go_ret
  exact ⟨rfl, rfl⟩
theorem l01Arity_any (a : Int) (w : World) : Calls Tryz.prog 85 #[.int .i64 a] w fun e w' => e = .returned (.bool (inB a 1 4)) ∧ w = w' := by
  go_enter Tryz.func85, Tryz.ntmps85
  go_wp2_with (go_at_call 86; refine (l00In_any _ _ _ _).mono ?_; rintro e w' ⟨rfl, rfl⟩)
  go_ret
  exact ⟨rfl, rfl⟩
theorem isValue_any (size a : Int) (w : World) (h0 : 0 ≤ size) (h1 : size ≤ 1000000000000) : Calls Tryz.prog 111 #[.int .i64 size, .int .i64 a] w fun e w' => e = .returned (.bool (inB a 0 (size - 1))) ∧ w = w' := by
  go_enter Tryz.func111, Tryz.ntmps111
  go_wp2_with (go_at_call 96; refine (within_any _ _ _ _).mono ?_; rintro e w' ⟨rfl, rfl⟩)
  go_ret
  exact ⟨rfl, rfl⟩
end Go.Proofs.YtbpjejhjlmpcjaaGreat
