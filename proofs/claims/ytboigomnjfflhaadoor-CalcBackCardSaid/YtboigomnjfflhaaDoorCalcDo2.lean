/- Layer 3: calc.Do, operator by operator. Condition: the numbers are ints. -/
import Derived.Test.YtboigomnjfflhaaDoorCalcDiv
set_option linter.unusedVariables false
namespace Go.Proofs.YtboigomnjfflhaaDoor
open Go.RowKit

theorem do_8 (a b : Int) (ha : -9223372036854775808 ≤ a ∧ a ≤ 9223372036854775807) (hb : -9223372036854775808 ≤ b ∧ b ≤ 9223372036854775807) (w : World) :
    Calls Tryd.prog 10 #[.int .i64 8, .int .i64 a, .int .i64 b] w fun e w' => e = .returned (.tuple #[.int .i64 (calcDo 8 a b).1, .int .i64 (calcDo 8 a b).2]) ∧ w = w' := by
  have hc : calcDo 8 a b = (tr (decide (b < a)), 0) := by simp [calcDo]
  rw [hc]
  clear hc ha hb
  go_enter Tryd.func10, Tryd.ntmps10
  go_wp2_with (first | (go_at_call 20; refine (truth_any _ _).mono ?_; rintro e w1 ⟨rfl, rfl⟩) | (go_at_call 21; refine (turned_any _ _).mono ?_; rintro e w1 ⟨rfl, rfl⟩))
  go_ret2
  exact ⟨rfl, rfl⟩
theorem do_9 (a b : Int) (ha : -9223372036854775808 ≤ a ∧ a ≤ 9223372036854775807) (hb : -9223372036854775808 ≤ b ∧ b ≤ 9223372036854775807) (w : World) :
    Calls Tryd.prog 10 #[.int .i64 9, .int .i64 a, .int .i64 b] w fun e w' => e = .returned (.tuple #[.int .i64 (calcDo 9 a b).1, .int .i64 (calcDo 9 a b).2]) ∧ w = w' := by
  have hc : calcDo 9 a b = (tr (decide (b ≤ a)), 0) := by simp [calcDo]
  rw [hc]
  clear hc ha hb
  go_enter Tryd.func10, Tryd.ntmps10
  go_wp2_with (first | (go_at_call 20; refine (truth_any _ _).mono ?_; rintro e w1 ⟨rfl, rfl⟩) | (go_at_call 21; refine (turned_any _ _).mono ?_; rintro e w1 ⟨rfl, rfl⟩))
  go_ret2
  exact ⟨ret2 (by exact congrArg (fun p => Value.int .i64 (tr p)) (not_lt a b)) rfl, rfl⟩
theorem do_10 (a b : Int) (ha : -9223372036854775808 ≤ a ∧ a ≤ 9223372036854775807) (hb : -9223372036854775808 ≤ b ∧ b ≤ 9223372036854775807) (w : World) :
    Calls Tryd.prog 10 #[.int .i64 10, .int .i64 a, .int .i64 b] w fun e w' => e = .returned (.tuple #[.int .i64 (calcDo 10 a b).1, .int .i64 (calcDo 10 a b).2]) ∧ w = w' := by
  have hc : calcDo 10 a b = (tr (a == b), 0) := by simp [calcDo]
  rw [hc]
  clear hc ha hb
  go_enter Tryd.func10, Tryd.ntmps10
  go_wp2_with (first | (go_at_call 20; refine (truth_any _ _).mono ?_; rintro e w1 ⟨rfl, rfl⟩) | (go_at_call 21; refine (turned_any _ _).mono ?_; rintro e w1 ⟨rfl, rfl⟩))
  go_ret2
  exact ⟨rfl, rfl⟩
theorem do_11 (a b : Int) (ha : -9223372036854775808 ≤ a ∧ a ≤ 9223372036854775807) (hb : -9223372036854775808 ≤ b ∧ b ≤ 9223372036854775807) (w : World) :
    Calls Tryd.prog 10 #[.int .i64 11, .int .i64 a, .int .i64 b] w fun e w' => e = .returned (.tuple #[.int .i64 (calcDo 11 a b).1, .int .i64 (calcDo 11 a b).2]) ∧ w = w' := by
  have hc : calcDo 11 a b = (tr (a != b), 0) := by simp [calcDo]
  rw [hc]
  clear hc ha hb
  go_enter Tryd.func10, Tryd.ntmps10
  go_wp2_with (first | (go_at_call 20; refine (truth_any _ _).mono ?_; rintro e w1 ⟨rfl, rfl⟩) | (go_at_call 21; refine (turned_any _ _).mono ?_; rintro e w1 ⟨rfl, rfl⟩))
  go_ret2
  exact ⟨rfl, rfl⟩
theorem do_12 (a b : Int) (ha : -9223372036854775808 ≤ a ∧ a ≤ 9223372036854775807) (hb : -9223372036854775808 ≤ b ∧ b ≤ 9223372036854775807) (w : World) :
    Calls Tryd.prog 10 #[.int .i64 12, .int .i64 a, .int .i64 b] w fun e w' => e = .returned (.tuple #[.int .i64 (calcDo 12 a b).1, .int .i64 (calcDo 12 a b).2]) ∧ w = w' := by
  have hc : calcDo 12 a b = (tr (a != 0 && b != 0), 0) := by simp [calcDo]
  rw [hc]
  have hx := and_tr (a != 0) (b != 0)
  clear hc ha hb
  go_enter Tryd.func10, Tryd.ntmps10
  go_wp2_with (first | (go_at_call 20; refine (truth_any _ _).mono ?_; rintro e w1 ⟨rfl, rfl⟩) | (go_at_call 21; refine (turned_any _ _).mono ?_; rintro e w1 ⟨rfl, rfl⟩))
  go_ret2
  exact ⟨rfl, rfl⟩
theorem do_13 (a b : Int) (ha : -9223372036854775808 ≤ a ∧ a ≤ 9223372036854775807) (hb : -9223372036854775808 ≤ b ∧ b ≤ 9223372036854775807) (w : World) :
    Calls Tryd.prog 10 #[.int .i64 13, .int .i64 a, .int .i64 b] w fun e w' => e = .returned (.tuple #[.int .i64 (calcDo 13 a b).1, .int .i64 (calcDo 13 a b).2]) ∧ w = w' := by
  have hc : calcDo 13 a b = (tr (a != 0 || b != 0), 0) := by simp [calcDo]
  rw [hc]
  have hx := or_ne a b ha hb
  clear hc ha hb
  go_enter Tryd.func10, Tryd.ntmps10
  go_wp2_with (first | (go_at_call 20; refine (truth_any _ _).mono ?_; rintro e w1 ⟨rfl, rfl⟩) | (go_at_call 21; refine (turned_any _ _).mono ?_; rintro e w1 ⟨rfl, rfl⟩))
  go_ret2
  exact ⟨rfl, rfl⟩
end Go.Proofs.YtboigomnjfflhaaDoor
