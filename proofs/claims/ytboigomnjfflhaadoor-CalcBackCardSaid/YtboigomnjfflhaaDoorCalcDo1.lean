/- Layer 3: calc.Do, operator by operator. Condition: the numbers are ints. -/
import Derived.Test.YtboigomnjfflhaaDoorCalcDiv
set_option linter.unusedVariables false
namespace Go.Proofs.YtboigomnjfflhaaDoor
open Go.RowKit

theorem do_1 (a b : Int) (ha : -9223372036854775808 ≤ a ∧ a ≤ 9223372036854775807) (hb : -9223372036854775808 ≤ b ∧ b ≤ 9223372036854775807) (w : World) :
    Calls Tryd.prog 10 #[.int .i64 1, .int .i64 a, .int .i64 b] w fun e w' => e = .returned (.tuple #[.int .i64 (calcDo 1 a b).1, .int .i64 (calcDo 1 a b).2]) ∧ w = w' := by
  have hc : calcDo 1 a b = (wrap64 (a + b), 0) := by simp [calcDo]
  rw [hc]
  clear hc ha hb
  go_enter Tryd.func10, Tryd.ntmps10
  go_wp2
  go_ret2
  exact ⟨rfl, rfl⟩
theorem do_2 (a b : Int) (ha : -9223372036854775808 ≤ a ∧ a ≤ 9223372036854775807) (hb : -9223372036854775808 ≤ b ∧ b ≤ 9223372036854775807) (w : World) :
    Calls Tryd.prog 10 #[.int .i64 2, .int .i64 a, .int .i64 b] w fun e w' => e = .returned (.tuple #[.int .i64 (calcDo 2 a b).1, .int .i64 (calcDo 2 a b).2]) ∧ w = w' := by
  have hc : calcDo 2 a b = (wrap64 (a - b), 0) := by simp [calcDo]
  rw [hc]
  clear hc ha hb
  go_enter Tryd.func10, Tryd.ntmps10
  go_wp2
  go_ret2
  exact ⟨rfl, rfl⟩
theorem do_3 (a b : Int) (ha : -9223372036854775808 ≤ a ∧ a ≤ 9223372036854775807) (hb : -9223372036854775808 ≤ b ∧ b ≤ 9223372036854775807) (w : World) :
    Calls Tryd.prog 10 #[.int .i64 3, .int .i64 a, .int .i64 b] w fun e w' => e = .returned (.tuple #[.int .i64 (calcDo 3 a b).1, .int .i64 (calcDo 3 a b).2]) ∧ w = w' := by
  have hc : calcDo 3 a b = (wrap64 (a * b), 0) := by simp [calcDo]
  rw [hc]
  clear hc ha hb
  go_enter Tryd.func10, Tryd.ntmps10
  go_wp2
  go_ret2
  exact ⟨rfl, rfl⟩
theorem do_6 (a b : Int) (ha : -9223372036854775808 ≤ a ∧ a ≤ 9223372036854775807) (hb : -9223372036854775808 ≤ b ∧ b ≤ 9223372036854775807) (w : World) :
    Calls Tryd.prog 10 #[.int .i64 6, .int .i64 a, .int .i64 b] w fun e w' => e = .returned (.tuple #[.int .i64 (calcDo 6 a b).1, .int .i64 (calcDo 6 a b).2]) ∧ w = w' := by
  have hc : calcDo 6 a b = (tr (decide (a < b)), 0) := by simp [calcDo]
  rw [hc]
  clear hc ha hb
  go_enter Tryd.func10, Tryd.ntmps10
  go_wp2_with (first | (go_at_call 20; refine (truth_any _ _).mono ?_; rintro e w1 ⟨rfl, rfl⟩) | (go_at_call 21; refine (turned_any _ _).mono ?_; rintro e w1 ⟨rfl, rfl⟩))
  go_ret2
  exact ⟨rfl, rfl⟩
theorem do_7 (a b : Int) (ha : -9223372036854775808 ≤ a ∧ a ≤ 9223372036854775807) (hb : -9223372036854775808 ≤ b ∧ b ≤ 9223372036854775807) (w : World) :
    Calls Tryd.prog 10 #[.int .i64 7, .int .i64 a, .int .i64 b] w fun e w' => e = .returned (.tuple #[.int .i64 (calcDo 7 a b).1, .int .i64 (calcDo 7 a b).2]) ∧ w = w' := by
  have hc : calcDo 7 a b = (tr (decide (a ≤ b)), 0) := by simp [calcDo]
  rw [hc]
  clear hc ha hb
  go_enter Tryd.func10, Tryd.ntmps10
  go_wp2_with (first | (go_at_call 20; refine (truth_any _ _).mono ?_; rintro e w1 ⟨rfl, rfl⟩) | (go_at_call 21; refine (turned_any _ _).mono ?_; rintro e w1 ⟨rfl, rfl⟩))
  go_ret2
  exact ⟨ret2 (by exact congrArg (fun p => Value.int .i64 (tr p)) (not_lt b a)) rfl, rfl⟩
end Go.Proofs.YtboigomnjfflhaaDoor
