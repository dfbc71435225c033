/- Layer 3: the reference Do, operator by operator. Condition: the numbers are ints. -/
import Derived.Test.YtboigomnjfflhaaDoorCalcSgn
set_option linter.unusedVariables false
namespace Go.Proofs.YtboigomnjfflhaaDoor
open Go.RowKit

set_option maxRecDepth 100000 in
theorem rdo_6 (a b : Int) (ha : -9223372036854775808 ≤ a ∧ a ≤ 9223372036854775807) (hb : -9223372036854775808 ≤ b ∧ b ≤ 9223372036854775807) (w : World) :
    Calls Tryd.prog 11 #[.int .i64 6, .int .i64 a, .int .i64 b] w fun e w' => e = .returned (.tuple #[.int .i64 (calcDo 6 a b).1, .int .i64 (calcDo 6 a b).2]) ∧ w = w' := by
  have hc : calcDo 6 a b = (tr (decide (a < b)), 0) := by simp [calcDo]
  rw [hc]
  clear hc ha hb
  go_enter Tryd.func11, Tryd.ntmps11
  go_wp2_with (first | (go_at_call 24; refine (rtruth_any _ _).mono ?_; rintro e w1 ⟨rfl, rfl⟩))
  go_ret2
  exact ⟨rfl, rfl⟩
set_option maxRecDepth 100000 in
theorem rdo_7 (a b : Int) (ha : -9223372036854775808 ≤ a ∧ a ≤ 9223372036854775807) (hb : -9223372036854775808 ≤ b ∧ b ≤ 9223372036854775807) (w : World) :
    Calls Tryd.prog 11 #[.int .i64 7, .int .i64 a, .int .i64 b] w fun e w' => e = .returned (.tuple #[.int .i64 (calcDo 7 a b).1, .int .i64 (calcDo 7 a b).2]) ∧ w = w' := by
  have hc : calcDo 7 a b = (tr (decide (a ≤ b)), 0) := by simp [calcDo]
  rw [hc]
  clear hc ha hb
  go_enter Tryd.func11, Tryd.ntmps11
  go_wp2_with (first | (go_at_call 24; refine (rtruth_any _ _).mono ?_; rintro e w1 ⟨rfl, rfl⟩))
  go_ret2
  exact ⟨rfl, rfl⟩
set_option maxRecDepth 100000 in
theorem rdo_8 (a b : Int) (ha : -9223372036854775808 ≤ a ∧ a ≤ 9223372036854775807) (hb : -9223372036854775808 ≤ b ∧ b ≤ 9223372036854775807) (w : World) :
    Calls Tryd.prog 11 #[.int .i64 8, .int .i64 a, .int .i64 b] w fun e w' => e = .returned (.tuple #[.int .i64 (calcDo 8 a b).1, .int .i64 (calcDo 8 a b).2]) ∧ w = w' := by
  have hc : calcDo 8 a b = (tr (decide (b < a)), 0) := by simp [calcDo]
  rw [hc]
  clear hc ha hb
  go_enter Tryd.func11, Tryd.ntmps11
  go_wp2_with (first | (go_at_call 24; refine (rtruth_any _ _).mono ?_; rintro e w1 ⟨rfl, rfl⟩))
  go_ret2
  exact ⟨rfl, rfl⟩
set_option maxRecDepth 100000 in
theorem rdo_9 (a b : Int) (ha : -9223372036854775808 ≤ a ∧ a ≤ 9223372036854775807) (hb : -9223372036854775808 ≤ b ∧ b ≤ 9223372036854775807) (w : World) :
    Calls Tryd.prog 11 #[.int .i64 9, .int .i64 a, .int .i64 b] w fun e w' => e = .returned (.tuple #[.int .i64 (calcDo 9 a b).1, .int .i64 (calcDo 9 a b).2]) ∧ w = w' := by
  have hc : calcDo 9 a b = (tr (decide (b ≤ a)), 0) := by simp [calcDo]
  rw [hc]
  clear hc ha hb
  go_enter Tryd.func11, Tryd.ntmps11
  go_wp2_with (first | (go_at_call 24; refine (rtruth_any _ _).mono ?_; rintro e w1 ⟨rfl, rfl⟩))
  go_ret2
  exact ⟨rfl, rfl⟩
end Go.Proofs.YtboigomnjfflhaaDoor
