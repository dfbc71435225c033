/- Layer 3: the reference Do, operator by operator. Condition: the numbers are ints. -/
import Derived.Test.YtboigomnjfflhaaDoorCalcSgn
set_option linter.unusedVariables false
namespace Go.Proofs.YtboigomnjfflhaaDoor
open Go.RowKit

set_option maxRecDepth 100000 in
theorem rdo_10 (a b : Int) (ha : -9223372036854775808 ≤ a ∧ a ≤ 9223372036854775807) (hb : -9223372036854775808 ≤ b ∧ b ≤ 9223372036854775807) (w : World) :
    Calls Tryd.prog 11 #[.int .i64 10, .int .i64 a, .int .i64 b] w fun e w' => e = .returned (.tuple #[.int .i64 (calcDo 10 a b).1, .int .i64 (calcDo 10 a b).2]) ∧ w = w' := by
  have hc : calcDo 10 a b = (tr (a == b), 0) := by simp [calcDo]
  rw [hc]
  clear hc ha hb
  go_enter Tryd.func11, Tryd.ntmps11
  go_wp2_with (first | (go_at_call 24; refine (rtruth_any _ _).mono ?_; rintro e w1 ⟨rfl, rfl⟩))
  go_ret2
  exact ⟨rfl, rfl⟩
set_option maxRecDepth 100000 in
theorem rdo_11 (a b : Int) (ha : -9223372036854775808 ≤ a ∧ a ≤ 9223372036854775807) (hb : -9223372036854775808 ≤ b ∧ b ≤ 9223372036854775807) (w : World) :
    Calls Tryd.prog 11 #[.int .i64 11, .int .i64 a, .int .i64 b] w fun e w' => e = .returned (.tuple #[.int .i64 (calcDo 11 a b).1, .int .i64 (calcDo 11 a b).2]) ∧ w = w' := by
  have hc : calcDo 11 a b = (tr (a != b), 0) := by simp [calcDo]
  rw [hc]
  clear hc ha hb
  go_enter Tryd.func11, Tryd.ntmps11
  go_wp2_with (first | (go_at_call 24; refine (rtruth_any _ _).mono ?_; rintro e w1 ⟨rfl, rfl⟩))
  go_ret2
  exact ⟨rfl, rfl⟩
set_option maxRecDepth 100000 in
theorem rdo_12 (a b : Int) (ha : -9223372036854775808 ≤ a ∧ a ≤ 9223372036854775807) (hb : -9223372036854775808 ≤ b ∧ b ≤ 9223372036854775807) (w : World) :
    Calls Tryd.prog 11 #[.int .i64 12, .int .i64 a, .int .i64 b] w fun e w' => e = .returned (.tuple #[.int .i64 (calcDo 12 a b).1, .int .i64 (calcDo 12 a b).2]) ∧ w = w' := by
  have hc : calcDo 12 a b = (tr (a != 0 && b != 0), 0) := by simp [calcDo]
  rw [hc]
  clear hc ha hb
  by_cases h0 : a = 0
  · subst h0
    go_enter Tryd.func11, Tryd.ntmps11
    go_wp2_with (first | (go_at_call 24; refine (rtruth_any _ _).mono ?_; rintro e w1 ⟨rfl, rfl⟩))
    go_ret2
    exact ⟨rfl, rfl⟩
  · have d0 : (a != 0) = true := by simpa using h0
    have d1 : (a == 0) = false := by simpa using h0
    rw [d0]
    go_enter Tryd.func11, Tryd.ntmps11
    go_wp2_with (first | (go_at_call 24; refine (rtruth_any _ _).mono ?_; rintro e w1 ⟨rfl, rfl⟩))
    go_ret2
    exact ⟨rfl, rfl⟩
set_option maxRecDepth 100000 in
theorem rdo_13 (a b : Int) (ha : -9223372036854775808 ≤ a ∧ a ≤ 9223372036854775807) (hb : -9223372036854775808 ≤ b ∧ b ≤ 9223372036854775807) (w : World) :
    Calls Tryd.prog 11 #[.int .i64 13, .int .i64 a, .int .i64 b] w fun e w' => e = .returned (.tuple #[.int .i64 (calcDo 13 a b).1, .int .i64 (calcDo 13 a b).2]) ∧ w = w' := by
  have hc : calcDo 13 a b = (tr (a != 0 || b != 0), 0) := by simp [calcDo]
  rw [hc]
  clear hc ha hb
  by_cases h0 : a = 0
  · subst h0
    go_enter Tryd.func11, Tryd.ntmps11
    go_wp2_with (first | (go_at_call 24; refine (rtruth_any _ _).mono ?_; rintro e w1 ⟨rfl, rfl⟩))
    go_ret2
    exact ⟨rfl, rfl⟩
  · have d0 : (a != 0) = true := by simpa using h0
    have d1 : (a == 0) = false := by simpa using h0
    rw [d0]
    go_enter Tryd.func11, Tryd.ntmps11
    go_wp2_with (first | (go_at_call 24; refine (rtruth_any _ _).mono ?_; rintro e w1 ⟨rfl, rfl⟩))
    go_ret2
    exact ⟨rfl, rfl⟩
end Go.Proofs.YtboigomnjfflhaaDoor
