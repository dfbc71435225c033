/- Layer 3: calc.divide, operator by operator. Condition: the numbers are ints. -/
import Derived.Test.YtboigomnjfflhaaDoorCalc
set_option linter.unusedVariables false
namespace Go.Proofs.YtboigomnjfflhaaDoor
open Go.RowKit

theorem div_0 (op a : Int) (w : World) :
    Calls Tryd.prog 19 #[.int .i64 op, .int .i64 a, .int .i64 0] w fun e w' => e = .returned (.tuple #[.int .i64 0, .int .i64 10]) ∧ w = w' := by
  go_enter Tryd.func19, Tryd.ntmps19
  go_wp2
  go_ret2
  exact ⟨rfl, rfl⟩
theorem div_neg (a : Int) (w : World) :
    Calls Tryd.prog 19 #[.int .i64 4, .int .i64 a, .int .i64 (-1)] w fun e w' => e = .returned (.tuple #[.int .i64 (wrap64 (-a)), .int .i64 0]) ∧ w = w' := by
  go_enter Tryd.func19, Tryd.ntmps19
  go_wp2
  go_ret2
  exact ⟨rfl, rfl⟩
theorem mod_neg (a : Int) (w : World) :
    Calls Tryd.prog 19 #[.int .i64 5, .int .i64 a, .int .i64 (-1)] w fun e w' => e = .returned (.tuple #[.int .i64 0, .int .i64 0]) ∧ w = w' := by
  go_enter Tryd.func19, Tryd.ntmps19
  go_wp2
  go_ret2
  exact ⟨rfl, rfl⟩
theorem div_else (a b : Int) (ha : -9223372036854775808 ≤ a ∧ a ≤ 9223372036854775807) (h0 : b ≠ 0) (h1 : b ≠ -1) (w : World) :
    Calls Tryd.prog 19 #[.int .i64 4, .int .i64 a, .int .i64 b] w fun e w' => e = .returned (.tuple #[.int .i64 (a.tdiv b), .int .i64 0]) ∧ w = w' := by
  have d0 : (b == 0) = false := beq_eq_false_iff_ne.2 h0
  have d1 : (b == -1) = false := beq_eq_false_iff_ne.2 h1
  obtain ⟨r1, r2⟩ := tdiv_range a b ha h1
  have hw : wrap64 (a.tdiv b) = a.tdiv b := IntWalk.wrap64_in _ ⟨r1, r2⟩
  have HW := Lib.hid hw
  clear hw
  go_enter Tryd.func19, Tryd.ntmps19
  go_wp2
  go_ret2
  exact ⟨by first | rfl | rw [HW.out], rfl⟩
theorem mod_else (a b : Int) (ha : -9223372036854775808 ≤ a ∧ a ≤ 9223372036854775807) (h0 : b ≠ 0) (h1 : b ≠ -1) (w : World) :
    Calls Tryd.prog 19 #[.int .i64 5, .int .i64 a, .int .i64 b] w fun e w' => e = .returned (.tuple #[.int .i64 (a.tmod b), .int .i64 0]) ∧ w = w' := by
  have d0 : (b == 0) = false := beq_eq_false_iff_ne.2 h0
  have d1 : (b == -1) = false := beq_eq_false_iff_ne.2 h1
  obtain ⟨r1, r2⟩ := tmod_range a b ha
  have hw : wrap64 (a.tmod b) = a.tmod b := IntWalk.wrap64_in _ ⟨r1, r2⟩
  have HW := Lib.hid hw
  clear hw
  go_enter Tryd.func19, Tryd.ntmps19
  go_wp2
  go_ret2
  exact ⟨by first | rfl | rw [HW.out], rfl⟩
end Go.Proofs.YtboigomnjfflhaaDoor
