/- Layer 3: the reference Do, operator by operator. Condition: the numbers are ints. -/
import Derived.Test.YtboigomnjfflhaaDoorCalcSgn
set_option linter.unusedVariables false
namespace Go.Proofs.YtboigomnjfflhaaDoor
open Go.RowKit

set_option maxRecDepth 100000 in
theorem rdo_1 (a b : Int) (ha : -9223372036854775808 ≤ a ∧ a ≤ 9223372036854775807) (hb : -9223372036854775808 ≤ b ∧ b ≤ 9223372036854775807) (w : World) :
    Calls Tryd.prog 11 #[.int .i64 1, .int .i64 a, .int .i64 b] w fun e w' => e = .returned (.tuple #[.int .i64 (calcDo 1 a b).1, .int .i64 (calcDo 1 a b).2]) ∧ w = w' := by
  have hc : calcDo 1 a b = (wrap64 (a + b), 0) := by simp [calcDo]
  have HR := Lib.hid (add_ref a b)
  rw [hc]
  clear hc ha hb
  go_enter Tryd.func11, Tryd.ntmps11
  go_wp2
  go_ret2
  exact ⟨ret2 (by exact congrArg (Value.int .i64) HR.out) rfl, rfl⟩
set_option maxRecDepth 100000 in
theorem rdo_2 (a b : Int) (ha : -9223372036854775808 ≤ a ∧ a ≤ 9223372036854775807) (hb : -9223372036854775808 ≤ b ∧ b ≤ 9223372036854775807) (w : World) :
    Calls Tryd.prog 11 #[.int .i64 2, .int .i64 a, .int .i64 b] w fun e w' => e = .returned (.tuple #[.int .i64 (calcDo 2 a b).1, .int .i64 (calcDo 2 a b).2]) ∧ w = w' := by
  have hc : calcDo 2 a b = (wrap64 (a - b), 0) := by simp [calcDo]
  have HR := Lib.hid (sub_ref a b)
  rw [hc]
  clear hc ha hb
  go_enter Tryd.func11, Tryd.ntmps11
  go_wp2
  go_ret2
  exact ⟨ret2 (by exact congrArg (Value.int .i64) HR.out) rfl, rfl⟩
set_option maxRecDepth 100000 in
theorem rdo_3 (a b : Int) (ha : -9223372036854775808 ≤ a ∧ a ≤ 9223372036854775807) (hb : -9223372036854775808 ≤ b ∧ b ≤ 9223372036854775807) (w : World) :
    Calls Tryd.prog 11 #[.int .i64 3, .int .i64 a, .int .i64 b] w fun e w' => e = .returned (.tuple #[.int .i64 (calcDo 3 a b).1, .int .i64 (calcDo 3 a b).2]) ∧ w = w' := by
  have hc : calcDo 3 a b = (wrap64 (a * b), 0) := by simp [calcDo]
  have HR := Lib.hid (mul_ref a b)
  rw [hc]
  clear hc
  go_enter Tryd.func11, Tryd.ntmps11
  go_wp2_with fail
  refine (size_any a ha w).mono ?_
  rintro e w1 ⟨rfl, rfl⟩
  go_wp2_with fail
  refine (size_any b hb w).mono ?_
  rintro e w1 ⟨rfl, rfl⟩
  have hu : IntKind.u64.wrap ((a.natAbs : Int) * (b.natAbs : Int)) = ((a.natAbs * b.natAbs % 18446744073709551616 : Nat) : Int) := by rw [← u64_nat]; simp
  go_wp2_with fail
  refine (sgn_any _ (a.natAbs * b.natAbs % 18446744073709551616) (by first | rfl | exact hu | simp) (by omega) _ w).mono ?_
  rintro e w1 ⟨rfl, rfl⟩
  clear hu
  go_wp2
  go_ret2
  exact ⟨ret2 (by exact congrArg (Value.int .i64) HR.out) rfl, rfl⟩
end Go.Proofs.YtboigomnjfflhaaDoor
