/- Layer 3: calc.Do, operator by operator. Condition: the numbers are ints. -/
import Derived.Test.YtboigomnjfflhaaDoorCalcDo1
import Derived.Test.YtboigomnjfflhaaDoorCalcDo2
import Derived.Test.YtboigomnjfflhaaDoorCalcDo3
import Derived.Test.YtboigomnjfflhaaDoorCalcDo4
set_option linter.unusedVariables false
namespace Go.Proofs.YtboigomnjfflhaaDoor
open Go.RowKit

theorem do_any (op a b : Int) (ha : -9223372036854775808 ≤ a ∧ a ≤ 9223372036854775807) (hb : -9223372036854775808 ≤ b ∧ b ≤ 9223372036854775807) (w : World) :
    Calls Tryd.prog 10 #[.int .i64 op, .int .i64 a, .int .i64 b] w fun e w' => e = .returned (.tuple #[.int .i64 (calcDo op a b).1, .int .i64 (calcDo op a b).2]) ∧ w = w' := by
  by_cases h : op < 1 ∨ 13 < op
  · exact do_else op a b h w
  obtain rfl | rfl | rfl | rfl | rfl | rfl | rfl | rfl | rfl | rfl | rfl | rfl | rfl : op = 1 ∨ op = 2 ∨ op = 3 ∨ op = 4 ∨ op = 5 ∨ op = 6 ∨ op = 7 ∨ op = 8 ∨ op = 9 ∨ op = 10 ∨ op = 11 ∨ op = 12 ∨ op = 13 := by omega
  · exact do_1 a b ha hb w
  · exact do_2 a b ha hb w
  · exact do_3 a b ha hb w
  · exact do_4 a b ha hb w
  · exact do_5 a b ha hb w
  · exact do_6 a b ha hb w
  · exact do_7 a b ha hb w
  · exact do_8 a b ha hb w
  · exact do_9 a b ha hb w
  · exact do_10 a b ha hb w
  · exact do_11 a b ha hb w
  · exact do_12 a b ha hb w
  · exact do_13 a b ha hb w
end Go.Proofs.YtboigomnjfflhaaDoor
