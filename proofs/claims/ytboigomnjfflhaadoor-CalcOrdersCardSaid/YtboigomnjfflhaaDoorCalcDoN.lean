/- The statements' own do: the walk of the statement. Condition: the table of powers of ten lies as the program's text lays it. -/
import Derived.Test.YtboigomnjfflhaaDoorCalcSmall
set_option linter.unusedVariables false
namespace Go.Proofs.YtboigomnjfflhaaDoor
open Go.RowKit

theorem doN_any (op a b : Int) (ha : -9223372036854775808 ≤ a ∧ a ≤ 9223372036854775807) (hb : -9223372036854775808 ≤ b ∧ b ≤ 9223372036854775807) (r : Int) (hr : (calcDo op a b).1 = r) (w : World) :
    Calls Tryd.prog 12 #[.int .i64 op, .int .i64 a, .int .i64 b] w fun e w' => e = .returned (.int .i64 r) ∧ w = w' := by
  have HR := Lib.hid hr
  clear hr
  go_enter Tryd.func12, Tryd.ntmps12
  go_wp2_with fail
  refine (do_any op a b ha hb w).mono ?_
  rintro e w' ⟨rfl, rfl⟩
  rw [HR.out]
  go_wp2
  go_ret
  exact ⟨rfl, rfl⟩
end Go.Proofs.YtboigomnjfflhaaDoor
