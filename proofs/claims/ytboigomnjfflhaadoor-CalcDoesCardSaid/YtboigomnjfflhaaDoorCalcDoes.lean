/- Any operator, any two numbers: the walk of the statement. Condition: the table of powers of ten lies as the program's text lays it. -/
import Derived.Test.YtboigomnjfflhaaDoorCalcSmall
import Derived.Test.YtboigomnjfflhaaDoorRows
import Derived.Lib.LaidTab
import Derived.Stop.LaidErr
import Derived.Test.YtboigomnjfflhaaDoorCalcRef
set_option linter.unusedVariables false
namespace Go.Proofs.YtboigomnjfflhaaDoor
open Go.RowKit

theorem calcDoes_facts (W : World) (h : laidMet Tryd.prog Rows.calcDoesRow.laid W) : Tab W :=
  Lib.tabIs_of_head (g := 2) (n := 20) (t := 70) (e := 36) (by kernel_rfl) (by kernel_rfl) Tryd.underlying70 Tryd.underlying36 (by kernel_rfl) (by kernel_rfl) (laidMet.tail (laidMet.tail h))

set_option maxHeartbeats 1000000 in
set_option maxRecDepth 100000 in
theorem calcDoes_walk (w : World) (ht : Tab w) (op : Int) (hop : -9223372036854775808 ≤ op ∧ op ≤ 9223372036854775807) (a : Int) (ha : -9223372036854775808 ≤ a ∧ a ≤ 9223372036854775807) (b : Int) (hb0 : -9223372036854775808 ≤ b ∧ b ≤ 9223372036854775807) :
    Calls Tryd.prog 3 #[.int .i64 op, .int .i64 a, .int .i64 b] w fun e w' => e = .returned (.bool true) ∧ Below w.heap.size w w' := by
  go_enter Tryd.func3, Tryd.ntmps3
  go_wp2_with fail
  refine (small_any w ht).mono ?_
  rintro e w1 ⟨rfl, hb⟩
  go_wp2_with fail
  refine (do_any op a b ha hb0 w1).mono ?_
  rintro e w2 ⟨rfl, rfl⟩
  go_wp2_with fail
  refine (rdo_any op a b ha hb0 w1).mono ?_
  rintro e w2 ⟨rfl, rfl⟩
  go_wp2
  go_ret
  exact ⟨rfl, hb⟩
end Go.Proofs.YtboigomnjfflhaaDoor
