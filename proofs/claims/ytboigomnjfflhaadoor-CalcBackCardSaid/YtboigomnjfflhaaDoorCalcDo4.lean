/- Layer 3: calc.Do: what is no operator, operator by operator. Condition: the numbers are ints. -/
import Derived.Test.YtboigomnjfflhaaDoorCalcDiv
set_option linter.unusedVariables false
namespace Go.Proofs.YtboigomnjfflhaaDoor
open Go.RowKit

theorem do_else (op a b : Int) (h : op < 1 ∨ 13 < op) (w : World) :
    Calls Tryd.prog 10 #[.int .i64 op, .int .i64 a, .int .i64 b] w fun e w' => e = .returned (.tuple #[.int .i64 (calcDo op a b).1, .int .i64 (calcDo op a b).2]) ∧ w = w' := by
  have hc : calcDo op a b = (0, 11) := by
    unfold calcDo
    rw [if_neg (by omega), if_neg (by omega), if_neg (by omega), if_neg (by omega), if_neg (by omega), if_neg (by omega), if_neg (by omega), if_neg (by omega), if_neg (by omega), if_neg (by omega), if_neg (by omega), if_neg (by omega), if_neg (by omega)]
  have d1 : (op == 1) = false := beq_eq_false_iff_ne.2 (by omega)
  have d2 : (op == 2) = false := beq_eq_false_iff_ne.2 (by omega)
  have d3 : (op == 3) = false := beq_eq_false_iff_ne.2 (by omega)
  have d4 : (op == 4) = false := beq_eq_false_iff_ne.2 (by omega)
  have d5 : (op == 5) = false := beq_eq_false_iff_ne.2 (by omega)
  have d6 : (op == 6) = false := beq_eq_false_iff_ne.2 (by omega)
  have d7 : (op == 7) = false := beq_eq_false_iff_ne.2 (by omega)
  have d8 : (op == 8) = false := beq_eq_false_iff_ne.2 (by omega)
  have d9 : (op == 9) = false := beq_eq_false_iff_ne.2 (by omega)
  have d10 : (op == 10) = false := beq_eq_false_iff_ne.2 (by omega)
  have d11 : (op == 11) = false := beq_eq_false_iff_ne.2 (by omega)
  have d12 : (op == 12) = false := beq_eq_false_iff_ne.2 (by omega)
  have d13 : (op == 13) = false := beq_eq_false_iff_ne.2 (by omega)
  rw [hc]
  clear hc h
  go_enter Tryd.func10, Tryd.ntmps10
  go_wp2
  go_ret2
  exact ⟨rfl, rfl⟩
end Go.Proofs.YtboigomnjfflhaaDoor
