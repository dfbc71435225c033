/- Layer 3: calc.Do, operator by operator. Condition: the numbers are ints. -/
import Derived.Test.YtboigomnjfflhaaDoorCalcDiv
set_option linter.unusedVariables false
namespace Go.Proofs.YtboigomnjfflhaaDoor
open Go.RowKit

theorem do_4 (a b : Int) (ha : -9223372036854775808 ≤ a ∧ a ≤ 9223372036854775807) (hb : -9223372036854775808 ≤ b ∧ b ≤ 9223372036854775807) (w : World) :
    Calls Tryd.prog 10 #[.int .i64 4, .int .i64 a, .int .i64 b] w fun e w' => e = .returned (.tuple #[.int .i64 (calcDo 4 a b).1, .int .i64 (calcDo 4 a b).2]) ∧ w = w' := by
  by_cases h0 : b = 0
  · subst h0
    have hc : calcDo 4 a 0 = (0, 10) := by simp [calcDo]
    rw [hc]
    clear hc ha hb
    go_enter Tryd.func10, Tryd.ntmps10
    go_wp2_with fail
    refine (div_0 4 a w).mono ?_
    rintro e w1 ⟨rfl, rfl⟩
    go_wp2
    go_ret2
    exact ⟨rfl, rfl⟩
  by_cases h1 : b = -1
  · subst h1
    have hc : calcDo 4 a (-1) = (wrap64 (-a), 0) := by simp [calcDo]
    rw [hc]
    clear hc ha hb h0
    go_enter Tryd.func10, Tryd.ntmps10
    go_wp2_with fail
    refine (div_neg a w).mono ?_
    rintro e w1 ⟨rfl, rfl⟩
    go_wp2
    go_ret2
    exact ⟨rfl, rfl⟩
  · have hc : calcDo 4 a b = (a.tdiv b, 0) := by simp [calcDo, h0, h1]
    rw [hc]
    clear hc hb
    go_enter Tryd.func10, Tryd.ntmps10
    go_wp2_with fail
    refine (div_else a b ha h0 h1 w).mono ?_
    rintro e w1 ⟨rfl, rfl⟩
    go_wp2
    go_ret2
    exact ⟨rfl, rfl⟩
theorem do_5 (a b : Int) (ha : -9223372036854775808 ≤ a ∧ a ≤ 9223372036854775807) (hb : -9223372036854775808 ≤ b ∧ b ≤ 9223372036854775807) (w : World) :
    Calls Tryd.prog 10 #[.int .i64 5, .int .i64 a, .int .i64 b] w fun e w' => e = .returned (.tuple #[.int .i64 (calcDo 5 a b).1, .int .i64 (calcDo 5 a b).2]) ∧ w = w' := by
  by_cases h0 : b = 0
  · subst h0
    have hc : calcDo 5 a 0 = (0, 10) := by simp [calcDo]
    rw [hc]
    clear hc ha hb
    go_enter Tryd.func10, Tryd.ntmps10
    go_wp2_with fail
    refine (div_0 5 a w).mono ?_
    rintro e w1 ⟨rfl, rfl⟩
    go_wp2
    go_ret2
    exact ⟨rfl, rfl⟩
  by_cases h1 : b = -1
  · subst h1
    have hc : calcDo 5 a (-1) = (0, 0) := by simp [calcDo]
    rw [hc]
    clear hc ha hb h0
    go_enter Tryd.func10, Tryd.ntmps10
    go_wp2_with fail
    refine (mod_neg a w).mono ?_
    rintro e w1 ⟨rfl, rfl⟩
    go_wp2
    go_ret2
    exact ⟨rfl, rfl⟩
  · have hc : calcDo 5 a b = (a.tmod b, 0) := by simp [calcDo, h0, h1]
    rw [hc]
    clear hc hb
    go_enter Tryd.func10, Tryd.ntmps10
    go_wp2_with fail
    refine (mod_else a b ha h0 h1 w).mono ?_
    rintro e w1 ⟨rfl, rfl⟩
    go_wp2
    go_ret2
    exact ⟨rfl, rfl⟩
end Go.Proofs.YtboigomnjfflhaaDoor
