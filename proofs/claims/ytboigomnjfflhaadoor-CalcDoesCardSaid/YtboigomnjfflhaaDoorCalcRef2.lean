/- Layer 3: the reference Do, operator by operator. Condition: the numbers are ints. -/
import Derived.Test.YtboigomnjfflhaaDoorCalcSgn
set_option linter.unusedVariables false
namespace Go.Proofs.YtboigomnjfflhaaDoor
open Go.RowKit

set_option maxRecDepth 100000 in
theorem rdo_4 (a b : Int) (ha : -9223372036854775808 ≤ a ∧ a ≤ 9223372036854775807) (hb : -9223372036854775808 ≤ b ∧ b ≤ 9223372036854775807) (w : World) :
    Calls Tryd.prog 11 #[.int .i64 4, .int .i64 a, .int .i64 b] w fun e w' => e = .returned (.tuple #[.int .i64 (calcDo 4 a b).1, .int .i64 (calcDo 4 a b).2]) ∧ w = w' := by
  by_cases h0 : b = 0
  · subst h0
    have hc : calcDo 4 a 0 = (0, 10) := by simp [calcDo]
    rw [hc]
    clear hc ha hb
    go_enter Tryd.func11, Tryd.ntmps11
    go_wp2
    go_ret2
    exact ⟨rfl, rfl⟩
  have hc : calcDo 4 a b = (dv4 a b, 0) := by
    unfold calcDo dv4
    by_cases h1 : b = -1 <;> simp [h0, h1]
  have HR := Lib.hid (div_ref a b ha h0)
  have d0 : (b == 0) = false := beq_eq_false_iff_ne.2 h0
  have hbn : 1 ≤ b.natAbs := by omega
  rw [hc]
  clear hc
  go_enter Tryd.func11, Tryd.ntmps11
  go_wp2_with fail
  refine (size_any a ha w).mono ?_
  rintro e w1 ⟨rfl, rfl⟩
  go_wp2_with fail
  refine (size_any b hb w).mono ?_
  rintro e w1 ⟨rfl, rfl⟩
  have ha2 : a.natAbs ≤ 9223372036854775808 := by omega
  have hb2 : b.natAbs ≤ 9223372036854775808 := by omega
  have hbI : (1 : Int) ≤ (b.natAbs : Int) := by omega
  have d1 : ((b.natAbs : Int) == 0) = false := beq_eq_false_iff_ne.2 (by omega)
  have hq : a.natAbs / b.natAbs < 18446744073709551616 := Nat.lt_of_le_of_lt (Nat.div_le_self _ _) (by omega)
  have hu : IntKind.u64.wrap ((a.natAbs : Int) / (b.natAbs : Int)) = ((a.natAbs / b.natAbs : Nat) : Int) := by
    have h := u64_nat (a.natAbs / b.natAbs)
    rw [Nat.mod_eq_of_lt hq] at h
    rw [← h]
    simp
  have HQ := Lib.hid hq
  have HU := Lib.hid hu
  clear hq hu
  go_wp2_with fail
  refine (sgn_any _ (a.natAbs / b.natAbs) (by first | rfl | exact HU.out | simp) HQ.out _ w).mono ?_
  rintro e w1 ⟨rfl, rfl⟩
  go_wp2
  go_ret2
  exact ⟨ret2 (by exact congrArg (Value.int .i64) HR.out) rfl, rfl⟩
set_option maxRecDepth 100000 in
theorem rdo_5 (a b : Int) (ha : -9223372036854775808 ≤ a ∧ a ≤ 9223372036854775807) (hb : -9223372036854775808 ≤ b ∧ b ≤ 9223372036854775807) (w : World) :
    Calls Tryd.prog 11 #[.int .i64 5, .int .i64 a, .int .i64 b] w fun e w' => e = .returned (.tuple #[.int .i64 (calcDo 5 a b).1, .int .i64 (calcDo 5 a b).2]) ∧ w = w' := by
  by_cases h0 : b = 0
  · subst h0
    have hc : calcDo 5 a 0 = (0, 10) := by simp [calcDo]
    rw [hc]
    clear hc ha hb
    go_enter Tryd.func11, Tryd.ntmps11
    go_wp2
    go_ret2
    exact ⟨rfl, rfl⟩
  have hc : calcDo 5 a b = (dv5 a b, 0) := by
    unfold calcDo dv5
    by_cases h1 : b = -1 <;> simp [h0, h1]
  have HR := Lib.hid (mod_ref a b ha h0)
  have d0 : (b == 0) = false := beq_eq_false_iff_ne.2 h0
  have hbn : 1 ≤ b.natAbs := by omega
  rw [hc]
  clear hc
  go_enter Tryd.func11, Tryd.ntmps11
  go_wp2_with fail
  refine (size_any a ha w).mono ?_
  rintro e w1 ⟨rfl, rfl⟩
  go_wp2_with fail
  refine (size_any b hb w).mono ?_
  rintro e w1 ⟨rfl, rfl⟩
  have ha2 : a.natAbs ≤ 9223372036854775808 := by omega
  have hb2 : b.natAbs ≤ 9223372036854775808 := by omega
  have hbI : (1 : Int) ≤ (b.natAbs : Int) := by omega
  have d1 : ((b.natAbs : Int) == 0) = false := beq_eq_false_iff_ne.2 (by omega)
  have hq : a.natAbs % b.natAbs < 18446744073709551616 := Nat.lt_of_le_of_lt (Nat.mod_le _ _) (by omega)
  have hu : IntKind.u64.wrap ((a.natAbs : Int) % (b.natAbs : Int)) = ((a.natAbs % b.natAbs : Nat) : Int) := by
    have h := u64_nat (a.natAbs % b.natAbs)
    rw [Nat.mod_eq_of_lt hq] at h
    rw [← h]
    simp
  have HQ := Lib.hid hq
  have HU := Lib.hid hu
  clear hq hu
  go_wp2_with fail
  refine (sgn_any _ (a.natAbs % b.natAbs) (by first | rfl | exact HU.out | simp) HQ.out _ w).mono ?_
  rintro e w1 ⟨rfl, rfl⟩
  go_wp2
  go_ret2
  exact ⟨ret2 (by exact congrArg (Value.int .i64) HR.out) rfl, rfl⟩
end Go.Proofs.YtboigomnjfflhaaDoor
