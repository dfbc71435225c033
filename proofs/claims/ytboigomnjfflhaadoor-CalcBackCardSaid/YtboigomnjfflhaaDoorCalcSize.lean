/- Layer 3: the reference's size and sign, operator by operator. Condition: the numbers are ints. -/
import Derived.Test.YtboigomnjfflhaaDoorCalc
set_option linter.unusedVariables false
namespace Go.Proofs.YtboigomnjfflhaaDoor
open Go.RowKit

theorem ret1 {a a' : Value} (h : a = a') : Ending.returned a = .returned a' := by rw [h]
theorem wrap_u64 (x : Int) : wrap64 (IntKind.u64.wrap x) = wrap64 x := by
  rw [show IntKind.u64.wrap x = x % 18446744073709551616 by simp [IntKind.wrap, IntKind.bits, IntKind.signed], wrap_emod]
theorem size_any (n : Int) (hn : -9223372036854775808 ≤ n ∧ n ≤ 9223372036854775807) (w : World) :
    Calls Tryd.prog 23 #[.int .i64 n] w fun e w' => e = .returned (.int .u64 (n.natAbs : Nat)) ∧ w = w' := by
  by_cases h : n < 0
  · obtain ⟨m, hm⟩ : ∃ m : Nat, m = n.natAbs := ⟨_, rfl⟩
    rw [← hm]
    have hm0 : 1 ≤ m := by omega
    have hm1 : m ≤ 9223372036854775808 := by omega
    obtain rfl : n = -(m : Int) := by omega
    have HM : Hid ((-(-(m : Int) + 1)) + 1 = (m : Int)) := Lib.hid (by omega)
    clear hn h hm
    have hmI : (1 : Int) ≤ m := by omega
    have hmJ : (m : Int) ≤ 9223372036854775808 := by omega
    go_enter Tryd.func23, Tryd.ntmps23
    go_wp2
    go_ret
    exact ⟨ret1 (congrArg (Value.int .u64) HM.out), rfl⟩
  · obtain ⟨m, rfl⟩ := Int.eq_ofNat_of_zero_le (show 0 ≤ n by omega)
    have hm1 : m ≤ 9223372036854775807 := by omega
    clear hn h
    rw [Int.natAbs_natCast]
    go_enter Tryd.func23, Tryd.ntmps23
    go_wp2
    go_ret
    exact ⟨rfl, rfl⟩
theorem signed_neg (u : Nat) (hu : u < 18446744073709551616) (w : World) :
    Calls Tryd.prog 22 #[.int .u64 u, .bool true] w fun e w' => e = .returned (.int .i64 (wrap64 (-(u : Int)))) ∧ w = w' := by
  have HW := Lib.hid (wrap_u64 (-(u : Int)))
  go_enter Tryd.func22, Tryd.ntmps22
  go_wp2
  go_ret
  exact ⟨ret1 (congrArg (Value.int .i64) HW.out), rfl⟩
theorem signed_pos (u : Nat) (hu : u < 18446744073709551616) (w : World) :
    Calls Tryd.prog 22 #[.int .u64 u, .bool false] w fun e w' => e = .returned (.int .i64 (wrap64 (u : Int))) ∧ w = w' := by
  go_enter Tryd.func22, Tryd.ntmps22
  go_wp2
  go_ret
  exact ⟨rfl, rfl⟩
end Go.Proofs.YtboigomnjfflhaaDoor
