/- Layer 3: Do, One, and the reference's: what they answer. Condition: the numbers are ints. -/
import Derived.Test.YteehkcpokgeipaaGreatDoorCalcPlain
import Derived.Test.YteehkcpokgeipaaGreatDoorProg
import Derived.WalkKit
import Derived.Laws.BitsAllLaws
import Derived.Lib.Hide
import Derived.Outline
set_option linter.unusedVariables false
namespace Go.Proofs.YteehkcpokgeipaaGreatDoor
open Go.RowKit
end Go.Proofs.YteehkcpokgeipaaGreatDoor
set_option linter.unusedVariables false
namespace Go.Proofs.YteehkcpokgeipaaGreatDoor
open Go.RowKit
theorem ret1 {a a' : Value} (h : a = a') : Ending.returned a = .returned a' := by rw [h]
theorem size_any (n : Int) (hn : -9223372036854775808 ≤ n ∧ n ≤ 9223372036854775807) (w : World) :
  Calls Tryz.prog 156 #[.int .i64 n] w fun e w' => e = .returned (.int .u64 (n.natAbs : Nat)) ∧ w = w' := by
 by_cases h : n < 0
 ·obtain ⟨m, hm⟩ : ∃ m : Nat, m = n.natAbs := ⟨_, rfl⟩
  rw [← hm]
  have hm0 : 1 ≤ m := by omega
  have hm1 : m ≤ 9223372036854775808 := by omega
  obtain rfl : n = -(m : Int) := by omega
  have HM : Hid ((-(-(m : Int) + 1)) + 1 = (m : Int)) := Lib.hid (by omega)
  clear hn h hm
  have hmI : (1 : Int) ≤ m := by omega
  have hmJ : (m : Int) ≤ 9223372036854775808 := by omega
  go_enter Tryz.func156, Tryz.ntmps156
  go_wp2
  go_ret
  exact ⟨ret1 (congrArg (Value.int .u64) HM.out), rfl⟩
 ·obtain ⟨m, rfl⟩ := Int.eq_ofNat_of_zero_le (show 0 ≤ n by omega)
  have hm1 : m ≤ 9223372036854775807 := by omega
  clear hn h
  rw [Int.natAbs_natCast]
  go_enter Tryz.func156, Tryz.ntmps156
  go_wp2
  go_ret
  exact ⟨rfl, rfl⟩
end Go.Proofs.YteehkcpokgeipaaGreatDoor
