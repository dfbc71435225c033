/- The reference of layer 3: Text. Condition: the number is an int. -/
import Derived.Test.YtgeofijddhflaaaGreatDoorLCalcSmall
import Derived.Test.YtgeofijddhflaaaGreatDoorLHeldS
set_option linter.unusedVariables false
set_option linter.unusedSimpArgs false
namespace Go.Proofs.YtgeofijddhflaaaGreatDoor
open Go.RowKit Oct
theorem cS0 (k : Nat) : ∀ u, u < 10 ^ (k + 1) -> (Lib.decDigits u).length <= k + 1 := by
 induction k with
 | zero =>
  intro u h;unfold Lib.decDigits;rw [dif_pos (by simpa using h)];simp
 | succ k ih =>
  intro u h;unfold Lib.decDigits;by_cases h1 : u < 10
  ·rw [dif_pos h1]
   simp
  rw [dif_neg h1];have := ih (u / 10) (by rw [Nat.pow_succ] at h; omega);simp
  omega
end Go.Proofs.YtgeofijddhflaaaGreatDoor
