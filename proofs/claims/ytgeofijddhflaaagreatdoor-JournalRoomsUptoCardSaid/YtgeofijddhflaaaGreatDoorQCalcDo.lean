/- Layer 3: Do, One, and the reference's: what they answer. Condition: the numbers are ints. -/
import Derived.Test.YtgeofijddhflaaaGreatDoorQCalcPlain
import Derived.Test.YtgeofijddhflaaaGreatDoorProg
import Derived.WalkKit
import Derived.Laws.BitsAllLaws
import Derived.Lib.Hide
import Derived.Outline
set_option linter.unusedVariables false
namespace Go.Proofs.YtgeofijddhflaaaGreatDoor
open Go.RowKit
end Go.Proofs.YtgeofijddhflaaaGreatDoor
set_option linter.unusedVariables false
namespace Go.Proofs.YtgeofijddhflaaaGreatDoor
open Go.RowKit
def sg (p : Bool) (u : Nat) : Int := wrap64 (if p = true then -(u : Int) else u)
end Go.Proofs.YtgeofijddhflaaaGreatDoor
