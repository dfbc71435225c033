/- Layer 23: which snapshots may be (keep.within, keep.may, the reference's may). Condition: the snapshot's voters can be read. -/
import Derived.Test.YtgeofijddhflaaaGreatDoorQSealL
import Derived.Test.YtgeofijddhflaaaGreatDoorQHeld
import Derived.Test.YtgeofijddhflaaaGreatDoorQTot
import Derived.Outline
set_option linter.unusedVariables false
namespace Go.Proofs.YtgeofijddhflaaaGreatDoor
open Go.RowKit Oct
def rising (last : Int) : List Int → Bool
 | [] => true
 | v :: r => decide (last < v) && rising v r
end Go.Proofs.YtgeofijddhflaaaGreatDoor
set_option linter.unusedVariables false
namespace Go.Proofs.YtgeofijddhflaaaGreatDoor
open Go.RowKit Oct
def SnapAt (W : World) (g : Nat) (i t : Int) (x y : Value) : Prop :=
 W.cell? ⟨g, 0, none⟩ = some (.int .i64 i) ∧ W.cell? ⟨g, 1, none⟩ = some (.int .i64 t) ∧ W.cell? ⟨g, 2, none⟩ = some x ∧ W.cell? ⟨g, 3, none⟩ = some y
theorem SnapAt.below {w w' : World} {g B : Nat} {i t : Int} {x y : Value} (h : SnapAt w g i t x y) (hb : Below B w w') (hg : g < B) : SnapAt w' g i t x y :=
 ⟨(hb.cell hg).trans h.1, (hb.cell hg).trans h.2.1, (hb.cell hg).trans h.2.2.1, (hb.cell hg).trans h.2.2.2⟩
end Go.Proofs.YtgeofijddhflaaaGreatDoor
