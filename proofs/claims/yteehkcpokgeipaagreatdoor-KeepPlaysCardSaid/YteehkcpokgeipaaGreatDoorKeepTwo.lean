/- pavanelaw23.KeepTwo answers true. Condition: the snapshots can be read. -/
import Derived.Test.YteehkcpokgeipaaGreatDoorKeepTwoR
import Derived.Test.YteehkcpokgeipaaGreatDoorKeepRPieces
import Derived.Test.YteehkcpokgeipaaGreatDoorOpenP
import Derived.Test.YteehkcpokgeipaaGreatDoorCalcFacts
set_option linter.unusedVariables false
namespace Go.Proofs.YteehkcpokgeipaaGreatDoor
open Go.RowKit Go.Maps Go.Sort Go.Shelf Oct
structure SnapD where
 i : Int
 t : Int
 Av : Option Addr
 z : List Int
 cv : Nat
 Ad : Option Addr
 l : List UInt8
 cd : Nat
def SnapD.cs (s : SnapD) : List Value := [.int .i64 s.i, .int .i64 s.t, .slice s.Av s.z.length s.cv, .slice s.Ad s.l.length s.cd]
structure SnapD.Ok (w : World) (B : Nat) (s : SnapD) : Prop where
 v : Rd w B s.Av (s.z.map (Value.int .i64))
 d : Rd w B s.Ad (cells s.l)
 z : ∀ n ∈ s.z, -9223372036854775808 ≤ n ∧ n ≤ 9223372036854775807
 zl : s.z.length ≤ 140737488351232
 dl : s.l.length ≤ 4611686018427387904
 i : -9223372036854775808 ≤ s.i ∧ s.i ≤ 9223372036854775807
end Go.Proofs.YteehkcpokgeipaaGreatDoor
set_option linter.unusedVariables false
namespace Go.Proofs.YteehkcpokgeipaaGreatDoor
open Go.ChangeShapes Go.WideShapes Go.ChangeAt Go.RowKit Go.Joins Go.Deep Oct
theorem plain_of_cell {w : World} {x : Addr} {v : Value} (h0 : w.cell? x = some v) : x = ⟨x.block, x.off, none⟩ := by
 obtain ⟨b, o, s⟩ := x
 cases s with
 | none => rfl
 | some s =>
  exfalso
  unfold World.cell? at h0
  split at h0 <;> simp at h0
end Go.Proofs.YteehkcpokgeipaaGreatDoor
