/- Opening the arguments of a row, over any program: strings, slices of bytes, slices of ints, slices of slices of bytes, with the form's own reach. No condition. -/
import Derived.Test.YtgeofijddhflaaaGreatDoorQMem
import Derived.ProofKit
import Derived.OpenShut
import Derived.ShutString
import Derived.SizedLaws
import Derived.ChangeOld
import Derived.WalkArith
set_option linter.unusedVariables false
namespace Go.Proofs.YtgeofijddhflaaaGreatDoor
open Go.ChangeShapes Go.WideShapes Go.ChangeAt Go.RowKit Oct
open Go.ChangeMaps (open_string shut_string)
structure In8 (w : World) (A : Option Addr) (l : List UInt8) (c : Nat) : Prop where
 rd : Rd w w.heap.size A (cells l)
 le : l.length ≤ c
 cap : c ≤ 140737488351232
structure InInts (w : World) (A : Option Addr) (z : List Int) (c : Nat) : Prop where
 rd : Rd w w.heap.size A (z.map (Value.int .i64))
 le : z.length ≤ c
 cap : c * 8 ≤ 140737488351232
 wf : ∀ n ∈ z, -9223372036854775808 ≤ n ∧ n ≤ 9223372036854775807
theorem bd_i64 {n : Int} (h : (Lit.int .i64 n).wf = true) : -9223372036854775808 ≤ n ∧ n ≤ 9223372036854775807 := by
 simp [Lit.wf, IntKind.min, IntKind.max, IntKind.signed, IntKind.bits] at h
 omega
section
variable {H : Type} {enc : TypeId × Value → H} {P : Program} {W : World} {base : Nat}
end
end Go.Proofs.YtgeofijddhflaaaGreatDoor
