/- Opening the arguments of a row, over any program: strings, slices of bytes, slices of ints, slices of slices of bytes, with the form's own reach. No condition. -/
import Derived.Test.YtgeofijddhflaaaGreatDoorPHeldS
import Derived.ProofKit
import Derived.OpenShut
import Derived.ShutString
set_option linter.unusedVariables false
set_option linter.unusedSimpArgs false
namespace Go.Proofs.YtgeofijddhflaaaGreatDoor
open Go.ChangeShapes Go.WideShapes Go.ChangeAt Go.RowKit Oct
open Go.ChangeMaps (open_string shut_string)
structure cE8(w:World)(A:Option Addr)(l:List UInt8)(c:Nat):Prop where
 rd:Rd w w A (cells l)
 le:l<=c
 cap:c<=140737488351232
structure bL8(w:World)(A:Option Addr)(z:List Int)(c:Nat):Prop where
 rd:Rd w w A (z.map (Value.int .i64))
 le:z<=c
 cap:c*8<=140737488351232
 wf:∀n∈z,I6 n
theorem bd_i64{n:Int}(h:(Lit.int .i64 n).wf=true):I6 n:=by
 simp[Lit.wf,IntKind.min,IntKind.max,IntKind.signed,IntKind.bits] at h;omega
section
variable{H:Type}{enc:TypeId×Value->H}{P:Program}{W:World}{base:Nat}
end
end Go.Proofs.YtgeofijddhflaaaGreatDoor
