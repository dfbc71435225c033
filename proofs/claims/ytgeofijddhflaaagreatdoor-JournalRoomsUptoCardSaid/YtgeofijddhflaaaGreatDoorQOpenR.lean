/- Opening an argument that is rows of bytes. No condition. -/
import Derived.Test.YtgeofijddhflaaaGreatDoorQOpen
import Derived.Test.YtgeofijddhflaaaGreatDoorQSum
import Derived.Deep.Matrix
set_option linter.unusedVariables false
namespace Go.Proofs.YtgeofijddhflaaaGreatDoor
open Go.ChangeShapes Go.WideShapes Go.ChangeAt Go.RowKit Oct
theorem map_u8 (z : List Int) (hwf : ∀ n ∈ z, (Lit.int .u8 n).wf = true) : z.map (Value.int .u8) = cells (z.map fun n => UInt8.ofNat n.toNat) := by
 simp only [cells, List.map_map]
 refine List.map_congr_left fun n hn => ?_
 have h1 := hwf n hn
 simp [Lit.wf, IntKind.min, IntKind.max, IntKind.signed, IntKind.bits] at h1
 simp
 omega
section
variable {H : Type} {enc : TypeId × Value → H} {P : Program} {W : World} {base : Nat}
theorem weights_mem_all {e : TypeId} {n : Nat} {l : List (DataW H)} {d : DataW H} (hd : d ∈ l) (hn : n ∈ d.weights P e) : n ∈ DataW.weightsAll P e l := by
 induction l with
 | nil => cases hd
 | cons x r ih =>
  unfold DataW.weightsAll
  rcases List.mem_cons.1 hd with rfl | hd
  ·exact List.mem_append_left _ hn
  ·exact List.mem_append_right _ (ih hd)
end
end Go.Proofs.YtgeofijddhflaaaGreatDoor
