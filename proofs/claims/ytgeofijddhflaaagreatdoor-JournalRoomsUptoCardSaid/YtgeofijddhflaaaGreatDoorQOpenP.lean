/- Opening arguments that are snapshots and pieces. No condition. -/
import Derived.Test.YtgeofijddhflaaaGreatDoorQOpen
import Derived.Test.YtgeofijddhflaaaGreatDoorQOpenR
import Derived.Lib.SmallJoins
import Derived.Deep.Fields
set_option linter.unusedVariables false
namespace Go.Proofs.YtgeofijddhflaaaGreatDoor
open Go.ChangeShapes Go.WideShapes Go.ChangeAt Go.RowKit Go.Joins Go.Deep Oct
section
variable {H : Type} {enc : TypeId × Value → H} {P : Program} {W : World} {base : Nat}
theorem int_cell {t : TypeId} (ht : P.underlying t = some (.int .i64)) {v : Value} {fuel : Nat} {y : DataW H × List MemPlace} (hf : DataW.trod enc P W 0 (fun _ => true) true fuel t [v] = some y) :
  ∃ a : Int, v = .int .i64 a ∧ -9223372036854775808 ≤ a ∧ a ≤ 9223372036854775807 := by
 obtain ⟨a, h1, _, h2⟩ := DataW.trod_int ht hf
 simp at h1
 exact ⟨a, h1, bd_i64 h2⟩
end
end Go.Proofs.YtgeofijddhflaaaGreatDoor
set_option linter.unusedVariables false
namespace Go.Proofs.YtgeofijddhflaaaGreatDoor
open Go.ChangeShapes Go.WideShapes Go.ChangeAt Go.RowKit Go.Joins Go.Deep Oct
theorem list_of {α : Type} {G : Nat → α → Prop} : ∀ n, (∀ k, k < n → ∃ p, G k p) → ∃ ps : List α, ps.length = n ∧ ∀ k (hk : k < ps.length), G k ps[k]
 | 0, _ => ⟨[], rfl, fun k hk => absurd hk (by simp)⟩
 | n + 1, h => by
  obtain ⟨ps, h1, h2⟩ := list_of n (fun k hk => h k (by omega))
  obtain ⟨p, hp⟩ := h n (by omega)
  refine ⟨ps ++ [p], by simp [h1], fun k hk => ?_⟩
  by_cases hlt : k < ps.length
  ·rw [List.getElem_append_left hlt]; exact h2 k hlt
  ·have : k = n := by simp at hk; omega
   subst this
   rw [List.getElem_append_right (by omega)]
   simpa [h1] using hp
end Go.Proofs.YtgeofijddhflaaaGreatDoor
