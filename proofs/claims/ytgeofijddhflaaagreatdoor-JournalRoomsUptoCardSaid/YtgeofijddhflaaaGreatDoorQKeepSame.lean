/- Two snapshots that are one (pavaneref23.Same). Condition: their slices can be read and hold the same. -/
import Derived.Test.YtgeofijddhflaaaGreatDoorQKeepMay
import Derived.Test.YtgeofijddhflaaaGreatDoorQSum
import Derived.Test.YtgeofijddhflaaaGreatDoorQTot
import Derived.Test.YtgeofijddhflaaaGreatDoorQOwned
import Derived.Handy
set_option linter.unusedVariables false
namespace Go.Proofs.YtgeofijddhflaaaGreatDoor
open Go.RowKit Oct
def rI (b : List UInt8) : Int := unfold1 (takeU maxU b).1
end Go.Proofs.YtgeofijddhflaaaGreatDoor
set_option linter.unusedVariables false
namespace Go.Proofs.YtgeofijddhflaaaGreatDoor
open Go.RowKit Oct
end Go.Proofs.YtgeofijddhflaaaGreatDoor
set_option linter.unusedVariables false
namespace Go.Proofs.YtgeofijddhflaaaGreatDoor
open Go.RowKit Oct
structure But (x y : Value) (w w' : World) : Prop where
 os : w'.os = w.os
 tape : w'.tape = w.tape
 output : w'.output = w.output
 size : w.heap.size ≤ w'.heap.size
 block : ∀ k, k < w.heap.size → x.ownBlock ≠ some k → y.ownBlock ≠ some k → w'.heap[k]? = w.heap[k]?
theorem But.below {x y : Value} {w w' : World} (h : But x y w w') {base : Nat} (hB : base ≤ w.heap.size) (h1 : ∀ k, x.ownBlock = some k → base ≤ k) (h2 : ∀ k, y.ownBlock = some k → base ≤ k) : Below base w w' :=
 ⟨h.os, h.tape, h.output, h.size, fun k hk => h.block k (by omega) (fun e => by have := h1 k e; omega) (fun e => by have := h2 k e; omega)⟩
theorem But.set {x y : Value} {w w' : World} (h : But x y w w') {g : Nat} (hg : x.ownBlock = some g) (q : Nat) (u : Value) : But x y w (w'.setCell ⟨g, q, none⟩ u) :=
 ⟨h.os, h.tape, h.output, by simp [World.setCell, h.size], fun k hk h1 h2 => (Below.heap_setCell _ _ _ _ (by rintro rfl; exact h1 hg)).trans (h.block k hk h1 h2)⟩
end Go.Proofs.YtgeofijddhflaaaGreatDoor
set_option linter.unusedVariables false
namespace Go.Proofs.YtgeofijddhflaaaGreatDoor
open Go.RowKit Oct
theorem But.after {x y : Value} {w w1 w2 : World} (hb : Below w.heap.size w w1) (h : But x y w1 w2) : But x y w w2 :=
 ⟨h.os.trans hb.os, h.tape.trans hb.tape, h.output.trans hb.output, Nat.le_trans hb.size h.size, fun k hk h1 h2 => (h.block k (by have := hb.size; omega) h1 h2).trans (hb.block k hk)⟩
end Go.Proofs.YtgeofijddhflaaaGreatDoor
