/- Two snapshots that are one (pavaneref23.Same). Condition: their slices can be read and hold the same. -/
import Derived.Test.YtgeofijddhflaaaGreatDoorQSealL
import Derived.Handy
namespace Go.Proofs.YtgeofijddhflaaaGreatDoor
section
open Go.RowKit Oct
def rising(last:Int):List Int->Bool
 |[]=>true
 |v::r=>decide (last<v)&&rising v r
end
section
open Go.RowKit Oct
def cW5(W:World)(g:Nat)(i t:Int)(x y:Value):Prop:=
 W.cell? ⟨g,0,none⟩=some (.int .i64 i)∧W.cell? ⟨g,1,none⟩=some (.int .i64 t)∧W.cell? ⟨g,2,none⟩=some x∧W.cell? ⟨g,3,none⟩=some y
theorem cW5.below{w w' :World}{g B:Nat}{i t:Int}{x y:Value}(h:cW5 w g i t x y)(hb:Below B w w')(hg:g<B):cW5 w' g i t x y:=
 ⟨(hb.cell hg).trans h.1,(hb.cell hg).trans h.2.1,(hb.cell hg).trans h.2.2.1,(hb.cell hg).trans h.2.2.2⟩
end
section
open Go.RowKit Oct
end
section
open Go.RowKit Oct
structure But(x y:Value)(w w' :World):Prop where
 os:w'.os=w.os
 tape:w'.tape=w.tape
 output:w'.output=w.output
 size:w.heap.size<=w'.heap.size
 block:∀k,k<w.heap.size->x.ownBlock≠some k->y.ownBlock≠some k->w'.heap[k]? =w.heap[k]?
theorem But.below{x y:Value}{w w' :World}(h:But x y w w'){base:Nat}(hB:base<=w.heap.size)(h1:∀k,x.ownBlock=some k->base<=k)(h2:∀k,y.ownBlock=some k->base<=k):Below base w w' :=
 ⟨h.os,h.tape,h.output,h.size,fun k hk=>h.block k (by omega) (fun e=>by have:=h1 k e;omega) (fun e=>by have:=h2 k e;omega)⟩
theorem But.set{x y:Value}{w w' :World}(h:But x y w w'){g:Nat}(hg:x.ownBlock=some g)(q:Nat)(u:Value):But x y w (w'.setCell ⟨g,q,none⟩ u):=
 ⟨h.os,h.tape,h.output,by simp[World.setCell,h.size],fun k hk h1 h2=>(Below.heap_setCell _ _ _ _ (by rintro rfl;exact h1 hg)).trans (h.block k hk h1 h2)⟩
end
section
open Go.RowKit Oct
theorem But.after{x y:Value}{w w1 w2:World}(hb:Below w.heap.size w w1)(h:But x y w1 w2):But x y w w2:=
 ⟨h.os.trans hb.os,h.tape.trans hb.tape,h.output.trans hb.output,Nat.le_trans hb.size h.size,fun k hk h1 h2=>(h.block k (by have:=hb.size;omega) h1 h2).trans (hb.block k hk)⟩
end
end Go.Proofs.YtgeofijddhflaaaGreatDoor
