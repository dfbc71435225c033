/- The names of a disk's files, rising (disk.Names). Condition: the disk is a call's own. -/
import Derived.Test.YtgeofijddhflaaaGreatDoorPDiskApp
import Derived.Test.YtgeofijddhflaaaGreatDoorIter
set_option linter.unusedVariables false
set_option linter.unusedSimpArgs false
set_option maxHeartbeats 8000000
set_option maxRecDepth 100000
namespace Go.Proofs.YtgeofijddhflaaaGreatDoor
open Go.RowKit Go.Maps Go.Sort Go.Shelf Oct
theorem bH7(l:List (Nm×Nat)):strKeys (mU l)=l.map (·.1):=by
 unfold mU strKeys;simp only[List.map_map];rfl
theorem rJ{w:World}{base g m:Nat}{p:fT}{room:Int}{es:List (Nm×FE)}(h:aV w base g m p room es)(F:es.length<=4398046511104):
  Calls Tryz.prog 47 #[(g,0)] w fun e a =>∃v,e=.returned v∧Own a w 9 v (es.map fun q=>.string (bU q.1))∧Below w w a :=by
 obtain⟨⟨r,s,t,u,x,y⟩,z,A,B,C⟩:=gL h.b4;have b:Maps.size (mU (bI FE.b4 es))=es.length:=by rw[oE,lU]
 have f:=J (Tryz.slices_Sorted_keys_94_95 m _ (mU (bI FE.b4 es)) zO w h.map (by rw[b];unfold maxLen;omega) (by rw[b];omega));have j:=J (h.map.rising (string_keyed Tryz.underlying9));clear h b;refine(callsIn_wide (n:=6)).1 ?_;have E:Fence.wide.fn 95:=trivial;have G:Fence.wide.fn 94:=trivial;refine callsIn_of_wp Tryz.func47 rfl trivial ?_ rfl;simp only[Tryz.ntmps47,List.size_toArray,mC,List.length_nil,Nat.reduceAdd,Nat.reduceSub,Array.replicate_succ,Array.replicate_zero,List.push_toArray,List.append_toArray,List.nil_append,List.cons_append]
 gi_wp2_with (first
  |(gi_at_call 95;refine(Tryz.maps_Keys_95 _ _).mono ?_;rintro e a ⟨rfl,rfl⟩)
  |(gi_at_call 94;refine f.o.mono ?_;rintro e a ⟨v,l,rfl,c,d,D,k⟩))
 go_ret;refine⟨v,rfl,?_,((lS _ w).alloc (lR _) _).trans (k.mono σ)⟩;rw[bH7] at c;rw[aL3 j.o c] at d;have i:l.length=es:=by rw[c.length_eq];simp
 unfold Own;have e:(es.map fun q=>Value.string (bU q.1))=((bI FE.b4 es).map (·.1)).map encStr:=by
  simp only[List.map_map];rfl
 rw[e,lU,lU,lU,<-i];exact ownsRow_base_a d σ
end Go.Proofs.YtgeofijddhflaaaGreatDoor
