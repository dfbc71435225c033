/- slices.SortFunc over a journal's found segments. Condition: the row is a call's own. -/
import Derived.Test.YtgeofijddhflaaaGreatDoorQJnSame
import Derived.Test.YtgeofijddhflaaaGreatDoorLaySort
import Derived.Sort.OwnSortedInts
set_option maxHeartbeats 8000000
set_option maxRecDepth 100000
namespace Go.Proofs.YtgeofijddhflaaaGreatDoor
open Go.RowKit Go.Lib Go.Sort Go.Shelf Oct
theorem bM0(l:List aG5):flatK bA1 6 l.toArray=(aJ8 l).toArray:=by
 apply Array.ext
 ·rw[size_flatK,List.size_toArray,List.size_toArray,aW6]
 intro t h1 h2;rw[size_flatK,List.size_toArray] at h1;have h3:t/6<l.length:=by omega
 have h4:t %6<6:=by omega
 have e1:=get_flatK bA1 6 l.toArray t (by rw[List.size_toArray];exact h1);rw[getElem!_pos (flatK bA1 6 l.toArray) t (by rw[size_flatK,List.size_toArray];exact h1)] at e1;rw[e1,getElem!_pos l.toArray (t/6) (by simpa using h3)];have e2:=bL8 l h3 h4;have e3:t/6*6+t %6=t:=by omega
 rw[e3] at e2;rw[List.getElem_toArray,List.getElem_toArray];have e4:t %6<(bA1 l[t/6]).length:=by simp[bA1];omega
 rw[lW (by rw[aW6];omega),lW e4] at e2;injection e2 with e2
 rw[e2,getElem!_pos (bA1 l[t/6]) _ e4]
section
variable{w:World}{g n cap base:Nat}{os:Array Obj}{cur:Array Value}{e:TypeId}
theorem bM1{vs:List Value}(hb:w.heap[g]? =some (.cells cur e (0,0)))(ht:cur.toList.take vs.length=vs):Holds (id:Value->Value) w g 0 vs.toArray:=by
 intro j hj;have a8:j<vs.length:=by simpa using hj
 refine⟨?_,by simp[World.frozen?,hb]⟩;have h1:(cur.toList.take vs.length)[j]? =vs[j]? :=by rw[ht]
 rw[List.getElem?_take_of_lt a8] at h1;simp only[World.cell?,hb,Nat.zero_add];simp only[Option.isSome_none,Bool.false_eq_true,if_false];rw[<-Array.getElem?_toList,h1];simp[a8]
theorem bV8{fr:Nat×Nat}(d:Array Value)(hb:w.heap[g]? =some (.cells cur e fr)):
  (grow (putRow (id:Value->Value) (Sort.ahead w n) g 0 d) os).heap[g]? =some (.cells (putCells (id:Value->Value) 0 d cur) e fr):=by
 have hg:g<w.heap.size:=(Array.getElem?_eq_some_iff.1 hb).1;rw[heap_grow_old _ _ (by simpa using hg)];simp[putRow,mapBlock,Sort.ahead,Array.getElem?_modify,hb,onCells]
theorem bK5(d:Array Value):w.grownBy (grow (putRow (id:Value->Value) (Sort.ahead w n) g 0 d) os) (some g):=by
 refine⟨rfl,rfl,rfl,by simp,fun k hk hne=>?_⟩;rw[heap_grow_old _ _ (by simpa using hk)];have:g≠k:=fun e=>hne (by rw[e])
 simp[putRow,mapBlock,Sort.ahead,Array.getElem?_modify,this]
theorem bO1(cur:Array Value)(ts:List Value)(h:ts.length<=cur.size):(putCells (id:Value->Value) 0 ts.toArray cur).toList.take ts.length=ts:=by
 apply List.ext_getElem?
 intro j;by_cases hj:j<ts.length
 ·rw[List.getElem?_take_of_lt hj,Array.getElem?_toList]
  simp[putCells,hj,show j<cur.size by omega]
 rw[List.getElem?_take_eq_none (by omega),List.getElem?_eq_none (by omega)]
end
theorem cT6(w:World):(isAgg 106).run Tryz.prog w=.ok true w:=by kernel_rfl
theorem cK9(w:World):(Go.sizeOf 106).run Tryz.prog w=.ok 6 w:=by kernel_rfl
theorem dF9(q:aG5):(bA1 q).length=6:=rfl
theorem dC3(q:aG5):∀v∈bA1 q,v.oneCell' =true:=by
 intro v hv;unfold bA1 aG5.vl aG5.ve at hv;simp only[List.mem_cons,List.not_mem_nil,or_false] at hv;rcases hv with rfl|rfl|rfl|rfl|rfl|rfl<;>rfl
theorem dB7(x y:aG5)(W:World):Calls Tryz.prog 101 #[.agg (bA1 x).toArray,.agg (bA1 y).toArray] W fun e w' =>e=.returned (.int .i64 (Lib.compareInt x.s.k y.s.k))∧∃q os',w' =grow (W.drewN q) os' :=by
 have a8:=fun W' =>AnyG.cmp_Compare_int Tryz.cmpInt x.s.k y.s.k W'
 change∀W',Calls Tryz.prog 102 _ _ _ at a8
 have HC:=qZ a8;clear a8;generalize Lib.compareInt x.s.k y.s.k=r at HC⊢
 obtain⟨vx,d9⟩:∃v,v=x.vl:=⟨_,rfl⟩
 obtain⟨ex,a9⟩:∃v,v=x.ve:=⟨_,rfl⟩
 obtain⟨vy,d8⟩:∃v,v=y.vl:=⟨_,rfl⟩
 obtain⟨ey,b8⟩:∃v,v=y.ve:=⟨_,rfl⟩
 unfold bA1 aG5.vl aG5.ve;clear d9 a9 d8 b8 vx ex vy ey;go_enter Tryz.func101,Tryz.ntmps101
 go_wp2_with (go_at_call 102;refine(HC.out _).mono ?_;rintro e w' ⟨rfl,rfl⟩)
 go_ret
 exact⟨rfl,0,_,by rw[alloc_eq_grow,alloc_eq_grow,grow_grow];rfl⟩
theorem cJ4(x y:aG5):ltOf (fun x y:aG5=>Lib.compareInt x.s.k y.s.k) x y=decide (x.s.k<y.s.k):=by
 unfold ltOf Lib.compareInt;by_cases h1:x.s.k<y.s.k
 ·simp[h1]
 by_cases h2:y.s.k<x.s.k<;>simp[h1,h2]
theorem dI9:SWO (ltOf fun x y:aG5=>Lib.compareInt x.s.k y.s.k) where
 irrefl x:=by rw[cJ4];simp
 trans x y z h1 h2:=by rw[cJ4] at*;simp at*;omega
 ntrans x y z h1 h2:=by rw[cJ4] at*;simp at*;omega
theorem cW4{w:World}{base:Nat}{v:Value}{recs:List aG5}(h:w.ownsRow base 106 6 v recs.length (aJ8 recs))(hl:recs.length<=1099511627776):
  Calls Tryz.prog 100 #[v,.func (.func 101) #[] #[]] w fun e w' =>e=.returned (.tuple #[])∧
   ∃recs',recs'.Perm recs∧(recs'.Pairwise fun x y=>x.s.k<=y.s.k)∧w'.ownsRow base 106 6 v recs'.length (aJ8 recs')∧w.grownBy w' v.ownBlock:=by
 have eg:∀args w,(callFunc 101 args).run Tryz.prog w=.ok (.enter 101 args) w:=enters_of Tryz.func101 (by kernel_rfl) rfl
 have b8:∀p cap,Calls Tryz.prog 100 #[.slice p 0 cap,.func (.func 101) #[] #[]] w fun e w' =>e=.returned (.tuple #[])∧w' =w:=fun p cap=>AnyF.slices_SortFunc_none Tryz.sortFound p cap _ w
 rcases h.2 with⟨h0,hn⟩|⟨g,cap,f9,hv,a9,hg,hn,hm,hs,ht⟩
 ·subst h0
  obtain rfl:recs=[]:=mD hn;refine(b8 none 0).mono ?_;rintro e w' ⟨rfl,rfl⟩;exact⟨rfl,[],List.Perm.refl _,List.Pairwise.nil,h,⟨rfl,rfl,rfl,lR _,fun _ _ _=>rfl⟩⟩
 subst hv;have f7:=(Array.getElem?_eq_some_iff.1 hg).1;have hK:HoldsK bA1 6 w g 0 recs.toArray:=by
  unfold HoldsK;rw[bM0];refine bM1 hg ?_;rw[aW6];exact ht
 have a8:=AnyQ.slices_SortFunc Tryz.sortFound 6 cT6 cK9 bA1 dF9 dC3 (fun x y:aG5=>Lib.compareInt x.s.k y.s.k) dI9 101 #[] g 0 cap recs.toArray w eg (fun _ _ _ _ x y=>dB7 x y _) hK f7 (by simp;omega);change Calls Tryz.prog 100 _ _ _ at a8;rw[List.size_toArray] at a8;refine a8.mono ?_;rintro e w' ⟨rfl,d',n,os,hp,f8,rfl⟩;have d8:d'.toList.length=recs.length:=by have:=hp.1;simpa using this
 have hw:sortWorldK bA1 6 w g 0 n d' os=grow (putRow (id:Value->Value) (Sort.ahead w n) g 0 (aJ8 d'.toList).toArray) os:=by
  unfold sortWorldK putRowK;rw[<-bM0]
 refine⟨rfl,d'.toList,?_,?_,?_,?_⟩
 ·have h3:=hp.2.2
  rw[show recs.length=d'.size by rw[<-d8];simp] at h3;rw[Array.extract_size] at h3;rw[show d'.size=recs.toArray.size by have:=hp.1;simpa using this,Array.extract_size] at h3
  simpa using h3
 ·rw[List.pairwise_iff_getElem]
  intro i j hi hj f6;have h4:=f8 i j (Nat.zero_le _) f6 (by rw[<-d8];exact hj);rw[cJ4] at h4;rw[getElem!_pos d' j (by simpa using hj),getElem!_pos d' i (by simpa using hi)] at h4;simp only[decide_eq_false_iff_not] at h4;simp only[Array.getElem_toList];omega
 ·rw[hw,d8]
  have d9:(aJ8 d'.toList).length=recs.length*6:=by rw[aW6,d8]
  refine⟨d9,.inr ⟨g,cap,_,rfl,a9,bV8 _ hg,hn,hm,by simp[putCells,hs],?_⟩⟩;rw[<-d9];exact bO1 f9 _ (by rw[d9,hs];omega)
 rw[hw];exact bK5 _
end Go.Proofs.YtgeofijddhflaaaGreatDoor
