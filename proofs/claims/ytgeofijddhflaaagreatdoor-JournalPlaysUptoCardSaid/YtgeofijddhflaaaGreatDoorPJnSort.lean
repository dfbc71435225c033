/- slices.SortFunc over a journal's found segments. Condition: the row is a call's own. -/
import Derived.Test.YtgeofijddhflaaaGreatDoorPJnSame
import Derived.Test.YtgeofijddhflaaaGreatDoorLaySort
import Derived.Sort.OwnSortedInts
set_option linter.unusedVariables false
set_option linter.unusedSimpArgs false
set_option maxHeartbeats 8000000
set_option maxRecDepth 100000
namespace Go.Proofs.YtgeofijddhflaaaGreatDoor
open Go.RowKit Go.Lib Go.Sort Go.Shelf Oct
theorem vX(l:List cB):flatK jN 6 l.toArray=(fQ l).toArray:=by
 apply Array.ext;rw[size_flatK,List.size_toArray,List.size_toArray,pF];intro t b h;rw[size_flatK,List.size_toArray] at b;have e:t/6<l:=O;have g:t %6<6:=O;have c:=get_flatK jN 6 l.toArray t (by rw[List.size_toArray];exact b);rw[getElem!_pos (flatK jN 6 l.toArray) t (by rw[size_flatK,List.size_toArray];exact b)] at c;rw[c,getElem!_pos l.toArray (t/6) (by simpa using e)];have a:=uR l e g;have f:t/6*6+t %6=t:=O;rw[f] at a;rw[List.getElem_toArray,List.getElem_toArray];have d:t %6<(jN l[t/6]).length:=by simp[jN];omega
 rw[lW (by rw[pF];omega),lW d] at a;injection a with a
 rw[a,getElem!_pos (jN l[t/6]) _ d]
section
variable{w:World}{g n cap base:Nat}{os:Array Obj}{cur:Array Value}{e:TypeId}
theorem xM{vs:List Value}(c:w.heap[g]? =some (.cells cur e (0,0)))(f:cur.toList.take vs=vs):Holds (id:Value->Value) w g 0 vs.toArray:=by
 intro j d;have a:j<vs:=by simpa using d
 refine⟨?_,by simp[World.frozen?,c]⟩;have b:(cur.toList.take vs)[j]? =vs[j]? :=by rw[f]
 rw[List.getElem?_take_of_lt a] at b;simp only[World.cell?,c,Nat.zero_add];simp only[Option.isSome_none,Bool.false_eq_true,if_false];rw[<-Array.getElem?_toList,b];simp[a]
theorem aJ0{a:Nat×Nat}(d:Array Value)(b:w.heap[g]? =some (.cells cur e a)):
  (grow (putRow (id:Value->Value) (Sort.ahead w n) g 0 d) os).heap[g]? =some (.cells (putCells (id:Value->Value) 0 d cur) e a):=by
 have c:=(Array.getElem?_eq_some_iff.1 b).1;rw[heap_grow_old _ _ (by simpa using c)];simp[putRow,mapBlock,Sort.ahead,Array.getElem?_modify,b,onCells]
theorem xL(d:Array Value):w.grownBy (grow (putRow (id:Value->Value) (Sort.ahead w n) g 0 d) os) (some g):=by
 refine⟨rfl,rfl,rfl,σ,fun k b a=>?_⟩;rw[heap_grow_old _ _ (by simpa using b)];have:g≠k:=fun e=>a (by rw[e])
 simp[putRow,mapBlock,Sort.ahead,Array.getElem?_modify,this]
theorem aB3(cur:Array Value)(ts:List Value)(h:ts<=cur.size):(putCells (id:Value->Value) 0 ts.toArray cur).toList.take ts=ts:=by
 apply List.ext_getElem?;intro j;by_cases a:j<ts;rw[List.getElem?_take_of_lt a,Array.getElem?_toList];simp[putCells,a,show j<cur.size by omega];rw[List.getElem?_take_eq_none O,List.getElem?_eq_none O]
end
theorem bF6(w:World):(isAgg 106).run Tryz.prog w=.ok true w:=by kernel_rfl
theorem aV4(w:World):(Go.sizeOf 106).run Tryz.prog w=.ok 6 w:=by kernel_rfl
theorem bO2(q:cB):(jN q).length=6:=rfl
theorem bO3(q:cB):∀v∈jN q,v.oneCell' =true:=by
 intro v a;unfold jN cB.vl cB.ve at a;simp only[List.mem_cons,List.not_mem_nil,or_false] at a;rcases a with rfl|rfl|rfl|rfl|rfl|rfl<;>rfl
theorem bP9(x y:cB)(W:World):Calls Tryz.prog 101 #[.agg (jN x).toArray,.agg (jN y).toArray] W fun e f =>e=.returned (.int .i64 (Lib.compareInt x.s.k y.s.k))∧∃q b,f =grow (W.drewN q) b :=by
 have a:=fun d =>AnyG.cmp_Compare_int Tryz.cmpInt x.s.k y.s.k d
 change∀d,Calls Tryz.prog 102 _ _ _ at a
 have c:=J a;clear a;generalize Lib.compareInt x.s.k y.s.k=r at c⊢;obtain⟨n,l⟩:=eX x.vl;obtain⟨i,g⟩:=eX x.ve;obtain⟨p,m⟩:=eX y.vl;obtain⟨j,h⟩:=eX y.ve;unfold jN cB.vl cB.ve;clear l g m h n i p j;go_enter Tryz.func101,Tryz.ntmps101;go_wp2_with (go_at_call 102;refine(c.o _).mono ?_;rintro e f ⟨rfl,rfl⟩);go_ret;exact⟨rfl,0,_,by rw[alloc_eq_grow,alloc_eq_grow,grow_grow];rfl⟩
theorem aJ2(x y:cB):ltOf (fun x y:cB=>Lib.compareInt x.s.k y.s.k) x y=decide (x.s.k<y.s.k):=by
 unfold ltOf Lib.compareInt;by_cases a:x.s.k<y.s.k;simp[a];by_cases b:y.s.k<x.s.k<;>simp[a,b]
theorem bX6:SWO (ltOf fun x y:cB=>Lib.compareInt x.s.k y.s.k) where
 irrefl x:=by rw[aJ2];simp
 trans x y z h1 h2:=by rw[aJ2] at*;simp at*;omega
 ntrans x y z h1 h2:=by rw[aJ2] at*;simp at*;omega
theorem bH4{w:World}{base:Nat}{v:Value}{a:List cB}(h:w.ownsRow base 106 6 v a (fQ a))(K:a.length<=1099511627776):
  Calls Tryz.prog 100 #[v,.func (.func 101) #[] #[]] w fun e l =>e=.returned (.tuple #[])∧
   ∃b,b.Perm a∧(b.Pairwise fun x y=>x.s.k<=y.s.k)∧l.ownsRow base 106 6 v b.length (fQ b)∧w.grownBy l v.ownBlock:=by
 have D:∀f w,(callFunc 101 f).run Tryz.prog w=.ok (.enter 101 f) w:=enters_of Tryz.func101 κ rfl
 have C:∀p c,Calls Tryz.prog 100 #[.slice p 0 c,.func (.func 101) #[] #[]] w fun e l =>e=.returned (.tuple #[])∧l =w:=fun p c=>AnyF.slices_SortFunc_none Tryz.sortFound p c _ w
 rcases h.2 with⟨h0,hn⟩|⟨g,c,g8,hv,a9,hg,hn,hm,hs,ht⟩
 subst h0;obtain rfl:a=[]:=mD hn;refine(C none 0).mono ?_;rintro e l ⟨rfl,rfl⟩;exact⟨rfl,[],List.Perm.refl _,List.Pairwise.nil,h,⟨rfl,rfl,rfl,lR _,fun _ _ _=>rfl⟩⟩;subst hv;have H:=(Array.getElem?_eq_some_iff.1 hg).1;have F:HoldsK jN 6 w g 0 a.toArray:=by
  unfold HoldsK;rw[vX];refine xM hg ?_;rw[pF];exact ht
 have q:=AnyQ.slices_SortFunc Tryz.sortFound 6 bF6 aV4 jN bO2 bO3 (fun x y:cB=>Lib.compareInt x.s.k y.s.k) bX6 101 #[] g 0 c a.toArray w D (fun _ _ _ _ x y=>bP9 x y _) F H θ;change Calls Tryz.prog 100 _ _ _ at q;rw[List.size_toArray] at q;refine q.mono ?_;rintro e l ⟨rfl,d,n,B,u,I,rfl⟩;have m:d.toList.length=a:=by have:=u.1;simpa using this
 have A:sortWorldK jN 6 w g 0 n d B=grow (putRow (id:Value->Value) (Sort.ahead w n) g 0 (fQ d.toList).toArray) B:=by
  unfold sortWorldK putRowK;rw[<-vX]
 refine⟨rfl,d.toList,?_,?_,?_,?_⟩;have o:=u.2.2;rw[show a=d.size by rw[<-m];simp] at o;rw[Array.extract_size] at o;rw[show d.size=a.toArray.size by have:=u.1;simpa using this,Array.extract_size] at o;simpa using o;rw[List.pairwise_iff_getElem];intro i j G z E;have t:=I i j (Nat.zero_le _) E (by rw[<-m];exact z);rw[aJ2] at t;rw[getElem!_pos d j (by simpa using z),getElem!_pos d i (by simpa using G)] at t;simp only[decide_eq_false_iff_not] at t;simp only[Array.getElem_toList];omega;rw[A,m];have r:(fQ d.toList).length=a*6:=by rw[pF,m]
 refine⟨r,.inr ⟨g,c,_,rfl,a9,aJ0 _ hg,hn,hm,by simp[putCells,hs],?_⟩⟩;rw[<-r];exact aB3 g8 _ (by rw[r,hs];omega);rw[A];exact xL _
end Go.Proofs.YtgeofijddhflaaaGreatDoor
