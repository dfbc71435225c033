/- Two rows of files that are one (pavaneref21.Same). Condition: they can be read, and hold the same. -/
import Derived.Test.YtgeofijddhflaaaGreatDoorPDiskApp
import Derived.Test.YtgeofijddhflaaaGreatDoorPKeepApp
import Derived.Deep.DeepMust
set_option linter.unusedVariables false
set_option linter.unusedSimpArgs false
set_option maxHeartbeats 8000000
set_option maxRecDepth 100000
namespace Go.Proofs.YtgeofijddhflaaaGreatDoor
open Go.RowKit Go.Maps Go.Sort Oct
structure RF where
 v:Value
 f:FD
def iL(q:Nm×RF):List Value:=[.string (bU q.1),q.2.v,.int .i64 q.2.f.b5]
def eC(es:List (Nm×RF)):List Value:=es.flatMap iL
theorem aQ6:eC []=[]:=rfl
theorem jQ(q:Nm×RF)(es:List (Nm×RF)):eC (q::es)=iL q++eC es:=by unfold eC;rw[List.flatMap_cons]
theorem zR(a b:List (Nm×RF)):eC (a++b)=eC a++eC b:=by unfold eC;rw[List.flatMap_append]
theorem aK2(a:List (Nm×RF))(q:Nm×RF):eC (a++[q])=eC a++iL q:=by rw[zR,jQ,aQ6,List.append_nil]
theorem aQ5(es:List (Nm×RF)):(eC es).length=es*3:=by
 induction es with
 |nil=>rfl
 |cons q r ih=>rw[jQ,lT,ih];simp[iL];omega
theorem kJ(es:List (Nm×RF)){k:Nat}(a:k<es){j:Nat}(b:j<3):(eC es)[k*3+j]? =(iL es[k])[j]? :=by
 induction es generalizing k with
 |nil=>simp at a
 |cons q r ih=>
  rw[jQ];cases k with
  |zero=>rw[List.getElem?_append_left (by simp[iL];omega)];simp
  |succ k=>
   rw[List.getElem?_append_right (by simp[iL];omega)];have:(k+1)*3+j-(iL q).length=k*3+j:=by simp[iL];omega
   rw[this,ih (by simpa using a)];rfl
theorem qV(es:List (Nm×RF)){k:Nat}(b:k<es){j:Nat}(c:j<3)(u:Value)(q:Nm×RF)(a:iL q=(iL es[k]).set j u):(eC es).set (k*3+j) u=eC (es.set k q):=by
 induction es generalizing k with
 |nil=>simp at b
 |cons x r ih=>
  cases k with
  |zero=>
   simp only[List.set_cons_zero,jQ,Nat.zero_mul,Nat.zero_add];rw[List.set_append,if_pos (by simp[iL];omega)];simp only[List.getElem_cons_zero] at a;rw[a]
  |succ k=>
   simp only[List.set_cons_succ,jQ];rw[List.set_append,if_neg (by simp[iL];omega)];have:(k+1)*3+j-(iL x).length=k*3+j:=by simp[iL];omega
   rw[this,ih (by simpa using b) a]
def aL(g:Nat)(vL:Value)(es:List (Nm×RF))(k:Nat):Prop:=k=g∨vL.ownBlock=some k∨∃q∈es,q.2.v.ownBlock=some k
structure aR(w:World)(base g:Nat)(p:fT)(room:Int)(vL:Value)(es:List (Nm×RF)):Prop where
 b4:∃x y:Int,aS w g 74 #[vL,room,.bool p.off,.bool p.j3,x,y]∧(p.j3=true->x=p.e5∧y=p.part)∧(I6 x)∧(I6 y)
 own:w.ownsRow base 85 3 vL es (eC es)
 e9:∀q∈es,eR w base q.2.v q.2.f.b
 b5:∀q∈es,q.2.f.b5<=q.2.f.b.length
 rising:gJ es
 low:base<=g
 num:(p.j3=true->0<=p.e5)∧0<=room∧room<=9223372036854775807
section
variable{w w' :World}{base g:Nat}{p:fT}{room:Int}{vL:Value}{es:List (Nm×RF)}
theorem aR.l5(h:aR w base g p room vL es):g<w:=by obtain⟨x,y,a,_⟩:=h.b4;exact a.lt
theorem aR.lt(h:aR w base g p room vL es):∀k,aL g vL es k->base<=k∧k<w.heap.size:=by
 intro k a;rcases a with rfl|a|⟨q,b,a⟩
 exact⟨h.low,h.l5⟩;exact mL h.own k a;exact⟨(h.e9 q b).row.base k a,(h.e9 q b).row.lt k a⟩
theorem cC{e:TypeId}{a n:Nat}{v:Value}{f:List Value}(h:w.ownsRow base e a v n f)(l:∀k,v.ownBlock=some k->w'.heap[k]? =w.heap[k]?):w'.ownsRow base e a v n f:=by
 refine⟨h.1,?_⟩;rcases h.2 with m|⟨c,b,g,d,i,j,rest⟩
 exact .inl m;exact .inr ⟨c,b,g,d,i,(l c (by rw[d];rfl)).trans j,rest⟩
theorem aR.b1(h:aR w base g p room vL es)(i:w.heap.size<=w')(a:∀k,aL g vL es k->w'.heap[k]? =w.heap[k]?):aR w' base g p room vL es:=by
 obtain⟨x,y,d,c⟩:=h.b4;exact⟨⟨x,y,(a g (.inl rfl)).trans d,c⟩,cC h.own fun k e=>a k (.inr (.inl e)),fun q b=>(h.e9 q b).kept (fun j f=>a j (.inr (.inr ⟨q,b,f⟩))) i,h.b5,h.rising,h.low,h.num⟩
theorem aR.a1(h:aR w base g p room vL es)(a:Below w w w'):aR w' base g p room vL es:=
 h.b1 a.size fun k b=>a.block k (h.lt k b).2
theorem aR.e7(h:aR w base g p room vL es)(k:Nat):aR (w.drewN k) base g p room vL es:=h.b1 (lR _) fun _ _=>rfl
theorem kK{e T:TypeId}{b n a:Nat}{v:Value}{i:List Value}{cs:Array Value}(h:w.ownsRow base e b v n i)(g:aS w a T cs)(f:T≠e):v.ownBlock≠some a:=fun c=>by
 rcases h.2 with⟨hn,_⟩|⟨g',cap,cur,hv',_,hg,_⟩
 rw[hn] at c;cases c;rw[hv'] at c;have d :g' =a:=by simpa[Value.ownBlock] using c
 subst d;exact blk_ne g hg f rfl
theorem zUU{e:TypeId}{a b n:Nat}{v x:Value}{i:List Value}{l:List UInt8}(h:w.ownsRow base e b v n i)(hx:eR w a x l)(f:e≠5):∀k,x.ownBlock=some k->v.ownBlock≠some k:=fun k g c=>by
 rcases h.2 with⟨hn,_⟩|⟨g',cap,cur,hv',_,hg,_⟩
 rw[hn] at c;cases c;rw[hv'] at c;have d :g' =k:=by simpa[Value.ownBlock] using c
 subst d;exact cW hx (T:=e) (cs:=cur) hg f g
def aH9(w:World)(base g:Nat)(vL:Value)(es:List (Nm×RF))(d:DkD)(w' :World):Prop:=∃vL' es',aR w' base g d.pw d.room vL' es' ∧bI RF.f es' =d.fs∧Fr (aL g vL es) w w' ∧∀k,aL g vL' es' k->aL g vL es k∨w.heap.size<=k
abbrev cN (p:fT) (room:Int) (es:List (Nm×RF)):DkD:=⟨p,room,bI RF.f es⟩
theorem aH9.mk' (h:aR w' base g p room vL es)(a:Fr (aL g vL es) w w'):aH9 w base g vL es (cN p room es) w' :=⟨vL,es,h,rfl,a,fun k b=>.inl b⟩
theorem aR.b3(h:aR w base g p room vL es):∃A c,vL=.slice A es c∧es.length<=c∧c<=maxLen∧∀k,(a:k<es.length)->∃b,A=some ⟨b,0,none⟩∧b<w.heap.size∧w.cell? ⟨b,k*3,none⟩=some (.string (bU es[k].1))∧w.cell? ⟨b,k*3+1,none⟩=some es[k].2.v∧w.cell? ⟨b,k*3+2,none⟩=some (.int .i64 es[k].2.f.b5)∧
  w.frozen? (b,k*3+1)=false∧w.frozen? (b,k*3+2)=false:=by
 rcases h.own.2 with⟨hn,h0⟩|⟨b,cap,a8,hv,hb,hg,hc,a9,d8,hx⟩
 exact⟨none,0,by rw[hn,h0],O,by unfold maxLen;omega,fun k a=>O⟩;refine⟨_,cap,hv,hc,a9,fun k a=>⟨b,rfl,(Array.getElem?_eq_some_iff.1 hg).1,?_,?_,?_,?_,?_⟩⟩;rw[World.ownsRow.cellAt (hv▸h.own) (k*3) O];exact kJ es a (j:=0) O;rw[World.ownsRow.cellAt (hv▸h.own) (k*3+1) O];exact kJ es a (j:=1) O;rw[World.ownsRow.cellAt (hv▸h.own) (k*3+2) O];exact kJ es a (j:=2) O;exact aS.a6 (t:=85) (cs:=a8) hg _;exact aS.a6 (t:=85) (cs:=a8) hg _
theorem aR.j6(h:aR w base g p room vL es){p' :fT}(f:w.grownBy w' (some g)){x y:Int}(n:aS w' g 74 #[vL,room,.bool p'.off,.bool p'.j3,x,y])
  (l:(p'.j3=true->x=p'.e5∧y=p'.part)∧(I6 x)∧(I6 y)) (a:p'.j3=true->0<=p'.e5):aR w' base g p' room vL es:=by
 obtain⟨r,s,c,_⟩:=h.b4;have d:∀k,aL g vL es k->k≠g->w'.heap[k]? =w.heap[k]? :=fun k o a=>f.block k (h.lt k o).2 (fun e=>a (by injection e))
 exact⟨⟨x,y,n,l⟩,cC h.own fun k e=>d k (.inr (.inl e)) (fun m =>kK h.own c δ (by rw[e,m])),
  fun q b=>(h.e9 q b).kept (fun j i=>d j (.inr (.inr ⟨q,b,i⟩)) (fun e=>cW (h.e9 q b) c δ (by rw[i,e]))) f.size,h.b5,h.rising,h.low,⟨a,h.num.2⟩⟩
theorem aR.row(h:aR w base g p room vL es){d :Value}{a :List (Nm×RF)}(m:w.heap.size<=w'){x y:Int}(k:aS w' g 74 #[d,room,.bool p.off,.bool p.j3,x,y])
  (j:(p.j3=true->x=p.e5∧y=p.part)∧(I6 x)∧(I6 y))
  (i:w'.ownsRow base 85 3 d a (eC a)) (e:∀q∈a,eR w' base q.2.v q.2.f.b) (c:∀q∈a,q.2.f.b5<=q.2.f.b.length) (l:gJ a):aR w' base g p room d a :=
 ⟨⟨x,y,k,j⟩,i,e,c,l,h.low,h.num⟩
theorem cR{α β:Type}(f:α->β)(l:List (Nm×α)):(bI f l).length=l:=by simp[bI]
end
theorem pR{w:World}{g:Nat}{t:TypeId}{a b c d e f:Value}(h:aS w g t #[a,b,c,d,e,f]):(w.cell? (g,0)=some a∧w.cell? (g,1)=some b∧w.cell? (g,2)=some c∧w.cell? (g,3)=some d∧w.cell? (g,4)=some e∧w.cell? (g,5)=some f)∧
  w.frozen? (g,0)=false∧w.frozen? (g,1)=false∧w.frozen? (g,2)=false∧w.frozen? (g,3)=false∧w.frozen? (g,4)=false∧w.frozen? (g,5)=false:=
 ⟨⟨h.cell 0,h.cell 1,h.cell 2,h.cell 3,h.cell 4,h.cell 5⟩,h.a6 0,h.a6 1,h.a6 2,h.a6 3,h.a6 4,h.a6 5⟩
theorem qX(n k:Int)(g:I6 n)(i:1<=k∧k<=4611686018427387904)(w:World):Calls Tryz.prog 35 #[n,k] w fun e j =>e=.returned (.int .i64 (n %k))∧w=j :=by
 obtain⟨m,p⟩:=i;have q:-k<n.tmod k:=ω1 (Int.lt_tmod_of_pos n (show 0<k by omega));have r:n.tmod k<k:=Int.tmod_lt_of_pos n O;have f:=Int.mul_tdiv_add_tmod n k;have d:n.tmod k=n+(-(n.tdiv k))*k:=by rw[Int.neg_mul,Int.mul_comm];omega
 have b:n.tmod k %k=n %k:=by rw[d,Int.add_mul_emod_self_right]
 have l:¬k=0:=O;by_cases h:n.tmod k<0
 ·have a:n.tmod k+k=n %k:=by
   rw[<-b,<-Int.add_emod_right,Int.emod_eq_of_lt O O]
  have c:=J a;clear a g f d b;go_enter Tryz.func35,Tryz.ntmps35;go_wp2;go_ret;exact⟨by rw[<-c.o];rfl,rfl⟩
 have a:n.tmod k=n %k:=by
  rw[<-b,Int.emod_eq_of_lt O O]
 have c:=J a;clear a g f d b;go_enter Tryz.func35,Tryz.ntmps35;go_wp2;go_ret;exact⟨by rw[<-c.o];rfl,rfl⟩
theorem eJ(b:Bool)(w:World):Calls Tryz.prog 38 #[.bool b] w fun e a =>e=.returned (.int .i64 (if b=true then 50 else 0))∧w=a :=by
 cases b
 ·go_enter Tryz.func38,Tryz.ntmps38
  go_wp2;go_ret;exact⟨rfl,rfl⟩
 go_enter Tryz.func38,Tryz.ntmps38;go_wp2;go_ret;exact⟨rfl,rfl⟩
def cB9{α:Type}(n:Nm)(l:List (Nm×α)):Int:=match l.findIdx? (fun q=>q.1==n) with|some k=>(k:Int)|none=>-1
theorem aP5{α:Type}{n:Nm}{l:List (Nm×α)}(h:∀q∈l,q.1≠n):cB9 n l=-1:=by
 unfold cB9;have:l.findIdx? (fun q=>q.1==n)=none:=by
  rw[List.findIdx?_eq_none_iff];intro q a;simpa using h q a
 rw[this]
theorem aP6{α:Type}{n:Nm}{l:List (Nm×α)}{k:Nat}(b:k<l)(a:l[k].1=n)(h:∀q∈l.take k,q.1≠n):cB9 n l=(k:Int):=by
 unfold cB9;have:l.findIdx? (fun q=>q.1==n)=some k:=by
  rw[List.findIdx?_eq_some_iff_getElem];refine⟨b,by simp[a],fun j c=>?_⟩;have:=h l[j] (List.mem_take_iff_getElem.2 ⟨j,O,rfl⟩);simpa using this
 rw[this]
theorem jA{α:Type}{n:Nm}{l:List (Nm×α)}{a:α}(h:aX n l=some a):∃k,∃b:k<l.length,cB9 n l=(k:Int)∧l[k]=(n,a):=by
 unfold aX at h;rw[Option.map_eq_some_iff] at h;obtain⟨p,e,rfl⟩:=h;rw[List.find?_eq_some_iff_getElem] at e;obtain⟨f,k,b,d,g⟩:=e;have c:p.1=n:=by simpa using f
 refine⟨k,b,aP6 b (by rw[d,c]) (fun q i=>?_),by rw[d,<-c]⟩;obtain⟨j,m,rfl⟩:=List.mem_take_iff_getElem.1 i;have:=g j O;simpa using this
theorem iK{α:Type}{n:Nm}{l:List (Nm×α)}(h:aX n l=none):cB9 n l=-1:=by
 refine aP5 fun q a e=>?_
 unfold aX at h;simp only[Option.map_eq_none_iff,List.find?_eq_none] at h;have:=h q a;simp[e] at this
theorem pL{w:World}{base g:Nat}{p:fT}{room:Int}{vL:Value}{es:List (Nm×RF)}(h:aR w base g p room vL es)(n:Nm)(N:es.length<=140737488351232):
  Calls Tryz.prog 36 #[(g,0),.string (bU n)] w fun e B =>e=.returned (.int .i64 (cB9 n es))∧w=B :=by
 obtain⟨x,y,z,_⟩:=h.b4;obtain⟨⟨C,D,E,F,G,H⟩,_⟩:=pR z;obtain⟨A,c,rfl,L,K,u⟩:=h.b3;have s:=J u;go_enter Tryz.func36,Tryz.ntmps36;go_wp2_with fail;go_loopw [5] (fun i wr=>∃k:Nat,k<=es∧i=.int .i64 k∧Hq (∀q∈es.take k,q.1≠n)∧Hq (w=wr)) (fun i _=>es.length-(intOf i).toNat)
 case atStart=>exact⟨0,O,rfl,J σ,J rfl⟩
 obtain⟨k,M,rfl,j,r⟩:=hrel;obtain rfl:=r.o;by_cases d:k<es
 ·obtain⟨b,rfl,I,m,P,Q,_⟩:=s.o k d
  by_cases f:es[k].1=n
  ·have l:=J (aP6 d f j.o)
   rw[f] at m;go_wp2;go_ret;exact⟨by rw[l.o];rfl,rfl⟩
  have v:((bU es[k].1).toList==(bU n).toList)=false:=by rw[nR];exact decide_eq_false f
  have t:Hq (∀q∈es.take (k+1),q.1≠n):=J (fun q a=>by
   rw[List.take_succ_eq_append_getElem d] at a;rcases mB.1 a with a|a
   exact j.o q a;rw[lY.1 a];exact f)
  generalize es[k].1=nm at m v;go_wp2;go_roundw
  case rel=>exact⟨k+1,O,by go_num,t,J trivial⟩
  case measure=>simp[intOf];omega
 have l:=J (aP5 fun q a=>j.o q (by rw[List.take_of_length_le O];exact a));go_wp2;go_ret;exact⟨by rw[l.o];rfl,rfl⟩
theorem oN{w:World}{base g:Nat}{p:fT}{room:Int}{vL:Value}{es:List (Nm×RF)}(h:aR w base g p room vL es):
  Calls Tryz.prog 34 #[(g,0)] w fun e i =>e=.returned (.bool p.cut.1)∧aR i base g p.cut.2.2 room vL es∧Fr (aL g vL es) w i ∧i.heap.size=w:=by
 obtain⟨x,y,q,m,hx,z⟩:=h.b4;obtain⟨⟨A,B,t,u,C,D⟩,F,G,I,K,L,M⟩:=pR q;have H:=J h;have j:=J q;have l:=J z;have r:=h.num.1;obtain⟨a,b,n,s⟩:=p;simp only at t u m r;cases b with
 |false=>
  go_enter Tryz.func34,Tryz.ntmps34;go_wp2;go_ret;exact⟨rfl,H.o,Fr.refl _ _,rfl⟩
 |true=>
  obtain⟨rfl,rfl⟩:=m rfl;have E:=r rfl;by_cases v:0<x
  ·have c:=aA w g 4 (.int .i64 (x-1))
   have e:fT.cut ⟨a,true,x,y⟩=(false,0,⟨a,true,x-1,y⟩):=by simp[fT.cut,v]
   have d:Hq (aR (w.setCell (g,4) (.int .i64 (x-1))) base g ⟨a,true,x-1,y⟩ room vL es):=J (H.o.j6 c (x:=x-1) (y:=y) (aS.b8 j.o 4 _) ⟨fun _=>⟨rfl,rfl⟩,⟨O,O⟩,l.o⟩ (fun _=>by show 0<=x-1;omega));have f:Hq (Fr (aL g vL es) w (w.setCell (g,4) (.int .i64 (x-1)))):=J (Fr.e2 c (fun k e=>by injection e with e;exact .inl e.symm));rw[e];go_enter Tryz.func34,Tryz.ntmps34;go_wp2;go_ret;exact⟨rfl,d.o,f.o,σ⟩
  obtain rfl:x=0:=O;have c:=aF (aA w g 3 (.bool false)) (aA (w.setCell (g,3) (.bool false)) g 2 (.bool true)) (.inl rfl);have e:fT.cut ⟨a,true,0,y⟩=(true,y,⟨true,false,0,y⟩):=by simp[fT.cut]
  have d:Hq (aR ((w.setCell (g,3) (.bool false)).setCell (g,2) (.bool true)) base g ⟨true,false,0,y⟩ room vL es):=J (H.o.j6 c (x:=0) (y:=y) (aS.b8 (aS.b8 j.o 3 _) 2 _) ⟨fun h=>(by cases h),⟨O,O⟩,l.o⟩ (fun h=>by cases h));have f:Hq (Fr (aL g vL es) w ((w.setCell (g,3) (.bool false)).setCell (g,2) (.bool true))):=J (Fr.e2 c (fun k e=>by injection e with e;exact .inl e.symm));rw[e];go_enter Tryz.func34,Tryz.ntmps34;go_wp2;go_ret;exact⟨rfl,d.o,f.o,σ⟩
theorem aD4(l:List (Nm×FD))(k:Nat):bC (l.take k)<=bC l:=by
 induction l generalizing k with
 |nil=>simp
 |cons q r ih=>
  cases k with
  |zero=>simp only[List.take_zero,bC];have:=dD r;omega
  |succ k=>simp only[List.take_succ_cons,bC];have:=ih k;omega
theorem aL2(a b:List (Nm×FD)):bC (a++b)=bC a+bC b:=by
 induction a with
 |nil=>simp[bC]
 |cons q r ih=>simp only[List.cons_append,bC,ih];omega
def bL6(es:List (Nm×RF))(k:Nat):Int:=bC (bI RF.f (es.take k))
theorem bS7(es:List (Nm×RF)):bL6 es 0=0:=by simp[bL6,bC]
theorem bZ4(es:List (Nm×RF)){k:Nat}(h:es<=k):bL6 es k=bC (bI RF.f es):=by unfold bL6;rw[List.take_of_length_le h]
theorem bS6{es:List (Nm×RF)}{k:Nat}(a:k<es):bL6 es (k+1)=bL6 es k+(es[k].2.f.b.length:Int):=by
 unfold bL6;rw[List.take_succ_eq_append_getElem a];simp only[bI,mE,aL2];simp[bC]
theorem zWW(es:List (Nm×RF))(k:Nat):0<=bL6 es k:=dD _
theorem aZ7(es:List (Nm×RF))(k:Nat):bL6 es k<=bC (bI RF.f es):=by
 unfold bL6;simp only[bI,List.map_take];exact aD4 _ _
theorem rK{w:World}{base g:Nat}{p:fT}{room:Int}{vL:Value}{es:List (Nm×RF)}(h:aR w base g p room vL es)(V:bC (bI RF.f es)<=4611686018427387904)(T:es.length<=140737488351232):
  Calls Tryz.prog 33 #[(g,0)] w fun e C =>e=.returned (.int .i64 (room-bC (bI RF.f es)))∧w=C :=by
 obtain⟨x,y,z,_⟩:=h.b4;obtain⟨⟨E,F,G,H,I,K⟩,_⟩:=pR z;obtain⟨A,c,rfl,P,N,s⟩:=h.b3;obtain⟨_,Q,U⟩:=h.num;have r:=J s;have l:=J h.e9;go_enter Tryz.func33,Tryz.ntmps33;go_wp2_with fail;go_loopw [3,4] (fun n i wr=>∃k:Nat,k<=es∧i=.int .i64 k∧n=.int .i64 (room-bL6 es k)∧Hq (w=wr)) (fun _ i _=>es.length-(intOf i).toNat)
 case atStart=>exact⟨0,O,rfl,by rw[bS7];simp,J rfl⟩
 obtain⟨k,S,rfl,rfl,q⟩:=hrel;obtain rfl:=q.o;by_cases a:k<es
 ·obtain⟨b,rfl,M,W,j,X,_⟩:=r.o k a
  obtain⟨D,L,B,_,_,_⟩:=(l.o es[k] (lX a)).b3;rw[B] at j;have d:=J (bS6 a);have t:=zWW es k;have u:=aZ7 es k;have R:=aZ7 es (k+1);have v:(es[k].2.f.b.length:Int)<=4611686018427387904:=ω1 d.o;generalize es[k].2.f.b.length=nb at j d v;go_wp2;go_roundw
  case rel=>exact⟨k+1,O,by go_num,by have e:=d.o;simp only[Value.int.injEq,true_and];omega,J trivial⟩
  case measure=>simp[intOf];omega
 have m:Hq (bL6 es k=bC (bI RF.f es)):=J (bZ4 es O);have t:=zWW es k;have u:=aZ7 es k;go_wp2;go_ret;exact⟨by rw[<-m.o];rfl,rfl⟩
theorem bS3(room:Int)(l:I6 room)(w:World):
  Calls Tryz.prog 9 #[room] w fun e i =>e=.returned (.pointer (w,0))∧aR i w w ⟨false,false,0,0⟩ (max room 0) (.slice none 0 0) []∧Below w w i :=by
 have k:∀r:Int,0<=r->r<=9223372036854775807->aR (w.alloc (.cells #[.slice none 0 0,r,.bool false,.bool false,.int .i64 0,.int .i64 0] 74)) w w ⟨false,false,0,0⟩ r (.slice none 0 0) []:=fun r a c=>
  ⟨⟨0,0,aS.new w 74 _,(fun h=>by cases h),δ,δ⟩,World.ownsRow_nil _ _ _ _,(fun q d=>by cases d),(fun q d=>by cases d),List.Pairwise.nil,lR _,(fun h=>by cases h),a,c⟩
 have g:=J k;have f:∀r:Int,Hq (Below w w (w.alloc (.cells #[.slice none 0 0,r,.bool false,.bool false,.int .i64 0,.int .i64 0] 74))):=fun r=>J ((lS _ w).alloc (lR _) _)
 have j:=J l;rcases Int.lt_or_le room 0 with a|a
 ·have e:max room 0=0:=O
  rw[e];have b:=f 0;go_enter Tryz.func9,Tryz.ntmps9;go_wp2;go_ret;exact⟨rfl,g.o 0 (Int.le_refl _) O,b.o⟩
 have e:max room 0=room:=O;rw[e];have b:=f room;have c:=j.o.2;go_enter Tryz.func9,Tryz.ntmps9;go_wp2;go_ret;exact⟨rfl,g.o room a c,b.o⟩
def fT.arm(p:fT)(a b:Int):fT:=⟨p.off,decide (0<=a),a,b⟩
theorem bS1{w:World}{base g:Nat}{p:fT}{room:Int}{vL:Value}{es:List (Nm×RF)}(h:aR w base g p room vL es)(a b:Int)(r:I6 a)(q:I6 b):
  Calls Tryz.prog 74 #[(g,0),a,b] w fun e j =>(∃v,e=.returned v)∧aR j base g (p.arm a b) room vL es∧Fr (aL g vL es) w j :=by
 obtain⟨x,y,i,I,hx,K⟩:=h.b4;obtain⟨⟨s,t,u,z,A,B⟩,C,D,E,F,G,H⟩:=pR i;obtain⟨d,c⟩:=eX ((((w.setCell (g,3) (.bool (decide (0<=a)))).setCell (g,4) a).setCell (g,5) b));have f:w.grownBy d (some g):=by rw[c];exact aF (aF (aA w g 3 _) (aA _ g 4 _) (.inl rfl)) (aA _ g 5 _) (.inl rfl)
 have l:Hq (aR d base g (p.arm a b) room vL es):=J (h.j6 f (x:=a) (y:=b) (by rw[c];exact aS.b8 (aS.b8 (aS.b8 i 3 _) 4 _) 5 _) ⟨fun _=>⟨rfl,rfl⟩,r,q⟩ (fun h=>by simpa[fT.arm] using h));have m:Hq (Fr (aL g vL es) w d):=J (Fr.e2 f (fun k e=>by injection e with e;exact .inl e.symm));have n:=J c;go_enter Tryz.func74,Tryz.ntmps74;go_wp2_with fail;rw[<-n.o];go_end0;exact⟨⟨_,rfl⟩,l.o,m.o⟩
theorem kB:(Tryz.prog.info? 85).map (fun i=>(i.zero,i.size,i.bytes))=some (some (.agg #[.string ⟨#[]⟩,.slice none 0 0,.int .i64 0]),3,48):=by kernel_rfl
theorem dJ{P:Program}{w:World}{r:Array Oper}{rest:List Oper}{o:Oper}{a:Act}{Q:Exit->Act->World->Prop}(D:o.guard=none)(s x:Operand)(t:TypeId)
  (R:o.op=.call {callee:=.builtin .append,args:=#[s,x],argTypes:=#[t,t]})
  (base:Nat) (e:TypeId) (z:Value) (b f:Nat) (T:P.underlying t=some (.slice e)) (l:(P.info? e).map (fun i=>(i.zero,i.size,i.bytes))=some (some z,b,f)) (F:z.cells.size=b) (E:0<b)
  (v:Value) (n:Nat) (G:List Value) (S:a.eval s=v) (q:w.ownsRow base e b v n G)
  (B:Addr) (m c:Nat) (d:List Value) (hx:a.eval x=.slice (some B) m c) (N:d=m*b) (p:∀j u,d[j]? =some u->w.cell? (B.add j)=some u) (H:∀u∈d,u.oneCell' =true)
  (C:n+m<=maxLen) (g:(n+m)*f<=140737488355328) (k:base<=w)
  (h:∀y A,A.ownsRow base e b y (n+m) (G++d)->w.grownBy A v.ownBlock->jD y v.ownBlock w->wpList P r Q rest (a.put o.dst y) A):wpList P r Q (o::rest) a w:=
 wpList_plain D fun _ M=>eM s x t R base e z b f T l F E v n G S q B m c d hx N p H C g k fun y A I K L=>M _ _ (h y A I K L)
theorem dH{w:World}{g:Nat}{t:TypeId}{cs:List Value}(h:aS w g t cs.toArray)(j:Nat)(u:Value)(b:cs[j]? =some u):w.cell? (((g,0):Addr).add j)=some u:=by
 have a:((g,0):Addr).add j=⟨g,j,none⟩:=by unfold Addr.add;split<;>simp_all
 rw[a,h.cell];simpa using b
def fG(w:World)(base:Nat)(v:Value)(es:List (Nm×RF)):Prop:=w.ownsRow base 85 3 v es (eC es)
theorem fG.nil(w:World)(base:Nat):fG w base (.slice none 0 0) []:=World.ownsRow_nil _ _ _ _
theorem fG.lt{w:World}{base:Nat}{v:Value}{es:List (Nm×RF)}(h:fG w base v es):∀k,v.ownBlock=some k->base<=k∧k<w.heap.size:=mL h
theorem fG.a1{w w' :World}{base:Nat}{v:Value}{es:List (Nm×RF)}(h:fG w base v es)(a:Below w w w'):fG w' base v es:=cC h fun k b=>a.block k (h.lt k b).2
theorem aR3{w:World}{base a b n:Nat}{e:TypeId}{v:Value}{d:List Value}(h:w.ownsRow base e b v n d)(l:a <=base):w.ownsRow a e b v n d:=by
 refine⟨h.1,?_⟩;rcases h.2 with i|⟨g,c,f,j,k,rest⟩
 exact .inl i;exact .inr ⟨g,c,f,j,O,rest⟩
theorem fG.b3{w:World}{base:Nat}{v:Value}{es:List (Nm×RF)}(h:fG w base v es):∃A c,v=.slice A es c:=by
 rcases h.2 with⟨hn,h0⟩|⟨b,cap,a8,hv,_⟩
 exact⟨none,0,by rw[hn,h0]⟩;exact⟨_,cap,hv⟩
theorem fG.push{w wr a:World}{N:Nat}{v e :Value}{l:List (Nm×RF)}{q:Nm×RF}{c:Option Addr}{d:Nat}(g:Below N w wr)(h:N<=wr)(i:fG wr N v l)(n:q.2.v=.slice c q.2.f.b.length d){o:Obj}
  (a8:a.ownsRow N 85 3 e (l.length+1) (eC l++[.string (bU q.1),.slice c q.2.f.b.length d,.int .i64 q.2.f.b5])) (j:(wr.alloc o).grownBy a v.ownBlock):fG a N e (l++[q])∧Below N w a:=by
 refine⟨?_,(g.alloc h o).grown j θ (fun k m=>(i.lt k m).1)⟩;unfold fG;rw[aK2,lT];unfold iL;rw[n];exact a8
section
variable{w w' :World}{base g:Nat}{p:fT}{room:Int}{vL:Value}{es:List (Nm×RF)}
theorem aR.setL(h:aR w base g p room vL es){wr:World}(i:Below w w wr){a:Value}{c :List (Nm×RF)}(l:fG wr w a c)(a8:∀q∈c,eR w base q.2.v q.2.f.b)(s:∀q∈c,q.2.f.b5<=q.2.f.b.length)(A:gJ c):
  aR (wr.setCell (g,0) a) base g p room a c ∧Fr (fun k=>k=g) w (wr.setCell (g,0) a):=by
 obtain⟨x,y,o,B⟩:=h.b4;have u:base<=w:=ω2 h.l5 h.low;have t:aS wr g 74 _:=(i.block g h.l5).trans o;have m:∀k,k≠g->(wr.setCell (g,0) a).heap[k]? =wr.heap[k]? :=fun k d=>Below.heap_setCell wr (g,0) a k (by simpa using d)
 have n:(wr.setCell (g,0) a).heap.size=wr:=by simp
 refine⟨h.row (by rw[n];exact i.size) (x:=x) (y:=y) (aS.b8 t 0 a) B ?_ (fun q r=>?_) s A,?_⟩;refine aR3 (cC l fun k d=>m k (fun e=>?_)) u;have:=(l.lt k d).1;have:=h.l5;omega;refine((a8 q r).a1 i (lR _)).kept (fun k d=>m k (fun e=>cW (a8 q r) o δ (by rw[d,e]))) (by rw[n];exact lR _);exact(Fr.b9 (fun k=>k=g) i).trans (mine' :=fun k=>k=g) (Fr.e2 (aA wr g 0 a) (fun k e=>by injection e with e;exact e.symm)) (fun j z=>.inl z)
end
theorem xJ{α:Type}(n:Nm)(l:List (Nm×α)){k:Nat}(a:k<l):bE n (l.take (k+1))=bE n (l.take k)++(if l[k].1=n then[] else[l[k]]):=by
 rw[List.take_succ_eq_append_getElem a];unfold bE;rw[List.filter_append];by_cases h:l[k].1=n<;>simp[h]
theorem iW{α:Type}(n:Nm)(l:List (Nm×α)):(bE n l).length<=l:=List.length_filter_le _ _
theorem sW{α:Type}{n:Nm}{l:List (Nm×α)}(h:gJ l):gJ (bE n l):=List.Pairwise.filter _ h
theorem vD{w:World}{base g:Nat}{p:fT}{room:Int}{vL:Value}{es:List (Nm×RF)}(h:aR w base g p room vL es)(n:Nm)(hl:es.length<=1099511627776):
  Calls Tryz.prog 133 #[(g,0),.string (bU n)] w fun e Y =>(∃v,e=.returned v)∧∃t,aR Y base g p room t (bE n es)∧Fr (fun k=>k=g) w Y ∧(∀k,aL g t (bE n es) k->aL g vL es k∨w.heap.size<=k):=by
 obtain⟨x,y,P,_⟩:=h.b4;have Q:=J P;obtain⟨A,c,l7,m5,l8,R⟩:=h.b3;have j9:=J R;have H:=J h;have T:=h.l5;clear R P h;subst l7;go_enter Tryz.func133,Tryz.ntmps133;go_wp2_with fail;go_loopw [4,5] (fun o i wr=>∃k:Nat,k<=es∧i=.int .i64 k∧Hq (fG wr w o (bE n (es.take k)))∧Hq (Below w w wr)) (fun _ i _=>es.length-(intOf i).toNat)
 case atStart=>exact⟨0,O,rfl,J (fG.nil _ _),J (lS _ _)⟩
 obtain⟨k,d,rfl,l,a⟩:=hrel;have c0:=(show aS wr g 74 _ from(a.o.block g T).trans Q.o).c 0;by_cases j:k<es;rotate_left
 ·have f0:=(show aS wr g 74 _ from(a.o.block g T).trans Q.o).a6 0
  have e:es.take k=es:=List.take_of_length_le O;have L:=J (H.o.setL a.o (by rw[<-e];exact l.o) (fun q f=>H.o.e9 q (eQ.1 f).1) (fun q f=>H.o.b5 q (eQ.1 f).1) (sW H.o.rising));obtain⟨Ao,co,l6⟩:=l.o.b3;have HN:=J (fun k d=>(l.o.lt k d).1);have m3:g<wr:=ω1 a.o.size;subst l6;clear e;go_wp2;go_end0;refine⟨⟨_,rfl⟩,_,L.o.1,L.o.2,fun k d=>?_⟩;rcases d with rfl|d|⟨q,f,d⟩
  exact .inl (.inl rfl);exact .inr (HN.o k d);exact .inl (.inr (.inr ⟨q,(eQ.1 f).1,d⟩))
 obtain⟨b,rfl,E,F,G,I,_⟩:=j9.o k j;have B:=a.o.cell (p:=(b,k*3)) E;have s:=a.o.cell (p:=(b,k*3+1)) E;have C:=a.o.cell (p:=(b,k*3+2)) E;rw[F] at B;rw[G] at s;rw[I] at C;have m:=xJ n es j;have l9:(bE n (es.take k)).length<=k:=by have:=iW n (es.take k);rw[lV] at this;omega
 by_cases r:es[k].1=n
 ·rw[if_pos r,List.append_nil] at m
  have u:=J m;have z:((bU es[k].1).toList==(bU n).toList)=true:=by rw[nR];exact decide_eq_true r
  generalize es[k].1=nm at B z;clear r m F G I s C;go_wp2;go_roundw
  case rel=>exact⟨k+1,O,by go_num,J (by rw[u.o];exact l.o),a⟩
  case measure=>simp[intOf];omega
 rw[if_neg r] at m;have u:=J m;have z:((bU es[k].1).toList==(bU n).toList)=false:=by rw[nR];exact decide_eq_false r
 obtain⟨Z,cx,D,_,_,_⟩:=(H.o.e9 es[k] (lX j)).b3;obtain⟨q,f⟩:=eX (es[k]);rw[<-f] at B s C z D u;rw[D] at s;have HV:=J D;have M:=J hl;obtain⟨V,qv,U,W⟩:=q;simp only at B s C z;clear r m F G I f D;go_wp2_with (at_builtin;refine dJ rfl (.tmp 25) (.tmp 33) 68 rfl w.heap.size 85 (.agg #[.string ⟨#[]⟩,.slice none 0 0,.int .i64 0]) 3 48 Tryz.underlying68 kB rfl δ _ (bE n (es.take k)).length _ rfl (l.o.a1 ((lS _ wr).alloc (lR _) _)) ⟨wr.heap.size,0,none⟩ 1 1 [.string (bU V),.slice Z U.length cx,W] rfl rfl (dH (aS.new wr 85 _)) (by simp[Value.oneCell']) (by have:=M.o;unfold maxLen;omega) (ω1 M.o) (by have:=a.o.size;simp;omega) ?_;intro v' w2 N S _);obtain⟨K,X⟩:=fG.push (q:=(V,⟨qv,⟨U,W⟩⟩)) a.o a.o.size l.o HV.o N S;rw[<-u.o] at K;have l5:=J K;have l4:=J X;clear K X N S;go_roundw
 case rel=>exact⟨k+1,O,by go_num,l5,l4⟩
 case measure=>simp[intOf];omega
theorem wM:∀a b:List UInt8,Op.bytesLess a b=bytesBefore a b
 |[],[]=>rfl
 |_::_,[]=>rfl
 |[],_::_=>rfl
 |a::x,b::y=>by simp only[Op.bytesLess,bytesBefore,wM x y]
theorem bZ7{a b:Nm}(h:a≠b):(!(Op.bytesLess (bU a).toList (bU b).toList||(bU a).toList==(bU b).toList))=bytesBefore b a:=by
 rw[nR,jB,jB,wM,decide_eq_false h,Bool.or_false];cases h1:bytesBefore a b with
 |true=>
  have:bytesBefore b a=false:=by
   cases c:bytesBefore b a with
   |false=>rfl
   |true=>
    have:=WideShapes.bytes_trans _ _ _ h1 c;rw[show bytesBefore a a=false from WideAt.bytes_irrefl a] at this;cases this
  rw[this];rfl
 |false=>
  rcases WideAt.bytes_total a b h with c|c
  rw[h1] at c;cases c;rw[c];rfl
section
variable{α:Type}
theorem yD{x:Nm×α}:∀{d:List (Nm×α)},(∀q∈d,bytesBefore x.1 q.1=false)->asIns x d=d++[x]
 |[],_=>rfl
 |y::r,h=>by
  unfold asIns;rw[if_neg (by rw[h y (List.mem_cons_self ..)];simp),yD (fun q a=>h q (List.mem_cons_of_mem _ a))];rfl
theorem yC{x y:Nm×α}:∀{d:List (Nm×α)},(∀q∈d,bytesBefore x.1 q.1=false)->bytesBefore x.1 y.1=true->asIns x (d++[y])=d++[x]++[y]
 |[],_,h=>by simp[asIns,h]
 |z::r,h,h2=>by
  rw[List.cons_append];unfold asIns;rw[if_neg (by rw[h z (List.mem_cons_self ..)];simp),yC (fun q a=>h q (List.mem_cons_of_mem _ a)) h2];rfl
theorem vN{x y:Nm×α}:∀{d:List (Nm×α)},(∃q∈d,bytesBefore x.1 q.1=true)->asIns x (d++[y])=asIns x d++[y]
 |[],h=>by obtain⟨q,a,_⟩:=h;cases a
 |z::r,h=>by
  rw[List.cons_append];unfold asIns;by_cases b:bytesBefore x.1 z.1=true;rw[if_pos b,if_pos b];rfl;rw[if_neg b,if_neg b,vN];rfl;obtain⟨q,a,c⟩:=h;rcases List.mem_cons.1 a with rfl|a
  exact absurd c b;exact⟨q,a,c⟩
theorem sY{x:Nm×α}:∀{d:List (Nm×α)},gJ d->(∀q∈d,q.1≠x.1)->gJ (asIns x d)
 |[],_,_=>by simp[asIns,gJ]
 |y::r,h,hne=>by
  have c:=List.pairwise_cons.1 h;unfold asIns;by_cases b:bytesBefore x.1 y.1=true;rw[if_pos b];refine List.pairwise_cons.2 ⟨fun q a=>?_,h⟩;rcases List.mem_cons.1 a with rfl|a
  exact b;exact WideShapes.bytes_trans _ _ _ b (c.1 q a);rw[if_neg b];refine List.pairwise_cons.2 ⟨fun q a=>?_,sY c.2 (fun q a=>hne q (List.mem_cons_of_mem _ a))⟩;rcases asIns_mem.1 a with rfl|a
  rcases WideAt.bytes_total y.1 q.1 (hne y (List.mem_cons_self ..)) with e|e
  exact e;exact absurd e b;exact c.1 q a
theorem sZ{n:Nm}{a:α}{l:List (Nm×α)}(h:gJ l):gJ (aW n a l):=sY (sW h) (fun q b=>(eQ.1 b).2)
def qR(n:Nm)(f:α)(l:List (Nm×α))(dn:Bool)(out:List (Nm×α)):Prop:=
 (dn=false∧out=bE n l∧∀q∈l,bytesBefore n q.1=false)∨(dn=true∧out=aW n f l∧∃q∈bE n l,bytesBefore n q.1=true)
theorem oZ(n:Nm)(l:List (Nm×α))(y:Nm×α):bE n (l++[y])=bE n l++(if y.1=n then[] else[y]):=by
 unfold bE;rw[List.filter_append];by_cases h:y.1=n<;>simp[h]
theorem aY1{n:Nm}{f:α}{l b:List (Nm×α)}{c:Bool}{y:Nm×α}(h:qR n f l c b)(d:y.1=n):qR n f (l++[y]) c b:=by
 have e:bE n (l++[y])=bE n l:=by rw[oZ,if_pos d,List.append_nil]
 rcases h with⟨h1,h2,h3⟩|⟨h1,h2,h3⟩
 refine .inl ⟨h1,by rw[e,h2],fun q a=>?_⟩;rcases mB.1 a with a|a
 exact h3 q a;rw[lY.1 a,d];exact WideAt.bytes_irrefl n;exact .inr ⟨h1,by unfold aW;rw[e,h2];rfl,by rw[e];exact h3⟩
theorem aP4{n:Nm}{f:α}{l a:List (Nm×α)}{y:Nm×α}(h:qR n f l true a)(d:y.1≠n):qR n f (l++[y]) true (a++[y]):=by
 have e:bE n (l++[y])=bE n l++[y]:=by rw[oZ,if_neg d]
 rcases h with⟨h1,_⟩|⟨_,h2,h3⟩
 cases h1;refine .inr ⟨rfl,?_,?_⟩;unfold aW;rw[e,vN h3,h2];rfl;obtain⟨q,c,b⟩:=h3;exact⟨q,by rw[e];exact List.mem_append_left _ c,b⟩
theorem aY0{n:Nm}{f:α}{l a:List (Nm×α)}{y:Nm×α}(h:qR n f l false a)(d:y.1≠n)(b:bytesBefore n y.1=true):qR n f (l++[y]) true (a++[(n,f)]++[y]):=by
 have e:bE n (l++[y])=bE n l++[y]:=by rw[oZ,if_neg d]
 rcases h with⟨_,h2,h3⟩|⟨h1,_⟩
 refine .inr ⟨rfl,?_,y,by rw[e];simp,b⟩;unfold aW;rw[e,yC (fun q c=>h3 q (eQ.1 c).1) b,h2];cases h1
theorem bI7{n:Nm}{f:α}{l b:List (Nm×α)}{y:Nm×α}(h:qR n f l false b)(d:y.1≠n)(c:bytesBefore n y.1=false):qR n f (l++[y]) false (b++[y]):=by
 have e:bE n (l++[y])=bE n l++[y]:=by rw[oZ,if_neg d]
 rcases h with⟨_,h2,h3⟩|⟨h1,_⟩
 refine .inl ⟨rfl,by rw[e,h2],fun q a=>?_⟩;rcases mB.1 a with a|a
 exact h3 q a;rw[lY.1 a];exact c;cases h1
theorem aF9{n:Nm}{f:α}{l a:List (Nm×α)}{b:Bool}(h:qR n f l b a):(if b=true then a else a++[(n,f)])=aW n f l:=by
 rcases h with⟨rfl,h2,h3⟩|⟨rfl,h2,_⟩
 rw[if_neg σ,h2];unfold aW;rw[yD (fun q c=>h3 q (eQ.1 c).1)];rw[if_pos rfl,h2]
theorem bI6{n:Nm}{f:α}{l a:List (Nm×α)}{b:Bool}(h:qR n f l b a):a.length<=l+1:=by
 have:=iW n l;rcases h with⟨_,h2,_⟩|⟨_,h2,_⟩
 rw[h2];omega;rw[h2];unfold aW;rw[iN];omega
end
theorem fG.heap{w W:World}{base:Nat}{v:Value}{es:List (Nm×RF)}(h:fG w base v es)(e:W.heap=w.heap):fG W base v es:=cC h fun k _=>by rw[e]
theorem oQ{w:World}{base g:Nat}{p:fT}{room:Int}{vL:Value}{es:List (Nm×RF)}(h:aR w base g p room vL es)(n:Nm)(f:RF)(j8:eR w base f.v f.f.b)(i4:f.f.b5<=f.f.b)(hl:es.length<=1099511627776):
  Calls Tryz.prog 37 #[(g,0),.agg #[.string (bU n),f.v,f.f.b5]] w fun e w' =>(∃v,e=.returned v)∧∃vL',aR w' base g p room vL' (aW n f es)∧Fr (fun k=>k=g) w w' ∧(∀k,aL g vL' (aW n f es) k->aL g vL es k∨w.heap.size<=k∨f.v.ownBlock=some k):=by
 obtain⟨x,y,hb,_⟩:=h.b4;have n5:=J hb;obtain⟨A,c,C3,C5,C4,p8⟩:=h.b3;obtain⟨t,z,p9,_,_,_⟩:=j8.b3;have t9:=J p8;have H:=J h;have B6:=J j8;have B8:=J i4;have o8:=h.l5;clear p8 hb h j8 i4;subst C3;obtain⟨fv,d,C⟩:=f;simp only at p9;subst p9;have p6:=(lS w w).alloc (lR _) (.cells #[.string (bU n),.slice t d z,.int .i64 (C:Int)] 85);have p7:=J (aS.new w 85 #[.string (bU n),.slice t d z,.int .i64 (C:Int)]);obtain⟨D,m7⟩:=eX (w.alloc (.cells #[.string (bU n),.slice t d z,.int .i64 (C:Int)] 85));have C6:D.heap.size=w+1:=by rw[m7];simp
 rw[<-m7] at p6 p7;have Y:=J p6;have B9:=J m7;clear p6 m7;go_enter Tryz.func37,Tryz.ntmps37;go_wp2_with fail;rw[<-B9.o];go_loopw [4,5,6] (fun o dn i wr=>∃(k:Nat) (b:Bool) (a:List (Nm×RF)),k<=es∧i=.int .i64 k∧dn=.bool b∧Hq (qR n ⟨.slice t d z,d,C⟩ (es.take k) b a)∧Hq (fG wr D o a)∧Hq (Below D D wr)) (fun _ _ i _=>es.length-(intOf i).toNat)
 case atStart=>exact⟨0,false,[],O,rfl,rfl,J (.inl ⟨rfl,rfl,σ⟩),J (fG.nil _ _),J (lS _ _)⟩
 obtain⟨k,dn,a,V,rfl,rfl,Q,B,m⟩:=hrel;have m5:=J (Y.o.trans (m.o.mono O));have l4:aS wr g 74 _:=(m5.o.block g o8).trans n5.o;have c0:=l4.c 0;have Z:aS wr w 85 _:=(m.o.block w O).trans p7.o;have k0:=Z.c 0;have k1:=Z.c 1;have k2:=Z.c 2;have s9:=bI6 Q.o;have C2:a<=k+1:=by rw[lV] at s9;omega
 clear s9;by_cases X:k<es;rotate_left
 ·have e:es.take k=es:=List.take_of_length_le O
  rw[e] at Q;clear e;have l8:∀(W:World) (j9:List (Nm×RF)) (v:Value),fG W D v j9->Below D D W->j9=aW n ⟨.slice t d z,⟨d,C⟩⟩ es->(aR (W.setCell (g,0) v) base g p room v (aW n ⟨.slice t d z,⟨d,C⟩⟩ es)∧Fr (fun k=>k=g) w (W.setCell (g,0) v))∧(∀k,aL g v (aW n ⟨.slice t d z,⟨d,C⟩⟩ es) k->aL g (.slice A es c) es k∨w.heap.size<=k∨(Value.slice t d z).ownBlock=some k):=by
   intro W j9 v h1 h2 h3;subst h3;have C1:=h1.lt;refine⟨?_,fun k V=>?_⟩;have h4:=aR.setL (H.o.a1 Y.o) h2 h1 (fun q s=>?_) (fun q s=>?_) (sZ H.o.rising);exact⟨h4.1,(Fr.b9 _ Y.o).trans h4.2 (fun j hj=>.inl hj)⟩;rcases asPut_mem.1 s with rfl|⟨s,_⟩
   exact B6.o.a1 Y.o (lR _);exact(H.o.e9 q s).a1 Y.o (lR _);rcases asPut_mem.1 s with rfl|⟨s,_⟩
   exact B8.o;exact H.o.b5 q s;rcases V with rfl|V|⟨q,s,V⟩
   exact .inl (.inl rfl);exact .inr (.inl (ω1 ((C1 k V).1)));rcases asPut_mem.1 s with rfl|⟨s,_⟩
   exact .inr (.inr V);exact .inl (.inr (.inr ⟨q,s,V⟩))
  have l6:=J l8;clear l8;have f0:=l4.a6 0;have E:=J hl;cases dn with
  |true=>
   have K:=J (aF9 Q.o);rw[if_pos rfl] at K;obtain⟨Ao,co,p5⟩:=B.o.b3;subst p5;clear Z l4;go_wp2;go_end0;obtain⟨z1,z2⟩:=l6.o _ _ _ B.o m.o K.o;exact⟨⟨_,rfl⟩,_,z1.1,z1.2,z2⟩
  |false=>
   have K:=J (aF9 Q.o);rw[if_neg σ] at K;clear Z l4;go_wp2_with (at_builtin;refine dJ rfl (.tmp 58) (.tmp 60) 68 rfl D.heap.size 85 (.agg #[.string ⟨#[]⟩,.slice none 0 0,.int .i64 0]) 3 48 Tryz.underlying68 kB rfl δ _ a.length _ rfl (fG.a1 (w:=wr) B.o ((lS _ _).alloc (lR _) _)) ⟨wr.heap.size,0,none⟩ 1 1 [.string (bU n),.slice t d.length z,C] rfl rfl (dH (aS.new _ 85 _)) (by simp[Value.oneCell']) (by have:=E.o;unfold maxLen;(try simp only[lT,mC,List.length_nil]);omega) (by have:=E.o;(try simp only[lT,mC,List.length_nil]);omega) (by have:=m.o.size;simp;omega) ?_;intro v2 U u G _;obtain⟨l,r⟩:=fG.push (wr:=wr) (q:=(n,⟨.slice t d.length z,⟨d,C⟩⟩)) m.o m.o.size B.o rfl u G;obtain⟨T,N⟩:∃T:List (Nm×RF),T=a++[(n,⟨.slice t d.length z,⟨d,C⟩⟩)]:=⟨_,rfl⟩;have p4:T.length<=k+2:=(by rw[N,lT,List.length_singleton];omega);rw[<-N] at l;have n8:=J N;clear N;have M:=J l;have L:=J r;have R:=Y.o.trans (r.mono O);clear l r u G B;have m6:aS U g 74 _:=(R.block g o8).trans n5.o;have d0:=m6.cell 0;have g0:=m6.a6 0;have C0:=m6.lt;clear R m6;obtain⟨Ao,co,p5⟩:=M.o.b3;subst p5);go_end0;obtain⟨z1,z2⟩:=l6.o _ _ _ M.o L.o (n8.o.trans K.o);exact⟨⟨_,rfl⟩,_,z1.1,z1.2,z2⟩
 obtain⟨b,rfl,l5,q0,q1,q2,_⟩:=t9.o k X;have m8:=m5.o.cell (p:=(b,k*3)) l5;have m3:=m5.o.cell (p:=(b,k*3+1)) l5;have m9:=m5.o.cell (p:=(b,k*3+2)) l5;rw[q0] at m8;rw[q1] at m3;rw[q2] at m9;have l9:=List.take_succ_eq_append_getElem X;by_cases S:es[k].1=n
 ·have F:=J (aY1 Q.o S)
  rw[<-l9] at F;have l7:((bU es[k].1).toList==(bU n).toList)=true:=by rw[nR];exact decide_eq_true S
  generalize es[k].1=nm at m8 l7;clear S l9 q0 q1 q2 m3 m9 k1 k2 l4 Z;go_wp2_with fail;go_quiet (fail);go_wp2;go_roundw
  case rel=>exact⟨k+1,dn,a,O,by go_num,rfl,F,J (show fG wr _ _ _ from B.o),J (aD m.o _)⟩
  case measure=>simp[intOf];omega
 have l7:((bU es[k].1).toList==(bU n).toList)=false:=by rw[nR];exact decide_eq_false S
 have I:=bZ7 S;rw[l7,Bool.or_false] at I;obtain⟨Ax,cx,hv,_,_,_⟩:=(H.o.e9 es[k] (lX X)).b3;obtain⟨q,s⟩:=eX (es[k]);rw[<-s] at m8 m3 m9 l7 I hv S l9;rw[hv] at m3;have HV:=J hv;have K:=J S;have n9:=J l9;have E:=J hl;obtain⟨P,qv,qb,qs⟩:=q;simp only at m8 m3 m9 l7 I;have HQ:=J (And.intro q0 (And.intro q1 q2));rw[<-s,hv] at HQ;clear S l9 q0 q1 q2 s hv l4 Z;cases dn with
 |true=>
  have F:=J (aP4 Q.o K.o);rw[<-n9.o] at F;clear I k1 k2;go_wp2_with fail;go_quiet (fail);go_wp2_with fail;go_quiet (fail);go_wp2_with (at_builtin;go_must (refine dJ rfl (.tmp 46) (.tmp 54) 68 rfl D.heap.size 85 (.agg #[.string ⟨#[]⟩,.slice none 0 0,.int .i64 0]) 3 48 Tryz.underlying68 kB rfl δ _ a.length _ rfl (fG.a1 (w:=wr.drewN _) (fG.heap B.o rfl) ((lS _ _).alloc (lR _) _)) ⟨wr.heap.size,0,none⟩ 1 1 [.string (bU P),.slice Ax qb.length cx,qs] rfl rfl (dH (aS.new _ 85 _)) (by simp[Value.oneCell']) (by have:=E.o;unfold maxLen;omega) (ω1 E.o) (by have:=m.o.size;simp;omega) ?_;intro v2 U u G _));obtain⟨l,r⟩:=fG.push (wr:=wr.drewN _) (q:=(P,⟨qv,⟨qb,qs⟩⟩)) (aD m.o _) m.o.size (fG.heap B.o rfl) HV.o u G;have M:=J l;have L:=J r;clear l r u G;go_roundw
  case rel=>exact⟨k+1,true,_,O,by go_num,rfl,F,M,L⟩
  case measure=>simp[intOf];omega
 |false=>
  cases hbb:bytesBefore n P with
  |false=>
   have F:=J (bI7 Q.o K.o hbb);rw[<-n9.o] at F;rw[hbb] at I;have o9:Op.bytesLess (bU P).toList (bU n).toList=true:=by simpa using I
   clear I k1 k2 hbb;go_wp2_with fail;go_quiet (fail);go_wp2_with fail;go_quiet (fail);go_wp2_with (at_builtin;go_must (refine dJ rfl (.tmp 46) (.tmp 54) 68 rfl D.heap.size 85 (.agg #[.string ⟨#[]⟩,.slice none 0 0,.int .i64 0]) 3 48 Tryz.underlying68 kB rfl δ _ a.length _ rfl (fG.a1 (w:=wr.drewN _) (fG.heap B.o rfl) ((lS _ _).alloc (lR _) _)) ⟨wr.heap.size,0,none⟩ 1 1 [.string (bU P),.slice Ax qb.length cx,qs] rfl rfl (dH (aS.new _ 85 _)) (by simp[Value.oneCell']) (by have:=E.o;unfold maxLen;omega) (ω1 E.o) (by have:=m.o.size;simp;omega) ?_;intro v2 U u G _));obtain⟨l,r⟩:=fG.push (wr:=wr.drewN _) (q:=(P,⟨qv,⟨qb,qs⟩⟩)) (aD m.o _) m.o.size (fG.heap B.o rfl) HV.o u G;have M:=J l;have L:=J r;clear l r u G;go_roundw
   case rel=>exact⟨k+1,false,_,O,by go_num,rfl,F,M,L⟩
   case measure=>simp[intOf];omega
  |true=>
   have F:=J (aY0 Q.o K.o hbb);rw[<-n9.o] at F;rw[hbb] at I;have o9:Op.bytesLess (bU P).toList (bU n).toList=false:=by simpa using I
   clear I hbb;go_wp2_with fail;go_quiet (fail);go_wp2_with fail;go_quiet (fail);go_wp2_with (first|(at_builtin;refine dJ rfl (.tmp 42) (.tmp 44) 68 rfl D.heap.size 85 (.agg #[.string ⟨#[]⟩,.slice none 0 0,.int .i64 0]) 3 48 Tryz.underlying68 kB rfl δ _ a.length _ rfl (fG.a1 (w:=wr.drewN _) (fG.heap B.o rfl) ((lS _ _).alloc (lR _) _)) ⟨wr.heap.size,0,none⟩ 1 1 [.string (bU n),.slice t d.length z,C] rfl rfl (dH (aS.new _ 85 _)) (by simp[Value.oneCell']) (by have:=E.o;unfold maxLen;(try simp only[lT,mC,List.length_nil]);omega) (by have:=E.o;(try simp only[lT,mC,List.length_nil]);omega) (by have:=m.o.size;simp;omega) ?_;intro v2 U u G _;obtain⟨l,r⟩:=fG.push (wr:=wr.drewN _) (q:=(n,⟨.slice t d.length z,⟨d,C⟩⟩)) (aD m.o _) m.o.size (fG.heap B.o rfl) rfl u G;obtain⟨T,N⟩:∃T:List (Nm×RF),T=a++[(n,⟨.slice t d.length z,⟨d,C⟩⟩)]:=⟨_,rfl⟩;have p4:T.length<=k+2:=(by rw[N,lT,List.length_singleton];omega);rw[<-N] at l;have n8:=J N;clear N;have M:=J l;have L:=J r;have R:=Y.o.trans (r.mono O);clear l r u G B;have d0:=(show aS U g 74 _ from(R.block g o8).trans n5.o).cell 0;have e0:=R.cell (p:=⟨b,k*3,none⟩) l5;have e1:=R.cell (p:=⟨b,k*3+1,none⟩) l5;have e2:=R.cell (p:=⟨b,k*3+2,none⟩) l5;rw[HQ.o.1] at e0;rw[HQ.o.2.1] at e1;rw[HQ.o.2.2] at e2;clear R)|(at_builtin;refine dJ rfl (.tmp 46) (.tmp 54) 68 rfl D.heap.size 85 (.agg #[.string ⟨#[]⟩,.slice none 0 0,.int .i64 0]) 3 48 Tryz.underlying68 kB rfl δ _ T.length _ rfl (fG.a1 (w:=U) M.o ((lS _ _).alloc (lR _) _)) ⟨U.heap.size,0,none⟩ 1 1 [.string (bU P),.slice Ax qb.length cx,qs] rfl rfl (dH (aS.new _ 85 _)) (by simp[Value.oneCell']) (by have:=E.o;unfold maxLen;(try simp only[lT,mC,List.length_nil]);omega) (by have:=E.o;(try simp only[lT,mC,List.length_nil]);omega) (by have:=L.o.size;simp;omega) ?_;intro v3 w3 u q8 _));obtain⟨l,r⟩:=fG.push (wr:=U) (q:=(P,⟨qv,⟨qb,qs⟩⟩)) L.o L.o.size M.o HV.o u q8;rw[n8.o] at l;have B7:=J l;have B1:=J r;clear l r u q8;go_roundw
   case rel=>exact⟨k+1,true,_,O,by go_num,rfl,F,B7,B1⟩
   case measure=>simp[intOf];omega
section
variable{w w1 w2:World}{base g:Nat}{p p' :fT}{room:Int}{vL vL' :Value}{es es' :List (Nm×RF)}
theorem mS{n:Nm}(h:aX n es=none):aX n (bI RF.f es)=none:=by rw[fA,h];rfl
theorem gS{n:Nm}{a:RF}(h:aX n es=some a):aX n (bI RF.f es)=some a.f:=by rw[fA,h];rfl
theorem tE(h:p.cut.1=true):p.j3=true∧p.cut.2.1=p.part:=by
 unfold fT.cut at h⊢;split at h;cases h;split at h;cases h;rename_i a b;rw[if_neg a,if_neg b];exact⟨by simpa using a,rfl⟩
theorem kL{fs:List (Nm×FD)}(a:Fr (aL g vL es) w w1)(e:aR w2 base g p' room vL' es')(l:bI RF.f es' =fs)(c:Fr (aL g vL es) w1 w2)(i:∀k,aL g vL' es' k->aL g vL es k∨w1.heap.size<=k):aH9 w base g vL es ⟨p',room,fs⟩ w2:=
 ⟨vL',es',e,l,a.trans c (fun j h=>.inl h),fun k d=>by
  rcases i k d with b|b
  exact .inl b;exact .inr (mM a.size b)⟩
theorem kQ{d:DkD}{fs:List (Nm×FD)}(h:d.pw.cut.1=false∨d.pw.cut.2.1 %2=1):d.e0 fs=(if d.pw.cut.1=true then 50 else 0,⟨d.pw.cut.2.2,d.room,fs⟩):=by
 have a:d.pw.cut.1=false∨d.pw.cut.2.1 %2≠0:=by
  rcases h with h|h
  exact .inl h;exact .inr O
 unfold DkD.e0;simp only[if_pos a]
theorem vH{d:DkD}{fs:List (Nm×FD)}(h:d.pw.cut.1=true)(b:d.pw.cut.2.1 %2≠1):d.e0 fs=(50,⟨d.pw.cut.2.2,d.room,d.fs⟩):=by
 have a:¬(d.pw.cut.1=false∨d.pw.cut.2.1 %2≠0):=by rw[h];simp;omega
 unfold DkD.e0;simp only[if_pos h,if_neg a]
theorem aR5(h:aR w base g p room vL es)(n:Nm)(X:es.length<=1099511627776):
  Calls Tryz.prog 85 #[(g,0),.string (bU n)] w fun e a =>e=.returned (.int .i64 ((cN p room es).b6 n).1)∧aH9 w base g vL es ((cN p room es).b6 n).2 a :=by
 obtain⟨x,y,s,r,hx,t⟩:=h.b4;obtain⟨⟨Y,Z,M,c3,c4,c5⟩,_⟩:=pR s;have H:=J h;have q:=J (pL h n O);by_cases C:p.off=true
 ·have e:(cN p room es).b6 n=(50,cN p room es):=by unfold DkD.b6;rw[if_pos C]
  rw[e];rw[C] at M;clear h e s r hx t;go_enter Tryz.func85,Tryz.ntmps85;go_wp2_with fail;refine q.o.mono ?_;rintro e a ⟨rfl,rfl⟩;go_wp2;go_ret;exact⟨rfl,aH9.mk' H.o (Fr.refl _ _)⟩
 have T:p.off=false:=by simpa using C
 cases hg:aX n es with
 |none=>
  have e:(cN p room es).b6 n=(51,cN p room es):=by unfold DkD.b6;rw[if_neg C];simp only[mS hg]
  rw[e];rw[T] at M;have m:=iK hg;rw[m] at q;clear h e s r hx t m;go_enter Tryz.func85,Tryz.ntmps85;go_wp2_with fail;refine q.o.mono ?_;rintro e a ⟨rfl,rfl⟩;go_wp2;go_ret;exact⟨rfl,aH9.mk' H.o (Fr.refl _ _)⟩
 |some fe=>
  obtain⟨k,S,m,Q⟩:=jA hg;have e:(cN p room es).b6 n=(cN p room es).e0 (bE n (bI RF.f es)):=by unfold DkD.b6;rw[if_neg C];simp only[gS hg]
  rw[m] at q;rw[T] at M;have b:=J (oN h);have E:Hq (∀w1,aR w1 base g p.cut.2.2 room vL es->Calls Tryz.prog 133 #[(g,0),.string (bU n)] w1 fun e a =>(∃v,e=.returned v)∧∃L,aR a base g p.cut.2.2 room L (bE n es)∧Fr (fun k=>k=g) w1 a ∧(∀k,aL g L (bE n es) k->aL g vL es k∨w1.heap.size<=k)):=J (fun w1 V=>vD V n X);cases hgo:p.cut.1 with
  |false=>
   have l:=kQ (d:=cN p room es) (fs:=bE n (bI RF.f es)) (.inl hgo);rw[e,l,hgo];rw[hgo] at b;clear h e l s r hx t m Q hgo;go_enter Tryz.func85,Tryz.ntmps85;go_wp2_with fail;refine q.o.mono ?_;rintro e a ⟨rfl,rfl⟩;go_wp2_with fail;refine b.o.mono ?_;rintro e w1 ⟨rfl,c,i,_⟩;have N:=J i;have z:=J (E.o w1 c);clear c i b E;go_wp2_with fail;refine z.o.mono ?_;rintro e w2 ⟨⟨v,rfl⟩,L,D,F,G⟩;have u:=J (kL N.o D (jF RF.f n es) (F.mono (fun j _ e=>.inl e)) G);clear D F G z;have A:=J (eJ false w2);go_wp2_with fail;refine A.o.mono ?_;rintro e a ⟨rfl,rfl⟩;go_wp2;go_ret;exact⟨rfl,u.o⟩
  |true=>
   obtain⟨P,R⟩:=tE hgo;have K:y=p.cut.2.1:=by rw[R];exact(r P).2
   have I:=fun W:World=>J (qX y 2 t O W)
   by_cases B:y %2=1
   ·have l:=kQ (d:=cN p room es) (fs:=bE n (bI RF.f es)) (.inr (by show p.cut.2.1 %2=1;rw[<-K];exact B))
    rw[e,l,hgo];rw[hgo] at b;rw[B] at I;clear h e l s r hx t m Q hgo B K P R;go_enter Tryz.func85,Tryz.ntmps85;go_wp2_with fail;refine q.o.mono ?_;rintro e a ⟨rfl,rfl⟩;go_wp2_with fail;refine b.o.mono ?_;rintro e w1 ⟨rfl,c,i,_⟩;have N:=J i;have z:=J (E.o w1 c);clear c i b E;go_wp2_with fail;refine(I w1).o.mono ?_;rintro e a ⟨rfl,rfl⟩;go_wp2_with fail;refine z.o.mono ?_;rintro e w2 ⟨⟨v,rfl⟩,L,D,F,G⟩;have u:=J (kL N.o D (jF RF.f n es) (F.mono (fun j _ e=>.inl e)) G);clear D F G z;have A:=J (eJ true w2);go_wp2_with fail;refine A.o.mono ?_;rintro e a ⟨rfl,rfl⟩;go_wp2;go_ret;exact⟨rfl,u.o⟩
   have l:=vH (d:=cN p room es) (fs:=bE n (bI RF.f es)) hgo (by show p.cut.2.1 %2≠1;rw[<-K];exact B);rw[e,l];rw[hgo] at b;obtain⟨y2,U⟩:=eX (y %2);rw[<-U] at B I;clear h e l s r hx t m Q hgo K P R U E;go_enter Tryz.func85,Tryz.ntmps85;go_wp2_with fail;refine q.o.mono ?_;rintro e a ⟨rfl,rfl⟩;go_wp2_with fail;refine b.o.mono ?_;rintro e w1 ⟨rfl,c,i,_⟩;have u:=J (kL (Fr.refl _ _) c rfl i (fun k S=>.inl S));have A:=J (eJ true w1);clear c i b;go_wp2_with fail;refine(I w1).o.mono ?_;rintro e a ⟨rfl,rfl⟩;go_wp2_with fail;refine A.o.mono ?_;rintro e a ⟨rfl,rfl⟩;go_wp2;go_ret;exact⟨rfl,u.o⟩
theorem oA{α:Type}{a:α}:∀{l:List (Nm×α)} (h:gJ l) {k:Nat} (f:k<l),aW l[k].1 a l=l.set k (l[k].1,a)
 |[],_,k,f=>by simp at f
 |y::r,h,k,f=>by
  have d:=List.pairwise_cons.1 h;have c:∀q∈r,q.1≠y.1:=fun q g e=>by
   have:=d.1 q g;rw[e,show bytesBefore y.1 y.1=false from WideAt.bytes_irrefl _] at this;cases this
  cases k with
  |zero=>
   simp only[List.getElem_cons_zero,List.set_cons_zero];unfold aW bE;rw[List.filter_cons_of_neg σ,List.filter_eq_self.2 (fun q g=>by simpa using c q g)];cases r with
   |nil=>rfl
   |cons z r=>
    unfold asIns;rw[if_pos (d.1 z (List.mem_cons_self ..))]
  |succ k=>
   have b :k<r:=by simpa using f
   simp only[List.getElem_cons_succ,List.set_cons_succ];have i:=oA (a:=a) d.2 b;unfold aW bE at i⊢;have j:=d.1 r[k] (lX b);rw[List.filter_cons_of_pos (by simpa using(c _ (lX b)).symm)];unfold asIns;rw[if_neg (fun m=>by
    have:=WideShapes.bytes_trans _ _ _ j m;rw[show bytesBefore y.1 y.1=false from WideAt.bytes_irrefl _] at this;cases this)]
   rw[i]
theorem aR.setRow{b c:Nat}(h:aR w base g p room (.slice (b,0) es c) es){k:Nat}(I:k<es)(q' :RF)(st:List Value->List Value)(Q:∀l,(st l).length=l)(s:∀i,i≠b->w2.heap[i]? =w.heap[i]?)(z:w2.heap.size=w)(r:w2.os=w.os∧w2.tape=w.tape∧w2.output=w.output)
  (H:∀o,aS w b 85 o->∃m,aS w2 b 85 m∧m.size=o.size∧∀N,m.toList.take N=st (o.toList.take N)) (d:st (eC es)=eC (es.set k (es[k].1,q'))) (D:eR w base q'.v q'.f.b) (C:q'.f.b5<=q'.f.b)
  (A:∀i,q'.v.ownBlock=some i->aL g (.slice (b,0) es c) es i∨w1.heap.size<=i):
  aR w2 base g p room (.slice (b,0) es c) (aW es[k].1 q' es)∧Fr (aL g (.slice (b,0) es c) es) w w2∧
  (∀i,aL g (.slice (b,0) es c) (aW es[k].1 q' es) i->aL g (.slice (b,0) es c) es i∨w1.heap.size<=i):=by
 have L:=oA (a:=q') h.rising I;have B:=sZ (n:=es[k].1) (a:=q') h.rising;obtain⟨x,y,t,R⟩:=h.b4;have M:=(mL h.own b rfl).1;have P:g≠b:=fun e=>kK h.own t δ (by rw[e];rfl)
 have u:∀q:Nm×RF,eR w base q.2.v q.2.f.b->eR w2 base q.2.v q.2.f.b:=fun q d=>d.kept (fun i j=>s i (fun e=>zUU h.own d δ i j (by rw[e];rfl))) (by rw[z];exact lR _)
 refine⟨⟨⟨x,y,(s g P).trans t,R⟩,?_,fun q d=>?_,fun q d=>?_,B,h.low,h.num⟩,⟨r.1,r.2.1,r.2.2,by rw[z];exact lR _,fun i _ K=>s i (fun e=>K (.inr (.inl (by rw[e];rfl))))⟩,fun i j=>?_⟩;rw[L,<-d,List.length_set];refine⟨by rw[Q,aQ5],.inr ?_⟩;rcases h.own.2 with⟨hn,_⟩|⟨b',cap,o,hv,_,l5,hc,j9,l4,hx⟩
 cases hn;injection hv with hv1 _ hv3
 injection hv1 with hv1
 injection hv1 with hv1
 subst hv1 hv3;obtain⟨m,E,F,G⟩:=H o l5;exact⟨b,c,m,rfl,M,E,hc,j9,by rw[F];exact l4,by rw[G,hx]⟩;rcases asPut_mem.1 d with rfl|⟨d,_⟩
 exact u (es[k].1,q') D;exact u q (h.e9 q d);rcases asPut_mem.1 d with rfl|⟨d,_⟩
 exact C;exact h.b5 q d;rcases j with rfl|j|⟨q,d,j⟩
 exact .inl (.inl rfl);exact .inl (.inr (.inl j));rcases asPut_mem.1 d with rfl|⟨d,_⟩
 exact A i j;exact .inl (.inr (.inr ⟨q,d,j⟩))
theorem pP(a:Array Value)(i:Nat)(u:Value)(N:Nat):(a.setIfInBounds i u).toList.take N=(a.toList.take N).set i u:=by rw[Array.toList_setIfInBounds,List.take_set]
theorem aR.k9{b c:Nat}(h:aR w base g p room (.slice (b,0) es c) es){k:Nat}(n:k<es){j:Nat}(r:j<3)(u:Value)(q' :RF)(s:iL (es[k].1,q')=(iL es[k]).set j u)(e:eR w base q'.v q'.f.b)(d:q'.f.b5<=q'.f.b)
  (a:∀i,q'.v.ownBlock=some i->aL g (.slice (b,0) es c) es i∨w1.heap.size<=i):
  aR (w.setCell (b,k*3+j) u) base g p room (.slice (b,0) es c) (aW es[k].1 q' es)∧Fr (aL g (.slice (b,0) es c) es) w (w.setCell (b,k*3+j) u)∧
  (∀i,aL g (.slice (b,0) es c) (aW es[k].1 q' es) i->aL g (.slice (b,0) es c) es i∨w1.heap.size<=i):=
 h.setRow n q' (fun l=>l.set (k*3+j) u) (fun l=>List.length_set ..) (fun i q=>Below.heap_setCell w (b,k*3+j) u i (by simpa using q)) σ ⟨(aA w b (k*3+j) u).os,(aA w b (k*3+j) u).tape,(aA w b (k*3+j) u).output⟩
  (fun m o=>⟨_,aS.b8 o (k*3+j) u,σ,fun N=>pP m _ u N⟩) (qV es n r u (es[k].1,q') s) e d a
theorem aR.k1{b c:Nat}(h:aR w base g p room (.slice (b,0) es c) es){k:Nat}(e:k<es)(q' :RF)(q:eR w base q'.v q'.f.b)(n:q'.f.b5<=q'.f.b)(a:Nat)
  (a8:∀i,q'.v.ownBlock=some i->aL g (.slice (b,0) es c) es i∨w1.heap.size<=i):
  aR (((w.setCell (b,k*3+1) q'.v).drewN a).setCell (b,k*3+2) q'.f.b5) base g p room (.slice (b,0) es c) (aW es[k].1 q' es)∧Fr (aL g (.slice (b,0) es c) es) w (((w.setCell (b,k*3+1) q'.v).drewN a).setCell (b,k*3+2) q'.f.b5)∧
  (∀i,aL g (.slice (b,0) es c) (aW es[k].1 q' es) i->aL g (.slice (b,0) es c) es i∨w1.heap.size<=i):=by
 have d:=aF (iF (aA w b (k*3+1) q'.v) a) (aA ((w.setCell (b,k*3+1) q'.v).drewN a) b (k*3+2) q'.f.b5) (.inl rfl);refine h.setRow e q' (fun l=>(l.set (k*3+1) q'.v).set (k*3+2) q'.f.b5) (fun l=>by rw[List.length_set,List.length_set]) (fun i m=>?_) σ ⟨d.os,d.tape,d.output⟩ (fun o u=>?_) ?_ q n a8;rw[Below.heap_setCell _ (b,k*3+2) _ i (by simpa using m)];exact Below.heap_setCell w (b,k*3+1) q'.v i (by simpa using m);exact⟨_,aS.b8 ((aS.b8 u (k*3+1) q'.v).drewN a) (k*3+2) _,σ,fun N=>by rw[pP,pP]⟩;have s:=qV es e (j:=1) O q'.v (es[k].1,⟨q'.v,es[k].2.f⟩) (by simp[iL]);have r:k<(es.set k (es[k].1,⟨q'.v,es[k].2.f⟩)).length:=by simpa using e
 have t:=qV (es.set k (es[k].1,⟨q'.v,es[k].2.f⟩)) r (j:=2) O q'.f.b5 (es[k].1,q') (by simp[iL]);show((eC es).set (k*3+1) q'.v).set (k*3+2) q'.f.b5=_
 rw[s,t,List.set_set]
theorem bJ8(h:aR w base g p room vL es)(n:Nm)(hl:es.length<=1099511627776):
  Calls Tryz.prog 90 #[(g,0),.string (bU n)] w fun e l =>e=.returned (.int .i64 ((cN p room es).sync n).1)∧aH9 w base g vL es ((cN p room es).sync n).2 l :=by
 obtain⟨x,y,L,m3,hx,hy⟩:=h.b4;obtain⟨⟨V,W,B,X,Y,Z⟩,_⟩:=pR L;have H:=J h;have m:=J (pL h n O);by_cases r:p.off=true
 ·have e:(cN p room es).sync n=(50,cN p room es):=by unfold DkD.sync;rw[if_pos r]
  rw[e];rw[r] at B;go_enter Tryz.func90,Tryz.ntmps90;go_wp2_with fail;refine m.o.mono ?_;rintro e l ⟨rfl,rfl⟩;go_wp2;go_ret;exact⟨rfl,aH9.mk' H.o (Fr.refl _ _)⟩
 have G:p.off=false:=by simpa using r
 cases hg:aX n es with
 |none=>
  have e:(cN p room es).sync n=(51,cN p room es):=by unfold DkD.sync;rw[if_neg r];simp only[mS hg]
  rw[e];rw[G] at B;have D:=iK hg;rw[D] at m;go_enter Tryz.func90,Tryz.ntmps90;go_wp2_with fail;refine m.o.mono ?_;rintro e l ⟨rfl,rfl⟩;go_wp2;go_ret;exact⟨rfl,aH9.mk' H.o (Fr.refl _ _)⟩
 |some fe=>
  obtain⟨k,s,D,q⟩:=jA hg;rw[D] at m;rw[G] at B;have t:=J (oN h);have l8:¬((k:Int)<0):=O;cases hgo:p.cut.1 with
  |true=>
   have e:(cN p room es).sync n=(50,⟨p.cut.2.2,room,bI RF.f es⟩):=by unfold DkD.sync;rw[if_neg r];simp only[gS hg];rw[if_pos hgo]
   rw[e];rw[hgo] at t;go_enter Tryz.func90,Tryz.ntmps90;go_wp2_with fail;refine m.o.mono ?_;rintro e l ⟨rfl,rfl⟩;go_wp2_with fail;refine t.o.mono ?_;rintro e w1 ⟨rfl,a,F,_⟩;have u:=J (kL (Fr.refl _ _) a rfl F (fun k s=>.inl s));have E:=J (eJ true w1);go_wp2_with fail;refine E.o.mono ?_;rintro e l ⟨rfl,rfl⟩;go_wp2;go_ret;exact⟨rfl,u.o⟩
  |false=>
   have e:(cN p room es).sync n=(0,⟨p.cut.2.2,room,aW n ⟨fe.f.b,fe.f.b⟩ (bI RF.f es)⟩):=by unfold DkD.sync;rw[if_neg r];simp only[gS hg];rw[if_neg (by rw[hgo];simp)]
   rw[e];rw[hgo] at t;go_enter Tryz.func90,Tryz.ntmps90;go_wp2_with fail;refine m.o.mono ?_;rintro e l ⟨rfl,rfl⟩;go_wp2_with fail;refine t.o.mono ?_;rintro e w1 ⟨rfl,a,F,_⟩;obtain⟨A,c,rfl,l9,l7,S⟩:=a.b3;obtain⟨b,rfl,l6,q0,K,q2,g1,g2⟩:=S k s;obtain⟨x1,y1,T,_⟩:=a.b4;have d0:=T.cell 0;have C:=lX s;obtain⟨U,cx,P,I,_,_⟩:=(a.e9 _ C).b3;have z:=fun d=>J ((a.e7 d).k9 (w1:=w1) s (j:=2) O (.int .i64 (fe.f.b:Int)) ⟨fe.v,⟨fe.f.b,fe.f.b⟩⟩ (by rw[q];simp[iL]) (by have:=a.e9 _ C;rw[q] at this;exact this.kept (fun _ _=>rfl) (lR _)) (lR _) (fun i M=>.inl (.inr (.inr ⟨_,C,by rw[q];exact M⟩))))
   have R:=J F;have Q:Hq (bI RF.f (aW es[k].1 ⟨fe.v,⟨fe.f.b,fe.f.b⟩⟩ es)=aW n ⟨fe.f.b,fe.f.b⟩ (bI RF.f es)):=J (by rw[fB,q]);rw[P,q] at K;rw[q] at I;simp only at K I;go_wp2_with fail;refine bB 16 κ κ ?_;simp only[List.take_succ_cons,List.take_zero,List.drop_succ_cons,List.drop_zero]
   iterate 16 go_big_quiet_step (fail)
   refine wpQuiet_nil ?_;rintro _ ⟨d,rfl⟩;go_wp2_with fail;have u:=J (kL R.o (z d).o.1 Q.o (((Fr.refl _ _).e7 d).trans (z d).o.2.1 (fun j N=>.inl N)) (z d).o.2.2);have E:=J (eJ false ((w1.drewN d).setCell (b,k*3+2) (.int .i64 (fe.f.b:Int))));refine E.o.mono ?_;rintro e l ⟨rfl,rfl⟩;go_wp2;go_ret;exact⟨rfl,u.o⟩
end
theorem nL{n:Nm}(h:n≠[]):(bU n).toList.isEmpty=false:=by
 rw[jB];exact List.isEmpty_eq_false_iff.2 h
theorem eR.cutTo{w:World}{base:Nat}{A:Option Addr}{n c m:Nat}{l:List UInt8}(h:eR w base (.slice A n c) l)(x:m<=l):eR w base (.slice A m c) (l.take m):=by
 obtain⟨s,t,r,u,f,g⟩:=h.b3;injection r with e1 e2 e3
 subst e1 e3;have p:(l.take m).length=m:=by rw[lV];omega
 refine⟨⟨A,c,by rw[p],O,f,by unfold cells;rw[List.map_take];exact Rd.take g m⟩,?_⟩;rcases h.row with q|⟨e,y,d,a,b,k,o,i,v,j⟩
 injection q with r1 r2 r3
 subst r1 r3;have:m=0:=O;subst this;exact .inl rfl;injection b with r1 r2 r3
 subst r1 r3;exact .inr ⟨e,m,c,a,rfl,k,o,i,O,j⟩
theorem xV(A:Option Addr)(n n' c a :Nat):(Value.slice A n c).ownBlock=(Value.slice A n' a).ownBlock:=by cases A<;>rfl
section
variable{w w1 w2:World}{base g:Nat}{p p' :fT}{room:Int}{vL vL' :Value}{es es' :List (Nm×RF)}
theorem aR6(h:aR w base g p room vL es)(n tn:Nm)(C9:tn.length<=140737488351232)(hl:es.length<=549755813888):
  Calls Tryz.prog 131 #[(g,0),.string (bU n),.string (bU tn)] w fun e r =>e=.returned (.int .i64 ((cN p room es).rename n tn).1)∧aH9 w base g vL es ((cN p room es).rename n tn).2 r :=by
 obtain⟨x,y,N,Y,hx,Q⟩:=h.b4;obtain⟨⟨c0,c1,c2,c3,c4,c5⟩,_⟩:=pR N;have z:=J (pL h n O);have q:=J (aH9.mk' h (Fr.refl (aL g vL es) w));by_cases ho:p.off=true
 ·have e:(cN p room es).rename n tn=(50,cN p room es):=by unfold DkD.rename;rw[if_pos ho]
  rw[e];rw[ho] at c2;clear h e N Y hx Q;go_enter Tryz.func131,Tryz.ntmps131;go_wp2_with fail;refine z.o.mono ?_;rintro e r ⟨rfl,rfl⟩;go_wp2;go_ret;exact⟨rfl,q.o⟩
 have B7:p.off=false:=by simpa using ho
 cases hg:aX n es with
 |none=>
  have e:(cN p room es).rename n tn=(51,cN p room es):=by unfold DkD.rename;rw[if_neg ho];simp only[mS hg]
  rw[e];rw[B7] at c2;have K:=iK hg;rw[K] at z;clear h e N Y hx Q K;go_enter Tryz.func131,Tryz.ntmps131;go_wp2_with fail;refine z.o.mono ?_;rintro e r ⟨rfl,rfl⟩;go_wp2;go_ret;exact⟨rfl,q.o⟩
 |some fe=>
  obtain⟨k,hk,K,l8⟩:=jA hg;rw[K] at z;rw[B7] at c2;have C8:¬((k:Int)<0):=O;have p4:((bU n).toList==(bU tn).toList)=decide (n=tn):=nR n tn;have s9:=fL tn;by_cases a:tn=[]∨32<tn.length∨n=tn
  ·have e:(cN p room es).rename n tn=(1,cN p room es):=by unfold DkD.rename;rw[if_neg ho];simp only[gS hg];rw[if_pos a]
   rw[e];clear h e N Y hx Q K l8 hg;by_cases h1:tn=[]
   ·subst h1
    have C4:(bU ([]:Nm)).toList.isEmpty=true:=by rw[jB];rfl
    clear a p4;go_enter Tryz.func131,Tryz.ntmps131;go_wp2_with fail;refine z.o.mono ?_;rintro e r ⟨rfl,rfl⟩;go_wp2;go_ret;exact⟨rfl,q.o⟩
   have C3:=nL h1;by_cases M:32<tn.length
   ·have B6:(32:Int)<((bU tn).size:Int):=by rw[s9];omega
    clear a p4 h1;go_enter Tryz.func131,Tryz.ntmps131;go_wp2_with fail;refine z.o.mono ?_;rintro e r ⟨rfl,rfl⟩;go_wp2;go_ret;exact⟨rfl,q.o⟩
   have B6:¬(32:Int)<((bU tn).size:Int):=by rw[s9];omega
   have h3:n=tn:=by
    rcases a with h|h|h
    exact absurd h h1;exact absurd h M;exact h
   rw[decide_eq_true h3] at p4;clear a h1 h3;go_enter Tryz.func131,Tryz.ntmps131;go_wp2_with fail;refine z.o.mono ?_;rintro e r ⟨rfl,rfl⟩;go_wp2;go_ret;exact⟨rfl,q.o⟩
  have e:(cN p room es).rename n tn=(cN p room es).e0 (aW tn fe.f (bE n (bI RF.f es))):=by unfold DkD.rename;rw[if_neg ho];simp only[gS hg];rw[if_neg a]
  have C3:=nL (fun h=>a (.inl h));rw[decide_eq_false (fun h=>a (.inr (.inr h)))] at p4;have B6:¬(32:Int)<((bU tn).size:Int):=by rw[s9];have:¬32<tn.length:=fun h=>a (.inr (.inl h));omega
  have HL:=J hl;clear a hl;have B:=J (oN h);have i4:=lX hk;have s:Hq ((n,fe)∈es):=J (by rw[<-l8];exact i4);have B1:=J l8;have m6:=fun W:World=>J (qX y 2 Q O W)
  rw[e];cases hgo:p.cut.1 with
  |false=>
   have I:=kQ (d:=cN p room es) (fs:=aW tn fe.f (bE n (bI RF.f es))) (.inl hgo);rw[I,hgo];rw[hgo] at B;clear h e I N Y hx Q K l8 hgo i4 hg q m6;go_enter Tryz.func131,Tryz.ntmps131;go_wp2_with fail;refine z.o.mono ?_;rintro e r ⟨rfl,rfl⟩;go_wp2_with fail;refine B.o.mono ?_;rintro e w1 ⟨rfl,l,m,-⟩;obtain⟨A,c,o9,C2,C0,n8⟩:=l.b3;obtain⟨b,hA,B9,Z,H,q2,g1,g2⟩:=n8 k hk;obtain⟨x1,y1,D,_⟩:=l.b4;have L:=D.cell 0;obtain⟨Ax,cx,F,C5,_,_⟩:=(l.e9 _ s.o).b3;rw[B1.o] at Z H q2;simp only at F Z H q2;rw[F] at H;rw[o9,hA] at L;have p8:w1.cell? (g,0)=some (.slice (b,0) es c):=L;have p6:=J m;have HV:=J F;have l9:=J l;clear n8 D l m B L o9 hA F;go_wp2_with fail;obtain⟨wb,G⟩:=eX (w1.alloc (.cells #[.string (bU tn),.slice Ax fe.f.b cx,fe.f.b5] 85));have X:=bN G;have V:=kN G;have U:=l9.o.a1 X;have m3:=J (vD U n (ω1 HL.o));have t9:=V.lt;have C1:=l9.o.l5;have R:=J X;have p7:=J V;have t:=J U;rw[<-G];clear G X V U Z H q2 p8 g1 g2;refine m3.o.mono ?_;rintro e w2 ⟨⟨v,rfl⟩,C6,m7,u,n9⟩;have C:aS w2 w1 85 #[.string (bU tn),.slice Ax fe.f.b cx,fe.f.b5]:=(u.block w1 t9 (fun e=>O)).trans p7.o;have m0:=C.cell 0;have m1:=C.cell 1;have m2:=C.cell 2;have n5:eR w2 base fe.v fe.f.b:=(t.o.e9 _ s.o).kept (fun i E=>u.block i ((t.o.e9 _ s.o).row.lt i E) (fun e=>by obtain⟨x1,y1,D,_⟩:=t.o.b4;exact cW (t.o.e9 _ s.o) D δ (by rw[<-e];exact E))) u.size;have S:=J (oQ m7 tn fe n5 (t.o.b5 _ s.o) (ω2 (iW n es) HL.o));rw[HV.o] at S;have T:=J (And.intro u n9);clear m7 u n9 C n5 m3;go_wp2_with fail;refine S.o.mono ?_;rintro e w3 ⟨⟨v,rfl⟩,C7,m8,m9,o8⟩;have q:=J (kL (fs:=aW tn fe.f (bE n (bI RF.f es))) p6.o m8 (by rw[fB,jF]) (((Fr.b9 (aL g vL es) R.o).trans (T.o.1) (fun j P=>.inl (by rw[P];exact .inl rfl))).trans m9 (fun j P=>.inl (by rw[P];exact .inl rfl))) (fun i E=>by
    rcases o8 i E with h|h|h
    rcases T.o.2 i h with h|h
    exact .inl h;exact .inr (mM R.o.size h);exact .inr (mM (mM R.o.size T.o.1.size) h);exact .inl (.inr (.inr ⟨_,s.o,by rw[HV.o];exact h⟩))))
   clear m8 m9 o8 S;have m5:=J (eJ false w3);go_wp2_with fail;refine m5.o.mono ?_;rintro e r ⟨rfl,rfl⟩;go_wp2;go_ret;exact⟨rfl,q.o⟩
  |true=>
   obtain⟨p9,q8⟩:=tE hgo;have p5:y=p.cut.2.1:=by rw[q8];exact(Y p9).2
   by_cases M:y %2=1;rotate_left
   ·have I:=vH (d:=cN p room es) (fs:=aW tn fe.f (bE n (bI RF.f es))) hgo (by show p.cut.2.1 %2≠1;rw[<-p5];exact M)
    rw[I];rw[hgo] at B;obtain⟨y2,B8⟩:=eX (y %2);rw[<-B8] at M m6;clear h e I N Y hx Q K l8 hgo p5 p9 q8 B8 i4 hg q;go_enter Tryz.func131,Tryz.ntmps131;go_wp2_with fail;refine z.o.mono ?_;rintro e r ⟨rfl,rfl⟩;go_wp2_with fail;refine B.o.mono ?_;rintro e w1 ⟨rfl,l,m,-⟩;have q:=J (kL (Fr.refl _ _) l rfl m (fun k hk=>.inl hk));clear l m B;go_wp2_with fail;refine(m6 w1).o.mono ?_;rintro e r ⟨rfl,rfl⟩;have m5:=J (eJ true w1);go_wp2_with fail;refine m5.o.mono ?_;rintro e r ⟨rfl,rfl⟩;go_wp2;go_ret;exact⟨rfl,q.o⟩
   have I:=kQ (d:=cN p room es) (fs:=aW tn fe.f (bE n (bI RF.f es))) (.inr (by show p.cut.2.1 %2=1;rw[<-p5];exact M));rw[I,hgo];rw[hgo] at B;rw[M] at m6;clear h e I N Y hx Q K l8 hgo M p5 p9 q8 i4 hg q;go_enter Tryz.func131,Tryz.ntmps131;go_wp2_with fail;refine z.o.mono ?_;rintro e r ⟨rfl,rfl⟩;go_wp2_with fail;refine B.o.mono ?_;rintro e w1 ⟨rfl,l,m,-⟩;obtain⟨A,c,o9,C2,C0,n8⟩:=l.b3;obtain⟨b,hA,B9,Z,H,q2,g1,g2⟩:=n8 k hk;obtain⟨x1,y1,D,_⟩:=l.b4;have L:=D.cell 0;obtain⟨Ax,cx,F,C5,_,_⟩:=(l.e9 _ s.o).b3;rw[B1.o] at Z H q2;simp only at F Z H q2;rw[F] at H;rw[o9,hA] at L;have p8:w1.cell? (g,0)=some (.slice (b,0) es c):=L;have p6:=J m;have HV:=J F;have l9:=J l;clear n8 D l m B L o9 hA F;go_wp2_with fail;refine(m6 w1).o.mono ?_;rintro e r ⟨rfl,rfl⟩;go_wp2_with fail;obtain⟨wb,G⟩:=eX (w1.alloc (.cells #[.string (bU tn),.slice Ax fe.f.b cx,fe.f.b5] 85));have X:=bN G;have V:=kN G;have U:=l9.o.a1 X;have m3:=J (vD U n (ω1 HL.o));have t9:=V.lt;have C1:=l9.o.l5;have R:=J X;have p7:=J V;have t:=J U;rw[<-G];clear G X V U Z H q2 p8 g1 g2;refine m3.o.mono ?_;rintro e w2 ⟨⟨v,rfl⟩,C6,m7,u,n9⟩;have C:aS w2 w1 85 #[.string (bU tn),.slice Ax fe.f.b cx,fe.f.b5]:=(u.block w1 t9 (fun e=>O)).trans p7.o;have m0:=C.cell 0;have m1:=C.cell 1;have m2:=C.cell 2;have n5:eR w2 base fe.v fe.f.b:=(t.o.e9 _ s.o).kept (fun i E=>u.block i ((t.o.e9 _ s.o).row.lt i E) (fun e=>by obtain⟨x1,y1,D,_⟩:=t.o.b4;exact cW (t.o.e9 _ s.o) D δ (by rw[<-e];exact E))) u.size;have S:=J (oQ m7 tn fe n5 (t.o.b5 _ s.o) (ω2 (iW n es) HL.o));rw[HV.o] at S;have T:=J (And.intro u n9);clear m7 u n9 C n5 m3;go_wp2_with fail;refine S.o.mono ?_;rintro e w3 ⟨⟨v,rfl⟩,C7,m8,m9,o8⟩;have q:=J (kL (fs:=aW tn fe.f (bE n (bI RF.f es))) p6.o m8 (by rw[fB,jF]) (((Fr.b9 (aL g vL es) R.o).trans (T.o.1) (fun j P=>.inl (by rw[P];exact .inl rfl))).trans m9 (fun j P=>.inl (by rw[P];exact .inl rfl))) (fun i E=>by
    rcases o8 i E with h|h|h
    rcases T.o.2 i h with h|h
    exact .inl h;exact .inr (mM R.o.size h);exact .inr (mM (mM R.o.size T.o.1.size) h);exact .inl (.inr (.inr ⟨_,s.o,by rw[HV.o];exact h⟩))))
   clear m8 m9 o8 S;have m5:=J (eJ true w3);go_wp2_with fail;refine m5.o.mono ?_;rintro e r ⟨rfl,rfl⟩;go_wp2;go_ret;exact⟨rfl,q.o⟩
theorem aQ1(h:aR w base g p room vL es)(n:Nm)(z:Int)(hz:I6 z)(hl:es.length<=549755813888):
  Calls Tryz.prog 76 #[(g,0),.string (bU n),z] w fun e F =>e=.returned (.int .i64 ((cN p room es).e6 n z).1)∧aH9 w base g vL es ((cN p room es).e6 n z).2 F :=by
 obtain⟨x,y,Z,l8,hx,hy⟩:=h.b4;obtain⟨⟨c0,c1,c2,c3,c4,c5⟩,_⟩:=pR Z;have V:=J (pL h n O);have B:=J (aH9.mk' h (Fr.refl (aL g vL es) w));by_cases ho:p.off=true
 ·have e:(cN p room es).e6 n z=(50,cN p room es):=by unfold DkD.e6;rw[if_pos ho]
  rw[e];rw[ho] at c2;clear h e Z l8 hx hy;go_enter Tryz.func76,Tryz.ntmps76;go_wp2_with fail;refine V.o.mono ?_;rintro e F ⟨rfl,rfl⟩;go_wp2;go_ret;exact⟨rfl,B.o⟩
 have p8:p.off=false:=by simpa using ho
 cases hg:aX n es with
 |none=>
  have e:(cN p room es).e6 n z=(51,cN p room es):=by unfold DkD.e6;rw[if_neg ho];simp only[mS hg]
  rw[e];rw[p8] at c2;have U:=iK hg;rw[U] at V;clear h e Z l8 hx hy U;go_enter Tryz.func76,Tryz.ntmps76;go_wp2_with fail;refine V.o.mono ?_;rintro e F ⟨rfl,rfl⟩;go_wp2;go_ret;exact⟨rfl,B.o⟩
 |some fe=>
  obtain⟨k,L,U,l7⟩:=jA hg;rw[U] at V;rw[p8] at c2;have B7:¬((k:Int)<0):=O;obtain⟨A,c,t9,B8,B6,p7⟩:=h.b3;obtain⟨b,hA,s9,q0,q1,q2,g1,g2⟩:=p7 k L;obtain⟨D,s,hv,p9,B9,_⟩:=(h.e9 _ (lX L)).b3;rw[l7] at q1 q2 hv p9;simp only at hv p9 q1 q2;rw[hv] at q1;have P:=J hv;subst t9;subst hA;have B1:=c0;clear c0 p7 q0 hv;by_cases q:z<0∨(fe.f.b:Int)<z
  ·have e:(cN p room es).e6 n z=(1,cN p room es):=by unfold DkD.e6;rw[if_neg ho];simp only[gS hg];rw[if_pos q]
   rw[e];clear h e Z l8 hx hy U l7 hg;by_cases t:z<0;rotate_left;have Y:(fe.f.b:Int)<z:=O
   all_goals
    clear q;go_enter Tryz.func76,Tryz.ntmps76;go_wp2_with fail;refine V.o.mono ?_;rintro e F ⟨rfl,rfl⟩;go_wp2;go_ret;exact⟨rfl,B.o⟩
  have e:(cN p room es).e6 n z=(cN p room es).e0 (aW n ⟨fe.f.b.take z.toNat,min fe.f.b5 z.toNat⟩ (bI RF.f es)):=by unfold DkD.e6;rw[if_neg ho];simp only[gS hg];rw[if_neg q]
  have t:¬z<0:=fun h=>q (.inl h)
  have Y:¬(fe.f.b:Int)<z:=fun h=>q (.inr h)
  obtain⟨m,rfl⟩:∃m:Nat,z=(m:Int):=⟨z.toNat,O⟩
  simp only[Int.toNat_natCast] at e;clear q hl g1 g2 s9;have R:=J (oN h);have l4:=lX L;have I:Hq ((n,fe)∈es):=J (by rw[<-l7];exact l4);have l9:=J l7;have m5:=fun W:World=>J (qX y 2 hy O W)
  rw[e];cases hgo:p.cut.1 with
  |false=>
   have E:=kQ (d:=cN p room es) (fs:=aW n ⟨fe.f.b.take m,min fe.f.b5 m⟩ (bI RF.f es)) (.inl hgo);rw[E,hgo];rw[hgo] at R;clear h e E Z l8 hx hy U l7 hgo l4 hg B m5;go_enter Tryz.func76,Tryz.ntmps76;go_wp2_with fail;refine V.o.mono ?_;rintro e F ⟨rfl,rfl⟩;go_wp2_with fail;refine R.o.mono ?_;rintro e w1 ⟨rfl,a,u,-⟩;obtain⟨A1,c1,X,p5,o9,g9⟩:=a.b3;obtain⟨b1,m8,o8,r0,S,T,s1,s2⟩:=g9 k L;rw[m8] at X;obtain⟨rfl,rfl⟩:b=b1∧c=c1:=by injection X with e1 _ E;injection e1 with e1;injection e1 with e1;exact⟨e1,E⟩
   obtain⟨x1,y1,l6,_⟩:=a.b4;have d0:=l6.cell 0;rw[l9.o] at S T;simp only at S T;rw[P.o] at S;have m7:w1.cell? (g,0)=some (.slice (b,0) es c):=d0;have p4:g≠b:=fun e=>kK a.own l6 δ (by rw[e];rfl)
   have m3:=J u;have G:=J a;clear g9 l6 a u R d0 X m8 r0;go_wp2_with fail;refine bB 17 κ κ ?_;simp only[List.take_succ_cons,List.take_zero,List.drop_succ_cons,List.drop_zero]
   iterate 17 go_big_quiet_step (fail)
   refine wpQuiet_nil ?_;rintro _ ⟨r,rfl⟩;go_wp2_with fail;obtain⟨K,H⟩:=eX ((w1.drewN r).setCell (b,k*3+1) (.slice D m s));have m9:((b,k*3+1):Addr)≠⟨g,0,none⟩:=by intro e;injection e with e;exact p4 e.symm
   have n5:((b,k*3+1):Addr)≠⟨b,k*3+2,none⟩:=by intro e;injection e with _ e;omega
   have e0:K.cell? (g,0)=some (.slice (b,0) es c):=by rw[H,World.cell?_setCell_other (h:=m9)];exact m7
   have E:K.cell? (b,k*3+2)=some (.int .i64 fe.f.b5):=by rw[H,World.cell?_setCell_other (h:=n5)];exact T
   have t2:K.frozen? (b,k*3+2)=false:=by rw[H,World.frozen?_setCell];exact s2
   rw[<-H];have m6:=J H;clear m7 S T s1 s2 H m9 n5;by_cases hms:(m:Int)<=(fe.f.b5:Int)
   ·refine bB 17 κ κ ?_
    simp only[List.take_succ_cons,List.take_zero,List.drop_succ_cons,List.drop_zero]
    iterate 17 go_big_quiet_step (fail)
    refine wpQuiet_nil ?_;rintro _ ⟨N,rfl⟩;go_wp2_with fail;have C:min fe.f.b5 m=m:=O;have M:eR (w1.drewN r) base (.slice D m s) (fe.f.b.take m):=by
     have t:=G.o.e9 _ I.o;simp only at t;rw[P.o] at t;exact(eR.cutTo t O).kept (fun _ _=>rfl) (lR _)
    have l:=aR.k1 (w:=w1.drewN r) (w1:=w1) (G.o.e7 r) L ⟨.slice D m s,⟨fe.f.b.take m,min fe.f.b5 m⟩⟩ M (by have:=G.o.b5 _ I.o;simp only[lV];simp only at this;omega) N (fun i hi=>.inl (.inr (.inr ⟨_,I.o,by show fe.v.ownBlock=some i;rw[P.o,xV D fe.f.b m s s];exact hi⟩)));simp only[C] at l;rw[<-m6.o] at l;have B:=J (kL (fs:=aW n ⟨fe.f.b.take m,min fe.f.b5 m⟩ (bI RF.f es)) m3.o l.1 (by rw[fB,l9.o,C]) (((Fr.refl _ _).e7 r).trans l.2.1 (fun j hj=>.inl hj)) l.2.2);clear l M C;have Q:=J (eJ false ((K.drewN N).setCell (b,k*3+2) (.int .i64 (m:Int))));go_wp2_with fail;try rw[show min (m:Int) (fe.f.b5:Int)=(m:Int) by omega]
    refine Q.o.mono ?_;rintro e F ⟨rfl,rfl⟩;go_wp2;go_ret;exact⟨rfl,B.o⟩
   refine bB 17 κ κ ?_;simp only[List.take_succ_cons,List.take_zero,List.drop_succ_cons,List.drop_zero]
   iterate 17 go_big_quiet_step (fail)
   refine wpQuiet_nil ?_;rintro _ ⟨N,rfl⟩;go_wp2_with fail;have C:min fe.f.b5 m=fe.f.b5:=O;have M:eR (w1.drewN r) base (.slice D m s) (fe.f.b.take m):=by
    have t:=G.o.e9 _ I.o;simp only at t;rw[P.o] at t;exact(eR.cutTo t O).kept (fun _ _=>rfl) (lR _)
   have l:=aR.k1 (w:=w1.drewN r) (w1:=w1) (G.o.e7 r) L ⟨.slice D m s,⟨fe.f.b.take m,min fe.f.b5 m⟩⟩ M (by have:=G.o.b5 _ I.o;simp only[lV];simp only at this;omega) N (fun i hi=>.inl (.inr (.inr ⟨_,I.o,by show fe.v.ownBlock=some i;rw[P.o,xV D fe.f.b m s s];exact hi⟩)));simp only[C] at l;rw[<-m6.o] at l;have B:=J (kL (fs:=aW n ⟨fe.f.b.take m,min fe.f.b5 m⟩ (bI RF.f es)) m3.o l.1 (by rw[fB,l9.o,C]) (((Fr.refl _ _).e7 r).trans l.2.1 (fun j hj=>.inl hj)) l.2.2);clear l M C;have Q:=J (eJ false ((K.drewN N).setCell (b,k*3+2) (.int .i64 (fe.f.b5:Int))));go_wp2_with fail;try rw[show min (m:Int) (fe.f.b5:Int)=(fe.f.b5:Int) by omega]
   refine Q.o.mono ?_;rintro e F ⟨rfl,rfl⟩;go_wp2;go_ret;exact⟨rfl,B.o⟩
  |true=>
   obtain⟨n9,p6⟩:=tE hgo;have n8:y=p.cut.2.1:=by rw[p6];exact(l8 n9).2
   by_cases Y:y %2=1;rotate_left
   ·have E:=vH (d:=cN p room es) (fs:=aW n ⟨fe.f.b.take m,min fe.f.b5 m⟩ (bI RF.f es)) hgo (by show p.cut.2.1 %2≠1;rw[<-n8];exact Y)
    rw[E];rw[hgo] at R;obtain⟨y2,q8⟩:=eX (y %2);rw[<-q8] at Y m5;clear h e E Z l8 hx hy U l7 hgo n8 n9 p6 q8 l4 hg B;go_enter Tryz.func76,Tryz.ntmps76;go_wp2_with fail;refine V.o.mono ?_;rintro e F ⟨rfl,rfl⟩;go_wp2_with fail;refine R.o.mono ?_;rintro e w1 ⟨rfl,a,u,-⟩;have B:=J (kL (Fr.refl _ _) a rfl u (fun k L=>.inl L));clear a u R;go_wp2_with fail;refine(m5 w1).o.mono ?_;rintro e F ⟨rfl,rfl⟩;have Q:=J (eJ true w1);go_wp2_with fail;refine Q.o.mono ?_;rintro e F ⟨rfl,rfl⟩;go_wp2;go_ret;exact⟨rfl,B.o⟩
   have E:=kQ (d:=cN p room es) (fs:=aW n ⟨fe.f.b.take m,min fe.f.b5 m⟩ (bI RF.f es)) (.inr (by show p.cut.2.1 %2=1;rw[<-n8];exact Y));rw[E,hgo];rw[hgo] at R;rw[Y] at m5;clear h e E Z l8 hx hy U l7 hgo Y n8 n9 p6 l4 hg B;go_enter Tryz.func76,Tryz.ntmps76;go_wp2_with fail;refine V.o.mono ?_;rintro e F ⟨rfl,rfl⟩;go_wp2_with fail;refine R.o.mono ?_;rintro e w1 ⟨rfl,a,u,-⟩;obtain⟨A1,c1,X,p5,o9,g9⟩:=a.b3;obtain⟨b1,m8,o8,r0,S,T,s1,s2⟩:=g9 k L;rw[m8] at X;obtain⟨rfl,rfl⟩:b=b1∧c=c1:=by injection X with e1 _ E;injection e1 with e1;injection e1 with e1;exact⟨e1,E⟩
   obtain⟨x1,y1,l6,_⟩:=a.b4;have d0:=l6.cell 0;rw[l9.o] at S T;simp only at S T;rw[P.o] at S;have m7:w1.cell? (g,0)=some (.slice (b,0) es c):=d0;have p4:g≠b:=fun e=>kK a.own l6 δ (by rw[e];rfl)
   have m3:=J u;have G:=J a;clear g9 l6 a u R d0 X m8 r0;go_wp2_with fail;refine(m5 w1).o.mono ?_;rintro e F ⟨rfl,rfl⟩;go_wp2_with fail;refine bB 17 κ κ ?_;simp only[List.take_succ_cons,List.take_zero,List.drop_succ_cons,List.drop_zero]
   iterate 17 go_big_quiet_step (fail)
   refine wpQuiet_nil ?_;rintro _ ⟨r,rfl⟩;go_wp2_with fail;obtain⟨K,H⟩:=eX ((w1.drewN r).setCell (b,k*3+1) (.slice D m s));have m9:((b,k*3+1):Addr)≠⟨g,0,none⟩:=by intro e;injection e with e;exact p4 e.symm
   have n5:((b,k*3+1):Addr)≠⟨b,k*3+2,none⟩:=by intro e;injection e with _ e;omega
   have e0:K.cell? (g,0)=some (.slice (b,0) es c):=by rw[H,World.cell?_setCell_other (h:=m9)];exact m7
   have E:K.cell? (b,k*3+2)=some (.int .i64 fe.f.b5):=by rw[H,World.cell?_setCell_other (h:=n5)];exact T
   have t2:K.frozen? (b,k*3+2)=false:=by rw[H,World.frozen?_setCell];exact s2
   rw[<-H];have m6:=J H;clear m7 S T s1 s2 H m9 n5;by_cases hms:(m:Int)<=(fe.f.b5:Int)
   ·refine bB 17 κ κ ?_
    simp only[List.take_succ_cons,List.take_zero,List.drop_succ_cons,List.drop_zero]
    iterate 17 go_big_quiet_step (fail)
    refine wpQuiet_nil ?_;rintro _ ⟨N,rfl⟩;go_wp2_with fail;have C:min fe.f.b5 m=m:=O;have M:eR (w1.drewN r) base (.slice D m s) (fe.f.b.take m):=by
     have t:=G.o.e9 _ I.o;simp only at t;rw[P.o] at t;exact(eR.cutTo t O).kept (fun _ _=>rfl) (lR _)
    have l:=aR.k1 (w:=w1.drewN r) (w1:=w1) (G.o.e7 r) L ⟨.slice D m s,⟨fe.f.b.take m,min fe.f.b5 m⟩⟩ M (by have:=G.o.b5 _ I.o;simp only[lV];simp only at this;omega) N (fun i hi=>.inl (.inr (.inr ⟨_,I.o,by show fe.v.ownBlock=some i;rw[P.o,xV D fe.f.b m s s];exact hi⟩)));simp only[C] at l;rw[<-m6.o] at l;have B:=J (kL (fs:=aW n ⟨fe.f.b.take m,min fe.f.b5 m⟩ (bI RF.f es)) m3.o l.1 (by rw[fB,l9.o,C]) (((Fr.refl _ _).e7 r).trans l.2.1 (fun j hj=>.inl hj)) l.2.2);clear l M C;have Q:=J (eJ true ((K.drewN N).setCell (b,k*3+2) (.int .i64 (m:Int))));go_wp2_with fail;try rw[show min (m:Int) (fe.f.b5:Int)=(m:Int) by omega]
    refine Q.o.mono ?_;rintro e F ⟨rfl,rfl⟩;go_wp2;go_ret;exact⟨rfl,B.o⟩
   refine bB 17 κ κ ?_;simp only[List.take_succ_cons,List.take_zero,List.drop_succ_cons,List.drop_zero]
   iterate 17 go_big_quiet_step (fail)
   refine wpQuiet_nil ?_;rintro _ ⟨N,rfl⟩;go_wp2_with fail;have C:min fe.f.b5 m=fe.f.b5:=O;have M:eR (w1.drewN r) base (.slice D m s) (fe.f.b.take m):=by
    have t:=G.o.e9 _ I.o;simp only at t;rw[P.o] at t;exact(eR.cutTo t O).kept (fun _ _=>rfl) (lR _)
   have l:=aR.k1 (w:=w1.drewN r) (w1:=w1) (G.o.e7 r) L ⟨.slice D m s,⟨fe.f.b.take m,min fe.f.b5 m⟩⟩ M (by have:=G.o.b5 _ I.o;simp only[lV];simp only at this;omega) N (fun i hi=>.inl (.inr (.inr ⟨_,I.o,by show fe.v.ownBlock=some i;rw[P.o,xV D fe.f.b m s s];exact hi⟩)));simp only[C] at l;rw[<-m6.o] at l;have B:=J (kL (fs:=aW n ⟨fe.f.b.take m,min fe.f.b5 m⟩ (bI RF.f es)) m3.o l.1 (by rw[fB,l9.o,C]) (((Fr.refl _ _).e7 r).trans l.2.1 (fun j hj=>.inl hj)) l.2.2);clear l M C;have Q:=J (eJ true ((K.drewN N).setCell (b,k*3+2) (.int .i64 (fe.f.b5:Int))));go_wp2_with fail;try rw[show min (m:Int) (fe.f.b5:Int)=(fe.f.b5:Int) by omega]
   refine Q.o.mono ?_;rintro e F ⟨rfl,rfl⟩;go_wp2;go_ret;exact⟨rfl,B.o⟩
end
section
variable{w w1 w2:World}{base g:Nat}{p p' :fT}{room:Int}{vL vL' :Value}{es es' :List (Nm×RF)}
theorem sO(h:aR w base g p room vL es)(n:Nm)(hl:es.length<=1099511627776)(m:∀q∈es,q.2.f.b.length<=549755813888):
  Calls Tryz.prog 130 #[(g,0),.string (bU n)] w fun e l =>∃v,e=.returned (.tuple #[v,.int .i64 ((cN p room es).read n).2])∧eR l w v ((cN p room es).read n).1∧Below w w l :=by
 obtain⟨x,y,r,C,hx,E⟩:=h.b4;obtain⟨⟨c0,c1,u,c3,c4,c5⟩,_⟩:=pR r;have a:=J (pL h n O);by_cases i:p.off=true
 ·have e:(cN p room es).read n=([],50):=by unfold DkD.read;rw[if_pos i]
  rw[e];rw[i] at u;clear h e r C hx E m;go_enter Tryz.func130,Tryz.ntmps130;go_wp2_with fail;refine a.o.mono ?_;rintro e l ⟨rfl,rfl⟩;go_wp2;go_ret2;exact⟨_,rfl,.e1 (Own.nil _ _ _),lS _ _⟩
 have L:p.off=false:=by simpa using i
 cases hg:aX n es with
 |none=>
  have e:(cN p room es).read n=([],51):=by unfold DkD.read;rw[if_neg i];simp only[mS hg]
  rw[e];rw[L] at u;have d:=iK hg;rw[d] at a;clear h e r C hx E d m;go_enter Tryz.func130,Tryz.ntmps130;go_wp2_with fail;refine a.o.mono ?_;rintro e l ⟨rfl,rfl⟩;go_wp2;go_ret2;exact⟨_,rfl,.e1 (Own.nil _ _ _),lS _ _⟩
 |some fe=>
  obtain⟨k,H,d,z⟩:=jA hg;have e:(cN p room es).read n=(fe.f.b,0):=by unfold DkD.read;rw[if_neg i];simp only[gS hg]
  rw[e];rw[d] at a;rw[L] at u;have m6:¬((k:Int)<0):=O;have m7:(k:Int)<(es:Int):=O;have s:(n,fe)∈es:=by rw[<-z];exact lX H
  obtain⟨A,c,rfl,m8,m3,I⟩:=h.b3;obtain⟨b,rfl,S,Z,F,q2,-,-⟩:=I k H;obtain⟨N,Q,D,Y,m9,B⟩:=(h.e9 _ s).b3;have X:=m _ s;have m5:=h.l5;rw[z] at F;simp only at D Y B F X;rw[D] at F;have G:=J (nN w w 5 (lR _));have V:=J (B.alloc (lR _) (.cells #[] 5));have P:=J ((lS w w).alloc (lR _) (.cells #[] 5));clear h e r C hx E d m I B D Z q2 z s hg;go_enter Tryz.func130,Tryz.ntmps130;go_wp2_with fail;refine a.o.mono ?_;rintro e l ⟨rfl,rfl⟩;go_wp2_with (at_builtin;go_must (refine aP rfl (.tmp 16) (.tmp 24) 34 rfl w.heap.size 5 (.int .u8 0) 1 Tryz.underlying34 bJ rfl _ _ rfl G.o w.heap.size N fe.f.b.length Q (cells fe.f.b) rfl (aB _).symm V.o (cU _) (by unfold maxLen;simp;omega) (by simp;omega) σ ?_;intro v2 w2 M K _;have t:Bs w2 w.heap.size v2 fe.f.b:=M;obtain⟨l8,l9,R,_⟩:=bF t;subst R;have W:=J t;have U:=J K;clear M t K));go_ret2;exact⟨_,rfl,.e1 W.o,P.o.grown U.o σ (fun j T=>(Own.lt G.o j T).1)⟩
end
section
variable{w w1 w2:World}{base g:Nat}{p p' :fT}{room:Int}{vL vL' :Value}{es es' :List (Nm×RF)}
theorem bO5(ps:List dK):bR ps=(ps.map dK.l).flatten:=by unfold bR;rw[List.flatMap_def]
def bC2(n:Nm)(fs:List (Nm×FD)):FD:=(aX n fs).getD ⟨[],0⟩
theorem aQ2{w w' :World}{B B' :Nat}{A:Option Addr}{b:List Value}(h:Rd w B A b)(f:∀a,A=some a->w'.heap[a.block]? =w.heap[a.block]?)(k:B<=B'):Rd w' B' A b:=fun c=>by
 obtain⟨a,e,g,d⟩:=h c;exact⟨a,e,O,fun j u i=>(mK (w:=w) (by rw[bK];exact f a e)).trans (d j u i)⟩
theorem xR{w wr w1 e d:World}{n:Nm}{c a:Value}{f:FD}(l:Below w w wr)(a8:Fr (aL g vL es) wr w1)(i:Below w1 w1 e)(m:aR d base g p' room a (aW n ⟨c,f⟩ es))(o:Fr (fun k=>k=g) e d)
  (p:∀k,aL g a (aW n ⟨c,f⟩ es) k->aL g vL es k∨e.heap.size<=k∨c.ownBlock=some k) (q:∀k,c.ownBlock=some k->w1.heap.size<=k):aH9 w base g vL es ⟨p',room,aW n f (bI RF.f es)⟩ d:=by
 refine⟨a,_,m,by rw[fB],(((Fr.b9 (aL g vL es) l).trans a8 (fun j b=>.inl b)).trans (Fr.b9 (aL g vL es) i) (fun j b=>.inl b)).trans o (fun j b=>.inl (.inl b)),fun k r=>?_⟩;have s:=l.size;have t:=a8.size;have u:=i.size;rcases p k r with h|h|h
 exact .inl h;exact .inr O;exact .inr (ω1 (q k h))
theorem wU(h:aR w base g p room vL es)(n:Nm)(hn:n.length<=140737488351232)(A:Option Addr)(ps:List dK)(c:Nat)(G3:Rd w w A (ps.map dK.val))(hp:xI w w ps)(M8:ps<=c)(M9:ps.length<=1000000000)(M5:(bR ps).length<=274877906944)
  (G2:∀q∈es,q.2.f.b.length<=549755813888) (M0:bC (bI RF.f es)<=4611686018427387904) (hl:es.length<=549755813888):
  Calls Tryz.prog 11 #[(g,0),.string (bU n),.slice A ps c] w fun e w' =>e=.returned (.int .i64 ((cN p room es).append n (ps.map dK.l)).1)∧aH9 w base g vL es ((cN p room es).append n (ps.map dK.l)).2 w' :=by
 obtain⟨x,y,hb,J0,hx,hy⟩:=h.b4;obtain⟨⟨c0,c1,c2,c3,c4,c5⟩,_⟩:=pR hb;have HR:=J (aH9.mk' h (Fr.refl (aL g vL es) w));have N3:=dD (bI RF.f es);obtain⟨_,N0,N2⟩:=h.num;obtain⟨R,hR⟩:=eX ((cN p room es).append n (ps.map dK.l));rw[<-hR];have K4:=fL n;by_cases ho:p.off=true
 ·have e:R=(50,cN p room es):=by rw[hR];unfold DkD.append;rw[if_pos ho]
  rw[e];rw[ho] at c2;clear h e hb J0 hx hy hR G3 hp G2;go_enter Tryz.func11,Tryz.ntmps11;go_wp2;go_ret;exact⟨rfl,HR.o⟩
 have J9:p.off=false:=by simpa using ho
 rw[J9] at c2;by_cases r:n=[]∨32<n.length
 ·have e:R=(1,cN p room es):=by rw[hR];unfold DkD.append;rw[if_neg ho,if_pos r]
  rw[e];clear h e hb J0 hx hy hR G3 hp G2;by_cases h1:n=[]
  ·subst h1
   have L6:(bU ([]:Nm)).toList.isEmpty=true:=by rw[jB];rfl
   clear r;go_enter Tryz.func11,Tryz.ntmps11;go_wp2;go_ret;exact⟨rfl,HR.o⟩
  have L5:=nL h1;have K9:(32:Int)<((bU n).size:Int):=by
   rcases r with h|h
   exact absurd h h1;rw[K4];omega
  clear r h1;go_enter Tryz.func11,Tryz.ntmps11;go_wp2;go_ret;exact⟨rfl,HR.o⟩
 have L5:=nL (fun h=>r (.inl h));have K9:¬(32:Int)<((bU n).size:Int):=by rw[K4];have:¬32<n.length:=fun h=>r (.inr h);omega
 have J2:Hq (fits (room-bC (bI RF.f es)) (ps.map dK.l)=false->R=(52,cN p room es)):=J fun hf=>by
  rw[hR];unfold DkD.append;rw[if_neg ho,if_neg r,if_pos (show fits (cN p room es).free _=false from hf)]
 have J5:Hq (fits (room-bC (bI RF.f es)) (ps.map dK.l)=true->R=(if p.cut.1=true then 50 else 0,⟨p.cut.2.2,room,aW n ⟨(bC2 n (bI RF.f es)).b++(if p.cut.1=true then uJ p.cut.2.1 (bR ps) else bR ps),(bC2 n (bI RF.f es)).b5⟩ (bI RF.f es)⟩)):=J fun hf=>by
  rw[hR];unfold DkD.append;rw[if_neg ho,if_neg r,if_neg (by rw[show(cN p room es).free=room-bC (bI RF.f es) from rfl,hf];simp),bO5];rfl
 have J3:=J (rK h M0 O);have C9:=J (And.intro G3 (And.intro hp G2));have H:=J h;have HL:=J hl;have M6:=h.l5;have E9:Hq (base<=w):=J (ω1 h.low);clear h hb hR ho J9 G3 hp G2 r J0 hx hy hl;go_enter Tryz.func11,Tryz.ntmps11;go_wp2_with fail;refine J3.o.mono ?_;rintro e w' ⟨rfl,rfl⟩;clear J3;go_wp2_with fail;go_loopw [7,8] (fun left i wr=>∃(k:Nat) (lf:Int),i=.int .i64 k∧k<=ps∧left=.int .i64 lf∧-4611686018427387904<=lf∧lf<=9223372036854775807∧Hq (fits (room-bC (bI RF.f es)) (ps.map dK.l)=fits lf ((ps.drop k).map dK.l))∧Hq (w=wr)) (fun _ i _=>ps.length-(intOf i).toNat)
 case atStart=>exact⟨0,room-bC (bI RF.f es),rfl,Nat.zero_le _,rfl,O,O,J rfl,J rfl⟩
 obtain⟨k,lf,rfl,L,rfl,I5,I7,C7,HW⟩:=hrel;obtain rfl:=HW.o;by_cases K:k<ps
 ·have B9:(k:Int)<ps.length:=O
  obtain⟨N,rfl,L1,l7⟩:=iR C9.o.1 K;have D0:=J (aE5 (left:=lf) K);have E5:=(C9.o.2.1 _ (lX K)).2;generalize ps[k]=q at l7 D0 E5;obtain⟨qa,ql,qc⟩:=q;simp only[dK.val] at l7 D0 E5;by_cases hle:(ql:Int)<=lf
  ·have HN:=J (show fits (room-bC (bI RF.f es)) (ps.map dK.l)=fits (lf-ql) ((ps.drop (k+1)).map dK.l) by rw[C7.o,D0.o,decide_eq_true hle,Bool.true_and])
   clear D0 C7;go_wp2;go_roundw
   case rel=>exact⟨k+1,lf-ql,by go_num,O,rfl,O,O,HN,J trivial⟩
   case measure=>simp[intOf];omega
  have HN:=J (J2.o (by rw[C7.o,D0.o,decide_eq_false hle,Bool.false_and]));have n8:lf<(ql:Int):=O;clear D0 C7 hle;go_wp2;go_ret;exact⟨by rw[HN.o];rfl,by rw[HN.o];exact HR.o⟩
 have D9:k=ps:=O;have V:=J (J5.o (by rw[C7.o,D9,List.drop_length];rfl));have B9:¬(k:Int)<ps.length:=O;clear C7 J2 J5 D9 HW;go_wp2_with fail;clear B9 I5 I7 K L;go_loopw [9,10] (fun v i wr=>∃(k:Nat),i=.int .i64 k∧k<=ps∧Hq (Bs wr w v (bR (ps.take k)))∧Hq (Below w w wr)) (fun _ i _=>ps.length-(intOf i).toNat)
 case atStart=>exact⟨0,rfl,Nat.zero_le _,J (Own.nil _ _ _),J (lS _ _)⟩
 obtain⟨k,rfl,L,HV,HB⟩:=hrel;have K3:=HB.o.size;by_cases K:k<ps
 ·have B9:(k:Int)<ps.length:=O
  obtain⟨N,rfl,L1,l7⟩:=iR (C9.o.1.a1 HB.o) K;have HT:=J (oH ps k K);have HQ:=J ((C9.o.2.1 _ (lX K)).1.a1 HB.o);have L2:=xS ps (k+1);generalize ps[k]=q at l7 HT HQ;obtain⟨qa,ql,qc⟩:=q;simp only[dK.val] at l7 HT HQ;have L7:(bR (ps.take k)).length+ql<=274877906944:=by
   have:=congrArg List.length HT.o;rw[lT] at this;omega
  obtain⟨M3,D7⟩:=eX (bR (ps.take k));rw[<-D7] at HV HT L7;obtain⟨Ao,co,L9,_⟩:=Own.b3 HV.o;clear D7 L2;subst L9;go_wp2_with (at_builtin;go_must (refine aP rfl (.tmp 55) (.tmp 59) 34 rfl w.heap.size 5 (.int .u8 0) 1 Tryz.underlying34 bJ rfl _ _ rfl HV.o w.heap.size qa _ qc _ rfl (aB _).symm HQ.o (cU _) (by simp only[aB];unfold maxLen;omega) (by simp only[aB];omega) K3 ?_;intro v2 w2 a X _));have Z:=J a;have K8:=J (HB.o.grown X K3 (fun j s=>(Own.lt HV.o j s).1));clear a X;go_roundw
  case rel=>exact⟨k+1,by go_num,O,J (by rw[HT.o];unfold Bs;rw[bV];exact Z.o),K8⟩
  case measure=>simp[intOf];omega
 have D9:ps.take k=ps:=List.take_of_length_le O;rw[D9] at HV;have B9:¬(k:Int)<ps.length:=O;have hD:=H.o.a1 HB.o;obtain⟨xr,yr,J8,E8,M2,K7⟩:=hD.b4;have d5:=J8.cell 5;have M4:wr.cell? (g,5)=some (.int .i64 yr):=d5;have C8:=J (oN hD);obtain⟨Ap,cp,M1,G4,K6,C0⟩:=(eR.e1 HV.o).b3;subst M1;have J6:=J C0;have J7:=J (And.intro E8 K7);have G0:Hq (∀N,Ap=some N->w<=N.block∧N.block<wr):=J (fun N e=>by
  have:=Own.lt HV.o N.block (by rw[e];rfl);exact this)
 clear D9 J8 d5 hD E8 M2 K7 C0;cases hgo:p.cut.1 with
 |false=>
  have V:=J (show R=(0,⟨p.cut.2.2,room,aW n ⟨(bC2 n (bI RF.f es)).b++bR ps,(bC2 n (bI RF.f es)).b5⟩ (bI RF.f es)⟩) by rw[V.o,hgo];rfl);rw[hgo] at C8;clear hgo;go_wp2_with fail;refine C8.o.mono ?_;rintro e w1 ⟨rfl,hD1,D,-⟩;have I9:=D.size;have B1:=aQ2 J6.o (fun N e=>D.block N.block (G0.o N e).2 (fun hm=>by have h1:=(H.o.lt _ hm).2;have h2:=(G0.o N e).1;omega)) I9;obtain⟨Q,hQ⟩:=eX (bR ps);have E6:Rd w1 w1 Ap (cells Q):=by rw[hQ];exact B1
  have D6:Q.length=(bR ps).length:=by rw[hQ]
  rw[<-hQ] at V;clear hQ B1;have D4:=J E6;have Y:=J D6;have L0:Q.length<=274877906944:=O;clear D6;have D3:=J D;have o8:=J hD1;clear hD1 D E6 C8;go_wp2_with fail;obtain⟨wA,B7⟩:=eX (w1.alloc (.cells #[.string (bU n),.slice none 0 0,.int .i64 0] 85));have n5:=bN B7;have D1:=J (pL (o8.o.a1 n5) n (ω1 HL.o));have D5:=J B7;have L8:wA.heap.size=w1+1:=by rw[B7];simp
  rw[<-B7];refine D1.o.mono ?_;rintro e w' ⟨rfl,rfl⟩;clear B7 D1;cases hg:aX n es with
  |none=>
   rw[iK hg];have q8:bC2 n (bI RF.f es)=⟨[],0⟩:=by unfold bC2;rw[mS hg];rfl
   rw[q8] at V;have B:aS wA w1 85 #[.string (bU n),.slice none 0 0,.int .i64 0]:=by rw[D5.o];exact aS.new w1 85 _
   obtain⟨d,F⟩:=eX wA;have W:Below w1 w1 d:=by rw[F];exact n5
   have U:=J (show aS d w1 85 #[.string (bU n),.slice none ([]:List UInt8).length 0,.int .i64 0] by rw[F];exact B);have C3:=J (show Rd d d none (cells ([]:List UInt8)) from Rd.none_);have p8:w1.heap.size+1<=d:=U.o.lt;have m1:=U.o.c 1;have n9:=J W;rw[<-F];clear hg q8 B F W n5;go_wp2_with (first|(at_builtin;refine aP rfl (.tmp 89) (.tmp 91) 34 rfl (w1.heap.size+1) 5 (.int .u8 0) 1 Tryz.underlying34 bJ rfl _ [] rfl (Own.nil _ _ _) d.heap.size none ([]:List UInt8).length 0 (cells ([]:List UInt8)) rfl (aB _).symm C3.o (cU _) (by unfold maxLen;simp;try omega) (by simp;try omega) p8 ?_;intro v1 y1 B6 s9 _;have S:Bs y1 (w1.heap.size+1) v1 ([]:List UInt8):=B6;have M:=(lS _ d).grown s9 p8 (fun j s=>by cases s);obtain⟨G5,G9,e1,_⟩:=bF S;subst e1;have p4:=J S;have p5:=J M;have C6:=M.size;clear B6 S s9 M)|(at_builtin;go_must (refine aP rfl (.tmp 93) (.tmp 94) 34 rfl (w1.heap.size+1) 5 (.int .u8 0) 1 Tryz.underlying34 bJ rfl _ _ rfl p4.o w1.heap.size Ap (bR ps).length cp (cells Q) rfl (by rw[aB];exact Y.o.symm) (D4.o.a1 (n9.o.trans (p5.o.mono O))) (cU _) (by have:=Y.o;simp only[aB,List.length_nil];unfold maxLen;omega) (by have:=Y.o;simp only[aB,List.length_nil];omega) O ?_;intro v2 C a X _;have T:Bs C (w1.heap.size+1) v2 (([]:List UInt8)++Q):=(by unfold Bs;rw[bV];exact a);have P:=p5.o.grown X O (fun j s=>(Own.lt p4.o j s).1);obtain⟨t,u,e2,_⟩:=bF T;subst e2;have Z:=J T;have C4:=J P;have z:aS C w1.heap.size 85 _:=(P.block w1.heap.size O).trans U.o;have n0:=z.cell 0;have n1:=z.cell 1;have n2:=z.cell 2;have n3:=z.a6 1;clear a T X P z)));have j6:(([]:List UInt8)++Q).length=Q:=by simp
   have a:=Z.o;rw[j6] at a;have E:Below w1 w1 (C.setCell (w1,1) (.slice t Q u)):=(n9.o.trans (C4.o.mono O)).setCell (p:=(w1,1)) (lR _) _;obtain⟨y3,G⟩:=eX (C.setCell (w1,1) (.slice t Q u));rw[<-G] at E⊢;have j8:∀k,(Value.slice t Q u).ownBlock=some k->w1.heap.size<=k:=fun k L=>ω1 ((Own.lt a k L).1)
   have n8:eR y3 base (.slice t Q u) (([]:List UInt8)++Q):=((eR.e1 a).mono (ω1 E9.o)).kept (fun j s=>by
    rw[G];refine Below.heap_setCell C (w1,1) _ j ?_;have:=(Own.lt a j s).1;show j≠w1
    omega) (by rw[G];simp)
   have o9:=J (oQ (o8.o.a1 E) n ⟨.slice t Q u,⟨([]:List UInt8)++Q,0⟩⟩ n8 (Nat.zero_le _) (ω1 HL.o));have C1:=J E;have m5:=J j8;clear j6 a E G j8 n8 Z n0 n1 n2 n3 m1;refine o9.o.mono ?_;rintro e w4 ⟨⟨v,rfl⟩,J1,p6,p7,t9⟩;have l8:=J (xR HB.o D3.o C1.o p6 p7 t9 m5.o);have C2:=J (eJ false w4);clear p6 p7 t9 o9;go_wp2_with fail;refine C2.o.mono ?_;rintro e w' ⟨rfl,rfl⟩;go_wp2;go_ret;rw[V.o];exact⟨rfl,l8.o⟩
  |some fe=>
   obtain⟨k,L,ek,D8⟩:=jA hg;rw[ek];have q8:bC2 n (bI RF.f es)=fe.f:=by unfold bC2;rw[gS hg];rfl
   rw[q8] at V;have B8:=o8.o.a1 n5;obtain⟨A1,G8,C5,I4,I2,p9⟩:=B8.b3;obtain⟨b,hA1,hbl,q0,q1,q2,-,-⟩:=p9 k L;have l4:(n,fe)∈es:=by rw[<-D8];exact lX L
   rw[D8] at q0 q1 q2;obtain⟨Ax,cx,hv,G4,K6,C0⟩:=(B8.e9 _ l4).b3;simp only at hv G4 C0 q0 q1 q2;rw[hv] at q1;have L3:(0:Int)<=(k:Int):=O;have L4:(k:Int)<(es:Int):=O;obtain⟨xA,yA,I,-⟩:=B8.b4;have e0:=I.cell 0;rw[C5,hA1] at e0;have I0:wA.cell? (g,0)=some (.slice (b,0) es G8):=e0;have I3:fe.f.b.length<=549755813888:=C9.o.2.2 _ l4;have E7:fe.f.b5<=fe.f.b:=H.o.b5 _ l4;have B:aS wA w1 85 #[.string (bU n),.slice none 0 0,.int .i64 0]:=by rw[D5.o];exact aS.new w1 85 _
   have k0:=B.a6 0;have k1:=B.a6 1;have k2:=B.a6 2;have z0:=B.c 0;have z1:=B.c 1;have z2:=B.c 2;obtain⟨d,F⟩:=eX (((wA.setCell (w1,0) (.string (bU n))).setCell (w1,1) (.slice Ax fe.f.b cx)).setCell (w1,2) fe.f.b5);have W:Below w1 w1 d:=by rw[F];exact((n5.setCell (p:=(w1,0)) (lR _) _).setCell (p:=(w1,1)) (lR _) _).setCell (p:=(w1,2)) (lR _) _
   have U:=J (show aS d w1 85 #[.string (bU n),.slice Ax fe.f.b cx,fe.f.b5] by rw[F];exact((B.b8 0 _).b8 1 _).b8 2 _);have C3:=J (show Rd d d Ax (cells fe.f.b) by
    obtain⟨A9,c9,h9,_,_,r9⟩:=(o8.o.e9 _ l4).b3;simp only at h9 r9;rw[hv] at h9;injection h9 with h9 _ _
    rw[h9];exact(r9.a1 W).more W.size)
   have p8:w1.heap.size+1<=d:=U.o.lt;have m1:=U.o.c 1;have n9:=J W;have G7:=J F;have G6:=J E7;clear hg q8 B F W n5 B8 p9 C0 I e0 E7;go_upto_region 26 with(fail)
   rw[<-G7.o];clear k0 k1 k2 z0 z1 z2 I0 q0 q1 q2;go_wp2_with (first|(at_builtin;refine aP rfl (.tmp 89) (.tmp 91) 34 rfl (w1.heap.size+1) 5 (.int .u8 0) 1 Tryz.underlying34 bJ rfl _ [] rfl (Own.nil _ _ _) d.heap.size Ax fe.f.b.length cx (cells fe.f.b) rfl (aB _).symm C3.o (cU _) (by unfold maxLen;simp;try omega) (by simp;try omega) p8 ?_;intro v1 y1 B6 s9 _;have S:Bs y1 (w1.heap.size+1) v1 fe.f.b:=B6;have M:=(lS _ d).grown s9 p8 (fun j s=>by cases s);obtain⟨G5,G9,e1,_⟩:=bF S;subst e1;have p4:=J S;have p5:=J M;have C6:=M.size;clear B6 S s9 M)|(at_builtin;go_must (refine aP rfl (.tmp 93) (.tmp 94) 34 rfl (w1.heap.size+1) 5 (.int .u8 0) 1 Tryz.underlying34 bJ rfl _ _ rfl p4.o w1.heap.size Ap (bR ps).length cp (cells Q) rfl (by rw[aB];exact Y.o.symm) (D4.o.a1 (n9.o.trans (p5.o.mono O))) (cU _) (by have:=Y.o;simp only[aB,List.length_nil];unfold maxLen;omega) (by have:=Y.o;simp only[aB,List.length_nil];omega) O ?_;intro v2 C a X _;have T:Bs C (w1.heap.size+1) v2 (fe.f.b++Q):=(by unfold Bs;rw[bV];exact a);have P:=p5.o.grown X O (fun j s=>(Own.lt p4.o j s).1);obtain⟨t,u,e2,_⟩:=bF T;subst e2;have Z:=J T;have C4:=J P;have z:aS C w1.heap.size 85 _:=(P.block w1.heap.size O).trans U.o;have n0:=z.cell 0;have n1:=z.cell 1;have n2:=z.cell 2;have n3:=z.a6 1;clear a T X P z)));have j6:(fe.f.b++Q).length=(fe.f.b.length+Q):=by simp
   have a:=Z.o;rw[j6] at a;have E:Below w1 w1 (C.setCell (w1,1) (.slice t (fe.f.b.length+Q) u)):=(n9.o.trans (C4.o.mono O)).setCell (p:=(w1,1)) (lR _) _;obtain⟨y3,G⟩:=eX (C.setCell (w1,1) (.slice t (fe.f.b.length+Q) u));rw[<-G] at E⊢;have j8:∀k,(Value.slice t (fe.f.b.length+Q) u).ownBlock=some k->w1.heap.size<=k:=fun k L=>ω1 ((Own.lt a k L).1)
   have n8:eR y3 base (.slice t (fe.f.b.length+Q) u) (fe.f.b++Q):=((eR.e1 a).mono (ω1 E9.o)).kept (fun j s=>by
    rw[G];refine Below.heap_setCell C (w1,1) _ j ?_;have:=(Own.lt a j s).1;show j≠w1
    omega) (by rw[G];simp)
   have o9:=J (oQ (o8.o.a1 E) n ⟨.slice t (fe.f.b.length+Q) u,⟨fe.f.b++Q,fe.f.b5⟩⟩ n8 (by have:=G6.o;simp only[lT];omega) (ω1 HL.o));have C1:=J E;have m5:=J j8;clear j6 a E G j8 n8 Z n0 n1 n2 n3 m1;refine o9.o.mono ?_;rintro e w4 ⟨⟨v,rfl⟩,J1,p6,p7,t9⟩;have l8:=J (xR HB.o D3.o C1.o p6 p7 t9 m5.o);have C2:=J (eJ false w4);clear p6 p7 t9 o9;go_wp2_with fail;refine C2.o.mono ?_;rintro e w' ⟨rfl,rfl⟩;go_wp2;go_ret;rw[V.o];exact⟨rfl,l8.o⟩
 |true=>
  have I1:=tE hgo;have K0:p.cut.2.1=yr:=by rw[I1.2];exact(J7.o.1 I1.1).2.symm
  have V:=J (show R=(50,⟨p.cut.2.2,room,aW n ⟨(bC2 n (bI RF.f es)).b++uJ yr (bR ps),(bC2 n (bI RF.f es)).b5⟩ (bI RF.f es)⟩) by rw[V.o,hgo,K0];rfl);clear I1 K0;rw[hgo] at C8;clear hgo;go_wp2_with fail;refine C8.o.mono ?_;rintro e w1 ⟨rfl,hD1,D,-⟩;have I9:=D.size;have B1:=aQ2 J6.o (fun N e=>D.block N.block (G0.o N e).2 (fun hm=>by have h1:=(H.o.lt _ hm).2;have h2:=(G0.o N e).1;omega)) I9;have I8:=qX yr ((bR ps).length+1:Int) J7.o.2 O w1;obtain⟨m,hm⟩:∃m:Nat,yr % ((bR ps).length+1:Int)=(m:Int):=⟨(yr % ((bR ps).length+1:Int)).toNat,ω1 (Int.emod_nonneg yr (show((bR ps).length+1:Int)≠0 by omega))⟩
  have M7:m<=(bR ps).length:=ω1 (Int.emod_lt_of_pos yr (show(0:Int)<((bR ps).length+1:Int) by omega));have K5:uJ yr (bR ps)=(bR ps).take m:=by unfold uJ;rw[hm];rfl
  rw[hm] at I8;have J4:=J I8;rw[K5] at V;obtain⟨Q,hQ⟩:=eX ((bR ps).take m);have D6:Q=m:=by rw[hQ,lV];omega
  have E6:Rd w1 w1 Ap (cells Q):=by rw[hQ];unfold cells;rw[List.map_take];exact Rd.take B1 m
  rw[<-hQ] at V;clear I8 hm K5 B1 hQ;have D4:=J E6;have Y:=J D6;have L0:Q.length<=274877906944:=O;clear D6;have D3:=J D;have o8:=J hD1;clear hD1 D E6 C8;go_wp2_with fail;refine J4.o.mono ?_;rintro e w' ⟨rfl,rfl⟩;go_wp2_with fail;clear J4;obtain⟨wA,B7⟩:=eX (w1.alloc (.cells #[.string (bU n),.slice none 0 0,.int .i64 0] 85));have n5:=bN B7;have D1:=J (pL (o8.o.a1 n5) n (ω1 HL.o));have D5:=J B7;have L8:wA.heap.size=w1+1:=by rw[B7];simp
  rw[<-B7];refine D1.o.mono ?_;rintro e w' ⟨rfl,rfl⟩;clear B7 D1;cases hg:aX n es with
  |none=>
   rw[iK hg];have q8:bC2 n (bI RF.f es)=⟨[],0⟩:=by unfold bC2;rw[mS hg];rfl
   rw[q8] at V;have B:aS wA w1 85 #[.string (bU n),.slice none 0 0,.int .i64 0]:=by rw[D5.o];exact aS.new w1 85 _
   obtain⟨d,F⟩:=eX wA;have W:Below w1 w1 d:=by rw[F];exact n5
   have U:=J (show aS d w1 85 #[.string (bU n),.slice none ([]:List UInt8).length 0,.int .i64 0] by rw[F];exact B);have C3:=J (show Rd d d none (cells ([]:List UInt8)) from Rd.none_);have p8:w1.heap.size+1<=d:=U.o.lt;have m1:=U.o.c 1;have n9:=J W;rw[<-F];clear hg q8 B F W n5;go_wp2_with (first|(at_builtin;refine aP rfl (.tmp 89) (.tmp 91) 34 rfl (w1.heap.size+1) 5 (.int .u8 0) 1 Tryz.underlying34 bJ rfl _ [] rfl (Own.nil _ _ _) d.heap.size none ([]:List UInt8).length 0 (cells ([]:List UInt8)) rfl (aB _).symm C3.o (cU _) (by unfold maxLen;simp;try omega) (by simp;try omega) p8 ?_;intro v1 y1 B6 s9 _;have S:Bs y1 (w1.heap.size+1) v1 ([]:List UInt8):=B6;have M:=(lS _ d).grown s9 p8 (fun j s=>by cases s);obtain⟨G5,G9,e1,_⟩:=bF S;subst e1;have p4:=J S;have p5:=J M;have C6:=M.size;clear B6 S s9 M)|(at_builtin;go_must (refine aP rfl (.tmp 93) (.tmp 94) 34 rfl (w1.heap.size+1) 5 (.int .u8 0) 1 Tryz.underlying34 bJ rfl _ _ rfl p4.o w1.heap.size Ap m cp (cells Q) rfl (by rw[aB];exact Y.o.symm) (D4.o.a1 (n9.o.trans (p5.o.mono O))) (cU _) (by have:=Y.o;simp only[aB,List.length_nil];unfold maxLen;omega) (by have:=Y.o;simp only[aB,List.length_nil];omega) O ?_;intro v2 C a X _;have T:Bs C (w1.heap.size+1) v2 (([]:List UInt8)++Q):=(by unfold Bs;rw[bV];exact a);have P:=p5.o.grown X O (fun j s=>(Own.lt p4.o j s).1);obtain⟨t,u,e2,_⟩:=bF T;subst e2;have Z:=J T;have C4:=J P;have z:aS C w1.heap.size 85 _:=(P.block w1.heap.size O).trans U.o;have n0:=z.cell 0;have n1:=z.cell 1;have n2:=z.cell 2;have n3:=z.a6 1;clear a T X P z)));have j6:(([]:List UInt8)++Q).length=Q:=by simp
   have a:=Z.o;rw[j6] at a;have E:Below w1 w1 (C.setCell (w1,1) (.slice t Q u)):=(n9.o.trans (C4.o.mono O)).setCell (p:=(w1,1)) (lR _) _;obtain⟨y3,G⟩:=eX (C.setCell (w1,1) (.slice t Q u));rw[<-G] at E⊢;have j8:∀k,(Value.slice t Q u).ownBlock=some k->w1.heap.size<=k:=fun k L=>ω1 ((Own.lt a k L).1)
   have n8:eR y3 base (.slice t Q u) (([]:List UInt8)++Q):=((eR.e1 a).mono (ω1 E9.o)).kept (fun j s=>by
    rw[G];refine Below.heap_setCell C (w1,1) _ j ?_;have:=(Own.lt a j s).1;show j≠w1
    omega) (by rw[G];simp)
   have o9:=J (oQ (o8.o.a1 E) n ⟨.slice t Q u,⟨([]:List UInt8)++Q,0⟩⟩ n8 (Nat.zero_le _) (ω1 HL.o));have C1:=J E;have m5:=J j8;clear j6 a E G j8 n8 Z n0 n1 n2 n3 m1;refine o9.o.mono ?_;rintro e w4 ⟨⟨v,rfl⟩,J1,p6,p7,t9⟩;have l8:=J (xR HB.o D3.o C1.o p6 p7 t9 m5.o);have C2:=J (eJ true w4);clear p6 p7 t9 o9;go_wp2_with fail;refine C2.o.mono ?_;rintro e w' ⟨rfl,rfl⟩;go_wp2;go_ret;rw[V.o];exact⟨rfl,l8.o⟩
  |some fe=>
   obtain⟨k,L,ek,D8⟩:=jA hg;rw[ek];have q8:bC2 n (bI RF.f es)=fe.f:=by unfold bC2;rw[gS hg];rfl
   rw[q8] at V;have B8:=o8.o.a1 n5;obtain⟨A1,G8,C5,I4,I2,p9⟩:=B8.b3;obtain⟨b,hA1,hbl,q0,q1,q2,-,-⟩:=p9 k L;have l4:(n,fe)∈es:=by rw[<-D8];exact lX L
   rw[D8] at q0 q1 q2;obtain⟨Ax,cx,hv,G4,K6,C0⟩:=(B8.e9 _ l4).b3;simp only at hv G4 C0 q0 q1 q2;rw[hv] at q1;have L3:(0:Int)<=(k:Int):=O;have L4:(k:Int)<(es:Int):=O;obtain⟨xA,yA,I,-⟩:=B8.b4;have e0:=I.cell 0;rw[C5,hA1] at e0;have I0:wA.cell? (g,0)=some (.slice (b,0) es G8):=e0;have I3:fe.f.b.length<=549755813888:=C9.o.2.2 _ l4;have E7:fe.f.b5<=fe.f.b:=H.o.b5 _ l4;have B:aS wA w1 85 #[.string (bU n),.slice none 0 0,.int .i64 0]:=by rw[D5.o];exact aS.new w1 85 _
   have k0:=B.a6 0;have k1:=B.a6 1;have k2:=B.a6 2;have z0:=B.c 0;have z1:=B.c 1;have z2:=B.c 2;obtain⟨d,F⟩:=eX (((wA.setCell (w1,0) (.string (bU n))).setCell (w1,1) (.slice Ax fe.f.b cx)).setCell (w1,2) fe.f.b5);have W:Below w1 w1 d:=by rw[F];exact((n5.setCell (p:=(w1,0)) (lR _) _).setCell (p:=(w1,1)) (lR _) _).setCell (p:=(w1,2)) (lR _) _
   have U:=J (show aS d w1 85 #[.string (bU n),.slice Ax fe.f.b cx,fe.f.b5] by rw[F];exact((B.b8 0 _).b8 1 _).b8 2 _);have C3:=J (show Rd d d Ax (cells fe.f.b) by
    obtain⟨A9,c9,h9,_,_,r9⟩:=(o8.o.e9 _ l4).b3;simp only at h9 r9;rw[hv] at h9;injection h9 with h9 _ _
    rw[h9];exact(r9.a1 W).more W.size)
   have p8:w1.heap.size+1<=d:=U.o.lt;have m1:=U.o.c 1;have n9:=J W;have G7:=J F;have G6:=J E7;clear hg q8 B F W n5 B8 p9 C0 I e0 E7;go_upto_region 26 with(fail)
   rw[<-G7.o];clear k0 k1 k2 z0 z1 z2 I0 q0 q1 q2;go_wp2_with (first|(at_builtin;refine aP rfl (.tmp 89) (.tmp 91) 34 rfl (w1.heap.size+1) 5 (.int .u8 0) 1 Tryz.underlying34 bJ rfl _ [] rfl (Own.nil _ _ _) d.heap.size Ax fe.f.b.length cx (cells fe.f.b) rfl (aB _).symm C3.o (cU _) (by unfold maxLen;simp;try omega) (by simp;try omega) p8 ?_;intro v1 y1 B6 s9 _;have S:Bs y1 (w1.heap.size+1) v1 fe.f.b:=B6;have M:=(lS _ d).grown s9 p8 (fun j s=>by cases s);obtain⟨G5,G9,e1,_⟩:=bF S;subst e1;have p4:=J S;have p5:=J M;have C6:=M.size;clear B6 S s9 M)|(at_builtin;go_must (refine aP rfl (.tmp 93) (.tmp 94) 34 rfl (w1.heap.size+1) 5 (.int .u8 0) 1 Tryz.underlying34 bJ rfl _ _ rfl p4.o w1.heap.size Ap m cp (cells Q) rfl (by rw[aB];exact Y.o.symm) (D4.o.a1 (n9.o.trans (p5.o.mono O))) (cU _) (by have:=Y.o;simp only[aB,List.length_nil];unfold maxLen;omega) (by have:=Y.o;simp only[aB,List.length_nil];omega) O ?_;intro v2 C a X _;have T:Bs C (w1.heap.size+1) v2 (fe.f.b++Q):=(by unfold Bs;rw[bV];exact a);have P:=p5.o.grown X O (fun j s=>(Own.lt p4.o j s).1);obtain⟨t,u,e2,_⟩:=bF T;subst e2;have Z:=J T;have C4:=J P;have z:aS C w1.heap.size 85 _:=(P.block w1.heap.size O).trans U.o;have n0:=z.cell 0;have n1:=z.cell 1;have n2:=z.cell 2;have n3:=z.a6 1;clear a T X P z)));have j6:(fe.f.b++Q).length=(fe.f.b.length+Q):=by simp
   have a:=Z.o;rw[j6] at a;have E:Below w1 w1 (C.setCell (w1,1) (.slice t (fe.f.b.length+Q) u)):=(n9.o.trans (C4.o.mono O)).setCell (p:=(w1,1)) (lR _) _;obtain⟨y3,G⟩:=eX (C.setCell (w1,1) (.slice t (fe.f.b.length+Q) u));rw[<-G] at E⊢;have j8:∀k,(Value.slice t (fe.f.b.length+Q) u).ownBlock=some k->w1.heap.size<=k:=fun k L=>ω1 ((Own.lt a k L).1)
   have n8:eR y3 base (.slice t (fe.f.b.length+Q) u) (fe.f.b++Q):=((eR.e1 a).mono (ω1 E9.o)).kept (fun j s=>by
    rw[G];refine Below.heap_setCell C (w1,1) _ j ?_;have:=(Own.lt a j s).1;show j≠w1
    omega) (by rw[G];simp)
   have o9:=J (oQ (o8.o.a1 E) n ⟨.slice t (fe.f.b.length+Q) u,⟨fe.f.b++Q,fe.f.b5⟩⟩ n8 (by have:=G6.o;simp only[lT];omega) (ω1 HL.o));have C1:=J E;have m5:=J j8;clear j6 a E G j8 n8 Z n0 n1 n2 n3 m1;refine o9.o.mono ?_;rintro e w4 ⟨⟨v,rfl⟩,J1,p6,p7,t9⟩;have l8:=J (xR HB.o D3.o C1.o p6 p7 t9 m5.o);have C2:=J (eJ true w4);clear p6 p7 t9 o9;go_wp2_with fail;refine C2.o.mono ?_;rintro e w' ⟨rfl,rfl⟩;go_wp2;go_ret;rw[V.o];exact⟨rfl,l8.o⟩
end
def fP(keep:List Int)(i:Nat)(f:FD):FD:=
 ⟨f.b.take (f.b5+if i<keep then(keep.getD i 0 % ((f.b:Int)-f.b5+1)).toNat else 0),f.b5+if i<keep then(keep.getD i 0 % ((f.b:Int)-f.b5+1)).toNat else 0⟩
def gG(keep:List Int)(k:Nat)(fs:List (Nm×FD)):List (Nm×FD):=fs.mapIdx fun i q=>if i<k then(q.1,fP keep i q.2) else q
def DkD.j8(d:DkD)(keep:List Int):DkD:=⟨⟨false,false,0,0⟩,d.room,gG keep d.fs d.fs⟩
theorem yG(a:List Int)(fs:List (Nm×FD)):gG a 0 fs=fs:=by
 unfold gG;refine List.ext_getElem σ fun i b c=>?_
 rw[List.getElem_mapIdx,if_neg O]
theorem gM(a:List Int)(k:Nat)(fs:List (Nm×FD)):(gG a k fs).length=fs:=by unfold gG;simp
theorem aE0(a:List Int){k:Nat}{fs:List (Nm×FD)}(d:k<fs)(h:k<(gG a k fs).length):(gG a k fs)[k]=fs[k]:=by
 have c:∀b,(fs.mapIdx fun i q=>if i<k then(q.1,fP a i q.2) else q)[k]'(b)=fs[k]:=fun b =>by rw[List.getElem_mapIdx,if_neg O]
 exact c _
theorem yF(a:List Int){k:Nat}{fs:List (Nm×FD)}(f:k<fs):(gG a k fs).set k (fs[k].1,fP a k fs[k].2)=gG a (k+1) fs:=by
 unfold gG;refine List.ext_getElem σ fun i d e=>?_
 rw[List.getElem_set,List.getElem_mapIdx,List.getElem_mapIdx];by_cases c:k=i;subst c;rw[if_pos rfl,if_pos O];rw[if_neg c];by_cases b:i<k;rw[if_pos b,if_pos O];rw[if_neg b,if_neg O]
theorem vO(a:List Int)(i:Nat)(f:FD)(h:f.b5<=f.b):(fP a i f).b5<=f.b∧(fP a i f).b=f.b.take (fP a i f).b5:=by
 refine⟨?_,rfl⟩;unfold fP;show f.b5+_<=_
 split;have c:=Int.emod_lt_of_pos (a.getD i 0) (show(0:Int)<(f.b:Int)-f.b5+1 by omega);have d:=Int.emod_nonneg (a.getD i 0) (show((f.b:Int)-f.b5+1)≠0 by omega);omega;omega
section
variable{w w1 w2 wr:World}{base g:Nat}{p p' :fT}{room:Int}{vL vL' :Value}{es es' :List (Nm×RF)}
theorem bD2{α β:Type}(f:α->β)(l:List (Nm×α))(k:Nat)(q:Nm×α):bI f (l.set k q)=(bI f l).set k (q.1,f q.2):=by simp only[bI,List.map_set]
theorem aR.boot1{b c L:Nat}(m:es=L)(h:aR wr base g p room (.slice (b,0) L c) es){k:Nat}(e:k<es)(s:Nat)(q:s<=es[k].2.f.b.length)(d:Nat):
  aR ((wr.drewN d).setCell (b,k*3+2) s) base g p room (.slice (b,0) L c) (es.set k (es[k].1,⟨es[k].2.v,⟨es[k].2.f.b,s⟩⟩))∧Fr (aL g (.slice (b,0) L c) es) wr ((wr.drewN d).setCell (b,k*3+2) s)∧
  (∀i,aL g (.slice (b,0) L c) (es.set k (es[k].1,⟨es[k].2.v,⟨es[k].2.f.b,s⟩⟩)) i->aL g (.slice (b,0) L c) es i∨wr.heap.size<=i):=by
 subst m;have l:=lX e;have a:=(h.e7 d).k9 (w1:=wr) e (j:=2) O (.int .i64 (s:Int)) ⟨es[k].2.v,⟨es[k].2.f.b,s⟩⟩ (by simp[iL]) ((h.e9 _ l).kept (fun _ _=>rfl) (lR _)) q (fun i n=>.inl (.inr (.inr ⟨_,l,n⟩)));rw[oA h.rising e] at a;exact⟨a.1,((Fr.refl _ _).e7 d).trans a.2.1 (fun j o=>.inl o),a.2.2⟩
theorem aR.boot2{b c L:Nat}(o:es=L)(h:aR wr base g p room (.slice (b,0) L c) es)(d:Below wr wr w2){k:Nat}(m:k<es){v:Value}{l:List UInt8}(s:es[k].2.f.b5<=l)(e:eR w2 wr v l):
  aR (w2.setCell (b,k*3+1) v) base g p room (.slice (b,0) L c) (es.set k (es[k].1,⟨v,⟨l,es[k].2.f.b5⟩⟩))∧Fr (aL g (.slice (b,0) L c) es) wr (w2.setCell (b,k*3+1) v)∧
  (∀i,aL g (.slice (b,0) L c) (es.set k (es[k].1,⟨v,⟨l,es[k].2.f.b5⟩⟩)) i->aL g (.slice (b,0) L c) es i∨wr.heap.size<=i):=by
 subst o;have n:base<=wr:=ω2 h.low h.l5;have a:=(h.a1 d).k9 (w1:=wr) m (j:=1) O v ⟨v,⟨l,es[k].2.f.b5⟩⟩ (by simp[iL]) (e.mono n) s (fun i q=>.inr (e.row.base i q));rw[oA h.rising m] at a;exact⟨a.1,(Fr.b9 _ d).trans a.2.1 (fun j r=>.inl r),a.2.2⟩
theorem bI8(h:aR w base g p room vL es)(A:Option Addr)(z:List Int)(cz:Nat)(hz:Rd w base A (z.map (Value.int .i64)))(X:∀n∈z,I6 n)(G4:z.length<=140737488351232)(hl:es.length<=549755813888)(C4:∀q∈es,q.2.f.b.length<=549755813888):
  Calls Tryz.prog 75 #[(g,0),.slice A z cz] w fun e w' =>(∃v,e=.returned v)∧aH9 w base g vL es ((cN p room es).j8 z) w' :=by
 have H:=J h;have HZ:=J hz;have E5:=J X;have D7:=J C4;obtain⟨AL,c,hvL,hlc,hcm,-⟩:=h.b3;clear h hz X C4;subst hvL;go_enter Tryz.func75,Tryz.ntmps75;go_wp2_with fail;go_loopw [4] (fun i wr=>∃(k:Nat) (r:List (Nm×RF)),k<=es∧i=.int .i64 k∧Hq (aR wr base g p room (.slice AL es c) r)∧Hq (bI RF.f r=gG z k (bI RF.f es))∧Hq (Fr (aL g (.slice AL es c) es) w wr)∧Hq (∀j,aL g (.slice AL es c) r j->aL g (.slice AL es c) es j∨w.heap.size<=j)) (fun i _=>es.length-(intOf i).toNat)
 case atStart=>exact⟨0,es,O,rfl,H,J (yG _ _).symm,J (Fr.refl _ _),J (fun j N=>.inl N)⟩
 obtain⟨k,r,hk,rfl,L,HS,P,HK⟩:=hrel;have i4:r.length=es:=by have:=congrArg List.length HS.o;simpa[gM,bI] using this
 obtain⟨x1,y1,G,l4⟩:=L.o.b4;have d0:=G.c 0;have d2:=G.c 2;have d3:=G.c 3;have f2:=G.a6 2;have f3:=G.a6 3;by_cases m:k<es;rotate_left
 ·have E8:k=es:=O
  have C0:gG z k (bI RF.f es)=((cN p room es).j8 z).fs:=by
   rw[E8];show _=gG z (bI RF.f es).length (bI RF.f es)
   rw[cR]
  have q8:=aF (aA wr g 2 (.bool false)) (aA (wr.setCell (g,2) (.bool false)) g 3 (.bool false)) (.inl rfl);have D5:=J (L.o.j6 (p' :=⟨false,false,0,0⟩) q8 (x:=x1) (y:=y1) (aS.b8 (aS.b8 G 2 _) 3 _) ⟨fun h=>(by cases h),l4.2⟩ (fun h=>by cases h));have o8:=J (P.o.trans (Fr.e2 (mine:=aL g (.slice AL es c) r) q8 (fun k e=>by injection e with e;exact .inl e.symm)) HK.o);have D9:=J (HS.o.trans C0);clear C0 G l4 q8 i4;go_wp2;go_end0;exact⟨⟨_,rfl⟩,_,_,D5.o,D9.o,o8.o,HK.o⟩
 have m9:k<r:=O;obtain⟨A9,c9,h9,-,-,hat⟩:=L.o.b3;injection h9 with h9 h9l h9c
 subst h9 h9c;clear h9l;obtain⟨b,E6,C2,q0,q1,q2,t1,t2⟩:=hat k m9;subst E6;have hm:=lX m9;obtain⟨Ax,cx,hv,D3,G3,B6⟩:=(L.o.e9 _ hm).b3;have n5:=L.o.b5 _ hm;have E7:g≠b:=fun e=>kK L.o.own G δ (by rw[e];rfl)
 have m5:(r[k].1,r[k].2.f)=(bI RF.f es)[k]'(by rw[cR];exact m):=by
  have h1:=aE0 z (fs:=bI RF.f es) (k:=k) (by rw[cR];exact m) (by rw[gM,cR];exact m);rw[<-h1];have h2:(bI RF.f r)[k]'(by rw[cR];exact m9)=(r[k].1,r[k].2.f):=by simp[bI]
  rw[<-h2];exact List.getElem_of_eq HS.o _
 have C5:r[k].2.f.b.length<=549755813888:=by
  have h1:(bI RF.f es)[k]'(by rw[cR];exact m)=(es[k].1,es[k].2.f):=by simp[bI]
  rw[h1] at m5;injection m5 with _ h2
  rw[h2];exact D7.o _ (lX m)
 have hB:=vO z k r[k].2.f n5;have o9:Hq (∀Q,A=some Q->Q.block<base->wr.heap[Q.block]? =w.heap[Q.block]?):=J (fun Q e hlo=>P.o.block Q.block (ω2 H.o.low H.o.l5) (fun hm=>ω1 ((H.o.lt _ hm).1)));obtain⟨q,hq⟩:=eX (r[k]);have D0:q.1=((bI RF.f es)[k]'(by rw[cR];exact m)).1:=by rw[<-m5,hq]
 have C9:q.2.f=((bI RF.f es)[k]'(by rw[cR];exact m)).2:=by rw[<-m5,hq]
 have i6:Hq (∀s v,s=(fP z k q.2.f).b5->bI RF.f (r.set k (q.1,⟨v,⟨q.2.f.b.take s,s⟩⟩))=gG z (k+1) (bI RF.f es)):=J (fun s v I=>by
  rw[bD2,HS.o,<-yF z (by rw[cR];exact m),<-C9,<-D0];show _=(gG z k (bI RF.f es)).set k (q.1,fP z k q.2.f)
  rw[I];rfl)
 have n9:=J (fun s (I:s<=r[k].2.f.b.length) Z=>L.o.boot1 i4 m9 s I Z);rw[<-hq] at q1 q2 hv D3 B6 n5 C5 hB n9;rw[hv] at q1;have HQ:=J hq;have G0:=J B6;have HB:=J hB;have HV:=J hv;obtain⟨qn,qv,B,C⟩:=q;simp only at q1 q2 D3 n5 C5;have G2:(k:Int)<(es:Int):=O;have p4:=J i4;clear i4 m5 D0 C9 hq hv B6 hB hat hm q0 G l4 d2 d3 f2 f3;by_cases F:k<z;obtain⟨Y,B1⟩:∃Y:Nat,z.getD k 0 % ((B:Int)-C+1)=(Y:Int):=⟨(z.getD k 0 % ((B:Int)-C+1)).toNat,ω1 (Int.emod_nonneg (z.getD k 0) (show((B:Int)-C+1)≠0 by omega))⟩
 have R:(fP z k ⟨B,C⟩).b5=C+Y:=by
  unfold fP;show C+_=_
  rw[if_pos F,B1];rfl
 have n8:C+Y<=B:=by have:=HB.o.1;simp only at this;rw[R] at this;exact this
 obtain⟨B8,hA,l9,C3⟩:=iR HZ.o F;have p9:wr.cell? (B8.add k)=some (.int .i64 (z.getD k 0)):=by
  rw[show z.getD k 0=z[k] by simp[List.getD,F]];exact(mK (w:=w) (by rw[bK];exact o9.o B8 hA l9)).trans C3
 have X:=E5.o _ (lX F);rw[show z[k]=z.getD k 0 by simp[List.getD,F]] at X;have p5:=fun W:World=>J (qX (z.getD k 0) ((B:Int)-C+1) X O W)
 rw[B1] at p5;have f8:=J R;obtain⟨zk,D4⟩:=eX (z.getD k 0);rw[<-D4] at p9 X p5;have s9:(k:Int)<(z:Int):=O;subst hA;clear B1 R C3 l9 D4;go_wp2_with fail;go_quiet (fail);go_wp2_with fail;refine(p5 _).o.mono ?_;rintro e w' ⟨rfl,rfl⟩;go_wp2_with fail;refine bB 17 κ κ ?_;simp only[List.take_succ_cons,List.take_zero,List.drop_succ_cons,List.drop_zero]
 iterate 17 go_big_quiet_step (fail)
 refine wpQuiet_nil ?_;rintro _ ⟨Z,rfl⟩;go_wp2_with fail;obtain⟨s,I⟩:=eX (C+Y);rw[show(C:Int)+(Y:Int)=(s:Int) by omega];rw[<-I] at n8 f8;rotate_left;have R:(fP z k ⟨B,C⟩).b5=C:=by
  unfold fP;show C+_=_
  rw[if_neg F];rfl
 have f8:=J R;have s9:¬(k:Int)<(z:Int):=O;clear R;go_wp2_with fail;go_quiet (fail);go_wp2_with fail;refine bB 17 κ κ ?_;simp only[List.take_succ_cons,List.take_zero,List.drop_succ_cons,List.drop_zero]
 iterate 17 go_big_quiet_step (fail)
 refine wpQuiet_nil ?_;rintro _ ⟨Z,rfl⟩;go_wp2_with fail;have n8:=n5;obtain⟨s,I⟩:=eX C;try rw[show(C:Int)+0=(C:Int) by omega]
 rw[<-I] at n8⊢;have f8:=J (f8.o.trans I.symm)
 all_goals
  clear I;obtain⟨a,T⟩:=eX ((wr.drewN (nq+Z)).setCell (b,k*3+2) (.int .i64 ((s:Int))));have V:=n9.o (s) n8 (nq+Z);try simp only at V
  rw[<-T] at V⊢;have C7:((b,k*3+2):Addr)≠⟨g,0,none⟩:=by intro e;injection e with e;exact E7 e.symm
  have C8:((b,k*3+2):Addr)≠⟨b,k*3+1,none⟩:=by intro e;injection e with _ e;omega
  have e0:a.cell? (g,0)=some (.slice (b,0) es c):=by rw[T,World.cell?_setCell_other (h:=C7)];exact d0
  have e1:a.cell? (b,k*3+1)=some (.slice Ax B cx):=by rw[T,World.cell?_setCell_other (h:=C8)];exact q1
  have e2:a.cell? (b,k*3+2)=some (.int .i64 ((s:Int))):=by rw[T];exact World.cell?_setCell_same (w:=wr.drewN (nq+Z)) (u:=.int .i64 (C:Int)) _ _ q2
  have j6:(qn,(⟨qv,⟨B,s⟩⟩:RF))∈r.set k (qn,⟨qv,⟨B,s⟩⟩):=List.mem_set O _;have m8:Rd a a Ax (cells (B.take (s))):=by
   obtain⟨A8,c8,E,_,_,r8⟩:=(V.1.e9 _ j6).b3;simp only at E r8;rw[HV.o] at E;injection E with E _ _
   rw[E];unfold cells;rw[List.map_take];exact Rd.take r8 _
  have m6:=V.1.l5;have g9:b<a:=by rw[T];simpa using C2
  have E9:s<=cx:=O;have M:=J V;have p7:=J m8;clear V m8 j6 T d0 q1 q2 t1 t2 C7 C8 C2;refine bW 26 κ (S:=fun W=>W.cell? ⟨g,0,none⟩=some (.slice (some ⟨b,0,none⟩) es c)∧W.cell? ⟨b,k*3+1,none⟩=some (.slice Ax B cx)∧W.cell? ⟨b,k*3+2,none⟩=some (.int .i64 ((s:Int)))∧True) ⟨e0,e1,e2,trivial⟩ (fun d=>?_);refine zU 0 (k:=zU 1 (k:=zU 2 (k:=zU 3 (k:=zU 4 (k:=zU 6 (k:=zU 7 (k:=zU 8 (k:=zU 9 (k:=zU 10 (k:=zU 11 (k:=zU 12 (k:=?_))))))))))));refine zU 13 (k:=zU 14 (k:=zU 15 (k:=zU 16 (k:=zU 17 (k:=zU 18 (k:=zU 19 (k:=zU 20 (k:=zU 21 (k:=zU 22 (k:=?_))))))))));simp only[zA,zB,zF,zG,zC,zD,zE];refine zW 5 (k:=fun K D=>?_);simp only[zA,zB];go_simp;have B7:=J (nN a.drew a.drew 5 (lR _));have a0:(a.drew.alloc (.cells #[] 5)).cell? ⟨g,0,none⟩=some (.slice (some ⟨b,0,none⟩) es.length c):=(World.cell?_alloc_lt a.drew _ ⟨g,0,none⟩ m6).trans e0;have a1:(a.drew.alloc (.cells #[] 5)).cell? (b,k*3+1)=some (.slice Ax B cx):=(World.cell?_alloc_lt a.drew _ (b,k*3+1) g9).trans e1;have a2:(a.drew.alloc (.cells #[] 5)).cell? (b,k*3+2)=some (.int .i64 ((s:Int))):=(World.cell?_alloc_lt a.drew _ (b,k*3+2) g9).trans e2;refine D.out _ _ ⟨a0,a1,a2,trivial⟩ (fun d=>?_);clear D K;try simp only[zF,zG,zC,zD,zE]
  refine zW 23 (k:=fun K D=>?_);simp only[zA,zB];rw[if_pos (by rfl)];refine fS (w:=a.drew.alloc (.cells #[] 5)) (.tmp 67) (.tmp 84) 34 rfl a 5 (.int .u8 0) 1 Tryz.underlying34 bJ rfl (.slice (some ⟨a,0,none⟩) 0 0) [] rfl B7.o a Ax s cx (cells (B.take s)) rfl (by rw[aB,lV];omega) (Rd.alloc (w:=a.drew) (show Rd a.drew _ _ _ from p7.o) (lR _) _) (cU _) (by unfold maxLen;simp;omega) θ σ ?_;intro v5 w5 D1 C6 _;have j9:Bs w5 a v5 (B.take s):=D1;have U:Below a a w5:=(((lS _ a).drew).alloc (lR _) _).grown C6 σ (fun j N=>(Own.lt B7.o j N).1);have m7:(B.take s).length=s:=by rw[lV];omega
  obtain⟨A5,c5,e5,_⟩:=bF j9;rw[m7] at e5;subst e5;have b0:=U.cell (p:=(g,0)) m6;have b1:=U.cell (p:=(b,k*3+1)) g9;have b2:=U.cell (p:=(b,k*3+2)) g9;rw[e0] at b0;rw[e1] at b1;rw[e2] at b2;have B9:=M.o.1.a1 U;have t9:(r.set k (qn,(⟨qv,⟨B,s⟩⟩:RF))).length=es:=by rw[List.length_set];exact p4.o
  obtain⟨A8,c8,E,_,_,m3⟩:=B9.b3;obtain⟨b8,C1,_,_,_,_,u1,_⟩:=m3 k (by rw[t9];exact m);rw[C1] at E;have p8:b=b8:=by injection E with E _ _;injection E with E;injection E
  subst p8;have j8:=aR.boot2 t9 M.o.1 U (k:=k) (by rw[t9];exact m) (v:=.slice A5 s c5) (l:=B.take s) (by rw[List.getElem_set_self,m7];exact lR _) (eR.e1 j9);simp only[List.getElem_set_self,List.set_set] at j8;have f9:=J j8;clear j8 B9 m3 E C1 D1 j9 C6 U e0 e1 e2 a0 a1 a2;refine D.out _ _ ⟨b0,b1,b2,trivial⟩ (fun d=>?_);clear D K;try simp only[zF,zG,zC,zD,zE]
  refine zW 24 (k:=fun K D=>?_);simp only[zA,zB];go_simp;refine D.out _ _ ⟨b0,b1,b2,trivial⟩ (fun d=>?_);clear D K;try simp only[zF,zG,zC,zD,zE]
  refine zW 25 (k:=fun K D=>?_);simp only[zA,zB];go_simp;refine D.out _ _ ⟨b0,b1,b2,trivial⟩ (fun d=>?_);clear D K;try simp only[zF,zG,zC,zD,zE]
  refine dI (t:=26) (by simp) (by kernel_rfl) (by kernel_rfl) (fun K D=>?_);simp only[zA,zB];go_simp;refine D.out _ _ ?_;clear D K d b0 b1 b2 u1;have o8:=J ((P.o.trans M.o.2.1 HK.o).trans f9.o.2.1 (fun j N=>by
   rcases M.o.2.2 j N with h|h
   exact HK.o j h;exact .inr (mM P.o.size h)))
  have D8:=J (fun j N=>by
   rcases f9.o.2.2 j N with h|h
   rcases M.o.2.2 j h with h|h
   exact HK.o j h;exact .inr (mM P.o.size h);exact .inr (mM (mM P.o.size M.o.2.1.size) h))
  have p6:=J (i6.o s (.slice A5 s c5) f8.o.symm);have D6:=J f9.o.1;clear f9 M i6 n9;go_wp2;go_roundw
  case rel=>exact⟨k+1,_,O,by go_num,D6,p6,o8,D8⟩
  case measure=>simp[intOf];omega
end
structure cA3(w:World)(A:Option Addr)(es:List (Nm×RF)):Prop where
 at_:∀k,(hk:k<es.length)->∃b,A=some ⟨b,0,none⟩∧b<w.heap.size∧w.cell? ⟨b,k*3,none⟩=some (.string (bU es[k].1))∧w.cell? ⟨b,k*3+1,none⟩=some es[k].2.v∧w.cell? ⟨b,k*3+2,none⟩=some (.int .i64 es[k].2.f.b5)
 bytes:∀q∈es,∃Ax cx,q.2.v=.slice Ax q.2.f.b.length cx∧Rd w w Ax (cells q.2.f.b)
theorem cA3.a1{w w' :World}{A:Option Addr}{es:List (Nm×RF)}(h:cA3 w A es)(a:Below w w w'):cA3 w' A es:=by
 refine⟨fun k l=>?_,fun q m=>?_⟩;obtain⟨b,d,c,g,i,j⟩:=h.at_ k l;have:=a.size;exact⟨b,d,O,(a.cell (p:=(b,k*3)) c).trans g,(a.cell (p:=(b,k*3+1)) c).trans i,(a.cell (p:=(b,k*3+2)) c).trans j⟩;obtain⟨e,f,d,c⟩:=h.bytes q m;exact⟨e,f,d,(c.a1 a).more a.size⟩
theorem aR.frd{w:World}{base g:Nat}{p:fT}{room:Int}{A:Option Addr}{n c:Nat}{es:List (Nm×RF)}(h:aR w base g p room (.slice A n c) es):n=es∧cA3 w A es:=by
 obtain⟨t,u,s,_,_,i⟩:=h.b3;injection s with a d e
 subst a d;refine⟨rfl,fun k o=>?_,fun q r=>?_⟩;obtain⟨b,a,d,e,l,m,_⟩:=i k o;exact⟨b,a,d,e,l,m⟩;obtain⟨f,j,a,_,_,d⟩:=(h.e9 q r).b3;exact⟨f,j,a,d⟩
theorem bJ6(A B:Option Addr)(es es2:List (Nm×RF))(c d:Nat)(w:World)(D:cA3 w A es)(h:cA3 w B es2)(v:bI RF.f es=bI RF.f es2)(hl:es.length<=140737488351232)(z:∀q∈es,q.2.f.b.length<=140737488351232):
  Calls Tryz.prog 26 #[.slice A es c,.slice B es2 d] w fun e S =>e=.returned (.bool true)∧Below w w S :=by
 have t:es2.length=es:=by have:=congrArg List.length v;simpa[bI] using this.symm
 rw[t];have j:=J D;have l:=J h;have H:=J v;have M:=J t;have Q:=J z;clear D h v t z;go_enter Tryz.func26,Tryz.ntmps26;go_wp2_with fail;go_loopw [5] (fun n wr=>∃k:Nat,k<=es∧n=.int .i64 k∧Hq (Below w w wr)) (fun n _=>es.length-(intOf n).toNat)
 case atStart=>exact⟨0,O,rfl,J (lS _ _)⟩
 obtain⟨k,Z,rfl,h⟩:=hrel;by_cases a:k<es;rotate_left
 ·clear j l
  go_wp2;go_ret;exact⟨rfl,h.o⟩
 have m:k<es2:=by rw[M.o];exact a
 obtain⟨g,rfl,V,I,s,x⟩:=(j.o.a1 h.o).at_ k a;obtain⟨f,rfl,W,y,p,u⟩:=(l.o.a1 h.o).at_ k m;obtain⟨T,K,E,r⟩:=(j.o.a1 h.o).bytes _ (lX a);obtain⟨U,L,G,i⟩:=(l.o.a1 h.o).bytes _ (lX m);have C:=Q.o _ (lX a);have R:(es[k].1,es[k].2.f)=(es2[k].1,es2[k].2.f):=by
  have N:(bI RF.f es)[k]'(by rw[cR];exact a)=(es[k].1,es[k].2.f):=by simp[bI]
  have P:(bI RF.f es2)[k]'(by rw[cR];exact m)=(es2[k].1,es2[k].2.f):=by simp[bI]
  rw[<-N,<-P];exact List.getElem_of_eq H.o _
 rw[E] at s;rw[G] at p;injection R with e1 e2
 rw[<-e1] at y;rw[<-e2] at p u i;generalize es[k].1=nm at I y;generalize es[k].2.f=F at s x p u r i C;obtain⟨X,Y⟩:=F;simp only at s x p u r i C;have q1:=fun n=>kM K (r.drewN n)
 have q2:=fun n=>kM L (i.drewN n)
 have j9:(k:Int)<es.length:=O;clear j l r i E G e1 e2 m;go_wp2_with fail;go_quiet (fail);go_wp2;go_roundw
 case rel=>exact⟨k+1,O,by go_num,J (aD h.o _)⟩
 case measure=>simp[intOf];omega
end Go.Proofs.YtgeofijddhflaaaGreatDoor
