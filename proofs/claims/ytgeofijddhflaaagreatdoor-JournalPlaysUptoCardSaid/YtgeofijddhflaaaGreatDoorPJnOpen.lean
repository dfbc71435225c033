/- journal.Open. Condition: the disk is a call's own, within bounds; the library's variables stand as laid. -/
import Derived.Test.YtgeofijddhflaaaGreatDoorPJnMk
import Derived.Test.YtgeofijddhflaaaGreatDoorPJnList
set_option linter.unusedVariables false
set_option linter.unusedSimpArgs false
set_option maxHeartbeats 8000000
set_option maxRecDepth 100000
namespace Go.Proofs.YtgeofijddhflaaaGreatDoor
open Go.RowKit Go.Maps Go.Sort Oct
structure pQ(w:World)(base g m:Nat)(es:List (Nm×FE))(bd gj:Nat)(d:DkD)(t v:Int)(sv:Value)(bad:Int)(wx:World)(es' :List (Nm×FE)):Prop where
 c8:aV wx base g m d.pw d.room es'
 fs:bI FE.f es' =d.fs
 jb:aS wx gj 53 #[t,v,sv,(g,0),bad]
 bx:aS wx bd 26 #[(g,0)]
 fr:Fr (aI g m es) w wx
 grow:∀k,aI g m es' k->aI g m es k∨w.heap.size<=k
 lo:w<=bd∧bd<gj
section
variable{w wx wy:World}{base g m bd gj:Nat}{es es' :List (Nm×FE)}{d d' :DkD}{t v:Int}{sv:Value}{bad bad' :Int}
theorem pQ.a1(h:pQ w base g m es bd gj d t v sv bad wx es')(a:Below wx wx wy):pQ w base g m es bd gj d t v sv bad wy es' :=
 ⟨h.c8.a1 a,h.fs,h.jb.a1 a h.jb.lt,h.bx.a1 a h.bx.lt,h.fr.trans (Fr.b9 (aI g m es) a) (fun j b=>.inl b),h.grow,h.lo⟩
theorem pQ.nj(h:pQ w base g m es bd gj d t v sv bad wx es'):¬aI g m es' gj:=h.c8.e3 h.jb δ δ δ
theorem pQ.nb(h:pQ w base g m es bd gj d t v sv bad wx es'):¬aI g m es' bd:=h.c8.e3 h.bx δ δ δ
theorem pQ.e5(h:pQ w base g m es bd gj d t v sv bad wx es')(a8:bD6 wx base g m es' gj t v sv d' bad' wy):∃a,pQ w base g m es bd gj d' t v sv bad' wy a∧(∀k,aI g m a k->aI g m es' k∨wx.heap.size<=k)∧Fr (fun k=>aI g m es' k∨k=gj) wx wy:=by
 obtain⟨a,i,l,n,e,f⟩:=a8;have q:=h.fr.size;have p:=h.lo;refine⟨a,⟨i,l,n,?_,?_,fun k o=>?_,h.lo⟩,f,e⟩;exact e.h4 h.bx (by rintro(b|b);exact h.nb b;omega);exact h.fr.trans e (fun j c=>by
 rcases c with c|c
 exact h.grow j c;exact .inr O)
 rcases f k o with b|b
 exact h.grow k b;exact .inr O
theorem pQ.put{f i :Int}{a :Value}(h:pQ w base g m es bd gj d t v sv bad wx es')(b:wx.grownBy wy (some gj))(l:aS wy gj 53 #[f,i,a,(g,0),bad']):pQ w base g m es bd gj d f i a bad' wy es' :=by
 have n:=h.lo;refine⟨h.c8.b1 b.size (fun k c=>b.block k (h.c8.lt k c).2 (fun e=>by injection e with e;subst e;exact h.nj c)),h.fs,l,h.bx.grown b (by intro e;injection e with e;omega),h.fr.trans (Fr.e2 (mine:=fun k=>k=gj) b (fun k e=>by injection e with e;exact e.symm)) (fun j o=>.inr O),h.grow,h.lo⟩
theorem pQ.k2(h:pQ w base g m es bd gj d t v sv bad wx es')(a:∀k,aI g m es k->base<=k)(b:base<=w):Below base w wx:=h.fr.a1 b a
end
def gA(d:DkD):Int×DkD:=if(d.fs.any fun q=>q.1==aJ)=true then d.b6 aJ else(0,d)
theorem yZ{d:DkD}(h:d.pw.off=false):eB d=if(gA d).1=0 then jP (gA d).2 else((gA d).1,none,(gA d).2):=by
 unfold eB gA;rw[if_neg (by rw[h];simp)];split;rfl;rw[if_pos rfl]
theorem vC{d:DkD}(h:d.pw.off=true):eB d=(50,none,d):=by
 unfold eB;rw[if_pos h]
theorem aO8{d:DkD}(h:d.pw.off=false)(a:(gA d).1=0):(gA d).2.pw.off=false:=by
 unfold gA at a⊢;split;rename_i b;rw[if_pos b] at a;exact aY5 a;exact h
theorem aJ6{d:DkD}{L:Nat}(h:gP L d):gP L (gA d).2:=by
 unfold gA;split;exact h.run (.rm aJ);exact h
structure hZ(w:World)(F:Nat->Prop)(A:Option Addr)(recs:List cB):Prop where
 addr:0<recs.length->∃gr,A=some ⟨gr,0,none⟩∧F gr∧gr<w.heap.size∧∀i (h:i<recs.length),jU w F ⟨gr,i*6,none⟩ recs[i].s∧∀j u,(jN recs[i])[j]? =some u->w.cell? ⟨gr,i*6+j,none⟩=some u
section
variable{w w' :World}{F F' :Nat->Prop}{A:Option Addr}{recs:List cB}
theorem hZ.b1(h:hZ w F A recs)(m:w.heap.size<=w')(f:∀k,F k->w'.heap[k]? =w.heap[k]?):hZ w' F A recs:=⟨fun g=>by
 obtain⟨a,e,b,l,c⟩:=h.addr g;exact⟨a,e,b,O,fun i d=>⟨(c i d).1.b1 m f,fun j u n=>(mK (f a b)).trans ((c i d).2 j u n)⟩⟩⟩
theorem hZ.take(h:hZ w F A recs)(n:Nat):hZ w F A (recs.take n):=⟨fun d=>by
 rw[lV] at d;obtain⟨c,e,a,b,f⟩:=h.addr O;refine⟨c,e,a,b,fun i g=>?_⟩;rw[lV] at g;rw[List.getElem_take];exact f i O⟩
theorem hZ.e8{B c:Nat}(z:w.ownsRow B 106 6 (.slice A recs c) recs (fQ recs))(I:∀q∈recs,kT w B q)(a8:∀q∈recs,gU q.s)(h:∀k,B<=k->k<w.heap.size->F k):hZ w F A recs:=⟨fun D=>by
 obtain⟨M,Q,v,T,U,E⟩:=aK z;obtain⟨g,C,rfl,m,d,G,H,r⟩:=E D;injection v with v _ _
 subst v;have b:∀i (hi:i<recs.length) j u,(jN recs[i])[j]? =some u->w.cell? ⟨g,i*6+j,none⟩=some u:=fun i hi j u p=>by
  have t:=(List.getElem?_eq_some_iff.1 p).1;exact r _ _ ((uR recs hi t).trans p)
 refine⟨g,rfl,h g m d,d,fun i hi=>⟨⟨?_,a8 _ (lX hi)⟩,b i hi⟩⟩;have a:=I _ (lX hi);obtain⟨q,n⟩:=eX (recs[i]);rw[<-n] at a⊢;have o:q.rs.length=q.s.l:=by rw[<-a.map,lU]
 obtain⟨N,R,e,K,V,_⟩:=aK a.c7;obtain⟨P,S,f,y,L,_⟩:=Own.b3 a.a7;unfold cB.vl at e;unfold cB.ve at f;injection e with _ _ e
 injection f with _ e3 f
 rw[lU] at y e3;refine⟨q.al,q.cl,q.rs,q.ae,q.ce,fun _=>⟨g,i*6,rfl,h g m d,d,fun j u p=>b i hi j u ?_⟩,by rw[e,<-o];exact K,by rw[e];unfold maxLen;omega,by rw[f];exact y,by rw[f];exact L,dM.e8 a.c7 h (by rw[aN];omega),a.map,fun x hx=>(a.h6 x hx).datF h,dM.e1 a.a7 h⟩;rw[<-n];have t:=(List.getElem?_eq_some_iff.1 p).1;have:(jN q)[j]? =([Value.int .i64 q.s.k,q.s.a8,q.s.c6,.slice q.al q.s.l q.cl,.slice q.ae q.s.a7 q.ce]:List Value)[j]? :=by
  unfold jN cB.vl cB.ve;rw[o];simp only[mC,List.length_nil] at t;rcases(by omega:j=0∨j=1∨j=2∨j=3∨j=4) with rfl|rfl|rfl|rfl|rfl<;>rfl
 rw[this];exact p⟩
end
def aT9(w:World)(base g m:Nat)(es:List (Nm×FE))(r:Int×Option bQ×DkD)(e:Ending)(w' :World):Prop:=
 ∃es',aV w' base g m r.2.2.pw r.2.2.room es' ∧bI FE.f es' =r.2.2.fs∧Fr (aI g m es) w w' ∧(∀k,aI g m es' k->aI g m es k∨w.heap.size<=k)∧
  match r.2.1 with
  |none=>e=.returned (.tuple #[.pointer none,.int .i64 r.1])
  |some j=>∃(gj:Nat) (F:Nat->Prop),e=.returned (.tuple #[.pointer (some ⟨gj,0,none⟩),.int .i64 r.1])∧w<=gj∧pU w' F gj g j∧∀k,F k->w.heap.size<=k∧k<w'.heap.size∧k≠gj∧¬aI g m es' k
theorem pQ.h2{w wx:World}{base g m bd gj:Nat}{es a :List (Nm×FE)}{d:DkD}{t v:Int}{e:Value}{bad:Int}(h:pQ w base g m es bd gj d t v e bad wx a)(c:Int){r:Int×Option bQ×DkD}(b:r=(c,none,d)):aT9 w base g m es r (.returned (.tuple #[.pointer none,c])) wx:=by
 subst b;exact⟨a,h.c8,h.fs,h.fr,h.grow,rfl⟩
def gC(l:List (aH×Bool))(m:Int×Int)(d:DkD):Int×Option bQ×DkD:=match l.getLast? with
 |none=>cQ l m d
 |some f=>if f.1.a7.isEmpty=true then(if(d.b6 (aE f.1.k)).1=0 then cQ l.dropLast m (d.b6 (aE f.1.k)).2 else((d.b6 (aE f.1.k)).1,none,(d.b6 (aE f.1.k)).2)) else cQ l m d
def aK1:Option (Int×Int)->Option (List (aH×Bool))->DkD->Int×Option bQ×DkD
 |some m,some l,d=>gC l m d
 |_,_,d=>(53,none,d)
theorem qP(d:DkD):jP d=aK1 (dQ d) (gH d) d:=by
 unfold jP aK1 gC;cases dQ d<;>cases gH d<;>rfl
structure sR(q:cB):Prop where
 ok:pX q.s
 a8:1<=q.s.a8
 k:1<=q.s.k∧q.s.k<=999999999
 txt:∀e∈q.s.l,e.b.length<=65535
 len:q.s.l.length<=1000000000
theorem bY9{l:List (aH×Bool)}{a:List cB}(a8:a.map cB.o=l)(h:(∀y∈l,gU y.1∧(1<=y.1.k∧y.1.k<=999999999)∧(y.1.a7=[]∧y.1.l=[]∨pX y.1∧1<=y.1.a8)∧(∀e∈y.1.l,e.b.length<=65535)∧y.1.l.length<=1000000000)∧eT l=true):
  (∀i (h:i+1<a.length),sR a[i])∧∀q∈a,q.s.a7≠[]->sR q:=by
 subst a8;have d:∀q∈a,q.s.a7≠[]->sR q:=fun q d g=>by
  obtain⟨f,j,c,m,n⟩:=h.1 q.o (mF.2 ⟨q,d,rfl⟩);rcases c with c|c
  exact absurd c.1 g;exact⟨c.1,c.2,j,m,n⟩
 refine⟨fun i p=>d _ (lX O) ?_,d⟩;have f:=(sH _).1 h.2 i (by rw[lU];exact p);simp only[List.getElem_map] at f;exact f.2.2
theorem rY(r:List cB)(q:cB)(m:Int×Int)(d:DkD):gC ((r++[q]).map cB.o) m d=if q.s.a7.isEmpty=true then(if(d.b6 (aE q.s.k)).1=0 then cQ (r.map cB.o) m (d.b6 (aE q.s.k)).2 else((d.b6 (aE q.s.k)).1,none,(d.b6 (aE q.s.k)).2)) else cQ ((r++[q]).map cB.o) m d:=by
 unfold gC;rw[mE,mG,List.map_nil,List.getLast?_append];simp only[List.getLast?_singleton,Option.some_or,List.dropLast_concat];rfl
theorem zX(a:aQ)(d:DkD):cF [a] d=a.run d:=by
 unfold cF;by_cases b:(a.run d).1=0;rw[if_pos b];exact Prod.ext b.symm rfl;rw[if_neg b]
theorem fO{w:World}{g:Nat}{T:TypeId}{cs:Array Value}(h:aS w g T cs)(j:Nat)(u:Value)(a:cs.toList[j]? =some u):w.cell? (g,j)=some u:=(h.cell j).trans (by rw[<-Array.getElem?_toList];exact a)
theorem pQ.grown{w wx l:World}{base g m bd gj:Nat}{es a :List (Nm×FE)}{d:DkD}{t v:Int}{i:Value}{bad:Int}(h:pQ w base g m es bd gj d t v i bad wx a){row:Option Nat}(b:wx.grownBy l row)(c:∀k,row=some k->k≠gj∧k≠bd∧¬aI g m a k∧w.heap.size<=k):pQ w base g m es bd gj d t v i bad l a :=
 ⟨h.c8.b1 b.size (fun k f=>b.block k (h.c8.lt k f).2 (fun e=>(c k e.symm).2.2.1 f)),h.fs,h.jb.grown b (fun e=>(c gj e.symm).1 rfl),h.bx.grown b (fun e=>(c bd e.symm).2.1 rfl),h.fr.trans (Fr.e2 (mine:=fun k=>row=some k) b (fun k e=>e)) (fun j n=>.inr (c j n).2.2.2),h.grow,h.lo⟩
def cB8(A:Option Addr)(q:Nat):Value:=.pointer ((A.map Addr.block).getD 0,q*6)
def ptrs(A:Option Addr)(st n:Nat):List Value:=(List.range' st (n-st)).map (cB8 A)
theorem bI5(A:Option Addr){st k:Nat}(h:st<=k):ptrs A st (k+1)=ptrs A st k++[cB8 A k]:=by
 unfold ptrs;rw[show k+1-st=(k-st)+1 by omega,List.range'_1_concat,mE,show st+(k-st)=k by omega];rfl
theorem aP3(A:Option Addr)(st k:Nat):(ptrs A st k).length=k-st:=by unfold ptrs;simp
theorem aR9{sl:List aH}{k st:Nat}(d:k<sl)(a8:0<k->st<k)(h:dC [] (sl.take k)=(sl.take k).drop st)(f:st<=k)(c:∀a:0<k,sl[k].h0 (sl[k-1]'O)=true):dC [] (sl.take (k+1))=(sl.take (k+1)).drop st:=by
 have b:sl.take (k+1)=sl.take k++[sl[k]]:=by rw[List.take_add_one,lW d];rfl
 rw[b,lH,h];unfold lJ;rcases Nat.eq_zero_or_pos k with a|a
 subst a;obtain rfl:st=0:=O;simp;have e:((sl.take k).drop st).getLast?=some (sl[k-1]'O):=by
  rw[List.getLast?_drop,if_neg (by rw[lV];have:=a8 a;omega),List.getLast?_eq_getElem?,lV,Nat.min_eq_left O,List.getElem?_take_of_lt O,lW O]
 rw[e];simp only;rw[if_pos (c a),List.drop_append_of_le_length (by rw[lV];omega)]
theorem bD1{sl:List aH}{k st:Nat}(d:k<sl)(b:0<k)(a8:0<k->st<k)(h:dC [] (sl.take k)=(sl.take k).drop st)(c:sl[k].h0 (sl[k-1]'O)=false):dC [] (sl.take (k+1))=(sl.take (k+1)).drop k:=by
 have a:sl.take (k+1)=sl.take k++[sl[k]]:=by rw[List.take_add_one,lW d];rfl
 rw[a,lH,h];unfold lJ;have e:((sl.take k).drop st).getLast?=some (sl[k-1]'O):=by
  rw[List.getLast?_drop,if_neg (by rw[lV];have:=a8 b;omega),List.getLast?_eq_getElem?,lV,Nat.min_eq_left O,List.getElem?_take_of_lt O,lW O]
 rw[e];simp only;rw[if_neg (by rw[c];simp),List.drop_append_of_le_length (by rw[lV];omega),List.drop_eq_nil_of_le (by rw[lV];omega)];rfl
def EF(bd lo hi nE:Nat)(W:World)(x:Nat):Prop:=x=bd∨(lo<=x∧x<hi)∨(nE<=x∧x<W∧∀cs fz,W.heap[x]? ≠some (.cells cs 98 fz))
theorem EF.same{bd lo hi nE:Nat}{W b :World}{row:Option Nat}(d:W.grownBy b row)(a8:bd<nE∧hi<=nE∧nE<=W)(g:∀r,row=some r->nE<=r∧∃cs a,W.heap[r]? =some (.cells cs 98 a)):(∀x,EF bd lo hi nE W x->b.heap[x]? =W.heap[x]?)∧∀x,EF bd lo hi nE W x->EF bd lo hi nE b x:=by
 have c:∀x,EF bd lo hi nE W x->b.heap[x]? =W.heap[x]? :=fun x hx=>by
  have i:x<W:=by
   rcases hx with h|h|h
   omega;omega;exact h.2.1
  refine d.block x i fun e=>?_
  obtain⟨j,cs,a,f⟩:=g x e.symm;rcases hx with h|h|h
  omega;omega;exact h.2.2 cs a f
 refine⟨c,fun x hx=>?_⟩;rcases hx with h|h|h
 exact .inl h;exact .inr (.inl h);refine .inr (.inr ⟨h.1,ω1 d.size,fun cs a=>?_⟩);rw[c x (.inr (.inr h))];exact h.2.2 cs a
theorem EF.a1{bd lo hi nE:Nat}{W a :World}(c:Below W W a)(b:bd<nE∧hi<=nE∧nE<=W):(∀x,EF bd lo hi nE W x->a.heap[x]? =W.heap[x]?)∧∀x,EF bd lo hi nE W x->EF bd lo hi nE a x:=
 EF.same (aT c none) b (fun r h=>by cases h)
structure mQ(W:World)(bd lo hi nE gj g:Nat)(dv:Value)(vs:List Value)(al:List aQ):Prop where
 own:Own W nE 98 dv vs
 len:vs.length=al
 e5:∀i (h:i<vs.length) (h' :i<al.length),fH W (EF bd lo hi nE W) gj g vs[i] al[i]
 fns:∀v∈vs,v.oneCell' =true
section
variable{W W' :World}{bd lo hi nE gj g:Nat}{dv:Value}{vs:List Value}{al:List aQ}
theorem mQ.nil:mQ W bd lo hi nE gj g (.slice none 0 0) [] []:=⟨Own.nil _ _ _,rfl,fun i h=>by simp at h,fun v a=>by cases a⟩
theorem mQ.a1(h:mQ W bd lo hi nE gj g dv vs al)(a:Below W W W')(a8:bd<nE∧hi<=nE∧nE<=W):mQ W' bd lo hi nE gj g dv vs al:=by
 obtain⟨b,c⟩:=EF.a1 (bd:=bd) (lo:=lo) (hi:=hi) (nE:=nE) a a8;exact⟨Own.a1 h.own a (lR _),h.len,fun i d e=>((h.e5 i d e).b1 a.size b).mono c,h.fns⟩
theorem mQ.push{c:World}{v b :Value}{a:aQ}(h:mQ W bd lo hi nE gj g dv vs al)(l:bd<nE∧hi<=nE∧nE<=W)(o:fH W (EF bd lo hi nE W) gj g v a)(n:v.oneCell' =true)(d:W.grownBy c dv.ownBlock)(a8:Own c nE 98 b (vs++[v])):mQ c bd lo hi nE gj g b (vs++[v]) (al++[a]):=by
 obtain⟨j,k⟩:=EF.same (bd:=bd) (lo:=lo) (hi:=hi) (nE:=nE) d l (fun r e=>by
  obtain⟨cs,p⟩:=cT h.own e;exact⟨(h.own.lt r e).1,cs,_,p⟩)
 refine⟨a8,by rw[lT,lT,h.len];rfl,fun i f q=>?_,fun x hx=>?_⟩;by_cases hi:i<vs;rw[List.getElem_append_left hi,List.getElem_append_left (by rw[<-h.len];exact hi)];exact((h.e5 i hi _).b1 d.size j).mono k;have e:i=vs:=by rw[lT] at f;simp at f;omega
 subst e;have m:(al++[a])[vs.length]=a:=by simp[h.len]
 rw[m];simp only[List.getElem_concat_length];exact(o.b1 d.size j).mono k;rcases mB.1 hx with hx|hx
 exact h.fns x hx;obtain rfl:=lY.1 hx;exact n
end
theorem bG2{w i c:World}{base g m bd gj:Nat}{es l :List (Nm×FE)}{d:DkD}{t v:Int}{F:Value}(p:pQ w base g m es bd gj d t v F 0 i l)(s:Below i i c)(a:aQ)(f:Nat)(b:Array Value)(G:∀E:Nat->Prop,(∀k,i.heap.size<=k->k<c.heap.size->E k)->fH c E gj g (.func (.func f) #[] b) a)
  (H:∀k,aI g m es k->base<=k) (U:base<=w) (N:∀o,Below base w o ->aM0 o ∧aC2 o) {L:Nat} (V:gP L d) (X:L+a.cost<=137438953472):
  Calls Tryz.prog 48 #[(gj,0),.slice (c,0) 1 1] (c.alloc (.cells #[.func (.func f) #[] b] 98)) fun e o =>e=.returned (.int .i64 (a.run d).1)∧∃n,pQ w base g m es bd gj (a.run d).2 t v F (a.run d).1 o n∧(∀k,aI g m n k->aI g m l k∨c.heap.size<k)∧Fr (fun k=>aI g m l k∨k=gj) i o :=by
 have W:=s.size;have D:Below i i (c.alloc (.cells #[.func (.func f) #[] b] 98)):=s.alloc s.size _;have r:=p.a1 D;have I:dM (c.alloc (.cells #[.func (.func f) #[] b] 98)) (fun k=>i.heap.size<=k∧k<c.heap.size+1) (c,0) [.func (.func f) #[] b]:=fun _=>⟨c,0,rfl,⟨W,O⟩,σ,fun j u R=>by
  rw[Nat.zero_add];exact fO (aS.new c 98 #[.func (.func f) #[] b]) j u R⟩
 have T:∀k (h:k<[Value.func (.func f) #[] b].length) (K :k<[a].length),fH (c.alloc (.cells #[.func (.func f) #[] b] 98)) (fun k=>i.heap.size<=k∧k<c.heap.size+1) gj g [Value.func (.func f) #[] b][k] [a][k]:=fun k h K =>by
  obtain rfl:k=0:=by simp at h;exact h
  have B:=(lS c c).alloc (lR _) (.cells #[.func (.func f) #[] b] 98);exact((G (fun k=>i.heap.size<=k∧k<c.heap.size) (fun k x y=>⟨x,y⟩)).b1 B.size (fun k q=>B.block k q.2)).mono (fun k q=>⟨q.1,O⟩)
 have Y:=p.lo;have C:=lQ r.c8 r.jb O (c,0) [.func (.func f) #[] b] [a] 1 I rfl T (fun k q=>⟨θ,fun P=>ω1 ((p.c8.lt k P).2),ω1 p.jb.lt⟩) (fun o A =>(N o ((r.k2 H U).trans A)).1) (L:=L) (by rw[DkD.h9 d p.fs];exact V) (by rw[sB];show L+(a.cost+0)<=_;omega) σ;rw[DkD.h9 d p.fs,zX] at C;refine C.mono ?_;rintro e Z ⟨rfl,S⟩;obtain⟨n,x,y,M⟩:=r.e5 S;refine⟨rfl,n,x,fun k q=>?_,(Fr.b9 (fun k=>aI g m l k∨k=gj) D).trans M (fun j Q=>.inl Q)⟩;rcases y k q with z|z
 exact .inl z;refine .inr ?_;simp at z;omega
def EG(G:Nat->Prop)(nE:Nat)(W:World)(x:Nat):Prop:=G x∨(nE<=x∧x<W∧∀cs fz,W.heap[x]? ≠some (.cells cs 98 fz))
theorem EG.same{G:Nat->Prop}{nE:Nat}{W b :World}{row:Option Nat}(d:W.grownBy b row)(a8:(∀x,G x->x<nE)∧nE<=W)(g:∀r,row=some r->nE<=r∧∃cs a,W.heap[r]? =some (.cells cs 98 a)):(∀x,EG G nE W x->b.heap[x]? =W.heap[x]?)∧∀x,EG G nE W x->EG G nE b x:=by
 have c:∀x,EG G nE W x->b.heap[x]? =W.heap[x]? :=fun x hx=>by
  have i:x<W:=by
   rcases hx with h|h
   have:=a8.1 x h;have:=a8.2;omega;exact h.2.1
  refine d.block x i fun e=>?_
  obtain⟨j,cs,a,f⟩:=g x e.symm;rcases hx with h|h
  have:=a8.1 x h;omega;exact h.2.2 cs a f
 refine⟨c,fun x hx=>?_⟩;rcases hx with h|h
 exact .inl h;refine .inr ⟨h.1,ω1 d.size,fun cs a=>?_⟩;rw[c x (.inr h)];exact h.2.2 cs a
theorem EG.a1{G:Nat->Prop}{nE:Nat}{W a :World}(c:Below W W a)(b:(∀x,G x->x<nE)∧nE<=W):(∀x,EG G nE W x->a.heap[x]? =W.heap[x]?)∧∀x,EG G nE W x->EG G nE a x:=
 EG.same (aT c none) b (fun r h=>by cases h)
theorem EG.fresh{G:Nat->Prop}{nE:Nat}{W:World}{b:Nat}{T:TypeId}{cs:Array Value}(c:aS W b T cs)(f:nE<=b)(g:T≠98):EG G nE W b:=.inr ⟨f,c.lt,fun d h e=>by
 have a:=e.symm.trans c;injection a with a
 injection a with _ a _
 exact g a.symm⟩
structure kS(W:World)(G:Nat->Prop)(nE gj g:Nat)(dv:Value)(vs:List Value)(al:List aQ):Prop where
 own:Own W nE 98 dv vs
 len:vs.length=al
 e5:∀i (h:i<vs.length) (h' :i<al.length),fH W (EG G nE W) gj g vs[i] al[i]
 fns:∀v∈vs,v.oneCell' =true
section
variable{W W' :World}{G:Nat->Prop}{nE gj g:Nat}{dv:Value}{vs:List Value}{al:List aQ}
theorem kS.nil:kS W G nE gj g (.slice none 0 0) [] []:=⟨Own.nil _ _ _,rfl,fun i h=>by simp at h,fun v a=>by cases a⟩
theorem kS.a1(h:kS W G nE gj g dv vs al)(a:Below W W W')(a8:(∀x,G x->x<nE)∧nE<=W):kS W' G nE gj g dv vs al:=by
 obtain⟨b,c⟩:=EG.a1 (G:=G) (nE:=nE) a a8;exact⟨Own.a1 h.own a (lR _),h.len,fun i d e=>((h.e5 i d e).b1 a.size b).mono c,h.fns⟩
theorem kS.push{c:World}{v b :Value}{a:aQ}(h:kS W G nE gj g dv vs al)(m:(∀x,G x->x<nE)∧nE<=W)(p:fH W (EG G nE W) gj g v a)(o:v.oneCell' =true)(d:W.grownBy c dv.ownBlock)(a8:Own c nE 98 b (vs++[v])):kS c G nE gj g b (vs++[v]) (al++[a]):=by
 obtain⟨k,l⟩:=EG.same (G:=G) (nE:=nE) d m (fun r e=>by
  obtain⟨cs,q⟩:=cT h.own e;exact⟨(h.own.lt r e).1,cs,_,q⟩)
 refine⟨a8,by rw[lT,lT,h.len];rfl,fun i j s=>?_,fun x hx=>?_⟩;by_cases f:i<vs;rw[List.getElem_append_left f,List.getElem_append_left (by rw[<-h.len];exact f)];exact((h.e5 i f _).b1 d.size k).mono l;have e:i=vs:=by rw[lT] at j;simp at j;omega
 subst e;have n:(al++[a])[vs.length]=a:=by simp[h.len]
 rw[n];simp only[List.getElem_concat_length];exact(p.b1 d.size k).mono l;rcases mB.1 hx with hx|hx
 exact h.fns x hx;obtain rfl:=lY.1 hx;exact o
end
theorem kS.j9{W c:World}{G:Nat->Prop}{nE gj g:Nat}{dv b :Value}{vs a:List Value}{al bl:List aQ}(h:kS W G nE gj g dv vs al)(l:(∀x,G x->x<nE)∧nE<=W)(m:a.length=bl)(s:∀i (h:i<a.length) (v :i<bl.length),fH W (EG G nE W) gj g a[i] bl[i])(n:∀u∈a,u.oneCell' =true)(d:W.grownBy c dv.ownBlock)(a8:Own c nE 98 b (vs++a)):kS c G nE gj g b (vs++a) (al++bl):=by
 obtain⟨j,k⟩:=EG.same (G:=G) (nE:=nE) d l (fun r e=>by
  obtain⟨cs,t⟩:=cT h.own e;exact⟨(h.own.lt r e).1,cs,_,t⟩)
 refine⟨a8,by rw[lT,lT,h.len,m],fun i o w=>?_,fun x hx=>?_⟩;by_cases f:i<vs;rw[List.getElem_append_left f,List.getElem_append_left (by rw[<-h.len];exact f)];exact((h.e5 i f _).b1 d.size j).mono k;rw[List.getElem_append_right O,List.getElem_append_right (by rw[<-h.len];omega)];have p:i-vs<a:=by rw[lT] at o;omega
 have q:=s (i-vs) p O;have e:i-al=i-vs:=by rw[h.len]
 simp only[e];exact(q.b1 d.size j).mono k;rcases mB.1 hx with hx|hx
 exact h.fns x hx;exact n x hx
structure aT8(w:World)(base g m gj:Nat)(F:Nat->Prop)(d:DkD)(j:bQ)(es:List (Nm×FE)):Prop where
 c8:aV w base g m d.pw d.room es
 fs:bI FE.f es=d.fs
 jn:pU w F gj g j
 apart:∀k,F k->base<=k∧k<w.heap.size∧k≠gj∧¬aI g m es k
 lo:base<=gj
def vK(w:World)(base g m gj:Nat)(es:List (Nm×FE))(F:Nat->Prop)(r:Int×bQ×DkD)(e:Ending)(w' :World):Prop:=
 e=.returned r.1∧∃es' F',aT8 w' base g m gj F' r.2.2 r.2.1 es' ∧Fr (fun k=>aI g m es k∨k=gj) w w' ∧(∀k,aI g m es' k->aI g m es k∨w.heap.size<=k)∧∀k,F' k->F k∨w.heap.size<=k
section
variable{w w' :World}{base g m gj:Nat}{F:Nat->Prop}{d:DkD}{j:bQ}{es:List (Nm×FE)}
theorem pU.b4(h:pU w F gj g j):∃b,aS w gj 53 #[j.c6,j.h7,b,(g,0),j.bad]:=by
 obtain⟨⟨A,c,d,a,_⟩,_⟩:=h;exact⟨_,a⟩
theorem aT8.nj(h:aT8 w base g m gj F d j es):¬aI g m es gj:=by
 obtain⟨b,a⟩:=h.jn.b4;exact h.c8.e3 a δ δ δ
theorem aT8.a1(h:aT8 w base g m gj F d j es)(b:Below w w w'):aT8 w' base g m gj F d j es:=
 ⟨h.c8.a1 b,h.fs,h.jn.a1 (fun k a=>(h.apart k a).2.1) b,fun k a=>by have:=h.apart k a;have:=b.size;exact⟨O,O,O,(h.apart k a).2.2.2⟩,h.lo⟩
theorem aT8.same(h:aT8 w base g m gj F d j es)(b:Below w w w'){r:Int×bQ×DkD}{c:Int}(e:r=(c,j,d)):vK w base g m gj es F r (.returned c) w' :=by
 subst e;exact⟨rfl,es,F,h.a1 b,Fr.b9 _ b,fun k a=>.inl a,fun k a=>.inl a⟩
theorem aT8.j2{a:World}{es2:List (Nm×FE)}{b :DkD}{o :bQ}{F' :Nat->Prop}(h:aT8 w base g m gj F d j es)(a8:Fr (fun k=>aI g m es k∨k=gj) w a)(q:aV a base g m b.pw b.room es2)(u:bI FE.f es2=b.fs)(p:∀k,aI g m es2 k->aI g m es k∨w.heap.size<=k)(s:pU a F' gj g o)(n:∀k,F' k->(F k∨w.heap.size<=k)∧k<a.heap.size∧k≠gj∧¬aI g m es2 k)(v:base<=w){r:Int×bQ×DkD}{c:Int}(t:r=(c,o,b)):vK w base g m gj es F r (.returned c) a:=by
 subst t;refine⟨rfl,es2,F',⟨q,u,s,fun k e=>?_,h.lo⟩,a8,p,fun k e=>(n k e).1⟩;have i:=n k e;refine⟨?_,i.2⟩;rcases i.1 with l|l
 exact(h.apart k l).1;omega
end
theorem pU.turn{w:World}{F:Nat->Prop}{gj g:Nat}{j:bQ}(h:pU w F gj g j):∃d,aS w gj 53 #[j.c6,j.h7,d,(g,0),j.bad]∧
  ∀(w' :World) (t v bad:Int),w.heap.size<=w' ->(∀k,F k->w'.heap[k]? =w.heap[k]?)->aS w' gj 53 #[t,v,d,(g,0),bad]->(I6 t)->(I6 v)->pU w' F gj g ⟨t,v,j.b0,bad⟩:=by
 obtain⟨⟨A,c,e,l,m,n,o,p⟩,q,x⟩:=h;exact⟨_,l,fun w' t v bad b a r s u=>⟨⟨A,c,e,r,m,n.b1 b a,o,fun i h f =>(p i h f).b1 b a⟩,q,⟨s,u⟩⟩⟩
theorem eR.rdG{w:World}{base nE:Nat}{G:Nat->Prop}{A:Option Addr}{n c:Nat}{l:List UInt8}(h:eR w base (.slice A n c) l)(x:nE<=base):dM w (EG G nE w) A (cells l):=fun k=>by
 obtain⟨s,v,r,_,_,p⟩:=h.b3;injection r with e1 _ _
 subst e1;obtain⟨t,e,o,m⟩:=p k;rcases h.row with a|⟨g,z,f,i,b,y,d,_⟩
 injection a with e2 _ _
 rw[e2] at e;cases e;injection b with e2 _ _
 rw[e2] at e;injection e with e
 subst e;refine⟨g,0,e2,EG.fresh d O δ,d.lt,fun j u q=>?_⟩;rw[<-add_lit];exact m j u q
theorem aQ3{d:DkD}{n:Nm}:((d.read n).1.length:Int)<=bC d.fs:=by
 unfold DkD.read;split;exact dD _;split;exact dD _;rename_i f a;exact fR (q:=(n,f)) (bY a)
section
variable{P:Program}{md:Region.Mode}{Q:Exit->Act->World->Prop}{S:World->Prop}{l:List Oper}
theorem qJ(i k:Nat){c:Nat}{b:Array Bool}{a:Act}{w:World}(hi:i<l)(g:k<l)(h:Region.ready md l.toArray b=[i,k])
  (e:∀d :Act->World->Prop,Shut (∀a w,S w->(S w->wpAnyH P md l.toArray Q S c (b.setIfInBounds i true) a w)->d a w)->if Region.wanted l[i] (yielded l.toArray a.tmps)=true then Oper.wp P l[i] a w d Q else d (a.put l[i].dst undef) w)
  (f:∀d :Act->World->Prop,Shut (∀a w,S w->(S w->wpAnyH P md l.toArray Q S c (b.setIfInBounds k true) a w)->d a w)->if Region.wanted l[k] (yielded l.toArray a.tmps)=true then Oper.wp P l[k] a w d Q else d (a.put l[k].dst undef) w):wpAnyH P md l.toArray Q S (c+1) b a w:=
 wpAnyH_ready h σ (AllReadyH.cons (by rw[List.getElem?_toArray,lW hi]) e (AllReadyH.cons (by rw[List.getElem?_toArray,lW g]) f AllReadyH.nil))
end
structure kU(w:World)(F:Nat->Prop)(B b:Nat)(s:aH)(rs:List EntR)(vl ve:Value):Prop where
 b4:aS w b 104 #[s.k,s.a8,s.c6,vl,ve]
 low:B<=b
 c7:w.ownsRow B 65 4 vl rs (aG rs)
 map:rs.map EntR.e=s.l
 h6:∀q∈rs,gQ w F q.v q.e.b
 a7:Own w B 3 ve (s.a7.map (Value.int .i64))
section
variable{w w' :World}{F F' :Nat->Prop}{B b:Nat}{s:aH}{rs:List EntR}{vl ve:Value}
theorem kU.b1(h:kU w F B b s rs vl ve)(j:w.heap.size<=w')(f:∀k,F k->w'.heap[k]? =w.heap[k]?){row:Option Nat}(a:w.grownBy w' row)(c:row≠some b)(g:vl.ownBlock=none∨vl.ownBlock≠row)(d:ve.ownBlock=none∨ve.ownBlock≠row):kU w' F B b s rs vl ve:=
 ⟨h.b4.grown a (fun e=>c e.symm),h.low,World.ownsRow.kept h.c7 a g,h.map,fun q i=>(h.h6 q i).b1 j f,Own.kept h.a7 a d⟩
theorem kU.a1(h:kU w F B b s rs vl ve)(c:∀k,F k->k<w.heap.size)(a:Below w w w'):kU w' F B b s rs vl ve:=
 h.b1 a.size (fun k d=>a.block k (c k d)) (aT a none) σ (by cases vl.ownBlock<;>simp) (by cases ve.ownBlock<;>simp)
theorem kU.mono(h:kU w F B b s rs vl ve)(a:∀k,F k->F' k):kU w F' B b s rs vl ve:=⟨h.b4,h.low,h.c7,h.map,fun q c=>(h.h6 q c).mono a,h.a7⟩
theorem kU.rd(h:kU w F B b s rs vl ve)(r:gU s):jU w (fun k=>F k∨(B<=k∧k<w.heap.size)) (b,0) s:=by
 obtain⟨g,m,o,x,y,_⟩:=aK h.c7;obtain⟨i,n,e,f,z,_⟩:=Own.b3 h.a7;have d:rs.length=s.l:=by rw[<-h.map,lU]
 rw[lU] at f e;subst o e;refine⟨⟨g,m,rs,i,n,fun _=>⟨b,0,rfl,.inr ⟨h.low,h.b4.lt⟩,h.b4.lt,fun j u v=>?_⟩,by rw[<-d];exact x,y,f,z,dM.e8 h.c7 (fun k a c=>.inr ⟨a,c⟩) (by rw[aN];omega),h.map,fun q t=>(h.h6 q t).mono (fun k p=>.inl p),dM.e1 h.a7 (fun k a c=>.inr ⟨a,c⟩)⟩,r⟩;rw[Nat.zero_add];refine fO h.b4 j u ?_;rw[d];exact v
theorem kU.segM(h:kU w F B b s rs vl ve)(d:gU s)(a:s.a7.length=s.l+1)(c:s.l.length<=1099511627776)(f:∀e∈s.l,e.b.length<=65535):iY w (fun k=>F k∨(B<=k∧k<w.heap.size)) (b,0) s:=⟨h.rd d,a,c,f⟩
end
theorem pK{w:World}{B B' :Nat}{e:TypeId}{a n:Nat}{v:Value}{d:List Value}(h:w.ownsRow B e a v n d)(k:B' <=B):w.ownsRow B' e a v n d:=by
 obtain⟨i,c⟩:=h;refine⟨i,?_⟩;rcases c with c|⟨g,b,f,j,l,r⟩
 exact .inl c;exact .inr ⟨g,b,f,j,O,r⟩
theorem aI8{w:World}{F:Nat->Prop}{rs:List EntR}(h:∀q∈rs,gQ w F q.v q.e.b):∀u∈aG rs,u.oneCell' =true:=by
 intro u a;obtain⟨q,d,a⟩:=List.mem_flatMap.1 a;obtain⟨A,c,f,_⟩:=h q d;simp only[dU,List.mem_cons,List.not_mem_nil,or_false] at a;rcases a with rfl|rfl|rfl|rfl
 rfl;rfl;rfl;rw[f];rfl
theorem aW2{w:World}{F:Nat->Prop}{ad:Addr}{s:aH}(h:iY w F ad s)(hF:∀k,F k->k<w.heap.size)(C6:s.l.length<=1000000000)(ix:Int)(C9:0<=ix∧ix<=9223372036854775807):
  Calls Tryz.prog 60 #[.pointer (some ad),ix] w fun e w' =>∃b y vl ve,e=.returned (.pointer (some ⟨b,0,none⟩))∧kU w' F w b (s.ahead ix) y vl ve∧Below w w w' :=by
 obtain⟨b,o,X,N,y,Ae,M,rfl,B6,c,H,A,I,B,L,⟨D,h2,h3,h4⟩,h6,h7,h8,h9⟩:=h.rd.cells;have Q:=h.a7;have C2:=h.len;have B7:=h.rd.num.a8;obtain⟨k,x⟩:=eX (s.e4 ix);have C1:k<=s.l:=by rw[x];exact Nat.min_le_right _ _
 obtain⟨g,R⟩:=eX s.a8;obtain⟨E,i6⟩:=eX s.k;obtain⟨G,j6⟩:=eX s.c6;obtain⟨U,T⟩:=eX s.l.length;obtain⟨ne,m6⟩:=eX s.a7.length;rw[<-R] at A B7;rw[<-i6] at H;rw[<-j6] at I;rw[<-T] at B D C2 Q C1 C6;rw[<-m6] at L h3 Q;have m5:min (max (ix-g) 0) (U:Int)=(k:Int):=by
  rw[x];unfold aH.e4;rw[<-R,<-T];omega
 have D1:IntKind.i64.wrap (ix-g)=ix-g:=mH _ O;have C3:=Q;have q8:((aG y).take (k*4)).length=k*4:=by
  have p7:y=U:=by rw[T,<-h7,lU]
  rw[lV,aN];omega
 have B1:=J (h6.take (k*4));have p6:=h9.take (k+1);have p9:((s.a7.map (Value.int .i64)).take (k+1)).length=k+1:=by rw[lV,lU,<-m6];omega
 have t9:=J p6;have p4:=J q8;have o9:=J p9;have HD:=J h8;have HM:=J h7;have HF:=J hF;have s9:=J (show s.ahead ix=⟨E,g,G,s.l.take k,s.a7.take (k+1)⟩ by rw[x,i6,R,j6];rfl);clear h h6 h7 h8 h9 x R i6 j6 T m6 q8 p6 p9 hF Q B6;go_enter Tryz.func60,Tryz.ntmps60;go_upto_region 1 with fail
 go_cut [5] from 6 to 18 (fun kv wx=>kv=.int .i64 k∧Hq (Below w w wx))
 case first=>
  refine wp_region_held_drew (S:=fun W=>W.cell? ⟨b,o+1,none⟩=some (.int .i64 g)∧W.cell? ⟨b,o+3,none⟩=some (.slice X U N)∧True∧True) κ ⟨A,B,trivial,trivial⟩ (fun a=>?_);refine zT 0 (k:=zT 1 (k:=zT 2 (k:=zT 3 (k:=zT 4 (k:=zT 5 (k:=zT 6 (k:=zT 7 (k:=zT 8 (k:=zT 9 (k:=zT 10 (k:=zT 11 (k:=?_))))))))))));refine zT 12 (k:=zT 13 (k:=?_));simp only[zA,zB,zF,zG,zC,zD,zE];refine wpAnyH_done κ ?_ _;go_wp2;go_meet;refine⟨congrArg (Value.int .i64) ?_,J (lS _ w).drew⟩;rw[<-m5]
  repeat' split
  all_goals omega
 obtain⟨rfl,Y⟩:=hcut;have C5:=Y.o.size;have r:=J Y.o.drew;have m8:w.heap.size<=wc.drew:=C5;have d0:=(r.o.cell (p:=(b,o)) c).trans H;have d1:=(r.o.cell (p:=(b,o+1)) c).trans A;have d2:=(r.o.cell (p:=(b,o+2)) c).trans I;have d3:=(r.o.cell (p:=(b,o+3)) c).trans B;have d4:=(r.o.cell (p:=(b,o+4)) c).trans L;have d:=J (And.intro H (And.intro A (And.intro I (And.intro B L))));have D3:IntKind.i64.wrap ((k:Int)+1)=(k:Int)+1:=mH _ O;have D0:k<=N:=O;have B8:k+1<=M:=O;have B9:(0:Int)<=(k:Int)+1:=O;have C0:(k:Int)+1<=(M:Int):=O;have l9:=J (aI8 HD.o);have m9:=J (vZ X k N _ wc.drew ((B1.o.rd.a1 r.o).more m8) p4.o (fun u hu=>l9.o u (mO hu)) O);clear H A I B L Y;go_upto_region 2 with fail
 refine wp_region_held_drew (S:=fun W=>W.cell? ⟨b,o,none⟩=some (.int .i64 E)∧W.cell? ⟨b,o+1,none⟩=some (.int .i64 g)∧W.cell? ⟨b,o+2,none⟩=some (.int .i64 G)∧W.cell? ⟨b,o+3,none⟩=some (.slice X U N)∧W.cell? ⟨b,o+4,none⟩=some (.slice Ae ne M)∧True) κ ⟨d0,d1,d2,d3,d4,trivial⟩ (fun a=>?_);refine uT 0 (k:=uT 1 (k:=uT 2 (k:=uT 3 (k:=uT 4 (k:=uT 5 (k:=uT 6 (k:=uT 7 (k:=uT 8 (k:=uT 9 (k:=uT 10 (k:=uT 11 (k:=?_))))))))))));refine uT 12 (k:=uT 13 (k:=uT 14 (k:=uT 15 (k:=uT 16 (k:=uT 17 (k:=uT 19 (k:=uT 20 (k:=uT 21 (k:=uT 22 (k:=uT 23 (k:=uT 24 (k:=?_))))))))))));refine uT 25 (k:=?_);simp only[zA,zB,zF,zG,zC,zD,zE];refine zV 18 (k:=fun K j=>?_);simp only[zA,zB];go_simp;refine m9.o.mono ?_;rintro e w6 ⟨vl,rfl,Z,p5⟩;obtain⟨t,v,C7,_⟩:=aK Z;subst C7;have n9:=J Z;have f:=J (r.o.trans (p5.mono m8));have m7:=f.o.size;have e0:=(f.o.cell (p:=(b,o)) c).trans d.o.1;have e1:=(f.o.cell (p:=(b,o+1)) c).trans d.o.2.1;have e2:=(f.o.cell (p:=(b,o+2)) c).trans d.o.2.2.1;have e3:=(f.o.cell (p:=(b,o+3)) c).trans d.o.2.2.2.1;have e4:=(f.o.cell (p:=(b,o+4)) c).trans d.o.2.2.2.2;have n5:=J (aO0 Ae (k+1) M _ w6 ((t9.o.rd.a1 f.o).more m7) (by rw[o9.o];omega) (fun u hu=>by obtain⟨n,_,rfl⟩:=mF.1 (mO hu);rfl) O);clear Z p5 m9 d0 d1 d2 d3 d4;refine j.out _ _ ⟨e0,e1,e2,e3,e4,trivial⟩ (fun a=>?_);clear j K;try simp only[zF,zG,zC,zD,zE]
 refine zV 26 (k:=fun K j=>?_);simp only[zA,zB];go_simp;refine n5.o.mono ?_;rintro e V ⟨ve,rfl,f8,m3⟩;obtain⟨z,C,C8,_⟩:=aK f8;subst C8;have o8:=J f8;have m:=J (f.o.trans (m3.mono m7));have C4:=m.o.size;have j8:=J (World.ownsRow.kept n9.o (aT m3 none) (by cases(Value.slice t k v).ownBlock<;>simp));have f0:=(m.o.cell (p:=(b,o)) c).trans d.o.1;have f1:=(m.o.cell (p:=(b,o+1)) c).trans d.o.2.1;have f2:=(m.o.cell (p:=(b,o+2)) c).trans d.o.2.2.1;have f3:=(m.o.cell (p:=(b,o+3)) c).trans d.o.2.2.2.1;have f4:=(m.o.cell (p:=(b,o+4)) c).trans d.o.2.2.2.2;clear f8 m3 n5 e0 e1 e2 e3 e4 n9 f;refine j.out _ _ ⟨f0,f1,f2,f3,f4,trivial⟩ (fun a=>?_);clear j K;try simp only[zF,zG,zC,zD,zE]
 refine uT 27 (k:=?_);simp only[zA,zB,zF,zG,zC,zD,zE];refine zV 28 (k:=fun K j=>?_);simp only[zA,zB];go_simp;have P:=bA V (.cells #[E,g,G,.slice t k v,.slice z (k+1) C] 104);have n8:=J (aS.new V 104 #[E,g,G,.slice t k v,.slice z (k+1) C]);have i:=J (m.o.trans (P.mono C4));have j9:=J (World.ownsRow.kept j8.o (aT P none) (by cases(Value.slice t k v).ownBlock<;>simp));have l4:=J (World.ownsRow.kept o8.o (aT P none) (by cases(Value.slice z (k+1) C).ownBlock<;>simp));have g0:=(i.o.cell (p:=(b,o)) c).trans d.o.1;have g1:=(i.o.cell (p:=(b,o+1)) c).trans d.o.2.1;have g2:=(i.o.cell (p:=(b,o+2)) c).trans d.o.2.2.1;have g3:=(i.o.cell (p:=(b,o+3)) c).trans d.o.2.2.2.1;have g4:=(i.o.cell (p:=(b,o+4)) c).trans d.o.2.2.2.2;clear P j8 o8 f0 f1 f2 f3 f4;obtain⟨w8,p8⟩:=eX (V.alloc (.cells #[E,g,G,.slice t k v,.slice z (k+1) C] 104));rw[<-p8] at i j9 l4 n8 g0 g1 g2 g3 g4⊢;clear p8;refine j.out _ _ ⟨g0,g1,g2,g3,g4,trivial⟩ (fun a=>?_);clear j K;try simp only[zF,zG,zC,zD,zE]
 refine uT 29 (k:=?_);simp only[zA,zB,zF,zG,zC,zD,zE];refine wpAnyH_done κ ?_ _;clear a g0 g1 g2 g3 g4;go_wp2;go_ret;have p7:(y.take k).length=k:=by
  have D:=p4.o;rw[lF,aN] at D;omega
 refine⟨V,y.take k,.slice t k v,.slice z (k+1) C,rfl,?_,i.o⟩;rw[s9.o];refine⟨n8.o,O,?_,?_,fun q hq=>(HD.o q (mO hq)).b1 i.o.size (fun k x=>i.o.block k (HF.o k x)),?_⟩;rw[p7,<-lF];exact pK j9.o m8;rw[List.map_take,HM.o];have D:=pK l4.o m7;unfold Own;rw[lU,lV,List.map_take];have h2:=o9.o;rw[lV,lU] at h2;rw[h2];exact D
def oS(ix:Int)(s:aH):Option Int:=if 0<=IntKind.i64.wrap (ix-s.a8)∧IntKind.i64.wrap (ix-s.a8)<(s.l:Int) then(s.l[(IntKind.i64.wrap (ix-s.a8)).toNat]?).map cD.tm else none
def uI(j:bQ)(ix:Int):Option Int:=if j.base.1=ix then some j.base.2 else j.b0.findSome? (oS ix)
theorem bT8{j:bQ}{ix:Int}(h:∀s∈j.b0,0<=s.a8∧s.a8<=9223372036854775806)(c:-1<=ix)(d:ix<=9223372036854775807):uI j ix=jC j ix:=by
 unfold uI jC;split;rfl;have:∀l:List aH,(∀s∈l,0<=s.a8∧s.a8<=9223372036854775806)->l.findSome? (oS ix)=l.findSome? fun s=>if 0<=ix-s.a8∧ix-s.a8<(s.l:Int) then(s.l[(ix-s.a8).toNat]?).map cD.tm else none:=by
  intro l;induction l with
  |nil=>intro _;rfl
  |cons s r ih=>
   intro h;have e:=h s (List.mem_cons_self ..);have b:IntKind.i64.wrap (ix-s.a8)=ix-s.a8:=mH _ O;rw[List.findSome?_cons,List.findSome?_cons,ih (fun t a=>h t (List.mem_cons_of_mem _ a))];unfold oS;rw[b]
 exact this _ h
theorem bH6{w:World}{F:Nat->Prop}{gj g:Nat}{j:bQ}(h:pU w F gj g j)(hF:∀k,F k->k<w.heap.size)(ix:Int)(C5:I6 ix):
  Calls Tryz.prog 72 #[(gj,0),ix] w fun e w' =>e=.returned (.tuple #[.int .i64 ((uI j ix).getD 0),.bool (uI j ix).isSome])∧Below w w w' :=by
 have L:=J h.base;obtain⟨ba,U⟩:=eX (j.base.1);obtain⟨bt,V⟩:=eX (j.base.2);obtain⟨R,Q⟩:=eX (uI j ix);have n9:R=if ba=ix then some bt else j.b0.findSome? (oS ix):=by rw[Q,U,V];rfl
 rw[<-Q];rw[<-U,<-V] at L;have E:=J n9;have C0:=h.lt;obtain⟨⟨A,c,B7,N,h2,h3,P,h5⟩,h6,_⟩:=h;have HJ:=J N;have B1:=J h3;have B6:=J h5;have HF:=J hF;obtain⟨K,H⟩:=eX j.b0.length;rw[<-H] at h2 P h6;have u:w.cell? (gj,2)=some (.slice A K c):=by rw[H];exact N.cell 2
 have n8:=J H;have l6:=J P;have t9:=J u;clear N h3 P h5 hF H U V Q n9 u;go_enter Tryz.func72,Tryz.ntmps72;go_wp2_with fail;refine L.o.mono ?_;rintro e w1 ⟨rfl,T⟩;have n5:=J T;have u:=(T.cell (p:=(gj,2)) C0).trans t9.o;clear T L;by_cases a:ba=ix
 ·have z:R=some bt:=by rw[E.o,if_pos a]
  have B9:=beq_iff_eq.2 a;subst z;clear a E u;go_wp2;go_ret2;exact⟨rfl,n5.o⟩
 have B9:=mN.2 a;have y:=J (show R=j.b0.findSome? (oS ix) by rw[E.o,if_neg a]);clear a E;go_wp2_with fail;go_loopw [25,9,10] (fun i _ _ wr=>∃k:Nat,k<=K∧i=.int .i64 k∧Hq (R=(j.b0.drop k).findSome? (oS ix))∧Hq (Below w w wr)) (fun i _ _ _=>K-(intOf i).toNat)
 case atStart=>exact⟨0,O,rfl,J y.o,n5⟩
 obtain⟨k,hk,rfl,n,d⟩:=hrel;clear u;by_cases x:k<K;rotate_left
 ·have z:R=none:=by
   rw[n.o,List.drop_eq_nil_of_le (by rw[<-n8.o];omega)];rfl
  subst z;clear y n;go_wp2;go_ret2;exact⟨rfl,d.o⟩
 have p7:k<j.b0:=by rw[<-n8.o];exact x
 have p6:k<B7:=by rw[l6.o];exact x
 have d8:=fun q hq=>d.o.block q (HF.o q hq)
 obtain⟨ab,ao,rfl,_,C3,o9⟩:=(B1.o.b1 d.o.size d8) (by rw[lU];omega);have C:=(B6.o k p6 p7).b1 d.o.size d8;obtain⟨b,o,Al,cl,B,Ae,ce,o8,B8,C1,d0,d1,d2,d3,_,⟨k1,k2,_⟩,p9,Z,_,_⟩:=C.rd.cells;have e0:wr.cell? (ab,ao+k)=some (.pointer (b,o)):=o9 k _ (by rw[List.getElem?_map,lW p6,o8];rfl);have p4:=List.drop_eq_getElem_cons p7;have M:R=(oS ix j.b0[k]).or ((j.b0.drop (k+1)).findSome? (oS ix)):=by
  rw[n.o,p4,List.findSome?_cons];cases oS ix j.b0[k]<;>rfl
 have p8:=C.len;have p5:=C.rd.num.a8;obtain⟨s,hs⟩:=eX (j.b0[k]);rw[<-hs] at d1 d3 M Z p8 p5 k1;obtain⟨fi,W⟩:=eX s.a8;obtain⟨f,X⟩:=eX (IntKind.i64.wrap (ix-fi));obtain⟨sl,I⟩:=eX s.l.length;rw[<-W] at d1;rw[<-I] at d3 p8 k1;have s9:oS ix s=if 0<=f∧f<(sl:Int) then(s.l[f.toNat]?).map cD.tm else none:=by unfold oS;rw[<-W,<-X,<-I]
 have r:=J M;have t:=J s9;have D:=J p9;have v:=J Z;have G:=J I;have C6:=X.symm;clear o9 C o8 p4 M hs W X I s9 p9 Z d0 d2 B8 p5;by_cases h0:0<=f;rotate_left
 ·have S:=J (show R=(j.b0.drop (k+1)).findSome? (oS ix) by rw[r.o,t.o,if_neg (fun h=>h0 h.1)];rfl)
  clear r t D v G y n;go_wp2;go_roundw
  case rel=>exact⟨k+1,O,by go_num,S,d⟩
  case measure=>simp[intOf];omega
 by_cases hl:f<(sl:Int)
 ·obtain⟨m,rfl⟩:∃m:Nat,f=(m:Int):=⟨f.toNat,O⟩
  have C2:B=sl:=by rw[G.o,<-v.o,lU]
  obtain⟨eb,eo,rfl,_,C4,hc⟩:=D.o (by rw[aN];omega);have Y:m<B:=O;have e1:wr.cell? (eb,eo+m*4+1)=some (.int .i64 B[m].e.tm):=hc (m*4+1) _ (by rw[bM _ Y O];rfl);have q8:s.l[m]? =some B[m].e:=by rw[<-v.o,List.getElem?_map,lW Y];rfl
  obtain⟨tm,m9⟩:=eX (B[m].e.tm);rw[<-m9] at e1;have z:R=some tm:=by
   rw[r.o,t.o,if_pos ⟨h0,hl⟩];simp only[Int.toNat_natCast,q8,Option.map_some,m9,Option.some_or]
  subst z;clear r t D v G hc m9 q8 y n C2 Y;go_wp2;go_ret2;exact⟨rfl,d.o⟩
 have S:=J (show R=(j.b0.drop (k+1)).findSome? (oS ix) by rw[r.o,t.o,if_neg (fun h=>hl h.2)];rfl);clear r t D v G y n;go_wp2;go_roundw
 case rel=>exact⟨k+1,O,by go_num,S,d⟩
 case measure=>simp[intOf];omega
structure lD(w:World)(G:Nat)(s:aH)(rs:List EntR)(vl ve:Value)(lo:Int)(em tn:Bool):Prop where
 b4:aS w G 139 #[s.k,s.a8,s.c6,vl,ve,lo,.bool em,.bool tn]
 c7:w.ownsRow (G+1) 65 4 vl rs (aG rs)
 map:rs.map EntR.e=s.l
 h6:∀q∈rs,jV w (G+1) q.v q.e.b
 a7:Own w (G+1) 3 ve (s.a7.map (Value.int .i64))
section
variable{w w' :World}{G:Nat}{s:aH}{rs:List EntR}{vl ve:Value}{lo:Int}{em tn:Bool}
theorem lD.new(h:lD w G s rs vl ve lo em tn)(a:Below w w w'):lD w' G s rs vl ve lo em tn:=
 ⟨h.b4.a1 a h.b4.lt,World.ownsRow.kept h.c7 (aT a none) (by cases vl.ownBlock<;>simp),h.map,fun q b=>(h.h6 q b).b1 fun k c=>a.block k ((h.h6 q b).lt k c).2,Own.a1 h.a7 a (lR _)⟩
theorem lD.l6(h:lD w G s rs vl ve lo em tn)(a:w.grownBy w' (some G)){f t:Int}(d:aS w' G 139 #[s.k,f,t,vl,ve,lo,.bool em,.bool tn]):lD w' G {s with a8:=f,c6:=t} rs vl ve lo em tn:=
 ⟨d,World.ownsRow.kept h.c7 a (by
  cases hv:vl.ownBlock with
  |none=>exact .inl rfl
  |some q=>exact .inr fun e=>by injection e with e;have:=(mL h.c7 q hv).1;omega),h.map,fun q b=>(h.h6 q b).b1 fun k c=>a.block k ((h.h6 q b).lt k c).2 (fun e=>by injection e with e;have:=((h.h6 q b).lt k c).1;omega),Own.j5 h.a7 a O⟩
theorem lD.push{c:World}{a :Value}{q:EntR}(h:lD w G s rs vl ve lo em tn)(y:jV w (G+1) q.v q.e.b)(p:c.ownsRow (G+1) 65 4 a (rs.length+1) (aG rs++dU q))(m:w.grownBy c vl.ownBlock):
  lD (c.setCell (G,3) a) G {s with l:=s.l++[q.e]} (rs++[q]) a ve lo em tn:=by
 have r:∀k,vl.ownBlock=some k->G<k:=fun k i=>ω1 ((mL h.c7 k i).1)
 have n:∀(v:Value) (l:List UInt8),jV w (G+1) v l->jV (c.setCell (G,3) a) (G+1) v l:=fun v l j=>j.b1 fun k i=>by
  have t:=j.lt k i;rw[Below.heap_setCell c ⟨G,3,none⟩ a k (by show k≠G;omega)];refine m.block k t.2 fun e=>?_
  obtain⟨g,cs,A,f,u⟩:=j.held;rw[i] at f;injection f with f
  subst f;obtain⟨B,d⟩:=cT h.c7 e.symm;rw[u] at d;injection d with d
  injection d with _ h _
  exact absurd h δ
 have o:=aA c G 3 a;have z:aS c G 139 _:=h.b4.grown m (fun e=>ω1 (r G e.symm));refine⟨aS.b8 z 3 _,?_,by rw[mE,h.map];rfl,fun x hx=>?_,Own.j5 (Own.kept h.a7 m (jrow_type_ne h.a7 h.c7 δ)) o O⟩;rw[eG,lT];have:c.ownsRow (G+1) 65 4 a (rs.length+[q].length) (aG rs++aG [q]):=by simpa[aG] using p
 exact World.ownsRow.kept this o (by
  cases hv:a.ownBlock with
  |none=>exact .inl rfl
  |some k=>exact .inr fun e=>by injection e with e;have:=(mL this k hv).1;omega)
 rcases mB.1 hx with hx|hx
 exact n _ _ (h.h6 x hx);obtain rfl:=lY.1 hx;exact n _ _ y
end
theorem lD.setR{w:World}{G:Nat}{s:aH}{rs:List EntR}{b f:Value}{lo:Int}{c tn:Bool}(h:lD w G s rs b f lo c tn)(g i:Nat)(u:Value)(j:g<G):lD (w.setCell (g,i) u) G s rs b f lo c tn:=
 ⟨h.b4.j5 (by show G≠g;omega) u,World.ownsRow.kept h.c7 (aA w g i u) (by
  cases hv:b.ownBlock with
  |none=>exact .inl rfl
  |some q=>exact .inr fun e=>by injection e with e;have:=(mL h.c7 q hv).1;omega),h.map,fun q a=>(h.h6 q a).b1 fun k d=>(aA w g i u).block k ((h.h6 q a).lt k d).2 (fun e=>by injection e with e;have:=((h.h6 q a).lt k d).1;omega),Own.j5 h.a7 (aA w g i u) O⟩
theorem lD.k8{w c:World}{G:Nat}{s:aH}{rs:List EntR}{n m b :Value}{lo:Int}{o tn:Bool}{a:Int}(h:lD w G s rs n m lo o tn)(u:Own c (G+1) 3 b (s.a7.map (Value.int .i64)++[.int .i64 a]))(j:w.grownBy c m.ownBlock):
  lD (c.setCell (G,4) b) G {s with a7:=s.a7++[a]} rs n b lo o tn:=by
 have v:∀k,m.ownBlock=some k->G<k:=fun k i=>ω1 ((Own.lt h.a7 k i).1)
 have r:=aA c G 4 b;have z:aS c G 139 _:=h.b4.grown j (fun e=>ω1 (v G e.symm));have t:Own c (G+1) 3 b ((s.a7++[a]).map (Value.int .i64)):=by simpa using u
 have p:=World.ownsRow.kept h.c7 j (jrow_type_ne h.c7 h.a7 δ);refine⟨aS.b8 z 4 _,World.ownsRow.kept p r (by
  cases hv:n.ownBlock with
  |none=>exact .inl rfl
  |some k=>exact .inr fun e=>by injection e with e;have:=(mL p k hv).1;omega),h.map,fun q l=>(h.h6 q l).b1 fun k i=>?_,Own.j5 t r O⟩
 have x:=(h.h6 q l).lt k i;rw[Below.heap_setCell c ⟨G,4,none⟩ b k (by show k≠G;omega)];refine j.block k x.2 fun e=>?_
 obtain⟨g,cs,A,f,y⟩:=(h.h6 q l).held;rw[i] at f;injection f with f
 subst f;obtain⟨B,d⟩:=cT h.a7 e.symm;rw[y] at d;injection d with d
 injection d with _ h _
 exact absurd h δ
theorem aD2{w1 k b:World}{G:Nat}{s:aH}{rs:List EntR}{o f d:Value}{lo:Int}{m tn:Bool}{a:Int}(c:lD k G s rs o f lo m tn)(r:Below G w1 k)(a8:Own b (G+1) 3 d (s.a7.map (Value.int .i64)++[.int .i64 a]))(i:k.grownBy b f.ownBlock):
  ∃g h,d=.slice g (s.a7.length+1) h∧b.cell? (G,4)=some f∧b.frozen? (G,4)=false∧lD (b.setCell (G,4) d) G {s with a7:=s.a7++[a]} rs o d lo m tn∧Below G w1 (b.setCell (G,4) d):=by
 have p:f.ownBlock≠some G:=fun e=>ω1 ((Own.lt c.a7 G e).1)
 have q:=c.b4.lt;have u:=i.block G q (fun e=>p e.symm);have l:aS b G 139 _:=Eq.trans u c.b4;obtain⟨g,h,n,_,_,_⟩:=Own.b3 a8;rw[lT,lU] at n;exact⟨g,h,n,l.cell 4,l.a6 _,c.k8 a8 i,dV (r.grown i O (fun j t=>ω1 ((Own.lt c.a7 j t).1))) G 4 _ (lR _)⟩
structure bV2(k:Int)(b:List UInt8)(i:Nat)(s:aH)(a:Int):Prop where
 rd:aI0 k b i s a
 ix:0<i->s.b7.1=s.a8+i-2
theorem bV2.start(k:Int)(b:List UInt8):bV2 k b 0 ⟨k,0,0,[],[]⟩ 0:=⟨aI0.start k b,fun h=>O⟩
section
variable{k:Int}{b:List UInt8}{i:Nat}{s:aH}{a:Int}
theorem bV2.head{p:List UInt8}{f t:Int}(h:bV2 k b 0 s a)(d:(cL b).1[0]? =some p)(c:p.length<=1048576)(e:gF p=some (f,t)):bV2 k b 1 ⟨k,f,t,[],[((cM p).length:Int)]⟩ ((cM p).length:Int):=
 ⟨h.rd.head d c e,fun _=>by show f-1=f+((1:Nat):Int)-2;omega⟩
theorem bV2.entry{p:List UInt8}{q:cD}(h:bV2 k b i s a)(hi:0<i)(f:(cL b).1[i]? =some p)(c:p.length<=1048576)(d:dE p s.b7.1=some q):
  bV2 k b (i+1) {s with l:=s.l++[q],a7:=s.a7++[a+(cM p).length]} (a+(cM p).length):=
 ⟨h.rd.entry hi f c d,fun _=>by
  have g:=xE d;have j:=h.ix hi;have e:aH.b7 {s with l:=s.l++[q],a7:=s.a7++[a+(cM p).length]}=(q.ix,q.tm):=by unfold aH.b7;simp
  rw[e];show q.ix=s.a8+((i+1:Nat):Int)-2
  omega⟩
end
theorem bA6{p:List UInt8}{a:Int}(h:bL-1<=a):dE p a=none:=by
 have b:dE p a=dE p ((a+1)-1):=by rw[show a+1-1=a by omega]
 rw[b,aH2];split;rfl;split;rfl;rw[if_pos (.inr (.inr O))]
theorem tB{w:World}{R:Nat}{T:TypeId}{y o n m k j g e:Value}(h:aS w R T #[y,o,n,m,k,j,g,e])(a b c d f i c6 l:Value):
  aS ((((((((w.setCell (R,0) a).setCell (R,1) b).setCell (R,2) c).setCell (R,3) d).setCell (R,4) f).setCell (R,5) i).setCell (R,6) c6).setCell (R,7) l) R T #[a,b,c,d,f,i,c6,l]:=by
 have p:aS _ R T #[a,o,n,m,k,j,g,e]:=h.b8 0 a;have q:aS _ R T #[a,b,n,m,k,j,g,e]:=p.b8 1 b;have r:aS _ R T #[a,b,c,m,k,j,g,e]:=q.b8 2 c;have s:aS _ R T #[a,b,c,d,k,j,g,e]:=r.b8 3 d;have t:aS _ R T #[a,b,c,d,f,j,g,e]:=s.b8 4 f;have u:aS _ R T #[a,b,c,d,f,i,g,e]:=t.b8 5 i;have v:aS _ R T #[a,b,c,d,f,i,c6,e]:=u.b8 6 c6;have x:aS _ R T #[a,b,c,d,f,i,c6,l]:=v.b8 7 l;exact x
theorem fN{w:World}{g:Nat}{t:TypeId}{a b c d e f c6 i:Value}(h:aS w g t #[a,b,c,d,e,f,c6,i]):w.cell? (g,0)=some a∧w.cell? (g,1)=some b∧w.cell? (g,2)=some c∧w.cell? (g,3)=some d∧w.cell? (g,4)=some e∧w.cell? (g,5)=some f∧w.cell? (g,6)=some c6∧w.cell? (g,7)=some i:=
 ⟨h.cell 0,h.cell 1,h.cell 2,h.cell 3,h.cell 4,h.cell 5,h.cell 6,h.cell 7⟩
theorem nO{j:Func}(h:j.results=#[.cell 4 139,.tmp 5])(tmps:Array Value)(W:World)(g:Nat)(a b c d e f c6 i:Value)(t:tmps[4]?.getD undef=.pointer (g,0))(s:aS W g 139 #[a,b,c,d,e,f,c6,i]):
  (results j tmps).run Tryz.prog W=.ok (.tuple #[.agg #[a,b,c,d,e,f,c6,i],tmps.getD 5 undef]) W:=by
 obtain⟨k,l,m,n,o,p,q,r⟩:=fN s;simp[results,h,go_sem,t,k,l,m,n,o,p,q,r]
theorem bI9{w1 g a:World}{G:Nat}{s:aH}{rs:List EntR}{f o d:Value}{lo:Int}{n tn:Bool}{q:EntR}(c:lD g G s rs f o lo n tn)(u:Below G w1 g)(x:jV g (G+1) q.v q.e.b)(a8:a.ownsRow (G+1) 65 4 d (rs.length+1) (aG rs++dU q))(k:g.grownBy a f.ownBlock):
  ∃h i,d=.slice h (rs.length+1) i∧a.cell? (G,3)=some f∧a.frozen? (G,3)=false∧lD (a.setCell (G,3) d) G {s with l:=s.l++[q.e]} (rs++[q]) d o lo n tn∧Below G w1 (a.setCell (G,3) d):=by
 have p:f.ownBlock≠some G:=fun e=>ω1 ((mL c.c7 G e).1)
 have r:=c.b4.lt;have y:=k.block G r (fun e=>p e.symm);have m:aS a G 139 _:=Eq.trans y c.b4;obtain⟨h,i,t,_⟩:=aK a8;exact⟨h,i,t,m.cell 3,m.a6 _,c.push x a8 k,dV (u.grown k O (fun j w=>ω1 ((mL c.c7 j w).1))) G 3 _ (lR _)⟩
def jW(o:Option cD)(a0 a1 a2:Int)(v:Value)(ok:Bool)(w:World)(B:Nat):Prop:=match o with
 |none=>ok=false
 |some q=>ok=true∧a0=q.ix∧a1=q.tm∧a2=q.kd∧jV w B v q.b
theorem jW.b1{o:Option cD}{a b c:Int}{v:Value}{d:Bool}{w w' :World}{B:Nat}(h:jW o a b c v d w B)(e:∀x,B<=x->x<w.heap.size->w'.heap[x]? =w.heap[x]?):jW o a b c v d w' B:=by
 cases o with
 |none=>exact h
 |some q=>exact⟨h.1,h.2.1,h.2.2.1,h.2.2.2.1,h.2.2.2.2.b1 fun x hx=>e x (h.2.2.2.2.lt x hx).1 (h.2.2.2.2.lt x hx).2⟩
theorem jW.keepRow{o:Option cD}{c d f:Int}{v:Value}{i:Bool}{w w' :World}{B j:Nat}{cs:Array Value}(h:jW o c d f v i w B)(m:w.grownBy w' (some j))(k:aS w j 65 cs):jW o c d f v i w' B:=by
 cases o with
 |none=>exact h
 |some q=>
  refine⟨h.1,h.2.1,h.2.2.1,h.2.2.2.1,h.2.2.2.2.b1 fun x hx=>m.block x (h.2.2.2.2.lt x hx).2 (fun e=>?_)⟩;injection e with e
  subst e;obtain⟨g,n,p,b,l⟩:=h.2.2.2.2.held;rw[hx] at b;injection b with b
  subst b;have a:=l.symm.trans k;injection a with a
  injection a with _ a _
  exact absurd a δ
theorem jW.mono{o:Option cD}{a b c:Int}{v:Value}{d:Bool}{w:World}{B B' :Nat}(h:jW o a b c v d w B)(e:B' <=B):jW o a b c v d w B' :=by
 cases o with
 |none=>exact h
 |some q=>exact⟨h.1,h.2.1,h.2.2.1,h.2.2.2.1,h.2.2.2.2.mono e⟩
theorem aY6(A:Option Addr)(p:List UInt8)(c:Nat)(w:World)(t:Rd w w A (cells p))(n:p<=c)(s:p.length<=140737488351232)(r:c<=9223372036854775807)(ix:Int)(a8:I6 ix):
  Calls Tryz.prog 168 #[.slice A p c,ix] w fun e a =>∃(d f i:Int) (b:Option Addr) (l j:Nat) (m:Bool),e=.returned (.tuple #[.agg #[d,f,i,.slice b l j],.bool m])∧Below w w a ∧jW (dE p (ix-1)) d f i (.slice b l j) m a w:=by
 refine(aQ7 A p c w t n s r ix a8).mono fun e a ⟨hb,h⟩=>?_
 cases ht:dE p (ix-1) with
 |none=>
  rw[ht] at h;exact⟨_,_,_,_,_,_,_,h,hb,rfl⟩
 |some q=>
  rw[ht] at h;obtain⟨v,o,k⟩:=h;obtain⟨g,u,cs,x,rfl,_⟩:=id k;exact⟨_,_,_,_,_,_,_,o,hb,rfl,rfl,rfl,rfl,k⟩
theorem aZ2(k:Int)(hk:I6 k)(A:Option Addr)(b:List UInt8)(c:Nat)(w:World)(X:Rd w w A (cells b))(P7:b<=c)(hb:b.length<=1000000000)(hc:c<=9223372036854775807):
  Calls Tryz.prog 137 #[k,.slice A b c] w fun e w' =>Below w w w' ∧∃v,e=.returned (.tuple #[v,.bool (cH k b).isSome])∧(∃(E F a3:Int),∃Al nl cl Ae ne ce,∃(lo:Int),∃Z tn,v=.agg #[E,F,a3,.slice Al nl cl,.slice Ae ne ce,lo,.bool Z,.bool tn])∧
   ∀s D,cH k b=some (s,D)->∃G P vl ve,w.heap.size<=G∧lD w' G s P vl ve (cL b).2.1 (decide ((cL b).1.length=0)) D∧v=.agg #[s.k,s.a8,s.c6,vl,ve,.int .i64 (cL b).2.1,.bool (decide ((cL b).1.length=0)),.bool D]∧s.k=k∧(0<=s.a8∧s.a8<=9223372036854775806)∧-1<=s.b7.1∧s.l.length<=b∧s.a7.length<=b:=by
 obtain⟨wR,D5⟩:=eX (w.alloc (.cells #[.int .i64 0,.int .i64 0,.int .i64 0,.slice none 0 0,.slice none 0 0,.int .i64 0,.bool false,.bool false] 139));have C7:=bN D5;have G0:=kN D5;have O9:=J D5;have K6:=J (bJ5 A b b c rfl wR ((X.a1 C7).more C7.size) P7 O);have K0:=J G0;have K5:=J C7;have L6:=G0.lt;clear C7 G0 X D5;go_enter Tryz.func137,Tryz.ntmps137;go_upto_region 1 with fail
 rw[<-O9.o];go_wp2_with fail;refine K6.o.mono ?_;rintro e w1 ⟨v,xs,rfl,hg,G3⟩;obtain⟨A1,c1,hv,R6,R7,Q4⟩:=Own.b3 hg.own;subst hv;have E9:=K0.o.a1 G3 L6;have K9:=K5.o.trans (G3.mono O);obtain⟨er,I0⟩:=eX ((cL b).2.2);obtain⟨lo,I7⟩:=eX ((cL b).2.1);have O1:=J I0;have O3:=J I7;rw[<-I0,<-I7];have L5:=E9.lt;clear I0 I7 K6 K0 K5;have l4:=J hg;have J9:=J E9;have C1:=J K9;clear hg E9 K9 G3;go_upto_region 3 with(fail)
 obtain⟨G,hG⟩:=eX w1.heap.size;obtain⟨tn,J2⟩:=eX ((er !=0));obtain⟨Z,G9⟩:=eX (((xs:Int)==0));have B8:Z=decide ((cL b).1.length=0):=by
  rw[G9,l4.o.len];by_cases h:(cL b).1.length=0;rw[h];rfl;rw[decide_eq_false h];exact mN.2 O
 rw[<-J2,<-G9];obtain⟨wG,D4⟩:=eX (w1.alloc (.cells #[k,.int .i64 0,.int .i64 0,.slice none 0 0,.slice none 0 0,lo,.bool Z,.bool tn] 139));have L7:lD wG G ⟨k,0,0,[],[]⟩ [] (.slice none 0 0) (.slice none 0 0) lo Z tn:=by
  rw[hG,D4];exact⟨aS.new w1 _ _,World.ownsRow_nil _ _ _ _,rfl,(fun q hq=>by cases hq),Own.nil _ _ _⟩
 have L1:Below G w1 wG:=by
  rw[hG,D4];exact(lS _ w1).alloc (lR _) _
 rw[<-D4,<-hG];have O7:=J L7;have N7:=J L1;have O8:=J J2;have O0:=J B8;have HG:=J hG;have n8:=J L5;obtain⟨M1,q8⟩:=oP b;have N6:xs.length<=1000000000:=by rw[l4.o.len];omega
 clear L7 L1 J2 G9 B8 hG L6 L5 Q4 D4;go_wp2_with fail;go_loopw [10,11,12,13,14,15,16,17,18] (fun at_ ix _ _ _ _ _ _ _ wr=>∃(i:Nat) (a:Int) (s:aH) (P:List EntR) (vl ve:Value),i<=xs∧ix=.int .i64 i∧at_=.int .i64 a∧Hq (bV2 k b i s a)∧Hq (P.length=s.l)∧Hq (lD wr G s P vl ve lo Z tn)∧Hq (Below G w1 wr)) (fun _ ix _ _ _ _ _ _ _ _=>xs.length-(intOf ix).toNat)
 case atStart=>exact⟨0,0,_,[],_,_,O,rfl,rfl,J (bV2.start k b),J rfl,O7,N7⟩
 obtain⟨i,a,s,P,vl,ve,hi,rfl,rfl,N,D9,M,HB⟩:=hrel;have Q1:=M.o.b4.lt;by_cases hlt:i<xs;rotate_left
 ·obtain rfl:i=xs:=O
  have hD:=N.o.rd.done l4.o.len;obtain⟨Al,cl,J3,_⟩:=aK M.o.c7;obtain⟨Ae,ce,C0,_,_,_⟩:=Own.b3 M.o.a7;rw[lU] at C0;subst J3 C0;have H:=J (J9.o.a1 HB.o (by rw[HG.o];exact n8.o));have N4:tn=decide ((cL b).2.2≠0):=by rw[O8.o,O1.o];by_cases h:(cL b).2.2=0<;>simp[h,bne]
  rw[<-N4] at hD;have hz:(cH k b).isSome=true:=by rw[hD];rfl
  have HZ:=J hz;have HD:=J hD;clear hz hD N4;have g0:=M.o.b4.c 0;have g1:=M.o.b4.c 1;have g2:=M.o.b4.c 2;have g3:=M.o.b4.c 3;have g4:=M.o.b4.c 4;have g5:=M.o.b4.c 5;have g6:=M.o.b4.c 6;have g7:=M.o.b4.c 7;have r0:=H.o.c 0;have r1:=H.o.c 1;have r2:=H.o.c 2;have r3:=H.o.c 3;have r4:=H.o.c 4;have r5:=H.o.c 5;have r6:=H.o.c 6;have r7:=H.o.c 7;have z0:wr.frozen? (w,0)=false:=H.o.a6 _;have z1:wr.frozen? (w,1)=false:=H.o.a6 _;have z2:wr.frozen? (w,2)=false:=H.o.a6 _;have z3:wr.frozen? (w,3)=false:=H.o.a6 _;have z4:wr.frozen? (w,4)=false:=H.o.a6 _;have z5:wr.frozen? (w,5)=false:=H.o.a6 _;have z6:wr.frozen? (w,6)=false:=H.o.a6 _;have z7:wr.frozen? (w,7)=false:=H.o.a6 _;go_wp2_with fail
  (try simp only[Exit.inBlock,Exit.then])
  refine bodyPost_ret (v:=.tuple #[.agg #[s.k,s.a8,s.c6,.slice Al P cl,.slice Ae s.a7 ce,lo,.bool Z,.bool tn],.bool true]) ((nO rfl _ _ w _ _ _ _ _ _ _ _ rfl (tB H.o _ _ _ _ _ _ _ _)).trans rfl) rfl ?_;have R3:=HG.o;have R4:=n8.o;have m5:=C1.o.trans (HB.o.mono O);have Q7:=M.o;have P2:=O0.o;have P3:=O3.o;refine⟨?_,_,by rw[HZ.o],⟨_,_,_,_,_,_,_,_,_,_,_,_,rfl⟩,fun s' torn' h=>?_⟩
  ·iterate 8 (refine dV ?_ _ _ _ (lR _))
   exact m5
  rw[HD.o] at h;injection h with h
  injection h with e1 e2
  subst e1 e2;rw[<-P2,<-P3];refine⟨G,P,_,_,O,?_,rfl,N.o.rd.key,N.o.rd.a8,N.o.rd.b7,by have:=N.o.rd.len.2;rw[l4.o.len] at this;omega,by have:=N.o.rd.len.1;rw[l4.o.len] at this;omega⟩
  iterate 8 (refine lD.setR ?_ _ _ _ O)
  exact Q7
 have m9:i<(cL b).1.length:=by rw[<-l4.o.len];exact hlt
 have B1:=Rd.at_ (fF.rd l4.o) hlt;obtain⟨C6,P4,M0,C8⟩:=B1;subst P4;have hp:=(l4.o.e9 i hlt m9).b3;obtain⟨Ap,cp,hv,I8,B7,M9⟩:=hp;rw[hv] at C8;have D7:=J C8;have B6:=(mK (w:=w1) (HB.o.block _ (by rw[bK,HG.o];exact M0))).trans C8;have D1:=q8 _ (lX m9);have I9:=lW m9;have D0:Rd w1 G Ap (cells ((cL b).1[i])):=by rw[HG.o];exact M9
 have n5:=D0.a1 HB.o;generalize(cL b).1[i]=p at D0 I8 D1 I9 n5 B6 D7;have p6:=J I9;have O4:=J D0;have O5:=J n5;clear I9 n5 C8 hv M9 D0;have Q3:(i:Int)<(xs:Int):=O;obtain⟨Al,cl,J3,_⟩:=aK M.o.c7;obtain⟨Ae,ce,C0,_,_,_⟩:=Own.b3 M.o.a7;rw[lU] at C0;subst J3 C0;have E8:=pM Ap p p cp rfl wr (O5.o.more O) O;obtain⟨R2,t9⟩:=eX (sA p);rw[<-t9] at E8;have J6:=J E8;clear t9 E8;go_wp2_with fail;refine J6.o.mono ?_;rintro e w3 ⟨v3,rfl,M6,G4⟩;obtain⟨A3,c3,Q8,_,_,_⟩:=bF M6;subst Q8;have G2:=M.o.new G4;have L0:=HB.o.trans (G4.mono O);have M4:=dF D1;obtain⟨j8,m7⟩:=eX ((cM p).length);have p5:=J m7;rw[<-m7] at M4⊢;have P5:=N.o.rd.at_;have hw:IntKind.i64.wrap (a+(j8:Int))=a+(j8:Int):=mH _ O;have E6:=J G2;have J4:=J L0;have I2:=G2.b4.lt;have B9:=Nat.le_of_eq N.o.rd.len.1;clear J6 M6 G4 G2 L0 m7;go_upto_region 9 with fail
 have g4:=E6.o.b4.c 4;have n9:=J (E6.o.new ((lS _ w3).alloc (lR _) (.cells [Value.int .i64 (a+(j8:Int))].toArray 3)));have C2:=J (J4.o.trans (((lS _ w3).alloc (lR _) (.cells [Value.int .i64 (a+(j8:Int))].toArray 3)).mono O));have p8:=J (cS w3 3 [Value.int .i64 (a+(j8:Int))]);have J0:=((lS _ w3).alloc (lR _) (.cells [Value.int .i64 (a+(j8:Int))].toArray 3)).size;go_upto_region 10 with(at_builtin;go_must (refine aP rfl (.tmp 52) (.tmp 54) 41 rfl (G+1) 3 (.int .i64 0) 8 Tryz.underlying41 kX rfl _ _ rfl n9.o.a7 (w3.heap.size+1) (some ⟨w3.heap.size,0,none⟩) 1 1 [.int .i64 (a+(j8:Int))] rfl rfl p8.o (by simp[Value.oneCell']) (by unfold maxLen;simp<;>omega) (by simp<;>omega) O ?_;intro v4 w4 l5 M7 P8;obtain⟨A4,c4,Q9,q4,y4,L3,M2⟩:=aD2 n9.o C2.o l5 M7;subst Q9;have C5:=J (And.intro L3 M2);clear l5 M7 P8 L3 M2))
 clear q4 y4 g4 n9 C2 p8 J0;generalize(w4.setCell (G,4) (.slice A4 (s.a7.length+1) c4))=w5 at C5⊢;have y:=J C5.o.1;have l7:=J C5.o.2;have I3:=y.o.b4.lt;have C4:=J ((mK (w:=w1) (l7.o.block _ (by rw[bK,HG.o];exact M0))).trans D7.o);have p7:=J (O4.o.a1 l7.o);clear C5 B6 E6 J4 I2 M HB Q1;have d:=J (J9.o.a1 l7.o (by rw[HG.o];exact n8.o));by_cases hi0:i=0
 ·subst hi0
  obtain⟨rfl,rfl⟩:=N.o.rd.zero rfl;have G8:=(show C6.add 0=C6 by simp[Addr.add])▸C4.o;have I4:=aY7 Ap p cp w5 (p7.o.more O) I8 O B7;have J1:=aC9 p;obtain⟨f,hf⟩:=eX ((lB p).1);obtain⟨t,ht⟩:=eX ((lB p).2.1);obtain⟨V,o8⟩:=eX ((lB p).2.2);rw[<-hf,<-ht,<-o8] at I4 J1;have J8:=J I4;have K7:=J J1;clear I4 J1 hf ht o8;go_wp2_with fail;refine J8.o.mono ?_;rintro e w6 ⟨rfl,rfl⟩;clear J8 G8;cases V with
  |false=>
   have HN:=J (aI0.headBad (k:=k) p6.o (K7.o.trans (if_neg δ)));have HZ:=J (show(cH k b).isSome=false by rw[HN.o];rfl);have g0:=y.o.b4.c 0;have g1:=y.o.b4.c 1;have g2:=y.o.b4.c 2;have g3:=y.o.b4.c 3;have g4:=y.o.b4.c 4;have g5:=y.o.b4.c 5;have g6:=y.o.b4.c 6;have g7:=y.o.b4.c 7;have r0:=d.o.c 0;have r1:=d.o.c 1;have r2:=d.o.c 2;have r3:=d.o.c 3;have r4:=d.o.c 4;have r5:=d.o.c 5;have r6:=d.o.c 6;have r7:=d.o.c 7;have z0:w5.frozen? (w,0)=false:=d.o.a6 _;have z1:w5.frozen? (w,1)=false:=d.o.a6 _;have z2:w5.frozen? (w,2)=false:=d.o.a6 _;have z3:w5.frozen? (w,3)=false:=d.o.a6 _;have z4:w5.frozen? (w,4)=false:=d.o.a6 _;have z5:w5.frozen? (w,5)=false:=d.o.a6 _;have z6:w5.frozen? (w,6)=false:=d.o.a6 _;have z7:w5.frozen? (w,7)=false:=d.o.a6 _;go_wp2_with fail
   (try simp only[Exit.inBlock,Exit.then])
   refine bodyPost_ret (v:=.tuple #[.agg #[k,.int .i64 0,.int .i64 0,.slice Al P cl,.slice A4 1 c4,lo,.bool Z,.bool tn],.bool false]) ((nO rfl _ _ w _ _ _ _ _ _ _ _ rfl (tB d.o _ _ _ _ _ _ _ _)).trans rfl) rfl ?_;refine⟨?_,_,by rw[HZ.o],⟨_,_,_,_,_,_,_,_,_,_,_,_,rfl⟩,fun s D h=>by rw[HN.o] at h;cases h⟩;have m5:=C1.o.trans (l7.o.mono (ω2 HG.o n8.o))
   iterate 8 (refine dV ?_ _ _ _ (lR _))
   exact m5
  |true=>
   have N3:=K7.o.trans (if_pos rfl);have E5:=J (N.o.head p6.o D1 N3);have g1:=y.o.b4.c 1;have g2:=y.o.b4.c 2;have y1:w5.frozen? (G,1)=false:=y.o.b4.a6 _;have y2:w5.frozen? (G,2)=false:=y.o.b4.a6 _;have I1:w5.grownBy ((w5.setCell (G,1) f).setCell (G,2) t) (some G):=aF (aA w5 G 1 _) (aA _ G 2 _) (.inl rfl);have O6:=J (y.o.l6 I1 (f:=f) (t:=t) ((y.o.b4.b8 1 f).b8 2 t));have l8:=J (l7.o.grown I1 O (fun r X=>by injection X with X;omega));clear I1 N3;go_wp2;go_roundw
   case rel=>exact⟨1,(j8:Int),_,P,_,_,O,rfl,rfl,J (by have h:=E5.o;rw[<-p5.o] at h;rw[Int.zero_add,List.nil_append];exact h),J D9.o,J O6.o,J l8.o⟩
   case measure=>simp[intOf];omega
 have C9:0<i:=O;have R5:((i:Int)==0)=false:=mN.2 O;have I5:=N.o.ix C9;have Q0:=N.o.rd.a8;have g1:=y.o.b4.c 1;have S1:IntKind.i64.wrap (9223372036854775807-(i:Int))=9223372036854775807-(i:Int):=mH _ O;by_cases U:9223372036854775807-(i:Int)<s.a8
 ·have HN:=J (N.o.rd.k4 C9 p6.o (bA6 (by unfold bL;omega)))
  have HZ:=J (show(cH k b).isSome=false by rw[HN.o];rfl);have P6:decide (s.a8>9223372036854775807-(i:Int))=true:=decide_eq_true U;clear g1 U I5 Q0;have g0:=y.o.b4.c 0;have g1:=y.o.b4.c 1;have g2:=y.o.b4.c 2;have g3:=y.o.b4.c 3;have g4:=y.o.b4.c 4;have g5:=y.o.b4.c 5;have g6:=y.o.b4.c 6;have g7:=y.o.b4.c 7;have r0:=d.o.c 0;have r1:=d.o.c 1;have r2:=d.o.c 2;have r3:=d.o.c 3;have r4:=d.o.c 4;have r5:=d.o.c 5;have r6:=d.o.c 6;have r7:=d.o.c 7;have z0:w5.frozen? (w,0)=false:=d.o.a6 _;have z1:w5.frozen? (w,1)=false:=d.o.a6 _;have z2:w5.frozen? (w,2)=false:=d.o.a6 _;have z3:w5.frozen? (w,3)=false:=d.o.a6 _;have z4:w5.frozen? (w,4)=false:=d.o.a6 _;have z5:w5.frozen? (w,5)=false:=d.o.a6 _;have z6:w5.frozen? (w,6)=false:=d.o.a6 _;have z7:w5.frozen? (w,7)=false:=d.o.a6 _;go_wp2_with fail
  (try simp only[Exit.inBlock,Exit.then])
  refine bodyPost_ret (v:=.tuple #[.agg #[s.k,s.a8,s.c6,.slice Al P cl,.slice A4 (s.a7.length+1) c4,lo,.bool Z,.bool tn],.bool false]) ((nO rfl _ _ w _ _ _ _ _ _ _ _ rfl (tB d.o _ _ _ _ _ _ _ _)).trans rfl) rfl ?_;refine⟨?_,_,by rw[HZ.o],⟨_,_,_,_,_,_,_,_,_,_,_,_,rfl⟩,fun s D h=>by rw[HN.o] at h;cases h⟩;have m5:=C1.o.trans (l7.o.mono (ω2 HG.o n8.o))
  iterate 8 (refine dV ?_ _ _ _ (lR _))
  exact m5
 have P6:decide (s.a8>9223372036854775807-(i:Int))=false:=decide_eq_false U;have O2:=J I5;have N2:s.a8+(i:Int)<=9223372036854775807:=O;have E7:=J N2;clear U I5 N2;obtain⟨R,hR⟩:=eX (dE p s.b7.1);have D8:=J hR;clear hR;go_upto_region 18 with fail
 go_cut [17,18] from 80 to 92 (fun c17 c18 wx=>∃(g:Nat) (Q E F:Int) (z:Option Addr) (C B:Nat) (V:Bool),c17=.pointer (g,0)∧c18=.bool V∧w5<=g∧Hq (Below w5 w5 wx)∧Hq (aS wx g 65 #[Q,E,F,.slice z C B])∧Hq (jW R Q E F (.slice z C B) V wx w5))
 case first=>
  have HE:Hq (∀W,Below w5 w5 W->Calls Tryz.prog 168 #[.slice Ap p cp,.int .i64 (s.a8+(i:Int)-1)] W fun e w' =>∃(Q E F:Int) (z:Option Addr) (C B:Nat) (V:Bool),e=.returned (.tuple #[.agg #[Q,E,F,.slice z C B],.bool V])∧Below W W w' ∧jW R Q E F (.slice z C B) V w' W):=J (fun W hW=>by
   rw[D8.o,show s.b7.1=s.a8+(i:Int)-1-1 by have:=O2.o;omega];exact aY6 Ap p cp W (((p7.o.more (by omega:G<=w5)).a1 hW).more hW.size) I8 O B7 _ (ω1 E7.o))
  have R9:IntKind.i64.wrap (s.a8+(i:Int))=s.a8+(i:Int):=mH _ (ω1 E7.o);have S0:IntKind.i64.wrap (s.a8+(i:Int)-1)=s.a8+(i:Int)-1:=mH _ (ω1 E7.o);have m3:Hq (∀W,Below w5 w5 W->W.cell? (C6.add i)=some (.slice Ap p cp)∧W.cell? (G,1)=some (.int .i64 s.a8)∧True∧True):=J (fun W hW=>⟨(hW.cell (mI _ _ C4.o)).trans C4.o,(hW.cell (p:=(G,1)) I3).trans (y.o.b4.cell 1),trivial,trivial⟩);have C3:Hq (Below w5 w5 w5.drew):=J (lS _ w5).drew;clear g1 hw M4 P5 B9;refine wp_region_held_drew (S:=fun W=>W.cell? (C6.add i)=some (.slice Ap p cp)∧W.cell? ⟨G,1,none⟩=some (.int .i64 s.a8)∧True∧True) κ (m3.o _ C3.o) (fun m=>?_);refine zT 0 (k:=zT 1 (k:=zT 2 (k:=zT 3 (k:=zT 4 (k:=zT 5 (k:=zT 6 (k:=zT 7 (k:=zT 8 (k:=?_)))))))));simp only[zA,zB,zF,zG,zC,zD,zE];refine qJ 9 13 (by simp) (by simp) (by kernel_rfl) (fun K L=>?_) (fun K L=>?_)
  ·simp only[zA,zB]
   go_simp;refine(HE.o _ C3.o).mono ?_;rintro e w6 ⟨Q,E,F,z,C,B,V,rfl,G5,g8⟩;have Q6:w5.heap.size<=w6:=G5.size;have J5:=J (C3.o.trans G5);have K4:Hq (jW R Q E F (.slice z C B) V w6 w5):=J g8;clear G5 g8;refine L _ _ (m3.o _ J5.o) (fun m=>?_);clear L K;try simp only[zF,zG,zC,zD,zE]
   refine zT 10 (k:=zT 11 (k:=zT 12 (k:=?_)));simp only[zA,zB,zF,zG,zC,zD,zE];refine zV 13 (k:=fun K L=>?_);simp only[zA,zB];go_simp;have n:=aS.new w6 65 #[.int .i64 0,.int .i64 0,.int .i64 0,.slice none 0 0];have m6:=bA w6 (.cells #[.int .i64 0,.int .i64 0,.int .i64 0,.slice none 0 0] 65);obtain⟨T,N5⟩:=eX (w6.alloc (.cells #[.int .i64 0,.int .i64 0,.int .i64 0,.slice none 0 0] 65));rw[<-N5] at n m6⊢;obtain⟨g,o9⟩:=eX w6.heap.size;rw[<-o9] at n⊢;have N6:=n.lt;have l8:=J (J5.o.trans (m6.mono Q6));have l9:=J (K4.o.b1 (fun x h1 h2=>m6.block x h2));have j9:w5<=g:=O;have f0:=n.c 0;have f1:=n.c 1;have f2:=n.c 2;have f3:=n.c 3;have z0:T.frozen? (g,0)=false:=n.a6 _;have z1:T.frozen? (g,1)=false:=n.a6 _;have z2:T.frozen? (g,2)=false:=n.a6 _;have z3:T.frozen? (g,3)=false:=n.a6 _;have p9:=(((n.b8 0 Q).b8 1 E).b8 2 F).b8 3 (.slice z C B);have m8:T.grownBy ((((T.setCell (g,0) Q).setCell (g,1) E).setCell (g,2) F).setCell (g,3) (.slice z C B)) (some g):=aF (aF (aF (aA T g 0 _) (aA _ g 1 _) (.inl rfl)) (aA _ g 2 _) (.inl rfl)) (aA _ g 3 _) (.inl rfl);have j6:=J p9;have i6:=J (l8.o.grown m8 O (fun r X=>by injection X with X;omega));have f9:=J (l9.o.keepRow m8 n);clear n p9 m8 K4 m6 N5 o9;refine L _ _ (m3.o _ l8.o) (fun m=>?_);clear L K;try simp only[zF,zG,zC,zD,zE]
   refine zV 14 (k:=fun K L=>?_);simp only[zA,zB];go_simp;refine L _ _ (m3.o _ i6.o) (fun m=>?_);clear L K f0 f1 f2 f3 z0 z1 z2 z3;try simp only[zF,zG,zC,zD,zE]
   refine zT 15 (k:=?_);simp only[zA,zB,zF,zG,zC,zD,zE];refine wpAnyH_done κ ?_ _;clear m;go_wp2;go_meet;exact⟨g,Q,E,F,z,C,B,V,rfl,rfl,j9,i6,j6,f9⟩
  simp only[zA,zB];go_simp;have L8:aS (w5.drew.alloc (.cells #[.int .i64 0,.int .i64 0,.int .i64 0,.slice none 0 0] 65)) w5 65 #[.int .i64 0,.int .i64 0,.int .i64 0,.slice none 0 0]:=aS.new w5.drew _ _;have m6:Below w5 w5 (w5.drew.alloc (.cells #[.int .i64 0,.int .i64 0,.int .i64 0,.slice none 0 0] 65)):=C3.o.alloc (lR _) _;obtain⟨wA,D3⟩:=eX ((w5.alloc (.cells #[.int .i64 0,.int .i64 0,.int .i64 0,.slice none 0 0] 65)).drew);have L9:aS wA w5 65 #[.int .i64 0,.int .i64 0,.int .i64 0,.slice none 0 0]:=by rw[D3];exact L8
  have G7:Below w5 w5 wA:=by rw[D3];exact m6
  clear L8 m6;rw[<-D3];have D6:=J G7;have K8:=J L9;have N0:=G7.size;clear D3 G7 L9;refine L _ _ (m3.o _ D6.o) (fun m=>?_);clear L K;try simp only[zF,zG,zC,zD,zE]
  refine zV 9 (k:=fun K L=>?_);simp only[zA,zB];go_simp;refine(HE.o _ D6.o).mono ?_;rintro e T ⟨Q,E,F,z,C,B,V,rfl,G6,g8⟩;have l8:=J (D6.o.trans (G6.mono N0));have l9:=J (g8.mono N0);have n:=K8.o.a1 G6 K8.o.lt;clear G6 g8;refine L.out _ _ (m3.o _ l8.o) (fun m=>?_);clear L K;try simp only[zF,zG,zC,zD,zE]
  refine zT 10 (k:=zT 11 (k:=zT 12 (k:=?_)));simp only[zA,zB,zF,zG,zC,zD,zE];obtain⟨g,o9⟩:=eX w5.heap.size;have j9:w5<=g:=O;rw[<-o9] at n;have N6:=n.lt;have f0:=n.c 0;have f1:=n.c 1;have f2:=n.c 2;have f3:=n.c 3;have z0:T.frozen? (g,0)=false:=n.a6 _;have z1:T.frozen? (g,1)=false:=n.a6 _;have z2:T.frozen? (g,2)=false:=n.a6 _;have z3:T.frozen? (g,3)=false:=n.a6 _;have p9:=(((n.b8 0 Q).b8 1 E).b8 2 F).b8 3 (.slice z C B);have m8:T.grownBy ((((T.setCell (g,0) Q).setCell (g,1) E).setCell (g,2) F).setCell (g,3) (.slice z C B)) (some g):=aF (aF (aF (aA T g 0 _) (aA _ g 1 _) (.inl rfl)) (aA _ g 2 _) (.inl rfl)) (aA _ g 3 _) (.inl rfl);have j6:=J p9;have i6:=J (l8.o.grown m8 O (fun r X=>by injection X with X;omega));have f9:=J (l9.o.keepRow m8 n);clear n p9 m8;rw[<-o9];clear o9;refine zV 14 (k:=fun K L=>?_);simp only[zA,zB];go_simp;refine L _ _ (m3.o _ i6.o) (fun m=>?_);clear L K f0 f1 f2 f3 z0 z1 z2 z3;try simp only[zF,zG,zC,zD,zE]
  refine zT 15 (k:=?_);simp only[zA,zB,zF,zG,zC,zD,zE];refine wpAnyH_done κ ?_ _;clear m;go_wp2;go_meet;exact⟨g,Q,E,F,z,C,B,V,rfl,rfl,j9,i6,j6,f9⟩
 obtain⟨g,Q,E,F,z,C,B,V,P0,P1,j9,i6,j6,f9⟩:=hcut;subst P0 P1;have Y:=J (y.o.new i6.o);have p4:=J (l7.o.trans (i6.o.mono O));have I:=J (d.o.a1 i6.o d.o.lt);have Q2:=Y.o.b4.lt;clear y d g1 D7 C4;cases R with
 |none=>
  have o8:V=false:=f9.o;subst o8;have HN:=J (N.o.rd.k4 C9 p6.o D8.o.symm);have HZ:=J (show(cH k b).isSome=false by rw[HN.o];rfl);clear f9;have g0:=Y.o.b4.c 0;have g1:=Y.o.b4.c 1;have g2:=Y.o.b4.c 2;have g3:=Y.o.b4.c 3;have g4:=Y.o.b4.c 4;have g5:=Y.o.b4.c 5;have g6:=Y.o.b4.c 6;have g7:=Y.o.b4.c 7;have r0:=I.o.c 0;have r1:=I.o.c 1;have r2:=I.o.c 2;have r3:=I.o.c 3;have r4:=I.o.c 4;have r5:=I.o.c 5;have r6:=I.o.c 6;have r7:=I.o.c 7;have z0:wc.frozen? (w,0)=false:=I.o.a6 _;have z1:wc.frozen? (w,1)=false:=I.o.a6 _;have z2:wc.frozen? (w,2)=false:=I.o.a6 _;have z3:wc.frozen? (w,3)=false:=I.o.a6 _;have z4:wc.frozen? (w,4)=false:=I.o.a6 _;have z5:wc.frozen? (w,5)=false:=I.o.a6 _;have z6:wc.frozen? (w,6)=false:=I.o.a6 _;have z7:wc.frozen? (w,7)=false:=I.o.a6 _;go_wp2_with fail
  (try simp only[Exit.inBlock,Exit.then])
  refine bodyPost_ret (v:=.tuple #[.agg #[s.k,s.a8,s.c6,.slice Al P cl,.slice A4 (s.a7.length+1) c4,lo,.bool Z,.bool tn],.bool false]) ((nO rfl _ _ w _ _ _ _ _ _ _ _ rfl (tB I.o _ _ _ _ _ _ _ _)).trans rfl) rfl ?_;refine⟨?_,_,by rw[HZ.o],⟨_,_,_,_,_,_,_,_,_,_,_,_,rfl⟩,fun s D h=>by rw[HN.o] at h;cases h⟩;have m5:=C1.o.trans (p4.o.mono (ω2 HG.o n8.o))
  iterate 8 (refine dV ?_ _ _ _ (lR _))
  exact m5
 |some q=>
  obtain⟨o8,e0,e1,e2,M5⟩:=f9.o;subst o8 e0 e1 e2;have J7:=J M5;have E5:=J (N.o.entry C9 p6.o D1 D8.o.symm);clear f9 M5;obtain⟨qx,qt,qk,qb⟩:=q;have x0:=j6.o.c 0;have x1:=j6.o.c 1;have x2:=j6.o.c 2;have x3:=j6.o.c 3;have g3:=Y.o.b4.c 3;have s9:=bA wc (.cells #[qx,qt,qk,.slice z C B] 65);have n9:=J (Y.o.new s9);have C2:=J (p4.o.trans (s9.mono O));have N9:=J ((J7.o.b1 (fun x hx=>s9.block x (J7.o.lt x hx).2)).mono (by omega:G+1<=w5));have L2:∀j u,[Value.int .i64 qx,Value.int .i64 qt,Value.int .i64 qk,Value.slice z C B][j]? =some u->(wc.alloc (.cells #[qx,qt,qk,.slice z C B] 65)).cell? (((wc,0):Addr).add j)=some u:=by
   obtain⟨ad,e1,_,h2⟩:=cS wc 65 [Value.int .i64 qx,Value.int .i64 qt,Value.int .i64 qk,Value.slice z C B] σ;injection e1 with e1
   subst e1;exact h2
  have N8:=J L2;have R8:=s9.size;have Q5:P.length<=1000000000:=by have h1:=D9.o;have h2:=N.o.rd.len.2;omega
  clear s9 L2 j6;go_wp2_with (at_builtin;go_must (refine dZ rfl (.tmp 97) (.tmp 99) 40 rfl (G+1) 65 (.agg #[.int .i64 0,.int .i64 0,.int .i64 0,.slice none 0 0]) 4 48 Tryz.underlying40 dW rfl δ _ P.length (aG P) rfl n9.o.c7 ⟨wc.heap.size,0,none⟩ 1 1 [Value.int .i64 qx,Value.int .i64 qt,Value.int .i64 qk,Value.slice z C B] rfl rfl N8.o (by simp[Value.oneCell']) (by unfold maxLen;omega) O O ?_;intro v9 w9 l6 M8 P9;obtain⟨A9,c9,R1,q9,y9,L4,M3⟩:=bI9 (q:=⟨.slice z C B,⟨qx,qt,qk,qb⟩⟩) n9.o C2.o N9.o l6 M8;subst R1;have K3:=J (And.intro L4 M3);clear l6 M8 P9 L4 M3));go_roundw
  case rel=>exact⟨i+1,a+(j8:Int),_,P++[⟨.slice z C B,⟨qx,qt,qk,qb⟩⟩],_,_,O,by go_num,rfl,J (by have h:=E5.o;rw[<-p5.o] at h;exact h),J (by show(P++[_]).length=(s.l++[_]).length;rw[lT,lT,D9.o];rfl),J K3.o.1,J K3.o.2⟩
  case measure=>simp[intOf];omega
structure RqR where
 s:aH
 tn:Bool
 lo:Int
 em:Bool
 al:Option Addr
 cl:Nat
 ae:Option Addr
 ce:Nat
 rs:List EntR
def RqR.vl(q:RqR):Value:=.slice q.al q.rs q.cl
def RqR.ve(q:RqR):Value:=.slice q.ae q.s.a7 q.ce
def RqR.o(q:RqR):aH×Bool:=(q.s,q.tn)
instance:Inhabited RqR:=⟨⟨⟨0,0,0,[],[]⟩,false,0,false,none,0,none,0,[]⟩⟩
def gZ(q:RqR):List Value:=[q.s.k,q.s.a8,q.s.c6,q.vl,q.ve,q.lo,.bool q.em,.bool q.tn]
def aY(l:List RqR):List Value:=l.flatMap gZ
theorem bS(l:List RqR):(aY l).length=l*8:=by
 induction l with
 |nil=>rfl
 |cons x r ih=>unfold aY at ih⊢;rw[List.flatMap_cons,lT,ih,mC];simp[gZ];omega
theorem eL(a b:List RqR):aY (a++b)=aY a++aY b:=by unfold aY;rw[List.flatMap_append]
theorem dY(l:List RqR){k:Nat}(a:k<l){j:Nat}(b:j<8):(aY l)[k*8+j]? =(gZ l[k])[j]? :=by
 induction l generalizing k with
 |nil=>simp at a
 |cons x r ih=>
  unfold aY at ih⊢;rw[List.flatMap_cons];cases k with
  |zero=>rw[List.getElem?_append_left (by simp[gZ];omega)];simp
  |succ k=>
   rw[List.getElem?_append_right (by simp[gZ];omega)];have:(k+1)*8+j-(gZ x).length=k*8+j:=by simp[gZ];omega
   rw[this,ih (by simpa using a)];rfl
theorem kY(l:List RqR):∀u∈aY l,u.oneCell' =true:=by
 intro u a;obtain⟨q,_,hx⟩:=List.mem_flatMap.1 a;unfold gZ at hx;simp only[List.mem_cons,List.not_mem_nil,or_false] at hx;rcases hx with rfl|rfl|rfl|rfl|rfl|rfl|rfl|rfl<;>rfl
theorem uA(l:List RqR)(n:Nat):(aY l).take (n*8)=aY (l.take n):=by
 induction l generalizing n with
 |nil=>simp[aY]
 |cons x r ih=>
  cases n with
  |zero=>simp[aY]
  |succ n=>
   unfold aY at ih⊢;rw[List.flatMap_cons,List.take_succ_cons,List.flatMap_cons,<-ih n];have a:(gZ x).length=8:=rfl;rw[List.take_append,a,List.take_of_length_le O,show(n+1)*8-8=n*8 by omega]
theorem pN(l:List RqR)(n:Nat):(aY l).drop (n*8)=aY (l.drop n):=by
 induction l generalizing n with
 |nil=>simp[aY]
 |cons x r ih=>
  cases n with
  |zero=>simp[aY]
  |succ n=>
   unfold aY at ih⊢;rw[List.flatMap_cons,List.drop_succ_cons,<-ih n];have a:(gZ x).length=8:=rfl;rw[List.drop_append,a,List.drop_of_length_le O,show(n+1)*8-8=n*8 by omega,List.nil_append]
theorem dX:(Tryz.prog.info? 139).map (fun i=>(i.zero,i.size,i.bytes))=some (some (.agg #[.int .i64 0,.int .i64 0,.int .i64 0,.slice none 0 0,.slice none 0 0,.int .i64 0,.bool false,.bool false]),8,88):=by kernel_rfl
structure rQ(w:World)(B:Nat)(q:RqR):Prop where
 c7:w.ownsRow B 65 4 q.vl q.rs (aG q.rs)
 map:q.rs.map EntR.e=q.s.l
 h6:∀x∈q.rs,jV w B x.v x.e.b
 a7:Own w B 3 q.ve (q.s.a7.map (Value.int .i64))
section
variable{w w' :World}{B:Nat}{q:RqR}
theorem rQ.a1(h:rQ w B q)(a:Below w w w'):rQ w' B q:=
 ⟨World.ownsRow.kept h.c7 (aT a none) (by cases q.vl.ownBlock<;>simp),h.map,fun x hx=>(h.h6 x hx).b1 fun k b=>a.block k ((h.h6 x hx).lt k b).2,Own.a1 h.a7 a (lR _)⟩
theorem rQ.mono(h:rQ w B q){B' :Nat}(a:B' <=B):rQ w B' q:=⟨jH h.c7 a,h.map,fun x hx=>(h.h6 x hx).mono a,Own.mono h.a7 a⟩
theorem rQ.of_rg{G:Nat}{s:aH}{rs:List EntR}{b a:Option Addr}{d c:Nat}{lo:Int}{e tn:Bool}(h:lD w G s rs (.slice b rs d) (.slice a s.a7 c) lo e tn):rQ w (G+1) ⟨s,tn,lo,e,b,d,a,c,rs⟩:=⟨h.c7,h.map,h.h6,h.a7⟩
end
def pS(l:List RqR)(at_:Nat)(q:RqR):List RqR:=l.take at_++[q]++l.drop at_
theorem rqIns_perm(l:List RqR)(n:Nat)(q:RqR):(pS l n q).Perm (l++[q]):=by
 unfold pS;rw[List.append_assoc];refine(List.Perm.append_left _ (List.perm_append_comm (l₁:=[q]) (l₂:=l.drop n))).trans ?_;rw[<-List.append_assoc,List.take_append_drop]
theorem aK8{l:List RqR}{n:Nat}{q:RqR}(b:l.Pairwise fun x y=>x.s.k<=y.s.k)(o:n<=l)(e:∀j (h:j<n),(l[j]'O).s.k<q.s.k)(f:∀h:n<l,q.s.k<=l[n].s.k):(pS l n q).Pairwise fun x y=>x.s.k<=y.s.k:=by
 have d:∀x∈l.take n,x.s.k<q.s.k:=fun x hx=>by
  obtain⟨j,a,rfl⟩:=List.getElem_of_mem hx;rw[lV] at a;rw[List.getElem_take];exact e j O
 have m:∀x∈l.drop n,q.s.k<=x.s.k:=fun x hx=>by
  obtain⟨j,a,rfl⟩:=List.getElem_of_mem hx;rw[lZ] at a;rw[List.getElem_drop];have g:=f O;cases j with
  |zero=>exact g
  |succ j=>
   have:=List.pairwise_iff_getElem.1 b n (n+(j+1)) O O O;omega
 unfold pS;refine List.pairwise_append.2 ⟨List.pairwise_append.2 ⟨b.sublist (List.take_sublist _ _),List.pairwise_singleton _ _,fun x hx y c=>?_⟩,b.sublist (List.drop_sublist _ _),fun x hx y c=>?_⟩;obtain rfl:=lY.1 c;have:=d x hx;omega;have i:=m y c;rcases mB.1 hx with hx|hx
 have:=d x hx;omega;obtain rfl:=lY.1 hx;exact i
theorem aG5(l:List RqR)(n:Nat)(q:RqR):(pS l n q).length=l+1:=by
 unfold pS;simp only[lT,lV,lZ,mC,List.length_nil];omega
theorem rqIns_mem{l:List RqR}{n:Nat}{q x:RqR}(h:x∈pS l n q):x∈l∨x=q:=by
 have:=(rqIns_perm l n q).mem_iff.1 h;rcases mB.1 this with h|h
 exact .inl h;exact .inr (lY.1 h)
def aR7(l:List RqR)(j:Nat)(h:j<l):Prop:=(∀h0:0<j,l[j].s.k=(l[j-1]'O).s.k+1)∧(j+1<l->l[j].tn=false∧l[j].em=false)
theorem bJ7(l:List RqR)(a8:∀q∈l,q.em=q.s.a7.isEmpty):eT (l.map RqR.o)=true↔∀j h,aR7 l j h:=by
 rw[sH];have d:∀j (h:j<l.length),l[j].em=false↔l[j].s.a7≠[]:=fun j h=>by
  rw[a8 _ (lX h)];simp
 constructor;intro h j b;refine⟨fun g=>?_,fun a=>?_⟩;have:=h (j-1) (by rw[lU];omega);simp only[List.getElem_map] at this;have e:j-1+1=j:=O;simp only[e] at this;have f:=this.1;simp only[RqR.o] at f;omega;have:=h j (by rw[lU];exact a);simp only[List.getElem_map] at this;exact⟨this.2.1,(d j b).2 this.2.2⟩;intro h j b;rw[lU] at b;simp only[List.getElem_map];have a:=(h (j+1) O).1 O;have c:=(h j O).2 O;refine⟨?_,c.1,(d j O).1 c.2⟩;simp only[Nat.add_sub_cancel] at a;simp only[RqR.o];omega
def rV(l:List (List UInt8)):Nat:=(l.map fun p=>(cM p).length).sum
theorem aG4(b:List UInt8):∀f a,a<=b.length->(jR b f a).2.1=a+rV (jR b f a).1
 |0,a,_=>by simp[jR,rV]
 |f+1,a,ha=>by
  unfold jR;split;simp[rV];rename_i j;split;rotate_left;simp[rV];rename_i d;have c:=kH d;have e:(cM (bO (b.drop a)).1).length=(bO (b.drop a)).2.1:=by
   have g:=congrArg List.length c.2.2.2;rw[lV] at g;unfold cM;rw[if_neg O];omega
  have h:=c.2.2.1;rw[lZ] at h;have i:=aG4 b f (a+(bO (b.drop a)).2.1) O;simp only;rw[i];unfold rV;rw[mG,List.sum_cons,e];omega
theorem bJ2(b:List UInt8):(cL b).2.1=rV (cL b).1:=by
 have:=aG4 b (b.length+1) 0 (Nat.zero_le _);unfold cL;omega
theorem rX:∀(b:List (List UInt8)) (a:Int) (s c :aH),gB b a s=some c ->s.a7.getLast?=some a->c.a7.getLast?=some (a+rV b)
 |[],a,s,c,h,hs=>by
  injection h with h
  subst h;rw[hs];simp[rV]
 |p::r,a,s,c,h,hs=>by
  unfold gB at h;split at h;cases h;have:=rX r _ _ _ h σ;rw[this];unfold rV;rw[mG,List.sum_cons]
  congr 1
  omega
theorem tX{k:Int}{b:List UInt8}{s:aH}{t:Bool}(h:cH k b=some (s,t)):((cL b).2.1:Int)=s.b2∧decide ((cL b).1.length=0)=s.a7.isEmpty:=by
 have d:=bJ2 b;unfold cH at h;unfold aH.b2;split at h;rename_i c;injection h with h
 injection h with h _
 subst h;rw[d,c];exact⟨rfl,rfl⟩;rename_i p r c;split at h;cases h;rename_i f m l;obtain⟨j,g,e⟩:=Option.map_eq_some_iff.1 h;injection e with e _
 subst e;have a:=rX r _ _ _ g rfl;rw[d,c];have i:j.a7≠[]:=fun e=>by rw[e] at a;cases a
 refine⟨?_,?_⟩;rw[List.getLastD_eq_getLast?,a];unfold rV;rw[mG,List.sum_cons];show _=((cM p).length:Int)+_
 omega;simp[i]
theorem aA4{P:Program}{e:TypeId}{i:TypeInfo}{n:Nat}(hi:P.info? e=some i)(a:i.size=n)(w:World):(sizeOf e).run P w=.ok n w:=by
 simp[sizeOf,typeInfo,hi,a]
theorem nQ{P:Program}{T e:TypeId}{z:Value}{c a:Nat}(d:P.underlying T=some (.slice e))(a8:(P.info? e).map (fun i=>(i.zero,i.size,i.bytes))=some (some z,c,a))(A:Option Addr)(b cap hi:Nat)(m:hi<=cap)(X:Int)(h:X=(hi:Int))(w:World):
  (Instr.slice T (.slice A b cap) none (some (.int .i64 X)) none).run P w=.ok (.slice A hi cap) w:=by
 obtain⟨i,g,n,f,l⟩:=info_parts a8;subst h;rw[run_slice_h w T A b cap (by rw[d];simp[Program.elem,d]) .i64 hi O O];have j:P.elem T=e:=by simp[Program.elem,d]
 rw[j,aA4 g f];have k:A.map (·.add 0)=A:=by cases A<;>simp[Addr.add]
 simp[sliced,Result.andThen,k]
def mT(A:Option Addr)(lo cap size:Nat):Option Addr:=if cap=lo then A else A.map (·.add (lo*size))
theorem nX{P:Program}{T e:TypeId}{z:Value}{b c:Nat}(d:P.underlying T=some (.slice e))(a8:(P.info? e).map (fun i=>(i.zero,i.size,i.bytes))=some (some z,b,c))(A:Option Addr)(a cap lo:Nat)(l:lo<=a)(X:Int)(h:X=(lo:Int))(w:World):
  (Instr.slice T (.slice A a cap) (some (.int .i64 X)) none none).run P w=.ok (.slice (mT A lo cap b) (a-lo) (cap-lo)) w:=by
 obtain⟨i,g,m,f,k⟩:=info_parts a8;subst h;rw[run_slice_l w T A a cap (by rw[d];simp[Program.elem,d]) .i64 lo O O];have j:P.elem T=e:=by simp[Program.elem,d]
 rw[j,aA4 g f];simp[sliced,mT,Result.andThen]
theorem bZ1{w:World}{A:Option Addr}{a:List RqR}{m:Nat}(i:m<=a)(h:0<a.length->∃g,A=some ⟨g,0,none⟩∧∀j u,(aY a)[j]? =some u->w.cell? ⟨g,j,none⟩=some u):
  0<m->∃c,A=some c∧∀j u,(aY (a.take m))[j]? =some u->w.cell? (c.add j)=some u:=fun f=>by
 obtain⟨g,e,d⟩:=h O;refine⟨_,e,fun j u b=>?_⟩;rw[show((g,0):Addr).add j=⟨g,j,none⟩ by simp[Addr.add_lit]];refine d j u ?_;rw[<-uA] at b;rw[List.getElem?_take] at b;split at b;exact b;cases b
theorem bZ3{w:World}{A:Option Addr}{a:List RqR}{m cap:Nat}(i:m<=a)(f:a<=cap)(h:0<a.length->∃g,A=some ⟨g,0,none⟩∧∀j u,(aY a)[j]? =some u->w.cell? ⟨g,j,none⟩=some u):
  0<a-m->∃b,mT A m cap 8=some b∧∀j u,(aY (a.drop m))[j]? =some u->w.cell? (b.add j)=some u:=fun d=>by
 obtain⟨g,e,hx⟩:=h O;refine⟨(g,m*8),?_,fun j u c=>?_⟩;unfold mT;rw[if_neg O,e];simp[Addr.add_lit];rw[show((g,m*8):Addr).add j=⟨g,m*8+j,none⟩ by simp[Addr.add_lit]];refine hx _ u ?_;rw[<-pN,List.getElem?_drop] at c;exact c
theorem rW{d:DkD}{t v:Int}(h:dQ d=some (t,v)):(I6 t)∧(I6 v):=by
 unfold dQ at h;split at h;split at h;injection h with h
 injection h with a h2
 omega;split at h;cases h;split at h;rename_i b c a;injection h with h
 injection h with h2 h3
 subst h2 h3;have k:=nA 2 _ _ _ a;have e:=k b σ;have f:=k c σ;omega;cases h
def oR(recs:List cB):List aQ:=match recs.getLast? with
 |none=>[]
 |some q=>(if q.tn=true then[.cut (aE q.s.k) q.s.b2] else[])++[.sync (aE q.s.k)]
theorem aP0(a:List cB)(m:Int×Int)(d:DkD){st:Nat}(a8:st<=a)(h:dC [] (a.map cB.s)=(a.map cB.s).drop st){r:Int×DkD}(i:r=cF ((a.take st).map (fun q=>aQ.rm (aE q.s.k))++oR a) d):
  cQ (a.map cB.o) m d=(r.1,if r.1=0 then some ⟨m.1,m.2,(a.map cB.s).drop st,0⟩ else none,r.2):=by
 subst i;have b:(a.map cB.o).map (·.1)=a.map cB.s:=by rw[List.map_map];rfl
 have c:(a.map cB.o).getLast?=a.getLast?.map cB.o:=List.getLast?_map;have e:(a.map cB.o).length-((a.map cB.s).drop st).length=st:=by
  rw[lU,lZ,lU];omega
 have g:((a.map cB.o).take st).map (fun f=>aQ.rm (aE f.1.k))=(a.take st).map (fun q=>aQ.rm (aE q.s.k)):=by
  rw[<-List.map_take,List.map_map];rfl
 unfold cQ;simp only[b,h];rw[e,g,c];unfold oR;cases a.getLast?<;>rfl
theorem bA4(r:List cB)(q:cB):oR (r++[q])=(if q.tn=true then[.cut (aE q.s.k) q.s.b2] else[])++[.sync (aE q.s.k)]:=by
 unfold oR;rw[List.getLast?_append];simp
theorem pC:∀{l:List aQ},(∀a∈l,a.cost=0)->cO l=0
 |[],_=>rfl
 |a::r,h=>by
  rw[sB,h a (List.mem_cons_self ..),pC (fun b c=>h b (List.mem_cons_of_mem _ c))]
theorem bK6(l c:List cB):cO (l.map (fun q=>aQ.rm (aE q.s.k))++oR c)=0:=by
 refine pC fun a b=>?_
 rcases mB.1 b with b|b
 obtain⟨q,_,rfl⟩:=mF.1 b;rfl;unfold oR at b;split at b;cases b;rcases mB.1 b with b|b
 split at b;rw[lY.1 b];rfl;cases b;rw[lY.1 b];rfl
theorem bT7(a:List cB):(oR a).length<=2:=by
 unfold oR;split;simp;rw[lT];split<;>simp
theorem hZ.box{W:World}{F E:Nat->Prop}{A:Option Addr}{a:List cB}(h:hZ W F A a){i:Nat}(hi:i<a){q:cB}(P:q=a[i]){b:Nat}(l:aS W b 106 #[q.s.k,q.s.a8,q.s.c6,.slice q.al q.rs q.cl,.slice q.ae q.s.a7 q.ce,.bool q.tn])(g:∀k,F k->E k)(w:E b):jU W E (b,0) q.s:=by
 obtain⟨U,rfl,S,T,L⟩:=h.addr O;obtain⟨n,f⟩:=L i hi;rw[<-P] at n f;obtain⟨⟨r,v,Q,p,t,y,z,B,C,D,G,H,I,K⟩,N⟩:=n;obtain⟨R,V,e,_,_,m⟩:=y σ;injection e with e
 injection e with e1 e2 _
 subst e1 e2;have c:=m 3 _ rfl;rw[f 3 _ rfl] at c;injection c with c
 have d:=m 4 _ rfl;rw[f 4 _ rfl] at d;injection d with d
 unfold cB.vl at c;unfold cB.ve at d;refine⟨⟨r,v,Q,p,t,fun _=>⟨b,0,rfl,w,l.lt,fun j u o=>?_⟩,z,B,C,D,G.mono g,H,fun x hx=>(I x hx).mono g,K.mono g⟩,N⟩;rw[Nat.zero_add];rw[c,d] at l;refine fO l j u ?_;have M:=(List.getElem?_eq_some_iff.1 o).1;rw[<-o];simp only[mC,List.length_nil] at M;rcases(by omega:j=0∨j=1∨j=2∨j=3∨j=4) with rfl|rfl|rfl|rfl|rfl<;>rfl
theorem sR.segM{w:World}{F:Nat->Prop}{a:Addr}{q:cB}(h:sR q)(b:jU w F a q.s):iY w F a q.s:=⟨b,h.ok.a7,ω1 h.len,h.txt⟩
theorem pQ.k0{w d:World}{base g m bd gj:Nat}{es c:List (Nm×FE)}{u:DkD}{n o:Int}{j f:Option Addr}{cs:Nat}{F1 F2:Nat->Prop}{b:List cB}{st l:Nat}(h:pQ w base g m es bd gj u n o (.slice j l cs) 0 d c)(C:hZ d F1 f b)(P:st<=b)(x:l=b-st)(z:l<=cs∧cs<=maxLen)(D:dM d F2 j (ptrs f st b))(A:∀q∈b,sR q)(K:b.length<=1000000000)
  (a8:(I6 n)∧(I6 o)) (B:∀k,F1 k∨F2 k->w.heap.size<=k∧k<d.heap.size∧k≠gj∧¬aI g m c k) {r:Int×Option bQ×DkD} (G:r=(0,some ⟨n,o,(b.map cB.s).drop st,0⟩,u)):
  aT9 w base g m es r (.returned (.tuple #[(gj,0),.int .i64 0])) d:=by
 subst G;have p:((b.map cB.s).drop st).length=l:=by rw[lZ,lU,x]
 have N:=h.lo;refine⟨c,h.c8,h.fs,h.fr,h.grow,gj,fun k=>F1 k∨F2 k,rfl,O,?_,B⟩;refine⟨?_,by show((b.map cB.s).drop st).length<=_;omega,a8⟩;refine⟨j,cs,(List.range' st (b-st)).map (fun q=>⟨(f.map Addr.block).getD 0,q*6,none⟩),?_,?_,?_,?_,?_⟩;show aS d gj _ #[n,o,.slice j ((b.map cB.s).drop st).length cs,_,_]
 rw[p];exact h.jb;show((b.map cB.s).drop st).length<=cs∧_
 rw[p];exact z;have e:(List.map (fun q=>(⟨(f.map Addr.block).getD 0,q*6,none⟩:Addr)) (List.range' st (b-st))).map (fun a=>Value.pointer (some a))=ptrs f st b:=by
  unfold ptrs cB8;rw[List.map_map];rfl
 rw[e];exact D.mono (fun k t=>.inr t);show _=((b.map cB.s).drop st).length
 rw[p,x];simp;intro i F v;have M:i<b-st:=by simpa using F
 obtain⟨I,rfl,H,L,E⟩:=C.addr O;have y:((b.map cB.s).drop st)[i]'(v)=(b[st+i]'O).s:=by
  rw[List.getElem_drop,List.getElem_map]
 show iY d _ _ (((b.map cB.s).drop st)[i]'(v))
 rw[y];simp only[List.getElem_map,List.getElem_range',Nat.one_mul];exact(A _ (lX _)).segM ((E (st+i) O).1.mono (fun k t=>.inl t))
theorem EF.fresh{bd lo hi nE:Nat}{W:World}{b:Nat}{T:TypeId}{cs:Array Value}(c:aS W b T cs)(f:nE<=b)(g:T≠98):EF bd lo hi nE W b:=.inr (.inr ⟨f,c.lt,fun d h e=>by
 have a:=e.symm.trans c;injection a with a
 injection a with _ a _
 exact g a.symm⟩)
theorem aU8(l:List (aH×Bool))(o:Option (aH×Bool)):cO (l.map (fun f=>aQ.rm (aE f.1.k))++(match o with
  |none=>[]
  |some f=>(if f.2=true then[aQ.cut (aE f.1.k) f.1.b2] else[])++[aQ.sync (aE f.1.k)]))=0:=by
 refine pC fun a b=>?_
 rcases mB.1 b with h|h
 obtain⟨f,_,rfl⟩:=mF.1 h;rfl;cases o with
 |none=>cases h
 |some f=>
  simp only at h;rcases mB.1 h with h|h
  split at h;rw[lY.1 h];rfl;cases h;rw[lY.1 h];rfl
theorem aJ7{l:List (aH×Bool)}{m:Int×Int}{d:DkD}{L:Nat}(h:gP L d):gP L (cQ l m d).2.2:=by
 unfold cQ;dsimp only;have a:=h.runs (((l.take (l.length-(dC [] (l.map (·.1))).length)).map fun f=>aQ.rm (aE f.1.k))++(match l.getLast? with
  |none=>[]
  |some f=>(if f.2=true then[aQ.cut (aE f.1.k) f.1.b2] else[])++[aQ.sync (aE f.1.k)]))
 rw[aU8] at a;exact a
structure nT(w:World)(F:Nat->Prop)(q:RqR):Prop where
 num:gU q.s
 cap:q.rs<=q.cl∧q.cl<=maxLen∧q.s.a7<=q.ce∧q.ce<=maxLen
 c7:dM w F q.al (aG q.rs)
 map:q.rs.map EntR.e=q.s.l
 h6:∀x∈q.rs,gQ w F x.v x.e.b
 a7:dM w F q.ae (q.s.a7.map (Value.int .i64))
 lo:q.lo=q.s.b2
 em:q.em=q.s.a7.isEmpty
theorem aQ8(k f t:Int)(c b:Option Addr)(h n g:Nat)(lo:Int)(j tn:Bool)(A:-9223372036854775807<=f∧f<=9223372036854775807)(w:World):
  Calls Tryz.prog 89 #[.agg #[k,f,t,.slice c 0 h,.slice b n g,lo,.bool j,.bool tn]] w fun e p =>e=.returned (.tuple #[.int .i64 (f-1),t])∧Below w w p :=by
 obtain⟨B,a⟩:=eX (w.alloc (.cells #[k,f,t,.slice c 0 h,.slice b n g,lo,.bool j,.bool tn] 139));have d:=bN a;have i:=kN a;obtain⟨q,r,s,u,v,x,y,z⟩:=fN i;have l:=J d;have m:=J a;clear d i a;go_enter Tryz.func89,Tryz.ntmps89;go_upto_region 1 with fail
 rw[<-m.o];go_wp2_with fail;go_quiet (fail);go_wp2;go_ret2;exact⟨rfl,aD l.o _⟩
theorem aQ9(k f t:Int)(K l:Option Addr)(u n s m:Nat)(lo:Int)(z tn:Bool)(a b:Nat)(ix tm kd:Int)(q:Option Addr)(C r:Nat)(hm:m<=4611686018427387904)(w:World)
  (e0:w.cell? (a,b+m*4)=some (.int .i64 ix)) (v:w.cell? (a,b+m*4+1)=some (.int .i64 tm)) (x:w.cell? (a,b+m*4+2)=some (.int .i64 kd)) (y:w.cell? (a,b+m*4+3)=some (.slice q C r)) (g:a<w):
  Calls Tryz.prog 89 #[.agg #[k,f,t,.slice (a,b) (m+1) u,.slice l n s,lo,.bool z,.bool tn]] w fun e G =>e=.returned (.tuple #[ix,tm])∧Below w w G :=by
 obtain⟨H,h⟩:=eX (w.alloc (.cells #[k,f,t,.slice (a,b) (m+1) u,.slice l n s,lo,.bool z,.bool tn] 139));have d:=bN h;have B:=kN h;obtain⟨L,M,N,P,Q,R,S,T⟩:=fN B;have U:=(d.cell (p:=(a,b+m*4)) g).trans e0;have V:=(d.cell (p:=(a,b+m*4+1)) g).trans v;have W:=(d.cell (p:=(a,b+m*4+2)) g).trans x;have X:=(d.cell (p:=(a,b+m*4+3)) g).trans y;obtain⟨I,i⟩:=eX (H.alloc (.cells #[ix,tm,kd,.slice q C r] 65));have A:Below w w I:=by rw[i];exact d.alloc d.size _
 have j:=kN i;have Y:=j.c 0;have Z:=j.c 1;have D:=J A;have E:=J h;have F:=J i;clear d B h A j i e0 v x y;go_enter Tryz.func89,Tryz.ntmps89;go_upto_region 1 with fail
 rw[<-E.o];go_upto_region 4 with fail
 rw[<-F.o];go_quiet (fail);go_wp2;go_ret2;exact⟨rfl,aD D.o _⟩
theorem nT.b7{w:World}{F:Nat->Prop}{q:RqR}(h:nT w F q)(f:q.s.l.length<=4611686018427387904):
  Calls Tryz.prog 89 #[.agg #[q.s.k,q.s.a8,q.s.c6,q.vl,q.ve,q.lo,.bool q.em,.bool q.tn]] w fun e Q =>e=.returned (.tuple #[.int .i64 q.s.b7.1,.int .i64 q.s.b7.2])∧Below w w Q :=by
 obtain⟨s,y,u,t,A,p,n,o,v⟩:=q;have i:=h.c7;have a:=h.map;have m:=h.h6;have C:=h.num.a8;have M:v.length=s.l:=by rw[<-a,lU]
 unfold RqR.vl RqR.ve;simp only at i a m C f⊢;rw[<-M] at f;rcases mJ v with rfl|⟨r,x,rfl⟩
 ·have g:s.b7=(s.a8-1,s.c6):=by
   unfold aH.b7;rw[<-a];rfl
  rw[g];exact aQ8 s.k s.a8 s.c6 A n p s.a7 o u t y O w
 rw[mA] at i a m;simp only[mA,lT] at f⊢;have g:s.b7=(x.e.ix,x.e.tm):=by
  unfold aH.b7;rw[<-a];simp
 rw[g];obtain⟨I,K,rfl,_,L,d⟩:=i (by rw[aN];simp);obtain⟨z,B,P,_⟩:=m x σ;have c:∀j,j<4->(aG (r++[x]))[r.length*4+j]? =(dU x)[j]? :=fun j N=>by
  rw[bM _ (k:=r.length) σ N];simp
 have D:=d (r.length*4+0) _ (c 0 O);have E:=d (r.length*4+1) _ (c 1 O);have G:=d (r.length*4+2) _ (c 2 O);have H:=d (r.length*4+3) _ (c 3 O);exact aQ9 s.k s.a8 s.c6 none n p s.a7 o r u t y I K x.e.ix x.e.tm x.e.kd z x.e.b B (by simp at f;omega) w (by simpa[Nat.add_assoc] using D) (by simpa[Nat.add_assoc] using E) (by simpa[Nat.add_assoc] using G) (by simpa[P,Nat.add_assoc] using H) L
theorem bS2{w:World}{gj:Nat}{f g i j:Value}{bad:Int}(a:aS w gj 94 #[f,g,i,j,bad])(e:Int):
  Calls Tryz.prog 84 #[(gj,0),e] w fun r k =>r=.returned (.bool (bad==0&&e==0))∧k =if bad=0 then w.setCell (gj,4) e else w:=by
 have l:=a.c 4;have n:w.frozen? (gj,4)=false:=a.a6 _;by_cases h:bad=0
 ·subst h
  have b:=a.b8 4 e;have m:(w.setCell (gj,4) e).cell? (gj,4)=some (.int .i64 e):=b.cell 4;clear b a;go_enter Tryz.func84,Tryz.ntmps84;go_wp2;go_ret;exact⟨rfl,rfl⟩
 have d:=mN.2 h;rw[if_neg h];clear a h;go_enter Tryz.func84,Tryz.ntmps84;go_wp2;go_ret;exact⟨by rw[d];rfl,rfl⟩
def aA9(recs:List RqR):List aQ:=match recs.getLast? with
 |none=>[]
 |some q=>(if q.tn=true then[.cut (aE q.s.k) q.s.b2] else[])++[.sync (aE q.s.k)]
theorem aK5(a:List RqR)(m:Int×Int)(d:DkD){st:Nat}(a8:st<=a)(h:dC [] (a.map RqR.s)=(a.map RqR.s).drop st){r:Int×DkD}(i:r=cF ((a.take st).map (fun q=>aQ.rm (aE q.s.k))++aA9 a) d):
  cQ (a.map RqR.o) m d=(r.1,if r.1=0 then some ⟨m.1,m.2,(a.map RqR.s).drop st,0⟩ else none,r.2):=by
 subst i;have b:(a.map RqR.o).map (·.1)=a.map RqR.s:=by rw[List.map_map];rfl
 have c:(a.map RqR.o).getLast?=a.getLast?.map RqR.o:=List.getLast?_map;have e:(a.map RqR.o).length-((a.map RqR.s).drop st).length=st:=by
  rw[lU,lZ,lU];omega
 have g:((a.map RqR.o).take st).map (fun f=>aQ.rm (aE f.1.k))=(a.take st).map (fun q=>aQ.rm (aE q.s.k)):=by
  rw[<-List.map_take,List.map_map];rfl
 unfold cQ;simp only[b,h];rw[e,g,c];unfold aA9;cases a.getLast?<;>rfl
theorem bA5(r:List RqR)(q:RqR):aA9 (r++[q])=(if q.tn=true then[.cut (aE q.s.k) q.s.b2] else[])++[.sync (aE q.s.k)]:=by
 unfold aA9;rw[List.getLast?_append];simp
theorem qY(r:List RqR)(q:RqR)(m:Int×Int)(d:DkD):gC ((r++[q]).map RqR.o) m d=if q.s.a7.isEmpty=true then(if(d.b6 (aE q.s.k)).1=0 then cQ (r.map RqR.o) m (d.b6 (aE q.s.k)).2 else((d.b6 (aE q.s.k)).1,none,(d.b6 (aE q.s.k)).2)) else cQ ((r++[q]).map RqR.o) m d:=by
 unfold gC;rw[mE,mG,List.map_nil,List.getLast?_append];simp only[List.getLast?_singleton,Option.some_or,List.dropLast_concat];rfl
section
variable{fs:List (Nm×FD)}{R A B:List (Int×FD)}{mo nw:Option FD}
theorem yE(a:List Int)(fs:List (Nm×FD)):gG a fs fs=fs.mapIdx fun i q=>(q.1,fP a i q.2):=by
 unfold gG;refine List.ext_getElem σ fun i b c=>?_
 rw[List.getElem_mapIdx,List.getElem_mapIdx,if_pos (by simpa using b)]
theorem bE0(a:List Int){q:Nm×FD}(h:q∈gG a fs fs):∃f,(q.1,f)∈fs:=by
 rw[yE] at h;obtain⟨i,c,b⟩:=List.getElem_of_mem h;rw[List.getElem_mapIdx] at b;refine⟨(fs[i]'(by simpa using c)).2,?_⟩;rw[<-b];exact lX _
end
theorem aM4:∀(l a :List (Nm×FD)),a.length=l->(∀i (h:i<a.length) (e :i<l.length),a[i].2.b.length<=l[i].2.b.length)->bC a <=bC l
 |[],[],_,_=>Int.le_refl _
 |[],_::_,h,_=>by cases h
 |_::_,[],h,_=>by cases h
 |x::r,y::s,h,hi=>by
  have f:=aM4 r s (by simpa using h) fun i c d=>hi (i+1) (by simpa using c) (by simpa using d)
  have c:=hi 0 σ σ;simp only[List.getElem_cons_zero] at c;unfold bC;omega
theorem gP.booted{L:Nat}{d:DkD}(h:gP L d)(a:List Int):gP L (d.j8 a):=by
 obtain⟨m,e,b⟩:=d;have g:=yE a b;refine⟨Int.le_trans (aM4 b (gG a b b) (gM _ _ _) fun i c l=>?_) h.sz,?_,fun q k=>?_⟩;simp only[g,List.getElem_mapIdx];unfold fP;rw[lV];omega;show(gG a b b).length<=L
 rw[gM];exact h.len;obtain⟨f,j⟩:=bE0 a k;have c:=h.nm (q.1,f) j;exact c
section
variable{α:Type}{R:α->α->Prop}
def eS(R:α->α->Prop):List α->Prop
 |a::b::r=>R a b∧eS R (b::r)
 |_=>True
theorem aO6{a:α}{r:List α}(h:eS R (a::r)):eS R r:=by
 cases r with
 |nil=>trivial
 |cons b r=>exact h.2
theorem wN:∀(n:Nat) {l:List α},eS R l->eS R (l.drop n)
 |0,_,h=>h
 |n+1,[],h=>h
 |n+1,a::r,h=>wN n (aO6 h)
theorem eH:∀{l:List α} {s:α},eS R (l++[s])↔eS R l∧∀t,l.getLast?=some t->R t s
 |[],s=>by simp[eS]
 |[a],s=>by simp[eS]
 |a::b::r,s=>by
  have d:=eH (l:=b::r) (s:=s);show(R a b∧eS R ((b::r)++[s]))↔(R a b∧eS R (b::r))∧_
  rw[d,and_assoc];have c:(a::b::r).getLast?=(b::r).getLast?:=by simp[List.getLast?_cons_cons]
  rw[c]
theorem wP:∀{l m:List α},eS R (l++m)->eS R l
 |l,[],h=>by rw[List.append_nil] at h;exact h
 |l,x::m,h=>by
  have a:eS R ((l++[x])++m):=by rw[List.append_assoc];exact h
  exact(eH.1 (wP a)).1
termination_by l m=>m
theorem wQ{l:List α}(n:Nat)(h:eS R l):eS R (l.take n):=by
 rw[<-List.take_append_drop n l] at h;exact wP h
end
def rT(a b:aH):Prop:=b.h0 a=true
theorem bF8{segs:List aH}{ix:Int}:∀(a f:Nat),segs<=f+1->gY segs ix a f=f
 |0,f,_=>rfl
 |a+1,f,h=>by
  unfold gY;rw[List.getElem?_eq_none O]
section
variable{pw:fT}{room:Int}{fs:List (Nm×FD)}{mo nw:Option FD}{A:List aH}{t v:Int}{S:List (Nm×FD)->Prop}
theorem aV6(s t:aH):s.h0 t=true↔s.a8-1=t.b7.1∧s.c6=t.b7.2:=by
 unfold aH.h0;simp
end
theorem tU:∀(l:List cD) (base a:Int) (b:Option Int),gV base l a b=true->∀i (h:i<l.length),(base<l[i].ix∧l[i].ix≠bL∧0<=l[i].tm∧0<=l[i].kd)∧(i=0->l[i].ix-1<=a∧∀p,b=some p->l[i].ix-1=p)∧∀c:0<i,l[i].ix=(l[i-1]'O).ix+1
 |[],_,_,_,_,i,h=>by cases h
 |e::r,base,a,b,hm,i,h=>by
  unfold gV at hm;rw[Bool.and_eq_true] at hm;obtain⟨g,m⟩:=hm;have j:(base<e.ix∧e.ix≠bL∧0<=e.tm∧0<=e.kd)∧e.ix-1<=a∧∀p,b=some p->e.ix-1=p:=by
   simp only[Bool.not_eq_true',Bool.or_eq_false_iff,decide_eq_false_iff_not] at g;obtain⟨⟨⟨⟨⟨q,s⟩,k⟩,f⟩,t⟩,u⟩:=g;refine⟨⟨O,k,O,O⟩,O,fun p o=>?_⟩;subst o;simp only[decide_eq_false_iff_not,Decidable.not_not] at f;exact f
  cases i with
  |zero=>exact⟨j.1,fun _=>j.2,fun c=>absurd c O⟩
  |succ i=>
   have n:i<r:=by simpa using h
   have d:=tU r base e.ix (some e.ix) m i n;refine⟨d.1,fun c=>absurd c O,fun _=>?_⟩;cases i with
   |zero=>
    have:=(d.2.1 rfl).2 e.ix rfl;simp only[List.getElem_cons_succ,Nat.add_sub_cancel];show r[0].ix=e.ix+1
    omega
   |succ i=>exact d.2.2 O
structure cB0(j:bQ)(l:List cD)(ix:Int):Prop where
 ne:0<l.length
 a8:(l[0]'(ne)).ix=ix
 c7:∀e∈l,bV3 e
 ixs:∀i (h:i<l.length),l[i].ix=ix+i
 top:ix+l<=bL
 base:j.base.1<ix
 b7:ix-1<=j.b7.1
theorem bR0{j:bQ}{e0:cD}{r:List cD}(c:nG j (e0::r)=0)(o:∀e∈e0::r,e.ix<=9223372036854775807∧e.tm<=9223372036854775807∧e.kd<=9223372036854775807):cB0 j (e0::r) e0.ix:=by
 have p:gV j.base.1 (e0::r) j.b7.1 none=true:=by
  unfold nG at c;by_cases h:gV j.base.1 (e0::r) j.b7.1 none=false;rw[if_pos h] at c;cases c;simpa using h
 have m:((e0::r).any fun e=>decide (65535<e.b.length))=false:=by
  unfold nG at c;rw[if_neg (by rw[p];simp)] at c;by_cases h:((e0::r).any fun e=>decide (65535<e.b.length))=true;rw[if_pos h] at c;cases c;simpa using h
 have f:=tU (e0::r) _ _ _ p;have q:∀i (h:i<(e0::r).length),(e0::r)[i].ix=e0.ix+i:=by
  intro i;induction i with
  |zero=>intro h;simp
  |succ i ih=>
   intro h;have a:=(f (i+1) h).2.2 O;have d:=ih O;simp only[Nat.add_sub_cancel] at a;rw[a,d];omega
 have s:∀e∈e0::r,e.b.length<=65535:=fun e g=>by
  rw[List.any_eq_false] at m;have:=m e g;simp at this;exact this
 refine⟨σ,rfl,fun e g=>?_,q,?_,?_,?_⟩;obtain⟨i,k,rfl⟩:=List.getElem_of_mem g;have a:=(f i k).1;have d:=o _ (lX k);exact⟨⟨a.2.2.1,d.2.1⟩,⟨a.2.2.2,d.2.2⟩,s _ (lX k)⟩;have a:=(f r σ).1;have d:=q r σ;have t:=(o _ (lX (l:=e0::r) (n:=r.length) σ)).1;unfold bL at a⊢;rw[mC];omega;have a:=(f 0 σ).1.1;exact a;exact((f 0 σ).2.1 rfl).1
theorem wK(segs:List aH)(ix:Int):∀n,1<=n->n<=segs.length->(1<=dR segs ix n∧dR segs ix n<=n)∧(∀s,1<dR segs ix n->segs[dR segs ix n-1]? =some s->s.a8<ix)∧∀s,dR segs ix n<n->segs[dR segs ix n]? =some s->ix<=s.a8
 |0,h,_=>absurd h O
 |1,_,_=>⟨⟨lR _,lR _⟩,fun s h=>absurd h (by show¬1<1;omega),fun s h=>absurd h (by show¬1<1;omega)⟩
 |n+2,_,hl=>by
  have b:segs[n+1]? =some (segs[n+1]'O):=lW O;by_cases h:ix<=(segs[n+1]'O).a8;have c:dR segs ix (n+2)=dR segs ix (n+1):=by
   conv=>lhs;unfold dR
   rw[b];simp only[h,if_true]
  obtain⟨⟨e,k⟩,f,g⟩:=wK segs ix (n+1) O O;rw[c];refine⟨⟨e,O⟩,f,fun s d a=>?_⟩;by_cases i:dR segs ix (n+1)<n+1;exact g s i a;have j:dR segs ix (n+1)=n+1:=O;rw[j,b] at a;injection a with a
  rw[<-a];exact h;have c:dR segs ix (n+2)=n+2:=by
   conv=>lhs;unfold dR
   rw[b];simp only[h,if_false]
  rw[c];refine⟨⟨O,lR _⟩,fun s _ a=>?_,fun s d=>absurd d O⟩;rw[show n+2-1=n+1 by omega,b] at a;injection a with a
  rw[<-a];omega
theorem aY9{w:World}{base g:Nat}{p:fT}{room:Int}{vL:Value}{es:List (Nm×RF)}(h:aR w base g p room vL es)(M:es.length<=1099511627776)(hn:∀q∈es,q.1.length<=1000)(p5:∀q∈es,q.2.f.b.length<=1000000000):
    Calls Tryz.prog 87 #[(g,0)] w fun e w' =>Below w w w' ∧∃v,e=.returned (.tuple #[v,.bool (gH (cN p room es)).isSome])∧
      ∀l,gH (cN p room es)=some l->∃n:List RqR,w'.ownsRow w 139 8 v n (aY n)∧n.map RqR.o=l∧∀q∈n,rQ w' w q∧q.lo=q.s.b2∧q.em=q.s.a7.isEmpty:=by
  obtain⟨x,y,hb,_⟩:=h.b4;have D4:=J hb;obtain⟨A,c,Q6,m5,m3,I⟩:=h.b3;have J6:=J I;have H:=J h;have K:=h.l5;have K6:=J hn;have K3:=J p5;clear I hb h hn p5;subst Q6;go_enter Tryz.func87,Tryz.ntmps87;go_upto_block 0 with fail
  go_cut [4] from 12 to 75 (fun v wx=>∃n:List RqR,n.length<=es∧Hq (wx.ownsRow w 139 8 v n (aY n))∧Hq (∃l,cE (bI RF.f es)=some l∧(n.map RqR.o).Perm l)∧Hq (n.Pairwise fun x y=>x.s.k<=y.s.k)∧Hq (∀q∈n,rQ wx w q∧(q.lo=q.s.b2∧q.em=q.s.a7.isEmpty)∧1<=q.s.k∧q.s.k<=999999999)∧Hq (Below w w wx))
  case first=>
   go_wp2_with fail;go_loopw [5,4,6,7,8,9,10] (fun i v _ _ _ _ _ wr=>∃(k:Nat) (n:List RqR),k<=es∧i=.int .i64 k∧n<=k∧Hq (wr.ownsRow w 139 8 v n (aY n))∧Hq (∃l,cE ((bI RF.f es).take k)=some l∧(n.map RqR.o).Perm l)∧Hq (n.Pairwise fun x y=>x.s.k<=y.s.k)∧Hq (∀q∈n,rQ wr w q∧(q.lo=q.s.b2∧q.em=q.s.a7.isEmpty)∧1<=q.s.k∧q.s.k<=999999999)∧Hq (Below w w wr)) (fun i _ _ _ _ _ _ _=>es.length-(intOf i).toNat)
   case atStart=>exact⟨0,[],O,rfl,lR _,J (World.ownsRow_nil _ _ _ _),J ⟨[],rfl,List.Perm.refl _⟩,J List.Pairwise.nil,J (fun q C=>by cases C),J (lS _ _)⟩
   obtain⟨k,n,hk,rfl,l8,HO,HL,HP,HF,HB⟩:=hrel;have Y:=HB.o.size;obtain⟨Av,cv,F,Q7,Q8,hx⟩:=aK HO.o;subst F;have HX:=J hx;clear hx;have M0:aS wr g 74 _:=(HB.o.block g K).trans D4.o;have c0:=M0.c 0;by_cases D:k<es;rotate_left
   · obtain rfl:k=es:=O
     rw[List.take_of_length_le σ] at HL;go_wp2;go_meet;exact⟨n,l8,HO,HL,HP,HF,HB⟩
   obtain⟨b,rfl,M3,q0,q1,q2,_⟩:=J6.o k D;have J5:=HB.o.cell (p:=(b,k*3)) M3;rw[q0] at J5;have m6:=lX D;obtain⟨Ax,cx,O0,O1,S5,J1⟩:=(H.o.e9 es[k] m6).b3;rw[O0] at q1;obtain⟨nm,D3⟩:=eX (es[k].1);obtain⟨fb,p5⟩:=eX (es[k].2.f.b);obtain⟨N,D0⟩:=eX (qK nm);have R8:fb.length<=1000000000:=by rw[p5];exact K3.o _ m6
   have R9:nm.length<=1000:=by rw[D3];exact K6.o _ m6
   have M9:0<=N∧N<=999999999:=by rw[D0];exact sF nm
   have n9:(bI RF.f es).take (k+1)=(bI RF.f es).take k++[(nm,es[k].2.f)]:=by
     rw[List.take_add_one,lW (by simpa using D),D3];unfold bI;rw[List.getElem_map];rfl
   have n8:∀l,cE ((bI RF.f es).take k)=some l->cE ((bI RF.f es).take (k+1))=if N=0 then some l else(cH N fb).map fun s=>l++[s]:=fun l M=>by
     rw[n9,mX,M,D0,p5];rfl
   have p7:=J n8;rw[<-p5] at q1 J1 O1;have S4:=fL nm;have E8:=J (aK3 (bU nm) O wr);rw[show(bU nm).data.toList=nm from by simp[bU],<-D0] at E8;rw[<-D3] at J5;have G8:=J J1;have O8:=J q1;clear n8 n9 m6 D0 p5 D3 J1 O0 q0 q1 q2;go_wp2_with fail;refine E8.o.mono ?_;rintro e w2 ⟨rfl,B7⟩;have S0:=B7.size;have m7:=J (HB.o.trans (B7.mono Y));have G0:=J (bT HO.o B7);have C2:=J (fun q C=>And.intro ((HF.o q C).1.a1 B7) (HF.o q C).2);have B1:aS w2 g 74 _:=(m7.o.block g K).trans D4.o;have R4:=B1.c 0;have R1:=m7.o.cell (p:=(b,k*3+1)) M3;rw[O8.o] at R1;clear B7 HB HO HF E8 M0 B1 c0 J5;by_cases L:N=0
   · subst L
     have G9:=J (HL.o.imp fun l M=>And.intro ((p7.o l M.1).trans (if_pos rfl)) M.2);clear p7 G8;go_wp2;go_roundw
     case rel=>exact⟨k+1,n,O,by go_num,O,G0,G9,HP,C2,m7⟩
     case measure=>simp[intOf];omega
   have M8:1<=N∧N<=999999999:=O;have L4:=J (aZ2 N O Ax fb cx w2 ((G8.o.a1 m7.o).more m7.o.size) O1 O O);clear G8;go_wp2_with fail;refine L4.o.mono ?_;rintro e w4 ⟨I2,v4,rfl,⟨a1,a2,a3,Al,nl,cl,Ae,ne,ce,lo,em,Z,rfl⟩,hS⟩;have o8:=J (m7.o.trans (I2.mono m7.o.size));have G2:=J (bT G0.o I2);have C3:=J (fun q C=>And.intro ((C2.o q C).1.a1 I2) (C2.o q C).2);have I0:=J hS;clear hS m7 G0 C2 L4;rcases hrs:cH N fb with _|⟨t,O2⟩
   · have R3:=J hrs
     have N2:gH (cN p room es)=none:=by
       obtain⟨l,D1,_⟩:=HL.o;have h3:=p7.o l D1;rw[if_neg L,hrs] at h3;have Q:=qN (r:=(bI RF.f es).drop (k+1)) h3;rw[List.take_append_drop] at Q;unfold gH;rw[show(cN p room es).fs=bI RF.f es from rfl,Q]
     have O4:=J (o8.o.trans ((lS _ w4).alloc (ω1 o8.o.size) (.cells #[a1,a2,a3,.slice Al nl cl,.slice Ae ne ce,lo,.bool em,.bool Z] 139)));have K9:=J N2;clear N2 o8 C3 G2 hrs p7 I0 HL;go_wp2;go_ret2;exact⟨O4.o,_,by rw[K9.o];rfl,fun l h=>by rw[K9.o] at h;cases h⟩
   obtain⟨G,rs,vl,ve,hG,p8,F,N9,S2,S3,D1,N0⟩:=I0.o t O2 hrs;have I7:=tX hrs;rw[I7.1,I7.2] at F p8;injection F with F
   have e1:Value.int .i64 a1=.int .i64 t.k:=by have:=congrArg (fun a:Array Value=>a[0]?) F;simpa using this
   have e2:Value.int .i64 a2=.int .i64 t.a8:=by have:=congrArg (fun a:Array Value=>a[1]?) F;simpa using this
   have e3:Value.int .i64 a3=.int .i64 t.c6:=by have:=congrArg (fun a:Array Value=>a[2]?) F;simpa using this
   have e4:Value.slice Al nl cl=vl:=by have:=congrArg (fun a:Array Value=>a[3]?) F;simpa using this
   have e5:Value.slice Ae ne ce=ve:=by have:=congrArg (fun a:Array Value=>a[4]?) F;simpa using this
   have e9:Value.int .i64 lo=.int .i64 t.b2:=by have:=congrArg (fun a:Array Value=>a[5]?) F;simpa using this
   have e0:Value.bool em=.bool t.a7.isEmpty:=by have:=congrArg (fun a:Array Value=>a[6]?) F;simpa using this
   have e6:Value.bool Z=.bool O2:=by have:=congrArg (fun a:Array Value=>a[7]?) F;simpa using this
   injection e1 with _ e1
   injection e2 with _ e2
   injection e3 with _ e3
   injection e9 with _ e9
   injection e0 with e0
   injection e6 with e6
   rw[<-e9,<-e0] at p8;subst e1 e2 e3 e4 e5 e6;have P3:=J N9;clear N9 I7;obtain⟨_,_,e7,_⟩:=aK p8.c7;injection e7 with x1 e7 x2
   subst x1 e7 x2;obtain⟨_,_,e8,_⟩:=Own.b3 p8.a7;injection e8 with x1 e8 x2
   rw[lU] at e8;subst x1 e8 x2;have G9:Hq (∃l,cE ((bI RF.f es).take (k+1))=some l∧((n.map RqR.o)++[(t,Z)]).Perm l):=J (by
     obtain⟨l,D1,N0⟩:=HL.o;refine⟨l++[(t,Z)],?_,N0.append_right _⟩;rw[p7.o l D1,if_neg L,hrs];rfl)
   have J0:rQ w4 w ⟨t,Z,lo,em,Al,cl,Ae,ce,rs⟩:=(rQ.of_rg p8).mono (ω1 o8.o.size);obtain⟨q,C⟩:∃q:RqR,q=⟨t,Z,lo,em,Al,cl,Ae,ce,rs⟩:=⟨_,rfl⟩
   have N7:q.o=(t,Z):=by rw[C];rfl
   have N5:q.s.k=N:=by rw[C];exact P3.o
   have N4:gZ q=[.int .i64 t.k,.int .i64 t.a8,.int .i64 t.c6,.slice Al rs.length cl,.slice Ae t.a7.length ce,.int .i64 lo,.bool em,.bool Z]:=by rw[C];rfl
   have N6:q.lo=q.s.b2∧q.em=q.s.a7.isEmpty:=by rw[C];exact⟨e9,e0⟩
   rw[<-C] at J0;have P2:=J N7;have C5:=J N5;have P0:=J N4;have P1:=J N6;have L3:=J J0;clear hrs I0 p8 F HL p7 C N7 N5 N4 N6 J0 e9 e0;have hN:n.length<=1099511627776:=O;have p9:=bA w4 (.cells #[t.k,t.a8,t.c6,.slice Al rs cl,.slice Ae t.a7 ce,lo,.bool em,.bool Z] 139);have C6:=aS.new w4 139 #[t.k,t.a8,t.c6,.slice Al rs cl,.slice Ae t.a7 ce,lo,.bool em,.bool Z];obtain⟨wA,J3⟩:=eX (w4.alloc (.cells #[t.k,t.a8,t.c6,.slice Al rs cl,.slice Ae t.a7 ce,lo,.bool em,.bool Z] 139));rw[<-J3] at p9 C6;have P4:=J J3;have K7:=J C6;have I8:=C6.lt;have C4:=J (bT G2.o p9);have E5:=J (fun q C=>And.intro ((C3.o q C).1.a1 p9) (C3.o q C).2);have L2:=J (L3.o.a1 p9);have D7:=J (o8.o.trans (p9.mono o8.o.size));clear J3 C6 p9 G2 C3 L3 o8;go_upto_block 2 with fail
   rw[<-P4.o];go_cut [9] from 47 to 61 (fun v wx=>∃m:Nat,v=.int .i64 m∧m<=n∧Hq (∀j (h:j<m) (T:j<n.length),n[j].s.k<N)∧Hq (∀h:m<n,N<=n[m].s.k)∧Hq (Below wA wA wx))
   case first=>
     go_wp2_with fail;go_loopw [9] (fun i wr2=>∃m:Nat,m<=n∧i=.int .i64 m∧Hq (∀j (h:j<m) (T:j<n.length),n[j].s.k<N)∧Hq (Below wA wA wr2)) (fun i _=>n.length-(intOf i).toNat)
     case atStart=>exact⟨0,O,rfl,J (fun j h T=>O),J (lS _ _)⟩
     obtain⟨m,hm,rfl,HM,U⟩:=hrel;have Q3:=U.o.size;by_cases hlm:m<n;rotate_left
     · have hd:decide ((m:Int)<(n:Int))=false:=decide_eq_false O
       have s9:Hq (∀h:m<n,N<=n[m].s.k):=J (fun h=>absurd h hlm);go_wp2;go_meet;exact⟨m,rfl,hm,HM,s9,U⟩
     obtain⟨A',c',C0,_,_,h3⟩:=aK (bT C4.o U.o);obtain⟨gr,L8,rfl,l6,K,V,X,l4⟩:=h3 O;injection C0 with v1 v2 v3
     subst v1 v3;clear v2 h3;have cm:wr.cell? (gr,m*8)=some (.int .i64 n[m].s.k):=l4 _ _ (dY n hlm (j:=0) O);have hd:decide ((m:Int)<(n:Int))=true:=decide_eq_true O;obtain⟨zk,J4⟩:=eX (n[m].s.k);have L7:=J J4;rw[<-J4] at cm;clear J4 V X l4;by_cases hz:zk<N
     · have P9:=decide_eq_true hz
       have s9:Hq (∀j (h:j<m+1) (T:j<n.length),n[j].s.k<N):=J (fun j h T=>by
         by_cases e:j=m;subst e;rw[<-L7.o];exact hz;exact HM.o j O T)
       clear hz;go_wp2;go_roundw
       case rel=>exact⟨m+1,O,by go_num,s9,U⟩
       case measure=>simp[intOf];omega
     have P9:=decide_eq_false hz;have s9:Hq (∀h:m<n,N<=n[m].s.k):=J (fun h=>by rw[<-L7.o];omega);clear hz;go_wp2;go_meet;exact⟨m,rfl,hm,HM,s9,U⟩
   obtain⟨m,rfl,hm,HM,O6,U⟩:=hcut;have Q9:n<=cv:=by
     obtain⟨A',c',C0,Q,_,_⟩:=aK C4.o;injection C0 with _ _ v3
   have Q3:=U.o.size;have O7:=J (bT C4.o U.o);have K0:=J (fun q C=>And.intro ((E5.o q C).1.a1 U.o) (E5.o q C).2);have O9:=J (L2.o.a1 U.o);have J8:=J (D7.o.trans (U.o.mono D7.o.size));have O5:=J (K7.o.a1 U.o I8);have I1:0<n.length->∃g,Av=some ⟨g,0,none⟩∧g<wc.heap.size∧∀j u,(aY n)[j]? =some u->wc.cell? ⟨g,j,none⟩=some u:=fun L=>by
     obtain⟨A',c',C0,_,_,h3⟩:=aK O7.o;obtain⟨gr,L8,e,l6,K,V,X,l4⟩:=h3 L;injection C0 with v1 _ v3
     exact⟨gr,v1.trans e,K,l4⟩
   have L5:=J I1;have B6:=fun L=>(I1 L).imp fun g h=>And.intro h.1 h.2.2
   have L6:=J (bZ1 hm B6);have B8:=fun W:World=>nQ (P:=Tryz.prog) Tryz.underlying92 dX Av n cv m O (m:Int) rfl W
   have M4:=fun W:World=>nX (P:=Tryz.prog) Tryz.underlying92 dX Av n cv m O (m:Int) rfl W
   clear C4 E5 L2 D7 I1 B6 U K7;go_upto_region 15 with(at_builtin;go_must (refine cV rfl (.tmp 62) (.tmp 65) 92 rfl wc.heap.size 139 (.agg #[.int .i64 0,.int .i64 0,.int .i64 0,.slice none 0 0,.slice none 0 0,.int .i64 0,.bool false,.bool false]) 8 88 Tryz.underlying92 dX rfl δ _ 0 [] rfl (World.ownsRow_nil _ _ _ _) Av m cv (aY (n.take m)) rfl (by rw[bS,lV];omega) L6.o (kY _) (by unfold maxLen;omega) O (lR _) ?_;intro v6 w6 m8 M5;have L0:=J m8;have K4:=J M5;clear m8 M5))
   have C8:=Below.grown (lS wc wc) K4.o (lR _) (fun k hk=>by cases hk);have Q2:=C8.size;have L9:=O5.o.a1 C8 O;obtain⟨a0,a1,a2,a3,a4,a5,a6,a7⟩:=fN L9;have C7:=L0.o;rw[Nat.zero_add,List.nil_append] at C7;obtain⟨A6,c6,Q4,_,_,_⟩:=aK C7;subst Q4;have I3:=bA w6 (.cells #[t.k,t.a8,t.c6,.slice Al rs cl,.slice Ae t.a7 ce,lo,.bool em,.bool Z] 139);have G3:=J (bT C7 I3);have HC:=J (dH (aS.new w6 139 #[t.k,t.a8,t.c6,.slice Al rs cl,.slice Ae t.a7 ce,lo,.bool em,.bool Z]));have D6:=J (C8.trans (I3.mono Q2));clear C8 L9 L0 K4 C7 I3 L6 B8;go_upto_region 16 with(at_builtin;go_must (refine dZ rfl (.tmp 67) (.tmp 69) 92 rfl wc.heap.size 139 (.agg #[.int .i64 0,.int .i64 0,.int .i64 0,.slice none 0 0,.slice none 0 0,.int .i64 0,.bool false,.bool false]) 8 88 Tryz.underlying92 dX rfl δ _ m (aY (n.take m)) rfl G3.o ⟨w6.heap.size,0,none⟩ 1 1 _ rfl rfl HC.o (by simp[Value.oneCell']) (by unfold maxLen;omega) O (ω1 D6.o.size) ?_;intro v8 w8 m9 M6 Q0;have G4:=J m9;have K5:=J M6;clear m9 M6 Q0))
   have C9:=Below.grown D6.o K5.o D6.o.size (fun k hk=>(mL G3.o k hk).1);have S1:=C9.size;obtain⟨A8,c8,Q5,_,_,_⟩:=aK G4.o;subst Q5;have M2:0<n.length->∃g,Av=some ⟨g,0,none⟩∧∀j u,(aY n)[j]? =some u->w8.cell? ⟨g,j,none⟩=some u:=fun L=>by
     obtain⟨gr,e,K,l4⟩:=L5.o L;exact⟨gr,e,fun j u hu=>(C9.cell (p:=⟨gr,j,none⟩) K).trans (l4 j u hu)⟩
   have P5:=J (bZ3 (cap:=cv) hm Q9 M2);have J7:=J C9;clear C9 M2 L5 K5 G3 HC a0 a1 a2 a3 a4 a5 a6 a7;go_wp2_with (at_builtin;go_must (refine cV rfl (.tmp 71) (.tmp 74) 92 rfl wc.heap.size 139 (.agg #[.int .i64 0,.int .i64 0,.int .i64 0,.slice none 0 0,.slice none 0 0,.int .i64 0,.bool false,.bool false]) 8 88 Tryz.underlying92 dX rfl δ _ (m+1) _ rfl G4.o (mT Av m cv 8) (n.length-m) (cv-m) (aY (n.drop m)) rfl (by rw[bS,lZ]) P5.o (kY _) (by unfold maxLen;omega) O O ?_;intro R2 O3 l7 B9;have E9:=J l7;have E6:=J B9;clear l7 B9));have p4:=Below.grown J7.o E6.o J7.o.size (fun k hk=>(mL G4.o k hk).1);have N8:=J8.o.size;have E7:=J (G9.o.imp fun l M=>And.intro M.1 ((((rqIns_perm n m q).map RqR.o).trans (by rw[mE,mG,P2.o];exact List.Perm.refl _)).trans M.2));have G6:=J (aK8 HP.o hm (fun j h=>by rw[C5.o];exact HM.o j h O) (fun h=>by rw[C5.o];exact O6.o h));have G7:Hq (O3.ownsRow w.heap.size 139 8 R2 (pS n m q).length (aY (pS n m q))):=J (by
     refine jH (base:=wc.heap.size) ?_ N8;have Q:=E9.o;rw[aG5];unfold pS;rw[eL,eL,show aY [q]=gZ q from by simp[aY],P0.o];rw[show m+1+(n-m)=n.length+1 by omega] at Q;exact Q)
   have D9:Hq (∀x∈pS n m q,rQ O3 w x∧(x.lo=x.s.b2∧x.em=x.s.a7.isEmpty)∧1<=x.s.k∧x.s.k<=999999999):=J (fun x hx=>by
     rcases rqIns_mem hx with hx|rfl
     exact⟨(K0.o x hx).1.a1 p4,(K0.o x hx).2⟩;exact⟨O9.o.a1 p4,P1.o,by rw[C5.o];exact M8.1,by rw[C5.o];exact M8.2⟩)
   have D5:=J (J8.o.trans (p4.mono N8));go_roundw
   case rel=>exact⟨k+1,pS n m q,O,by go_num,by rw[aG5];omega,G7,E7,G6,D9,D5⟩
   case measure=>simp[intOf];omega
  obtain⟨n,l8,HO,HL,HP,HF,HB⟩:=hcut;have Y:=HB.o.size;obtain⟨Av,cv,F,Q7,Q8,hx⟩:=aK HO.o;subst F;clear hx;have M1:gH (cN p room es)=if eT (n.map RqR.o)=true then some (n.map RqR.o) else none:=by
    obtain⟨l,Q,T⟩:=HL.o;exact yX (d:=cN p room es) Q T (by rw[List.pairwise_map];exact HP.o)
  have K8:=J M1;have q8:=J (bJ7 n fun q C=>(HF.o q C).2.1.2);have hN:n.length<=1099511627776:=O;clear M1 HL HP J6 D4 H K6 K3;go_wp2_with fail;go_loopw [11] (fun i wr=>∃k:Nat,k<=n∧i=.int .i64 k∧Hq (∀j (h:j<n.length),j<k->aR7 n j h)∧Hq (Below wc wc wr)) (fun i _=>n.length-(intOf i).toNat)
  case atStart=>exact⟨0,O,rfl,J (fun j h L=>O),J (lS _ _)⟩
  obtain⟨k,hk,rfl,L1,p6⟩:=hrel;have l9:=p6.o.size;by_cases D:k<n;rotate_left
  · obtain rfl:k=n:=O
    have C1:gH (cN p room es)=some (n.map RqR.o):=by
      rw[K8.o,if_pos (q8.o.2 fun j h=>L1.o j h h)]
    have HY:=J C1;have D8:=J (HB.o.trans (p6.o.mono Y));clear C1;go_wp2;go_ret2;refine⟨D8.o,_,by rw[HY.o];rfl,fun l h=>?_⟩;rw[HY.o] at h;injection h with h
    subst h;exact⟨n,bT HO.o p6.o,rfl,fun q C=>⟨(HF.o q C).1.a1 p6.o,(HF.o q C).2.1⟩⟩
  obtain⟨A',c',F,_,_,h3⟩:=aK (bT HO.o p6.o);obtain⟨gr,L8,rfl,l6,K,V,X,l4⟩:=h3 O;injection F with v1 v2 v3
  subst v1 v3;clear v2 h3;have I:∀i (hi:i<n.length) j,j<8->(aY n)[i*8+j]? =(gZ n[i])[j]? :=fun i hi j hj=>dY n hi hj
  have ck:wr.cell? (gr,k*8)=some (.int .i64 n[k].s.k):=l4 _ _ (I k D 0 O);have cm:=l4 _ _ (I k D 6 O);have ct:=l4 _ _ (I k D 7 O);have M9:=(HF.o n[k] (lX D)).2.2;obtain⟨B,hB⟩:∃B:Bool,B=false↔aR7 n k D:=by
    by_cases hh:aR7 n k D;exact⟨false,by simp[hh]⟩;exact⟨true,by simp[hh]⟩
  have E:=J hB;obtain⟨ek,I5⟩:=eX (n[k].s.k);obtain⟨tk,J2⟩:=eX (n[k].tn);obtain⟨mk,I9⟩:=eX (n[k].em);have j9:=J I5;have S:=J J2;have R:=J I9;rw[<-I5] at ck M9;rw[<-J2] at ct;rw[<-I9] at cm;have l5:=J l4;clear I5 J2 I9 hB l4;go_upto_region 20 with fail
  go_cut [119] from 82 to 119 (fun c wx=>c=.bool B∧Hq (Below wr wr wx))
  case first=>
    by_cases hk0:0<k;rotate_left
    · have P7:=decide_eq_false hk0
      by_cases Q:k+1<n;rotate_left
      · have hd:decide ((k:Int)<(n:Int)-1)=false:=decide_eq_false O
        have z:=J (E.o.2 ⟨fun L=>absurd L hk0,fun h=>absurd h Q⟩);clear E I l5 j9 S R V X K l6 l9 Y l8 M m5 m3;go_big_quiet (fail);go_wp2;go_meet;exact⟨by first|(rw[z.o];done)|(rw[z.o];rfl),J (aD (lS _ _) _)⟩
      have hd:decide ((k:Int)<(n:Int)-1)=true:=decide_eq_true O;cases tk with
      |true=>
        have z:Hq (B=true):=J (by
          cases B with
          |true=>rfl
          |false=>
            have:=((E.o.1 rfl).2 Q).1;rw[<-S.o] at this;cases this)
        clear E I l5 j9 S R V X K l6 l9 Y l8 M m5 m3;go_big_quiet (fail);go_wp2;go_meet;exact⟨by first|(rw[z.o];done)|(rw[z.o];rfl),J (aD (lS _ _) _)⟩
      |false=>
        cases mk with
        |true=>
          have z:Hq (B=true):=J (by
            cases B with
            |true=>rfl
            |false=>
              have:=((E.o.1 rfl).2 Q).2;rw[<-R.o] at this;cases this)
          clear E I l5 j9 S R V X K l6 l9 Y l8 M m5 m3;go_big_quiet (fail);go_wp2;go_meet;exact⟨by first|(rw[z.o];done)|(rw[z.o];rfl),J (aD (lS _ _) _)⟩
        |false=>
          have z:=J (E.o.2 ⟨fun L=>absurd L hk0,fun _=>⟨S.o.symm,R.o.symm⟩⟩);clear E I l5 j9 S R V X K l6 l9 Y l8 M m5 m3;go_big_quiet (fail);go_wp2;go_meet;exact⟨by first|(rw[z.o];done)|(rw[z.o];rfl),J (aD (lS _ _) _)⟩
    have P7:=decide_eq_true hk0;obtain⟨j,hj⟩:∃j,k=j+1:=⟨k-1,O⟩
    have M7:j<n:=O;have cj:wr.cell? (gr,j*8)=some (.int .i64 n[j].s.k):=l5.o _ _ (I j M7 0 O);have Q1:=(HF.o n[j] (lX M7)).2.2;have n5:(n[k-1]'O).s.k=n[j].s.k:=by
      have e:k-1=j:=O;simp only[e]
    have o9:=J n5;obtain⟨ej,I4⟩:=eX (n[j].s.k);have HJ:=J I4;rw[<-I4] at cj Q1;have R5:wr.cell? (gr,(j+1)*8)=some (.int .i64 ek):=by rw[<-hj];exact ck
    have R6:wr.cell? (gr,(j+1)*8+6)=some (.bool mk):=by rw[<-hj];exact cm
    have R7:wr.cell? (gr,(j+1)*8+7)=some (.bool tk):=by rw[<-hj];exact ct
    clear I4 n5;by_cases T:ek=ej+1;rotate_left
    · have P6:=bne_iff_ne.2 T
      have z:Hq (B=true):=J (by
        cases B with
        |true=>rfl
        |false=>
          have:=(E.o.1 rfl).1 hk0;rw[o9.o,<-HJ.o,<-j9.o] at this;exact absurd this T)
      clear T E I l5 j9 S R o9 HJ V X K l6 l9 Y l8 M m5 m3;go_big_quiet (fail);go_wp2;go_meet;exact⟨by first|(rw[z.o];done)|(rw[z.o];rfl),J (aD (lS _ _) _)⟩
    have H2:Hq (∀L:0<k,n[k].s.k=(n[k-1]'O).s.k+1):=J (fun L=>by rw[o9.o,<-HJ.o,<-j9.o];exact T);have P6:(ek !=ej+1)=false:=by rw[bne_eq_false_iff_eq];exact T
    clear T;by_cases Q:k+1<n;rotate_left
    · have hd:decide ((k:Int)<(n:Int)-1)=false:=decide_eq_false O
      have P8:decide ((j:Int)+1<(n:Int)-1)=false:=decide_eq_false O;have z:=J (E.o.2 ⟨H2.o,fun h=>absurd h Q⟩);clear E I l5 j9 S R o9 HJ H2 V X K l6 l9 Y l8 M m5 m3;go_big_quiet (fail);go_wp2;go_meet;exact⟨by first|(rw[z.o];done)|(rw[z.o];rfl),J (aD (lS _ _) _)⟩
    have hd:decide ((k:Int)<(n:Int)-1)=true:=decide_eq_true O;have P8:decide ((j:Int)+1<(n:Int)-1)=true:=decide_eq_true O;cases tk with
    |true=>
      have z:Hq (B=true):=J (by
        cases B with
        |true=>rfl
        |false=>
          have:=((E.o.1 rfl).2 Q).1;rw[<-S.o] at this;cases this)
      clear E I l5 j9 S R o9 HJ H2 V X K l6 l9 Y l8 M m5 m3;go_big_quiet (fail);go_wp2;go_meet;exact⟨by first|(rw[z.o];done)|(rw[z.o];rfl),J (aD (lS _ _) _)⟩
    |false=>
      cases mk with
      |true=>
        have z:Hq (B=true):=J (by
          cases B with
          |true=>rfl
          |false=>
            have:=((E.o.1 rfl).2 Q).2;rw[<-R.o] at this;cases this)
        clear E I l5 j9 S R o9 HJ H2 V X K l6 l9 Y l8 M m5 m3;go_big_quiet (fail);go_wp2;go_meet;exact⟨by first|(rw[z.o];done)|(rw[z.o];rfl),J (aD (lS _ _) _)⟩
      |false=>
        have z:=J (E.o.2 ⟨H2.o,fun _=>⟨S.o.symm,R.o.symm⟩⟩);clear E I l5 j9 S R o9 HJ H2 V X K l6 l9 Y l8 M m5 m3;go_big_quiet (fail);go_wp2;go_meet;exact⟨by first|(rw[z.o];done)|(rw[z.o];rfl),J (aD (lS _ _) _)⟩
  obtain⟨rfl,HW⟩:=hcut;have J9:=J (p6.o.trans (HW.o.mono l9));clear ck cm ct j9 S R l5 V X I;cases B with
  |true=>
    have N3:gH (cN p room es)=none:=by
      rw[K8.o,if_neg];intro h;have:=E.o.2 (q8.o.1 h k D);cases this
    have t9:=J N3;have D8:=J (HB.o.trans (J9.o.mono Y));clear N3;go_wp2;go_ret2;exact⟨D8.o,_,by rw[t9.o];rfl,fun l h=>by rw[t9.o] at h;cases h⟩
  |false=>
    have G5:Hq (∀j (h:j<n.length),j<k+1->aR7 n j h):=J (fun j h L=>by
      by_cases e:j=k;subst e;exact E.o.1 rfl;exact L1.o j h O)
    go_wp2;go_roundw
    case rel=>exact⟨k+1,O,by go_num,G5,J9⟩
    case measure=>simp[intOf];omega
theorem uX{w:World}{base g m:Nat}{p:fT}{room:Int}{es:List (Nm×FE)}(h:aV w base g m p room es){L:Nat}(AI:gP L (bH p room es))(hL:L<=1000000000)(I9:base<=w)(hE:∀w',Below base w w' ->aM0 w' ∧aC2 w'):
  Calls Tryz.prog 14 #[(g,0)] w fun e w' =>aT9 w base g m es (eB (bH p room es)) e w' :=by
 have HH:=J h;have K5:=J AI;have HE:=J hE;have m6:=J (fun k G=>(h.lt k G).1);obtain⟨w0,P1⟩:=eX (w.alloc (.cells #[(g,0)] 26));have T0:=bN P1;have T6:=kN P1;have U9:w0.heap.size=w+1:=by rw[P1]<;>simp
 have c0:=T6.c 0;have K6:=J (bW7 (h.a1 T0));obtain⟨N,N9⟩:=eX (bH p room es);have AM:p.off=N.pw.off:=by rw[N9]<;>rfl
 rw[AM] at K6;rw[<-N9];rw[<-N9] at K5;have Y4:=J P1;have R9:=J T6;have P5:=J T0;have G9:=J N9;clear h AI hE T6 T0 P1 N9 AM;go_enter Tryz.func14,Tryz.ntmps14;go_upto_region 1 with fail
 rw[<-Y4.o];by_cases ho:N.pw.off=true
 ·have HO:=J (vC ho)
  rw[ho] at K6;clear ho;go_wp2_with fail;refine K6.o.mono ?_;rintro e w1 ⟨rfl,rfl⟩;go_wp2;go_ret2;rw[HO.o];exact⟨es,by rw[G9.o];exact HH.o.a1 P5.o,by rw[G9.o]<;>rfl,Fr.b9 _ P5.o,fun k G=>.inl G,rfl⟩
 have Q9:N.pw.off=false:=by simpa using ho
 have HO:=J (yZ Q9);have M4:=J Q9;rw[Q9] at K6;obtain⟨w1,P2⟩:=eX (w0.alloc (.cells #[.int .i64 0,.int .i64 0,.slice none 0 0,(g,0),.int .i64 0] 53));have T3:=bN P2;have T5:=kN P2;have CA:w1.heap.size=w+1+1:=by rw[P2,<-U9]<;>simp
 rw[U9] at T5;have T7:pQ w base g m es w (w.heap.size+1) N 0 0 (.slice none 0 0) 0 w1 es:=by
  have N5:=P5.o.trans (T3.mono O);refine⟨by rw[G9.o];exact HH.o.a1 N5,by rw[G9.o]<;>rfl,T5,R9.o.a1 T3 R9.o.lt,Fr.b9 _ N5,fun k G=>.inl G,lR _,O⟩
 have S4:=J T7;have Y5:=J P2;have D9:=J (rJ T7.c8 (by have:=tL (pw:=p) (room:=room) (es:=es) (L:=L) (by rw[<-G9.o];exact K5.o);omega));clear ho Q9 P2 T3 T5 T7;go_upto_region 3 with(refine K6.o.mono ?_;rintro e w1 ⟨rfl,rfl⟩)
 go_upto_region 4 with fail
 rw[<-Y5.o];obtain⟨B,hB⟩:∃B:Bool,B=true↔(gA N).1≠0:=by
  by_cases hh:(gA N).1≠0;exact⟨true,by simp[hh]⟩;exact⟨false,by simpa using hh⟩
 have C5:=J hB;clear hB;go_cut [32] from 22 to 32 (fun c wx=>∃E6,c=.bool B∧Hq (pQ w base g m es w (w.heap.size+1) (gA N).2 0 0 (.slice none 0 0) (gA N).1 wx E6))
 case first=>
  have k0:=S4.o.bx.c 0;go_wp2_with fail;refine D9.o.mono ?_;rintro e w2 ⟨v2,rfl,AZ,D1⟩;obtain⟨A2,c2,rfl,q1,q2,q3⟩:=AZ.b3;rw[lU] at q1⊢;have K0:=J (S4.o.a1 D1);have CR:es.length<=1000000000:=by have:=(tL (pw:=p) (room:=room) (es:=es) (L:=L) (by rw[<-G9.o];exact K5.o)).2;omega
  have D8:=J (aC6 A2 (es.map (·.1)) c2 aJ w2 (by rw[List.map_map];exact q3) (by rw[lU];omega));rw[lU] at D8;have N4:(es.map (·.1)).any (fun n=>n==aJ)=N.fs.any fun q=>q.1==aJ:=by
   rw[G9.o];show _=(bI FE.f es).any _
   unfold bI;rw[List.any_map,List.any_map];rfl
  rw[N4] at D8;have CU:=D1.size;clear AZ D1 q3 D9 N4 k0;change Hq (Calls Tryz.prog _ #[.slice A2 es c2,.string ⟨#[109,101,116,97,46,110,101,119]⟩] w2 _) at D8;by_cases hA:(N.fs.any fun q=>q.1==aJ)=true;rotate_left
  ·have q8:gA N=(0,N):=by unfold gA;rw[if_neg hA]
   have K7:=eq_false_of_ne_true hA;rw[K7] at D8;have X8:=J q8;clear hA K7 q8;go_wp2_with fail;refine D8.o.mono ?_;rintro e D ⟨rfl,rfl⟩;go_wp2;go_meet;refine⟨es,congrArg Value.bool ?_,J (by rw[X8.o];exact K0.o)⟩;cases B with
   |true=>exact absurd (by rw[X8.o]) (C5.o.1 rfl)
   |false=>rfl
  have q8:gA N=N.b6 aJ:=by unfold gA;rw[if_pos hA]
  rw[hA] at D8;have X7:=J q8;clear hA q8;go_wp2_with fail;refine D8.o.mono ?_;rintro e D ⟨rfl,rfl⟩;go_wp2_with fail;refine(show Calls _ _ _ w2 _ from uV (gj:=w.heap.size+1) (g:=g) aJ δ w2).mono ?_;rintro e D ⟨v3,rfl,E9,⟨F3,g9,rfl⟩,_,j8⟩;have AQ:=E9.size;have D3:Below w2 w2 (D.alloc (.cells #[.func (.func F3) #[] g9] 98)):=E9.alloc E9.size _;have N2:=K0.o.a1 D3;have f9:dM (D.alloc (.cells #[.func (.func F3) #[] g9] 98)) (fun k=>w2.heap.size<=k∧k<D.heap.size+1) (D,0) [.func (.func F3) #[] g9]:=fun _=>⟨D,0,rfl,⟨AQ,O⟩,σ,fun j u hu=>by
   rw[Nat.zero_add];exact fO (aS.new D 98 #[.func (.func F3) #[] g9]) j u hu⟩
  have Z6:∀k (h:k<[Value.func (.func F3) #[] g9].length) (h' :k<[aQ.rm aJ].length),fH (D.alloc (.cells #[.func (.func F3) #[] g9] 98)) (fun k=>w2.heap.size<=k∧k<D.heap.size+1) (w.heap.size+1) g [Value.func (.func F3) #[] g9][k] [aQ.rm aJ][k]:=fun k h h' =>by
   obtain rfl:k=0:=by simp at h;exact h
   have N7:=(lS D D).alloc (lR _) (.cells #[.func (.func F3) #[] g9] 98);exact((j8 (fun k=>w2.heap.size<=k∧k<D.heap.size) (fun k z U=>⟨z,U⟩)).b1 N7.size (fun k G=>N7.block k G.2)).mono (fun k G=>⟨G.1,O⟩)
  have m9:=J (lQ N2.c8 N2.jb O (D,0) [.func (.func F3) #[] g9] [.rm aJ] 1 f9 rfl Z6 (fun k G=>⟨θ,fun X=>ω1 ((K0.o.c8.lt k X).2),ω1 K0.o.jb.lt⟩) (fun w' hb' =>(HE.o w' ((N2.k2 m6.o I9).trans hb')).1) (L:=L) (by rw[DkD.h9 N K0.o.fs];exact K5.o) (by show L+(0+0)<=_;omega) σ);rw[DkD.h9 N K0.o.fs] at m9;have O9:cF [.rm aJ] N=gA N:=by
   rw[X7.o];exact zX (.rm aJ) N
  rw[O9] at m9;have X9:=J N2;clear j8 E9 D3 N2 f9 Z6 O9 X7 D8;go_wp2_with fail;refine m9.o.mono ?_;rintro e w4 ⟨rfl,N0⟩;obtain⟨H,Z2,_,_⟩:=X9.o.e5 N0;have BJ:=J Z2;clear Z2 N0 m9 X9;go_wp2;go_meet;refine⟨H,congrArg Value.bool ?_,BJ⟩;cases B with
  |true=>exact bne_iff_ne.2 (C5.o.1 rfl)
  |false=>
   rw[bne_eq_false_iff_eq];exact Classical.byContradiction fun hh=>by have:=C5.o.2 hh;cases this
 obtain⟨E6,rfl,P3⟩:=hcut;clear S4 Y5 K6 D9 c0 R9 P5 Y4 U9 CA;cases B with
 |true=>
  have AF:=C5.o.1 rfl;have hr:eB N=((gA N).1,none,(gA N).2):=by rw[HO.o,if_neg AF]
  have HR:=J hr;obtain⟨rc,L2⟩:=eX ((gA N).1);have j4:wc.cell? ⟨w.heap.size+1,4,none⟩=some (.int .i64 rc):=by rw[L2];exact P3.o.jb.cell 4
  have BK:=J L2;clear AF hr L2;go_wp2_with fail;go_quiet (fail);go_wp2;go_ret2;exact(P3.o.a1 (aD (lS _ wc) _)).h2 rc (by rw[BK.o];exact HR.o)
 |false=>
  have A:=Classical.byContradiction fun hh=>by have:=C5.o.2 hh;cases this
  have hr:eB N=jP (gA N).2:=by rw[HO.o,if_pos A]
  have HR:=J hr;have I5:=J (aO8 M4.o A);have l9:=J (aJ6 K5.o);have K7:=P3.o;rw[A] at K7;have B6:=J K7;obtain⟨R,Z8⟩:=eX ((gA N).2);rw[<-Z8] at HR I5 l9 B6;clear A hr K7 Z8 P3 C5 HO K5 M4;have k0:=B6.o.bx.c 0;have J0:=DkD.h9 R B6.o.fs;have U5:=tL (pw:=R.pw) (room:=R.room) (es:=E6) (L:=L) (by rw[J0];exact l9.o);have S0:=J (bH0 B6.o.c8 O (fun q Q=>by
   have:=l9.o.nm (q.1,q.2.f) (by rw[<-B6.o.fs];exact mF.2 ⟨q,Q,rfl⟩);exact this) (fun q Q=>ω1 (U5.1 q Q)) I5.o (HE.o wc (B6.o.k2 m6.o I9)).2)
  rw[J0] at S0;have P9:=J U5;clear J0 U5;go_wp2_with fail;refine S0.o.mono ?_;rintro e D ⟨E9,v3,rfl,Z1⟩;have n9:=J (B6.o.a1 E9);have AQ:=E9.size;obtain⟨K,Q6⟩:=eX wc.heap.size;have BT:w+1<K:=by rw[Q6];exact B6.o.jb.lt
  have P7:=J (show∀k,aI g m E6 k->k<K from fun k G=>by rw[Q6];exact(B6.o.c8.lt k G).2);have M2:=J Q6;clear Q6;have M0:=J Z1;have C8:=J (bH1 n9.o.c8 (fun q Q=>ω1 (P9.o.1 q Q)) n9.o.jb ⟨rfl,rfl⟩);rw[DkD.h9 R n9.o.fs] at C8;clear E9 Z1 S0 B6 k0;obtain⟨M,hM⟩:=eX (dQ R);obtain⟨LJ,Q2⟩:=eX (gH R);have G4:jP R=aK1 M LJ R:=by rw[hM,Q2];exact qP R
  have l4:=J G4;have O3:∀l,LJ=some l->l.length<=R.fs∧(∀y∈l,gU y.1∧(1<=y.1.k∧y.1.k<=999999999)∧(y.1.a7=[]∧y.1.l=[]∨pX y.1∧1<=y.1.a8)∧(∀e∈y.1.l,e.b.length<=65535)∧y.1.l.length<=1000000000)∧eT l=true:=fun l hl=>yW (d:=R) (by rw[<-Q2];exact hl) (fun q Q=>by
   rw[<-n9.o.fs] at Q;obtain⟨x,hx,rfl⟩:=mF.1 Q;have:=P9.o.1 x hx;show x.2.f.b.length<=_
   omega)
  have C7:=J O3;have BH:=J (show∀t v,M=some (t,v)->(I6 t)∧(I6 v) from fun t v e=>rW (d:=R) (by rw[<-hM];exact e));rw[<-hM] at C8;rw[<-Q2] at M0⊢;clear hM Q2 G4 O3;rcases M with _|⟨mt,mv⟩
  ·clear M0 C7
   go_wp2_with fail;refine C8.o.mono ?_;rintro e w4 ⟨rfl,p9,t,v,E7,L1⟩;have B7:=J (n9.o.put p9 E7);clear p9 E7 L1 C8 n9;go_wp2;go_ret2;exact B7.o.h2 53 (by rw[HR.o,l4.o];rfl)
  rcases LJ with _|l
  ·clear M0 C7
   go_wp2_with fail;refine C8.o.mono ?_;rintro e w4 ⟨rfl,p9,t,v,E7,L1⟩;have B7:=J (n9.o.put p9 E7);clear p9 E7 L1 C8 n9;go_wp2;go_ret2;exact B7.o.h2 53 (by rw[HR.o,l4.o];rfl)
  obtain⟨V,f9,D4,O1⟩:=M0.o l rfl;obtain⟨Al,cl,rfl,U0,BP,_⟩:=aK f9;have Q5:=C7.o l rfl;have O5:hZ D (fun k=>K<=k∧k<D.heap.size) Al V:=hZ.e8 f9 O1 (fun q Q=>(Q5.2.1 q.o (by rw[<-D4];exact mF.2 ⟨q,Q,rfl⟩)).1) (fun k z U=>⟨by rw[M2.o];exact z,U⟩);have J3:V.length=l:=by rw[<-D4,lU]
  have BZ:V.length<=1000000000:=by
   have z:=Q5.1;have U:=P9.o.2;have h3:R.fs.length=E6:=by rw[<-n9.o.fs];simp
   omega
  have I2:=J O5;have l8:=J D4;have J9:=J Q5;clear f9 D4 O1 Q5 O5 M0 C7 J3;go_upto_region 7 with fail
  go_cut [48] from 42 to 48 (fun c wx=>c=.bool false∧Hq (pQ w base g m es w (w.heap.size+1) R mt mv (.slice none 0 0) 0 wx E6)∧Hq (hZ wx (fun k=>K<=k∧k<D.heap.size) Al V)∧D.heap.size<=wx)
  case first=>
   go_wp2_with fail;refine C8.o.mono ?_;rintro e w4 ⟨rfl,p9,t,v,E7,L1⟩;have e1:=L1 _ rfl;injection e1 with e1 e2
   subst e1 e2;have B7:=J (n9.o.put p9 E7);have B9:=J (I2.o.b1 p9.size (fun k G=>p9.block k G.2 (fun e=>by injection e with e;have:=G.1;omega)));have CC:=p9.size;clear p9 E7 L1 C8 n9 I2;go_wp2;go_meet;exact⟨rfl,B7,B9,CC⟩
  obtain⟨rfl,B7,B9,V6⟩:=hcut;clear C8 n9 I2;obtain⟨B3,Y6⟩:∃B:Bool,B=true↔∃r q,V=r++[q]∧q.s.a7=[]:=by
   by_cases hh:∃r q,V=r++[q]∧q.s.a7=[]
   exact⟨true,by simp[hh]⟩;exact⟨false,Iff.intro (fun h=>by cases h) (fun h=>absurd h hh)⟩
  have D7:=J Y6;clear Y6;go_upto_region 10 with fail
  go_cut [63] from 51 to 63 (fun c wx=>c=.bool B3∧wx=wc)
  case first=>
   rcases mJ V with A|⟨r,q,A⟩
   ·have hB:B3=false:=by
     cases B3 with
     |false=>rfl
     |true=>
      obtain⟨r,q,z,_⟩:=D7.o.1 rfl;rw[A] at z;simp at z
    subst A;subst hB;clear D7 J9 B9 l8;go_wp2;go_meet;exact⟨rfl,rfl⟩
   rw[mA] at A;have J3:V.length=r+1:=by rw[A];simp
   obtain⟨P,rfl,Q1,Q3,a9⟩:=B9.o.addr O;have G2:V[r.length]'O=q:=by simp[A]
   have c4:wc.cell? (P,r.length*6+4)=some (.slice q.ae q.s.a7 q.ce):=(a9 r O).2 4 _ (by rw[G2];rfl);have Y8:B3=true↔q.s.a7.length=0:=by
    rw[D7.o];constructor;rintro⟨r',q',z,U⟩;rw[A] at z;have:=List.append_inj_right' z rfl;injection this with this _
    subst this;rw[U];rfl;intro z;exact⟨r,q,A,mD z⟩
   have L7:=J Y8;obtain⟨nk,AH⟩:=eX q.s.a7.length;rw[<-AH] at c4 L7;obtain⟨W,C1⟩:=eX r.length;rw[<-C1] at c4;have R3:(V:Int)-1=(W:Int):=O;have R4:IntKind.i64.wrap (W:Int)=(W:Int):=mH _ O;have J2:(W:Int)<(V:Int):=O;clear A G2 Y8 a9 AH C1 B9 l8 J9 D7 J3;by_cases hz:nk=0
   ·have hB:=L7.o.2 hz
    subst hz;subst hB;clear L7;go_wp2;go_meet;exact⟨rfl,rfl⟩
   have hB:B3=false:=by
    cases B3 with
    |false=>rfl
    |true=>exact absurd (L7.o.1 rfl) hz
   subst hB;have DA:((nk:Int)==0)=false:=by simpa using hz
   clear L7;go_wp2;go_meet;exact⟨rfl,rfl⟩
  obtain⟨rfl,rfl⟩:=hcut;have M7:=J (bY9 l8.o J9.o.2);go_upto_if 63 with fail
  go_cut [5] from 64 to 83 (fun v wx=>∃(a:List cB) (d2:DkD) (H:List (Nm×FE)),v=.slice Al a cl∧a.length<=V∧D.heap.size<=wx∧Hq (pQ w base g m es w (w.heap.size+1) d2 mt mv (.slice none 0 0) 0 wx H)∧Hq (hZ wx (fun k=>K<=k∧k<D.heap.size) Al a)∧Hq (eB N=cQ (a.map cB.o) (mt,mv) d2)∧Hq (gP L d2)∧Hq (∀q∈a,sR q)∧Hq (∀k,K<=k∧k<D.heap.size->¬aI g m H k))
  case first=>
   cases B3 with
   |false=>
    have U8:¬∃r q,V=r++[q]∧q.s.a7=[]:=fun hh=>by have:=D7.o.2 hh;cases this
    have D0:∀q∈V,sR q:=fun q Q=>by
     rcases mJ V with A|⟨r,q2,A⟩
     rw[A] at Q;cases Q;rw[mA] at A;rw[A] at Q;rcases mB.1 Q with z|z
     obtain⟨i,hi,rfl⟩:=List.getElem_of_mem z;have:=M7.o.1 i (by rw[A];simp;omega);simp only[A,List.getElem_append_left hi] at this;exact this;obtain rfl:=lY.1 z;exact M7.o.2 q (by rw[A];simp) (fun U=>U8 ⟨r,q,A,U⟩)
    have t9:eB N=cQ (V.map cB.o) (mt,mv) R:=by
     rw[HR.o,l4.o,<-l8.o];rcases mJ V with A|⟨r,q2,A⟩
     rw[A];rfl;rw[mA] at A;rw[A];show gC _ _ _=_
     rw[rY,if_neg];intro z;exact U8 ⟨r,q2,A,by simpa using z⟩
    have l5:=J D0;have j6:=J t9;have I3:=J (show∀k,K<=k∧k<D.heap.size->¬aI g m E6 k from fun k G X=>ω1 (P7.o k X));clear U8 D0 t9;go_wp2;go_meet;exact⟨V,R,E6,rfl,lR _,V6,B7,B9,j6,l9,l5,I3⟩
   |true=>
    obtain⟨r,q,A,AO⟩:=D7.o.1 rfl;have J3:V.length=r+1:=by rw[A];simp
    obtain⟨P,rfl,Q1,Q3,a9⟩:=B9.o.addr O;have G2:V[r.length]'O=q:=by simp[A]
    have c0:wc.cell? (P,r.length*6)=some (.int .i64 q.s.k):=(a9 r O).2 0 _ (by rw[G2];rfl);have O7:1<=q.s.k∧q.s.k<=999999999:=(J9.o.2.1 q.o (by rw[<-l8.o,A];simp)).2.1;have O8:=fJ q.s.k O;have o8:=J (jI P (r.length*6) q.s.k O wc c0 (HE.o wc (B7.o.k2 m6.o I9)).1);have Z0:hZ wc (fun k=>K<=k∧k<D.heap.size) (P,0) r:=by
     have z:=B9.o.take r;rw[A] at z;simpa using z
    have X2:=J Z0;have E8:∀x∈r,sR x:=fun x hx=>by
     obtain⟨i,hi,rfl⟩:=List.getElem_of_mem hx;have:=M7.o.1 i O;simp only[A,List.getElem_append_left hi] at this;exact this
    have l5:=J E8;have t9:eB N=if(R.b6 (aE q.s.k)).1=0 then cQ (r.map cB.o) (mt,mv) (R.b6 (aE q.s.k)).2 else((R.b6 (aE q.s.k)).1,none,(R.b6 (aE q.s.k)).2):=by
     rw[HR.o,l4.o,<-l8.o,A];show gC _ _ _=_
     rw[rY,if_pos (by simp[AO])]
    have j6:=J t9;obtain⟨nm,C2⟩:=eX (aE q.s.k);rw[<-C2] at o8 j6 O8;have S6:=J (show gP L (R.b6 nm).2 from l9.o.run (.rm nm));obtain⟨W,C1⟩:=eX r.length;have S3:=J C1;rw[<-C1] at o8;have R3:(V:Int)-1=(W:Int):=O;have R4:IntKind.i64.wrap (W:Int)=(W:Int):=mH _ O;have J2:(W:Int)<(V:Int):=O;have BV:W<=cl:=O;clear A G2 a9 C2 C1 B9 l8 J9 D7 J3 Z0 E8 t9 AO O7 c0 M7 l4;go_wp2_with fail;refine o8.o.mono ?_;rintro e w5 ⟨rfl,p4⟩;have J4:=J (B7.o.a1 p4);have C4:=J p4;have R1:=p4.size;clear p4 o8;go_wp2_with fail;refine(show Calls _ _ _ w5 _ from uV (gj:=w.heap.size+1) (g:=g) nm O w5).mono ?_;rintro e S ⟨v6,rfl,p6,⟨F6,d8,rfl⟩,_,j8⟩;have m9:=J (bG2 J4.o p6 (.rm nm) F6 d8 j8 m6.o I9 HE.o l9.o (by show L+0<=_;omega));have L3:=p6.size;clear p6 j8 l9;go_wp2_with fail;refine m9.o.mono ?_;rintro e w7 ⟨rfl,H,Z3,O2,J1⟩;have CV:=J1.size;have Y9:∀k,K<=k∧k<D.heap.size->w7.heap[k]? =wc.heap[k]? :=fun k G=>(J1.block k O (by
     rintro(z|z);have:=P7.o k z;omega;omega)).trans (C4.o.block k O)
    have I1:=J (X2.o.b1 O Y9);have I3:=J (show∀k,K<=k∧k<D.heap.size->¬aI g m H k from fun k G X=>by
     rcases O2 k X with z|z
     have:=P7.o k z;omega;omega)
    have C0:=J Z3;have V2:D.heap.size<=w7:=O;clear Z3 O2 J1 Y9 m9 C4 X2;change Hq (pQ w base g m es w (w.heap.size+1) (R.b6 nm).2 mt mv (.slice none 0 0) (aQ.run R (aQ.rm nm)).1 w7 H) at C0;change Hq (eB N=if(aQ.run R (aQ.rm nm)).1=0 then cQ (r.map cB.o) (mt,mv) (R.b6 nm).2 else((aQ.run R (aQ.rm nm)).1,none,(R.b6 nm).2)) at j6;obtain⟨rc,L2⟩:=eX ((aQ.run R (aQ.rm nm)).1);rw[<-L2] at C0 j6⊢;clear L2;by_cases hz:rc=0
    ·subst hz
     have S9:=J (j6.o.trans (if_pos rfl));clear j6;go_wp2;go_meet;exact⟨r,(R.b6 nm).2,H,by rw[S3.o],ω1 S3.o,V2,C0,I1,S9,S6,l5,I3⟩
    have S9:=J (j6.o.trans (if_neg hz));have BO:=bne_iff_ne.2 hz;have j4:=C0.o.jb.c 4;clear j6 hz;go_wp2_with fail;go_quiet (fail);go_wp2;go_ret2;exact(C0.o.a1 (aD (lS _ w7) _)).h2 rc S9.o
  obtain⟨a,d2,H,rfl,BY,R4,J4,X3,j6,S5,l5,I3⟩:=hcut;have BW:a.length<=1000000000:=O;have BQ:a<=cl:=O;obtain⟨C,Q8⟩:=eX wc.heap.size;have I0:=J (show∀k,aI g m H k->k<C from fun k G=>by rw[Q8];exact(J4.o.c8.lt k G).2);have CS:w+1<C:=by rw[Q8];exact J4.o.jb.lt
  rw[<-Q8] at R4;have CH:C<=wc:=O;obtain⟨sl,AV⟩:=eX (a.map cB.s);have M8:=J AV;clear Q8 AV l8 J9 D7 B9 B7 M7 l4 HR l9 BZ P7 M2 I5 P9 BY U0;go_upto_block 0 with fail
  go_cut [] from 86 to 121 (fun wx=>∃(I:Nat) (sv:Value),I<=a∧(0<a.length->I<a)∧C<=wx∧Hq (dC [] sl=sl.drop I)∧Hq (pQ w base g m es w (w.heap.size+1) d2 mt mv sv 0 wx H)∧Hq (hZ wx (fun k=>K<=k∧k<D.heap.size) Al a)∧Hq (Own wx C 108 sv (ptrs Al I a)))
  case first=>
   go_wp2_with fail;go_loopw [86,8,9] (fun i _ _ wr=>∃(k I:Nat) (sv:Value),k<=a.length∧i=.int .i64 k∧I<=k∧(0<k->I<k)∧C<=wr∧Hq (dC [] (sl.take k)=(sl.take k).drop I)∧Hq (pQ w base g m es w (w.heap.size+1) d2 mt mv sv 0 wr H)∧Hq (hZ wr (fun k=>K<=k∧k<D.heap.size) Al a)∧Hq (Own wr C 108 sv (ptrs Al I k))) (fun i _ _ _=>a.length-(intOf i).toNat)
   case atStart=>exact⟨0,0,_,O,rfl,O,O,CH,J (by simp[dC]),J4,X3,J (Own.nil _ _ _)⟩
   obtain⟨k,I,sv,G,rfl,L4,D5,V7,n5,HA,HL,HO⟩:=hrel;by_cases hlt:k<a;rotate_left
   ·obtain rfl:k=a:=O
    go_wp2;go_meet;exact⟨I,sv,L4,D5,V7,J (by have z:=n5.o;rw[List.take_of_length_le (by rw[M8.o,lU];exact lR _)] at z;exact z),HA,HL,HO⟩
   obtain⟨P,rfl,Q1,Q3,a9⟩:=HL.o.addr O;have AU:∀i (hi:i<a.length),sl[i]'(by rw[M8.o,lU];exact hi)=a[i].s:=fun i hi=>by simp only[M8.o,List.getElem_map]
   have AE:k<sl:=by rw[M8.o,lU];exact hlt
   obtain⟨Bg,Y7⟩:∃B:Bool,B=true↔∃A:0<k,sl[k].h0 (sl[k-1]'O)=false:=by
    by_cases hh:∃A:0<k,sl[k].h0 (sl[k-1]'O)=false
    exact⟨true,Iff.intro (fun _=>hh) (fun _=>rfl)⟩;exact⟨false,Iff.intro (fun h=>by cases h) (fun h=>absurd h hh)⟩
   have J6:=J Y7;have Y2:=J AU;have R8:=J a9;clear Y7 AU a9;go_upto_region 18 with fail
   go_cut [104] from 93 to 104 (fun c wx=>c=.bool Bg∧Hq (Below wr wr wx))
   case first=>
    by_cases hk0:0<k;rotate_left
    ·have T4:Bg=false:=by
      cases Bg with
      |false=>rfl
      |true=>exact absurd (J6.o.1 rfl).1 hk0
     obtain rfl:k=0:=O;subst T4;go_wp2;go_meet;exact⟨rfl,J (lS _ _)⟩
    obtain⟨j,hj⟩:∃j,k=j+1:=⟨k-1,O⟩
    have U6:j<a:=O;have U4:=(R8.o k hlt).1.goes (R8.o j U6).1 (ω1 ((l5.o _ (lX U6)).len)) (l5.o _ (lX hlt)).a8;have AD:sl[k-1]'O=a[j].s:=by
     have e:k-1=j:=O;simp only[e];exact Y2.o j U6
    obtain⟨gb,U3⟩:=eX (a[k].s.h0 a[j].s);rw[<-U3] at U4;have T4:Bg= ! gb:=by
     have z:Bg=true↔gb=false:=by
      rw[J6.o,U3,<-Y2.o k hlt,<-AD];exact⟨fun⟨_,h⟩=>h,fun h=>⟨hk0,h⟩⟩
     cases Bg<;>cases gb<;>simp_all
    have P8:=J U4;have R3:(k:Int)-1=(j:Int):=O;have R4:IntKind.i64.wrap (j:Int)=(j:Int):=mH _ O;have BU:(j:Int)<(a:Int):=O;subst T4;clear U4 AD U3 hj J6;cases gb with
    |true=>
     go_wp2_with fail;refine P8.o.mono ?_;rintro e w2 ⟨rfl,D1⟩;have R7:=J D1;clear D1 P8;go_wp2;go_meet;exact⟨rfl,R7⟩
    |false=>
     go_wp2_with fail;refine P8.o.mono ?_;rintro e w2 ⟨rfl,D1⟩;have R7:=J D1;clear D1 P8;go_wp2;go_meet;exact⟨rfl,R7⟩
   obtain⟨rfl,J7⟩:=hcut;have CX:=J7.o.size;have J5:=J (HA.o.a1 J7.o);have S2:=J (HL.o.b1 J7.o.size (fun k G=>J7.o.block k O));have Y0:=J (Own.a1 HO.o J7.o (lR _));have CI:C<=wc:=O;clear J7 HA HL HO;go_upto_if 104 with fail
   go_cut [] from 105 to 108 (fun wx=>∃(n8:Nat) (V8:Value),n8<=k∧C<=wx∧Hq (dC [] (sl.take (k+1))=(sl.take (k+1)).drop n8)∧Hq (pQ w base g m es w (w.heap.size+1) d2 mt mv V8 0 wx H)∧Hq (hZ wx (fun k=>K<=k∧k<D.heap.size) (P,0) a)∧Hq (Own wx C 108 V8 (ptrs (P,0) n8 k)))
   case first=>
    cases Bg with
    |true=>
     obtain⟨A,AG⟩:=J6.o.1 rfl;have M6:=J (bD1 AE A D5 n5.o AG);have j2:=J5.o.jb.c 2;have z2:wc.frozen? ⟨w.heap.size+1,2,none⟩=false:=J5.o.jb.a6 _;have BE:=J (aS.b8 J5.o.jb 2 (.slice none 0 0));clear A AG;go_wp2;go_meet;refine⟨k,.slice none 0 0,lR _,ω1 ((aA wc (w.heap.size+1) 2 (.slice none 0 0)).size),M6,J (J5.o.put (aA wc (w.heap.size+1) 2 _) BE.o),J (S2.o.b1 (aA wc (w.heap.size+1) 2 _).size (fun q Q=>Below.heap_setCell _ _ _ _ (by show q≠w.heap.size+1;omega))),J ?_⟩;unfold ptrs;rw[Nat.sub_self];exact Own.nil _ _ _
    |false=>
     have AC:∀A:0<k,sl[k].h0 (sl[k-1]'O)=true:=fun A=>by
      cases hh:sl[k].h0 (sl[k-1]'O) with
      |true=>rfl
      |false=>have:=J6.o.2 ⟨A,hh⟩;cases this
     have M6:=J (aR9 AE D5 n5.o L4 AC);clear AC;go_wp2;go_meet;exact⟨I,sv,L4,CI,M6,J5,S2,Y0⟩
   obtain⟨n8,V8,V0,CL,M6,R6,X6,S7⟩:=hcut;clear J5 S2 Y0 n5 J6 R8;obtain⟨Ax,cx,V1,_,_,_⟩:=S7.o.b3;subst V1;have Y1:=J (aP3 (P,0) n8 k);have D3:=bA wc (.cells #[(P,k*6)] 108);have BB:=J (R6.o.a1 D3);have BG:=J (X6.o.b1 D3.size (fun q Q=>D3.block q O));have S8:=J (Own.a1 S7.o D3 (lR _));have j9:=cS wc 108 [(P,k*6)];have I8:=J j9;have j2:=R6.o.jb.c 2;have CW:=D3.size;have BI:Hq (∀v6 S,Own S C 108 v6 (ptrs (P,0) n8 k++[Value.pointer (P,k*6)])->(wc.alloc (.cells #[(P,k*6)] 108)).grownBy S (Value.slice Ax (ptrs (P,0) n8 k).length cx).ownBlock->pQ w base g m es w (w.heap.size+1) d2 mt mv (.slice Ax (ptrs (P,0) n8 k).length cx) 0 S H∧S.cell? ⟨w.heap.size+1,2,none⟩=some (.slice Ax (ptrs (P,0) n8 k).length cx)∧S.frozen? ⟨w.heap.size+1,2,none⟩=false∧∃A6 c6,v6=.slice A6 (ptrs (P,0) n8 k++[Value.pointer (P,k*6)]).length c6):=J (fun v6 S m3 L0=>by
    have K8:=BB.o.grown L0 (fun q Q=>by
     have z:=S8.o.lt q Q;exact⟨O,O,fun X=>ω1 (I0.o q X),O⟩)
    obtain⟨A6,c6,V4,_,_,_⟩:=m3.b3;exact⟨K8,K8.jb.cell 2,K8.jb.a6 _,A6,c6,V4⟩)
   clear D3 j9 R6 X6 S7;go_wp2_with (at_builtin;go_must (refine aP rfl (.tmp 114) (.tmp 116) 49 rfl C 108 (.pointer none) 8 Tryz.underlying49 oI rfl _ _ rfl S8.o (wc.heap.size+1) (some ⟨wc.heap.size,0,none⟩) 1 1 [.pointer (some ⟨P,k*6,none⟩)] rfl rfl I8.o (by simp[Value.oneCell']) (by rw[Y1.o];unfold maxLen;omega) (by rw[Y1.o];omega) (by simp<;>omega) ?_;intro v6 S m3 L0 BS;have K3:=J m3;have BC:=J L0;have L3:=L0.size;obtain⟨K8,DB,DC,A6,c6,V4⟩:=BI.o v6 S m3 L0;subst V4;have G6:=J K8;clear m3 L0 BS K8));go_roundw
   case rel=>
    have Q4:=aA S (w.heap.size+1) 2 (.slice A6 ((ptrs (P,0) n8 k).length+1) c6);have CY:=Q4.size;have O6:=K3.o;rw[lT] at O6;refine⟨k+1,n8,.slice A6 ((ptrs (P,0) n8 k).length+1) c6,O,by go_num,O,fun _=>O,O,M6,J (G6.o.put Q4 (aS.b8 G6.o.jb 2 _)),J ((BG.o.b1 L3 (fun q Q=>BC.o.block q O (fun e=>ω1 (S8.o.lt q e.symm)))).b1 Q4.size (fun q Q=>Below.heap_setCell _ _ _ _ (by show q≠w.heap.size+1;omega))),J ?_⟩;rw[bI5 _ V0];exact Own.j5 O6 Q4 O
   case measure=>simp[intOf];omega
  obtain⟨I,sv,L4,D5,CK,n5,G6,X4,K3⟩:=hcut;obtain⟨As,cs,V1,N8,U1,_⟩:=K3.o.b3;subst V1;obtain⟨ls,Q7⟩:=eX ((ptrs Al I a).length);have O4:ls=a-I:=by rw[Q7];exact aP3 _ _ _
  rw[<-Q7] at G6 K3 N8;have CN:=J Q7;have CG:(a:Int)-(ls:Int)=(I:Int):=O;have CJ:IntKind.i64.wrap (I:Int)=(I:Int):=mH _ O;have CF:I<=cl:=O;have AW:(I:Int)<=(cl:Int):=O;have j2:=G6.o.jb.c 2;have S1:=J O4;clear Q7 O4 J4 X3;go_upto_block 2 with fail
  go_cut [10] from 134 to 145 (fun dv wx=>∃(dv1:Value) (vs:List Value),dv=dv1∧C<=wx∧Hq (pQ w base g m es w (w.heap.size+1) d2 mt mv (.slice As ls cs) 0 wx H)∧Hq (hZ wx (fun k=>K<=k∧k<D.heap.size) Al a)∧Hq (Own wx C 108 (.slice As ls cs) (ptrs Al I a))∧Hq (mQ wx w K D C (w.heap.size+1) g dv1 vs ((a.take I).map fun q=>aQ.rm (aE q.s.k))))
  case first=>
   go_wp2_with fail;go_loopw [134,10,12] (fun i dv _ wr=>∃(k:Nat) (vs:List Value),k<=I∧i=.int .i64 k∧C<=wr∧Hq (pQ w base g m es w (w.heap.size+1) d2 mt mv (.slice As ls cs) 0 wr H)∧Hq (hZ wr (fun k=>K<=k∧k<D.heap.size) Al a)∧Hq (Own wr C 108 (.slice As ls cs) (ptrs Al I a))∧Hq (mQ wr w K D C (w.heap.size+1) g dv vs ((a.take k).map fun q=>aQ.rm (aE q.s.k)))) (fun i _ _ _=>I-(intOf i).toNat)
   case atStart=>exact⟨0,[],O,rfl,CK,G6,X4,K3,J mQ.nil⟩
   obtain⟨k,vs,G,rfl,V7,HA,HL,HO,HD⟩:=hrel;by_cases hlt:k<I;rotate_left
   ·obtain rfl:k=I:=O
    go_wp2;go_meet;exact⟨_,vs,rfl,V7,HA,HL,HO,HD⟩
   have U7:k<a:=O;obtain⟨P,rfl,Q1,Q3,a9⟩:=HL.o.addr O;obtain⟨q,Q⟩:=eX (a[k]);have Z:=(a9 k U7).2;rw[<-Q] at Z;have c0:wr.cell? (P,k*6)=some (.int .i64 q.s.k):=Z 0 _ rfl;have c1:=Z 1 _ rfl;have c2:=Z 2 _ rfl;have c3:wr.cell? (P,k*6+3)=some (.slice q.al q.rs q.cl):=Z 3 _ rfl;have c4:wr.cell? (P,k*6+4)=some (.slice q.ae q.s.a7 q.ce):=Z 4 _ rfl;have c5:=Z 5 _ rfl;have O7:=(l5.o q (by rw[Q];exact lX U7)).k;have AX:a.take (k+1)=a.take k++[q]:=by rw[List.take_add_one,lW U7,Q];rfl
   have BL:=J AX;obtain⟨wb,C3⟩:=eX (wr.alloc (.cells #[q.s.k,q.s.a8,q.s.c6,.slice q.al q.rs q.cl,.slice q.ae q.s.a7 q.ce,.bool q.tn] 106));have p7:=bN C3;have K9:=kN C3;have D6:=J (HA.o.a1 p7);have C5:=J p7;have o8:=J (jI wr 0 q.s.k O wb (K9.cell 0) (HE.o wb (D6.o.k2 m6.o I9)).1);have M9:=J C3;have O8:=fJ q.s.k O;obtain⟨nm,C2⟩:=eX (aE q.s.k);have D9:=J C2;rw[<-C2] at o8 O8;have R2:=p7.size;clear Q Z a9 AX C3 p7 K9 C2;go_upto_region 26 with fail
   rw[<-M9.o];go_wp2_with fail;refine o8.o.mono ?_;rintro e w5 ⟨rfl,p4⟩;have C4:=J (C5.o.trans (p4.mono R2));have R1:=C4.o.size;clear p4 o8 C5 c0 c1 c2 c3 c4 c5;go_wp2_with fail;refine(show Calls _ _ _ w5 _ from uV (gj:=w.heap.size+1) (g:=g) nm O w5).mono ?_;rintro e S ⟨v6,rfl,p6,⟨F6,d8,rfl⟩,s9,j8⟩;have L3:=p6.size;have p5:=p6.alloc L3 (.cells #[.func (.func F6) #[] d8] 98);have T:=C4.o.trans (p5.mono R1);have AT:=T.size;have m7:=(lS S S).alloc (lR _) (.cells #[.func (.func F6) #[] d8] 98);have G3:=(j8 (EF w K D C S) (fun x z U=>.inr (.inr ⟨O,U,s9 x z U⟩)));obtain⟨e1,e2⟩:=EF.a1 (bd:=w.heap.size) (lo:=K) (hi:=D.heap.size) (nE:=C) m7 ⟨O,O,O⟩;have L9:=J ((G3.b1 m7.size e1).mono e2);have L6:=J (HA.o.a1 T);have M1:=J (HL.o.b1 T.size (fun q Q=>T.block q O));have E5:=J (Own.a1 HO.o T (lR _));have B8:=J (HD.o.a1 T ⟨O,O,O⟩);have j9:=cS S 98 [.func (.func F6) #[] d8];have I8:=J j9;have L5:vs=k:=by rw[HD.o.len,lU,lV];omega
   have C9:=J L5;obtain⟨Ad,cd,m8,_,_,_⟩:=B8.o.own.b3;subst m8;have g8:=J B8.o.own;have m5:C<=(S.alloc (.cells #[.func (.func F6) #[] d8] 98)).heap.size:=O;clear p6 j8 s9 p5 T m7 G3 e1 e2 j9 L5 C4 HA HL HO HD D6 M9;go_wp2_with (at_builtin;go_must (refine aP rfl (.tmp 138) (.tmp 143) 110 rfl C 98 .nilFunc 8 Tryz.underlying110 iV rfl _ _ rfl g8.o (S.heap.size+1) (some ⟨S.heap.size,0,none⟩) 1 1 [.func (.func F6) #[] d8] rfl rfl I8.o (by simp[Value.oneCell']) (by rw[C9.o];unfold maxLen;omega) (by rw[C9.o];omega) m5 ?_;intro v8 w8 i6 G0 O0;have I4:=J i6;have Y:=J G0;clear i6 G0 O0));go_roundw
   case rel=>
    have B1:=Y.o.size;have f9:∀r,(Value.slice Ad vs cd).ownBlock=some r->C<=r∧∃cs fz,(S.alloc (.cells #[.func (.func F6) #[] d8] 98)).heap[r]? =some (.cells cs 98 fz):=fun r e=>by
     obtain⟨cs,hc⟩:=cT g8.o e;exact⟨(g8.o.lt r e).1,cs,_,hc⟩
    refine⟨k+1,vs++[.func (.func F6) #[] d8],O,by go_num,O,J (L6.o.grown Y.o (fun r e=>by
     have z:=(f9 r e).1;exact⟨O,O,fun X=>ω1 (I0.o r X),O⟩)),J (M1.o.b1 B1 (fun q Q=>Y.o.block q O (fun e=>ω1 ((f9 q e.symm).1)))),J (Own.kept E5.o Y.o (jrow_type_ne E5.o g8.o δ)),J ?_⟩
    rw[BL.o,mE,mG,List.map_nil,<-D9.o];exact B8.o.push ⟨O,O,m5⟩ L9.o rfl Y.o I4.o
   case measure=>simp[intOf];omega
  obtain⟨BM,G5,m8,CM,P4,I1,C0,L8⟩:=hcut;have p8:=m8.symm;clear m8;subst p8;clear G6 X4 K3 j2;go_upto_if 148 with fail
  go_cut [10,13] from 146 to 167 (fun dv _ wx=>∃(dv1:Value) (vs:List Value),dv=dv1∧C<=wx∧Hq (pQ w base g m es w (w.heap.size+1) d2 mt mv (.slice As ls cs) 0 wx H)∧Hq (hZ wx (fun k=>K<=k∧k<D.heap.size) Al a)∧Hq (Own wx C 108 (.slice As ls cs) (ptrs Al I a))∧Hq (mQ wx w K D C (w.heap.size+1) g dv1 vs ((a.take I).map (fun q=>aQ.rm (aE q.s.k))++oR a)))
  case first=>
   rcases mJ a with A|⟨r,q,A⟩
   ·have Z9:mQ wc w K D C (w.heap.size+1) g BM G5 ((a.take I).map (fun q=>aQ.rm (aE q.s.k))++oR a):=by
     rw[show oR a=[] by rw[A];rfl,List.append_nil];exact L8.o
    have C6:=J Z9;have CT:¬(0:Int)<(a:Int):=by rw[A];simp
    clear Z9 A L8;go_wp2;go_meet;exact⟨_,G5,rfl,CM,P4,I1,C0,C6⟩
   rw[mA] at A;have J3:a.length=r+1:=by rw[A];simp
   obtain⟨P,rfl,Q1,Q3,a9⟩:=I1.o.addr O;have G2:a[r.length]'O=q:=by simp[A]
   have Z:=(a9 r O).2;rw[G2] at Z;have AY:oR a=(if q.tn=true then[.cut (aE q.s.k) q.s.b2] else[])++[.sync (aE q.s.k)]:=by rw[A];exact bA4 r q
   have Y3:=J AY;have AP:q∈a:=by rw[A];simp
   have M5:=J (l5.o q AP);have O7:=M5.o.k;obtain⟨W,C1⟩:=eX r.length;rw[<-C1] at Z;have S3:=J (show a=W+1 by omega);have BD:=J (show∃h:W<a,q=a[W] from⟨O,by simp[C1,A]⟩);have c0:wc.cell? (P,W*6)=some (.int .i64 q.s.k):=Z 0 _ rfl;have c1:=Z 1 _ rfl;have c2:=Z 2 _ rfl;have c3:wc.cell? (P,W*6+3)=some (.slice q.al q.rs q.cl):=Z 3 _ rfl;have c4:wc.cell? (P,W*6+4)=some (.slice q.ae q.s.a7 q.ce):=Z 4 _ rfl;have c5:=Z 5 _ rfl;have R3:(a:Int)-1=(W:Int):=O;have V5:IntKind.i64.wrap (W:Int)=(W:Int):=mH _ O;have J2:(W:Int)<(a:Int):=O;obtain⟨wb,C3⟩:=eX (wc.alloc (.cells #[q.s.k,q.s.a8,q.s.c6,.slice q.al q.rs q.cl,.slice q.ae q.s.a7 q.ce,.bool q.tn] 106));have p7:=bN C3;have K9:=kN C3;have M9:=J C3;have R2:wb.heap.size=wc+1:=by rw[C3];simp
   have D6:=J (P4.o.a1 p7);have M3:=J (I1.o.b1 p7.size (fun k G=>p7.block k O));have Q0:=J (Own.a1 C0.o p7 (lR _));have J8:=J (L8.o.a1 p7 ⟨O,O,O⟩);obtain⟨bb,T9⟩:=eX wc.heap.size;rw[<-T9] at K9 R2;have T8:C<=bb:=O;have CD:bb<wb:=O;have CE:C<=wb:=O;clear R2;have V9:=J T9;have G8:=J K9;obtain⟨Ab,cb,BR,_,_,_⟩:=J8.o.own.b3;subst BR;have L5:G5.length<=1000000000:=by rw[J8.o.len,lU,lV];omega
   clear A G2 a9 C1 J3 Z AY AP C3 p7 K9 T9 P4 I1 C0 L8;go_upto_region 30 with fail
   rw[<-M9.o,<-V9.o,show decide (0<a.length)=true from decide_eq_true O];clear c0 c1 c2 c3 c4 c5 M9 V9 R3 V5 J2;obtain⟨tn,V3⟩:=eX q.tn;have b5:wb.cell? (bb,5)=some (.bool tn):=by rw[V3];exact G8.o.cell 5
   rw[<-V3] at Y3;clear V3;go_upto_if 156 with fail
   go_cut [10] from 155 to 160 (fun dv wx=>∃(dv1:Value) (vs:List Value),dv=dv1∧bb<wx∧vs.length<=1000000001∧Hq (pQ w base g m es w (w.heap.size+1) d2 mt mv (.slice As ls cs) 0 wx H)∧Hq (hZ wx (fun k=>K<=k∧k<D.heap.size) (P,0) a)∧Hq (Own wx C 108 (.slice As ls cs) (ptrs (P,0) I a))∧wx.cell? (bb,0)=some (.int .i64 q.s.k)∧Hq (mQ wx w K D C (w.heap.size+1) g dv1 vs ((a.take I).map (fun q=>aQ.rm (aE q.s.k))++if tn=true then[.cut (aE q.s.k) q.s.b2] else[])))
   case first=>
    have b0:=G8.o.c 0;cases tn with
    |false=>
     have AA:mQ wb w K D C (w.heap.size+1) g (.slice Ab G5 cb) G5 ((a.take I).map (fun q=>aQ.rm (aE q.s.k))++if false=true then[.cut (aE q.s.k) q.s.b2] else[]):=by
      rw[if_neg δ,List.append_nil];exact J8.o
     have P6:=J AA;have B0:=J b0;clear AA b0;go_wp2;go_meet;exact⟨_,G5,rfl,O,O,D6,M3,Q0,B0.o,P6⟩
    |true=>
     have G3:fH wb (EF w K D C wb) (w.heap.size+1) g (.func (.func 54) #[] #[(w,0),(bb,0)]) (.cut (aE q.s.k) q.s.b2):=by
      obtain⟨hi,BX⟩:=BD.o;exact .inl ⟨w,bb,q.s,rfl,.inl rfl,D6.o.bx.cell 0,M5.o.segM (M3.o.box hi BX G8.o (fun k G=>.inr (.inl G)) (EF.fresh G8.o T8 δ)),rfl,rfl⟩
     have T:=(lS _ wb).alloc (lR _) (.cells #[.func (.func 54) #[] #[(w,0),(bb,0)]] 98);obtain⟨e1,e2⟩:=EF.a1 (bd:=w.heap.size) (lo:=K) (hi:=D.heap.size) (nE:=C) T ⟨O,O,O⟩;have L9:=J ((G3.b1 T.size e1).mono e2);have AT:=T.size;have L6:=J (D6.o.a1 T);have M1:=J (M3.o.b1 T.size (fun k G=>T.block k O));have E5:=J (Own.a1 Q0.o T (lR _));have B8:=J (J8.o.a1 T ⟨O,O,O⟩);have W5:=J (G8.o.a1 T G8.o.lt);have j9:=cS wb 98 [.func (.func 54) #[] #[(w,0),(bb,0)]];have I8:=J j9;have C9:=J L5;have g8:=J B8.o.own;have m5:C<=(wb.alloc (.cells #[.func (.func 54) #[] #[(w,0),(bb,0)]] 98)).heap.size:=O;clear G3 e1 e2 j9 D6 M3 Q0 J8 b0 L5 T O7;go_wp2_with (at_builtin;go_must (refine aP rfl (.tmp 157) (.tmp 159) 110 rfl C 98 .nilFunc 8 Tryz.underlying110 iV rfl _ _ rfl g8.o (wb.heap.size+1) (some ⟨wb.heap.size,0,none⟩) 1 1 [.func (.func 54) #[] #[.pointer (some ⟨w.heap.size,0,none⟩),.pointer (some ⟨bb,0,none⟩)]] rfl rfl I8.o (by simp[Value.oneCell']) (by have:=C9.o;unfold maxLen;omega) (ω1 C9.o) m5 ?_;intro v8 w8 i6 G0 O0;have I4:=J i6;have Y:=J G0;clear i6 G0 O0));go_meet;have B1:=Y.o.size;have f9:∀r,(Value.slice Ab G5 cb).ownBlock=some r->C<=r∧∃cs fz,(wb.alloc (.cells #[.func (.func 54) #[] #[(w,0),(bb,0)]] 98)).heap[r]? =some (.cells cs 98 fz):=fun r e=>by
      obtain⟨cs,hc⟩:=cT g8.o e;exact⟨(g8.o.lt r e).1,cs,_,hc⟩
     have N6:aS w8 bb _ _:=W5.o.grown Y.o (fun e=>by
      obtain⟨_,cs,fz,z⟩:=f9 bb e.symm;have U:=z.symm.trans W5.o;injection U with U
      injection U with _ U _
      exact absurd U δ)
     refine⟨_,G5++[.func (.func 54) #[] #[(w,0),(bb,0)]],rfl,N6.lt,by have:=C9.o;simp;omega,J (L6.o.grown Y.o (fun r e=>by
      have z:=(f9 r e).1;exact⟨O,O,fun X=>ω1 (I0.o r X),O⟩)),J (M1.o.b1 B1 (fun q Q=>Y.o.block q O (fun e=>ω1 ((f9 q e.symm).1)))),J (Own.kept E5.o Y.o (jrow_type_ne E5.o g8.o δ)),N6.cell 0,J ?_⟩
     rw[if_pos trivial];exact B8.o.push ⟨O,O,m5⟩ L9.o rfl Y.o I4.o
   obtain⟨CP,BA,m8,BN,P0,R5,X5,K4,b0,P6⟩:=hcut;have p8:=m8.symm;clear m8;subst p8;clear D6 M3 Q0 J8 G8 L5 b5;have O8:=fJ q.s.k O;have o8:=J (jI bb 0 q.s.k O wc b0 (HE.o wc (R5.o.k2 m6.o I9)).1);obtain⟨nm,C2⟩:=eX (aE q.s.k);have D9:=J C2;rw[<-C2] at o8 O8;clear C2 O7 b0;go_wp2_with fail;refine o8.o.mono ?_;rintro e w5 ⟨rfl,p4⟩;have C4:=J p4;have R1:=p4.size;clear p4 o8;go_wp2_with fail;refine(show Calls _ _ _ w5 _ from tO (gj:=w.heap.size+1) (g:=g) nm O w5).mono ?_;rintro e S ⟨v6,rfl,p6,⟨F6,d8,rfl⟩,s9,j8⟩;have L3:=p6.size;have p5:=p6.alloc L3 (.cells #[.func (.func F6) #[] d8] 98);have T:=C4.o.trans (p5.mono R1);have AT:=T.size;have m7:=(lS S S).alloc (lR _) (.cells #[.func (.func F6) #[] d8] 98);have G3:=(j8 (EF w K D C S) (fun x z U=>.inr (.inr ⟨O,U,s9 x z U⟩)));obtain⟨e1,e2⟩:=EF.a1 (bd:=w.heap.size) (lo:=K) (hi:=D.heap.size) (nE:=C) m7 ⟨O,O,O⟩;have L9:=J ((G3.b1 m7.size e1).mono e2);have L6:=J (R5.o.a1 T);have M1:=J (X5.o.b1 T.size (fun q Q=>T.block q O));have E5:=J (Own.a1 K4.o T (lR _));have B8:=J (P6.o.a1 T ⟨O,O,O⟩);have j9:=cS S 98 [.func (.func F6) #[] d8];have I8:=J j9;have C9:=J P0;obtain⟨Ad,cd,m8,_,_,_⟩:=B8.o.own.b3;subst m8;have g8:=J B8.o.own;have m5:C<=(S.alloc (.cells #[.func (.func F6) #[] d8] 98)).heap.size:=O;clear p6 j8 s9 p5 T m7 G3 e1 e2 j9 P0 C4 R5 X5 K4 P6;go_wp2_with (at_builtin;go_must (refine aP rfl (.tmp 161) (.tmp 166) 110 rfl C 98 .nilFunc 8 Tryz.underlying110 iV rfl _ _ rfl g8.o (S.heap.size+1) (some ⟨S.heap.size,0,none⟩) 1 1 [.func (.func F6) #[] d8] rfl rfl I8.o (by simp[Value.oneCell']) (by have:=C9.o;unfold maxLen;omega) (ω1 C9.o) m5 ?_;intro v8 w8 i6 G0 O0;have I4:=J i6;have Y:=J G0;clear i6 G0 O0));go_meet;have B1:=Y.o.size;have f9:∀r,(Value.slice Ad BA cd).ownBlock=some r->C<=r∧∃cs fz,(S.alloc (.cells #[.func (.func F6) #[] d8] 98)).heap[r]? =some (.cells cs 98 fz):=fun r e=>by
    obtain⟨cs,hc⟩:=cT g8.o e;exact⟨(g8.o.lt r e).1,cs,_,hc⟩
   refine⟨_,BA++[.func (.func F6) #[] d8],rfl,O,J (L6.o.grown Y.o (fun r e=>by
    have z:=(f9 r e).1;exact⟨O,O,fun X=>ω1 (I0.o r X),O⟩)),J (M1.o.b1 B1 (fun q Q=>Y.o.block q O (fun e=>ω1 ((f9 q e.symm).1)))),J (Own.kept E5.o Y.o (jrow_type_ne E5.o g8.o δ)),J ?_⟩
   rw[Y3.o,<-List.append_assoc,<-D9.o];have AN:=B8.o.push ⟨O,O,m5⟩ L9.o rfl Y.o I4.o;rw[<-D9.o] at AN;exact AN
  obtain⟨CO,vs,m8,CZ,G7,BF,I4,C6⟩:=hcut;have p8:=m8.symm;clear m8;subst p8;clear P4 I1 C0 L8;obtain⟨al,N3⟩:=eX ((a.take I).map (fun q=>aQ.rm (aE q.s.k))++oR a);have D0:al.length<=1000000002:=by
   rw[N3,lT,lU,lV];have:=bT7 a;omega
  have Z7:cO al=0:=by rw[N3];exact bK6 _ _
  rw[<-N3] at C6;obtain⟨Ad,cd,m8,_,_,_⟩:=C6.o.own.b3;rw[C6.o.len] at m8;subst m8;have m9:=J (lQ (E:=fun k=>k=w.heap.size∨(K<=k∧k<D.heap.size)∨(C<=k∧k<wc.heap.size)) G7.o.c8 G7.o.jb O Ad vs al cd (dM.e1 C6.o.own (fun k z U=>.inr (.inr ⟨z,U⟩))) C6.o.len (fun k h h' =>(C6.o.e5 k h h').mono (fun x hx=>by
   rcases hx with hx|hx|hx
   exact .inl hx;exact .inr (.inl hx);exact .inr (.inr ⟨hx.1,hx.2.1⟩))) (fun k G=>by
   rcases G with rfl|G|G
   exact⟨O,G7.o.nb,O⟩;exact⟨O,I3.o k G,O⟩;exact⟨G.2,fun X=>ω1 (I0.o k X),O⟩) (fun w' hb' =>(HE.o w' ((G7.o.k2 m6.o I9).trans hb')).1) (L:=L) (by rw[DkD.h9 d2 G7.o.fs];exact S5.o) (by rw[Z7];omega) O)
  rw[DkD.h9 d2 G7.o.fs] at m9;obtain⟨rc,d3,hR⟩:∃rc d3,cF al d2=(rc,d3):=⟨_,_,rfl⟩
  rw[hR] at m9;have AJ:=aP0 a (mt,mv) d2 L4 (by have z:=n5.o;rw[M8.o] at z;exact z) (r:=(rc,d3)) (by rw[<-hR,N3]);have o9:=J (j6.o.trans AJ);dsimp only at m9 o9;clear AJ hR N3 Z7 D0;go_wp2_with fail;refine m9.o.mono ?_;rintro e w9 ⟨rfl,N0⟩;obtain⟨CQ,Z4,AB,U2⟩:=G7.o.e5 N0;have K4:=J Z4;have X1:=J AB;have X0:=J U2;have AS:=U2.size;clear N0 Z4 AB U2 m9 C6;by_cases hz:rc=0
  ·subst hz
   have I7:=J (show eB N=(0,some ⟨mt,mv,(a.map cB.s).drop I,0⟩,d3) by rw[o9.o];rfl);clear o9;go_wp2;go_ret2;refine pQ.k0 (F1:=fun k=>K<=k∧k<D.heap.size) (F2:=fun k=>C<=k∧k<wc.heap.size) K4.o (BF.o.b1 AS (fun k G=>X0.o.block k O (by
    rintro(z|z);exact I3.o k G z;omega))) L4 S1.o ⟨N8,U1⟩ ((dM.e1 I4.o (F:=fun k=>C<=k∧k<wc.heap.size) (fun k z U=>⟨z,U⟩)).b1 AS (fun k G=>X0.o.block k G.2 (by
    rintro(z|z);have:=I0.o k z;omega;omega))) l5.o BW (BH.o mt mv rfl) (fun k G=>?_) I7.o
   rcases G with G|G
   refine⟨O,O,O,fun X=>?_⟩;rcases X1.o k X with z|z
   exact I3.o k G z;omega;refine⟨O,O,O,fun X=>?_⟩;rcases X1.o k X with z|z
   have:=I0.o k z;omega;omega
  have BO:=bne_iff_ne.2 hz;have I7:=J (show eB N=(rc,none,d3) by rw[o9.o,if_neg hz]);have j4:=K4.o.jb.c 4;clear o9 hz;go_wp2_with fail;go_quiet (fail);go_wp2;go_ret2;exact(K4.o.a1 (aD (lS _ w9) _)).h2 rc I7.o
end Go.Proofs.YtgeofijddhflaaaGreatDoor
