/- pavaneref22.Compact. Condition: the journal is on a disk of a call's own, within bounds. -/
import Derived.Test.YtgeofijddhflaaaGreatDoorPJnPlayQ
set_option linter.unusedVariables false
set_option linter.unusedSimpArgs false
set_option maxHeartbeats 8000000
set_option maxRecDepth 100000
namespace Go.Proofs.YtgeofijddhflaaaGreatDoor
open Go.RowKit Go.Maps Oct
structure eO(W:World)(G:Nat->Prop)(nE gj g:Nat)(dv:Value)(vs:List Value)(al:List aQ):Prop where
 own:Own W nE 98 dv vs
 len:vs.length=al
 e5:∀i (h:i<vs.length) (h' :i<al.length),fH W G gj g vs[i] al[i]
 fns:∀v∈vs,v.oneCell' =true
 lt:∀x,G x->x<W.heap.size
 apart:∀r,dv.ownBlock=some r->¬G r
section
variable{W W' :World}{G:Nat->Prop}{nE gj g:Nat}{dv:Value}{vs:List Value}{al:List aQ}
theorem eO.nil:eO W (fun _=>False) nE gj g (.slice none 0 0) [] []:=⟨Own.nil _ _ _,rfl,(fun i h=>by simp at h),(fun v a=>by cases a),(fun _ h=>h.elim),(fun _ _ h=>h)⟩
theorem eO.other{row:Option Nat}(h:eO W G nE gj g dv vs al)(a:W.grownBy W' row)(b:dv.ownBlock=none∨dv.ownBlock≠row)(f:∀r,row=some r->¬G r):eO W' G nE gj g dv vs al:=
 ⟨Own.kept h.own a b,h.len,fun i c d=>(h.e5 i c d).b1 a.size (fun x hx=>a.block x (h.lt x hx) (fun e=>f x e.symm hx)),h.fns,fun x hx=>Nat.lt_of_lt_of_le (h.lt x hx) a.size,h.apart⟩
theorem eO.a1(h:eO W G nE gj g dv vs al)(a:Below W W W'):eO W' G nE gj g dv vs al:=
 h.other (aT a none) (by cases dv.ownBlock<;>simp) (fun r e=>(by cases e))
theorem eO.j9{f:World}{c :Nat->Prop}{b:List Value}{bl:List aQ}{a :Value}(h:eO W G nE gj g dv vs al)(o:b.length=bl)(y:∀i (h:i<b.length) (A :i<bl.length),fH W c gj g b[i] bl[i])(p:∀u∈b,u.oneCell' =true)(w:∀x,G x->c x)(a8:∀x,c x->x<W.heap.size)(k:∀r,dv.ownBlock=some r->¬c r)(d:W.grownBy f dv.ownBlock)(z:jD a dv.ownBlock W)(n:Own f nE 98 a (vs++b)):eO f c nE gj g a (vs++b) (al++bl):=by
 have l:=fun x hx=>d.block x (a8 x hx) (fun e=>k x e.symm hx)
 refine⟨n,by rw[lT,lT,h.len,o],fun i s B=>?_,fun x hx=>?_,fun x hx=>Nat.lt_of_lt_of_le (a8 x hx) d.size,fun r m hx=>?_⟩;by_cases j:i<vs;rw[List.getElem_append_left j,List.getElem_append_left (by rw[<-h.len];exact j)];exact((h.e5 i j _).mono w).b1 d.size l;rw[List.getElem_append_right O,List.getElem_append_right (by rw[<-h.len];omega)];have t:i-vs<b:=by rw[lT] at s;omega
 have v:=y (i-vs) t O;have e:i-al=i-vs:=by rw[h.len]
 simp only[e];exact v.b1 d.size l;rcases mB.1 hx with hx|hx
 exact h.fns x hx;exact p x hx;rcases z with e|⟨q,e,C⟩
 exact k r (e▸m) hx;rw[m] at e;injection e with e
 have:=a8 r hx;omega
theorem eO.step{c j:World}{a:aQ}{e:Nat}{b:Array Value}{d :Value}(h:eO W G nE gj g dv vs al)(k:Below W W c)(n:fH c (fun x=>G x∨(W.heap.size<=x∧x<c.heap.size)) gj g (.func (.func e) #[] b) a)
  (s:(c.alloc (.cells #[.func (.func e) #[] b] 98)).grownBy j dv.ownBlock) (q:jD d dv.ownBlock (c.alloc (.cells #[.func (.func e) #[] b] 98)).heap.size) (o:Own j nE 98 d (vs++[.func (.func e) #[] b])):
  eO j (fun x=>G x∨(W.heap.size<=x∧x<c.heap.size)) nE gj g d (vs++[.func (.func e) #[] b]) (al++[a]):=by
 have f:=(lS c c).alloc (lR _) (.cells #[.func (.func e) #[] b] 98);have p:=k.size;have v:=f.size;refine eO.j9 (h.a1 (k.trans (f.mono p))) rfl (fun i l w=>?_) (fun u t=>by rw[lY.1 t];rfl) (fun x hx=>.inl hx) (fun x hx=>?_) (fun r m hx=>?_) s q o;obtain rfl:i=0:=by simp at l;exact l
 exact n.b1 f.size (fun x hx=>f.block x (by
  rcases hx with hx|hx
  have:=h.lt x hx;omega;exact hx.2))
 rcases hx with hx|hx
 have:=h.lt x hx;omega;omega;rcases hx with hx|hx
 exact h.apart r m hx;have:=(h.own.lt r m).2;omega
end
structure eF(W:World)(F:Nat->Prop)(nE:Nat)(v:Value)(ads:List Addr)(ss:List aH):Prop where
 own:Own W nE 108 v (ads.map fun a=>.pointer (some a))
 len:ads.length=ss
 h5:∀i (h:i<ads.length) (h' :i<ss.length),iY W F ads[i] ss[i]
 lt:∀x,F x->x<W.heap.size
 apart:∀r,v.ownBlock=some r->¬F r
section
variable{W W' :World}{F:Nat->Prop}{nE:Nat}{v:Value}{ads:List Addr}{ss:List aH}
theorem eF.other{row:Option Nat}(h:eF W F nE v ads ss)(a:W.grownBy W' row)(b:v.ownBlock=none∨v.ownBlock≠row)(f:∀r,row=some r->¬F r):eF W' F nE v ads ss:=
 ⟨Own.kept h.own a b,h.len,fun i c d=>(h.h5 i c d).b1 a.size (fun x hx=>a.block x (h.lt x hx) (fun e=>f x e.symm hx)),fun x hx=>Nat.lt_of_lt_of_le (h.lt x hx) a.size,h.apart⟩
theorem eF.a1(h:eF W F nE v ads ss)(a:Below W W W'):eF W' F nE v ads ss:=
 h.other (aT a none) (by cases v.ownBlock<;>simp) (fun r e=>(by cases e))
theorem eF.push{c:World}{F' :Nat->Prop}{g :Value}{d:Addr}{s:aH}(h:eF W F nE v ads ss)(u:iY W F' d s)(p:∀x,F x->F' x)(a8:∀x,F' x->x<W.heap.size)(j:∀r,v.ownBlock=some r->¬F' r)(b:W.grownBy c v.ownBlock)(t:jD g v.ownBlock W)(n:Own c nE 108 g ((ads.map fun a=>.pointer (some a))++[.pointer (some d)])):eF c F' nE g (ads++[d]) (ss++[s]):=by
 have l:=fun x hx=>b.block x (a8 x hx) (fun e=>j x e.symm hx)
 refine⟨by rw[mE];exact n,by rw[lT,lT,h.len];rfl,fun i k w=>?_,fun x hx=>Nat.lt_of_lt_of_le (a8 x hx) b.size,fun r m hx=>?_⟩;by_cases f:i<ads;rw[List.getElem_append_left f,List.getElem_append_left (by rw[<-h.len];exact f)];exact((h.h5 i f _).mono p).b1 b.size l;have e:i=ads:=by rw[lT] at k;simp at k;omega
 subst e;have o:(ss++[s])[ads.length]=s:=by simp[h.len]
 rw[o];simp only[List.getElem_concat_length];exact u.b1 b.size l;rcases t with e|⟨q,e,y⟩
 exact j r (e▸m) hx;rw[m] at e;injection e with e
 have:=a8 r hx;omega
end
theorem dM.j1{w:World}{F:Nat->Prop}{A:Option Addr}{a:List Value}(h:dM w F A a){k cap:Nat}(l:k<=a)(i:a<=cap):dM w F (Go.Proofs.YtgeofijddhflaaaGreatDoor.cutA A k cap) (a.drop k):=fun e=>by
 rw[lZ] at e;obtain⟨b,o,rfl,f,d,c⟩:=h O;refine⟨b,o+k,?_,f,d,fun j u g=>?_⟩;unfold Go.Proofs.YtgeofijddhflaaaGreatDoor.cutA;rw[if_neg O];simp only[Option.map_some,add_lit];rw[Nat.add_assoc];exact c (k+j) u (by rw[<-g,List.getElem?_drop])
theorem eF.jat{W:World}{F:Nat->Prop}{nE gj g k n c:Nat}{A:Option Addr}{b:List Addr}{ss:List aH}(h:eF W F nE (.slice A n c) b ss)(z:k<=ss){t v bad:Int}(w:aS W gj 53 #[t,v,.slice (cutA A k c) (n-k) (c-k),(g,0),bad])(N:ss.length<=1000000000)(B:I6 t)(D:I6 v):
  pU W (fun x=>F x∨(Value.slice A n c).ownBlock=some x) gj g ⟨t,v,ss.drop k,bad⟩:=by
 obtain⟨E,I,p,l,L,_⟩:=Own.b3 h.own;injection p with _ e1 e2
 rw[lU] at l e1;rw[h.len] at e1 l;subst e2;have o:(ss.drop k).length=n-k:=by rw[lZ,e1]
 refine⟨⟨Go.Proofs.YtgeofijddhflaaaGreatDoor.cutA A k c,c-k,b.drop k,?_,?_,?_,?_,fun i M s=>?_⟩,by show(ss.drop k).length<=_;omega,B,D⟩;show aS W gj _ #[t,v,.slice _ (ss.drop k).length (c-k),_,_]
 rw[o];exact w;show(ss.drop k).length<=c-k∧c-k<=maxLen
 omega;have m:dM W (fun x=>F x∨(Value.slice A n c).ownBlock=some x) A (b.map fun a=>Value.pointer (some a)):=fun f=>by
  rcases Own.e0 h.own with⟨_,e⟩|⟨q,cap,f8,e,_,a9,_⟩
  rw[e] at f;simp at f;obtain⟨G,K,r,_,_,m⟩:=Own.b3 h.own;obtain⟨H,d,_,y⟩:=m f;injection e with e5 _ _
  injection r with e6 _ _
  rw[<-e6,e5] at d;injection d with d
  subst d;exact⟨q,0,e5,.inr (by rw[e5];rfl),a9,fun j u C=>by rw[<-add_lit];exact y j u C⟩
 rw[List.map_drop];exact m.j1 (by rw[lU,h.len];exact z) (by rw[lU,h.len];exact l);show(b.drop k).length=(ss.drop k).length
 rw[lZ,lZ,h.len];show iY W _ _ ((ss.drop k)[i]'(s))
 rw[List.getElem_drop];simp only[List.getElem_drop];exact(h.h5 _ _ _).mono (fun x hx=>.inl hx)
theorem eR.rdR{w:World}{base:Nat}{F:Nat->Prop}{A:Option Addr}{n c:Nat}{l:List UInt8}(h:eR w base (.slice A n c) l)(o:∀k,base<=k->k<w.heap.size->F k):dM w F A (cells l):=fun m=>by
 obtain⟨x,z,v,_,_,s⟩:=h.b3;injection v with e1 _ _
 subst e1;obtain⟨y,e,r,p⟩:=s m;rcases h.row with a|⟨g,B,f,i,b,q,d,_⟩
 injection a with e2 _ _
 rw[e2] at e;cases e;injection b with e2 _ _
 rw[e2] at e;injection e with e
 subst e;refine⟨g,0,e2,o g q d.lt,d.lt,fun j u t=>?_⟩;rw[<-add_lit];exact p j u t
theorem bT2{w:World}{F:Nat->Prop}{b r:Nat}{k first a n:Int}(f:aS w b 104 #[k,first,a,.slice none 0 0,.slice (r,0) 1 1])(g:aS w r 3 #[n])(a8:F b)(h:F r)(l:I6 k)(i:0<=first∧first<=9223372036854775806)(p:I6 a)(m:0<=n∧n<=4611686018427387904):iY w F (b,0) ⟨k,first,a,[],[n]⟩:=by
 refine⟨⟨⟨none,0,[],some ⟨r,0,none⟩,1,fun _=>⟨b,0,rfl,a8,f.lt,fun j u d=>?_⟩,lR _,Nat.zero_le _,lR _,by unfold maxLen;omega,dM.nil,rfl,(fun q o=>by cases o),fun _=>⟨r,0,rfl,h,g.lt,fun j u d=>?_⟩⟩,⟨l,i,p,(fun e c=>by cases c),fun x hx=>by rw[lY.1 hx];exact m⟩⟩,rfl,Nat.zero_le _,fun e c=>by cases c⟩;rw[Nat.zero_add];exact fO f j u d;rw[Nat.zero_add];exact fO g j u d
theorem kI{w w' :World}{B:Nat}{e:TypeId}{a n:Nat}{v:Value}{d:List Value}(h:w.ownsRow B e a v n d)(l:∀r,v.ownBlock=some r->w'.heap[r]? =w.heap[r]?):w'.ownsRow B e a v n d:=by
 refine⟨h.1,?_⟩;rcases h.2 with i|⟨g,b,f,c,j,k,r⟩
 exact .inl i;exact .inr ⟨g,b,f,c,j,(l g (by rw[c];rfl)).trans k,r⟩
theorem eF.b1{W b :World}{F:Nat->Prop}{nE:Nat}{v:Value}{a:List Addr}{ss:List aH}(h:eF W F nE v a ss)(d:W.heap.size<=b)(c:∀x,F x∨v.ownBlock=some x->b.heap[x]? =W.heap[x]?):eF b F nE v a ss:=
 ⟨kI h.own (fun r g=>c r (.inr g)),h.len,fun i e f=>(h.h5 i e f).b1 d (fun x hx=>c x (.inl hx)),fun x hx=>Nat.lt_of_lt_of_le (h.lt x hx) d,h.apart⟩
theorem tJ(ss:List aH)(ix:Int):∀(a f:Nat),f<=ss->gY ss ix a f<=ss
 |0,f,h=>h
 |a+1,f,h=>by
  unfold gY;split;rename_i s b;have:=(List.getElem?_eq_some_iff.1 b).1;split;exact tJ ss ix a (f+1) O;exact h;exact h
theorem aF7{j:bQ}{l:List cD}(h:nG j l=0):∀e∈l,e.b.length<=65535:=by
 unfold nG at h;split at h;cases h;split at h;cases h;rename_i a;intro e d;refine Nat.le_of_not_lt fun c=>a ?_
 rw[List.any_eq_true];exact⟨e,d,decide_eq_true c⟩
theorem bH9{j:bQ}{e:cD}{r:List cD}(h:nG j (e::r)=0):j.base.1<e.ix∧e.ix≠9223372036854775807:=by
 unfold nG at h;split at h;cases h;rename_i a;rw[qO] at a;have b:xC j.base.1 e j.b7.1 none=false:=by
  cases hs:xC j.base.1 e j.b7.1 none with
  |false=>rfl
  |true=>rw[hs] at a;exact absurd rfl a
 unfold xC at b;simp only[Bool.or_eq_false_iff,decide_eq_false_iff_not] at b;obtain⟨⟨⟨⟨⟨d,_⟩,c⟩,_⟩,_⟩,_⟩:=b;exact⟨O,c⟩
theorem iY.ahead_ok{w:World}{F:Nat->Prop}{c:Addr}{s:aH}(h:iY w F c s)(ix:Int):gU (s.ahead ix)∧(s.ahead ix).a7.length=(s.ahead ix).l.length+1∧(s.ahead ix).l.length<=s.l.length∧∀e∈(s.ahead ix).l,e.b.length<=65535:=by
 have f:s.e4 ix<=s.l:=Nat.min_le_right _ _;refine⟨⟨h.rd.num.k,h.rd.num.a8,h.rd.num.c6,fun e a=>h.rd.num.l0 e (mO a),fun n d=>h.rd.num.a7 n (mO d)⟩,?_,?_,fun e a=>h.txt e (mO a)⟩;show(s.a7.take _).length=(s.l.take _).length+1
 rw[lV,lV,h.a7];omega;show(s.l.take _).length<=_
 rw[lV];omega
theorem aU{W:World}{B:Nat}{e:TypeId}{c n:Nat}{v:Value}{k:List Value}{b:Nat}{T:TypeId}{cs:Array Value}(h:W.ownsRow B e c v n k)(i:aS W b T cs)(g:e≠T):v.ownBlock≠some b:=fun f =>by
 obtain⟨d,j⟩:=cT h f;have a:=j.symm.trans i;injection a with a
 injection a with _ a _
 exact g a
structure xX(W w0:World)(F:Nat->Prop)(j:bQ)(ix:Int)(ads:List Addr)(N wz nE sb gj g:Nat)(rv dv:Value)(vs:List Value)(G:Nat->Prop)(adK:List Addr)(fk ft fr:Int)(al:List aQ):Prop where
 a1:Below nE w0 W
 fresh:aS W sb 104 #[fk,ix,ft,.slice none 0 0,.slice none 0 0]
 row:Own W nE 108 rv (adK.map fun a=>Value.pointer (some a))
 e5:eO W G nE gj g dv vs al
 gl:∀x,G x->F x∨wz<=x
 gs:¬G sb∧∀r,rv.ownBlock=some r->¬G r
 num:(1<=fk∧fk<=1000000000)∧(I6 ft)∧0<=fr∧fr<=7000000000000000000
 kind:(N=0∧adK=[]∧fk=1∧ft=0∧fr=eY j N+0∧al=(fI j N).map fun x=>aQ.rm (aE x.k))∨∃(m1:Nat) (s c:aH) (cb:Nat) (rsC:List EntR) (vlC veC:Value),N=m1+1∧(∃h:m1<j.b0,s=j.b0[m1])∧c=s.ahead ix∧adK=ads.take m1++([(cb,0)]:List Addr)∧kU W F nE cb c rsC vlC veC∧fk=s.k+1∧ft=c.b7.2∧fr=eY j N+pD s c∧al=((fI j N).map fun x=>aQ.rm (aE x.k))++fV s c∧(gU c∧c.a7.length=c.l+1∧c.l.length<=100000000∧∀e∈c.l,e.b.length<=65535)∧sb<cb∧¬G cb∧(∀r,vlC.ownBlock=some r->¬G r)∧(∀r,veC.ownBlock=some r->¬G r)
def cB5(j:bQ)(ix:Int)(N:Nat):Bool:=if N=0 then true else match j.b0[N-1]? with|some s=>decide (600<=(s.ahead ix).b2)|none=>true
theorem vB{j:bQ}{ix:Int}{a:Nat}(h:a<j.b0):cB5 j ix (a+1)=decide (600<=(j.b0[a].ahead ix).b2):=by
 unfold cB5;rw[if_neg O,Nat.add_sub_cancel,lW h]
theorem xX.j7{W k r:World}{F:Nat->Prop}{j:bQ}{ix:Int}{b:List Addr}{N t nE p gj g:Nat}{o dv:Value}{vs:List Value}{G:Nat->Prop}{a:List Addr}{l n m:Int}{al:List aQ}(h:xX W r F j ix b N t nE p gj g o dv vs G a l n m al)(w:∀q,F q->q<W.heap.size)(d:Below W W k)(x:nE<=W):xX k r F j ix b N t nE p gj g o dv vs G a l n m al:=
 ⟨h.a1.trans (d.mono x),h.fresh.a1 d h.fresh.lt,Own.a1 h.row d (lR _),h.e5.a1 d,h.gl,h.gs,h.num,by
  rcases h.kind with v|⟨E,s,c,u,e,i,f,y,z,A,B,C,D⟩
  exact .inl v;exact .inr ⟨E,s,c,u,e,i,f,y,z,A,B,C.a1 w d,D⟩⟩
structure dO(W:World)(F:Nat->Prop)(wz nE gj g:Nat)(rv dv:Value)(vs:List Value)(G:Nat->Prop)(al:List aQ)(adsP:List Addr)(ssP:List aH)(FP:Nat->Prop)(tb:Nat)(s0:aH)(rsT:List EntR)(vl ve bv:Value)(bh:List UInt8):Prop where
 e5:eO W G nE gj g dv vs al
 row:Own W nE 108 rv ((adsP++([(tb,0)]:List Addr)).map fun a=>Value.pointer (some a))
 len:adsP.length=ssP
 h5:∀i (h:i<adsP.length) (h' :i<ssP.length),iY W FP adsP[i] ssP[i]
 fl:∀x,FP x->x<W.heap.size∧(F x∨nE<=x)
 gl:∀x,G x->F x∨wz<=x
 h8:kU W F nE tb s0 rsT vl ve
 bytes:eR W nE bv bh
 wr:∀x,rv.ownBlock=some x∨x=tb∨vl.ownBlock=some x∨ve.ownBlock=some x∨bv.ownBlock=some x∨dv.ownBlock=some x->¬G x∧¬FP x
 num:gU s0∧s0.a7.length=s0.l+1∧s0.l.length<=103000000∧(∀e∈s0.l,e.b.length<=65535)∧(1<=s0.k∧s0.k<=1000000000)
section
variable{W W' :World}{F F' :Nat->Prop}{wz nE gj g:Nat}{rv dv:Value}{vs:List Value}{G:Nat->Prop}{al:List aQ}{adsP:List Addr}{ssP:List aH}{FP:Nat->Prop}{tb:Nat}{s0:aH}{rsT:List EntR}{vl ve bv:Value}{bh:List UInt8}
theorem dO.j7(h:dO W F wz nE gj g rv dv vs G al adsP ssP FP tb s0 rsT vl ve bv bh)(d:∀q,F q->q<W.heap.size)(a:Below W W W'):dO W' F wz nE gj g rv dv vs G al adsP ssP FP tb s0 rsT vl ve bv bh:=
 ⟨h.e5.a1 a,Own.a1 h.row a (lR _),h.len,fun i b c=>(h.h5 i b c).b1 a.size (fun q e=>a.block q (h.fl q e).1),fun x hx=>⟨Nat.lt_of_lt_of_le (h.fl x hx).1 a.size,(h.fl x hx).2⟩,h.gl,h.h8.a1 d a,h.bytes.a1 a (lR _),h.wr,h.num⟩
theorem dO.monoF(h:dO W F wz nE gj g rv dv vs G al adsP ssP FP tb s0 rsT vl ve bv bh)(a:∀q,F q->F' q):dO W F' wz nE gj g rv dv vs G al adsP ssP FP tb s0 rsT vl ve bv bh:=
 ⟨h.e5,h.row,h.len,h.h5,fun x hx=>⟨(h.fl x hx).1,(h.fl x hx).2.imp (a x) id⟩,fun x hx=>(h.gl x hx).imp (a x) id,h.h8.mono a,h.bytes,h.wr,h.num⟩
theorem dO.wrlt(h:dO W F wz nE gj g rv dv vs G al adsP ssP FP tb s0 rsT vl ve bv bh):∀x,rv.ownBlock=some x∨x=tb∨vl.ownBlock=some x∨ve.ownBlock=some x∨bv.ownBlock=some x∨dv.ownBlock=some x->nE<=x∧x<W.heap.size:=fun x hx=>by
 rcases hx with hx|hx|hx|hx|hx|hx
 exact h.row.lt x hx;rw[hx];exact⟨h.h8.low,h.h8.b4.lt⟩;exact mL h.h8.c7 x hx;exact mL h.h8.a7 x hx;exact⟨h.bytes.row.base x hx,h.bytes.row.lt x hx⟩;exact h.e5.own.lt x hx
end
theorem zK{w:World}{base:Nat}{e:TypeId}{n c:Nat}{A:Option Addr}{d:List Value}(h:Own w base e (.slice A n c) d):dM w (fun k=>(Value.slice A n c).ownBlock=some k) A d:=fun i=>by
 obtain⟨b,o,f,_,a,j⟩:=(dM.e1 (F:=fun _=>True) h (fun _ _ _=>trivial)) i;subst f;refine⟨b,o,rfl,?_,a,j⟩;rcases Own.e0 h with⟨h1,_⟩|⟨g,cap,cur,h1,_⟩
 injection h1 with h1 _ _;cases h1
 injection h1 with h1 _ _
 injection h1 with h1
 injection h1 with h1 h2 _
 subst h1 h2;rfl
theorem aR2{w:World}{base:Nat}{e:TypeId}{a n m c:Nat}{A:Option Addr}{f:List Value}(h:w.ownsRow base e a (.slice A m c) n f)(p:n*a=f):dM w (fun k=>(Value.slice A m c).ownBlock=some k) A f:=fun j=>by
 obtain⟨b,o,i,_,d,l⟩:=(dM.e8 (F:=fun _=>True) h (fun _ _ _=>trivial) p) j;subst i;refine⟨b,o,rfl,?_,d,l⟩;rcases h.2 with⟨h1,_⟩|⟨g,cap,cur,h1,_⟩
 injection h1 with h1 _ _;cases h1
 injection h1 with h1 _ _
 injection h1 with h1
 injection h1 with h1 h2 _
 subst h1 h2;rfl
theorem kU.keepB{w w' :World}{F:Nat->Prop}{B b:Nat}{s:aH}{rs:List EntR}{e d:Value}(h:kU w F B b s rs e d)(g:w.heap.size<=w')(a:∀x,F x∨x=b∨e.ownBlock=some x∨d.ownBlock=some x->w'.heap[x]? =w.heap[x]?):kU w' F B b s rs e d:=
 ⟨(a b (.inr (.inl rfl))).trans h.b4,h.low,kI h.c7 (fun r c=>a r (.inr (.inr (.inl c)))),h.map,fun q f=>(h.h6 q f).b1 g (fun x hx=>a x (.inl hx)),kI h.a7 (fun r c=>a r (.inr (.inr (.inr c))))⟩
theorem kU.segMx{w:World}{F:Nat->Prop}{B b:Nat}{s:aH}{rs:List EntR}{i g:Value}(h:kU w F B b s rs i g)(y:gU s)(t:s.a7.length=s.l+1)(v:s.l.length<=1099511627776)(A:∀e∈s.l,e.b.length<=65535):iY w (fun x=>F x∨x=b∨i.ownBlock=some x∨g.ownBlock=some x) (b,0) s:=by
 obtain⟨m,o,r,D,E,_⟩:=aK h.c7;obtain⟨n,p,d,f,G,_⟩:=Own.b3 h.a7;have c:rs.length=s.l:=by rw[<-h.map,lU]
 rw[lU] at f d;subst r d;refine⟨⟨⟨m,o,rs,n,p,fun _=>⟨b,0,rfl,.inr (.inl rfl),h.b4.lt,fun j u C=>?_⟩,by rw[<-c];exact D,E,f,G,(aR2 h.c7 (by rw[aN];omega)).mono (fun k a=>.inr (.inr (.inl a))),h.map,fun q z=>(h.h6 q z).mono (fun k a=>.inl a),(zK h.a7).mono (fun k a=>.inr (.inr (.inr a)))⟩,y⟩,t,v,A⟩;rw[Nat.zero_add];refine fO h.b4 j u ?_;rw[c];exact C
theorem bQ6{s:aH}(h:gU s):I6 s.b7.2:=by
 unfold aH.b7;rcases mJ s.l with a|⟨r,e,a⟩
 rw[a];exact h.c6;rw[mA] at a;have:=h.l0 e (by rw[a];simp);rw[a];simp only[List.getLast?_append,List.getLast?_singleton,Option.some_or];exact this.2.1
theorem kU.lower{w:World}{F:Nat->Prop}{B B' b:Nat}{s:aH}{rs:List EntR}{d c:Value}(h:kU w F B b s rs d c)(a:B' <=B):kU w F B' b s rs d c:=⟨h.b4,mM a h.low,pK h.c7 a,h.map,h.h6,pK h.a7 a⟩
theorem cE1{G X:Prop}(a:G->X)(b:G):X:=a b
section
variable{P:Program}{md:Region.Mode}{Q:Exit->Act->World->Prop}{S:World->Prop}{l:List Oper}{t:Nat}
theorem bF9(i k:Nat){d:Nat}{b:Array Bool}{a:Act}{w:World}(hi:i<l)(q:k<l)(m:Region.ready md l.toArray b=[i,k])
  (o:∀c :Act->World->Prop,Shut (∀a w,S w->(S w->eZ P md l.toArray Q S t d (b.setIfInBounds i true) a w)->c a w)->if Region.wanted l[i] (yielded l.toArray a.tmps)=true then Oper.wp P l[i] a w c Q else c (a.put l[i].dst undef) w)
  (p:∀c :Act->World->Prop,Shut (∀a w,S w->(S w->eZ P md l.toArray Q S t d (b.setIfInBounds k true) a w)->c a w)->if Region.wanted l[k] (yielded l.toArray a.tmps)=true then Oper.wp P l[k] a w c Q else c (a.put l[k].dst undef) w):eZ P md l.toArray Q S t (d+1) b a w:=
 ⟨fun n=>absurd (m▸n) σ,fun j f=>by
  rw[m] at f;rcases List.mem_cons.1 f with rfl|f
  exact wpOp_step (by rw[List.getElem?_toArray,lW hi]) (fun c g=>o c (fun a w e h=>g a w ⟨fun _=>e,h e⟩));obtain rfl:=lY.1 f;exact wpOp_step (by rw[List.getElem?_toArray,lW q]) (fun c g=>p c (fun a w e h=>g a w ⟨fun _=>e,h e⟩))⟩
end
theorem eR.kind{w:World}{b:Nat}{v:Value}{l:List UInt8}(h:eR w b v l):∀x,v.ownBlock=some x->∃cs,aS w x 5 cs:=fun x hx=>by
 rcases h.row with a|⟨e,_,_,c,a,_,d,_⟩
 rw[a] at hx;cases hx;rw[a] at hx;injection hx with hx
 subst hx;exact⟨_,d⟩
theorem mY{w:World}{B b:Nat}{e:TypeId}{a n:Nat}{v c:Value}{j:List Value}{l:List UInt8}(h:w.ownsRow B e a v n j)(i:eR w b c l)(g:e≠5):v.ownBlock=none∨v.ownBlock≠c.ownBlock:=by
 cases hu:v.ownBlock with
 |none=>exact .inl rfl
 |some q=>
  refine .inr fun d =>?_
  obtain⟨cs,f⟩:=i.kind q d.symm;exact aU h f g hu
theorem sQ{w:World}{f:Array Oper}{rest:List Oper}{o:Oper}{a:Act}{Q:Exit->Act->World->Prop}(j:o.guard=none)(s x:Operand)
  (u:o.op=.call {callee:=.builtin .append,args:=#[s,x],argTypes:=#[34,34]})
  (base:Nat) (v:Value) (l:List UInt8) (y:a.eval s=v) (d:eR w base v l) (B:Nat) (A:Option Addr) (c:Nat) (q:List UInt8) (hx:a.eval x=.slice A q c) (m:Rd w B A (cells q)) (e:l.length+q<=1099511627776) (b:base<=w)
  (h:∀g i,eR i base g (l++q)->w.grownBy i v.ownBlock->(∀k,g.ownBlock=some k->v.ownBlock=some k∨w.heap.size<=k)->wpList Tryz.prog f Q rest (a.put o.dst g) i):wpList Tryz.prog f Q (o::rest) a w:=
 wpList_plain j fun _ t=>rD s x u base v l y d B A c q hx m e b fun g i n p r=>t _ _ (h g i n p r)
theorem eF.jat0{W:World}{F:Nat->Prop}{nE gj g n c:Nat}{A:Option Addr}{a:List Addr}{ss:List aH}(h:eF W F nE (.slice A n c) a ss){t v bad:Int}(m:aS W gj 53 #[t,v,.slice A n c,(g,0),bad])(u:ss.length<=1000000000)(p:I6 t)(q:I6 v):
  pU W (fun x=>F x∨(Value.slice A n c).ownBlock=some x) gj g ⟨t,v,ss,bad⟩:=by
 have d:=zK h.own;obtain⟨r,s,e,b,f,_⟩:=Own.b3 h.own;injection e with _ e1 e2
 rw[lU] at b e1;rw[h.len] at e1 b;subst e1 e2;exact⟨⟨A,c,a,m,⟨b,f⟩,d.mono (fun k o=>.inr o),h.len,fun i j l=>(h.h5 i j l).mono (fun x hx=>.inl hx)⟩,by show ss.length<=_;omega,p,q⟩
theorem eF.keep' {W b :World}{F:Nat->Prop}{nE:Nat}{v:Value}{a:List Addr}{ss:List aH}(h:eF W F nE v a ss)(d:W.heap.size<=b)(c:∀x,F x∨v.ownBlock=some x->b.heap[x]? =W.heap[x]?):eF b F nE v a ss:=
 ⟨kI h.own (fun r g=>c r (.inr g)),h.len,fun i e f=>(h.h5 i e f).b1 d (fun x hx=>c x (.inl hx)),fun x hx=>Nat.lt_of_lt_of_le (h.lt x hx) d,h.apart⟩
theorem eR.rdO{w:World}{b:Nat}{A:Option Addr}{n c:Nat}{l:List UInt8}(h:eR w b (.slice A n c) l):dM w (fun k=>(Value.slice A n c).ownBlock=some k) A (cells l):=fun i=>by
 obtain⟨t,x,s,_,_,q⟩:=h.b3;injection s with e1 e2 _
 subst e1;obtain⟨v,d,p,o⟩:=q i;rcases h.row with a|⟨g,y,e,f,a,_,m,_⟩
 injection a with a _ _
 rw[a] at d;cases d;injection a with a _ _
 rw[a] at d;injection d with d
 subst d a;exact⟨g,0,rfl,rfl,m.lt,fun j u r=>by rw[<-add_lit];exact o j u r⟩
theorem eO.keepB{W a :World}{G:Nat->Prop}{nE gj g:Nat}{dv:Value}{vs:List Value}{al:List aQ}(h:eO W G nE gj g dv vs al)(c:W.heap.size<=a)(b:∀x,G x∨dv.ownBlock=some x->a.heap[x]? =W.heap[x]?):eO a G nE gj g dv vs al:=
 ⟨kI h.own (fun r f=>b r (.inr f)),h.len,fun i d e=>(h.e5 i d e).b1 c (fun x hx=>b x (.inl hx)),h.fns,fun x hx=>Nat.lt_of_lt_of_le (h.lt x hx) c,h.apart⟩
theorem aX3{w:World}{nE b:Nat}{d:Option Addr}{c:Nat}{a:List Int}(f:w.cell? (b,4)=some (.slice d a c))(o:Own w nE 3 (.slice d a c) (a.map (Value.int .i64)))(j:a≠[])(g:a.length<=1099511627776):
  Calls Tryz.prog 56 #[(b,0)] w fun e p =>e=.returned (.int .i64 (a.getLastD 0))∧Below w w p :=by
 rcases mJ a with n|⟨r,x,h⟩
 exact absurd n j;rw[mA] at h;subst h;obtain⟨l,m,rfl,_,q,i⟩:=dM.e1 (F:=fun _=>True) o (fun _ _ _=>trivial) σ;have k:=i r x σ;have hx:(r++[x]).getLastD 0=x:=by simp
 rw[hx];rw[lT] at f g;simp at g;exact aF0 b 0 r l m c x O w f k
section
variable{W W' :World}{F F' :Nat->Prop}{wz nE gj g:Nat}{rv dv:Value}{vs:List Value}{G:Nat->Prop}{al:List aQ}{adsP:List Addr}{ssP:List aH}{FP:Nat->Prop}{tb:Nat}{s0:aH}{rsT:List EntR}{vl ve bv:Value}{bh:List UInt8}
theorem dO.bytesG{b :Value}{c :List UInt8}(h:dO W F wz nE gj g rv dv vs G al adsP ssP FP tb s0 rsT vl ve bv bh)(l:∀q,F q->q<W.heap.size∧bv.ownBlock≠some q)(a:W.grownBy W' bv.ownBlock)(p:eR W' nE b c)(s:∀k,b.ownBlock=some k->bv.ownBlock=some k∨W.heap.size<=k):dO W' F wz nE gj g rv dv vs G al adsP ssP FP tb s0 rsT vl ve b c :=by
 have j:=fun x (hx:bv.ownBlock=some x)=>h.wr x (.inr (.inr (.inr (.inr (.inl hx)))))
 refine⟨h.e5.other a (mY h.e5.own h.bytes δ) (fun r t=>(j r t).1),Own.kept h.row a (mY h.row h.bytes δ),h.len,fun i f d=>(h.h5 i f d).b1 a.size (fun q n=>a.block q (h.fl q n).1 (fun e=>(j q e.symm).2 n)),fun x hx=>⟨Nat.lt_of_lt_of_le (h.fl x hx).1 a.size,(h.fl x hx).2⟩,h.gl,h.h8.b1 a.size (fun k m=>a.block k (l k m).1 (fun e=>(l k m).2 e.symm)) a (fun e=>?_) (mY h.h8.c7 h.bytes δ) (mY h.h8.a7 h.bytes δ),p,fun x hx=>?_,h.num⟩;obtain⟨cs,o⟩:=h.bytes.kind tb e;exact blk_ne o h.h8.b4 δ rfl;rcases hx with hx|hx|hx|hx|hx|hx
 exact h.wr x (.inl hx);exact h.wr x (.inr (.inl hx));exact h.wr x (.inr (.inr (.inl hx)));exact h.wr x (.inr (.inr (.inr (.inl hx))));rcases s x hx with f|f
 exact j x f;exact⟨fun d=>ω1 (h.e5.lt x d),fun d=>ω1 ((h.fl x d).1)⟩;exact h.wr x (.inr (.inr (.inr (.inr (.inr hx)))))
theorem dO.entG{I B C o:World}{a c :Value}{q:EntR}{n:Int}(h:dO W F wz nE gj g rv dv vs G al adsP ssP FP tb s0 rsT vl ve bv bh)(E:∀x,F x->x<W.heap.size∧x≠tb∧vl.ownBlock≠some x∧ve.ownBlock≠some x)(hd:gQ W F q.v q.e.b)
  (N:Below W W I) (P:I.grownBy B vl.ownBlock) (f8:B.ownsRow nE 65 4 a (rsT.length+1) (aG rsT++dU q)) (m7:jD a vl.ownBlock I)
  (D:Below B.heap.size B C) (Q:C.grownBy o ve.ownBlock) (a8:Own o nE 3 c (s0.a7.map (Value.int .i64)++[.int .i64 n])) (m8:jD c ve.ownBlock C.heap.size)
  (l8:0<=n∧n<=4611686018427387904) (he:(I6 q.e.ix)∧(I6 q.e.tm)∧(I6 q.e.kd)) (l5:s0.l.length+1<=103000000) (ht:q.e.b.length<=65535):
  dO ((o.setCell (tb,3) a).setCell (tb,4) c) F wz nE gj g rv dv vs G al adsP ssP FP tb {s0 with l:=s0.l++[q.e],a7:=s0.a7++[n]} (rsT++[q]) a c bv bh:=by
 have n5:=N.size;have n8:=P.size;have n9:=D.size;have o8:=Q.size;obtain⟨t,M⟩:=eX ((o.setCell (tb,3) a).setCell (tb,4) c);have H:o.grownBy t (some tb):=by rw[M];exact aF (aA o tb 3 _) (aA _ tb 4 _) (.inl rfl)
 rw[<-M];have o9:=H.size;have m9:=h.h8.b4.lt;have V:∀x,x<W.heap.size->vl.ownBlock≠some x->ve.ownBlock≠some x->o.heap[x]? =W.heap[x]? :=fun x f d u=>
  (Q.block x O (fun e=>u e.symm)).trans ((D.block x O).trans ((P.block x O (fun e=>d e.symm)).trans (N.block x f)))
 have A:∀x,x<W.heap.size->x≠tb->vl.ownBlock≠some x->ve.ownBlock≠some x->t.heap[x]? =W.heap[x]? :=fun x f d u j=>
  (H.block x O (fun e=>d (by injection e))).trans (V x f u j)
 have l6:vl.ownBlock≠some tb:=fun e=>aU h.h8.c7 h.h8.b4 δ e
 have l7:ve.ownBlock≠some tb:=fun e=>aU h.h8.a7 h.h8.b4 δ e
 have L:aS o tb 104 #[s0.k,s0.a8,s0.c6,vl,ve]:=(V tb m9 l6 l7).trans h.h8.b4;have m6:aS t tb 104 #[s0.k,s0.a8,s0.c6,a,c]:=by rw[M];exact(L.b8 3 a).b8 4 c
 have l9:C.ownsRow nE 3 1 ve (s0.a7.map (Value.int .i64)).length (s0.a7.map (Value.int .i64)):=by
  have f:=World.ownsRow.kept (World.ownsRow.kept (World.ownsRow.kept h.h8.a7 (aT N none) (by cases ve.ownBlock<;>simp)) P (jrow_type_ne h.h8.a7 h.h8.c7 δ)) (aT D none) (by cases ve.ownBlock<;>simp);exact f
 have S:=World.ownsRow.kept f8 (aT D none) (by cases a.ownBlock<;>simp);have T:=World.ownsRow.kept S Q (jrow_type_ne S l9 δ);have m5:=World.ownsRow.kept T H (by
  cases hq:a.ownBlock with
  |none=>exact .inl rfl
  |some x=>exact .inr (fun e=>aU T L δ (hq.trans e)))
 have m3:=Own.kept a8 H (by
  cases hq:c.ownBlock with
  |none=>exact .inl rfl
  |some x=>exact .inr (fun e=>aU a8 L δ (hq.trans e)))
 have X:=fun x hx=>A x (E x hx).1 (E x hx).2.1 (E x hx).2.2.1 (E x hx).2.2.2
 have kG:=fun x hx=>A x (h.e5.lt x hx) (fun e=>(h.wr tb (.inr (.inl rfl))).1 (e▸hx)) (fun e=>(h.wr x (.inr (.inr (.inl e)))).1 hx) (fun e=>(h.wr x (.inr (.inr (.inr (.inl e))))).1 hx)
 have kP:=fun x hx=>A x (h.fl x hx).1 (fun e=>(h.wr tb (.inr (.inl rfl))).2 (e▸hx)) (fun e=>(h.wr x (.inr (.inr (.inl e)))).2 hx) (fun e=>(h.wr x (.inr (.inr (.inr (.inl e))))).2 hx)
 have Y:∀{e:TypeId} {r m:Nat} {v:Value} {Z:List Value},W.ownsRow nE e r v m Z->e≠104->e≠65->e≠3->∀x,v.ownBlock=some x->t.heap[x]? =W.heap[x]? :=fun {e r m v Z} ho f d u x hx=>by
  refine A x (mL ho x hx).2 (fun e=>aU ho h.h8.b4 f (e▸hx)) (fun e=>?_) (fun e=>?_);rcases jrow_type_ne ho h.h8.c7 d with j|j
  rw[j] at hx;cases hx;exact j (hx.trans e.symm);rcases jrow_type_ne ho h.h8.a7 u with j|j
  rw[j] at hx;cases hx;exact j (hx.trans e.symm)
 have s:W.heap.size<=t:=O;refine⟨h.e5.keepB s (fun x hx=>hx.elim (kG x) (fun hx=>Y h.e5.own δ δ δ x hx)),kI h.row (fun x hx=>Y h.row δ δ δ x hx),h.len,fun i f d=>(h.h5 i f d).b1 s kP,fun x hx=>⟨Nat.lt_of_lt_of_le (h.fl x hx).1 s,(h.fl x hx).2⟩,h.gl,⟨m6,h.h8.low,?_,by rw[mE,h.h8.map];rfl,fun p z=>?_,by rw[mE];exact m3⟩,h.bytes.kept (fun x hx=>?_) s,fun x hx=>?_,⟨⟨h.num.1.k,h.num.1.a8,h.num.1.c6,fun e hx=>?_,fun m w=>?_⟩,?_,?_,fun e hx=>?_,h.num.2.2.2.2⟩⟩;rw[lT,eG];have e:aG [q]=dU q:=by unfold aG;simp
 rw[e];exact m5;rcases mB.1 z with z|z
 exact(h.h8.h6 p z).b1 s X;rw[lY.1 z];exact hd.b1 s X;obtain⟨cs,K⟩:=h.bytes.kind x hx;exact A x (h.bytes.row.lt x hx) (blk_ne K h.h8.b4 δ) (aU h.h8.c7 K δ) (aU h.h8.a7 K δ);have R:∀y,W.heap.size<=y->¬G y∧¬FP y:=fun y U=>⟨fun d=>ω1 (h.e5.lt y d),fun d=>ω1 ((h.fl y d).1)⟩
 rcases hx with hx|hx|hx|hx|hx|hx
 exact h.wr x (.inl hx);exact h.wr x (.inr (.inl hx));rcases m7 with e|⟨y,e,U⟩
 exact h.wr x (.inr (.inr (.inl (e▸hx))));rw[hx] at e;injection e with e
 exact R x O;rcases m8 with e|⟨y,e,U⟩
 exact h.wr x (.inr (.inr (.inr (.inl (e▸hx)))));rw[hx] at e;injection e with e
 exact R x O;exact h.wr x (.inr (.inr (.inr (.inr (.inl hx)))));exact h.wr x (.inr (.inr (.inr (.inr (.inr hx)))));rcases mB.1 hx with hx|hx
 exact h.num.1.l0 e hx;rw[lY.1 hx];exact he;rcases mB.1 w with w|w
 exact h.num.1.a7 m w;rw[lY.1 w];exact l8;show(s0.a7++[n]).length=(s0.l++[q.e]).length+1
 rw[lT,lT,h.num.2.1];rfl;show(s0.l++[q.e]).length<=_
 rw[lT];exact l5;rcases mB.1 hx with hx|hx
 exact h.num.2.2.2.1 e hx;rw[lY.1 hx];exact ht
theorem dO.segsAt(h:dO W F wz nE gj g rv dv vs G al adsP ssP FP tb s0 rsT vl ve bv bh)(f:∀q,F q->q<W.heap.size∧rv.ownBlock≠some q):eF W (fun x=>FP x∨F x∨x=tb∨vl.ownBlock=some x∨ve.ownBlock=some x) nE rv (adsP++[⟨tb,0,none⟩]) (ssP++[s0]):=by
 refine⟨h.row,by rw[lT,lT,h.len];rfl,fun i d b=>?_,fun x hx=>?_,fun r a hx=>?_⟩;by_cases c:i<adsP;rw[List.getElem_append_left c,List.getElem_append_left (by rw[<-h.len];exact c)];exact(h.h5 i c _).mono (fun x hx=>.inl hx);have e:i=adsP:=by rw[lT] at d;simp at d;omega
 subst e;have j:(ssP++[s0])[adsP.length]=s0:=by simp[h.len]
 rw[j];simp only[List.getElem_concat_length];exact(h.h8.segMx h.num.1 h.num.2.1 (ω1 (h.num.2.2.1)) h.num.2.2.2.1).mono (fun x hx=>.inr hx);rcases hx with hx|hx|hx|hx|hx
 exact(h.fl x hx).1;exact(f x hx).1;rw[hx];exact h.h8.b4.lt;exact(mL h.h8.c7 x hx).2;exact(mL h.h8.a7 x hx).2;rcases hx with hx|hx|hx|hx|hx
 exact(h.wr r (.inl a)).2 hx;exact(f r hx).2 a;exact aU h.row h.h8.b4 δ (hx▸a);rcases jrow_type_ne h.row h.h8.c7 δ with b|b
 rw[b] at a;cases a;exact b (a.trans hx.symm);rcases jrow_type_ne h.row h.h8.a7 δ with b|b
 rw[b] at a;cases a;exact b (a.trans hx.symm)
theorem dO.dvFar(h:dO W F wz nE gj g rv dv vs G al adsP ssP FP tb s0 rsT vl ve bv bh)(f:∀q,F q->dv.ownBlock≠some q):∀x,((FP x∨F x∨x=tb∨vl.ownBlock=some x∨ve.ownBlock=some x)∨rv.ownBlock=some x)->dv.ownBlock≠some x:=fun x hx e=>by
 have a:∀{d:TypeId} {b m:Nat} {v:Value} {l:List Value},W.ownsRow nE d b v m l->98≠d->v.ownBlock=some x->False:=fun i j k=>by
  rcases jrow_type_ne h.e5.own i j with c|c
  rw[c] at e;cases e;exact c (e.trans k.symm)
 rcases hx with(hx|hx|hx|hx|hx)|hx
 exact(h.wr x (.inr (.inr (.inr (.inr (.inr e)))))).2 hx;exact f x hx e;exact aU h.e5.own h.h8.b4 δ (hx▸e);exact a h.h8.c7 δ hx;exact a h.h8.a7 δ hx;exact a h.row δ hx
theorem dO.from_(h:dO W F wz nE gj g rv dv vs G al adsP ssP FP tb s0 rsT vl ve bv bh){F0:Nat->Prop}(a:∀q,F q->F0 q∨nE<=q):∀x,((FP x∨F x∨x=tb∨vl.ownBlock=some x∨ve.ownBlock=some x)∨rv.ownBlock=some x)->F0 x∨nE<=x:=fun x hx=>by
 rcases hx with(hx|hx|hx|hx|hx)|hx
 rcases(h.fl x hx).2 with h1|h1
 exact a x h1;exact .inr h1;exact a x hx;exact .inr (hx▸h.h8.low);exact .inr (mL h.h8.c7 x hx).1;exact .inr (mL h.h8.a7 x hx).1;exact .inr (h.row.lt x hx).1
end
def zM(nw:Bool)(k:Int)(hd:List UInt8):List aQ:=if nw=true then[.app (aE k) hd,.sync (aE k)] else[]
theorem bR4{j:bQ}{ix t:Int}(h:∀s∈j.b0,1<=s.k∧s.k<=999999999):1<=(tV j ix t).k∧(tV j ix t).k<=1000000000:=by
 unfold tV;rcases mJ j.b0 with a|⟨r,x,a⟩
 rw[a];simp;rw[mA] at a;have:=h x (by rw[a];simp);rw[a];simp only[List.getLast?_append,List.getLast?_singleton,Option.some_or];omega
theorem bM8{j:bQ}{ix t c:Int}(h:c=(uI j ix).getD 0):xK j ix t↔ix<j.base.1∨9223372036854775805<ix∨t<0∨(ix=j.base.1∧c≠t):=by
 have e:ix=j.base.1->(jC j ix).getD 0=c:=fun e=>by
  rw[h];unfold jC uI;rw[if_pos e.symm,if_pos e.symm]
 unfold xK;show _∨9223372036854775807-2<ix∨_∨_↔_
 constructor;rintro(a|a|a|⟨a,b⟩);exact .inl a;exact .inr (.inl O);exact .inr (.inr (.inl a));exact .inr (.inr (.inr ⟨a,by rw[<-e a];exact b⟩));rintro(a|a|a|⟨a,b⟩);exact .inl a;exact .inr (.inl O);exact .inr (.inr (.inl a));exact .inr (.inr (.inr ⟨a,by rw[e a];exact b⟩))
theorem bY1{j:bQ}{ix t b:Int}{a:Bool}{R:Option Int}(c:R=jC j ix)(h:b=R.getD 0)(hi:a=R.isSome):aC8 j ix t=(decide (j.b7.1<ix)||(a&&(b !=t))):=by
 unfold aC8;rw[<-c,h,hi];cases R with
 |none=>rfl
 |some x=>simp[bne,BEq.beq]
theorem aJ1{w:World}{base g m gj:Nat}{F:Nat->Prop}{d:DkD}{j:bQ}{es:List (Nm×FE)}(h:aT8 w base g m gj F d j es)(J1:base<=w){L:Nat}(Z8:gP L d)(hL:L<=100000000000)(hE:∀T,Below base w T ->aM0 T)(U5:j.b0.length<=999999999)(D0:∀s∈j.b0,1<=s.k∧s.k<=999999999)
  (ix t:Int) (Z1:I6 ix) (ht:I6 t):
  Calls Tryz.prog 17 #[(gj,0),ix,t] w fun e T =>vK w base g m gj es F (bZ j d ix t) e T :=by
 have S4:=h.jn.lt;have M0:=fun k v=>(h.apart k v).2.1
 have l5:=J h.jn.base;have C2:=J (fun T (hb:Below w w T)=>(h.jn.a1 M0 hb).b7);have l9:=J (fun T (hb:Below w w T)=>bH6 (h.jn.a1 M0 hb) (fun k v=>ω2 (M0 k v) hb.size) ix Z1);have BO:=bQ.k3 h.jn;obtain⟨ba,S3⟩:=eX (j.base.1);obtain⟨bt,Y6⟩:=eX (j.base.2);obtain⟨la,S7⟩:=eX (j.b7.1);obtain⟨lt,S8⟩:=eX (j.b7.2);obtain⟨tv,Q0⟩:=eX ((uI j ix).getD 0);obtain⟨AG,I2⟩:=eX ((uI j ix).isSome);have G8:=bM8 (t:=t) Q0;have m5:∀s∈j.b0,0<=s.a8∧s.a8<=9223372036854775806:=by
  obtain⟨⟨A,c,C5,y,H,K,h4,Y⟩,h6,_⟩:=h.jn;intro s hs;obtain⟨i,hi,rfl⟩:=List.getElem_of_mem hs;exact(Y i O hi).rd.num.a8
 have N6:-1<=ix->aC8 j ix t=(decide (la<ix)||(AG&&(tv !=t))):=fun y=>by rw[S7];exact bY1 (bT8 m5 y Z1.2) Q0 I2
 rw[<-S3] at G8 BO;rw[<-S3,<-Y6] at l5;have l6:Hq (∀T,Below w w T ->Calls Tryz.prog 40 #[(gj,0)] T fun e w2=>e=.returned (.tuple #[la,lt])∧Below T T w2):=J (fun T hb=>by rw[S7,S8];exact C2.o T hb);rw[<-Q0,<-I2] at l9;obtain⟨jb,S5⟩:=eX j.bad;obtain⟨⟨A,c,C5,y,H,K,h4,Y⟩,h6,N8⟩:=h.jn;rw[<-S5] at y;obtain⟨nl,P8⟩:=eX j.b0.length;rw[<-P8] at H h4 h6 U5;have HJ:Hq (aS w gj 53 #[j.c6,j.h7,.slice A nl c,(g,0),jb]):=J (by rw[P8];exact y);have X3:=J K;have X4:=J Y;have M:=J h;have X2:=J Z8;have HE:=J hE;have X0:=J D0;have K8:=J S5;have l7:=J P8;have l4:=J h4;have p5:=J G8;have q8:=J N6;have s9:=J N8;have K4:=J M0;clear h y K h4 Y h6 Z8 hE D0 S5 P8 G8 N6 N8 M0 C2 S3 Y6 S7 S8 Q0 I2 m5;go_enter Tryz.func17,Tryz.ntmps17;go_wp2_with fail;refine l5.o.mono ?_;rintro e w1 ⟨rfl,S0⟩;have Q7:=J S0;have X1:=J (l6.o w1 S0);clear S0 l5 l6;go_wp2_with fail;refine X1.o.mono ?_;rintro e w2 ⟨rfl,Y3⟩;have O3:=J (Q7.o.trans (Y3.mono Q7.o.size));have X6:=J (l9.o w2 O3.o);clear Y3 X1 Q7 l9;go_wp2_with fail;refine X6.o.mono ?_;rintro e w3 ⟨rfl,Y4⟩;have p4:=J (O3.o.trans (Y4.mono O3.o.size));have U1:=p4.o.size;clear Y4 X6 O3;have R4:=J (HJ.o.a1 p4.o S4);have j4:=R4.o.c 4;by_cases hb:jb=0;rotate_left
 ·have BP:=bne_iff_ne.2 hb
  have HR:=J (show bZ j d ix t=(jb,j,d) by rw[kW,if_pos (by rw[<-K8.o];exact hb),K8.o]);clear hb q8 p5;go_wp2;go_ret;exact M.o.same p4.o HR.o
 subst hb;by_cases hbc:xK j ix t
 ·have HR:=J (show bZ j d ix t=(1,j,d) by rw[kW,if_neg (by rw[<-K8.o];simp),if_pos hbc])
  have HC:=J (p5.o.1 hbc);clear hbc q8;by_cases y:ix<ba
  ·go_wp2
   go_ret;exact M.o.same p4.o HR.o
  by_cases H:9223372036854775805<ix
  ·go_wp2
   go_ret;exact M.o.same p4.o HR.o
  by_cases K:t<0
  ·go_wp2
   go_ret;exact M.o.same p4.o HR.o
  have h4:ix=ba∧tv≠t:=by
   rcases HC.o with h|h|h|h
   exact absurd h y;exact absurd h H;exact absurd h K;exact h
  have Y:=beq_iff_eq.2 h4.1;have h6:=bne_iff_ne.2 h4.2;clear h4 HC;go_wp2;go_ret;exact M.o.same p4.o HR.o
 have N5:=fun h=>hbc (p5.o.2 h)
 have y:¬ix<ba:=fun h=>N5 (.inl h)
 have H:¬9223372036854775805<ix:=fun h=>N5 (.inr (.inl h))
 have K:¬t<0:=fun h=>N5 (.inr (.inr (.inl h)))
 have h4:¬(ix=ba∧tv≠t):=fun h=>N5 (.inr (.inr (.inr h)))
 have HR:=J (show bZ j d ix t=iE j d ix t (aC8 j ix t) (tV j ix t) by rw[kW,if_neg (by rw[<-K8.o];simp),if_neg hbc]);have n5:=J (q8.o O);clear N5 hbc p5 q8;go_upto_region 9 with fail
 go_cut [52] from 60 to 67 (fun c wx=>c=.bool false∧wx=w3)
 case first=>
  by_cases Y:ix=ba
  ·have h6:=beq_iff_eq.2 Y
   have h7:(tv !=t)=false:=by rw[bne_eq_false_iff_eq];exact Classical.byContradiction fun h=>h4 ⟨Y,h⟩
   clear h4 Y;go_wp2;go_meet;exact⟨rfl,rfl⟩
  have h6:=mN.2 Y;clear h4 Y;go_wp2;go_meet;exact⟨rfl,rfl⟩
 obtain⟨rfl,rfl⟩:=hcut;have j2:=R4.o.c 2;have V0:=J (wC A nl c (C5.map fun a=>.pointer (some a)) wc ((X3.o.rd.a1 p4.o).more U1) (by rw[lU,l4.o];omega) (fun u hu=>by obtain⟨a,_,rfl⟩:=mF.1 hu;rfl) O);clear j4 h4;go_wp2_with fail;refine V0.o.mono ?_;rintro e w4 ⟨v4,rfl,g9,Y5⟩;obtain⟨A4,c4,CD,k1,k2,_⟩:=aK g9;subst CD;have I7:=J (p4.o.trans (Y5.mono U1));have AA:=I7.o.size;have E9:Hq (eF w4 F w (.slice A4 nl c4) C5 j.b0):=J ⟨by
   unfold Own;rw[lU,l4.o];exact pK g9 U1,by rw[l4.o,l7.o],fun i y H=>(X4.o i y H).b1 AA (fun k v=>I7.o.block k (K4.o k v)),fun k v=>ω1 (K4.o k v),fun r B hf=>ω2 ((mL g9 r B).1) (K4.o r hf)⟩
 clear g9 Y5 V0 j2 X3 X4 R4;obtain⟨V,N9⟩:=eX (aC8 j ix t);rw[<-N9] at HR n5;have AW:=J N9;clear N9;go_upto_region 14 with fail
 go_cut [84] from 74 to 84 (fun c wx=>c=.bool V∧wx=w4)
 case first=>
  by_cases Y:la<ix
  ·have hn:V=true:=by rw[n5.o];simp[Y]
   subst hn;clear n5;go_wp2;go_meet;exact⟨rfl,rfl⟩
  cases AG with
  |false=>
   have hn:V=false:=by rw[n5.o];simp[Y]
   subst hn;clear n5;go_wp2;go_meet;exact⟨rfl,rfl⟩
  |true=>
   by_cases h6:tv=t
   ·have h7:(tv !=t)=false:=by rw[bne_eq_false_iff_eq];exact h6
    have hn:V=false:=by rw[n5.o,h7];simp[Y]
    subst hn;clear n5 h6;go_wp2;go_meet;exact⟨rfl,rfl⟩
   have h7:=bne_iff_ne.2 h6;have hn:V=true:=by rw[n5.o,h7];simp
   subst hn;clear n5 h6;go_wp2;go_meet;exact⟨rfl,rfl⟩
 obtain⟨rfl,rfl⟩:=hcut;clear n5;go_upto_if 84 with fail
 obtain⟨I,P9⟩:=eX (tV j ix t);obtain⟨S,Z0⟩:=eX (dN (ix+1) t);have G2:=J P9;have K7:=J Z0;clear P9 Z0;go_cut [13,14,15] from 85 to 146 (fun c13 L7 c15 wx=>∃(A5:Option Addr) (R fr:Nat) (dv:Value) (D:List aH) (f8:List Addr) (vs:List Value) (F5 G:Nat->Prop),c13=.slice A5 D.length R∧L7=dv∧c15=.int .i64 fr∧D.length<=1000000000∧fr<=D.length∧vs.length<=2∧Hq (D=(if V=true then j.b0++[I] else j.b0)∧fr=(if V=true then j.b0.length else 0)∧(V=true->¬999999999<I.k∧¬d.free<(S.length:Int)∧S.length<=1048600))∧Hq (Below w.heap.size w wx)∧Hq (eF wx F5 w.heap.size (.slice A5 D.length R) f8 D)∧Hq (eO wx G w.heap.size gj g dv vs (zM V I.k S))∧Hq ((∀r,(Value.slice A5 D.length R).ownBlock=some r->¬G r)∧(∀r,dv.ownBlock=some r->¬F5 r)∧(∀x,G x->w.heap.size<=x)∧(∀x,F5 x->F x∨w.heap.size<=x)))
 case first=>
  cases V with
  |false=>
   go_wp2;go_meet;refine⟨A4,c4,0,.slice none 0 0,j.b0,C5,[],F,fun _=>False,by rw[l7.o],rfl,rfl,by rw[<-l7.o];omega,O,σ,J ⟨rfl,rfl,(fun h=>by cases h)⟩,I7,J (by rw[<-l7.o];exact E9.o),J eO.nil,J ⟨(fun _ _ h=>h),(fun r B=>by cases B),(fun _ h=>h.elim),(fun x hx=>.inl hx)⟩⟩
  |true=>
   have CF:IntKind.i64.wrap (ix+1)=ix+1:=mH _ O;obtain⟨wA,Q2⟩:=eX (wc.alloc (.cells #[.int .i64 1,.int .i64 (ix+1),t,.slice none 0 0,.slice none 0 0] 104));have B7:=bN Q2;have N2:=kN Q2;obtain⟨C,O1⟩:=eX wc.heap.size;rw[<-O1] at B7 N2;have J9:=J B7;have O7:=J N2;have X8:=J Q2;have R6:=J O1;have U4:w<=C:=O;have AD:=B7.size;have U3:=N2.lt;have CG:=N2.a6 0;have K5:=J (fun wx (hb:Below C wc wx)=>And.intro (I7.o.trans (hb.mono U4)) (E9.o.a1 (O1▸hb)));have BC:=J (show∀r,(Value.slice A4 nl c4).ownBlock=some r->r<C from fun r B=>by rw[O1];exact(E9.o.own.lt r B).2);have O8:=J (show 1<=I.k∧I.k<=1000000000 by rw[G2.o];exact bR4 X0.o);clear Q2 B7 N2 O1 AA;go_upto_region 16 with fail
   rw[<-X8.o,<-R6.o];go_upto_if 92 with fail
   go_cut [] from 90 to 105 (fun wx=>Hq (Below C wc wx)∧Hq (aS wx C 104 #[I.k,.int .i64 (ix+1),t,.slice none 0 0,.slice none 0 0]))
   case first=>
    by_cases h0:nl=0
    ·have I3:I.k=1:=by
      have y:=mD (by rw[<-l7.o];exact h0);rw[G2.o];unfold tV;rw[y];rfl
     have AQ:=J I3;have CM:¬(0:Int)<(nl:Int):=O;clear I3 h0;go_wp2;go_meet;exact⟨J9,J (by rw[AQ.o];exact O7.o)⟩
    obtain⟨lm,hm⟩:=eX (nl-1);have T0:lm<nl:=O;have T3:(lm:Int)<(nl:Int):=O;have BZ:(nl:Int)-1=(lm:Int):=O;have CS:IntKind.i64.wrap (lm:Int)=(lm:Int):=mH _ O;have S9:lm<j.b0:=by rw[<-l7.o];exact T0
    have Z7:lm<C5:=by rw[l4.o];exact T0
    have m6:I.k=j.b0[lm].k+1:=by
     rw[G2.o];unfold tV;have e:j.b0.getLast?=some j.b0[lm]:=by
      rw[List.getLast?_eq_getElem?,<-l7.o,<-hm,lW S9]
     rw[e]
    have Z6:=X0.o j.b0[lm] (lX S9);obtain⟨ab,ao,e4,_,j9,C6⟩:=(dM.e1 (F:=fun _=>True) E9.o.own (fun _ _ _=>trivial)) (by rw[lU];omega);subst e4;obtain⟨b,o,Al,cl,rs,Ae,ce,M4,BJ,N4,d0,_⟩:=(E9.o.h5 lm Z7 S9).rd.cells;have e0:wA.cell? (ab,ao+lm)=some (.pointer (b,o)):=(J9.o.cell (p:=(ab,ao+lm)) (by show ab<C;rw[R6.o];exact j9)).trans (C6 lm _ (by rw[List.getElem?_map,lW Z7,M4];rfl));obtain⟨kl,Z4⟩:=eX (j.b0[lm].k);rw[<-Z4] at d0 m6 Z6;have f0:=(J9.o.cell (p:=(b,o)) (by show b<C;rw[R6.o];exact N4)).trans d0;have CR:IntKind.i64.wrap (kl+1)=kl+1:=mH _ O;have s0:=O7.o.c 0;have AT:=J m6;clear hm m6 Z6 C6 M4 d0 Z4 h0;go_wp2;go_meet;refine⟨J (J9.o.grown (aA wA C 0 (.int .i64 (kl+1))) O (fun k v=>by injection v with v;omega)),J ?_⟩;rw[AT.o];exact O7.o.b8 0 (.int .i64 (kl+1))
   obtain⟨J8,O5⟩:=hcut;clear J9 O7 X8 CG AD U3 E9 I7;have R3:=J (K5.o _ J8.o).1;have Z3:=O5.o.lt;have AB:=R3.o.size;have V8:=J (aE9 C 0 (ix+1) t O ht wc (O5.o.cell 1) (O5.o.cell 2) Z3);go_wp2_with fail;refine V8.o.mono ?_;rintro e U ⟨v6,rfl,P5,C9⟩;rw[<-K7.o] at P5;obtain⟨A6,c6,CE,p1,p2,_⟩:=P5.b3;subst CE;have BT:S.length<=1048600:=by
    rw[K7.o];refine dF ?_;have y:(nD (ix+1)).length<=10:=by
     unfold nD;split;simp;exact dG _ O
    have H:(dL [t]).length<=10:=fK (z:=[t]) (by intro n hn;obtain rfl:=lY.1 hn;exact ht);rw[lT];omega
   have O4:=J P5;have AC:=C9.size;have Z2:=O5.o.a1 C9 Z3;obtain⟨wI,J3⟩:=eX (U.alloc (.cells #[S.length] 3));have J0:=bN J3;have T7:=kN J3;have P6:=Z2.a1 J0 O;obtain⟨rI,B9⟩:=eX U.heap.size;rw[<-B9] at T7;have J2:=aA wI C 4 (.slice (rI,0) 1 1);obtain⟨w7,Q1⟩:=eX (wI.setCell (C,4) (.slice (rI,0) 1 1));have O6:Hq (aS w7 C 104 #[I.k,.int .i64 (ix+1),t,.slice none 0 0,.slice (rI,0) 1 1]):=J (by rw[Q1];exact P6.b8 4 _);rw[<-Q1] at J2;have R5:=J (T7.grown J2 (by intro e;injection e with e;omega));have CP:=J0.size;have G7:Below C U w7:=(J0.mono O).grown J2 O (fun k v=>by injection v with v;omega);have V5:=J ((O4.o.a1 J0 (lR _)).kept (fun q hq=>J2.block q ((O4.o.a1 J0 (lR _)).row.lt q hq) (fun e=>by injection e with e;have:=O4.o.row.base q hq;omega)) J2.size);have Q8:=J (J8.o.trans ((C9.mono O).trans G7));have sI:(U.alloc (.cells #[S.length] 3)).cell? (C,4)=some (.slice none 0 0):=by rw[<-J3];exact P6.cell 4
   have zI:(U.alloc (.cells #[S.length] 3)).frozen? (C,4)=false:=by rw[<-J3];exact P6.a6 4
   have X7:=J (show w7=(U.alloc (.cells #[S.length] 3)).setCell (C,4) (.slice (U,0) 1 1) by rw[Q1,J3,B9]);have BV:=G7.size;have T8:rI<w7∧wc<=rI:=⟨R5.o.lt,by rw[B9];exact AC⟩;clear P5 C9 Z2 J3 J0 T7 P6 B9 J2 Q1 G7 V8 O4;go_upto_region 20 with fail
   rw[<-X7.o];have CI:=O6.o.c 0;have p6:=J (K5.o _ Q8.o).1;have CH:=(HJ.o.a1 p6.o S4).c 3;clear sI zI X7;by_cases hmax:999999999<I.k
   ·have AZ:=J (show bZ j d ix t=(1,j,d) by rw[HR.o];unfold iE;rw[<-G2.o,if_pos ⟨rfl,hmax⟩])
    go_wp2;go_ret;exact M.o.same p6.o AZ.o
   have V7:=J (M.o.a1 p6.o);have B8:=tI V7.o.c8 (by rw[M.o.fs];have:=X2.o.sz;omega);rw[M.o.fs] at B8;obtain⟨fr,I0⟩:=eX (d.room-bC d.fs);rw[<-I0] at B8;have C1:=J B8;have V4:=J (show d.free=fr from I0.symm);clear B8 I0;go_wp2_with fail;refine C1.o.mono ?_;rintro e w8 ⟨rfl,I9⟩;have BW:=I9.size;have Q9:=J (Q8.o.trans (I9.mono O));have D9:=J (O6.o.a1 I9 O6.o.lt);have P0:=J (R5.o.a1 I9 T8.1);have D7:=J (V5.o.a1 I9 (lR _));have p7:=J (K5.o _ Q9.o).1;clear I9 C1 Q8 O6 R5 V5 p6 V7 CI CH HJ;by_cases Z:fr<(S:Int)
   ·have L5:=J (show bZ j d ix t=(52,j,d) by rw[HR.o];unfold iE;rw[<-G2.o,if_neg (fun h=>O),if_pos ⟨rfl,by rw[V4.o,<-K7.o];exact Z⟩])
    go_wp2;go_ret;exact M.o.same p7.o L5.o
   have T6:=fJ I.k (ω1 O8.o);have X5:=J (HE.o w8 (p7.o.mono J1));have p9:=J (jI C 0 I.k (ω1 O8.o) w8 (D9.o.cell 0) X5.o);obtain⟨nm,I4⟩:=eX (aE I.k);have O9:=J I4;rw[<-I4] at p9 T6;have L4:=J (And.intro hmax (show¬d.free<(S:Int) by rw[V4.o];exact Z));clear I4 X5 HR;go_wp2_with fail;clear Z hmax;refine p9.o.mono ?_;rintro e w9 ⟨rfl,P4⟩;have BX:=P4.size;have V6:=J (D7.o.a1 P4 (lR _));have U9:=J P4;clear P4 p9;go_wp2_with fail;refine(show Calls _ _ _ w9 _ from aJ3 (gj:=gj) (g:=g) nm O S A6 c6 p1 O w9).mono ?_;rintro e U7 ⟨vP,rfl,B6,⟨FP,a8,rfl⟩,_,C7⟩;have O0:=B6.size;have i6:=J (V6.o.a1 B6 (lR _));have o8:=J (U9.o.trans (B6.mono BX));have V9:=J (C7 (fun x=>C<=x∧x<U7.heap.size) (fun x y H=>⟨O,H⟩) (i6.o.rdR (fun x y H=>⟨O,H⟩)));have L0:=J (D9.o.a1 o8.o D9.o.lt);have E5:=J (jI C 0 I.k (ω1 O8.o) U7 (L0.o.cell 0) (HE.o U7 ((p7.o.trans (o8.o.mono O)).mono J1)));rw[<-O9.o] at E5;clear B6 C7 U9 V6 D7 L0;go_wp2_with fail;refine E5.o.mono ?_;rintro e AH ⟨rfl,G4⟩;have T9:=G4.size;have J7:=J G4;clear G4 E5;go_wp2_with fail;refine(show Calls _ _ _ AH _ from tO (gj:=gj) (g:=g) nm O AH).mono ?_;rintro e X ⟨vS,rfl,G5,⟨Fs,a9,rfl⟩,_,C8⟩;have BU:=G5.size;have d8:=J (J7.o.trans (G5.mono T9));have o9:=J (o8.o.trans (d8.o.mono O));have W5:=J (C8 (fun x=>C<=x∧x<X.heap.size) (fun x y H=>⟨O,H⟩));have K9:=J ((V9.o.b1 d8.o.size (fun x hx=>d8.o.block x hx.2)).mono (E' :=fun x=>C<=x∧x<X.heap.size) (fun x hx=>⟨hx.1,O⟩));clear G5 C8 V9 J7 o8;have S2:=bA X (.cells #[.func (.func FP) #[] a8,.func (.func Fs) #[] a9] 98);have CN:=S2.size;have P1:=J (cS X 98 [.func (.func FP) #[] a8,.func (.func Fs) #[] a9]);have I8:=J S2;clear S2;go_upto_region 25 with(at_builtin;go_must (refine aP rfl (.tmp 129) (.tmp 139) 110 rfl w.heap.size 98 .nilFunc 8 Tryz.underlying110 iV rfl _ [] rfl (Own.nil _ _ _) (X.heap.size+1) (some ⟨X.heap.size,0,none⟩) 2 2 [.func (.func FP) #[] a8,.func (.func Fs) #[] a9] rfl rfl P1.o (by simp[Value.oneCell']) (by unfold maxLen;simp) σ O ?_;intro Q3 J4 m7 M9 M6;have L2:=J m7;have D5:=J M9;have D4:=J M6;clear m7 M9 M6))
   have V2:Hq (∀r,Q3.ownBlock=some r->X.heap.size<r):=J (fun r B=>by
    rcases D4.o with e|⟨q,e,hq⟩
    rw[B] at e;cases e;rw[B] at e;injection e with e
    have:(X.alloc (.cells #[.func (.func FP) #[] a8,.func (.func Fs) #[] a9] 98)).heap.size=X+1:=by simp
    omega)
   have m3:=(lS _ X).trans ((I8.o.grown D5.o O (fun k v=>by cases v)));have U0:=m3.size;have J5:Hq (eO J4 (fun x=>C<=x∧x<X.heap.size) w gj g Q3 [.func (.func FP) #[] a8,.func (.func Fs) #[] a9] (zM true I.k S)):=J (by
    have e:zM true I.k S=[]++[.app nm S,.sync nm]:=by rw[O9.o];rfl
    rw[e];refine eO.j9 (vs:=[]) eO.nil rfl (fun i y H=>?_) (by simp[Value.oneCell']) (fun x hx=>hx.elim) (fun x hx=>O) (fun r B=>by cases B) D5.o D4.o L2.o;have hi:i<2:=y;rcases(by omega:i=0∨i=1) with rfl|rfl
    exact K9.o.b1 I8.o.size (fun x hx=>I8.o.block x hx.2);exact W5.o.b1 I8.o.size (fun x hx=>I8.o.block x hx.2))
   have D3:=J (Q9.o.trans ((o9.o.trans (m3.mono O)).mono O));have D8:=J ((D9.o.a1 o9.o D9.o.lt).a1 m3 (ω1 D9.o.lt));have E8:=J ((P0.o.a1 o9.o P0.o.lt).a1 m3 (ω1 P0.o.lt));clear m3 K9 W5 P1 I8 D5 D4 L2 Q9 D9 P0 o9 d8 i6 p7;have C4:=J (K5.o _ D3.o).2;have I5:=bA J4 (.cells #[(C,0)] 108);have CO:=I5.size;have P3:=J (C4.o.a1 I5);have AJ:=J (J5.o.a1 I5);have AS:=J (D8.o.a1 I5 D8.o.lt);have BB:=J (E8.o.a1 I5 E8.o.lt);have AN:=J (D3.o.trans (I5.mono O));have BA:=J (cS J4 108 [(C,0)]);have j9:(C5.map fun a=>Value.pointer (some a)).length=nl:=by rw[lU,l4.o]
   have Q5:=J j9;have AY:=J P3.o.own;clear I5 j9 C4 J5 D8 E8 D3;go_wp2_with (at_builtin;go_must (refine aP rfl (.tmp 143) (.tmp 145) 49 rfl w.heap.size 108 (.pointer none) 8 Tryz.underlying49 oI rfl _ _ rfl AY.o (J4.heap.size+1) (some ⟨J4.heap.size,0,none⟩) 1 1 [.pointer (some ⟨C,0,none⟩)] rfl rfl BA.o (by simp[Value.oneCell']) (by rw[Q5.o];unfold maxLen;omega) (by rw[Q5.o];omega) O ?_;intro CT CU m8 N0 M7;have L3:=J m8;have D6:=J N0;have K3:=J M7;clear m8 N0 M7));go_meet;obtain⟨AI,L7,m9,_⟩:=L3.o.b3;have S6:(C5.map (fun a=>Value.pointer (some a))++[Value.pointer (C,0)]).length=(j.b0++[I]).length:=by
    rw[lT,lT,Q5.o,<-l7.o];rfl
   rw[S6] at m9;have C0:=BC.o;have P9:I=⟨I.k,ix+1,t,[],[(S:Int)]⟩:=by
    rw[K7.o,G2.o];rfl
   have hM:iY (J4.alloc (.cells #[(C,0)] 108)) (fun x=>F x∨(C<=x∧x<X.heap.size)) (C,0) I:=by
    rw[P9];exact bT2 AS.o BB.o (.inr ⟨lR _,O⟩) (.inr ⟨O,O⟩) (ω1 O8.o) O ht O
   have hP:=eF.push (F' :=fun x=>F x∨(C<=x∧x<X.heap.size)) P3.o hM (fun x hx=>.inl hx) (fun x hx=>by
    rcases hx with hx|hx
    have:=K4.o x hx;omega;omega) (fun r B hx=>by
    have y:=C0 r B;rcases hx with hx|hx
    exact P3.o.apart r B hx;omega) D6.o K3.o L3.o
   have R8:=AJ.o.other D6.o (by
    cases hq:Q3.ownBlock with
    |none=>exact .inl rfl
    |some q=>
     refine .inr (fun e=>?_);have y:=V2.o q hq;have H:=C0 q e.symm;omega) (fun r B hx=>ω1 (C0 r B))
   rw[m9] at hP;refine⟨AI,L7,nl,Q3,j.b0++[I],C5++[⟨C,0,none⟩],[.func (.func FP) #[] a8,.func (.func Fs) #[] a9],fun x=>F x∨(C<=x∧x<X.heap.size),fun x=>C<=x∧x<X.heap.size,m9,rfl,rfl,by rw[lT,<-l7.o];simp;omega,by rw[lT,<-l7.o];omega,by simp,J ⟨by simp,by simp[l7.o],fun _=>⟨L4.o.1,L4.o.2,BT⟩⟩,J ((K5.o _ AN.o).1.grown D6.o (by omega) (fun k v=>(P3.o.own.lt k v).1)),J hP,J R8,J ⟨fun r B hx=>?_,fun r B hx=>?_,fun x hx=>by omega,fun x hx=>hx.imp id (fun h=>by omega)⟩⟩;rcases K3.o with e|⟨q,e,hq⟩
   rw[m9] at e;have:=C0 r (e▸B);omega;rw[m9,B] at e;injection e with e
   omega;have y:=V2.o r B;rcases hx with hx|hx
   have:=K4.o r hx;omega;omega
 obtain⟨A5,R,fr,dv,D,f8,vs,F5,G,BF,X9,BG,BY,B8,AF,K0,R2,G3,U8,Q6⟩:=hcut;subst BF BG;have R7:=X9.symm;clear X9;subst R7;clear E9 I7;obtain⟨Q,N7⟩:=eX D.length;have C3:=J N7;rw[<-N7] at G3 Q6 BY B8⊢;have M8:fr<=D:=by rw[<-N7];exact B8
 obtain⟨N,hN⟩:=eX (gY D ix Q fr);have Y1:N<=Q:=by rw[hN,N7];exact tJ D ix _ _ M8
 have HN:=J hN;have CF:IntKind.i64.wrap (ix+1)=ix+1:=mH _ O;have AB:=R2.o.size;obtain⟨BQ,BR⟩:Q<=R∧R<=maxLen:=by
  obtain⟨A',c',hv,k1,k2,_⟩:=Own.b3 G3.o.own;injection hv with _ e1 e2
  rw[<-e1] at k1;subst e2;exact⟨k1,k2⟩
 clear hN N7 M8;go_upto_block 2 with fail
 go_cut [15] from 147 to 166 (fun c15 wx=>c15=.int .i64 N∧wx=wc)
 case first=>
  go_wp2_with fail;go_loopw [15] (fun i wr=>∃(k j8:Nat),k<=Q∧i=.int .i64 k∧wr=wc∧Q<=j8+k∧Hq (N=gY D ix j8 k)) (fun i _=>Q-(intOf i).toNat)
  case atStart=>exact⟨fr,Q,B8,rfl,rfl,O,HN⟩
  obtain⟨k,j8,v,rfl,rfl,CK,L1⟩:=hrel;clear HN B8;have CQ:IntKind.i64.wrap ((k:Int)+1)=(k:Int)+1:=mH _ O;by_cases I3:k+1<Q;rotate_left
  ·have M2:N=k:=by
    rw[L1.o];cases j8 with
    |zero=>rfl
    |succ f=>
     show(match D[k+1]? with|some s=>_|none=>_)=_
     rw[List.getElem?_eq_none (by rw[<-C3.o];omega)]
   have E6:=J M2;have CL:¬(k:Int)+1<(Q:Int):=O;clear L1 M2 I3;go_wp2;go_meet;exact⟨by rw[E6.o],rfl⟩
  have N3:k+1<f8:=by rw[G3.o.len,<-C3.o];exact I3
  have D0:k+1<D:=by rw[<-C3.o];exact I3
  obtain⟨ab,ao,e5,_,j9,C6⟩:=(dM.e1 (F:=fun _=>True) G3.o.own (fun _ _ _=>trivial)) (by rw[lU];omega);subst e5;obtain⟨b,o,Al,cl,rs,Ae,ce,M4,BJ,N4,_,d1,_⟩:=(G3.o.h5 (k+1) N3 D0).rd.cells;obtain⟨m1,P7⟩:=eX (k+1);have e0:wr.cell? (ab,ao+m1)=some (.pointer (b,o)):=by rw[P7];exact C6 (k+1) _ (by rw[List.getElem?_map,lW N3,M4];rfl)
  obtain⟨f2,rfl⟩:∃f,j8=f+1:=⟨j8-1,O⟩
  have i4:N=if D[k+1].a8<=ix+1 then gY D ix f2 (k+1) else k:=by
   rw[L1.o];show(match D[k+1]? with|some s=>_|none=>_)=_
   rw[lW D0]
  obtain⟨fi,Y8⟩:=eX (D[k+1].a8);rw[<-Y8] at d1 i4;rw[<-P7] at i4;have BN:(k:Int)+1=(m1:Int):=O;have T0:m1<Q:=O;have T3:(m1:Int)<(Q:Int):=O;have AU:=J P7;have l8:=J i4;clear C6 M4 Y8 i4 P7 I3;by_cases hle:fi<=ix+1
  ·have AV:=J (show N=gY D ix f2 m1 by rw[l8.o,if_pos hle])
   clear l8 L1;go_wp2;go_roundw
   case rel=>exact⟨m1,f2,O,by go_num,by first|rfl|trivial,ω1 AU.o,AV⟩
   case measure=>simp[intOf];omega
  have M2:N=k:=by rw[l8.o,if_neg hle]
  have E6:=J M2;clear l8 L1 M2;go_wp2;go_meet;exact⟨by rw[E6.o],rfl⟩
 obtain⟨rfl,rfl⟩:=hcut;have CJ:N<=R:=O;have BL:(0:Int)<=(N:Int)∧(N:Int)<=(R:Int):=O;go_upto_block 4 with fail
 go_cut [14] from 171 to 182 (fun L7 wx=>∃(t9:Value) (n9:List Value) (G1:Nat->Prop),L7=t9∧n9<=N+2∧Hq (Below w w wx)∧Hq (eF wx F5 w (.slice A5 Q R) f8 D)∧Hq (eO wx G1 w gj g t9 n9 (zM V I.k S++(D.take N).map fun x=>aQ.rm (aE x.k)))∧Hq ((∀r,(Value.slice A5 Q R).ownBlock=some r->¬G1 r)∧(∀r,t9.ownBlock=some r->¬F5 r)∧(∀x,G1 x->w.heap.size<=x)∧(∀x,F5 x->F x∨w.heap.size<=x)))
 case first=>
  go_wp2_with fail;go_loopw [171,14,19] (fun i dvv _ wr=>∃(k:Nat) (t9:Value) (n9:List Value) (G1:Nat->Prop),k<=N∧i=.int .i64 k∧dvv=t9∧n9<=k+2∧Hq (Below w w wr)∧Hq (eF wr F5 w (.slice A5 Q R) f8 D)∧Hq (eO wr G1 w gj g t9 n9 (zM V I.k S++(D.take k).map fun x=>aQ.rm (aE x.k)))∧Hq ((∀r,(Value.slice A5 Q R).ownBlock=some r->¬G1 r)∧(∀r,t9.ownBlock=some r->¬F5 r)∧(∀x,G1 x->w.heap.size<=x)∧(∀x,F5 x->F x∨w.heap.size<=x))) (fun i _ _ _=>N-(intOf i).toNat)
  case atStart=>exact⟨0,dv,vs,G,O,rfl,rfl,AF,R2,G3,J (by rw[List.take_zero,List.map_nil,List.append_nil];exact U8.o),Q6⟩
  obtain⟨k,t9,n9,G1,v,rfl,n8,O2,HB,HS,HA,HP⟩:=hrel;have G9:=n8.symm;clear n8;subst G9;have AE:=HB.o.size;by_cases S8:k<N;rotate_left
  ·obtain rfl:k=N:=O
   go_wp2;go_meet;exact⟨_,n9,G1,rfl,O2,HB,HS,HA,HP⟩
  have N3:k<f8:=by rw[HS.o.len,<-C3.o];omega
  have D0:k<D:=by rw[<-C3.o];omega
  obtain⟨ab,ao,e5,_,j9,C6⟩:=(dM.e1 (F:=fun _=>True) HS.o.own (fun _ _ _=>trivial)) (by rw[lU];omega);subst e5;have hM:=HS.o.h5 k N3 D0;have e0:wr.cell? (ab,ao+k)=some (.pointer (some f8[k])):=C6 k _ (by rw[List.getElem?_map,lW N3];rfl);have T5:=hM.rd.num.k;have U6:D.take (k+1)=D.take k++[D[k]]:=by rw[List.take_add_one,lW D0];rfl
  have p9:=J (hM.nameJ (HE.o wr (HB.o.mono J1)));obtain⟨ad,Y2⟩:=eX (f8[k]);obtain⟨s,hs⟩:=eX (D[k]);rw[<-Y2] at e0 p9;rw[<-hs] at T5 U6 p9;have T6:=fJ s.k T5;obtain⟨nm,I4⟩:=eX (aE s.k);have O9:=J I4;rw[<-I4] at p9 T6;have BE:=J U6;clear C6 hM Y2 hs I4 U6 T5;go_wp2_with fail;refine p9.o.mono ?_;rintro e w5 ⟨rfl,S1⟩;have U2:=S1.size;have J8:=J S1;clear S1 p9 e0;go_wp2_with fail;refine(show Calls _ _ _ w5 _ from uV (gj:=gj) (g:=g) nm O w5).mono ?_;rintro e U ⟨v6,rfl,C9,⟨F6,f9,rfl⟩,_,M5⟩;have AC:=C9.size;have G6:=J8.o.trans (C9.mono U2);have AM:=J G6;have Q4:=J (M5 (fun x=>G1 x∨(wr.heap.size<=x∧x<U.heap.size)) (fun x y H=>.inr ⟨O,H⟩));have AD:U.heap.size<=(U.alloc (.cells #[.func (.func F6) #[] f9] 98)).heap.size:=by simp
  have B7:=G6.trans (((lS U U).alloc (lR _) (.cells #[.func (.func F6) #[] f9] 98)).mono O);have V1:=J (HA.o.a1 B7);have G0:=J (HS.o.a1 B7);have R1:=J (HB.o.trans (B7.mono AE));have P1:=J (cS U 98 [.func (.func F6) #[] f9]);obtain⟨Ad,cd,n8,_,_,_⟩:=V1.o.own.b3;subst n8;have E7:=J V1.o.own;clear C9 M5 G6 B7 J8;go_wp2_with (at_builtin;go_must (refine aP rfl (.tmp 175) (.tmp 180) 110 rfl w.heap.size 98 .nilFunc 8 Tryz.underlying110 iV rfl _ _ rfl E7.o (U.heap.size+1) (some ⟨U.heap.size,0,none⟩) 1 1 [.func (.func F6) #[] f9] rfl rfl P1.o (by simp[Value.oneCell']) (by unfold maxLen;omega) O O ?_;intro v8 w8 D1 Y9 Y7;have AX:=J D1;have D7:=J Y9;have V3:=J Y7;clear D1 Y9 Y7));go_roundw
  case rel=>
   have BW:=D7.o.size;have BH:=HA.o.step AM.o Q4.o D7.o V3.o AX.o;have T4:=jrow_type_ne G0.o.own E7.o δ;refine⟨k+1,v8,n9++[.func (.func F6) #[] f9],fun x=>G1 x∨(wr.heap.size<=x∧x<U.heap.size),O,by go_num,rfl,θ,J (R1.o.grown D7.o O (fun r B=>(E7.o.lt r B).1)),J (G0.o.other D7.o T4 (fun r B=>HP.o.2.1 r B)),J ?_,J ⟨fun r B hx=>?_,fun r B hx=>?_,fun x hx=>?_,HP.o.2.2.2⟩⟩;rw[BE.o,mE,<-List.append_assoc,mG,List.map_nil,<-O9.o];exact BH;rcases hx with hx|hx
   exact HP.o.1 r B hx;have:=(HS.o.own.lt r B).2;omega;rcases V3.o with e|⟨q,e,hq⟩
   exact HP.o.2.1 r (e▸B) hx;rw[B] at e;injection e with e
   have:=G0.o.lt r hx;omega;rcases hx with hx|hx
   exact HP.o.2.2.1 x hx;omega
  case measure=>simp[intOf];omega
 obtain⟨t9,n9,G1,n8,O2,HB,HS,HA,HP⟩:=hcut;have G9:=n8.symm;clear n8;subst G9;clear R2 G3 U8 Q6 AB AF;have AE:=HB.o.size;obtain⟨al,j9⟩:=eX (zM V I.k S++(D.take N).map fun x=>aQ.rm (aE x.k));have R9:al.length<=1000000010:=by
  rw[j9,lT,lU,lV];have:(zM V I.k S).length<=2:=by unfold zM;split<;>simp
  omega
 have BS:cO al<=1048601:=by
  have y:∀l:List aH,cO (l.map fun x=>aQ.rm (aE x.k))=0:=fun l=>pC (fun a ha=>by obtain⟨x,_,rfl⟩:=mF.1 ha;rfl)
  have H:∀a b:List aQ,cO (a++b)=cO a+cO b:=fun a b=>by unfold cO;rw[mE,List.sum_append]
  rw[j9,H,y];unfold zM;cases N9:V with
  |false=>simp[cO]
  |true=>
   have:=(K0.o.2.2 N9).2.2;simp[cO,aQ.cost];omega
 rw[<-j9] at HA;obtain⟨Ad,cd,n8,_,_,_⟩:=HA.o.own.b3;rw[HA.o.len] at n8;subst n8;have AP:=J (M.o.a1 HB.o);have J6:=J (lQ (E:=fun k=>w.heap.size<=k∧k<wc.heap.size) AP.o.c8 (HJ.o.a1 HB.o S4) M.o.lo Ad n9 al cd (dM.e1 HA.o.own (fun k y H=>⟨y,H⟩)) HA.o.len (fun k h h' =>(HA.o.e5 k h h').mono (fun x hx=>⟨HP.o.2.2.1 x hx,HA.o.lt x hx⟩)) (fun k v=>⟨v.2,fun hf=>ω1 ((M.o.c8.lt k hf).2),O⟩) (fun T hb' =>HE.o T ((HB.o.mono J1).trans hb')) (L:=L) (by rw[DkD.h9 d M.o.fs];exact X2.o) O O);rw[DkD.h9 d M.o.fs] at J6;obtain⟨rc,d3,hR⟩:∃rc d3,cF al d=(rc,d3):=⟨_,_,rfl⟩
 rw[hR] at J6;have Z9:bZ j d ix t=(rc,if rc=0 then⟨j.c6,j.h7,D.drop N,j.bad⟩ else⟨j.c6,j.h7,j.b0,rc⟩,d3):=by
  rw[HR.o];unfold iE;rw[<-G2.o,<-K7.o,if_neg (fun h=>(K0.o.2.2 h.1).1 h.2),if_neg (fun h=>(K0.o.2.2 h.1).2.1 h.2)];dsimp only;rw[<-K0.o.1,<-K0.o.2.1,<-C3.o,<-HN.o];have e:(if V=true then[aQ.app (aE I.k) S,.sync (aE I.k)] else[])++(D.take N).map (fun x=>aQ.rm (aE x.k))=al:=j9.symm;rw[e,hR]
 have P2:=J Z9;dsimp only at J6;clear hR j9 BS R9 Z9 HR;have hcut:=fun W:World=>eE (P:=Tryz.prog) Tryz.underlying49 oI A5 Q R N Y1 (N:Int) rfl W
 go_wp2_with fail;refine J6.o.mono ?_;rintro e w9 ⟨rfl,L8,L9,M3,M1,B1,I1⟩;have O0:=B1.size;have C1:=J ((Fr.b9 _ HB.o).trans B1 (fun j hj=>.inl hj));have p8:=J L9;have L6:=J M3;have j6:=J M1;have i6:=J (show∀k,aI g m L8 k->aI g m es k∨wc.heap.size<=k from I1);have l8:Hq (∀x,F5 x∨(Value.slice A5 Q R).ownBlock=some x->w9.heap[x]? =wc.heap[x]? ∧(F x∨w.heap.size<=x)∧x<wc.heap.size∧x≠gj∧¬aI g m L8 x):=J (fun x hx=>by
  have y:(F x∨w<=x)∧x<wc:=by
   rcases hx with hx|hx
   exact⟨HP.o.2.2.2 x hx,HS.o.lt x hx⟩;have:=HS.o.own.lt x hx;exact⟨.inr this.1,this.2⟩
  have H:x≠gj∧¬aI g m es x:=by
   rcases y.1 with K|K
   exact(M.o.apart x K).2.2;exact⟨O,fun hf=>ω1 ((M.o.c8.lt x hf).2)⟩
  refine⟨B1.block x y.2 (by rintro(K|K);exact H.2 K;exact H.1 K),y.1,y.2,H.1,fun hf=>?_⟩;rcases I1 x hf with K|K
  exact H.2 K;omega)
 have BD:=J (HS.o.b1 O0 (fun x hx=>(l8.o x hx).1));have j2:=j6.o.c 2;have j4:=j6.o.c 4;have z2:w9.frozen? (gj,2)=false:=j6.o.a6 _;clear L9 M3 M1 B1 I1 J6;by_cases hz:rc=0
 ·subst hz
  have L5:=J (P2.o.trans (by rw[if_pos rfl,<-K8.o]:_=((0:Int),(⟨j.c6,j.h7,D.drop N,0⟩:bQ),d3)));clear P2;have K6:=J (aA w9 gj 2 (.slice (cutA A5 N R) (Q-N) (R-N)));have AO:=J (j6.o.b8 2 (.slice (cutA A5 N R) (Q-N) (R-N)));go_wp2;go_ret;have T4:=fun k v=>(l8.o k (.inr v)).2.2.2.1
  have BM:=BD.o.other K6.o (by
   cases hq:(Value.slice A5 Q R).ownBlock with
   |none=>exact .inl rfl
   |some q=>exact .inr (fun e=>by injection e with e;exact T4 q hq e)) (fun r B hx=>by injection B with B;exact(l8.o r (.inl hx)).2.2.2.1 B.symm)
  have BK:=BM.jat (k:=N) (by rw[<-C3.o];exact Y1) AO.o (by rw[<-C3.o];omega) s9.o.1 s9.o.2;exact M.o.j2 (es2:=L8) (F' :=fun x=>F5 x∨(Value.slice A5 Q R).ownBlock=some x) (C1.o.trans (Fr.e2 (mine:=fun k=>k=gj) K6.o (fun k e=>by injection e with e;exact e.symm)) (fun k v=>.inl (.inr v))) (p8.o.b1 K6.o.size (fun k v=>K6.o.block k (p8.o.lt k v).2 (fun e=>by injection e with e;subst e;exact p8.o.e3 j6.o δ δ δ v))) L6.o (fun k v=>(i6.o k v).imp id (fun h=>O)) BK (fun x hx=>⟨(l8.o x hx).2.1,ω2 ((l8.o x hx).2.2.1) K6.o.size,(l8.o x hx).2.2.2⟩) J1 L5.o
 have BP:(rc==0)=false:=by simpa using hz
 have L5:=J (P2.o.trans (by rw[if_neg hz]:_=(rc,(⟨j.c6,j.h7,j.b0,rc⟩:bQ),d3)));clear P2 hz;go_wp2;go_ret;obtain⟨sv,BI,CC⟩:=M.o.jn.turn;have CA:sv=.slice A nl c:=by
  have e:=BI.symm.trans HJ.o;injection e with e
  injection e with e _ _
  have e2:=congrArg (fun a:Array Value=>a[2]?) e;simpa using e2
 subst CA;have Y0:∀k,F k->w9.heap[k]? =w.heap[k]? ∧k<w9.heap.size∧k≠gj∧¬aI g m L8 k:=fun k v=>by
  have y:=M.o.apart k v;have:=C1.o.size;refine⟨C1.o.block k y.2.1 (by rintro(K|K);exact y.2.2.2 K;exact y.2.2.1 K),O,y.2.2.1,fun hf=>?_⟩;rcases i6.o k hf with K|K
  exact y.2.2.2 K;omega
 exact M.o.j2 (es2:=L8) (F' :=F) C1.o p8.o L6.o (fun k v=>(i6.o k v).imp id (fun h=>O)) (CC w9 j.c6 j.h7 rc C1.o.size (fun k v=>(Y0 k v).1) j6.o s9.o.1 s9.o.2) (fun k v=>⟨.inl v,(Y0 k v).2⟩) J1 L5.o
def cE3(j:bQ)(ix:Int)(nw:Bool)(s:aH):Nat:=gY (if nw=true then j.b0++[s] else j.b0) ix (if nw=true then j.b0++[s] else j.b0).length (if nw=true then j.b0 else 0)
theorem aM9{j:bQ}{d:DkD}{ix t:Int}{a:Bool}{s:aH}(b:¬(a=true∧999999999<s.k))(c:¬(a=true∧d.free<((dN (ix+1) t).length:Int))){ss:List aH}{N:Nat}(g:ss=if a=true then j.b0++[s] else j.b0)(e:N=cE3 j ix a s){r:Int×DkD}(f:r=cF (zM a s.k (dN (ix+1) t)++(ss.take N).map fun x=>aQ.rm (aE x.k)) d):
  iE j d ix t a s=(r.1,if r.1=0 then {j with b0:=ss.drop N} else {j with bad:=r.1},r.2):=by
 subst g e f;unfold iE;rw[if_neg b,if_neg c];rfl
theorem aU6{j:bQ}{ix t:Int}:xK j ix t↔ix<j.base.1∨9223372036854775805<ix∨t<0∨(qQ j ix t=true∧ix=j.base.1):=by
 have e:ix=j.base.1->(qQ j ix t=true↔(jC j ix).getD 0≠t):=fun e=>by
  unfold qQ jC;rw[if_pos e.symm];simp
 unfold xK;show _∨9223372036854775807-2<ix∨_∨_↔_
 constructor;rintro(a|a|a|⟨a,b⟩);exact .inl a;exact .inr (.inl O);exact .inr (.inr (.inl a));exact .inr (.inr (.inr ⟨(e a).2 b,a⟩));rintro(a|a|a|⟨a,b⟩);exact .inl a;exact .inr (.inl O);exact .inr (.inr (.inl a));exact .inr (.inr (.inr ⟨b,(e b).1 a⟩))
theorem sD{ss:List aH}{ix:Int}:∀a f,ss.length<=a+f+1->f<=gY ss ix a f∧(∀k,f<=k->k<gY ss ix a f->∃h:k+1<ss.length,ss[k+1].a8<=ix+1)∧∀h:gY ss ix a f+1<ss,¬ss[gY ss ix a f+1].a8<=ix+1
 |0,f,h=>⟨lR _,fun k m j=>by have:k<f:=j;omega,fun g=>by have:f+1<ss:=g;omega⟩
 |n+1,f,h=>by
  have e:gY ss ix (n+1) f=match ss[f+1]? with|some s=>if s.a8<=ix+1 then gY ss ix n (f+1) else f|none=>f:=rfl
  by_cases l:f+1<ss
  ·rw[lW l] at e
   by_cases i:ss[f+1].a8<=ix+1;have d:gY ss ix (n+1) f=gY ss ix n (f+1):=by rw[e];exact if_pos i
   obtain⟨m,j,g⟩:=sD (ss:=ss) (ix:=ix) n (f+1) O;rw[d];refine⟨O,fun k b c=>?_,g⟩;rcases Nat.eq_or_lt_of_le b with rfl|b
   exact⟨l,i⟩;exact j k O c;have d:gY ss ix (n+1) f=f:=by rw[e];exact if_neg i
   simp only[d];exact⟨lR _,fun k b c=>O,fun _=>i⟩
  rw[List.getElem?_eq_none O] at e;have d:gY ss ix (n+1) f=f:=e;simp only[d];exact⟨lR _,fun k b c=>O,fun g=>absurd g l⟩
theorem bP3{j:bQ}{ix:Int}{a:Bool}{s:aH}{ss:List aH}{N:Nat}(l:ss=if a=true then j.b0++[s] else j.b0)(i:N=cE3 j ix a s):N<=ss∧(∀k,k<N->∃h:k+1<ss.length,ss[k+1].a8<=ix+1∨a=true)∧∀h:N+1<ss,¬ss[N+1].a8<=ix+1∧a=false:=by
 subst l i;unfold cE3;cases a with
 |true=>
  simp only[if_true];obtain⟨c,b,d⟩:=sD (ss:=j.b0++[s]) (ix:=ix) (j.b0++[s]).length j.b0 σ;have e:=tJ (j.b0++[s]) ix (j.b0++[s]).length j.b0 σ;have n:(j.b0++[s]).length=j.b0+1:=by simp
  have g:gY (j.b0++[s]) ix (j.b0++[s]).length j.b0.length=j.b0:=by
   rcases Nat.eq_or_lt_of_le c with h|h
   exact h.symm;obtain⟨m,_⟩:=b j.b0 (lR _) h;omega
  simp only[g];exact⟨O,fun k f=>⟨O,.inr trivial⟩,fun h=>O⟩
 |false=>
  simp only[Bool.false_eq_true,if_false];obtain⟨c,b,d⟩:=sD (ss:=j.b0) (ix:=ix) j.b0 0 O;exact⟨tJ _ _ _ _ (Nat.zero_le _),fun k f=>by obtain⟨h,e⟩:=b k (Nat.zero_le _) f;exact⟨h,.inl e⟩,fun h=>⟨d h,trivial⟩⟩
theorem cG1(a b c d B:Bool)(h:B=(a||b||c||d)):(a=true∧B=true)∨(a=false∧b=true∧B=true)∨(a=false∧b=false∧c=true∧B=true)∨(a=false∧b=false∧c=false∧B=d):=by
 subst h
 revert a b c d
 decide
theorem aD0{w:World}{base g gj:Nat}{F:Nat->Prop}{d:DkD}{j:bQ}{vL:Value}{es:List (Nm×RF)}(h:aL9 w base g gj F d j vL es){L:Nat}(Y1:gP L d)(hL:L<=100000000000)(V8:j.c7.length<=1099511627776)(Y9:∀s∈j.b0,∀e∈s.l,e.b.length<=1099511627776)(hi:bB4 j)(AW:j.b0.length<=999999999)(X3:∀s∈j.b0,1<=s.k∧s.k<=999999999)
  (ix t:Int) (AM:-9223372036854775808<=ix∧ix<=9223372036854775807) (ht:-9223372036854775808<=t∧t<=9223372036854775807):
  Calls Tryz.prog 81 #[(gj,0),.int .i64 ix,.int .i64 t] w fun e w' =>pV w base g gj vL es F (bZ j d ix t) e w' :=by
 have L0:=fun k D=>(h.apart k D).2.1
 have m7:=J h.jn.base;have m8:=J (fun w' (hb:Below w.heap.size w w')=>(h.jn.a1 L0 hb).b7);have C1:=J (fun w' (hb:Below w.heap.size w w')=>aR0 (h.jn.a1 L0 hb) (fun k D=>ω2 (L0 k D) hb.size) V8 Y9 hi ix t);have V6:=aG9 h.jn.l2;have X6:=aH0 h.jn.l2;obtain⟨sv,hO,I8⟩:=h.start;obtain⟨A,c,I,P4,I3,J4,BM,Y3⟩:=h.jn.lst;have AY:sv=.slice A I.length c:=by
  have M:=hO.jb;unfold aS at M P4;rw[P4] at M;injection M with M
  injection M with M _ _
  have T:some (Value.slice A I.length c)=some sv:=congrArg (fun a:Array Value=>a[3]?) M;exact(Option.some.inj T).symm
 subst AY;have Q2:=h.jn.num;obtain⟨ba,l7⟩:∃x,x=j.base.1:=⟨_,rfl⟩
 obtain⟨bt,V7⟩:∃x,x=j.base.2:=⟨_,rfl⟩
 obtain⟨la,Q5⟩:∃x,x=j.b7.1:=⟨_,rfl⟩
 obtain⟨lt,X7⟩:∃x,x=j.b7.2:=⟨_,rfl⟩
 obtain⟨ot,M3⟩:∃x,x=qQ j ix t:=⟨_,rfl⟩
 obtain⟨jt,J1⟩:∃x,x=j.c6:=⟨_,rfl⟩
 obtain⟨jv,J2⟩:∃x,x=j.h7:=⟨_,rfl⟩
 obtain⟨jb,M1⟩:∃x,x=j.bad:=⟨_,rfl⟩
 have X0:j=⟨jt,jv,j.b0,jb⟩:=by rw[J1,J2,M1]
 rw[<-J1,<-J2,<-M1] at hO;rw[<-J1,<-J2] at Q2;have P7:=aU6 (j:=j) (ix:=ix) (t:=t);rw[<-l7,<-M3] at P7;have X9:aC8 j ix t=(decide (la<ix)||ot):=by rw[Q5,M3];rfl
 simp only[<-l7,<-V7] at m7 V6;simp only[<-Q5,<-X7] at m8 X6;simp only[<-M3] at C1;have j4:w.cell? (gj,4)=some (.int .i64 jb):=hO.jb.cell 4;have HH:=J h;have HO:=J hO;have l4:=J I8;have K0:=J X0;have C0:=J Q2;have D7:=J (And.intro J1 J2);have J9:=J M1;have K6:=J Y1;have M8:=J P7;have S7:=J X9;have p4:=J I3;have l5:=J J4;have O4:=J Y3;have G6:=J X3;have HT:=J ht;clear h L0 hO I8 P4 I3 J4 Y3 Q2 l7 V7 Q5 X7 M3 J1 J2 M1 X0 P7 X9 Y1 V8 Y9 hi X3;go_enter Tryz.func81,Tryz.ntmps81;by_cases hb:jb=0;rotate_left
 ·have n8:=mN.2 hb
  have HR:=J (show bZ j d ix t=(jb,j,d) by unfold bZ;rw[if_pos (by rw[<-J9.o];exact hb),<-J9.o]);clear hb;go_wp2;go_ret;exact l4.o _ _ _ _ jb _ _ _ HO.o C0.o (bZ j d ix t) (by rw[HR.o,<-K0.o])
 subst hb;have N0:=J (show bZ j d ix t=if xK j ix t then(1,j,d) else iE j d ix t (aC8 j ix t) (tV j ix t) by rw[kW,if_neg (by rw[<-J9.o];simp)]);go_wp2_with fail;clear j4;refine m7.o.mono ?_;rintro e w1 ⟨rfl,P6⟩;have M5:=J P6;have o9:=J (m8.o w1 P6);clear P6 m7 m8;go_wp2_with fail;refine o9.o.mono ?_;rintro e w2 ⟨rfl,l9⟩;have C5:=M5.o.trans (l9.mono M5.o.size);have M6:=J C5;have S8:=J (C1.o w2 C5);clear l9 C5 o9 M5 C1;go_wp2_with fail;refine S8.o.mono ?_;rintro e w3 ⟨rfl,V⟩;have C6:=M6.o.trans (V.mono M6.o.size);have i6:=J (HO.o.a1 C6);have Y7:=C6.size;clear V C6 S8 M6;obtain⟨B,hB⟩:∃B:Bool,B=(decide (ix<ba)||decide (9223372036854775805<ix)||decide (t<0)||(ot&&(ix==ba))):=⟨_,rfl⟩
 have M7:=J (show B=true↔xK j ix t by
  rw[hB,M8.o];simp[or_assoc])
 have h4:=cG1 _ _ _ _ _ hB;clear hB;go_upto_region 6 with fail
 go_cut [61] from 43 to 61 (fun c61 wx=>c61=.bool B∧w3=wx)
 case first=>
  rcases h4 with⟨d1,hB⟩|⟨d1,d2,hB⟩|⟨d1,d2,d3,hB⟩|⟨d1,d2,d3,hB⟩
  ·have hh:=of_decide_eq_true d1
   subst hB;go_wp2;go_meet;exact⟨rfl,rfl⟩
  ·have M:=of_decide_eq_false d1
   have T:=of_decide_eq_true d2;subst hB;go_wp2;go_meet;exact⟨rfl,rfl⟩
  ·have M:=of_decide_eq_false d1
   have T:=of_decide_eq_false d2;have h3:=of_decide_eq_true d3;subst hB;go_wp2;go_meet;exact⟨rfl,rfl⟩
  have M:=of_decide_eq_false d1;have T:=of_decide_eq_false d2;have h3:=of_decide_eq_false d3;subst hB;cases ot with
  |false=>
   go_wp2;go_meet;exact⟨rfl,rfl⟩
  |true=>
   go_wp2;go_meet;exact⟨rfl,rfl⟩
 obtain⟨rfl,hw⟩:=hcut;subst hw;cases B with
 |true=>
  have HR:=J (N0.o.trans (if_pos (M7.o.1 rfl)));go_wp2;go_ret;exact l4.o _ _ _ _ 1 _ _ _ i6.o C0.o (bZ j d ix t) (by rw[HR.o,<-K0.o])
 |false=>
  have Q8:¬xK j ix t:=fun e=>by have:=M7.o.2 e;cases this
  have HR:=J (N0.o.trans (if_neg Q8));rw[M8.o] at Q8;have Q1:ix<=9223372036854775805:=by omega
  have Q0:ba<=ix:=by omega
  obtain⟨Y,Q9⟩:∃b,b=aC8 j ix t:=⟨_,rfl⟩
  obtain⟨H,M4⟩:∃s,s=tV j ix t:=⟨_,rfl⟩
  rw[<-Q9,<-M4] at HR;have K5:=J (Q9.trans S7.o);obtain⟨ss,t9⟩:∃x,x=if Y=true then j.b0++[H] else j.b0:=⟨_,rfl⟩
  obtain⟨N,hN⟩:∃n,n=cE3 j ix Y H:=⟨_,rfl⟩
  obtain⟨C,J0⟩:∃x,x=dN (ix+1) t:=⟨_,rfl⟩
  obtain⟨X,D5⟩:∃x,x=(ss.take N).map fun x=>aQ.rm (aE x.k):=⟨_,rfl⟩
  obtain⟨r,hr⟩:∃r,r=cF (zM Y H.k C++X) d:=⟨_,rfl⟩
  have J8:=J (show¬(Y=true∧999999999<H.k)->¬(Y=true∧d.free<(C.length:Int))->bZ j d ix t=(r.1,if r.1=0 then {j with b0:=ss.drop N} else {j with bad:=r.1},r.2) from fun M T=>by
   rw[HR.o];exact aM9 M (by rw[<-J0];exact T) t9 hN (by rw[hr,D5,J0]))
  have m5:=J (show Y=true->999999999<H.k->bZ j d ix t=(1,j,d) from fun M T=>by rw[HR.o];unfold iE;rw[if_pos ⟨M,T⟩]);have m6:=J (show Y=true->¬999999999<H.k->d.free<(C.length:Int)->bZ j d ix t=(52,j,d) from fun M T h3=>by rw[HR.o];unfold iE;rw[if_neg (fun e=>T e.2),if_pos ⟨M,by rw[<-J0];exact h3⟩]);have I0:=J t9;have HN:=J hN;have G9:=J D5;have p5:=J hr;have K7:=J M4;have G4:=J J0;have AX:=bR4 (ix:=ix) (t:=t) G6.o;rw[<-M4] at AX;have c3:w3.cell? (gj,3)=some (.slice A I.length c):=i6.o.jb.cell 3;clear Q8 M8 M7 N0 Q9 M4 t9 hN D5 hr J0 S7 HR;go_upto_region 9 with fail
  go_cut [13] from 66 to 71 (fun c13 wx=>c13=.bool Y∧w3=wx)
  case first=>
   by_cases M:la<ix
   ·obtain rfl:Y=true:=by rw[K5.o,decide_eq_true M];rfl
    go_wp2;go_meet;exact⟨rfl,rfl⟩
   obtain rfl:Y=ot:=by rw[K5.o,decide_eq_false M];rfl
   go_wp2;go_meet;exact⟨rfl,rfl⟩
  obtain⟨rfl,hw⟩:=hcut;subst hw;go_upto_if 72 with fail
  go_cut [12] from 73 to 148 (fun c12 wx=>∃(A1:Option Addr) (c1:Nat) (Q:List RqR) (F1:Nat->Prop) (d1:DkD) (D6:Value) (C2:List (Nm×RF)),c12=.slice A1 Q.length c1∧Hq (Q.map RqR.s=ss)∧Hq (jK wx F1 A1 c1 Q)∧Hq (cZ w base g vL es gj d1 jt jv (.slice A I.length c) 0 wx D6 C2)∧Hq (gP (L+1100000) d1)∧Hq (r=cF X d1)∧Hq (∀k,F1 k->base<=k∧k<wx.heap.size∧k≠gj∧¬aL g D6 C2 k)∧Hq (∀k,F1 k->F k∨w.heap.size<=k)∧Hq (∀q∈Q,q.s.l.length<=4611686018427387904)∧Hq (∀s∈ss,1<=s.k∧s.k<=999999999)∧Hq (bZ j d ix t=(r.1,if r.1=0 then {j with b0:=ss.drop N} else {j with bad:=r.1},r.2)))
  case first=>
   cases Y with
   |false=>
    have t9:ss=j.b0:=by rw[I0.o];rfl
    go_wp2;go_meet;refine⟨A,c,I,F,d,vL,es,rfl,J (by rw[t9];exact l5.o),J (p4.o.b1 Y7 (fun k D=>(HH.o.j5 i6.o D).1)),i6,J (K6.o.mono (by omega)),J ?_,J (fun k D=>⟨(HH.o.apart k D).1,(HH.o.j5 i6.o D).2⟩),J (fun k D=>.inl D),O4,J (by rw[t9];exact G6.o),J (J8.o (fun e=>by cases e.1) (fun e=>by cases e.1))⟩;rw[p5.o];rfl
   |true=>
    have t9:ss=j.b0++[H]:=by rw[I0.o];rfl
    have I1:=J t9;have Z0:IntKind.i64.wrap (ix+1)=ix+1:=mH _ (by omega);obtain⟨W1,L3⟩:∃W,W=w3.alloc (.cells #[.int .i64 1,.int .i64 (ix+1),.int .i64 t,.slice none 0 0,.slice none 0 0,.int .i64 0,.bool false,.bool false] 139):=⟨_,rfl⟩
    have L5:=bN L3;have X2:=kN L3;have T7:=J L3;have D8:=J X2;have M9:=J L5;have AU:=L5.size;obtain⟨y,P3⟩:∃n,n=w3.heap.size:=⟨_,rfl⟩
    have G3:=J P3;have o9:=J (p4.o.b1 (mM Y7 AU) (fun k D=>(HH.o.j5 (i6.o.a1 L5) D).1));have N5:=J8;clear t9 L3 X2 L5 J8 K5 c3;go_upto_region 12 with fail
    rw[<-T7.o];rw[<-P3] at D8⊢;clear P3 T7;go_upto_if 79 with fail
    go_cut [] from 79 to 88 (fun wx=>Hq (aS wx y 139 #[.int .i64 H.k,.int .i64 (ix+1),.int .i64 t,.slice none 0 0,.slice none 0 0,.int .i64 0,.bool false,.bool false])∧Hq (Below w3.heap.size w3 wx))
    case first=>
     rcases mJ I with h0|⟨rr,q,h0⟩
     ·have E8:H.k=1:=by rw[K7.o];unfold tV;rw[<-l5.o,h0];rfl
      have hz:I.length=0:=by rw[h0];rfl
      have BR:¬(0:Int)<(I.length:Int):=by omega
      have AB:Hq (aS W1 y 139 #[.int .i64 H.k,.int .i64 (ix+1),.int .i64 t,.slice none 0 0,.slice none 0 0,.int .i64 0,.bool false,.bool false]):=by rw[E8];exact D8
      clear h0 hz E8;go_wp2;go_meet;exact⟨AB,M9⟩
     rw[mA] at h0;have Q6:I.length=rr.length+1:=by rw[h0];simp
     have W5:I[rr.length]'(by omega)=q:=by simp[h0]
     have E8:H.k=q.s.k+1:=by rw[K7.o];unfold tV;rw[<-l5.o,h0];simp
     obtain⟨ab,ao,rfl,BH,P5,d8⟩:=o9.o.at_ (i:=rr.length) (by omega);obtain⟨Z,q8⟩:∃x,x=q.s.k:=⟨_,rfl⟩
     have e0:=d8 0 (.int .i64 Z) (by rw[W5,q8];rfl);simp only[Nat.add_zero] at e0;have Y4:1<=Z∧Z<=999999999:=by rw[q8];exact G6.o _ (by rw[<-l5.o,h0];simp)
     rw[<-q8] at E8;obtain⟨n1,X8⟩:∃n,n=rr.length:=⟨_,rfl⟩
     rw[<-X8] at e0;have AQ:(0:Int)<(I.length:Int):=by omega
     have BP:(I.length:Int)-1=(n1:Int):=by omega
     have BQ:IntKind.i64.wrap (n1:Int)=(n1:Int):=mH _ (by omega);have Y0:(n1:Int)<(I.length:Int):=by omega
     have BC:IntKind.i64.wrap (Z+1)=Z+1:=mH _ (by omega);have fz:=D8.o.a6 0;have g0:W1.cell? (y,0)=some (.int .i64 1):=D8.o.cell 0;have J6:=aS.b8 D8.o 0 (.int .i64 (Z+1));have O9:=J (show aS (W1.setCell (y,0) (.int .i64 (Z+1))) y 139 #[.int .i64 H.k,.int .i64 (ix+1),.int .i64 t,.slice none 0 0,.slice none 0 0,.int .i64 0,.bool false,.bool false] by rw[E8];simpa using J6);have Z2:=J (show Below w3.heap.size w3 (W1.setCell (y,0) (.int .i64 (Z+1))) from M9.o.setCell (by show w3.heap.size<=y;rw[G3.o];exact lR _) _);clear h0 W5 E8 d8 q8 X8 J6 Q6;go_wp2;go_meet;exact⟨O9,Z2⟩
    obtain⟨G5,R8⟩:=hcut;clear D8 M9 o9;have f1:wc.cell? (y,1)=some (.int .i64 (ix+1)):=G5.o.cell 1;have f2:wc.cell? (y,2)=some (.int .i64 t):=G5.o.cell 2;have N6:=J (zS (ix+1) t (by omega) HT.o wc);rw[<-G4.o] at N6;have AV:=R8.o.size;have AG:=G5.o.lt;have BJ:C.length<=1048600:=by
     rw[G4.o];unfold dN;refine dF ?_;have M:=aE4 (ix+1) (by omega);have T:=dG _ (jO _ HT.o);rw[lT];unfold dL;simp;omega
    have O8:=J (show H=⟨H.k,ix+1,t,[],[(C.length:Int)]⟩ by rw[K7.o,G4.o];rfl);go_wp2_with fail;refine N6.o.mono ?_;rintro e E ⟨v5,rfl,R4,L4⟩;obtain⟨A5,c5,rfl,p1,p2,_⟩:=bF R4;have U7:=G5.o.a1 L4 AG;have BN:=L4.size;have U1:=R8.o.trans (L4.mono AV);obtain⟨W6,B1⟩:∃W,W=E.alloc (.cells #[.int .i64 (C.length:Int)] 3):=⟨_,rfl⟩
    have I7:=bN B1;have U3:=kN B1;have AS:=I7.size;have E7:=U7.a1 I7 (by omega);have z4:(E.alloc (.cells #[.int .i64 (C.length:Int)] 3)).frozen? (y,4)=false:=by rw[<-B1];exact E7.a6 4
    have z5:(E.alloc (.cells #[.int .i64 (C.length:Int)] 3)).frozen? (y,5)=false:=by rw[<-B1];exact E7.a6 5
    have g4:(E.alloc (.cells #[.int .i64 (C.length:Int)] 3)).cell? (y,4)=some (.slice none 0 0):=by rw[<-B1];exact E7.cell 4
    have g5:(E.alloc (.cells #[.int .i64 (C.length:Int)] 3)).cell? (y,5)=some (.int .i64 0):=by rw[<-B1];exact E7.cell 5
    obtain⟨R,I5⟩:∃W,W=(W6.setCell (y,4) (.slice (E,0) 1 1)).setCell (y,5) (.int .i64 (C.length:Int)):=⟨_,rfl⟩
    have M0:W6.grownBy R (some y):=by rw[I5];exact aF (aA W6 y 4 _) (aA _ y 5 _) (.inl rfl)
    have AT:=M0.size;have U8:aS R y 139 #[.int .i64 H.k,.int .i64 (ix+1),.int .i64 t,.slice none 0 0,.slice (E,0) 1 1,.int .i64 (C.length:Int),.bool false,.bool false]:=by
     rw[I5];have:=aS.b8 (aS.b8 E7 4 (.slice (E,0) 1 1)) 5 (.int .i64 (C.length:Int));simpa using this
    have U4:=U3.grown M0 (fun e=>by injection e with e;omega);have U2:Below w3.heap.size w3 R:=by
     rw[I5];exact((U1.trans (I7.mono (by omega))).setCell (by show w3.heap.size<=y;rw[G3.o];exact lR _) _).setCell (by show w3.heap.size<=y;rw[G3.o];exact lR _) _
    have T0:=J (((dM.e1 R4 (F:=fun k=>wc.heap.size<=k∧k<E.heap.size) (fun k M T=>⟨M,T⟩)).b1 AS (fun k D=>I7.block k D.2)).b1 AT (fun k D=>M0.block k (by omega) (fun e=>by injection e with e;omega)));have T8:=J (show R=((E.alloc (.cells #[.int .i64 (C.length:Int)] 3)).setCell (y,4) (.slice (E,0) 1 1)).setCell (y,5) (.int .i64 (C.length:Int)) by rw[I5,B1]);have N7:=J U8;have S2:=J U4;have j6:=J (i6.o.a1 U2);clear R4 L4 U7 E7 U1 B1 I7 U3 I5 M0 U8 U4 U2 N6 G4 f1 f2 G5;go_upto_region 17 with fail
    rw[<-T8.o];clear z4 z5 g4 g5 T8;have k0:R.cell? (y,0)=some (.int .i64 H.k):=N7.o.cell 0;by_cases hbig:999999999<H.k
    ·go_wp2
     go_ret;exact l4.o _ _ _ _ 1 _ _ _ j6.o C0.o (bZ j d ix t) (by rw[m5.o (by trivial) hbig,<-K0.o])
    have L9:=rK j6.o.c8 (by rw[j6.o.fs];have:=K6.o.sz;omega) (ω1 ((kR K6.o j6.o.fs).2.1));rw[j6.o.fs] at L9;obtain⟨fr,C7⟩:∃x,x=d.room-bC d.fs:=⟨_,rfl⟩
    rw[<-C7] at L9;have S6:=J L9;have N3:=J (show d.free=fr from C7.symm);have j0:R.cell? (gj,0)=some (.pointer (g,0)):=j6.o.jb.cell 0;clear L9 C7;go_wp2_with fail;refine S6.o.mono ?_;rintro e w8 ⟨rfl,rfl⟩;clear S6;by_cases hroom:fr<(C.length:Int)
    ·go_wp2
     go_ret;exact l4.o _ _ _ _ 52 _ _ _ j6.o C0.o (bZ j d ix t) (by rw[m6.o (by trivial) hbig (by rw[N3.o];exact hroom),<-K0.o])
    have m9:=J (N5.o (fun e=>ω1 (e.2)) (fun e=>by have M:=e.2;rw[N3.o] at M;omega));go_upto_region 21 with fail
    clear hroom N3 m5 m6;obtain⟨nm,D4⟩:∃n,n=aE H.k:=⟨_,rfl⟩
    have Y0:nm.length<=1000:=by rw[D4];have:=fJ H.k (by omega);omega
    have P2:=cY.start j6.o.again K6.o (.app nm C::.sync nm::X);have Y6:r=cF (.app nm C::.sync nm::X) d:=by rw[p5.o,D4];rfl
    rw[<-Y6] at P2;have K4:=J (fun W:World=>by have h:=gN H.k (by omega) W;rw[<-D4] at h;exact h);have S1:=J P2;have p8:=j6.o.jb.lt;have f9:=N7.o.lt;have S5:=J (show∀k,(wc.heap.size<=k∧k<E.heap.size)->k<R.heap.size∧k≠gj∧¬aL g vL es k from fun k D=>by
     have M:=i6.o.jb.lt;exact⟨by omega,by omega,fun e=>ω1 ((i6.o.c8.lt k e).2)⟩)
    have G2:=J (show y≠gj∧¬aL g vL es y from⟨ω2 i6.o.jb.lt G3.o,fun e=>ω2 ((i6.o.c8.lt y e).2) G3.o⟩);clear P2 Y6 D4 p5;go_cut [16] from 112 to 123 (fun c16 wx=>∃B,c16=.bool B∧Hq (cY R base g vL es gj jt jv (.slice A I.length c) (L+(C.length+1)) r (.sync nm::X) B wx))
    case first=>
     refine wp_region_held_drew (S:=fun W=>W.cell? ⟨gj,0,none⟩=some (.pointer (some ⟨g,0,none⟩))∧W.cell? ⟨y,0,none⟩=some (.int .i64 H.k)∧True∧True) (by kernel_rfl) ⟨j0,k0,trivial,trivial⟩ (fun f=>?_);refine zT 0 (k:=zT 1 (k:=zT 2 (k:=zT 3 (k:=zT 4 (k:=zT 5 (k:=zT 6 (k:=zT 8 (k:=?_))))))));simp only[zA,zB,zF,zG,zC,zD,zE];have O5:=J (And.intro T0.o S5.o);clear f;refine bT3 (G:=?G) (fun W b=>Below R.heap.size R W∧Rd W W.heap.size (some ⟨b,0,none⟩) [.slice A5 C.length c5]) ?h1 ?h2
     case h1=>
      intro key;refine qJ 7 9 (by simp) (by simp) (by kernel_rfl) (fun K m=>?_) (fun K m=>?_)
      ·simp only[zA,zB]
       go_simp;refine(K4.o R.drew).mono ?_;rintro e wn ⟨rfl,n8⟩;have g9:Below R.heap.size R wn:=((lS _ R).drew).trans n8;refine m _ _ ⟨(g9.cell (p:=(gj,0)) p8).trans j0,(g9.cell (p:=(y,0)) f9).trans k0,trivial,trivial⟩ (fun f=>?_);clear m K;try simp only[zF,zG,zC,zD,zE]
       refine zV 9 (k:=fun K m=>?_);simp only[zA,zB];go_simp;have l7:Below R.heap.size R (wn.alloc (.cells #[.slice A5 C.length c5] 34)):=g9.trans (((lS _ wn).alloc (lR _) _).mono g9.size);refine m.out _ _ ⟨(l7.cell (p:=(gj,0)) p8).trans j0,(l7.cell (p:=(y,0)) f9).trans k0,trivial,trivial⟩ (fun f=>?_);clear m K;try simp only[zF,zG,zC,zD,zE]
       have J5:Rd (wn.alloc (.cells #[.slice A5 C.length c5] 34)) (wn.alloc (.cells #[.slice A5 C.length c5] 34)).heap.size (wn,0) [.slice A5 C.length c5]:=(cS wn 34 [.slice A5 C.length c5]).more (by simp);generalize(wn.alloc (.cells #[.slice A5 C.length c5] 34))=W at l7 J5⊢;generalize wn.heap.size=b at J5⊢;exact key W b ⟨l7,J5⟩
      simp only[zA,zB];go_simp;have l7:Below R.heap.size R (R.drew.alloc (.cells #[.slice A5 C.length c5] 34)):=((lS _ R).drew).alloc (lR _) _;refine m _ _ ⟨(l7.cell (p:=⟨gj,0,none⟩) p8).trans j0,(l7.cell (p:=⟨y,0,none⟩) f9).trans k0,trivial,trivial⟩ (fun f=>?_);clear m K;try simp only[zF,zG,zC,zD,zE]
      refine zV 7 (k:=fun K m=>?_);simp only[zA,zB];go_simp;refine(K4.o (R.drew.alloc (.cells #[.slice A5 C.length c5] 34))).mono ?_;rintro e wn ⟨rfl,n8⟩;have g9:=l7.trans (n8.mono l7.size);refine m.out _ _ ⟨(g9.cell (p:=(gj,0)) p8).trans j0,(g9.cell (p:=(y,0)) f9).trans k0,trivial,trivial⟩ (fun f=>?_);clear m K;try simp only[zF,zG,zC,zD,zE]
      have J5:Rd wn wn.heap.size (R,0) [.slice A5 C.length c5]:=(Rd.a1 (cS R.drew 34 [.slice A5 C.length c5]) (n8.mono (by simp))).more (by have:=n8.size;simp at this;show R.heap.size+1<=_;omega);exact key wn R.heap.size ⟨g9,J5⟩
     rintro W b ⟨C3,V4⟩;have R7:=J (cY.app (n:=nm) (p:=C) (S1.o.a1 C3) (by omega) Y0 (b,0) A5 c5 V4 (((O5.o.1.rd).a1 C3).more C3.size) ⟨p1,p2⟩ (by omega));clear C3 V4;refine zV 10 (k:=fun K m=>?_);simp only[zA,zB];go_simp;refine R7.o.mono ?_;rintro e w9 ⟨z,rfl,⟨⟨i0,_⟩,B7⟩,h9⟩;have H9:=J h9;have l8:=G2.o;have i1:=(mK (w:=R) (a:=(y,0)) (B7.block y f9 (fun e=>e.elim l8.2 l8.1))).trans k0;clear h9 B7 R7;refine m.out _ _ ⟨i0,i1,trivial,trivial⟩ (fun f=>?_);clear m K;try simp only[zF,zG,zC,zD,zE]
     refine zV 11 (k:=fun K m=>?_);simp only[zA,zB];go_simp;refine H9.o.mono ?_;rintro e BS ⟨ok,rfl,K9⟩;have m3:=J K9;have l0:=K9.ptr.1;have l1:=(mK (w:=R) (a:=(y,0)) (K9.fr.block y f9 (fun e=>e.elim l8.2 l8.1))).trans k0;clear K9 H9 i0 i1;refine m.out _ _ ⟨l0,l1,trivial,trivial⟩ (fun f=>?_);clear m K;try simp only[zF,zG,zC,zD,zE]
     refine zT 12 (k:=?_);simp only[zA,zB,zF,zG,zC,zD,zE];refine wpAnyH_done (by kernel_rfl) ?_ _;clear f l0 l1;go_wp2;go_meet;exact⟨ok,rfl,m3⟩
    obtain⟨B,rfl,m3⟩:=hcut;go_upto_region 22 with fail
    go_cut [16] from 124 to 136 (fun c16 wx=>∃B,c16=.bool B∧Hq (cY R base g vL es gj jt jv (.slice A I.length c) (L+(C.length+1)) r X B wx))
    case first=>
     have l8:=G2.o;have l0:=m3.o.ptr.1;have l1:=(mK (w:=R) (a:=(y,0)) (m3.o.fr.block y f9 (fun e=>e.elim l8.2 l8.1))).trans k0;cases B with
     |false=>
      have AE:=J (m3.o.skip (rest' :=X) (lR _));clear l8 m3;go_quiet (fail);go_wp2;go_meet;exact⟨false,rfl,J (AE.o.a1 (aD (lS _ wc) _))⟩
     |true=>
      have AO:=m3.o.ptr.2;have AF:=Nat.lt_of_lt_of_le f9 m3.o.fr.size;have G8:=J (K4.o wc.drew);refine wp_region_held_drew (S:=fun W=>W.cell? ⟨gj,0,none⟩=some (.pointer (some ⟨g,0,none⟩))∧W.cell? ⟨y,0,none⟩=some (.int .i64 H.k)∧True∧True) (by kernel_rfl) ⟨l0,l1,trivial,trivial⟩ (fun f=>?_);refine zT 0 (k:=zT 1 (k:=zT 2 (k:=zT 3 (k:=zT 4 (k:=zT 5 (k:=zT 6 (k:=?_)))))));simp only[zA,zB,zF,zG,zC,zD,zE];refine lP 7 (v:=?_) (by simp) (by kernel_rfl) (by kernel_rfl) (by kernel_rfl) (fun _ _ _ h=>h) (Or.inl ⟨by rfl,?_⟩) f ?_
      case refine_2=>(intro w b;(try dsimp only at b);(try(obtain⟨j,m,n,o⟩:=b));simp only[zA,zB,zF,zG,zC,zD,zE];go_simp<;>with_reducible rfl)
      simp only[zA,zB,zF,zG,zC,zD,zE];refine zT 8 (k:=?_);simp only[zA,zB,zF,zG,zC,zD,zE];refine zV 9 (k:=fun K m=>?_);simp only[zA,zB];go_simp;refine G8.o.mono ?_;rintro e R6 ⟨rfl,n5⟩;have f8:Below wc.heap.size wc R6:=((lS _ wc).drew).trans n5;have T6:=J (cY.sync (n:=nm) (rest:=X) (m3.o.a1 f8) (by omega));have i0:=(f8.cell (p:=(gj,0)) AO).trans l0;have i1:=(f8.cell (p:=(y,0)) AF).trans l1;clear n5 f8 G8 m3 l0 l1;refine m.out _ _ ⟨i0,i1,trivial,trivial⟩ (fun f=>?_);clear m K;try simp only[zF,zG,zC,zD,zE]
      refine zV 10 (k:=fun K m=>?_);simp only[zA,zB];go_simp;refine T6.o.mono ?_;rintro e BD ⟨z,rfl,⟨⟨n0,_⟩,n9⟩,I2⟩;have E9:=J I2;have n1:=(mK (w:=R) (a:=(y,0)) (n9.block y f9 (fun e=>e.elim l8.2 l8.1))).trans k0;clear I2 n9 T6 i0 i1;refine m.out _ _ ⟨n0,n1,trivial,trivial⟩ (fun f=>?_);clear m K;try simp only[zF,zG,zC,zD,zE]
      refine zV 11 (k:=fun K m=>?_);simp only[zA,zB];go_simp;refine E9.o.mono ?_;rintro e BE ⟨ok,rfl,p6⟩;have j9:=J p6;have o0:=p6.ptr.1;have o1:=(mK (w:=R) (a:=(y,0)) (p6.fr.block y f9 (fun e=>e.elim l8.2 l8.1))).trans k0;clear p6 E9 n0 n1;refine m.out _ _ ⟨o0,o1,trivial,trivial⟩ (fun f=>?_);clear m K;try simp only[zF,zG,zC,zD,zE]
      refine zT 12 (k:=zT 13 (k:=?_));simp only[zA,zB,zF,zG,zC,zD,zE];refine wpAnyH_done (by kernel_rfl) ?_ _;clear f o0 o1;go_wp2;go_meet;exact⟨ok,rfl,j9⟩
    obtain⟨B2,rfl,j9⟩:=hcut;clear m3;cases B2 with
    |false=>
     obtain⟨hz,Z1,T9,l6⟩:=(j9.o.skip (rest' :=[]) (lR _)).done;obtain⟨rc,d6⟩:=r;simp only at hz l6;have J7:rc≠0:=by simpa using hz.symm
     have O1:=J (j6.o.join l6);have j4:wc.cell? (gj,4)=some (.int .i64 rc):=l6.jb.cell 4;have O7:=J (m9.o.trans (by simp only;rw[if_neg J7]));clear hz l6 j9 J7;go_wp2;go_ret;exact l4.o _ _ _ _ rc _ _ _ O1.o C0.o (bZ j d ix t) (by rw[O7.o,D7.o.1,D7.o.2])
    |true=>
     go_upto_region 25 with fail
     obtain⟨d9,R5,P0,L2,U9,Y5,_⟩:=j9.o.open_;have B7:=j9.o.fr;have BO:=B7.size;have AJ:=HO.o.jb.lt;have V1:jK wc F A c I:=p4.o.b1 (ω1 j6.o.fr.size) (fun k D=>by
      obtain⟨q1,q2,q3,q4⟩:=HH.o.j5 j6.o D;exact(B7.block k q2 (fun e=>e.elim q4 q3)).trans q1)
     have L1:aS wc y 139 _:=B7.h4 N7.o (fun e=>e.elim G2.o.2 G2.o.1);have U6:aS wc E.heap.size 3 _:=B7.h4 S2.o (fun e=>by
      rcases e with e|e
      have:=(i6.o.c8.lt _ e).2;omega;have:=i6.o.jb.lt;omega)
     obtain⟨kN,J3⟩:∃x,x=H.k:=⟨_,rfl⟩
     rw[<-J3] at L1;have hS:∀W,Below wc.heap.size wc W->(fun W=>W.cell? (y,0)=some (.int .i64 kN)∧W.cell? (y,1)=some (.int .i64 (ix+1))∧W.cell? (y,2)=some (.int .i64 t)∧W.cell? (y,3)=some (.slice none 0 0)∧W.cell? (y,4)=some (.slice (E,0) 1 1)∧W.cell? (y,5)=some (.int .i64 (C.length:Int))∧W.cell? (y,6)=some (.bool false)∧W.cell? (y,7)=some (.bool false)∧True) W:=fun W hW=>by
      have h:=L1.a1 hW L1.lt;exact⟨h.cell 0,h.cell 1,h.cell 2,h.cell 3,h.cell 4,h.cell 5,h.cell 6,h.cell 7,trivial⟩
     have HS:=J hS;have K3:=J V1;have S3:=J U6;have S9:=J L2;have Z8:=J U9;have AD:=J Y5;have Z9:=J J3;have V5:=hS wc.drew (lS _ wc).drew;have BA:=S2.o.lt;have BB:E.heap.size<wc.heap.size:=by omega
     have E5:=J (show base<=E.heap.size∧E.heap.size≠gj∧¬aL g R5 P0 E.heap.size∧w.heap.size<=E.heap.size from⟨ω1 HH.o.lo,by omega,fun e=>by
      rcases L2.grow _ e with e|e
      have:=(i6.o.c8.lt _ e).2;omega;omega,by omega⟩)
     have G0:=J (show∀k,F k->base<=k∧k<wc.heap.size∧k≠gj∧¬aL g R5 P0 k from fun k D=>by
      obtain⟨q1,q2,q3,q4⟩:=HH.o.j5 j6.o D;exact⟨(HH.o.apart k D).1,by omega,q3,fun e=>by
       rcases L2.grow _ e with e|e
       exact q4 e;omega⟩)
     clear L2 U9 Y5 B7 V1 L1 U6 J3 hS j9 k0 j0 K4 T0 S5 S1 G2;refine wp_region_held_drew (S:=fun W=>W.cell? ⟨y,0,none⟩=some (.int .i64 kN)∧W.cell? ⟨y,1,none⟩=some (.int .i64 (ix+1))∧W.cell? ⟨y,2,none⟩=some (.int .i64 t)∧W.cell? ⟨y,3,none⟩=some (.slice none 0 0)∧W.cell? ⟨y,4,none⟩=some (.slice (some ⟨E.heap.size,0,none⟩) 1 1)∧W.cell? ⟨y,5,none⟩=some (.int .i64 (C.length:Int))∧W.cell? ⟨y,6,none⟩=some (.bool false)∧W.cell? ⟨y,7,none⟩=some (.bool false)∧True) (by kernel_rfl) V5 (fun f=>?_);clear V5;refine cE4 1 (k:=cE4 3 (k:=?_));simp only[zA,zB,zF,zG,zC,zD,zE];clear f;refine cC4 (G:=?G3) (fun W v b=>Below wc.heap.size wc W∧W.ownsRow wc.heap.size 139 8 v I.length (aY I)∧aS W b 139 #[.int .i64 kN,.int .i64 (ix+1),.int .i64 t,.slice none 0 0,.slice (E,0) 1 1,.int .i64 (C.length:Int),.bool false,.bool false]) ?j1 ?j2
     case j1=>
      intro key;have B6:Below wc.heap.size wc (wc.drew.alloc (.cells #[] 139)):=((lS _ wc).drew).alloc (lR _) _;have R1:=gD wc.drew 139 8;have n8:Below wc.heap.size wc (wc.drew.alloc (.cells #[.int .i64 kN,.int .i64 (ix+1),.int .i64 t,.slice none 0 0,.slice (E,0) 1 1,.int .i64 (C.length:Int),.bool false,.bool false] 139)):=((lS _ wc).drew).alloc (lR _) _;refine qJ 0 4 (by simp) (by simp) (by kernel_rfl) (fun K m=>?_) (fun K m=>?_);rotate_left
      ·simp only[zA,zB]
       go_simp;refine m _ _ (HS.o _ n8) (fun f=>?_);clear m K;try simp only[zF,zG,zC,zD,zE]
       refine zV 0 (k:=fun K m=>?_);simp only[List.getElem_cons_zero];go_simp;have V:Below wc.heap.size wc ((wc.drew.alloc (.cells #[.int .i64 kN,.int .i64 (ix+1),.int .i64 t,.slice none 0 0,.slice (E,0) 1 1,.int .i64 (C.length:Int),.bool false,.bool false] 139)).alloc (.cells #[] 139)):=n8.trans (((lS _ _).alloc (lR _) _).mono n8.size);have D1:=(aS.new wc.drew 139 #[.int .i64 kN,.int .i64 (ix+1),.int .i64 t,.slice none 0 0,.slice (E,0) 1 1,.int .i64 (C.length:Int),.bool false,.bool false]).a1 (((lS _ (wc.drew.alloc (.cells #[.int .i64 kN,.int .i64 (ix+1),.int .i64 t,.slice none 0 0,.slice (E,0) 1 1,.int .i64 (C.length:Int),.bool false,.bool false] 139))).alloc (lR _) (.cells #[] 139))) (aS.new wc.drew 139 #[.int .i64 kN,.int .i64 (ix+1),.int .i64 t,.slice none 0 0,.slice (E,0) 1 1,.int .i64 (C.length:Int),.bool false,.bool false]).lt;have p9:=jH (gD (wc.drew.alloc (.cells #[.int .i64 kN,.int .i64 (ix+1),.int .i64 t,.slice none 0 0,.slice (E,0) 1 1,.int .i64 (C.length:Int),.bool false,.bool false] 139)) 139 8) n8.size;rw[show(wc.drew.alloc (.cells #[.int .i64 kN,.int .i64 (ix+1),.int .i64 t,.slice none 0 0,.slice (E,0) 1 1,.int .i64 (C.length:Int),.bool false,.bool false] 139)).heap.size=wc.heap.size+1 by simp] at p9;refine m.out _ _ (HS.o _ V) (fun f=>?_);clear m K;try simp only[zF,zG,zC,zD,zE]
       refine zV 2 (k:=fun K m=>?_);simp only[zA,zB];rw[if_pos (by rfl)];refine lL (.tmp 143) (.tmp 144) rfl wc.heap.size _ 0 [] rfl p9 A I.length c I rfl rfl ((K3.o.b1 V.size (fun k D=>V.block k (G0.o k D).2.1)).src) (by omega) V.size ?_;intro v2 w2 B8 C8;rw[Nat.zero_add,List.nil_append] at B8;have l9:=V.grown C8 V.size (fun q U=>(mL p9 q U).1);have D3:=D1.grown C8 (fun e=>by injection e with e;simp at e);refine m.out _ _ (HS.o _ l9) (fun f=>?_);clear m K;try simp only[zF,zG,zC,zD,zE]
       generalize(Value.slice (some ⟨wc.heap.size+1,0,none⟩) 0 0)=u;rw[show wc.drew.heap.size=wc.heap.size from rfl] at D3;have U0:=J (And.intro l9 B8);generalize wc.heap.size=b at D3⊢;exact key w2 v2 b u ⟨U0.o.1,U0.o.2,D3⟩
      simp only[List.getElem_cons_zero];go_simp;refine m _ _ (HS.o _ B6) (fun f=>?_);clear m K;try simp only[zF,zG,zC,zD,zE]
      refine qJ 2 4 (by simp) (by simp) (by kernel_rfl) (fun K m=>?_) (fun K m=>?_)
      ·simp only[zA,zB]
       rw[if_pos (by rfl)];refine lL (.tmp 143) (.tmp 144) rfl wc.heap.size _ 0 [] rfl R1 A I.length c I rfl rfl ((K3.o.b1 B6.size (fun k D=>B6.block k (G0.o k D).2.1)).src) (by omega) B6.size ?_;intro v2 w2 B8 C8;rw[Nat.zero_add,List.nil_append] at B8;have l9:=B6.grown C8 B6.size (fun q U=>(mL R1 q U).1);refine m _ _ (HS.o _ l9) (fun f=>?_);clear m K;try simp only[zF,zG,zC,zD,zE]
       refine zV 4 (k:=fun K m=>?_);simp only[zA,zB];go_simp;have V:Below wc.heap.size wc (w2.alloc (.cells #[.int .i64 kN,.int .i64 (ix+1),.int .i64 t,.slice none 0 0,.slice (E,0) 1 1,.int .i64 (C.length:Int),.bool false,.bool false] 139)):=l9.trans (((lS _ w2).alloc (lR _) _).mono l9.size);refine m.out _ _ (HS.o _ V) (fun f=>?_);clear m K;try simp only[zF,zG,zC,zD,zE]
       have D1:=aS.new w2 139 #[.int .i64 kN,.int .i64 (ix+1),.int .i64 t,.slice none 0 0,.slice (E,0) 1 1,.int .i64 (C.length:Int),.bool false,.bool false];have p9:(w2.alloc (.cells #[.int .i64 kN,.int .i64 (ix+1),.int .i64 t,.slice none 0 0,.slice (E,0) 1 1,.int .i64 (C.length:Int),.bool false,.bool false] 139)).ownsRow wc.heap.size 139 8 v2 I.length (aY I):=World.ownsRow.alloc B8 _;generalize(Value.slice (wc,0) 0 0)=u;generalize(w2.alloc (.cells #[.int .i64 kN,.int .i64 (ix+1),.int .i64 t,.slice none 0 0,.slice (E,0) 1 1,.int .i64 (C.length:Int),.bool false,.bool false] 139))=W at V p9 D1⊢;generalize w2.heap.size=b at D1⊢;exact key W v2 b u ⟨V,p9,D1⟩
      simp only[zA,zB];go_simp;have V:Below wc.heap.size wc ((wc.drew.alloc (.cells #[] 139)).alloc (.cells #[.int .i64 kN,.int .i64 (ix+1),.int .i64 t,.slice none 0 0,.slice (E,0) 1 1,.int .i64 (C.length:Int),.bool false,.bool false] 139)):=B6.trans (((lS _ _).alloc (lR _) _).mono B6.size);have D1:=aS.new (wc.drew.alloc (.cells #[] 139)) 139 #[.int .i64 kN,.int .i64 (ix+1),.int .i64 t,.slice none 0 0,.slice (E,0) 1 1,.int .i64 (C.length:Int),.bool false,.bool false];have p9:((wc.drew.alloc (.cells #[] 139)).alloc (.cells #[.int .i64 kN,.int .i64 (ix+1),.int .i64 t,.slice none 0 0,.slice (E,0) 1 1,.int .i64 (C.length:Int),.bool false,.bool false] 139)).ownsRow wc.heap.size 139 8 (.slice (wc,0) 0 0) 0 []:=World.ownsRow.alloc R1 _;refine m _ _ (HS.o _ V) (fun f=>?_);clear m K;try simp only[zF,zG,zC,zD,zE]
      refine zV 2 (k:=fun K m=>?_);simp only[zA,zB];rw[if_pos (by rfl)];refine lL (.tmp 143) (.tmp 144) rfl wc.heap.size _ 0 [] rfl p9 A I.length c I rfl rfl ((K3.o.b1 V.size (fun k D=>V.block k (G0.o k D).2.1)).src) (by omega) V.size ?_;intro v2 w2 B8 C8;rw[Nat.zero_add,List.nil_append] at B8;have l9:=V.grown C8 V.size (fun q U=>(mL p9 q U).1);have D3:=D1.grown C8 (fun e=>by injection e with e;simp at e);refine m.out _ _ (HS.o _ l9) (fun f=>?_);clear m K;try simp only[zF,zG,zC,zD,zE]
      rw[show(wc.drew.alloc (.cells #[] 139)).heap.size=wc.heap.size+1 by simp] at D3;generalize(Value.slice (wc,0) 0 0)=u;generalize wc.heap.size+1=b at D3⊢;exact key w2 v2 b u ⟨l9,B8,D3⟩
     rintro W v b u ⟨C3,Y2,Q3⟩;have hx:∀j x,(aY [(⟨H,false,(C.length:Int),false,none,0,some ⟨E.heap.size,0,none⟩,1,[]⟩:RqR)])[j]? =some x->W.cell? (((b,0):Addr).add j)=some x:=fun j x hx=>by
      rw[add_lit,Nat.zero_add];have e1:aY [(⟨H,false,(C.length:Int),false,none,0,some ⟨E.heap.size,0,none⟩,1,[]⟩:RqR)]=[.int .i64 kN,.int .i64 (ix+1),.int .i64 t,.slice none 0 0,.slice (E,0) 1 1,.int .i64 (C.length:Int),.bool false,.bool false]:=by
       rw[O8.o,<-Z9.o];rfl
      rw[e1] at hx;unfold aS at Q3;rw[cell_of_row W b j _ _ (0,0) Q3];simpa using hx
     have HX:=J hx;have o8:=J C3;have O3:=J Y2;clear C3 Y2 hx Q3;refine zV 5 (k:=fun K m=>?_);simp only[zA,zB];rw[if_pos (by rfl)];refine lL (.tmp 145) (.tmp 147) rfl wc.heap.size _ I.length (aY I) rfl O3.o (b,0) 1 1 [(⟨H,false,(C.length:Int),false,none,0,some ⟨E.heap.size,0,none⟩,1,[]⟩:RqR)] rfl rfl (fun _=>⟨_,rfl,HX.o⟩) (by omega) o8.o.size ?_;intro v9 w9 M2 V9;rw[<-eL] at M2;obtain⟨A9,c9,AZ,P8,P9,_⟩:=aK M2;subst AZ;have R9:=J (o8.o.grown V9 o8.o.size (fun q U=>(mL O3.o q U).1));have O2:=J M2;clear M2 V9 O3 HX o8;refine m.out _ _ (HS.o _ R9.o) (fun f=>?_);clear m K;try simp only[zF,zG,zC,zD,zE]
     refine cE4 6 (k:=?_);simp only[zA,zB,zF,zG,zC,zD,zE];refine wpAnyH_done (by kernel_rfl) ?_ _;clear f HS;go_wp2;go_meet;have E6:=R9.o;have Q4:(I++[(⟨H,false,(C.length:Int),false,none,0,some ⟨E.heap.size,0,none⟩,1,[]⟩:RqR)]).length=I.length+1:=by simp
     refine⟨A9,c9,I++[⟨H,false,(C.length:Int),false,none,0,some ⟨E.heap.size,0,none⟩,1,[]⟩],fun k=>F k∨k=E.heap.size∨(wc.heap.size<=k∧k<w9.heap.size),d9,R5,P0,by rw[Q4],J (by rw[mE,l5.o,I1.o];rfl),J ⟨dM.e8 O2.o (fun k M T=>.inr (.inr ⟨M,T⟩)) (by rw[bS,Q4]),by rw[Q4];exact⟨P8,P9⟩,fun q U=>?_⟩,J ((j6.o.join S9.o).a1 E6),J (Z8.o.mono (by omega)),AD,J (fun k D=>?_),J (fun k D=>?_),J (fun q U=>?_),J (fun s hs=>?_),m9⟩;rcases mB.1 U with U|U
     exact((K3.o.rd q U).b1 E6.size (fun k D=>E6.block k (G0.o k D).2.1)).mono (fun k D=>.inl D);obtain rfl:=lY.1 U;have U5:=S3.o.a1 E6 S3.o.lt;have s9:=O8.o;refine⟨⟨by show _<=H.k∧H.k<=_;omega,by rw[s9];show 0<=ix+1∧ix+1<=_;omega,by rw[s9];exact HT.o,?_,?_⟩,?_,?_,?_,?_,?_,?_,?_⟩;show∀e∈H.l,_
     rw[s9];intro e he;cases he;show∀n∈H.a7,_
     rw[s9];intro n hn;obtain rfl:=lY.1 hn;omega;show(0<=0∧0<=maxLen∧H.a7.length<=1∧1<=maxLen)
     rw[s9];exact⟨lR _,Nat.zero_le _,lR _,by decide⟩;exact fun h0=>absurd h0 (by simp[aG])
     show[]=H.l
     rw[s9];intro x hx;cases hx;show dM w9 _ (E,0) (H.a7.map (Value.int .i64))
     rw[s9];intro _;refine⟨E.heap.size,0,rfl,.inr (.inl rfl),U5.lt,fun j u hu=>?_⟩;rw[Nat.zero_add];have hj:j=0:=by
      have:=(List.getElem?_eq_some_iff.1 hu).1;simp at this;exact this
     subst hj;have:=U5.cell 0;simpa using this.trans hu;show(C.length:Int)=H.b2
     rw[s9];rfl;show false=H.a7.isEmpty
     rw[s9];rfl;rcases D with D|D|D
     have h:=G0.o k D;exact⟨h.1,ω1 E6.size,h.2.2⟩;subst D;exact⟨E5.o.1,ω1 E6.size,E5.o.2.1,E5.o.2.2.1⟩;exact⟨ω1 (E5.o.1),D.2,by omega,fun e=>ω1 ((S9.o.c8.lt k e).2)⟩;rcases D with D|D|D
     exact .inl D;exact .inr (by rw[D];exact E5.o.2.2.2);exact .inr (ω1 (E5.o.2.2.2));rcases mB.1 U with U|U
     exact O4.o q U;obtain rfl:=lY.1 U;show H.l.length<=_
     rw[O8.o];exact Nat.zero_le _;rw[I1.o] at hs;rcases mB.1 hs with hs|hs
     exact G6.o s hs;obtain rfl:=lY.1 hs;omega
  obtain⟨A1,c1,Q,F1,d1,D6,C2,rfl,D9,o9,O0,Z7,T3,S4,Z6,AC,G7,m9⟩:=hcut;have j8:=bP3 I0.o HN.o;have X4:Q.length=ss.length:=by rw[<-D9.o,lU]
  have R3:ss.length<=1000000000:=by
   rw[I0.o];split;simp;omega;omega
  rw[<-X4] at R3;have C9:∀k (h:k<Q.length),ss[k]'(by omega)=Q[k].s:=fun k h=>by simp only[<-D9.o,List.getElem_map]
  have Z0:IntKind.i64.wrap (ix+1)=ix+1:=mH _ (by omega);have K8:=J (show(∀k,k<N->∃h:k+1<Q.length,Q[k+1].s.a8<=ix+1∨Y=true)∧∀h:N+1<Q.length,ix+1<Q[N+1].s.a8∧Y=false from⟨fun k D=>by
   obtain⟨h,T⟩:=j8.2.1 k D;exact⟨by omega,by rw[<-C9 (k+1) (by omega)];exact T⟩,fun h=>by
   have h9:=j8.2.2 (by omega);rw[C9 (N+1) h] at h9;exact⟨by omega,h9.2⟩⟩)
  have V2:N<=Q.length:=ω1 (j8.1);clear j8 C9 X4 p4 l5 G6 K5 J8 m5 m6 p5 K7 G4 I0 O4;go_upto_block 0 with fail
  go_cut [17] from 149 to 169 (fun c17 wx=>c17=.int .i64 (N:Nat)∧wc=wx)
  case first=>
   go_wp2_with fail;go_loopw [17] (fun fv wr=>∃k:Nat,k<=N∧fv=.int .i64 k∧wc=wr) (fun fv _=>N-(intOf fv).toNat)
   case atStart=>exact⟨0,Nat.zero_le _,rfl,rfl⟩
   obtain⟨k,D,rfl,hw⟩:=hrel;subst hw;have BC:IntKind.i64.wrap ((k:Int)+1)=(k:Int)+1:=mH _ (by omega);by_cases D0:k+1<Q.length;rotate_left
   ·have X1:¬(k:Int)+1<(Q.length:Int):=by omega
    have J3:k=N:=by
     rcases Nat.eq_or_lt_of_le D with h|h
     exact h;obtain⟨T,_⟩:=K8.o.1 k h;omega
    subst J3;go_wp2;go_meet;exact⟨rfl,rfl⟩
   obtain⟨ab,ao,rfl,_,P5,d8⟩:=o9.o.at_ D0;obtain⟨fi,L8⟩:∃x,x=Q[k+1].s.a8:=⟨_,rfl⟩
   have e1:=d8 1 (.int .i64 fi) (by rw[L8];rfl);have X1:(k:Int)+1<(Q.length:Int):=by omega
   have AN:((k+1:Nat):Int)<(Q.length:Int):=by omega
   have BK:0<=(k:Int)+1:=by omega
   have BL:((k:Int)+1).toNat=k+1:=by omega
   have HD:=J (show(k<N->fi<=ix+1∨Y=true)∧(k=N->ix+1<fi∧Y=false) from⟨fun h=>by
    obtain⟨_,T⟩:=K8.o.1 k h;rw[L8];exact T,fun h=>by
    subst h;rw[L8];exact K8.o.2 D0⟩)
   clear d8 L8;by_cases hkn:k<N
   ·have R2:=HD.o.1 hkn
    by_cases X5:fi<=ix+1
    ·clear R2
     go_wp2;go_roundw
     case rel=>exact⟨k+1,by omega,by go_num,trivial⟩
     case measure=>simp[intOf];omega
    obtain rfl:Y=true:=R2.resolve_left X5;clear R2;go_wp2;go_roundw
    case rel=>exact⟨k+1,by omega,by go_num,trivial⟩
    case measure=>simp[intOf];omega
   obtain rfl:k=N:=by omega
   obtain⟨X5,rfl⟩:=HD.o.2 rfl;have AP:¬fi<=ix+1:=by omega
   go_wp2;go_meet;exact⟨rfl,rfl⟩
  obtain⟨rfl,hw⟩:=hcut;subst hw;clear K8;have P1:=cY.start O0.o.again Z7.o X;rw[<-T3.o] at P1;have S0:=J P1;have Y8:X.length=N:=by rw[G9.o,<-D9.o,lU,lV,lU];omega
  have Z4:=J (show∀k (h:k<N) (T:k<Q.length),X.drop k=.rm (aE Q[k].s.k)::X.drop (k+1) from fun k h T=>by
   rw[List.drop_eq_getElem_cons (by rw[Y8];exact h)]
   congr 1
   simp only[G9.o,<-D9.o,List.getElem_map,List.getElem_take])
  have Z3:=J (show X.drop N=[] from List.drop_eq_nil_of_le (by omega));have AA:=J (show∀q∈Q,1<=q.s.k∧q.s.k<=999999999 from fun q U=>G7.o _ (by rw[<-D9.o];exact mF.2 ⟨q,U,rfl⟩));have O6:=J (show∀k,F1 k->k<wc.heap.size∧k≠gj∧¬aL g D6 C2 k from fun k D=>(S4.o k D).2);have T5:=J o9.o.row;clear P1 G7 Y8 T3 Q1 Q0 V6 X6 AM Z0;go_upto_block 1 with fail
  go_wp2_with fail;go_loopw [18,19] (fun iv _ wr=>∃k:Nat,k<=N∧iv=.int .i64 k∧Hq (cY wc base g D6 C2 gj jt jv (.slice A I.length c) (L+1100000) r (X.drop k) true wr)) (fun iv _ _=>N-(intOf iv).toNat)
  case atStart=>exact⟨0,Nat.zero_le _,rfl,S0⟩
  obtain⟨k,D,rfl,HD⟩:=hrel;clear S0;by_cases hkn:k<N;rotate_left
  ·obtain rfl:k=N:=by omega
   have C:=HD.o;rw[Z3.o] at C;have B9:=C.fr;obtain⟨hz,Z1,T9,l6⟩:=C.done;obtain⟨rc,d6⟩:=r;simp only at hz l6;obtain rfl:rc=0:=by simpa using hz.symm
   have hcut:=fun W:World=>nX (P:=Tryz.prog) Tryz.underlying92 dX A1 Q.length c1 k V2 (k:Int) rfl W
   have I4:=O0.o.join l6;have j3:wr.cell? (gj,3)=some (.slice A I.length c):=I4.jb.cell 3;have z3:=I4.jb.a6 3;have I9:=aA wr gj 3 (.slice (mT A1 k c1 8) (Q.length-k) (c1-k));have V3:=I4.put I9 (by have:=I4.jb.b8 3 (.slice (mT A1 k c1 8) (Q.length-k) (c1-k));simpa using this);have V0:jK (wr.setCell (gj,3) (.slice (mT A1 k c1 8) (Q.length-k) (c1-k))) F1 (mT A1 k c1 8) (c1-k) (Q.drop k):=(jK.b1 (o9.o) (by have M:=B9.size;have T:=I9.size;omega) (fun q U=>by
    obtain⟨q1,q2,q3⟩:=O6.o q U;exact(I9.block q (ω1 B9.size) (fun e=>by injection e with e;exact q2 e)).trans (B9.block q q1 (fun e=>e.elim q3 q2)))).drop V2
   have N4:=J (aL9.fin HH.o V3 V0 (by rw[lZ]) (by rw[lZ];omega) (fun q U=>AC.o q (List.mem_of_mem_drop U)) (fun q U=>by
    obtain⟨q1,q2,q3,q4⟩:=S4.o q U;have M:=B9.size;have T:=I9.size;exact⟨q1,by omega,q3,fun e=>(l6.grow q e).elim q4 (fun e=>by omega)⟩) Z6.o C0.o 0 (bZ j d ix t) (by rw[m9.o,List.map_drop,D9.o,D7.o.1,D7.o.2];simp only[if_true];rw[<-J9.o]))
   clear C B9 hz l6 I4 I9 V3 V0 HD;go_wp2;go_ret;exact N4.o
  have D0:k<Q.length:=by omega
  have B9:=HD.o.rd T5.o O6.o;obtain⟨ab,ao,rfl,_,P5,d8⟩:=B9 (by rw[bS];omega);have L7:=Z4.o k hkn D0;have Y4:=AA.o _ (lX D0);obtain⟨Z,q8⟩:∃x,x=Q[k].s.k:=⟨_,rfl⟩
  have e0:wr.cell? (ab,ao+k*8)=some (.int .i64 Z):=by
   have:=d8 (k*8+0) (.int .i64 Z) (by rw[dY Q D0 (by omega),q8];rfl);simpa using this
  rw[<-q8] at L7 Y4;obtain⟨nm,D4⟩:∃n,n=aE Z:=⟨_,rfl⟩
  have Q7:=gN Z (by omega) wr.drew;rw[<-D4] at L7 Q7;have L6:=HD.o;rw[L7] at L6;have N2:=J L6;have N9:=J Q7;obtain⟨l0,AI⟩:=L6.ptr;have X1:(k:Int)<(N:Int):=by omega
  have AN:(k:Int)<(Q.length:Int):=by omega
  have BI:0<=(k:Int)∧(k:Int)<(Q.length:Int):=by omega
  have N8:=J (show∀W,Fr (fun q=>aL g D6 C2 q∨q=gj) wc W->W.cell? (ab,ao+k*8)=some (.int .i64 Z) from fun W hW=>by
   obtain⟨BF,BG,he,hF,AH,p7⟩:=T5.o (by rw[bS];omega);injection he with he
   injection he with he1 he2 _
   subst he1 he2;have M:=p7 (k*8+0) (.int .i64 Z) (by rw[dY Q D0 (by omega),q8];rfl);have T:=O6.o _ hF;exact(mK (w:=wc) (a:=(ab,ao+k*8)) (hW.block ab T.1 (fun e=>e.elim T.2.2 T.2.1))).trans (by simpa using M))
  clear B9 d8 L7 q8 D4 Q7 L6 HD;go_upto_region 32 with fail
  go_cut [19] from 175 to 187 (fun c19 wx=>∃B,c19=.bool B∧Hq (cY wc base g D6 C2 gj jt jv (.slice A I.length c) (L+1100000) r (X.drop (k+1)) B wx))
  case first=>
   refine wp_region_held_drew (S:=fun W=>W.cell? ⟨gj,0,none⟩=some (.pointer (some ⟨g,0,none⟩))∧W.cell? ⟨ab,ao+k*8,none⟩=some (.int .i64 Z)∧True∧True) (by kernel_rfl) ⟨l0,e0,trivial,trivial⟩ (fun f=>?_);refine zT 0 (k:=zT 1 (k:=zT 2 (k:=zT 3 (k:=zT 4 (k:=zT 5 (k:=zT 6 (k:=zT 7 (k:=zT 8 (k:=zT 9 (k:=?_))))))))));simp only[zA,zB,zF,zG,zC,zD,zE];refine zV 10 (k:=fun K m=>?_);simp only[zA,zB];go_simp;refine N9.o.mono ?_;rintro e R6 ⟨rfl,n5⟩;have f8:Below wr.heap.size wr R6:=((lS _ wr).drew).trans n5;have T4:=J (cY.rm (n:=nm) (rest:=X.drop (k+1)) (N2.o.a1 f8) (by omega));have i0:=(f8.cell (p:=(gj,0)) AI).trans l0;have i1:=(f8.cell (p:=(ab,ao+k*8)) P5).trans e0;clear n5 f8 N9 N2 l0 e0;refine m.out _ _ ⟨i0,i1,trivial,trivial⟩ (fun f=>?_);clear m K;try simp only[zF,zG,zC,zD,zE]
   refine zV 11 (k:=fun K m=>?_);simp only[zA,zB];go_simp;refine T4.o.mono ?_;rintro e BD ⟨z,rfl,⟨⟨n0,_⟩,n9⟩,I2⟩;have E9:=J I2;have n1:=N8.o _ n9;clear I2 n9 T4 i0 i1;refine m.out _ _ ⟨n0,n1,trivial,trivial⟩ (fun f=>?_);clear m K;try simp only[zF,zG,zC,zD,zE]
   refine zV 12 (k:=fun K m=>?_);simp only[zA,zB];go_simp;refine E9.o.mono ?_;rintro e BE ⟨ok,rfl,p6⟩;have j9:=J p6;have o0:=p6.ptr.1;have o1:=N8.o _ p6.fr;clear p6 E9 n0 n1;refine m.out _ _ ⟨o0,o1,trivial,trivial⟩ (fun f=>?_);clear m K;try simp only[zF,zG,zC,zD,zE]
   refine zT 13 (k:=?_);simp only[zA,zB,zF,zG,zC,zD,zE];refine wpAnyH_done (by kernel_rfl) ?_ _;clear f o0 o1;go_wp2;go_meet;exact⟨ok,rfl,j9⟩
  obtain⟨B,rfl,j9⟩:=hcut;clear N2 N9 N8 l0 e0;cases B with
  |false=>
   obtain⟨hz,Z1,T9,l6⟩:=(j9.o.skip (rest' :=[]) (lR _)).done;obtain⟨rc,d6⟩:=r;simp only at hz l6;have J7:rc≠0:=by simpa using hz.symm
   have C4:=O0.o.join l6;have O1:=J C4;have j4:World.cell? _ (gj,4)=some (.int .i64 rc):=C4.jb.cell 4;have O7:=J (m9.o.trans (by simp only;rw[if_neg J7]));clear hz l6 C4 j9 J7;go_wp2;go_ret;exact l4.o _ _ _ _ rc _ _ _ O1.o C0.o (bZ j d ix t) (by rw[O7.o,D7.o.1,D7.o.2])
  |true=>
   go_wp2;go_roundw
   case rel=>exact⟨k+1,by omega,by go_num,j9⟩
   case measure=>simp[intOf];omega
end Go.Proofs.YtgeofijddhflaaaGreatDoor
