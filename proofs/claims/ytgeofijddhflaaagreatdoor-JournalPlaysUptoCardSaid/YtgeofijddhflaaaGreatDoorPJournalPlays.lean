/- pavanelaw22.JournalPlays answers true. Condition: the acts can be read, and are of bulk at most 1048576; the library's variables stand as laid. -/
import Derived.Test.YtgeofijddhflaaaGreatDoorPJnRWr
import Derived.Test.YtgeofijddhflaaaGreatDoorPJnSave
set_option linter.unusedVariables false
set_option linter.unusedSimpArgs false
set_option maxHeartbeats 8000000
set_option maxRecDepth 100000
namespace Go.Proofs.YtgeofijddhflaaaGreatDoor
open Go.RowKit Go.Maps Oct
def bO8(N:Nat)(lg:Int)(k:Nat)(s:aH):Int:=if N<=k then s.b2 else if k+1=N then s.b2-lg else 0
def aC1(segs:List aH)(N:Nat)(lg:Int):Nat->Int
 |0=>0
 |k+1=>aC1 segs N lg k+(match segs[k]? with|some s=>bO8 N lg k s|none=>0)
theorem qF{segs:List aH}{N:Nat}{lg:Int}{k:Nat}(h:k<segs):aC1 segs N lg (k+1)=aC1 segs N lg k+bO8 N lg k segs[k]:=by
 show aC1 segs N lg k+(match segs[k]? with|some s=>bO8 N lg k s|none=>0)=_
 rw[lW h]
theorem aE7{segs:List aH}{N:Nat}{lg:Int}{M:Int}(c:∀s∈segs,0<=s.b2∧s.b2<=M)(d:∀s,segs[N-1]? =some s->lg<=s.b2∧0<=lg)(e:0<=M):∀k:Nat,k<=segs->0<=aC1 segs N lg k∧aC1 segs N lg k<=k*M
 |0,_=>⟨Int.le_refl _,by simp[aC1]⟩
 |k+1,hk=>by
  obtain⟨h,i⟩:=aE7 c d e k O;have f:((k+1:Nat):Int)*M=(k:Int)*M+M:=by rw[show((k+1:Nat):Int)=(k:Int)+1 by omega,Int.add_mul,Int.one_mul]
  have g:=c segs[k] (lX _);have j:0<=bO8 N lg k segs[k]∧bO8 N lg k segs[k]<=M:=by
   unfold bO8;by_cases b:N<=k;rw[if_pos b];exact g;rw[if_neg b];by_cases a:k+1=N;rw[if_pos a];have l:=d segs[k] (by rw[<-a,Nat.add_sub_cancel];exact lW _);omega;rw[if_neg a];omega
  rw[f,qF O];omega
theorem bO9{segs:List aH}{N:Nat}{lg:Int}:∀k:Nat,k<N->k<=segs->aC1 segs N lg k=0
 |0,_,_=>rfl
 |k+1,h,hk=>by
  rw[qF O,bO9 k O O];unfold bO8;rw[if_neg O,if_neg O];rfl
theorem aV5{segs:List aH}{N:Nat}{lg:Int}:∀n:Nat,N+n<=segs->aC1 segs N lg (N+n)=aC1 segs N lg N+(((segs.drop N).take n).map aH.b2).sum
 |0,_=>by simp
 |n+1,h=>by
  have a:=aV5 (lg:=lg) n (show N+n<=segs by omega);have c:segs[N+n]? =some (segs[N+n]'O):=lW O;have b:bO8 N lg (N+n) (segs[N+n]'O)=(segs[N+n]'O).b2:=by unfold bO8;rw[if_pos (Nat.le_add_right _ _)]
  show aC1 segs N lg (N+n+1)=_
  rw[qF O,a,b,List.take_add_one,List.getElem?_drop,c,mE,List.sum_append];simp;omega
theorem bP0{j:bQ}{lg:Int}:aC1 j.b0 0 lg j.b0=eY j 0:=by
 have a:=aV5 (segs:=j.b0) (N:=0) (lg:=lg) j.b0 O;rw[Nat.zero_add] at a;rw[a,List.take_of_length_le σ,yK];simp[aC1]
theorem bP1{j:bQ}{N:Nat}{lg:Int}(b:N<j.b0):aC1 j.b0 (N+1) lg j.b0=eY j (N+1)+(j.b0[N].b2-lg):=by
 have a:=aV5 (segs:=j.b0) (N:=N+1) (lg:=lg) (j.b0.length-(N+1)) O;rw[show N+1+(j.b0.length-(N+1))=j.b0.length by omega] at a;rw[a,List.take_of_length_le (by rw[lZ];omega),yK,qF b,bO9 N O O];unfold bO8;rw[if_neg O,if_pos rfl];omega
theorem bA1{j:bQ}{d:DkD}{l:List cD}{ix lg f g C:Int}{N:Nat}{a:Bool}{y:List UInt8}{t:List Int}(B:cP j d l=saveR j d l ix)(E:N=dR j.b0 ix j.b0)
  (Q:(N=0∧lg=0)∨∃(m:Nat) (p:m<j.b0),N=m+1∧lg=(j.b0[m].ahead ix).b2) (K:(N=0∧f=1∧g=0)∨∃(m:Nat) (p:m<j.b0),N=m+1∧f=j.b0[m].k+1∧g=(j.b0[m].ahead ix).b7.2)
  (I:a=(decide (N=0)||decide (600<=lg))) (a8:y=if a=true then dN ix g else[]) (i:t=if a=true then[(y:Int)] else[]) (H:C=aC1 j.b0 N lg j.b0) (P:∀m (p:m<j.b0.length),(j.b0[m].ahead ix).b2<=j.b0[m].b2) (M:∀s∈j.b0,s.k<=999999999) (S:N<=j.b0):
  ∃(ss x:List aH) (s:aH) (tl q:List aQ),(if a=true then ss++[⟨f,ix,g,[],t⟩] else ss)=x++[s]∧((N=0∧ss=[]∧tl=q)∨∃x s,j.b0.take N=x++[s]∧lg=(s.ahead ix).b2∧tl=fV s (s.ahead ix)++q∧ss=x++[s.ahead ix])∧q=[.app (aE s.k) (y++(l.map aZ).flatten),.sync (aE s.k)]∧(a=true->s.k=f)∧(a=false->s.k<=999999999)∧(a=true∨0<N)∧
   (∀r,r=cF ((fI j N).map (fun s=>aQ.rm (aE s.k))++tl) d->cP j d l=if 999999999<s.k then(1,j,d) else if IntKind.i64.wrap (d.free+C)<((y++(l.map aZ).flatten).length:Int) then(52,j,d) else(r.1,if r.1=0 then {j with b0:=x++[aO s l]} else {j with bad:=r.1},r.2)):=by
 rcases Q with⟨h0,h1⟩|⟨m,p,h0,h1⟩
 have b:f=1∧g=0:=by
  rcases K with⟨_,b⟩|⟨m,_,b,_⟩
  exact b;omega
 have w:a=true:=by rw[I,decide_eq_true h0];rfl
 subst w;simp only[if_true] at a8 i⊢;have v:j.b0.take N=[]:=by rw[h0,List.take_zero]
 refine⟨[],[],⟨f,ix,g,[],t⟩,_,_,rfl,.inl ⟨h0,rfl,rfl⟩,rfl,(fun _=>rfl),(fun h=>by cases h),.inl trivial,fun r n=>?_⟩;rw[B,pO E v];unfold jJ;have o:=mR l (⟨f,ix,g,[],t⟩:aH);rw[i,a8,b.1,b.2] at o n;rw[n,i,a8,b.1,b.2,o.1,H,h0,h1,bP0,Int.add_zero];obtain⟨s,u⟩:=eX (j.b0[m]);obtain⟨c,e⟩:=eX (s.ahead ix);have v:j.b0.take N=j.b0.take m++[s]:=by rw[h0,List.take_succ_eq_append_getElem p,u]
 have b:f=s.k+1∧g=c.b7.2:=by
  rcases K with⟨b,_⟩|⟨m',l7,b,D⟩
  omega;obtain rfl:m' =m:=O;rw[e,u];exact D
 have z:lg=c.b2:=by rw[h1,e,u]
 have G:eY j N+pD s c=C:=by
  rw[H,h0,bP1 p,<-u,z];have D:=P m p;rw[<-u,<-e] at D;unfold pD;split<;>omega
 have F:a=decide (600<=c.b2):=by rw[I,decide_eq_false O,Bool.false_or,z]
 have R:=M s (by rw[u];exact lX p);have L:c.k=s.k:=by rw[e];rfl
 by_cases A:600<=c.b2;have w:a=true:=by rw[F,decide_eq_true A]
 subst w;simp only[if_true] at a8 i⊢;refine⟨j.b0.take m++[c],j.b0.take m++[c],⟨f,ix,g,[],t⟩,_,_,rfl,.inr ⟨j.b0.take m,s,v,by rw[z,e],rfl,by rw[e]⟩,rfl,(fun _=>rfl),(fun h=>by cases h),.inl trivial,fun r n=>?_⟩;rw[B,rN E v e A];unfold jJ;have o:=mR l (⟨f,ix,g,[],t⟩:aH);rw[<-List.append_assoc,<-e,i,a8,b.1,b.2] at n;rw[i,a8,b.1,b.2] at o;rw[n,i,a8,b.1,b.2,o.1,G];have w:a=false:=by rw[F,decide_eq_false A]
 subst w;simp only[Bool.false_eq_true,if_false] at a8 i⊢;refine⟨j.b0.take m++[c],j.b0.take m,c,_,_,rfl,.inr ⟨j.b0.take m,s,v,by rw[z,e],rfl,by rw[e]⟩,rfl,(fun h=>by cases h),(fun _=>by rw[L];exact R),.inr O,fun r n=>?_⟩;rw[B,rO E v e A];unfold jJ;have o:=mR l c;rw[<-List.append_assoc,<-e,a8] at n;rw[n,a8,o.1,G]
theorem pV.from_{w w1:World}{base g gj:Nat}{vL:Value}{es:List (Nm×RF)}{F F1:Nat->Prop}{r:Int×bQ×DkD}{e:Ending}{w' :World}(h:pV w1 base g gj vL es F1 r e w')(c:Below w w w1)(p:∀k,F1 k->F k∨w.heap.size<=k):pV w base g gj vL es F r e w' :=by
 have q:=c.size;obtain⟨j,i,f,d,l,m,n,o⟩:=h;refine⟨j,i,f,d,l,(Fr.b9 (fun k=>aL g vL es k∨k=gj) c).trans m (fun k b=>.inl b),fun k b=>?_,fun k b=>?_⟩;rcases n k b with a|a
 exact .inl a;exact .inr O;rcases o k b with a|a
 exact p k a;exact .inr O
theorem aL9.a1{w w1:World}{base g gj:Nat}{vL:Value}{es:List (Nm×RF)}{F:Nat->Prop}{d:DkD}{j:bQ}(h:aL9 w base g gj F d j vL es)(a:Below w w w1):aL9 w1 base g gj F d j vL es:=
 ⟨h.c8.a1 a,h.fs,h.jn.a1 (fun k b=>(h.apart k b).2.1) a,fun k b=>by have c:=h.apart k b;have:=a.size;exact⟨c.1,O,c.2.2⟩,h.lo⟩
theorem aZ3{w:World}{base g gj:Nat}{F E:Nat->Prop}{d:DkD}{j:bQ}{vL:Value}{es:List (Nm×RF)}(h:aL9 w base g gj F d j vL es){L:Nat}(Y1:gP L d)(hL:L<=100000000){n:Nat}(hI:PI n 100000000 j)(hn:n<=1000)
  (Ae:Option Addr) (rs:List EntR) (cr:Nat) (Q7:dM w E Ae (aG rs)) (Q5:∀x∈rs,gQ w E x.v x.e.b) (hE:∀k,E k->k<w.heap.size∧k≠gj∧¬aL g vL es k) (BK:rs<=cr∧cr<=9223372036854775807) (CN:rs.length<=2000000) (Q4:((rs.map EntR.e).map aZ).flatten.length<=10000000000)
  (B6:∀x∈rs,(I6 x.e.ix)∧(I6 x.e.tm)∧(I6 x.e.kd)):
  Calls Tryz.prog 78 #[(gj,0),.slice Ae rs cr] w fun e w' =>pV w base g gj vL es F (cP j d (rs.map EntR.e)) e w' :=by
 obtain⟨sv,hO,I4⟩:=h.start;have P6:=h.jn.num;have n5:=h.jn.l2;have G3:=fun k G=>(h.apart k G).2.1
 have T8:=fun k G=>(hE k G).1
 have p4:=J (bJ1 h.jn G3 Ae rs cr Q7 T8 (fun q hq=>by obtain⟨A,c,hv,_⟩:=Q5 q hq;exact⟨A,c,hv⟩) O B6);have m8:=J (fun(w' :World) (hb:Below w w w') (D:Int) (C8:0<=D∧D<=9223372036854775807)=>aY8 (h.jn.a1 G3 hb) (fun k G=>ω2 (G3 k G) hb.size) (fun s hs=>(hI.h5 s hs).1.len) D C8);obtain⟨A,c,a9,U1,G6,B1,Q6,_⟩:=h.jn.lst;obtain⟨jt,L7⟩:=eX j.c6;obtain⟨jv,L8⟩:=eX j.h7;obtain⟨jb,L6⟩:=eX j.bad;have V8:j=⟨jt,jv,j.b0,jb⟩:=by rw[L7,L8,L6]
 rw[<-L7,<-L8,<-L6] at hO;rw[<-L7,<-L8] at P6;have j4:=hO.jb.c 4;have j3:=U1.c 3;have V6:=hO.jb.lt;have J5:a9.length=j.b0:=by rw[<-B1,lU]
 have CO:a9.length<=1000:=ω1 hI.len;obtain⟨l,hl⟩:=eX (rs.map EntR.e);obtain⟨mv,Q1⟩:=eX (nG j l);rw[<-hl,<-Q1] at p4;rw[<-hl] at Q4⊢;have HH:=J h;have HO:=J hO;have j9:=J I4;have D5:=J V8;have D6:=J P6;have N9:=J Y1;have C3:=J L6;have HI:=J hI;have AM:=J n5;have o9:=J G6;have E5:=J B1;have g9:=J J5;have E9:=J (And.intro Q7 Q5);have HE:=J hE;have l4:=J B6;have O0:=J Q4;have HL:=J hl;have E6:=J Q1;have X2:l.length=rs:=by rw[hl,lU]
 have N7:=J X2;have C2:=J G3;clear h hO I4 V8 P6 Y1 L7 L8 L6 hI n5 G6 B1 J5 Q7 Q5 hE B6 Q4 hl Q1 X2 G3 T8 U1 Q6;go_enter Tryz.func78,Tryz.ntmps78;by_cases hb:jb=0;rotate_left
 ·have HR:=J (show cP j d l=(jb,j,d) by
   unfold cP;rw[if_pos (by rw[<-C3.o];exact hb),<-C3.o])
  go_wp2;go_ret;exact j9.o _ _ _ _ jb _ _ _ HO.o D6.o (cP j d l) (by rw[HR.o,<-D5.o])
 subst hb;go_wp2_with fail;refine p4.o.mono ?_;rintro e w1 ⟨rfl,L3⟩;have K3:=J L3;have Y6:=L3.size;have N8:=J (HO.o.a1 L3);clear L3 p4 j4;by_cases R:mv=0;rotate_left
 ·have HR:=J (show cP j d l=(mv,j,d) by
   unfold cP;rw[if_neg (by rw[<-C3.o];simp),if_pos (by rw[<-E6.o];exact R),<-E6.o])
  go_wp2;go_ret;exact j9.o _ _ _ _ mv _ _ _ N8.o D6.o (cP j d l) (by rw[HR.o,<-D5.o])
 subst R;by_cases hr0:rs.length=0
 ·have hz:(rs:Int)=0:=O
  have HR:=J (show cP j d l=(0,j,d) by
   have f:=mD (by rw[N7.o];exact hr0);unfold cP;rw[if_neg (by rw[<-C3.o];simp),if_neg (by rw[<-E6.o];simp),f])
  have CD:((rs:Int)==0)=true:=by rw[hz];rfl
  clear hz hr0;go_wp2;go_ret;exact j9.o _ _ _ _ 0 _ _ _ N8.o D6.o (cP j d l) (by rw[HR.o,<-D5.o])
 obtain⟨x0,rr,M3⟩:∃x r,rs=x::r:=by
  cases hc:rs with
  |nil=>rw[hc] at hr0;exact absurd rfl hr0
  |cons x r=>exact⟨x,r,rfl⟩
 have CD:((rs:Int)==0)=false:=by rw[mN];omega
 obtain⟨D,C8⟩:=eX x0.e.ix;have hM:cB0 j l D:=by
  have f:l=x0.e::rr.map EntR.e:=by rw[HL.o,M3];rfl
  rw[f,C8];refine bR0 (by rw[<-f];exact E6.o.symm) (fun e he=>?_);rw[<-f,HL.o] at he;obtain⟨q,hq,rfl⟩:=mF.1 he;have:=l4.o q hq;exact⟨this.1.2,this.2.1.2,this.2.2.2⟩
 have P4:=uD (d:=d) (j:=j) (l:=l) (e0:=x0.e) (r:=rr.map EntR.e) C3.o.symm E6.o.symm (by rw[HL.o,M3];rfl);rw[<-C8] at P4;have BP:1<=D∧D<9223372036854775807:=by
  have f:=hM.base;have H:=HI.o.base0;have Q:=hM.top;have h4:=hM.ne;unfold bL at Q;omega
 obtain⟨eb,eo,rfl,BB,L5,U9⟩:=E9.o.1 (by rw[aN];omega);have O3:w.cell? (eb,eo)=some (.int .i64 D):=by
  have f:=bM rs (k:=0) O (j:=0) O;have H:=U9 0 D (by
   rw[Nat.zero_mul] at f;rw[f,C8];simp only[M3,List.getElem_cons_zero];rfl)
  exact H
 have e0:=(K3.o.cell (p:=(eb,eo)) L5).trans O3;obtain⟨N,hN⟩:=eX (dR j.b0 D j.b0);obtain⟨lg,Q0⟩:=eX (aO3 j D);have P8:=m8.o w1 K3.o D O;rw[<-hN,<-Q0] at P8;have U4:N<=a9:=by rw[hN,g9.o];exact yU _ _ _
 have S5:=J P8;have HM:=J hM;have AB:=J P4;have S8:=J hN;have AE:=J Q0;have BS:(0:Int)<(rs:Int):=O;have BT:0<rs.length:=O;have R7:=J O3;clear hM P4 hN Q0 P8 M3 C8 U9 m8 BB O3;go_wp2_with fail;refine S5.o.mono ?_;rintro e w2 ⟨rfl,U5⟩;have p6:=K3.o.trans (U5.mono Y6);have l9:=J p6;have BX:=p6.size;clear U5 p6 S5 N8 K3 e0 Y6;have M0:(N=0∧lg=0)∨∃(m:Nat) (R:m<j.b0),N=m+1∧lg=(j.b0[m].ahead D).b2:=by
  have f:=AE.o;unfold aO3 at f;rw[<-S8.o] at f;have H:=g9.o;rcases Nat.eq_zero_or_pos N with M|M
  rw[M,List.take_zero] at f;exact .inl ⟨M,f⟩;obtain⟨m,rfl⟩:∃m,N=m+1:=⟨N-1,O⟩
  have X7:m<j.b0:=O;rw[List.take_succ_eq_append_getElem X7,List.getLast?_append,List.getLast?_singleton] at f;exact .inr ⟨m,X7,rfl,f⟩
 have m6:∀s∈j.b0,0<=s.b2∧s.b2<=100000000:=fun s hs=>by
  have f:=(HI.o.h5 s hs).1;have:=f.j4;have:=f.b2;omega
 have V4:∀k,k<=j.b0.length->0<=aC1 j.b0 N lg k∧aC1 j.b0 N lg k<=k*100000000:=fun k G=>aE7 m6 (fun s hs=>by
  rcases M0 with⟨M,f⟩|⟨m,R,M,f⟩
  rw[f];have:=m6 s (List.mem_of_getElem? hs);omega;rw[M,Nat.add_sub_cancel,lW R] at hs;injection hs with hs
  have H:=(HI.o.h5 _ (lX R)).1;have Q:=H.ahead D;rw[f,<-hs];have h4:=Q.j4;have h5:=H.le_ (j.b0[m].ahead D).b2 (mO (iP Q.ne));omega) O k G
 have BR:0<=lg∧lg<=100000000:=by
  rcases M0 with⟨M,f⟩|⟨m,R,M,f⟩
  omega;have Q:=(HI.o.h5 _ (lX R)).1.ahead D;rw[f];have:=Q.j4;have:=Q.b2;omega
 have S6:=J M0;have S2:=J V4;have AN:=J m6;obtain⟨fa,V1⟩:=eX (aC1 j.b0 N lg j.b0);have S1:=J V1;clear M0 V4 m6 V1;go_upto_block 0 with fail
 go_cut [8,9] from 44 to 81 (fun c8 c9 wx=>c8=.int .i64 fa∧w2=wx)
 case first=>
  have k3:=(l9.o.cell (p:=(gj,3)) V6).trans j3;have S7:=J (o9.o.b1 (w' :=w2) BX (fun k G=>l9.o.block k (C2.o k G)));go_wp2_with fail;go_loopw [8,9] (fun fv iv wr=>∃k:Nat,k<=a9∧iv=.int .i64 k∧fv=.int .i64 (aC1 j.b0 N lg k)∧w2=wr) (fun _ iv _=>a9.length-(intOf iv).toNat)
  case atStart=>exact⟨0,Nat.zero_le _,rfl,rfl,rfl⟩
  obtain⟨k,G,rfl,rfl,hw⟩:=hrel;subst hw;by_cases l8:k<a9;rotate_left
  ·obtain rfl:k=a9:=O
   have V2:aC1 j.b0 N lg a9=fa:=by rw[S1.o,g9.o]
   rw[V2];have P7:¬(a9:Int)<(a9:Int):=O;clear V2;go_wp2;go_meet;exact⟨rfl,rfl⟩
  obtain⟨ab,ao,rfl,_,BJ,Z⟩:=S7.o.at_ l8;have m9:=S7.o.rd _ (lX l8);have P9:k<j.b0:=ω1 g9.o;have C9:a9[k].s=j.b0[k]:=by
   have f:=congrArg (fun l=>l[k]?) E5.o;simp only[List.getElem?_map] at f;rw[lW l8,lW P9] at f;exact Option.some.inj f
  obtain⟨sl,m6⟩:=eX (j.b0[k].b2);have e5:=Z 5 sl (by rw[m6,<-C9,<-m9.lo];rfl);have f:=S2.o k O;have H:=S2.o (k+1) O;have Q:=AN.o _ (lX P9);rw[<-m6] at Q;have i6:=qF (N:=N) (lg:=lg) P9;unfold bO8 at i6;rw[<-m6] at i6;obtain⟨f1,P3⟩:=eX (aC1 j.b0 N lg k);obtain⟨f2,q8⟩:=eX (aC1 j.b0 N lg (k+1));rw[<-P3] at f i6;rw[<-q8] at H i6;rw[<-P3];have N3:=J q8;have P7:(k:Int)<(a9:Int):=O;have BQ:0<=(k:Int)∧(k:Int)<(a9:Int):=O;have CU:IntKind.i64.wrap ((N:Int)-1)=(N:Int)-1:=mH _ O;have CJ:k<=1000:=O;clear Z m9 C9 m6 P3 q8;by_cases c1:N<=k
  ·rw[if_pos c1] at i6
   have M5:IntKind.i64.wrap (f1+sl)=f2:=by rw[i6];exact mH _ O
   have AZ:(N:Int)<=(k:Int):=O;clear i6;go_wp2;go_roundw
   case rel=>exact⟨k+1,O,by go_num,by rw[N3.o],trivial⟩
   case measure=>simp[intOf];omega
  rw[if_neg c1] at i6;have AZ:¬(N:Int)<=(k:Int):=O;by_cases c2:k+1=N
  ·rw[if_pos c2] at i6
   have M5:IntKind.i64.wrap (f1+sl)=f1+sl:=mH _ O;have CV:IntKind.i64.wrap (f1+sl-lg)=f2:=by rw[i6,show f1+sl-lg=f1+(sl-lg) by omega];exact mH _ O
   have BA:((k:Int)==(N:Int)-1)=true:=by rw[beq_iff_eq];omega
   clear i6 c2;go_wp2;go_roundw
   case rel=>exact⟨k+1,O,by go_num,by rw[N3.o],trivial⟩
   case measure=>simp[intOf];omega
  rw[if_neg c2] at i6;have BM:f1=f2:=O;have BA:((k:Int)==(N:Int)-1)=false:=by rw[mN];omega
  subst BM;clear i6 c2;go_wp2;go_roundw
  case rel=>exact⟨k+1,O,by go_num,by rw[N3.o],trivial⟩
  case measure=>simp[intOf];omega
 obtain⟨rfl,hw⟩:=hcut;subst hw;obtain⟨y,d8⟩:∃b:Bool,b=(decide (N=0)||decide (600<=lg)):=⟨_,rfl⟩
 go_upto_region 15 with fail
 go_cut [10] from 82 to 87 (fun c10 wx=>c10=.bool y∧w2=wx)
 case first=>
  by_cases M:N=0
  ·have hz:((N:Int)==0)=true:=by rw[beq_iff_eq];omega
   obtain rfl:y=true:=by rw[d8,decide_eq_true M];rfl
   clear d8 M;go_wp2;go_meet;exact⟨rfl,rfl⟩
  have hz:((N:Int)==0)=false:=by rw[mN];omega
  by_cases h6:600<=lg
  ·obtain rfl:y=true:=by rw[d8,decide_eq_true h6];simp
   clear d8 M;go_wp2;go_meet;exact⟨rfl,rfl⟩
  obtain rfl:y=false:=by rw[d8,decide_eq_false h6,decide_eq_false M];rfl
  clear d8 M;go_wp2;go_meet;exact⟨rfl,rfl⟩
 obtain⟨rfl,hw⟩:=hcut;subst hw;have o8:=J d8;have e0:=(l9.o.cell (p:=(eb,eo)) L5).trans R7.o;obtain⟨C,K7⟩:=eX w2.heap.size;obtain⟨W1,L0⟩:=eX (w2.alloc (.cells #[.int .i64 1,D,.int .i64 0,.slice none 0 0,.slice none 0 0,.int .i64 0,.bool false,.bool false] 139));have U6:=bN L0;have V9:aS W1 C 139 #[.int .i64 1,D,.int .i64 0,.slice none 0 0,.slice none 0 0,.int .i64 0,.bool false,.bool false]:=by rw[L0,K7];exact aS.new w2 _ _
 have T3:=J L0;have D9:=J V9;have C1:=J U6;have D4:=J K7;have Z1:w<=C:=O;clear L0 V9 U6 d8;go_upto_region 18 with fail
 rw[<-T3.o,<-K7];clear e0 K7 T3;obtain⟨U,V,J0⟩:∃(U V:Int),(N=0∧U=1∧V=0)∨∃(m:Nat) (R:m<j.b0),N=m+1∧U=j.b0[m].k+1∧V=(j.b0[m].ahead D).b7.2:=by
  rcases S6.o with⟨M,_⟩|⟨m,R,M,_⟩
  exact⟨1,0,.inl ⟨M,rfl,rfl⟩⟩;exact⟨_,_,.inr ⟨m,R,M,rfl,rfl⟩⟩
 have K4:=J J0;clear J0;go_upto_if 94 with fail
 go_cut [13] from 94 to 135 (fun c13 wx=>Hq (aS wx C 139 #[U,D,V,.slice none 0 0,.slice none 0 0,.int .i64 0,.bool false,.bool false])∧Hq (Below C w2 wx))
 case first=>
  rcases K4.o with⟨M,f,H⟩|⟨m,R,M,f,H⟩
  ·have hz:¬(0:Int)<(N:Int):=O
   subst f H;clear M;go_wp2;go_meet;exact⟨D9,by rw[D4.o];exact C1⟩
  subst M;have M1:m<a9:=O;have hz:(0:Int)<((m+1:Nat):Int):=O;have O7:=o9.o.b1 (w' :=W1) (ω1 C1.o.size) (fun k G=>(C1.o.block k (ω1 (C2.o k G))).trans (l9.o.block k (C2.o k G)));obtain⟨ab,ao,rfl,BC,BJ,Z⟩:=O7.at_ M1;have m9:=O7.rd _ (lX M1);have C9:a9[m].s=j.b0[m]:=by
   have f:=congrArg (fun l=>l[m]?) E5.o;simp only[List.getElem?_map] at f;rw[lW M1,lW R] at f;exact Option.some.inj f
  obtain⟨q,hq⟩:=eX (a9[m]);rw[<-hq] at Z m9 C9;have M4:=(HI.o.h5 _ (lX R));rw[<-C9] at M4 f H;have k3:=(C1.o.cell (p:=(gj,3)) (by show gj<_;omega)).trans ((l9.o.cell (p:=(gj,3)) V6).trans j3);have BG:w<=C∧C=w2:=⟨Z1,D4.o⟩;have BI:=C2.o ab BC;obtain⟨kk,L9⟩:=eX q.s.k;obtain⟨fi,I5⟩:=eX q.s.a8;have d0:=Z 0 kk (by rw[L9];rfl);have d1:=Z 1 fi (by rw[I5];rfl);have d2:=Z 2 q.s.c6 rfl;have d3:=Z 3 (.slice q.al q.rs q.cl) rfl;have d4:=Z 4 (.slice q.ae q.s.a7 q.ce) rfl;have d5:=Z 5 q.lo rfl;have d6:=Z 6 (.bool q.em) rfl;have d7:=Z 7 (.bool q.tn) rfl;simp only[Nat.add_zero] at d0;have CH:gj<C:=O;obtain⟨W2,G7⟩:=eX (W1.setCell (C,0) (.int .i64 (kk+1)));have l5:aS W2 C 139 #[.int .i64 (kk+1),D,.int .i64 0,.slice none 0 0,.slice none 0 0,.int .i64 0,.bool false,.bool false]:=by rw[G7];have:=D9.o.b8 0 (.int .i64 (kk+1));simpa using this
  have G9:Below C w2 W2:=by rw[G7];exact Below.setCell (by rw[D4.o];exact C1.o) (p:=(C,0)) (lR C) _
  have f8:∀k j,k≠C->W2.cell? ⟨k,j,none⟩=W1.cell? ⟨k,j,none⟩:=fun k j G=>by rw[G7];exact mK (w:=W1) (a:=⟨k,j,none⟩) (Below.heap_setCell _ _ _ _ G)
  have t3:=(f8 gj 3 O).trans k3;have t0:=(f8 ab _ O).trans d0;have t1:=(f8 ab _ O).trans d1;have t2:=(f8 ab _ O).trans d2;have t4:=(f8 ab _ O).trans d3;have t5:=(f8 ab _ O).trans d4;have t6:=(f8 ab _ O).trans d5;have t7:=(f8 ab _ O).trans d6;have t8:=(f8 ab _ O).trans d7;have X0:=M4.2;rw[<-L9] at X0 f;have f0:=D9.o.a6 0;have g0:=D9.o.c 0;have BZ:(m:Int)+1-1=(m:Int):=O;have CS:IntKind.i64.wrap (m:Int)=(m:Int):=mH _ O;have CK:(m:Int)<(a9:Int):=O;have CL:0<=(m:Int)∧(m:Int)<(a9:Int):=O;have CW:IntKind.i64.wrap (kk+1)=kk+1:=mH _ O;obtain⟨GC,O6⟩:=eX W2.heap.size;obtain⟨W3,L1⟩:=eX (W2.alloc (.cells #[kk,fi,q.s.c6,.slice q.al q.rs q.cl,.slice q.ae q.s.a7 q.ce,q.lo,.bool q.em,.bool q.tn] 139));have p8:=bN L1;have l6:aS W3 GC 139 #[kk,fi,q.s.c6,.slice q.al q.rs q.cl,.slice q.ae q.s.a7 q.ce,q.lo,.bool q.em,.bool q.tn]:=by rw[L1,O6];exact aS.new W2 _ _
  have J1:=l5.a1 p8 l5.lt;have p7:=G9.trans (p8.mono (ω1 l5.lt));have BD:C<GC:=ω1 l5.lt;have T5:=(p7.cell (p:=(eb,eo)) (by show eb<C;omega)).trans ((l9.o.cell (p:=(eb,eo)) L5).trans R7.o);have x3:=l6.c 3;have x1:=l6.c 1;have CF:W3.drew.frozen? (GC,3)=false:=l6.a6 3;obtain⟨Y,K9⟩:=eX (q.s.e4 D);have B7:q.rs.length=q.s.l:=by rw[<-m9.map,lU]
  have U3:min (max 0 (D-fi)) (q.rs:Int)=(Y:Int):=by rw[K9,B7,I5];unfold aH.e4;omega
  have BH:Y<=q.rs:=by rw[K9,B7];exact rF _ _
  have p9:=m9.cap;have BN:0<=fi∧fi<=9223372036854775806:=by rw[I5];exact m9.num.a8
  have CT:IntKind.i64.wrap (D-fi)=D-fi:=mH _ O;have hcut:=fun W:World=>nQ (P:=Tryz.prog) Tryz.underlying40 dW q.al q.rs q.cl Y O (min (max 0 (D-fi)) (q.rs:Int)) U3 W
  obtain⟨W4,G8⟩:=eX ((W3.setCell (GC,3) (.slice q.al Y q.cl)).drew);have J2:aS W4 GC 139 #[kk,fi,q.s.c6,.slice q.al Y q.cl,.slice q.ae q.s.a7 q.ce,q.lo,.bool q.em,.bool q.tn]:=by
   rw[G8];have h5:aS (W3.setCell (GC,3) (.slice q.al Y q.cl)) GC 139 #[kk,fi,q.s.c6,.slice q.al Y q.cl,.slice q.ae q.s.a7 q.ce,q.lo,.bool q.em,.bool q.tn]:=by have:=l6.b8 3 (.slice q.al Y q.cl);simpa using this
   exact h5
  have t9:aS W4 C 139 #[.int .i64 (kk+1),D,.int .i64 0,.slice none 0 0,.slice none 0 0,.int .i64 0,.bool false,.bool false]:=by
   rw[G8];exact aS.j5 J1 (p:=(GC,3)) (by show C≠GC;omega) (.slice q.al Y q.cl)
  have m3:Below C w2 W4:=by rw[G8];exact(p7.setCell (p:=(GC,3)) (by show C<=GC;omega) _).drew
  have CP:=m3.size;have f9:nT W4 F q:=by
   rw[hq];exact(o9.o.rd _ (lX M1)).b1 O (fun k G=>(m3.block k (ω1 (C2.o k G))).trans (l9.o.block k (C2.o k G)))
  have R1:(q.rs.take Y).length=Y:=by rw[lV];omega
  have Y2:nT W4 F ⟨{q.s with l:=q.s.l.take Y},q.tn,q.lo,q.em,q.al,q.cl,q.ae,q.ce,q.rs.take Y⟩:=by
   refine⟨⟨f9.num.k,f9.num.a8,f9.num.c6,fun e he=>f9.num.l0 e (mO he),f9.num.a7⟩,⟨by rw[R1];exact mM BH p9.1,p9.2⟩,?_,?_,fun x hx=>f9.h6 x (mO hx),f9.a7,f9.lo,f9.em⟩;rw[<-lF];exact f9.c7.take _;rw[List.map_take,f9.map]
  have J3:=Y2.b7 (by
   show(q.s.l.take Y).length<=_
   have:=M4.1.cnt;rw[lV];omega)
  have X4:(⟨{q.s with l:=q.s.l.take Y},q.tn,q.lo,q.em,q.al,q.cl,q.ae,q.ce,q.rs.take Y⟩:RqR).vl=.slice q.al Y q.cl:=by
   show Value.slice q.al (q.rs.take Y).length q.cl=_
   rw[R1]
  have X5:({q.s with l:=q.s.l.take Y}:aH).b7.2=V:=by rw[H,K9];rfl
  rw[X4] at J3;simp only at J3;rw[X5] at J3;have J4:Calls Tryz.prog 89 #[.agg #[kk,fi,q.s.c6,.slice q.al Y q.cl,.slice q.ae q.s.a7 q.ce,q.lo,.bool q.em,.bool q.tn]] W4 fun e w' =>(∃z,e=.returned (.tuple #[z,V]))∧Below W4 W4 w' :=by
   rw[L9,I5];exact J3.mono fun e w' h=>⟨⟨_,h.1⟩,h.2⟩
  obtain⟨y0,y1,y2,y3,y4,y5,y6,y7⟩:=fN J2;have AD:=J J4;have N6:=J t9;have Z8:=J m3;have AU:=J G7;have AV:=J L1;have AW:=J G8;have Z9:=J f;have G4:=t9.lt;clear J3 J4 Y2 f9 m9 Z hq C9 l5 G9 f8 l6 J1 p8 p7 J2 t9 m3 G7 L1 G8 d1 d2 d3 d4 d5 d6 d7 K9 U3 B7 p9 X4 X5 R1 L9 I5 M4 f H O7 X0 BG;have AA:=J O6;clear O6;go_upto_region 20 with fail
  rw[<-AU.o];clear k3 f0 g0 d0;go_upto_region 21 with fail
  rw[<-AV.o,<-AA.o];clear t0 t1 t2 t3 t4 t5 t6 t7 t8;refine bW 16 κ (S:=fun W=>W.cell? ⟨GC,3,none⟩=some (.slice q.al q.rs q.cl)∧W.cell? ⟨GC,1,none⟩=some (.int .i64 fi)∧W.cell? ⟨eb,eo,none⟩=some (.int .i64 D)∧True) ⟨x3,x1,T5,trivial⟩ (fun hHeld=>?_);refine zU 0 (k:=zU 1 (k:=zU 2 (k:=zU 3 (k:=zU 4 (k:=zU 5 (k:=zU 6 (k:=zU 7 (k:=zU 8 (k:=zU 9 (k:=zU 10 (k:=zU 11 (k:=?_))))))))))));refine zU 12 (k:=zU 13 (k:=zU 14 (k:=zU 15 (k:=?_))));simp only[zA,zB,zF,zG,zC,zD,zE];refine dI (t:=16) (by simp) (by kernel_rfl) (by kernel_rfl) (fun K hK=>?_);simp only[zA,zB];go_simp;refine hK.out _ _ ?_;rw[<-AW.o];clear hK K hHeld x3 x1 T5 CF hcut;go_wp2_with fail;refine AD.o.mono ?_;rintro e w5 ⟨⟨zz,rfl⟩,i4⟩;have m5:=N6.o.a1 i4 G4;have q2:=m5.c 2;have f2:=m5.a6 2;have I0:=Z8.o.trans (i4.mono (Nat.le_of_lt G4));have C4:=J (by have:=m5.b8 2 V;simpa using this);have m7:=J (I0.setCell (p:=(C,2)) (lR C) V);clear m5 i4 I0 y0 y1 y2 y3 y4 y5 y6 y7;go_wp2;go_meet;rw[Z9.o];exact⟨C4,m7⟩
 obtain⟨C5,M9⟩:=hcut;clear D9 C1;have s9:I6 V:=by
  rcases K4.o with⟨_,_,H⟩|⟨m,R,_,_,H⟩
  omega;rw[H];exact aH.k6 ((AM.o _ (lX R)).l4 D)
 have BO:1<=U∧U<=1000000000:=by
  rcases K4.o with⟨_,f,_⟩|⟨m,R,_,f,_⟩
  omega;have:=(HI.o.h5 _ (lX R)).2;omega
 have T9:=C5.o.lt;have BF:=Nat.le_of_eq D4.o;have BE:=Nat.le_of_eq D4.o.symm;obtain⟨I,P0⟩:=eX (if y=true then dN D V else[]);obtain⟨eN,j8⟩:∃x:List Int,x=if y=true then[(I:Int)] else[]:=⟨_,rfl⟩
 have P1:I.length<=60:=by
  rw[P0];split;exact(qH O s9).2;simp
 have M8:=J P0;have D1:=J j8;clear P0 j8;go_upto_if 136 with fail
 go_cut [11] from 136 to 145 (fun c11 wx=>∃(A5:Option Addr) (c5:Nat) (Ax:Option Addr) (cx:Nat),c11=.slice A5 I c5∧Hq (Bs wx C (.slice A5 I c5) I)∧Hq (aS wx C 139 #[U,D,V,.slice none 0 0,.slice Ax eN cx,.int .i64 0,.bool false,.bool false])∧Hq (y=true->∃gb,Ax=some ⟨gb,0,none⟩∧cx=1∧aS wx gb 3 #[.int .i64 (I:Int)]∧C<gb)∧Hq (Below C w2 wx))
 case first=>
  cases y with
  |false=>
   have L2:I=[]:=by rw[M8.o];rfl
   have P2:eN=[]:=by rw[D1.o];rfl
   subst L2 P2;clear P1;go_wp2;go_meet;exact⟨none,0,none,0,rfl,J (Own.nil _ _ _),C5,J (fun h=>by cases h),M9⟩
  |true=>
   have L2:I=dN D V:=by rw[M8.o];rfl
   have P2:eN=[(I:Int)]:=by rw[D1.o];rfl
   have f1:=C5.o.c 1;have f2:=C5.o.c 2;have P5:=zS D V O s9 wc;rw[<-L2] at P5;have S3:=J P5;clear P5 L2;subst P2;go_wp2_with fail;refine S3.o.mono ?_;rintro e w5 ⟨v5,rfl,D0,i4⟩;obtain⟨A5,c5,rfl,p1,p2,_⟩:=bF D0;have U2:=C5.o.a1 i4 T9;have Y7:=i4.size;have L4:=bA w5 (.cells #[.int .i64 (I:Int)] 3);have T7:=aS.new w5 3 #[.int .i64 (I:Int)];have K8:=U2.a1 L4 O;have z4:=K8.a6 4;have g4:(w5.alloc (.cells #[.int .i64 (I:Int)] 3)).cell? (C,4)=some (.slice none 0 0):=K8.cell 4;obtain⟨W7,C7⟩:=eX ((w5.alloc (.cells #[.int .i64 (I:Int)] 3)).setCell (C,4) (.slice (w5,0) 1 1));have G5:aS W7 C 139 #[U,D,V,.slice none 0 0,.slice (w5,0) 1 1,.int .i64 0,.bool false,.bool false]:=by
    rw[C7];have:=aS.b8 K8 4 (.slice (w5,0) 1 1);simpa using this
   have G2:aS W7 w5 3 #[.int .i64 (I:Int)]:=by rw[C7];exact T7.j5 (p:=(C,4)) (by show w5≠C;omega) _
   have C0:Bs W7 C (.slice A5 I c5) I:=by
    rw[C7];have f:=Own.a1 D0 L4 (lR _);exact Own.mono (Own.j5 f (aA _ C 4 _) O) O
   have I1:Below C w2 W7:=by
    rw[C7];exact(M9.o.trans ((i4.trans (L4.mono Y7)).mono O)).setCell (p:=(C,4)) (lR C) _
   have N5:=J G5;have N0:=J G2;have AQ:=J C0;have M6:=J I1;have AX:=J C7;clear D0 i4 U2 L4 T7 K8 C7 G5 G2 C0 I1 f1 f2 S3 p1 p2;go_wp2_with fail;rw[<-AX.o];go_meet;exact⟨A5,c5,some ⟨w5,0,none⟩,1,rfl,AQ,N5,J (fun _=>⟨_,rfl,rfl,N0.o,O⟩),M6⟩
 obtain⟨A5,c5,Ax,cx,rfl,K6,D7,S0,R5⟩:=hcut;clear C5 M9 T9;go_upto_block 2 with fail
 go_cut [11,14] from 146 to 158 (fun c11 c14 wx=>∃(A6:Option Addr) (c6:Nat),c11=.slice A6 (I++(l.map aZ).flatten).length c6∧Hq (Bs wx C (.slice A6 (I++(l.map aZ).flatten).length c6) (I++(l.map aZ).flatten))∧Hq (aS wx C 139 #[U,D,V,.slice none 0 0,.slice Ax eN cx,.int .i64 0,.bool false,.bool false])∧Hq (y=true->∃gb,Ax=some ⟨gb,0,none⟩∧cx=1∧aS wx gb 3 #[.int .i64 (I:Int)]∧C<gb)∧Hq (Below C w2 wx))
 case first=>
  go_wp2_with fail;go_loopw [11,14] (fun bv iv wr=>∃(k:Nat) (A6:Option Addr) (n6 c6:Nat),k<=rs∧iv=.int .i64 k∧bv=.slice A6 n6 c6∧Hq (n6=(I++((l.take k).map aZ).flatten).length)∧Hq (Bs wr C (.slice A6 n6 c6) (I++((l.take k).map aZ).flatten))∧Hq (aS wr C 139 #[U,D,V,.slice none 0 0,.slice Ax eN cx,.int .i64 0,.bool false,.bool false])∧Hq (y=true->∃gb,Ax=some ⟨gb,0,none⟩∧cx=1∧aS wr gb 3 #[.int .i64 (I:Int)]∧C<gb)∧Hq (Below C w2 wr)) (fun _ iv _=>rs.length-(intOf iv).toNat)
  case atStart=>exact⟨0,A5,I,c5,Nat.zero_le _,rfl,rfl,J σ,J (by simpa using K6.o),D7,S0,R5⟩
  obtain⟨k,A6,n6,c6,G,rfl,rfl,E7,j6,C4,R8,m7⟩:=hrel;by_cases l8:k<rs;rotate_left
  ·obtain rfl:k=rs:=O
   have P7:¬(rs:Int)<(rs:Int):=O;have hn:=E7.o;have hv:=j6.o;rw[<-N7.o,List.take_length] at hn hv;have E8:=J hn;have AT:=J hv;clear hn hv E7 j6;go_wp2;go_meet;exact⟨A6,c6,by rw[E8.o],by rw[<-E8.o];exact AT,C4,R8,m7⟩
  obtain⟨x,hx⟩:=eX (rs[k]);have R4:x∈rs:=by rw[hx];exact lX l8
  have Z4:=l4.o x R4;have O5:=fun q hq=>by
   have f:=(HE.o q hq).1;exact(m7.o.block q O).trans (l9.o.block q f)
  have CR:=m7.o.size;have BL:=(E9.o.2 x R4).b1 (w' :=wr) O O5;obtain⟨Aq,cq,Y4,BV,BW,Y3⟩:=BL;have CC:=(HM.o.c7 x.e (by rw[HL.o];exact mF.2 ⟨x,R4,rfl⟩)).b;have Z:∀i,i<4->∀u,(dU x)[i]? =some u->wr.cell? ⟨eb,eo+k*4+i,none⟩=some u:=fun i hi u hu=>by
   obtain⟨b',o',e,f,_,hc⟩:=E9.o.1 (by rw[aN];omega);injection e with e
   injection e with e1 e2 _
   subst e1 e2;rw[Nat.add_assoc];exact(mK (w:=w) (a:=(eb,eo+(k*4+i))) (O5 eb f)).trans (hc (k*4+i) u (by rw[bM _ l8 hi,<-hx];exact hu))
  have e0:wr.cell? (eb,eo+k*4)=some (.int .i64 x.e.ix):=Z 0 O _ rfl;have e1:=Z 1 O _ rfl;have e2:=Z 2 O _ rfl;have e3:wr.cell? (eb,eo+k*4+3)=some (.slice Aq x.e.b cq):=Z 3 O _ (by rw[<-Y4];rfl);obtain⟨pc,Q3⟩:=eX (aZ x.e);have U8:=wY x.e.ix x.e.tm x.e.kd Aq x.e.b cq Z4.2.1 Z4.2.2 CC wr Y3.rd;have I3:Calls Tryz.prog 125 #[.agg #[x.e.ix,x.e.tm,x.e.kd,.slice Aq x.e.b cq]] wr (fun e w' =>∃A c,e=.returned (.slice A pc c)∧Rd w' w' A (cells pc)∧Below wr wr w'):=by
   refine U8.mono ?_;rintro e w' ⟨v,f,H,Q⟩;obtain⟨A,c,hv,_,_,h4⟩:=bF H;have BU:aZ ⟨x.e.ix,x.e.tm,x.e.kd,x.e.b⟩=pc:=by rw[Q3]
   rw[BU] at hv h4;exact⟨A,c,by rw[f,hv],h4,Q⟩
  have Q9:(l.take (k+1)).map aZ=(l.take k).map aZ++[pc]:=by
   have W5:k<l:=by rw[N7.o];exact l8
   have f:l[k]=x.e:=by
    have H:l[k]? =some x.e:=by rw[HL.o,List.getElem?_map,lW l8,<-hx];rfl
    rw[lW W5] at H;exact Option.some.inj H
   rw[List.take_succ_eq_append_getElem W5,mE,f,Q3];rfl
  have CM:n6+pc<=20000000000:=by
   have f:=wS (l:=l) (k+1);rw[Q9,List.flatten_append,lT] at f;have H:([pc]:List (List UInt8)).flatten.length=pc.length:=by simp
   have Q:=O0.o;rw[E7.o,lT];omega
  have P7:(k:Int)<(rs:Int):=O;have BQ:0<=(k:Int)∧(k:Int)<(rs:Int):=O;obtain⟨X,hX⟩:=eX (I++((l.take k).map aZ).flatten);have R2:=j6.o;rw[<-hX] at R2;have X9:n6=X:=by rw[hX];exact E7.o
  have R9:=J I3;have j6:=J R2;have E8:=J X9;have AP:=J Q9;have AY:=J hX;clear hx U8 I3 R2 X9 Z Y3 Y4 BV BW Q3 Q9 hX O5 E7;go_wp2_with fail;refine R9.o.mono ?_;rintro e w5 ⟨Ap,cp,rfl,Y5,i4⟩;have Y7:=i4.size;have D0:=Own.a1 j6.o i4 (lR _);have K6:=J D0;have AJ:=J Y5;have n8:=J i4;clear D0 Y5 i4 R9 e0 e1 e2 e3;go_wp2_with (at_builtin;go_must (refine aP rfl (.tmp 152) (.tmp 157) 34 rfl C 5 (.int .u8 0) 1 Tryz.underlying34 bJ rfl (.slice A6 n6 c6) (cells X) rfl K6.o w5.heap.size Ap pc.length cp (cells pc) rfl (by rw[aB]) AJ.o (by intro u hu;obtain⟨b,_,rfl⟩:=mF.1 hu;rfl) (by rw[aB,<-E8.o];unfold maxLen;omega) (by rw[aB,<-E8.o];omega) O ?_;intro v7 w7 Y0 V5 _;have S9:=J Y0;have K5:=J V5;clear Y0 V5));have C0:Bs w7 C v7 (X++pc):=by
   have f:=S9.o;rw[<-bV] at f;exact f
  obtain⟨A7,c7,R3,_,_,_⟩:=bF C0;subst R3;have M2:=aU j6.o C4.o δ;have G5:=(C4.o.a1 n8.o C4.o.lt).grown K5.o (fun e=>M2 e.symm);have G2:y=true->∃gb,Ax=some ⟨gb,0,none⟩∧cx=1∧aS w7 gb 3 #[.int .i64 (I:Int)]∧C<gb:=fun hf=>by
   obtain⟨gb,f,H,Q,h4⟩:=R8.o hf;exact⟨gb,f,H,(Q.a1 n8.o Q.lt).grown K5.o (fun e=>aU j6.o Q δ e.symm),h4⟩
  have I1:=(m7.o.trans (n8.o.mono O)).grown K5.o O (fun q hq=>(mL j6.o q hq).1);have O9:X++pc=I++((l.take (k+1)).map aZ).flatten:=by rw[AP.o,AY.o,List.flatten_append,List.append_assoc];simp
  obtain⟨n7,Q2⟩:=eX ((X++pc).length);rw[<-Q2] at C0⊢;have Z0:Bs w7 C (.slice A7 n7 c7) (I++((l.take (k+1)).map aZ).flatten):=by rw[<-O9];exact C0
  have X8:n7=(I++((l.take (k+1)).map aZ).flatten).length:=by rw[<-O9];exact Q2
  have AS:=J Z0;have AF:=J X8;have N5:=J G5;have N0:=J G2;have M6:=J I1;clear Z0 X8;clear C0 G5 G2 I1 O9 Q2 S9 K5;go_wp2;go_roundw
  case rel=>exact⟨k+1,A7,n7,c7,O,by go_num,rfl,AF,AS,N5,N0,M6⟩
  case measure=>simp[intOf];omega
 obtain⟨A6,c6,rfl,j6,D8,N2,m7⟩:=hcut;clear K6 D7 S0 R5;obtain⟨B,O4⟩:=eX (I++(l.map aZ).flatten);have CG:B.length<=10000000060:=by rw[O4,lT];have:=O0.o;omega
 have X1:∀m (R:m<j.b0.length),(j.b0[m].ahead D).b2<=j.b0[m].b2:=fun m R=>by
  have H:=(HI.o.h5 _ (lX R)).1;exact H.le_ _ (mO (iP (H.ahead D).ne))
 obtain⟨ss,kr,s,tl,CE,Y9,hK,B9,I7,I8,M2,Q8⟩:=bA1 AB.o S8.o S6.o K4.o o8.o M8.o D1.o S1.o X1 (fun s hs=>(HI.o.h5 s hs).2.2) (by rw[<-g9.o];exact U4);rw[<-O4] at B9 Q8 j6⊢;obtain⟨r,hr⟩:=eX (cF ((fI j N).map (fun s=>aQ.rm (aE s.k))++tl) d);have K0:=Q8 r hr;have I2:=l9.o.trans (m7.o.mono Z1);have CQ:=I2.size;have O8:=HO.o.a1 I2;have k0:=D8.o.c 0;have j0:=O8.jb.c 0;have C6:=HH.o.a1 I2;have g8:=rK C6.c8 (by rw[C6.fs];have:=N9.o.sz;omega) (ω1 ((kR N9.o C6.fs).2.1));rw[C6.fs] at g8;obtain⟨f2,q8⟩:=eX (d.room-bC d.fs);rw[<-q8] at g8;obtain⟨fx,M5⟩:∃x,IntKind.i64.wrap (f2+fa)=x:=⟨_,rfl⟩
 have U7:d.free=f2:=q8.symm;have O1:=J K0;have AC:=J C6;have T0:=J O8;have M7:=J I2;have D3:=J g8;have R6:=J U7;have AO:=J Y9;have S4:=J hK;have O2:=J B9;have n9:=J I7;have N4:=J I8;have AG:=J M2;have HR:=J hr;clear Q8 K0 I2 O8 C6 g8 q8 U7 Y9 hK B9 I7 I8 M2 hr O4 X1;by_cases hbig:999999999<s.k
 ·have J0:y=true:=by
   cases hf:y with
   |true=>rfl
   |false=>have:=N4.o hf;omega
  have V3:999999999<U:=by rw[<-n9.o J0];exact hbig
  have AH:=J (O1.o.trans (if_pos hbig));subst J0;go_wp2;go_ret;exact j9.o _ _ _ _ 1 _ _ _ T0.o D6.o (cP j d l) (by rw[AH.o,<-D5.o])
 have J8:=O1.o.trans (if_neg hbig);have p5:=J J8;clear J8 O1;have I9:y=true->¬999999999<U:=fun hf=>by rw[<-n9.o hf];exact hbig
 go_upto_region 30 with fail
 go_cut [164] from 159 to 164 (fun c164 wx=>c164=.bool false∧wc=wx)
 case first=>
  cases hfc:y with
  |false=>
   subst hfc;go_wp2;go_meet;exact⟨rfl,rfl⟩
  |true=>
   have h9:=I9 hfc;subst hfc;go_wp2;go_meet;exact⟨rfl,rfl⟩
 obtain⟨rfl,hw⟩:=hcut;subst hw;clear I9;go_wp2_with fail;refine D3.o.mono ?_;rintro e w8 ⟨rfl,CA⟩;subst CA;by_cases hroom:fx<(B:Int)
 ·have AI:=J (p5.o.trans (if_pos (by rw[R6.o,M5];exact hroom)))
  go_wp2;go_ret;exact j9.o _ _ _ _ 52 _ _ _ T0.o D6.o (cP j d l) (by rw[AI.o,<-D5.o])
 have J9:=p5.o.trans (if_neg (by rw[R6.o,M5];exact hroom));have G0:=J J9;clear J9 p5;have Z2:=M7.o.size;have hj:aL9 wc base g gj (fun k=>F k∨(w.heap.size<=k∧k<wc.heap.size)) d j vL es:=by
  have f:=AC.o;refine⟨f.c8,f.fs,f.jn.mono (fun k G=>.inl G),fun k G=>?_,f.lo⟩;rcases G with G|G
  exact f.apart k G;exact⟨ω1 f.lo,G.2,O,fun e=>ω1 ((HH.o.c8.lt k e).2)⟩
 have l7:=fun k G=>M7.o.block k (HE.o k G).1
 have V0:=D8.o;have U0:∀s∈j.b0,pW s:=fun s hs=>⟨(HI.o.h5 s hs).1.len,(HI.o.h5 s hs).1.inc⟩
 have B8:∀t∈j.b0,t.l.length<=100000000000∧t.a7.length=t.l+1∧(0<=t.b2∧t.b2<=1000000000000)∧1<=t.k∧t.k<=999999999:=fun t T=>by
  have f:=(HI.o.h5 t T).1;have:=f.cnt;have:=f.j4;have:=f.b2;exact⟨O,f.len,⟨O,O⟩,(HI.o.h5 t T).2⟩
 have Y8:y=true->xZ wc (fun k=>F k∨(w.heap.size<=k∧k<wc.heap.size)) ⟨⟨U,D,V,[],eN⟩,false,0,false,none,0,Ax,cx,[]⟩:=fun hf=>by
  have j8:=D1.o;rw[if_pos hf] at j8;obtain⟨gb,f,H,Q,h4⟩:=N2.o hf;have l8:=Q.lt;have L5:eN.length=1:=by rw[j8];rfl
  refine⟨⟨by show _<=U∧U<=_;omega,by show 0<=D∧D<=_;omega,s9,(fun e he=>by cases he),fun m R=>?_⟩,⟨lR _,Nat.zero_le _,?_,?_⟩,?_,rfl,(fun x hx=>by cases hx),?_,?_⟩;have X6:m∈eN:=R;rw[j8] at X6;rw[lY.1 X6];omega;show eN<=cx
  omega;show cx<=maxLen
  unfold maxLen;omega;exact fun M=>absurd M (by simp[aG])
  show dM wc _ Ax (eN.map (Value.int .i64))
  intro _;refine⟨gb,0,f,.inr ⟨O,l8⟩,l8,fun i u hu=>?_⟩;have hi:i=0:=by
   have:=(List.getElem?_eq_some_iff.1 hu).1;rw[lU] at this;omega
  subst hi;rw[j8] at hu;have h5:=Q.c 0;rw[Nat.zero_add,h5];exact hu;show false=eN.isEmpty
  rw[j8];rfl
 have J7:∀t∈(if y=true then ss++[(⟨U,D,V,[],eN⟩:aH)] else ss),t.l.length<=100000000000∧t.a7.length=t.l+1∧(0<=t.b2∧t.b2<=1000000000000)∧1<=t.k∧t.k<=999999999:=by
  have J6:∀t∈ss,t.l.length<=100000000000∧t.a7.length=t.l+1∧(0<=t.b2∧t.b2<=1000000000000)∧1<=t.k∧t.k<=999999999:=fun t T=>by
   rcases S4.o with⟨_,f,_⟩|⟨Z6,s1,f,_,_,H⟩
   rw[f] at T;cases T;rw[H] at T;have V7:∀x∈Z6++[s1],x∈j.b0:=fun x hx=>by rw[<-f] at hx;exact mO hx
   rcases mB.1 T with T|T
   exact B8 t (V7 t (by simp[T]));obtain rfl:=lY.1 T;have Q:=HI.o.h5 s1 (V7 s1 σ);have h4:=Q.1.ahead D;have:=h4.cnt;have:=h4.j4;have:=h4.b2;exact⟨O,h4.len,⟨O,O⟩,Q.2⟩
  intro t T;cases hfc:y with
  |false=>
   rw[hfc] at T;simp only[Bool.false_eq_true,if_false] at T;exact J6 t T
  |true=>
   rw[hfc] at T;simp only[if_true] at T;rcases mB.1 T with T|T
   exact J6 t T;obtain rfl:=lY.1 T;have j8:=D1.o;rw[if_pos hfc] at j8;have CI:¬999999999<U:=by rw[<-n9.o hfc];omega
   have X3:(⟨U,D,V,[],eN⟩:aH).b2=(I:Int):=by show eN.getLastD 0=_;rw[j8];rfl
   refine⟨Nat.zero_le _,by show eN.length=0+1;rw[j8];rfl,⟨by rw[X3];omega,by rw[X3];omega⟩,by show 1<=U;omega,by show U<=_;omega⟩
 have Z3:=aR1 (E:=fun k=>E k∨(w.heap.size<=k∧k<wc.heap.size)) hj C3.o.symm N9.o O (ω1 HI.o.len) (fun s hs=>(HI.o.h5 s hs).2) N (by rw[<-g9.o];exact U4) lg y ⟨U,D,V,[],eN⟩ 0 false false none Ax 0 cx A6 B c6 (eb,eo) rs cr tl CE r HR.o D ss U0 (fun s hs=>(B8 s hs).1) S4.o Y8 AG.o.symm ((E9.o.1.b1 Z2 l7).mono (fun k G=>.inl G)) (fun x hx=>((E9.o.2 x hx).b1 Z2 l7).mono (fun k G=>.inl G)) (dM.e1 j6.o (fun k f H=>.inr ⟨O,H⟩)) (fun k G=>by
  rcases G with G|G
  have f:=HE.o k G;exact⟨O,f.2⟩;exact⟨G.2,O,fun e=>ω1 ((HH.o.c8.lt k e).2)⟩) BK (by obtain⟨A9,c9,BY,f,H,_⟩:=bF j6.o;injection BY with _ _ Q;rw[Q];exact⟨f,H⟩) O J7 (fun x hx=>⟨(l4.o x hx).1,(l4.o x hx).2.1,(l4.o x hx).2.2,(HM.o.c7 x.e (by rw[HL.o];exact mF.2 ⟨x,hx,rfl⟩)).b⟩) (by rw[<-HL.o];have:=O0.o;omega) O (cP j d l) (fun M=>by rw[G0.o,if_neg M]) (fun Z6 s1 f=>by
  have H:=AO.o.symm.trans f;have Q:=List.append_inj' H rfl;obtain⟨Q,h4⟩:=Q;injection h4 with h4 _
  rw[<-Q,<-h4,<-HL.o];exact⟨O2.o,fun M=>by rw[G0.o,if_pos M,M]⟩)
 have T4:=J Z3;obtain⟨x0,x1,x2,x3,x4,x5,x6,x7⟩:=fN V0;clear Z3 hj l7 V0 U0 B8 Y8 J7 k0 j0;go_wp2_with fail;refine T4.o.mono ?_;rintro e w9 h9;have T6:=h9.from_ (F:=F) M7.o (fun k G=>G.imp id (fun h=>h.1));obtain⟨rfl,_⟩:=h9;have Z7:=J T6;clear T6 T4;go_wp2;go_ret;exact Z7.o
def pJ(re:Int):List aQ:=if re=0 then[.rm aJ] else[]
def iI(re:Int)(p:List UInt8):List aQ:=pJ re++[.app aJ p,.sync aJ,.ren]
theorem xB{j:bQ}{d:DkD}{t v:Int}(a:j.bad=0)(h:¬(t<0∨v<0)):bP j d t v=if d.free+(d.read aJ).1.length<(gR t v).length then(52,j,d) else
  ((cF (iI (d.read aJ).2 (gR t v)) d).1,if(cF (iI (d.read aJ).2 (gR t v)) d).1=0 then⟨t,v,j.b0,0⟩ else {j with bad:=(cF (iI (d.read aJ).2 (gR t v)) d).1},(cF (iI (d.read aJ).2 (gR t v)) d).2):=by
 unfold bP;rw[if_neg (by rw[a];simp),if_neg h];rfl
theorem tP{w:World}{base g m gj:Nat}{F:Nat->Prop}{d:DkD}{j:bQ}{es:List (Nm×FE)}(h:aT8 w base g m gj F d j es)(J6:base<=w){L:Nat}(N5:gP L d)(hL:L<=100000000000)(hE:∀X,Below base w X ->aM0 X)
  (t v:Int) (ht:I6 t) (hv:I6 v):
  Calls Tryz.prog 16 #[(gj,0),t,v] w fun e X =>vK w base g m gj es F (bP j d t v) e X :=by
 obtain⟨sv,E5,m8⟩:=h.jn.turn;have l7:=J m8;have P6:=E5.lt;obtain⟨jb,J7⟩:=eX j.bad;rw[<-J7] at E5;have D1:=J J7;obtain⟨y,G4⟩:=eX (w.alloc (.cells #[(gj,0)] 30));have D9:=bN G4;have E6:=kN G4;have J1:=E5.a1 D9 P6;have b0:=E6.c 0;have j4:=J1.c 4;have p4:=J D9;have B:=J E6;have I3:=J J1;have r:=J h;have D3:=J N5;have HE:=J hE;have M2:=J G4;have HT:=J ht;have HV:=J hv;have J9:=D9.size;have D:=E6.lt;clear h N5 hE G4 D9 E6 J1 E5 J7 m8 ht hv;go_enter Tryz.func16,Tryz.ntmps16;go_upto_region 1 with fail
 rw[<-M2.o];by_cases hb:jb=0;rotate_left
 ·have P2:=bne_iff_ne.2 hb
  have A:=J (show bP j d t v=(jb,j,d) by unfold bP;rw[if_pos (by rw[<-D1.o];exact hb),D1.o]);clear hb;go_wp2;go_ret;exact r.o.same p4.o A.o
 subst hb;by_cases u:t<0∨v<0
 ·have A:=J (show bP j d t v=(1,j,d) by unfold bP;rw[if_neg (by rw[<-D1.o];simp),if_pos u])
  by_cases l:t<0
  ·clear u
   go_wp2;go_ret;exact r.o.same p4.o A.o
  have f:=u.resolve_left l;clear u;go_wp2;go_ret;exact r.o.same p4.o A.o
 have l:¬t<0:=fun h=>u (.inl h)
 have f:¬v<0:=fun h=>u (.inr h)
 have l6:=J (xB (d:=d) D1.o.symm u);clear u;have J5:=bA y (.cells #[t,v] 3);have K3:∀n∈[t,v],I6 n:=by
  intro n hn;rcases List.mem_cons.1 hn with rfl|hn
  exact HT.o;obtain rfl:=lY.1 hn;exact HV.o
 have HN:=J (uW (y,0) [t,v] 2 (y.alloc (.cells #[t,v] 3)) ((cS y 3 [t,v]).more σ) K3 σ);have Q2:=J5.size;have K5:=J J5;have N4:(dL [t,v]).length<=20:=fK (z:=[t,v]) K3;have I5:=J N4;clear J5 K3 N4;go_wp2_with fail;refine HN.o.mono ?_;rintro e w2 ⟨v2,rfl,N9,J2⟩;obtain⟨A2,c2,rfl,k1,k2,k3⟩:=bF N9;have N7:=J2.size;have K6:=J (qL A2 (dL [t,v]) c2 w2 k3 (ω1 I5.o));have K4:=J (K5.o.trans (J2.mono Q2));clear N9 J2 k3 HN K5;go_wp2_with fail;refine K6.o.mono ?_;rintro e w3 ⟨v3,rfl,C6,J3⟩;change eR w3 w2 v3 (gR t v) at C6;obtain⟨p,hp⟩:=eX (gR t v);rw[<-hp] at C6 l6;have R3:p.length<=1048600:=by rw[hp];exact dF (ω1 I5.o)
 obtain⟨A3,c3,rfl,p1,p2,_⟩:=C6.b3;have R4:=J3.size;have B1:=J (K4.o.trans (J3.mono O));have L8:=J (C6.mono (by omega:w.heap.size<=w2));have L2:=J (r.o.a1 (p4.o.trans (B1.o.mono J9)));have O2:=J (tL (pw:=d.pw) (room:=d.room) (es:=es) (L:=L) (by rw[DkD.h9 d r.o.fs];exact D3.o));have q8:=uQ L2.o.c8 ⟨#[109,101,116,97,46,110,101,119]⟩ (by show 8<=_;omega) (fun q hq=>ω1 (O2.o.1 q hq));rw[DkD.h9 d r.o.fs] at q8;change Calls _ _ _ w3 (fun e X =>∃v,e=.returned (.tuple #[v,.int .i64 (d.read aJ).2])∧Bs X w3 v (d.read aJ).1∧Below w3 w3 X) at q8;have p9:((d.read aJ).1.length:Int)<=bC d.fs:=aQ3;obtain⟨rd,re,N6⟩:∃rd re,d.read aJ=(rd,re):=⟨_,_,rfl⟩
 rw[N6] at q8 l6 p9;dsimp only at q8 l6 p9;have M1:=J q8;have O8:=J p9;have b3:=(B.o.a1 B1.o D).c 0;have j3:=(I3.o.a1 B1.o O).c 3;clear hp C6 J3 q8 p9 N6 K6 K4 b0 j4 I5;go_wp2_with fail;refine M1.o.mono ?_;rintro e w4 ⟨v4,rfl,O0,J4⟩;obtain⟨A4,c4,rfl,q1,q2,_⟩:=bF O0;have p5:=J (B1.o.trans (J4.mono O));have D4:=J (L8.o.a1 J4 (lR _));have K0:=p5.o.size;clear O0 J4 M1 B1 L8 L2 b3 j3;go_upto_if 43 with fail
 go_cut [8] from 42 to 48 (fun dv wx=>∃(C:Value) (vs:List Value),dv=C∧y.heap.size<=wx∧vs.length<=1∧Hq (Below y y wx)∧Hq (eR wx w (.slice A3 p c3) p)∧Hq (kS wx (fun _=>False) w gj g C vs (pJ re)))
 case first=>
  by_cases h0:re=0
  ·subst h0
   have b4:=(B.o.a1 p5.o D).c 0;go_wp2_with fail;refine(show Calls _ _ _ w4 _ from uV (gj:=gj) (g:=g) aJ δ w4).mono ?_;rintro e w6 ⟨v6,rfl,E8,⟨Y,Z,rfl⟩,C7,C2⟩;have N8:=E8.size;have l4:=(lS w6 w6).alloc (lR _) (.cells #[.func (.func Y) #[] Z] 98);have N2:=(C2 (EG (fun _=>False) w w6) (fun x l f=>.inr ⟨O,f,C7 x l f⟩));obtain⟨Q,R⟩:=EG.a1 (G:=fun _=>False) (nE:=w.heap.size) l4 ⟨fun _ h=>h.elim,O⟩;have O4:=J ((N2.b1 l4.size Q).mono R);have Q1:=l4.size;have p6:=J (p5.o.trans ((E8.alloc N8 (.cells #[.func (.func Y) #[] Z] 98)).mono O));have P0:=J (D4.o.a1 (E8.alloc N8 (.cells #[.func (.func Y) #[] Z] 98)) (lR _));have g8:=cS w6 98 [.func (.func Y) #[] Z];have D6:=J g8;clear E8 C2 C7 l4 N2 Q R g8 b4 p5 D4;go_wp2_with (at_builtin;go_must (refine aP rfl (.tmp 44) (.tmp 47) 110 rfl w.heap.size 98 .nilFunc 8 Tryz.underlying110 iV rfl _ [] rfl (Own.nil _ _ _) (w6.heap.size+1) (some ⟨w6.heap.size,0,none⟩) 1 1 [.func (.func Y) #[] Z] rfl rfl D6.o (by simp[Value.oneCell']) (by unfold maxLen;simp) σ O ?_;intro v8 w8 m6 M9 P4;have O7:=J m6;have I2:=J M9;clear m6 M9 P4));go_meet;have V:Below (w6.alloc (.cells #[.func (.func Y) #[] Z] 98)).heap.size (w6.alloc (.cells #[.func (.func Y) #[] Z] 98)) w8:=(lS _ _).grown I2.o (lR _) (fun k b=>by cases b);refine⟨_,[.func (.func Y) #[] Z],rfl,ω1 I2.o.size,σ,J (p6.o.trans (V.mono O)),J (P0.o.a1 V (lR _)),J ?_⟩;exact kS.push (al:=[]) kS.nil ⟨fun _ h=>h.elim,O⟩ O4.o rfl I2.o O7.o
  have R1:(re==0)=false:=by simpa using h0
  have N3:pJ re=[]:=by unfold pJ;rw[if_neg h0]
  have O5:=J N3;clear h0 N3;go_wp2;go_meet;exact⟨_,[],rfl,K0,σ,p5,D4,J (by rw[O5.o];exact kS.nil)⟩
 obtain⟨Q8,Q6,m5,P8,Q5,B6,L9,K8⟩:=hcut;have o9:=m5.symm;clear m5;subst o9;clear p5 D4;have G5:=J (p4.o.trans (B6.o.mono J9));have L3:=J (r.o.a1 G5.o);have E9:=tI L3.o.c8 (by rw[r.o.fs];have:=D3.o.sz;omega);rw[r.o.fs] at E9;have J8:=r.o.c8.num;have Q4:=D3.o.sz;have P7:=dD d.fs;have p9:=O8.o;have M8:DkD.free d=d.room-bC d.fs:=rfl;rw[M8] at l6;obtain⟨fr,C4⟩:=eX (d.room-bC d.fs);rw[<-C4] at E9 l6;have R2:-4611686018427387904<=fr∧fr+rd<=9223372036854775807:=O;have p7:=J E9;have b7:=(B.o.a1 B6.o D).c 0;have j7:=(I3.o.a1 B6.o O).c 3;clear E9 J8 Q4 P7 p9 M8 C4;have S0:IntKind.i64.wrap (fr+rd)=fr+rd:=mH _ O;go_wp2_with fail;refine p7.o.mono ?_;rintro e w8 ⟨rfl,V⟩;have R5:=V.size;have G8:=J (B6.o.trans (V.mono O));have I7:=J (L9.o.a1 V (lR _));have I0:=J (K8.o.a1 V ⟨fun _ h=>h.elim,O⟩);have G6:=J (G5.o.trans (V.mono O));clear V p7 B6 L9 K8 G5 b7 j7 L3;by_cases H:fr+rd<(p:Int)
 ·have A:=J (l6.o.trans (if_pos H))
  go_wp2;go_ret;exact r.o.same G6.o A.o
 have A:=J (l6.o.trans (if_neg H));clear l6;go_upto_region 12 with fail
 go_cut [8] from 60 to 68 (fun dv wx=>∃(C:Value) (vs:List Value),dv=C∧y.heap.size<=wx∧Hq (Below y y wx)∧Hq (kS wx (fun _=>False) w gj g C vs (iI re p)))
 case first=>
  have m9:=J (G8.o.drew);have O9:=J (I7.o.a1 (lS _ w8).drew (lR _));have U:=J (I0.o.a1 (lS _ w8).drew ⟨fun _ h=>h.elim,O⟩);have R8:y.heap.size<=w8.drew.heap.size:=by show _<=w8.heap.size;omega
  have O6:=J (show∀k,w.heap.size<=k->k<y.heap.size->∀cs fz,y.heap[k]? ≠some (.cells cs 98 fz) from fun k l f cs fz e=>by
   have h3:y.heap.size=w+1:=by rw[M2.o];simp
   obtain rfl:k=w:=O;have h4:=e.symm.trans B.o;injection h4 with h4
   injection h4 with _ h4 _
   exact absurd h4 δ)
  have b9:=(B.o.a1 m9.o D).c 0;clear G8 I7 I0 G6;refine wp_region_held_drew (S:=fun W=>W.cell? ⟨w,0,none⟩=some (.pointer (some ⟨gj,0,none⟩))∧True∧True∧True) κ ⟨b9,trivial,trivial,trivial⟩ (fun a=>?_);refine zT 0 (k:=zT 1 (k:=zT 2 (k:=zT 4 (k:=zT 6 (k:=?_)))));simp only[zA,zB,zF,zG,zC,zD,zE];refine zV 3 (k:=fun K s=>?_);simp only[zA,zB];go_simp;refine(show Calls _ _ _ w8.drew _ from aJ3 (gj:=gj) (g:=g) aJ δ p A3 c3 p1 O w8.drew).mono ?_;rintro e wa ⟨vP,rfl,C3,⟨I,N,rfl⟩,C8,l8⟩;have Q3:=C3.size;have G9:=J (m9.o.trans (C3.mono O));have D5:=J (O9.o.a1 C3 (lR _));have K9:=J (U.o.a1 C3 ⟨fun _ h=>h.elim,O⟩);change _<=_ at Q3;have L4:=J (l8 (EG (fun _=>False) w wa) (fun x l f=>.inr ⟨O,f,C8 x l f⟩) (D5.o.rdG (lR _)));have ba:=(B.o.a1 G9.o D).c 0;clear l8 C8 C3;go_wp2_with fail;refine s.out _ _ ⟨ba,trivial,trivial,trivial⟩ (fun a=>?_);clear s K;try simp only[zF,zG,zC,zD,zE]
  refine zV 5 (k:=fun K s=>?_);simp only[zA,zB];go_simp;refine(show Calls _ _ _ wa _ from tO (gj:=gj) (g:=g) aJ δ wa).mono ?_;rintro e wb ⟨vS,rfl,o8,⟨M,P,rfl⟩,C9,l9⟩;have R7:=o8.size;have D0:=J (G9.o.trans (o8.mono O));have M0:=J (D5.o.a1 o8 (lR _));clear D5;have D5:=M0;clear M0;have L0:=J (K9.o.a1 o8 ⟨fun _ h=>h.elim,O⟩);obtain⟨Q,R⟩:=EG.a1 (G:=fun _=>False) (nE:=w.heap.size) o8 ⟨fun _ h=>h.elim,O⟩;have L5:=J ((L4.o.b1 o8.size Q).mono R);have L6:=J (l9 (EG (fun _=>False) w wb) (fun x l f=>.inr ⟨O,f,C9 x l f⟩));have bb:=(B.o.a1 D0.o D).c 0;clear l9 C9 o8 Q R L4 ba K9 G9;go_wp2_with fail;refine s.out _ _ ⟨bb,trivial,trivial,trivial⟩ (fun a=>?_);clear s K;try simp only[zF,zG,zC,zD,zE]
  refine zV 7 (k:=fun K s=>?_);simp only[zA,zB];go_simp;have g8:=cS wb 98 [Value.func (.func I) #[] N,.func (.func M) #[] P,.func (.func 70) #[] #[(w,0)]];have m3:=bA wb (.cells #[.func (.func I) #[] N,.func (.func M) #[] P,.func (.func 70) #[] #[(w,0)]] 98);have Q1:=m3.size;have B7:=J (L0.o.a1 m3 ⟨fun _ h=>h.elim,O⟩);have p6:=J (D0.o.trans (m3.mono O));have N0:fH wb (EG (fun _=>False) w wb) gj g (.func (.func 70) #[] #[(w,0)]) .ren:=⟨w,rfl,EG.fresh (B.o.a1 D0.o D) (lR _) δ,bb⟩;obtain⟨Q,R⟩:=EG.a1 (G:=fun _=>False) (nE:=w.heap.size) m3 ⟨fun _ h=>h.elim,O⟩;have j9:∀i (h:i<[Value.func (.func I) #[] N,.func (.func M) #[] P,.func (.func 70) #[] #[(w,0)]].length) (h' :i<[aQ.app aJ p,.sync aJ,.ren].length),fH (wb.alloc (.cells #[.func (.func I) #[] N,.func (.func M) #[] P,.func (.func 70) #[] #[(w,0)]] 98)) (EG (fun _=>False) w (wb.alloc (.cells #[.func (.func I) #[] N,.func (.func M) #[] P,.func (.func 70) #[] #[(w,0)]] 98))) gj g [Value.func (.func I) #[] N,.func (.func M) #[] P,.func (.func 70) #[] #[(w,0)]][i] [aQ.app aJ p,.sync aJ,.ren][i]:=fun i h h' =>by
   have hi:i<3:=h;rcases(by omega:i=0∨i=1∨i=2) with rfl|rfl|rfl
   exact(L5.o.b1 m3.size Q).mono R;exact(L6.o.b1 m3.size Q).mono R;exact(N0.b1 m3.size Q).mono R
  have t9:=J j9;have D6:=J g8;have bA:(wb.alloc (.cells #[.func (.func I) #[] N,.func (.func M) #[] P,.func (.func 70) #[] #[(w,0)]] 98)).cell? (w,0)=some (.pointer (gj,0)):=(B.o.a1 p6.o D).cell 0;have O1:w.heap.size<=(wb.alloc (.cells #[.func (.func I) #[] N,.func (.func M) #[] P,.func (.func 70) #[] #[(w,0)]] 98)).heap.size:=O;clear g8 m3 N0 Q R j9 L5 L6 L0 D0 bb;refine s.out _ _ ⟨bA,trivial,trivial,trivial⟩ (fun a=>?_);clear s K;try simp only[zF,zG,zC,zD,zE]
  refine zV 8 (k:=fun K s=>?_);simp only[zA,zB];rw[if_pos (by rfl)];refine fS (.tmp 60) (.tmp 67) 110 rfl w 98 .nilFunc 8 Tryz.underlying110 iV rfl _ Q6 rfl B7.o.own (wb.heap.size+1) (wb,0) 3 3 [Value.func (.func I) #[] N,.func (.func M) #[] P,.func (.func 70) #[] #[(w,0)]] rfl rfl D6.o (by simp[Value.oneCell']) μ O O1 ?_;intro vq wq m7 G3 P5;have R9:=G3.size;have P1:=J (kS.j9 (bl:=[.app aJ p,.sync aJ,.ren]) B7.o ⟨fun _ h=>h.elim,O1⟩ rfl t9.o (by simp[Value.oneCell']) G3 m7);have M7:Below y (wb.alloc (.cells #[.func (.func I) #[] N,.func (.func M) #[] P,.func (.func 70) #[] #[(w,0)]] 98)) wq:=(lS _ _).grown G3 O (fun k b=>by have l:=B7.o.own.lt k b;obtain⟨cs,hc⟩:=cT B7.o.own b;rcases Nat.lt_or_ge k y with f|f;exact absurd (p6.o.block k f▸hc) (O6.o k l.1 f cs _);exact f);have K7:=J (p6.o.trans M7);have bq:=(B.o.a1 K7.o D).c 0;clear m7 G3 P5 M7 bA B7 t9 D6 p6;refine s.out _ _ ⟨bq,trivial,trivial,trivial⟩ (fun a=>?_);clear s K;try simp only[zF,zG,zC,zD,zE]
  refine zT 9 (k:=?_);simp only[zA,zB,zF,zG,zC,zD,zE];refine wpAnyH_done κ ?_ _;clear bq a;go_wp2;go_meet;exact⟨_,_,rfl,O,K7,P1⟩
 obtain⟨Q9,Q7,m5,R6,m9,U⟩:=hcut;have o9:=m5.symm;clear m5;subst o9;clear G8 I7 I0 G6;obtain⟨al,E7⟩:=eX (iI re p);have j9:al.length<=4:=by rw[E7];unfold iI pJ;split<;>simp
 have P3:cO al<=1048601:=by rw[E7];unfold iI pJ;split<;>simp[cO,aQ.cost]<;>omega
 rw[<-E7] at U A;obtain⟨Ad,cd,m5,_,_,_⟩:=U.o.own.b3;rw[U.o.len] at m5;subst m5;have G7:=J (p4.o.trans (m9.o.mono J9));have O3:=J (r.o.a1 G7.o);have s9:=J (lQ (E:=fun k=>w.heap.size<=k∧k<wc.heap.size) O3.o.c8 (I3.o.a1 m9.o O) r.o.lo Ad Q7 al cd (dM.e1 U.o.own (fun k l f=>⟨l,f⟩)) U.o.len (fun k h h' =>(U.o.e5 k h h').mono (fun x hx=>by
  rcases hx with hx|hx
  exact hx.elim;exact⟨hx.1,hx.2.1⟩)) (fun k b=>⟨b.2,fun hf=>ω1 ((r.o.c8.lt k hf).2),O⟩) (fun X hb' =>HE.o X ((G7.o.mono J6).trans hb')) (L:=L) (by rw[DkD.h9 d r.o.fs];exact D3.o) O O)
 rw[DkD.h9 d r.o.fs] at s9;obtain⟨rc,d3,hR⟩:∃rc d3,cF al d=(rc,d3):=⟨_,_,rfl⟩
 rw[hR] at s9 A;dsimp only at s9 A;have b9:=(B.o.a1 m9.o D).c 0;clear hR E7 P3 j9;go_wp2_with fail;refine s9.o.mono ?_;rintro e w9 ⟨rfl,D8,C0,C1,f9,j8,C5⟩;have Q0:=j8.size;have n9:=j8.h4 (B.o.a1 m9.o D) (by
  rintro(l|l);have:=(r.o.c8.lt _ l).2;omega;omega)
 have J0:=(Fr.b9 _ G7.o).trans j8 (fun j hj=>.inl hj);have M4:=n9.c 0;have j0:=f9.c 0;have j4:=f9.c 4;have z0:w9.frozen? (gj,0)=false:=f9.a6 _;have I9:=J n9;have p7:=J J0;have i6:=J C0;have B9:=J C1;have n8:=J f9;have n5:=J (show∀k,aI g m D8 k->aI g m es k∨w.heap.size<=k from fun k b=>(C5 k b).imp id (fun l=>O));have T:=J (show∀k,F k->w9.heap[k]? =w.heap[k]? ∧k<w.heap.size∧k≠gj∧¬aI g m D8 k from fun k b=>by
  have l:=r.o.apart k b;refine⟨J0.block k l.2.1 (by rintro(f|f);exact l.2.2.2 f;exact l.2.2.1 f),l.2.1,l.2.2.1,fun hf=>?_⟩;rcases n5.o k hf with f|f
  exact l.2.2.2 f;omega)
 clear C0 C1 f9 j8 C5 n9 J0 s9 U b9;by_cases hz:rc=0;rotate_left
 ·have P2:(rc==0)=false:=by simpa using hz
  have I8:=J (A.o.trans (by rw[if_neg hz]:_=(rc,({j with bad:=rc}:bQ),d3)));have L7:=J r.o.jn.num;clear A hz;go_wp2;go_ret;exact r.o.j2 (es2:=D8) (F' :=F) p7.o i6.o B9.o n5.o (l7.o w9 j.c6 j.h7 rc p7.o.size (fun k b=>(T.o k b).1) n8.o L7.o.1 L7.o.2) (fun k b=>⟨.inl b,ω1 (T.o k b),(T.o k b).2.2.1,(T.o k b).2.2.2⟩) J6 I8.o
 subst hz;have I8:=J (A.o.trans (by rw[if_pos rfl]:_=((0:Int),(⟨t,v,j.b0,0⟩:bQ),d3)));clear A;go_upto_region 14 with fail
 refine wp_region_held_drew (S:=fun W=>W.cell? ⟨w,0,none⟩=some (.pointer (some ⟨gj,0,none⟩))∧True∧True∧True) κ ⟨M4,trivial,trivial,trivial⟩ (fun a=>?_);refine zT 0 (k:=zT 1 (k:=zT 2 (k:=zT 3 (k:=zT 4 (k:=zT 5 (k:=zT 6 (k:=?_)))))));simp only[zA,zB,zF,zG,zC,zD,zE];refine zV 7 (k:=fun K s=>?_);simp only[zA,zB];go_simp;have G0:=aA w9 gj 0 t;have B8:=J (n8.o.b8 0 t);have M5:=I9.o.grown G0 (by intro e;injection e with e;omega);have I1:=J G0;have D7:=J M5;have P9:=G0.size;clear G0 M5 M4 j0 j4 z0;generalize hw1:(w9.setCell (gj,0) t)=wa at I1 B8 D7 P9⊢;clear hw1;have ba:=D7.o.c 0;have ja:wa.drew.cell? (gj,1)=some (.int .i64 j.h7):=B8.o.cell 1;have za:wa.drew.frozen? (gj,1)=false:=B8.o.a6 _;refine s.out _ _ ⟨ba,trivial,trivial,trivial⟩ (fun a=>?_);clear s K;try simp only[zF,zG,zC,zD,zE]
 refine zT 8 (k:=zT 9 (k:=zT 10 (k:=?_)));simp only[zA,zB,zF,zG,zC,zD,zE];refine zV 11 (k:=fun K s=>?_);simp only[zA,zB];go_simp;have G2:=aA wa gj 1 v;have I4:=J (B8.o.b8 1 v);have M6:=D7.o.grown G2 (by intro e;injection e with e;omega);have L1:=J (aF I1.o G2 (.inl rfl));have M3:=J M6;have N7:=G2.size;clear G2 M6 ba ja za I1 B8 D7;generalize hw2:(wa.setCell (gj,1) v)=wb at L1 I4 M3 N7⊢;clear hw2;have bb:=M3.o.c 0;have S1:wb.drew.cell? (gj,4)=some (.int .i64 0):=I4.o.cell 4;refine s.out _ _ ⟨bb,trivial,trivial,trivial⟩ (fun a=>?_);clear s K;try simp only[zF,zG,zC,zD,zE]
 refine wpAnyH_done κ ?_ _;clear a;go_wp2;go_ret;have p8:=aF L1.o (aT (lS _ wb).drew (some gj)) (.inl rfl);refine r.o.j2 (es2:=D8) (F' :=F) (p7.o.trans (Fr.e2 (mine:=fun k=>k=gj) p8 (fun k e=>by injection e with e;exact e.symm)) (fun k b=>.inl (.inr b))) (i6.o.b1 p8.size (fun k b=>p8.block k (i6.o.lt k b).2 (fun e=>by injection e with e;subst e;exact i6.o.e3 n8.o δ δ δ b))) B9.o n5.o (l7.o wb.drew t v 0 (ω1 p8.size) (fun k b=>(p8.block k (ω1 (T.o k b)) (fun e=>by injection e with e;exact(T.o k b).2.2.1 e)).trans (T.o k b).1) I4.o HT.o HV.o) (fun k b=>⟨.inl b,ω2 (T.o k b) p8.size,(T.o k b).2.2.1,(T.o k b).2.2.2⟩) J6 I8.o
structure nY(W0 w:World)(base g m gj:Nat)(F:Nat->Prop)(k:Nat)(d:DkD)(j:bQ)(es:List (Nm×FE)):Prop where
 jn:aT8 w base g m gj F d j es
 ri:RI j d
 rb:RB k j d
 low:W0<=base
 bw:base<=w
 from_:Below W0 W0 w
 facts:nH W0
theorem pU.l2{w:World}{F:Nat->Prop}{gj g:Nat}{j:bQ}(h:pU w F gj g j):∀s∈j.b0,gU s:=fun s e=>by
 obtain⟨⟨A,c,a,f,k,l,m,b⟩,_⟩:=h;obtain⟨i,d,rfl⟩:=List.getElem_of_mem e;exact(b i O d).rd.num
section
variable{W0 w w' :World}{base g m gj k:Nat}{F:Nat->Prop}{d:DkD}{j:bQ}{es:List (Nm×FE)}
theorem nY.fac(h:nY W0 w base g m gj F k d j es):∀w',Below base w w' ->nH w' :=fun w' a=>h.facts.a1 (h.from_.trans (a.mono h.low))
theorem nY.a1(h:nY W0 w base g m gj F k d j es)(a:Below w w w'):nY W0 w' base g m gj F k d j es:=
 ⟨h.jn.a1 a,h.ri,h.rb,h.low,mM h.bw a.size,h.from_.trans (a.mono (mM h.low h.bw)),h.facts⟩
def uM(W0 w:World)(base g m gj k:Nat)(es:List (Nm×FE))(r:Int×bQ×DkD)(e:Ending)(w' :World):Prop:=
 e=.returned r.1∧(∃es' F',nY W0 w' base g m gj F' k r.2.2 r.2.1 es')∧Fr (fun x=>aI g m es x∨x=gj) w w'
theorem nY.to(h:nY W0 w base g m gj F k d j es){r:Int×bQ×DkD}{e:Ending}(p:vK w base g m gj es F r e w')(i:RI r.2.1 r.2.2)(f:RB (k+1) r.2.1 r.2.2):uM W0 w base g m gj (k+1) es r e w' :=by
 obtain⟨n,c,b,o,a,_,_⟩:=p;have l:=a.a1 h.bw (fun x hx=>by
  rcases hx with hx|hx
  exact(h.jn.c8.lt x hx).1;rw[hx];exact h.jn.lo)
 exact⟨n,⟨c,b,o,i,f,h.low,mM h.bw a.size,h.from_.trans (l.mono h.low),h.facts⟩,a⟩
theorem nY.jdk(h:nY W0 w base g m gj F k d j es)(a:k<=90):gP 100000000000 d:=h.rb.dk.mono (ω1 (aY2 a))
theorem aN6:∀(rs:List EntR),rs.length<=(rs.map fun q=>q.e.b.length+5).sum
 |[]=>Nat.zero_le _
 |q::r=>by
  have:=aN6 r;rw[mG,List.sum_cons,mC];omega
theorem aG0(h:nY W0 w base g m gj F k d j es)(G:k<=80){E:Nat->Prop}(f:Option Addr)(rs:List EntR)(l:Nat)(s:dM w E f (aG rs))(p:∀q∈rs,gQ w E q.v q.e.b)(o:∀k,E k->k<w.heap.size)(C:(rs.map fun q=>q.e.b.length+5).sum<=1048576)
  (a8:∀q∈rs,(I6 q.e.ix)∧(I6 q.e.tm)∧(I6 q.e.kd)):
  Calls Tryz.prog 15 #[(gj,0),.slice f rs l] w fun e w' =>uM W0 w base g m gj (k+1) es (cP j d (rs.map EntR.e)) e w' :=by
 have a:=h.ri.pre h.rb (by omega:k<=90);have B:=aN6 rs;have r:((rs.map EntR.e).map aZ).flatten.length<=12600000:=by
  have u:=sL (rs.map EntR.e) (fun e i=>by
   obtain⟨q,c,rfl⟩:=mF.1 i;exact⟨(a8 q c).2.1,(a8 q c).2.2⟩)
  have x:(((rs.map EntR.e).map fun e=>e.b.length+5).sum)=(rs.map fun q=>q.e.b.length+5).sum:=by rw[List.map_map];rfl
  rw[x] at u;omega
 refine(aF2 h.jn h.bw (h.jdk O) O (fun w' z=>(h.fac w' z).tab) a.h5 a.ks a.b2 a.a7 f rs l s p o O O a8).mono fun e w' A=>?_
 refine h.to A ?_ (h.rb.save _ h.jn.jn.l2 (fun e i=>?_) (by rw[lU];omega) r);obtain⟨H,n,t⟩:=d;exact(bK4 (by have:=h.jn.c8.num.2.2;exact this) (by have y:=h.rb.dk.sz;have:=aY2 (show k<=90 by omega);have D:bC t<=(rbD k:Int):=y;omega) h.ri _).1;obtain⟨q,c,rfl⟩:=mF.1 i;exact(a8 q c).1.2
theorem aK4(h:nY W0 w base g m gj F k d j es)(i:k<=80)(t v:Int)(b:I6 t)(c:I6 v):
  Calls Tryz.prog 16 #[(gj,0),t,v] w fun e w' =>uM W0 w base g m gj (k+1) es (bP j d t v) e w' :=
 (tP h.jn h.bw (h.jdk O) O (fun w' f=>(h.fac w' f).tab) t v b c).mono fun e w' a=>h.to a (aL1 h.ri t v).1 (h.rb.setMeta t v b c)
theorem aN5{n:Nat}:∀(ss:List aH),(∀s∈ss,s.l<=n)->((ss.map aH.l).flatten).length<=ss*n
 |[],_=>by simp
 |s::r,h=>by
  have a:=aN5 r (fun x hx=>h x (List.mem_cons_of_mem _ hx));have b:=h s (List.mem_cons_self ..);rw[mG,List.flatten_cons,lT,mC,Nat.succ_mul];omega
end
def bZ5:DkD:=⟨⟨false,false,0,0⟩,1000,[]⟩
def cC5:bQ:=⟨0,0,[],0⟩
def cG4:List cD:=[⟨1,1,0,[97]⟩,⟨2,1,0,[98]⟩]
def cG5:List cD:=[⟨2,2,0,[99]⟩]
def cE5:Int×bQ×DkD:=cP cC5 bZ5 cG4
def cE6:Int×bQ×DkD:=cP cE5.2.1 cE5.2.2 cG5
def cC7:Int×bQ×DkD:=bP cE6.2.1 cE6.2.2 3 1
def cD2:DkD:=cC7.2.2.j8 []
def cD4:Int×Option bQ×DkD:=eB cD2
def cD3:bQ:=cD4.2.1.getD cC5
theorem bD3:cE5.1=0∧cE6.1=0∧cC7.1=0∧cD4.1=0:=⟨by kernel_rfl,by kernel_rfl,by kernel_rfl,by kernel_rfl⟩
theorem bT5:cD4.2.1=some cD3:=by
 have h:cD4.2.1.isSome=true:=by kernel_rfl
 unfold cD3;cases hq:cD4.2.1 with
 |none=>rw[hq] at h;cases h
 |some x=>rfl
theorem aA5:cD3.c6=3∧cD3.h7=1∧cD3.c7.length=2∧(cD3.c7[1]?).map cD.b=some [99]:=⟨by kernel_rfl,by kernel_rfl,by kernel_rfl,by kernel_rfl⟩
theorem cC6:eB bZ5=(0,some cC5,bZ5):=by kernel_rfl
theorem cG3{room:Int}:RI cC5 ⟨⟨false,false,0,0⟩,room,[]⟩:=⟨rfl,⟨rfl,rfl⟩,(fun s a=>by cases a),List.Pairwise.nil⟩
theorem cG2{room:Int}:RB 0 cC5 ⟨⟨false,false,0,0⟩,room,[]⟩:=⟨⟨by simp[bC,rbD],by simp[rbD],fun q a=>by cases a⟩,by simp[cC5],fun s b=>by cases b⟩
theorem qI{w W:World}(o:Obj)(a:Below (w.heap.size+1) (w.alloc o) W):W.heap[w.heap.size]? =some o:=(a.block _ O).trans (Go.heap_alloc_new w o)
theorem pH{w W:World}(a o:Obj)(b:Below (w.heap.size+1+1) ((w.alloc a).alloc o) W):W.heap[w.heap.size+1]? =some o:=by
 have e:(w.alloc a).heap.size=w+1:=by simp
 have h:=qI (w:=w.alloc a) (W:=W) o (by rw[e];exact b);rwa[e] at h
theorem aI9{w W:World}(a b o:Obj)(c:Below (w.heap.size+1+1+1) (((w.alloc a).alloc b).alloc o) W):W.heap[w.heap.size+1+1]? =some o:=by
 have e:(w.alloc a).heap.size=w+1:=by simp
 have h:=pH (w:=w.alloc a) (W:=W) b o (by rw[e];exact c);rwa[e] at h
theorem cC3:gP 1000000000 cD2:=by
 have a:cD2.fs.all (fun q=>decide (q.1.length<=1000))=true:=by kernel_rfl
 exact⟨of_decide_eq_true κ,of_decide_eq_true κ,fun q b=>of_decide_eq_true (List.all_eq_true.1 a q b)⟩
theorem qT{w:World}{b:Nat}{T:TypeId}{cs:Array Value}{a:Nat×Nat}(h:w.heap[b]? =some (.cells cs T a)){F:Nat->Prop}(c:F b):dM w F (b,0) cs.toList:=fun _=>
 ⟨b,0,rfl,c,(Array.getElem?_eq_some_iff.1 h).1,fun j u d=>by rw[Nat.zero_add,Go.cell_of_row w b j cs T a h,<-Array.getElem?_toList];exact d⟩
theorem aW7(a:World)(hF:nH a):Calls Tryz.prog 7 #[] a fun e m =>e=.returned (.bool true)∧Below a a m :=by
 have B:=J hF;clear hF;have kc:=fun(w:World) (C:Array Value) (n c:Nat)=>Lib.run_convert_bytes_const (P:=Tryz.prog) w 34 5 C n c Tryz.underlying34 Tryz.underlying5
 go_enter Tryz.func7,Tryz.ntmps7;go_wp2_with fail;refine(aN1 1000 O a).mono ?_;rintro e w1 ⟨rfl,hD,z⟩;have B6:aV w1 a (a.heap.size+1) a bZ5.pw bZ5.room []:=hD;have Z:=J z;have D6:=z.size;have s:=J (uX B6 (L:=1000) ⟨by simp[bC,bH,bI],by simp[bH,bI],fun q g=>by cases g⟩ O D6 (fun m G=>⟨(B.o.a1 (Z.o.trans G)).tab,(B.o.a1 (Z.o.trans G)).err⟩));have j:bH bZ5.pw bZ5.room []=bZ5:=rfl;rw[j,cC6] at s;clear z hD B6 j;go_wp2_with fail;refine s.o.mono ?_;rintro e d ⟨D,B7,C2,K,o9,y⟩;simp only at y;obtain⟨t,F,rfl,I0,hJ,n8⟩:=y;have C8:=K.a1 D6 (fun x hx=>by
  rcases hx with h|h|⟨q,g,_⟩
  omega;omega;cases g)
 have s9:Hq (nY a d a (a.heap.size+1) a t F 0 bZ5 cC5 D):=J ⟨⟨B7,C2,hJ,fun x hx=>⟨ω1 ((n8 x hx).1),(n8 x hx).2⟩,O⟩,cG3,cG2,lR _,ω1 K.size,Z.o.trans C8,B.o⟩;have I2:=K.size;clear B7 C2 K o9 hJ n8 C8 s;have G8:(convert 34 34 (.slice (some ⟨d.heap.size+1,0,none⟩) 1 1)).run Tryz.prog ((d.alloc (.cells #[.int .u8 97] 5 (1,2))).alloc (.cells #[.int .u8 98] 5))=.ok (.slice (some ⟨d.heap.size+1,0,none⟩) 1 1) ((d.alloc (.cells #[.int .u8 97] 5 (1,2))).alloc (.cells #[.int .u8 98] 5 (1,2))):=by
  have h:=kc (d.alloc (.cells #[.int .u8 97] 5 (1,2))) #[.int .u8 98] 1 1;have e:(d.alloc (.cells #[.int .u8 97] 5 (1,2))).heap.size=d+1:=by simp
  rw[e] at h;exact h
 go_wp2_with fail;obtain⟨r,u⟩:=eX (((d.alloc (.cells #[.int .u8 97] 5 (1,2))).alloc (.cells #[.int .u8 98] 5 (1,2))).alloc (.cells #[.int .i64 1,.int .i64 1,.int .i64 0,.slice (d,0) 1 1,.int .i64 2,.int .i64 1,.int .i64 0,.slice (some ⟨d.heap.size+1,0,none⟩) 1 1] 65));have D0:Below d d r:=by rw[u];exact(((lS _ d).alloc (lR _) _).alloc σ _).alloc (by simp<;>omega) _
 have C4:r.heap[d.heap.size]? =some (.cells #[.int .u8 97] 5 (1,2)):=by rw[u];exact qI _ (((lS _ _).alloc σ _).alloc (by simp<;>omega) _)
 have C5:r.heap[d.heap.size+1]? =some (.cells #[.int .u8 98] 5 (1,2)):=by rw[u];exact pH _ _ ((lS _ _).alloc σ _)
 have C6:r.heap[d.heap.size+1+1]? =some (.cells #[.int .i64 1,.int .i64 1,.int .i64 0,.slice (d,0) 1 1,.int .i64 2,.int .i64 1,.int .i64 0,.slice (some ⟨d.heap.size+1,0,none⟩) 1 1] 65):=by rw[u];exact aI9 _ _ _ (lS _ _)
 have J0:r.heap.size=d+3:=by rw[u];simp
 rw[<-u];have H:Hq (Calls Tryz.prog 15 #[(t,0),.slice (some ⟨d.heap.size+1+1,0,none⟩) 2 2] r fun e m =>uM a r a (a.heap.size+1) a t 1 D cE5 e m):=J (aG0 (s9.o.a1 D0) O (E:=fun x=>x<r.heap.size) (some ⟨d.heap.size+1+1,0,none⟩) [⟨.slice (d,0) 1 1,⟨1,1,0,[97]⟩⟩,⟨.slice (some ⟨d.heap.size+1,0,none⟩) 1 1,⟨2,1,0,[98]⟩⟩] 2 (qT C6 O) (fun q g=>by
   simp only[List.mem_cons,List.not_mem_nil,or_false] at g;rcases g with rfl|rfl
   exact⟨_,_,rfl,lR _,σ,qT C4 O⟩;exact⟨_,_,rfl,lR _,σ,qT C5 O⟩) (fun _ h=>h) σ (fun q g=>by
   simp only[List.mem_cons,List.not_mem_nil,or_false] at g;rcases g with rfl|rfl<;>simp[I6]))
 clear u D0 C4 C5 C6 G8 s9;refine H.o.mono ?_;rintro e i ⟨j,⟨E7,F3,C0⟩,l5⟩;rw[bD3.1] at j;subst j;have t9:=J C0;have I3:=l5.size;clear C0 l5 H;go_wp2_with fail;obtain⟨v,A⟩:=eX ((i.alloc (.cells #[.int .u8 99] 5 (1,2))).alloc (.cells #[.int .i64 2,.int .i64 2,.int .i64 0,.slice (i,0) 1 1] 65));have D1:Below i i v:=by rw[A];exact((lS _ i).alloc (lR _) _).alloc σ _
 have C7:v.heap[i.heap.size]? =some (.cells #[.int .u8 99] 5 (1,2)):=by rw[A];exact qI _ ((lS _ _).alloc σ _)
 have z:v.heap[i.heap.size+1]? =some (.cells #[.int .i64 2,.int .i64 2,.int .i64 0,.slice (i,0) 1 1] 65):=by rw[A];exact pH _ _ (lS _ _)
 have J1:v.heap.size=i+2:=by rw[A];simp
 rw[<-A];have H:Hq (Calls Tryz.prog 15 #[(t,0),.slice (some ⟨i.heap.size+1,0,none⟩) 1 1] v fun e m =>uM a v a (a.heap.size+1) a t 2 E7 cE6 e m):=J (aG0 (t9.o.a1 D1) O (E:=fun x=>x<v.heap.size) (some ⟨i.heap.size+1,0,none⟩) [⟨.slice (i,0) 1 1,⟨2,2,0,[99]⟩⟩] 1 (qT z O) (fun q g=>by
   obtain rfl:=lY.1 g;exact⟨_,_,rfl,lR _,σ,qT C7 O⟩) (fun _ h=>h) σ (fun q g=>by
   obtain rfl:=lY.1 g;simp[I6]))
 clear A D1 C7 z t9;refine H.o.mono ?_;rintro e w4 ⟨j,⟨E8,F4,C1⟩,l6⟩;rw[bD3.2.1] at j;subst j;have I4:=l6.size;have B1:Hq (Calls Tryz.prog 16 #[(t,0),.int .i64 3,.int .i64 1] w4 fun e m =>uM a w4 a (a.heap.size+1) a t 3 E8 cC7 e m):=J (aK4 C1 O 3 1 O O);clear C1 l6 H;go_wp2_with fail;refine B1.o.mono ?_;rintro e w5 ⟨j,⟨E9,F5,l⟩,l7⟩;rw[bD3.2.2.1] at j;subst j;have I5:=l7.size;have N:=l.jdk O;have Q:∀q∈E9,(q.1,q.2.f)∈cC7.2.2.fs:=fun q g=>by rw[<-l.jn.fs];exact mF.2 ⟨q,g,rfl⟩
 have n9:=aE1 l.jn.c8 none [] 0 Rd.none_ (fun n hn=>by cases hn) σ (by have h:=congrArg List.length l.jn.fs;simp[bI] at h;have:=N.len;omega) (fun q g=>by have p:=fR (Q q g);have h2:=N.sz;have h3:(q.2.f.b.length:Int)<=bC cC7.2.2.fs:=p;omega) (fun q g=>by have p:q.1.length<=1000:=N.nm _ (Q q g);omega);rw[DkD.h9 _ l.jn.fs] at n9;have p7:=J n9;have E6:=J (fun k W=>(l.jn.c8.lt k W).1);have p6:=J l.from_;have o8:=l.bw;clear l l7 B1 n9 N Q;go_wp2_with fail;refine p7.o.mono ?_;rintro e w6 ⟨⟨v6,rfl⟩,G0,n5,C3,T,p4⟩;have I7:=T.size;have m7:=J (p6.o.trans (T.a1 o8 E6.o));have S:bH (cC7.2.2.j8 []).pw (cC7.2.2.j8 []).room G0=cD2:=DkD.h9 cD2 C3;have s:=J (uX n5 (L:=1000000000) (by rw[S];exact cC3) (lR _) O (fun m G=>⟨(B.o.a1 (m7.o.trans G)).tab,(B.o.a1 (m7.o.trans G)).err⟩));rw[S] at s;have m8:=J (fun k W=>(n5.lt k W).1);clear n5 C3 S T p4 p7 p6;go_wp2_with fail;refine s.o.mono ?_;rintro e w7 ⟨G9,G3,G4,U,p5,y⟩;have l8:eB cD2=cD4:=rfl;rw[l8,bT5,bD3.2.2.2] at y;simp only at y;obtain⟨gk,F7,rfl,I1,B9,B8⟩:=y;have I8:=U.size;have q8:=J B9;have p9:=J B8;have D8:=J (m7.o.trans (U.a1 O m8.o));clear G3 G4 U p5 B9 B8 s l8;have m9:=J q8.o.meta_;rw[aA5.1,aA5.2.1] at m9;go_wp2_with fail;refine m9.o.mono ?_;rintro e w8 ⟨rfl,M⟩;have I9:=M.size;have D9:=J (D8.o.trans (M.mono O));have p8:=J ((q8.o.a1 (fun x hx=>(p9.o x hx).2.1) M).entries (fun x hx=>ω1 ((p9.o x hx).2.1)) (by rw[aA5.2.2.1];omega));clear M m9;go_wp2_with fail;refine p8.o.mono ?_;rintro e w9 ⟨v9,I,rfl,Y,X,D3,C9⟩;have G6:I.length=2:=by
  have p:=congrArg List.length X;rw[lU,aA5.2.2.1] at p;exact p
 have V:1<I.length:=O;obtain⟨A9,c9,G7,_⟩:=aK Y;subst G7;obtain⟨b,o,G2,_,G5,hc⟩:=(dM.e8 (F:=fun _=>True) Y (fun _ _ _=>trivial) (by rw[aN];omega)) (by rw[aN];omega);subst G2;have D4:I[1].e.b=[99]:=by
  have p:=aA5.2.2.2;rw[<-X,List.getElem?_map,lW V] at p;simpa using p
 have g:=D3 I[1] (lX V);rw[D4] at g;obtain⟨A1,R,D7,k1,k2,D5⟩:=bF g;have e3:w9.cell? (b,o+4+3)=some (.slice A1 1 R):=by
  have h:=hc (1*4+3) _ (by rw[bM I V O];exact rfl);rw[D7] at h;simpa[Nat.add_assoc] using h
 have J2:(convert 34 9 (.slice A1 1 R)).run Tryz.prog w9=.ok (.string ⟨#[99]⟩) w9:=kM R D5;have E5:=J (D9.o.trans (C9.mono O));rw[G6];clear Y X D3 C9 hc D4 g D7 D5 p8;go_wp2;go_ret;exact⟨rfl,E5.o⟩
def jT(w:World)(N:Nat)(q:EntR):Prop:=∃g,q.v=.slice (some ⟨g,0,none⟩) q.e.b (q.e.b.length+1)∧N<=g∧uL w g q.e.b
theorem jT.a1{w w' :World}{N:Nat}{q:EntR}(h:jT w N q)(d:Below w w w'):jT w' N q:=by
 obtain⟨g,b,c,a⟩:=h;exact⟨g,b,c,aS.a1 a d (aS.lt a)⟩
theorem jT.grown{w w' :World}{N n base:Nat}{q:EntR}{v:Value}{i:List Value}(h:jT w N q)(f:w.ownsRow base 65 4 v n i)(d:w.grownBy w' v.ownBlock):jT w' N q:=by
 obtain⟨g,b,c,a⟩:=h;exact⟨g,b,c,aS.grown a d (fun e=>aU f a δ e.symm)⟩
theorem bG9{F:Nat->Prop}(A:Option Addr)(rs:List EntR)(c:Nat)(w:World)(hr:dM w F A (aG rs))(hd:∀q∈rs,gQ w F q.v q.e.b)(hF:∀k,F k->k<w.heap.size)(hn:rs.length<=1099511627776)(hl:∀q∈rs,q.e.b.length<=1099511627776)(hc:rs<=c∧c<=maxLen):
  Calls Tryz.prog 77 #[.slice A rs c] w fun e w' =>∃v m,e=.returned v∧w'.ownsRow w 65 4 v rs (aG m)∧m.map EntR.e=rs.map EntR.e∧(∀q∈m,jT w' w q)∧Below w w w' :=by
 have HR:=J hr;have HD:=J hd;have HF:=J hF;have HL:=J hl;clear hr hd hF hl;go_enter Tryz.func77,Tryz.ntmps77;go_wp2_with fail;go_loopw [4,3,5] (fun i v _ wr=>∃(k:Nat) (g:List EntR),k<=rs∧i=.int .i64 k∧Hq (g=k)∧Hq (g.map EntR.e=(rs.take k).map EntR.e)∧Hq (wr.ownsRow w 65 4 v k (aG g))∧Hq (∀q∈g,jT wr w q)∧Hq (Below w w wr)) (fun i _ _ _=>rs.length-(intOf i).toNat)
 case atStart=>exact⟨0,[],O,rfl,J rfl,J rfl,J (World.ownsRow_nil _ _ _ _),J (fun q a=>by cases a),J (lS _ _)⟩
 obtain⟨k,g,hk,rfl,B7,n5,y,N,f⟩:=hrel;have p5:=f.o.size;obtain⟨Av,cv,hv,-,-,-⟩:=aK y.o;subst hv;by_cases l:k<rs;rotate_left
 ·obtain rfl:k=rs:=O
  go_wp2;go_ret;have h2:=n5.o;rw[List.take_length] at h2;exact⟨_,g,rfl,y.o,h2,N.o,f.o⟩
 obtain⟨s,t,rfl,_,H,u⟩:=HR.o (by rw[aN];omega);obtain⟨q,a⟩:=eX (rs[k]);have X:q∈rs:=by rw[a];exact lX l
 have p6:rs.take (k+1)=rs.take k++[q]:=by rw[a];exact List.take_succ_eq_append_getElem l
 obtain⟨M,P,o9,C2,C6,Y⟩:=HD.o q X;have C3:=HL.o q X;have r:∀j,j<4->(aG rs)[k*4+j]? =(dU q)[j]? :=fun j x=>by rw[bM _ l x,a]
 have e0:=(f.o.cell (p:=(s,t+k*4)) H).trans (u (k*4) _ (r 0 O));have e1:=(f.o.cell (p:=(s,t+k*4+1)) H).trans (u (k*4+1) _ (r 1 O));have e2:=(f.o.cell (p:=(s,t+k*4+2)) H).trans (u (k*4+2) _ (r 2 O));have e3:wr.cell? (s,t+k*4+3)=some (.slice M q.e.b P):=(f.o.cell (p:=(s,t+k*4+3)) H).trans ((u (k*4+3) _ (r 3 O)).trans (by rw[<-o9]));obtain⟨e,Q⟩:=eX q.e;rw[<-Q] at e0 e1 e2 e3 C2 Y C3;have HE:=J Q;have B8:=J p6;obtain⟨wA,K⟩:=eX (wr.alloc (.cells #[e.ix,e.tm,e.kd,.slice M e.b P] 65));have E:=bN K;have C:=kN K;have m5:=C.lt;have C5:=E.size;have b3:=C.c 3;have T:=f.o.trans (E.mono p5);have p4:=Y.b1 T.size (fun j x=>T.block j (HF.o j x));have m9:=J (bQ8 M e.b P wA p4.rd O);have C0:=J K;have p9:=J C;have p8:=J E;clear K E C T p4 Y a X p6 r u Q o9;go_upto_region 6 with fail
 rw[<-C0.o];go_wp2_with fail;refine m9.o.mono ?_;rintro e' L ⟨rfl,W,U⟩;have B:=p9.o.a1 U m5;have f3:L.cell? (wr,3)=_:=B.cell 3;have z3:L.frozen? (wr,3)=false:=B.a6 _;obtain⟨d,o8⟩:=eX wA.heap.size;rw[<-o8] at W⊢;have n:=B.b8 3 (.slice (d,0) e.b (e.b.length+1));have G:=dV (p8.o.trans (U.mono C5)) wr 3 (.slice (d,0) e.b (e.b.length+1)) (lR _);have I:uL (L.setCell ⟨wr,3,none⟩ (.slice (d,0) e.b (e.b.length+1))) d e.b:=aS.j5 W (p:=⟨wr,3,none⟩) (by show d≠wr;omega) _;obtain⟨h,Z⟩:=eX (L.setCell (wr,3) (.slice (d,0) e.b (e.b.length+1)));rw[<-Z] at n G I;have B9:=J Z;have g0:h.cell? (wr,0)=some (.int .i64 e.ix):=n.cell 0;have g1:h.cell? (wr,1)=some (.int .i64 e.tm):=n.cell 1;have g2:h.cell? (wr,2)=some (.int .i64 e.kd):=n.cell 2;have g3:h.cell? (wr,3)=some (.slice (d,0) e.b.length (e.b.length+1)):=n.cell 3;have C4:=G.size;have V:=bA h (.cells #[e.ix,e.tm,e.kd,.slice (d,0) e.b (e.b.length+1)] 65);have D:=G.trans (V.mono C4);have R:=J (f.o.trans (D.mono p5));have z:=J (bT y.o D);have B1:=J (fun q a=>(N.o q a).a1 D);have n8:jT (h.alloc (.cells #[e.ix,e.tm,e.kd,.slice (d,0) e.b (e.b.length+1)] 65)) w ⟨.slice (d,0) e.b (e.b.length+1),e⟩:=⟨d,rfl,O,aS.a1 I V (aS.lt I)⟩;have q8:=J n8;have HC:=J (dH (aS.new h 65 #[e.ix,e.tm,e.kd,.slice (d,0) e.b (e.b.length+1)]));clear n G I Z V D y N f W U B m9 b3 e0 e1 e2 e3 n8 o8;go_upto_region 7 with fail
 rw[<-B9.o];clear f3 z3;go_wp2_with (at_builtin;go_must (refine dZ rfl (.tmp 20) (.tmp 22) 40 rfl w.heap.size 65 (.agg #[.int .i64 0,.int .i64 0,.int .i64 0,.slice none 0 0]) 4 48 Tryz.underlying40 dW rfl δ _ k (aG g) rfl z.o ⟨h.heap.size,0,none⟩ 1 1 _ rfl rfl HC.o (by simp[Value.oneCell']) (by unfold maxLen;omega) O (ω1 R.o.size) ?_;intro v9 w9 a9 n9 C1;have t9:=J a9;have S:=J n9;clear a9 n9 C1));have p7:=J (Below.grown R.o S.o R.o.size (fun j x=>(mL z.o j x).1));have s9:=J (q8.o.grown z.o S.o);have B6:=J (fun q a=>(B1.o q a).grown z.o S.o);go_roundw
 case rel=>
  refine⟨k+1,g++[⟨.slice (d,0) e.b (e.b.length+1),e⟩],O,by go_num,J (by rw[lT,B7.o];rfl),J ?_,J ?_,J (fun q a=>?_),p7⟩;rw[B8.o,mE,mE,n5.o,mG,List.map_nil,mG,List.map_nil,HE.o];rw[eG];have h1:=t9.o;rw[show aG [(⟨.slice (d,0) e.b.length (e.b.length+1),e⟩:EntR)]=[.int .i64 e.ix,.int .i64 e.tm,.int .i64 e.kd,.slice (d,0) e.b.length (e.b.length+1)] from by simp[aG,dU]];exact h1;rcases mB.1 a with a|a
  exact B6.o q a;obtain rfl:=lY.1 a;exact s9.o
 case measure=>simp[intOf];omega
theorem jT.rowOk{w:World}{N:Nat}{q:EntR}(h:jT w N q)(f:q.e.b.length<=1099511627776):eU w N q.v:=by
 obtain⟨g,a,c,d⟩:=h;exact .inr ⟨g,_,_,_,a,c,d,by simp[cells],O,O⟩
theorem jT.h6{w:World}{N:Nat}{q:EntR}(h:jT w N q)(n:q.e.b.length<=1099511627776):gQ w (fun k=>N<=k∧k<w.heap.size) q.v q.e.b:=by
 obtain⟨g,f,i,c⟩:=h;have a:=aS.lt c;refine⟨_,_,f,O,O,fun m=>⟨g,0,rfl,⟨i,a⟩,a,fun j u d=>?_⟩⟩;rw[Nat.zero_add,aS.cell c];have l:=(List.getElem?_eq_some_iff.1 d).1;simp only[List.getElem?_toArray];rw[List.getElem?_append_left l];exact d
theorem zJ{w W:World}{base n c:Nat}{A:Option Addr}{rs:List EntR}(h:w.ownsRow base 65 4 (.slice A n c) rs (aG rs))(x:∀q∈rs,jT w base q)(z:∀q∈rs,q.e.b.length<=1099511627776)(u:Below w w W):
  bB5 W A (rs.map EntR.v) 0∧(∀v∈rs.map EntR.v,eU W base v)∧∀k,ovMine A (rs.map EntR.v) k->base<=k∧k<w.heap.size:=by
 obtain⟨E,F,e,_,_,t⟩:=aK h;injection e with e1 _ _
 subst e1;refine⟨fun d=>?_,fun v p=>?_,fun k i=>?_⟩;rw[lU] at d;obtain⟨g,l,rfl,r,m,C,G,s⟩:=t d;have o:aS w g 65 l:=C;refine⟨g,l,rfl,o.a1 u m,?_,fun j y _=>?_⟩;rw[lU];have a:=s (rs.length*4-1) ((aG rs)[rs.length*4-1]'(by rw[aN];omega)) (lW (by rw[aN];omega));rw[o.cell] at a;omega;rw[lU] at y;have a:=s (j*4+3) rs[j].v (by rw[bM rs y O];rfl);rw[o.cell] at a;rw[a,List.getElem_map];obtain⟨q,f,rfl⟩:=mF.1 p;have a:=(x q f).rowOk (z q f);exact a.b1 (fun g D=>u.block g (a.lt g D));rcases i with⟨d,ad,e,rfl⟩|⟨v,p,i⟩
 rw[lU] at d;obtain⟨g,l,B,r,m,_⟩:=t d;rw[B] at e;injection e with e
 subst e;exact⟨r,m⟩;obtain⟨q,f,rfl⟩:=mF.1 p;have a:=(x q f).rowOk (z q f);exact⟨a.base k i,a.lt k i⟩
theorem bG8{E:Nat->Prop}{N:Nat}(A B:Option Addr)(a rs:List EntR)(c cb:Nat)(w:World)(C:w.ownsRow N 65 4 (.slice A a c) a (aG a))(D:∀q∈a,jT w N q)(t:a.map EntR.e=rs.map EntR.e)(hr:dM w E B (aG rs))(Z:∀q∈rs,gQ w E q.v q.e.b)(X:∀k,E k->k<w.heap.size)(hn:rs.length<=1099511627776)(z:∀q∈rs,q.e.b.length<=1099511627776)(hN:N<=w):
  Calls Tryz.prog 79 #[.slice A a c,.slice B rs cb] w fun e w' =>e=.returned (.bool true)∧Below N w w' ∧Fr (ovMine A (a.map EntR.v)) w w' :=by
 have g8:a.length=rs:=by have:=congrArg List.length t;simpa using this
 have u:∀q∈a,q.e.b.length<=1099511627776:=fun q d=>by
  have h:q.e∈rs.map EntR.e:=by rw[<-t];exact mF.2 ⟨q,d,rfl⟩
  obtain⟨x,hx,r⟩:=mF.1 h;rw[<-r];exact z x hx
 have L:=uZ A B a rs c cb w (dM.e8 C (fun k h r=>⟨h,r⟩) (by rw[aN,Nat.mul_comm])) hr (fun q d=>(D q d).h6 (u q d)) Z (fun k y=>y.2) X O hn (fun q d=>ω1 (u q d)) (fun q d=>ω1 (z q d));rw[(rM _ _).2 t] at L;have n:=fun(W:World) (hW:Below w w W)=>zJ C D u hW
 have a9:=J L;have n8:=J n;have HV:=J D;have HM:=J t;have HR:=J hr;have HD:=J Z;have HE:=J X;have HL:=J z;have HO:=J C;have f8:=J g8;clear L n D t hr Z X z C g8 u;go_enter Tryz.func79,Tryz.ntmps79;go_wp2_with fail;refine a9.o.mono ?_;rintro e w1 ⟨rfl,l9⟩;have m8:=J l9;clear l9 a9;go_upto_block 0 with fail
 go_cut [5,6,7] from 11 to 37 (fun c5 c6 c7 wx=>c5=.bool true∧Hq (Below w w wx))
 case first=>
  go_wp2_with fail;go_loopw [5,6,7] (fun s i _ wr=>∃k:Nat,k<=a∧i=.int .i64 k∧s=.bool true∧Hq (Below w w wr)) (fun _ i _ _=>a.length-(intOf i).toNat)
  case atStart=>exact⟨0,Nat.zero_le _,rfl,rfl,m8⟩
  obtain⟨k,y,rfl,rfl,f⟩:=hrel;by_cases m:k<a;rotate_left
  ·obtain rfl:k=a:=O
   have o9:¬(a:Int)<(a:Int):=O;go_wp2;go_meet;exact⟨rfl,f⟩
  have j9:k<rs:=ω1 f8.o;obtain⟨U,rfl,o8,j8,m6⟩:=aZ4 HO.o O;obtain⟨Q,R,rfl,p7,n9,m5⟩:=HR.o (by rw[aN];omega);obtain⟨q,d⟩:=eX (a[k]);obtain⟨x,hx⟩:=eX (rs[k]);have m7:q∈a:=by rw[d];exact lX m
  have l7:x∈rs:=by rw[hx];exact lX j9
  have l4:q.e=x.e:=by
   have h:=congrArg (fun l=>l[k]?) HM.o;simp only[List.getElem?_map] at h;rw[lW m,lW j9,<-d,<-hx] at h;simpa using h
  obtain⟨V,l5,p4,F⟩:=HV.o q m7;obtain⟨I,M,H,l6,p6,G⟩:=HD.o x l7;rw[<-l4] at H l6 G;obtain⟨b,Y⟩:=eX q.e.b;have p8:b.length<=1099511627776:=by rw[Y,l4];exact HL.o x l7
  rw[<-Y] at l5 F H l6 G;have P:wr.cell? (U,k*4+3)=some (.slice (V,0) b (b.length+1)):=(f.o.cell (p:=(U,k*4+3)) j8).trans (m6 (k*4+3) _ (by rw[bM a m O,<-d,<-l5];rfl));have T:wr.cell? (Q,R+k*4+3)=some (.slice I b M):=(f.o.cell (p:=(Q,R+k*4+3)) n9).trans ((m5 (k*4+3) _ (by rw[bM rs j9 O,<-hx,<-H];rfl)));have n5:=J (bQ5 V I b M wr.drew wr.drew (aS.a1 F f.o.drew (aS.lt F)) ((G.b1 (w' :=wr.drew) f.o.drew.size (fun j hj=>f.o.drew.block j (HE.o j hj))).rd) O);have o9:(k:Int)<(a:Int):=O;have p9:(k:Int)<(rs:Int):=O;have q8:0<=(k:Int)∧(k:Int)<(a:Int):=O;clear d hx m7 l7 l4 l5 p4 F H l6 p6 G Y m6 m5;go_upto_region 5 with fail
  refine wp_region_held_drew (S:=fun W=>W.cell? ⟨U,k*4+3,none⟩=some (.slice (some ⟨V,0,none⟩) b (b.length+1))∧W.cell? ⟨Q,R+k*4+3,none⟩=some (.slice I b M)∧True∧True) κ ⟨P,T,trivial,trivial⟩ (fun g=>?_);refine zT 0 (k:=zT 1 (k:=zT 2 (k:=zT 3 (k:=zT 4 (k:=zT 5 (k:=zT 6 (k:=zT 7 (k:=zT 8 (k:=zT 9 (k:=?_))))))))));simp only[zA,zB,zF,zG,zC,zD,zE];refine zV 10 (k:=fun K hK=>?_);simp only[zA,zB];go_simp;refine n5.o.mono ?_;rintro e wk ⟨rfl,p5⟩;subst p5;refine hK.out _ _ ⟨P,T,trivial,trivial⟩ (fun g=>?_);clear hK K;try simp only[zF,zG,zC,zD,zE]
  refine zT 11 (k:=?_);simp only[zA,zB,zF,zG,zC,zD,zE];refine wpAnyH_done κ ?_ _;clear g P T;have m9:=J f.o.drew;go_wp2;go_roundw
  case rel=>exact⟨k+1,O,by go_num,rfl,m9⟩
  case measure=>simp[intOf];omega
 obtain⟨rfl,f⟩:=hcut;obtain⟨h,r,h3⟩:=n8.o wc f.o;have n:=aF1 A (a.map EntR.v) c N wc h r (by rw[lU];have:=f8.o;omega);rw[lU] at n;have f9:=J n;have H3:=J h3;clear h r h3 n;go_wp2_with fail;refine f9.o.mono ?_;rintro e w9 ⟨⟨v,rfl⟩,hf⟩;have m3:=(f.o.mono hN).trans (hf.a1 (ω1 f.o.size) (fun j hj=>(H3.o j hj).1));have l8:=J (And.intro m3 ((Fr.b9 (ovMine A (a.map EntR.v)) f.o).trans hf (fun k y=>.inl y)));clear hf m3 f9;go_wp2;go_ret;exact⟨rfl,l8.o.1,l8.o.2⟩
theorem aD1{w:World}{base g gj:Nat}{F:Nat->Prop}{d:DkD}{j:bQ}{vL:Value}{es:List (Nm×RF)}(h:aL9 w base g gj F d j vL es){L:Nat}(C7:gP L d)(hL:L<=100000000000)
  (t v:Int) (ht:I6 t) (hv:I6 v):
  Calls Tryz.prog 80 #[(gj,0),t,v] w fun e w' =>pV w base g gj vL es F (bP j d t v) e w' :=by
 obtain⟨sv,hO,l6⟩:=h.start;have p9:=h.jn.num;obtain⟨Q,Z⟩:=eX j.c6;obtain⟨R,l8⟩:=eX j.h7;obtain⟨jb,n5⟩:=eX j.bad;have C6:j=⟨Q,R,j.b0,jb⟩:=by rw[Z,l8,n5]
 rw[<-Z,<-l8,<-n5] at hO;rw[<-Z,<-l8] at p9;have j4:=hO.jb.c 4;have I:=J hO;have K:=J l6;have m7:=J C6;have U:=J p9;have m8:=J C7;have HT:=J ht;have HV:=J hv;have N:=J n5;have B1:=J (And.intro Z l8);clear hO l6 C6 p9 C7 ht hv Z l8 n5 h;go_enter Tryz.func80,Tryz.ntmps80;by_cases hb:jb=0;rotate_left
 ·have G7:=mN.2 hb
  have f:=J (show bP j d t v=(jb,j,d) by unfold bP;rw[if_pos (by rw[<-N.o];exact hb),<-N.o]);clear hb;go_wp2_with fail;go_ret;exact K.o _ _ _ _ jb _ _ _ I.o U.o (bP j d t v) (by rw[f.o,<-m7.o])
 subst hb;by_cases T:t<0
 ·have f:=J (show bP j d t v=(1,j,d) by unfold bP;rw[if_neg (by rw[<-N.o];simp),if_pos (.inl T)])
  go_wp2_with fail;go_ret;exact K.o _ _ _ _ 1 _ _ _ I.o U.o (bP j d t v) (by rw[f.o,<-m7.o])
 by_cases h2:v<0
 ·have f:=J (show bP j d t v=(1,j,d) by unfold bP;rw[if_neg (by rw[<-N.o];simp),if_pos (.inr h2)])
  go_wp2_with fail;go_ret;exact K.o _ _ _ _ 1 _ _ _ I.o U.o (bP j d t v) (by rw[f.o,<-m7.o])
 have E:=J (xB (d:=d) N.o.symm (fun e=>e.elim T h2));have G4:=dG _ (jO _ HT.o);have G5:=dG _ (jO _ HV.o);go_wp2_with fail;clear j4;refine(qW t HT.o _).mono ?_;rintro e w1 ⟨v1,rfl,D5,p4⟩;have D4:=p4.size;go_wp2_with fail;refine(qW v HV.o _).mono ?_;rintro e w2 ⟨v2,rfl,D6,p5⟩;obtain⟨A2,c2,rfl,_,_,D0⟩:=bF D6;have m3:=D5.a1 p5 (lR _);have l4:=p4.trans (p5.mono D4);clear D5 p4 D6 p5;go_wp2_with (at_builtin;go_must (refine nS (W:=w) rfl (.tmp 29) (.tmp 31) 34 rfl 5 (.int .u8 0) 1 Tryz.underlying34 bJ rfl v1 (cells (enc (fold1 t))) rfl w.heap.size l4 (lR _) m3 w2.heap.size A2 (enc (fold1 v)).length c2 _ rfl (aB _).symm D0 (fY _) (by rw[aB];omega) (by rw[aB];omega) ?_;intro v3 w3 h3 p6));rw[<-bV] at h3;obtain⟨X,hX⟩:=eX (enc (fold1 t)++enc (fold1 v));have G6:X.length<=100:=by rw[hX,lT];omega
 rw[<-hX] at h3;have C1:Bs w3 w v3 X:=h3;obtain⟨A3,c3,rfl,_,_,D1⟩:=bF C1;have C2:cM X=gR t v:=by rw[hX];unfold gR dL;simp
 have G9:=p6.size;have HC:=J (pM A3 X X c3 rfl w3 D1 O);have C8:(cM X).length<=1048600:=dF O;rw[C2] at HC C8;obtain⟨p,hp⟩:=eX (gR t v);rw[<-hp] at HC E C8;have B6:=J (I.o.a1 p6);clear h3 C1 D1 hX C2 m3 l4 D0 hp p6;go_wp2_with fail;refine HC.o.mono ?_;rintro e w4 ⟨v4,rfl,s9,C3⟩;obtain⟨S,c4,rfl,p1,p2,_⟩:=bF s9;have P:=J (B6.o.a1 C3);have B7:=J s9;have C4:=kR m8.o P.o.fs;have u:=sO P.o.c8 aJ O (fun q hq=>by have:=C4.1 q hq;omega);rw[qU P.o.fs] at u;change Calls _ _ #[_,.string ⟨#[109,101,116,97,46,110,101,119]⟩] w4 _ at u;have q8:((d.read aJ).1.length:Int)<=bC d.fs:=aQ3;have E9:=m8.o.sz;obtain⟨rd,re,D3⟩:∃rd re,d.read aJ=(rd,re):=⟨_,_,rfl⟩
 rw[D3] at u E q8;dsimp only at u E q8;have B9:=J u;have s:=P.o.jb.c 0;clear s9 C3 HC B6 u D3;go_wp2_with fail;refine B9.o.mono ?_;rintro e i ⟨v5,rfl,C5,p7⟩;obtain⟨A5,c5,rfl,q1,q2,_⟩:=C5.b3;have A:=J (P.o.a1 p7);have B8:=J (B7.o.a1 p7 (lR _));have p8:=rK A.o.c8 (by rw[A.o.fs];omega) O;rw[A.o.fs] at p8;have n9:=J p8;have s:=A.o.jb.c 0;have E8:=dD d.fs;have l9:=A.o.c8.num.2;obtain⟨fr,g9⟩:=eX (d.room-bC d.fs);rw[<-g9] at n9;have f9:d.free=fr:=by rw[g9];rfl
 rw[f9] at E;have G0:IntKind.i64.wrap (fr+(rd:Int))=fr+(rd:Int):=mH _ O;clear C5 p7 B9 P B7 p8 f9;go_wp2_with fail;refine n9.o.mono ?_;rintro e w6 ⟨rfl,rfl⟩;clear n9;by_cases a:fr+(rd:Int)<(p:Int)
 ·have f:=J E.o
  rw[if_pos a] at f;go_wp2_with fail;go_ret;exact K.o _ _ _ _ 52 _ _ _ A.o U.o (bP j d t v) (by rw[f.o,<-m7.o])
 have f:=J E.o;rw[if_neg a] at f;go_upto_region 9 with fail
 clear E a G0 g9 l9 E8 s;obtain⟨r,hr⟩:=eX (cF (iI re p) d);rw[<-hr] at f;have o8:=cY.start A.o.again m8.o (iI re p);rw[<-hr] at o8;have E5:=J (show dM i (fun k=>w3.heap.size<=k∧k<i.heap.size) S (cells p) from dM.e1 B8.o (fun k T h2=>⟨T,h2⟩));have D8:=J (show∀k,(w3.heap.size<=k∧k<i.heap.size)->k<i.heap.size∧k≠gj∧¬aL g vL es k from fun k hk=>by
  have T:=I.o.jb.lt;exact⟨hk.2,O,fun e=>by have:=(I.o.c8.lt k e).2;omega⟩)
 have m6:=J o8;clear o8 hr m8 N C4 E9 q8 B8 s q1 q2 D4;go_upto_if 56 with fail
 go_cut [11] from 57 to 63 (fun b wx=>∃B,b=.bool B∧Hq (cY i base g vL es gj Q R sv L r [.app aJ p,.sync aJ,.ren] B wx))
 case first=>
  by_cases x:re=0
  ·subst x
   have C0:=J (show Calls Tryz.prog 85 #[(g,0),.string ⟨#[109,101,116,97,46,110,101,119]⟩] i _ from cY.rm (n:=aJ) (rest:=[.app aJ p,.sync aJ,.ren]) m6.o O);have s:=m6.o.ptr.1;go_wp2_with fail;refine C0.o.mono ?_;rintro e w6 ⟨z,rfl,_,h6⟩;have H6:=J h6;clear h6 C0;go_wp2_with fail;refine H6.o.mono ?_;rintro e w7 ⟨G,rfl,h7⟩;have l:=J h7;clear h7 H6;go_wp2_with fail;go_meet;exact⟨G,rfl,l⟩
  have G8:=mN.2 x;have l:Hq (cY i base g vL es gj Q R sv L r [.app aJ p,.sync aJ,.ren] true i):=J (by have h:=m6.o;unfold iI pJ at h;rw[if_neg x] at h;exact h);clear x;go_wp2_with fail;go_meet;exact⟨true,rfl,l⟩
 obtain⟨B,rfl,l⟩:=hcut;clear m6;go_upto_region 12 with fail
 go_cut [11] from 64 to 75 (fun b wx=>∃B,b=.bool B∧Hq (cY i base g vL es gj Q R sv (L+(p.length+1)) r [.sync aJ,.ren] B wx))
 case first=>
  cases B with
  |false=>
   go_wp2_with fail;go_meet;exact⟨false,rfl,J (l.o.skip O)⟩
  |true=>
   have u:=l.o.rd E5.o D8.o;obtain⟨wq,n8⟩:=eX (wc.alloc (.cells #[.slice S p c4] 34));have Y:Below wc wc wq:=by rw[n8];exact(lS _ wc).alloc (lR _) _
   have C9:Rd wq wq (some ⟨wc,0,none⟩) [.slice S p c4]:=by rw[n8];exact(cS wc 34 [.slice S p c4]).more σ
   have t9:=J (show Calls Tryz.prog 11 #[(g,0),.string ⟨#[109,101,116,97,46,110,101,119]⟩,.slice (some ⟨wc,0,none⟩) 1 1] wq _ from cY.app (n:=aJ) (l.o.a1 Y) O δ (some ⟨wc,0,none⟩) S c4 C9 ((u.rd.a1 Y).more Y.size) ⟨p1,p2⟩ O);have s:=(l.o.a1 Y).ptr.1;have i0:=l.o.ptr.1;have E7:=J n8;clear u n8 Y C9;go_wp2_with fail;rw[<-E7.o];refine t9.o.mono ?_;rintro e w8 ⟨z,rfl,_,C⟩;have y:=J C;clear C t9 s i0;go_wp2_with fail;refine y.o.mono ?_;rintro e w9 ⟨G,rfl,D⟩;have H:=J D;clear D y;go_wp2_with fail;go_meet;exact⟨G,rfl,H⟩
 obtain⟨B2,rfl,H⟩:=hcut;clear l;go_upto_region 13 with fail
 go_cut [11] from 76 to 85 (fun b wx=>∃B,b=.bool B∧Hq (cY i base g vL es gj Q R sv (L+(p.length+1)) r [.ren] B wx))
 case first=>
  cases B2 with
  |false=>
   go_wp2_with fail;go_meet;exact⟨false,rfl,J (H.o.skip (lR _))⟩
  |true=>
   have V:=J (show Calls Tryz.prog 90 #[(g,0),.string ⟨#[109,101,116,97,46,110,101,119]⟩] wc _ from cY.sync (n:=aJ) H.o O);have s:=H.o.ptr.1;go_wp2_with fail;refine V.o.mono ?_;rintro e w8 ⟨z,rfl,_,C⟩;have y:=J C;clear C V s;go_wp2_with fail;refine y.o.mono ?_;rintro e w9 ⟨G,rfl,D⟩;have M:=J D;clear D y;go_wp2_with fail;go_meet;exact⟨G,rfl,M⟩
 obtain⟨B3,rfl,M⟩:=hcut;clear H;go_upto_region 14 with fail
 go_cut [11] from 86 to 95 (fun b wx=>∃B,b=.bool B∧Hq (cY i base g vL es gj Q R sv (L+(p.length+1)) r [] B wx))
 case first=>
  cases B3 with
  |false=>
   go_wp2_with fail;go_meet;exact⟨false,rfl,J (M.o.skip (lR _))⟩
  |true=>
   have V:=J (show Calls Tryz.prog 131 #[(g,0),.string ⟨#[109,101,116,97,46,110,101,119]⟩,.string ⟨#[109,101,116,97]⟩] wc _ from cY.ren M.o O);have s:=M.o.ptr.1;go_wp2_with fail;refine V.o.mono ?_;rintro e w8 ⟨z,rfl,_,C⟩;have y:=J C;clear C V s;go_wp2_with fail;refine y.o.mono ?_;rintro e w9 ⟨G,rfl,D⟩;have m5:=J D;clear D y;go_wp2_with fail;go_meet;exact⟨G,rfl,m5⟩
 obtain⟨B4,rfl,m5⟩:=hcut;clear M;obtain⟨m9,I0,G3,o9⟩:=m5.o.done;obtain⟨rc,d6⟩:=r;simp only at m9 o9;have m:=A.o.join o9;clear o9 m5;by_cases hz:rc=0
 ·subst hz
  obtain rfl:B4=true:=m9;have hA:=m.put (aA wc gj 1 _) (by have:=m.jb.b8 1 t;simpa using this);have D7:=J (hA.put (aA _ gj 2 _) (by have:=hA.jb.b8 2 v;simpa using this));have f1:=m.jb.a6 1;have f2:=m.jb.a6 2;have i1:=m.jb.c 1;have i2:=m.jb.c 2;clear m hA;go_wp2_with fail;go_ret;exact K.o _ _ _ _ 0 _ _ _ D7.o ⟨HT.o,HV.o⟩ (bP j d t v) (by rw[f.o];rfl)
 have G2:=mN.2 hz;rw[G2] at m9;subst m9;have j4:=m.jb.c 4;have D9:=J m;have E6:=J (f.o.trans (by simp only;rw[if_neg hz]));clear m hz;go_wp2_with fail;go_ret;exact K.o _ _ _ _ rc _ _ _ D9.o U.o (bP j d t v) (by rw[E6.o,B1.o.1,B1.o.2])
structure nC(w:World)(lo g m g2 sb:Nat)(d d2:DkD)(j y:bQ)(es:List (Nm×FE))(vL:Value)(rs:List (Nm×RF))(gj gy:Nat)(F E:Nat->Prop):Prop where
 jk:aT8 w lo g m gj F d j es
 yk:aL9 w lo g2 gy E d2 y vL rs
 dd:∀k,aI g m es k->¬aL g2 vL rs k
 jy:gj≠gy∧¬aL g2 vL rs gj∧¬aI g m es gy
 fe:∀k,F k->k≠gy∧¬aL g2 vL rs k
 ef:∀k,E k->k≠gj∧¬aI g m es k
 sb:(lo<=sb∧sb<w∧sb≠gj∧sb≠gy)∧(¬F sb∧¬E sb)∧¬aI g m es sb∧¬aL g2 vL rs sb
def dB(g m g2 sb:Nat)(es:List (Nm×FE))(vL:Value)(rs:List (Nm×RF))(gj gy:Nat)(F E:Nat->Prop)(k:Nat):Prop:=aI g m es k∨aL g2 vL rs k∨k=gj∨k=gy∨k=sb∨F k∨E k
section
variable{w w' :World}{lo g m g2 sb:Nat}{d d2:DkD}{j y:bQ}{es:List (Nm×FE)}{vL:Value}{rs:List (Nm×RF)}{gj gy:Nat}{F E:Nat->Prop}
theorem nC.a1(h:nC w lo g m g2 sb d d2 j y es vL rs gj gy F E)(b:Below w w w'):nC w' lo g m g2 sb d d2 j y es vL rs gj gy F E:=
 ⟨h.jk.a1 b,h.yk.a1 b,h.dd,h.jy,h.fe,h.ef,by have a:=h.sb;have:=b.size;exact⟨⟨a.1.1,O,a.1.2.2⟩,a.2⟩⟩
theorem nC.k5(h:nC w lo g m g2 sb d d2 j y es vL rs gj gy F E){k:Nat}(a:dB g m g2 sb es vL rs gj gy F E k):lo<=k∧k<w:=by
 rcases a with a|a|rfl|rfl|rfl|a|a
 exact h.jk.c8.lt k a;exact h.yk.c8.lt k a;exact⟨h.jk.lo,h.jk.jn.lt⟩;exact⟨h.yk.lo,h.yk.jn.lt⟩;exact⟨h.sb.1.1,h.sb.1.2.1⟩;exact⟨(h.jk.apart k a).1,(h.jk.apart k a).2.1⟩;exact⟨(h.yk.apart k a).1,(h.yk.apart k a).2.1⟩
theorem nC.b1(h:nC w lo g m g2 sb d d2 j y es vL rs gj gy F E)(e:w.heap.size<=w')(b:∀k,dB g m g2 sb es vL rs gj gy F E k->w'.heap[k]? =w.heap[k]?):nC w' lo g m g2 sb d d2 j y es vL rs gj gy F E:=by
 have f:=h.sb;refine⟨⟨h.jk.c8.b1 e (fun k a =>b k (.inl a)),h.jk.fs,h.jk.jn.b1 e (fun k a =>b k (.inr (.inr (.inr (.inr (.inr (.inl a))))))) (b _ (.inr (.inr (.inl rfl)))),fun k a =>?_,h.jk.lo⟩,⟨h.yk.c8.b1 e (fun k a =>b k (.inr (.inl a))),h.yk.fs,h.yk.jn.b1 e (fun k a =>b k (.inr (.inr (.inr (.inr (.inr (.inr a))))))) (b _ (.inr (.inr (.inr (.inl rfl))))),fun k a =>?_,h.yk.lo⟩,h.dd,h.jy,h.fe,h.ef,⟨⟨f.1.1,O,f.1.2.2⟩,f.2⟩⟩;have c:=h.jk.apart k a;exact⟨c.1,O,c.2.2⟩;have c:=h.yk.apart k a;exact⟨c.1,O,c.2.2⟩
theorem nC.left(h:nC w lo g m g2 sb d d2 j y es vL rs gj gy F E){r:Int×bQ×DkD}{e:Ending}(z:vK w lo g m gj es F r e w'):e=.returned r.1∧∃n l,nC w' lo g m g2 sb r.2.2 d2 r.2.1 y n vL rs gj gy l E∧Fr (fun k=>aI g m es k∨k=gj) w w' ∧∀k,dB g m g2 sb n vL rs gj gy l E k->dB g m g2 sb es vL rs gj gy F E k∨w.heap.size<=k:=by
 obtain⟨x,n,l,u,f,i,o⟩:=z;have s:=f.size;have t:=h.yk.jn.lt;have v:=fun k a=>f.block k (h.yk.apart k a).2.1 (fun e=>e.elim (h.ef k a).2 (h.ef k a).1)
 have p:∀k,aL g2 vL rs k->w'.heap[k]? =w.heap[k]? ∧k<w.heap.size:=fun k a=>⟨f.block k (h.yk.c8.lt k a).2 (fun e=>e.elim (fun e=>h.dd k e a) (fun e=>by subst e;exact h.jy.2.1 a)),(h.yk.c8.lt k a).2⟩
 have A:=f.block gy t (fun e=>e.elim h.jy.2.2 (fun e=>h.jy.1 e.symm));have c:=h.sb;refine⟨x,n,l,⟨u,⟨h.yk.c8.b1 s (fun k a=>(p k a).1),h.yk.fs,h.yk.jn.b1 s v A,fun k a=>by have b:=h.yk.apart k a;exact⟨b.1,O,b.2.2⟩,h.yk.lo⟩,fun k a q=>?_,⟨h.jy.1,h.jy.2.1,fun e=>?_⟩,fun k a=>?_,fun k a=>⟨(h.ef k a).1,fun e=>?_⟩,⟨c.1.1,O,c.1.2.2⟩,⟨fun e=>?_,c.2.1.2⟩,fun e=>?_,c.2.2.2⟩,f,fun k a=>?_⟩;rcases i k a with b|b
 exact h.dd k b q;have:=(p k q).2;omega;rcases i gy e with b|b
 exact h.jy.2.2 b;omega;rcases o k a with b|b
 exact h.fe k b;exact⟨O,fun e=>ω1 ((p k e).2)⟩;rcases i k e with b|b
 exact(h.ef k a).2 b;have:=(h.yk.apart k a).2.1;omega;rcases o sb e with b|b
 exact c.2.1.1 b;omega;rcases i sb e with b|b
 exact c.2.2.1 b;omega;rcases a with a|a|a|a|a|a|a
 exact(i k a).imp .inl id;exact .inl (.inr (.inl a));exact .inl (.inr (.inr (.inl a)));exact .inl (.inr (.inr (.inr (.inl a))));exact .inl (.inr (.inr (.inr (.inr (.inl a)))));exact(o k a).imp (fun h=>.inr (.inr (.inr (.inr (.inr (.inl h)))))) id;exact .inl (.inr (.inr (.inr (.inr (.inr (.inr a))))))
theorem nC.right(h:nC w lo g m g2 sb d d2 j y es vL rs gj gy F E){r:Int×bQ×DkD}{e:Ending}(B:pV w lo g2 gy vL rs E r e w'):e=.returned r.1∧∃o n l,nC w' lo g m g2 sb d r.2.2 j r.2.1 es o n gj gy F l ∧Fr (fun k=>aL g2 vL rs k∨k=gy) w w' ∧∀k,dB g m g2 sb es o n gj gy F l k->dB g m g2 sb es vL rs gj gy F E k∨w.heap.size<=k:=by
 obtain⟨x,o,n,l,u,f,i,q⟩:=B;have s:=f.size;have t:=h.jk.jn.lt;have C:=h.yk.jn.lt;have v:=fun k a=>f.block k (h.jk.apart k a).2.1 (fun e=>e.elim (h.fe k a).2 (h.fe k a).1)
 have p:∀k,aI g m es k->w'.heap[k]? =w.heap[k]? ∧k<w.heap.size:=fun k a=>⟨f.block k (h.jk.c8.lt k a).2 (fun e=>e.elim (fun e=>h.dd k a e) (fun e=>by subst e;exact h.jy.2.2 a)),(h.jk.c8.lt k a).2⟩
 have z:=f.block gj t (fun e=>e.elim h.jy.2.1 h.jy.1);have c:=h.sb;refine⟨x,o,n,l,⟨⟨h.jk.c8.b1 s (fun k a=>(p k a).1),h.jk.fs,h.jk.jn.b1 s v z,fun k a=>by have b:=h.jk.apart k a;exact⟨b.1,O,b.2.2⟩,h.jk.lo⟩,u,fun k a A=>?_,⟨h.jy.1,fun e=>?_,h.jy.2.2⟩,fun k a=>⟨(h.fe k a).1,fun e=>?_⟩,fun k a=>?_,⟨c.1.1,O,c.1.2.2⟩,⟨c.2.1.1,fun e=>?_⟩,c.2.2.1,fun e=>?_⟩,f,fun k a=>?_⟩;rcases i k A with b|b
 exact h.dd k a b;have:=(p k a).2;omega;rcases i gj e with b|b
 exact h.jy.2.1 b;omega;rcases i k e with b|b
 exact(h.fe k a).2 b;have:=(h.jk.apart k a).2.1;omega;rcases q k a with b|b
 exact h.ef k b;exact⟨O,fun e=>ω1 ((p k e).2)⟩;rcases q sb e with b|b
 exact c.2.1.2 b;omega;rcases i sb e with b|b
 exact c.2.2.2 b;omega;rcases a with a|a|a|a|a|a|a
 exact .inl (.inl a);exact(i k a).imp (fun h=>.inr (.inl h)) id;exact .inl (.inr (.inr (.inl a)));exact .inl (.inr (.inr (.inr (.inl a))));exact .inl (.inr (.inr (.inr (.inr (.inl a)))));exact .inl (.inr (.inr (.inr (.inr (.inr (.inl a))))));exact(q k a).imp (fun h=>.inr (.inr (.inr (.inr (.inr (.inr h)))))) id
theorem nC.of(h:aC0 w lo g m g2 d d2 es vL rs){p q:Value}(G:gX w lo g m g2 sb es vL rs (some j) (some y) p q)(o:lo<=sb∧¬aI g m es sb∧¬aL g2 vL rs sb)(H:sb<w):∃gj gy F E,p=.pointer (some ⟨gj,0,none⟩)∧q=.pointer (some ⟨gy,0,none⟩)∧nC w lo g m g2 sb d d2 j y es vL rs gj gy F E:=by
 obtain⟨gj,gy,F,E,A,B,C,D,⟨r,s,t,u,v⟩,⟨I,x,z,K⟩,c⟩:=G;refine⟨gj,gy,F,E,A,B,⟨⟨h.dk,h.fs,C,fun k b=>?_,r⟩,⟨h.rk,h.l3,D,fun k b=>?_,s⟩,h.ap,⟨v,x,z⟩,fun k b=>?_,fun k b=>?_,⟨o.1,H,fun e=>t e.symm,fun e=>u e.symm⟩,⟨fun e=>?_,fun e=>?_⟩,o.2⟩⟩;obtain⟨f,i,a,l,n⟩:=c k (.inl b);exact⟨f,i,a.1,l⟩;obtain⟨f,i,a,l,n⟩:=c k (.inr b);exact⟨f,i,a.2.1,n⟩;obtain⟨f,i,a,l,n⟩:=c k (.inl b);exact⟨a.2.1,n⟩;obtain⟨f,i,a,l,n⟩:=c k (.inr b);exact⟨a.1,l⟩;exact(c sb (.inl e)).2.2.1.2.2 rfl;exact(c sb (.inr e)).2.2.1.2.2 rfl
theorem nC.two(h:nC w lo g m g2 sb d d2 j y es vL rs gj gy F E):aC0 w lo g m g2 d d2 es vL rs:=⟨h.jk.c8,h.jk.fs,h.yk.c8,h.yk.fs,h.dd⟩
theorem nC.side(h:nC w lo g m g2 sb d d2 j y es vL rs gj gy F E):gX w lo g m g2 sb es vL rs (some j) (some y) (.pointer (gj,0)) (.pointer (gy,0)):=by
 obtain⟨A,c,l,i,_⟩:=h.yk.jn.lst;refine⟨gj,gy,F,E,rfl,rfl,h.jk.jn,h.yk.jn,⟨h.jk.lo,h.yk.lo,fun e=>h.sb.1.2.2.1 e.symm,fun e=>h.sb.1.2.2.2 e.symm,h.jy.1⟩,⟨h.jk.nj,h.jy.2.1,h.jy.2.2,h.yk.c8.e3 i δ δ δ⟩,fun k b=>?_⟩;rcases b with b|b
 have a:=h.jk.apart k b;have f:=h.fe k b;exact⟨a.1,a.2.1,⟨a.2.2.1,f.1,fun e=>h.sb.2.1.1 (e▸b)⟩,a.2.2.2,f.2⟩;have a:=h.yk.apart k b;have f:=h.ef k b;exact⟨a.1,a.2.1,⟨f.1,a.2.2.1,fun e=>h.sb.2.1.2 (e▸b)⟩,f.2,a.2.2.2⟩
end
section
variable{n B:Nat}{j:bQ}{d:DkD}
theorem PI.savePre(h:PI n B j)(f:n<=1000)(e:B<=100000000):bB6 j d:=by
 refine⟨ω1 h.len,fun s a=>(h.h5 s a).2,fun s a=>?_,fun s a=>⟨(h.h5 s a).1.ne,fun m c=>?_⟩⟩;have b:=(h.h5 s a).1;have:=b.cnt;have:=b.j4;have:=b.b2;omega;have:=(h.h5 s a).1.bound m c;omega
theorem PI.ixsOk(h:PI n B j):bB4 j:=fun s b i a=>(h.h5 s b).1.ixs i a
theorem PI.entsLen(h:PI n B j)(e:n<=1000)(a:B<=100000000):j.c7.length<=1099511627776:=by
 have c:=aN5 j.b0 (n:=B) (fun s b=>(h.h5 s b).1.cnt);have d:j.b0*B<=1000*100000000:=Nat.mul_le_mul (ω1 h.len) a;unfold bQ.c7;omega
theorem PD.jdk(h:PD n B d)(a:B<=100000000):gP 100000000 d:=h.dk.mono a
end
section
variable{w w' :World}{lo g m g2 sb:Nat}{d d2 d' :DkD}{es es' :List (Nm×FE)}{vL vL' :Value}{rs rs' :List (Nm×RF)}{oj oy:Option bQ}{vj vy:Value}
theorem gX.moved(h:gX w lo g m g2 sb es vL rs oj oy vj vy)(u:w.heap.size<=w')(q:∀k,lo<=k->k<w.heap.size->¬aI g m es k->¬aL g2 vL rs k->w'.heap[k]? =w.heap[k]?)(x:∀k,aI g m es' k->aI g m es k∨w.heap.size<=k)(v:∀k,aL g2 vL' rs' k->aL g2 vL rs k∨w.heap.size<=k):gX w' lo g m g2 sb es' vL' rs' oj oy vj vy:=by
 unfold gX at h⊢;split at h;obtain⟨i,j,F,E,o,f,c,l,p,d,s⟩:=h;have r:∀k,k<w.heap.size->¬aI g m es k->¬aI g m es' k:=fun k o f c=>(x k c).elim f (fun e=>O)
 have n:∀k,k<w.heap.size->¬aL g2 vL rs k->¬aL g2 vL' rs' k:=fun k o f c=>(v k c).elim f (fun e=>O)
 have t:=fun k a =>by have b:=s k a;exact q k b.1 b.2.1 b.2.2.2.1 b.2.2.2.2
 refine⟨i,j,F,E,o,f,c.b1 u (fun k a =>t k (.inl a)) (q i p.1 c.lt d.1 d.2.1),l.b1 u (fun k a =>t k (.inr a)) (q j p.2.1 l.lt d.2.2.1 d.2.2.2),p,⟨r i c.lt d.1,n i c.lt d.2.1,r j l.lt d.2.2.1,n j l.lt d.2.2.2⟩,fun k a =>?_⟩;have b:=s k a;exact⟨b.1,O,b.2.2.1,r k b.2.1 b.2.2.2.1,n k b.2.1 b.2.2.2.2⟩;exact h
end
structure gT(w:World)(lo g m g2 sb:Nat)(d d2:DkD)(oj:Option bQ)(es:List (Nm×FE))(vL:Value)(rs:List (Nm×RF))(vj vy:Value):Prop where
 two:aC0 w lo g m g2 d d2 es vL rs
 bl:nJ w sb g g2 vj vy
 sj:gX w lo g m g2 sb es vL rs oj oj vj vy
 hs:lo<=sb∧¬aI g m es sb∧¬aL g2 vL rs sb
section
variable{w w' :World}{lo g m g2 sb:Nat}{d d2 d' :DkD}{es:List (Nm×FE)}{vL:Value}{rs:List (Nm×RF)}{oj:Option bQ}{vj vy:Value}
theorem gT.a1(h:gT w lo g m g2 sb d d2 oj es vL rs vj vy)(a:Below w w w'):gT w' lo g m g2 sb d d2 oj es vL rs vj vy:=⟨h.two.a1 a,aS.a1 h.bl a (aS.lt h.bl),h.sj.a1 a,h.hs⟩
theorem gT.left(h:gT w lo g m g2 sb d d2 oj es vL rs vj vy)(p:bG w lo g m es d' w')(j:lo<=w):(∃f,gT w' lo g m g2 sb d' d2 oj f vL rs vj vy)∧Below lo w w' ∧Fr (aI g m es) w w' :=by
 obtain⟨f,l,n,a,i⟩:=p;have q:=aS.lt h.bl;refine⟨⟨f,h.two.left l n a (fun k b=>h.two.ap k b) i,a.h4 h.bl h.hs.2.1,h.sj.moved a.size (fun k _ o c _=>a.block k o c) i (fun k b=>.inl b),h.hs.1,fun e=>?_,h.hs.2.2⟩,a.a1 j (fun k b=>(h.two.dk.lt k b).1),a⟩;rcases i sb e with c|c
 exact h.hs.2.1 c;omega
theorem gT.right(h:gT w lo g m g2 sb d d2 oj es vL rs vj vy)(r:aH9 w lo g2 vL rs d' w')(l:lo<=w):(∃i f,gT w' lo g m g2 sb d d' oj es i f vj vy)∧Below lo w w' ∧Fr (aL g2 vL rs) w w' :=by
 obtain⟨i,f,n,o,a,j⟩:=r;have s:=aS.lt h.bl;refine⟨⟨i,f,h.two.right n o a (fun k b q=>h.two.ap k q b) j,a.h4 h.bl h.hs.2.2,h.sj.moved a.size (fun k _ p _ c=>a.block k p c) (fun k b=>.inl b) j,h.hs.1,h.hs.2.1,fun e=>?_⟩,a.a1 l (fun k b=>(h.two.rk.lt k b).1),a⟩;rcases j sb e with c|c
 exact h.hs.2.2 c;omega
end
section
variable{w:World}{lo g m g2 sb n B:Nat}{d d2:DkD}{oj:Option bQ}{es:List (Nm×FE)}{vL:Value}{rs:List (Nm×RF)}{vj vy:Value}
theorem bR7{d:DkD}(h:PD n B d)(f:B<=100000000){q:Nm×FD}(a:q∈d.fs):q.2.b.length<=100000000∧q.1.length<=1000:=by
 have c:=fR a;have e:=h.dk.sz;exact⟨O,h.dk.nm q a⟩
theorem cA6{d:DkD}(h:PD n B d)(c:B<=100000000){es:List (Nm×FE)}(a:bI FE.f es=d.fs):es.length<=100000000∧∀q∈es,q.2.f.b.length<=100000000∧q.1.length<=1000:=by
 have i:es.length=d.fs:=by rw[<-a];simp[bI]
 refine⟨ω1 h.dk.len,fun q g=>?_⟩;have e:(q.1,q.2.f)∈d.fs:=by rw[<-a];exact mF.2 ⟨q,g,rfl⟩
 exact bR7 h c e
theorem bR8{d:DkD}(h:PD n B d)(c:B<=100000000){es:List (Nm×RF)}(a:bI RF.f es=d.fs):es.length<=100000000∧∀q∈es,q.2.f.b.length<=100000000∧q.1.length<=1000:=by
 have i:es.length=d.fs:=by rw[<-a];simp[bI]
 refine⟨ω1 h.dk.len,fun q g=>?_⟩;have e:(q.1,q.2.f)∈d.fs:=by rw[<-a];exact mF.2 ⟨q,g,rfl⟩
 exact bR7 h c e
theorem gT.bootL(h:gT w lo g m g2 sb d d2 oj es vL rs vj vy)(a8:lo<=w)(p:PD n B d)(o:B<=100000000)(A:Option Addr)(z:List Int)(i:Nat)(r:Rd w lo A (z.map (Value.int .i64)))(k:∀n∈z,I6 n)(l:z.length<=140737488351232):
  Calls Tryz.prog 22 #[(g,0),.slice A z i] w fun e a =>(∃v,e=.returned v)∧(∃b,gT a lo g m g2 sb (d.j8 z) d2 oj b vL rs vj vy)∧Below lo w a ∧Fr (aI g m es) w a :=by
 have j:=cA6 p o h.two.fs;have c:=aE1 h.two.dk A z i r k l O (fun q f=>ω1 (j.2 q f)) (fun q f=>ω1 (j.2 q f));rw[DkD.h9 d h.two.fs] at c;exact c.mono fun e a ⟨k1,k2⟩=>⟨k1,h.left k2 a8⟩
theorem gT.bootR(h:gT w lo g m g2 sb d d2 oj es vL rs vj vy)(a8:lo<=w)(p:PD n B d2)(o:B<=100000000)(A:Option Addr)(z:List Int)(i:Nat)(s:Rd w lo A (z.map (Value.int .i64)))(j:∀n∈z,I6 n)(k:z.length<=140737488351232):
  Calls Tryz.prog 75 #[(g2,0),.slice A z i] w fun e a =>(∃v,e=.returned v)∧(∃f b,gT a lo g m g2 sb d (d2.j8 z) oj es f b vj vy)∧Below lo w a ∧Fr (aL g2 vL rs) w a :=by
 have l:=bR8 p o h.two.l3;have c:=bI8 h.two.rk A z i s j k O (fun q r=>ω1 (l.2 q r));rw[qU h.two.l3] at c;exact c.mono fun e a ⟨k1,k2⟩=>⟨k1,h.right k2 a8⟩
theorem gT.cutL(h:gT w lo g m g2 sb d d2 oj es vL rs vj vy)(a8:lo<=w)(s:ByteArray)(f:s.size<=140737488351232)(z:Int)(i:I6 z):
  Calls Tryz.prog 55 #[(g,0),.string s,z] w fun e a =>e=.returned (.int .i64 (d.e6 s.data.toList z).1)∧(∃b,gT a lo g m g2 sb (d.e6 s.data.toList z).2 d2 oj b vL rs vj vy)∧Below lo w a ∧Fr (aI g m es) w a :=by
 have c:=uO h.two.dk s f z i;rw[DkD.h9 d h.two.fs] at c;exact c.mono fun e a ⟨k1,k2⟩=>⟨k1,h.left k2 a8⟩
theorem gT.cutR(h:gT w lo g m g2 sb d d2 oj es vL rs vj vy)(a8:lo<=w)(j:PD n B d2)(i:B<=100000000)(s:ByteArray)(z:Int)(k:I6 z):
  Calls Tryz.prog 76 #[(g2,0),.string (bU s.data.toList),z] w fun e a =>e=.returned (.int .i64 (d2.e6 s.data.toList z).1)∧(∃f b,gT a lo g m g2 sb d (d2.e6 s.data.toList z).2 oj es f b vj vy)∧Below lo w a ∧Fr (aL g2 vL rs) w a :=by
 have l:=bR8 j i h.two.l3;have c:=aQ1 h.two.rk s.data.toList z k O;rw[qU h.two.l3] at c;exact c.mono fun e a ⟨k1,k2⟩=>⟨k1,h.right k2 a8⟩
theorem gT.appL(h:gT w lo g m g2 sb d d2 oj es vL rs vj vy)(o:lo<=w)(j:PD n B d)(u:B<=100000000)(s:ByteArray)(y:s.size<=140737488351232)(A:Option Addr)(q:dK)(r:Rd w w A [q.val])(v:Rd w w q.a (cells q.l))(C:q.l.length<=100000000):
  Calls Tryz.prog 10 #[(g,0),.string s,.slice A 1 1] w fun e b =>e=.returned (.int .i64 (d.append s.data.toList [q.l]).1)∧(∃f,gT b lo g m g2 sb (d.append s.data.toList [q.l]).2 d2 oj f vL rs vj vy)∧Below lo w b ∧Fr (aI g m es) w b :=by
 have t:=cA6 j u h.two.fs;have z:=j.dk.sz;have k:bR [q]=q.l:=by simp[bR]
 have c:=vR h.two.dk s y A [q] 1 r (fun p i =>by obtain rfl:=lY.1 i;exact⟨v,O⟩) σ σ (by rw[k];omega) (fun q x=>ω1 (t.2 q x)) (by rw[h.two.fs];omega) O;rw[DkD.h9 d h.two.fs] at c;exact c.mono fun e b ⟨k1,k2⟩=>⟨k1,h.left k2 o⟩
theorem gT.appR(h:gT w lo g m g2 sb d d2 oj es vL rs vj vy)(r:lo<=w)(k:PD n B d2)(v:B<=100000000)(s:ByteArray)(z:s.size<=140737488351232)(A:Option Addr)(q:dK)(t:Rd w w A [q.val])(x:Rd w w q.a (cells q.l))(D:q.l.length<=100000000):
  Calls Tryz.prog 11 #[(g2,0),.string (bU s.data.toList),.slice A 1 1] w fun e b =>e=.returned (.int .i64 (d2.append s.data.toList [q.l]).1)∧(∃j i,gT b lo g m g2 sb d (d2.append s.data.toList [q.l]).2 oj es j i vj vy)∧Below lo w b ∧Fr (aL g2 vL rs) w b :=by
 have u:=bR8 k v h.two.l3;have C:=k.dk.sz;have o:bR [q]=q.l:=by simp[bR]
 have c:=wU h.two.rk s.data.toList (by simpa using z) A [q] 1 t (fun p f =>by obtain rfl:=lY.1 f;exact⟨x,O⟩) σ σ (by rw[o];omega) (fun q y=>ω1 (u.2 q y)) (by rw[h.two.l3];omega) O;rw[qU h.two.l3] at c;exact c.mono fun e b ⟨k1,k2⟩=>⟨k1,h.right k2 r⟩
theorem PD.j8(h:PD n B d)(z:List Int):PD n B (d.j8 z):=⟨h.dk.booted z,by show(gG z d.fs d.fs).length<=n;rw[gM];exact h.fl⟩
end
structure eP(W0 w:World)(lo g m g2 sb n B:Nat)(d:DkD)(oj:Option bQ):Prop where
 ex:∃es vL rs vj vy,aC0 w lo g m g2 d d es vL rs∧nJ w sb g g2 vj vy∧gX w lo g m g2 sb es vL rs oj oj vj vy∧(lo<=sb∧¬aI g m es sb∧¬aL g2 vL rs sb)
 pd:PD n B d
 pj:∀j,oj=some j->PI n B j
 low:W0<=lo
 bw:lo<=w
 from_:Below W0 W0 w
 facts:nH W0
def iA(W0:World)(lo g m g2 sb n B:Nat)(e:Ending)(w' :World):Prop:=e=.returned (.bool true)∧∃d oj,eP W0 w' lo g m g2 sb n B d oj
theorem eP.fac{b w:World}{lo g m c f n B:Nat}{d:DkD}{oj:Option bQ}(h:eP b w lo g m c f n B d oj):∀a,Below lo w a ->nH a :=fun a e=>h.facts.a1 (h.from_.trans (e.mono h.low))
theorem oM{p w:World}{lo g m q c n B:Nat}{d:DkD}{oj:Option bQ}(h:eP p w lo g m q c n B d oj)(y:B<=100000000):
  Calls Tryz.prog 12 #[(c,0)] w (iA p lo g m q c n B):=by
 obtain⟨G,K,I,L,M,i,j,H,f⟩:=h.ex;refine(bK5 i j f (h.pd.jdk y) O h.bw (fun o b=>⟨(h.fac o b).tab,(h.fac o b).err⟩)).mono ?_;rintro e o ⟨rfl,r,v,u,k,l,A,C,D,z,s,t⟩;obtain⟨E,F⟩:=bY2 h.pd O;have b:=z.a1 h.bw (fun x hx=>by
  rcases hx with hx|hx|hx
  exact(i.dk.lt x hx).1;exact(i.rk.lt x hx).1;omega)
 refine⟨rfl,_,_,⟨⟨r,v,u,k,l,A,C,D,f.1,fun e=>?_,fun e=>?_⟩,E,F,h.low,mM h.bw b.size,h.from_.trans (b.mono h.low),h.facts⟩⟩;rcases s c e with a|a
 exact f.2.1 a;have:=aS.lt j;omega;rcases t c e with a|a
 exact f.2.2 a;have:=aS.lt j;omega
theorem eP.a1{b w w' :World}{lo g m c f n B:Nat}{d:DkD}{oj:Option bQ}(h:eP b w lo g m c f n B d oj)(a:Below w w w'):eP b w' lo g m c f n B d oj:=by
 obtain⟨i,p,o,q,r,j,e,k,l⟩:=h.ex;exact⟨⟨i,p,o,q,r,j.a1 a,aS.a1 e a (aS.lt e),k.a1 a,l⟩,h.pd,h.pj,h.low,mM h.bw a.size,h.from_.trans (a.mono (mM h.low h.bw)),h.facts⟩
theorem eP.mono{a w:World}{lo g m b f n B n' B' :Nat}{d:DkD}{oj:Option bQ}(h:eP a w lo g m b f n B d oj)(e:n<=n')(c:B<=B'):eP a w lo g m b f n' B' d oj:=
 ⟨h.ex,h.pd.mono e c,fun j i=>(h.pj j i).mono e c,h.low,h.bw,h.from_,h.facts⟩
theorem bM4{j w:World}{lo g m q i n B:Nat}{d:DkD}{oj:Option bQ}(h:eP j w lo g m q i n B d oj)(v:B<=100000000)(a:fC)(x:a.o=5):
  Calls Tryz.prog 27 #[(i,0),.agg #[a.o,a.n,a.m,.slice a.Al a.rs a.cl,.slice a.Ak a.kz a.ck,.string a.nm,.slice a.Ab a.b a.cb]] w (iA j lo g m q i n B):=by
 rw[x];obtain⟨y,f⟩:=eX (w.alloc (.cells #[.int .i64 5,a.n,a.m,.slice a.Al a.rs a.cl,.slice a.Ak a.kz a.ck,.string a.nm,.slice a.Ab a.b a.cb] 43));have l:=bN f;have p:=kN f;have t:=p.c 0;have k:=J (oM (h.a1 l) v);have u:=J f;clear f p h l;go_enter Tryz.func27,Tryz.ntmps27;go_upto_region 1 with fail
 rw[<-u.o];go_wp2_with fail;refine k.o.mono ?_;rintro e z ⟨rfl,r⟩;have s:=J r;clear r k t;go_wp2;go_ret;exact⟨rfl,s.o⟩
theorem eP.mid{k w:World}{lo g m i j n B:Nat}{d:DkD}{oj:Option bQ}(h:eP k w lo g m i j n B d oj):∃a c b e f,gT w lo g m i j d d oj a c b e f:=by
 obtain⟨a,c,b,e,f,l,o,p,q⟩:=h.ex;exact⟨a,c,b,e,f,l,o,p,q⟩
theorem eP.k7{f w w' :World}{lo g m c e n B n' B' :Nat}{d a :DkD}{oj:Option bQ}{es:List (Nm×FE)}{vL:Value}{rs:List (Nm×RF)}{k l:Value}(h:eP f w lo g m c e n B d oj)(b:gT w' lo g m c e a a oj es vL rs k l)(i:Below lo w w')(p:PD n' B' a)(r:n<=n')(o:B<=B'):eP f w' lo g m c e n' B' a oj:=
 ⟨⟨es,vL,rs,k,l,b.two,b.bl,b.sj,b.hs⟩,p,fun j q=>(h.pj j q).mono r o,h.low,mM h.bw i.size,h.from_.trans (i.mono h.low),h.facts⟩
theorem gT.armL{w:World}{lo g m j l:Nat}{d i:DkD}{oj:Option bQ}{es:List (Nm×FE)}{vL:Value}{rs:List (Nm×RF)}{n o:Value}(h:gT w lo g m j l d i oj es vL rs n o)(a8:lo<=w)(a b:Int)(p:I6 a)(q:I6 b):
  Calls Tryz.prog 21 #[(g,0),a,b] w fun e c =>(∃v,e=.returned v)∧(∃f,gT c lo g m j l {d with pw:=d.pw.arm2 a b} i oj f vL rs n o)∧Below lo w c ∧Fr (aI g m es) w c :=by
 refine(bN3 h.two.dk a b p q).mono fun e c ⟨h1,h2,h3⟩=>⟨h1,h.left ?_ a8⟩
 exact⟨es,h2,h.two.fs,h3,fun k r=>.inl r⟩
theorem gT.armR{w:World}{lo g m c n:Nat}{d i:DkD}{oj:Option bQ}{es:List (Nm×FE)}{vL:Value}{rs:List (Nm×RF)}{o p:Value}(h:gT w lo g m c n d i oj es vL rs o p)(a8:lo<=w)(a b:Int)(q:I6 a)(r:I6 b):
  Calls Tryz.prog 74 #[(c,0),a,b] w fun e f =>(∃v,e=.returned v)∧(∃l j,gT f lo g m c n d {i with pw:=i.pw.arm2 a b} oj es l j o p)∧Below lo w f ∧Fr (aL c vL rs) w f :=by
 refine(bS1 h.two.rk a b q r).mono fun e f ⟨h1,h2,h3⟩=>⟨h1,h.right ?_ a8⟩
 exact⟨vL,rs,h2,h.two.l3,h3,fun k s=>.inl s⟩
theorem gT.h3{w:World}{lo g m b a:Nat}{d f:DkD}{oj:Option bQ}{es:List (Nm×FE)}{vL:Value}{rs:List (Nm×RF)}{c e:Value}(h:gT w lo g m b a d f oj es vL rs c e):w.cell? (a,0)=some (.pointer (g,0))∧w.cell? (a,1)=some (.pointer (b,0))∧w.cell? (a,2)=some c∧w.cell? (a,3)=some e:=⟨aS.cell h.bl 0,aS.cell h.bl 1,aS.cell h.bl 2,aS.cell h.bl 3⟩
theorem PD.arm{n B:Nat}{d:DkD}(h:PD n B d)(p:fT):PD n B {d with pw:=p}:=⟨h.dk.pw p,h.fl⟩
theorem bV6{N w:World}{lo g m t p n B:Nat}{d:DkD}{oj:Option bQ}(h:eP N w lo g m t p n B d oj)(hB:B<=100000000)(a:fC)(F:I6 a.n)(E:I6 a.m)(ho:a.o=3):
  Calls Tryz.prog 27 #[(p,0),.agg #[a.o,a.n,a.m,.slice a.Al a.rs a.cl,.slice a.Ak a.kz a.ck,.string a.nm,.slice a.Ab a.b a.cb]] w (iA N lo g m t p n B):=by
 rw[ho];obtain⟨q,s⟩:=eX (w.alloc (.cells #[.int .i64 3,a.n,a.m,.slice a.Al a.rs a.cl,.slice a.Ak a.kz a.ck,.string a.nm,.slice a.Ab a.b a.cb] 43));have r:=bN s;have j:=kN s;obtain⟨es,vL,rs,vj,vy,x⟩:=h.mid;have G:=x.a1 r;have m5:=h.bw;have m8:=r.size;have c0:=j.c 0;have X:=j.c 1;have Y:=j.c 2;have p0:=G.h3.1;have C:=J (show¬aI g m es w∧¬aL t vL rs w from⟨fun e=>ω1 ((x.two.dk.lt _ e).2),fun e=>ω1 ((x.two.rk.lt _ e).2)⟩);have Q:=J ((G.a1 (lS _ q).drew).armL (by show lo<=q;omega) a.n a.m F E);have m3:=J s;have l8:=J r;have A:=J j;have H:=J h;have T:=J (And.intro F E);clear s j h r x G F E;go_enter Tryz.func27,Tryz.ntmps27;go_upto_region 1 with fail
 rw[<-m3.o];go_upto_region 3 with fail
 refine wp_region_held_drew (S:=fun W=>W.cell? ⟨p,0,none⟩=some (.pointer (some ⟨g,0,none⟩))∧W.cell? ⟨w,1,none⟩=some (.int .i64 a.n)∧W.cell? ⟨w,2,none⟩=some (.int .i64 a.m)∧True) κ ⟨p0,X,Y,trivial⟩ (fun f=>?_);refine zT 0 (k:=zT 1 (k:=zT 2 (k:=zT 3 (k:=zT 4 (k:=zT 5 (k:=zT 6 (k:=zT 7 (k:=zT 8 (k:=zT 9 (k:=?_))))))))));simp only[zA,zB,zF,zG,zC,zD,zE];refine zV 10 (k:=fun K l=>?_);simp only[zA,zB];go_simp;refine Q.o.mono ?_;rintro e i ⟨⟨v,rfl⟩,⟨es2,u⟩,U,I⟩;have m7:=I.size;have M:=I.h4 (show aS q.drew w _ _ from A.o) C.o.1;have q0:=u.h3.1;have q1:=u.h3.2.1;have y:=M.c 1;have z:=M.c 2;have m6:q.heap.size<=i:=m7;have R:=J ((u.a1 (lS _ i).drew).armR (by show lo<=i;omega) a.n a.m T.o.1 T.o.2);have l9:=J ((l8.o.mono m5).trans (((lS lo q).drew).trans U));clear M u U I Q;dsimp only;refine l.out _ _ ⟨q0,y,z,trivial⟩ (fun f=>?_);clear l K;try simp only[zF,zG,zC,zD,zE]
 refine wpAnyH_done κ ?_ _;clear f;go_upto_region 4 with fail
 refine wp_region_held_drew (S:=fun W=>W.cell? ⟨p,1,none⟩=some (.pointer (some ⟨t,0,none⟩))∧W.cell? ⟨w,1,none⟩=some (.int .i64 a.n)∧W.cell? ⟨w,2,none⟩=some (.int .i64 a.m)∧True) κ ⟨q1,y,z,trivial⟩ (fun f=>?_);refine zT 0 (k:=zT 1 (k:=zT 2 (k:=zT 3 (k:=zT 4 (k:=zT 5 (k:=zT 6 (k:=zT 7 (k:=?_))))))));simp only[zA,zB,zF,zG,zC,zD,zE];refine zV 8 (k:=fun K l=>?_);simp only[zA,zB];go_simp;refine R.o.mono ?_;rintro e w3 ⟨⟨v3,rfl⟩,⟨n5,m9,D⟩,V,L⟩;have P:=l9.o.trans (((lS lo i).drew).trans V);have f9:=J (H.o.k7 D P (H.o.pd.arm _) (lR _) (lR _));have r1:=D.h3.2.1;have Z:=(mK (w:=i) (a:=(w,1)) (L.block _ (by show w.heap.size<i;have:=A.o.lt;omega) C.o.2)).trans y;have e2:=(mK (w:=i) (a:=(w,2)) (L.block _ (by show w.heap.size<i;have:=A.o.lt;omega) C.o.2)).trans z;clear D V L P R;dsimp only;refine l.out _ _ ⟨r1,Z,e2,trivial⟩ (fun f=>?_);clear l K;try simp only[zF,zG,zC,zD,zE]
 refine wpAnyH_done κ ?_ _;clear f;go_wp2;go_ret;exact⟨rfl,_,_,f9.o⟩
structure dS(W0 w:World)(lo g m g2 sb:Nat)(d d2:DkD)(j y:bQ)(es:List (Nm×FE))(vL:Value)(rs:List (Nm×RF))(gj gy:Nat)(F E:Nat->Prop):Prop where
 both:nC w lo g m g2 sb d d2 j y es vL rs gj gy F E
 bl:nJ w sb g g2 (.pointer (gj,0)) (.pointer (gy,0))
 low:W0<=lo
 bw:lo<=w
 from_:Below W0 W0 w
 facts:nH W0
section
variable{W0 w w' :World}{lo g m g2 sb n B:Nat}{d d2:DkD}{j y:bQ}{es:List (Nm×FE)}{vL:Value}{rs:List (Nm×RF)}{gj gy:Nat}{F E:Nat->Prop}
theorem eP.bothK(h:eP W0 w lo g m g2 sb n B d (some j)):∃es vL rs gj gy F E,dS W0 w lo g m g2 sb d d j j es vL rs gj gy F E:=by
 obtain⟨es,vL,rs,i,k,b,a,c,e⟩:=h.ex;obtain⟨gj,gy,F,E,rfl,rfl,f⟩:=nC.of b c e (aS.lt a);exact⟨es,vL,rs,gj,gy,F,E,f,a,h.low,h.bw,h.from_,h.facts⟩
theorem dS.play(h:dS W0 w lo g m g2 sb d d j j es vL rs gj gy F E)(a:PD n B d)(b:PI n B j):eP W0 w lo g m g2 sb n B d (some j):=
 ⟨⟨es,vL,rs,_,_,h.both.two,h.bl,h.both.side,h.both.sb.1.1,h.both.sb.2.2⟩,a,fun x e=>by injection e with e;subst e;exact b,h.low,h.bw,h.from_,h.facts⟩
theorem dS.a1(h:dS W0 w lo g m g2 sb d d2 j y es vL rs gj gy F E)(a:Below w w w'):dS W0 w' lo g m g2 sb d d2 j y es vL rs gj gy F E:=
 ⟨h.both.a1 a,aS.a1 h.bl a (aS.lt h.bl),h.low,mM h.bw a.size,h.from_.trans (a.mono (mM h.low h.bw)),h.facts⟩
theorem dS.fac(h:dS W0 w lo g m g2 sb d d2 j y es vL rs gj gy F E):∀w',Below lo w w' ->nH w' :=fun w' a=>h.facts.a1 (h.from_.trans (a.mono h.low))
theorem dS.b1(h:dS W0 w lo g m g2 sb d d2 j y es vL rs gj gy F E){mine:Nat->Prop}(b:Fr mine w w')(c:∀k,mine k->lo<=k∧¬dB g m g2 sb es vL rs gj gy F E k):dS W0 w' lo g m g2 sb d d2 j y es vL rs gj gy F E:=by
 have a:=fun k a=>b.block k (h.both.k5 a).2 (fun e=>(c k e).2 a)
 exact⟨h.both.b1 b.size a,(a sb (.inr (.inr (.inr (.inr (.inl rfl)))))).trans h.bl,h.low,mM h.bw b.size,h.from_.trans ((b.a1 h.bw (fun k a=>(c k a).1)).mono h.low),h.facts⟩
theorem dS.left(h:dS W0 w lo g m g2 sb d d2 j y es vL rs gj gy F E){r:Int×bQ×DkD}{e:Ending}(p:vK w lo g m gj es F r e w'):e=.returned r.1∧∃b a,dS W0 w' lo g m g2 sb r.2.2 d2 r.2.1 y b vL rs gj gy a E∧Below lo w w' ∧Fr (fun k=>aI g m es k∨k=gj) w w' ∧∀k,dB g m g2 sb b vL rs gj gy a E k->dB g m g2 sb es vL rs gj gy F E k∨w.heap.size<=k:=by
 obtain⟨n,b,a,l,f,o⟩:=h.both.left p;have c:=f.a1 h.bw (fun k i=>by
  rcases i with i|rfl
  exact(h.both.jk.c8.lt k i).1;exact h.both.jk.lo)
 exact⟨n,b,a,⟨l,f.h4 h.bl (fun e=>e.elim h.both.sb.2.2.1 h.both.sb.1.2.2.1),h.low,mM h.bw c.size,h.from_.trans (c.mono h.low),h.facts⟩,c,f,o⟩
theorem dS.right(h:dS W0 w lo g m g2 sb d d2 j y es vL rs gj gy F E){r:Int×bQ×DkD}{e:Ending}(q:pV w lo g2 gy vL rs E r e w'):e=.returned r.1∧∃c b a,dS W0 w' lo g m g2 sb d r.2.2 j r.2.1 es c b gj gy F a ∧Below lo w w' ∧Fr (fun k=>aL g2 vL rs k∨k=gy) w w' ∧∀k,dB g m g2 sb es c b gj gy F a k->dB g m g2 sb es vL rs gj gy F E k∨w.heap.size<=k:=by
 obtain⟨o,c,b,a,n,i,p⟩:=h.both.right q;have f:=i.a1 h.bw (fun k l=>by
  rcases l with l|rfl
  exact(h.both.yk.c8.lt k l).1;exact h.both.yk.lo)
 exact⟨o,c,b,a,⟨n,i.h4 h.bl (fun e=>e.elim h.both.sb.2.2.2 h.both.sb.1.2.2.2),h.low,mM h.bw f.size,h.from_.trans (f.mono h.low),h.facts⟩,f,i,p⟩
theorem dS.h3(h:dS W0 w lo g m g2 sb d d2 j y es vL rs gj gy F E):w.cell? (sb,2)=some (.pointer (gj,0))∧w.cell? (sb,3)=some (.pointer (gy,0)):=⟨aS.cell h.bl 2,aS.cell h.bl 3⟩
theorem dS.saveL(h:dS W0 w lo g m g2 sb d d2 j y es vL rs gj gy F E)(A:PD n B d)(D:PI n B j)(C:n<=1000)(p:B<=100000000){G:Nat->Prop}(i:Option Addr)(a:List EntR)(o:Nat)(u:dM w G i (aG a))(s:∀q∈a,gQ w G q.v q.e.b)(r:∀k,G k->k<w.heap.size)(x:a.length<=2000000)(t:((a.map EntR.e).map aZ).flatten.length<=1000000000)
  (a8:∀q∈a,(I6 q.e.ix)∧(I6 q.e.tm)∧(I6 q.e.kd)):
  Calls Tryz.prog 15 #[(gj,0),.slice i a o] w fun e w' =>e=.returned (.int .i64 (cP j d (a.map EntR.e)).1)∧∃c l,dS W0 w' lo g m g2 sb (cP j d (a.map EntR.e)).2.2 d2 (cP j d (a.map EntR.e)).2.1 y c vL rs gj gy l E∧Below lo w w' ∧Fr (fun k=>aI g m es k∨k=gj) w w' ∧∀k,dB g m g2 sb c vL rs gj gy l E k->dB g m g2 sb es vL rs gj gy F E k∨w.heap.size<=k:=by
 have f:=D.savePre (d:=d) C p;exact(aF2 h.both.jk h.bw (A.jdk p) O (fun w' z=>(h.fac w' z).tab) f.h5 f.ks f.b2 f.a7 i a o u s r x t a8).mono fun e w' H=>h.left H
theorem dS.saveR(h:dS W0 w lo g m g2 sb d d2 j y es vL rs gj gy F E)(A:PD n B d2)(D:PI n B y)(C:n<=1000)(r:B<=100000000){G:Nat->Prop}(l:Option Addr)(a:List EntR)(i:Nat)(x:dM w G l (aG a))(u:∀q∈a,gQ w G q.v q.e.b)(a8:∀k,G k->k<lo)(t:a<=i∧i<=9223372036854775807)(z:a.length<=2000000)(I:((a.map EntR.e).map aZ).flatten.length<=1000000000)
  (s:∀q∈a,(I6 q.e.ix)∧(I6 q.e.tm)∧(I6 q.e.kd)):
  Calls Tryz.prog 78 #[(gy,0),.slice l a i] w fun e w' =>e=.returned (.int .i64 (cP y d2 (a.map EntR.e)).1)∧∃f c p,dS W0 w' lo g m g2 sb d (cP y d2 (a.map EntR.e)).2.2 j (cP y d2 (a.map EntR.e)).2.1 es f c gj gy F p ∧Below lo w w' ∧Fr (fun k=>aL g2 vL rs k∨k=gy) w w' ∧∀k,dB g m g2 sb es f c gj gy F p k->dB g m g2 sb es vL rs gj gy F E k∨w.heap.size<=k:=by
 have L:=h.both.yk.lo;have K:=h.bw;exact(aZ3 h.both.yk (A.jdk r) O (D.mono (lR _) r) C l a i x u (fun k o=>⟨ω1 (a8 k o),ω1 (a8 k o),fun e=>ω2 ((h.both.yk.c8.lt k e).1) (a8 k o)⟩) t z O s).mono fun e w' H=>h.right H
theorem dS.metaL(h:dS W0 w lo g m g2 sb d d2 j y es vL rs gj gy F E)(l:PD n B d)(f:B<=100000000)(t v:Int)(b:I6 t)(o:I6 v):
  Calls Tryz.prog 16 #[(gj,0),t,v] w fun e w' =>e=.returned (.int .i64 (bP j d t v).1)∧∃a c,dS W0 w' lo g m g2 sb (bP j d t v).2.2 d2 (bP j d t v).2.1 y a vL rs gj gy c E∧Below lo w w' ∧Fr (fun k=>aI g m es k∨k=gj) w w' ∧∀k,dB g m g2 sb a vL rs gj gy c E k->dB g m g2 sb es vL rs gj gy F E k∨w.heap.size<=k:=
 (tP h.both.jk h.bw (l.jdk f) O (fun w' i=>(h.fac w' i).tab) t v b o).mono fun e w' b=>h.left b
theorem dS.metaR(h:dS W0 w lo g m g2 sb d d2 j y es vL rs gj gy F E)(l:PD n B d2)(i:B<=100000000)(t v:Int)(c:I6 t)(o:I6 v):
  Calls Tryz.prog 80 #[(gy,0),t,v] w fun e w' =>e=.returned (.int .i64 (bP y d2 t v).1)∧∃b a f,dS W0 w' lo g m g2 sb d (bP y d2 t v).2.2 j (bP y d2 t v).2.1 es b a gj gy F f ∧Below lo w w' ∧Fr (fun k=>aL g2 vL rs k∨k=gy) w w' ∧∀k,dB g m g2 sb es b a gj gy F f k->dB g m g2 sb es vL rs gj gy F E k∨w.heap.size<=k:=
 (aD1 h.both.yk (l.jdk i) O t v c o).mono fun e w' c=>h.right c
theorem dS.compL(h:dS W0 w lo g m g2 sb d d2 j y es vL rs gj gy F E)(o:PD n B d)(f:PI n B j)(r:n<=1000)(i:B<=100000000)(t v:Int)(b:I6 t)(q:I6 v):
  Calls Tryz.prog 17 #[(gj,0),t,v] w fun e w' =>e=.returned (.int .i64 (bZ j d t v).1)∧∃a c,dS W0 w' lo g m g2 sb (bZ j d t v).2.2 d2 (bZ j d t v).2.1 y a vL rs gj gy c E∧Below lo w w' ∧Fr (fun k=>aI g m es k∨k=gj) w w' ∧∀k,dB g m g2 sb a vL rs gj gy c E k->dB g m g2 sb es vL rs gj gy F E k∨w.heap.size<=k:=
 (aJ1 h.both.jk h.bw (o.jdk i) O (fun w' l=>(h.fac w' l).tab) (ω1 f.len) (fun s p=>(f.h5 s p).2) t v b q).mono fun e w' b=>h.left b
theorem dS.compR(h:dS W0 w lo g m g2 sb d d2 j y es vL rs gj gy F E)(a8:∀s∈y.b0,∀e∈s.l,e.b.length<=65535)(r:PD n B d2)(f:PI n B y)(x:n<=1000)(q:B<=100000000)(t v:Int)(o:I6 t)(z:I6 v):
  Calls Tryz.prog 81 #[(gy,0),t,v] w fun e w' =>e=.returned (.int .i64 (bZ y d2 t v).1)∧∃c a p,dS W0 w' lo g m g2 sb d (bZ y d2 t v).2.2 j (bZ y d2 t v).2.1 es c a gj gy F p ∧Below lo w w' ∧Fr (fun k=>aL g2 vL rs k∨k=gy) w w' ∧∀k,dB g m g2 sb es c a gj gy F p k->dB g m g2 sb es vL rs gj gy F E k∨w.heap.size<=k:=by
 refine(aD0 h.both.yk (r.jdk q) O (f.entsLen x q) (fun s i e u=>?_) f.ixsOk (ω1 f.len) (fun s i=>(f.h5 s i).2) t v o z).mono fun e w' o=>h.right o
 have:=a8 s i e u;omega
end
theorem cC9{rs:List EntR}{q:EntR}(h:q∈rs):q.e.b+5<=iZ rs:=by
 unfold iZ;induction rs with
 |nil=>cases h
 |cons x r ih=>
  rw[mG,List.sum_cons];rcases List.mem_cons.1 h with rfl|h
  omega;have:=ih h;omega
theorem bU9:∀a:List EntR,5*a<=iZ a
 |[]=>by simp
 |x::r=>by
  have:=bU9 r;unfold iZ at this⊢;rw[mG,List.sum_cons,mC];omega
theorem bL5{rs:List EntR}(a8:∀q∈rs,(I6 q.e.ix)∧(I6 q.e.tm)∧(I6 q.e.kd)):((rs.map EntR.e).map aZ).flatten.length<=12*iZ rs:=by
 have c:=sL (rs.map EntR.e) (fun e f=>by
  obtain⟨q,a,rfl⟩:=mF.1 f;exact⟨(a8 q a).2.1,(a8 q a).2.2⟩)
 have d:(((rs.map EntR.e).map fun e=>e.b.length+5).sum)=iZ rs:=by rw[List.map_map];rfl
 rw[d] at c;omega
theorem jT.kept{w w' :World}{N:Nat}{q:EntR}(h:jT w N q)(d:∀k,N<=k->k<w.heap.size->w'.heap[k]? =w.heap[k]?):jT w' N q:=by
 obtain⟨g,c,a,b⟩:=h;exact⟨g,c,a,(d g a (aS.lt b)).trans b⟩
theorem bM3{p w:World}{lo g m k i n B:Nat}{d:DkD}(h:eP p w lo g m k i n B d none)(a:fC)(e:a.o≠3∧a.o≠4∧a.o≠5∧a.o≠6∧a.o≠7):
  Calls Tryz.prog 27 #[(i,0),.agg #[a.o,a.n,a.m,.slice a.Al a.rs a.cl,.slice a.Ak a.kz a.ck,.string a.nm,.slice a.Ab a.b a.cb]] w (iA p lo g m k i n B):=by
 obtain⟨u,r⟩:=eX a.o;rw[<-r] at e⊢;obtain⟨D,f⟩:=eX (w.alloc (.cells #[u,a.n,a.m,.slice a.Al a.rs a.cl,.slice a.Ak a.kz a.ck,.string a.nm,.slice a.Ab a.b a.cb] 43));have j:=bN f;have s:=kN f;have F:=mN.2 e.1;have G:=mN.2 e.2.1;have H:=mN.2 e.2.2.1;have I:=mN.2 e.2.2.2.1;have K:=mN.2 e.2.2.2.2;have E:=s.c 0;obtain⟨L,P,N,A,C,y,l,x,z⟩:=h.ex;obtain⟨_,_,rfl,rfl⟩:(none:Option bQ)=none∧(none:Option bQ)=none∧A=.pointer none∧C=.pointer none:=x;have q:nJ D i g k (.pointer none) (.pointer none):=aS.a1 l j (aS.lt l);have M:=aS.c q 2;have t:=J (h.a1 j);have v:=J f;clear f s h j e r y l z q;go_enter Tryz.func27,Tryz.ntmps27;go_upto_region 1 with fail
 rw[<-v.o];go_wp2;go_ret;exact⟨rfl,_,_,t.o⟩
theorem bM1{p w:World}{lo g m r l n B:Nat}{d:DkD}{j:bQ}(h:eP p w lo g m r l n B d (some j))(a:fC)(G:a.o≠0∧a.o≠1∧a.o≠2∧a.o≠3∧a.o≠4∧a.o≠5∧a.o≠6∧a.o≠7):
  Calls Tryz.prog 27 #[(l,0),.agg #[a.o,a.n,a.m,.slice a.Al a.rs a.cl,.slice a.Ak a.kz a.ck,.string a.nm,.slice a.Ab a.b a.cb]] w (iA p lo g m r l n B):=by
 obtain⟨e,q⟩:=eX a.o;rw[<-q] at G⊢;obtain⟨T,f⟩:=eX (w.alloc (.cells #[e,a.n,a.m,.slice a.Al a.rs a.cl,.slice a.Ak a.kz a.ck,.string a.nm,.slice a.Ab a.b a.cb] 43));have k:=bN f;have s:=kN f;obtain⟨L,S,R,M,N,F,E,D⟩:=h.bothK;have i:=D.a1 k;have P:=i.h3.1;have Q:=i.h3.2;obtain⟨t,u,v,x,y,z,A,C⟩:=G;replace t:(e==0)=false:=mN.2 t;replace u:(e==1)=false:=mN.2 u;replace v:(e==2)=false:=mN.2 v;replace x:(e==3)=false:=mN.2 x;replace y:(e==4)=false:=mN.2 y;replace z:(e==5)=false:=mN.2 z;replace A:(e==6)=false:=mN.2 A;replace C:(e==7)=false:=mN.2 C;have K:=s.c 0;have H:=J (h.a1 k);have I:=J f;clear f s h k q D i;go_enter Tryz.func27,Tryz.ntmps27;go_upto_region 1 with fail
 rw[<-I.o];go_wp2;go_ret;exact⟨rfl,_,_,H.o⟩
theorem bM2{M w:World}{lo g m G l n B:Nat}{d:DkD}{j:bQ}(h:eP M w lo g m G l n B d (some j))(a:fC)(v:I6 a.n)(u:I6 a.m)(hn:n<=900)(hB:B+100<=100000000)(ho:a.o=1):
  Calls Tryz.prog 27 #[(l,0),.agg #[a.o,a.n,a.m,.slice a.Al a.rs a.cl,.slice a.Ak a.kz a.ck,.string a.nm,.slice a.Ab a.b a.cb]] w (iA M lo g m G l (n+1) (B+61)):=by
 rw[ho];replace hn:n<=1000:=O;have U:B<=100000000:=O;obtain⟨r,z⟩:=eX (bP j d a.n a.m);have m7:=h.pj j rfl;have A:=h.pd;have D:=PI.setMeta m7 A a.n a.m v u;rw[<-z] at D;obtain⟨w1,C⟩:=eX (w.alloc (.cells #[.int .i64 1,a.n,a.m,.slice a.Al a.rs a.cl,.slice a.Ak a.kz a.ck,.string a.nm,.slice a.Ab a.b a.cb] 43));have V:=bN C;have p:=kN C;obtain⟨es,vL,rs,N,P,F,E,i⟩:=h.bothK;have s:=i.a1 V;have Z:∀k,dB g m G l es vL rs N P F E k->k<w.heap.size:=fun k hk=>(i.both.k5 hk).2
 have p2:=s.h3.1;have p3:=s.h3.2;have c0:=p.c 0;have c1:=p.c 1;have c2:=p.c 2;have H:=(s.a1 (lS _ w1).drew).metaL A U a.n a.m v u;rw[<-z] at H;have Q:=J H;have HR:=J z;have n8:=J A;have T:=J D;have n5:=J v;have m9:=J u;have n9:=J C;have m8:=J p;have q:=J Z;clear C p h V i s Z H z m7 A D v u;go_enter Tryz.func27,Tryz.ntmps27;go_upto_region 1 with fail
 rw[<-n9.o];go_upto_region 32 with fail
 refine wp_region_held_drew (S:=fun W=>W.cell? ⟨l,2,none⟩=some (.pointer (some ⟨N,0,none⟩))∧W.cell? ⟨l,3,none⟩=some (.pointer (some ⟨P,0,none⟩))∧W.cell? ⟨w,1,none⟩=some (.int .i64 a.n)∧W.cell? ⟨w,2,none⟩=some (.int .i64 a.m)) κ ⟨p2,p3,c1,c2⟩ (fun f=>?_);refine zT 0 (k:=zT 1 (k:=zT 2 (k:=zT 3 (k:=zT 4 (k:=zT 5 (k:=zT 6 (k:=zT 7 (k:=zT 9 (k:=zT 10 (k:=zT 11 (k:=zT 12 (k:=?_))))))))))));refine zT 13 (k:=zT 14 (k:=zT 15 (k:=zT 16 (k:=?_))));simp only[zA,zB,zF,zG,zC,zD,zE];refine zV 8 (k:=fun K i=>?_);simp only[zA,zB];go_simp;refine Q.o.mono ?_;rintro e w2 ⟨rfl,es2,F2,x,o8,X,p4⟩;have t:=X.h4 (show aS w1.drew w _ _ from m8.o) (fun e=>by
  rcases e with e|e
  have:=q.o _ (.inl e);omega;have:=q.o _ (.inr (.inr (.inl rfl)));omega)
 have q2:=x.h3.1;have q3:=x.h3.2;have d1:=t.c 1;have d2:=t.c 2;have I:=x.metaR n8.o U a.n a.m n5.o m9.o;rw[<-HR.o] at I;have R:=J I;clear x o8 X p4 Q I;dsimp only;refine i.out _ _ ⟨q2,q3,d1,d2⟩ (fun f=>?_);clear i K;try simp only[zF,zG,zC,zD,zE]
 refine zV 17 (k:=fun K i=>?_);simp only[zA,zB];go_simp;refine R.o.mono ?_;rintro e w3 ⟨rfl,p7,p6,E3,y,o9,Y,p5⟩;have L:=Y.h4 t (fun e=>by
  rcases e with e|e
  have:=q.o _ (.inr (.inl e));omega;have:=q.o _ (.inr (.inr (.inr (.inl rfl))));omega)
 have r2:=y.h3.1;have r3:=y.h3.2;have e1:=L.c 1;have e2:=L.c 2;have j6:=J (y.play T.o.2 T.o.1);clear y o9 Y p5 L t R;dsimp only;refine i.out _ _ ⟨r2,r3,e1,e2⟩ (fun f=>?_);clear i K;try simp only[zF,zG,zC,zD,zE]
 refine zT 18 (k:=zT 19 (k:=?_));simp only[zA,zB,zF,zG,zC,zD,zE];refine wpAnyH_done κ ?_ _;clear f;go_wp2;go_ret;exact⟨rfl,_,_,j6.o⟩
theorem aM1{P w:World}{lo g m H l n B:Nat}{d:DkD}{j:bQ}(h:eP P w lo g m H l n B d (some j))(a:fC)(v:I6 a.n)(u:I6 a.m)(I:n<=900)(hB:B+100<=100000000)(ho:a.o=2):
  Calls Tryz.prog 27 #[(l,0),.agg #[a.o,a.n,a.m,.slice a.Al a.rs a.cl,.slice a.Ak a.kz a.ck,.string a.nm,.slice a.Ab a.b a.cb]] w (iA P lo g m H l (n+1) (B+61)):=by
 rw[ho];replace I:n<=1000:=O;have X:B<=100000000:=O;obtain⟨r,z⟩:=eX (bZ j d a.n a.m);have C:=h.pj j rfl;have A:=h.pd;have G:=PI.compact C A a.n a.m v u;rw[<-z] at G;obtain⟨w1,D⟩:=eX (w.alloc (.cells #[.int .i64 2,a.n,a.m,.slice a.Al a.rs a.cl,.slice a.Ak a.kz a.ck,.string a.nm,.slice a.Ab a.b a.cb] 43));have Y:=bN D;have p:=kN D;obtain⟨es,vL,rs,Q,R,F,E,i⟩:=h.bothK;have s:=i.a1 Y;have m7:∀k,dB g m H l es vL rs Q R F E k->k<w.heap.size:=fun k hk=>(i.both.k5 hk).2
 have p2:=s.h3.1;have p3:=s.h3.2;have c0:=p.c 0;have c1:=p.c 1;have c2:=p.c 2;have m8:=i.both.jk.jn.txt2;have L:=(s.a1 (lS _ w1).drew).compL A C I X a.n a.m v u;rw[<-z] at L;have T:=J L;have o9:=J m8;have HR:=J z;have o8:=J C;have n9:=J A;have V:=J G;have n8:=J v;have n5:=J u;have p4:=J D;have m9:=J p;have q:=J m7;clear D p h Y i s m7 L m8 z C A G v u;go_enter Tryz.func27,Tryz.ntmps27;go_upto_region 1 with fail
 rw[<-p4.o];go_upto_region 34 with fail
 refine wp_region_held_drew (S:=fun W=>W.cell? ⟨l,2,none⟩=some (.pointer (some ⟨Q,0,none⟩))∧W.cell? ⟨l,3,none⟩=some (.pointer (some ⟨R,0,none⟩))∧W.cell? ⟨w,1,none⟩=some (.int .i64 a.n)∧W.cell? ⟨w,2,none⟩=some (.int .i64 a.m)) κ ⟨p2,p3,c1,c2⟩ (fun f=>?_);refine zT 0 (k:=zT 1 (k:=zT 2 (k:=zT 3 (k:=zT 4 (k:=zT 5 (k:=zT 6 (k:=zT 7 (k:=zT 9 (k:=zT 10 (k:=zT 11 (k:=zT 12 (k:=?_))))))))))));refine zT 13 (k:=zT 14 (k:=zT 15 (k:=zT 16 (k:=?_))));simp only[zA,zB,zF,zG,zC,zD,zE];refine zV 8 (k:=fun K i=>?_);simp only[zA,zB];go_simp;refine T.o.mono ?_;rintro e w2 ⟨rfl,es2,F2,x,p5,Z,p7⟩;have t:=Z.h4 (show aS w1.drew w _ _ from m9.o) (fun e=>by
  rcases e with e|e
  have:=q.o _ (.inl e);omega;have:=q.o _ (.inr (.inr (.inl rfl)));omega)
 have q2:=x.h3.1;have q3:=x.h3.2;have d1:=t.c 1;have d2:=t.c 2;have M:=x.compR o9.o n9.o o8.o I X a.n a.m n8.o n5.o;rw[<-HR.o] at M;have U:=J M;clear x p5 Z p7 T M;dsimp only;refine i.out _ _ ⟨q2,q3,d1,d2⟩ (fun f=>?_);clear i K;try simp only[zF,zG,zC,zD,zE]
 refine zV 17 (k:=fun K i=>?_);simp only[zA,zB];go_simp;refine U.o.mono ?_;rintro e w3 ⟨rfl,q8,p9,E3,y,p6,m6,p8⟩;have N:=m6.h4 t (fun e=>by
  rcases e with e|e
  have:=q.o _ (.inr (.inl e));omega;have:=q.o _ (.inr (.inr (.inr (.inl rfl))));omega)
 have r2:=y.h3.1;have r3:=y.h3.2;have e1:=N.c 1;have e2:=N.c 2;have j8:=J (y.play V.o.2 V.o.1);clear y p6 m6 p8 N t U;dsimp only;refine i.out _ _ ⟨r2,r3,e1,e2⟩ (fun f=>?_);clear i K;try simp only[zF,zG,zC,zD,zE]
 refine zT 18 (k:=zT 19 (k:=?_));simp only[zA,zB,zF,zG,zC,zD,zE];refine wpAnyH_done κ ?_ _;clear f;go_wp2;go_ret;exact⟨rfl,_,_,j8.o⟩
theorem bM5{u w:World}{lo g m L A n B:Nat}{d:DkD}{j:bQ}(h:eP u w lo g m L A n B d (some j))(a:fC)(y:aT7 u a.Al a.rs a.cl)(hn:n<=900)(hB:B+100+12*iZ a.rs<=100000000)(ho:a.o=0):
  Calls Tryz.prog 27 #[(A,0),.agg #[a.o,a.n,a.m,.slice a.Al a.rs a.cl,.slice a.Ak a.kz a.ck,.string a.nm,.slice a.Ab a.b a.cb]] w (iA u lo g m L A (n+1) (B+100+12*iZ a.rs)):=by
 rw[ho];replace hn:n<=1000:=O;have C7:B<=100000000:=O;have I0:=bU9 a.rs;have G9:=bL5 y.num;have B1:∀q∈a.rs,q.e.b.length<=1099511627776:=fun q i=>ω1 (cC9 i)
 have p5:a.rs<=a.cl∧a.cl<=maxLen:=⟨y.le,by have:=y.cap;unfold maxLen;omega⟩;obtain⟨r,hr⟩:=eX (cP j d (a.rs.map EntR.e));have q8:=h.pj j rfl;have p9:=h.pd;obtain⟨R,n5⟩:=eX (w.alloc (.cells #[.int .i64 0,a.n,a.m,.slice a.Al a.rs a.cl,.slice a.Ak a.kz a.ck,.string a.nm,.slice a.Ab a.b a.cb] 43));have C8:=bN n5;have P:=kN n5;have G8:=h.bw;have I1:=P.lt;obtain⟨es,vL,rs,gj,gy,F,E,z⟩:=h.bothK;have N:=z.a1 C8;have D5:∀k,dB g m L A es vL rs gj gy F E k->k<w.heap.size:=fun k f=>(z.both.k5 f).2
 have p2:=N.h3.1;have p3:=N.h3.2;have X:=q8.save p9 (a.rs.map EntR.e) z.both.jk.jn.l2 (fun e he=>by
  obtain⟨q,i,rfl⟩:=mF.1 he;have:=y.num q i;omega)
 rw[<-hr] at X;have i4:PD (n+1) (B+100+12*iZ a.rs) r.2.2∧PI (n+1) (B+100+12*iZ a.rs) r.2.1:=⟨X.2.mono (lR _) O,X.1.mono (lR _) O⟩;have c0:=P.c 0;have c3:=P.c 3;have m9:∀W,Below u u W->dM W (fun k=>k<u.heap.size) a.Al (aG a.rs)∧∀q∈a.rs,gQ W (fun k=>k<u.heap.size) q.v q.e.b:=fun W hb=>⟨y.rd.b1 hb.size (fun k f=>hb.block k f),fun q i=>(y.h6 q i).b1 hb.size (fun k f=>hb.block k f)⟩
 have Y:=N.from_;have B9:=J (bG9 a.Al a.rs a.cl R (m9 R Y).1 (m9 R Y).2 (fun k f=>ω1 Y.size) O B1 p5);have C3:=J m9;have C6:=J B1;have B6:=J p5;have HR:=J hr;have C2:=J q8;have C1:=J p9;have B7:=J i4;have l5:=J y.num;have E7:=J n5;have D8:=J P;have t:=J D5;have E6:=J N;clear n5 P h C8 z N D5 m9 B1 p5 hr q8 p9 X i4 Y y;go_enter Tryz.func27,Tryz.ntmps27;go_upto_region 1 with fail
 rw[<-E7.o];go_wp2_with fail;refine B9.o.mono ?_;rintro e T ⟨v2,Q,rfl,I,D,p8,m6⟩;have I2:=m6.size;have m5:Q.length=a.rs:=by have:=congrArg List.length D;simpa using this
 obtain⟨A2,cA,rfl,G3,G4,_⟩:=aK I;rw[<-m5] at I⊢;have Z:∀q∈Q,q.e.b.length<=1099511627776∧((I6 q.e.ix)∧(I6 q.e.tm)∧(I6 q.e.kd)):=fun q i=>by
  have p:q.e∈a.rs.map EntR.e:=by rw[<-D];exact mF.2 ⟨q,i,rfl⟩
  obtain⟨x,hx,l⟩:=mF.1 p;rw[<-l];exact⟨C6.o x hx,l5.o x hx⟩
 have p4:=E6.o.a1 m6;have t9:=p4.saveL C1.o C2.o hn C7 (G:=fun k=>R.heap.size<=k∧k<T.heap.size) A2 Q cA (dM.e8 I (fun k p l=>⟨p,l⟩) (by rw[aN,Nat.mul_comm])) (fun q i=>(p8 q i).h6 (Z q i).1) (fun k f=>f.2) O (by rw[D];omega) (fun q i=>(Z q i).2);rw[D,<-HR.o] at t9;have D9:=J (aS.a1 D8.o m6 O);have p2:=p4.h3.1;have C5:=J t9;have V:=J I;have o8:=J D;have C0:=J p8;have o9:=J Z;clear I D p8 m6 p4 t9 B9 c0 c3 p3 Z m5;go_wp2_with fail;refine C5.o.mono ?_;rintro e C ⟨rfl,E8,F3,H,E9,m7,D0⟩;have I3:=m7.size;have p7:=m7.h4 D9.o (fun e=>by
  rcases e with e|e
  have:=t.o _ (.inl e);omega;have:=t.o _ (.inr (.inr (.inl rfl)));omega)
 have l9:∀k,R.heap.size<=k->k<T.heap.size->C.heap[k]? =T.heap[k]? :=fun k p l=>m7.block k l (fun e=>by
  rcases e with e|rfl
  have:=t.o _ (.inl e);omega;have:=t.o _ (.inr (.inr (.inl rfl)));omega)
 have p6:=(H.a1 (lS _ C).drew);have j8:=C3.o C.drew p6.from_;have s9:=p6.saveR C1.o C2.o hn C7 a.Al a.rs a.cl j8.1 j8.2 (fun k f=>Nat.lt_of_lt_of_le f H.low) ⟨B6.o.1,by have p:=B6.o.2;unfold maxLen at p;omega⟩ O O l5.o;rw[<-HR.o] at s9;have C4:=J s9;have q3:=H.h3.2;have d3:=p7.c 3;have n9:=J l9;have E5:=J p7;have D7:=J D0;clear H E9 m7 p7 l9 p6 j8 s9 D0 C5 p2;go_upto_region 28 with fail
 refine wp_region_held_drew (S:=fun W=>W.cell? ⟨A,3,none⟩=some (.pointer (some ⟨gy,0,none⟩))∧W.cell? ⟨w,3,none⟩=some (.slice a.Al a.rs a.cl)∧True∧True) κ ⟨q3,d3,trivial,trivial⟩ (fun s=>?_);refine zT 0 (k:=zT 1 (k:=zT 2 (k:=zT 3 (k:=zT 4 (k:=zT 5 (k:=?_))))));simp only[zA,zB,zF,zG,zC,zD,zE];refine zV 6 (k:=fun K z=>?_);simp only[zA,zB];go_simp;refine C4.o.mono ?_;rintro e U ⟨rfl,G7,G6,E4,M,G0,m8,D1⟩;have I4:C.heap.size<=U:=m8.size;have D3:=m8.h4 (show aS C.drew w _ _ from E5.o) (fun e=>by
  rcases e with e|e
  have:=t.o _ (.inr (.inl e));omega;have:=t.o _ (.inr (.inr (.inr (.inl rfl))));omega)
 have j6:=fun k p l=>(m8.block k (by show k<C.heap.size;omega) (fun e=>by
  rcases e with e|rfl
  have:=t.o _ (.inr (.inl e));omega;have:=t.o _ (.inr (.inr (.inr (.inl rfl))));omega)).trans (n9.o k p l)
 have i6:=kI (w' :=U) V.o (fun k f=>j6 k (mL V.o k f).1 (mL V.o k f).2);have m3:=fun q i=>(C0.o q i).kept j6
 have j9:=C3.o U M.from_;have G5:=M.from_.size;have D4:=bG8 A2 a.Al Q a.rs cA a.cl U i6 m3 o8.o j9.1 j9.2 (fun k f=>O) O C6.o O;have D6:=(zJ V.o C0.o (fun q i=>(o9.o q i).1) (lS _ T)).2.2;have l7:∀k,dB g m L A E8 G7 G6 gj gy F3 E4 k->k<w.heap.size∨T.heap.size<=k:=fun k f=>by
  rcases D1 k f with p|p
  rcases D7.o k p with l|l
  exact .inl (t.o k l);exact .inr l;have l:C<=k:=p;exact .inr O
 have s4:=M.h3.2;have f3:=D3.c 3;have l4:Hq (∀W,Fr (ovMine A2 (Q.map EntR.v)) U W->eP u W lo g m L A (n+1) (B+100+12*iZ a.rs) r.2.2 (some r.2.1)):=J (fun W hW=>(M.b1 hW (fun k f=>by
  have p:=D6 k f;refine⟨O,fun l=>?_⟩;rcases l7 k l with H|H<;>omega)).play B7.o.1 B7.o.2)
 have B8:=J D4;clear M G0 m8 D1 D3 j6 i6 m3 j9 G5 D4 D6 l7 C4;dsimp only;refine z.out _ _ ⟨s4,f3,trivial,trivial⟩ (fun s=>?_);clear z K;try simp only[zF,zG,zC,zD,zE]
 refine zT 7 (k:=?_);simp only[zA,zB,zF,zG,zC,zD,zE];refine wpAnyH_done κ ?_ _;clear s q3 d3;go_wp2_with fail;refine B8.o.mono ?_;rintro e w5 ⟨rfl,G2,C9⟩;have n8:=J (l4.o w5 C9);clear G2 C9 B8 l4 s4 f3;go_wp2;go_ret;exact⟨rfl,_,_,n8.o⟩
theorem bM0{z w:World}{lo g m t q n B:Nat}{d:DkD}{oj:Option bQ}(h:eP z w lo g m t q n B d oj)(N:B<=100000000)(a:fC)(P:bL8 z a.Ak a.kz a.ck)(ho:a.o=4):
  Calls Tryz.prog 27 #[(q,0),.agg #[a.o,a.n,a.m,.slice a.Al a.rs a.cl,.slice a.Ak a.kz a.ck,.string a.nm,.slice a.Ab a.b a.cb]] w (iA z lo g m t q n B):=by
 rw[ho];have i:=J P;clear P;obtain⟨r,u⟩:=eX (w.alloc (.cells #[.int .i64 4,a.n,a.m,.slice a.Al a.rs a.cl,.slice a.Ak a.kz a.ck,.string a.nm,.slice a.Ab a.b a.cb] 43));have s:=bN u;have l:=kN u;have m3:=h.bw;have n9:=l.lt;have V:=h.from_.trans (s.mono (mM h.low m3));obtain⟨es,vL,rs,vj,vy,y⟩:=h.mid;have D:=y.a1 s;have c0:=l.c 0;have c4:=l.c 4;have p0:=D.h3.1;have T:=J (show¬aI g m es w∧¬aL t vL rs w from⟨fun e=>ω1 ((y.two.dk.lt _ e).2),fun e=>ω1 ((y.two.rk.lt _ e).2)⟩);have G:=h.pd;have Q:=J ((D.a1 (lS _ r).drew).bootL (by show lo<=r;omega) G N a.Ak a.kz a.ck (((i.o.rd.a1 (V.drew)).more h.low)) i.o.wf (ω2 i.o.le i.o.cap));have m9:=J u;have m5:=J (s.mono m3);have m7:=J l;have H:=J h;have m8:=J G;clear u l h s y D G V;go_enter Tryz.func27,Tryz.ntmps27;go_upto_region 1 with fail
 rw[<-m9.o];go_upto_region 7 with fail
 refine wp_region_held_drew (S:=fun W=>W.cell? ⟨q,0,none⟩=some (.pointer (some ⟨g,0,none⟩))∧W.cell? ⟨w,4,none⟩=some (.slice a.Ak a.kz a.ck)∧True∧True) κ ⟨p0,c4,trivial,trivial⟩ (fun f=>?_);refine zT 0 (k:=zT 1 (k:=zT 2 (k:=zT 3 (k:=zT 4 (k:=zT 5 (k:=?_))))));simp only[zA,zB,zF,zG,zC,zD,zE];refine zV 6 (k:=fun K p=>?_);simp only[zA,zB];go_simp;refine Q.o.mono ?_;rintro e j ⟨⟨v,rfl⟩,⟨es2,x⟩,X,F⟩;have n8:=F.size;have n5:r.heap.size<=j:=n8;have l9:=F.h4 (show aS r.drew w _ _ from m7.o) T.o.1;have q0:=x.h3.1;have q1:=x.h3.2.1;have C:=l9.c 4;have A:=m5.o.trans (((lS lo r).drew).trans X);have I:=H.o.from_.trans (A.mono H.o.low);have R:=J ((x.a1 (lS _ j).drew).bootR (by show lo<=j;omega) m8.o N a.Ak a.kz a.ck (((i.o.rd.a1 (I.drew)).more H.o.low)) i.o.wf (ω2 i.o.le i.o.cap));have m6:=J A;clear l9 x X F Q A I;dsimp only;refine p.out _ _ ⟨q0,C,trivial,trivial⟩ (fun f=>?_);clear p K;try simp only[zF,zG,zC,zD,zE]
 refine wpAnyH_done κ ?_ _;clear f;go_upto_region 8 with fail
 refine wp_region_held_drew (S:=fun W=>W.cell? ⟨q,1,none⟩=some (.pointer (some ⟨t,0,none⟩))∧W.cell? ⟨w,4,none⟩=some (.slice a.Ak a.kz a.ck)∧True∧True) κ ⟨q1,C,trivial,trivial⟩ (fun f=>?_);refine zT 0 (k:=zT 1 (k:=zT 2 (k:=zT 3 (k:=zT 4 (k:=zT 5 (k:=?_))))));simp only[zA,zB,zF,zG,zC,zD,zE];refine zV 6 (k:=fun K p=>?_);simp only[zA,zB];go_simp;refine R.o.mono ?_;rintro e w3 ⟨⟨v3,rfl⟩,⟨o9,o8,E⟩,Y,Z⟩;have L:=m6.o.trans (((lS lo j).drew).trans Y);have U:=J (oM (H.o.k7 E L (H.o.pd.j8 a.kz) O O) O);have r1:=E.h3.2.1;have e4:=(mK (w:=j) (a:=(w,4)) (Z.block _ (by show w.heap.size<j;omega) T.o.2)).trans (C);clear E Y Z L R;dsimp only;refine p.out _ _ ⟨r1,e4,trivial,trivial⟩ (fun f=>?_);clear p K;try simp only[zF,zG,zC,zD,zE]
 refine wpAnyH_done κ ?_ _;clear f;go_wp2_with fail;refine U.o.mono ?_;rintro e w4 ⟨rfl,M⟩;have H4:=J M;clear M U;go_wp2;go_ret;exact⟨rfl,H4.o⟩
theorem bV7{Q w:World}{lo g m u q n B:Nat}{d:DkD}{oj:Option bQ}(h:eP Q w lo g m u q n B d oj)(hB:B<=100000000)(a:fC)(n8:a.nm.size<=140737488351232)(G:I6 a.n)(ho:a.o=7):
  Calls Tryz.prog 27 #[(q,0),.agg #[a.o,a.n,a.m,.slice a.Al a.rs a.cl,.slice a.Ak a.kz a.ck,.string a.nm,.slice a.Ab a.b a.cb]] w (iA Q lo g m u q n B):=by
 rw[ho];obtain⟨r,y⟩:=eX (d.e6 a.nm.data.toList a.n);have HR:=J y;have HN:=J G;have m8:Hq (PD n B r.2):=J (by rw[y];exact h.pd.run (.cut a.nm.data.toList a.n));obtain⟨s,t⟩:=eX (w.alloc (.cells #[.int .i64 7,a.n,a.m,.slice a.Al a.rs a.cl,.slice a.Ak a.kz a.ck,.string a.nm,.slice a.Ab a.b a.cb] 43));have L:=bN t;have j:=kN t;have n5:=h.bw;have o9:=j.lt;obtain⟨es,vL,rs,vj,vy,x⟩:=h.mid;have D:=x.a1 L;have c0:=j.c 0;have c5:=j.c 5;have c1:=j.c 1;have p0:=D.h3.1;have C:=J (show¬aI g m es w∧¬aL u vL rs w from⟨fun e=>ω1 ((x.two.dk.lt _ e).2),fun e=>ω1 ((x.two.rk.lt _ e).2)⟩);have l9:=h.pd;have E:=(D.a1 (lS _ s).drew).cutL (by show lo<=s;omega) a.nm n8 a.n G;rw[<-y] at E;have V:=J E;have m9:=J t;have m3:=J (L.mono n5);have m6:=J j;have H:=J h;have m7:=J l9;clear y G t j h L x D E l9;go_enter Tryz.func27,Tryz.ntmps27;go_upto_region 1 with fail
 rw[<-m9.o];go_upto_region 18 with fail
 refine wp_region_held_drew (S:=fun W=>W.cell? ⟨q,0,none⟩=some (.pointer (some ⟨g,0,none⟩))∧W.cell? ⟨w,5,none⟩=some (.string a.nm)∧W.cell? ⟨w,1,none⟩=some (.int .i64 a.n)∧True) κ ⟨p0,c5,c1,trivial⟩ (fun f=>?_);refine zT 0 (k:=zT 1 (k:=zT 2 (k:=zT 3 (k:=zT 4 (k:=zT 5 (k:=zT 6 (k:=zT 7 (k:=?_))))))));simp only[zA,zB,zF,zG,zC,zD,zE];refine zV 8 (k:=fun K p=>?_);simp only[zA,zB];go_simp;refine V.o.mono ?_;rintro e i ⟨rfl,⟨es2,v⟩,Z,M⟩;have o8:=M.size;have n9:s.heap.size<=i:=o8;have P:=M.h4 (show aS s.drew w _ _ from m6.o) C.o.1;have q0:=v.h3.1;have q1:=v.h3.2.1;have A:=P.c 5;have z:=P.c 1;have R:=m3.o.trans (((lS lo s).drew).trans Z);have I:=(v.a1 (lS _ i).drew).cutR (by show lo<=i;omega) m7.o hB a.nm a.n HN.o;rw[<-HR.o,show bU a.nm.data.toList=a.nm from by obtain⟨⟨l⟩⟩:=a.nm;rfl] at I;have X:=J I;have m5:=J R;clear P v Z M V I R;dsimp only;refine p.out _ _ ⟨q0,A,z,trivial⟩ (fun f=>?_);clear p K;try simp only[zF,zG,zC,zD,zE]
 refine zT 9 (k:=?_);simp only[zA,zB,zF,zG,zC,zD,zE];refine wpAnyH_done κ ?_ _;clear f;go_upto_region 19 with fail
 refine wp_region_held_drew (S:=fun W=>W.cell? ⟨q,1,none⟩=some (.pointer (some ⟨u,0,none⟩))∧W.cell? ⟨w,5,none⟩=some (.string a.nm)∧W.cell? ⟨w,1,none⟩=some (.int .i64 a.n)∧True) κ ⟨q1,A,z,trivial⟩ (fun f=>?_);refine zT 0 (k:=zT 1 (k:=zT 2 (k:=zT 3 (k:=zT 4 (k:=zT 5 (k:=zT 6 (k:=zT 7 (k:=?_))))))));simp only[zA,zB,zF,zG,zC,zD,zE];refine zV 8 (k:=fun K p=>?_);simp only[zA,zB];go_simp;refine X.o.mono ?_;rintro e w3 ⟨rfl,⟨p5,p4,F⟩,l8,N⟩;have T:=m5.o.trans (((lS lo i).drew).trans l8);have Y:=J (oM (H.o.k7 F T (by have h9:=m8.o;exact h9) O O) O);have r1:=F.h3.2.1;have e5:=(mK (w:=i) (a:=(w,5)) (N.block _ (by show w.heap.size<i;omega) C.o.2)).trans (A);have e1:=(mK (w:=i) (a:=(w,1)) (N.block _ (by show w.heap.size<i;omega) C.o.2)).trans (z);clear F l8 N T X;dsimp only;refine p.out _ _ ⟨r1,e5,e1,trivial⟩ (fun f=>?_);clear p K;try simp only[zF,zG,zC,zD,zE]
 refine zT 9 (k:=?_);simp only[zA,zB,zF,zG,zC,zD,zE];refine wpAnyH_done κ ?_ _;clear f;go_wp2_with fail;refine Y.o.mono ?_;rintro e w4 ⟨rfl,U⟩;have H4:=J U;clear U Y;go_wp2;go_ret;exact⟨rfl,H4.o⟩
theorem aU0{T w:World}{lo g m G t n B:Nat}{d:DkD}{oj:Option bQ}(h:eP T w lo g m G t n B d oj)(a:fC)(p5:a.nm.size<=140737488351232)(hk:cE8 T a.Ab a.b a.cb)(hB:B+a.b+1<=100000000)(ho:a.o=6):
  Calls Tryz.prog 27 #[(t,0),.agg #[a.o,a.n,a.m,.slice a.Al a.rs a.cl,.slice a.Ak a.kz a.ck,.string a.nm,.slice a.Ab a.b a.cb]] w (iA T lo g m G t (n+1) (B+a.b+1)):=by
 rw[ho];obtain⟨r,M⟩:=eX (d.append a.nm.data.toList [a.b]);have HR:=J M;have HK:=J hk;have q8:Hq (PD (n+1) (B+a.b+1) r.2):=J (by rw[M];exact h.pd.run (.app a.nm.data.toList a.b));clear hk;obtain⟨j,R⟩:=eX (w.alloc (.cells #[.int .i64 6,a.n,a.m,.slice a.Al a.rs a.cl,.slice a.Ak a.kz a.ck,.string a.nm,.slice a.Ab a.b a.cb] 43));have Q:=bN R;have v:=kN R;have p4:=h.bw;have t9:=v.lt;have N:=h.from_.trans (Q.mono (mM h.low p4));obtain⟨es,vL,rs,vj,vy,L⟩:=h.mid;have P:=L.a1 Q;have c0:=v.c 0;have c5:=v.c 5;have c6:=v.c 6;have p0:=P.h3.1;have m8:=aS.lt P.bl;have Y:=J (show¬aI g m es w∧¬aL G vL rs w from⟨fun e=>ω1 ((L.two.dk.lt _ e).2),fun e=>ω1 ((L.two.rk.lt _ e).2)⟩);have m7:=h.pd;have F:=bD j (.cells #[.slice a.Ab a.b a.cb] 34);have l8:=F.size;have x:=(P.a1 F).appL (by omega) m7 (by omega) a.nm p5 (j,0) ⟨a.Ab,a.b,a.cb⟩ ((cS j.drew 34 [.slice a.Ab a.b.length a.cb]).more (by simp)) ((HK.o.rd.a1 (N.trans (F.mono N.size))).more (ω1 N.size)) (by show a.b.length<=_;omega);have A:=x;simp only at A;rw[<-M] at A;clear x F l8;have x:=A;clear A;have n5:=J x;have s9:=J R;have p6:=J (Q.mono p4);have p8:=J v;have H:=J h;have p9:=J m7;clear M R v h Q L P x m7 N;go_enter Tryz.func27,Tryz.ntmps27;go_upto_region 1 with fail
 rw[<-s9.o];go_upto_region 13 with fail
 refine wp_region_held_drew (S:=fun W=>W.cell? ⟨t,0,none⟩=some (.pointer (some ⟨g,0,none⟩))∧W.cell? ⟨w,5,none⟩=some (.string a.nm)∧W.cell? ⟨w,6,none⟩=some (.slice a.Ab a.b a.cb)∧True) κ ⟨p0,c5,c6,trivial⟩ (fun f=>?_);refine zT 0 (k:=zT 1 (k:=zT 2 (k:=zT 3 (k:=zT 4 (k:=zT 5 (k:=zT 6 (k:=zT 7 (k:=?_))))))));simp only[zA,zB,zF,zG,zC,zD,zE];refine zV 8 (k:=fun K q=>?_);simp only[zA,zB];go_simp;have s:=bD j (.cells #[.slice a.Ab a.b a.cb] 34);refine q.out _ _ ⟨(s.cell (p:=⟨t,0,none⟩) (by show t<_;exact m8)).trans p0,(s.cell (p:=⟨w.heap.size,5,none⟩) (by show w.heap.size<_;omega)).trans c5,(s.cell (p:=⟨w.heap.size,6,none⟩) (by show w.heap.size<_;omega)).trans c6,trivial⟩ (fun f=>?_);clear q K s;try simp only[zF,zG,zC,zD,zE]
 refine zV 9 (k:=fun K q=>?_);simp only[zA,zB];go_simp;refine n5.o.mono ?_;rintro e i ⟨rfl,⟨es2,u⟩,o8,Z⟩;have B6:=Z.size;have B1:j.heap.size<=i:=by have h1:=B6;rw[World.size_alloc] at h1;have u:j.drew.heap.size=j:=rfl;omega
 have m6:=Z.h4 ((show aS j.drew w _ _ from p8.o).a1 ((lS _ j.drew).alloc (lR _) _) (show w.heap.size<j.drew from t9)) Y.o.1;have q0:=u.h3.1;have q1:=u.h3.2.1;have C:=m6.c 5;have D:=m6.c 6;have U:=p6.o.trans ((((lS lo j).drew).alloc (by show lo<=j.drew;have:j.drew.heap.size=j:=rfl;omega) _).trans o8);have z:=H.o.from_.trans (U.mono H.o.low);have m9:=aS.lt u.bl;have I:=bD i (.cells #[.slice a.Ab a.b a.cb] 34);have l9:=I.size;have y:=(u.a1 I).appR (by omega) p9.o (by omega) a.nm p5 (i,0) ⟨a.Ab,a.b,a.cb⟩ ((cS i.drew 34 [.slice a.Ab a.b.length a.cb]).more (by simp)) ((HK.o.rd.a1 (z.trans (I.mono z.size))).more (ω1 z.size)) (by show a.b.length<=_;omega);have E:=y;simp only at E;rw[<-HR.o,show bU a.nm.data.toList=a.nm from by obtain⟨⟨l⟩⟩:=a.nm;rfl] at E;clear y I l9;have y:=E;clear E;have n8:=J y;have p7:=J U;clear m6 u o8 Z n5 y U z;dsimp only;refine q.out _ _ ⟨q0,C,D,trivial⟩ (fun f=>?_);clear q K;try simp only[zF,zG,zC,zD,zE]
 refine zT 10 (k:=?_);simp only[zA,zB,zF,zG,zC,zD,zE];refine wpAnyH_done κ ?_ _;clear f;go_upto_region 14 with fail
 refine wp_region_held_drew (S:=fun W=>W.cell? ⟨t,1,none⟩=some (.pointer (some ⟨G,0,none⟩))∧W.cell? ⟨w,5,none⟩=some (.string a.nm)∧W.cell? ⟨w,6,none⟩=some (.slice a.Ab a.b a.cb)∧True) κ ⟨q1,C,D,trivial⟩ (fun f=>?_);refine zT 0 (k:=zT 1 (k:=zT 2 (k:=zT 3 (k:=zT 4 (k:=zT 5 (k:=zT 6 (k:=zT 7 (k:=?_))))))));simp only[zA,zB,zF,zG,zC,zD,zE];refine zV 8 (k:=fun K q=>?_);simp only[zA,zB];go_simp;have s:=bD i (.cells #[.slice a.Ab a.b a.cb] 34);refine q.out _ _ ⟨(s.cell (p:=⟨t,1,none⟩) (by show t<_;exact m9)).trans q1,(s.cell (p:=⟨w.heap.size,5,none⟩) (by show w.heap.size<_;omega)).trans C,(s.cell (p:=⟨w.heap.size,6,none⟩) (by show w.heap.size<_;omega)).trans D,trivial⟩ (fun f=>?_);clear q K s;try simp only[zF,zG,zC,zD,zE]
 refine zV 9 (k:=fun K q=>?_);simp only[zA,zB];go_simp;refine n8.o.mono ?_;rintro e w3 ⟨rfl,⟨B8,B7,V⟩,o9,m5⟩;have j8:=p7.o.trans ((((lS lo i).drew).alloc (by show lo<=i.drew;have:i.drew.heap.size=i:=rfl;omega) _).trans o9);have n9:=J (oM (H.o.k7 V j8 (by have h9:=q8.o;exact h9) O O) O);have r1:=V.h3.2.1;have e5:=(mK (w:=(i.drew.alloc (.cells #[.slice a.Ab a.b.length a.cb] 34))) (a:=(w,5)) (m5.block _ (by show w.heap.size<_;rw[World.size_alloc];have X:i.drew.heap.size=i.heap.size:=rfl;rw[X];omega) Y.o.2)).trans (((((lS i.heap.size i).drew).alloc (lR _) _).cell (p:=(w,5)) (by show w.heap.size<_;omega)).trans C);have e6:=(mK (w:=(i.drew.alloc (.cells #[.slice a.Ab a.b.length a.cb] 34))) (a:=(w,6)) (m5.block _ (by show w.heap.size<_;rw[World.size_alloc];have X:i.drew.heap.size=i.heap.size:=rfl;rw[X];omega) Y.o.2)).trans (((((lS i.heap.size i).drew).alloc (lR _) _).cell (p:=(w,6)) (by show w.heap.size<_;omega)).trans D);clear V o9 m5 j8 n8;dsimp only;refine q.out _ _ ⟨r1,e5,e6,trivial⟩ (fun f=>?_);clear q K;try simp only[zF,zG,zC,zD,zE]
 refine zT 10 (k:=?_);simp only[zA,zB,zF,zG,zC,zD,zE];refine wpAnyH_done κ ?_ _;clear f;go_wp2_with fail;refine n9.o.mono ?_;rintro e w4 ⟨rfl,h4⟩;have H4:=J h4;clear h4 n9;go_wp2;go_ret;exact⟨rfl,H4.o⟩
theorem iA.mono{a w' :World}{lo g m b c n B n' B' :Nat}{e:Ending}(h:iA a lo g m b c n B e w')(k:n<=n')(j:B<=B'):iA a lo g m b c n' B' e w' :=by
 obtain⟨f,d,l,i⟩:=h;exact⟨f,d,l,i.mono k j⟩
theorem bV5{i w:World}{lo g m r q n B:Nat}{d:DkD}{oj:Option bQ}(h:eP i w lo g m r q n B d oj)(a:fC)(c:a.Ok i)(z:n<=900)(F:B+100+12*a.wt<=100000000):
  Calls Tryz.prog 27 #[(q,0),.agg #[a.o,a.n,a.m,.slice a.Al a.rs a.cl,.slice a.Ak a.kz a.ck,.string a.nm,.slice a.Ab a.b a.cb]] w (iA i lo g m r q (n+1) (B+100+12*a.wt)):=by
 have G:a.b+7<=a.wt:=by unfold fC.wt;omega
 have H:iZ a.rs<=a.wt:=by unfold fC.wt;omega
 have f:∀{E C :Nat},E <=n+1->C <=B+100+12*a.wt->∀(e:Ending) (A :World),iA i lo g m r q E C e A ->iA i lo g m r q (n+1) (B+100+12*a.wt) e A :=fun s t e A p=>p.mono s t
 by_cases p:a.o=3;exact(bV6 h O a c.n c.m p).mono (f O O);by_cases u:a.o=4;exact(bM0 h O a c.k u).mono (f O O);by_cases v:a.o=5;exact(bM4 h O a v).mono (f O O);by_cases x:a.o=6;exact(aU0 h a c.nl c.b O x).mono (f O O);by_cases y:a.o=7;exact(bV7 h O a c.nl c.n y).mono (f O O);cases oj with
 |none=>exact(bM3 h a ⟨p,u,v,x,y⟩).mono (f O O)
 |some j=>
  by_cases D:a.o=0;exact(bM5 h a c.l z O D).mono (f O O);by_cases s:a.o=1;exact(bM2 h a c.n c.m z O s).mono (f O O);by_cases t:a.o=2;exact(aM1 h a c.n c.m z O t).mono (f O O);exact(bM1 h a ⟨D,s,t,p,u,v,x,y⟩).mono (f O O)
theorem bI4{c e:World}{lo b:Nat}{room:Int}(f:aV c lo (lo+1) lo ⟨false,false,0,0⟩ room [])(g:aR e b b ⟨false,false,0,0⟩ room (.slice none 0 0) [])(i:Below c c e)(m:c<=b):
  aC0 e lo (lo+1) lo b ⟨⟨false,false,0,0⟩,room,[]⟩ ⟨⟨false,false,0,0⟩,room,[]⟩ [] (.slice none 0 0) []:=by
 have l:=f.lt (lo+1) (.inl rfl);refine⟨f.a1 i,rfl,⟨g.b4,World.ownsRow_nil _ _ _ _,(fun q a=>by cases a),(fun q a=>by cases a),List.Pairwise.nil,O,g.num⟩,rfl,fun k j d=>?_⟩;rcases d with rfl|d|⟨q,a,_⟩
 rcases j with h|h|⟨q,a,_⟩
 omega;omega;cases a;cases d;cases a
def cD1(acs:List fC)(k:Nat):Nat:=k*100+12*((acs.take k).map fC.wt).sum
theorem bR9{a:List fC}{k:Nat}(b:k<a):cD1 a k+100+12*a[k].wt=cD1 a (k+1):=by
 unfold cD1;rw[List.take_succ_eq_append_getElem b,mE,List.sum_append];simp only[mG,List.map_nil,List.sum_cons,List.sum_nil];omega
theorem bD5:∀(a:List fC) (k:Nat),((a.take k).map fC.wt).sum<=(a.map fC.wt).sum
 |[],k=>by simp
 |x::r,0=>by simp
 |x::r,k+1=>by
  have:=bD5 r k;simp only[List.take_succ_cons,mG,List.sum_cons];omega
theorem cB7{a:List fC}{k:Nat}(b:k<=81)(c:(a.map fC.wt).sum<=1048576):cD1 a k<=12600000:=by
 have:=bD5 a k;unfold cD1;omega
theorem aX9{b w:World}{lo g m c a n B:Nat}{d:DkD}{oj:Option bQ}(h:eP b w lo g m c a n B d oj)(r:n<=1000)(f:B<=100000000):
  Calls Tryz.prog 13 #[(a,0)] w fun e i =>e=.returned (.bool true)∧eP b i lo g m c a n B d oj:=by
 obtain⟨s,v,u,x,y,k,l,o,t⟩:=h.ex;refine(bA2 k l o (h.pd.jdk f) O (fun j q=>(h.pj j q).entsLen r f)).mono ?_;rintro e i ⟨rfl,p⟩;exact⟨rfl,h.a1 p⟩
theorem uY(room:Int)(a8:I6 room)(A:Option Addr)(f:List fC)(c:Nat)(w:World)(D:aH8 w A f c)(s9:(f.map fC.wt).sum<=1048576)(L:nH w):
  Calls Tryz.prog 6 #[room,.slice A f c] w fun e w' =>e=.returned (.bool true)∧Below w w w' :=by
 have B1:=J D.rd;have j8:=J D.ok;have B8:=D.le;have B6:=J s9;have HF:=J L;have n5:=J (aW7 w L);have m9:=J a8;clear D s9 L a8;go_enter Tryz.func6,Tryz.ntmps6;go_wp2_with fail;refine n5.o.mono ?_;rintro e s ⟨rfl,R⟩;have X:=R.size;have m6:=J R;clear R n5;go_wp2_with fail;refine(aN1 room m9.o s).mono ?_;rintro e v ⟨rfl,K,S⟩;have p9:=S.size;have m7:=J S;have HD:=J K;have B9:=(K.lt _ (.inl rfl)).2;clear S K;go_wp2_with fail;refine(bS3 room m9.o v).mono ?_;rintro e x ⟨rfl,P,z⟩;have q8:=z.size;have C0:=P.l5;have t:=bI4 HD.o P z (lR _);obtain⟨rm,p8⟩:=eX (max room 0);rw[<-p8] at t;obtain⟨w3,E⟩:=eX (x.alloc (.cells #[.pointer (some ⟨s.heap.size+1,0,none⟩),(v,0),.pointer none,.pointer none] 33));have C:=bN E;have Q:nJ w3 x (s.heap.size+1) v (.pointer none) (.pointer none):=by rw[E];exact aS.new x _ _
 have C3:=C.size;have o8:eP w w3 s (s.heap.size+1) s v x 0 0 ⟨⟨false,false,0,0⟩,rm,[]⟩ none:=
  ⟨⟨_,_,_,_,_,t.a1 C,Q,⟨rfl,rfl,rfl,rfl⟩,⟨O,fun B=>ω1 ((t.dk.lt _ B).2),fun B=>ω1 ((t.rk.lt _ B).2)⟩⟩,⟨⟨by simp[bC],σ,fun q h=>by cases h⟩,σ⟩,(fun j e=>by cases e),X,O,m6.o.trans ((m7.o.trans ((z.trans (C.mono q8)).mono p9)).mono X),HF.o⟩
 have y:=J (oM o8 O);have n9:=J E;have G:=aS.c Q 0;clear P z t E C Q o8 HD m7 m6 p8;go_upto_region 3 with fail
 rw[<-n9.o];obtain⟨W,U⟩:=eX s.heap.size;obtain⟨g,p5⟩:=eX (W+1);obtain⟨g2,f9⟩:=eX v.heap.size;obtain⟨sb,H⟩:=eX x.heap.size;rw[<-U,<-f9,<-H] at y⊢;rw[<-U,<-H] at G;rw[<-p5] at y G;clear U f9 H p5 n9 X p9 q8 C3 B9 C0;go_wp2_with fail;refine y.o.mono ?_;rintro e w4 ⟨rfl,d4,C5,h4⟩;have Z:=J h4;clear h4 y G;go_wp2_with fail;go_loopw [7,8,9] (fun ok n _ wr=>∃(k:Nat),k<=f∧n=.int .i64 k∧k<=80∧ok=.bool true∧Hq (∃d oj,eP w wr W g W g2 sb k (cD1 f k) d oj)) (fun _ n _ _=>f.length-(intOf n).toNat)
 case atStart=>exact⟨0,O,rfl,O,rfl,J ⟨_,_,Z.o.mono O O⟩⟩
 obtain⟨k,B,rfl,C2,rfl,HK⟩:=hrel;clear Z;obtain⟨d,oj,M⟩:=HK.o;have HP:=J M;have T:=M.from_;have m8:=J T;clear M HK;by_cases l:k<f;rotate_left
 ·have p6:¬(k:Int)<(f:Int):=O
  go_wp2;go_ret;exact⟨rfl,m8.o⟩
 by_cases I:k<80
 ·have V:=j8.o _ (lX l)
  obtain⟨i,r,rfl,_,B7,p4⟩:=B1.o (by rw[yV];omega);have h:∀j,(N:j<7)->wr.cell? ⟨i,r+k*7+j,none⟩=(f[k].cs)[j]? :=fun j N=>by
   obtain⟨u,hu⟩:∃u,(f[k].cs)[j]? =some u:=⟨_,lW (show j<(f[k].cs).length from N)⟩
   rw[hu,Nat.add_assoc];exact(T.cell (p:=⟨i,_,none⟩) B7).trans (p4 _ _ (by rw[bC5 f l N];exact hu))
  have Y:=bR9 l;have p7:=cB7 (k:=k+1) O B6.o;obtain⟨a,o9⟩:=eX (f[k]);rw[<-o9] at h V Y;have q0:wr.cell? (i,r+k*7)=some (.int .i64 a.o):=h 0 O;have q1:wr.cell? (i,r+k*7+1)=some (.int .i64 a.n):=h 1 O;have q2:wr.cell? (i,r+k*7+2)=some (.int .i64 a.m):=h 2 O;have q3:wr.cell? (i,r+k*7+3)=some (.slice a.Al a.rs a.cl):=h 3 O;have q4:wr.cell? (i,r+k*7+4)=some (.slice a.Ak a.kz a.ck):=h 4 O;have q5:wr.cell? (i,r+k*7+5)=some (.string a.nm):=h 5 O;have q6:wr.cell? (i,r+k*7+6)=some (.slice a.Ab a.b a.cb):=h 6 O;have F:=bV5 HP.o a V O O;rw[Y] at F;have f8:=J F;have p6:(k:Int)<(f:Int):=O;have C4:(k:Int)<80:=O;have t9:=J p7;clear h V p4 T Y p7 o9 F HP;go_wp2_with fail;refine f8.o.mono ?_;rintro e w5 ⟨rfl,d5,C6,h5⟩;have n8:=J (aX9 h5 O (ω1 t9.o));clear h5 f8 q0 q1 q2 q3 q4 q5 q6;go_wp2_with fail;refine n8.o.mono ?_;rintro e w6 ⟨rfl,h6⟩;have H6:=J h6;clear h6 n8;go_wp2;go_roundw
  case rel=>exact⟨k+1,O,by go_num,O,rfl,J ⟨_,_,H6.o⟩⟩
  case measure=>simp[intOf];omega
 have C1:k=80:=O;subst C1;have p6:(80:Int)<(f:Int):=O;clear l I;go_wp2;go_ret;exact⟨rfl,m8.o⟩
theorem journalPlays_facts(W:World)(h:laidMet Tryz.prog Rows.journalPlaysUptoRow.laid W):nH W:=bO4 h
theorem journalPlays_walk(w:World)(f:nH w)(room:Int)(b:I6 room)(A:Option Addr)(a:List fC)(c:Nat)(g:aH8 w A a c)(d:(a.map fC.wt).sum<=1048576):
  Calls Tryz.prog 6 #[room,.slice A a c] w fun e h =>e=.returned (.bool true)∧Below w w h :=uY room b A a c w g d f
end Go.Proofs.YtgeofijddhflaaaGreatDoor
