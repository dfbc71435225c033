/- A journal of any disk, in plain words: what Save, SetMeta, Compact leave, within bounds. No condition. -/
import Derived.Test.YtgeofijddhflaaaGreatDoorPJnOpen
set_option linter.unusedVariables false
set_option linter.unusedSimpArgs false
set_option maxHeartbeats 8000000
set_option maxRecDepth 100000
namespace Go.Proofs.YtgeofijddhflaaaGreatDoor
open Go.RowKit Go.Maps Oct
section
variable{w w' :World}{F F' :Nat->Prop}{q:RqR}
theorem nT.b1(h:nT w F q)(b:w.heap.size<=w')(a:∀k,F k->w'.heap[k]? =w.heap[k]?):nT w' F q:=
 ⟨h.num,h.cap,h.c7.b1 b a,h.map,fun x hx=>by obtain⟨A,c,e,d,f,g⟩:=h.h6 x hx;exact⟨A,c,e,d,f,g.b1 b a⟩,h.a7.b1 b a,h.lo,h.em⟩
theorem nT.mono(h:nT w F q)(a:∀k,F k->F' k):nT w F' q:=
 ⟨h.num,h.cap,h.c7.mono a,h.map,fun x hx=>by obtain⟨A,c,e,b,d,f⟩:=h.h6 x hx;exact⟨A,c,e,b,d,f.mono a⟩,h.a7.mono a,h.lo,h.em⟩
theorem rQ.rd{B:Nat}(h:rQ w B q)(f:gU q.s)(e:q.lo=q.s.b2)(a8:q.em=q.s.a7.isEmpty)(c:∀k,B<=k->k<w.heap.size->F k):nT w F q:=by
 obtain⟨j,m,a,g,o,_⟩:=aK h.c7;obtain⟨l,n,b,d,i,_⟩:=Own.b3 h.a7;unfold RqR.vl at a;unfold RqR.ve at b;injection a with _ _ a
 injection b with _ e3 b
 rw[lU] at d e3;exact⟨f,⟨by rw[a];exact g,by rw[a];unfold maxLen;omega,by rw[b];exact d,by rw[b];exact i⟩,dM.e8 h.c7 c (by rw[aN];omega),h.map,fun x hx=>(h.h6 x hx).datF c,dM.e1 h.a7 c,e,a8⟩
end
structure jX(w:World)(F:Nat->Prop)(gj g:Nat)(j:bQ):Prop where
 at_:∃A c recs,aS w gj 94 #[(g,0),j.c6,j.h7,.slice A (recs:List RqR).length c,j.bad]∧(recs.length<=c∧c<=maxLen)∧dM w F A (aY recs)∧recs.map RqR.s=j.b0∧∀q∈recs,nT w F q∧q.s.l.length<=4611686018427387904
 len:j.b0.length<=1099511627776
 num:(I6 j.c6)∧(I6 j.h7)
section
variable{w w' :World}{F F' :Nat->Prop}{gj g:Nat}{j:bQ}
theorem jX.b1(h:jX w F gj g j)(e:w.heap.size<=w')(b:∀k,F k->w'.heap[k]? =w.heap[k]?)(r:w'.heap[gj]? =w.heap[gj]?):jX w' F gj g j:=by
 obtain⟨⟨A,c,f,i,l,m,n,a⟩,o,p⟩:=h;exact⟨⟨A,c,f,r.trans i,l,m.b1 e b,n,fun q d=>⟨(a q d).1.b1 e b,(a q d).2⟩⟩,o,p⟩
theorem jX.mono(h:jX w F gj g j)(b:∀k,F k->F' k):jX w F' gj g j:=by
 obtain⟨⟨A,c,e,f,i,l,m,a⟩,n,o⟩:=h;exact⟨⟨A,c,e,f,i,l.mono b,m,fun q d=>⟨(a q d).1.mono b,(a q d).2⟩⟩,n,o⟩
theorem jX.lt(h:jX w F gj g j):gj<w:=by
 obtain⟨⟨A,c,b,a,_⟩,_⟩:=h;exact a.lt
theorem jX.a1(h:jX w F gj g j)(b:∀k,F k->k<w.heap.size)(a:Below w w w'):jX w' F gj g j:=h.b1 a.size (fun k c=>a.block k (b k c)) (a.block gj h.lt)
theorem jX.base(h:jX w F gj g j):Calls Tryz.prog 41 #[(gj,0)] w fun e w' =>e=.returned (.tuple #[.int .i64 j.base.1,.int .i64 j.base.2])∧Below w w w' :=by
 obtain⟨⟨A,c,y,o,p,i,k,l⟩,t,_⟩:=h;have m:=o.c 3;clear o;unfold bQ.base;rw[<-k];rcases y with _|⟨q,r⟩
 ·clear p i k l t
  simp only[List.length_nil] at m;go_enter Tryz.func41,Tryz.ntmps41;go_wp2;go_ret2;exact⟨rfl,lS _ w⟩
 obtain⟨B,C,rfl,_,D,d⟩:=i (by rw[bS];simp);have v:=d 1 _ rfl;have x:=d 2 _ rfl;have z:=(l q σ).1.num.a8;obtain⟨u,f⟩:=eX ((q::r).length);have H:0<u:=by rw[f];simp
 rw[<-f] at m;have G:((u:Int)==0)=false:=by simp;omega
 obtain⟨n,a⟩:=eX q.s.a8;obtain⟨I,b⟩:=eX q.s.c6;rw[<-a] at v z;rw[<-b] at x;simp only[mG];rw[<-a,<-b];clear p i k l t d f a b;have E:IntKind.i64.wrap (n-1)=n-1:=mH _ O;go_enter Tryz.func41,Tryz.ntmps41;go_wp2_with fail;go_quiet (fail);go_wp2;go_ret2;exact⟨rfl,aD (lS _ w) _⟩
theorem jX.b7(h:jX w F gj g j):Calls Tryz.prog 42 #[(gj,0)] w fun e w' =>e=.returned (.tuple #[.int .i64 j.b7.1,.int .i64 j.b7.2])∧Below w w w' :=by
 obtain⟨⟨A,c,g8,h1,h2,B,C,D⟩,h6,_⟩:=h;have v:=h1.c 3;clear h1;have z:g8.length=j.b0:=by rw[<-C,lU]
 unfold bQ.b7;rw[<-C];rcases mJ g8 with rfl|⟨r,q,rfl⟩
 ·clear h2 B C D h6 z
  simp only[List.length_nil] at v;go_enter Tryz.func42,Tryz.ntmps42;go_wp2;go_ret2;exact⟨rfl,lS _ w⟩
 rw[mA] at B D;rw[mA] at z;simp only[mA,lT,mC,List.length_nil,Nat.zero_add,mE,mG,List.map_nil,List.getLast?_append,List.getLast?_singleton,Option.some_or] at v z⊢;obtain⟨hR,i6⟩:=D q σ;obtain⟨a,b,rfl,_,t,m⟩:=B (by rw[bS];simp);have l:∀i,i<8->(aY (r++[q]))[r.length*8+i]? =(gZ q)[i]? :=fun i hi=>by
  rw[dY _ (k:=r.length) σ hi];simp
 have E:=m (r.length*8+0) _ (l 0 O);have G:=m (r.length*8+1) _ (l 1 O);have H:=m (r.length*8+2) _ (l 2 O);have x:=m (r.length*8+3) _ (l 3 O);have y:=m (r.length*8+4) _ (l 4 O);have I:=m (r.length*8+5) _ (l 5 O);have L:=m (r.length*8+6) _ (l 6 O);have M:=m (r.length*8+7) _ (l 7 O);have N:=J (fun n=>(hR.b1 (w' :=w.drewN n) (lR _) (fun _ _=>rfl)).b7 i6);obtain⟨s,tn,lo,em,Q,T,P,R,rs⟩:=q;unfold RqR.vl RqR.ve at N;simp only[RqR.vl,RqR.ve] at x y N⊢;obtain⟨n,hn⟩:=eX r.length;rw[<-hn] at v E G H x y I L M;have U:w.cell? (a,b+n*8)=some (.int .i64 s.k):=by simpa[Nat.add_assoc] using E
 have V:w.cell? (a,b+n*8+1)=some (.int .i64 s.a8):=by simpa[Nat.add_assoc] using G
 have X:w.cell? (a,b+n*8+2)=some (.int .i64 s.c6):=by simpa[Nat.add_assoc] using H
 have Y:w.cell? (a,b+n*8+3)=some (.slice Q rs T):=by simpa[Nat.add_assoc] using x
 have Z:w.cell? (a,b+n*8+4)=some (.slice P s.a7 R):=by simpa[Nat.add_assoc] using y
 have d5:w.cell? (a,b+n*8+5)=some (.int .i64 lo):=by simpa[Nat.add_assoc] using I
 have d6:w.cell? (a,b+n*8+6)=some (.bool em):=by simpa[Nat.add_assoc] using L
 have d7:w.cell? (a,b+n*8+7)=some (.bool tn):=by simpa[Nat.add_assoc] using M
 have j6:n<=1099511627776:=O;have hw:IntKind.i64.wrap (((n+1:Nat):Int)-1)=(n:Int):=by rw[mH _ O];omega
 have j8:IntKind.i64.wrap (n:Int)=(n:Int):=mH _ O;have j9:0<=(n:Int)∧(n:Int)<(n:Int)+1:=O;clear h2 B C D h6 m l z hR i6 hn E G H x y I L M;go_enter Tryz.func42,Tryz.ntmps42;go_wp2_with fail;refine wp_region_held_drew (S:=fun W=>W.cell? ⟨gj,3,none⟩=some (.slice (some ⟨a,b,none⟩) (n+1) c)∧W.cell? ⟨a,b+n*8,none⟩=some (.int .i64 s.k)∧W.cell? ⟨a,b+n*8+1,none⟩=some (.int .i64 s.a8)∧W.cell? ⟨a,b+n*8+2,none⟩=some (.int .i64 s.c6)∧W.cell? ⟨a,b+n*8+3,none⟩=some (.slice Q rs T)∧W.cell? ⟨a,b+n*8+4,none⟩=some (.slice P s.a7 R)∧W.cell? ⟨a,b+n*8+5,none⟩=some (.int .i64 lo)∧W.cell? ⟨a,b+n*8+6,none⟩=some (.bool em)∧W.cell? ⟨a,b+n*8+7,none⟩=some (.bool tn)) κ ⟨v,U,V,X,Y,Z,d5,d6,d7⟩ (fun u=>?_);refine zT 0 (k:=zT 1 (k:=zT 2 (k:=zT 3 (k:=zT 4 (k:=zT 5 (k:=zT 6 (k:=zT 7 (k:=zT 8 (k:=zT 9 (k:=zT 10 (k:=cE4 11 (k:=?_))))))))))));simp only[zA,zB,zF,zG,zC,zD,zE];refine zV 12 (k:=fun K hK=>?_);simp only[zA,zB];go_simp;refine(show Calls _ _ _ w.drew _ from N.o 1).mono ?_;rintro e f ⟨rfl,i4⟩;have d:Below w w f:=((lS _ w).drew).trans i4;have HB:=J d;have k3:f.cell? (gj,3)=_:=(d.cell (p:=(gj,3)) (mI w (gj,3) v)).trans v;have y0:f.cell? (a,b+n*8)=_:=(d.cell (p:=(a,b+n*8)) t).trans U;have y1:f.cell? (a,b+n*8+1)=_:=(d.cell (p:=(a,b+n*8+1)) t).trans V;have y2:f.cell? (a,b+n*8+2)=_:=(d.cell (p:=(a,b+n*8+2)) t).trans X;have y3:f.cell? (a,b+n*8+3)=_:=(d.cell (p:=(a,b+n*8+3)) t).trans Y;have y4:f.cell? (a,b+n*8+4)=_:=(d.cell (p:=(a,b+n*8+4)) t).trans Z;have y5:f.cell? (a,b+n*8+5)=_:=(d.cell (p:=(a,b+n*8+5)) t).trans d5;have y6:f.cell? (a,b+n*8+6)=_:=(d.cell (p:=(a,b+n*8+6)) t).trans d6;have y7:f.cell? (a,b+n*8+7)=_:=(d.cell (p:=(a,b+n*8+7)) t).trans d7;refine hK.out _ _ ⟨k3,y0,y1,y2,y3,y4,y5,y6,y7⟩ (fun u=>?_);clear hK K i4 d;try simp only[zF,zG,zC,zD,zE]
 refine zT 13 (k:=zT 14 (k:=zT 15 (k:=zT 16 (k:=?_))));simp only[zA,zB,zF,zG,zC,zD,zE];refine wpAnyH_done κ ?_ _;go_wp2;go_ret2;exact⟨rfl,HB.o⟩
end
theorem tY{F:Nat->Prop}(A:Option Addr)(rs:List EntR)(c:Nat)(w:World)(hr:dM w F A (aG rs))(hd:∀q∈rs,gQ w F q.v q.e.b)(hF:∀k,F k->k<w.heap.size)(hn:rs.length<=1099511627776)(hl:∀q∈rs,q.e.b.length<=1099511627776)(hc:rs<=c∧c<=maxLen):
  Calls Tryz.prog 91 #[.slice A rs c] w fun e w' =>∃v n,e=.returned v∧w'.ownsRow w 65 4 v rs (aG n)∧n.map EntR.e=rs.map EntR.e∧(∀q∈n,Bs w' w q.v q.e.b)∧Below w w w' :=by
 have HR:=J hr;have HD:=J hd;have HL:=J hl;clear hr hd hF hl;go_enter Tryz.func91,Tryz.ntmps91;go_wp2_with fail;go_loopw [4,3,5] (fun i v _ wr=>∃(k:Nat) (l:List EntR),k<=rs∧i=.int .i64 k∧Hq (l=k)∧Hq (l.map EntR.e=(rs.take k).map EntR.e)∧Hq (wr.ownsRow w 65 4 v k (aG l))∧Hq (∀q∈l,Bs wr w q.v q.e.b)∧Hq (Below w w wr)) (fun i _ _ _=>rs.length-(intOf i).toNat)
 case atStart=>exact⟨0,[],O,rfl,J rfl,J rfl,J (World.ownsRow_nil _ _ _ _),J (fun q a=>by cases a),J (lS _ _)⟩
 obtain⟨k,l,hk,rfl,C4,q8,I,R,g⟩:=hrel;have B8:=g.o.size;obtain⟨Av,cv,hv,_,_,_⟩:=aK I.o;subst hv;by_cases m:k<rs;rotate_left
 ·obtain rfl:k=rs:=O
  go_wp2;go_ret;have h2:=q8.o;rw[List.take_length] at h2;exact⟨_,l,rfl,I.o,h2,R.o,g.o⟩
 obtain⟨B,C,rfl,_,P,E⟩:=HR.o (by rw[aN];omega);obtain⟨q,a⟩:=eX (rs[k]);have n5:q∈rs:=by rw[a];exact lX m
 have B9:rs.take (k+1)=rs.take k++[q]:=by rw[a];exact List.take_succ_eq_append_getElem m
 obtain⟨H,T,B1,C9,D6,n8⟩:=HD.o q n5;have D0:=HL.o q n5;have z:∀j,j<4->(aG rs)[k*4+j]? =(dU q)[j]? :=fun j V=>by rw[bM _ m V,a]
 have e0:=(g.o.cell (p:=(B,C+k*4)) P).trans (E (k*4) _ (z 0 O));have e1:=(g.o.cell (p:=(B,C+k*4+1)) P).trans (E (k*4+1) _ (z 1 O));have e2:=(g.o.cell (p:=(B,C+k*4+2)) P).trans (E (k*4+2) _ (z 2 O));have e3:wr.cell? (B,C+k*4+3)=some (.slice H q.e.b T):=(g.o.cell (p:=(B,C+k*4+3)) P).trans ((E (k*4+3) _ (z 3 O)).trans (by rw[<-B1]));obtain⟨e,U⟩:=eX q.e;rw[<-U] at e0 e1 e2 e3 C9 n8 D0;have HE:=J U;have C5:=J B9;obtain⟨h,Q⟩:=eX (wr.alloc (.cells #[e.ix,e.tm,e.kd,.slice H e.b T] 65));have D:=bN Q;have m3:=kN Q;have m9:=m3.lt;obtain⟨wB,o8⟩:=eX (h.alloc (.cells #[] 5));have t:=bN o8;have s9:wB.ownsRow h 5 1 (.slice (h,0) 0 0) 0 []:=by rw[o8];exact gD h _ _
 have m5:=m3.a1 t m9;have B7:=D.size;have D7:=t.size;have b3:=m5.c 3;have B6:0<e.b.length->∃ad,H=some ad∧∀j u,(cells e.b)[j]? =some u->wB.cell? (ad.add j)=some u:=fun h0=>by
  obtain⟨G,xo,rfl,_,D5,D4⟩:=n8 (by rw[aB];exact h0);refine⟨_,rfl,fun j u W=>?_⟩;rw[add_lit];exact(t.cell (p:=(G,xo+j)) (by show G<h;omega)).trans ((D.cell (p:=(G,xo+j)) (by show G<wr;omega)).trans ((g.o.cell (p:=(G,xo+j)) D5).trans (D4 j u W)))
 have p9:=J B6;have g8:=J s9;have C7:=J Q;have p5:=J m5;have l8:=J (g.o.trans ((D.trans (t.mono B7)).mono B8));have X:=J (D.trans (t.mono B7));subst o8;clear Q D m3 t s9 m5 B6 n8 a n5 B9 z E U B1;go_upto_region 6 with fail
 rw[<-C7.o];go_upto_region 7 with(at_builtin;go_must (refine fW rfl (.tmp 16) (.tmp 18) 34 rfl h.heap.size 5 _ 1 1 Tryz.underlying34 bJ rfl δ (some ⟨h.heap.size,0,none⟩) rfl g8.o H e.b.length T (cells e.b) rfl (by rw[aB];omega) p9.o (by intro u W;obtain⟨x,_,rfl⟩:=mF.1 W;rfl) (by unfold maxLen;omega) O O ?_;intro v6 y S m7;obtain⟨d,f,D3,_,_,_⟩:=aK S;subst D3;have L:=p5.o.a1 m7 O;have f3:y.cell? ⟨wr.heap.size,3,none⟩=_:=L.cell 3;have z3:y.frozen? ⟨wr.heap.size,3,none⟩=false:=L.a6 _;have p7:=J S;have o9:=J m7;have p4:=J L;clear S m7 L))
 have s:=p4.o.b8 3 (.slice d e.b f);have N:=dV (X.o.trans (o9.o.mono X.o.size)) wr 3 (.slice d e.b f) (lR _);have m6:Own (y.setCell (wr,3) (.slice d e.b f)) h 5 (.slice d e.b f) (cells e.b):=Own.j5 (show Own y h 5 (.slice d e.b f) (cells e.b) from by unfold Own;rw[aB];exact p7.o) (aA y wr 3 _) O;obtain⟨r,n9⟩:=eX (y.setCell (wr,3) (.slice d e.b f));rw[<-n9] at s N m6;have C6:=J n9;have g0:r.cell? (wr,0)=some (.int .i64 e.ix):=s.cell 0;have g1:r.cell? (wr,1)=some (.int .i64 e.tm):=s.cell 1;have g2:r.cell? (wr,2)=some (.int .i64 e.kd):=s.cell 2;have g3:r.cell? (wr,3)=some (.slice d e.b.length f):=s.cell 3;have D1:=N.size;have m8:=bA r (.cells #[e.ix,e.tm,e.kd,.slice d e.b f] 65);have M:=N.trans (m8.mono D1);have Y:=J (g.o.trans (M.mono B8));have K:=J (bT I.o M);have p8:=J (fun q a=>Own.a1 (R.o q a) M (lR _));have p6:=J (Own.mono (Own.a1 m6 m8 (lR _)) (show w.heap.size<=h by omega));have HC:=J (dH (aS.new r 65 #[e.ix,e.tm,e.kd,.slice d e.b f]));clear s N m6 n9 m8 M I R g p7 o9 p4 X l8 p9 g8 p5 f3 z3 b3 e0 e1 e2 e3;rw[<-C6.o];go_wp2_with (at_builtin;go_must (refine dZ rfl (.tmp 21) (.tmp 23) 40 rfl w.heap.size 65 (.agg #[.int .i64 0,.int .i64 0,.int .i64 0,.slice none 0 0]) 4 48 Tryz.underlying40 dW rfl δ _ k (aG l) rfl K.o ⟨r.heap.size,0,none⟩ 1 1 _ rfl rfl HC.o (by simp[Value.oneCell']) (by unfold maxLen;omega) O (ω1 Y.o.size) ?_;intro v9 w9 d8 t9 C8;have C2:=J d8;have Z:=J t9;clear d8 t9 C8));have C0:=J (Below.grown Y.o Z.o Y.o.size (fun j V=>(mL K.o j V).1));have C1:=J (Own.kept p6.o Z.o (jrow_type_ne p6.o K.o δ));have C3:=J (fun q a=>Own.kept (p8.o q a) Z.o (jrow_type_ne (p8.o q a) K.o δ));go_roundw
 case rel=>
  refine⟨k+1,l++[⟨.slice d e.b f,e⟩],O,by go_num,J (by rw[lT,C4.o];rfl),J ?_,J ?_,J (fun q a=>?_),C0⟩;rw[C5.o,mE,mE,q8.o,mG,List.map_nil,mG,List.map_nil,HE.o];rw[eG];have h1:=C2.o;rw[show aG [(⟨.slice d e.b.length f,e⟩:EntR)]=[.int .i64 e.ix,.int .i64 e.tm,.int .i64 e.kd,.slice d e.b.length f] from by simp[aG,dU]];exact h1;rcases mB.1 a with a|a
  exact C3.o q a;obtain rfl:=lY.1 a;exact C1.o
 case measure=>simp[intOf];omega
theorem jX.l2{w:World}{F:Nat->Prop}{gj g:Nat}{j:bQ}(h:jX w F gj g j):∀s∈j.b0,gU s:=fun s a=>by
 obtain⟨⟨A,c,b,i,k,l,d,e⟩,_⟩:=h;rw[<-d] at a;obtain⟨q,f,rfl⟩:=mF.1 a;exact(e q f).1.num
theorem aG9{j:bQ}(h:∀s∈j.b0,gU s):-1<=j.base.1∧j.base.1<=9223372036854775807:=by
 unfold bQ.base;rcases hs:j.b0 with _|⟨s,r⟩
 simp;have:=(h s (by rw[hs];simp)).a8;simp only;omega
theorem aH0{j:bQ}(h:∀s∈j.b0,gU s):-9223372036854775808<=j.b7.1∧j.b7.1<=9223372036854775807:=by
 unfold bQ.b7;rcases mJ j.b0 with b|⟨r,s,b⟩
 rw[b];simp;rw[mA] at b;have c:=h s (by rw[b];simp);rw[b];simp only[List.getLast?_append,List.getLast?_singleton,Option.some_or];unfold aH.b7;rcases mJ s.l with a|⟨d,e,a⟩
 ·rw[a]
  have:=c.a8;simp only[List.getLast?_nil];omega
 rw[mA] at a;have:=c.l0 e (by rw[a];simp);rw[a];simp only[List.getLast?_append,List.getLast?_singleton,Option.some_or];omega
theorem cF6(a b c d e f B:Bool)(h:B=(a||b||c||d||e||f)):(a=true∧B=true)∨(a=false∧b=true∧B=true)∨(a=false∧b=false∧c=true∧B=true)∨(a=false∧b=false∧c=false∧d=true∧B=true)∨(a=false∧b=false∧c=false∧d=false∧e=true∧B=true)∨(a=false∧b=false∧c=false∧d=false∧e=false∧f=true∧B=true)∨(a=false∧b=false∧c=false∧d=false∧e=false∧f=false∧B=false):=by
 subst h
 revert a b c d e f
 decide
theorem bJ1{E F:Nat->Prop}{gj g:Nat}{j:bQ}{w:World}(h:jX w F gj g j)(B6:∀k,F k->k<w.heap.size)(A:Option Addr)(rs:List EntR)(c:Nat)(hr:dM w E A (aG rs))(hE:∀k,E k->k<w.heap.size)(hv:∀q∈rs,∃Av cd,q.v=.slice Av q.e.b cd)(hl:rs.length<=1099511627776)
  (l7:∀q∈rs,(I6 q.e.ix)∧(I6 q.e.tm)∧(I6 q.e.kd)):
  Calls Tryz.prog 122 #[(gj,0),.slice A rs c] w fun e s =>e=.returned (.int .i64 (nG j (rs.map EntR.e)))∧Below w w s :=by
 have d8:=J h.base;have i4:=J fun s (hb:Below w w s)=>(h.a1 B6 hb).b7
 have C5:=aG9 h.l2;have p4:=aH0 h.l2;obtain⟨L,K⟩:=eX (rs.map EntR.e);obtain⟨x,m6⟩:=eX (j.base.1);obtain⟨bt,B8⟩:=eX (j.base.2);obtain⟨T,m7⟩:=eX (j.b7.1);obtain⟨lt,f⟩:=eX (j.b7.2);obtain⟨D,r⟩:=eX (L.any fun e=>decide (65535<e.b.length));obtain⟨mr,j8⟩:=eX (gV x L T none);have C0:nG j (rs.map EntR.e)=if mr=false then 1 else if D=true then 2 else 0:=by rw[j8,r,K,m6,m7];rfl
 rw[C0];have C4:=J (show D=rs.any fun q=>decide (65535<q.e.b.length) by rw[r,K,List.any_map];rfl);have t9:=J j8;rw[<-m6,<-B8] at d8;rw[<-m6] at C5;rw[<-m7] at p4;have f8:Hq (∀s,Below w w s ->Calls Tryz.prog 42 #[(gj,0)] s fun e w2=>e=.returned (.tuple #[T,lt])∧Below s s w2):=J (fun s hb=>by rw[m7,f];exact i4.o s hb);have HR:=J hr;have HE:=J hE;have HV:=J hv;have l5:=J l7;have HL:=J K;have H:=J (show L.length=rs by rw[K,lU]);clear h hr hE hv l7 K m6 B8 m7 f C0 i4 B6 r j8;go_enter Tryz.func122,Tryz.ntmps122;go_wp2_with fail;refine d8.o.mono ?_;rintro e w1 ⟨rfl,o8⟩;have i6:=J o8;have s9:=J (f8.o w1 o8);clear o8 d8 f8;go_wp2_with fail;refine s9.o.mono ?_;rintro e w2 ⟨rfl,B7⟩;have p9:=J (i6.o.trans (B7.mono i6.o.size));clear B7 s9 i6;go_wp2_with fail;go_loopw [9,7] (fun i lv wr=>∃(k:Nat) (n:Int),k<=rs∧i=.int .i64 k∧lv=.int .i64 n∧(I6 n)∧Hq (gV x L T none=gV x (L.drop k) n (iJ L k))∧Hq (∀p,iJ L k=some p->p=n)∧Hq (Below w w wr)) (fun i _ _=>rs.length-(intOf i).toNat)
 case atStart=>exact⟨0,T,O,rfl,rfl,p4,J rfl,J (fun p G=>by cases G),p9⟩
 obtain⟨k,n,M,rfl,rfl,C9,Z,n8,d⟩:=hrel;clear p9;by_cases f:k<rs;rotate_left
 ·obtain rfl:k=rs:=O
  have N:mr=true:=by rw[t9.o,Z.o,List.drop_eq_nil_of_le (by rw[H.o];exact lR _)];rfl
  subst N;clear Z n8 f;go_wp2_with fail;go_loopw [10] (fun i wr=>∃k:Nat,k<=rs∧i=.int .i64 k∧Hq (D=(rs.drop k).any fun q=>decide (65535<q.e.b.length))∧Hq (Below w w wr)) (fun i _=>rs.length-(intOf i).toNat)
  case atStart=>exact⟨0,O,rfl,C4,d⟩
  clear d;obtain⟨k,M,rfl,V,d⟩:=hrel;by_cases f:k<rs;rotate_left
  ·have r:D=false:=by rw[V.o,List.drop_eq_nil_of_le O];rfl
   subst r;clear V;go_wp2;go_ret;exact⟨rfl,d.o⟩
  have S:=HR.o.b1 d.o.size (fun k M=>d.o.block k (HE.o k M));obtain⟨y,z,rfl,_,B9,u⟩:=S (by rw[aN];omega);obtain⟨Av,cd,p7⟩:=HV.o rs[k] (lX f);have C:=List.drop_eq_getElem_cons f;obtain⟨q,t⟩:=eX (rs[k]);rw[<-t] at p7 C;obtain⟨U,p5⟩:=eX q.e.b.length;have e3:wr.cell? (y,z+k*4+3)=some (.slice Av U cd):=u (k*4+3) _ (by rw[bM _ f O,<-t,p5,<-p7];rfl);have r:D=(decide (65535<U)||(rs.drop (k+1)).any fun q=>decide (65535<q.e.b.length)):=by rw[V.o,C,p5];rfl
  have X:=J r;clear S u p7 C t p5 r V;by_cases e:65535<U
  ·have r:D=true:=by rw[X.o,decide_eq_true e,Bool.true_or]
   subst r;have eI:(65535:Int)<(U:Int):=O;clear X;go_wp2;go_ret;exact⟨rfl,d.o⟩
  have eI:¬(65535:Int)<(U:Int):=O;have m9:=J (X.o.trans (by rw[decide_eq_false e,Bool.false_or]));clear X;go_wp2;go_roundw
  case rel=>exact⟨k+1,O,by go_num,m9,d⟩
  case measure=>simp[intOf];omega
 have S:=HR.o.b1 d.o.size (fun k M=>d.o.block k (HE.o k M));obtain⟨y,z,rfl,_,B9,u⟩:=S (by rw[aN];omega);have m5:∀i,i<4->(aG rs)[k*4+i]? =(dU rs[k])[i]? :=fun i hi=>bM _ f hi
 have p6:=l5.o rs[k] (lX f);have n9:L[k]'(by rw[H.o];exact f)=rs[k].e:=by simp only[HL.o,List.getElem_map]
 have W:0<k->wr.cell? (y,z+(k-1)*4)=some (.int .i64 n)∧iJ L k=some n:=fun h0=>by
  have h1:k-1<rs:=O;have h2:=u ((k-1)*4+0) _ (by rw[bM _ h1 O];rfl);have h3:iJ L k=some rs[k-1].e.ix:=by
   unfold iJ;rw[if_neg O,lW (by rw[H.o];exact h1)];simp only[HL.o,List.getElem_map,Option.map_some]
  have I:=n8.o _ h3;rw[I] at h2 h3;exact⟨h2,h3⟩
 have C:L.drop k=rs[k].e::L.drop (k+1):=by rw[<-n9];exact List.drop_eq_getElem_cons (by rw[H.o];exact f)
 have R:iJ L (k+1)=some rs[k].e.ix:=by rw[zN (by rw[H.o];exact f),n9]
 obtain⟨q,t⟩:=eX (rs[k]);rw[<-t] at p6 C R;obtain⟨l,Q⟩:=eX q.e.ix;obtain⟨tm,p8⟩:=eX q.e.tm;obtain⟨kd,o9⟩:=eX q.e.kd;have e0:wr.cell? (y,z+k*4)=some (.int .i64 l):=u (k*4+0) _ (by rw[m5 0 O,<-t,Q];rfl);have e1:wr.cell? (y,z+k*4+1)=some (.int .i64 tm):=u (k*4+1) _ (by rw[m5 1 O,<-t,p8];rfl);have e2:wr.cell? (y,z+k*4+2)=some (.int .i64 kd):=u (k*4+2) _ (by rw[m5 2 O,<-t,o9];rfl);obtain⟨B,a⟩:=eX (xC x q.e n (iJ L k));have C1:gV x L T none=(! B&&gV x (L.drop (k+1)) l (iJ L (k+1))):=by rw[Z.o,C,qO,<-a,R,Q]
 unfold xC at a;rw[<-Q,<-p8,<-o9] at a p6;rw[<-Q] at R;have C2:decide (l=bL)=decide (9223372036854775807<=l):=decide_eq_decide.2 ⟨fun e=>by rw[e];decide,fun e=>by unfold bL;omega⟩;rw[C2] at a;have Y:=J C1;have B1:=J R;clear S u m5 n9 C R t Q p8 o9 C1 Z n8 C2;go_upto_region 6 with fail
 go_cut [86] from 27 to 86 (fun c wx=>c=.bool B∧Hq (Below wr wr wx))
 case first=>
  clear l5 HL H HR HE HV d Y B1 p4;have m8:¬l<=x->IntKind.i64.wrap (l-1)=l-1:=fun e=>mH _ O
  by_cases I:0<k
  ·have d0:=decide_eq_true I
   obtain⟨C7,C3⟩:=W I;obtain⟨m,N⟩:∃m,k=m+1:=⟨k-1,O⟩
   rw[show k-1=m by omega] at C7;have C8:(k:Int)-1=(m:Int):=O;have D0:IntKind.i64.wrap (m:Int)=(m:Int):=mH _ O;have C6:(m:Int)<(rs:Int):=O;rw[C3] at a;dsimp only at a;have h6:=cF6 _ _ _ (l-1 !=n) _ _ _ (a.trans (by rw[show decide (l-1≠n)=(l-1 !=n) from by by_cases e:l-1=n<;>simp[e]]));clear C3 N a W;rcases h6 with⟨d1,a⟩|⟨d1,d2,a⟩|⟨d1,d2,d3,a⟩|⟨d1,d2,d3,d4,a⟩|⟨d1,d2,d3,d4,d5,a⟩|⟨d1,d2,d3,d4,d5,d6,a⟩|⟨d1,d2,d3,d4,d5,d6,a⟩<;>(
    have P:=J a;try have hw:=m8 (of_decide_eq_false d1)
    clear a m8;go_big_quiet (fail);go_wp2;go_meet;exact⟨by first|(rw[P.o];done)|(rw[P.o];rfl),J (aD (lS _ wr) _)⟩)
  have d0:=decide_eq_false I;rw[show iJ L k=none by unfold iJ;rw[if_pos O]] at a;have h6:=cF6 _ _ _ false _ _ _ a;clear a W;rcases h6 with⟨d1,a⟩|⟨d1,d2,a⟩|⟨d1,d2,d3,a⟩|⟨d1,d2,d3,d4,a⟩|⟨d1,d2,d3,d4,d5,a⟩|⟨d1,d2,d3,d4,d5,d6,a⟩|⟨d1,d2,d3,d4,d5,d6,a⟩
  case inr.inr.inr.inl=>cases d4
  all_goals(
   have P:=J a;try have hw:=m8 (of_decide_eq_false d1)
   clear a m8;go_big_quiet (fail);go_wp2;go_meet;exact⟨by first|(rw[P.o];done)|(rw[P.o];rfl),J (aD (lS _ wr) _)⟩)
 obtain⟨rfl,n5⟩:=hcut;have g0:=(n5.o.cell (p:=(y,z+k*4)) B9).trans e0;have q8:=J (d.o.trans (n5.o.mono d.o.size));clear e0 e1 e2 n5 W a;cases B with
 |true=>
  have N:mr=false:=by rw[t9.o,Y.o];rfl
  subst N;clear Y;go_wp2;go_ret;exact⟨rfl,q8.o⟩
 |false=>
  go_wp2;go_roundw
  case rel=>exact⟨k+1,l,O,by go_num,rfl,p6.1,J (by rw[Y.o];rfl),J (fun p G=>by rw[B1.o] at G;injection G with G;exact G.symm),q8⟩
  case measure=>simp[intOf];omega
theorem aR.e3{w:World}{base g:Nat}{p:fT}{room:Int}{vL:Value}{es:List (Nm×RF)}(h:aR w base g p room vL es){b:Nat}{T:TypeId}{cs:Array Value}(a:aS w b T cs)(c:T≠74)(d:T≠85)(f:T≠5):¬aL g vL es b:=by
 obtain⟨x,y,i,_⟩:=h.b4;rintro(e|e|⟨q,j,e⟩);exact blk_ne a i c e;exact kK h.own a d e;exact cW (h.e9 q j) a f e
structure cZ(w:World)(base g:Nat)(vL:Value)(es:List (Nm×RF))(gj:Nat)(d:DkD)(t v:Int)(sv:Value)(bad:Int)(wx:World)(vL' :Value)(es' :List (Nm×RF)):Prop where
 c8:aR wx base g d.pw d.room vL' es'
 fs:bI RF.f es' =d.fs
 jb:aS wx gj 94 #[(g,0),t,v,sv,bad]
 fr:Fr (fun k=>aL g vL es k∨k=gj) w wx
 grow:∀k,aL g vL' es' k->aL g vL es k∨w.heap.size<=k
section
variable{w wx wy:World}{base g gj:Nat}{vL vL' :Value}{es es' :List (Nm×RF)}{d d' :DkD}{t v:Int}{sv:Value}{bad bad' :Int}
theorem cZ.a1(h:cZ w base g vL es gj d t v sv bad wx vL' es')(a:Below wx wx wy):cZ w base g vL es gj d t v sv bad wy vL' es' :=
 ⟨h.c8.a1 a,h.fs,h.jb.a1 a h.jb.lt,h.fr.trans (Fr.b9 (aL g vL es) a) (fun j b=>.inl (.inl b)),h.grow⟩
theorem cZ.nj(h:cZ w base g vL es gj d t v sv bad wx vL' es'):¬aL g vL' es' gj:=h.c8.e3 h.jb δ δ δ
theorem cZ.j2(h:cZ w base g vL es gj d t v sv bad wx vL' es')(i:aH9 wx base g vL' es' d' wy):∃b a,cZ w base g vL es gj d' t v sv bad wy b a∧(∀k,aL g b a k->aL g vL' es' k∨wx.heap.size<=k)∧Fr (aL g vL' es') wx wy:=by
 obtain⟨b,a,l,m,c,e⟩:=i;have p:=h.fr.size;refine⟨b,a,⟨l,m,c.h4 h.jb h.nj,h.fr.trans c (fun j n=>(h.grow j n).imp .inl id),fun k o=>?_⟩,e,c⟩;rcases e k o with f|f
 exact h.grow k f;exact .inr O
theorem cZ.put{f i :Int}{a :Value}(h:cZ w base g vL es gj d t v sv bad wx vL' es')(b:wx.grownBy wy (some gj))(l:aS wy gj 94 #[(g,0),f,i,a,bad']):cZ w base g vL es gj d f i a bad' wy vL' es' :=by
 exact⟨h.c8.b1 b.size (fun k c=>b.block k (h.c8.lt k c).2 (fun e=>by injection e with e;subst e;exact h.nj c)),h.fs,l,h.fr.trans (Fr.e2 (mine:=fun k=>k=gj) b (fun k e=>by injection e with e;exact e.symm)) (fun j m=>.inl (.inr m)),h.grow⟩
theorem cZ.did(h:cZ w base g vL es gj d t v sv 0 wx vL' es')(e:Int):cZ w base g vL es gj d t v sv e (wx.setCell (gj,4) e) vL' es' :=
 h.put (aA wx gj 4 _) (by have:=h.jb.b8 4 e;simpa using this)
theorem cZ.rm(h:cZ w base g vL es gj d t v sv bad wx vL' es')(n:Nm)(j:es'.length<=549755813888):
  Calls Tryz.prog 85 #[(g,0),.string (bU n)] wx fun e c =>e=.returned (.int .i64 (d.b6 n).1)∧∃b a,cZ w base g vL es gj (d.b6 n).2 t v sv bad c b a∧(∀k,aL g b a k->aL g vL' es' k∨wx.heap.size<=k)∧Fr (aL g vL' es') wx c :=by
 refine(aR5 h.c8 n O).mono ?_;rintro e c ⟨rfl,i⟩;rw[show cN d.pw d.room es' =d by rw[show cN d.pw d.room es' =⟨d.pw,d.room,bI RF.f es'⟩ from rfl,h.fs]] at*;exact⟨rfl,h.j2 i⟩
theorem cZ.cut(h:cZ w base g vL es gj d t v sv bad wx vL' es')(n:Nm)(z:Int)(j:I6 z)(l:es'.length<=549755813888):
  Calls Tryz.prog 76 #[(g,0),.string (bU n),z] wx fun e c =>e=.returned (.int .i64 (d.e6 n z).1)∧∃b a,cZ w base g vL es gj (d.e6 n z).2 t v sv bad c b a∧(∀k,aL g b a k->aL g vL' es' k∨wx.heap.size<=k)∧Fr (aL g vL' es') wx c :=by
 refine(aQ1 h.c8 n z j O).mono ?_;rintro e c ⟨rfl,i⟩;rw[show cN d.pw d.room es' =d by rw[show cN d.pw d.room es' =⟨d.pw,d.room,bI RF.f es'⟩ from rfl,h.fs]] at*;exact⟨rfl,h.j2 i⟩
theorem cZ.sync(h:cZ w base g vL es gj d t v sv bad wx vL' es')(n:Nm)(j:es'.length<=549755813888):
  Calls Tryz.prog 90 #[(g,0),.string (bU n)] wx fun e c =>e=.returned (.int .i64 (d.sync n).1)∧∃b a,cZ w base g vL es gj (d.sync n).2 t v sv bad c b a∧(∀k,aL g b a k->aL g vL' es' k∨wx.heap.size<=k)∧Fr (aL g vL' es') wx c :=by
 refine(bJ8 h.c8 n O).mono ?_;rintro e c ⟨rfl,i⟩;rw[show cN d.pw d.room es' =d by rw[show cN d.pw d.room es' =⟨d.pw,d.room,bI RF.f es'⟩ from rfl,h.fs]] at*;exact⟨rfl,h.j2 i⟩
end
theorem kR{L:Nat}{d:DkD}{es:List (Nm×RF)}(h:gP L d)(g:bI RF.f es=d.fs):(∀q∈es,q.2.f.b.length<=L)∧es<=L∧∀q∈es,q.1.length<=1000:=by
 refine⟨fun q e=>?_,?_,fun q e=>?_⟩;have c:(q.1,q.2.f)∈d.fs:=by rw[<-g];exact mF.2 ⟨q,e,rfl⟩
 have a:=fR c;have i:=h.sz;have j:(q.2.f.b.length:Int)<=bC d.fs:=a;omega;have a:=h.len;rw[<-g,lU] at a;exact a;have c:(q.1,q.2.f)∈d.fs:=by rw[<-g];exact mF.2 ⟨q,e,rfl⟩
 exact h.nm _ c
theorem qU{d:DkD}{es:List (Nm×RF)}(a:bI RF.f es=d.fs):cN d.pw d.room es=d:=by
 show(⟨d.pw,d.room,bI RF.f es⟩:DkD)=d
 rw[a]
theorem cZ.do_{w wx:World}{base g gj:Nat}{vL b :Value}{es a :List (Nm×RF)}{d:DkD}{t v:Int}{f:Value}(h:cZ w base g vL es gj d t v f 0 wx b a)(e:Int):
  Calls Tryz.prog 84 #[(gj,0),e] wx fun r c =>r=.returned (.bool (e==0))∧cZ w base g vL es gj d t v f e c b a ∧Fr (fun k=>k=gj) wx c :=by
 refine(bS2 h.jb e).mono ?_;rintro r c ⟨rfl,rfl⟩;rw[if_pos rfl];exact⟨rfl,h.did e,Fr.e2 (mine:=fun k=>k=gj) (aA wx gj 4 _) (fun k e=>by injection e with e;exact e.symm)⟩
section
variable{w wx wy:World}{base g gj:Nat}{vL vL' :Value}{es es' :List (Nm×RF)}{d d' :DkD}{t v:Int}{sv:Value}{bad bad' :Int}
theorem cZ.ren(h:cZ w base g vL es gj d t v sv bad wx vL' es')(n tn:Nm)(f:tn.length<=140737488351232)(k:es'.length<=549755813888):
  Calls Tryz.prog 131 #[(g,0),.string (bU n),.string (bU tn)] wx fun e c =>e=.returned (.int .i64 (d.rename n tn).1)∧∃b a,cZ w base g vL es gj (d.rename n tn).2 t v sv bad c b a:=by
 refine(aR6 h.c8 n tn f k).mono ?_;rintro e c ⟨rfl,i⟩;rw[qU h.fs] at*;obtain⟨b,a,j,_⟩:=h.j2 i;exact⟨rfl,b,a,j⟩
theorem cZ.app{L:Nat}(h:cZ w base g vL es gj d t v sv bad wx vL' es')(i:gP L d)(B:L<=274877906944)(n:Nm)(C:n.length<=1000)(A:Option Addr)(q:dK)(k:Rd wx wx A [q.val])(y:Rd wx wx q.a (cells q.l))(z:q.l<=q.c∧q.c<=9223372036854775807)(s:q.l.length<=274877906944):
  Calls Tryz.prog 11 #[(g,0),.string (bU n),.slice A 1 1] wx fun e j =>e=.returned (.int .i64 (d.append n [q.l]).1)∧∃f b,cZ w base g vL es gj (d.append n [q.l]).2 t v sv bad j f b:=by
 have r:=kR i h.fs;have D:=i.sz;refine(wU h.c8 n O A [q] 1 k (fun p u=>by rw[lY.1 u];exact⟨y,O⟩) σ σ (by simpa[bR] using s) (fun x hx=>ω1 (r.1 x hx)) (by rw[h.fs];omega) O).mono ?_;rintro e j ⟨rfl,m⟩;rw[qU h.fs] at*;obtain⟨f,b,o,_⟩:=h.j2 m;exact⟨rfl,f,b,o⟩
end
def xQ(w:World)(base g:Nat)(vL:Value)(es:List (Nm×RF))(r:Int×Option bQ×DkD)(e:Ending)(w' :World):Prop:=
 ∃vL' es',aR w' base g r.2.2.pw r.2.2.room vL' es' ∧bI RF.f es' =r.2.2.fs∧Fr (aL g vL es) w w' ∧(∀k,aL g vL' es' k->aL g vL es k∨w.heap.size<=k)∧
  match r.2.1 with
  |none=>e=.returned (.tuple #[.pointer none,.int .i64 r.1])
  |some j=>∃(gj:Nat) (F:Nat->Prop),e=.returned (.tuple #[.pointer (some ⟨gj,0,none⟩),.int .i64 r.1])∧w<=gj∧jX w' F gj g j∧∀k,F k->w.heap.size<=k∧k<w'.heap.size∧k≠gj∧¬aL g vL' es' k
theorem cZ.h2{w wx:World}{base g gj:Nat}{vL b :Value}{es a :List (Nm×RF)}{d:DkD}{t v:Int}{i:Value}{bad:Int}(h:cZ w base g vL es gj d t v i bad wx b a)(a8:gj=w)(c:Int){r:Int×Option bQ×DkD}(f:r=(c,none,d)):xQ w base g vL es r (.returned (.tuple #[.pointer none,c])) wx:=by
 subst f;exact⟨b,a,h.c8,h.fs,h.fr.mono (fun k j e=>e.resolve_right O),h.grow,rfl⟩
structure jK(w:World)(F:Nat->Prop)(A:Option Addr)(c:Nat)(recs:List RqR):Prop where
 row:dM w F A (aY recs)
 cap:recs<=c∧c<=maxLen
 rd:∀q∈recs,nT w F q
section
variable{w w' :World}{F F' :Nat->Prop}{A:Option Addr}{c:Nat}{recs:List RqR}
theorem jK.b1(h:jK w F A c recs)(b:w.heap.size<=w')(a:∀k,F k->w'.heap[k]? =w.heap[k]?):jK w' F A c recs:=⟨h.row.b1 b a,h.cap,fun q d=>(h.rd q d).b1 b a⟩
theorem jK.take(h:jK w F A c recs){n:Nat}(b:n<=recs):jK w F A c (recs.take n):=by
 refine⟨?_,⟨by rw[lV];have:=h.cap;omega,h.cap.2⟩,fun q a=>h.rd q (mO a)⟩;rw[<-uA];exact h.row.take _
theorem jK.at_(h:jK w F A c recs){i:Nat}(hi:i<recs):∃a b,A=some ⟨a,b,none⟩∧F a∧a<w.heap.size∧∀j u,(gZ recs[i])[j]? =some u->w.cell? ⟨a,b+i*8+j,none⟩=some u:=by
 obtain⟨a,b,e,g,f,k⟩:=h.row (by rw[bS];omega);refine⟨a,b,e,g,f,fun j u d=>?_⟩;have l:j<8:=by
  have:=(List.getElem?_eq_some_iff.1 d).1;simpa[gZ] using this
 rw[Nat.add_assoc];exact k _ u ((dY recs hi l).trans d)
end
theorem cZ.k0{w e:World}{base g gj:Nat}{vL d:Value}{es b:List (Nm×RF)}{o:DkD}{i m:Int}{A:Option Addr}{c v:Nat}{F:Nat->Prop}{a:List RqR}{st:Nat}(R:st<=a)(L:v=a-st)(h:cZ w base g vL es gj o i m (.slice (mT A st c 8) v (c-st)) 0 e d b)(Q:gj=w)(f:jK e F A c a)(P:a.length<=1000000000)(K:∀q∈a,q.s.l.length<=4611686018427387904)
  (a8:(I6 i)∧(I6 m)) (H:∀k,F k->w.heap.size<=k∧k<e.heap.size∧k≠gj∧¬aL g d b k) {r:Int×Option bQ×DkD} (I:r=(0,some ⟨i,m,(a.map RqR.s).drop st,0⟩,o)):
  xQ w base g vL es r (.returned (.tuple #[(gj,0),.int .i64 0])) e:=by
 subst I;subst L;refine⟨d,b,h.c8,h.fs,h.fr.mono (fun k N G=>G.resolve_right O),h.grow,gj,F,rfl,O,?_,H⟩;have M:=f.cap;have n:(a.drop st).length=a-st:=lZ;refine⟨⟨mT A st c 8,c-st,a.drop st,?_,⟨O,O⟩,?_,?_,fun q p=>⟨f.rd q (List.mem_of_mem_drop p),K q (List.mem_of_mem_drop p)⟩⟩,?_,a8⟩;rw[n];exact h.jb;intro E;rw[bS,n] at E;obtain⟨x,y,rfl,z,C,B⟩:=f.row (by rw[bS];omega);have D:c≠st:=O;refine⟨x,y+st*8,by unfold mT;rw[if_neg D];simp[Addr.add],z,C,fun j u t=>?_⟩;rw[<-pN,List.getElem?_drop] at t;rw[Nat.add_assoc];exact B _ u t;rw[List.map_drop];show((a.map RqR.s).drop st).length<=_
 rw[lZ,lU];omega
def cY(w:World)(base g:Nat)(vL:Value)(es:List (Nm×RF))(gj:Nat)(t v:Int)(sv:Value)(L:Nat)(r:Int×DkD)(rest:List aQ)(ok:Bool)(wx:World):Prop:=
 ∃d bad vL' es',cZ w base g vL es gj d t v sv bad wx vL' es' ∧gP L d∧ok=(bad==0)∧r=if bad=0 then cF rest d else(bad,d)
def aD5(w:World)(base g:Nat)(vL:Value)(es:List (Nm×RF))(gj:Nat)(t v:Int)(sv:Value)(L:Nat)(r:Int×DkD)(rest:List aQ)(e:Ending)(w' :World):Prop:=
 ∃z,e=.returned z∧((w'.cell? (gj,0)=some (.pointer (g,0))∧w'.cell? (gj,3)=some sv)∧Fr (fun k=>aL g vL es k∨k=gj) w w')∧Calls Tryz.prog 84 #[(gj,0),z] w' fun e2 w2=>∃ok,e2=.returned (.bool ok)∧cY w base g vL es gj t v sv L r rest ok w2
section
variable{w wx wy:World}{base g gj:Nat}{vL vL' :Value}{es es' :List (Nm×RF)}{t v bad:Int}{sv:Value}{L:Nat}{r:Int×DkD}{rest:List aQ}{d:DkD}{ok:Bool}
theorem cY.a1(h:cY w base g vL es gj t v sv L r rest ok wx)(f:Below wx wx wy):cY w base g vL es gj t v sv L r rest ok wy:=by
 obtain⟨d,bad,b,a,c,e⟩:=h;exact⟨d,bad,b,a,c.a1 f,e⟩
theorem cY.skip{a :Nat}{rest' :List aQ}(h:cY w base g vL es gj t v sv L r rest false wx)(l:L<=a):cY w base g vL es gj t v sv a r rest' false wx:=by
 obtain⟨d,bad,f,e,i,j,b,k⟩:=h;have c:¬bad=0:=by simpa using b.symm
 exact⟨d,bad,f,e,i,j.mono l,b,by rw[k,if_neg c,if_neg c]⟩
theorem cY.done(h:cY w base g vL es gj t v sv L r [] ok wx):ok=(r.1==0)∧∃b a,cZ w base g vL es gj r.2 t v sv r.1 wx b a:=by
 obtain⟨d,bad,b,a,c,f,rfl,rfl⟩:=h;by_cases e:bad=0;subst e;exact⟨rfl,b,a,c⟩;rw[if_neg e];exact⟨rfl,b,a,c⟩
theorem cY.start(h:cZ w base g vL es gj d t v sv 0 wx vL' es')(b:gP L d)(a:List aQ):cY w base g vL es gj t v sv L (cF a d) a true wx:=⟨d,0,vL',es',h,b,rfl,rfl⟩
theorem cY.ptr(h:cY w base g vL es gj t v sv L r rest ok wx):wx.cell? (gj,0)=some (.pointer (g,0))∧gj<wx:=by
 obtain⟨d,bad,c,b,a,_⟩:=h;exact⟨a.jb.cell 0,a.jb.lt⟩
theorem cY.row3(h:cY w base g vL es gj t v sv L r rest ok wx):wx.cell? (gj,3)=some sv:=by
 obtain⟨d,bad,c,b,a,_⟩:=h;exact a.jb.cell 3
theorem cY.fr(h:cY w base g vL es gj t v sv L r rest ok wx):Fr (fun k=>aL g vL es k∨k=gj) w wx:=by
 obtain⟨d,bad,c,b,a,_⟩:=h;exact a.fr
theorem cY.step{F:Nat}{args:Array Value}{a:aQ}(h:cZ w base g vL es gj d t v sv 0 wx vL' es')(l:gP L d)(m:r=cF (a::rest) d)
  (k:Calls Tryz.prog F args wx fun e i =>e=.returned (.int .i64 (a.run d).1)∧∃f b,cZ w base g vL es gj (a.run d).2 t v sv 0 i f b):Calls Tryz.prog F args wx (aD5 w base g vL es gj t v sv (L+a.cost) r rest):=by
 refine k.mono ?_;rintro e i ⟨rfl,f,b,c⟩;refine⟨_,rfl,⟨⟨c.jb.cell 0,c.jb.cell 3⟩,c.fr⟩,(c.do_ _).mono ?_⟩;rintro n o ⟨rfl,j,_⟩;exact⟨_,rfl,_,_,_,_,j,l.run a,rfl,by rw[m];exact gE a rest d⟩
theorem cY.open_(h:cY w base g vL es gj t v sv L r rest true wx):∃d b a,cZ w base g vL es gj d t v sv 0 wx b a∧gP L d∧r=cF rest d∧a<=L:=by
 obtain⟨d,bad,b,a,c,e,f,i⟩:=h;have j:bad=0:=by simpa using f.symm
 subst j;exact⟨d,b,a,c,e,i,(kR e c.fs).2.1⟩
theorem cY.rm{n:Nm}(h:cY w base g vL es gj t v sv L r (.rm n::rest) true wx)(l:L<=274877906944):
  Calls Tryz.prog 85 #[(g,0),.string (bU n)] wx (aD5 w base g vL es gj t v sv L r rest):=by
 obtain⟨d,i,f,a,b,c,j⟩:=h.open_;exact cY.step a b c ((a.rm n O).mono fun e m ⟨e1,vL2,es2,k,_⟩=>⟨e1,vL2,es2,k⟩)
theorem cY.sync{n:Nm}(h:cY w base g vL es gj t v sv L r (.sync n::rest) true wx)(l:L<=274877906944):
  Calls Tryz.prog 90 #[(g,0),.string (bU n)] wx (aD5 w base g vL es gj t v sv L r rest):=by
 obtain⟨d,i,f,a,b,c,j⟩:=h.open_;exact cY.step a b c ((a.sync n O).mono fun e m ⟨e1,vL2,es2,k,_⟩=>⟨e1,vL2,es2,k⟩)
theorem cY.cut{n:Nm}{z:Int}(h:cY w base g vL es gj t v sv L r (.cut n z::rest) true wx)(m:L<=274877906944)(f:I6 z):
  Calls Tryz.prog 76 #[(g,0),.string (bU n),z] wx (aD5 w base g vL es gj t v sv L r rest):=by
 obtain⟨d,j,i,a,b,c,l⟩:=h.open_;exact cY.step a b c ((a.cut n z f O).mono fun e o ⟨e1,vL2,es2,k,_⟩=>⟨e1,vL2,es2,k⟩)
theorem cY.ren(h:cY w base g vL es gj t v sv L r (.ren::rest) true wx)(k:L<=274877906944):
  Calls Tryz.prog 131 #[(g,0),.string (bU aJ),.string (bU fZ)] wx (aD5 w base g vL es gj t v sv L r rest):=by
 obtain⟨d,i,f,b,c,e,j⟩:=h.open_;exact cY.step (a:=.ren) b c e (b.ren aJ fZ δ O)
theorem cY.app{n:Nm}{p:List UInt8}(h:cY w base g vL es gj t v sv L r (.app n p::rest) true wx)(i:L<=274877906944)(l:n.length<=1000)(A B:Option Addr)(c:Nat)(a8:Rd wx wx A [.slice B p c])(m:Rd wx wx B (cells p))(j:p<=c∧c<=9223372036854775807)(k:p.length<=274877906944):
  Calls Tryz.prog 11 #[(g,0),.string (bU n),.slice A 1 1] wx (aD5 w base g vL es gj t v sv (L+(p.length+1)) r rest):=by
 obtain⟨d,q,o,b,e,f,s⟩:=h.open_;exact cY.step (a:=.app n p) b e f (b.app e i n l A ⟨B,p,c⟩ a8 m j k)
end
section
variable{w w5 wx:World}{base g gj:Nat}{vL vL' :Value}{es es' :List (Nm×RF)}{t v t' v' bad bad' :Int}{sv sv' :Value}{d d' :DkD}
theorem cZ.again(h:cZ w base g vL es gj d t v sv bad w5 vL' es'):cZ w5 base g vL' es' gj d t v sv bad w5 vL' es' :=⟨h.c8,h.fs,h.jb,Fr.refl _ _,fun k a=>.inl a⟩
theorem cZ.join{b:Value}{a:List (Nm×RF)}(h:cZ w base g vL es gj d t v sv bad w5 b a)(hx:cZ w5 base g b a gj d' t' v' sv' bad' wx vL' es'):cZ w base g vL es gj d' t' v' sv' bad' wx vL' es' :=
 ⟨hx.c8,hx.fs,hx.jb,h.fr.trans hx.fr (fun k c=>c.elim (fun e=>(h.grow k e).imp .inl id) (fun e=>.inl (.inr e))),fun k c=>(hx.grow k c).elim (h.grow k) (fun e=>.inr (ω1 h.fr.size))⟩
theorem cY.rd{L:Nat}{r:Int×DkD}{rest:List aQ}{j:Bool}(h:cY w base g vL es gj t v sv L r rest j wx){F:Nat->Prop}{A:Option Addr}{f:List Value}(i:dM w F A f)(a:∀k,F k->k<w.heap.size∧k≠gj∧¬aL g vL es k):dM wx F A f:=by
 obtain⟨d,bad,m,l,c,_⟩:=h;exact i.b1 c.fr.size (fun k b=>c.fr.block k (a k b).1 (fun e=>e.elim (a k b).2.2 (a k b).2.1))
end
structure aL9(w:World)(base g gj:Nat)(F:Nat->Prop)(d:DkD)(j:bQ)(vL:Value)(es:List (Nm×RF)):Prop where
 c8:aR w base g d.pw d.room vL es
 fs:bI RF.f es=d.fs
 jn:jX w F gj g j
 apart:∀k,F k->base<=k∧k<w.heap.size∧k≠gj∧¬aL g vL es k
 lo:base<=gj
def pV(w:World)(base g gj:Nat)(vL:Value)(es:List (Nm×RF))(F:Nat->Prop)(r:Int×bQ×DkD)(e:Ending)(w' :World):Prop:=
 e=.returned r.1∧∃vL' es' F',aL9 w' base g gj F' r.2.2 r.2.1 vL' es' ∧Fr (fun k=>aL g vL es k∨k=gj) w w' ∧(∀k,aL g vL' es' k->aL g vL es k∨w.heap.size<=k)∧∀k,F' k->F k∨w.heap.size<=k
section
variable{w wx wy:World}{base g gj:Nat}{vL vL' :Value}{es es' :List (Nm×RF)}{F F' :Nat->Prop}{d d' :DkD}{j j' :bQ}
theorem aL9.j5(h:aL9 w base g gj F d j vL es){t v bad:Int}{l:Value}(a:cZ w base g vL es gj d' t v l bad wx vL' es'){k:Nat}(i:F k):wx.heap[k]? =w.heap[k]? ∧k<wx∧k≠gj∧¬aL g vL' es' k:=by
 obtain⟨m,f,b,c⟩:=h.apart k i;have n:=a.fr.size;refine⟨a.fr.block k f (fun e=>e.elim c b),O,b,fun e=>?_⟩;rcases a.grow k e with e|e
 exact c e;omega
theorem aL9.start(h:aL9 w base g gj F d j vL es):∃i,cZ w base g vL es gj d j.c6 j.h7 i j.bad w vL es∧∀(wx:World) (t v bad c:Int) (d' :DkD) (vL' :Value) (es' :List (Nm×RF)),cZ w base g vL es gj d' t v i bad wx vL' es' →
  (I6 t)∧(I6 v)->∀r,r=(c,(⟨t,v,j.b0,bad⟩:bQ),d')->pV w base g gj vL es F r (.returned c) wx:=by
 obtain⟨A,c,l,p,m,n,o,e⟩:=h.jn.at_;refine⟨_,⟨h.c8,h.fs,p,Fr.refl _ _,fun k a=>.inl a⟩,fun wx t v bad x d' vL' es' b s r u=>?_⟩;subst u;have a:∀k,F k->wx.heap[k]? =w.heap[k]? :=fun k a=>(h.j5 b a).1
 exact⟨rfl,vL',es',F,⟨b.c8,b.fs,⟨⟨A,c,l,b.jb,m,n.b1 b.fr.size a,o,fun q f=>⟨(e q f).1.b1 b.fr.size a,(e q f).2⟩⟩,h.jn.len,s⟩,fun k a=>⟨(h.apart k a).1,(h.j5 b a).2⟩,h.lo⟩,b.fr,b.grow,fun k a=>.inl a⟩
end
theorem bT3{G:World->Nat->Prop}{X:Prop}(R:World->Nat->Prop)(a:(∀W b,R W b->G W b)->X)(c:∀W b,R W b->G W b):X:=a c
theorem jK.drop{w:World}{F:Nat->Prop}{A:Option Addr}{c:Nat}{a:List RqR}(h:jK w F A c a){n:Nat}(r:n<=a):jK w F (mT A n c 8) (c-n) (a.drop n):=by
 have p:=h.cap;have l:(a.drop n).length=a-n:=lZ;refine⟨fun m=>?_,⟨O,O⟩,fun q o=>h.rd q (List.mem_of_mem_drop o)⟩;rw[bS,l] at m;obtain⟨f,g,rfl,d,i,e⟩:=h.row (by rw[bS];omega);have k:c≠n:=O;refine⟨f,g+n*8,by unfold mT;rw[if_neg k];simp[Addr.add],d,i,fun j u b=>?_⟩;rw[<-pN,List.getElem?_drop] at b;rw[Nat.add_assoc];exact e _ u b
theorem jX.lst{w:World}{F:Nat->Prop}{gj g:Nat}{j:bQ}(h:jX w F gj g j):∃A c a8,aS w gj 94 #[(g,0),j.c6,j.h7,.slice A (a8:List RqR).length c,j.bad]∧jK w F A c a8∧a8.map RqR.s=j.b0∧a8.length<=1099511627776∧∀q∈a8,q.s.l.length<=4611686018427387904:=by
 obtain⟨⟨A,c,a8,f,i,k,b,d⟩,e,_⟩:=h;exact⟨A,c,a8,f,⟨k,i,fun q a=>(d q a).1⟩,b,by rw[<-b,lU] at e;exact e,fun q a=>(d q a).2⟩
theorem aL9.fin{w wx:World}{base g gj:Nat}{vL e :Value}{es b :List (Nm×RF)}{F F' :Nat->Prop}{d o :DkD}{j:bQ}(h:aL9 w base g gj F d j vL es){t v:Int}{A:Option Addr}{n c:Nat}{a:List RqR}{bad:Int}(f:cZ w base g vL es gj o t v (.slice A n c) bad wx e b)(i:jK wx F' A c a)(B:n=a)(x:a.length<=1099511627776)(u:∀q∈a,q.s.l.length<=4611686018427387904)
  (y:∀k,F' k->base<=k∧k<wx.heap.size∧k≠gj∧¬aL g e b k) (z:∀k,F' k->F k∨w.heap.size<=k) (a8:(I6 t)∧(I6 v)) (m:Int) (r:Int×bQ×DkD) (C:r=(m,(⟨t,v,a.map RqR.s,bad⟩:bQ),o)):pV w base g gj vL es F r (.returned m) wx:=by
 subst C;subst B;exact⟨rfl,e,b,F',⟨f.c8,f.fs,⟨⟨A,c,a,f.jb,i.cap,i.row,rfl,fun q p=>⟨i.rd q p,u q p⟩⟩,by show(a.map RqR.s).length<=_;rw[lU];exact x,a8⟩,y,h.lo⟩,f.fr,f.grow,z⟩
theorem cC4{G:World->Value->Nat->Value->Prop}{X:Prop}(R:World->Value->Nat->Prop)(a:(∀W v b u,R W v b->G W v b u)->X)(c:∀W v b u,R W v b->G W v b u):X:=a c
theorem lL{w:World}{o:Oper}{a:Act}{K:Act->World->Prop}{Q:Exit->Act->World->Prop}(s x:Operand)(l:o.op=.call {callee:=.builtin .append,args:=#[s,x],argTypes:=#[92,92]})
  (base:Nat) (v:Value) (n:Nat) (e:List Value) (p:a.eval s=v) (a8:w.ownsRow base 139 8 v n e) (A:Option Addr) (m c:Nat) (b:List RqR) (hx:a.eval x=.slice A m c) (D:m=b) (r:0<m->∃f,A=some f∧∀j u,(aY b)[j]? =some u->w.cell? (f.add j)=some u)
  (H:n+m<=1500000000000) (q:base<=w) (h:∀g d,d.ownsRow base 139 8 g (n+m) (e++aY b)->w.grownBy d v.ownBlock->K (a.put o.dst g) d):o.wp Tryz.prog a w K Q:=by
 rcases Nat.eq_zero_or_pos m with k|k
 have E:b=[]:=mD O;subst E k;obtain⟨i,C,I,F,G⟩:=info_parts dX;have t:=kC (P:=Tryz.prog) w base 92 o.type 139 i 8 Tryz.underlying92 C v n e a8 A c;unfold Oper.wp execOp;simp only[l,resolve,invoke,builtin,Sem.run_bind,Sem.run_pure,Result.andThen_ok,List.map_toArray,mG,List.map_nil,p,hx,t];refine h v w ?_ (World.grownBy.refl _ _);show w.ownsRow base 139 8 v n (e++[])
 rw[List.append_nil];exact a8;obtain⟨f,rfl,B⟩:=r k;exact eM s x 92 l base 139 _ 8 88 Tryz.underlying92 dX rfl δ v n e p a8 f m c (aY b) hx (by rw[bS,D]) B (kY _) μ O q fun g d y z _=>h g d y z
theorem jK.src{w:World}{F:Nat->Prop}{A:Option Addr}{c:Nat}{a:List RqR}(h:jK w F A c a):0<a.length->∃b,A=some b∧∀j u,(aY a)[j]? =some u->w.cell? (b.add j)=some u:=fun k=>by
 obtain⟨g,i,e,_,_,d⟩:=h.row (by rw[bS];omega);refine⟨_,e,fun j u f=>?_⟩;rw[add_lit];exact d j u f
def aO3(j:bQ)(ix:Int):Int:=match(j.b0.take (dR j.b0 ix j.b0)).getLast? with
 |none=>0
 |some s=>(s.ahead ix).b2
theorem yU(segs:List aH)(ix:Int):∀n,dR segs ix n<=n
 |0=>lR _
 |1=>lR _
 |n+2=>by
  unfold dR;split;split;exact Nat.le_succ_of_le (yU segs ix (n+1));exact lR _;exact lR _
theorem aW9{segs:List aH}{ix:Int}{n:Nat}{s:aH}(h:segs[n]? =some s)(a:0<n):dR segs ix (n+1)=if ix<=s.a8 then dR segs ix n else n+1:=by
 obtain⟨m,rfl⟩:∃m,n=m+1:=⟨n-1,O⟩
 show(match segs[m+1]? with|some s=>if ix<=s.a8 then dR segs ix (m+1) else m+2|none=>m+2)=_
 rw[h]
theorem oY{s:aH}{ix:Int}(b:s.a7.length=s.l+1):s.a7[s.e4 ix]? =some (s.ahead ix).b2:=by
 have a:s.e4 ix<s.a7:=by unfold aH.e4;omega
 unfold aH.ahead aH.b2;simp only;rw[lW a,List.getLastD_eq_getLast?,List.getLast?_eq_getElem?,lV,Nat.min_eq_left O,Nat.add_sub_cancel,List.getElem?_take_of_lt O,lW a];rfl
theorem aY8{w:World}{F:Nat->Prop}{gj g:Nat}{j:bQ}(h:jX w F gj g j)(hF:∀k,F k->k<w.heap.size)(he:∀s∈j.b0,s.a7.length=s.l+1)(ix:Int)(B9:0<=ix∧ix<=9223372036854775807):
  Calls Tryz.prog 123 #[(gj,0),ix] w fun e w' =>e=.returned (.tuple #[.int .i64 (dR j.b0 ix j.b0:Nat),.int .i64 (aO3 j ix)])∧Below w w w' :=by
 obtain⟨A,c,b,U,hL,T,C0,z⟩:=h.lst;have c3:=U.c 3;have S:j.b0.length=b:=by rw[<-T,lU]
 have n8:=U.lt;have HL:=J hL;have HF:=J hF;have HE:=J he;have p4:=J z;have C:=J T;obtain⟨a,L⟩:=eX j.b0;rw[<-L] at HE C S;obtain⟨N,y⟩:=eX (dR a ix a);have Z:aO3 j ix=match(a.take N).getLast? with|none=>0|some s=>(s.ahead ix).b2:=by rw[y,L];rfl
 obtain⟨KL,Y⟩:=eX (aO3 j ix);rw[<-L,<-y,<-Y];rw[<-Y] at Z;have m8:=J Z;rw[S] at y;have HN:=J y;clear h U hL T z hF he L y Z S Y;go_enter Tryz.func123,Tryz.ntmps123;go_upto_block 0 with fail
 go_cut [6] from 14 to 30 (fun B wx=>B=.int .i64 (N:Nat)∧Hq (Below w w wx))
 case first=>
  go_wp2_with fail;go_loopw [6] (fun B wr=>∃n:Nat,n<=b∧B=.int .i64 n∧Hq (N=dR a ix n)∧Hq (Below w w wr)) (fun B _=>(intOf B).toNat)
  case atStart=>exact⟨b,lR _,rfl,HN,J (lS _ _)⟩
  obtain⟨n,hn,rfl,G,d⟩:=hrel;have k3:=(d.o.cell (p:=(gj,3)) n8).trans c3;have t:=J (HL.o.b1 (w' :=wr) d.o.size (fun k W=>d.o.block k (HF.o k W)));by_cases h1:1<n;rotate_left
  ·have i:N=n:=by
    have x:=G.o;rcases n with _|_|n
    exact x;exact x;omega
   have p6:¬(1:Int)<(n:Int):=O;clear G;subst i;go_wp2;go_meet;exact⟨rfl,d⟩
  obtain⟨m,rfl⟩:∃m,n=m+1:=⟨n-1,O⟩
  have r:m<b:=O;obtain⟨ab,ao,rfl,_,p9,f⟩:=t.o.at_ r;have e1:=f 1 (.int .i64 b[m].s.a8) rfl;have i:=G.o;rw[aW9 (ix:=ix) (segs:=a) (n:=m) (s:=b[m].s) (by rw[<-C.o,List.getElem?_map,lW r];rfl) O] at i;obtain⟨fi,m6⟩:=eX (b[m].s.a8);rw[<-m6] at e1 i;have p6:(1:Int)<((m+1:Nat):Int):=O;have B1:(1:Int)<(m:Int)+1:=O;have m7:(m:Int)+1-1=(m:Int):=O;have t9:IntKind.i64.wrap (m:Int)=(m:Int):=mH _ O;have s9:(m:Int)<(b:Int):=O;clear f m6 G t;by_cases x:ix<=fi
  ·rw[if_pos x] at i
   have X:=J i;clear i;go_wp2;go_roundw
   case rel=>exact⟨m,O,rfl,X,d⟩
   case measure=>simp[intOf]
  rw[if_neg x] at i;have X:=J i;clear i;go_wp2;go_meet;exact⟨by rw[X.o];rfl,d⟩
 obtain⟨rfl,d⟩:=hcut;have p8:N<=b:=by rw[HN.o];exact yU _ _ _
 by_cases h0:N=0
 ·subst h0
  obtain rfl:KL=0:=m8.o;go_wp2;go_ret2;exact⟨rfl,d.o⟩
 obtain⟨m,rfl⟩:∃m,N=m+1:=⟨N-1,O⟩
 have r:m<b:=O;have k3:=(d.o.cell (p:=(gj,3)) n8).trans c3;have t:=J (HL.o.b1 (w' :=wc) d.o.size (fun k W=>d.o.block k (HF.o k W)));obtain⟨ab,ao,rfl,_,p9,f⟩:=t.o.at_ r;have u:=t.o.rd _ (lX r);have o8:a[m]? =some b[m].s:=by rw[<-C.o,List.getElem?_map,lW r];rfl
 have D:KL=(b[m].s.ahead ix).b2:=by
  rw[m8.o,List.take_add_one,o8];simp
 have v:=HE.o b[m].s (by rw[<-C.o];exact mF.2 ⟨_,lX r,rfl⟩);have n9:=lX r;have z:=p4.o _ n9;obtain⟨q,hq⟩:=eX (b[m]);rw[<-hq] at f u v z D;obtain⟨s,tn,lo,em,al,cl,ae,ce,M⟩:=q;simp only at u v z D;replace v:s.a7.length=s.l+1:=v;have j9:M.length=s.l:=by rw[<-u.map,lU]
 have V:=oY (ix:=ix) v;obtain⟨K,H⟩:=eX (s.e4 ix);obtain⟨Q,R,rfl,_,q8,n5⟩:=u.a7 (show 0<(s.a7.map (Value.int .i64)).length by rw[lU];omega);have p7:K<s.a7:=by rw[H];unfold aH.e4;omega
 have m9:(K:Int)=min (max 0 (ix-s.a8)) (M:Int):=by rw[H,j9];unfold aH.e4;omega
 rw[<-H] at V;have d0:=f 0 s.k rfl;have d1:=f 1 s.a8 rfl;have d2:=f 2 s.c6 rfl;have d3:=f 3 (.slice al M cl) rfl;have d4:=f 4 (.slice (Q,R) s.a7 ce) rfl;have d5:=f 5 lo rfl;have d6:=f 6 (.bool em) rfl;have d7:=f 7 (.bool tn) rfl;simp only[Nat.add_zero] at d0;have m6:0<=s.a8∧s.a8<=9223372036854775806:=u.num.a8;have P:=n5 K _ (by rw[List.getElem?_map,V];rfl);rw[<-D] at P;have m7:(m:Int)+1-1=(m:Int):=O;have t9:IntKind.i64.wrap (m:Int)=(m:Int):=mH _ O;have s9:(m:Int)<(b:Int):=O;have C1:IntKind.i64.wrap (ix-s.a8)=ix-s.a8:=mH _ O;have B7:(K:Int)<(s.a7:Int):=O;have B8:=Int.toNat_natCast K;have B6:0<=(K:Int)∧(K:Int)<(s.a7:Int):=O;obtain⟨w2,E⟩:=eX (wc.alloc (.cells #[s.k,s.a8,s.c6,.slice al M cl,.slice (Q,R) s.a7 ce,lo,.bool em,.bool tn] 139));have m5:=bN E;have I:=kN E;have f1:=I.c 1;have f3:=I.c 3;have f4:=I.c 4;have gK:=(m5.cell (p:=(Q,R+K)) q8).trans P;have p5:=J E;have o9:=J (d.o.trans (m5.mono d.o.size));clear f u v hq n9 D o8 j9 V H n5 E m5 I P t h0;go_upto_region 7 with fail
 rw[<-p5.o];go_upto_region 8 with fail
 rw[<-m9];clear m9;go_wp2_with fail;go_quiet (fail);go_wp2;go_ret2;exact⟨rfl,aD o9.o _⟩
theorem bX3{d:DkD}(h:d.pw.off=false):((d.read aJ).2==0)=d.fs.any fun q=>q.1==aJ:=by
 unfold DkD.read;rw[if_neg (by rw[h];simp)];unfold aX;cases hf:d.fs.find? (fun p=>p.1==aJ) with
 |none=>
  have a:=List.find?_eq_none.1 hf;have b:d.fs.any (fun q=>q.1==aJ)=false:=by
   rw[List.any_eq_false];exact a
  rw[b];rfl
 |some f=>
  have a:=List.mem_of_find?_eq_some hf;have b:=List.find?_some hf;have c:d.fs.any (fun q=>q.1==aJ)=true:=List.any_eq_true.2 ⟨f,a,b⟩;rw[c];rfl
theorem bZ2{s:aH}(h:gU s):I6 s.b2:=by
 unfold aH.b2;rcases mJ s.a7 with a|⟨r,x,a⟩
 rw[a];decide;rw[mA] at a;have b:=h.a7 x (by rw[a];simp);rw[a];simp;omega
theorem aZ1{w:World}{base g:Nat}{p:fT}{room:Int}{vL:Value}{es:List (Nm×RF)}(h:aR w base g p room vL es){L:Nat}(U5:gP L (cN p room es))(hL:L<=1000000000):
  Calls Tryz.prog 39 #[(g,0)] w fun e w' =>xQ w base g vL es (eB (cN p room es)) e w' :=by
 obtain⟨x,y,N3,_⟩:=h.b4;have g2:=(pR N3).1.2.2.1;have HH:=J h;obtain⟨F,R3⟩:=eX (cN p room es);have AC:p.off=F.pw.off:=by rw[R3]
 rw[AC] at g2;rw[<-R3] at U5⊢;have S5:=J U5;have P9:=J R3;clear h N3 U5 R3 AC;go_enter Tryz.func39,Tryz.ntmps39;by_cases ho:F.pw.off=true
 ·have HO:=J (vC ho)
  rw[ho] at g2;clear ho;go_wp2;go_ret2;rw[HO.o];exact⟨vL,es,by rw[P9.o];exact HH.o,by rw[P9.o],Fr.refl _ _,fun k hk=>.inl hk,rfl⟩
 have O6:F.pw.off=false:=by simpa using ho
 have HO:=J (yZ O6);have M2:=J O6;rw[O6] at g2;obtain⟨w1,R4⟩:=eX (w.alloc (.cells #[(g,0),.int .i64 0,.int .i64 0,.slice none 0 0,.int .i64 0] 94));have T0:=bN R4;have Y4:=kN R4;have M5:cZ w base g vL es w F 0 0 (.slice none 0 0) 0 w1 vL es:=
  ⟨by rw[P9.o];exact HH.o.a1 T0,by rw[P9.o],Y4,Fr.b9 _ T0,fun k hk=>.inl hk⟩
 have I9:=kR S5.o M5.fs;have G9:=bJ0 M5.c8 aJ O (fun q N=>ω1 (I9.1 q N));rw[qU M5.fs,bX3 O6] at G9;replace G9:=J G9;have S3:=J M5;have X4:=J R4;have V6:=J I9;obtain⟨V,T6⟩:=eX w.heap.size;have B8:=J T6;clear ho O6 R4 T0 Y4 M5 I9;go_upto_region 4 with fail
 rw[<-X4.o];rw[<-T6] at S3⊢;change Hq (Calls Tryz.prog _ #[_,.string ⟨#[109,101,116,97,46,110,101,119]⟩] w1 _) at G9;clear g2 T6 X4;obtain⟨B,hB⟩:∃B:Bool,B=F.fs.any fun q=>q.1==aJ:=⟨_,rfl⟩
 rw[<-hB] at G9;have AA:gA F=if B=true then F.b6 aJ else(0,F):=by rw[hB];rfl
 have S2:=J AA;clear hB AA;go_wp2_with fail;refine G9.o.mono ?_;rintro e w2 ⟨rfl,N2⟩;have S4:=J (S3.o.a1 N2);clear N2 G9 S3;go_upto_if 30 with fail
 go_cut [6] from 31 to 40 (fun bv wx=>∃(K5:Value) (I5:List (Nm×RF)),Hq ((gA F).1=0)∧Hq (cZ w base g vL es V (gA F).2 0 0 (.slice none 0 0) 0 wx K5 I5))
 case first=>
  cases B with
  |false=>
   have z:gA F=(0,F):=S2.o;go_wp2;go_meet;exact⟨vL,es,J (by rw[z]),J (by rw[z];exact S4.o)⟩
  |true=>
   have z:gA F=F.b6 aJ:=S2.o;have S0:=J z;have p4:=S4.o.rm aJ (ω1 (V6.o.2.1));change Calls Tryz.prog _ #[_,.string ⟨#[109,101,116,97,46,110,101,119]⟩] w2 _ at p4;rw[<-z] at p4;replace p4:=J p4;clear z;go_wp2_with fail;refine p4.o.mono ?_;rintro e E ⟨rfl,E6,D4,Z0,_,_⟩;have m6:=J (Z0.do_ (gA F).1);clear Z0 p4;go_wp2_with fail;refine m6.o.mono ?_;rintro e w4 ⟨rfl,Z1,AV⟩;have Q4:=J Z1;clear Z1 AV m6;obtain⟨T,j8⟩:=eX ((gA F).1);rw[<-j8] at Q4⊢;have G0:=J j8;clear j8;by_cases Q:T=0
   ·subst Q
    go_wp2;go_meet;exact⟨E6,D4,J G0.o.symm,Q4⟩
   have P7:=mN.2 Q;have j4:=Q4.o.jb.c 4;have hr:eB F=(T,none,(gA F).2):=by rw[HO.o,if_neg (by rw[<-G0.o];exact Q),<-G0.o]
   have HR:=J hr;clear Q hr;go_wp2_with fail;go_quiet (fail);go_wp2;go_ret2;exact(Q4.o.a1 (aD (lS _ w4) _)).h2 B8.o T HR.o
 obtain⟨K5,I5,HZ,J5⟩:=hcut;have hr:eB F=jP (gA F).2:=by rw[HO.o,if_pos HZ.o]
 have HR:=J hr;have M1:=J (aO8 M2.o HZ.o);have p9:=J (aJ6 S5.o);obtain⟨Z,Z4⟩:=eX ((gA F).2);rw[<-Z4] at HR M1 p9 J5;clear hr Z4 HZ HO S5 M2 S2 S4 V6;have I9:=kR p9.o J5.o.fs;have I1:=J I9;have L8:=aZ0 J5.o.c8 O (fun q N=>ω1 (I9.1 q N));rw[qU J5.o.fs] at L8;replace L8:=J L8;clear I9;go_wp2_with fail;refine L8.o.mono ?_;rintro e w2 ⟨N2,mt,mv,BJ,rfl,hM⟩;have G6:=J (J5.o.a1 N2);have J8:=J hM;have L5:=aY9 G6.o.c8 (ω1 (I1.o.2.1)) I1.o.2.2 (fun q N=>ω1 (I1.o.1 q N));rw[qU G6.o.fs] at L5;replace L5:=J L5;clear N2 hM L8 J5;go_wp2_with fail;refine L5.o.mono ?_;rintro e E ⟨Z3,v3,rfl,Y7⟩;have o9:=J (G6.o.a1 Z3);have L3:=J Y7;obtain⟨Y,G4⟩:=eX w2.heap.size;have AW:V<Y:=by rw[G4];exact G6.o.jb.lt
 have BZ:w<=Y:=by rw[G4];exact G6.o.fr.size
 have Q0:=J (show∀k,aL g K5 I5 k->k<Y from fun k hk=>by rw[G4];exact(G6.o.c8.lt k hk).2);have L6:=J G4;obtain⟨M,hM⟩:=eX (dQ Z);obtain⟨LJ,Q7⟩:=eX (gH Z);have G5:jP Z=aK1 M LJ Z:=by rw[hM,Q7];exact qP Z
 have f9:=J G5;have D0:=J (show∀l,LJ=some l->l.length<=Z.fs∧(∀y∈l,gU y.1∧(1<=y.1.k∧y.1.k<=999999999)∧(y.1.a7=[]∧y.1.l=[]∨pX y.1∧1<=y.1.a8)∧(∀e∈y.1.l,e.b.length<=65535)∧y.1.l.length<=1000000000)∧eT l=true from fun l hl=>yW (d:=Z) (by rw[<-Q7];exact hl) (fun q N=>by
  rw[<-o9.o.fs] at N;obtain⟨x,hx,rfl⟩:=mF.1 N;have:=I1.o.1 x hx;show x.2.f.b.length<=_
  omega))
 have Q3:=J (show∀t v,M=some (t,v)->(I6 t)∧(I6 v) from fun t v e=>rW (d:=Z) (by rw[<-hM];exact e));rw[<-hM] at J8;rw[<-Q7] at L3⊢;clear Z3 Y7 L5 G6 G4 hM Q7 G5;rcases M with _|⟨CC,CD⟩
 ·obtain rfl:BJ=false:=J8.o
  have C1:=J (show eB F=(53,none,Z) by rw[HR.o,f9.o];rfl);clear L3 D0 J8 HR f9 Q3;cases LJ with
  |none=>
   go_wp2;go_ret2;exact o9.o.h2 B8.o 53 C1.o
  |some l=>
   go_wp2;go_ret2;exact o9.o.h2 B8.o 53 C1.o
 obtain⟨rfl,e1,e2⟩:=J8.o;simp only at e1 e2;subst e1 e2;rcases LJ with _|l
 ·have C1:=J (show eB F=(53,none,Z) by rw[HR.o,f9.o];rfl)
  clear L3 D0 J8 HR f9 Q3;go_wp2;go_ret2;exact o9.o.h2 B8.o 53 C1.o
 obtain⟨R,J2,D7,D6⟩:=L3.o l rfl;obtain⟨A,c,rfl,AU,N4,_⟩:=aK J2;have U0:=D0.o l rfl;have J1:R.length=l:=by rw[<-D7,lU]
 have AE:R.length<=1000000000:=by
  have z:=U0.1;have h2:=I1.o.2.1;have h3:Z.fs.length=I5:=by rw[<-o9.o.fs];simp
  omega
 have l5:∀q∈R,gU q.s∧(1<=q.s.k∧q.s.k<=999999999)∧q.s.l.length<=1000000000:=fun q N=>by
  have z:=U0.2.1 q.o (by rw[<-D7];exact mF.2 ⟨q,N,rfl⟩);exact⟨z.1,z.2.1,z.2.2.2.2⟩
 have l4:=J l5;have O2:jK E (fun k=>Y<=k∧k<E.heap.size) A c R:=⟨dM.e8 J2 (fun k z h2=>⟨by rw[L6.o];exact z,h2⟩) (by rw[bS]),⟨AU,N4⟩,fun q N=>(D6 q N).1.rd (l5 q N).1 (D6 q N).2.1 (D6 q N).2.2 (fun k z h2=>⟨by rw[L6.o];exact z,h2⟩)⟩;have L7:=J O2;have n5:=J D7;have L9:=J (Q3.o mt mv rfl);clear J2 D7 D6 U0 O2 L3 D0 J1 l5 J8 Q3;obtain⟨w4,K4⟩:=eX ((E.setCell (V,1) mt).setCell (V,2) mv);have X8:cZ w base g vL es V Z mt mv (.slice none 0 0) 0 w4 K5 I5:=by
  have z:=o9.o.put (aA E V 1 _) (by have:=o9.o.jb.b8 1 mt;simpa using this);rw[K4];exact z.put (aA _ V 2 _) (by have:=z.jb.b8 2 mv;simpa using this)
 have Y8:jK w4 (fun k=>Y<=k∧k<E.heap.size) A c R:=by
  rw[K4];exact(L7.o.b1 (w' :=E.setCell (V,1) mt) (aA E V 1 _).size (fun k hk=>Below.heap_setCell E _ _ k (by show k≠V;omega))).b1 (aA _ V 2 _).size (fun k hk=>Below.heap_setCell _ _ _ k (by show k≠V;omega))
 have BU:E.heap.size=w4:=by rw[K4];simp
 have j1:=o9.o.jb.c 1;have j2:=o9.o.jb.c 2;have f1:=o9.o.jb.a6 1;have f2:=o9.o.jb.a6 2;have P8:=J X8;have C9:=J Y8;have X5:=J K4;clear X8 Y8 K4;go_upto_region 15 with fail
 rw[<-X5.o];clear j1 j2 f1 f2 X5 o9 L7;obtain⟨B3,Y0⟩:∃B:Bool,B=true↔∃r q,R=r++[q]∧q.s.a7=[]:=by
  by_cases hh:∃r q,R=r++[q]∧q.s.a7=[]
  exact⟨true,by simp[hh]⟩;exact⟨false,Iff.intro (fun h=>by cases h) (fun h=>absurd h hh)⟩
 have C7:=J Y0;clear Y0;go_cut [77] from 66 to 77 (fun cv wx=>cv=.bool B3∧wx=w4)
 case first=>
  rcases mJ R with I|⟨r,q,I⟩
  ·have hB:B3=false:=by
    cases B3 with
    |false=>rfl
    |true=>
     obtain⟨r,q,z,_⟩:=C7.o.1 rfl;rw[I] at z;simp at z
   subst I;subst hB;clear C7 C9 n5 l4;go_wp2;go_meet;exact⟨rfl,rfl⟩
  rw[mA] at I;have J1:R.length=r+1:=by rw[I];simp
  have G3:R[r.length]'O=q:=by simp[I]
  obtain⟨D,ao,rfl,_,m8,g9⟩:=C9.o.at_ (i:=r.length) O;have c6:=g9 6 (.bool q.em) (by rw[G3];rfl);have Z6:=(C9.o.rd q (by rw[I];simp)).em;have Y2:B3=q.em:=by
   rw[Z6];cases hx:q.s.a7 with
   |nil=>exact C7.o.2 ⟨r,q,I,hx⟩
   |cons a l=>
    cases B3 with
    |false=>rfl
    |true=>
     obtain⟨r',q',z,h2⟩:=C7.o.1 rfl;rw[I] at z;have:=List.append_inj_right' z rfl;injection this with this _
     subst this;rw[h2] at hx;cases hx
  obtain⟨n1,K3⟩:=eX r.length;rw[<-K3] at c6;have BH:(R:Int)-1=(n1:Int):=O;have AJ:IntKind.i64.wrap (n1:Int)=(n1:Int):=mH _ O;have U4:(n1:Int)<(R:Int):=O;rw[<-Y2] at c6;clear I G3 g9 K3 C9 n5 l4 C7 J1 Z6 Y2;go_wp2;go_meet;exact⟨rfl,rfl⟩
 obtain⟨rfl,rfl⟩:=hcut;go_upto_if 77 with fail
 go_cut [10,12] from 78 to 100 (fun v o wx=>∃(u:List RqR) (d2:DkD) (J4:Value) (es2:List (Nm×RF)),v=.slice A u c∧u.length<=R∧E.heap.size<=wx∧Hq (cZ w base g vL es V d2 mt mv (.slice none 0 0) 0 wx J4 es2)∧Hq (jK wx (fun k=>Y<=k∧k<E.heap.size) A c u)∧Hq (eB F=cQ (u.map RqR.o) (mt,mv) d2)∧Hq (gP L d2)∧Hq (∀q∈u,q∈R)∧Hq (∀k,Y<=k∧k<E.heap.size->¬aL g J4 es2 k))
 case first=>
  cases B3 with
  |false=>
   have Z9:¬∃r q,R=r++[q]∧q.s.a7=[]:=fun hh=>by have:=C7.o.2 hh;cases this
   have l5:eB F=cQ (R.map RqR.o) (mt,mv) Z:=by
    rw[HR.o,f9.o,<-n5.o];rcases mJ R with I|⟨r,q2,I⟩
    rw[I];rfl;rw[mA] at I;rw[I];show gC _ _ _=_
    rw[qY,if_neg];intro z;exact Z9 ⟨r,q2,I,by simpa using z⟩
   have q8:=J l5;have J9:=J (show∀k,Y<=k∧k<E.heap.size->¬aL g K5 I5 k from fun k hk hf=>ω1 (Q0.o k hf));have G7:=J (show∀q∈R,q∈R from fun q N=>N);clear Z9 l5;go_wp2;go_meet;exact⟨R,Z,K5,I5,rfl,lR _,O,P8,C9,q8,p9,G7,J9⟩
  |true=>
   obtain⟨r,q,I,AD⟩:=C7.o.1 rfl;have J1:R.length=r+1:=by rw[I];simp
   have G3:R[r.length]'O=q:=by simp[I]
   obtain⟨D,ao,rfl,_,m8,g9⟩:=C9.o.at_ (i:=r.length) O;have c0:wc.cell? (D,ao+r*8)=some (.int .i64 q.s.k):=g9 0 q.s.k (by rw[G3];rfl);have O8:=(l4.o q (by rw[I];simp)).2.1;have i6:=J (gN q.s.k O wc);have Y6:jK wc (fun k=>Y<=k∧k<E.heap.size) (D,ao) c r:=by
    have z:=C9.o.take (n:=r.length) O;rw[I] at z;simpa using z
   have V7:=J Y6;have G7:=J (show∀x∈r,x∈R from fun x hx=>by rw[I];simp[hx]);have l5:eB F=if(Z.b6 (aE q.s.k)).1=0 then cQ (r.map RqR.o) (mt,mv) (Z.b6 (aE q.s.k)).2 else((Z.b6 (aE q.s.k)).1,none,(Z.b6 (aE q.s.k)).2):=by
    rw[HR.o,f9.o,<-n5.o,I];show gC _ _ _=_
    rw[qY,if_pos (by simp[AD])]
   have q8:=J l5;obtain⟨C,D8⟩:=eX (aE q.s.k);rw[<-D8] at i6 q8;have I2:=J (show gP L (Z.b6 C).2 from p9.o.run (.rm C));obtain⟨n1,K3⟩:=eX r.length;have S0:=J K3;rw[<-K3] at c0;obtain⟨qk,B6⟩:=eX q.s.k;rw[<-B6] at c0 i6;have BH:(R:Int)-1=(n1:Int):=O;have AJ:IntKind.i64.wrap (n1:Int)=(n1:Int):=mH _ O;have U4:(n1:Int)<(R:Int):=O;have BB:n1<=c:=O;have N7:=fun W:World=>nQ (P:=Tryz.prog) Tryz.underlying92 dX (D,ao) R c n1 O (n1:Int) rfl W
   clear I G3 g9 D8 K3 C9 n5 C7 J1 Y6 l5 AD O8 f9 B6 l4;go_wp2_with fail;refine i6.o.mono ?_;rintro e w5 ⟨rfl,l8⟩;have K7:=J (P8.o.a1 l8);have K9:=J l8;have P1:=l8.size;have p4:=J (K7.o.rm C (ω1 (I1.o.2.1)));clear l8 i6 P8;go_wp2_with fail;refine p4.o.mono ?_;rintro e w6 ⟨rfl,J4,es2,s9,i4,d8⟩;have m6:=J (s9.do_ (Z.b6 C).1);have P2:=d8.size;have Y3:∀k,Y<=k∧k<E.heap.size->w6.heap[k]? =wc.heap[k]? :=fun k hk=>(d8.block k O (fun z=>ω1 (Q0.o k z))).trans (K9.o.block k O)
   have L1:=J Y3;have J9:=J (show∀k,Y<=k∧k<E.heap.size->¬aL g J4 es2 k from fun k hk hf=>by
    rcases i4 k hf with z|z
    have:=Q0.o k z;omega;omega)
   clear s9 i4 d8 Y3 p4 K9 K7;go_wp2_with fail;refine m6.o.mono ?_;rintro e w7 ⟨rfl,t9,l9⟩;have P3:=l9.size;have E9:=J (V7.o.b1 (w' :=w7) O (fun k hk=>(l9.block k O O).trans (L1.o k hk)));have l6:=J t9;have U9:E.heap.size<=w7:=O;clear t9 l9 m6 L1 V7;obtain⟨T,j8⟩:=eX ((Z.b6 C).1);rw[<-j8] at l6 q8⊢;clear j8;by_cases Q:T=0
   ·subst Q
    have I4:=J (q8.o.trans (if_pos rfl));clear q8;go_wp2;go_meet;exact⟨r,(Z.b6 C).2,J4,es2,by rw[S0.o],ω1 S0.o,U9,l6,E9,I4,I2,G7,J9⟩
   have I4:=J (q8.o.trans (if_neg Q));have P7:=mN.2 Q;have j4:=l6.o.jb.c 4;clear q8 Q N7;go_wp2_with fail;go_quiet (fail);go_wp2;go_ret2;exact(l6.o.a1 (aD (lS _ w7) _)).h2 B8.o T I4.o
 obtain⟨u,d2,J4,es2,rfl,BD,AJ,K7,R9,q8,M3,L2,J9⟩:=hcut;clear C7 P8 C9 f9 HR n5 I1 p9 M1 Q0;have Z8:u.length<=1000000000:=O;go_wp2_with fail;go_loopw [13,14,15,16] (fun fv iv _ _ wr=>∃(k st:Nat),(1<=k∧st<k)∧(k<=u∨k=1)∧fv=.int .i64 st∧iv=.int .i64 k∧Hq (dC [] ((u.map RqR.s).take k)=((u.map RqR.s).take k).drop st)∧Hq (Below wc wc wr)) (fun _ iv _ _ _=>u.length+1-(intOf iv).toNat)
 case atStart=>
  refine⟨1,0,O,.inr rfl,rfl,rfl,J ?_,J (lS _ _)⟩;cases u with
  |nil=>rfl
  |cons a r=>simp[dC]
 obtain⟨k,st,⟨AY,J3⟩,AZ,rfl,rfl,D3,HB⟩:=hrel;have U8:=HB.o.size;by_cases hlt:k<u
 ·obtain⟨m,rfl⟩:∃m,k=m+1:=⟨k-1,O⟩
  have Q2:=J (R9.o.b1 U8 (fun x hx=>HB.o.block x O));obtain⟨D,ao,rfl,_,m8,U⟩:=Q2.o.at_ (i:=m) O;obtain⟨BL,BM,e1,_,_,R2⟩:=Q2.o.at_ (i:=m+1) O;injection e1 with e1
  injection e1 with e1 e2 _
  subst e1 e2;obtain⟨p,hp⟩:=eX (u[m]'O);obtain⟨q,N⟩:=eX (u[m+1]'O);rw[<-hp] at U;rw[<-N] at R2;have U6:p∈u:=by rw[hp];exact lX _
  have E5:q∈u:=by rw[N];exact lX _
  have L4:=J ((Q2.o.rd p U6).b7 (ω1 ((l4.o p (L2.o p U6)).2.2)));have BC:=(l4.o q (L2.o q E5)).1.a8;have Z7:q.s.h0 p.s=(decide (q.s.a8-1=p.s.b7.1)&&decide (q.s.c6=p.s.b7.2)):=rfl;have K0:=J (fun hg:q.s.h0 p.s=true=>aR9 (sl:=u.map RqR.s) (k:=m+1) (st:=st) (by simpa using hlt) (fun _=>J3) D3.o O (fun _=>by
   simp only[List.getElem_map,Nat.add_sub_cancel];rw[<-hp,<-N];exact hg))
  have C0:=J (fun hg:q.s.h0 p.s=false=>bD1 (sl:=u.map RqR.s) (k:=m+1) (st:=st) (by simpa using hlt) O (fun _=>J3) D3.o (by
   simp only[List.getElem_map,Nat.add_sub_cancel];rw[<-hp,<-N];exact hg))
  have e0:=U 0 p.s.k rfl;have e1:=U 1 p.s.a8 rfl;have e2:=U 2 p.s.c6 rfl;have e3:=U 3 p.vl rfl;have e4:=U 4 p.ve rfl;have e5:=U 5 p.lo rfl;have e6:=U 6 (.bool p.em) rfl;have e7:=U 7 (.bool p.tn) rfl;rw[Nat.add_zero] at e0;have y1:=R2 1 q.s.a8 rfl;have y2:=R2 2 q.s.c6 rfl;have HY:=J (And.intro y1 y2);unfold RqR.vl at e3 L4;unfold RqR.ve at e4 L4;rw[Z7] at K0 C0;obtain⟨ix,T7⟩:=eX (p.s.b7.1);obtain⟨tm,V1⟩:=eX (p.s.b7.2);obtain⟨qf,D9⟩:=eX q.s.a8;obtain⟨qt,J0⟩:=eX q.s.c6;rw[<-T7,<-V1] at L4;rw[<-T7,<-V1,<-D9,<-J0] at K0 C0;rw[<-D9] at BC;rw[<-D9,<-J0] at HY;have BR:m<=1000000000:=O;have CA:IntKind.i64.wrap (((m+1:Nat):Int)-1)=(m:Int):=by rw[mH _ O];omega
  have BI:IntKind.i64.wrap (m:Int)=(m:Int):=mH _ O;have BS:(m:Int)<(u:Int):=O;have BY:IntKind.i64.wrap (qf-1)=qf-1:=mH _ O;clear U R2 Z7 y1 y2 hp N U6 E5 Q2 T7 V1 D9 J0;go_wp2_with fail;refine L4.o.mono ?_;rintro e w6 ⟨rfl,Q9⟩;have R7:=J (HB.o.trans (Q9.mono U8));have y1:=(Q9.cell (p:=(D,ao+(m+1)*8+1)) m8).trans HY.o.1;have y2:=(Q9.cell (p:=(D,ao+(m+1)*8+2)) m8).trans HY.o.2;clear Q9 L4 e0 e1 e2 e3 e4 e5 e6 e7 HY HB;by_cases z:qf-1=ix
  ·by_cases h2:qt=tm
   ·have M4:=J (K0.o (by rw[decide_eq_true z,decide_eq_true h2];rfl))
    have b1:=bne_eq_false_iff_eq.2 z;have b2:=bne_eq_false_iff_eq.2 h2;clear z h2 K0 C0;go_wp2;go_roundw
    case rel=>exact⟨m+1+1,st,O,.inl O,rfl,by go_num,M4,R7⟩
    case measure=>simp[intOf];omega
   have M4:=J (C0.o (by rw[decide_eq_false h2,Bool.and_false]));have b1:=bne_eq_false_iff_eq.2 z;have b2:=bne_iff_ne.2 h2;clear z h2 K0 C0;go_wp2;go_roundw
   case rel=>exact⟨m+1+1,m+1,O,.inl O,rfl,by go_num,M4,R7⟩
   case measure=>simp[intOf];omega
  have M4:=J (C0.o (by rw[decide_eq_false z,Bool.false_and]));have b1:=bne_iff_ne.2 z;clear z K0 C0;go_wp2;go_roundw
  case rel=>exact⟨m+1+1,m+1,O,.inl O,rfl,by go_num,M4,R7⟩
  case measure=>simp[intOf];omega
 have P0:dC [] (u.map RqR.s)=(u.map RqR.s).drop st∧st<=u∧(0<u.length->st<u):=by
  have z:=D3.o;rw[List.take_of_length_le θ] at z;exact⟨z,O,fun h=>O⟩
 have V3:=J (K7.o.a1 HB.o);have V8:=J (R9.o.b1 U8 (fun x hx=>HB.o.block x O));have C0:=J P0.1;obtain⟨_,B7,P4⟩:=P0;clear D3 K7 R9 HB;obtain⟨H,B1⟩:=eX ((u.take st).map (fun q=>aQ.rm (aE q.s.k))++aA9 u);have AB:=aK5 u (mt,mv) d2 B7 C0.o (r:=cF H d2) (by rw[B1]);have j9:=J (q8.o.trans AB);have Z2:∀k (h:k<st) (h2:k<u.length),H.drop k=.rm (aE u[k].s.k)::H.drop (k+1):=fun k h h2=>by
  have T8:k<H:=by rw[B1,lT,lU,lV];omega
  rw[List.drop_eq_getElem_cons T8]
  congr 1
  simp only[B1];rw[List.getElem_append_left (by rw[lU,lV];omega),List.getElem_map,List.getElem_take]
 have V4:=J Z2;have G2:=J (show H.drop st=aA9 u by
  rw[B1,List.drop_append_of_le_length (by rw[lU,lV];omega),List.drop_of_length_le (by rw[lU,lV];omega),List.nil_append])
 have V0:E.heap.size<=wr:=O;have U2:¬(k:Int)<(u:Int):=O;clear B1 AB Z2 q8 C0 AY J3 AZ hlt;go_wp2_with fail;go_loopw [17,18] (fun iv _ wz=>∃(k:Nat) (X:DkD) (E6:Value) (D4:List (Nm×RF)),k<=st∧iv=.int .i64 k∧Hq (cZ w base g vL es V X mt mv (.slice none 0 0) 0 wz E6 D4)∧Hq (jK wz (fun k=>Y<=k∧k<E.heap.size) A c u)∧Hq (gP L X)∧Hq (∀x,Y<=x∧x<E.heap.size->¬aL g E6 D4 x)∧Hq (cF H d2=cF (H.drop k) X)∧Hq (E.heap.size<=wz)) (fun iv _ _=>st-(intOf iv).toNat)
 case atStart=>exact⟨0,d2,J4,es2,O,rfl,V3,V8,M3,J9,J rfl,J V0⟩
 obtain⟨k,X,E6,D4,hk,rfl,E7,E9,n8,p8,B9,X3⟩:=hrel;have BG:=X3.o;clear V3 V8 M3 J9 X3;by_cases hlt:k<st
 ·have O3:k<u:=O
  obtain⟨D,ao,rfl,_,m8,U⟩:=E9.o.at_ (i:=k) O3;obtain⟨q,N⟩:=eX (u[k]);have E5:q∈u:=by rw[N];exact lX _
  have N9:=V4.o k hlt O3;rw[<-N] at U N9;have c0:wr.cell? (D,ao+k*8)=some (.int .i64 q.s.k):=U 0 q.s.k rfl;have O8:=(l4.o q (L2.o q E5)).2.1;obtain⟨qk,B6⟩:=eX q.s.k;rw[<-B6] at c0 N9 O8;obtain⟨C,D8⟩:=eX (aE qk);have i6:=gN qk O wr;rw[<-D8] at i6 N9;replace i6:=J i6;have AP:=J N9;have T9:=kR n8.o E7.o.fs;have I2:=J (show gP L (X.b6 C).2 from n8.o.run (.rm C));have U2:(k:Int)<(u:Int):=O;have BF:(k:Int)<(st:Int):=O;have BA:=T9.2.1;clear U N9 N E5 B6 D8 T9;go_wp2_with fail;refine i6.o.mono ?_;rintro e w5 ⟨rfl,l8⟩;have E8:=J (E7.o.a1 l8);have K9:=J l8;have P1:=l8.size;have p4:=J (E8.o.rm C O);clear l8 i6 E7;go_wp2_with fail;refine p4.o.mono ?_;rintro e w6 ⟨rfl,C4,C2,s9,i4,d8⟩;have m6:=J (s9.do_ (X.b6 C).1);have P2:=d8.size;have L1:=J (show∀x,Y<=x∧x<E.heap.size->w6.heap[x]? =wr.heap[x]? from fun x hx=>(d8.block x O (p8.o x hx)).trans (K9.o.block x O));have m3:=J (show∀x,Y<=x∧x<E.heap.size->¬aL g C4 C2 x from fun x hx hf=>by
   rcases i4 x hf with z|z
   exact p8.o x hx z;omega)
  clear s9 i4 d8 p4 K9 E8 c0;go_wp2_with fail;refine m6.o.mono ?_;rintro e w7 ⟨rfl,t9,l9⟩;have P3:=l9.size;have I0:=J (E9.o.b1 (w' :=w7) O (fun x hx=>(l9.block x O O).trans (L1.o x hx)));have l6:=J t9;have S8:=J (show E.heap.size<=w7 by omega);clear t9 l9 m6 L1 E9;have m9:=B9.o;rw[AP.o,gE] at m9;change cF H d2=if(X.b6 C).1=0 then cF (H.drop (k+1)) (X.b6 C).2 else X.b6 C at m9
  obtain⟨T,j8⟩:=eX ((X.b6 C).1);rw[<-j8] at l6 m9⊢;by_cases Q:T=0
  ·subst Q
   have S7:=J (m9.trans (if_pos rfl));clear m9 B9 j8;go_wp2;go_roundw
   case rel=>exact⟨k+1,(X.b6 C).2,C4,C2,O,by go_num,l6,I0,I2,m3,S7,S8⟩
   case measure=>simp[intOf];omega
  have AF:eB F=(T,none,(X.b6 C).2):=by
   rw[j9.o,m9.trans (if_neg Q),<-j8,if_neg Q]
  have C1:=J AF;have P7:=mN.2 Q;have j4:=l6.o.jb.c 4;clear m9 B9 j8 AF Q;go_wp2_with fail;go_quiet (fail);go_wp2;go_ret2;exact(l6.o.a1 (aD (lS _ w7) _)).h2 B8.o T C1.o
 obtain rfl:k=st:=O;have m9:=B9.o;rw[G2.o] at m9;have Q6:=J m9;have T5:=E9.o.cap;have j3:=E7.o.jb.c 3;have f3:=E7.o.jb.a6 3;have N8:=fun W:World=>nX (P:=Tryz.prog) Tryz.underlying92 dX A u c k B7 (k:Int) rfl W
 obtain⟨W8,M6⟩:=eX (wr.setCell (V,3) (.slice (mT A k c 8) (u-k) (c-k)));have X9:cZ w base g vL es V X mt mv (.slice (mT A k c 8) (u-k) (c-k)) 0 W8 E6 D4:=by
  rw[M6];exact E7.o.put (aA _ V 3 _) (by have:=E7.o.jb.b8 3 (.slice (mT A k c 8) (u-k) (c-k));simpa using this)
 have Y9:jK W8 (fun k=>Y<=k∧k<E.heap.size) A c u:=by
  rw[M6];exact E9.o.b1 (aA _ V 3 _).size (fun x hx=>Below.heap_setCell _ _ _ x (by show x≠V;omega))
 have BV:wr.heap.size=W8:=by rw[M6];simp
 have E8:=J X9;have I0:=J Y9;have X6:=J M6;have U3:¬(k:Int)<(k:Int):=O;clear X9 Y9 M6 m9 B9 E7 E9 V4 G2 hk hlt;go_upto_region 34 with fail
 rw[<-X6.o];clear j3 f3 N8 X6 U3;have j3:=E8.o.jb.c 3;have J6:Hq (∀x,Y<=x∧x<E.heap.size->w.heap.size<=x∧x<W8.heap.size∧x≠V):=J (fun x hx=>O);have X0:=J (show∀q∈u,q.s.l.length<=4611686018427387904 from fun q N=>ω1 ((l4.o q (L2.o q N)).2.2));by_cases I:u.length=0
 ·have BP:k=0:=O
  have O9:=mD I;have O7:eB F=(0,some ⟨mt,mv,(u.map RqR.s).drop k,0⟩,X):=by
   rw[j9.o,Q6.o,O9];rfl
  have I3:=J O7;have AM:u-k=0:=O;obtain⟨ls,U1⟩:=eX (u-k);have AQ:=J U1;rw[<-U1] at AM j3 E8;subst AM;clear O7 O9 U1 j9 Q6;go_wp2;go_ret2;exact cZ.k0 B7 AQ.o E8.o B8.o I0.o Z8 X0.o L9.o (fun x hx=>⟨(J6.o x hx).1,(J6.o x hx).2.1,(J6.o x hx).2.2,p8.o x hx⟩) I3.o
 have T8:=P4 O;rcases mJ u with hx|⟨r,q,hx⟩
 rw[hx] at I;exact absurd rfl I;rw[mA] at hx;have J1:u.length=r+1:=by rw[hx];simp
 have G3:u[r.length]'O=q:=by simp[hx]
 obtain⟨D,ao,rfl,BN,m8,U⟩:=I0.o.at_ (i:=r.length) O;rw[G3] at U;have E5:q∈u:=by rw[hx];simp
 obtain⟨n,hn⟩:∃n,u-k=n+1:=⟨u-k-1,O⟩
 obtain⟨n9,N0⟩:=eX (ao+k*8);have T4:mT (D,ao) k c 8=some ⟨D,n9,none⟩:=by
  unfold mT;rw[if_neg O,N0];simp[Addr.add]
 obtain⟨c2,N4⟩:=eX (c-k);have AO:=J T4;have AS:=J hn;have AN:=J N4;have S9:=E8.o;rw[T4,hn,<-N4] at S9 j3;have K8:=J S9;have AE:r=k+n:=O;have M7:∀j,ao+r*8+j=n9+n*8+j:=fun j=>O
 have T3:=I0.o.rd q E5;have BT:n<=1000000000:=O;have AI:aA9 u=(if q.tn=true then[.cut (aE q.s.k) q.s.b2] else[])++[.sync (aE q.s.k)]:=by rw[hx];exact bA5 r q
 have j6:=J (Q6.o.trans (by rw[AI]));have O8:=(l4.o q (L2.o q E5)).2.1;have U7:=bZ2 T3.num;have G4:=T3.lo;have e0:=U 0 q.s.k rfl;have e1:=U 1 q.s.a8 rfl;have e2:=U 2 q.s.c6 rfl;have e3:=U 3 (.slice q.al q.rs q.cl) rfl;have e4:=U 4 (.slice q.ae q.s.a7 q.ce) rfl;have e5:=U 5 q.lo rfl;have e6:=U 6 (.bool q.em) rfl;have e7:=U 7 (.bool q.tn) rfl;rw[M7] at e0 e1 e2 e3 e4 e5 e6 e7;rw[Nat.add_zero] at e0;rw[<-G4] at U7 j6;obtain⟨sk,AH⟩:=eX q.s.k;obtain⟨sf,AG⟩:=eX q.s.a8;obtain⟨V2,P5⟩:=eX q.s.c6;obtain⟨al,M9⟩:=eX q.al;obtain⟨nl,O5⟩:=eX q.rs.length;obtain⟨cl,N6⟩:=eX q.cl;obtain⟨ae,M8⟩:=eX q.ae;obtain⟨ne,O4⟩:=eX q.s.a7.length;obtain⟨ce,N5⟩:=eX q.ce;obtain⟨m5,O1⟩:=eX q.lo;obtain⟨em,O0⟩:=eX q.em;obtain⟨tn,P6⟩:=eX q.tn;rw[<-AH] at e0 j6 O8;rw[<-AG] at e1;rw[<-P5] at e2;rw[<-M9,<-O5,<-N6] at e3;rw[<-M8,<-O4,<-N5] at e4;rw[<-O1] at e5 j6 U7;rw[<-O0] at e6;rw[<-P6] at e7 j6;obtain⟨C,D8⟩:=eX (aE sk);rw[<-D8] at j6;have V9:=J D8;have T9:=(kR n8.o K8.o.fs).2.1;have Q1:=J (show∀x,Y<=x∧x<E.heap.size->¬aL g E6 D4 x from p8.o);have K4:IntKind.i64.wrap (((n+1:Nat):Int)-1)=(n:Int):=by rw[mH _ O];omega
 have BW:IntKind.i64.wrap (n:Int)=(n:Int):=mH _ O;have BX:0<=(n:Int)∧(n:Int)<(n:Int)+1:=O;have X1:=J (And.intro B7 Z8);clear U M7 G4 AH AG P5 M9 O5 N6 M8 O4 N5 O1 O0 P6 D8 T3 AI E5 G3 hx J1 T8 T4 hn N4 N0 S9 E8 T5 I B7 P4 Q6 BD AE;obtain⟨W9,Q8⟩:=eX ((W8.alloc (.cells #[sk,sf,V2,.slice al nl cl,.slice ae ne ce,m5,.bool em,.bool tn] 139)).drew);have Y5:aS W9 W8 139 #[sk,sf,V2,.slice al nl cl,.slice ae ne ce,m5,.bool em,.bool tn]:=by
  rw[Q8];exact aS.new W8 139 _
 have Y1:Below W8 W8 W9:=by
  rw[Q8];exact((lS _ W8).alloc (lR _) _).drew
 have X7:=J Q8;have J7:=J Y5;have L0:=J Y1;have I8:=K8.o.jb.lt;clear Q8 Y5 Y1;go_upto_region 35 with fail
 refine bW 13 κ (S:=fun W=>W.cell? ⟨V,3,none⟩=some (.slice (some ⟨D,n9,none⟩) (n+1) c2)∧W.cell? ⟨D,n9+n*8,none⟩=some (.int .i64 sk)∧W.cell? ⟨D,n9+n*8+1,none⟩=some (.int .i64 sf)∧W.cell? ⟨D,n9+n*8+2,none⟩=some (.int .i64 V2)∧W.cell? ⟨D,n9+n*8+3,none⟩=some (.slice al nl cl)∧W.cell? ⟨D,n9+n*8+4,none⟩=some (.slice ae ne ce)∧W.cell? ⟨D,n9+n*8+5,none⟩=some (.int .i64 m5)∧W.cell? ⟨D,n9+n*8+6,none⟩=some (.bool em)∧W.cell? ⟨D,n9+n*8+7,none⟩=some (.bool tn)) ⟨j3,e0,e1,e2,e3,e4,e5,e6,e7⟩ (fun G=>?_);refine zU 0 (k:=zU 1 (k:=zU 2 (k:=zU 3 (k:=zU 4 (k:=zU 5 (k:=zU 6 (k:=zU 7 (k:=zU 8 (k:=zU 9 (k:=zU 10 (k:=cF8 11 (k:=?_))))))))))));simp only[zA,zB,zF,zG,zC,zD,zE];refine zW 12 (k:=fun K hK=>?_);simp only[zA,zB];go_simp;have C3:=((lS W8 W8).drew).alloc (lR _) (.cells #[.int .i64 0,.int .i64 0,.int .i64 0,.slice none 0 0,.slice none 0 0,.int .i64 0,.bool false,.bool false] 139);refine hK.out _ _ ⟨(C3.cell (p:=⟨V,3,none⟩) I8).trans j3,(C3.cell (p:=⟨D,_,none⟩) m8).trans e0,(C3.cell (p:=⟨D,_,none⟩) m8).trans e1,(C3.cell (p:=⟨D,_,none⟩) m8).trans e2,(C3.cell (p:=⟨D,_,none⟩) m8).trans e3,(C3.cell (p:=⟨D,_,none⟩) m8).trans e4,(C3.cell (p:=⟨D,_,none⟩) m8).trans e5,(C3.cell (p:=⟨D,_,none⟩) m8).trans e6,(C3.cell (p:=⟨D,_,none⟩) m8).trans e7⟩ (fun G=>?_);clear hK K C3;try simp only[zF,zG,zC,zD,zE]
 refine dI (t:=13) (by simp) (by kernel_rfl) (by kernel_rfl) (fun K hK=>?_);simp only[zA,zB];go_simp;refine hK.out _ _ ?_;clear hK K G;rw[<-X7.o];clear X7 e0 e1 e2 e3 e4 e5 e6 e7 j3;have BE:=L0.o.size;have C5:=J (K8.o.a1 L0.o);have C8:=J (I0.o.b1 BE (fun x hx=>L0.o.block x (J6.o x hx).2.1));obtain⟨bq,R1⟩:=eX W8.heap.size;rw[<-R1] at J7 L0⊢;have q0:=J7.o.c 0;have q5:=J7.o.c 5;have q7:=J7.o.c 7;have AX:V<bq:=by rw[R1];exact I8
 have D5:=J7.o.lt;have f8:=J (show∀x,Y<=x∧x<E.heap.size->w.heap.size<=x∧x<bq∧x≠V from fun x hx=>by rw[R1];exact J6.o x hx);have M0:=J (show¬aL g E6 D4 bq from fun hf=>ω1 ((K8.o.c8.lt bq hf).2));clear R1 K8 I0 J6 I8;go_upto_if 180 with fail
 go_cut [20] from 181 to 189 (fun bv wx=>∃(d4:DkD) (C4:Value) (C2:List (Nm×RF)) (T:Int),Hq (cZ w base g vL es V d4 mt mv (.slice (D,n9) (n+1) c2) T wx C4 C2)∧Hq (jK wx (fun k=>Y<=k∧k<E.heap.size) (D,ao) c u)∧Hq (gP L d4)∧Hq (∀x,Y<=x∧x<E.heap.size->¬aL g C4 C2 x)∧Hq (wx.cell? (bq,0)=some (.int .i64 sk))∧Hq (bq<wx)∧((T=0∧bv=.bool true∧Hq (cF H d2=cF [aQ.sync C] d4))∨(T≠0∧bv=.bool false∧Hq (cF H d2=(T,d4)))))
 case first=>
  cases tn with
  |false=>
   have m7:=J (j6.o.trans (by rw[if_neg δ,List.nil_append]));have Q5:=J q0;have G8:=J D5;clear j6;go_wp2;go_meet;exact⟨X,E6,D4,0,C5,C8,n8,Q1,Q5,G8,.inl ⟨rfl,rfl,m7⟩⟩
  |true=>
   have m7:=J (j6.o.trans (by rw[if_pos rfl,List.cons_append,List.nil_append,gE]));clear j6;have i6:=gN sk O W9.drew;rw[<-V9.o] at i6;replace i6:=J i6;go_upto_region 38 with fail
   refine wp_region_held_drew (S:=fun W=>W.cell? ⟨bq,0,none⟩=some (.int .i64 sk)∧W.cell? ⟨bq,5,none⟩=some (.int .i64 m5)∧True∧True) κ ⟨q0,q5,trivial,trivial⟩ (fun G=>?_);refine zT 0 (k:=zT 1 (k:=zT 2 (k:=zT 3 (k:=zT 5 (k:=zT 6 (k:=?_))))));simp only[zA,zB,zF,zG,zC,zD,zE];refine zV 4 (k:=fun K hK=>?_);simp only[zA,zB];go_simp;refine i6.o.mono ?_;rintro e w5 ⟨rfl,l8⟩;have o8:Below W9 W9 w5:=((lS _ W9).drew).trans l8;have P1:=o8.size;have l7:=J (C5.o.a1 o8);have p5:=J (C8.o.b1 P1 (fun x hx=>o8.block x (ω1 ((f8.o x hx).2.1))));have V5:=J (l7.o.cut C m5 U7 O);have r0:=(o8.cell (p:=(bq,0)) D5).trans q0;have r5:=(o8.cell (p:=(bq,5)) D5).trans q5;clear l8 o8 i6 C5 C8;refine hK.out _ _ ⟨r0,r5,trivial,trivial⟩ (fun G=>?_);clear hK K;try simp only[zF,zG,zC,zD,zE]
   refine zV 7 (k:=fun K hK=>?_);simp only[zA,zB];go_simp;refine V5.o.mono ?_;rintro e w6 ⟨rfl,C4,C2,s9,i4,d8⟩;have P2:=d8.size;have m6:=J (s9.do_ (X.e6 C m5).1);have p6:=J (p5.o.b1 P2 (fun x hx=>d8.block x (ω1 ((f8.o x hx).2.1)) (Q1.o x hx)));have m3:=J (show∀x,Y<=x∧x<E.heap.size->¬aL g C4 C2 x from fun x hx hf=>by
    rcases i4 x hf with z|z
    exact Q1.o x hx z;have:=(f8.o x hx).2.1;omega)
   have I7:=d8.block bq O M0.o;have t0:=(mK (w:=w5) (a:=(bq,0)) I7).trans r0;have t5:=(mK (w:=w5) (a:=(bq,5)) I7).trans r5;clear s9 i4 d8 V5 p5 l7 I7;refine hK.out _ _ ⟨t0,t5,trivial,trivial⟩ (fun G=>?_);clear hK K;try simp only[zF,zG,zC,zD,zE]
   refine zV 8 (k:=fun K hK=>?_);simp only[zA,zB];go_simp;refine m6.o.mono ?_;rintro e w7 ⟨rfl,t9,l9⟩;have P3:=l9.size;have l6:=J t9;have p7:=J (p6.o.b1 P3 (fun x hx=>l9.block x (ω1 ((f8.o x hx).2.1)) (f8.o x hx).2.2));have I7:=l9.block bq O O;have s0:=(mK (w:=w6) (a:=(bq,0)) I7).trans t0;have s5:=(mK (w:=w6) (a:=(bq,5)) I7).trans t5;have W5:=J s0;have G8:=J (show bq<w7 by omega);clear t9 l9 m6 p6 I7;refine hK.out _ _ ⟨s0,s5,trivial,trivial⟩ (fun G=>?_);clear hK K;try simp only[zF,zG,zC,zD,zE]
   refine zT 9 (k:=?_);simp only[zA,zB,zF,zG,zC,zD,zE];refine wpAnyH_done κ ?_ _;clear G s0 s5 t0 t5 r0 r5 q0 q5 q7;change Hq (cF H d2=if(X.e6 C m5).1=0 then cF [aQ.sync C] (X.e6 C m5).2 else X.e6 C m5) at m7;have D1:=J (show gP L (X.e6 C m5).2 from n8.o.run (.cut C m5));obtain⟨T,j8⟩:=eX ((X.e6 C m5).1);rw[<-j8] at l6 m7⊢;by_cases Q:T=0
   ·subst Q
    have S6:=J (m7.o.trans (if_pos rfl));clear m7 j8;go_wp2;go_meet;exact⟨(X.e6 C m5).2,C4,C2,0,l6,p7,D1,m3,W5,G8,.inl ⟨rfl,rfl,S6⟩⟩
   have P7:=mN.2 Q;have S6:=J (show cF H d2=(T,(X.e6 C m5).2) from(m7.o.trans (if_neg Q)).trans (by rw[j8]));have HZ:=J Q;clear m7 j8 Q;go_wp2;go_meet;exact⟨(X.e6 C m5).2,C4,C2,T,l6,p7,D1,m3,W5,G8,.inr ⟨HZ.o,by rw[P7],S6⟩⟩
 obtain⟨d4,C4,C2,T,l7,p5,D1,m3,Q5,G8,R6⟩:=hcut;clear C5 C8 n8 Q1 p8 M0 q0 q5 q7 D5 J7 L0 j6;rcases R6 with⟨rfl,rfl,m7⟩|⟨Q,rfl,m7⟩
 rotate_left
 ·have C1:=J (show eB F=(T,none,d4) by rw[j9.o,m7.o];simp only;rw[if_neg Q])
  have j4:=l7.o.jb.c 4;clear j9 m7 Q;go_wp2_with fail;go_quiet (fail);go_wp2;go_ret2;exact(l7.o.a1 (aD (lS _ wc) _)).h2 B8.o T C1.o
 have BO:=G8.o;have q0:=Q5.o;have i6:=gN sk O wc;rw[<-V9.o] at i6;replace i6:=J i6;have BQ:=(kR D1.o l7.o.fs).2.1;clear G8 Q5;go_wp2_with fail;refine i6.o.mono ?_;rintro e w5 ⟨rfl,l8⟩;have P1:=l8.size;have K6:=J (l7.o.a1 l8);have p6:=J (p5.o.b1 P1 (fun x hx=>l8.block x (ω1 ((f8.o x hx).2.1))));have X2:=J (K6.o.sync C O);clear l8 i6 l7 p5;go_wp2_with fail;refine X2.o.mono ?_;rintro e w6 ⟨rfl,BK,AT,s9,i4,d8⟩;have P2:=d8.size;have m6:=J (s9.do_ (d4.sync C).1);have p7:=J (p6.o.b1 P2 (fun x hx=>d8.block x (ω1 ((f8.o x hx).2.1)) (m3.o x hx)));have S1:=J (show∀x,Y<=x∧x<E.heap.size->¬aL g BK AT x from fun x hx hf=>by
  rcases i4 x hf with z|z
  exact m3.o x hx z;have:=(f8.o x hx).2.1;omega)
 clear s9 i4 d8 X2 p6 K6 q0;go_wp2_with fail;refine m6.o.mono ?_;rintro e w7 ⟨rfl,t9,l9⟩;have P3:=l9.size;have l6:=J t9;have R8:=J (p7.o.b1 P3 (fun x hx=>l9.block x (ω1 ((f8.o x hx).2.1)) (f8.o x hx).2.2));have m9:cF H d2=d4.sync C:=by rw[m7.o,zX];rfl
 clear t9 l9 m6 p7 m7;obtain⟨T,j8⟩:=eX ((d4.sync C).1);rw[<-j8] at l6⊢;have B9:=J m9;have G0:=J j8;clear m9 j8;by_cases Q:T=0
 ·subst Q
  have I3:=J (show eB F=(0,some ⟨mt,mv,(u.map RqR.s).drop k,0⟩,(d4.sync C).2) by rw[j9.o,B9.o,<-G0.o,if_pos rfl]);have C6:=l6.o;rw[AN.o,<-AS.o] at C6;rw[show(some ⟨D,n9,none⟩:Option Addr)=mT (D,ao) k c 8 from AO.o.symm] at C6;have R5:=J C6;clear C6 j9 B9 G0;go_wp2;go_ret2;exact cZ.k0 X1.o.1 rfl R5.o B8.o R8.o X1.o.2 X0.o L9.o (fun x hx=>⟨(f8.o x hx).1,ω1 ((f8.o x hx).2.1),(f8.o x hx).2.2,S1.o x hx⟩) I3.o
 have P7:=mN.2 Q;have C1:=J (show eB F=(T,none,(d4.sync C).2) by rw[j9.o,B9.o,<-G0.o,if_neg Q]);have j4:=l6.o.jb.c 4;clear j9 B9 G0 Q;go_wp2_with fail;go_quiet (fail);go_wp2;go_ret2;exact(l6.o.a1 (aD (lS _ w7) _)).h2 B8.o T C1.o
theorem pE{w:World}{F:Nat->Prop}{rs:List EntR}(a:∀q∈rs,gQ w F q.v q.e.b):∀u∈aG rs,u.oneCell' =true:=by
 intro u d;obtain⟨q,c,h⟩:=List.mem_flatMap.1 d;obtain⟨g,i,f,_⟩:=a q c;unfold dU at h;simp only[List.mem_cons,List.not_mem_nil,or_false] at h;rcases h with rfl|rfl|rfl|rfl
 rfl;rfl;rfl;rw[f];rfl
theorem jX.entries{F:Nat->Prop}{gj g:Nat}{j:bQ}{w:World}(h:jX w F gj g j)(hF:∀k,F k->k<w.heap.size)(hn:j.c7.length<=1099511627776)(ht:∀s∈j.b0,∀e∈s.l,e.b.length<=1099511627776):
  Calls Tryz.prog 43 #[(gj,0)] w fun e G =>∃v n,e=.returned v∧G.ownsRow w.heap.size 65 4 v n.length (aG n)∧n.map EntR.e=j.c7∧(∀q∈n,Bs G w.heap.size q.v q.e.b)∧Below w.heap.size w G :=by
 obtain⟨⟨A,c,a,y,h2,h3,N,h5⟩,h6,_⟩:=h;have c3:=y.c 3;have o8:=y.lt;have H3:=J h3;have H5:=J h5;have C:=J hF;have HT:=J ht;have I:j.c7=(a.map fun q=>q.s.l).flatten:=by unfold bQ.c7;rw[<-N,List.map_map];rfl
 have j9:=J I;have W:Hq (((a.map fun q=>q.s.l).flatten).length<=1099511627776):=J (by rw[<-I];exact hn);have t9:a.length<=1099511627776:=by rw[show a.length=j.b0 by rw[<-N,lU]];exact h6
 clear y h2 h3 N h5 h6 hF hn ht I;go_enter Tryz.func43,Tryz.ntmps43;go_wp2_with fail;go_loopw [4,3] (fun i v wr=>∃(k:Nat) (d:List EntR),k<=a∧i=.int .i64 k∧Hq (wr.ownsRow w 65 4 v d (aG d))∧Hq (d.map EntR.e=((a.take k).map fun q=>q.s.l).flatten)∧Hq (∀q∈d,gQ wr F q.v q.e.b)∧Hq (Below w w wr)) (fun i _ _=>a.length-(intOf i).toNat)
 case atStart=>exact⟨0,[],O,rfl,J (World.ownsRow_nil _ _ _ _),J rfl,J (fun q f=>by cases f),J (lS _ _)⟩
 obtain⟨k,d,E,rfl,D,t,X,m⟩:=hrel;have B:=m.o.size;obtain⟨Av,cv,hv,q8,B1,hx⟩:=aK D.o;subst hv;clear hx;have d3:=(m.o.cell (p:=(gj,3)) o8).trans c3;by_cases r:k<a;rotate_left
 ·obtain rfl:k=a:=O
  rw[List.take_length] at t;have p6:d.length<=1099511627776:=by
   rw[<-lU EntR.e,t.o];exact W.o
  have V:=J (tY (F:=fun x=>x<wr.heap.size) Av d cv wr (dM.e8 D.o (fun x _ hx=>hx) (by rw[aN];omega)) (fun q f=>by
   obtain⟨H,M,e,S,T,U⟩:=X.o q f;exact⟨H,M,e,S,T,U.mono (fun x hx=>ω1 (C.o x hx))⟩) (fun x hx=>hx) p6 (fun q f=>by
   have y:q.e∈j.c7:=by rw[j9.o,<-t.o];exact mF.2 ⟨q,f,rfl⟩
   unfold bQ.c7 at y;obtain⟨l,o9,p4⟩:=List.mem_flatten.1 y;obtain⟨s,p7,rfl⟩:=mF.1 o9;exact HT.o s p7 q.e p4) ⟨q8,by unfold maxLen;omega⟩)
  go_wp2_with fail;refine V.o.mono ?_;rintro e w3 ⟨v3,n,rfl,R,P,l9,l6⟩;have p5:d.length=n:=by rw[<-lU EntR.e,<-P,lU]
  rw[p5] at R;have HV:=J (jH R B);have HM:=J (P.trans (t.o.trans j9.o.symm));have n5:=J (fun q f=>Own.mono (l9 q f) B);have m5:=J (m.o.trans (l6.mono B));clear R P l9 l6 V;go_wp2;go_ret;exact⟨_,n,rfl,HV.o,HM.o,n5.o,m5.o⟩
 obtain⟨K,L,rfl,s9,n9,l5⟩:=H3.o (by rw[bS];omega);obtain⟨q,f⟩:=eX (a[k]);have m3:q∈a:=by rw[f];exact lX r
 have z:=(H5.o q m3).1.b1 (w' :=wr) B (fun k E=>m.o.block k (C.o k E));have e0:wr.cell? (K,L+(k*8+3))=some (.slice q.al q.rs q.cl):=(m.o.cell (p:=(K,L+(k*8+3))) n9).trans (l5 (k*8+3) _ ((dY a r (j:=3) O).trans (by rw[<-f];rfl)));have d0:wr.cell? (K,L+k*8+3)=some (.slice q.al q.rs q.cl):=by simpa[Nat.add_assoc] using e0
 have Q:((a.take (k+1)).map fun q=>q.s.l).flatten=((a.take k).map fun q=>q.s.l).flatten++q.s.l:=by
  rw[List.take_add_one,lW r,<-f];simp
 have i6:q.rs.length=q.s.l:=by rw[<-z.map,lU]
 have p9:d.length+q.rs<=1099511627776:=by
  have e1:d.length=(((a.take k).map fun q=>q.s.l).flatten).length:=by rw[<-t.o,lU]
  have e2:(((a.take (k+1)).map fun q=>q.s.l).flatten).length<=((a.map fun q=>q.s.l).flatten).length:=by
   rw[show(a.map fun q=>q.s.l)=(a.take (k+1)).map (fun q=>q.s.l)++(a.drop (k+1)).map (fun q=>q.s.l) from by rw[<-mE,List.take_append_drop],List.flatten_append,lT];omega
  rw[Q,lT] at e2;have:=W.o;omega
 have HX:Hq (0<q.rs.length->∃Y,q.al=some Y∧∀i u,(aG q.rs)[i]? =some u->wr.cell? (Y.add i)=some u):=J (fun h0=>by
  obtain⟨g3,o3,e,_,_,hc⟩:=z.c7 (by rw[aN];omega);refine⟨_,e,fun i u hu=>?_⟩;rw[add_lit];exact hc i u hu)
 have n8:=J Q;have m7:=J z.map;have m6:=J z.h6;have m9:=J (pE z.h6);clear Q z i6 f m3 e0 l5;go_wp2_with (at_builtin;go_must (refine cV rfl (.tmp 14) (.tmp 22) 40 rfl w.heap.size 65 (.agg #[.int .i64 0,.int .i64 0,.int .i64 0,.slice none 0 0]) 4 48 Tryz.underlying40 dW rfl δ _ d.length (aG d) rfl D.o q.al q.rs.length q.cl (aG q.rs) rfl (by rw[aN];omega) HX.o m9.o (by unfold maxLen;omega) O O ?_;intro v6 w6 Z l8;have m8:=J Z;have l4:=J l8;clear Z l8));have l7:=m.o.grown l4.o B (fun k E=>(mL D.o k E).1);have g8:=fun x hx=>(l7.block x (C.o x hx)).trans (m.o.block x (C.o x hx)).symm
 have p8:=l4.o.size;have f9:∀(v:Value) (l:List UInt8),gQ wr F v l->gQ w6 F v l:=fun v l hd=>by
  obtain⟨H,M,e,S,T,U⟩:=hd;exact⟨H,M,e,S,T,U.b1 p8 g8⟩
 go_roundw
 case rel=>
  refine⟨k+1,d++q.rs,O,by go_num,J ?_,J ?_,J ?_,J l7⟩;rw[lT,eG];exact m8.o;rw[mE,t.o,m7.o,n8.o];intro x hx;rcases mB.1 hx with hx|hx
  exact f9 _ _ (X.o x hx);exact f9 _ _ (m6.o x hx)
 case measure=>simp[intOf];omega
def qQ(j:bQ)(ix t:Int):Bool:=match jC j ix with
 |some x=>decide (x≠t)
 |none=>false
def bB4(j:bQ):Prop:=∀s∈j.b0,∀i (h:i<s.l.length),s.l[i].ix=s.a8+i
theorem bX2{s:aH}(h:∀i (hi:i<s.l.length),s.l[i].ix=s.a8+i)(ix:Int):(s.l.find? fun e=>decide (e.ix=ix)).map cD.tm=if 0<=ix-s.a8∧ix-s.a8<(s.l:Int) then(s.l[(ix-s.a8).toNat]?).map cD.tm else none:=by
 split
 ·rename_i d
  have b:(ix-s.a8).toNat<s.l:=O;rw[lW b];have a:s.l.find? (fun e=>decide (e.ix=ix))=some s.l[(ix-s.a8).toNat]:=by
   rw[List.find?_eq_some_iff_getElem];refine⟨decide_eq_true (by rw[h _ b];omega),_,b,rfl,fun k c=>?_⟩;have:=h k O;simp only[Bool.not_eq_true',decide_eq_false_iff_not];omega
  rw[a]
 rename_i d;have a:s.l.find? (fun e=>decide (e.ix=ix))=none:=by
  rw[List.find?_eq_none];intro e f;obtain⟨k,c,rfl⟩:=List.getElem_of_mem f;have:=h k c;simp only[decide_eq_true_eq];omega
 rw[a];rfl
theorem aS9{j:bQ}(h:bB4 j){ix:Int}(d:¬j.base.1=ix):jC j ix=(j.c7.find? fun e=>decide (e.ix=ix)).map cD.tm:=by
 unfold jC bQ.c7;rw[if_neg d];have:∀l:List aH,(∀s∈l,∀i (f:i<s.l.length),s.l[i].ix=s.a8+i)->(l.findSome? fun s=>if 0<=ix-s.a8∧ix-s.a8<(s.l:Int) then(s.l[(ix-s.a8).toNat]?).map cD.tm else none)=(((l.map aH.l).flatten).find? fun e=>decide (e.ix=ix)).map cD.tm:=by
  intro l;induction l with
  |nil=>intro _;rfl
  |cons s r ih=>
   intro a;have b:=bX2 (a s (List.mem_cons_self ..)) ix;have c:=ih (fun x hx=>a x (List.mem_cons_of_mem _ hx));rw[List.findSome?_cons,mG,List.flatten_cons,List.find?_append,<-b,c];cases s.l.find? (fun e=>decide (e.ix=ix))<;>rfl
 exact this j.b0 h
theorem aR0{F:Nat->Prop}{gj g:Nat}{j:bQ}{w:World}(h:jX w F gj g j)(N:∀k,F k->k<w.heap.size)(P:j.c7.length<=1099511627776)(Z:∀s∈j.b0,∀e∈s.l,e.b.length<=1099511627776)(hi:bB4 j)(ix t:Int):
  Calls Tryz.prog 132 #[(gj,0),ix,t] w fun e T =>e=.returned (.bool (qQ j ix t))∧Below w w T :=by
 have K:=J h.base;have X:=J fun(T :World) (d:Below w w T)=>(h.a1 N d).entries (fun k Y=>ω2 (N k Y) d.size) P Z
 have D:qQ j ix t=if j.base.1=ix then decide (j.base.2≠t) else match j.c7.find? (fun e=>decide (e.ix=ix)) with|some e=>decide (e.tm≠t)|none=>false:=by
  unfold qQ;by_cases d:j.base.1=ix;rw[if_pos d];unfold jC;rw[if_pos d];rw[if_neg d,aS9 hi d];cases j.c7.find? (fun e=>decide (e.ix=ix))<;>rfl
 obtain⟨ba,m5⟩:=eX (j.base.1);obtain⟨U,m6⟩:=eX (j.base.2);obtain⟨v,l9⟩:=eX (qQ j ix t);rw[<-m5,<-m6] at K D;rw[<-l9] at D⊢;have B:=J D;have HN:=J P;clear h N P Z hi D m5 m6 l9;go_enter Tryz.func132,Tryz.ntmps132;go_wp2_with fail;refine K.o.mono ?_;rintro e w1 ⟨rfl,R⟩;have Q:=J (X.o w1 R);have y:=J R;clear R K X;by_cases z:ba=ix
 ·have c:=B.o
  rw[if_pos z] at c;have u:=J (show(U !=t)=v by rw[c];by_cases e:U=t<;>simp[e]);clear c B Q;go_wp2;go_ret;exact⟨congrArg (fun b=>Ending.returned (.bool b)) u.o,y.o⟩
 have c:=B.o;rw[if_neg z] at c;have o8:=mN.2 z;have u:=J c;clear c B z;go_wp2_with fail;refine Q.o.mono ?_;rintro e I ⟨v2,a,rfl,M,L,hq,m3⟩;obtain⟨A2,c2,m8,m9,n5,_⟩:=aK M;subst m8;have HR:=J (dM.e8 M (F:=fun x=>w1.heap.size<=x∧x<I.heap.size) (fun x h1 h2=>⟨h1,h2⟩) (by rw[aN];omega));have l8:=J (y.o.trans (m3.mono y.o.size));have hl:a.length<=1099511627776:=by have:=congrArg List.length L;rw[lU] at this;have:=HN.o;omega
 have A:=J (show v=match a.find? (fun q=>decide (q.e.ix=ix)) with|some q=>decide (q.e.tm≠t)|none=>false by
  rw[u.o,<-L,List.find?_map];show(match Option.map EntR.e (a.find? fun q=>decide (q.e.ix=ix)) with|some e=>decide (e.tm≠t)|none=>false)=_
  cases a.find? (fun q=>decide (q.e.ix=ix))<;>rfl)
 clear M L hq m3 Q u y;go_wp2_with fail;go_loopw [10] (fun i wr=>∃k:Nat,k<=a∧i=.int .i64 k∧Hq ((a.take k).find? (fun q=>decide (q.e.ix=ix))=none)∧I=wr) (fun i _=>a.length-(intOf i).toNat)
 case atStart=>exact⟨0,O,rfl,J rfl,rfl⟩
 obtain⟨k,Y,rfl,n,hw⟩:=hrel;subst hw;by_cases f:k<a;rotate_left
 ·have c:v=false:=by rw[A.o,<-List.take_of_length_le (l:=a) (i:=k) O,n.o]
  clear n A;go_wp2;go_ret;exact⟨congrArg (fun b=>Ending.returned (.bool b)) c.symm,l8.o⟩
 obtain⟨V,W,rfl,_,n8,C⟩:=HR.o (by rw[aN];omega);have G:=List.take_succ_eq_append_getElem f;have S:a=a.take (k+1)++a.drop (k+1):=(List.take_append_drop _ _).symm;obtain⟨q,p⟩:=eX (a[k]);obtain⟨H,r⟩:=eX q.e.ix;obtain⟨qt,E⟩:=eX q.e.tm;have e0:I.cell? (V,W+k*4)=some (.int .i64 H):=C (k*4+0) _ (by rw[bM _ f O,<-p,r];rfl);have e1:I.cell? (V,W+k*4+1)=some (.int .i64 qt):=C (k*4+1) _ (by rw[bM _ f O,<-p,E];rfl);rw[<-p] at G;have m:(a.take (k+1)).find? (fun q=>decide (q.e.ix=ix))=if H=ix then some q else none:=by
  rw[G,List.find?_append,n.o,Option.none_or];by_cases e:H=ix;rw[if_pos e,List.find?_cons_of_pos (by rw[<-r];exact decide_eq_true e)];rw[if_neg e,List.find?_cons_of_neg (by rw[<-r];simpa using e)];rfl
 by_cases e:H=ix
 ·rw[if_pos e] at m
  have m7:=J (show(qt !=t)=v by
   rw[A.o,S,List.find?_append,m,E];show(q.e.tm !=t)=decide (q.e.tm≠t)
   by_cases e:q.e.tm=t<;>simp[e])
  clear m G S p r E A n C;go_wp2;go_ret;exact⟨congrArg (fun b=>Ending.returned (.bool b)) m7.o,l8.o⟩
 rw[if_neg e] at m;have n9:=mN.2 e;have HF:=J m;clear m G S p r E n C e;go_wp2;go_roundw
 case rel=>exact⟨k+1,O,by go_num,HF,trivial⟩
 case measure=>simp[intOf];omega
theorem bT1{P:Program}{T e:TypeId}{z:Value}{a b:Nat}(d:P.underlying T=some (.slice e))(a8:(P.info? e).map (fun i=>(i.zero,i.size,i.bytes))=some (some z,a,b))(A:Option Addr)(c cap lo hi:Nat)(m:lo<=hi)(n:hi<=cap)(X Y:Int)(h:X=(lo:Int))(j:Y=(hi:Int))(w:World):
  (Instr.slice T (.slice A c cap) (some (.int .i64 X)) (some (.int .i64 Y)) none).run P w=.ok (.slice (mT A lo cap a) (hi-lo) (cap-lo)) w:=by
 obtain⟨i,g,o,f,l⟩:=info_parts a8;subst h;subst j;rw[run_slice_lh w T A c cap (by rw[d];simp[Program.elem,d]) .i64 .i64 lo hi O O O];have k:P.elem T=e:=by simp[Program.elem,d]
 rw[k,aA4 g f];simp[sliced,mT,Result.andThen]
theorem bS9{P:Program}{T e:TypeId}{z:Value}{a c:Nat}(f:P.underlying T=some (.slice e))(a8:(P.info? e).map (fun i=>(i.zero,i.size,i.bytes))=some (some z,a,c))(b o d cap k:Nat)(h:k<cap)(w:World):
  (Instr.slice T (.slice (b,o) d cap) (some (.int .i64 (k:Int))) (some (.int .i64 ((k:Int)+1))) none).run P w=.ok (.slice (b,o+k*a) 1 (cap-k)) w:=by
 rw[bT1 f a8 (b,o) d cap k (k+1) O O _ _ rfl O w];unfold mT;rw[if_neg O,show k+1-k=1 by omega];simp[Addr.add]
theorem vE{P:Program}(w:World)(base:Nat)(t q e:TypeId)(i:TypeInfo)(z:Value)(d f:Nat)(v:P.underlying t=some (.slice e))(hi:P.info? e=some i)(G:i.zero=some z)
  (C:i.size=d) (I:i.bytes=f) (N:z.cells.size=d) (M:0<d)
  (g n cap:Nat) (l:List Value) (a8:w.ownsRow base e d (.slice (g,0) n cap) n l)
  (a:Addr) (m c:Nat) (b:List Value) (p:b=m*d) (r:∀j u,b[j]? =some u->w.cell? (a.add j)=some u) (E:∀u∈b,u.oneCell' =true)
  (H:n+m<=maxLen) (A:(n+m)*f<=140737488355328) (L:base<=w) (y :Value) (w' :World) (s:(Builtin.append_ #[t,t] q #[.slice (g,0) n cap,.slice (some a) m c]).run P w=.ok y w')
  (F:w'.ownsRow base e d y (n+m) (l++b)):∀j u,l[j]? =some u->w'.cell? ⟨g,j,none⟩=some u:=by
 intro j u o;have x:=a8.cells (g:=g) rfl j u o;rw[add_lit,Nat.zero_add] at x;subst C I;rcases a8.2 with⟨hv,_⟩|⟨g',j9,i4,hv,l8,hg,m3,l9,l6,j8⟩
 cases hv;injection hv with hv1 _ hv3
 injection hv1 with hv1
 injection hv1 with hv1
 subst hv1 hv3;by_cases h:n+m<=cap;have D:n*i.size+b<=i4.size:=by rw[p,l6,<-Nat.add_mul];exact Nat.mul_le_mul_right _ h
 have k:=run_append_room (P:=P) w t q e i v hi g n cap i4 hg a m c b p r E h D;rw[s] at k;injection k with k hr3
 subst k;have:=F.cells (g:=g) rfl j u (by rw[List.getElem?_append_left (List.getElem?_eq_some_iff.1 o).1];exact o);rw[add_lit,Nat.zero_add] at this;exact this;have B:=a8.cells (g:=g) rfl;have k:=run_append_grow (P:=P) w t q e i z v hi G (g,0) n cap l a8.1 B a m c b p r O (by simp only[maxLen] at H;omega) (growslice_fits O A);rw[s] at k;injection k with k hr3
 subst hr3;have K:=(Array.getElem?_eq_some_iff.1 hg).1;exact(mK (w:=w) (a:=(g,j)) (Below.heap_alloc w.drew _ g K)).trans x
theorem xP{P:Program}{w:World}{o:Oper}{a:Act}{K:Act->World->Prop}{Q:Exit->Act->World->Prop}(s x:Operand)(t:TypeId)
  (U:o.op=.call {callee:=.builtin .append,args:=#[s,x],argTypes:=#[t,t]})
  (base:Nat) (e:TypeId) (z:Value) (b f:Nat) (G:P.underlying t=some (.slice e)) (R:(P.info? e).map (fun i=>(i.zero,i.size,i.bytes))=some (some z,b,f)) (N:z.cells.size=b) (M:0<b)
  (g n cap:Nat) (p:List Value) (V:a.eval s=.slice (g,0) n cap) (A:w.ownsRow base e b (.slice (g,0) n cap) n p)
  (q:Addr) (m c:Nat) (d:List Value) (hx:a.eval x=.slice (some q) m c) (F:d=m*b) (v:∀j u,d[j]? =some u->w.cell? (q.add j)=some u) (C:∀u∈d,u.oneCell' =true)
  (I:n+m<=maxLen) (a8:(n+m)*f<=140737488355328) (r:base<=w)
  (h:∀l k,k.ownsRow base e b l (n+m) (p++d)->w.grownBy k (some g)->(∀j u,p[j]? =some u->k.cell? ⟨g,j,none⟩=some u)->K (a.put o.dst l) k):o.wp P a w K Q:=by
 obtain⟨i,E,H,y,L⟩:=info_parts R;obtain⟨l,k,B,D,S,_,W⟩:=run_append_own_at (P:=P) w base t o.type e i z b f G E H y L N M _ n p A q m c d F v C I a8 r;have T:=vE (P:=P) w base t o.type e i z b f G E H y L N M g n cap p A q m c d F v C I a8 r l k B D;unfold Oper.wp execOp;simp only[U,resolve,invoke,builtin,Sem.run_bind,Sem.run_pure,Result.andThen_ok,List.map_toArray,mG,List.map_nil,V,hx,B];exact h l k D S T
theorem aK7{a:List RqR}{q q' :RqR}{m:Nat}(j:a=m):((((((((aY (a++[q])).set (m*8) q'.s.k).set (m*8+1) q'.s.a8).set (m*8+2) q'.s.c6).set (m*8+3) q'.vl).set (m*8+4) q'.ve).set (m*8+5) q'.lo).set (m*8+6) (.bool q'.em)).set (m*8+7) (.bool q'.tn)=aY (a++[q']):=by
 subst j;have b:∀x:RqR,aY [x]=gZ x:=fun x=>by unfold aY;simp
 have n:=bS a;have l:a.length*8-(aY a).length=0:=O;have c:a.length*8+1-(aY a).length=1:=O;have d:a.length*8+2-(aY a).length=2:=O;have e:a.length*8+3-(aY a).length=3:=O;have f:a.length*8+4-(aY a).length=4:=O;have g:a.length*8+5-(aY a).length=5:=O;have h:a.length*8+6-(aY a).length=6:=O;have i:a.length*8+7-(aY a).length=7:=O;rw[eL,eL,b,b,List.set_append_right _ _ O,List.set_append_right _ _ O,List.set_append_right _ _ O,List.set_append_right _ _ O,List.set_append_right _ _ O,List.set_append_right _ _ O,List.set_append_right _ _ O,List.set_append_right _ _ O,l,c,d,e,f,g,h,i];rfl
structure bV4(wc wx:World)(gx:Nat)(q:RqR)(es:List cD):Prop where
 ex:∃(na:List EntR) (A:Option Addr) (n c:Nat) (Ae:Option Addr) (m ce:Nat),na.map EntR.e=es∧n=q.rs+na∧m+1=(aO q.s es).a7.length∧aS wx gx 139 #[q.s.k,q.s.a8,q.s.c6,.slice A n c,.slice Ae (m+1) ce,q.lo,.bool q.em,.bool q.tn]∧wx.ownsRow gx 65 4 (.slice A n c) n (aG (q.rs++na))∧wx.ownsRow gx 3 1 (.slice Ae (m+1) ce) (m+1) ((aO q.s es).a7.map (Value.int .i64))∧∀x∈na,Bs wx gx x.v x.e.b
 out:Below gx wc wx
theorem bY7{w:World}{F:Nat->Prop}{b o:Nat}{rs:List EntR}(h:dM w F (b,o) (aG rs)){k:Nat}(i:k<rs):dM w F (b,o+k*4) (aG [rs[k]]):=fun m=>by
 obtain⟨l,n,e,d,f,g⟩:=h (by rw[aN];omega);injection e with e
 injection e with e1 e2 _
 subst e1 e2;refine⟨b,o+k*4,rfl,d,f,fun j u c=>?_⟩;have a:j<4:=by
  have:=(List.getElem?_eq_some_iff.1 c).1;rw[aN] at this;simpa using this
 rw[Nat.add_assoc];refine g (k*4+j) u ?_;rw[bM rs i a];have:=bM [rs[k]] (k:=0) σ a;simp only[Nat.zero_mul,Nat.zero_add,List.getElem_cons_zero] at this;rw[<-this];exact c
theorem wS{l:List cD}(k:Nat):((l.take k).map aZ).flatten.length<=(l.map aZ).flatten.length:=by
 have h:(l.map aZ).flatten=((l.take k).map aZ).flatten++((l.drop k).map aZ).flatten:=by rw[<-List.flatten_append,<-mE,List.take_append_drop]
 rw[h,lT];omega
theorem mR:∀(l:List cD) (s:aH),(aO s l).k=s.k∧(aO s l).a8=s.a8∧(aO s l).c6=s.c6
 |[],_=>⟨rfl,rfl,rfl⟩
 |e::r,s=>by unfold aO;exact mR r _
theorem aJ5{s:aH}{m:Nat}(h:m+1=s.a7):s.a7[m]? =some s.b2:=by
 unfold aH.b2;rw[List.getLastD_eq_getLast?,List.getLast?_eq_getElem?,<-h,Nat.add_sub_cancel,lW O];rfl
theorem aD6:∀(l:List cD) (s:aH),gU s->(∀e∈l,(I6 e.ix)∧(I6 e.tm)∧(I6 e.kd))->0<=s.b2->s.b2+((l.map aZ).flatten.length:Int)<=4611686018427387904->gU (aO s l)
 |[],_,h,_,_,_=>h
 |e::r,s,h,hn,h0,hl=>by
  have b:((e::r).map aZ).flatten.length=(aZ e).length+((r.map aZ).flatten).length:=by rw[mG,List.flatten_cons,lT]
  rw[b] at hl;have hx:({s with l:=s.l++[e],a7:=s.a7++[s.b2+(aZ e).length]}:aH).b2=s.b2+(aZ e).length:=by
   unfold aH.b2;simp
  unfold aO;refine aD6 r _ ⟨h.k,h.a8,h.c6,fun x hx=>?_,fun n a=>?_⟩ (fun x hx=>hn x (List.mem_cons_of_mem _ hx)) (by rw[hx];omega) (by rw[hx];omega);rcases mB.1 hx with hx|hx
  exact h.l0 x hx;obtain rfl:=lY.1 hx;exact hn _ (List.mem_cons_self ..);rcases mB.1 a with a|a
  exact h.a7 n a;obtain rfl:=lY.1 a;omega
theorem aZ4{w:World}{base n c a:Nat}{e:TypeId}{A:Option Addr}{b:List Value}(h:w.ownsRow base e a (.slice A n c) n b)(i:0<n):∃g,A=some ⟨g,0,none⟩∧base<=g∧g<w.heap.size∧∀j u,b[j]? =some u->w.cell? ⟨g,j,none⟩=some u:=by
 obtain⟨p,r,d,_,_,k⟩:=aK h;obtain⟨f,q,e,l,m,_,_,o⟩:=k i;injection d with v1 _ _
 exact⟨f,v1.trans e,l,m,o⟩
structure aC0(W:World)(lo g m g2:Nat)(d d2:DkD)(es:List (Nm×FE))(vL:Value)(rs:List (Nm×RF)):Prop where
 dk:aV W lo g m d.pw d.room es
 fs:bI FE.f es=d.fs
 rk:aR W lo g2 d2.pw d2.room vL rs
 l3:bI RF.f rs=d2.fs
 ap:∀k,aI g m es k->¬aL g2 vL rs k
section
variable{W W' :World}{lo g m g2:Nat}{d d2 d' :DkD}{es es' :List (Nm×FE)}{vL vL' :Value}{rs rs' :List (Nm×RF)}{mine:Nat->Prop}
theorem aC0.a1(h:aC0 W lo g m g2 d d2 es vL rs)(a:Below W W W'):aC0 W' lo g m g2 d d2 es vL rs:=⟨h.dk.a1 a,h.fs,h.rk.a1 a,h.l3,h.ap⟩
theorem aC0.b1(h:aC0 W lo g m g2 d d2 es vL rs)(c:W.heap.size<=W')(b:∀k,aI g m es k∨aL g2 vL rs k->W'.heap[k]? =W.heap[k]?):aC0 W' lo g m g2 d d2 es vL rs:=⟨h.dk.b1 c (fun k a =>b k (.inl a)),h.fs,h.rk.b1 c (fun k a =>b k (.inr a)),h.l3,h.ap⟩
theorem aC0.left(h:aC0 W lo g m g2 d d2 es vL rs)(j:aV W' lo g m d'.pw d'.room es')(o:bI FE.f es' =d'.fs)(e:Fr mine W W')(n:∀k,mine k->¬aL g2 vL rs k)(l:∀k,aI g m es' k->aI g m es k∨W.heap.size<=k):aC0 W' lo g m g2 d' d2 es' vL rs:=
 ⟨j,o,h.rk.b1 e.size (fun k a=>e.block k (h.rk.lt k a).2 (fun b =>n k b a)),h.l3,fun k a i=>by
  rcases l k a with c|c
  exact h.ap k c i;have:=(h.rk.lt k i).2;omega⟩
theorem aC0.right(h:aC0 W lo g m g2 d d2 es vL rs)(i:aR W' lo g2 d'.pw d'.room vL' rs')(o:bI RF.f rs' =d'.fs)(e:Fr mine W W')(l:∀k,mine k->¬aI g m es k)(j:∀k,aL g2 vL' rs' k->aL g2 vL rs k∨W.heap.size<=k):aC0 W' lo g m g2 d d' es vL' rs' :=
 ⟨h.dk.b1 e.size (fun k a=>e.block k (h.dk.lt k a).2 (fun b =>l k b a)),h.fs,i,o,fun k a n=>by
  rcases j k n with c|c
  exact h.ap k a c;have:=(h.dk.lt k a).2;omega⟩
end
def gX(w:World)(lo g m g2 sb:Nat)(es:List (Nm×FE))(vL:Value)(rs:List (Nm×RF))(oj oy:Option bQ)(vj vy:Value):Prop:=
 match oj,oy with
 |some j,some y=>∃gj gy F E,vj=.pointer (some ⟨gj,0,none⟩)∧vy=.pointer (some ⟨gy,0,none⟩)∧pU w F gj g j∧jX w E gy g2 y∧(lo<=gj∧lo<=gy∧gj≠sb∧gy≠sb∧gj≠gy)∧(¬aI g m es gj∧¬aL g2 vL rs gj∧¬aI g m es gy∧¬aL g2 vL rs gy)∧∀k,F k∨E k->lo<=k∧k<w.heap.size∧(k≠gj∧k≠gy∧k≠sb)∧¬aI g m es k∧¬aL g2 vL rs k
 |_,_=>oj=none∧oy=none∧vj=.pointer none∧vy=.pointer none
def nJ(w:World)(sb g g2:Nat)(vj vy:Value):Prop:=aS w sb 33 #[(g,0),(g2,0),vj,vy]
theorem gX.a1{w w' :World}{lo g m d i:Nat}{es:List (Nm×FE)}{vL:Value}{rs:List (Nm×RF)}{oj f:Option bQ}{j l:Value}(h:gX w lo g m d i es vL rs oj f j l)(c:Below w w w'):gX w' lo g m d i es vL rs oj f j l:=by
 unfold gX at h⊢;split at h;obtain⟨n,o,F,E,p,q,r,s,t,u,b⟩:=h;exact⟨n,o,F,E,p,q,r.a1 (fun k a=>(b k (.inl a)).2.1) c,s.a1 (fun k a=>(b k (.inr a)).2.1) c,t,u,fun k a=>by have e:=b k a;have v:=c.size;exact⟨e.1,O,e.2.2⟩⟩;exact h
def bL9(w w' :World)(lo g m g2 sb:Nat)(es:List (Nm×FE))(vL:Value)(rs:List (Nm×RF))(d' :DkD)(oj:Option bQ):Prop:=
 ∃es' vL' rs' vj vy,aC0 w' lo g m g2 d' d' es' vL' rs' ∧nJ w' sb g g2 vj vy∧gX w' lo g m g2 sb es' vL' rs' oj oj vj vy∧Fr (fun k=>aI g m es k∨aL g2 vL rs k∨k=sb) w w' ∧(∀k,aI g m es' k->aI g m es k∨w.heap.size<=k)∧(∀k,aL g2 vL' rs' k->aL g2 vL rs k∨w.heap.size<=k)
theorem gX.b1{w w' :World}{lo g m d i:Nat}{es:List (Nm×FE)}{vL:Value}{rs:List (Nm×RF)}{oj r:Option bQ}{s t:Value}(h:gX w lo g m d i es vL rs oj r s t)(q:w.heap.size<=w')(c:∀k,lo<=k->k<w.heap.size->k≠i->¬aI g m es k->¬aL d vL rs k->w'.heap[k]? =w.heap[k]?):gX w' lo g m d i es vL rs oj r s t:=by
 unfold gX at h⊢;split at h;obtain⟨j,l,F,E,u,v,n,o,a,b,e⟩:=h;refine⟨j,l,F,E,u,v,n.b1 q (fun k y=>?_) (c j a.1 n.lt a.2.2.1 b.1 b.2.1),o.b1 q (fun k x=>?_) (c l a.2.1 o.lt a.2.2.2.1 b.2.2.1 b.2.2.2),a,b,fun k f =>by have p:=e k f;exact⟨p.1,O,p.2.2⟩⟩;have:=e k (.inl y);exact c k this.1 this.2.1 this.2.2.1.2.2 this.2.2.2.1 this.2.2.2.2;have:=e k (.inr x);exact c k this.1 this.2.1 this.2.2.1.2.2 this.2.2.2.1 this.2.2.2.2;exact h
theorem aS1{w j:World}{lo g m i a:Nat}{o :DkD}{es c :List (Nm×FE)}{vL h :Value}{rs d :List (Nm×RF)}{oj:Option bQ}{B C vj' vy' :Value}(f:aC0 j lo g m i o o c h d)(u:nJ j a g i B C)(A:gX j lo g m i a c h d oj oj vj' vy')(r:¬aI g m c a∧¬aL i h d a)
  (z:Fr (fun k=>aI g m es k∨aL i vL rs k) w j) (s:∀k,aI g m c k->aI g m es k∨w.heap.size<=k) (t:∀k,aL i h d k->aL i vL rs k∨w.heap.size<=k):
  bL9 w ((j.setCell (a,2) vj').setCell (a,3) vy') lo g m i a es vL rs o oj:=by
 have n:=aF (aA j a 2 vj') (aA _ a 3 vy') (.inl rfl);have q:∀k,k<j.heap.size->k≠a->((j.setCell (a,2) vj').setCell (a,3) vy').heap[k]? =j.heap[k]? :=fun k l p=>n.block k l (fun e=>p (Option.some.inj e))
 have y:=(aS.b8 (aS.b8 u 2 vj') 3 vy');refine⟨c,h,d,vj',vy',f.b1 n.size (fun k l=>q k ?_ ?_),by simpa[nJ] using y,A.b1 n.size (fun k _ v x _ _=>q k v x),?_,s,t⟩;rcases l with b|b
 exact(f.dk.lt k b).2;exact(f.rk.lt k b).2;rintro rfl;rcases l with b|b
 exact r.1 b;exact r.2 b;exact(z.mono (mine' :=fun k=>aI g m es k∨aL i vL rs k∨k=a) (fun k _ b=>by rcases b with b|b;exact .inl b;exact .inr (.inl b))).trans (Fr.e2 (mine:=fun k=>k=a) n (fun k e=>(Option.some.inj e).symm)) (fun k l=>.inl (.inr (.inr l)))
theorem bK5{w:World}{lo g m f i:Nat}{d:DkD}{es:List (Nm×FE)}{vL:Value}{rs:List (Nm×RF)}{T U:Value}(h:aC0 w lo g m f d d es vL rs)(S:nJ w i g f T U)(x:lo<=i∧¬aI g m es i∧¬aL f vL rs i){L:Nat}(o8:gP L d)(hL:L<=1000000000)(C2:lo<=w)(hE:∀s,Below lo w s ->aM0 s ∧aC2 s):
  Calls Tryz.prog 12 #[(i,0)] w fun e s =>e=.returned (.bool true)∧bL9 w s lo g m f i es vL rs (eB d).2.2 (eB d).2.1:=by
 have R:=uX h.dk (L:=L) (by rw[DkD.h9 d h.fs];exact o8) hL C2 hE;rw[DkD.h9 d h.fs] at R;have o9:∀(W:World) (q:List (Nm×FE)),aC0 W lo g m f (eB d).2.2 d q vL rs->Calls Tryz.prog 39 #[(f,0)] W fun e s =>xQ W lo f vL rs (eB d) e s :=fun W q hW=>by
  have b:=aZ1 hW.rk (L:=L) (by rw[qU hW.l3];exact o8) hL;rw[qU hW.l3] at b;exact b
 obtain⟨r,t⟩:=eX (eB d);rw[<-t] at R o9⊢;obtain⟨c,oj,d'⟩:=r;have p6:=J R;have p7:=J o9;have H:=J h;have B8:=J S;have C4:=aS.lt S;have c0:=aS.c S 0;clear R o9 h S t o8;go_enter Tryz.func12,Tryz.ntmps12;go_wp2_with fail;refine p6.o.mono ?_;rintro e V ⟨q,p8,B1,C,P,Q⟩;have i6:=H.o.left p8 B1 C (fun k a=>H.o.ap k a) P;have l8:nJ V i g f T U:=C.h4 B8.o x.2.1;have C6:=C.size;have u:=J i6;have K:=J l8;have p4:=J C;have p5:=J P;have N:=J (p7.o V q i6);have B7:¬aI g m q i:=fun a=>by
  rcases P i a with b|b
  exact x.2.1 b;omega
 clear p8 B1 C P i6 l8 p6 p7 c0;cases oj with
 |none=>
  simp only at Q;subst Q;have c1:=aS.c K.o 1;go_wp2_with fail;refine N.o.mono ?_;rintro e X ⟨I,G,v,B,n,p,D⟩;simp only at D;subst D;have y:=u.o.right v B n (fun k a hd=>u.o.ap k hd a) p;have l:nJ X i g f T U:=n.h4 K.o x.2.2;have c2:=aS.c l 2;have c3:=aS.c l 3;have f2:=aS.a6 l 2;have f3:=aS.a6 l 3;have n9:¬aL f I G i:=fun a=>by
   rcases p i a with b|b
   exact x.2.2 b;omega
  have n8:=J (aS1 (w:=w) (es:=es) (vL:=vL) (rs:=rs) (oj:=none) (vj' :=.pointer none) (vy' :=.pointer none) y l (by unfold gX;exact⟨rfl,rfl,rfl,rfl⟩) ⟨B7,n9⟩ ((p4.o.mono (mine' :=fun k=>aI g m es k∨aL f vL rs k) (fun k _ a=>.inl a)).trans n (fun k a=>.inl (.inr a))) p5.o (fun k a=>(p k a).imp id (fun h=>O)));clear y l v B n p N;go_wp2;go_ret;exact⟨rfl,n8.o⟩
 |some j=>
  simp only at Q;obtain⟨z,F,rfl,C0,Z,s9⟩:=Q;have HJ:=J Z;have n5:=J s9;have l6:=Z.lt;clear Z s9;have c1:=aS.c K.o 1;go_wp2_with fail;refine N.o.mono ?_;rintro e X ⟨I,G,v,B,n,p,D⟩;simp only at D;obtain⟨Y,E,rfl,C1,M,q8⟩:=D;have y:=u.o.right v B n (fun k a hd=>u.o.ap k hd a) p;have l:nJ X i g f T U:=n.h4 K.o x.2.2;have c2:=aS.c l 2;have c3:=aS.c l 3;have f2:=aS.a6 l 2;have f3:=aS.a6 l 3;have i4:=fun k a=>(H.o.rk.lt k a).2
  have t9:∀k,w.heap.size<=k->k<V.heap.size->¬aL f I G k:=fun k b h2 a=>by
   rcases p k a with h3|h3
   have:=i4 k h3;omega;omega
  have p9:∀k,V.heap.size<=k->¬aI g m q k:=fun k b a=>ω1 ((u.o.dk.lt k a).2)
  have n9:¬aL f I G i:=fun a=>by
   rcases p i a with b|b
   exact x.2.2 b;omega
  have C3:=n.size;have B6:=M.lt;have g8:gX X lo g m f i q I G (some j) (some j) (.pointer (z,0)) (.pointer (Y,0)):=by
   obtain⟨sv,B9⟩:=HJ.o.b4;unfold gX;refine⟨z,Y,F,E,rfl,rfl,HJ.o.b1 C3 (fun k a=>n.block k (n5.o k a).2.1 (fun t=>ω2 (i4 k t) ((n5.o k a).1))) (n.block z l6 (fun t=>ω1 (i4 z t))),M,⟨O,O,O,O,O⟩,⟨u.o.dk.e3 B9 δ δ δ,t9 z C0 l6,p9 Y C1,?_⟩,fun k a=>?_⟩;obtain⟨⟨A,cc,C5,hb,_⟩,_⟩:=M;exact v.e3 hb δ δ δ;rcases a with a|a
   have b:=n5.o k a;exact⟨O,O,⟨b.2.2.1,O,O⟩,b.2.2.2,t9 k b.1 b.2.1⟩;have b:=q8 k a;exact⟨O,O,⟨O,b.2.2.1,O⟩,p9 k b.1,b.2.2.2⟩
  have n8:=J (aS1 (w:=w) (es:=es) (vL:=vL) (rs:=rs) (oj:=some j) y l g8 ⟨B7,n9⟩ ((p4.o.mono (mine' :=fun k=>aI g m es k∨aL f vL rs k) (fun k _ a=>.inl a)).trans n (fun k a=>.inl (.inr a))) p5.o (fun k a=>(p k a).imp id (fun h=>O)));clear y l v B n p N g8 M q8;go_wp2;go_ret;exact⟨rfl,n8.o⟩
theorem bJ4{w:World}{N n c:Nat}{A:Option Addr}{rs:List (Nm×RF)}(h:fG w N (.slice A n c) rs)(d:∀q∈rs,eR w N q.2.v q.2.f.b):n=rs∧cA3 w A rs:=by
 obtain⟨g,i,e,a⟩:=bS5 h d;injection e with e1 e2 _
 rw[e1,e2];exact⟨rfl,a⟩
theorem aA1:∀l:List cD,lC l l=true:=fun l=>(rM l l).2 rfl
theorem pU.txt2{w:World}{F:Nat->Prop}{gj g:Nat}{j:bQ}(h:pU w F gj g j):∀s∈j.b0,∀e∈s.l,e.b.length<=65535:=fun s m e f=>by
 obtain⟨⟨A,c,a,n,o,p,q,d⟩,_⟩:=h;obtain⟨i,k,rfl⟩:=List.getElem_of_mem m;exact(d i O k).txt e f
theorem bO1{j:bQ}{e:cD}(h:e∈j.c7):∃s∈j.b0,e∈s.l:=by
 unfold bQ.c7 at h;obtain⟨l,b,a⟩:=List.mem_flatten.1 h;obtain⟨s,c,rfl⟩:=mF.1 b;exact⟨s,c,a⟩
theorem aI7{w:World}{base n c:Nat}{A:Option Addr}{rs:List EntR}(h:w.ownsRow base 65 4 (.slice A n c) rs (aG rs))(k:∀q∈rs,Bs w base q.v q.e.b):dM w (fun x=>base<=x∧x<w.heap.size) A (aG rs)∧∀q∈rs,gQ w (fun x=>base<=x∧x<w.heap.size) q.v q.e.b:=by
 refine⟨dM.e8 h (fun x a d=>⟨a,d⟩) (by rw[aN];omega),fun q l=>?_⟩;have a:=k q l;obtain⟨g,i,f,m,o,_⟩:=bF a;rw[f] at a;exact⟨g,i,f,m,o,dM.e1 a (fun x d j=>⟨d,j⟩)⟩
theorem bA2{w:World}{lo g m A t:Nat}{d:DkD}{es:List (Nm×FE)}{vL:Value}{rs:List (Nm×RF)}{oj:Option bQ}{vj vy:Value}(h:aC0 w lo g m A d d es vL rs)(Q:nJ w t g A vj vy)(hj:gX w lo g m A t es vL rs oj oj vj vy){L:Nat}(D3:gP L d)(hL:L<=100000000000)(J6:∀j,oj=some j->j.c7.length<=1099511627776):
  Calls Tryz.prog 13 #[(t,0)] w fun e w' =>e=.returned (.bool true)∧Below w w w' :=by
 obtain⟨Av,cv,L4,_,_,_⟩:=h.rk.b3;subst L4;have B6:=(aR.frd h.rk).2;have K8:=D3.sz;have m8:∀q∈es,(q.1,q.2.f)∈d.fs:=fun q i=>by rw[<-h.fs];exact mF.2 ⟨q,i,rfl⟩
 have G3:es.length=d.fs:=by rw[<-h.fs];simp[bI]
 have J5:=D3.len;have p4:=bF3 (h.dk.a1 (lS _ w).drew) O (fun q i=>by have r:=fR (m8 q i);have h3:(q.2.f.b.length:Int)<=bC d.fs:=r;omega) (fun q i=>by have r:q.1.length<=1000:=D3.nm _ (m8 q i);omega);replace p4:=J p4;obtain⟨x,y,m5,_⟩:=h.rk.b4;have k0:=(pR m5).1.1;have B7:=m5.lt;have X:=aS.lt Q;have c0:=aS.c Q 0;have c1:=aS.c Q 1;have H:=J h;have J2:=J Q;have B:=J hj;have I1:=J B6;have G9:=J J6;have o8:=J (show∀q∈rs,q.2.f.b.length<=140737488351232 from fun q i=>by
  have G:(q.1,q.2.f)∈d.fs:=by rw[<-h.l3];exact mF.2 ⟨q,i,rfl⟩
  have r:=fR G;have h3:(q.2.f.b.length:Int)<=bC d.fs:=r;omega)
 have K6:=J J5;clear h Q hj B6 J6 m8 G3 J5 m5 D3 K8;go_enter Tryz.func13,Tryz.ntmps13;go_upto_region 1 with fail
 go_cut [3] from 17 to 29 (fun bv wx=>bv=.bool true∧Hq (Below w w wx))
 case first=>
  refine wp_region_held_drew (S:=fun W=>W.cell? ⟨t,0,none⟩=some (.pointer (some ⟨g,0,none⟩))∧W.cell? ⟨t,1,none⟩=some (.pointer (some ⟨A,0,none⟩))∧W.cell? ⟨A,0,none⟩=some (.slice Av rs cv)∧True) κ ⟨c0,c1,k0,trivial⟩ (fun n=>?_);refine zT 0 (k:=zT 1 (k:=zT 2 (k:=zT 3 (k:=zT 5 (k:=zT 6 (k:=zT 7 (k:=zT 8 (k:=zT 9 (k:=zT 10 (k:=zT 11 (k:=?_)))))))))));simp only[zA,zB,zF,zG,zC,zD,zE];refine zV 4 (k:=fun K Y=>?_);simp only[zA,zB];go_simp;refine p4.o.mono ?_;rintro e w1 ⟨v1,K5,rfl,m9,B8,j9,M⟩;obtain⟨A1,K7,L3⟩:=m9.b3;subst L3;have C:Below w w w1:=((lS _ w).drew).trans M;have B1:=(bJ4 m9 B8).2;have K9:K5.length=d.fs:=by have h2:=congrArg List.length (j9.trans H.o.fs);simpa[bI] using h2
  have J1:=J (bJ6 A1 Av K5 rs K7 cv w1 B1 (I1.o.a1 C) (by rw[j9,H.o.fs,H.o.l3]) (ω1 K6.o) (fun q i=>by
   have G:(q.1,q.2.f)∈bI RF.f rs:=by rw[H.o.l3,<-H.o.fs,<-j9];exact mF.2 ⟨q,i,rfl⟩
   obtain⟨q',L0,D⟩:=mF.1 G;have h2:=o8.o q' L0;injection D with _ D
   rw[<-D];exact h2))
  have d0:=(C.cell (p:=(t,0)) X).trans c0;have d1:=(C.cell (p:=(t,1)) X).trans c1;have d2:=(C.cell (p:=(A,0)) B7).trans k0;have I:=J C;have L1:=C.size;clear m9 B8 j9 M C B1 K9 p4;refine Y.out _ _ ⟨d0,d1,d2,trivial⟩ (fun n=>?_);clear Y K;try simp only[zF,zG,zC,zD,zE]
  refine zV 12 (k:=fun K Y=>?_);simp only[zA,zB];go_simp;refine J1.o.mono ?_;rintro e w2 ⟨rfl,N⟩;have V:=I.o.trans (N.mono L1);have Z:=J V;have f0:=(V.cell (p:=(t,0)) X).trans c0;have f1:=(V.cell (p:=(t,1)) X).trans c1;have f2:=(V.cell (p:=(A,0)) B7).trans k0;clear N V J1;refine Y.out _ _ ⟨f0,f1,f2,trivial⟩ (fun n=>?_);clear Y K;try simp only[zF,zG,zC,zD,zE]
  refine zT 13 (k:=?_);simp only[zA,zB,zF,zG,zC,zD,zE];refine wpAnyH_done κ ?_ _;go_wp2;go_meet;exact⟨rfl,Z⟩
 obtain⟨rfl,I⟩:=hcut;have j8:nJ wc t g A vj vy:=aS.a1 J2.o I.o X;have D0:=B.o.a1 I.o;have c2:=aS.c j8 2;have R:=aS.c j8 3;have L2:=I.o.size;have u:=J j8;clear p4 I1 J2 B H o8 c0 c1 k0 j8;cases oj with
 |none=>
  unfold gX at D0;obtain⟨_,_,rfl,rfl⟩:=D0;go_wp2;go_ret;exact⟨rfl,I.o⟩
 |some j=>
  unfold gX at D0;obtain⟨gj,gy,F,E,rfl,rfl,hJ,hY,_,_,J4⟩:=D0;have E9:=G9.o j rfl;have J3:=J (hJ.txt2);have B:=J hJ;have HY:=J hY;have I0:=J (show∀k,F k∨E k->k<wc.heap.size from fun k l=>(J4 k l).2.1);have z:=aS.lt u.o;have HM:=J hJ.meta_;have P:=J (fun k l=>I0.o k (.inl l));have o9:=J (fun k l=>I0.o k (.inr l));clear hJ hY J4 G9;go_wp2_with fail;refine HM.o.mono ?_;rintro e w1 ⟨rfl,M⟩;have Z:=J M;have c2:=aS.c (aS.a1 u.o M z) 2;have I2:=J (B.o.a1 P.o M).base;clear M HM R;go_wp2_with fail;refine I2.o.mono ?_;rintro e w2 ⟨rfl,a⟩;have N:=Z.o.trans (a.mono Z.o.size);have D5:=J N;have c2:=aS.c (aS.a1 u.o N z) 2;have I3:=J (B.o.a1 P.o N).b7;clear a N I2 Z;go_wp2_with fail;refine I3.o.mono ?_;rintro e w3 ⟨rfl,a⟩;have C5:=D5.o.trans (a.mono D5.o.size);have D6:=J C5;have R:=aS.c (aS.a1 u.o C5 z) 3;have I4:=J (HY.o.a1 o9.o C5).base;clear a C5 I3 D5;go_wp2_with fail;refine I4.o.mono ?_;rintro e w4 ⟨rfl,a⟩;have C6:=D6.o.trans (a.mono D6.o.size);have D7:=J C6;have R:=aS.c (aS.a1 u.o C6 z) 3;have I5:=J (HY.o.a1 o9.o C6).b7;clear a C6 I4 D6;go_wp2_with fail;refine I5.o.mono ?_;rintro e w5 ⟨rfl,a⟩;have q8:=D7.o.trans (a.mono D7.o.size);have D8:=J q8;have M0:=q8.size;have c2:=aS.c (aS.a1 u.o q8 z) 2;have I7:=J ((B.o.a1 P.o q8).entries (fun k l=>ω1 (P.o k l)) E9);clear a q8 I5 D7;go_wp2_with fail;refine I7.o.mono ?_;rintro e w6 ⟨v6,ra,rfl,G4,J8,K0,a⟩;obtain⟨Aa,ca,L5,_,_,_⟩:=aK G4;subst L5;have C7:=D8.o.trans (a.mono D8.o.size);have D9:=J C7;have M1:=a.size;have J0:=J G4;have E7:=J J8;have I9:=J K0;have R:=aS.c (aS.a1 u.o C7 z) 3;have I8:=J ((HY.o.a1 o9.o C7).entries (fun k l=>ω1 (o9.o k l)) E9 (fun s hs e D=>ω1 (J3.o s hs e D)));clear a C7 I7 D8 G4 J8 K0;go_wp2_with fail;refine I8.o.mono ?_;rintro e w7 ⟨v7,rb,rfl,G5,J9,K3,a⟩;obtain⟨Ab,cb,L6,_,_,_⟩:=aK G5;subst L6;have E5:=J (D9.o.trans (a.mono D9.o.size));have G7:=a.size;have p7:=J J9;have m6:=aI7 J0.o I9.o;have j6:=aI7 G5 K3;have l7:=J j6;have G8:=J a;have G0:ra.length<=1099511627776:=by have r:=congrArg List.length E7.o;rw[lU] at r;omega
  have G2:rb.length<=1099511627776:=by have r:=congrArg List.length p7.o;rw[lU] at r;omega
  have C4:=J (show∀(ru:List EntR),ru.map EntR.e=j.c7->∀q∈ru,q.e.b.length<=140737488351232 from fun ru G q i=>by
   obtain⟨s,hs,D⟩:=bO1 (j:=j) (e:=q.e) (by rw[<-G];exact mF.2 ⟨q,i,rfl⟩);have:=J3.o s hs q.e D;omega)
  have p9:=uZ Aa Ab ra rb ca cb w7 (m6.1.b1 G7 (fun x hx=>a.block x hx.2)) j6.1 (fun q i=>(m6.2 q i).b1 G7 (fun x hx=>a.block x hx.2)) j6.2 (fun x hx=>O) (fun x hx=>hx.2) G0 G2 (C4.o ra E7.o) (C4.o rb p7.o);rw[E7.o,p7.o,aA1] at p9;replace p9:=J p9;have p5:=J (And.intro G0 G2);clear a I8 D9 G5 J9 K3 m6 j6 G0 G2;go_wp2_with fail;refine p9.o.mono ?_;rintro e w8 ⟨rfl,a⟩;have E6:=J (E5.o.trans (a.mono E5.o.size));have M2:=a.size;have s9:=G8.o.trans (a.mono G7);obtain⟨B9,C0,C1⟩:=bI1 J0.o I9.o s9;have p8:=J C1;have T:=aF1 Aa (ra.map EntR.v) ca w5 w8 B9 C0 (by rw[lU];have:=p5.o.1;omega);rw[lU] at T;replace T:=J T;have n9:=J a;clear a s9 p9 E5 B9 C0 C1;go_wp2_with fail;refine T.o.mono ?_;rintro e w9 ⟨⟨ve,rfl⟩,C9⟩;have M3:=C9.size;have t9:=C9.a1 E6.o.size (fun k l=>ω1 (p8.o k l));have C8:=E6.o.trans t9;have l5:=J C8;have g8:∀x,w6.heap.size<=x∧x<w7.heap.size->w9.heap[x]? =w7.heap[x]? :=fun x hx=>(C9.block x O (fun G=>ω1 (p8.o x G))).trans (n9.o.block x hx.2)
  have l8:=J (And.intro (l7.o.1.b1 (w' :=w9) O g8) (fun q i=>(l7.o.2 q i).b1 (w' :=w9) O g8));have c2:=aS.c (aS.a1 u.o C8 z) 2;have p6:=J ((B.o.a1 P.o C8).entries (fun k l=>ω1 (P.o k l)) E9);clear C9 t9 C8 g8 T E6 l7 G8 n9;go_wp2_with fail;refine p6.o.mono ?_;rintro e L9 ⟨M4,rd,rfl,G6,D1,K4,a⟩;obtain⟨Ad,cd,L7,_,_,_⟩:=aK G6;subst L7;have l6:=J (l5.o.trans (a.mono l5.o.size));have C2:=a.size;have m7:=aI7 G6 K4;have J7:rd.length<=1099511627776:=by have r:=congrArg List.length D1;rw[lU] at r;omega
  have U:=uZ Ad Ab rd rb cd cb L9 m7.1 (l8.o.1.b1 C2 (fun x hx=>a.block x O)) m7.2 (fun q i=>(l8.o.2 q i).b1 C2 (fun x hx=>a.block x O)) (fun x hx=>hx.2) (fun x hx=>O) J7 p5.o.2 (C4.o rd D1) (C4.o rb p7.o);rw[D1,p7.o,aA1] at U;replace U:=J U;clear a p6 l5 G6 D1 K4 m7 J7 l8;go_wp2_with fail;refine U.o.mono ?_;rintro e M5 ⟨rfl,a⟩;have i6:=l6.o.trans (a.mono l6.o.size);have D4:=J i6;have R:=aS.c (aS.a1 u.o i6 z) 3;obtain⟨⟨Ay,cy,L8,E8,_⟩,_⟩:=HY.o.a1 o9.o i6;have y1:=E8.c 1;have y2:=E8.c 2;clear a i6 U l6 E8;go_wp2;go_ret;exact⟨rfl,I.o.trans (D4.o.mono L2)⟩
structure fX(B:Nat)(s:aH):Prop where
 a8:1<=s.a8∧s.a8<bL
 len:s.a7.length=s.l+1
 inc:s.a7.Pairwise (· < ·)
 pos:∀n∈s.a7,0<n
 ixs:∀i (h:i<s.l.length),s.l[i].ix=s.a8+i
 top:s.a8+s.l<=bL
 b2:s.b2<=B
 cnt:s.l<=B
section
variable{B:Nat}{s:aH}
theorem fX.mono{B' :Nat}(h:fX B s)(a:B<=B'):fX B' s:=⟨h.a8,h.len,h.inc,h.pos,h.ixs,h.top,ω1 h.b2,mM h.cnt a⟩
theorem fX.ne(h:fX B s):s.a7≠[]:=fun e=>by have:=h.len;rw[e] at this;simp at this
theorem fX.le_(h:fX B s):∀n∈s.a7,n<=s.b2:=tQ (h.inc.imp fun h=>Int.le_of_lt h)
theorem fX.bound(h:fX B s):∀n∈s.a7,0<n∧n<=(B:Int):=fun n a=>⟨h.pos n a,Int.le_trans (h.le_ n a) h.b2⟩
theorem fX.j4(h:fX B s):0<s.b2:=h.pos _ (iP h.ne)
theorem fX.l7(h:fX B s):s.b7.1=s.a8+s.l-1:=by
 obtain⟨k,f,t,l,a⟩:=s;exact bC6 f t k l a h.ixs
theorem fX.ahead(h:fX B s)(ix:Int):fX B (s.ahead ix):=by
 have m:s.e4 ix<=s.l:=Nat.min_le_right _ _;have d:∀n∈(s.ahead ix).a7,n∈s.a7:=fun n b=>mO b
 have a:(s.ahead ix).a7.length=(s.ahead ix).l.length+1:=by
  show(s.a7.take _).length=(s.l.take _).length+1
  rw[lV,lV,h.len];omega
 have g:(s.ahead ix).a7≠[]:=fun e=>by rw[e] at a;simp at a
 have k:(s.ahead ix).l.length<=s.l.length:=by show(s.l.take _).length<=_;rw[lV];omega
 refine⟨h.a8,a,h.inc.sublist (List.take_sublist _ _),fun n b=>h.pos n (d n b),fun i j=>?_,?_,(h.bound _ (d _ (iP g))).2,mM k h.cnt⟩;have c:i<s.l:=O;have f:(s.ahead ix).l[i]'(j)=s.l[i]'(c):=List.getElem_take;rw[f];exact h.ixs i c;show s.a8+((s.ahead ix).l.length:Int)<=bL
 have:=h.top;omega
theorem bI3{e:cD}(h:bV3 e):0<(aZ e).length:=by
 have a:=bW8 h;unfold cE9 at a;unfold aZ;rw[jG O,lT,Crc.four_length];omega
theorem qH{f t:Int}(b:f<=9223372036854775807)(c:I6 t):0<(dN f t).length∧(dN f t).length<=60:=by
 have a:=bX4 b c;unfold cF0 at a;unfold dN;rw[jG O,lT,lT,Crc.four_length];have:=dG (nD f++dL [t]).length O;omega
theorem fX.add:∀(l:List cD) {B:Nat} {s:aH},fX B s->(∀e∈l,bV3 e)->(∀i (h:i<l.length),l[i].ix=s.a8+s.l+i)->s.a8+s.l+l<=bL->fX (B+(l.map aZ).flatten.length) (aO s l)
 |[],B,s,h,_,_,_=>by simpa[aO] using h
 |e::r,B,s,h,hc,hi,ht=>by
  have t:=bI3 (hc e (List.mem_cons_self ..));have hx:({s with l:=s.l++[e],a7:=s.a7++[s.b2+(aZ e).length]}:aH).b2=s.b2+(aZ e).length:=by
   unfold aH.b2;simp
  have q:=h.b2;have p:=h.j4;have o:=h.cnt;have g:fX (B+(aZ e).length) {s with l:=s.l++[e],a7:=s.a7++[s.b2+(aZ e).length]}:=by
   refine⟨h.a8,?_,?_,?_,fun i c=>?_,?_,?_,?_⟩;show(s.a7++_).length=(s.l++_).length+1
   rw[lT,lT,h.len];rfl;refine List.pairwise_append.2 ⟨h.inc,List.pairwise_singleton _ _,fun a k b m=>?_⟩;rw[lY.1 m];have:=h.le_ a k;omega;intro n d;rcases mB.1 d with d|d
   exact h.pos n d;rw[lY.1 d];omega
   ·show(s.l++[e])[i].ix=s.a8+i
    by_cases f:i<s.l;rw[List.getElem_append_left f];exact h.ixs i f;have j:i=s.l:=by
     have:i<(s.l++[e]).length:=c;rw[lT] at this;simp at this;omega
    subst j;rw[List.getElem_append_right (lR _)];have:=hi 0 σ;simpa using this
   ·show s.a8+((s.l++[e]).length:Int)<=bL
    rw[lT];rw[mC] at ht;simp only[List.length_singleton];omega
   rw[hx];omega;show(s.l++[e]).length<=_
   rw[lT,List.length_singleton];omega
  have f:=fX.add r g (fun x hx=>hc x (List.mem_cons_of_mem _ hx)) (fun i c=>by
   have:=hi (i+1) (by simpa using c);simp only[List.getElem_cons_succ] at this;rw[this];show _=s.a8+((s.l++[e]).length:Int)+i
   rw[lT,List.length_singleton];omega) (by
   show s.a8+((s.l++[e]).length:Int)+r<=bL
   rw[lT,List.length_singleton];rw[mC] at ht;omega)
  unfold aO;rw[mG,List.flatten_cons,lT,<-Nat.add_assoc];exact f
theorem fX.head{k ix t:Int}(b:1<=ix)(a:ix<bL)(e:I6 t)(f:60<=B):fX B ⟨k,ix,t,[],[((dN ix t).length:Int)]⟩:=by
 have hx:ix<=9223372036854775807:=by unfold bL at a;omega
 have g:=qH hx e;refine⟨⟨b,a⟩,rfl,List.pairwise_singleton _ _,fun n d=>by rw[lY.1 d];omega,(fun i c=>by cases c),by show ix+((0:Nat):Int)<=bL;omega,?_,Nat.zero_le _⟩;show((dN ix t).length:Int)<=B
 omega
theorem zVV(b:List UInt8):∀f a,a<=b.length->(jR b f a).2.1<=b.length
 |0,a,h=>h
 |f+1,a,ha=>by
  unfold jR;split;exact ha;split;rename_i e c;obtain⟨_,_,d,_⟩:=kH c;rw[lZ] at d;exact zVV b f _ O;exact ha
theorem aZ5(b:List UInt8):(cL b).2.1<=b.length:=zVV b _ 0 (Nat.zero_le _)
theorem zQ:∀(g:List (List UInt8)) (a:Int) (s c :aH),gB g a s=some c ->(1<=s.a8∧s.a8<bL)->s.a7.length=s.l+1->s.a7.Pairwise (· < ·)->(∀n∈s.a7,0<n∧n<=a)->(∀i (h:i<s.l.length),s.l[i].ix=s.a8+i)->s.a8+s.l<=bL->(∀p∈g,p.length<=1048576)→
  (1<=c.a8∧c.a8<bL)∧c.a7.length=c.l+1∧c.a7.Pairwise (· < ·)∧(∀n∈c.a7,0<n)∧(∀i (h:i<c.l.length),c.l[i].ix=c.a8+i)∧c.a8+c.l<=bL
 |[],a,s,c,h,h1,h2,h3,h4,h5,h6,_=>by
  injection h with h
  subst h;exact⟨h1,h2,h3,fun n d=>(h4 n d).1,h5,h6⟩
 |p::r,a,s,c,h,h1,h2,h3,h4,h5,h6,hp=>by
  unfold gB at h;split at h;cases h;rename_i e v;have d:=aB0 v;have y:s.b7.1=s.a8+s.l-1:=by
   obtain⟨k,f,t,l,j⟩:=s;exact bC6 f t k l j h5
  have A:0<(cM p).length:=by
   have:=hp p (List.mem_cons_self ..);rw[jG O,lT,Crc.four_length];omega
  have z:0<=a:=by
   have o:s.a7≠[]:=fun e=>by rw[e] at h2;simp at h2
   have:=h4 _ (iP o);omega
  refine zQ r _ _ _ h h1 ?_ ?_ ?_ ?_ ?_ (fun x hx=>hp x (List.mem_cons_of_mem _ hx));show(s.a7++_).length=(s.l++_).length+1
  rw[lT,lT,h2];rfl;refine List.pairwise_append.2 ⟨h3,List.pairwise_singleton _ _,fun x hx b u=>?_⟩;rw[lY.1 u];have:=(h4 x hx).2;omega;intro n d;rcases mB.1 d with d|d
  have:=h4 n d;omega;rw[lY.1 d];omega
  ·intro i w
   show(s.l++[e])[i].ix=s.a8+i
   by_cases m:i<s.l;rw[List.getElem_append_left m];exact h5 i m;have q:i=s.l:=by
    have:i<(s.l++[e]).length:=w;rw[lT] at this;simp at this;omega
   subst q;rw[List.getElem_append_right (lR _)];simp only[Nat.sub_self,List.getElem_cons_zero];rw[d.2.2.1,y];omega
  show s.a8+((s.l++[e]).length:Int)<=bL
  rw[lT,List.length_singleton];have:=d.2.2.2;unfold bL;omega
theorem readSeg_I{k:Int}{b:List UInt8}{s:aH}{t:Bool}(h:cH k b=some (s,t)):s.a7=[]∨fX b s:=by
 have c:=oP b;have A:=(tX h).1;have q:=(wW h).2;have D:=aZ5 b;unfold cH at h;split at h;injection h with h
 injection h with h _
 subst h;exact .inl rfl;rename_i p r d;split at h;cases h;rename_i f F w;obtain⟨E,u,a⟩:=Option.map_eq_some_iff.1 h;injection a with a _
 subst a;have v:=rC w;rw[d] at c;have B:=c.2 p (List.mem_cons_self ..);have C:0<(cM p).length:=by
  rw[jG O,lT,Crc.four_length];omega
 obtain⟨e,g,j,l,m,o⟩:=zQ r _ _ _ u ⟨v.1,by show f<bL;unfold bL;omega⟩ rfl (List.pairwise_singleton _ _) (fun n z=>by rw[lY.1 z];omega) (fun i y=>by cases y) (by show f+((0:Nat):Int)<=bL;unfold bL;omega) (fun x hx=>c.2 x (List.mem_cons_of_mem _ hx));exact .inr ⟨e,g,j,l,m,o,O,q⟩
end
structure PD(n B:Nat)(d:DkD):Prop where
 dk:gP B d
 fl:d.fs<=n
structure PI(n B:Nat)(j:bQ):Prop where
 len:j.b0<=n
 h5:∀s∈j.b0,fX B s∧1<=s.k∧s.k<=999999999
 go:eS rT j.b0
theorem PD.mono{n B n' B' :Nat}{d:DkD}(h:PD n B d)(b:n<=n')(a:B<=B'):PD n' B' d:=⟨h.dk.mono a,mM h.fl b⟩
theorem PI.mono{n B n' B' :Nat}{j:bQ}(h:PI n B j)(c:n<=n')(b:B<=B'):PI n' B' j:=⟨mM h.len c,fun s a=>⟨(h.h5 s a).1.mono b,(h.h5 s a).2⟩,h.go⟩
theorem PI.bad{n B:Nat}{j:bQ}(h:PI n B j)(t v b:Int):PI n B ⟨t,v,j.b0,b⟩:=⟨h.len,h.h5,h.go⟩
def aQ.adds:aQ->Nat
 | .app _ _=>1
 |_=>0
def adds(l:List aQ):Nat:=(l.map aQ.adds).sum
theorem jE(a b:List aQ):adds (a++b)=adds a+adds b:=by unfold adds;rw[mE,List.sum_append]
theorem sS(l:List aH):adds (l.map fun s=>aQ.rm (aE s.k))=0:=by
 induction l with
 |nil=>rfl
 |cons x r ih=>unfold adds at ih⊢;rw[mG,mG,List.sum_cons,ih];rfl
theorem vG{n:Nat}{d:DkD}(h:d.fs<=n){fs:List (Nm×FD)}(a:fs<=n):(d.e0 fs).2.fs.length<=n:=by
 unfold DkD.e0;simp only;split;exact a;exact h
theorem zY(d:DkD)(a:aQ):(a.run d).2.fs.length<=d.fs+a.adds:=by
 cases a with
 |rm n=>
  show(d.b6 n).2.fs.length<=d.fs.length
  unfold DkD.b6;split;exact lR _;split;exact lR _;exact vG (lR _) (tM n _)
 |cut n k=>
  show(d.e6 n k).2.fs.length<=d.fs.length
  unfold DkD.e6;split;exact lR _;split;exact lR _;rename_i f b;split;exact lR _;exact vG (lR _) (iO b)
 |sync n=>
  show(d.sync n).2.fs.length<=d.fs.length
  unfold DkD.sync;split;exact lR _;split;exact lR _;rename_i f b;split;exact lR _;exact iO b
 |app n p=>
  show(d.append n [p]).2.fs.length<=d.fs.length+1
  unfold DkD.append;split;exact Nat.le_succ _;split;exact Nat.le_succ _;split;exact Nat.le_succ _;exact tN n _ d.fs
 |ren=>
  show(d.rename aJ fZ).2.fs.length<=d.fs.length
  unfold DkD.rename;split;exact lR _;split;exact lR _;rename_i f b;split;exact lR _;refine vG (lR _) ?_;have e:=tN fZ f (bE aJ d.fs);have c:=iO (f' :=f) b;unfold aW at c;rw[iN] at c;omega
theorem vF:∀(l:List aQ) (d:DkD),(cF l d).2.fs.length<=d.fs+adds l
 |[],d=>lR _
 |a::r,d=>by
  have b:=zY d a;have e:adds (a::r)=a.adds+adds r:=by unfold adds;rw[mG,List.sum_cons]
  unfold cF;split;have c:=vF r (a.run d).2;omega;omega
theorem PD.runs{n B:Nat}{d:DkD}(h:PD n B d)(l:List aQ):PD (n+adds l) (B+cO l) (cF l d).2:=⟨h.dk.runs l,ω2 (vF l d) h.fl⟩
theorem PD.run{n B:Nat}{d:DkD}(h:PD n B d)(a:aQ):PD (n+a.adds) (B+a.cost) (a.run d).2:=⟨h.dk.run a,ω2 (zY d a) h.fl⟩
theorem qM:∀(l a:List aH),eS rT a->eS rT (dC a l)
 |[],a,h=>h
 |s::r,a,h=>by
  show eS rT (dC (lJ a s) r)
  refine qM r _ ?_;unfold lJ;split;exact eH (l:=[]).2 ⟨trivial,fun t b=>by cases b⟩;rename_i t b;split;rename_i d;refine eH.2 ⟨h,fun u c=>?_⟩;rw[b] at c;injection c with c
  subst c;exact d;exact eH (l:=[]).2 ⟨trivial,fun t b=>by cases b⟩
theorem listFiles_I:∀{l:List (Nm×FD)} {x:List (aH×Bool)},cE l=some x->∀y∈x,(y.1.a7=[]∨∃q∈l,fX q.2.b.length y.1)
 |[],x,h=>by
  injection h with h
  subst h;intro y c;cases c
 |q::r,x,h=>by
  unfold cE at h;split at h;intro y c;rcases listFiles_I h y c with a|⟨f,a,d⟩
  exact .inl a;exact .inr ⟨f,List.mem_cons_of_mem _ a,d⟩;split at h;cases h;rename_i s g;obtain⟨i,e,rfl⟩:=Option.map_eq_some_iff.1 h;intro y c;rcases List.mem_cons.1 c with rfl|c
  rcases readSeg_I (s:=y.1) (t:=y.2) g with a|a
  exact .inl a;exact .inr ⟨q,List.mem_cons_self,a⟩;rcases listFiles_I e y c with a|⟨f,a,d⟩
  exact .inl a;exact .inr ⟨f,List.mem_cons_of_mem _ a,d⟩
theorem bX8{n B:Nat}{d:DkD}(g:PD n B d)(t:B<=1000000000){l:List (aH×Bool)}(h:gH d=some l):l<=n∧(∀y∈l,(y.1.a7=[]∨fX B y.1)∧1<=y.1.k∧y.1.k<=999999999)∧eT l=true:=by
 have f:∀q∈d.fs,q.2.b.length<=B:=fun q e=>ω2 (fR e) g.dk.sz
 obtain⟨m,o,p⟩:=yW h (fun q e=>ω1 (f q e));refine⟨mM m g.fl,fun y i=>⟨?_,(o y i).2.1⟩,p⟩;unfold gH at h;split at h;cases h;rename_i s c;split at h;injection h with h
 subst h;have j:=(List.mergeSort_perm s _).mem_iff.1 i;rcases listFiles_I c y j with a|⟨q,a,r⟩
 exact .inl a;exact .inr (r.mono (f q a));cases h
theorem aF5:∀{l:List (aH×Bool)} {f:aH×Bool},eT (l++[f])=true->∀y∈l,y.1.a7≠[]
 |[],f,_,y,d=>by cases d
 |[a],f,h,y,d=>by
  obtain rfl:=lY.1 d;show y.1.a7≠[]
  have c:eT [y,f]=true:=h;unfold eT at c;simp only[Bool.and_eq_true,Bool.not_eq_true'] at c;intro e;rw[e] at c;simp at c
 |a::b::r,f,h,y,d=>by
  have c:eT (a::b::(r++[f]))=true:=h;unfold eT at c;simp only[Bool.and_eq_true,Bool.not_eq_true'] at c;rcases List.mem_cons.1 d with rfl|d
  intro e;rw[e] at c;simp at c;exact aF5 (l:=b::r) c.2 y d
theorem bD7(l:List (aH×Bool))(o:Option (aH×Bool)):adds (l.map (fun f=>aQ.rm (aE f.1.k))++(match o with
  |none=>[]
  |some f=>(if f.2=true then[aQ.cut (aE f.1.k) f.1.b2] else[])++[aQ.sync (aE f.1.k)]))=0:=by
 rw[jE];have a:=sS (l.map (·.1));rw[List.map_map] at a;rw[show adds (l.map fun f=>aQ.rm (aE f.1.k))=0 from a];cases o with
 |none=>rfl
 |some f=>
  show 0+adds ((if f.2=true then[aQ.cut (aE f.1.k) f.1.b2] else[])++[aQ.sync (aE f.1.k)])=0
  rw[jE];split<;>rfl
theorem sK{n B:Nat}{d:DkD}(h:PD n B d){l:List (aH×Bool)}(q:l<=n)(o:∀y∈l,fX B y.1∧1<=y.1.k∧y.1.k<=999999999)(m:Int×Int):PD n B (cQ l m d).2.2∧∀j,(cQ l m d).2.1=some j->PI n B j:=by
 refine⟨?_,fun j a=>?_⟩;have i:=aJ7 (l:=l) (m:=m) h.dk;refine⟨i,?_⟩;unfold cQ;dsimp only;have e:=vF (((l.take (l.length-(dC [] (l.map (·.1))).length)).map fun f=>aQ.rm (aE f.1.k))++(match l.getLast? with
  |none=>[]
  |some f=>(if f.2=true then[aQ.cut (aE f.1.k) f.1.b2] else[])++[aQ.sync (aE f.1.k)])) d
 rw[bD7] at e;exact mM e h.fl;unfold cQ at a;dsimp only at a;generalize cF _ d=r at a;split at a;injection a with a
 subst a;obtain⟨t,_,_,b⟩:=tR (l.map (·.1)) l σ;rw[List.take_of_length_le σ] at b;refine⟨?_,fun s c =>?_,qM _ [] trivial⟩;show(dC [] (l.map (·.1))).length<=n
 rw[b,lZ,lU];omega;have g:s∈dC [] (l.map (·.1)):=c;rw[b] at g;obtain⟨y,p,rfl⟩:=mF.1 (List.mem_of_mem_drop g);exact o y p;cases a
theorem PD.fresh_{n B:Nat}{d:DkD}(h:PD n B d):PD n B (gA d).2:=by
 refine⟨aJ6 h.dk,?_⟩;unfold gA;split;exact mM (zY d (.rm aJ)) h.fl;exact h.fl
theorem bY2{n B:Nat}{d:DkD}(s:PD n B d)(z:B<=1000000000):PD n B (eB d).2.2∧∀j,(eB d).2.1=some j->PI n B j:=by
 by_cases t:d.pw.off=true;rw[vC t];exact⟨s,fun j c=>by cases c⟩;rw[yZ (by simpa using t)];have g:=s.fresh_;split;rotate_left;exact⟨g,fun j c=>by cases c⟩;rw[qP];cases hm:dQ (gA d).2 with
 |none=>exact⟨g,fun j c=>by cases c⟩
 |some m=>
  cases hl:gH (gA d).2 with
  |none=>exact⟨g,fun j c=>by cases c⟩
  |some l=>
   obtain⟨p,q,x⟩:=bX8 g z hl;show PD n B (gC l m (gA d).2).2.2∧∀j,(gC l m (gA d).2).2.1=some j->PI n B j
   unfold gC;have o:∀i,PD n B ((gA d).2.b6 i).2:=fun i =>g.run (.rm i)
   rcases mJ l with b|⟨r,f,b⟩
   subst b;exact sK g (Nat.zero_le _) (fun y a=>by cases a) m;rw[mA] at b;have v:=aF5 (l:=r) (f:=f) (by rw[<-b];exact x);have u:∀y∈r,fX B y.1∧1<=y.1.k∧y.1.k<=999999999:=fun y a=>by
    have h:=q y (by rw[b];simp[a]);exact⟨h.1.resolve_left (v y a),h.2⟩
   have w:r<=n:=by have:=p;rw[b,lT] at this;omega
   rw[b];simp only[List.getLast?_append,List.getLast?_singleton,Option.some_or,List.dropLast_concat];split;split;exact sK (o _) w u m;exact⟨o _,fun j c=>by cases c⟩;rename_i A;refine sK g (by rw[<-b];exact p) (fun y a=>?_) m;rcases mB.1 a with a|a
   exact u y a;obtain rfl:=lY.1 a;have h:=q y (by rw[b];simp);exact⟨h.1.resolve_left (fun e=>A (by rw[e];rfl)),h.2⟩
theorem PI.base0{n B:Nat}{j:bQ}(h:PI n B j):0<=j.base.1:=by
 unfold bQ.base;split;exact Int.le_refl _;rename_i s r a;have:=(h.h5 s (by rw[a];simp)).1.a8;show 0<=s.a8-1
 omega
theorem bV9{j:bQ}{b:aH}(h:j.b0.head?=some b):j.base=(b.a8-1,b.c6):=by
 unfold bQ.base;cases hs:j.b0 with
 |nil=>rw[hs] at h;cases h
 |cons x r=>
  rw[hs] at h;injection h with h
  subst h;rfl
theorem rG(a b:aH):rT a b↔b.a8-1=a.b7.1∧b.c6=a.b7.2:=aV6 b a
theorem wO{a:List aH}{s c:aH}(h:eS rT (a++[s]))(b:c.a8=s.a8)(d:c.c6=s.c6):eS rT (a++[c]):=by
 obtain⟨e,f⟩:=eH.1 h;refine eH.2 ⟨e,fun t g=>?_⟩;have:=(rG t s).1 (f t g);exact(rG t c).2 (by rw[b,d];exact this)
theorem aL0{n B B' :Nat}{j:bQ}{d:DkD}{l:List cD}{do12:List aQ}{a:Int}{K:List aH}{s0:aH}{b:List UInt8}(h:PI n B j)(m:PD n B d)(p:eS rT (K++[aO s0 l]))(u:∀s∈K,fX B' s∧1<=s.k∧s.k<=999999999)(f:fX B' (aO s0 l)∧1<=s0.k)(w:K<=n)(r:cO do12=0)(q:adds do12=0)(v:B+(b++(l.map aZ).flatten).length+1<=B'):
  PI (n+1) B' (jJ j d l do12 a K s0 b).2.1∧PD (n+1) B' (jJ j d l do12 a K s0 b).2.2:=by
 have e:PI (n+1) B' j:=h.mono O O;have g:PD (n+1) B' d:=m.mono O O;unfold jJ;split;exact⟨e,g⟩;rename_i t;split;exact⟨e,g⟩;refine⟨?_,?_⟩;dsimp only;split;refine⟨by show(K++[_]).length<=_;rw[lT];simp;omega,fun s c=>?_,p⟩;rcases mB.1 c with c|c
 exact u s c;obtain rfl:=lY.1 c;rw[(lM l s0).1] at t⊢;exact⟨f.1,f.2,O⟩;exact e.bad _ _ _;have i:=m.runs (do12++[.app (aE (aO s0 l).k) (b++(l.map aZ).flatten),.sync (aE (aO s0 l).k)]);rw[jE,eW,r,q] at i;refine i.mono ?_ ?_;simp[adds,aQ.adds];have o:cO [aQ.app (aE (aO s0 l).k) (b++(l.map aZ).flatten),.sync (aE (aO s0 l).k)]=(b++(l.map aZ).flatten).length+1:=by simp[cO,aQ.cost]
 rw[o];omega
theorem bM6(s c:aH):adds (fV s c)=0:=by
 unfold fV;split<;>rfl
theorem aX0{n B:Nat}{j:bQ}(h:PI n B j){l:List cD}{ix:Int}(q:cB0 j l ix){N:Nat}(z:N=dR j.b0 ix j.b0){c:List aH}{s:aH}(f:j.b0.take N=c++[s]):s∈j.b0∧s.a8<=ix∧ix<=s.a8+s.l∧c.length+1<=j.b0∧eS rT (c++[s]):=by
 have w:=congrArg List.length f;rw[lV,lT,List.length_singleton] at w;have y:1<=j.b0.length:=O;obtain⟨⟨C,D⟩,u,v⟩:=wK j.b0 ix j.b0 y (lR _);rw[<-z] at C D u v;have k:c=N-1:=O;have e:j.b0[N-1]? =some s:=by
  have b:=congrArg (fun x:List aH=>x[N-1]?) f;rw[List.getElem?_take_of_lt O,<-k,List.getElem?_append_right (lR _)] at b;rw[<-k];simpa using b
 have m:=List.mem_of_getElem? e;have o:=(h.h5 s m).1;have p:=q.base;have A:eS rT (c++[s]):=by rw[<-f];exact wQ N h.go
 refine⟨m,?_,?_,O,A⟩
 ·by_cases g:1<N
  have:=u s g e;omega;have i:N=1:=O;subst i;rw[Nat.sub_self] at e;have d:j.b0.head?=some s:=by rw[List.head?_eq_getElem?];exact e
  rw[bV9 d] at p;have:s.a8-1<ix:=p;omega
 by_cases g:N<j.b0;obtain⟨t,r⟩:∃t,j.b0[N]? =some t:=⟨_,lW g⟩
 have i:=v t g r;have d:j.b0.take (N+1)=(c++[s])++[t]:=by
  rw[List.take_add_one,r,f];rfl
 have a:=wQ (N+1) h.go;rw[d] at a;have b:=(rG s t).1 ((eH.1 a).2 s σ);rw[o.l7] at b;omega;have i:N=j.b0:=O;have d:j.b0.getLast?=some s:=by
  rw[List.getLast?_eq_getElem?,<-i];exact e
 have a:=q.b7;unfold bQ.b7 at a;rw[d] at a;have b:ix-1<=s.b7.1:=a;rw[o.l7] at b;omega
theorem aU3{B:Nat}{s:aH}(h:fX B s){ix:Int}(b:s.a8<=ix)(c:ix<=s.a8+s.l):(s.ahead ix).a8+(s.ahead ix).l.length=ix:=by
 have a:(s.ahead ix).l.length=s.e4 ix:=by
  show(s.l.take _).length=_
  rw[lV];unfold aH.e4;omega
 rw[a];show s.a8+((s.e4 ix:Nat):Int)=ix
 unfold aH.e4;omega
theorem PI.save{n B:Nat}{j:bQ}{d:DkD}(h:PI n B j)(z:PD n B d)(l:List cD)(Y:∀s∈j.b0,gU s)(X:∀e∈l,e.ix<=9223372036854775807∧e.tm<=9223372036854775807∧e.kd<=9223372036854775807):PI (n+1) (B+61+(l.map aZ).flatten.length) (cP j d l).2.1∧PD (n+1) (B+61+(l.map aZ).flatten.length) (cP j d l).2.2:=by
 obtain⟨P,L⟩:=eX ((l.map aZ).flatten.length);have D:∀c,cP j d l=(c,j,d)->PI (n+1) (B+61+P) (cP j d l).2.1∧PD (n+1) (B+61+P) (cP j d l).2.2:=fun c e=>by
  rw[e];exact⟨h.mono O O,z.mono O O⟩
 rw[<-L];by_cases y:j.bad=0;rotate_left;exact D j.bad (by unfold cP;rw[if_pos y]);by_cases A:nG j l=0
 ·cases l with
  |nil=>exact D 0 (by unfold cP;rw[if_neg (by rw[y];simp),if_neg (by rw[A];simp)])
  |cons v r=>
   have b:=bR0 A X;obtain⟨a,U⟩:=eX v.ix;obtain⟨l,Q⟩:=eX (v::r);have T:=uD (d:=d) y A (rfl:v::r=v::r);rw[<-Q,<-U] at T;rw[<-Q] at L b⊢;rw[<-U] at b;rw[T];have l9:=b.ne;have G:=b.top;have i6:=b.base;have l8:=h.base0;obtain⟨N,x⟩:=eX (dR j.b0 a j.b0);rcases mJ (j.b0.take N) with m|⟨kr,s,m⟩
   rw[pO x m];have Z:=qH (f:=a) (t:=0) (by unfold bL at G;omega) O;have w:=fX.add l (fX.head (B:=B+60) (k:=1) (ix:=a) (t:=0) O O O O) b.c7 (fun i u=>by rw[b.ixs i u];show a+(i:Int)=a+((0:Nat):Int)+i;omega) (by show a+((0:Nat):Int)+l<=bL;omega);exact aL0 h z (eH (l:=[]).2 ⟨trivial,fun t q=>by cases q⟩) (fun s C=>by cases C) ⟨w.mono O,by show(1:Int)<=1;omega⟩ (Nat.zero_le _) (jY _) (sS _) (by rw[lT];omega);rw[mA] at m;obtain⟨C,r1,r2,r3,W⟩:=aX0 h b x m;obtain⟨w,M⟩:=h.h5 s C;have l5:=aU3 w r1 r2;obtain⟨c,p⟩:=eX (s.ahead a);rw[<-p] at l5;have E:fX B c:=by rw[p];exact w.ahead a
   have o:c.a8=s.a8∧c.c6=s.c6∧c.k=s.k:=by rw[p];exact⟨rfl,rfl,rfl⟩
   have l6:c.b7.1=a-1:=by rw[E.l7];omega
   have V:∀t∈kr,fX (B+61+P) t∧1<=t.k∧t.k<=999999999:=fun t q=>by
    have I:=h.h5 t (mO (i:=N) (by rw[m];simp[q]));exact⟨I.1.mono O,I.2⟩
   have l7:=wO W o.1 o.2.1;have S:cO ((fI j N).map (fun s=>aQ.rm (aE s.k))++fV s c)=0:=by rw[eW,jY,uN]
   have H:adds ((fI j N).map (fun s=>aQ.rm (aE s.k))++fV s c)=0:=by rw[jE,sS,bM6]
   have hn:=h.len;by_cases K:600<=c.b2;rw[rN x m p K];have q:I6 c.b7.2:=by rw[p];exact aH.k6 ((Y s C).l4 a)
   have Z:=qH (f:=a) (t:=c.b7.2) (by unfold bL at G;omega) q;have F:=fX.add l (fX.head (B:=B+60) (k:=s.k+1) (ix:=a) (t:=c.b7.2) O O q O) b.c7 (fun i u=>by rw[b.ixs i u];show a+(i:Int)=a+((0:Nat):Int)+i;omega) (by show a+((0:Nat):Int)+l<=bL;omega);refine aL0 h z (eH.2 ⟨l7,fun t g=>?_⟩) (fun t g=>?_) ⟨F.mono O,by show(1:Int)<=s.k+1;omega⟩ (by rw[lT,List.length_singleton];omega) S H (by rw[lT];omega);obtain rfl:c=t:=by simpa using g
   have:=lM l ⟨s.k+1,a,c.b7.2,[],[((dN a c.b7.2).length:Int)]⟩;exact(rG _ _).2 (by rw[this.2.1,this.2.2,l6];exact⟨rfl,rfl⟩);rcases mB.1 g with g|g
   exact V t g;obtain rfl:=lY.1 g;rw[o.2.2];exact⟨E.mono O,M⟩;rw[rO x m p K];have F:=fX.add l E b.c7 (fun i u=>by rw[b.ixs i u];omega) O;have R:=lM l c;refine aL0 h z (wO W (by rw[R.2.1,o.1]) (by rw[R.2.2,o.2.1])) V ⟨F.mono O,by rw[o.2.2];exact M.1⟩ O S H (by rw[List.nil_append];omega)
 exact D (nG j l) (by unfold cP;rw[if_neg (by rw[y];simp),if_pos A])
theorem bR3{t v:Int}(c:I6 t)(d:I6 v):(gR t v).length<=60:=by
 have b:=fK (z:=[t,v]) (by
  intro n a;simp only[List.mem_cons,List.not_mem_nil,or_false] at a;rcases a with rfl|rfl
  exact c;exact d)
 simp only[mC,List.length_nil] at b;unfold gR;rw[jG O,lT,lT,Crc.four_length];have:=dG (dL [t,v]).length O;omega
theorem PI.setMeta{n B:Nat}{j:bQ}{d:DkD}(h:PI n B j)(g:PD n B d)(t v:Int)(k:I6 t)(l:I6 v):PI (n+1) (B+61) (bP j d t v).2.1∧PD (n+1) (B+61) (bP j d t v).2.2:=by
 have o:=bR3 k l;have a:PI (n+1) (B+61) j:=h.mono O O;have c:PD (n+1) (B+61) d:=g.mono O O;unfold bP;split;exact⟨a,c⟩;split;exact⟨a,c⟩;obtain⟨b,e⟩:=eX ((if(d.read aJ).2=0 then[aQ.rm aJ] else[])++[aQ.app aJ (gR t v),.sync aJ,.ren]);dsimp only;rw[<-e];have f:cO (if(d.read aJ).2=0 then[aQ.rm aJ] else[])=0∧adds (if(d.read aJ).2=0 then[aQ.rm aJ] else[])=0:=by split<;>exact⟨rfl,rfl⟩
 have m:cO b=(gR t v).length+1∧adds b=1:=by
  rw[e,eW,jE,f.1,f.2];exact⟨by simp[cO,aQ.cost],by simp[adds,aQ.adds]⟩
 have i:=(g.runs b).mono (n' :=n+1) (B' :=B+61) O O;split;exact⟨a,c⟩;refine⟨?_,i⟩;dsimp only;split;exact a.bad _ _ _;exact a.bad _ _ _
theorem PI.compact{n B:Nat}{j:bQ}{d:DkD}(h:PI n B j)(q:PD n B d)(ix t:Int)(E:I6 ix)(i:I6 t):PI (n+1) (B+61) (bZ j d ix t).2.1∧PD (n+1) (B+61) (bZ j d ix t).2.2:=by
 have a:PI (n+1) (B+61) j:=h.mono O O;have g:PD (n+1) (B+61) d:=q.mono O O;rw[kW];split;exact⟨a,g⟩;split;exact⟨a,g⟩;rename_i F e;have H:0<=ix∧ix<=9223372036854775805:=by
  have:=h.base0;unfold xK bL at e;omega
 have G:=qH (f:=ix+1) (t:=t) O i;obtain⟨s,o⟩:=eX (tV j ix t);have v:fX (B+61) s:=by rw[o];exact fX.head O (by unfold bL;omega) i O
 have z:1<=s.k:=by
  rw[o];unfold tV;rcases mJ j.b0 with c|⟨r,x,c⟩
  rw[c];simp;rw[mA] at c;have:=(h.h5 x (by rw[c];simp)).2;rw[c];simp;omega
 obtain⟨b,u⟩:=eX (aC8 j ix t);rw[<-o,<-u];unfold iE;split;exact⟨a,g⟩;rename_i C;split;exact⟨a,g⟩;dsimp only;obtain⟨m,p⟩:=eX ((if b=true then[aQ.app (aE s.k) (dN (ix+1) t),.sync (aE s.k)] else[])++((if b=true then j.b0++[s] else j.b0).take (gY (if b=true then j.b0++[s] else j.b0) ix (if b=true then j.b0++[s] else j.b0).length (if b=true then j.b0 else 0))).map fun x=>aQ.rm (aE x.k));rw[<-p];have D:cO m<=61∧adds m<=1:=by
  rw[p,eW,jE,jY,sS];split;have w:cO [aQ.app (aE s.k) (dN (ix+1) t),.sync (aE s.k)]=(dN (ix+1) t).length+1:=by simp[cO,aQ.cost]
  have y:adds [aQ.app (aE s.k) (dN (ix+1) t),.sync (aE s.k)]=1:=by simp[adds,aQ.adds]
  rw[w,y];omega;exact⟨Nat.zero_le _,Nat.zero_le _⟩
 have A:=(q.runs m).mono (n' :=n+1) (B' :=B+61) O O;refine⟨?_,A⟩;split;cases b with
 |true=>
  simp only[if_true];rw[bF8 _ _ σ,List.drop_append_of_le_length (lR _),List.drop_length,List.nil_append];refine⟨by show 1<=n+1;omega,fun x hx=>?_,eH (l:=[]).2 ⟨trivial,fun t i=>by cases i⟩⟩;obtain rfl:x=s:=lY.1 hx;exact⟨v,z,by have:=C;simp only[true_and] at this;omega⟩
 |false=>
  simp only[Bool.false_eq_true,if_false];refine⟨?_,fun x hx=>a.h5 x (List.mem_of_mem_drop hx),wN _ a.go⟩;show(j.b0.drop _).length<=n+1
  rw[lZ];have:=h.len;omega
 exact a.bad _ _ _
end Go.Proofs.YtgeofijddhflaaaGreatDoor
