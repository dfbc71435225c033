/- The program's disk: Files. Condition: the disk is a call's own. -/
import Derived.Test.YtgeofijddhflaaaGreatDoorPDiskCut
import Derived.Test.YtgeofijddhflaaaGreatDoorPDiskNames
import Derived.Test.YtgeofijddhflaaaGreatDoorPRDiskSame
set_option linter.unusedVariables false
set_option linter.unusedSimpArgs false
set_option maxHeartbeats 8000000
set_option maxRecDepth 100000
namespace Go.Proofs.YtgeofijddhflaaaGreatDoor
open Go.RowKit Go.Maps Go.Sort Oct
section
variable{w w1 w2 wr w' :World}{base g m:Nat}{p p' :fT}{room:Int}{es es' :List (Nm×FE)}
theorem yB{α:Type}{l:List (Nm×α)}(h:gJ l){k:Nat}(c:k<l):aX l[k].1 l=some l[k].2:=by
 induction l generalizing k with
 |nil=>simp at c
 |cons y r ih=>
  have b:=List.pairwise_cons.1 h;cases k with
  |zero=>simp[aX]
  |succ k=>
   have a:k<r:=by simpa using c
   have d:¬(y.1==r[k].1)=true:=fun e=>by
    have f :y.1=r[k].1:=by simpa using e
    have:=b.1 _ (lX a);rw[f,show bytesBefore r[k].1 r[k].1=false from WideAt.bytes_irrefl _] at this;cases this
   have:=ih b.2 a;unfold aX at this⊢;have g:(y.1==r[k].1)=false:=by simpa using d
   simp only[List.getElem_cons_succ,List.find?_cons,g];exact this
theorem aV.boot1(h:aV wr base g m p room es){n:Nm}{a:FE}(d:aX n es=some a)(s:Nat)(B:s<=a.f.b)(c:Nat):
  aV ((wr.drewN c).setCell (a.b4,1) s) base g m p room (aW n ⟨a.b4,a.v,⟨a.f.b,s⟩⟩ es)∧Fr (aI g m es) wr ((wr.drewN c).setCell (a.b4,1) s)∧(∀k,aI g m (aW n ⟨a.b4,a.v,⟨a.f.b,s⟩⟩ es) k->aI g m es k∨wr.heap.size<=k):=by
 have t:=bY d;have q:=h.file _ t;have o:=h.e9 _ t;simp only at q o;have y:=aA (wr.drewN c) a.b4 1 (.int .i64 (s:Int));have u:∀k,k≠a.b4->((wr.drewN c).setCell (a.b4,1) (.int .i64 (s:Int))).heap[k]? =wr.heap[k]? :=fun k r=>Below.heap_setCell (wr.drewN c) (a.b4,1) _ k (by simpa using r)
 have w:=o.kept (fun i l=>u i (fun e=>cW o q δ (by rw[l,e]))) σ;refine⟨h.j0 d a.v ⟨a.f.b,s⟩ σ (aS.b8 (q.drewN c) 1 _) w B (fun i l=>.inl l) (fun i l z _=>u i z),?_,fun k r=>?_⟩;exact((Fr.refl (aI g m es) wr).e7 c).trans (Fr.e2 (mine:=fun k=>k=a.b4) y (fun k e=>by injection e with e;exact e.symm)) (fun j A=>.inl (by rw[A];exact lO d));exact tH r (fun e=>.inl (by have x :a.b4=k:=e;rw[<-x];exact lO d)) (fun e=>.inl (yJ d e))
theorem aV.boot2(h:aV wr base g m p room es)(c:Below wr wr w2){n:Nm}{a:FE}(o:aX n es=some a){v:Value}{l:List UInt8}(C:a.f.b5<=l)(d:eR w2 wr v l):
  aV (w2.setCell (a.b4,0) v) base g m p room (aW n ⟨a.b4,v,⟨l,a.f.b5⟩⟩ es)∧Fr (aI g m es) wr (w2.setCell (a.b4,0) v)∧(∀k,aI g m (aW n ⟨a.b4,v,⟨l,a.f.b5⟩⟩ es) k->aI g m es k∨wr.heap.size<=k):=by
 have r:=bY o;have A:=h.a1 c;have t:=A.file _ r;simp only at t;have u:base<=wr:=ω2 (h.low.1) h.b4.lt;have y:=aA w2 a.b4 0 v;have s:∀k,k≠a.b4->(w2.setCell (a.b4,0) v).heap[k]? =w2.heap[k]? :=fun k q=>Below.heap_setCell w2 (a.b4,0) _ k (by simpa using q)
 have D:a.b4<wr:=(h.file _ r).lt;have x:=(d.mono u).kept (fun i b=>s i (fun e=>ω1 (d.row.base i b))) σ;refine⟨h.j0 o v ⟨l,a.f.b5⟩ (by simp;exact c.size) (aS.b8 t 0 _) x C (fun i b=>.inr (d.row.base i b)) (fun i b z _=>(s i z).trans (c.block i b)),?_,fun k q=>?_⟩;exact(Fr.b9 (aI g m es) c).trans (Fr.e2 (mine:=fun k=>k=a.b4) y (fun k e=>by injection e with e;exact e.symm)) (fun j B=>.inl (by rw[B];exact lO o));exact tH q (fun e=>.inl (by have w :a.b4=k:=e;rw[<-w];exact lO o)) (fun e=>.inr (d.row.base k e))
theorem aE1(h:aV w base g m p room es)(A:Option Addr)(z:List Int)(cz:Nat)(hz:Rd w base A (z.map (Value.int .i64)))(l9:∀n∈z,I6 n)(J7:z.length<=140737488351232)(hl:es.length<=549755813888)(D7:∀q∈es,q.2.f.b.length<=549755813888)(E6:∀q∈es,q.1.length<=140737488351232):
  Calls Tryz.prog 22 #[(g,0),.slice A z cz] w fun e w' =>(∃v,e=.returned v)∧bG w base g m es ((bH p room es).j8 z) w' :=by
 have D0:=J (rJ h O);have H:=J h;have HZ:=J hz;have I5:=J l9;have G6:=J D7;have I0:=J E6;have J4:base<=w:=ω2 (h.low.1) h.b4.lt;clear h hz l9 D7 E6;go_enter Tryz.func22,Tryz.ntmps22;go_wp2_with fail;refine D0.o.mono ?_;rintro e w1 ⟨vn,rfl,C7,B7⟩;obtain⟨An,cn,rfl,_,_,E7⟩:=C7.b3;have o8:=fun k hk=>(C7.lt k hk)
 rw[lU];have HN:=J E7;have I1:=J o8;have p9:=J B7;have I9:=B7.size;clear C7 E7 o8 B7 D0;go_wp2_with fail;go_loopw [10] (fun i wr=>∃(k:Nat) (r:List (Nm×FE)),k<=es∧i=.int .i64 k∧Hq (aV wr base g m p room r)∧Hq (bI FE.f r=gG z k (bI FE.f es))∧Hq (Fr (aI g m es) w1 wr)∧Hq (∀j,aI g m r j->aI g m es j∨w1.heap.size<=j)) (fun i _=>es.length-(intOf i).toNat)
 case atStart=>exact⟨0,es,O,rfl,J (H.o.a1 p9.o),J (yG _ _).symm,J (Fr.refl _ _),J (fun j M=>.inl M)⟩
 obtain⟨k,r,hk,rfl,G,HS,U,HK⟩:=hrel;have n9:r.length=es:=by have:=congrArg List.length HS.o;simpa[gM,bI] using this
 obtain⟨⟨d0,d1,d2,d3,d4,d5⟩,f0,f1,f2,f3⟩:=gL G.o.b4;by_cases C:k<es;rotate_left
 ·have I7:k=es:=O
  have D3:gG z k (bI FE.f es)=((bH p room es).j8 z).fs:=by
   rw[I7];show _=gG z (bI FE.f es).length (bI FE.f es)
   rw[cR]
  obtain⟨w4,p8⟩:=eX ((((wr.setCell (g,0) (.bool false)).setCell (g,1) (.bool false)).setCell (g,2) (.int .i64 0)).setCell (g,3) (.int .i64 0));have B9:wr.grownBy w4 (some g):=by rw[p8];exact aF (aF (aF (aA wr g 0 _) (aA _ g 1 _) (.inl rfl)) (aA _ g 2 _) (.inl rfl)) (aA _ g 3 _) (.inl rfl)
  have G4:=J (G.o.j6 (p' :=⟨false,false,0,0⟩) B9 (by rw[p8];exact aS.b8 (aS.b8 (aS.b8 (aS.b8 G.o.b4 0 _) 1 _) 2 _) 3 _) ⟨⟨by decide,δ⟩,⟨by decide,δ⟩,G.o.num.2.2⟩);have q8:=J (U.o.trans (Fr.e2 (mine:=aI g m r) B9 (fun k e=>by injection e with e;exact .inl e.symm)) HK.o);have I2:=J (HS.o.trans D3);have I4:=J p8;clear D3 B9 n9 p8;go_wp2_with fail;rw[<-I4.o];go_end0;refine⟨⟨_,rfl⟩,_,G4.o,I2.o,(Fr.b9 (aI g m es) p9.o).trans q8.o (fun j M=>.inl M),fun j M=>?_⟩;rcases HK.o j M with h|h
  exact .inl h;exact .inr (mM I9 h)
 have p7:k<r:=O;have l8:(r[k].1,r[k].2.f)=((bI FE.f es)[k]'(by rw[cR];exact C)):=by
  have h1:=aE0 z (fs:=bI FE.f es) (k:=k) (by rw[cR];exact C) (by rw[gM,cR];exact C);rw[<-h1];have h2:(bI FE.f r)[k]'(by rw[cR];exact p7)=(r[k].1,r[k].2.f):=by simp[bI]
  rw[<-h2];exact List.getElem_of_eq HS.o _
 have C4:((bI FE.f es)[k]'(by rw[cR];exact C))=(es[k].1,es[k].2.f):=by simp[bI]
 have C2:r[k].1=es[k].1:=by rw[C4] at l8;injection l8
 have D8:r[k].2.f=es[k].2.f:=by rw[C4] at l8;injection l8
 have D9:r[k].2.f.b.length<=549755813888:=by rw[D8];exact G6.o _ (lX C)
 have I8:r[k].1.length<=140737488351232:=by rw[C2];exact I0.o _ (lX C)
 have i4:=yB G.o.rising p7;have P:=lX p7;have D:=G.o.file _ P;obtain⟨T,Z,hv,G0,J6,G2⟩:=(G.o.e9 _ P).b3;have C5:=G.o.b5 _ P;obtain⟨B1,D1,m7,D5⟩:=iR (f:=fun q:Nm×FE=>Value.string (bU q.1)) HN.o C;have n8:wr.cell? (B1.add k)=some (.string (bU r[k].1)):=by
  rw[C2];refine(mK (w:=w1) ?_).trans D5;rw[bK];refine U.o.block B1.block m7 (fun P=>?_);have h1:=(H.o.lt _ P).2;have h2:=(I1.o B1.block (by rw[D1];rfl)).1;omega
 have hl:=G.o.map.get Tryz.underlying9 Tryz.underlying59 (nB wr) (bU r[k].1) (by rw[fL];unfold maxLen;omega);rw[uG,fA,i4] at hl;have E5:(Instr.lookup 59 (.map (some m)) (.string (bU r[k].1)) false).run Tryz.prog wr=.ok (.pointer (r[k].2.b4,0)) wr:=hl;have hB:=vO z k r[k].2.f C5;have s9:Hq (∀X,A=some X->X.block<base->wr.heap[X.block]? =w.heap[X.block]?):=J (fun X e hlo=>(U.o.block X.block O (fun P=>ω1 ((H.o.lt _ P).1))).trans (p9.o.block X.block O));have j8:=G.o.rising;have f9:Hq (∀s v,s=(fP z k r[k].2.f).b5->bI FE.f (aW r[k].1 ⟨r[k].2.b4,v,⟨r[k].2.f.b.take s,s⟩⟩ r)=gG z (k+1) (bI FE.f es)):=J (fun s v L=>by
  rw[oA j8 p7,bD2,HS.o,<-yF z (by rw[cR];exact C),<-l8];show _=(gG z k (bI FE.f es)).set k (r[k].1,fP z k r[k].2.f)
  rw[L];rfl)
 obtain⟨q,hq⟩:=eX (r[k]);rw[<-hq] at i4 D9 I8 D hv G0 G2 C5 n8 E5 hB f9;have I:wr.cell? (q.2.b4,0)=some (.slice T q.2.f.b.length Z):=by rw[<-hv];exact D.cell 0
 have E:=D.c 1;have u0:=D.a6 0;have u1:=D.a6 1;have B8:=D.lt;have HQ:=J i4;have HV:=J hv;have HB:=J hB;have J5:(k:Int)<(es:Int):=O;obtain⟨Y,a,qv,u,y⟩:=q;simp only at I E u0 u1 B8 G0 C5 D9 n8 E5;subst D1;clear l8 C4 C2 D8 i4 P D hv G2 D5 hl hB j8 hq n9 m7 d0 d1 d2 d3 d4 f0 f1 f2 f3;by_cases F:k<z;obtain⟨N,C3⟩:∃N:Nat,z.getD k 0 % ((u:Int)-y+1)=(N:Int):=⟨(z.getD k 0 % ((u:Int)-y+1)).toNat,ω1 (Int.emod_nonneg (z.getD k 0) (show((u:Int)-y+1)≠0 by omega))⟩
 have f8:(fP z k ⟨u,y⟩).b5=y+N:=by
  unfold fP;show y+_=_
  rw[if_pos F,C3];rfl
 have C6:y+N<=u:=by have:=HB.o.1;simp only at this;rw[f8] at this;exact this
 obtain⟨B6,hA,m8,D6⟩:=iR HZ.o F;have V:wr.cell? (B6.add k)=some (.int .i64 (z.getD k 0)):=by
  rw[show z.getD k 0=z[k] by simp[List.getD,F]];exact(mK (w:=w) (by rw[bK];exact s9.o B6 hA m8)).trans D6
 have l9:=I5.o _ (lX F);rw[show z[k]=z.getD k 0 by simp[List.getD,F]] at l9;have p6:=fun W:World=>J (aN0 (z.getD k 0) ((u:Int)-y+1) l9 O W)
 rw[C3] at p6;obtain⟨zk,G3⟩:=eX (z.getD k 0);rw[<-G3] at V l9 p6;have C1:(k:Int)<(z:Int):=O;have J1:IntKind.i64.wrap ((u:Int)-(y:Int))=(u:Int)-y:=mH _ O;have J2:IntKind.i64.wrap ((u:Int)-(y:Int)+1)=(u:Int)-y+1:=mH _ O;have J3:IntKind.i64.wrap ((y:Int)+(N:Int))=(y:Int)+N:=mH _ O;subst hA;obtain⟨s,L⟩:=eX (y+N);have R:=G.o.boot1 HQ.o (y+N) C6 1;have m6:=J (f8.trans L.symm);rw[<-L] at C6 R;have E8:(y:Int)+(N:Int)=(s:Int):=O;have I3:=J E8;have C8:=J R;clear C3 f8 D6 m8 G3 L R E8;go_wp2_with fail;refine bW 23 κ (S:=fun W=>W.cell? ⟨a,0,none⟩=some (.slice T u Z)∧W.cell? ⟨a,1,none⟩=some (.int .i64 (y:Int))∧W.cell? (B6.add k)=some (.int .i64 zk)∧True) ⟨I,E,V,trivial⟩ (fun d=>?_);refine zU 0 (k:=zU 1 (k:=zU 2 (k:=zU 3 (k:=zU 4 (k:=zU 5 (k:=zU 6 (k:=zU 7 (k:=zU 8 (k:=zU 9 (k:=zU 10 (k:=zU 11 (k:=?_))))))))))));refine zU 12 (k:=zU 13 (k:=zU 14 (k:=zU 15 (k:=zU 16 (k:=zU 17 (k:=zU 18 (k:=?_)))))));simp only[zA,zB,zF,zG,zC,zD,zE];refine zW 19 (k:=fun K x=>?_);simp only[zA,zB];go_simp;refine(p6 _).o.mono ?_;rintro e w' ⟨rfl,rfl⟩;refine x.out _ _ ⟨I,E,V,trivial⟩ (fun d=>?_);clear x K;try simp only[zF,zG,zC,zD,zE]
 refine zW 20 (k:=fun K x=>?_);simp only[zA,zB];go_simp;refine x.out _ _ ⟨I,E,V,trivial⟩ (fun d=>?_);clear x K;try simp only[zF,zG,zC,zD,zE]
 refine zW 21 (k:=fun K x=>?_);simp only[zA,zB];go_simp;refine x.out _ _ ⟨I,E,V,trivial⟩ (fun d=>?_);clear x K;try simp only[zF,zG,zC,zD,zE]
 refine zW 22 (k:=fun K x=>?_);simp only[zA,zB];go_simp;refine x.out _ _ ⟨I,E,V,trivial⟩ (fun d=>?_);clear x K;try simp only[zF,zG,zC,zD,zE]
 refine dI (t:=23) (by simp) (by kernel_rfl) (by kernel_rfl) (fun K x=>?_);simp only[zA,zB];go_simp;refine x.out _ _ ?_;clear x K d;rw[I3.o];obtain⟨B,Q⟩:=eX ((wr.setCell (a,1) (.int .i64 (s:Int))).drew);have R:aV B base g m p room (aW Y ⟨a,qv,⟨u,s⟩⟩ r)∧Fr (aI g m r) wr B∧(∀k,aI g m (aW Y ⟨a,qv,⟨u,s⟩⟩ r) k->aI g m r k∨wr.heap.size<=k):=by rw[Q];exact C8.o
 have m3:=J R.1;have p4:=J R.2.1;have p5:=J R.2.2;have l7:=J (nZ Y (⟨a,qv,⟨u,s⟩⟩:FE) r);have j9:=fun v=>J (aD9 Y (⟨a,v,⟨u.take s,s⟩⟩:FE) (⟨a,qv,⟨u,s⟩⟩:FE) r)
 rw[<-Q];clear R Q C8 I E u0 u1 J1 J2 J3 V p6;go_wp2_with fail;rotate_left;have f8:(fP z k ⟨u,y⟩).b5=y:=by
  unfold fP;show y+_=_
  rw[if_neg F];rfl
 have C1:¬(k:Int)<(z:Int):=O;obtain⟨s,L⟩:=eX y;have m6:=J (f8.trans L.symm);have C6:s<=u:=O;have l7:=HQ;try simp only at l7
 have G8:=J L;have l7:Hq (aX Y r=some ⟨a,qv,⟨u,s⟩⟩):=J (by rw[G8.o];exact HQ.o);rw[<-L] at E;clear f8 L;go_wp2_with fail;obtain⟨B,Q⟩:=eX wr;have m3:Hq (aV B base g m p room r):=by rw[Q];exact G
 have p4:Hq (Fr (aI g m r) wr B):=by rw[Q];exact J (Fr.refl _ _)
 have p5:Hq (∀k,aI g m r k->aI g m r k∨wr.heap.size<=k):=J (fun k hk=>.inl hk);have j9:=fun v=>J (rfl:aW Y (⟨a,v,⟨u.take s,s⟩⟩:FE) r=aW Y ⟨a,v,⟨u.take s,s⟩⟩ r)
 rw[<-Q];clear Q I E u0 u1
 all_goals
  have l6:(u.take s).length=s:=by rw[lV];omega
  have g8:=bY l7.o;have D:=m3.o.file _ g8;have l4:a<B:=D.lt;obtain⟨A8,c8,h8,_,_,r8⟩:=(m3.o.e9 _ g8).b3;simp only at h8 r8 D;have h9:=HV.o;rw[h9] at h8;have I:B.cell? (a,0)=some (.slice T u Z):=by rw[<-h9];exact D.cell 0
  have E:=D.c 1;injection h8 with h8 h8b h8c
  clear h8b h8c;have o9:Rd B B T (cells (u.take s)):=by rw[h8];unfold cells;rw[List.map_take];exact Rd.take r8 _
  have J0:s<=Z:=O;have C9:=J (oD T (u.take s) s Z l6.symm B.drew (show Rd B.drew B.drew T _ from o9) O);have m5:=J l6;have G9:=J D;clear h8 r8 h9 o9 g8 D l6;refine bW 13 κ (S:=fun W=>W.cell? ⟨a,0,none⟩=some (.slice T u Z)∧W.cell? ⟨a,1,none⟩=some (.int .i64 (s:Int))∧True∧True) ⟨I,E,trivial,trivial⟩ (fun d=>?_);refine zU 0 (k:=zU 1 (k:=zU 2 (k:=zU 3 (k:=zU 4 (k:=zU 5 (k:=zU 6 (k:=zU 7 (k:=zU 8 (k:=zU 9 (k:=?_))))))))));simp only[zA,zB,zF,zG,zC,zD,zE];refine zW 10 (k:=fun K x=>?_);simp only[zA,zB];go_simp;refine(C9.o).mono ?_;rintro e W2 ⟨v5,rfl,C0,m9⟩;obtain⟨A5,c5,E9,_⟩:=bF C0;rw[m5.o] at E9;subst E9;have b0:=m9.cell (p:=(a,0)) l4;have b1:=m9.cell (p:=(a,1)) l4;rw[show B.drew.cell? (a,0)=_ from I] at b0;rw[show B.drew.cell? (a,1)=_ from E] at b1;have n5:Below B B W2:=(lS _ B).drew.trans m9;have D4:aS W2 a 83 _:=(m9.block a l4).trans G9.o;have b2:=D4.a6 0;have l5:=aV.boot2 m3.o n5 l7.o (v:=.slice A5 s c5) (l:=u.take s) (by rw[m5.o];exact lR _) (eR.e1 C0);rw[(j9 _).o] at l5;have g9:=J l5;clear m9 n5 C0 D4 l5;refine x.out _ _ ⟨b0,b1,trivial,trivial⟩ (fun d=>?_);clear x K;try simp only[zF,zG,zC,zD,zE]
  refine zW 11 (k:=fun K x=>?_);simp only[zA,zB];go_simp;refine x.out _ _ ⟨b0,b1,trivial,trivial⟩ (fun d=>?_);clear x K;try simp only[zF,zG,zC,zD,zE]
  refine zW 12 (k:=fun K x=>?_);simp only[zA,zB];go_simp;refine x.out _ _ ⟨b0,b1,trivial,trivial⟩ (fun d=>?_);clear x K;try simp only[zF,zG,zC,zD,zE]
  refine dI (t:=13) (by simp) (by kernel_rfl) (by kernel_rfl) (fun K x=>?_);simp only[zA,zB];go_simp;refine x.out _ _ ?_;clear x K d b0 b1 b2 C9 I E;have q8:=J ((U.o.trans p4.o HK.o).trans g9.o.2.1 (fun j M=>by
   rcases p5.o j M with h|h
   exact HK.o j h;exact .inr (mM U.o.size h)))
  have G7:=J (fun j M=>by
   rcases g9.o.2.2 j M with h|h
   rcases p5.o j h with h|h
   exact HK.o j h;exact .inr (mM U.o.size h);exact .inr (mM (mM U.o.size p4.o.size) h))
  have t9:=J (f9.o s (.slice A5 s c5) m6.o.symm);have G5:=J g9.o.1;clear g9 f9 m3 l7 p4 p5 j9;go_wp2;go_roundw
  case rel=>exact⟨k+1,_,O,by go_num,G5,t9,q8,G7⟩
  case measure=>simp[intOf];omega
end
section
variable{w w1 w2 wr w' :World}{base g m:Nat}{p p' :fT}{room:Int}{es es' :List (Nm×FE)}
theorem bS5{N:Nat}{v:Value}{rs:List (Nm×RF)}(h:fG w N v rs)(n:∀q∈rs,eR w N q.2.v q.2.f.b):∃A c,v=.slice A rs c∧cA3 w A rs:=by
 rcases h.2 with⟨hn,h0⟩|⟨b,cap,a8,hv,hb,d,hc,a9,d8,hx⟩
 have:rs=[]:=mD h0;subst this;exact⟨none,0,hn,fun k d=>absurd d σ,fun q e=>by cases e⟩;refine⟨_,cap,hv,fun k a =>⟨b,rfl,(Array.getElem?_eq_some_iff.1 d).1,?_,?_,?_⟩,fun q e=>?_⟩;rw[World.ownsRow.cellAt (hv▸h) (k*3) O];exact kJ rs a (j:=0) O;rw[World.ownsRow.cellAt (hv▸h) (k*3+1) O];exact kJ rs a (j:=1) O;rw[World.ownsRow.cellAt (hv▸h) (k*3+2) O];exact kJ rs a (j:=2) O;obtain⟨g,i,l,_,_,m⟩:=(n q e).b3;exact⟨g,i,l,m⟩
theorem bF3(h:aV w base g m p room es)(M:es.length<=549755813888)(C1:∀q∈es,q.2.f.b.length<=140737488351232)(C4:∀q∈es,q.1.length<=140737488351232):
  Calls Tryz.prog 25 #[(g,0)] w fun e w' =>∃v n,e=.returned v∧fG w' w v n∧(∀q∈n,eR w' w q.2.v q.2.f.b)∧bI RF.f n=bI FE.f es∧Below w w w' :=by
 have B6:=J (rJ h O);have H:=J h;have q8:=J C1;have B1:=J C4;go_enter Tryz.func25,Tryz.ntmps25;go_wp2_with fail;refine B6.o.mono ?_;rintro e w1 ⟨vn,rfl,C6,l8⟩;obtain⟨An,cn,rfl,_,_,m8⟩:=C6.b3;rw[lU];have HN:=J m8;have p8:=J l8;have m9:=l8.size;have Q:=J (H.o.a1 l8);go_wp2_with fail;go_loopw [3,9] (fun o i wr=>∃(k:Nat) (n:List (Nm×RF)),k<=es∧i=.int .i64 k∧Hq (fG wr w1 o n)∧Hq (∀q∈n,eR wr w1 q.2.v q.2.f.b)∧Hq (bI RF.f n=(bI FE.f es).take k)∧Hq (Below w1 w1 wr)) (fun _ i _=>es.length-(intOf i).toNat)
 case atStart=>exact⟨0,[],O,rfl,J (fG.nil _ _),J (fun q s=>by cases s),J rfl,J (lS _ _)⟩
 obtain⟨k,n,hk,rfl,D,HG,HS,u⟩:=hrel;have C8:n<=k:=by have:=congrArg List.length HS.o;simp only[bI,lU,lV] at this;omega
 have p4:=u.o.size;obtain⟨Ao,co,o9⟩:=D.o.b3;by_cases A:k<es;rotate_left
 ·have e:bI RF.f n=bI FE.f es:=by rw[HS.o];exact List.take_of_length_le (by rw[cR];omega)
  have HE:=J e;subst o9;go_wp2;go_ret;exact⟨_,n,rfl,aR3 D.o m9,fun q s=>(HG.o q s).mono m9,HE.o,p8.o.trans (u.o.mono m9)⟩
 have E:=Q.o.a1 u.o;obtain⟨⟨_,_,_,_,_,d5⟩,_⟩:=gL E.b4;have N:=lX A;have l4:=E.file _ N;obtain⟨I,Y,hv,p6,D0,p7⟩:=(E.e9 _ N).b3;have m5:=q8.o _ N;have C3:=B1.o _ N;have m7:=yB E.rising A;obtain⟨n8,B9,l7,C0⟩:=iR (f:=fun q:Nm×FE=>Value.string (bU q.1)) HN.o A;have g8:wr.cell? (n8.add k)=some (.string (bU es[k].1)):=(mK (w:=w1) (by rw[bK];exact u.o.block n8.block l7)).trans C0;have R:=J E.map;have j9:Hq (∀W,dA Tryz.prog 9 W m (bI FE.b4 es)->(Instr.lookup 59 (.map (some m)) (.string (bU es[k].1)) false).run Tryz.prog W=.ok (.pointer (es[k].2.b4,0)) W):=J (fun W hW=>by
  have M:=hW.get Tryz.underlying9 Tryz.underlying59 (nB W) (bU es[k].1) (by rw[fL];unfold maxLen;omega);rw[uG,fA,m7] at M;exact M)
 have C2:=E.b4.lt;have g9:=Q.o.b4.lt;have i4:=Q.o.map.lt;have a8:=(Q.o.file _ N).lt;have l6:Hq (∀v,bI RF.f (n++[(es[k].1,⟨v,es[k].2.f⟩)])=(bI FE.f es).take (k+1)):=J (fun v=>by
  rw[List.take_succ_eq_append_getElem (by rw[cR];exact A),<-HS.o];simp[bI])
 obtain⟨q,s⟩:=eX (es[k]);rw[<-s] at l4 hv p6 p7 m5 C3 g8 j9 l6 a8;have Z:wr.cell? (q.2.b4,0)=some (.slice I q.2.f.b.length Y):=by rw[<-hv];exact l4.cell 0
 have e1:=l4.c 1;have m3:=l4.lt;have n5:=J (oD I q.2.f.b q.2.f.b.length Y rfl wr.drew (show Rd wr.drew wr.drew I _ from p7) m5);have C7:(k:Int)<(es:Int):=O;obtain⟨C,a,qv,r,B⟩:=q;simp only at Z e1 m3 p6 m5 g8 j9 n5 l6 a8;have T:=a8;subst B9;subst o9;go_wp2_with fail;refine wp_region_held_drew κ (S:=fun W=>W.cell? ⟨g,5,none⟩=some (.map (some m))∧dA Tryz.prog 9 W m (bI FE.b4 es)∧W.cell? ⟨a,0,none⟩=some (.slice I r Y)∧W.cell? ⟨a,1,none⟩=some (.int .i64 (B:Int))) ⟨d5,R.o,Z,e1⟩ (fun d=>?_);refine zT 0 (k:=zT 1 (k:=zT 2 (k:=zT 3 (k:=zT 4 (k:=zT 5 (k:=zT 6 (k:=?_)))))));simp only[zA,zB,zF,zG,zC,zD,zE];refine lP 7 (v:=?_) (by simp) (by kernel_rfl) (by kernel_rfl) (by kernel_rfl) (fun _ _ _ h=>h) (Or.inl ⟨by rfl,?_⟩) d ?_
 case refine_2=>(intro w L;(try dsimp only at L);obtain⟨s0,s1,s2,s3⟩:=L;have M:=j9.o w s1;simp only[List.getElem_cons_zero,List.getElem_cons_succ];go_simp<;>with_reducible rfl)
 simp only[List.getElem_cons_zero,List.getElem_cons_succ,Act.put,List.setIfInBounds_toArray,List.set_cons_zero,List.set_cons_succ];refine zT 8 (k:=zT 9 (k:=zT 10 (k:=zT 12 (k:=zT 13 (k:=zT 14 (k:=zT 15 (k:=zT 16 (k:=?_))))))));simp only[zA,zB,zF,zG,zC,zD,zE];refine lP 17 (v:=?_) (by simp) (by kernel_rfl) (by kernel_rfl) (by kernel_rfl) (fun _ _ _ h=>h) (Or.inl ⟨by rfl,?_⟩) d ?_
 case refine_2=>(intro w L;(try dsimp only at L);obtain⟨s0,s1,s2,s3⟩:=L;have M:=j9.o w s1;simp only[List.getElem_cons_zero,List.getElem_cons_succ];go_simp<;>with_reducible rfl)
 simp only[List.getElem_cons_zero,List.getElem_cons_succ,Act.put,List.setIfInBounds_toArray,List.set_cons_zero,List.set_cons_succ];refine zT 18 (k:=zT 19 (k:=zT 20 (k:=?_)));simp only[zA,zB,zF,zG,zC,zD,zE];refine zV 11 (k:=fun K y=>?_);simp only[zA,zB];go_simp;refine n5.o.mono ?_;rintro e l ⟨v5,rfl,n9,F⟩;obtain⟨t,x,C5,_⟩:=bF n9;subst C5;have C9:wr.heap.size<=l:=F.size;have U:=F.cell (p:=(g,5)) C2;have V:=F.cell (p:=(a,0)) m3;have X:=F.cell (p:=(a,1)) m3;rw[show wr.drew.cell? (g,5)=_ from d5] at U;rw[show wr.drew.cell? (a,0)=_ from Z] at V;rw[show wr.drew.cell? (a,1)=_ from e1] at X;have l5:=R.o.b1 (F.block m R.o.lt);have l9:Below wr wr l:=(lS _ wr).drew.trans F;have s9:=J (eR.e1 n9);have j8:=J l9;refine y.out _ _ ⟨U,l5,V,X⟩ (fun d=>?_);try simp only[zF,zG,zC,zD,zE]
 refine zV 21 (k:=fun K y=>?_);simp only[zA,zB];go_simp;refine y.out _ _ ⟨U,l5,V,X⟩ (fun d=>?_);try simp only[zF,zG,zC,zD,zE]
 refine zV 22 (k:=fun K y=>?_);simp only[zA,zB];go_simp;have a0:(l.alloc (.cells #[.string (bU C),.slice t r x,.int .i64 (B:Int)] 85)).cell? (g,5)=some (.map (some m)):=(World.cell?_alloc_lt l _ (g,5) (by show g<_;omega)).trans U;have a1:(l.alloc (.cells #[.string (bU C),.slice t r x,.int .i64 (B:Int)] 85)).cell? (a,0)=some (.slice I r Y):=(World.cell?_alloc_lt l _ (a,0) (by show a<_;omega)).trans V;have a2:(l.alloc (.cells #[.string (bU C),.slice t r x,.int .i64 (B:Int)] 85)).cell? (a,1)=some (.int .i64 (B:Int)):=(World.cell?_alloc_lt l _ (a,1) (by show a<_;omega)).trans X;have aM:dA Tryz.prog 9 (l.alloc (.cells #[.string (bU C),.slice t r x,.int .i64 (B:Int)] 85)) m (bI FE.b4 es):=l5.b1 (Below.heap_alloc _ _ _ l5.lt);refine y.out _ _ ⟨a0,aM,a1,a2⟩ (fun d=>?_);try simp only[zF,zG,zC,zD,zE]
 refine zV 23 (k:=fun K y=>?_);simp only[zA,zB];rw[if_pos (by rfl)];refine eM (.tmp 13) (.tmp 35) 68 rfl w1 85 (.agg #[.string ⟨#[]⟩,.slice none 0 0,.int .i64 0]) 3 48 Tryz.underlying68 kB rfl δ _ n _ rfl ((D.o.a1 j8.o).a1 ((lS _ l).alloc (lR _) _)) (l,0) 1 1 [.string (bU C),.slice t r x,.int .i64 (B:Int)] rfl rfl (dH (aS.new _ 85 _)) (by simp[Value.oneCell']) μ O θ ?_;intro v6 W6 i6 m6 _;obtain⟨r1,P⟩:=fG.push (wr:=l) (q:=(C,⟨.slice t r x,⟨r,B⟩⟩)) (u.o.trans (j8.o.mono p4)) O (D.o.a1 j8.o) rfl i6 m6;have m8:=fun j z=>(D.o.lt j z).2
 have o8:∀j,j<l.heap.size->(Value.slice Ao n co).ownBlock≠some j->W6.heap[j]? =l.heap[j]? :=fun j z hne=>(m6.block j θ (fun e=>hne e.symm)).trans (Below.heap_alloc l _ j z)
 have j6:l.heap.size<=W6:=by have:=m6.size;simp at this;omega
 have t9:Hq (∀q∈n++[((C,⟨.slice t r x,⟨r,B⟩⟩):Nm×RF)],eR W6 w1 q.2.v q.2.f.b):=J (fun q s=>by
  rcases mB.1 s with s|s
  have G:=(HG.o q s).a1 j8.o (lR _);exact G.kept (fun j z=>o8 j (G.row.lt j z) (zUU D.o (HG.o q s) δ j z)) j6;rw[lY.1 s];have G:eR l wr (.slice t r x) r:=s9.o;exact(G.mono p4).kept (fun j z=>o8 j (G.row.lt j z) (fun e=>by have h2:=m8 j e;have h3:=G.row.base j z;omega)) j6)
 obtain⟨A6,c6,p5⟩:=r1.b3;rw[lT,List.length_singleton] at p5;subst p5;have f0:=(P.cell (p:=(g,5)) g9).trans ((u.o.cell (p:=(g,5)) g9).symm.trans d5);have f1:=(P.cell (p:=(a,0)) T).trans ((u.o.cell (p:=(a,0)) T).symm.trans Z);have f2:=(P.cell (p:=(a,1)) T).trans ((u.o.cell (p:=(a,1)) T).symm.trans e1);have fM:=R.o.b1 ((P.block m i4).trans (u.o.block m i4).symm);have B7:=J r1;have p9:=J P;have B8:=J (l6.o (.slice t r x));refine y.out _ _ ⟨f0,fM,f1,f2⟩ (fun d=>?_);try simp only[zF,zG,zC,zD,zE]
 refine zV 24 (k:=fun K y=>?_);simp only[zA,zB];go_simp;refine y.out _ _ ⟨f0,fM,f1,f2⟩ (fun d=>?_);try simp only[zF,zG,zC,zD,zE]
 refine wpAnyH_done κ ?_ _;go_wp2;go_roundw
 case rel=>exact⟨k+1,_,O,by go_num,B7,t9,B8,p9⟩
 case measure=>simp[intOf];omega
end
end Go.Proofs.YtgeofijddhflaaaGreatDoor
