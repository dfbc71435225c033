/- The program's disk: Arm, Cut. Condition: the disk is a call's own. -/
import Derived.Test.YtgeofijddhflaaaGreatDoorPDiskApp
import Derived.Test.YtgeofijddhflaaaGreatDoorPKeepApp
set_option linter.unusedVariables false
set_option linter.unusedSimpArgs false
set_option maxHeartbeats 8000000
set_option maxRecDepth 100000
namespace Go.Proofs.YtgeofijddhflaaaGreatDoor
open Go.RowKit Go.Maps Go.Sort Oct
theorem eR.cutCap{w:World}{base:Nat}{A:Option Addr}{n c m:Nat}{l:List UInt8}(h:eR w base (.slice A n c) l)(x:m<=l):eR w base (.slice A m m) (l.take m):=by
 obtain⟨p,q,o,r,s,f⟩:=h.b3;injection o with e1 e2 e3
 subst e1 e3;have j:(l.take m).length=m:=by rw[lV];omega
 refine⟨⟨A,m,by rw[j],O,O,by unfold cells;rw[List.map_take];exact Rd.take f m⟩,?_⟩;rcases h.row with k|⟨e,y,d,a,b,g,i,t,u,v⟩
 injection k with r1 r2 r3
 subst r1 r3;have:m=0:=O;subst this;exact .inl rfl;injection b with r1 r2 r3
 subst r1 r3;exact .inr ⟨e,m,m,a,rfl,g,i,O,lR _,O⟩
def fT.arm2(p:fT)(a b:Int):fT:=⟨p.off,decide (0<=a),a,b⟩
section
variable{w w1 w2 w' :World}{base g m:Nat}{p p' :fT}{room:Int}{es:List (Nm×FE)}
theorem bN3(h:aV w base g m p room es)(a b:Int)(l:I6 a)(j:I6 b):
  Calls Tryz.prog 21 #[(g,0),a,b] w fun e w' =>(∃v,e=.returned v)∧aV w' base g m (p.arm2 a b) room es∧Fr (aI g m es) w w' :=by
 have f:=h.b4;obtain⟨⟨s,t,u,x,y,z⟩,A,B,C,D⟩:=gL f;obtain⟨i,c⟩:=eX ((((w.setCell (g,1) (.bool (decide (0<=a)))).setCell (g,2) a).setCell (g,3) b));have d:w.grownBy i (some g):=by rw[c];exact aF (aF (aA w g 1 _) (aA _ g 2 _) (.inl rfl)) (aA _ g 3 _) (.inl rfl)
 have n:Hq (aV i base g m (p.arm2 a b) room es):=J (h.j6 d (by rw[c];exact aS.b8 (aS.b8 (aS.b8 f 1 _) 2 _) 3 _) ⟨l,j,h.num.2.2⟩);have q:Hq (Fr (aI g m es) w i):=J (Fr.e2 d (fun k e=>by injection e with e;exact .inl e.symm));have r:=J c;clear h f d l j c;go_enter Tryz.func21,Tryz.ntmps21;go_wp2_with fail;rw[<-r.o];go_end0;exact⟨⟨_,rfl⟩,n.o,q.o⟩
theorem bE5(h:aV w base g m p room es){n:Nm}{j:FE}(H:aX n es=some j)(k:Nat)(Z:k<=j.f.b)(s u:Nat)(I:aS w s 81 #[(j.b4,0)])(L:aS w u 3 #[k]):
  Calls Tryz.prog 108 #[(s,0),(u,0)] w fun e w' =>e=.returned (.tuple #[])∧bG w base g m es ⟨p,room,aW n ⟨j.f.b.take k,min j.f.b5 k⟩ (bI FE.f es)⟩ w' :=by
 have B:=bY H;have d:=h.file _ B;obtain⟨A,c,D,hl,hc,T⟩:=(h.e9 _ B).b3;have Y:=h.b5 _ B;simp only at d D hl T Y;have l:=I.c 0;have q:=L.c 0;have e3:w.cell? (j.b4,0)=some (.slice A j.f.b c):=by rw[<-D];exact d.cell 0
 have r:=d.c 1;have f3:=d.a6 0;have f4:=d.a6 1;have G:=eR.cutCap (by rw[<-D];exact h.e9 _ B) Z;have P:∀E,bG w base g m es ⟨p,room,aW n ⟨j.f.b.take k,min j.f.b5 k⟩ (bI FE.f es)⟩ (((w.drewN E).setCell (j.b4,0) (.slice A k k)).setCell (j.b4,1) (.int .i64 (min j.f.b5 k:Nat))):=fun E=>by
  have C:=aF (aA (w.drewN E) j.b4 0 (.slice A k k)) (aA ((w.drewN E).setCell (j.b4,0) (.slice A k k)) j.b4 1 (.int .i64 (min j.f.b5 k:Nat))) (.inl rfl);refine bG.j0 h (Fr.refl _ _) H (.slice A k k) ⟨j.f.b.take k,min j.f.b5 k⟩ σ (aS.b8 (aS.b8 (d.drewN E) 0 _) 1 _) (G.kept (fun i z=>?_) σ) (by simp only[lV];omega) (fun i z=>.inl (by rw[D];cases A<;>exact z)) (fun i z M _=>?_) ⟨C.os,C.tape,C.output⟩;refine C.block i (G.row.lt i z) (fun e=>?_);injection e with e
  exact cW G d δ (by rw[z,e]);exact C.block i z (fun e=>M (by injection e))
 have N:=J P;have j9:k<=c:=O;have Q:=J (And.intro (blk_ne d I δ) (blk_ne d L δ));clear h I L H B d D T G P Y;go_enter Tryz.func108,Tryz.ntmps108;go_wp2_with fail;have R:bG w base g m es ⟨p,room,aW n ⟨j.f.b.take k,min j.f.b5 k⟩ (bI FE.f es)⟩ ((w.drew.setCell (j.b4,0) (.slice A k k)).setCell (j.b4,1) (.int .i64 (min j.f.b5 k:Nat))):=N.o 1;have F:=J R;have U:((j.b4,0):Addr)≠⟨j.b4,1,none⟩:=by intro e;injection e with _ e;omega
 have V:((j.b4,0):Addr)≠⟨s,0,none⟩:=by intro e;injection e with e;exact Q.o.1 e
 have X:((j.b4,0):Addr)≠⟨u,0,none⟩:=by intro e;injection e with e;exact Q.o.2 e
 have v:(w.drew.setCell (j.b4,0) (.slice A k k)).cell? (s,0)=some (.pointer (j.b4,0)):=by rw[World.cell?_setCell_other (h:=V)];exact l
 have x:(w.drew.setCell (j.b4,0) (.slice A k k)).cell? (u,0)=some (.int .i64 k):=by rw[World.cell?_setCell_other (h:=X)];exact q
 have y:(w.drew.setCell (j.b4,0) (.slice A k k)).cell? (j.b4,1)=some (.int .i64 j.f.b5):=by rw[World.cell?_setCell_other (h:=U)];exact r
 clear R U V X N;by_cases hms:(j.f.b5:Int)<=(k:Int)
 ·refine bW 20 κ (S:=fun W=>W.cell? ⟨s,0,none⟩=some (.pointer (some ⟨j.b4,0,none⟩))∧W.cell? ⟨u,0,none⟩=some (.int .i64 k)∧W.cell? ⟨j.b4,1,none⟩=some (.int .i64 j.f.b5)∧True) ⟨l,q,r,trivial⟩ (fun a=>?_)
  refine zU 0 (k:=zU 1 (k:=zU 2 (k:=zU 3 (k:=zU 4 (k:=zU 6 (k:=zU 7 (k:=zU 9 (k:=zU 10 (k:=zU 11 (k:=zU 12 (k:=zU 13 (k:=?_))))))))))));refine zU 14 (k:=?_);simp only[zA,zB,zF,zG,zC,zD,zE];refine zW 5 (k:=fun K d=>?_);simp only[zA,zB];go_simp;refine d.out _ _ ⟨l,q,r,trivial⟩ (fun a=>?_);clear d K;try simp only[zF,zG,zC,zD,zE]
  refine zW 8 (k:=fun K d=>?_);simp only[zA,zB];go_simp;refine d.out _ _ ⟨l,q,r,trivial⟩ (fun a=>?_);clear d K;try simp only[zF,zG,zC,zD,zE]
  refine zW 15 (k:=fun K d=>?_);simp only[zA,zB];go_simp;refine d.out _ _ ⟨l,q,r,trivial⟩ (fun a=>?_);clear d K;try simp only[zF,zG,zC,zD,zE]
  refine zW 16 (k:=fun K d=>?_);simp only[zA,zB];go_simp;refine d.out _ _ ⟨l,q,r,trivial⟩ (fun a=>?_);clear d K;try simp only[zF,zG,zC,zD,zE]
  refine zW 17 (k:=fun K d=>?_);simp only[zA,zB];go_simp;refine d.out _ _ ⟨v,x,y,trivial⟩ (fun a=>?_);clear d K;try simp only[zF,zG,zC,zD,zE]
  refine zW 18 (k:=fun K d=>?_);simp only[zA,zB];go_simp;refine d.out _ _ ⟨v,x,y,trivial⟩ (fun a=>?_);clear d K;try simp only[zF,zG,zC,zD,zE]
  refine zW 19 (k:=fun K d=>?_);simp only[zA,zB];go_simp;refine d.out _ _ ⟨v,x,y,trivial⟩ (fun a=>?_);clear d K;try simp only[zF,zG,zC,zD,zE]
  refine dI (t:=20) (by simp) (by kernel_rfl) (by kernel_rfl) (fun K d=>?_);simp only[zA,zB];go_simp;refine d.out _ _ ?_;clear d K a;rw[show min j.f.b5 k=j.f.b5 by omega] at F;go_wp2;go_end0;refine⟨rfl,?_⟩;rw[show min j.f.b5 k=j.f.b5 by omega];try rw[show min (j.f.b5:Int) (k:Int)=(j.f.b5:Int) by omega]
  exact F.o
 refine bW 20 κ (S:=fun W=>W.cell? ⟨s,0,none⟩=some (.pointer (some ⟨j.b4,0,none⟩))∧W.cell? ⟨u,0,none⟩=some (.int .i64 k)∧W.cell? ⟨j.b4,1,none⟩=some (.int .i64 j.f.b5)∧True) ⟨l,q,r,trivial⟩ (fun a=>?_);refine zU 0 (k:=zU 1 (k:=zU 2 (k:=zU 3 (k:=zU 4 (k:=zU 6 (k:=zU 7 (k:=zU 9 (k:=zU 10 (k:=zU 11 (k:=zU 12 (k:=zU 13 (k:=?_))))))))))));refine zU 14 (k:=?_);simp only[zA,zB,zF,zG,zC,zD,zE];refine zW 5 (k:=fun K d=>?_);simp only[zA,zB];go_simp;refine d.out _ _ ⟨l,q,r,trivial⟩ (fun a=>?_);clear d K;try simp only[zF,zG,zC,zD,zE]
 refine zW 8 (k:=fun K d=>?_);simp only[zA,zB];go_simp;refine d.out _ _ ⟨l,q,r,trivial⟩ (fun a=>?_);clear d K;try simp only[zF,zG,zC,zD,zE]
 refine zW 15 (k:=fun K d=>?_);simp only[zA,zB];go_simp;refine d.out _ _ ⟨l,q,r,trivial⟩ (fun a=>?_);clear d K;try simp only[zF,zG,zC,zD,zE]
 refine zW 16 (k:=fun K d=>?_);simp only[zA,zB];go_simp;refine d.out _ _ ⟨l,q,r,trivial⟩ (fun a=>?_);clear d K;try simp only[zF,zG,zC,zD,zE]
 refine zW 17 (k:=fun K d=>?_);simp only[zA,zB];go_simp;refine d.out _ _ ⟨v,x,y,trivial⟩ (fun a=>?_);clear d K;try simp only[zF,zG,zC,zD,zE]
 refine zW 18 (k:=fun K d=>?_);simp only[zA,zB];go_simp;refine d.out _ _ ⟨v,x,y,trivial⟩ (fun a=>?_);clear d K;try simp only[zF,zG,zC,zD,zE]
 refine zW 19 (k:=fun K d=>?_);simp only[zA,zB];go_simp;refine d.out _ _ ⟨v,x,y,trivial⟩ (fun a=>?_);clear d K;try simp only[zF,zG,zC,zD,zE]
 refine dI (t:=20) (by simp) (by kernel_rfl) (by kernel_rfl) (fun K d=>?_);simp only[zA,zB];go_simp;refine d.out _ _ ?_;clear d K a;rw[show min j.f.b5 k=k by omega] at F;go_wp2;go_end0;refine⟨rfl,?_⟩;rw[show min j.f.b5 k=k by omega];try rw[show min (j.f.b5:Int) (k:Int)=(k:Int) by omega]
 exact F.o
theorem bL3(h:aV w base g m p room es){n:Nm}{u:FE}(G:aX n es=some u)(k:Nat)(C:k<=u.f.b)(y z:Nat)(H:aS w y 81 #[(u.b4,0)])(I:aS w z 3 #[k])(fs:List (Nm×FD))(A:fs=aW n ⟨u.f.b.take k,min u.f.b5 k⟩ (bI FE.f es)):
  Calls Tryz.prog 107 #[(g,0),.func (.func 108) #[] #[(y,0),(z,0)]] w fun e w' =>e=.returned (.int .i64 ((bH p room es).e0 fs).1)∧bG w base g m es ((bH p room es).e0 fs).2 w' :=by
 have hcut:=J (qD h);have x:=J (And.intro h (And.intro H I));obtain⟨c,j⟩:=eX p.cut;obtain⟨F,a,p'⟩:=c;rw[<-j] at hcut;have r:∀w1,aV w1 base g m p' room es->Fr (aI g m es) w w1->Hq (Calls Tryz.prog 108 #[(y,0),(z,0)] w1 fun e w' =>e=.returned (.tuple #[])∧bG w base g m es ⟨p',room,fs⟩ w'):=fun w1 i d=>J (by
  obtain⟨h,D,E⟩:=x.o;refine(bE5 i G k C y z (d.h4 D (h.e3 D δ δ δ)) (d.h4 E (h.e3 E δ δ δ))).mono ?_;rintro e w' ⟨rfl,K⟩;refine⟨rfl,?_⟩;rw[A];exact bG.step d (fun k C=>.inl C) K)
 cases F with
 |false=>
  have e:(bH p room es).e0 fs=(0,⟨p',room,fs⟩):=by unfold DkD.e0;rw[<-j];simp
  rw[e];clear h e j x A;go_enter Tryz.func107,Tryz.ntmps107;go_wp2_with fail;refine hcut.o.mono ?_;rintro e w1 ⟨rfl,i,d,t⟩;have s:=r w1 i d;clear i d t hcut r;go_wp2_with fail;refine s.o.mono ?_;rintro e w2 ⟨rfl,v⟩;have q:=J v;clear v s;go_wp2;go_ret;exact⟨rfl,q.o⟩
 |true=>
  by_cases l:a %2=0
  ·have e:(bH p room es).e0 fs=(50,bH p' room es):=by unfold DkD.e0;rw[<-j];simp[l]
   rw[e];have B:=(aH6 a).2 l;have L:(a.tmod 2 !=0)=false:=by simp[B]
   clear h e j x r l A;go_enter Tryz.func107,Tryz.ntmps107;go_wp2_with fail;refine hcut.o.mono ?_;rintro e w1 ⟨rfl,i,d,t⟩;have q:=J (bG.mk' i d);clear i d t hcut;go_wp2;go_ret;exact⟨rfl,q.o⟩
  have e:(bH p room es).e0 fs=(50,⟨p',room,fs⟩):=by unfold DkD.e0;rw[<-j];simp[l]
  rw[e];have B:¬a.tmod 2=0:=fun e=>l ((aH6 a).1 e)
  have L:(a.tmod 2 !=0)=true:=by simpa using B
  clear h e j x l A;go_enter Tryz.func107,Tryz.ntmps107;go_wp2_with fail;refine hcut.o.mono ?_;rintro e w1 ⟨rfl,i,d,t⟩;have s:=r w1 i d;clear i d t hcut r;go_wp2_with fail;refine s.o.mono ?_;rintro e w2 ⟨rfl,v⟩;have q:=J v;clear v s;go_wp2;go_ret;exact⟨rfl,q.o⟩
theorem uO(h:aV w base g m p room es)(s:ByteArray)(M:s.size<=140737488351232)(z:Int)(hz:I6 z):
  Calls Tryz.prog 55 #[(g,0),.string s,z] w fun e w' =>e=.returned (.int .i64 ((bH p room es).e6 s.data.toList z).1)∧bG w base g m es ((bH p room es).e6 s.data.toList z).2 w' :=by
 have t:=(lS w w).alloc (lR _) (.cells #[z] 3);have i:=h.a1 t;have r:=aS.new w 3 #[z];have C:=J (Fr.b9 (aI g m es) t);obtain⟨d,q⟩:=eX (w.alloc (.cells #[z] 3));have l6:w.heap.size<d:=by rw[q];simp
 rw[<-q] at i r C;have I:=J q;by_cases x:p.off=true
 ·have e:(bH p room es).e6 s.data.toList z=(50,bH p room es):=by unfold DkD.e6;rw[if_pos x]
  rw[e];have n:=J (oF i s M x);have l:=J (bG.mk' (i.a1 ((lS d d).alloc (lR _) (.cells #[.pointer none] 81))) (C.o.trans (Fr.b9 (aI g m es) ((lS d d).alloc (lR _) (.cells #[.pointer none] 81))) (fun j y=>.inl y)));clear h e i t r q;go_enter Tryz.func55,Tryz.ntmps55;go_wp2_with fail;rw[<-I.o];refine n.o.mono ?_;rintro e w' ⟨rfl,rfl⟩;go_wp2;go_ret;exact⟨rfl,l.o⟩
 have W:p.off=false:=by simpa using x
 cases hg:aX s.data.toList es with
 |none=>
  have e:(bH p room es).e6 s.data.toList z=(51,bH p room es):=by unfold DkD.e6;rw[if_neg x];simp only[pA hg]
  rw[e];have n:=J (oG i s M hg W);have l:=J (bG.mk' (i.a1 ((lS d d).alloc (lR _) (.cells #[.pointer none] 81))) (C.o.trans (Fr.b9 (aI g m es) ((lS d d).alloc (lR _) (.cells #[.pointer none] 81))) (fun j y=>.inl y)));clear h e i t r q;go_enter Tryz.func55,Tryz.ntmps55;go_wp2_with fail;rw[<-I.o];refine n.o.mono ?_;rintro e w' ⟨rfl,rfl⟩;go_wp2;go_ret;exact⟨rfl,l.o⟩
 |some fe=>
  have n:=J (mV i s M hg W);have E:=bY hg;have u:=(lS d d).alloc (lR _) (.cells #[(fe.b4,0)] 81);obtain⟨P,B⟩:=eX (d.alloc (.cells #[(fe.b4,0)] 81));have L:=kN B;rw[<-B] at u;have v:=i.a1 u;have K:=C.o.trans (Fr.b9 (aI g m es) u) (fun j y=>.inl y);have D:=r.a1 u O;have G:=v.file _ E;obtain⟨A,c,H,Z,hc,U⟩:=(v.e9 _ E).b3;simp only at G H Z;have z0:=D.c 0;have z1:=L.c 0;have z2:P.cell? (fe.b4,0)=some (.slice A fe.f.b c):=by rw[<-H];exact G.cell 0
  have V:=J B;by_cases a:z<0∨(fe.f.b:Int)<z
  ·have e:(bH p room es).e6 s.data.toList z=(1,bH p room es):=by unfold DkD.e6;rw[if_neg x];simp only[iC hg];rw[if_pos a]
   rw[e];have l:=J (fun nq=>(show bG w base g m es (bH p room es) (P.drewN nq) from bG.mk' (v.e7 nq) (K.e7 nq)));clear h e i t r q u L v K D G H U B hg E;by_cases F:z<0;have T:=decide_eq_true F;rotate_left;have X:(fe.f.b:Int)<z:=O;have T:=decide_eq_false F
   all_goals
    clear a;go_enter Tryz.func55,Tryz.ntmps55;go_wp2_with fail;rw[<-I.o];refine n.o.mono ?_;rintro e w' ⟨rfl,rfl⟩;go_wp2_with fail;rw[<-V.o];go_quiet (fail);go_wp2;go_ret;exact⟨rfl,l.o _⟩
  have F:¬z<0:=fun h=>a (.inl h)
  have X:¬(fe.f.b:Int)<z:=fun h=>a (.inr h)
  obtain⟨k,rfl⟩:∃k:Nat,z=(k:Int):=⟨z.toNat,O⟩
  have e:(bH p room es).e6 s.data.toList (k:Int)=(bH p room es).e0 (aW s.data.toList ⟨fe.f.b.take k,min fe.f.b5 k⟩ (bI FE.f es)):=by unfold DkD.e6;rw[if_neg x];simp only[iC hg];rw[if_neg a];rfl
  rw[e];have T:=decide_eq_false F;have N:∀nq,Hq (Calls Tryz.prog 107 #[(g,0),.func (.func 108) #[] #[(d,0),(w,0)]] (P.drewN nq) fun e w' =>e=.returned (.int .i64 ((bH p room es).e0 (aW s.data.toList ⟨fe.f.b.take k,min fe.f.b5 k⟩ (bI FE.f es))).1)∧bG w base g m es ((bH p room es).e0 (aW s.data.toList ⟨fe.f.b.take k,min fe.f.b5 k⟩ (bI FE.f es))).2 w'):=fun nq=>J ((bL3 (v.e7 nq) hg k O d w (L.drewN nq) (D.drewN nq) _ rfl).mono (fun e w' ⟨h3,h4⟩=>⟨h3,bG.step (K.e7 nq) (fun k Y=>.inl Y) h4⟩))
  obtain⟨R,Q⟩:=eX ((bH p room es).e0 (aW s.data.toList ⟨fe.f.b.take k,min fe.f.b5 k⟩ (bI FE.f es)));rw[<-Q] at N⊢;clear h e i t r q u L v K D G H U B hg E Q a;go_enter Tryz.func55,Tryz.ntmps55;go_wp2_with fail;rw[<-I.o];refine n.o.mono ?_;rintro e w' ⟨rfl,rfl⟩;go_wp2_with fail;rw[<-V.o];go_quiet (fail);go_wp2_with fail;refine(N _).o.mono ?_;rintro e w1 ⟨rfl,S⟩;have l:=J S;clear S N n;go_wp2;go_ret;exact⟨rfl,l.o⟩
end
end Go.Proofs.YtgeofijddhflaaaGreatDoor
