/- pavanelaw22.JournalOpens answers true. Condition: the arguments can be read; the library's variables stand as laid. -/
import Derived.Test.YtgeofijddhflaaaGreatDoorQJnSave
set_option maxHeartbeats 8000000
set_option maxRecDepth 100000
namespace Go.Proofs.YtgeofijddhflaaaGreatDoor
section
open Go.RowKit Go.Maps Oct
theorem bK4{w:World}{base g m:Nat}{p:PWD}{room:Int}{es:List (Nm×FE)}(h:aB4 w base g m p room es){L:Nat}(U8:JDk L (aD6 p room es))(hL:L<=1000000000)(C1:base<=w.heap.size)(hE:∀w',Below base w w' ->Tab w' ∧dA6 w'):
  Calls Tryz.prog 14 #[.pointer (some ⟨g,0,none⟩)] w fun e w' =>cY3 w base g m es (aI1 (aD6 p room es)) e w' :=by
 have HH:=qZ h;have G3:=qZ U8;have HE:=qZ hE;have l9:=qZ (fun k hk=>(h.lt k hk).1);obtain⟨w0,J7⟩:∃W,W=w.alloc (.cells #[.pointer (some ⟨g,0,none⟩)] 26):=⟨_,rfl⟩
 have Q2:Below w.heap.size w w0:=by rw[J7];exact(lS _ w).alloc (lR _) _
 have P6:Blk w0 w.heap.size 26 #[.pointer (some ⟨g,0,none⟩)]:=by rw[J7];exact Blk.new w _ _
 have S5:w0.heap.size=w.heap.size+1:=by rw[J7]<;>simp
 have c0:w0.cell? ⟨w.heap.size,0,none⟩=some (.pointer (some ⟨g,0,none⟩)):=P6.cell 0;have I0:=qZ (dK9 (h.below Q2));obtain⟨d0,L9⟩:∃d,d=aD6 p room es:=⟨_,rfl⟩
 have Y0:p.off=d0.pw.off:=by rw[L9]<;>rfl
 rw[Y0] at I0;rw[<-L9];rw[<-L9] at G3;have Y7:=qZ J7;have S2:=qZ P6;have N0:=qZ Q2;have D0:=qZ L9;clear h U8 hE P6 Q2 J7 L9 Y0;go_enter Tryz.func14,Tryz.ntmps14
 go_upto_region 1 with fail
 rw[<-Y7.out];by_cases ho:d0.pw.off=true
 ·have HO:=qZ (bB4 ho)
  rw[ho] at I0;clear ho;go_wp2_with fail
  refine I0.out.mono ?_;rintro e w1 ⟨rfl,rfl⟩;go_wp2_with fail
  go_ret2
  rw[HO.out];exact⟨es,by rw[D0.out];exact HH.out.below N0.out,by rw[D0.out]<;>rfl,Fr.of_below _ N0.out,fun k hk=>.inl hk,rfl⟩
 have M6:d0.pw.off=false:=by simpa using ho
 have HO:=qZ (bH6 M6);have J6:=qZ M6;rw[M6] at I0;obtain⟨w1,I9⟩:∃W,W=w0.alloc (.cells #[.int .i64 0,.int .i64 0,.slice none 0 0,.pointer (some ⟨g,0,none⟩),.int .i64 0] 53):=⟨_,rfl⟩
 have R5:Below w0.heap.size w0 w1:=by rw[I9];exact(lS _ w0).alloc (lR _) _
 have O3:Blk w1 w0.heap.size 53 #[.int .i64 0,.int .i64 0,.slice none 0 0,.pointer (some ⟨g,0,none⟩),.int .i64 0]:=by rw[I9];exact Blk.new w0 _ _
 have aH:w1.heap.size=w.heap.size+1+1:=by rw[I9,<-S5]<;>simp
 rw[S5] at O3;have P1:OpS w base g m es w.heap.size (w.heap.size+1) d0 0 0 (.slice none 0 0) 0 w1 es:=by
  have L7:=N0.out.trans (R5.mono (by omega));refine⟨by rw[D0.out];exact HH.out.below L7,by rw[D0.out]<;>rfl,O3,S2.out.below R5 S2.out.lt,Fr.of_below _ L7,fun k hk=>.inl hk,lR _,by omega⟩
 have Q7:=qZ P1;have U1:=qZ I9;have x8:=qZ (bB7 P1.disk (by have:=bL1 (pw:=p) (room:=room) (es:=es) (L:=L) (by rw[<-D0.out];exact G3.out);omega));clear ho M6 I9 R5 O3 P1;go_upto_region 3 with(refine I0.out.mono ?_;rintro e w1 ⟨rfl,rfl⟩)
 go_upto_region 4 with fail
 rw[<-U1.out];obtain⟨B,hB⟩:∃B:Bool,B=true↔(aP6 d0).1≠0:=by
  by_cases hh:(aP6 d0).1≠0
  ·exact⟨true,by simp[hh]⟩
  exact⟨false,by simpa using hh⟩
 have t9:=qZ hB;clear hB;go_cut [32] from 22 to 32 (fun c wx=>∃B6,c=.bool B∧Hid (OpS w base g m es w.heap.size (w.heap.size+1) (aP6 d0).2 0 0 (.slice none 0 0) (aP6 d0).1 wx B6))
 case first=>
  have k0:w1.cell? ⟨w.heap.size,0,none⟩=some (.pointer (some ⟨g,0,none⟩)):=Q7.out.bx.cell 0;go_wp2_with fail
  refine x8.out.mono ?_;rintro e w2 ⟨v2,rfl,T0,p8⟩;obtain⟨A2,c2,rfl,q1,q2,q3⟩:=T0.shape;rw[lU] at q1⊢;have G6:=qZ (Q7.out.below p8);have bR:es.length<=1000000000:=by have:=(bL1 (pw:=p) (room:=room) (es:=es) (L:=L) (by rw[<-D0.out];exact G3.out)).2;omega
  have x4:=qZ (bR6 A2 (es.map (·.1)) c2 aA9 w2 (by rw[List.map_map];exact q3) (by rw[lU];omega));rw[lU] at x4;have K4:(es.map (·.1)).any (fun n=>n==aA9)=d0.fs.any fun q=>q.1==aA9:=by
   rw[D0.out];show _=(sec FE.f es).any _
   unfold sec;rw[List.any_map,List.any_map]
   rfl
  rw[K4] at x4;have bS:=p8.size;clear T0 p8 q3 x8 K4 k0;change Hid (Calls Tryz.prog _ #[.slice A2 es.length c2,.string ⟨#[109,101,116,97,46,110,101,119]⟩] w2 _) at x4;by_cases hA:(d0.fs.any fun q=>q.1==aA9)=true
  rotate_left
  ·have o4:aP6 d0=(0,d0):=by unfold aP6;rw[if_neg hA]
   have E9:(d0.fs.any fun q=>q.1==aA9)=false:=eq_false_of_ne_true hA;rw[E9] at x4;have Z2:=qZ o4;clear hA E9 o4;go_wp2_with fail
   refine x4.out.mono ?_;rintro e w3 ⟨rfl,rfl⟩;go_wp2_with fail
   go_meet;refine⟨es,congrArg Value.bool ?_,qZ (by rw[Z2.out];exact G6.out)⟩;cases B with
   |true=>exact absurd (by rw[Z2.out]) (t9.out.1 rfl)
   |false=>rfl
  have o4:aP6 d0=d0.remove aA9:=by unfold aP6;rw[if_pos hA]
  rw[hA] at x4;have V9:=qZ o4;clear hA o4;go_wp2_with fail
  refine x4.out.mono ?_;rintro e w3 ⟨rfl,rfl⟩;go_wp2_with fail
  refine(show Calls _ _ _ w2 _ from bY5 (gj:=w.heap.size+1) (g:=g) aA9 (by decide) w2).mono ?_;rintro e w3 ⟨v3,rfl,B1,⟨F3,f6,rfl⟩,_,g8⟩;have O4:=B1.size;have t4:Below w2.heap.size w2 (w3.alloc (.cells #[.func (.func F3) #[] f6] 98)):=B1.alloc B1.size _;have L6:=G6.out.below t4;have d9:RdF (w3.alloc (.cells #[.func (.func F3) #[] f6] 98)) (fun k=>w2.heap.size<=k∧k<w3.heap.size+1) (some ⟨w3.heap.size,0,none⟩) [.func (.func F3) #[] f6]:=fun _=>⟨w3.heap.size,0,rfl,⟨O4,by omega⟩,by simp,fun j u hu=>by
   rw[Nat.zero_add];exact aL6 (Blk.new w3 98 #[.func (.func F3) #[] f6]) j u hu⟩
  have U3:∀k (h:k<[Value.func (.func F3) #[] f6].length) (h' :k<[aD3.rm aA9].length),aK3 (w3.alloc (.cells #[.func (.func F3) #[] f6] 98)) (fun k=>w2.heap.size<=k∧k<w3.heap.size+1) (w.heap.size+1) g [Value.func (.func F3) #[] f6][k] [aD3.rm aA9][k]:=fun k h h' =>by
   obtain rfl:k=0:=by simp at h;exact h
   have J4:=(lS w3.heap.size w3).alloc (lR _) (.cells #[.func (.func F3) #[] f6] 98);exact((g8 (fun k=>w2.heap.size<=k∧k<w3.heap.size) (fun k h1 h2=>⟨h1,h2⟩)).keep J4.size (fun k hk=>J4.block k hk.2)).mono (fun k hk=>⟨hk.1,by omega⟩)
  have m4:=qZ (aU7 L6.disk L6.jb (by omega) (some ⟨w3.heap.size,0,none⟩) [.func (.func F3) #[] f6] [.rm aA9] 1 d9 rfl U3 (fun k hk=>⟨by simp;omega,fun hf=>by have:=(G6.out.disk.lt k hf).2;omega,by have:=G6.out.jb.lt;omega⟩) (fun w' hb' =>(HE.out w' ((L6.baseB l9.out C1).trans hb')).1) (L:=L) (by rw[DkD.eta' d0 G6.out.fs];exact G3.out) (by show L+(0+0)<=_;omega) (by simp));rw[DkD.eta' d0 G6.out.fs] at m4;have J0:aI5 [.rm aA9] d0=aP6 d0:=by
   rw[V9.out];exact bR3 (.rm aA9) d0
  rw[J0] at m4;have U0:=qZ L6;clear g8 B1 t4 L6 d9 U3 J0 V9 x4;go_wp2_with fail
  refine m4.out.mono ?_;rintro e w4 ⟨rfl,M1⟩;obtain⟨es2,Y3,_,_⟩:=U0.out.acts M1;have aX:=qZ Y3;clear Y3 M1 m4 U0;go_wp2_with fail
  go_meet;refine⟨es2,congrArg Value.bool ?_,aX⟩;cases B with
  |true=>exact bne_iff_ne.2 (t9.out.1 rfl)
  |false=>
   rw[bne_eq_false_iff_eq];exact Classical.byContradiction fun hh=>by have:=t9.out.2 hh;cases this
 obtain⟨B6,rfl,N8⟩:=hcut;clear Q7 U1 I0 x8 c0 S2 N0 Y7 S5 aH;cases B with
 |true=>
  have T6:=t9.out.1 rfl;have hr:aI1 d0=((aP6 d0).1,none,(aP6 d0).2):=by rw[HO.out,if_neg T6]
  have HR:=qZ hr;obtain⟨rc,E6⟩:∃x,x=(aP6 d0).1:=⟨_,rfl⟩
  have j4:wc.cell? ⟨w.heap.size+1,4,none⟩=some (.int .i64 rc):=by rw[E6];exact N8.out.jb.cell 4
  have Z4:=qZ E6;clear T6 hr E6;go_wp2_with fail
  go_quiet (fail);go_wp2_with fail
  go_ret2
  exact(N8.out.below (aA3 (lS _ wc) _)).endNone rc (by rw[Z4.out];exact HR.out)
 |false=>
  have h0:(aP6 d0).1=0:=Classical.byContradiction fun hh=>by have:=t9.out.2 hh;cases this
  have hr:aI1 d0=aN9 (aP6 d0).2:=by rw[HO.out,if_pos h0]
  have HR:=qZ hr;have C5:=qZ (cG1 J6.out h0);have l5:=qZ (cC0 G3.out);have E9:=N8.out;rw[h0] at E9;have p0:=qZ E9;obtain⟨d1,U9⟩:∃x,x=(aP6 d0).2:=⟨_,rfl⟩
  rw[<-U9] at HR C5 l5 p0;clear h0 hr E9 U9 N8 t9 HO G3 J6;have k0:wc.cell? ⟨w.heap.size,0,none⟩=some (.pointer (some ⟨g,0,none⟩)):=p0.out.bx.cell 0;have D6:=DkD.eta' d1 p0.out.fs;have S3:=bL1 (pw:=d1.pw) (room:=d1.room) (es:=B6) (L:=L) (by rw[D6];exact l5.out);have P7:=qZ (cV8 p0.out.disk (by omega) (fun q hq=>by
   have:=l5.out.nm (q.1,q.2.f) (by rw[<-p0.out.fs];exact List.mem_map.2 ⟨q,hq,rfl⟩);exact this) (fun q hq=>by have:=S3.1 q hq;omega) C5.out (HE.out wc (p0.out.baseB l9.out C1)).2)
  rw[D6] at P7;have M5:=qZ S3;clear D6 S3;go_wp2_with fail
  refine P7.out.mono ?_;rintro e w3 ⟨B1,v3,rfl,T4⟩;have m6:=qZ (p0.out.below B1);have O4:=B1.size;obtain⟨lo,L5⟩:∃n,n=wc.heap.size:=⟨_,rfl⟩
  have bH:w.heap.size+1<lo:=by rw[L5];exact p0.out.jb.lt
  have O0:=qZ (show∀k,aB1 g m B6 k->k<lo from fun k hk=>by rw[L5];exact(p0.out.disk.lt k hk).2);have aN:lo<=w3.heap.size:=by rw[L5];exact O4
  have K6:=qZ L5;clear L5;have I3:=qZ T4;have p9:=qZ (cT0 m6.out.disk (fun q hq=>by have:=M5.out.1 q hq;omega) m6.out.jb ⟨rfl,rfl⟩);rw[DkD.eta' d1 m6.out.fs] at p9;clear B1 T4 P7 p0 k0;obtain⟨M,hM⟩:∃M,M=aF3 d1:=⟨_,rfl⟩
  obtain⟨LJ,N2⟩:∃x,x=aM4 d1:=⟨_,rfl⟩
  have y8:aN9 d1=cK1 M LJ d1:=by rw[hM,N2];exact aT3 d1
  have i6:=qZ y8;have L1:∀l,LJ=some l->l.length<=d1.fs.length∧(∀y∈l,aZ8 y.1∧(1<=y.1.k∧y.1.k<=999999999)∧(y.1.ends=[]∧y.1.l=[]∨bK7 y.1∧1<=y.1.first)∧(∀e∈y.1.l,e.b.length<=65535)∧y.1.l.length<=1000000000)∧aL1 l=true:=fun l hl=>cH1 (d:=d1) (by rw[<-N2];exact hl) (fun q hq=>by
   rw[<-m6.out.fs] at hq;obtain⟨x,hx,rfl⟩:=List.mem_map.1 hq;have:=M5.out.1 x hx;show x.2.f.b.length<=_
   omega)
  have q8:=qZ L1;have aU:=qZ (show∀t v,M=some (t,v)->(-9223372036854775808<=t∧t<=9223372036854775807)∧(-9223372036854775808<=v∧v<=9223372036854775807) from fun t v e=>bC7 (d:=d1) (by rw[<-hM];exact e));rw[<-hM] at p9;rw[<-N2] at I3⊢;clear hM N2 y8 L1;rcases M with _|⟨mt,mv⟩
  ·clear I3 q8
   go_wp2_with fail
   refine p9.out.mono ?_;rintro e w4 ⟨rfl,n8,t,v,B7,G2⟩;have p4:=qZ (m6.out.put n8 B7);clear n8 B7 G2 p9 m6;go_wp2_with fail
   go_ret2
   exact p4.out.endNone 53 (by rw[HR.out,i6.out];rfl)
  rcases LJ with _|l
  ·clear I3 q8
   go_wp2_with fail
   refine p9.out.mono ?_;rintro e w4 ⟨rfl,n8,t,v,B7,G2⟩;have p4:=qZ (m6.out.put n8 B7);clear n8 B7 G2 p9 m6;go_wp2_with fail
   go_ret2
   exact p4.out.endNone 53 (by rw[HR.out,i6.out];rfl)
  obtain⟨d8,d9,t8,L8⟩:=I3.out l rfl;obtain⟨Al,cl,rfl,O7,Z3,_⟩:=aB2 d9;have O2:=q8.out l rfl;have M0:aM7 w3 (fun k=>lo<=k∧k<w3.heap.size) Al d8:=aM7.of_row d9 L8 (fun q hq=>(O2.2.1 q.o (by rw[<-t8];exact List.mem_map.2 ⟨q,hq,rfl⟩)).1) (fun k h1 h2=>⟨by rw[K6.out];exact h1,h2⟩);have D5:d8.length=l.length:=by rw[<-t8,lU]
  have aC:d8.length<=1000000000:=by
   have h1:=O2.1;have h2:=M5.out.2;have h3:d1.fs.length=B6.length:=by rw[<-m6.out.fs];simp
   omega
  have B9:=qZ M0;have l7:=qZ t8;have G8:=qZ O2;clear d9 t8 L8 O2 M0 I3 q8 D5;go_upto_region 7 with fail
  go_cut [48] from 42 to 48 (fun c wx=>c=.bool false∧Hid (OpS w base g m es w.heap.size (w.heap.size+1) d1 mt mv (.slice none 0 0) 0 wx B6)∧Hid (aM7 wx (fun k=>lo<=k∧k<w3.heap.size) Al d8)∧w3.heap.size<=wx.heap.size)
  case first=>
   go_wp2_with fail
   refine p9.out.mono ?_;rintro e w4 ⟨rfl,n8,t,v,B7,G2⟩;have e1:=G2 _ rfl;injection e1 with e1 e2
   subst e1 e2;have p4:=qZ (m6.out.put n8 B7);have p5:=qZ (B9.out.keep n8.size (fun k hk=>n8.block k hk.2 (fun e=>by injection e with e;have:=hk.1;omega)));have aA:=n8.size;clear n8 B7 G2 p9 m6 B9;go_wp2_with fail
   go_meet;exact⟨rfl,p4,p5,aA⟩
  obtain⟨rfl,p4,p5,R2⟩:=hcut;clear p9 m6 B9;obtain⟨B3,T5⟩:∃B:Bool,B=true↔∃r q,d8=r++[q]∧q.s.ends=[]:=by
   by_cases hh:∃r q,d8=r++[q]∧q.s.ends=[]
   ·exact⟨true,by simp[hh]⟩
   exact⟨false,Iff.intro (fun h=>by cases h) (fun h=>absurd h hh)⟩
  have x6:=qZ T5;clear T5;go_upto_region 10 with fail
  go_cut [63] from 51 to 63 (fun c wx=>c=.bool B3∧wx=wc)
  case first=>
   rcases mJ d8 with h0|⟨r,q,h0⟩
   ·have hB:B3=false:=by
     cases B3 with
     |false=>rfl
     |true=>
      obtain⟨r,q,h1,_⟩:=x6.out.1 rfl;rw[h0] at h1;simp at h1
    subst h0;subst hB;clear x6 G8 p5 l7;go_wp2_with fail
    go_meet;exact⟨rfl,rfl⟩
   rw[mA] at h0;have D5:d8.length=r.length+1:=by rw[h0];simp
   obtain⟨gr,rfl,O1,N6,b8⟩:=p5.out.addr (by omega);have x7:d8[r.length]'(by omega)=q:=by simp[h0]
   have c4:wc.cell? ⟨gr,r.length*6+4,none⟩=some (.slice q.ae q.s.ends.length q.ce):=(b8 r.length (by omega)).2 4 _ (by rw[x7];rfl);have V5:B3=true↔q.s.ends.length=0:=by
    rw[x6.out];constructor
    ·rintro⟨r',q',h1,h2⟩
     rw[h0] at h1;have:=List.append_inj_right' h1 rfl;injection this with this _
     subst this;rw[h2]
     rfl
    intro h1;exact⟨r,q,h0,mD h1⟩
   have K8:=qZ V5;obtain⟨nk,W7⟩:∃n,n=q.s.ends.length:=⟨_,rfl⟩
   rw[<-W7] at c4 K8;obtain⟨n1,o6⟩:∃n,n=r.length:=⟨_,rfl⟩
   rw[<-o6] at c4;have Q3:d8.length=n1+1:=by omega
   have M3:(d8.length:Int)-1=(n1:Int):=by omega
   have N3:IntKind.i64.wrap (n1:Int)=(n1:Int):=mH _ (by omega);have I6:(0:Int)<(d8.length:Int):=by omega
   have R4:n1<d8.length:=by omega
   have C2:(n1:Int)<(d8.length:Int):=by omega
   clear h0 x7 V5 b8 W7 o6 p5 l7 G8 x6 D5 Q3;by_cases hz:nk=0
   ·have hB:B3=true:=K8.out.2 hz
    subst hz;subst hB;clear K8;go_wp2_with fail
    go_meet;exact⟨rfl,rfl⟩
   have hB:B3=false:=by
    cases B3 with
    |false=>rfl
    |true=>exact absurd (K8.out.1 rfl) hz
   subst hB;have bN:((nk:Int)==0)=false:=by simpa using hz
   clear K8;go_wp2_with fail
   go_meet;exact⟨rfl,rfl⟩
  obtain⟨rfl,rfl⟩:=hcut;have I4:=qZ (dI2 l7.out G8.out.2);go_upto_if 63 with fail
  go_cut [5] from 64 to 83 (fun v wx=>∃(a8:List aG5) (d2:DkD) (es2:List (Nm×FE)),v=.slice Al a8.length cl∧a8.length<=d8.length∧w3.heap.size<=wx.heap.size∧Hid (OpS w base g m es w.heap.size (w.heap.size+1) d2 mt mv (.slice none 0 0) 0 wx es2)∧Hid (aM7 wx (fun k=>lo<=k∧k<w3.heap.size) Al a8)∧Hid (aI1 d0=aE3 (a8.map aG5.o) (mt,mv) d2)∧Hid (JDk L d2)∧Hid (∀q∈a8,bS2 q)∧Hid (∀k,lo<=k∧k<w3.heap.size->¬aB1 g m es2 k))
  case first=>
   cases B3 with
   |false=>
    have Q8:¬∃r q,d8=r++[q]∧q.s.ends=[]:=fun hh=>by have:=x6.out.2 hh;cases this
    have s9:∀q∈d8,bS2 q:=fun q hq=>by
     rcases mJ d8 with h0|⟨r,q2,h0⟩
     ·rw[h0] at hq;cases hq
     rw[mA] at h0;rw[h0] at hq;rcases List.mem_append.1 hq with h1|h1
     ·obtain⟨i,hi,rfl⟩:=List.getElem_of_mem h1
      have:=I4.out.1 i (by rw[h0];simp;omega);simp only[h0,List.getElem_append_left hi] at this;exact this
     obtain rfl:=List.mem_singleton.1 h1;exact I4.out.2 q (by rw[h0];simp) (fun h2=>Q8 ⟨r,q,h0,h2⟩)
    have n9:aI1 d0=aE3 (d8.map aG5.o) (mt,mv) d1:=by
     rw[HR.out,i6.out,<-l7.out];rcases mJ d8 with h0|⟨r,q2,h0⟩
     ·rw[h0];rfl
     rw[mA] at h0;rw[h0];show aI7 _ _ _=_
     rw[bA5,if_neg];intro h1;exact Q8 ⟨r,q2,h0,by simpa using h1⟩
    have j6:=qZ s9;have i4:=qZ n9;have C6:=qZ (show∀k,lo<=k∧k<w3.heap.size->¬aB1 g m B6 k from fun k hk hf=>by have:=O0.out k hf;omega);clear Q8 s9 n9;go_wp2_with fail
    go_meet;exact⟨d8,d1,B6,rfl,lR _,R2,p4,p5,i4,l5,j6,C6⟩
   |true=>
    obtain⟨r,q,h0,W5⟩:=x6.out.1 rfl;have D5:d8.length=r.length+1:=by rw[h0];simp
    obtain⟨gr,rfl,O1,N6,b8⟩:=p5.out.addr (by omega);have x7:d8[r.length]'(by omega)=q:=by simp[h0]
    have c0:wc.cell? ⟨gr,r.length*6,none⟩=some (.int .i64 q.s.k):=(b8 r.length (by omega)).2 0 _ (by rw[x7];rfl);have C0:1<=q.s.k∧q.s.k<=999999999:=(G8.out.2.1 q.o (by rw[<-l7.out,h0];simp)).2.1;have L4:=aN2 q.s.k (by omega);have m5:=qZ (aS3 gr (r.length*6) q.s.k (by omega) wc c0 (HE.out wc (p4.out.baseB l9.out C1)).1);have Y1:aM7 wc (fun k=>lo<=k∧k<w3.heap.size) (some ⟨gr,0,none⟩) r:=by
     have h1:=p5.out.take r.length;rw[h0] at h1
     simpa using h1
    have V4:=qZ Y1;have z8:∀x∈r,bS2 x:=fun x hx=>by
     obtain⟨i,hi,rfl⟩:=List.getElem_of_mem hx;have:=I4.out.1 i (by omega);simp only[h0,List.getElem_append_left hi] at this;exact this
    have j6:=qZ z8;have n9:aI1 d0=if(d1.remove (aA8 q.s.k)).1=0 then aE3 (r.map aG5.o) (mt,mv) (d1.remove (aA8 q.s.k)).2 else((d1.remove (aA8 q.s.k)).1,none,(d1.remove (aA8 q.s.k)).2):=by
     rw[HR.out,i6.out,<-l7.out,h0];show aI7 _ _ _=_
     rw[bA5,if_pos (by simp[W5])]
    have i4:=qZ n9;obtain⟨nm,o7⟩:∃n,n=aA8 q.s.k:=⟨_,rfl⟩
    rw[<-o7] at m5 i4 L4;have O8:=qZ (show JDk L (d1.remove nm).2 from l5.out.run (.rm nm));obtain⟨n1,o6⟩:∃n,n=r.length:=⟨_,rfl⟩
    have R6:=qZ o6;rw[<-o6] at m5;have M3:(d8.length:Int)-1=(n1:Int):=by omega
    have N3:IntKind.i64.wrap (n1:Int)=(n1:Int):=mH _ (by omega);have R4:n1<d8.length:=by omega
    have C2:(n1:Int)<(d8.length:Int):=by omega
    have aD:n1<=cl:=by omega
    clear h0 x7 b8 o7 o6 p5 l7 G8 x6 D5 Y1 z8 n9 W5 C0 c0 I4 i6;go_wp2_with fail
    refine m5.out.mono ?_;rintro e w5 ⟨rfl,o5⟩;have D7:=qZ (p4.out.below o5);have q6:=qZ o5;have N5:=o5.size;clear o5 m5;go_wp2_with fail
    refine(show Calls _ _ _ w5 _ from bY5 (gj:=w.heap.size+1) (g:=g) nm (by omega) w5).mono ?_;rintro e w6 ⟨v6,rfl,n4,⟨F6,a9,rfl⟩,_,g8⟩;have m4:=qZ (cZ0 D7.out n4 (.rm nm) F6 a9 g8 l9.out C1 HE.out l5.out (by show L+0<=_;omega));have G0:=n4.size;clear n4 g8 l5;go_wp2_with fail
    refine m4.out.mono ?_;rintro e w7 ⟨rfl,es2,X4,J3,C8⟩;have bP:=C8.size;have U4:∀k,lo<=k∧k<w3.heap.size->w7.heap[k]? =wc.heap[k]? :=fun k hk=>(C8.block k (by omega) (by
     rintro(h1|h1)
     ·have:=O0.out k h1;omega
     omega)).trans (q6.out.block k (by omega))
    have D1:=qZ (V4.out.keep (by omega) U4);have C6:=qZ (show∀k,lo<=k∧k<w3.heap.size->¬aB1 g m es2 k from fun k hk hf=>by
     rcases J3 k hf with h1|h1
     ·have:=O0.out k h1;omega
     omega)
    have o8:=qZ X4;have R3:w3.heap.size<=w7.heap.size:=by omega
    clear X4 J3 C8 U4 m4 q6 V4;change Hid (OpS w base g m es w.heap.size (w.heap.size+1) (d1.remove nm).2 mt mv (.slice none 0 0) (aD3.run d1 (aD3.rm nm)).1 w7 es2) at o8;change Hid (aI1 d0=if(aD3.run d1 (aD3.rm nm)).1=0 then aE3 (r.map aG5.o) (mt,mv) (d1.remove nm).2 else((aD3.run d1 (aD3.rm nm)).1,none,(d1.remove nm).2)) at i4;obtain⟨rc,E6⟩:∃x,x=(aD3.run d1 (aD3.rm nm)).1:=⟨_,rfl⟩
    rw[<-E6] at o8 i4⊢;clear E6;by_cases hz:rc=0
    ·subst hz
     have Q0:=qZ (i4.out.trans (if_pos rfl));clear i4;go_wp2_with fail
     go_meet;exact⟨r,(d1.remove nm).2,es2,by rw[R6.out],by have:=R6.out;omega,R3,o8,D1,Q0,O8,j6,C6⟩
    have Q0:=qZ (i4.out.trans (if_neg hz));have bF:(rc !=0)=true:=bne_iff_ne.2 hz;have j4:w7.cell? ⟨w.heap.size+1,4,none⟩=some (.int .i64 rc):=o8.out.jb.cell 4;clear i4 hz;go_wp2_with fail
    go_quiet (fail);go_wp2_with fail
    go_ret2
    exact(o8.out.below (aA3 (lS _ w7) _)).endNone rc Q0.out
  obtain⟨a8,d2,es2,rfl,bD,N3,D7,U5,i4,P2,j6,C6⟩:=hcut;have aQ:a8.length<=1000000000:=by omega
  have aV:a8.length<=cl:=by omega
  obtain⟨nE,M8⟩:∃n,n=wc.heap.size:=⟨_,rfl⟩
  have C7:=qZ (show∀k,aB1 g m es2 k->k<nE from fun k hk=>by rw[M8];exact(D7.out.disk.lt k hk).2);have bL:w.heap.size+1<nE:=by rw[M8];exact D7.out.jb.lt
  rw[<-M8] at N3;have bG:nE<=wc.heap.size:=by omega
  obtain⟨sl,X9⟩:∃sl,sl=a8.map aG5.s:=⟨_,rfl⟩
  have K5:=qZ X9;clear M8 X9 l7 G8 x6 p5 p4 I4 i6 HR l5 aC O0 K6 C5 M5 bD O7;go_upto_block 0 with fail
  go_cut [] from 86 to 121 (fun wx=>∃(st:Nat) (sv:Value),st<=a8.length∧(0<a8.length->st<a8.length)∧nE<=wx.heap.size∧Hid (aG2 [] sl=sl.drop st)∧Hid (OpS w base g m es w.heap.size (w.heap.size+1) d2 mt mv sv 0 wx es2)∧Hid (aM7 wx (fun k=>lo<=k∧k<w3.heap.size) Al a8)∧Hid (Own wx nE 108 sv (bH0 Al st a8.length)))
  case first=>
   go_wp2_with fail
   go_loopw [86,8,9] (fun i _ _ wr=>∃(k st:Nat) (sv:Value),k<=a8.length∧i=.int .i64 k∧st<=k∧(0<k->st<k)∧nE<=wr.heap.size∧Hid (aG2 [] (sl.take k)=(sl.take k).drop st)∧Hid (OpS w base g m es w.heap.size (w.heap.size+1) d2 mt mv sv 0 wr es2)∧Hid (aM7 wr (fun k=>lo<=k∧k<w3.heap.size) Al a8)∧Hid (Own wr nE 108 sv (bH0 Al st k))) (fun i _ _ _=>a8.length-(intOf i).toNat)
   case atStart=>exact⟨0,0,_,by omega,rfl,by omega,by omega,bG,qZ (by simp[aG2]),D7,U5,qZ (Own.nil _ _ _)⟩
   obtain⟨k,st,sv,hk,rfl,E8,p7,Q6,m3,HA,HL,HO⟩:=hrel;by_cases hlt:k<a8.length
   rotate_left
   ·obtain rfl:k=a8.length:=by omega
    go_wp2_with fail
    go_meet;exact⟨st,sv,E8,p7,Q6,qZ (by have h1:=m3.out;rw[List.take_of_length_le (by rw[K5.out,lU];exact lR _)] at h1;exact h1),HA,HL,HO⟩
   obtain⟨gr,rfl,O1,N6,b8⟩:=HL.out.addr (by omega);have Z0:∀i (hi:i<a8.length),sl[i]'(by rw[K5.out,lU];exact hi)=a8[i].s:=fun i hi=>by simp only[K5.out,List.getElem_map]
   have X6:k<sl.length:=by rw[K5.out,lU];exact hlt
   obtain⟨Bg,V1⟩:∃B:Bool,B=true↔∃h0:0<k,sl[k].goesOn (sl[k-1]'(by omega))=false:=by
    by_cases hh:∃h0:0<k,sl[k].goesOn (sl[k-1]'(by omega))=false
    ·exact⟨true,Iff.intro (fun _=>hh) (fun _=>rfl)⟩
    exact⟨false,Iff.intro (fun h=>by cases h) (fun h=>absurd h hh)⟩
   have G4:=qZ V1;have X2:=qZ Z0;have P5:=qZ b8;clear V1 Z0 b8;go_upto_region 18 with fail
   go_cut [104] from 93 to 104 (fun c wx=>c=.bool Bg∧Hid (Below wr.heap.size wr wx))
   case first=>
    by_cases hk0:0<k
    rotate_left
    ·have O6:Bg=false:=by
      cases Bg with
      |false=>rfl
      |true=>exact absurd (G4.out.1 rfl).1 hk0
     obtain rfl:k=0:=by omega
     subst O6;go_wp2_with fail
     go_meet;exact⟨rfl,qZ (lS _ _)⟩
    obtain⟨j,hj⟩:∃j,k=j+1:=⟨k-1,by omega⟩
    have R1:j<a8.length:=by omega
    have S8:=(P5.out k hlt).1.goes (P5.out j R1).1 (by have:=(j6.out _ (lX R1)).len;omega) (j6.out _ (lX hlt)).first;have Z1:sl[k-1]'(by omega)=a8[j].s:=by
     have e:k-1=j:=by omega
     simp only[e];exact X2.out j R1
    obtain⟨gb,S1⟩:∃b,b=a8[k].s.goesOn a8[j].s:=⟨_,rfl⟩
    rw[<-S1] at S8;have O6:Bg= ! gb:=by
     have h1:Bg=true↔gb=false:=by
      rw[G4.out,S1,<-X2.out k hlt,<-Z1];exact⟨fun⟨_,h⟩=>h,fun h=>⟨hk0,h⟩⟩
     cases Bg<;>cases gb<;>simp_all
    have N9:=qZ S8;have bV:(0:Int)<(k:Int):=by omega
    have M3:(k:Int)-1=(j:Int):=by omega
    have N3:IntKind.i64.wrap (j:Int)=(j:Int):=mH _ (by omega);have aR:(j:Int)<(a8.length:Int):=by omega
    subst O6;clear S8 Z1 S1 hj G4;cases gb with
    |true=>
     go_wp2_with fail
     refine N9.out.mono ?_;rintro e w2 ⟨rfl,p8⟩;have O9:=qZ p8;clear p8 N9;go_wp2_with fail
     go_meet;exact⟨rfl,O9⟩
    |false=>
     go_wp2_with fail
     refine N9.out.mono ?_;rintro e w2 ⟨rfl,p8⟩;have O9:=qZ p8;clear p8 N9;go_wp2_with fail
     go_meet;exact⟨rfl,O9⟩
   obtain⟨rfl,G5⟩:=hcut;have bM:=G5.out.size;have I1:=qZ (HA.out.below G5.out);have Q5:=qZ (HL.out.keep G5.out.size (fun k hk=>G5.out.block k (by omega)));have Y4:=qZ (Own.below HO.out G5.out (lR _));have aK:nE<=wc.heap.size:=by omega
   clear G5 HA HL HO;go_upto_if 104 with fail
   go_cut [] from 105 to 108 (fun wx=>∃(m2:Nat) (Q1:Value),m2<=k∧nE<=wx.heap.size∧Hid (aG2 [] (sl.take (k+1))=(sl.take (k+1)).drop m2)∧Hid (OpS w base g m es w.heap.size (w.heap.size+1) d2 mt mv Q1 0 wx es2)∧Hid (aM7 wx (fun k=>lo<=k∧k<w3.heap.size) (some ⟨gr,0,none⟩) a8)∧Hid (Own wx nE 108 Q1 (bH0 (some ⟨gr,0,none⟩) m2 k)))
   case first=>
    cases Bg with
    |true=>
     obtain⟨h0,V0⟩:=G4.out.1 rfl;have J8:=qZ (cR2 X6 h0 p7 m3.out V0);have j2:wc.cell? ⟨w.heap.size+1,2,none⟩=some sv:=I1.out.jb.cell 2;have z2:wc.frozen? ⟨w.heap.size+1,2,none⟩=false:=I1.out.jb.frozen _;have aY:=qZ (Blk.set_ I1.out.jb 2 (.slice none 0 0));clear h0 V0;go_wp2_with fail
     go_meet;refine⟨k,.slice none 0 0,lR _,by have:=(aA0 wc (w.heap.size+1) 2 (.slice none 0 0)).size;omega,J8,qZ (I1.out.put (aA0 wc (w.heap.size+1) 2 _) aY.out),qZ (Q5.out.keep (aA0 wc (w.heap.size+1) 2 _).size (fun q hq=>Below.heap_setCell _ _ _ _ (by show q≠w.heap.size+1;omega))),qZ ?_⟩;unfold bH0;rw[Nat.sub_self];exact Own.nil _ _ _
    |false=>
     have X7:∀h0:0<k,sl[k].goesOn (sl[k-1]'(by omega))=true:=fun h0=>by
      cases hh:sl[k].goesOn (sl[k-1]'(by omega)) with
      |true=>rfl
      |false=>have:=G4.out.2 ⟨h0,hh⟩;cases this
     have J8:=qZ (cH6 X6 p7 m3.out E8 X7);clear X7;go_wp2_with fail
     go_meet;exact⟨st,sv,E8,aK,J8,I1,Q5,Y4⟩
   obtain⟨m2,Q1,P0,aL,J8,P9,T8,P8⟩:=hcut;clear I1 Q5 Y4 m3 G4 P5;obtain⟨Ax,cx,R9,_,_,_⟩:=P8.out.shape;subst R9;have T9:=qZ (cI0 (some ⟨gr,0,none⟩) m2 k);have t4:Below wc.heap.size wc (wc.alloc (.cells #[.pointer (some ⟨gr,k*6,none⟩)] 108)):=(lS _ wc).alloc (lR _) _;have aE:=qZ (P9.out.below t4);have bB:=qZ (T8.out.keep t4.size (fun q hq=>t4.block q (by omega)));have S4:=qZ (Own.below P8.out t4 (lR _));have g9:=aF9 wc 108 [.pointer (some ⟨gr,k*6,none⟩)];have D3:=qZ g9;have j2:wc.cell? ⟨w.heap.size+1,2,none⟩=some (.slice Ax (bH0 (some ⟨gr,0,none⟩) m2 k).length cx):=P9.out.jb.cell 2;have bZ:=t4.size;have Z9:Hid (∀v6 w6,Own w6 nE 108 v6 (bH0 (some ⟨gr,0,none⟩) m2 k++[Value.pointer (some ⟨gr,k*6,none⟩)])->(wc.alloc (.cells #[.pointer (some ⟨gr,k*6,none⟩)] 108)).grownBy w6 (Value.slice Ax (bH0 (some ⟨gr,0,none⟩) m2 k).length cx).ownBlock->OpS w base g m es w.heap.size (w.heap.size+1) d2 mt mv (.slice Ax (bH0 (some ⟨gr,0,none⟩) m2 k).length cx) 0 w6 es2∧w6.cell? ⟨w.heap.size+1,2,none⟩=some (.slice Ax (bH0 (some ⟨gr,0,none⟩) m2 k).length cx)∧w6.frozen? ⟨w.heap.size+1,2,none⟩=false∧∃A6 c6,v6=.slice A6 (bH0 (some ⟨gr,0,none⟩) m2 k++[Value.pointer (some ⟨gr,k*6,none⟩)]).length c6):=qZ (fun v6 w6 l6 G9=>by
    have E7:=aE.out.grown G9 (fun q hq=>by
     have h1:=S4.out.lt q hq;exact⟨by omega,by omega,fun hf=>by have:=C7.out q hf;omega,by omega⟩)
    obtain⟨A6,c6,Q4,_,_,_⟩:=l6.shape;exact⟨E7,E7.jb.cell 2,E7.jb.frozen _,A6,c6,Q4⟩)
   clear t4 g9 P9 T8 P8;go_wp2_with (at_builtin;go_must (refine aA6 rfl (.tmp 114) (.tmp 116) 49 rfl nE 108 (.pointer none) 8 Tryz.underlying49 bM6 rfl _ _ rfl S4.out (wc.heap.size+1) (some ⟨wc.heap.size,0,none⟩) 1 1 [.pointer (some ⟨gr,k*6,none⟩)] rfl rfl D3.out (by simp[Value.oneCell']) (by rw[T9.out];unfold maxLen;omega) (by rw[T9.out];omega) (by simp<;>omega) ?_;intro v6 w6 l6 G9 aB;have I2:=qZ l6;have bC:=qZ G9;have G0:=G9.size;obtain⟨E7,cA,bY,A6,c6,Q4⟩:=Z9.out v6 w6 l6 G9;subst Q4;have B8:=qZ E7;clear l6 G9 aB E7))
   go_roundw
   case rel=>
    have N7:=aA0 w6 (w.heap.size+1) 2 (.slice A6 ((bH0 (some ⟨gr,0,none⟩) m2 k).length+1) c6);have bQ:=N7.size;have L2:=I2.out;rw[lT] at L2;refine⟨k+1,m2,.slice A6 ((bH0 (some ⟨gr,0,none⟩) m2 k).length+1) c6,by omega,by go_num,by omega,fun _=>by omega,by omega,J8,qZ (B8.out.put N7 (Blk.set_ B8.out.jb 2 _)),qZ ((bB.out.keep G0 (fun q hq=>bC.out.block q (by omega) (fun e=>by have:=S4.out.lt q e.symm;omega))).keep N7.size (fun q hq=>Below.heap_setCell _ _ _ _ (by show q≠w.heap.size+1;omega))),qZ ?_⟩;rw[cT9 _ P0];exact Own.far L2 N7 (by omega)
   case measure=>simp[intOf];omega
  obtain⟨st,sv,E8,p7,aO,m3,B8,V8,I2⟩:=hcut;obtain⟨As,cs,R9,L3,P3,_⟩:=I2.out.shape;subst R9;obtain⟨ls,M2⟩:∃n,n=(bH0 Al st a8.length).length:=⟨_,rfl⟩
  have K3:ls=a8.length-st:=by rw[M2];exact cI0 _ _ _
  rw[<-M2] at B8 I2 L3;have bT:=qZ M2;have bE:(a8.length:Int)-(ls:Int)=(st:Int):=by omega
  have aI:IntKind.i64.wrap (st:Int)=(st:Int):=mH _ (by omega);have aG:st<=cl:=by omega
  have V7:(st:Int)<=(cl:Int):=by omega
  have j2:wc.cell? ⟨w.heap.size+1,2,none⟩=some (.slice As ls cs):=B8.out.jb.cell 2;have bU:w.heap.size<nE∧w3.heap.size<=nE:=by omega
  have O5:=qZ K3;clear M2 K3 D7 U5;go_upto_block 2 with fail
  go_cut [10] from 134 to 145 (fun dv wx=>∃(dv1:Value) (vs:List Value),dv=dv1∧nE<=wx.heap.size∧Hid (OpS w base g m es w.heap.size (w.heap.size+1) d2 mt mv (.slice As ls cs) 0 wx es2)∧Hid (aM7 wx (fun k=>lo<=k∧k<w3.heap.size) Al a8)∧Hid (Own wx nE 108 (.slice As ls cs) (bH0 Al st a8.length))∧Hid (aZ6 wx w.heap.size lo w3.heap.size nE (w.heap.size+1) g dv1 vs ((a8.take st).map fun q=>aD3.rm (aA8 q.s.k))))
  case first=>
   go_wp2_with fail
   go_loopw [134,10,12] (fun i dv _ wr=>∃(k:Nat) (vs:List Value),k<=st∧i=.int .i64 k∧nE<=wr.heap.size∧Hid (OpS w base g m es w.heap.size (w.heap.size+1) d2 mt mv (.slice As ls cs) 0 wr es2)∧Hid (aM7 wr (fun k=>lo<=k∧k<w3.heap.size) Al a8)∧Hid (Own wr nE 108 (.slice As ls cs) (bH0 Al st a8.length))∧Hid (aZ6 wr w.heap.size lo w3.heap.size nE (w.heap.size+1) g dv vs ((a8.take k).map fun q=>aD3.rm (aA8 q.s.k)))) (fun i _ _ _=>st-(intOf i).toNat)
   case atStart=>exact⟨0,[],by omega,rfl,aO,B8,V8,I2,qZ aZ6.nil⟩
   obtain⟨k,vs,hk,rfl,Q6,HA,HL,HO,HD⟩:=hrel;by_cases hlt:k<st
   rotate_left
   ·obtain rfl:k=st:=by omega
    go_wp2_with fail
    go_meet;exact⟨_,vs,rfl,Q6,HA,HL,HO,HD⟩
   have Q9:k<a8.length:=by omega
   obtain⟨gr,rfl,O1,N6,b8⟩:=HL.out.addr (by omega);obtain⟨q,hq⟩:∃q,q=a8[k]:=⟨_,rfl⟩
   have j9:=(b8 k Q9).2;rw[<-hq] at j9;have c0:wr.cell? ⟨gr,k*6,none⟩=some (.int .i64 q.s.k):=j9 0 _ rfl;have c1:wr.cell? ⟨gr,k*6+1,none⟩=some (.int .i64 q.s.first):=j9 1 _ rfl;have c2:wr.cell? ⟨gr,k*6+2,none⟩=some (.int .i64 q.s.term):=j9 2 _ rfl;have c3:wr.cell? ⟨gr,k*6+3,none⟩=some (.slice q.al q.rs.length q.cl):=j9 3 _ rfl;have c4:wr.cell? ⟨gr,k*6+4,none⟩=some (.slice q.ae q.s.ends.length q.ce):=j9 4 _ rfl;have c5:wr.cell? ⟨gr,k*6+5,none⟩=some (.bool q.tn):=j9 5 _ rfl;have C0:=(j6.out q (by rw[hq];exact lX Q9)).k;have X3:a8.take (k+1)=a8.take k++[q]:=by rw[List.take_add_one,lW Q9,hq];rfl
   have bI:=qZ X3;obtain⟨wb,o9⟩:∃W,W=wr.alloc (.cells #[.int .i64 q.s.k,.int .i64 q.s.first,.int .i64 q.s.term,.slice q.al q.rs.length q.cl,.slice q.ae q.s.ends.length q.ce,.bool q.tn] 106):=⟨_,rfl⟩
   have n6:Below wr.heap.size wr wb:=by rw[o9];exact(lS _ wr).alloc (lR _) _
   have D9:Blk wb wr.heap.size 106 #[.int .i64 q.s.k,.int .i64 q.s.first,.int .i64 q.s.term,.slice q.al q.rs.length q.cl,.slice q.ae q.s.ends.length q.ce,.bool q.tn]:=by rw[o9];exact Blk.new wr _ _
   have B2:=qZ (HA.out.below n6);have t9:=qZ n6;have m5:=qZ (aS3 wr.heap.size 0 q.s.k (by omega) wb (D9.cell 0) (HE.out wb (B2.out.baseB l9.out C1)).1);have J2:=qZ o9;have L4:=aN2 q.s.k (by omega);obtain⟨nm,o7⟩:∃n,n=aA8 q.s.k:=⟨_,rfl⟩
   have x8:=qZ o7;rw[<-o7] at m5 L4;have M4:=n6.size;clear hq j9 b8 X3 o9 n6 D9 o7;go_upto_region 26 with fail
   rw[<-J2.out];go_wp2_with fail
   refine m5.out.mono ?_;rintro e w5 ⟨rfl,o5⟩;have q6:=qZ (t9.out.trans (o5.mono M4));have N5:=q6.out.size;clear o5 m5 t9 c0 c1 c2 c3 c4 c5;go_wp2_with fail
   refine(show Calls _ _ _ w5 _ from bY5 (gj:=w.heap.size+1) (g:=g) nm (by omega) w5).mono ?_;rintro e w6 ⟨v6,rfl,n4,⟨F6,a9,rfl⟩,n5,g8⟩;have G0:=n4.size;have m8:=n4.alloc G0 (.cells #[.func (.func F6) #[] a9] 98);have f9:Below wr.heap.size wr (w6.alloc (.cells #[.func (.func F6) #[] a9] 98)):=q6.out.trans (m8.mono N5);have U2:=f9.size;have m0:=(lS w6.heap.size w6).alloc (lR _) (.cells #[.func (.func F6) #[] a9] 98);have x5:=(g8 (EF w.heap.size lo w3.heap.size nE w6) (fun x h1 h2=>.inr (.inr ⟨by omega,h2,n5 x h1 h2⟩)));obtain⟨e1,e2⟩:=EF.below (bd:=w.heap.size) (lo:=lo) (hi:=w3.heap.size) (nE:=nE) m0 ⟨by omega,by omega,by omega⟩;have I5:=qZ ((x5.keep m0.size e1).mono e2);have K9:=qZ (HA.out.below f9);have J1:=qZ (HL.out.keep f9.size (fun q hq=>f9.block q (by omega)));have B5:=qZ (Own.below HO.out f9 (lR _));have p6:=qZ (HD.out.below f9 ⟨by omega,by omega,by omega⟩);have g9:=aF9 w6 98 [.func (.func F6) #[] a9];have D3:=qZ g9;have E5:vs.length=k:=by rw[HD.out.len,lU,lV];omega
   have t6:=qZ E5;obtain⟨Ad,cd,l8,_,_,_⟩:=p6.out.own.shape;subst l8;have f7:=qZ p6.out.own;have l4:nE<=(w6.alloc (.cells #[.func (.func F6) #[] a9] 98)).heap.size:=by omega
   clear n4 g8 n5 m8 f9 m0 x5 e1 e2 g9 E5 q6 HA HL HO HD B2 J2;go_wp2_with (at_builtin;go_must (refine aA6 rfl (.tmp 138) (.tmp 143) 110 rfl nE 98 .nilFunc 8 Tryz.underlying110 aP2 rfl _ _ rfl f7.out (w6.heap.size+1) (some ⟨w6.heap.size,0,none⟩) 1 1 [.func (.func F6) #[] a9] rfl rfl D3.out (by simp[Value.oneCell']) (by rw[t6.out];unfold maxLen;omega) (by rw[t6.out];omega) l4 ?_;intro v8 w8 f8 B4 K7;have C9:=qZ f8;have j8:=qZ B4;clear f8 B4 K7))
   go_roundw
   case rel=>
    have m7:=j8.out.size;have d9:∀r,(Value.slice Ad vs.length cd).ownBlock=some r->nE<=r∧∃cs fz,(w6.alloc (.cells #[.func (.func F6) #[] a9] 98)).heap[r]? =some (.cells cs 98 fz):=fun r e=>by
     obtain⟨cs,hc⟩:=aD1 f7.out e;exact⟨(f7.out.lt r e).1,cs,_,hc⟩
    refine⟨k+1,vs++[.func (.func F6) #[] a9],by omega,by go_num,by omega,qZ (K9.out.grown j8.out (fun r e=>by
     have h1:=(d9 r e).1;exact⟨by omega,by omega,fun hf=>by have:=C7.out r hf;omega,by omega⟩)),qZ (J1.out.keep m7 (fun q hq=>j8.out.block q (by omega) (fun e=>by have:=(d9 q e.symm).1;omega))),qZ (Own.kept B5.out j8.out (jrow_type_ne B5.out f7.out (by decide))),qZ ?_⟩
    rw[bI.out,mE,mG,List.map_nil,<-x8.out];exact p6.out.push ⟨by omega,by omega,l4⟩ I5.out rfl j8.out C9.out
   case measure=>simp[intOf];omega
  obtain⟨Z7,z9,l8,aT,M7,D1,o8,I7⟩:=hcut;have m9:=l8.symm;clear l8;subst m9;clear B8 V8 I2 j2;go_upto_if 148 with fail
  go_cut [10,13] from 146 to 167 (fun dv _ wx=>∃(dv1:Value) (vs:List Value),dv=dv1∧nE<=wx.heap.size∧Hid (OpS w base g m es w.heap.size (w.heap.size+1) d2 mt mv (.slice As ls cs) 0 wx es2)∧Hid (aM7 wx (fun k=>lo<=k∧k<w3.heap.size) Al a8)∧Hid (Own wx nE 108 (.slice As ls cs) (bH0 Al st a8.length))∧Hid (aZ6 wx w.heap.size lo w3.heap.size nE (w.heap.size+1) g dv1 vs ((a8.take st).map (fun q=>aD3.rm (aA8 q.s.k))++bD2 a8)))
  case first=>
   rcases mJ a8 with h0|⟨r,q,h0⟩
   ·have V3:aZ6 wc w.heap.size lo w3.heap.size nE (w.heap.size+1) g Z7 z9 ((a8.take st).map (fun q=>aD3.rm (aA8 q.s.k))++bD2 a8):=by
     rw[show bD2 a8=[] by rw[h0];rfl,List.append_nil];exact I7.out
    have t7:=qZ V3;have bW:¬(0:Int)<(a8.length:Int):=by rw[h0];simp
    clear V3 h0 I7;go_wp2_with fail
    go_meet;exact⟨_,z9,rfl,aT,M7,D1,o8,t7⟩
   rw[mA] at h0;have D5:a8.length=r.length+1:=by rw[h0];simp
   obtain⟨gr,rfl,O1,N6,b8⟩:=D1.out.addr (by omega);have x7:a8[r.length]'(by omega)=q:=by simp[h0]
   have j9:=(b8 r.length (by omega)).2;rw[x7] at j9;have X0:bD2 a8=(if q.tn=true then[.cut (aA8 q.s.k) q.s.long] else[])++[.sync (aA8 q.s.k)]:=by rw[h0];exact cO8 r q
   have U7:=qZ X0;have T3:q∈a8:=by rw[h0];simp
   have K0:=qZ (j6.out q T3);have C0:=K0.out.k;obtain⟨n1,o6⟩:∃n,n=r.length:=⟨_,rfl⟩
   rw[<-o6] at j9;have R6:=qZ (show a8.length=n1+1 by omega);have aP:=qZ (show∃h:n1<a8.length,q=a8[n1] from⟨by omega,by simp[o6,h0]⟩);have c0:wc.cell? ⟨gr,n1*6,none⟩=some (.int .i64 q.s.k):=j9 0 _ rfl;have c1:wc.cell? ⟨gr,n1*6+1,none⟩=some (.int .i64 q.s.first):=j9 1 _ rfl;have c2:wc.cell? ⟨gr,n1*6+2,none⟩=some (.int .i64 q.s.term):=j9 2 _ rfl;have c3:wc.cell? ⟨gr,n1*6+3,none⟩=some (.slice q.al q.rs.length q.cl):=j9 3 _ rfl;have c4:wc.cell? ⟨gr,n1*6+4,none⟩=some (.slice q.ae q.s.ends.length q.ce):=j9 4 _ rfl;have c5:wc.cell? ⟨gr,n1*6+5,none⟩=some (.bool q.tn):=j9 5 _ rfl;have M3:(a8.length:Int)-1=(n1:Int):=by omega
   have P4:IntKind.i64.wrap (n1:Int)=(n1:Int):=mH _ (by omega);have I6:(0:Int)<(a8.length:Int):=by omega
   have R4:n1<a8.length:=by omega
   have C2:(n1:Int)<(a8.length:Int):=by omega
   obtain⟨wb,o9⟩:∃W,W=wc.alloc (.cells #[.int .i64 q.s.k,.int .i64 q.s.first,.int .i64 q.s.term,.slice q.al q.rs.length q.cl,.slice q.ae q.s.ends.length q.ce,.bool q.tn] 106):=⟨_,rfl⟩
   have n6:Below wc.heap.size wc wb:=by rw[o9];exact(lS _ wc).alloc (lR _) _
   have D9:Blk wb wc.heap.size 106 #[.int .i64 q.s.k,.int .i64 q.s.first,.int .i64 q.s.term,.slice q.al q.rs.length q.cl,.slice q.ae q.s.ends.length q.ce,.bool q.tn]:=by rw[o9];exact Blk.new wc _ _
   have J2:=qZ o9;have M4:wb.heap.size=wc.heap.size+1:=by rw[o9];simp
   have B2:=qZ (M7.out.below n6);have J5:=qZ (D1.out.keep n6.size (fun k hk=>n6.block k (by omega)));have M9:=qZ (Own.below o8.out n6 (lR _));have D8:=qZ (I7.out.below n6 ⟨by omega,by omega,by omega⟩);obtain⟨bb,S0⟩:∃n,n=wc.heap.size:=⟨_,rfl⟩
   rw[<-S0] at D9 M4;have S6:nE<=bb:=by omega
   have aW:bb<wb.heap.size:=by omega
   have aS:nE<=wb.heap.size:=by omega
   clear M4;have Y5:=qZ S0;have C4:=qZ D9;obtain⟨Ab,cb,aF,_,_,_⟩:=D8.out.own.shape;subst aF;have E5:z9.length<=1000000000:=by rw[D8.out.len,lU,lV];omega
   clear h0 x7 b8 o6 D5 j9 X0 T3 o9 n6 D9 S0 M7 D1 o8 I7;go_upto_region 30 with fail
   rw[<-J2.out,<-Y5.out,show decide (0<a8.length)=true from decide_eq_true (by omega)];clear c0 c1 c2 c3 c4 c5 J2 Y5 M3 P4 I6 R4 C2;obtain⟨tn,R7⟩:∃t,t=q.tn:=⟨_,rfl⟩
   have b5:wb.cell? ⟨bb,5,none⟩=some (.bool tn):=by rw[R7];exact C4.out.cell 5
   rw[<-R7] at U7;clear R7;go_upto_if 156 with fail
   go_cut [10] from 155 to 160 (fun dv wx=>∃(dv1:Value) (vs:List Value),dv=dv1∧bb<wx.heap.size∧vs.length<=1000000001∧Hid (OpS w base g m es w.heap.size (w.heap.size+1) d2 mt mv (.slice As ls cs) 0 wx es2)∧Hid (aM7 wx (fun k=>lo<=k∧k<w3.heap.size) (some ⟨gr,0,none⟩) a8)∧Hid (Own wx nE 108 (.slice As ls cs) (bH0 (some ⟨gr,0,none⟩) st a8.length))∧wx.cell? ⟨bb,0,none⟩=some (.int .i64 q.s.k)∧Hid (aZ6 wx w.heap.size lo w3.heap.size nE (w.heap.size+1) g dv1 vs ((a8.take st).map (fun q=>aD3.rm (aA8 q.s.k))++if tn=true then[.cut (aA8 q.s.k) q.s.long] else[])))
   case first=>
    have b0:wb.cell? ⟨bb,0,none⟩=some (.int .i64 q.s.k):=C4.out.cell 0;cases tn with
    |false=>
     have Y2:aZ6 wb w.heap.size lo w3.heap.size nE (w.heap.size+1) g (.slice Ab z9.length cb) z9 ((a8.take st).map (fun q=>aD3.rm (aA8 q.s.k))++if false=true then[.cut (aA8 q.s.k) q.s.long] else[]):=by
      rw[if_neg (by decide),List.append_nil];exact D8.out
     have N4:=qZ Y2;have B0:=qZ b0;clear Y2 b0;go_wp2_with fail
     go_meet;exact⟨_,z9,rfl,by omega,by omega,B2,J5,M9,B0.out,N4⟩
    |true=>
     have x5:aK3 wb (EF w.heap.size lo w3.heap.size nE wb) (w.heap.size+1) g (.func (.func 54) #[] #[.pointer (some ⟨w.heap.size,0,none⟩),.pointer (some ⟨bb,0,none⟩)]) (.cut (aA8 q.s.k) q.s.long):=by
      obtain⟨hi,aZ⟩:=aP.out;exact .inl ⟨w.heap.size,bb,q.s,rfl,.inl rfl,B2.out.bx.cell 0,K0.out.segM (J5.out.box hi aZ C4.out (fun k hk=>.inr (.inl hk)) (EF.fresh C4.out S6 (by decide))),rfl,rfl⟩
     have f9:=(lS _ wb).alloc (lR _) (.cells #[.func (.func 54) #[] #[.pointer (some ⟨w.heap.size,0,none⟩),.pointer (some ⟨bb,0,none⟩)]] 98);obtain⟨e1,e2⟩:=EF.below (bd:=w.heap.size) (lo:=lo) (hi:=w3.heap.size) (nE:=nE) f9 ⟨by omega,by omega,by omega⟩;have I5:=qZ ((x5.keep f9.size e1).mono e2);have U2:=f9.size;have K9:=qZ (B2.out.below f9);have J1:=qZ (J5.out.keep f9.size (fun k hk=>f9.block k (by omega)));have B5:=qZ (Own.below M9.out f9 (lR _));have p6:=qZ (D8.out.below f9 ⟨by omega,by omega,by omega⟩);have V6:=qZ (C4.out.below f9 C4.out.lt);have g9:=aF9 wb 98 [.func (.func 54) #[] #[.pointer (some ⟨w.heap.size,0,none⟩),.pointer (some ⟨bb,0,none⟩)]];have D3:=qZ g9;have t6:=qZ E5;have f7:=qZ p6.out.own;have l4:nE<=(wb.alloc (.cells #[.func (.func 54) #[] #[.pointer (some ⟨w.heap.size,0,none⟩),.pointer (some ⟨bb,0,none⟩)]] 98)).heap.size:=by omega
     have Z8:=qZ C0;clear x5 e1 e2 g9 B2 J5 M9 D8 b0 E5 f9 C0;go_wp2_with (at_builtin;go_must (refine aA6 rfl (.tmp 157) (.tmp 159) 110 rfl nE 98 .nilFunc 8 Tryz.underlying110 aP2 rfl _ _ rfl f7.out (wb.heap.size+1) (some ⟨wb.heap.size,0,none⟩) 1 1 [.func (.func 54) #[] #[.pointer (some ⟨w.heap.size,0,none⟩),.pointer (some ⟨bb,0,none⟩)]] rfl rfl D3.out (by simp[Value.oneCell']) (by have:=t6.out;unfold maxLen;omega) (by have:=t6.out;omega) l4 ?_;intro v8 w8 f8 B4 K7;have C9:=qZ f8;have j8:=qZ B4;clear f8 B4 K7))
     go_meet;have m7:=j8.out.size;have d9:∀r,(Value.slice Ab z9.length cb).ownBlock=some r->nE<=r∧∃cs fz,(wb.alloc (.cells #[.func (.func 54) #[] #[.pointer (some ⟨w.heap.size,0,none⟩),.pointer (some ⟨bb,0,none⟩)]] 98)).heap[r]? =some (.cells cs 98 fz):=fun r e=>by
      obtain⟨cs,hc⟩:=aD1 f7.out e;exact⟨(f7.out.lt r e).1,cs,_,hc⟩
     have I8:Blk w8 bb _ _:=V6.out.grown j8.out (fun e=>by
      obtain⟨_,cs,fz,h1⟩:=d9 bb e.symm;have h2:=h1.symm.trans V6.out;injection h2 with h2
      injection h2 with _ h2 _
      exact absurd h2 (by decide))
     refine⟨_,z9++[.func (.func 54) #[] #[.pointer (some ⟨w.heap.size,0,none⟩),.pointer (some ⟨bb,0,none⟩)]],rfl,I8.lt,by have:=t6.out;simp;omega,qZ (K9.out.grown j8.out (fun r e=>by
      have h1:=(d9 r e).1;exact⟨by omega,by omega,fun hf=>by have:=C7.out r hf;omega,by omega⟩)),qZ (J1.out.keep m7 (fun q hq=>j8.out.block q (by omega) (fun e=>by have:=(d9 q e.symm).1;omega))),qZ (Own.kept B5.out j8.out (jrow_type_ne B5.out f7.out (by decide))),I8.cell 0,qZ ?_⟩
     rw[if_pos trivial];exact p6.out.push ⟨by omega,by omega,l4⟩ I5.out rfl j8.out C9.out
   obtain⟨bJ,Y9,l8,Z6,J9,S7,S9,G7,b0,N4⟩:=hcut;have m9:=l8.symm;clear l8;subst m9;clear B2 J5 M9 D8 C4 E5 b5;have L4:=aN2 q.s.k (by omega);have m5:=qZ (aS3 bb 0 q.s.k (by omega) wc b0 (HE.out wc (S7.out.baseB l9.out C1)).1);obtain⟨nm,o7⟩:∃n,n=aA8 q.s.k:=⟨_,rfl⟩
   have x8:=qZ o7;rw[<-o7] at m5 L4;have Z8:=qZ C0;clear o7 C0 b0;go_wp2_with fail
   refine m5.out.mono ?_;rintro e w5 ⟨rfl,o5⟩;have q6:=qZ o5;have N5:=o5.size;clear o5 m5;go_wp2_with fail
   refine(show Calls _ _ _ w5 _ from bT7 (gj:=w.heap.size+1) (g:=g) nm (by omega) w5).mono ?_;rintro e w6 ⟨v6,rfl,n4,⟨F6,a9,rfl⟩,n5,g8⟩;have G0:=n4.size;have m8:=n4.alloc G0 (.cells #[.func (.func F6) #[] a9] 98);have f9:Below wc.heap.size wc (w6.alloc (.cells #[.func (.func F6) #[] a9] 98)):=q6.out.trans (m8.mono N5);have U2:=f9.size;have m0:=(lS w6.heap.size w6).alloc (lR _) (.cells #[.func (.func F6) #[] a9] 98);have x5:=(g8 (EF w.heap.size lo w3.heap.size nE w6) (fun x h1 h2=>.inr (.inr ⟨by omega,h2,n5 x h1 h2⟩)));obtain⟨e1,e2⟩:=EF.below (bd:=w.heap.size) (lo:=lo) (hi:=w3.heap.size) (nE:=nE) m0 ⟨by omega,by omega,by omega⟩;have I5:=qZ ((x5.keep m0.size e1).mono e2);have K9:=qZ (S7.out.below f9);have J1:=qZ (S9.out.keep f9.size (fun q hq=>f9.block q (by omega)));have B5:=qZ (Own.below G7.out f9 (lR _));have p6:=qZ (N4.out.below f9 ⟨by omega,by omega,by omega⟩);have g9:=aF9 w6 98 [.func (.func F6) #[] a9];have D3:=qZ g9;have t6:=qZ J9;obtain⟨Ad,cd,l8,_,_,_⟩:=p6.out.own.shape;subst l8;have f7:=qZ p6.out.own;have l4:nE<=(w6.alloc (.cells #[.func (.func F6) #[] a9] 98)).heap.size:=by omega
   clear n4 g8 n5 m8 f9 m0 x5 e1 e2 g9 J9 q6 S7 S9 G7 N4;go_wp2_with (at_builtin;go_must (refine aA6 rfl (.tmp 161) (.tmp 166) 110 rfl nE 98 .nilFunc 8 Tryz.underlying110 aP2 rfl _ _ rfl f7.out (w6.heap.size+1) (some ⟨w6.heap.size,0,none⟩) 1 1 [.func (.func F6) #[] a9] rfl rfl D3.out (by simp[Value.oneCell']) (by have:=t6.out;unfold maxLen;omega) (by have:=t6.out;omega) l4 ?_;intro v8 w8 f8 B4 K7;have C9:=qZ f8;have j8:=qZ B4;clear f8 B4 K7))
   go_meet;have m7:=j8.out.size;have d9:∀r,(Value.slice Ad Y9.length cd).ownBlock=some r->nE<=r∧∃cs fz,(w6.alloc (.cells #[.func (.func F6) #[] a9] 98)).heap[r]? =some (.cells cs 98 fz):=fun r e=>by
    obtain⟨cs,hc⟩:=aD1 f7.out e;exact⟨(f7.out.lt r e).1,cs,_,hc⟩
   refine⟨_,Y9++[.func (.func F6) #[] a9],rfl,by omega,qZ (K9.out.grown j8.out (fun r e=>by
    have h1:=(d9 r e).1;exact⟨by omega,by omega,fun hf=>by have:=C7.out r hf;omega,by omega⟩)),qZ (J1.out.keep m7 (fun q hq=>j8.out.block q (by omega) (fun e=>by have:=(d9 q e.symm).1;omega))),qZ (Own.kept B5.out j8.out (jrow_type_ne B5.out f7.out (by decide))),qZ ?_⟩
   rw[U7.out,<-List.append_assoc,<-x8.out];have Y6:=p6.out.push ⟨by omega,by omega,l4⟩ I5.out rfl j8.out C9.out;rw[<-x8.out] at Y6;exact Y6
  obtain⟨bO,vs,l8,bX,C3,aJ,C9,t7⟩:=hcut;have m9:=l8.symm;clear l8;subst m9;clear M7 D1 o8 I7;obtain⟨al,L0⟩:∃a,a=(a8.take st).map (fun q=>aD3.rm (aA8 q.s.k))++bD2 a8:=⟨_,rfl⟩
  have s9:al.length<=1000000002:=by
   rw[L0,lT,lU,lV];have:=dG0 a8;omega
  have X1:aI4 al=0:=by rw[L0];exact cX9 _ _
  rw[<-L0] at t7;obtain⟨Ad,cd,l8,_,_,_⟩:=t7.out.own.shape;rw[t7.out.len] at l8;subst l8;have m4:=qZ (aU7 (E:=fun k=>k=w.heap.size∨(lo<=k∧k<w3.heap.size)∨(nE<=k∧k<wc.heap.size)) C3.out.disk C3.out.jb (by omega) Ad vs al cd (RdF.of_own t7.out.own (fun k h1 h2=>.inr (.inr ⟨h1,h2⟩))) t7.out.len (fun k h h' =>(t7.out.acts k h h').mono (fun x hx=>by
   rcases hx with hx|hx|hx
   ·exact .inl hx
   ·exact .inr (.inl hx)
   ·exact .inr (.inr ⟨hx.1,hx.2.1⟩))) (fun k hk=>by
   rcases hk with rfl|hk|hk
   ·exact⟨by omega,C3.out.nb,by omega⟩
   ·exact⟨by omega,C6.out k hk,by omega⟩
   exact⟨hk.2,fun hf=>by have:=C7.out k hf;omega,by omega⟩) (fun w' hb' =>(HE.out w' ((C3.out.baseB l9.out C1).trans hb')).1) (L:=L) (by rw[DkD.eta' d2 C3.out.fs];exact P2.out) (by rw[X1];omega) (by omega))
  rw[DkD.eta' d2 C3.out.fs] at m4;obtain⟨rc,d3,hR⟩:∃rc d3,aI5 al d2=(rc,d3):=⟨_,_,rfl⟩
  rw[hR] at m4;have X8:=cC6 a8 (mt,mv) d2 E8 (by have h1:=m3.out;rw[K5.out] at h1;exact h1) (r:=(rc,d3)) (by rw[<-hR,L0]);have n7:=qZ (i4.out.trans X8);dsimp only at m4 n7
  clear X8 hR L0 X1 s9;go_wp2_with fail
  refine m4.out.mono ?_;rintro e w9 ⟨rfl,M1⟩;obtain⟨bK,U6,V2,R8⟩:=C3.out.acts M1;have G7:=qZ U6;have Y8:=qZ V2;have X5:=qZ R8;have T7:=R8.size;clear M1 U6 V2 R8 m4 t7;by_cases hz:rc=0
  ·subst hz
   have D4:=qZ (show aI1 d0=(0,some ⟨mt,mv,(a8.map aG5.s).drop st,0⟩,d3) by rw[n7.out];rfl);clear n7;go_wp2_with fail
   go_ret2
   refine OpS.endSome (F1:=fun k=>lo<=k∧k<w3.heap.size) (F2:=fun k=>nE<=k∧k<wc.heap.size) G7.out (aJ.out.keep T7 (fun k hk=>X5.out.block k (by omega) (by
    rintro(h1|h1)
    ·exact C6.out k hk h1
    ·omega))) E8 O5.out ⟨L3,P3⟩ ((RdF.of_own C9.out (F:=fun k=>nE<=k∧k<wc.heap.size) (fun k h1 h2=>⟨h1,h2⟩)).keep T7 (fun k hk=>X5.out.block k hk.2 (by
    rintro(h1|h1)
    ·have:=C7.out k h1;omega
    omega))) j6.out aQ (aU.out mt mv rfl) (fun k hk=>?_) D4.out
   rcases hk with hk|hk
   ·refine⟨by omega,by omega,by omega,fun hf=>?_⟩
    rcases Y8.out k hf with h1|h1
    ·exact C6.out k hk h1
    omega
   refine⟨by omega,by omega,by omega,fun hf=>?_⟩;rcases Y8.out k hf with h1|h1
   ·have:=C7.out k h1;omega
   omega
  have bF:(rc !=0)=true:=bne_iff_ne.2 hz;have D4:=qZ (show aI1 d0=(rc,none,d3) by rw[n7.out,if_neg hz]);have j4:w9.cell? ⟨w.heap.size+1,4,none⟩=some (.int .i64 rc):=G7.out.jb.cell 4;clear n7 hz;go_wp2_with fail
  go_quiet (fail);go_wp2_with fail
  go_ret2
  exact(G7.out.below (aA3 (lS _ w9) _)).endNone rc D4.out
end
section
open Go.RowKit Go.Maps Oct
def bE5(re:Int):List aD3:=if re=0 then[.rm aA9] else[]
def aP5(re:Int)(p:List UInt8):List aD3:=bE5 re++[.app aA9 p,.sync aA9,.ren]
theorem cF9{j:JnP}{d:DkD}{t v:Int}(hb:j.bad=0)(h:¬(t<0∨v<0)):aI9 j d t v=if d.free+(d.read aA9).1.length<(aT9 t v).length then(52,j,d) else
  ((aI5 (aP5 (d.read aA9).2 (aT9 t v)) d).1,if(aI5 (aP5 (d.read aA9).2 (aT9 t v)) d).1=0 then⟨t,v,j.segs,0⟩ else {j with bad:=(aI5 (aP5 (d.read aA9).2 (aT9 t v)) d).1},(aI5 (aP5 (d.read aA9).2 (aT9 t v)) d).2):=by
 unfold aI9;rw[if_neg (by rw[hb];simp),if_neg h]
 rfl
theorem bX2{w:World}{base g m gj:Nat}{F:Nat->Prop}{d:DkD}{j:JnP}{es:List (Nm×FE)}(h:JnK w base g m gj F d j es)(C8:base<=w.heap.size){L:Nat}(J7:JDk L d)(hL:L<=100000000000)(hE:∀w',Below base w w' ->Tab w')
  (t v:Int) (ht:-9223372036854775808<=t∧t<=9223372036854775807) (hv:-9223372036854775808<=v∧v<=9223372036854775807):
  Calls Tryz.prog 16 #[.pointer (some ⟨gj,0,none⟩),.int .i64 t,.int .i64 v] w fun e w' =>cU6 w base g m gj es F (aI9 j d t v) e w' :=by
 obtain⟨sv,x4,l7⟩:=h.jn.turn;have l8:=qZ l7;have M7:=x4.lt;obtain⟨jb,B8⟩:∃x,x=j.bad:=⟨_,rfl⟩
 rw[<-B8] at x4;have B2:=qZ B8;obtain⟨w0,t6⟩:∃W,W=w.alloc (.cells #[.pointer (some ⟨gj,0,none⟩)] 30):=⟨_,rfl⟩
 have B4:Below w.heap.size w w0:=by rw[t6];exact(lS _ w).alloc (lR _) _
 have t4:Blk w0 w.heap.size 30 #[.pointer (some ⟨gj,0,none⟩)]:=by rw[t6];exact Blk.new w _ _
 have D4:=x4.below B4 M7;have b0:w0.cell? ⟨w.heap.size,0,none⟩=some (.pointer (some ⟨gj,0,none⟩)):=t4.cell 0;have j4:w0.cell? ⟨gj,4,none⟩=some (.int .i64 jb):=D4.cell 4;have n4:=qZ B4;have d9:=qZ t4;have C7:=qZ D4;have HH:=qZ h;have t7:=qZ J7;have HE:=qZ hE;have J6:=qZ t6;have HT:=qZ ht;have HV:=qZ hv;have E5:=B4.size;have f6:=t4.lt;clear h J7 hE t6 B4 t4 D4 x4 B8 l7 ht hv;go_enter Tryz.func16,Tryz.ntmps16
 go_upto_region 1 with fail
 rw[<-J6.out];by_cases hb:jb=0
 rotate_left
 ·have N3:(jb !=0)=true:=bne_iff_ne.2 hb
  have HR:=qZ (show aI9 j d t v=(jb,j,d) by unfold aI9;rw[if_pos (by rw[<-B2.out];exact hb),B2.out]);clear hb;go_wp2_with fail
  go_ret
  exact HH.out.same n4.out HR.out
 subst hb;by_cases htv:t<0∨v<0
 ·have HR:=qZ (show aI9 j d t v=(1,j,d) by unfold aI9;rw[if_neg (by rw[<-B2.out];simp),if_pos htv])
  by_cases h1:t<0
  ·clear htv
   go_wp2_with fail
   go_ret
   exact HH.out.same n4.out HR.out
  have h2:v<0:=htv.resolve_left h1;clear htv;go_wp2_with fail
  go_ret
  exact HH.out.same n4.out HR.out
 have h1:¬t<0:=fun h=>htv (.inl h)
 have h2:¬v<0:=fun h=>htv (.inr h)
 have l4:=qZ (cF9 (d:=d) B2.out.symm htv);clear htv;have C3:Below w0.heap.size w0 (w0.alloc (.cells #[.int .i64 t,.int .i64 v] 3)):=(lS _ w0).alloc (lR _) _;have C6:∀n∈[t,v],-9223372036854775808<=n∧n<=9223372036854775807:=by
  intro n hn;rcases List.mem_cons.1 hn with rfl|hn
  ·exact HT.out
  obtain rfl:=List.mem_singleton.1 hn;exact HV.out
 have HN:=qZ (bL9 (some ⟨w0.heap.size,0,none⟩) [t,v] 2 (w0.alloc (.cells #[.int .i64 t,.int .i64 v] 3)) ((aF9 w0 3 [.int .i64 t,.int .i64 v]).more (by simp)) C6 (by simp));have M2:=C3.size;have J9:=qZ C3;have K4:(aM8 [t,v]).length<=20:=aN5 (z:=[t,v]) C6;have C0:=qZ K4;clear C3 C6 K4;go_wp2_with fail
 refine HN.out.mono ?_;rintro e w2 ⟨v2,rfl,G0,C4⟩;obtain⟨A2,c2,rfl,k1,k2,k3⟩:=aC5 G0;have J8:=C4.size;have I8:=qZ (aZ2 A2 (aM8 [t,v]) c2 w2 k3 (by have:=C0.out;omega));have J0:=qZ (J9.out.trans (C4.mono M2));clear G0 C4 k3 HN J9;go_wp2_with fail
 refine I8.out.mono ?_;rintro e w3 ⟨v3,rfl,n9,E7⟩;change Got w3 w2.heap.size v3 (aT9 t v) at n9;obtain⟨p,hp⟩:∃p,p=aT9 t v:=⟨_,rfl⟩
 rw[<-hp] at n9 l4;have P2:p.length<=1048600:=by rw[hp];exact aG4 (by have:=C0.out;omega)
 obtain⟨A3,c3,rfl,p1,p2,_⟩:=n9.shape;have O4:=E7.size;have p7:=qZ (J0.out.trans (E7.mono (by omega)));have I4:=qZ (n9.mono (by omega:w.heap.size<=w2.heap.size));have G3:=qZ (HH.out.below (n4.out.trans (p7.out.mono E5)));have L5:=qZ (bL1 (pw:=d.pw) (room:=d.room) (es:=es) (L:=L) (by rw[DkD.eta' d HH.out.fs];exact t7.out));have n6:=bN2 G3.out.disk ⟨#[109,101,116,97,46,110,101,119]⟩ (by show 8<=_;omega) (fun q hq=>by have:=L5.out.1 q hq;omega);rw[DkD.eta' d HH.out.fs] at n6;change Calls _ _ _ w3 (fun e w' =>∃v,e=.returned (.tuple #[v,.int .i64 (d.read aA9).2])∧Bs w' w3.heap.size v (d.read aA9).1∧Below w3.heap.size w3 w') at n6;have m8:((d.read aA9).1.length:Int)<=aB8 d.fs:=dC0;obtain⟨rd,re,G7⟩:∃rd re,d.read aA9=(rd,re):=⟨_,_,rfl⟩
 rw[G7] at n6 l4 m8;dsimp only at n6 l4 m8
 have G2:=qZ n6;have N9:=qZ m8;have b3:w3.cell? ⟨w.heap.size,0,none⟩=some (.pointer (some ⟨gj,0,none⟩)):=(d9.out.below p7.out f6).cell 0;have j3:w3.cell? ⟨gj,3,none⟩=some (.pointer (some ⟨g,0,none⟩)):=(C7.out.below p7.out (by omega)).cell 3;clear hp n9 E7 n6 m8 G7 I8 J0 b0 j4 C0;go_wp2_with fail
 refine G2.out.mono ?_;rintro e w4 ⟨v4,rfl,I6,t9⟩;obtain⟨A4,c4,rfl,q1,q2,_⟩:=aC5 I6;have O2:=t9.size;have n8:=qZ (p7.out.trans (t9.mono (by omega)));have B6:=qZ (I4.out.below t9 (lR _));have D3:=n8.out.size;clear I6 t9 G2 p7 I4 G3 b3 j3;go_upto_if 43 with fail
 go_cut [8] from 42 to 48 (fun dv wx=>∃(dv1:Value) (vs:List Value),dv=dv1∧w0.heap.size<=wx.heap.size∧vs.length<=1∧Hid (Below w0.heap.size w0 wx)∧Hid (Got wx w.heap.size (.slice A3 p.length c3) p)∧Hid (aP1 wx (fun _=>False) w.heap.size gj g dv1 vs (bE5 re)))
 case first=>
  by_cases h0:re=0
  ·subst h0
   have b4:w4.cell? ⟨w.heap.size,0,none⟩=some (.pointer (some ⟨gj,0,none⟩)):=(d9.out.below n8.out f6).cell 0;go_wp2_with fail
   refine(show Calls _ _ _ w4 _ from bY5 (gj:=gj) (g:=g) aA9 (by decide) w4).mono ?_;rintro e w6 ⟨v6,rfl,x5,⟨F6,b8,rfl⟩,q8,p4⟩;have L2:=x5.size;have g9:=(lS w6.heap.size w6).alloc (lR _) (.cells #[.func (.func F6) #[] b8] 98);have L0:=(p4 (EG (fun _=>False) w.heap.size w6) (fun x h1 h2=>.inr ⟨by omega,h2,q8 x h1 h2⟩));obtain⟨e1,e2⟩:=EG.below (G:=fun _=>False) (nE:=w.heap.size) g9 ⟨fun _ h=>h.elim,by omega⟩;have L6:=qZ ((L0.keep g9.size e1).mono e2);have M8:=g9.size;have m9:=qZ (n8.out.trans ((x5.alloc L2 (.cells #[.func (.func F6) #[] b8] 98)).mono (by omega)));have L9:=qZ (B6.out.below (x5.alloc L2 (.cells #[.func (.func F6) #[] b8] 98)) (lR _));have f7:=aF9 w6 98 [.func (.func F6) #[] b8];have x8:=qZ f7;clear x5 p4 q8 g9 L0 e1 e2 f7 b4 n8 B6;go_wp2_with (at_builtin;go_must (refine aA6 rfl (.tmp 44) (.tmp 47) 110 rfl w.heap.size 98 .nilFunc 8 Tryz.underlying110 aP2 rfl _ [] rfl (Own.nil _ _ _) (w6.heap.size+1) (some ⟨w6.heap.size,0,none⟩) 1 1 [.func (.func F6) #[] b8] rfl rfl x8.out (by simp[Value.oneCell']) (by unfold maxLen;simp) (by simp) (by omega) ?_;intro v8 w8 l5 I5 L7;have N2:=qZ l5;have E8:=qZ I5;clear l5 I5 L7))
   go_meet;have j6:Below (w6.alloc (.cells #[.func (.func F6) #[] b8] 98)).heap.size (w6.alloc (.cells #[.func (.func F6) #[] b8] 98)) w8:=(lS _ _).grown E8.out (lR _) (fun k hk=>by cases hk);refine⟨_,[.func (.func F6) #[] b8],rfl,by have:=E8.out.size;omega,by simp,qZ (m9.out.trans (j6.mono (by omega))),qZ (L9.out.below j6 (lR _)),qZ ?_⟩;exact aP1.push (al:=[]) aP1.nil ⟨fun _ h=>h.elim,by omega⟩ L6.out rfl E8.out N2.out
  have O7:(re==0)=false:=by simpa using h0
  have G8:bE5 re=[]:=by unfold bE5;rw[if_neg h0]
  have M6:=qZ G8;clear h0 G8;go_wp2_with fail
  go_meet;exact⟨_,[],rfl,D3,by simp,n8,B6,qZ (by rw[M6.out];exact aP1.nil)⟩
 obtain⟨P1,M0,l9,M5,M9,o5,I1,I9⟩:=hcut;have m2:=l9.symm;clear l9;subst m2;clear n8 B6;have D5:=qZ (n4.out.trans (o5.out.mono E5));have G5:=qZ (HH.out.below D5.out);have z9:=bR8 G5.out.disk (by rw[HH.out.fs];have:=t7.out.sz;omega);rw[HH.out.fs] at z9;have D7:=HH.out.disk.num;have M3:=t7.out.sz;have N8:=aD7 d.fs;have m8:=N9.out;have J3:DkD.free d=d.room-aB8 d.fs:=rfl;rw[J3] at l4;obtain⟨fr,o9⟩:∃x,x=d.room-aB8 d.fs:=⟨_,rfl⟩
 rw[<-o9] at z9 l4;have P3:-4611686018427387904<=fr∧fr+rd.length<=9223372036854775807:=by omega
 have n7:=qZ z9;have b7:wc.cell? ⟨w.heap.size,0,none⟩=some (.pointer (some ⟨gj,0,none⟩)):=(d9.out.below o5.out f6).cell 0;have j7:wc.cell? ⟨gj,3,none⟩=some (.pointer (some ⟨g,0,none⟩)):=(C7.out.below o5.out (by omega)).cell 3;clear z9 D7 M3 N8 m8 J3 o9;have O1:IntKind.i64.wrap (fr+rd.length)=fr+rd.length:=mH _ (by omega);go_wp2_with fail
 refine n7.out.mono ?_;rintro e w8 ⟨rfl,j6⟩;have O3:=j6.size;have D0:=qZ (o5.out.trans (j6.mono (by omega)));have D6:=qZ (I1.out.below j6 (lR _));have D1:=qZ (I9.out.below j6 ⟨fun _ h=>h.elim,by omega⟩);have C2:=qZ (D5.out.trans (j6.mono (by omega)));clear j6 n7 o5 I1 I9 D5 b7 j7 G5;by_cases hroom:fr+rd.length<(p.length:Int)
 ·have HR:=qZ (l4.out.trans (if_pos hroom))
  go_wp2_with fail
  go_ret
  exact HH.out.same C2.out HR.out
 have HR:=qZ (l4.out.trans (if_neg hroom));clear l4;go_upto_region 12 with fail
 go_cut [8] from 60 to 68 (fun dv wx=>∃(dv1:Value) (vs:List Value),dv=dv1∧w0.heap.size<=wx.heap.size∧Hid (Below w0.heap.size w0 wx)∧Hid (aP1 wx (fun _=>False) w.heap.size gj g dv1 vs (aP5 re p)))
 case first=>
  have m4:=qZ (D0.out.drew);have N0:=qZ (D6.out.below (lS _ w8).drew (lR _));have g8:=qZ (D1.out.below (lS _ w8).drew ⟨fun _ h=>h.elim,by omega⟩);have O0:w0.heap.size<=w8.drew.heap.size:=by show _<=w8.heap.size;omega
  have L3:=qZ (show∀k,w.heap.size<=k->k<w0.heap.size->∀cs fz,w0.heap[k]? ≠some (.cells cs 98 fz) from fun k h1 h2 cs fz e=>by
   have h3:w0.heap.size=w.heap.size+1:=by rw[J6.out];simp
   obtain rfl:k=w.heap.size:=by omega
   have h4:=e.symm.trans d9.out;injection h4 with h4
   injection h4 with _ h4 _
   exact absurd h4 (by decide))
  have b9:w8.drew.cell? ⟨w.heap.size,0,none⟩=some (.pointer (some ⟨gj,0,none⟩)):=(d9.out.below m4.out f6).cell 0;clear D0 D6 D1 C2;refine wp_region_held_drew (S:=fun W=>W.cell? ⟨w.heap.size,0,none⟩=some (.pointer (some ⟨gj,0,none⟩))∧True∧True∧True) (by kernel_rfl) ⟨b9,trivial,trivial,trivial⟩ (fun hHeld=>?_);refine zT 0 (k:=?_);refine zT 1 (k:=?_);refine zT 2 (k:=?_);refine zT 4 (k:=?_);refine zT 6 (k:=?_);simp only[zA,zB,zF,zG,zC,zD,zE];refine zV 3 (k:=fun K hK=>?_);simp only[zA,zB];go_simp;refine(show Calls _ _ _ w8.drew _ from cW9 (gj:=gj) (g:=g) aA9 (by decide) p A3 c3 p1 (by omega) w8.drew).mono ?_;rintro e wa ⟨vP,rfl,o7,⟨FP,a9,rfl⟩,p9,l6⟩;have N4:=o7.size;have C9:=qZ (m4.out.trans (o7.mono (by omega)));have t8:=qZ (N0.out.below o7 (lR _));have K3:=qZ (g8.out.below o7 ⟨fun _ h=>h.elim,by omega⟩);change _<=_ at N4;have K6:=l6 (EG (fun _=>False) w.heap.size wa) (fun x h1 h2=>.inr ⟨by omega,h2,p9 x h1 h2⟩) (t8.out.rdG (lR _));have J5:=qZ K6;have ba:wa.cell? ⟨w.heap.size,0,none⟩=some (.pointer (some ⟨gj,0,none⟩)):=(d9.out.below C9.out f6).cell 0;clear l6 p9 K6 o7;go_wp2_with fail
  refine hK.out _ _ ⟨ba,trivial,trivial,trivial⟩ (fun hHeld=>?_);clear hK K;try simp only[zF,zG,zC,zD,zE]
  refine zV 5 (k:=fun K hK=>?_);simp only[zA,zB];go_simp;refine(show Calls _ _ _ wa _ from bT7 (gj:=gj) (g:=g) aA9 (by decide) wa).mono ?_;rintro e wb ⟨vS,rfl,m6,⟨FS,a8,rfl⟩,s9,j9⟩;have O9:=m6.size;have z8:=qZ (C9.out.trans (m6.mono (by omega)));have I2:=qZ (t8.out.below m6 (lR _));clear t8;have t8:=I2;clear I2;have I0:=qZ (K3.out.below m6 ⟨fun _ h=>h.elim,by omega⟩);obtain⟨e1,e2⟩:=EG.below (G:=fun _=>False) (nE:=w.heap.size) m6 ⟨fun _ h=>h.elim,by omega⟩;have E9:=qZ ((J5.out.keep m6.size e1).mono e2);have G4:=j9 (EG (fun _=>False) w.heap.size wb) (fun x h1 h2=>.inr ⟨by omega,h2,s9 x h1 h2⟩);have J2:=qZ G4;have bb:wb.cell? ⟨w.heap.size,0,none⟩=some (.pointer (some ⟨gj,0,none⟩)):=(d9.out.below z8.out f6).cell 0;clear j9 s9 G4 m6 e1 e2 J5 ba K3 C9;go_wp2_with fail
  refine hK.out _ _ ⟨bb,trivial,trivial,trivial⟩ (fun hHeld=>?_);clear hK K;try simp only[zF,zG,zC,zD,zE]
  refine zV 7 (k:=fun K hK=>?_);simp only[zA,zB];go_simp;have f7:=aF9 wb 98 [Value.func (.func FP) #[] a9,.func (.func FS) #[] a8,.func (.func 70) #[] #[.pointer (some ⟨w.heap.size,0,none⟩)]];have m0:Below wb.heap.size wb (wb.alloc (.cells #[.func (.func FP) #[] a9,.func (.func FS) #[] a8,.func (.func 70) #[] #[.pointer (some ⟨w.heap.size,0,none⟩)]] 98)):=(lS _ wb).alloc (lR _) _;have M8:=m0.size;have p0:=qZ (I0.out.below m0 ⟨fun _ h=>h.elim,by omega⟩);have m9:=qZ (z8.out.trans (m0.mono (by omega)));have K0:aK3 wb (EG (fun _=>False) w.heap.size wb) gj g (.func (.func 70) #[] #[.pointer (some ⟨w.heap.size,0,none⟩)]) .ren:=⟨w.heap.size,rfl,EG.fresh (d9.out.below z8.out f6) (lR _) (by decide),bb⟩;obtain⟨e1,e2⟩:=EG.below (G:=fun _=>False) (nE:=w.heap.size) m0 ⟨fun _ h=>h.elim,by omega⟩
  have i4:∀i (h:i<[Value.func (.func FP) #[] a9,.func (.func FS) #[] a8,.func (.func 70) #[] #[.pointer (some ⟨w.heap.size,0,none⟩)]].length) (h' :i<[aD3.app aA9 p,.sync aA9,.ren].length),aK3 (wb.alloc (.cells #[.func (.func FP) #[] a9,.func (.func FS) #[] a8,.func (.func 70) #[] #[.pointer (some ⟨w.heap.size,0,none⟩)]] 98)) (EG (fun _=>False) w.heap.size (wb.alloc (.cells #[.func (.func FP) #[] a9,.func (.func FS) #[] a8,.func (.func 70) #[] #[.pointer (some ⟨w.heap.size,0,none⟩)]] 98))) gj g [Value.func (.func FP) #[] a9,.func (.func FS) #[] a8,.func (.func 70) #[] #[.pointer (some ⟨w.heap.size,0,none⟩)]][i] [aD3.app aA9 p,.sync aA9,.ren][i]:=fun i h h' =>by
   have hi:i<3:=h;rcases(by omega:i=0∨i=1∨i=2) with rfl|rfl|rfl
   ·exact(E9.out.keep m0.size e1).mono e2
   ·exact(J2.out.keep m0.size e1).mono e2
   exact(K0.keep m0.size e1).mono e2
  have q6:=qZ i4;have x8:=qZ f7;have bA:(wb.alloc (.cells #[.func (.func FP) #[] a9,.func (.func FS) #[] a8,.func (.func 70) #[] #[.pointer (some ⟨w.heap.size,0,none⟩)]] 98)).cell? ⟨w.heap.size,0,none⟩=some (.pointer (some ⟨gj,0,none⟩)):=(d9.out.below m9.out f6).cell 0;have K7:w.heap.size<=(wb.alloc (.cells #[.func (.func FP) #[] a9,.func (.func FS) #[] a8,.func (.func 70) #[] #[.pointer (some ⟨w.heap.size,0,none⟩)]] 98)).heap.size:=by omega
  clear f7 m0 K0 e1 e2 i4 E9 J2 I0 z8 bb;refine hK.out _ _ ⟨bA,trivial,trivial,trivial⟩ (fun hHeld=>?_);clear hK K;try simp only[zF,zG,zC,zD,zE]
  refine zV 8 (k:=fun K hK=>?_);simp only[zA,zB];rw[if_pos (by rfl)];refine aK9 (.tmp 60) (.tmp 67) 110 rfl w.heap.size 98 .nilFunc 8 Tryz.underlying110 aP2 rfl _ M0 rfl p0.out.own (wb.heap.size+1) (some ⟨wb.heap.size,0,none⟩) 3 3 [Value.func (.func FP) #[] a9,.func (.func FS) #[] a8,.func (.func 70) #[] #[.pointer (some ⟨w.heap.size,0,none⟩)]] rfl rfl x8.out (by simp[Value.oneCell']) (by unfold maxLen;omega) (by omega) K7 ?_;intro vq wq j8 x6 N5;have P0:=x6.size;have L8:=qZ (aP1.pushes (bl:=[.app aA9 p,.sync aA9,.ren]) p0.out ⟨fun _ h=>h.elim,K7⟩ rfl q6.out (by simp[Value.oneCell']) x6 j8);have G9:Below w0.heap.size (wb.alloc (.cells #[.func (.func FP) #[] a9,.func (.func FS) #[] a8,.func (.func 70) #[] #[.pointer (some ⟨w.heap.size,0,none⟩)]] 98)) wq:=(lS _ _).grown x6 (by omega) (fun k hk=>by have h1:=p0.out.own.lt k hk;obtain⟨cs,hc⟩:=aD1 p0.out.own hk;rcases Nat.lt_or_ge k w0.heap.size with h2|h2;exact absurd (m9.out.block k h2▸hc) (L3.out k h1.1 h2 cs _);exact h2);have I3:=qZ (m9.out.trans G9);have bq:wq.cell? ⟨w.heap.size,0,none⟩=some (.pointer (some ⟨gj,0,none⟩)):=(d9.out.below I3.out f6).cell 0;clear j8 x6 N5 G9 bA p0 q6 x8 m9;refine hK.out _ _ ⟨bq,trivial,trivial,trivial⟩ (fun hHeld=>?_);clear hK K;try simp only[zF,zG,zC,zD,zE]
  refine zT 9 (k:=?_);simp only[zA,zB,zF,zG,zC,zD,zE];refine wpAnyH_done (by kernel_rfl) ?_ _;clear bq hHeld;go_wp2_with fail
  go_meet;exact⟨_,_,rfl,by omega,I3,L8⟩
 obtain⟨O8,L4,l9,O5,m4,g8⟩:=hcut;have m2:=l9.symm;clear l9;subst m2;clear D0 D6 D1 C2;obtain⟨al,B1⟩:∃a,a=aP5 re p:=⟨_,rfl⟩
 have i4:al.length<=4:=by rw[B1];unfold aP5 bE5;split<;>simp
 have M1:aI4 al<=1048601:=by rw[B1];unfold aP5 bE5;split<;>simp[aI4,aD3.cost]<;>omega
 rw[<-B1] at g8 HR;obtain⟨Ad,cd,l9,_,_,_⟩:=g8.out.own.shape;rw[g8.out.len] at l9;subst l9;have C1:=qZ (n4.out.trans (m4.out.mono E5));have N7:=qZ (HH.out.below C1.out);have p5:=qZ (aU7 (E:=fun k=>w.heap.size<=k∧k<wc.heap.size) N7.out.disk (C7.out.below m4.out (by omega)) HH.out.lo Ad L4 al cd (RdF.of_own g8.out.own (fun k h1 h2=>⟨h1,h2⟩)) g8.out.len (fun k h h' =>(g8.out.acts k h h').mono (fun x hx=>by
  rcases hx with hx|hx
  ·exact hx.elim
  exact⟨hx.1,hx.2.1⟩)) (fun k hk=>⟨hk.2,fun hf=>by have:=(HH.out.disk.lt k hf).2;omega,by omega⟩) (fun w' hb' =>HE.out w' ((C1.out.mono C8).trans hb')) (L:=L) (by rw[DkD.eta' d HH.out.fs];exact t7.out) (by omega) (by omega))
 rw[DkD.eta' d HH.out.fs] at p5;obtain⟨rc,d3,hR⟩:∃rc d3,aI5 al d=(rc,d3):=⟨_,_,rfl⟩
 rw[hR] at p5 HR;dsimp only at p5 HR
 have b9:wc.cell? ⟨w.heap.size,0,none⟩=some (.pointer (some ⟨gj,0,none⟩)):=(d9.out.below m4.out f6).cell 0;clear hR B1 M1 i4;go_wp2_with fail
 refine p5.out.mono ?_;rintro e w9 ⟨rfl,x7,o8,o4,d8,f9,p8⟩;have M4:=f9.size;have m5:Blk w9 w.heap.size 30 #[.pointer (some ⟨gj,0,none⟩)]:=f9.blk_ (d9.out.below m4.out f6) (by
  rintro(h1|h1)
  ·have:=(HH.out.disk.lt _ h1).2;omega
  omega)
 have D8:Fr (fun k=>aB1 g m es k∨k=gj) w w9:=(Fr.of_below _ C1.out).trans f9 (fun j hj=>.inl hj);have I7:w9.cell? ⟨w.heap.size,0,none⟩=some (.pointer (some ⟨gj,0,none⟩)):=m5.cell 0;have j0:w9.cell? ⟨gj,0,none⟩=some (.int .i64 j.term):=d8.cell 0;have j1:w9.cell? ⟨gj,1,none⟩=some (.int .i64 j.vote):=d8.cell 1;have j4:w9.cell? ⟨gj,4,none⟩=some (.int .i64 rc):=d8.cell 4;have z0:w9.frozen? ⟨gj,0,none⟩=false:=d8.frozen _;have z1:w9.frozen? ⟨gj,1,none⟩=false:=d8.frozen _;have D9:=qZ m5;have n7:=qZ D8;have i6:=qZ o8;have o6:=qZ o4;have m3:=qZ d8;have m7:=qZ (show∀k,aB1 g m x7 k->aB1 g m es k∨w.heap.size<=k from fun k hk=>(p8 k hk).imp id (fun h1=>by omega));have f8:=qZ (show∀k,F k->w9.heap[k]? =w.heap[k]? ∧k<w.heap.size∧k≠gj∧¬aB1 g m x7 k from fun k hk=>by
  have h1:=HH.out.apart k hk;refine⟨D8.block k h1.2.1 (by rintro(h2|h2);exact h1.2.2.2 h2;exact h1.2.2.1 h2),h1.2.1,h1.2.2.1,fun hf=>?_⟩;rcases m7.out k hf with h2|h2
  ·exact h1.2.2.2 h2
  omega)
 clear o8 o4 d8 f9 p8 m5 D8 p5 g8 b9;by_cases hz:rc=0
 rotate_left
 ·have N3:(rc==0)=false:=by simpa using hz
  have C5:=qZ (HR.out.trans (by rw[if_neg hz]:_=(rc,({j with bad:=rc}:JnP),d3)));have J1:=qZ HH.out.jn.num;clear HR hz;go_wp2_with fail
  go_ret
  exact HH.out.acted (es2:=x7) (F' :=F) n7.out i6.out o6.out m7.out (l8.out w9 j.term j.vote rc n7.out.size (fun k hk=>(f8.out k hk).1) m3.out J1.out.1 J1.out.2) (fun k hk=>⟨.inl hk,by have:=f8.out k hk;omega,(f8.out k hk).2.2.1,(f8.out k hk).2.2.2⟩) C8 C5.out
 subst hz;have C5:=qZ (HR.out.trans (by rw[if_pos rfl]:_=((0:Int),(⟨t,v,j.segs,0⟩:JnP),d3)));clear HR;go_upto_region 14 with fail
 refine wp_region_held_drew (S:=fun W=>W.cell? ⟨w.heap.size,0,none⟩=some (.pointer (some ⟨gj,0,none⟩))∧True∧True∧True) (by kernel_rfl) ⟨I7,trivial,trivial,trivial⟩ (fun hHeld=>?_);refine zT 0 (k:=?_);refine zT 1 (k:=?_);refine zT 2 (k:=?_);refine zT 3 (k:=?_);refine zT 4 (k:=?_);refine zT 5 (k:=?_);refine zT 6 (k:=?_);simp only[zA,zB,zF,zG,zC,zD,zE];refine zV 7 (k:=fun K hK=>?_);simp only[zA,zB];go_simp;have B5:=aA0 w9 gj 0 (.int .i64 t);have G6:=m3.out.set_ 0 (.int .i64 t);have L1:=D9.out.grown B5 (by intro e;injection e with e;omega);have B9:=qZ B5;have p6:=qZ G6;have y8:=qZ L1;have N6:=B5.size;clear B5 G6 L1 I7 j0 j1 j4 z0 z1;generalize hw1:(w9.setCell ⟨gj,0,none⟩ (.int .i64 t))=wa at B9 p6 y8 N6⊢
 clear hw1;have ba:wa.drew.cell? ⟨w.heap.size,0,none⟩=some (.pointer (some ⟨gj,0,none⟩)):=y8.out.cell 0;have ja:wa.drew.cell? ⟨gj,1,none⟩=some (.int .i64 j.vote):=p6.out.cell 1;have za:wa.drew.frozen? ⟨gj,1,none⟩=false:=p6.out.frozen _;refine hK.out _ _ ⟨ba,trivial,trivial,trivial⟩ (fun hHeld=>?_);clear hK K;try simp only[zF,zG,zC,zD,zE]
 refine zT 8 (k:=?_);refine zT 9 (k:=?_);refine zT 10 (k:=?_);simp only[zA,zB,zF,zG,zC,zD,zE];refine zV 11 (k:=fun K hK=>?_);simp only[zA,zB];go_simp;have B7:=aA0 wa gj 1 (.int .i64 v);have J4:=p6.out.set_ 1 (.int .i64 v);have K8:=y8.out.grown B7 (by intro e;injection e with e;omega);have K9:=qZ (aA4 B9.out B7 (.inl rfl));have E6:=qZ J4;have K5:=qZ K8;have J8:=B7.size;clear B7 J4 K8 ba ja za B9 p6 y8;generalize hw2:(wa.setCell ⟨gj,1,none⟩ (.int .i64 v))=wb at K9 E6 K5 J8⊢
 clear hw2;have bb:wb.drew.cell? ⟨w.heap.size,0,none⟩=some (.pointer (some ⟨gj,0,none⟩)):=K5.out.cell 0;have O6:wb.drew.cell? ⟨gj,4,none⟩=some (.int .i64 0):=E6.out.cell 4;refine hK.out _ _ ⟨bb,trivial,trivial,trivial⟩ (fun hHeld=>?_);clear hK K;try simp only[zF,zG,zC,zD,zE]
 refine wpAnyH_done (by kernel_rfl) ?_ _;clear hHeld;go_wp2_with fail
 go_ret
 have n5:w9.grownBy wb.drew (some gj):=aA4 K9.out (aA5 (lS _ wb).drew (some gj)) (.inl rfl);refine HH.out.acted (es2:=x7) (F' :=F) (n7.out.trans (Fr.of_grown (mine:=fun k=>k=gj) n5 (fun k e=>by injection e with e;exact e.symm)) (fun k hk=>.inl (.inr hk))) (i6.out.keep n5.size (fun k hk=>n5.block k (i6.out.lt k hk).2 (fun e=>by injection e with e;subst e;exact i6.out.not_foot m3.out (by decide) (by decide) (by decide) hk))) o6.out m7.out (l8.out wb.drew t v 0 (by have:=n5.size;omega) (fun k hk=>(n5.block k (by have:=f8.out k hk;omega) (fun e=>by injection e with e;exact(f8.out k hk).2.2.1 e)).trans (f8.out k hk).1) E6.out HT.out HV.out) (fun k hk=>⟨.inl hk,by have:=f8.out k hk;have:=n5.size;omega,(f8.out k hk).2.2.1,(f8.out k hk).2.2.2⟩) C8 C5.out
end
section
open Go.RowKit Go.Maps Oct
structure bD1(W0 w:World)(base g m gj:Nat)(F:Nat->Prop)(k:Nat)(d:DkD)(j:JnP)(es:List (Nm×FE)):Prop where
 jn:JnK w base g m gj F d j es
 ri:RI j d
 rb:RB k j d
 low:W0.heap.size<=base
 bw:base<=w.heap.size
 from_:Below W0.heap.size W0 w
 facts:bO5 W0
theorem JAt.segB{w:World}{F:Nat->Prop}{gj g:Nat}{j:JnP}(h:JAt w F gj g j):∀s∈j.segs,aZ8 s:=fun s hs=>by
 obtain⟨⟨A,c,ads,h1,h2,h3,h4,h5⟩,_⟩:=h;obtain⟨i,hi,rfl⟩:=List.getElem_of_mem hs;exact(h5 i (by omega) hi).rd.num
section
variable{W0 w w' :World}{base g m gj k:Nat}{F:Nat->Prop}{d:DkD}{j:JnP}{es:List (Nm×FE)}
theorem bD1.fac(h:bD1 W0 w base g m gj F k d j es):∀w',Below base w w' ->bO5 w' :=fun w' hb=>h.facts.below (h.from_.trans (hb.mono h.low))
theorem bD1.below(h:bD1 W0 w base g m gj F k d j es)(hb:Below w.heap.size w w'):bD1 W0 w' base g m gj F k d j es:=
 ⟨h.jn.below hb,h.ri,h.rb,h.low,Nat.le_trans h.bw hb.size,h.from_.trans (hb.mono (Nat.le_trans h.low h.bw)),h.facts⟩
def bP7(W0 w:World)(base g m gj k:Nat)(es:List (Nm×FE))(r:Int×JnP×DkD)(e:Ending)(w' :World):Prop:=
 e=.returned (.int .i64 r.1)∧(∃es' F',bD1 W0 w' base g m gj F' k r.2.2 r.2.1 es')∧Fr (fun x=>aB1 g m es x∨x=gj) w w'
theorem bD1.to(h:bD1 W0 w base g m gj F k d j es){r:Int×JnP×DkD}{e:Ending}(ht:cU6 w base g m gj es F r e w')(b8:RI r.2.1 r.2.2)(d8:RB (k+1) r.2.1 r.2.2):bP7 W0 w base g m gj (k+1) es r e w' :=by
 obtain⟨he,a9,F',hj,a8,_,_⟩:=ht;have hb:Below base w w' :=a8.below h.bw (fun x hx=>by
  rcases hx with hx|hx
  ·exact(h.jn.disk.lt x hx).1
  rw[hx];exact h.jn.lo)
 exact⟨he,⟨a9,F',hj,b8,d8,h.low,Nat.le_trans h.bw a8.size,h.from_.trans (hb.mono h.low),h.facts⟩,a8⟩
theorem bD1.jdk(h:bD1 W0 w base g m gj F k d j es)(hk:k<=90):JDk 100000000000 d:=h.rb.dk.mono (by have:=dH4 hk;omega)
theorem cI9:∀(rs:List aF2),rs.length<=(rs.map fun q=>q.e.b.length+5).sum
 |[]=>Nat.zero_le _
 |q::r=>by
  have:=cI9 r;rw[mG,List.sum_cons,mC];omega
theorem bW9(h:bD1 W0 w base g m gj F k d j es)(hk:k<=80){E:Nat->Prop}(Ae:Option Addr)(rs:List aF2)(ce:Nat)(d9:RdF w E Ae (aA7 rs))(d8:∀q∈rs,bF9 w E q.v q.e.b)(b8:∀k,E k->k<w.heap.size)(f7:(rs.map fun q=>q.e.b.length+5).sum<=1048576)
  (a8:∀q∈rs,(-9223372036854775808<=q.e.ix∧q.e.ix<=9223372036854775807)∧(-9223372036854775808<=q.e.tm∧q.e.tm<=9223372036854775807)∧(-9223372036854775808<=q.e.kd∧q.e.kd<=9223372036854775807)):
  Calls Tryz.prog 15 #[.pointer (some ⟨gj,0,none⟩),.slice Ae rs.length ce] w fun e w' =>bP7 W0 w base g m gj (k+1) es (aM6 j d (rs.map aF2.e)) e w' :=by
 have hp:=h.ri.pre h.rb (by omega:k<=90);have f6:=cI9 rs;have a9:((rs.map aF2.e).map aD8).flatten.length<=12600000:=by
  have h1:=bQ5 (rs.map aF2.e) (fun e he=>by
   obtain⟨q,hq,rfl⟩:=List.mem_map.1 he;exact⟨(a8 q hq).2.1,(a8 q hq).2.2⟩)
  have h2:(((rs.map aF2.e).map fun e=>e.b.length+5).sum)=(rs.map fun q=>q.e.b.length+5).sum:=by rw[List.map_map];rfl
  rw[h2] at h1;omega
 refine(cW7 h.jn h.bw (h.jdk (by omega)) (by omega) (fun w' hb=>(h.fac w' hb).tab) hp.seg hp.ks hp.long hp.ends hp.sum Ae rs ce d9 d8 b8 (by omega) (by omega) a8).mono fun e w' ht=>?_
 refine h.to ht ?_ (h.rb.save _ h.jn.jn.segB (fun e he=>?_) (by rw[lU];omega) a9)
 ·obtain⟨pw,room,fs⟩:=d
  exact(cT7 h.ri _).1
 obtain⟨q,hq,rfl⟩:=List.mem_map.1 he;exact(a8 q hq).1.2
theorem cB2(h:bD1 W0 w base g m gj F k d j es)(hk:k<=80)(t v:Int)(ht:-9223372036854775808<=t∧t<=9223372036854775807)(hv:-9223372036854775808<=v∧v<=9223372036854775807):
  Calls Tryz.prog 16 #[.pointer (some ⟨gj,0,none⟩),.int .i64 t,.int .i64 v] w fun e w' =>bP7 W0 w base g m gj (k+1) es (aI9 j d t v) e w' :=
 (bX2 h.jn h.bw (h.jdk (by omega)) (by omega) (fun w' hb=>(h.fac w' hb).tab) t v ht hv).mono fun e w' hto=>h.to hto (bY8 h.ri t v).1 (h.rb.setMeta t v ht hv)
end
end
section
open Go.RowKit Go.Maps Oct
def sd0:DkD:=⟨⟨false,false,0,0⟩,1000,[]⟩
def sj0:JnP:=⟨0,0,[],0⟩
def sl1:List aK5:=[⟨1,1,0,[97]⟩,⟨2,1,0,[98]⟩]
def sl2:List aK5:=[⟨2,2,0,[99]⟩]
def sr1:Int×JnP×DkD:=aM6 sj0 sd0 sl1
def sr2:Int×JnP×DkD:=aM6 sr1.2.1 sr1.2.2 sl2
def sr3:Int×JnP×DkD:=aI9 sr2.2.1 sr2.2.2 3 1
def sd4:DkD:=sr3.2.2.boot []
def sr4:Int×Option JnP×DkD:=aI1 sd4
def sj4:JnP:=sr4.2.1.getD sj0
theorem dB0:sr1.1=0∧sr2.1=0∧sr3.1=0∧sr4.1=0:=⟨by kernel_rfl,by kernel_rfl,by kernel_rfl,by kernel_rfl⟩
theorem dA9:sr4.2.1=some sj4:=by
 have h:sr4.2.1.isSome=true:=by kernel_rfl
 unfold sj4;cases hq:sr4.2.1 with
 |none=>rw[hq] at h;cases h
 |some x=>rfl
theorem bY4:sj4.term=3∧sj4.vote=1∧sj4.ents.length=2∧(sj4.ents[1]?).map aK5.b=some [99]:=⟨by kernel_rfl,by kernel_rfl,by kernel_rfl,by kernel_rfl⟩
theorem dM8:aI1 sd0=(0,some sj0,sd0):=by kernel_rfl
theorem ri0{room:Int}:RI sj0 ⟨⟨false,false,0,0⟩,room,[]⟩:=⟨rfl,⟨rfl,rfl⟩,(fun s hs=>by cases hs),List.Pairwise.nil⟩
theorem rb0{room:Int}:RB 0 sj0 ⟨⟨false,false,0,0⟩,room,[]⟩:=⟨⟨by simp[aB8,rbD],by simp[rbD],fun q hq=>by cases hq⟩,by simp[sj0],fun s hs=>by cases hs⟩
theorem aZ1{w W:World}(o:Obj)(hb:Below (w.heap.size+1) (w.alloc o) W):W.heap[w.heap.size]? =some o:=(hb.block _ (by omega)).trans (Go.heap_alloc_new w o)
theorem aV2{w W:World}(o1 o:Obj)(hb:Below (w.heap.size+1+1) ((w.alloc o1).alloc o) W):W.heap[w.heap.size+1]? =some o:=by
 have e:(w.alloc o1).heap.size=w.heap.size+1:=by simp
 have h:=aZ1 (w:=w.alloc o1) (W:=W) o (by rw[e];exact hb)
 rwa[e] at h
theorem cA5{w W:World}(o1 o2 o:Obj)(hb:Below (w.heap.size+1+1+1) (((w.alloc o1).alloc o2).alloc o) W):W.heap[w.heap.size+1+1]? =some o:=by
 have e:(w.alloc o1).heap.size=w.heap.size+1:=by simp
 have h:=aV2 (w:=w.alloc o1) (W:=W) o2 o (by rw[e];exact hb)
 rwa[e] at h
theorem dM4:JDk 1000000000 sd4:=by
 have h3:sd4.fs.all (fun q=>decide (q.1.length<=1000))=true:=by kernel_rfl
 exact⟨of_decide_eq_true (by kernel_rfl),of_decide_eq_true (by kernel_rfl),fun q hq=>of_decide_eq_true (List.all_eq_true.1 h3 q hq)⟩
theorem bB5{w:World}{b:Nat}{T:TypeId}{cs:Array Value}{fz:Nat×Nat}(h:w.heap[b]? =some (.cells cs T fz)){F:Nat->Prop}(hF:F b):RdF w F (some ⟨b,0,none⟩) cs.toList:=fun _=>
 ⟨b,0,rfl,hF,(Array.getElem?_eq_some_iff.1 h).1,fun j u hu=>by rw[Nat.zero_add,Go.cell_of_row w b j cs T fz h,<-Array.getElem?_toList];exact hu⟩
theorem cK5(W0:World)(hF:bO5 W0):Calls Tryz.prog 7 #[] W0 fun e w' =>e=.returned (.bool true)∧Below W0.heap.size W0 w' :=by
 have HF:=qZ hF;clear hF;have kc:=fun(w:World) (C:Array Value) (n c:Nat)=>Lib.run_convert_bytes_const (P:=Tryz.prog) w 34 5 C n c Tryz.underlying34 Tryz.underlying5
 go_enter Tryz.func7,Tryz.ntmps7
 go_wp2_with fail
 refine(cG5 1000 (by omega) W0).mono ?_;rintro e w1 ⟨rfl,hD,g9⟩;have q8:aB4 w1 W0.heap.size (W0.heap.size+1) W0.heap.size sd0.pw sd0.room []:=hD;have m0:=qZ g9;have t4:=g9.size;have d8:=qZ (bK4 q8 (L:=1000) ⟨by simp[aB8,aD6,sec],by simp[aD6,sec],fun q hq=>by cases hq⟩ (by omega) t4 (fun w' hb=>⟨(HF.out.below (m0.out.trans hb)).tab,(HF.out.below (m0.out.trans hb)).err⟩));have he:aD6 sd0.pw sd0.room []=sd0:=rfl;rw[he,dM8] at d8;clear g9 hD q8 he;go_wp2_with fail
 refine d8.out.mono ?_;rintro e w2 ⟨es2,t9,n6,b8,l8,hm⟩;simp only at hm;obtain⟨gj,F,rfl,C6,hJ,m4⟩:=hm;have n9:Below W0.heap.size w1 w2:=b8.below t4 (fun x hx=>by
  rcases hx with h|h|⟨q,hq,_⟩
  ·omega
  ·omega
  cases hq)
 have x4:Hid (bD1 W0 w2 W0.heap.size (W0.heap.size+1) W0.heap.size gj F 0 sd0 sj0 es2):=qZ ⟨⟨t9,n6,hJ,fun x hx=>⟨by have:=(m4 x hx).1;omega,(m4 x hx).2⟩,by omega⟩,ri0,rb0,lR _,by have:=b8.size;omega,m0.out.trans n9,HF.out⟩;have C8:=b8.size;clear t9 n6 b8 l8 hJ m4 n9 d8;have B5:(convert 34 34 (.slice (some ⟨w2.heap.size+1,0,none⟩) 1 1)).run Tryz.prog ((w2.alloc (.cells #[.int .u8 97] 5 (1,2))).alloc (.cells #[.int .u8 98] 5))=.ok (.slice (some ⟨w2.heap.size+1,0,none⟩) 1 1) ((w2.alloc (.cells #[.int .u8 97] 5 (1,2))).alloc (.cells #[.int .u8 98] 5 (1,2))):=by
  have h:=kc (w2.alloc (.cells #[.int .u8 97] 5 (1,2))) #[.int .u8 98] 1 1;have e:(w2.alloc (.cells #[.int .u8 97] 5 (1,2))).heap.size=w2.heap.size+1:=by simp
  rw[e] at h;exact h
 go_wp2_with fail
 obtain⟨wA,g8⟩:∃W,W=((w2.alloc (.cells #[.int .u8 97] 5 (1,2))).alloc (.cells #[.int .u8 98] 5 (1,2))).alloc (.cells #[.int .i64 1,.int .i64 1,.int .i64 0,.slice (some ⟨w2.heap.size,0,none⟩) 1 1,.int .i64 2,.int .i64 1,.int .i64 0,.slice (some ⟨w2.heap.size+1,0,none⟩) 1 1] 65):=⟨_,rfl⟩
 have s9:Below w2.heap.size w2 wA:=by rw[g8];exact(((lS _ w2).alloc (lR _) _).alloc (by simp) _).alloc (by simp<;>omega) _
 have o6:wA.heap[w2.heap.size]? =some (.cells #[.int .u8 97] 5 (1,2)):=by rw[g8];exact aZ1 _ (((lS _ _).alloc (by simp) _).alloc (by simp<;>omega) _)
 have o5:wA.heap[w2.heap.size+1]? =some (.cells #[.int .u8 98] 5 (1,2)):=by rw[g8];exact aV2 _ _ ((lS _ _).alloc (by simp) _)
 have p0:wA.heap[w2.heap.size+1+1]? =some (.cells #[.int .i64 1,.int .i64 1,.int .i64 0,.slice (some ⟨w2.heap.size,0,none⟩) 1 1,.int .i64 2,.int .i64 1,.int .i64 0,.slice (some ⟨w2.heap.size+1,0,none⟩) 1 1] 65):=by rw[g8];exact cA5 _ _ _ (lS _ _)
 have C7:wA.heap.size=w2.heap.size+3:=by rw[g8];simp
 rw[<-g8];have l5:Hid (Calls Tryz.prog 15 #[.pointer (some ⟨gj,0,none⟩),.slice (some ⟨w2.heap.size+1+1,0,none⟩) 2 2] wA fun e w' =>bP7 W0 wA W0.heap.size (W0.heap.size+1) W0.heap.size gj 1 es2 sr1 e w'):=qZ (bW9 (x4.out.below s9) (by omega) (E:=fun x=>x<wA.heap.size) (some ⟨w2.heap.size+1+1,0,none⟩) [⟨.slice (some ⟨w2.heap.size,0,none⟩) 1 1,⟨1,1,0,[97]⟩⟩,⟨.slice (some ⟨w2.heap.size+1,0,none⟩) 1 1,⟨2,1,0,[98]⟩⟩] 2 (bB5 p0 (by omega)) (fun q hq=>by
   simp only[List.mem_cons,List.not_mem_nil,or_false] at hq;rcases hq with rfl|rfl
   ·exact⟨_,_,rfl,lR _,by simp,bB5 o6 (by omega)⟩
   ·exact⟨_,_,rfl,lR _,by simp,bB5 o5 (by omega)⟩) (fun _ h=>h) (by simp) (fun q hq=>by
   simp only[List.mem_cons,List.not_mem_nil,or_false] at hq;rcases hq with rfl|rfl<;>simp))
 clear g8 s9 o6 o5 p0 B5 x4;refine l5.out.mono ?_;rintro e w3 ⟨he,⟨z8,F3,p8⟩,j8⟩;rw[dB0.1] at he;subst he;have p6:=qZ p8;have C3:=j8.size;clear p8 j8 l5;go_wp2_with fail
 obtain⟨wB,i4⟩:∃W,W=(w3.alloc (.cells #[.int .u8 99] 5 (1,2))).alloc (.cells #[.int .i64 2,.int .i64 2,.int .i64 0,.slice (some ⟨w3.heap.size,0,none⟩) 1 1] 65):=⟨_,rfl⟩
 have n7:Below w3.heap.size w3 wB:=by rw[i4];exact((lS _ w3).alloc (lR _) _).alloc (by simp) _
 have o9:wB.heap[w3.heap.size]? =some (.cells #[.int .u8 99] 5 (1,2)):=by rw[i4];exact aZ1 _ ((lS _ _).alloc (by simp) _)
 have g9:wB.heap[w3.heap.size+1]? =some (.cells #[.int .i64 2,.int .i64 2,.int .i64 0,.slice (some ⟨w3.heap.size,0,none⟩) 1 1] 65):=by rw[i4];exact aV2 _ _ (lS _ _)
 have D1:wB.heap.size=w3.heap.size+2:=by rw[i4];simp
 rw[<-i4];have l5:Hid (Calls Tryz.prog 15 #[.pointer (some ⟨gj,0,none⟩),.slice (some ⟨w3.heap.size+1,0,none⟩) 1 1] wB fun e w' =>bP7 W0 wB W0.heap.size (W0.heap.size+1) W0.heap.size gj 2 z8 sr2 e w'):=qZ (bW9 (p6.out.below n7) (by omega) (E:=fun x=>x<wB.heap.size) (some ⟨w3.heap.size+1,0,none⟩) [⟨.slice (some ⟨w3.heap.size,0,none⟩) 1 1,⟨2,2,0,[99]⟩⟩] 1 (bB5 g9 (by omega)) (fun q hq=>by
   obtain rfl:=List.mem_singleton.1 hq;exact⟨_,_,rfl,lR _,by simp,bB5 o9 (by omega)⟩) (fun _ h=>h) (by simp) (fun q hq=>by
   obtain rfl:=List.mem_singleton.1 hq;simp))
 clear i4 n7 o9 g9 p6;refine l5.out.mono ?_;rintro e w4 ⟨he,⟨x6,F4,n8⟩,j9⟩;rw[dB0.2.1] at he;subst he;have C1:=j9.size;have o8:Hid (Calls Tryz.prog 16 #[.pointer (some ⟨gj,0,none⟩),.int .i64 3,.int .i64 1] w4 fun e w' =>bP7 W0 w4 W0.heap.size (W0.heap.size+1) W0.heap.size gj 3 x6 sr3 e w'):=qZ (cB2 n8 (by omega) 3 1 (by omega) (by omega));clear n8 j9 l5;go_wp2_with fail
 refine o8.out.mono ?_;rintro e w5 ⟨he,⟨y8,F5,a9⟩,i6⟩;rw[dB0.2.2.1] at he;subst he;have C4:=i6.size;have l6:=a9.jdk (by omega);have a8:∀q∈y8,(q.1,q.2.f)∈sr3.2.2.fs:=fun q hq=>by rw[<-a9.jn.fs];exact List.mem_map.2 ⟨q,hq,rfl⟩
 have m9:=cR7 a9.jn.disk none [] 0 Rd.none_ (fun n hn=>by cases hn) (by simp) (by have h:=congrArg List.length a9.jn.fs;simp[sec] at h;have:=l6.len;omega) (fun q hq=>by have h1:=aJ5 (a8 q hq);have h2:=l6.sz;have h3:(q.2.f.b.length:Int)<=aB8 sr3.2.2.fs:=h1;omega) (fun q hq=>by have h1:q.1.length<=1000:=l6.nm _ (a8 q hq);omega);rw[DkD.eta' _ a9.jn.fs] at m9;have n5:=qZ m9;have B6:=qZ (fun k hk=>(a9.jn.disk.lt k hk).1);have t7:=qZ a9.from_;have m2:=a9.bw;clear a9 i6 o8 m9 l6 a8;go_wp2_with fail
 refine n5.out.mono ?_;rintro e w6 ⟨⟨v6,rfl⟩,C0,l9,p9,d9,m6⟩;have D4:=d9.size;have m3:=qZ (t7.out.trans (d9.below m2 B6.out));have e4:aD6 (sr3.2.2.boot []).pw (sr3.2.2.boot []).room C0=sd4:=DkD.eta' sd4 p9;have d8:=qZ (bK4 l9 (L:=1000000000) (by rw[e4];exact dM4) (lR _) (by omega) (fun w' hb=>⟨(HF.out.below (m3.out.trans hb)).tab,(HF.out.below (m3.out.trans hb)).err⟩));rw[e4] at d8;have m7:=qZ (fun k hk=>(l9.lt k hk).1);clear l9 p9 e4 d9 m6 n5 t7;go_wp2_with fail
 refine d8.out.mono ?_;rintro e w7 ⟨D3,z9,B2,f7,m5,hm⟩;have j6:aI1 sd4=sr4:=rfl;rw[j6,dA9,dB0.2.2.2] at hm;simp only at hm;obtain⟨gk,F7,rfl,C9,p4,t6⟩:=hm;have C5:=f7.size;have o7:=qZ p4;have t8:=qZ t6;have B4:Hid (Below W0.heap.size W0 w7):=qZ (m3.out.trans (f7.below (by omega) m7.out));clear z9 B2 f7 m5 p4 t6 d8 j6;have m8:=qZ o7.out.meta_;rw[bY4.1,bY4.2.1] at m8;go_wp2_with fail
 refine m8.out.mono ?_;rintro e w8 ⟨rfl,l7⟩;have C2:=l7.size;have x8:=qZ (B4.out.trans (l7.mono (by omega)));have x5:=qZ ((o7.out.below (fun x hx=>(t8.out x hx).2.1) l7).entries (fun x hx=>by have:=(t8.out x hx).2.1;omega) (by rw[bY4.2.2.1];omega));clear l7 m8;go_wp2_with fail
 refine x5.out.mono ?_;rintro e w9 ⟨v9,l4,rfl,f8,f6,q6,p7⟩;have B7:l4.length=2:=by
  have h1:=congrArg List.length f6;rw[lU,bY4.2.2.1] at h1;exact h1
 have f9:1<l4.length:=by omega
 obtain⟨A9,c9,B8,_⟩:=aB2 f8;subst B8;obtain⟨b,o,B9,_,B1,hc⟩:=(RdF.of_row (F:=fun _=>True) f8 (fun _ _ _=>trivial) (by rw[aC3];omega)) (by rw[aC3];omega);subst B9;have n4:l4[1].e.b=[99]:=by
  have h1:=bY4.2.2.2;rw[<-f6,List.getElem?_map,lW f9] at h1
  simpa using h1
 have hq:=q6 l4[1] (lX f9);rw[n4] at hq;obtain⟨A1,c1,p5,k1,k2,o4⟩:=aC5 hq;have e3:w9.cell? ⟨b,o+4+3,none⟩=some (.slice A1 1 c1):=by
  have h:=hc (1*4+3) _ (by rw[aF4 l4 f9 (by omega)];exact rfl);rw[p5] at h
  simpa[Nat.add_assoc] using h
 have D0:(convert 34 9 (.slice A1 1 c1)).run Tryz.prog w9=.ok (.string ⟨#[99]⟩) w9:=aX6 c1 o4;have x7:=qZ (x8.out.trans (p7.mono (by omega)));rw[B7];clear f8 f6 q6 p7 hc n4 hq p5 o4 x5;go_wp2_with fail
 go_ret
 exact⟨rfl,x7.out⟩
end
section
open Go.RowKit Go.Maps Oct
theorem bL2{L:Nat}{d:DkD}{es:List (Nm×RF)}(h:JDk L d)(hs:sec RF.f es=d.fs):(∀q∈es,q.2.f.b.length<=L)∧es.length<=L∧∀q∈es,q.1.length<=1000:=by
 refine⟨fun q hq=>?_,?_,fun q hq=>?_⟩
 ·have hm:(q.1,q.2.f)∈d.fs:=by rw[<-hs];exact List.mem_map.2 ⟨q,hq,rfl⟩
  have h1:=aJ5 hm;have h2:=h.sz;have h3:(q.2.f.b.length:Int)<=aB8 d.fs:=h1;omega
 ·have h1:=h.len
  rw[<-hs,lU] at h1;exact h1
 have hm:(q.1,q.2.f)∈d.fs:=by rw[<-hs];exact List.mem_map.2 ⟨q,hq,rfl⟩
 exact h.nm _ hm
theorem dI3{d:DkD}(h:d.pw.off=false):((d.read aA9).2==0)=d.fs.any fun q=>q.1==aA9:=by
 unfold DkD.read;rw[if_neg (by rw[h];simp)];unfold aB6;cases hf:d.fs.find? (fun p=>p.1==aA9) with
 |none=>
  have h1:=List.find?_eq_none.1 hf;have h2:d.fs.any (fun q=>q.1==aA9)=false:=by
   rw[List.any_eq_false];exact h1
  rw[h2]
  rfl
 |some f=>
  have h1:=List.mem_of_find?_eq_some hf;have h2:=List.find?_some hf;have h3:d.fs.any (fun q=>q.1==aA9)=true:=List.any_eq_true.2 ⟨f,h1,h2⟩;rw[h3]
  rfl
theorem aS4.do_{w wx:World}{base g gj:Nat}{vL vL' :Value}{es es' :List (Nm×RF)}{d:DkD}{t v:Int}{sv:Value}(h:aS4 w base g vL es gj d t v sv 0 wx vL' es')(e:Int):
  Calls Tryz.prog 84 #[.pointer (some ⟨gj,0,none⟩),.int .i64 e] wx fun r w' =>r=.returned (.bool (e==0))∧aS4 w base g vL es gj d t v sv e w' vL' es' ∧Fr (fun k=>k=gj) wx w' :=by
 refine(dD5 h.jb e).mono ?_;rintro r w' ⟨rfl,rfl⟩;rw[if_pos rfl];exact⟨rfl,h.did e,Fr.of_grown (mine:=fun k=>k=gj) (aA0 wx gj 4 _) (fun k e=>by injection e with e;exact e.symm)⟩
theorem dL0{s:aC4}(h:aZ8 s):-9223372036854775808<=s.long∧s.long<=9223372036854775807:=by
 unfold aC4.long;rcases mJ s.ends with h0|⟨r,x,h0⟩
 ·rw[h0];decide
 rw[mA] at h0;have h1:=h.ends x (by rw[h0];simp);rw[h0];simp
 omega
theorem cM9{d:DkD}{es:List (Nm×RF)}(hs:sec RF.f es=d.fs):aJ1 d.pw d.room es=d:=by
 show(⟨d.pw,d.room,sec RF.f es⟩:DkD)=d
 rw[hs]
theorem cL6{w:World}{base g:Nat}{p:PWD}{room:Int}{vL:Value}{es:List (Nm×RF)}(h:aB0 w base g p room vL es){L:Nat}(P2:JDk L (aJ1 p room es))(hL:L<=1000000000):
  Calls Tryz.prog 39 #[.pointer (some ⟨g,0,none⟩)] w fun e w' =>bS8 w base g vL es (aI1 (aJ1 p room es)) e w' :=by
 obtain⟨x,y,J8,_⟩:=h.blk;have g2:w.cell? ⟨g,2,none⟩=some (.bool p.off):=(bN7 J8).1.2.2.1;have HH:=qZ h;obtain⟨d0,O2⟩:∃d,d=aJ1 p room es:=⟨_,rfl⟩
 have W7:p.off=d0.pw.off:=by rw[O2]
 rw[W7] at g2;rw[<-O2] at P2⊢;have Q2:=qZ P2;have N3:=qZ O2;clear h J8 P2 O2 W7;go_enter Tryz.func39,Tryz.ntmps39
 by_cases ho:d0.pw.off=true
 ·have HO:=qZ (bB4 ho)
  rw[ho] at g2;clear ho;go_wp2_with fail
  go_ret2
  rw[HO.out];exact⟨vL,es,by rw[N3.out];exact HH.out,by rw[N3.out],Fr.refl _ _,fun k hk=>.inl hk,rfl⟩
 have I0:d0.pw.off=false:=by simpa using ho
 have HO:=qZ (bH6 I0);have J0:=qZ I0;rw[I0] at g2;obtain⟨w1,M8⟩:∃W,W=w.alloc (.cells #[.pointer (some ⟨g,0,none⟩),.int .i64 0,.int .i64 0,.slice none 0 0,.int .i64 0] 94):=⟨_,rfl⟩
 have N8:Below w.heap.size w w1:=by rw[M8];exact(lS _ w).alloc (lR _) _
 have S5:Blk w1 w.heap.size 94 #[.pointer (some ⟨g,0,none⟩),.int .i64 0,.int .i64 0,.slice none 0 0,.int .i64 0]:=by rw[M8];exact Blk.new w _ _
 have I3:aS4 w base g vL es w.heap.size d0 0 0 (.slice none 0 0) 0 w1 vL es:=
  ⟨by rw[N3.out];exact HH.out.below N8,by rw[N3.out],S5,Fr.of_below _ N8,fun k hk=>.inl hk,lR _⟩
 have C3:=bL2 Q2.out I3.fs;have B8:=cW3 I3.disk aA9 (by omega) (fun q hq=>by have:=C3.1 q hq;omega);rw[cM9 I3.fs,dI3 I0] at B8;replace B8:=qZ B8;have N5:=qZ I3;have S9:=qZ M8;have X3:=qZ C3;obtain⟨gj,Q1⟩:∃n,n=w.heap.size:=⟨_,rfl⟩
 have aV:=N8.size;have aW:=qZ Q1;clear ho I0 M8 N8 S5 I3 C3;go_upto_region 4 with fail
 rw[<-S9.out];rw[<-Q1] at N5⊢;change Hid (Calls Tryz.prog _ #[_,.string ⟨#[109,101,116,97,46,110,101,119]⟩] w1 _) at B8;clear g2 Q1 S9;have aJ:gj<w1.heap.size:=N5.out.jb.lt;obtain⟨B,hB⟩:∃B:Bool,B=d0.fs.any fun q=>q.1==aA9:=⟨_,rfl⟩
 rw[<-hB] at B8;have S7:aP6 d0=if B=true then d0.remove aA9 else(0,d0):=by rw[hB];rfl
 have S0:=qZ S7;clear hB S7;go_wp2_with fail
 refine B8.out.mono ?_;rintro e w2 ⟨rfl,B9⟩;have U1:=B9.size;have R3:=qZ (N5.out.below B9);clear B9 B8 N5;go_upto_if 30 with fail
 go_cut [6] from 31 to 40 (fun bv wx=>∃(D8:Value) (B7:List (Nm×RF)),Hid ((aP6 d0).1=0)∧Hid (aS4 w base g vL es gj (aP6 d0).2 0 0 (.slice none 0 0) 0 wx D8 B7))
 case first=>
  cases B with
  |false=>
   have h1:aP6 d0=(0,d0):=S0.out;go_wp2_with fail
   go_meet;exact⟨vL,es,qZ (by rw[h1]),qZ (by rw[h1];exact R3.out)⟩
  |true=>
   have h1:aP6 d0=d0.remove aA9:=S0.out;have Q9:=qZ h1;have m7:=R3.out.rm aA9 (by have:=X3.out.2.1;omega);change Calls Tryz.prog _ #[_,.string ⟨#[109,101,116,97,46,110,101,119]⟩] w2 _ at m7;rw[<-h1] at m7;replace m7:=qZ m7;clear h1;go_wp2_with fail
   refine m7.out.mono ?_;rintro e w3 ⟨rfl,t9,p8,W5,_,_⟩;have m2:=qZ (W5.do_ (aP6 d0).1);clear W5 m7;go_wp2_with fail
   refine m2.out.mono ?_;rintro e w4 ⟨rfl,X2,Z7⟩;have O1:=qZ X2;clear X2 Z7 m2;obtain⟨rc,g9⟩:∃x,x=(aP6 d0).1:=⟨_,rfl⟩
   rw[<-g9] at O1⊢;have z8:=qZ g9;clear g9;by_cases hz:rc=0
   ·subst hz
    go_wp2_with fail
    go_meet;exact⟨t9,p8,qZ z8.out.symm,O1⟩
   have J3:(rc==0)=false:=beq_eq_false_iff_ne.2 hz;have j4:w4.cell? ⟨gj,4,none⟩=some (.int .i64 rc):=O1.out.jb.cell 4;have hr:aI1 d0=(rc,none,(aP6 d0).2):=by rw[HO.out,if_neg (by rw[<-z8.out];exact hz),<-z8.out]
   have HR:=qZ hr;clear hz hr;go_wp2_with fail
   go_quiet (fail);go_wp2_with fail
   go_ret2
   exact(O1.out.below (aA3 (lS _ w4) _)).endNone rc HR.out
 obtain⟨D8,B7,HZ,G0⟩:=hcut;have hr:aI1 d0=aN9 (aP6 d0).2:=by rw[HO.out,if_pos HZ.out]
 have HR:=qZ hr;have J5:=qZ (cG1 J0.out HZ.out);have n6:=qZ (cC0 Q2.out);obtain⟨d1,T0⟩:∃x,x=(aP6 d0).2:=⟨_,rfl⟩
 rw[<-T0] at HR J5 n6 G0;clear hr T0 HZ HO Q2 J0 S0 R3 X3 U1;have C3:=bL2 n6.out G0.out.fs;have D6:=qZ C3;have I7:=cP3 G0.out.disk (by omega) (fun q hq=>by have:=C3.1 q hq;omega);rw[cM9 G0.out.fs] at I7;replace I7:=qZ I7;clear C3;go_wp2_with fail
 refine I7.out.mono ?_;rintro e w2 ⟨B9,mt,mv,Y6,rfl,hM⟩;have C6:=qZ (G0.out.below B9);have U1:=B9.size;have E9:=qZ hM;have J2:=cK6 C6.out.disk (by have:=D6.out.2.1;omega) D6.out.2.2 (fun q hq=>by have:=D6.out.1 q hq;omega);rw[cM9 C6.out.fs] at J2;replace J2:=qZ J2;clear B9 hM I7 G0;go_wp2_with fail
 refine J2.out.mono ?_;rintro e w3 ⟨Q7,v3,rfl,S1⟩;have m8:=qZ (C6.out.below Q7);have aL:=Q7.size;have G5:=qZ S1;obtain⟨lo,B6⟩:∃n,n=w2.heap.size:=⟨_,rfl⟩
 have Z6:gj<lo:=by rw[B6];exact C6.out.jb.lt
 have bH:w.heap.size<=lo:=by rw[B6];exact C6.out.fr.size
 have O0:=qZ (show∀k,aC1 g D8 B7 k->k<lo from fun k hk=>by rw[B6];exact(C6.out.disk.lt k hk).2);have Z9:lo<=w3.heap.size:=by omega
 have K5:=qZ B6;obtain⟨M,hM⟩:∃M,M=aF3 d1:=⟨_,rfl⟩
 obtain⟨LJ,N0⟩:∃x,x=aM4 d1:=⟨_,rfl⟩
 have B2:aN9 d1=cK1 M LJ d1:=by rw[hM,N0];exact aT3 d1
 have d9:=qZ B2;have s9:=qZ (show∀l,LJ=some l->l.length<=d1.fs.length∧(∀y∈l,aZ8 y.1∧(1<=y.1.k∧y.1.k<=999999999)∧(y.1.ends=[]∧y.1.l=[]∨bK7 y.1∧1<=y.1.first)∧(∀e∈y.1.l,e.b.length<=65535)∧y.1.l.length<=1000000000)∧aL1 l=true from fun l hl=>cH1 (d:=d1) (by rw[<-N0];exact hl) (fun q hq=>by
  rw[<-m8.out.fs] at hq;obtain⟨x,hx,rfl⟩:=List.mem_map.1 hq;have:=D6.out.1 x hx;show x.2.f.b.length<=_
  omega))
 have N9:=qZ (show∀t v,M=some (t,v)->(-9223372036854775808<=t∧t<=9223372036854775807)∧(-9223372036854775808<=v∧v<=9223372036854775807) from fun t v e=>bC7 (d:=d1) (by rw[<-hM];exact e));rw[<-hM] at E9;rw[<-N0] at G5⊢;clear Q7 S1 J2 C6 B6 hM N0 B2;rcases M with _|⟨bK,aO⟩
 ·obtain rfl:Y6=false:=E9.out
  have p5:=qZ (show aI1 d0=(53,none,d1) by rw[HR.out,d9.out];rfl);clear G5 s9 E9 HR d9 N9;cases LJ with
  |none=>
   go_wp2_with fail
   go_ret2
   exact m8.out.endNone 53 p5.out
  |some l=>
   go_wp2_with fail
   go_ret2
   exact m8.out.endNone 53 p5.out
 obtain⟨rfl,e1,e2⟩:=E9.out;simp only at e1 e2;subst e1 e2;rcases LJ with _|l
 ·have p5:=qZ (show aI1 d0=(53,none,d1) by rw[HR.out,d9.out];rfl)
  clear G5 s9 E9 HR d9 N9;go_wp2_with fail
  go_ret2
  exact m8.out.endNone 53 p5.out
 obtain⟨a9,D0,x7,x5⟩:=G5.out l rfl;obtain⟨A,c,rfl,Z4,L6,_⟩:=aB2 D0;have R8:=s9.out l rfl;have D5:a9.length=l.length:=by rw[<-x7,lU]
 have T7:a9.length<=1000000000:=by
  have h1:=R8.1;have h2:=D6.out.2.1;have h3:d1.fs.length=B7.length:=by rw[<-m8.out.fs];simp
  omega
 have j6:∀q∈a9,aZ8 q.s∧(1<=q.s.k∧q.s.k<=999999999)∧q.s.l.length<=1000000000:=fun q hq=>by
  have h1:=R8.2.1 q.o (by rw[<-x7];exact List.mem_map.2 ⟨q,hq,rfl⟩);exact⟨h1.1,h1.2.1,h1.2.2.2.2⟩
 have j8:=qZ j6;have M2:cB7 w3 (fun k=>lo<=k∧k<w3.heap.size) A c a9:=⟨RdF.of_row D0 (fun k h1 h2=>⟨by rw[K5.out];exact h1,h2⟩) (by rw[aH8]),⟨Z4,L6⟩,fun q hq=>(x5 q hq).1.rd (j6 q hq).1 (x5 q hq).2.1 (x5 q hq).2.2 (fun k h1 h2=>⟨by rw[K5.out];exact h1,h2⟩)⟩;have G3:=qZ M2;have m5:=qZ x7;have I5:=qZ (N9.out mt mv rfl);clear D0 x7 x5 R8 M2 G5 s9 D5 j6 E9 N9;obtain⟨w4,G2⟩:∃W,W=(w3.setCell ⟨gj,1,none⟩ (.int .i64 mt)).setCell ⟨gj,2,none⟩ (.int .i64 mv):=⟨_,rfl⟩
 have T3:aS4 w base g vL es gj d1 mt mv (.slice none 0 0) 0 w4 D8 B7:=by
  have h1:aS4 w base g vL es gj d1 mt 0 (.slice none 0 0) 0 (w3.setCell ⟨gj,1,none⟩ (.int .i64 mt)) D8 B7:=m8.out.put (aA0 w3 gj 1 _) (by have:=m8.out.jb.set_ 1 (.int .i64 mt);simpa using this);rw[G2];exact h1.put (aA0 _ gj 2 _) (by have:=h1.jb.set_ 2 (.int .i64 mv);simpa using this)
 have U9:cB7 w4 (fun k=>lo<=k∧k<w3.heap.size) A c a9:=by
  rw[G2];exact(G3.out.keep (w' :=w3.setCell ⟨gj,1,none⟩ (.int .i64 mt)) (aA0 w3 gj 1 _).size (fun k hk=>Below.heap_setCell w3 _ _ k (by show k≠gj;omega))).keep (aA0 _ gj 2 _).size (fun k hk=>Below.heap_setCell _ _ _ k (by show k≠gj;omega))
 have aQ:w3.heap.size=w4.heap.size:=by rw[G2];simp
 have j1:w3.cell? ⟨gj,1,none⟩=some (.int .i64 0):=m8.out.jb.cell 1;have j2:w3.cell? ⟨gj,2,none⟩=some (.int .i64 0):=m8.out.jb.cell 2;have f1:w3.frozen? ⟨gj,1,none⟩=false:=m8.out.jb.frozen 1;have f2:w3.frozen? ⟨gj,2,none⟩=false:=m8.out.jb.frozen 2;have N4:=qZ T3;have x8:=qZ U9;have X4:=qZ G2;clear T3 U9 G2;go_upto_region 15 with fail
 rw[<-X4.out];clear j1 j2 f1 f2 X4 m8 G3;obtain⟨B3,S2⟩:∃B:Bool,B=true↔∃r q,a9=r++[q]∧q.s.ends=[]:=by
  by_cases hh:∃r q,a9=r++[q]∧q.s.ends=[]
  ·exact⟨true,by simp[hh]⟩
  exact⟨false,Iff.intro (fun h=>by cases h) (fun h=>absurd h hh)⟩
 have t4:=qZ S2;clear S2;go_cut [77] from 66 to 77 (fun cv wx=>cv=.bool B3∧wx=w4)
 case first=>
  rcases mJ a9 with h0|⟨r,q,h0⟩
  ·have hB:B3=false:=by
    cases B3 with
    |false=>rfl
    |true=>
     obtain⟨r,q,h1,_⟩:=t4.out.1 rfl;rw[h0] at h1;simp at h1
   subst h0;subst hB;clear t4 x8 m5 j8;go_wp2_with fail
   go_meet;exact⟨rfl,rfl⟩
  rw[mA] at h0;have D5:a9.length=r.length+1:=by rw[h0];simp
  have B1:a9[r.length]'(by omega)=q:=by simp[h0]
  obtain⟨ab,ao,rfl,_,l9,f7⟩:=x8.out.at_ (i:=r.length) (by omega);have c6:=f7 6 (.bool q.em) (by rw[B1];rfl);have X5:=(x8.out.rd q (by rw[h0];simp)).em;have T9:B3=q.em:=by
   rw[X5];cases hx:q.s.ends with
   |nil=>exact t4.out.2 ⟨r,q,h0,hx⟩
   |cons a l=>
    cases B3 with
    |false=>rfl
    |true=>
     obtain⟨r',q',h1,h2⟩:=t4.out.1 rfl;rw[h0] at h1;have:=List.append_inj_right' h1 rfl;injection this with this _
     subst this;rw[h2] at hx;cases hx
  obtain⟨n1,E5⟩:∃n,n=r.length:=⟨_,rfl⟩
  rw[<-E5] at c6;have Y2:(a9.length:Int)-1=(n1:Int):=by omega
  have U7:IntKind.i64.wrap (n1:Int)=(n1:Int):=mH _ (by omega);have Y0:(0:Int)<(a9.length:Int):=by omega
  have aA:n1<a9.length:=by omega
  have O6:(n1:Int)<(a9.length:Int):=by omega
  rw[<-T9] at c6;clear h0 B1 f7 E5 x8 m5 j8 t4 D5 X5 T9;go_wp2_with fail
  go_meet;exact⟨rfl,rfl⟩
 obtain⟨rfl,rfl⟩:=hcut;go_upto_if 77 with fail
 go_cut [10,12] from 78 to 100 (fun v o wx=>∃(a8:List RqR) (d2:DkD) (D3:Value) (es2:List (Nm×RF)),v=.slice A a8.length c∧a8.length<=a9.length∧w3.heap.size<=wx.heap.size∧Hid (aS4 w base g vL es gj d2 mt mv (.slice none 0 0) 0 wx D3 es2)∧Hid (cB7 wx (fun k=>lo<=k∧k<w3.heap.size) A c a8)∧Hid (aI1 d0=aE3 (a8.map RqR.o) (mt,mv) d2)∧Hid (JDk L d2)∧Hid (∀q∈a8,q∈a9)∧Hid (∀k,lo<=k∧k<w3.heap.size->¬aC1 g D3 es2 k))
 case first=>
  cases B3 with
  |false=>
   have V2:¬∃r q,a9=r++[q]∧q.s.ends=[]:=fun hh=>by have:=t4.out.2 hh;cases this
   have j6:aI1 d0=aE3 (a9.map RqR.o) (mt,mv) d1:=by
    rw[HR.out,d9.out,<-m5.out];rcases mJ a9 with h0|⟨r,q2,h0⟩
    ·rw[h0];rfl
    rw[mA] at h0;rw[h0];show aI7 _ _ _=_
    rw[aX7,if_neg];intro h1;exact V2 ⟨r,q2,h0,by simpa using h1⟩
   have n8:=qZ j6;have E8:=qZ (show∀k,lo<=k∧k<w3.heap.size->¬aC1 g D8 B7 k from fun k hk hf=>by have:=O0.out k hf;omega);have D7:=qZ (show∀q∈a9,q∈a9 from fun q hq=>hq);clear V2 j6;go_wp2_with fail
   go_meet;exact⟨a9,d1,D8,B7,rfl,lR _,by omega,N4,x8,n8,n6,D7,E8⟩
  |true=>
   obtain⟨r,q,h0,U4⟩:=t4.out.1 rfl;have D5:a9.length=r.length+1:=by rw[h0];simp
   have B1:a9[r.length]'(by omega)=q:=by simp[h0]
   obtain⟨ab,ao,rfl,_,l9,f7⟩:=x8.out.at_ (i:=r.length) (by omega);have c0:wc.cell? ⟨ab,ao+r.length*8,none⟩=some (.int .i64 q.s.k):=f7 0 (.int .i64 q.s.k) (by rw[B1];rfl);have G7:=(j8.out q (by rw[h0];simp)).2.1;have f9:=qZ (aW7 q.s.k (by omega) wc);have X0:cB7 wc (fun k=>lo<=k∧k<w3.heap.size) (some ⟨ab,ao,none⟩) c r:=by
    have h1:=x8.out.take (n:=r.length) (by omega);rw[h0] at h1
    simpa using h1
   have T8:=qZ X0;have D7:=qZ (show∀x∈r,x∈a9 from fun x hx=>by rw[h0];simp[hx]);have j6:aI1 d0=if(d1.remove (aA8 q.s.k)).1=0 then aE3 (r.map RqR.o) (mt,mv) (d1.remove (aA8 q.s.k)).2 else((d1.remove (aA8 q.s.k)).1,none,(d1.remove (aA8 q.s.k)).2):=by
    rw[HR.out,d9.out,<-m5.out,h0];show aI7 _ _ _=_
    rw[aX7,if_pos (by simp[U4])]
   have n8:=qZ j6;obtain⟨nm,q8⟩:∃n,n=aA8 q.s.k:=⟨_,rfl⟩
   rw[<-q8] at f9 n8;have C2:=qZ (show JDk L (d1.remove nm).2 from n6.out.run (.rm nm));obtain⟨n1,E5⟩:∃n,n=r.length:=⟨_,rfl⟩
   have Q9:=qZ E5;rw[<-E5] at c0;obtain⟨qk,n9⟩:∃x,x=q.s.k:=⟨_,rfl⟩
   rw[<-n9] at c0 f9;have Y2:(a9.length:Int)-1=(n1:Int):=by omega
   have U7:IntKind.i64.wrap (n1:Int)=(n1:Int):=mH _ (by omega);have aA:n1<a9.length:=by omega
   have O6:(n1:Int)<(a9.length:Int):=by omega
   have Y7:n1<=c:=by omega
   have K9:=fun W:World=>bK2 (P:=Tryz.prog) Tryz.underlying92 aM2 (some ⟨ab,ao,none⟩) a9.length c n1 (by omega) (n1:Int) rfl W
   clear h0 B1 f7 q8 E5 x8 m5 t4 D5 X0 j6 U4 G7 d9 n9 j8;go_wp2_with fail
   refine f9.out.mono ?_;rintro e w5 ⟨rfl,l5⟩;have G4:=qZ (N4.out.below l5);have I9:=qZ l5;have K8:=l5.size;have m7:=qZ (G4.out.rm nm (by have:=D6.out.2.1;omega));clear l5 f9 N4;go_wp2_with fail
   refine m7.out.mono ?_;rintro e w6 ⟨rfl,D3,es2,o5,f8,b8⟩;have m2:=qZ (o5.do_ (d1.remove nm).1);have J1:=b8.size;have V5:∀k,lo<=k∧k<w3.heap.size->w6.heap[k]? =wc.heap[k]? :=fun k hk=>(b8.block k (by omega) (fun h1=>by have:=O0.out k h1;omega)).trans (I9.out.block k (by omega))
   have L3:=qZ V5;have E8:=qZ (show∀k,lo<=k∧k<w3.heap.size->¬aC1 g D3 es2 k from fun k hk hf=>by
    rcases f8 k hf with h1|h1
    ·have:=O0.out k h1;omega
    omega)
   clear o5 f8 b8 V5 m7 I9 G4;go_wp2_with fail
   refine m2.out.mono ?_;rintro e w7 ⟨rfl,o6,l6⟩;have J6:=l6.size;have B5:=qZ (T8.out.keep (w' :=w7) (by omega) (fun k hk=>(l6.block k (by omega) (by omega)).trans (L3.out k hk)));have j9:=qZ o6;have Q5:w3.heap.size<=w7.heap.size:=by omega
   clear o6 l6 m2 L3 T8;obtain⟨rc,g9⟩:∃x,x=(d1.remove nm).1:=⟨_,rfl⟩
   rw[<-g9] at j9 n8⊢;clear g9;by_cases hz:rc=0
   ·subst hz
    have C0:=qZ (n8.out.trans (if_pos rfl));clear n8;go_wp2_with fail
    go_meet;exact⟨r,(d1.remove nm).2,D3,es2,by rw[Q9.out],by have:=Q9.out;omega,Q5,j9,B5,C0,C2,D7,E8⟩
   have C0:=qZ (n8.out.trans (if_neg hz));have J3:(rc==0)=false:=beq_eq_false_iff_ne.2 hz;have j4:w7.cell? ⟨gj,4,none⟩=some (.int .i64 rc):=j9.out.jb.cell 4;clear n8 hz K9;go_wp2_with fail
   go_quiet (fail);go_wp2_with fail
   go_ret2
   exact(j9.out.below (aA3 (lS _ w7) _)).endNone rc C0.out
 obtain⟨a8,d2,D3,es2,rfl,aF,U7,G4,P0,n8,I4,M0,E8⟩:=hcut;clear t4 N4 x8 d9 HR m5 D6 n6 J5 O0;have V6:a8.length<=1000000000:=by omega
 go_wp2_with fail
 go_loopw [13,14,15,16] (fun fv iv _ _ wr=>∃(k st:Nat),(1<=k∧st<k)∧(k<=a8.length∨k=1)∧fv=.int .i64 st∧iv=.int .i64 k∧Hid (aG2 [] ((a8.map RqR.s).take k)=((a8.map RqR.s).take k).drop st)∧Hid (Below wc.heap.size wc wr)) (fun _ iv _ _ _=>a8.length+1-(intOf iv).toNat)
 case atStart=>
  refine⟨1,0,by omega,.inr rfl,rfl,rfl,qZ ?_,qZ (lS _ _)⟩;cases a8 with
  |nil=>rfl
  |cons a r=>simp[aG2]
 obtain⟨k,st,⟨X8,C7⟩,Z0,rfl,rfl,q6,HB⟩:=hrel;have R4:=HB.out.size;by_cases hlt:k<a8.length
 ·obtain⟨m,rfl⟩:∃m,k=m+1:=⟨k-1,by omega⟩
  have N2:=qZ (P0.out.keep R4 (fun x hx=>HB.out.block x (by omega)));obtain⟨ab,ao,rfl,_,l9,f6⟩:=N2.out.at_ (i:=m) (by omega);obtain⟨bI,bC,e1,_,_,M6⟩:=N2.out.at_ (i:=m+1) (by omega);injection e1 with e1
  injection e1 with e1 e2 _
  subst e1 e2;obtain⟨p,hp⟩:∃x,x=a8[m]'(by omega):=⟨_,rfl⟩
  obtain⟨q,hq⟩:∃x,x=a8[m+1]'(by omega):=⟨_,rfl⟩
  rw[<-hp] at f6;rw[<-hq] at M6;have P9:p∈a8:=by rw[hp];exact lX _
  have p7:q∈a8:=by rw[hq];exact lX _
  have J4:=qZ ((N2.out.rd p P9).last (by have:=(j8.out p (M0.out p P9)).2.2;omega));have aI:=(j8.out q (M0.out q p7)).1.first;have X7:q.s.goesOn p.s=(decide (q.s.first-1=p.s.last.1)&&decide (q.s.term=p.s.last.2)):=rfl;have E7:=qZ (fun hg:q.s.goesOn p.s=true=>cH6 (sl:=a8.map RqR.s) (k:=m+1) (st:=st) (by simpa using hlt) (fun _=>C7) q6.out (by omega) (fun _=>by
   simp only[List.getElem_map,Nat.add_sub_cancel];rw[<-hp,<-hq];exact hg))
  have p4:=qZ (fun hg:q.s.goesOn p.s=false=>cR2 (sl:=a8.map RqR.s) (k:=m+1) (st:=st) (by simpa using hlt) (by omega) (fun _=>C7) q6.out (by
   simp only[List.getElem_map,Nat.add_sub_cancel];rw[<-hp,<-hq];exact hg))
  have e0:=f6 0 (.int .i64 p.s.k) rfl;have e1:=f6 1 (.int .i64 p.s.first) rfl;have e2:=f6 2 (.int .i64 p.s.term) rfl;have e3:=f6 3 p.vl rfl;have e4:=f6 4 p.ve rfl;have e5:=f6 5 (.int .i64 p.lo) rfl;have e6:=f6 6 (.bool p.em) rfl;have e7:=f6 7 (.bool p.tn) rfl;rw[Nat.add_zero] at e0;have y1:=M6 1 (.int .i64 q.s.first) rfl;have y2:=M6 2 (.int .i64 q.s.term) rfl;have HY:=qZ (And.intro y1 y2);have aK:=qZ (And.intro hp hq);unfold RqR.vl at e3 J4;unfold RqR.ve at e4 J4;rw[X7] at E7 p4;obtain⟨ix,O7⟩:∃x,x=p.s.last.1:=⟨_,rfl⟩
  obtain⟨tm,P7⟩:∃x,x=p.s.last.2:=⟨_,rfl⟩
  obtain⟨qf,t8⟩:∃x,x=q.s.first:=⟨_,rfl⟩
  obtain⟨qt,C5⟩:∃x,x=q.s.term:=⟨_,rfl⟩
  rw[<-O7,<-P7] at J4;rw[<-O7,<-P7,<-t8,<-C5] at E7 p4;rw[<-t8] at aI;rw[<-t8,<-C5] at HY;have bE:m<=1000000000:=by omega
  have bJ:IntKind.i64.wrap (((m+1:Nat):Int)-1)=(m:Int):=by rw[mH _ (by omega)];omega
  have aB:((m+1:Nat):Int)-1=(m:Int):=by omega
  have Y9:IntKind.i64.wrap (m:Int)=(m:Int):=mH _ (by omega);have aP:(m:Int)<(a8.length:Int):=by omega
  have Y3:m<a8.length:=by omega
  have aD:((m+1:Nat):Int)<(a8.length:Int):=by omega
  have bF:IntKind.i64.wrap (qf-1)=qf-1:=mH _ (by omega);clear f6 M6 X7 y1 y2 hp hq P9 p7 N2 O7 P7 t8 C5;go_wp2_with fail
  refine J4.out.mono ?_;rintro e w6 ⟨rfl,M9⟩;have Q4:=qZ (HB.out.trans (M9.mono R4));have y1:w6.cell? ⟨ab,ao+(m+1)*8+1,none⟩=some (.int .i64 qf):=(M9.cell (p:=⟨ab,ao+(m+1)*8+1,none⟩) l9).trans HY.out.1;have y2:w6.cell? ⟨ab,ao+(m+1)*8+2,none⟩=some (.int .i64 qt):=(M9.cell (p:=⟨ab,ao+(m+1)*8+2,none⟩) l9).trans HY.out.2;clear M9 J4 e0 e1 e2 e3 e4 e5 e6 e7 HY HB;by_cases h1:qf-1=ix
  ·by_cases h2:qt=tm
   ·have L4:=qZ (E7.out (by rw[decide_eq_true h1,decide_eq_true h2];rfl))
    have b1:(qf-1 !=ix)=false:=bne_eq_false_iff_eq.2 h1;have b2:(qt !=tm)=false:=bne_eq_false_iff_eq.2 h2;clear h1 h2 E7 p4;go_wp2_with fail
    go_roundw
    case rel=>exact⟨m+1+1,st,by omega,.inl (by omega),rfl,by go_num,L4,Q4⟩
    case measure=>simp[intOf];omega
   have L4:=qZ (p4.out (by rw[decide_eq_false h2,Bool.and_false]));have b1:(qf-1 !=ix)=false:=bne_eq_false_iff_eq.2 h1;have b2:(qt !=tm)=true:=bne_iff_ne.2 h2;clear h1 h2 E7 p4;go_wp2_with fail
   go_roundw
   case rel=>exact⟨m+1+1,m+1,by omega,.inl (by omega),rfl,by go_num,L4,Q4⟩
   case measure=>simp[intOf];omega
  have L4:=qZ (p4.out (by rw[decide_eq_false h1,Bool.false_and]));have b1:(qf-1 !=ix)=true:=bne_iff_ne.2 h1;clear h1 E7 p4;go_wp2_with fail
  go_roundw
  case rel=>exact⟨m+1+1,m+1,by omega,.inl (by omega),rfl,by go_num,L4,Q4⟩
  case measure=>simp[intOf];omega
 have I1:aG2 [] (a8.map RqR.s)=(a8.map RqR.s).drop st∧st<=a8.length∧(0<a8.length->st<a8.length):=by
  have h1:=q6.out;rw[List.take_of_length_le (by simp;omega)] at h1;exact⟨h1,by omega,fun h=>by omega⟩
 have O4:=qZ (G4.out.below HB.out);have U0:=qZ (P0.out.keep R4 (fun x hx=>HB.out.block x (by omega)));have p4:=qZ I1.1;obtain⟨_,n5,C4⟩:=I1;clear q6 G4 P0 HB;obtain⟨all,o4⟩:∃a,a=(a8.take st).map (fun q=>aD3.rm (aA8 q.s.k))++cE2 a8:=⟨_,rfl⟩
 have V9:=bZ2 a8 (mt,mv) d2 n5 p4.out (r:=aI5 all d2) (by rw[o4]);have i6:=qZ (n8.out.trans V9);have U6:∀k (h:k<st) (h2:k<a8.length),all.drop k=.rm (aA8 a8[k].s.k)::all.drop (k+1):=fun k h h2=>by
  have Q8:k<all.length:=by rw[o4,lT,lU,lV];omega
  rw[List.drop_eq_getElem_cons Q8]
  congr 1
  simp only[o4];rw[List.getElem_append_left (by rw[lU,lV];omega),List.getElem_map,List.getElem_take]
 have V4:=qZ U6;have B4:=qZ (show all.drop st=cE2 a8 by
  rw[o4,List.drop_append_of_le_length (by rw[lU,lV];omega),List.drop_of_length_le (by rw[lU,lV];omega),List.nil_append])
 have Q3:w3.heap.size<=wr.heap.size:=by omega
 have aH:gj<wr.heap.size:=O4.out.jb.lt;have Q0:¬(k:Int)<(a8.length:Int):=by omega
 clear o4 V9 U6 n8 p4 X8 C7 Z0 hlt;go_wp2_with fail
 go_loopw [17,18] (fun iv _ wz=>∃(k:Nat) (d3:DkD) (t9:Value) (p8:List (Nm×RF)),k<=st∧iv=.int .i64 k∧Hid (aS4 w base g vL es gj d3 mt mv (.slice none 0 0) 0 wz t9 p8)∧Hid (cB7 wz (fun k=>lo<=k∧k<w3.heap.size) A c a8)∧Hid (JDk L d3)∧Hid (∀x,lo<=x∧x<w3.heap.size->¬aC1 g t9 p8 x)∧Hid (aI5 all d2=aI5 (all.drop k) d3)∧Hid (w3.heap.size<=wz.heap.size)) (fun iv _ _=>st-(intOf iv).toNat)
 case atStart=>exact⟨0,d2,D3,es2,by omega,rfl,O4,U0,I4,E8,qZ rfl,qZ Q3⟩
 obtain⟨k,d3,t9,p8,hk,rfl,z9,B5,m6,n4,o9,U8⟩:=hrel;have Y1:=U8.out;clear O4 U0 I4 E8 U8;by_cases hlt:k<st
 ·have I6:k<a8.length:=by omega
  obtain⟨ab,ao,rfl,_,l9,f6⟩:=B5.out.at_ (i:=k) I6;obtain⟨q,hq⟩:∃x,x=a8[k]:=⟨_,rfl⟩
  have p7:q∈a8:=by rw[hq];exact lX _
  have G8:=V4.out k hlt I6;rw[<-hq] at f6 G8;have c0:wr.cell? ⟨ab,ao+k*8,none⟩=some (.int .i64 q.s.k):=f6 0 (.int .i64 q.s.k) rfl;have G7:=(j8.out q (M0.out q p7)).2.1;obtain⟨qk,n9⟩:∃x,x=q.s.k:=⟨_,rfl⟩
  rw[<-n9] at c0 G8 G7;obtain⟨nm,q8⟩:∃n,n=aA8 qk:=⟨_,rfl⟩
  have f9:=aW7 qk (by omega) wr;rw[<-q8] at f9 G8;replace f9:=qZ f9;have Z1:=qZ G8;have R7:=bL2 m6.out z9.out.fs;have C2:=qZ (show JDk L (d3.remove nm).2 from m6.out.run (.rm nm));have Q0:(k:Int)<(a8.length:Int):=by omega
  have Y5:(k:Int)<(st:Int):=by omega
  have Y4:=R7.2.1;clear f6 G8 hq p7 n9 q8 R7;go_wp2_with fail
  refine f9.out.mono ?_;rintro e w5 ⟨rfl,l5⟩;have y8:=qZ (z9.out.below l5);have I9:=qZ l5;have K8:=l5.size;have m7:=qZ (y8.out.rm nm (by omega));clear l5 f9 z9;go_wp2_with fail
  refine m7.out.mono ?_;rintro e w6 ⟨rfl,p0,o8,o5,f8,b8⟩;have m2:=qZ (o5.do_ (d3.remove nm).1);have J1:=b8.size;have L3:=qZ (show∀x,lo<=x∧x<w3.heap.size->w6.heap[x]? =wr.heap[x]? from fun x hx=>(b8.block x (by omega) (n4.out x hx)).trans (I9.out.block x (by omega)));have l7:=qZ (show∀x,lo<=x∧x<w3.heap.size->¬aC1 g p0 o8 x from fun x hx hf=>by
   rcases f8 x hf with h1|h1
   ·exact n4.out x hx h1
   omega)
  clear o5 f8 b8 m7 I9 y8 c0;go_wp2_with fail
  refine m2.out.mono ?_;rintro e w7 ⟨rfl,o6,l6⟩;have J6:=l6.size;have C9:=qZ (B5.out.keep (w' :=w7) (by omega) (fun x hx=>(l6.block x (by omega) (by omega)).trans (L3.out x hx)));have j9:=qZ o6;have R1:=qZ (show w3.heap.size<=w7.heap.size by omega);clear o6 l6 m2 L3 B5;have l8:=o9.out;rw[Z1.out,aJ9] at l8;change aI5 all d2=if(d3.remove nm).1=0 then aI5 (all.drop (k+1)) (d3.remove nm).2 else d3.remove nm at l8
  obtain⟨rc,g9⟩:∃x,x=(d3.remove nm).1:=⟨_,rfl⟩
  rw[<-g9] at j9 l8⊢;by_cases hz:rc=0
  ·subst hz
   have P3:=qZ (l8.trans (if_pos rfl));clear l8 o9 g9;go_wp2_with fail
   go_roundw
   case rel=>exact⟨k+1,(d3.remove nm).2,p0,o8,by omega,by go_num,j9,C9,C2,l7,P3,R1⟩
   case measure=>simp[intOf];omega
  have S6:aI1 d0=(rc,none,(d3.remove nm).2):=by
   rw[i6.out,l8.trans (if_neg hz),<-g9,if_neg hz]
  have p5:=qZ S6;have J3:(rc==0)=false:=beq_eq_false_iff_ne.2 hz;have j4:w7.cell? ⟨gj,4,none⟩=some (.int .i64 rc):=j9.out.jb.cell 4;clear l8 o9 g9 S6 hz;go_wp2_with fail
  go_quiet (fail);go_wp2_with fail
  go_ret2
  exact(j9.out.below (aA3 (lS _ w7) _)).endNone rc p5.out
 obtain rfl:k=st:=by omega
 have l8:=o9.out;rw[B4.out] at l8;have N7:=qZ l8;have P8:=B5.out.cap;have j3:wr.cell? ⟨gj,3,none⟩=some (.slice none 0 0):=z9.out.jb.cell 3;have f3:wr.frozen? ⟨gj,3,none⟩=false:=z9.out.jb.frozen 3;have K0:=fun W:World=>bC3 (P:=Tryz.prog) Tryz.underlying92 aM2 A a8.length c k n5 (k:Int) rfl W
 obtain⟨W8,L5⟩:∃W,W=wr.setCell ⟨gj,3,none⟩ (.slice (cC2 A k c 8) (a8.length-k) (c-k)):=⟨_,rfl⟩
 have T5:aS4 w base g vL es gj d3 mt mv (.slice (cC2 A k c 8) (a8.length-k) (c-k)) 0 W8 t9 p8:=by
  rw[L5];exact z9.out.put (aA0 _ gj 3 _) (by have:=z9.out.jb.set_ 3 (.slice (cC2 A k c 8) (a8.length-k) (c-k));simpa using this)
 have X1:cB7 W8 (fun k=>lo<=k∧k<w3.heap.size) A c a8:=by
  rw[L5];exact B5.out.keep (aA0 _ gj 3 _).size (fun x hx=>Below.heap_setCell _ _ _ x (by show x≠gj;omega))
 have bD:wr.heap.size=W8.heap.size:=by rw[L5];simp
 have y8:=qZ T5;have C9:=qZ X1;have U2:=qZ L5;have R2:¬(k:Int)<(k:Int):=by omega
 have I2:=C4;clear T5 X1 L5 l8 o9 z9 B5 V4 B4 hk hlt;go_upto_region 34 with fail
 rw[<-U2.out];clear j3 f3 K0 U2 R2;have j3:W8.cell? ⟨gj,3,none⟩=some (.slice (cC2 A k c 8) (a8.length-k) (c-k)):=y8.out.jb.cell 3;have E6:Hid (∀x,lo<=x∧x<w3.heap.size->w.heap.size<=x∧x<W8.heap.size∧x≠gj):=qZ (fun x hx=>by omega);have V0:=qZ (show∀q∈a8,q.s.l.length<=4611686018427387904 from fun q hq=>by have:=(j8.out q (M0.out q hq)).2.2;omega);by_cases h0:a8.length=0
 ·have aX:k=0:=by omega
  have I8:a8=[]:=mD h0;have L0:aI1 d0=(0,some ⟨mt,mv,(a8.map RqR.s).drop k,0⟩,d3):=by
   rw[i6.out,N7.out,I8]
   rfl
  have D4:=qZ L0;have T6:a8.length-k=0:=by omega
  obtain⟨ls,O5⟩:∃n,n=a8.length-k:=⟨_,rfl⟩
  have Z3:=qZ O5;rw[<-O5] at T6 j3 y8;subst T6;clear L0 I8 O5 i6 N7;go_wp2_with fail
  go_ret2
  exact aS4.endSome n5 Z3.out y8.out C9.out V6 V0.out I5.out (fun x hx=>⟨(E6.out x hx).1,(E6.out x hx).2.1,(E6.out x hx).2.2,n4.out x hx⟩) D4.out
 have Q8:k<a8.length:=C4 (by omega);rcases mJ a8 with hx|⟨r,q,hx⟩
 ·rw[hx] at h0;exact absurd rfl h0
 rw[mA] at hx;have D5:a8.length=r.length+1:=by rw[hx];simp
 have B1:a8[r.length]'(by omega)=q:=by simp[hx]
 obtain⟨ab,ao,rfl,aT,l9,f6⟩:=C9.out.at_ (i:=r.length) (by omega);rw[B1] at f6;have p7:q∈a8:=by rw[hx];simp
 obtain⟨n,hn⟩:∃n,a8.length-k=n+1:=⟨a8.length-k-1,by omega⟩
 obtain⟨m3,L1⟩:∃x,x=ao+k*8:=⟨_,rfl⟩
 have Q6:cC2 (some ⟨ab,ao,none⟩) k c 8=some ⟨ab,m3,none⟩:=by
  unfold cC2;rw[if_neg (by omega),L1];simp[Addr.add]
 obtain⟨c2,L6⟩:∃x,x=c-k:=⟨_,rfl⟩
 have Y8:=qZ Q6;have aG:=qZ hn;have Z8:=qZ L6;have R9:=y8.out;rw[Q6,hn,<-L6] at R9 j3;have M4:=qZ R9;have T7:r.length=k+n:=by omega
 have L2:∀j,ao+r.length*8+j=m3+n*8+j:=fun j=>by omega
 have P5:=C9.out.rd q p7;have aS:n<=1000000000:=by omega
 have V1:cE2 a8=(if q.tn=true then[.cut (aA8 q.s.k) q.s.long] else[])++[.sync (aA8 q.s.k)]:=by rw[hx];exact cM3 r q
 have g8:=qZ (N7.out.trans (by rw[V1]));have G7:=(j8.out q (M0.out q p7)).2.1;have O9:=dL0 P5.num;have B6:=P5.lo;have e0:=f6 0 (.int .i64 q.s.k) rfl;have e1:=f6 1 (.int .i64 q.s.first) rfl;have e2:=f6 2 (.int .i64 q.s.term) rfl;have e3:=f6 3 (.slice q.al q.rs.length q.cl) rfl;have e4:=f6 4 (.slice q.ae q.s.ends.length q.ce) rfl;have e5:=f6 5 (.int .i64 q.lo) rfl;have e6:=f6 6 (.bool q.em) rfl;have e7:=f6 7 (.bool q.tn) rfl;rw[L2] at e0 e1 e2 e3 e4 e5 e6 e7;rw[Nat.add_zero] at e0;rw[<-B6] at O9 g8;obtain⟨sk,X6⟩:∃x,x=q.s.k:=⟨_,rfl⟩
 obtain⟨sf,S3⟩:∃x,x=q.s.first:=⟨_,rfl⟩
 obtain⟨R6,L7⟩:∃x,x=q.s.term:=⟨_,rfl⟩
 obtain⟨al,J9⟩:∃x,x=q.al:=⟨_,rfl⟩
 obtain⟨nl,L9⟩:∃x,x=q.rs.length:=⟨_,rfl⟩
 obtain⟨cl,M1⟩:∃x,x=q.cl:=⟨_,rfl⟩
 obtain⟨ae,M3⟩:∃x,x=q.ae:=⟨_,rfl⟩
 obtain⟨ne,K4⟩:∃x,x=q.s.ends.length:=⟨_,rfl⟩
 obtain⟨ce,M5⟩:∃x,x=q.ce:=⟨_,rfl⟩
 obtain⟨i4,L8⟩:∃x,x=q.lo:=⟨_,rfl⟩
 obtain⟨em,K3⟩:∃x,x=q.em:=⟨_,rfl⟩
 obtain⟨tn,G6⟩:∃x,x=q.tn:=⟨_,rfl⟩
 rw[<-X6] at e0 g8 G7;rw[<-S3] at e1;rw[<-L7] at e2;rw[<-J9,<-L9,<-M1] at e3;rw[<-M3,<-K4,<-M5] at e4;rw[<-L8] at e5 g8 O9;rw[<-K3] at e6;rw[<-G6] at e7 g8;obtain⟨nm,q8⟩:∃n,n=aA8 sk:=⟨_,rfl⟩
 rw[<-q8] at g8;have U5:=qZ q8;have R7:=(bL2 m6.out M4.out.fs).2.1;have M7:=qZ (show∀x,lo<=x∧x<w3.heap.size->¬aC1 g t9 p8 x from n4.out);have G2:IntKind.i64.wrap (((n+1:Nat):Int)-1)=(n:Int):=by rw[mH _ (by omega)];omega
 have aY:((n+1:Nat):Int)-1=(n:Int):=by omega
 have aR:IntKind.i64.wrap (n:Int)=(n:Int):=mH _ (by omega);have bG:0<=(n:Int)∧(n:Int)<(n:Int)+1:=by omega
 have aU:(0:Int)<((n+1:Nat):Int):=by omega
 have S8:=qZ (And.intro n5 V6);clear f6 L2 B6 X6 S3 L7 J9 L9 M1 M3 K4 M5 L8 K3 G6 q8 P5 V1 p7 B1 hx D5 Q8 Q6 hn L6 L1 R9 y8 P8 h0 n5 C4 I2 N7 aF T7;obtain⟨W9,N6⟩:∃W,W=(W8.alloc (.cells #[.int .i64 sk,.int .i64 sf,.int .i64 R6,.slice al nl cl,.slice ae ne ce,.int .i64 i4,.bool em,.bool tn] 139)).drew:=⟨_,rfl⟩
 have V8:Blk W9 W8.heap.size 139 #[.int .i64 sk,.int .i64 sf,.int .i64 R6,.slice al nl cl,.slice ae ne ce,.int .i64 i4,.bool em,.bool tn]:=by
  rw[N6];exact Blk.new W8 139 _
 have U3:Below W8.heap.size W8 W9:=by
  rw[N6];exact((lS _ W8).alloc (lR _) _).drew
 have V7:=qZ N6;have D9:=qZ V8;have K6:=qZ U3;have C8:gj<W8.heap.size:=M4.out.jb.lt;clear N6 V8 U3;go_upto_region 35 with fail
 refine aD4 13 (by kernel_rfl) (S:=fun W=>W.cell? ⟨gj,3,none⟩=some (.slice (some ⟨ab,m3,none⟩) (n+1) c2)∧W.cell? ⟨ab,m3+n*8,none⟩=some (.int .i64 sk)∧W.cell? ⟨ab,m3+n*8+1,none⟩=some (.int .i64 sf)∧W.cell? ⟨ab,m3+n*8+2,none⟩=some (.int .i64 R6)∧W.cell? ⟨ab,m3+n*8+3,none⟩=some (.slice al nl cl)∧W.cell? ⟨ab,m3+n*8+4,none⟩=some (.slice ae ne ce)∧W.cell? ⟨ab,m3+n*8+5,none⟩=some (.int .i64 i4)∧W.cell? ⟨ab,m3+n*8+6,none⟩=some (.bool em)∧W.cell? ⟨ab,m3+n*8+7,none⟩=some (.bool tn)) ⟨j3,e0,e1,e2,e3,e4,e5,e6,e7⟩ (fun hHeld=>?_);refine zU 0 (k:=?_);refine zU 1 (k:=?_);refine zU 2 (k:=?_);refine zU 3 (k:=?_);refine zU 4 (k:=?_);refine zU 5 (k:=?_);refine zU 6 (k:=?_);refine zU 7 (k:=?_);refine zU 8 (k:=?_);refine zU 9 (k:=?_);refine zU 10 (k:=?_);refine zU9 11 (k:=?_);simp only[zA,zB,zF,zG,zC,zD,zE];refine zW 12 (k:=fun K hK=>?_);simp only[zA,zB];go_simp;have p6:=((lS W8.heap.size W8).drew).alloc (lR _) (.cells #[.int .i64 0,.int .i64 0,.int .i64 0,.slice none 0 0,.slice none 0 0,.int .i64 0,.bool false,.bool false] 139);refine hK.out _ _ ⟨(p6.cell (p:=⟨gj,3,none⟩) C8).trans j3,(p6.cell (p:=⟨ab,_,none⟩) l9).trans e0,(p6.cell (p:=⟨ab,_,none⟩) l9).trans e1,(p6.cell (p:=⟨ab,_,none⟩) l9).trans e2,(p6.cell (p:=⟨ab,_,none⟩) l9).trans e3,(p6.cell (p:=⟨ab,_,none⟩) l9).trans e4,(p6.cell (p:=⟨ab,_,none⟩) l9).trans e5,(p6.cell (p:=⟨ab,_,none⟩) l9).trans e6,(p6.cell (p:=⟨ab,_,none⟩) l9).trans e7⟩ (fun hHeld=>?_);clear hK K p6;try simp only[zF,zG,zC,zD,zE]
 refine aG6 (t:=13) (by simp) (by kernel_rfl) (by kernel_rfl) (fun K hK=>?_);simp only[zA,zB];go_simp;refine hK.out _ _ ?_;clear hK K hHeld;rw[<-V7.out];clear V7 e0 e1 e2 e3 e4 e5 e6 e7 j3;have X9:=K6.out.size;have t6:=qZ (M4.out.below K6.out);have p9:=qZ (C9.out.keep X9 (fun x hx=>K6.out.block x (E6.out x hx).2.1));obtain⟨bq,K7⟩:∃n,n=W8.heap.size:=⟨_,rfl⟩
 rw[<-K7] at D9 K6⊢;have aZ:=qZ K7;have q0:W9.cell? ⟨bq,0,none⟩=some (.int .i64 sk):=D9.out.cell 0;have q5:W9.cell? ⟨bq,5,none⟩=some (.int .i64 i4):=D9.out.cell 5;have q7:W9.cell? ⟨bq,7,none⟩=some (.bool tn):=D9.out.cell 7;have Z2:gj<bq:=by rw[K7];exact C8
 have t7:bq<W9.heap.size:=D9.out.lt;have d8:=qZ (show∀x,lo<=x∧x<w3.heap.size->w.heap.size<=x∧x<bq∧x≠gj from fun x hx=>by rw[K7];exact E6.out x hx);have G9:=qZ (show¬aC1 g t9 p8 bq from fun hf=>by have:=(M4.out.disk.lt bq hf).2;omega);clear K7 M4 C9 E6 C8;go_upto_if 180 with fail
 go_cut [20] from 181 to 189 (fun bv wx=>∃(d4:DkD) (p0:Value) (o8:List (Nm×RF)) (rc:Int),Hid (aS4 w base g vL es gj d4 mt mv (.slice (some ⟨ab,m3,none⟩) (n+1) c2) rc wx p0 o8)∧Hid (cB7 wx (fun k=>lo<=k∧k<w3.heap.size) (some ⟨ab,ao,none⟩) c a8)∧Hid (JDk L d4)∧Hid (∀x,lo<=x∧x<w3.heap.size->¬aC1 g p0 o8 x)∧Hid (wx.cell? ⟨bq,0,none⟩=some (.int .i64 sk))∧Hid (bq<wx.heap.size)∧((rc=0∧bv=.bool true∧Hid (aI5 all d2=aI5 [aD3.sync nm] d4))∨(rc≠0∧bv=.bool false∧Hid (aI5 all d2=(rc,d4)))))
 case first=>
  cases tn with
  |false=>
   have m0:=qZ (g8.out.trans (by rw[if_neg (by decide),List.nil_append]));have O3:=qZ q0;have D1:=qZ t7;clear g8;go_wp2_with fail
   go_meet;exact⟨d3,t9,p8,0,t6,p9,m6,M7,O3,D1,.inl ⟨rfl,rfl,m0⟩⟩
  |true=>
   have m0:=qZ (g8.out.trans (by rw[if_pos rfl,List.cons_append,List.nil_append,aJ9]));clear g8;have f9:=aW7 sk (by omega) W9.drew;rw[<-U5.out] at f9;replace f9:=qZ f9;go_upto_region 38 with fail
   refine wp_region_held_drew (S:=fun W=>W.cell? ⟨bq,0,none⟩=some (.int .i64 sk)∧W.cell? ⟨bq,5,none⟩=some (.int .i64 i4)∧True∧True) (by kernel_rfl) ⟨q0,q5,trivial,trivial⟩ (fun hHeld=>?_);refine zT 0 (k:=?_);refine zT 1 (k:=?_);refine zT 2 (k:=?_);refine zT 3 (k:=?_);refine zT 5 (k:=?_);refine zT 6 (k:=?_);simp only[zA,zB,zF,zG,zC,zD,zE];refine zV 4 (k:=fun K hK=>?_);simp only[zA,zB];go_simp;refine f9.out.mono ?_;rintro e w5 ⟨rfl,l5⟩;have m4:Below W9.heap.size W9 w5:=((lS _ W9).drew).trans l5;have K8:=m4.size;have l4:=qZ (t6.out.below m4);have m9:=qZ (p9.out.keep K8 (fun x hx=>m4.block x (by have:=(d8.out x hx).2.1;omega)));have S4:=qZ (l4.out.cut nm i4 O9 (by omega));have r0:w5.cell? ⟨bq,0,none⟩=some (.int .i64 sk):=(m4.cell (p:=⟨bq,0,none⟩) t7).trans q0;have r5:w5.cell? ⟨bq,5,none⟩=some (.int .i64 i4):=(m4.cell (p:=⟨bq,5,none⟩) t7).trans q5;clear l5 m4 f9 t6 p9;refine hK.out _ _ ⟨r0,r5,trivial,trivial⟩ (fun hHeld=>?_);clear hK K;try simp only[zF,zG,zC,zD,zE]
   refine zV 7 (k:=fun K hK=>?_);simp only[zA,zB];go_simp;refine S4.out.mono ?_;rintro e w6 ⟨rfl,p0,o8,o5,f8,b8⟩;have J1:=b8.size;have m2:=qZ (o5.do_ (d3.cutF nm i4).1);have n7:=qZ (m9.out.keep J1 (fun x hx=>b8.block x (by have:=(d8.out x hx).2.1;omega) (M7.out x hx)));have l7:=qZ (show∀x,lo<=x∧x<w3.heap.size->¬aC1 g p0 o8 x from fun x hx hf=>by
    rcases f8 x hf with h1|h1
    ·exact M7.out x hx h1
    have:=(d8.out x hx).2.1;omega)
   have C1:w6.heap[bq]? =w5.heap[bq]? :=b8.block bq (by omega) G9.out;have t0:w6.cell? ⟨bq,0,none⟩=some (.int .i64 sk):=(World.cell?_of_block (w:=w5) (a:=⟨bq,0,none⟩) C1).trans r0;have t5:w6.cell? ⟨bq,5,none⟩=some (.int .i64 i4):=(World.cell?_of_block (w:=w5) (a:=⟨bq,5,none⟩) C1).trans r5;clear o5 f8 b8 S4 m9 l4 C1;refine hK.out _ _ ⟨t0,t5,trivial,trivial⟩ (fun hHeld=>?_);clear hK K;try simp only[zF,zG,zC,zD,zE]
   refine zV 8 (k:=fun K hK=>?_);simp only[zA,zB];go_simp;refine m2.out.mono ?_;rintro e w7 ⟨rfl,o6,l6⟩;have J6:=l6.size;have j9:=qZ o6;have o7:=qZ (n7.out.keep J6 (fun x hx=>l6.block x (by have:=(d8.out x hx).2.1;omega) (d8.out x hx).2.2));have C1:w7.heap[bq]? =w6.heap[bq]? :=l6.block bq (by omega) (by omega);have s0:w7.cell? ⟨bq,0,none⟩=some (.int .i64 sk):=(World.cell?_of_block (w:=w6) (a:=⟨bq,0,none⟩) C1).trans t0;have s5:w7.cell? ⟨bq,5,none⟩=some (.int .i64 i4):=(World.cell?_of_block (w:=w6) (a:=⟨bq,5,none⟩) C1).trans t5;have V3:=qZ s0;have D1:=qZ (show bq<w7.heap.size by omega);clear o6 l6 m2 n7 C1;refine hK.out _ _ ⟨s0,s5,trivial,trivial⟩ (fun hHeld=>?_);clear hK K;try simp only[zF,zG,zC,zD,zE]
   refine zT 9 (k:=?_);simp only[zA,zB,zF,zG,zC,zD,zE];refine wpAnyH_done (by kernel_rfl) ?_ _;clear hHeld s0 s5 t0 t5 r0 r5 q0 q5 q7;change Hid (aI5 all d2=if(d3.cutF nm i4).1=0 then aI5 [aD3.sync nm] (d3.cutF nm i4).2 else d3.cutF nm i4) at m0;have x6:=qZ (show JDk L (d3.cutF nm i4).2 from m6.out.run (.cut nm i4));obtain⟨rc,g9⟩:∃x,x=(d3.cutF nm i4).1:=⟨_,rfl⟩
   rw[<-g9] at j9 m0⊢;by_cases hz:rc=0
   ·subst hz
    have O8:=qZ (m0.out.trans (if_pos rfl));clear m0 g9;go_wp2_with fail
    go_meet;exact⟨(d3.cutF nm i4).2,p0,o8,0,j9,o7,x6,l7,V3,D1,.inl ⟨rfl,rfl,O8⟩⟩
   have J3:(rc==0)=false:=beq_eq_false_iff_ne.2 hz;have O8:=qZ (show aI5 all d2=(rc,(d3.cutF nm i4).2) from(m0.out.trans (if_neg hz)).trans (by rw[g9]));have HZ:=qZ hz;clear m0 g9 hz;go_wp2_with fail
   go_meet;exact⟨(d3.cutF nm i4).2,p0,o8,rc,j9,o7,x6,l7,V3,D1,.inr ⟨HZ.out,by rw[J3],O8⟩⟩
 obtain⟨d4,p0,o8,rc,l4,m9,x6,l7,O3,D1,P1⟩:=hcut;clear t6 p9 m6 M7 n4 G9 q0 q5 q7 t7 D9 K6 g8;rcases P1 with⟨rfl,rfl,m0⟩|⟨hz,rfl,m0⟩
 rotate_left
 ·have p5:=qZ (show aI1 d0=(rc,none,d4) by rw[i6.out,m0.out];simp only;rw[if_neg hz])
  have j4:wc.cell? ⟨gj,4,none⟩=some (.int .i64 rc):=l4.out.jb.cell 4;clear i6 m0 hz;go_wp2_with fail
  go_quiet (fail);go_wp2_with fail
  go_ret2
  exact(l4.out.below (aA3 (lS _ wc) _)).endNone rc p5.out
 have aN:=D1.out;have q0:=O3.out;have f9:=aW7 sk (by omega) wc;rw[<-U5.out] at f9;replace f9:=qZ f9;have bB:=(bL2 x6.out l4.out.fs).2.1;clear D1 O3;go_wp2_with fail
 refine f9.out.mono ?_;rintro e w5 ⟨rfl,l5⟩;have K8:=l5.size;have J7:=qZ (l4.out.below l5);have n7:=qZ (m9.out.keep K8 (fun x hx=>l5.block x (by have:=(d8.out x hx).2.1;omega)));have T4:=qZ (J7.out.sync nm (by omega));clear l5 f9 l4 m9;go_wp2_with fail
 refine T4.out.mono ?_;rintro e w6 ⟨rfl,aE,aC,o5,f8,b8⟩;have J1:=b8.size;have m2:=qZ (o5.do_ (d4.sync nm).1);have o7:=qZ (n7.out.keep J1 (fun x hx=>b8.block x (by have:=(d8.out x hx).2.1;omega) (l7.out x hx)));have R5:=qZ (show∀x,lo<=x∧x<w3.heap.size->¬aC1 g aE aC x from fun x hx hf=>by
  rcases f8 x hf with h1|h1
  ·exact l7.out x hx h1
  have:=(d8.out x hx).2.1;omega)
 clear o5 f8 b8 T4 n7 J7 q0;go_wp2_with fail
 refine m2.out.mono ?_;rintro e w7 ⟨rfl,o6,l6⟩;have J6:=l6.size;have j9:=qZ o6;have P6:=qZ (o7.out.keep J6 (fun x hx=>l6.block x (by have:=(d8.out x hx).2.1;omega) (d8.out x hx).2.2));have l8:aI5 all d2=d4.sync nm:=by rw[m0.out,bR3];rfl
 clear o6 l6 m2 o7 m0;obtain⟨rc,g9⟩:∃x,x=(d4.sync nm).1:=⟨_,rfl⟩
 rw[<-g9] at j9⊢;have o9:=qZ l8;have z8:=qZ g9;clear l8 g9;by_cases hz:rc=0
 ·subst hz
  have D4:=qZ (show aI1 d0=(0,some ⟨mt,mv,(a8.map RqR.s).drop k,0⟩,(d4.sync nm).2) by rw[i6.out,o9.out,<-z8.out,if_pos rfl]);have x4:=j9.out;rw[Z8.out,<-aG.out] at x4;rw[show(some ⟨ab,m3,none⟩:Option Addr)=cC2 (some ⟨ab,ao,none⟩) k c 8 from Y8.out.symm] at x4;have P4:=qZ x4;clear x4 i6 o9 z8;go_wp2_with fail
  go_ret2
  exact aS4.endSome S8.out.1 rfl P4.out P6.out S8.out.2 V0.out I5.out (fun x hx=>⟨(d8.out x hx).1,by have:=(d8.out x hx).2.1;omega,(d8.out x hx).2.2,R5.out x hx⟩) D4.out
 have J3:(rc==0)=false:=beq_eq_false_iff_ne.2 hz;have p5:=qZ (show aI1 d0=(rc,none,(d4.sync nm).2) by rw[i6.out,o9.out,<-z8.out,if_neg hz]);have j4:w7.cell? ⟨gj,4,none⟩=some (.int .i64 rc):=j9.out.jb.cell 4;clear i6 o9 z8 hz;go_wp2_with fail
 go_quiet (fail);go_wp2_with fail
 go_ret2
 exact(j9.out.below (aA3 (lS _ w7) _)).endNone rc p5.out
end
section
open Go.RowKit Go.Maps Oct
structure Two(W:World)(lo g m g2:Nat)(d d2:DkD)(es:List (Nm×FE))(vL:Value)(rs:List (Nm×RF)):Prop where
 dk:aB4 W lo g m d.pw d.room es
 fs:sec FE.f es=d.fs
 rk:aB0 W lo g2 d2.pw d2.room vL rs
 rfs:sec RF.f rs=d2.fs
 ap:∀k,aB1 g m es k->¬aC1 g2 vL rs k
section
variable{W W' :World}{lo g m g2:Nat}{d d2 d' :DkD}{es es' :List (Nm×FE)}{vL vL' :Value}{rs rs' :List (Nm×RF)}{mine:Nat->Prop}
theorem Two.below(h:Two W lo g m g2 d d2 es vL rs)(hb:Below W.heap.size W W'):Two W' lo g m g2 d d2 es vL rs:=⟨h.dk.below hb,h.fs,h.rk.below hb,h.rfs,h.ap⟩
theorem Two.keep(h:Two W lo g m g2 d d2 es vL rs)(hs:W.heap.size<=W'.heap.size)(hk:∀k,aB1 g m es k∨aC1 g2 vL rs k->W'.heap[k]? =W.heap[k]?):Two W' lo g m g2 d d2 es vL rs:=⟨h.dk.keep hs (fun k hk' =>hk k (.inl hk')),h.fs,h.rk.keep hs (fun k hk' =>hk k (.inr hk')),h.rfs,h.ap⟩
theorem Two.left(h:Two W lo g m g2 d d2 es vL rs)(hD:aB4 W' lo g m d'.pw d'.room es')(hs:sec FE.f es' =d'.fs)(hf:Fr mine W W')(hm:∀k,mine k->¬aC1 g2 vL rs k)(hg:∀k,aB1 g m es' k->aB1 g m es k∨W.heap.size<=k):Two W' lo g m g2 d' d2 es' vL rs:=
 ⟨hD,hs,h.rk.keep hf.size (fun k hk=>hf.block k (h.rk.lt k hk).2 (fun hm' =>hm k hm' hk)),h.rfs,fun k hk hr=>by
  rcases hg k hk with h1|h1
  ·exact h.ap k h1 hr
  have:=(h.rk.lt k hr).2;omega⟩
theorem Two.right(h:Two W lo g m g2 d d2 es vL rs)(hD:aB0 W' lo g2 d'.pw d'.room vL' rs')(hs:sec RF.f rs' =d'.fs)(hf:Fr mine W W')(hm:∀k,mine k->¬aB1 g m es k)(hg:∀k,aC1 g2 vL' rs' k->aC1 g2 vL rs k∨W.heap.size<=k):Two W' lo g m g2 d d' es vL' rs' :=
 ⟨h.dk.keep hf.size (fun k hk=>hf.block k (h.dk.lt k hk).2 (fun hm' =>hm k hm' hk)),h.fs,hD,hs,fun k hk hr=>by
  rcases hg k hr with h1|h1
  ·exact h.ap k hk h1
  have:=(h.dk.lt k hk).2;omega⟩
end
def aU1(w:World)(lo g m g2 sb:Nat)(es:List (Nm×FE))(vL:Value)(rs:List (Nm×RF))(oj oy:Option JnP)(vj vy:Value):Prop:=
 match oj,oy with
 |some j,some y=>∃gj gy F E,vj=.pointer (some ⟨gj,0,none⟩)∧vy=.pointer (some ⟨gy,0,none⟩)∧JAt w F gj g j∧bS6 w E gy g2 y∧(lo<=gj∧lo<=gy∧gj≠sb∧gy≠sb∧gj≠gy)∧(¬aB1 g m es gj∧¬aC1 g2 vL rs gj∧¬aB1 g m es gy∧¬aC1 g2 vL rs gy)∧∀k,F k∨E k->lo<=k∧k<w.heap.size∧(k≠gj∧k≠gy∧k≠sb)∧¬aB1 g m es k∧¬aC1 g2 vL rs k
 |_,_=>oj=none∧oy=none∧vj=.pointer none∧vy=.pointer none
def bD7(w:World)(sb g g2:Nat)(vj vy:Value):Prop:=Blk w sb 33 #[.pointer (some ⟨g,0,none⟩),.pointer (some ⟨g2,0,none⟩),vj,vy]
theorem aU1.below{w w' :World}{lo g m g2 sb:Nat}{es:List (Nm×FE)}{vL:Value}{rs:List (Nm×RF)}{oj oy:Option JnP}{vj vy:Value}(h:aU1 w lo g m g2 sb es vL rs oj oy vj vy)(hb:Below w.heap.size w w'):aU1 w' lo g m g2 sb es vL rs oj oy vj vy:=by
 unfold aU1 at h⊢;split at h
 ·obtain⟨gj,gy,F,E,h1,h2,h3,h4,h5,h6,h7⟩:=h
  exact⟨gj,gy,F,E,h1,h2,h3.below (fun k hk=>(h7 k (.inl hk)).2.1) hb,h4.below (fun k hk=>(h7 k (.inr hk)).2.1) hb,h5,h6,fun k hk=>by have h8:=h7 k hk;have h9:=hb.size;exact⟨h8.1,by omega,h8.2.2⟩⟩
 exact h
def dH0(w w' :World)(lo g m g2 sb:Nat)(es:List (Nm×FE))(vL:Value)(rs:List (Nm×RF))(d' :DkD)(oj:Option JnP):Prop:=
 ∃es' vL' rs' vj vy,Two w' lo g m g2 d' d' es' vL' rs' ∧bD7 w' sb g g2 vj vy∧aU1 w' lo g m g2 sb es' vL' rs' oj oj vj vy∧Fr (fun k=>aB1 g m es k∨aC1 g2 vL rs k∨k=sb) w w' ∧(∀k,aB1 g m es' k->aB1 g m es k∨w.heap.size<=k)∧(∀k,aC1 g2 vL' rs' k->aC1 g2 vL rs k∨w.heap.size<=k)
theorem aU1.keep{w w' :World}{lo g m g2 sb:Nat}{es:List (Nm×FE)}{vL:Value}{rs:List (Nm×RF)}{oj oy:Option JnP}{vj vy:Value}(h:aU1 w lo g m g2 sb es vL rs oj oy vj vy)(hs:w.heap.size<=w'.heap.size)(hk:∀k,lo<=k->k<w.heap.size->k≠sb->¬aB1 g m es k->¬aC1 g2 vL rs k->w'.heap[k]? =w.heap[k]?):aU1 w' lo g m g2 sb es vL rs oj oy vj vy:=by
 unfold aU1 at h⊢;split at h
 ·obtain⟨gj,gy,F,E,h1,h2,h3,h4,h5,h6,h7⟩:=h
  refine⟨gj,gy,F,E,h1,h2,h3.keep hs (fun k hF=>?_) (hk gj h5.1 h3.lt h5.2.2.1 h6.1 h6.2.1),h4.keep hs (fun k hE=>?_) (hk gy h5.2.1 h4.lt h5.2.2.2.1 h6.2.2.1 h6.2.2.2),h5,h6,fun k hk' =>by have h8:=h7 k hk';exact⟨h8.1,by omega,h8.2.2⟩⟩
  ·have:=h7 k (.inl hF);exact hk k this.1 this.2.1 this.2.2.1.2.2 this.2.2.2.1 this.2.2.2.2
  have:=h7 k (.inr hE);exact hk k this.1 this.2.1 this.2.2.1.2.2 this.2.2.2.1 this.2.2.2.2
 exact h
theorem cH8{w w2:World}{lo g m g2 sb:Nat}{d' :DkD}{es es' :List (Nm×FE)}{vL vL' :Value}{rs rs' :List (Nm×RF)}{oj:Option JnP}{vj vy vj' vy' :Value}(two2:Two w2 lo g m g2 d' d' es' vL' rs')(a9:bD7 w2 sb g g2 vj vy)(hj:aU1 w2 lo g m g2 sb es' vL' rs' oj oj vj' vy')(hn:¬aB1 g m es' sb∧¬aC1 g2 vL' rs' sb)
  (hf:Fr (fun k=>aB1 g m es k∨aC1 g2 vL rs k) w w2) (b8:∀k,aB1 g m es' k->aB1 g m es k∨w.heap.size<=k) (d8:∀k,aC1 g2 vL' rs' k->aC1 g2 vL rs k∨w.heap.size<=k):
  dH0 w ((w2.setCell ⟨sb,2,none⟩ vj').setCell ⟨sb,3,none⟩ vy') lo g m g2 sb es vL rs d' oj:=by
 have a8:=aA4 (aA0 w2 sb 2 vj') (aA0 _ sb 3 vy') (.inl rfl);have hK:∀k,k<w2.heap.size->k≠sb->((w2.setCell ⟨sb,2,none⟩ vj').setCell ⟨sb,3,none⟩ vy').heap[k]? =w2.heap[k]? :=fun k hk hne=>a8.block k hk (fun e=>hne (Option.some.inj e))
 have hB:=(Blk.set_ (Blk.set_ a9 2 vj') 3 vy');refine⟨es',vL',rs',vj',vy',two2.keep a8.size (fun k hk=>hK k ?_ ?_),by simpa[bD7] using hB,hj.keep a8.size (fun k _ h2 h3 _ _=>hK k h2 h3),?_,b8,d8⟩
 ·rcases hk with h1|h1
  ·exact(two2.dk.lt k h1).2
  exact(two2.rk.lt k h1).2
 ·rintro rfl
  rcases hk with h1|h1
  ·exact hn.1 h1
  exact hn.2 h1
 exact(hf.mono (mine' :=fun k=>aB1 g m es k∨aC1 g2 vL rs k∨k=sb) (fun k _ h1=>by rcases h1 with h1|h1;exact .inl h1;exact .inr (.inl h1))).trans (Fr.of_grown (mine:=fun k=>k=sb) a8 (fun k e=>(Option.some.inj e).symm)) (fun k hk=>.inl (.inr (.inr hk)))
theorem cS6{w:World}{lo g m g2 sb:Nat}{d:DkD}{es:List (Nm×FE)}{vL:Value}{rs:List (Nm×RF)}{vj vy:Value}(h:Two w lo g m g2 d d es vL rs)(m0:bD7 w sb g g2 vj vy)(g8:lo<=sb∧¬aB1 g m es sb∧¬aC1 g2 vL rs sb){L:Nat}(m6:JDk L d)(hL:L<=1000000000)(p6:lo<=w.heap.size)(hE:∀w',Below lo w w' ->Tab w' ∧dA6 w'):
  Calls Tryz.prog 12 #[.pointer (some ⟨sb,0,none⟩)] w fun e w' =>e=.returned (.bool true)∧dH0 w w' lo g m g2 sb es vL rs (aI1 d).2.2 (aI1 d).2.1:=by
 have m2:=bK4 h.dk (L:=L) (by rw[DkD.eta' d h.fs];exact m6) hL p6 hE;rw[DkD.eta' d h.fs] at m2;have m4:∀(W:World) (f8:List (Nm×FE)),Two W lo g m g2 (aI1 d).2.2 d f8 vL rs->Calls Tryz.prog 39 #[.pointer (some ⟨g2,0,none⟩)] W fun e w' =>bS8 W lo g2 vL rs (aI1 d) e w' :=fun W f8 hW=>by
  have h1:=cL6 hW.rk (L:=L) (by rw[cM9 hW.rfs];exact m6) hL;rw[cM9 hW.rfs] at h1;exact h1
 obtain⟨r,hr⟩:∃r,r=aI1 d:=⟨_,rfl⟩
 rw[<-hr] at m2 m4⊢;obtain⟨c,oj,d'⟩:=r;have n8:=qZ m2;have n6:=qZ m4;have H:=qZ h;have o8:=qZ m0;have p8:sb<w.heap.size:=Blk.lt m0;have c0:w.cell? ⟨sb,0,none⟩=some (.pointer (some ⟨g,0,none⟩)):=Blk.cell m0 0;clear m2 m4 h m0 hr m6;go_enter Tryz.func12,Tryz.ntmps12
 go_wp2_with fail
 refine n8.out.mono ?_;rintro e w1 ⟨f8,m8,n7,i6,l7,l8⟩;have f7:=H.out.left m8 n7 i6 (fun k hk=>H.out.ap k hk) l7;have l4:bD7 w1 sb g g2 vj vy:=i6.blk_ o8.out g8.2.1;have p9:=i6.size;have g9:=qZ f7;have d9:=qZ l4;have o6:=qZ i6;have n4:=qZ l7;have l9:=qZ (n6.out w1 f8 f7);have n9:¬aB1 g m f8 sb:=fun hk=>by
  rcases l7 sb hk with h1|h1
  ·exact g8.2.1 h1
  omega
 clear m8 n7 i6 l7 f7 l4 n8 n6 c0;cases oj with
 |none=>
  simp only at l8;subst l8;have c1:w1.cell? ⟨sb,1,none⟩=some (.pointer (some ⟨g2,0,none⟩)):=Blk.cell d9.out 1;go_wp2_with fail
  refine l9.out.mono ?_;rintro e w2 ⟨j6,j9,i4,l5,a9,d8,j8⟩;simp only at j8;subst j8;have b8:=g9.out.right i4 l5 a9 (fun k hk hd=>g9.out.ap k hd hk) d8;have a8:bD7 w2 sb g g2 vj vy:=a9.blk_ d9.out g8.2.2;have c2:w2.cell? ⟨sb,2,none⟩=some vj:=Blk.cell a8 2;have c3:w2.cell? ⟨sb,3,none⟩=some vy:=Blk.cell a8 3;have f2:w2.frozen? ⟨sb,2,none⟩=false:=Blk.frozen a8 2;have f3:w2.frozen? ⟨sb,3,none⟩=false:=Blk.frozen a8 3;have m7:¬aC1 g2 j6 j9 sb:=fun hk=>by
   rcases d8 sb hk with h1|h1
   ·exact g8.2.2 h1
   omega
  have m3:=qZ (cH8 (w:=w) (es:=es) (vL:=vL) (rs:=rs) (oj:=none) (vj' :=.pointer none) (vy' :=.pointer none) b8 a8 (by unfold aU1;exact⟨rfl,rfl,rfl,rfl⟩) ⟨n9,m7⟩ ((o6.out.mono (mine' :=fun k=>aB1 g m es k∨aC1 g2 vL rs k) (fun k _ hk=>.inl hk)).trans a9 (fun k hk=>.inl (.inr hk))) n4.out (fun k hk=>(d8 k hk).imp id (fun h=>by omega)));clear b8 a8 i4 l5 a9 d8 l9;go_wp2_with fail
  go_ret
  exact⟨rfl,m3.out⟩
 |some j=>
  simp only at l8;obtain⟨gj,F,rfl,p5,hJ,n5⟩:=l8;have HJ:=qZ hJ;have m5:=qZ n5;have l6:=hJ.lt;clear hJ n5;have c1:w1.cell? ⟨sb,1,none⟩=some (.pointer (some ⟨g2,0,none⟩)):=Blk.cell d9.out 1;go_wp2_with fail
  refine l9.out.mono ?_;rintro e w2 ⟨j6,j9,i4,l5,a9,d8,j8⟩;simp only at j8;obtain⟨gy,E,rfl,p4,hY,m9⟩:=j8;have b8:=g9.out.right i4 l5 a9 (fun k hk hd=>g9.out.ap k hd hk) d8;have a8:bD7 w2 sb g g2 vj vy:=a9.blk_ d9.out g8.2.2;have c2:w2.cell? ⟨sb,2,none⟩=some vj:=Blk.cell a8 2;have c3:w2.cell? ⟨sb,3,none⟩=some vy:=Blk.cell a8 3;have f2:w2.frozen? ⟨sb,2,none⟩=false:=Blk.frozen a8 2;have f3:w2.frozen? ⟨sb,3,none⟩=false:=Blk.frozen a8 3;have f9:∀k,aC1 g2 vL rs k->k<w.heap.size:=fun k hk=>(H.out.rk.lt k hk).2
  have o5:∀k,w.heap.size<=k->k<w1.heap.size->¬aC1 g2 j6 j9 k:=fun k h1 h2 hk=>by
   rcases d8 k hk with h3|h3
   ·have:=f9 k h3;omega
   omega
  have o7:∀k,w1.heap.size<=k->¬aB1 g m f8 k:=fun k h1 hk=>by have:=(g9.out.dk.lt k hk).2;omega
  have m7:¬aC1 g2 j6 j9 sb:=fun hk=>by
   rcases d8 sb hk with h1|h1
   ·exact g8.2.2 h1
   omega
  have p7:=a9.size;have o4:=hY.lt;have f6:aU1 w2 lo g m g2 sb f8 j6 j9 (some j) (some j) (.pointer (some ⟨gj,0,none⟩)) (.pointer (some ⟨gy,0,none⟩)):=by
   obtain⟨sv,p0⟩:=HJ.out.blk;unfold aU1;refine⟨gj,gy,F,E,rfl,rfl,HJ.out.keep p7 (fun k hk=>a9.block k (m5.out k hk).2.1 (fun hr=>by have:=f9 k hr;have:=(m5.out k hk).1;omega)) (a9.block gj l6 (fun hr=>by have:=f9 gj hr;omega)),hY,⟨by omega,by omega,by omega,by omega,by omega⟩,⟨g9.out.dk.not_foot p0 (by decide) (by decide) (by decide),o5 gj p5 l6,o7 gy p4,?_⟩,fun k hk=>?_⟩
   ·obtain⟨⟨A,cc,o9,hb,_⟩,_⟩:=hY
    exact i4.not_foot hb (by decide) (by decide) (by decide)
   rcases hk with hk|hk
   ·have h1:=m5.out k hk
    exact⟨by omega,by omega,⟨h1.2.2.1,by omega,by omega⟩,h1.2.2.2,o5 k h1.1 h1.2.1⟩
   have h1:=m9 k hk;exact⟨by omega,by omega,⟨by omega,h1.2.2.1,by omega⟩,o7 k h1.1,h1.2.2.2⟩
  have m3:=qZ (cH8 (w:=w) (es:=es) (vL:=vL) (rs:=rs) (oj:=some j) b8 a8 f6 ⟨n9,m7⟩ ((o6.out.mono (mine' :=fun k=>aB1 g m es k∨aC1 g2 vL rs k) (fun k _ hk=>.inl hk)).trans a9 (fun k hk=>.inl (.inr hk))) n4.out (fun k hk=>(d8 k hk).imp id (fun h=>by omega)));clear b8 a8 i4 l5 a9 d8 l9 f6 hY m9;go_wp2_with fail
  go_ret
  exact⟨rfl,m3.out⟩
end
section
open Go.RowKit Go.Maps Oct
theorem cY6{w:World}{N n c:Nat}{A:Option Addr}{rs:List (Nm×RF)}(h:aO9 w N (.slice A n c) rs)(hg:∀q∈rs,Got w N q.2.v q.2.f.b):n=rs.length∧FRd w A rs:=by
 obtain⟨A',c',e,h1⟩:=dE2 h hg;injection e with e1 e2 _
 rw[e1,e2];exact⟨rfl,h1⟩
theorem bQ7:∀l:List aK5,aX2 l l=true:=fun l=>(bI8 l l).2 rfl
theorem JAt.txt2{w:World}{F:Nat->Prop}{gj g:Nat}{j:JnP}(h:JAt w F gj g j):∀s∈j.segs,∀e∈s.l,e.b.length<=65535:=fun s hs e he=>by
 obtain⟨⟨A,c,ads,h1,h2,h3,h4,h5⟩,_⟩:=h;obtain⟨i,hi,rfl⟩:=List.getElem_of_mem hs;exact(h5 i (by omega) hi).txt e he
theorem dG8{j:JnP}{e:aK5}(h:e∈j.ents):∃s∈j.segs,e∈s.l:=by
 unfold JnP.ents at h;obtain⟨l,hl,a8⟩:=List.mem_flatten.1 h;obtain⟨s,hs,rfl⟩:=List.mem_map.1 hl;exact⟨s,hs,a8⟩
theorem cF7{w:World}{base n c:Nat}{A:Option Addr}{rs:List aF2}(h:w.ownsRow base 65 4 (.slice A n c) rs.length (aA7 rs))(hb:∀q∈rs,Bs w base q.v q.e.b):RdF w (fun x=>base<=x∧x<w.heap.size) A (aA7 rs)∧∀q∈rs,bF9 w (fun x=>base<=x∧x<w.heap.size) q.v q.e.b:=by
 refine⟨RdF.of_row h (fun x h6 h7=>⟨h6,h7⟩) (by rw[aC3];omega),fun q hq=>?_⟩;have h6:=hb q hq;obtain⟨A1,c1,e1,k1,k2,_⟩:=aC5 h6;rw[e1] at h6;exact⟨A1,c1,e1,k1,k2,RdF.of_own h6 (fun x h7 h8=>⟨h7,h8⟩)⟩
theorem cM1{w:World}{lo g m g2 sb:Nat}{d:DkD}{es:List (Nm×FE)}{vL:Value}{rs:List (Nm×RF)}{oj:Option JnP}{vj vy:Value}(h:Two w lo g m g2 d d es vL rs)(n7:bD7 w sb g g2 vj vy)(hj:aU1 w lo g m g2 sb es vL rs oj oj vj vy){L:Nat}(t7:JDk L d)(hL:L<=100000000000)(G7:∀j,oj=some j->j.ents.length<=1099511627776):
  Calls Tryz.prog 13 #[.pointer (some ⟨sb,0,none⟩)] w fun e w' =>e=.returned (.bool true)∧Below w.heap.size w w' :=by
 obtain⟨Av,cv,I2,_,_,_⟩:=h.rk.shape;subst I2;have o9:=(aB0.frd h.rk).2;have I8:=t7.sz;have m3:∀q∈es,(q.1,q.2.f)∈d.fs:=fun q hq=>by rw[<-h.fs];exact List.mem_map.2 ⟨q,hq,rfl⟩
 have x8:es.length=d.fs.length:=by rw[<-h.fs];simp[sec]
 have i6:rs.length=d.fs.length:=by rw[<-h.rfs];simp[sec]
 have D5:=t7.len;have m8:=cW6 (h.dk.below (lS _ w).drew) (by omega) (fun q hq=>by have h1:=aJ5 (m3 q hq);have h3:(q.2.f.b.length:Int)<=aB8 d.fs:=h1;omega) (fun q hq=>by have h1:q.1.length<=1000:=t7.nm _ (m3 q hq);omega);replace m8:=qZ m8;obtain⟨x,y,m0,_⟩:=h.rk.blk;have k0:w.cell? ⟨g2,0,none⟩=some (.slice Av rs.length cv):=(bN7 m0).1.1;have p8:g2<w.heap.size:=m0.lt;have d8:sb<w.heap.size:=Blk.lt n7;have c0:w.cell? ⟨sb,0,none⟩=some (.pointer (some ⟨g,0,none⟩)):=Blk.cell n7 0;have c1:w.cell? ⟨sb,1,none⟩=some (.pointer (some ⟨g2,0,none⟩)):=Blk.cell n7 1;have H:=qZ h;have E7:=qZ n7;have HJ:=qZ hj;have G3:=qZ o9;have G0:=qZ G7;have p0:=qZ (show∀q∈rs,q.2.f.b.length<=140737488351232 from fun q hq=>by
  have hm:(q.1,q.2.f)∈d.fs:=by rw[<-h.rfs];exact List.mem_map.2 ⟨q,hq,rfl⟩
  have h1:=aJ5 hm;have h3:(q.2.f.b.length:Int)<=aB8 d.fs:=h1;omega)
 have J7:=qZ i6;have I6:=qZ D5;clear h n7 hj o9 G7 m3 x8 i6 D5 m0 t7 I8;go_enter Tryz.func13,Tryz.ntmps13
 go_upto_region 1 with fail
 go_cut [3] from 17 to 29 (fun bv wx=>bv=.bool true∧Hid (Below w.heap.size w wx))
 case first=>
  refine wp_region_held_drew (S:=fun W=>W.cell? ⟨sb,0,none⟩=some (.pointer (some ⟨g,0,none⟩))∧W.cell? ⟨sb,1,none⟩=some (.pointer (some ⟨g2,0,none⟩))∧W.cell? ⟨g2,0,none⟩=some (.slice Av rs.length cv)∧True) (by kernel_rfl) ⟨c0,c1,k0,trivial⟩ (fun hHeld=>?_);refine zT 0 (k:=?_);refine zT 1 (k:=?_);refine zT 2 (k:=?_);refine zT 3 (k:=?_);refine zT 5 (k:=?_);refine zT 6 (k:=?_);refine zT 7 (k:=?_);refine zT 8 (k:=?_);refine zT 9 (k:=?_);refine zT 10 (k:=?_);refine zT 11 (k:=?_);simp only[zA,zB,zF,zG,zC,zD,zE];refine zV 4 (k:=fun K hK=>?_);simp only[zA,zB];go_simp;refine m8.out.mono ?_;rintro e w1 ⟨v1,D7,rfl,m2,o4,g8,j6⟩;obtain⟨A1,I7,I1⟩:=m2.shape;subst I1;have a9:Below w.heap.size w w1:=((lS _ w).drew).trans j6;have m9:=(cY6 m2 o4).2;have I5:D7.length=d.fs.length:=by have h2:=congrArg List.length (g8.trans H.out.fs);simpa[sec] using h2
  have E8:=qZ (dA0 A1 Av D7 rs I7 cv w1 m9 (G3.out.below a9) (by rw[g8,H.out.fs,H.out.rfs]) (by have:=I6.out;omega) (fun q hq=>by
   have hm:(q.1,q.2.f)∈sec RF.f rs:=by rw[H.out.rfs,<-H.out.fs,<-g8];exact List.mem_map.2 ⟨q,hq,rfl⟩
   obtain⟨q',I4,he⟩:=List.mem_map.1 hm;have h2:=p0.out q' I4;injection he with _ he
   rw[<-he];exact h2))
  have d0:=(a9.cell (p:=⟨sb,0,none⟩) d8).trans c0;have d1:=(a9.cell (p:=⟨sb,1,none⟩) d8).trans c1;have d2:=(a9.cell (p:=⟨g2,0,none⟩) p8).trans k0;have l5:=qZ a9;have J1:=a9.size;clear m2 o4 g8 j6 a9 m9 I5 m8;refine hK.out _ _ ⟨d0,d1,d2,trivial⟩ (fun hHeld=>?_);clear hK K;try simp only[zF,zG,zC,zD,zE]
  refine zV 12 (k:=fun K hK=>?_);simp only[zA,zB];go_simp;refine E8.out.mono ?_;rintro e w2 ⟨rfl,l4⟩;have f7:=l5.out.trans (l4.mono J1);have o6:=qZ f7;have f0:=(f7.cell (p:=⟨sb,0,none⟩) d8).trans c0;have f1:=(f7.cell (p:=⟨sb,1,none⟩) d8).trans c1;have f2:=(f7.cell (p:=⟨g2,0,none⟩) p8).trans k0;clear l4 f7 E8;refine hK.out _ _ ⟨f0,f1,f2,trivial⟩ (fun hHeld=>?_);clear hK K;try simp only[zF,zG,zC,zD,zE]
  refine zT 13 (k:=?_);simp only[zA,zB,zF,zG,zC,zD,zE];refine wpAnyH_done (by kernel_rfl) ?_ _;go_wp2_with fail
  go_meet;exact⟨rfl,o6⟩
 obtain⟨rfl,l5⟩:=hcut;have f9:bD7 wc sb g g2 vj vy:=Blk.below E7.out l5.out d8;have q8:aU1 wc lo g m g2 sb es (.slice Av rs.length cv) rs oj oj vj vy:=HJ.out.below l5.out;have c2:wc.cell? ⟨sb,2,none⟩=some vj:=Blk.cell f9 2;have c3:wc.cell? ⟨sb,3,none⟩=some vy:=Blk.cell f9 3;have I0:=l5.out.size;have f8:=qZ f9;clear m8 G3 E7 HJ H p0 c0 c1 k0 f9;cases oj with
 |none=>
  unfold aU1 at q8;obtain⟨_,_,rfl,rfl⟩:=q8;go_wp2_with fail
  go_ret
  exact⟨rfl,l5.out⟩
 |some j=>
  unfold aU1 at q8;obtain⟨gj,gy,F,E,rfl,rfl,hJ,hY,_,_,C7⟩:=q8;have C1:=G0.out j rfl;have G2:=hJ.txt2;have HJ:=qZ hJ;have HY:=qZ hY;have D9:=qZ (show∀k,F k∨E k->k<wc.heap.size from fun k hk=>(C7 k hk).2.1);have D0:=qZ G2;have a8:sb<wc.heap.size:=Blk.lt f8.out;have HM:=qZ hJ.meta_;have J2:=hJ.lt;have J3:=hY.lt;have m4:Hid (∀k,F k->k<wc.heap.size):=qZ (fun k hk=>D9.out k (.inl hk));have n6:Hid (∀k,E k->k<wc.heap.size):=qZ (fun k hk=>D9.out k (.inr hk));clear hJ hY C7 G2 G0;go_wp2_with fail
  refine HM.out.mono ?_;rintro e w1 ⟨rfl,j6⟩;have o6:=qZ j6;have c2:w1.cell? ⟨sb,2,none⟩=some (.pointer (some ⟨gj,0,none⟩)):=Blk.cell (Blk.below f8.out j6 a8) 2;have D1:=qZ (HJ.out.below m4.out j6).base;clear j6 HM c3;go_wp2_with fail
  refine D1.out.mono ?_;rintro e w2 ⟨rfl,hb⟩;have l4:=o6.out.trans (hb.mono o6.out.size);have x5:=qZ l4;have c2:w2.cell? ⟨sb,2,none⟩=some (.pointer (some ⟨gj,0,none⟩)):=Blk.cell (Blk.below f8.out l4 a8) 2;have D8:=qZ (HJ.out.below m4.out l4).last;clear hb l4 D1 o6;go_wp2_with fail
  refine D8.out.mono ?_;rintro e w3 ⟨rfl,hb⟩;have t8:=x5.out.trans (hb.mono x5.out.size);have B1:=qZ t8;have c3:w3.cell? ⟨sb,3,none⟩=some (.pointer (some ⟨gy,0,none⟩)):=Blk.cell (Blk.below f8.out t8 a8) 3;have C5:=qZ (HY.out.below n6.out t8).base;clear hb t8 D8 x5;go_wp2_with fail
  refine C5.out.mono ?_;rintro e w4 ⟨rfl,hb⟩;have p9:=B1.out.trans (hb.mono B1.out.size);have C2:=qZ p9;have c3:w4.cell? ⟨sb,3,none⟩=some (.pointer (some ⟨gy,0,none⟩)):=Blk.cell (Blk.below f8.out p9 a8) 3;have D6:=qZ (HY.out.below n6.out p9).last;clear hb p9 C5 B1;go_wp2_with fail
  refine D6.out.mono ?_;rintro e w5 ⟨rfl,hb⟩;have o5:=C2.out.trans (hb.mono C2.out.size);have B2:=qZ o5;have J6:=o5.size;have c2:w5.cell? ⟨sb,2,none⟩=some (.pointer (some ⟨gj,0,none⟩)):=Blk.cell (Blk.below f8.out o5 a8) 2;have E5:=qZ ((HJ.out.below m4.out o5).entries (fun k hk=>by have:=m4.out k hk;omega) C1);clear hb o5 D6 C2;go_wp2_with fail
  refine E5.out.mono ?_;rintro e w6 ⟨v6,ra,rfl,z9,E9,G5,hb⟩;obtain⟨Aa,ca,I9,_,_,_⟩:=aB2 z9;subst I9;have q6:=B2.out.trans (hb.mono B2.out.size);have B4:=qZ q6;have J9:=hb.size;have C8:=qZ z9;have B9:=qZ E9;have E6:=qZ G5;have c3:w6.cell? ⟨sb,3,none⟩=some (.pointer (some ⟨gy,0,none⟩)):=Blk.cell (Blk.below f8.out q6 a8) 3;have C9:=qZ ((HY.out.below n6.out q6).entries (fun k hk=>by have:=n6.out k hk;omega) C1 (fun s hs e he=>by have:=D0.out s hs e he;omega));clear hb q6 E5 B2 z9 E9 G5;go_wp2_with fail
  refine C9.out.mono ?_;rintro e w7 ⟨v7,rb,rfl,x4,C6,C3,hb⟩;obtain⟨Ab,cb,G9,_,_,_⟩:=aB2 x4;subst G9;have D3:=B4.out.trans (hb.mono B4.out.size);have x7:=qZ D3;have z8:=hb.size;have o8:=qZ C6;have l9:=cF7 C8.out E6.out;have i4:=cF7 x4 C3;have l6:=qZ i4;have C4:=qZ hb;have B6:ra.length<=1099511627776:=by have h1:=congrArg List.length B9.out;rw[lU] at h1;omega
  have C0:rb.length<=1099511627776:=by have h1:=congrArg List.length o8.out;rw[lU] at h1;omega
  have t9:=qZ (show∀(ru:List aF2),ru.map aF2.e=j.ents->∀q∈ru,q.e.b.length<=140737488351232 from fun ru hm q hq=>by
   obtain⟨s,hs,he⟩:=dG8 (j:=j) (e:=q.e) (by rw[<-hm];exact List.mem_map.2 ⟨q,hq,rfl⟩);have:=D0.out s hs q.e he;omega)
  have n4:=bY3 Aa Ab ra rb ca cb w7 (l9.1.keep z8 (fun x hx=>hb.block x hx.2)) i4.1 (fun q hq=>(l9.2 q hq).keep z8 (fun x hx=>hb.block x hx.2)) i4.2 (fun x hx=>by omega) (fun x hx=>hx.2) B6 C0 (t9.out ra B9.out) (t9.out rb o8.out);rw[B9.out,o8.out,bQ7] at n4;replace n4:=qZ n4;have m6:=qZ (And.intro B6 C0);clear hb D3 C9 B4 x4 C6 C3 l9 i4 B6 C0;go_wp2_with fail
  refine n4.out.mono ?_;rintro e w8 ⟨rfl,hb⟩;have G4:=x7.out.trans (hb.mono x7.out.size);have x6:=qZ G4;have J4:=hb.size;have p5:=C4.out.trans (hb.mono z8);obtain⟨n8,p7,p4⟩:=cW8 C8.out E6.out p5;have p6:=qZ p4;have d9:=cR4 Aa (ra.map aF2.v) ca w5.heap.size w8 n8 p7 (by rw[lU];have:=m6.out.1;omega);rw[lU] at d9;replace d9:=qZ d9;have o7:=qZ hb;clear hb G4 p5 n4 x7 n8 p7 p4;go_wp2_with fail
  refine d9.out.mono ?_;rintro e w9 ⟨⟨ve,rfl⟩,t6⟩;have J5:=t6.size;have m5:Below wc.heap.size w8 w9:=t6.below x6.out.size (fun k hk=>by have:=p6.out k hk;omega);have t4:=x6.out.trans m5;have l8:=qZ t4;have b8:∀x,w6.heap.size<=x∧x<w7.heap.size->w9.heap[x]? =w7.heap[x]? :=fun x hx=>(t6.block x (by omega) (fun hm=>by have:=p6.out x hm;omega)).trans (o7.out.block x hx.2)
  have l7:=qZ (And.intro (l6.out.1.keep (w' :=w9) (by omega) b8) (fun q hq=>(l6.out.2 q hq).keep (w' :=w9) (by omega) b8));have c2:w9.cell? ⟨sb,2,none⟩=some (.pointer (some ⟨gj,0,none⟩)):=Blk.cell (Blk.below f8.out t4 a8) 2;have n5:=qZ ((HJ.out.below m4.out t4).entries (fun k hk=>by have:=m4.out k hk;omega) C1);clear t6 m5 t4 b8 d9 x6 l6 C4 o7;go_wp2_with fail
  refine n5.out.mono ?_;rintro e I3 ⟨J8,rd,rfl,B8,s9,D4,hb⟩;obtain⟨Ad,cd,J0,_,_,_⟩:=aB2 B8;subst J0;have m7:=l8.out.trans (hb.mono l8.out.size);have j8:=qZ m7;have n9:=hb.size;have j9:=cF7 B8 D4;have G6:rd.length<=1099511627776:=by have h1:=congrArg List.length s9;rw[lU] at h1;omega
  have f6:=bY3 Ad Ab rd rb cd cb I3 j9.1 (l7.out.1.keep n9 (fun x hx=>hb.block x (by omega))) j9.2 (fun q hq=>(l7.out.2 q hq).keep n9 (fun x hx=>hb.block x (by omega))) (fun x hx=>hx.2) (fun x hx=>by omega) G6 m6.out.2 (t9.out rd s9) (t9.out rb o8.out);rw[s9,o8.out,bQ7] at f6;replace f6:=qZ f6;clear hb m7 n5 l8 B8 s9 D4 j9 G6 l7;go_wp2_with fail
  refine f6.out.mono ?_;rintro e y8 ⟨rfl,hb⟩;have g9:=j8.out.trans (hb.mono j8.out.size);have B7:=qZ g9;have c3:y8.cell? ⟨sb,3,none⟩=some (.pointer (some ⟨gy,0,none⟩)):=Blk.cell (Blk.below f8.out g9 a8) 3;obtain⟨⟨Ay,cy,G8,B5,_⟩,_⟩:=HY.out.below n6.out g9;have y1:y8.cell? ⟨gy,1,none⟩=some (.int .i64 j.term):=B5.cell 1;have y2:y8.cell? ⟨gy,2,none⟩=some (.int .i64 j.vote):=B5.cell 2;clear hb g9 f6 j8 B5;go_wp2_with fail
  go_ret
  exact⟨rfl,l5.out.trans (B7.out.mono I0)⟩
end
section
open Go.RowKit Go.Maps Oct
theorem cX8{w2 w3:World}{lo g2:Nat}{room:Int}(hD:aB4 w2 lo (lo+1) lo ⟨false,false,0,0⟩ room [])(hR:aB0 w3 g2 g2 ⟨false,false,0,0⟩ room (.slice none 0 0) [])(hb:Below w2.heap.size w2 w3)(hg:w2.heap.size<=g2):
  Two w3 lo (lo+1) lo g2 ⟨⟨false,false,0,0⟩,room,[]⟩ ⟨⟨false,false,0,0⟩,room,[]⟩ [] (.slice none 0 0) []:=by
 have h1:=hD.lt (lo+1) (.inl rfl);refine⟨hD.below hb,rfl,⟨hR.blk,World.ownsRow_nil _ _ _ _,(fun q hq=>by cases hq),(fun q hq=>by cases hq),List.Pairwise.nil,by omega,hR.num⟩,rfl,fun k hk a8=>?_⟩;rcases a8 with rfl|a8|⟨q,hq,_⟩
 ·rcases hk with h|h|⟨q,hq,_⟩
  ·omega
  ·omega
  cases hq
 ·cases a8
 cases hq
def aY8(w wr:World)(lo g2 sb k:Nat):Prop:=∃d es vL rs,Two wr lo (lo+1) lo g2 d d es vL rs∧bD7 wr sb (lo+1) g2 (.pointer none) (.pointer none)∧(lo<=sb∧¬aB1 (lo+1) lo es sb∧¬aC1 g2 vL rs sb)∧JDk (k*20000) d∧Below w.heap.size w wr∧w.heap.size<=lo∧lo<=wr.heap.size
theorem aY8.bound{w wr:World}{lo g2 sb k:Nat}(h:aY8 w wr lo g2 sb k):Below w.heap.size w wr∧sb<wr.heap.size:=by
 obtain⟨d,es,vL,rs,h1,h2,h3,h4,h5,h6,h7⟩:=h;exact⟨h5,Blk.lt h2⟩
theorem cT4{w wr:World}{lo g2 sb k:Nat}(h:aY8 w wr lo g2 sb k)(hk:k<=12)(s:ByteArray)(hs:s.size<=140737488351232)(q:Row)(hq:Rd w w.heap.size q.a (cells q.l))(o9:q.l.length<=16384):
  ∃b:Nat,b=wr.heap.size∧Calls Tryz.prog 10 #[.pointer (some ⟨lo+1,0,none⟩),.string s,.slice (some ⟨b,0,none⟩) 1 1] (wr.drew.alloc (.cells #[q.val] 34)) fun e w' =>(∃v,e=.returned v)∧Fr (fun x=>lo<=x∧x≠sb) wr w' ∧
   ∀W,Below w'.heap.size w' W->∃c:Nat,c=W.heap.size∧Calls Tryz.prog 11 #[.pointer (some ⟨g2,0,none⟩),.string s,.slice (some ⟨c,0,none⟩) 1 1] (W.drew.alloc (.cells #[q.val] 34)) fun e W' =>(∃v,e=.returned v)∧aY8 w W' lo g2 sb (k+1):=by
 obtain⟨d,es,vL,rs,hT,hS,hN,hJ,hB,m2,o6⟩:=h;refine⟨_,rfl,?_⟩;have d8:Below wr.heap.size wr (wr.drew.alloc (.cells #[q.val] 34)):=((lS _ wr).drew).alloc (lR _) _;have f9:=hT.below d8;have n9:=hJ.sz;have i4:∀x∈es,(x.1,x.2.f)∈d.fs:=fun x hx=>by rw[<-hT.fs];exact List.mem_map.2 ⟨x,hx,rfl⟩
 have n5:es.length=d.fs.length:=by rw[<-hT.fs];simp[sec]
 have l5:rs.length=d.fs.length:=by rw[<-hT.rfs];simp[sec]
 have o4:=hJ.len;have n6:aB8 (sec FE.f es)<=4611686018427387904:=by rw[hT.fs];omega
 have a9:∀x∈d.fs,x.2.b.length<=549755813888:=fun x hx=>by have:=aJ5 hx;omega
 have j6:Rd (wr.drew.alloc (.cells #[q.val] 34)) (wr.drew.alloc (.cells #[q.val] 34)).heap.size (some ⟨wr.heap.size,0,none⟩) ([q].map Row.val):=by
  have h1:=aF9 wr.drew 34 [q.val];exact h1.more (by simp)
 have j9:RRd (wr.drew.alloc (.cells #[q.val] 34)) (wr.drew.alloc (.cells #[q.val] 34)).heap.size [q]:=fun p hp=>by
  rw[List.mem_singleton.1 hp];have h2:=hB.trans (d8.mono hB.size);exact⟨(hq.below h2).more h2.size,by omega⟩
 have l6:=bM3 f9.dk s hs (some ⟨wr.heap.size,0,none⟩) [q] 1 j6 j9 (by simp) (by simp) (by simp[aE9];omega) (fun x hx=>a9 _ (i4 x hx)) n6 (by omega);rw[DkD.eta' d f9.fs] at l6;refine l6.mono ?_;rintro e w' ⟨rfl,m9,m4,n4,d9,l4⟩;have o8:=d9.size;have m3:=f9.left m4 n4 d9 (fun x hx=>f9.ap x hx) l4;have l7:Fr (fun x=>lo<=x∧x≠sb) wr w' :=(Fr.of_below _ d8).trans d9 (fun x hx=>.inl ⟨(hT.dk.lt x hx).1,fun e=>hN.2.1 (e▸hx)⟩);have g9:=hS.below d8 (Blk.lt hS);have b8:bD7 w' sb (lo+1) g2 (.pointer none) (.pointer none):=d9.blk_ g9 hN.2.1;refine⟨⟨_,rfl⟩,l7,fun W hW=>⟨_,rfl,?_⟩⟩;have f8:Below w'.heap.size w' (W.drew.alloc (.cells #[q.val] 34)):=hW.trans ((((lS _ W).drew).alloc (lR _) _).mono hW.size);have f6:=m3.below f8;have m0:Below w.heap.size w w' :=hB.trans (l7.below hB.size (fun x hx=>by omega));have a8:Below w.heap.size w (W.drew.alloc (.cells #[q.val] 34)):=m0.trans (f8.mono m0.size);have i6:Rd (W.drew.alloc (.cells #[q.val] 34)) (W.drew.alloc (.cells #[q.val] 34)).heap.size (some ⟨W.heap.size,0,none⟩) ([q].map Row.val):=by
  have h1:=aF9 W.drew 34 [q.val];exact h1.more (by simp)
 have g8:RRd (W.drew.alloc (.cells #[q.val] 34)) (W.drew.alloc (.cells #[q.val] 34)).heap.size [q]:=fun p hp=>by
  rw[List.mem_singleton.1 hp];exact⟨(hq.below a8).more a8.size,by omega⟩
 have l8:=cB9 f6.rk s.data.toList (by simpa using hs) (some ⟨W.heap.size,0,none⟩) [q] 1 i6 g8 (by simp) (by simp) (by simp[aE9];omega) (fun x hx=>a9 (x.1,x.2.f) (by rw[<-hT.rfs];exact List.mem_map.2 ⟨x,hx,rfl⟩)) (by rw[hT.rfs];omega) (by omega);rw[cM9 f6.rfs,show str s.data.toList=s from by obtain⟨⟨l⟩⟩:=s;rfl] at l8;refine l8.mono ?_;rintro e W' ⟨rfl,m6,m7,n7,m8,f7,l9⟩;have n8:=f6.right n7 m8 f7 (fun x hx hd=>f6.ap x hd hx) l9;have j8:=b8.below f8 (Blk.lt b8);have m5:sb<wr.heap.size:=Blk.lt hS;have o5:=f8.size;have o7:=d8.size;refine⟨⟨_,rfl⟩,(d.append s.data.toList [q.l]).2,m9,m6,m7,n8,f7.blk_ j8 hN.2.2,⟨hN.1,fun hk=>?_,fun hk=>?_⟩,(hJ.run (.app s.data.toList q.l)).mono (by show k*20000+(q.l.length+1)<=_;omega),a8.trans (f7.below a8.size (fun x hx=>by have:=(hT.rk.lt x hx).1;omega)),m2,by have:=f7.size;omega⟩
 ·rcases l4 sb hk with h1|h1
  ·exact hN.2.1 h1
  omega
 rcases l9 sb hk with h1|h1
 ·exact hN.2.2 h1
 omega
theorem bG7(A0:Option Addr)(ss:List ByteArray)(c0:Nat)(A1:Option Addr)(ps:List Row)(c1:Nat)(w:World)(hn:cS5 w A0 ss c0)(hr:cZ6 w A1 ps c1)(hF:bO5 w):
  Calls Tryz.prog 3 #[.slice A0 ss.length c0,.slice A1 ps.length c1] w fun e w' =>e=.returned (.bool true)∧Below w.heap.size w w' :=by
 have HN:=qZ hn;have HR:=qZ hr;have HF:=qZ hF;have p7:=qZ (cK5 w hF);have C9:ss.length<=9223372036854775807:=by have:=hn.le;have:=hn.cap;omega
 have D0:ps.length<=9223372036854775807:=by have:=hr.le;have:=hr.cap;omega
 clear hn hr hF;go_enter Tryz.func3,Tryz.ntmps3
 go_wp2_with fail
 refine p7.out.mono ?_;rintro e w0 ⟨rfl,n4⟩;have x6:=n4.size;have p5:=qZ n4;clear n4 p7;go_wp2_with fail
 refine(cG5 1048576 (by omega) w0).mono ?_;rintro e w1 ⟨rfl,hD,m2⟩;have x7:=m2.size;have p6:=qZ m2;have HD:=qZ hD;have B6:=(hD.lt _ (.inl rfl)).2;clear m2 hD;go_wp2_with fail
 refine(dC8 1048576 (by omega) w1).mono ?_;rintro e w2 ⟨rfl,m9,l7⟩;have t9:=l7.size;have C3:=m9.glt;have hT:=cX8 HD.out m9 l7 (lR _);obtain⟨w3,m0⟩:∃W,W=w2.alloc (.cells #[.pointer (some ⟨w0.heap.size+1,0,none⟩),.pointer (some ⟨w1.heap.size,0,none⟩),.pointer none,.pointer none] 33):=⟨_,rfl⟩
 have l9:Below w2.heap.size w2 w3:=by rw[m0];exact(lS _ w2).alloc (lR _) _
 have n9:bD7 w3 w2.heap.size (w0.heap.size+1) w1.heap.size (.pointer none) (.pointer none):=by rw[m0];exact Blk.new w2 _ _
 have z9:=l9.size;have q8:aY8 w w3 w0.heap.size w1.heap.size w2.heap.size 0:=⟨_,_,_,_,hT.below l9,n9,⟨by omega,fun hk=>by have:=(hT.dk.lt _ hk).2;omega,fun hk=>by have:=(hT.rk.lt _ hk).2;omega⟩,⟨by simp[aB8],by simp,fun q hq=>by cases hq⟩,p5.out.trans ((p6.out.trans ((l7.trans (l9.mono t9)).mono x7)).mono x6),by omega,by omega⟩;have l8:=qZ q8;have o8:=qZ m0;have d0:w3.cell? ⟨w2.heap.size,0,none⟩=some (.pointer (some ⟨w0.heap.size+1,0,none⟩)):=Blk.cell n9 0;clear m9 l7 hT m0 l9 n9 q8 HD p6 p5;go_upto_region 3 with fail
 rw[<-o8.out];obtain⟨lo,m7⟩:∃n,n=w0.heap.size:=⟨_,rfl⟩
 obtain⟨g2,f9⟩:∃n,n=w1.heap.size:=⟨_,rfl⟩
 obtain⟨sb,f8⟩:∃n,n=w2.heap.size:=⟨_,rfl⟩
 rw[<-m7,<-f9,<-f8] at l8⊢;rw[<-m7,<-f8] at d0;clear m7 f9 f8 o8 x6 x7 t9 z9 B6 C3;go_upto_block 0 with fail
 go_cut [7] from 24 to 73 (fun _ wx=>Hid (∃k,k<=12∧aY8 w wx lo g2 sb k))
 case first=>
  clear d0;go_wp2_with fail
  go_loopw [7] (fun iv wr=>∃k:Nat,iv=.int .i64 k∧k<=12∧Hid (aY8 w wr lo g2 sb k)) (fun iv _=>12-(intOf iv).toNat)
  case atStart=>exact⟨0,rfl,by omega,l8⟩
  obtain⟨k,rfl,i4,HK⟩:=hrel;clear l8;by_cases h1:k<ss.length
  rotate_left
  ·have m8:¬(k:Int)<(ss.length:Int):=by omega
   go_wp2_with fail
   go_meet;exact qZ ⟨k,i4,HK.out⟩
  by_cases h2:k<ps.length
  ·by_cases h3:k<12
   ·obtain⟨g9,f7⟩:=HK.out.bound
    obtain⟨nb,no,rfl,_,n5,o6⟩:=dH7 HN.out.rd (by simp;omega);obtain⟨rb,ro,rfl,_,m5,n8⟩:=dH7 HR.out.rd (by simp;omega);obtain⟨s,hs⟩:∃x,x=ss[k]:=⟨_,rfl⟩
    obtain⟨q,hq⟩:∃x,x=ps[k]:=⟨_,rfl⟩
    have n0:wr.cell? ⟨nb,no+k,none⟩=some (.string s):=(g9.cell (p:=⟨nb,no+k,none⟩) n5).trans (o6 k _ (by rw[List.getElem?_map,lW h1,<-hs];rfl));have r0:wr.cell? ⟨rb,ro+k,none⟩=some (.slice q.a q.l.length q.c):=(g9.cell (p:=⟨rb,ro+k,none⟩) m5).trans (n8 k _ (by rw[List.getElem?_map,lW h2,<-hq];rfl));have z8:s.size<=140737488351232:=HN.out.fit s (by rw[hs];exact lX _);have l6:q∈ps:=by rw[hq];exact lX _
    have m6:=(HR.out.rows q l6).1;have o7:=qZ g9;have m8:(k:Int)<(ss.length:Int):=by omega
    have t8:(k:Int)<(ps.length:Int):=by omega
    have D1:(k:Int)<12:=by omega
    have B1:q.l.length<=140737488351232:=(HR.out.fit q l6).1;by_cases hlong:q.l.length<=16384
    rotate_left
    ·have B8:(16384:Int)<(q.l.length:Int):=by omega
     clear hs hq l6 m6 o6 n8 HK;go_wp2_with fail
     go_ret
     exact⟨rfl,o7.out⟩
    obtain⟨b,hb,i6⟩:=cT4 HK.out (by omega) s z8 q m6 hlong;subst hb;have j9:=qZ i6;have B8:¬(16384:Int)<(q.l.length:Int):=by omega
    have C1:w.heap.size<=lo:=by obtain⟨d,es,vL,rs,_,_,_,_,_,h6,_⟩:=HK.out;exact h6
    have j8:∃es rs,bD7 wr sb (lo+1) g2 (.pointer none) (.pointer none)∧es=0∧rs=0:=by obtain⟨d,es,vL,rs,_,h7,_⟩:=HK.out;exact⟨0,0,h7,rfl,rfl⟩
    obtain⟨_,_,j8,_,_⟩:=j8;have s0:wr.cell? ⟨sb,0,none⟩=some (.pointer (some ⟨lo+1,0,none⟩)):=Blk.cell j8 0;have s1:wr.cell? ⟨sb,1,none⟩=some (.pointer (some ⟨g2,0,none⟩)):=Blk.cell j8 1;have C0:=qZ s1;have B2:=qZ n0;have C4:=qZ r0;have x5:=((lS wr.heap.size wr).drew).alloc (lR _) (.cells #[.slice q.a q.l.length q.c] 34);have m3:=qZ x5;have g8:nb<wr.heap.size:=by have:=g9.size;omega
    have l4:rb<wr.heap.size:=by have:=g9.size;omega
    clear hs hq l6 m6 i6 o6 n8 j8 s1 x5 HK hlong;go_upto_region 10 with fail
    refine wp_region_held_drew (S:=fun W=>W.cell? ⟨sb,0,none⟩=some (.pointer (some ⟨lo+1,0,none⟩))∧W.cell? ⟨nb,no+k,none⟩=some (.string s)∧W.cell? ⟨rb,ro+k,none⟩=some (.slice q.a q.l.length q.c)∧True) (by kernel_rfl) ⟨s0,n0,r0,trivial⟩ (fun hHeld=>?_);refine zT 0 (k:=?_);refine zT 1 (k:=?_);refine zT 2 (k:=?_);refine zT 3 (k:=?_);refine zT 4 (k:=?_);refine zT 5 (k:=?_);refine zT 6 (k:=?_);refine zT 7 (k:=?_);refine zT 8 (k:=?_);refine zT 9 (k:=?_);refine zT 10 (k:=?_);refine zT 11 (k:=?_);simp only[zA,zB,zF,zG,zC,zD,zE];refine zV 12 (k:=fun K hK=>?_);simp only[zA,zB];go_simp;refine hK.out _ _ ⟨(m3.out.cell (p:=⟨sb,0,none⟩) f7).trans s0,(m3.out.cell (p:=⟨nb,no+k,none⟩) g8).trans n0,(m3.out.cell (p:=⟨rb,ro+k,none⟩) l4).trans r0,trivial⟩ (fun hHeld=>?_);clear hK K;try simp only[zF,zG,zC,zD,zE]
    refine zV 13 (k:=fun K hK=>?_);simp only[zA,zB];go_simp;refine j9.out.mono ?_;rintro e w5 ⟨⟨v5,rfl⟩,a8,a9⟩;have C6:=a8.size;have k0:w5.cell? ⟨sb,0,none⟩=some (.pointer (some ⟨lo+1,0,none⟩)):=(World.cell?_of_block (w:=wr) (a:=⟨sb,0,none⟩) (a8.block sb f7 (fun h=>h.2 rfl))).trans s0;have k1:w5.cell? ⟨sb,1,none⟩=some (.pointer (some ⟨g2,0,none⟩)):=(World.cell?_of_block (w:=wr) (a:=⟨sb,1,none⟩) (a8.block sb f7 (fun h=>h.2 rfl))).trans C0.out;have k2:w5.cell? ⟨nb,no+k,none⟩=some (.string s):=(World.cell?_of_block (w:=wr) (a:=⟨nb,no+k,none⟩) (a8.block nb g8 (fun h=>by have h1:=h.1;omega))).trans n0;have k3:w5.cell? ⟨rb,ro+k,none⟩=some (.slice q.a q.l.length q.c):=(World.cell?_of_block (w:=wr) (a:=⟨rb,ro+k,none⟩) (a8.block rb l4 (fun h=>by have h1:=h.1;omega))).trans r0;obtain⟨c,hc,d8⟩:=a9 w5 (lS _ _);subst hc;have b8:=qZ d8;have j6:=((lS w5.heap.size w5).drew).alloc (lR _) (.cells #[.slice q.a q.l.length q.c] 34);have f6:=qZ j6;have m4:nb<w5.heap.size:=by omega
    have o4:rb<w5.heap.size:=by omega
    have o5:sb<w5.heap.size:=by omega
    clear a8 a9 d8 j6 j9 s0 n0 r0;refine hK.out _ _ ⟨k0,k2,k3,trivial⟩ (fun hHeld=>?_);clear hK K;refine wpAnyH_done (by kernel_rfl) ?_ _;clear hHeld k0;go_upto_region 11 with fail
    refine wp_region_held_drew (S:=fun W=>W.cell? ⟨sb,1,none⟩=some (.pointer (some ⟨g2,0,none⟩))∧W.cell? ⟨nb,no+k,none⟩=some (.string s)∧W.cell? ⟨rb,ro+k,none⟩=some (.slice q.a q.l.length q.c)∧True) (by kernel_rfl) ⟨k1,k2,k3,trivial⟩ (fun hHeld=>?_);refine zT 0 (k:=?_);refine zT 1 (k:=?_);refine zT 2 (k:=?_);refine zT 3 (k:=?_);refine zT 4 (k:=?_);refine zT 5 (k:=?_);refine zT 6 (k:=?_);refine zT 7 (k:=?_);refine zT 8 (k:=?_);refine zT 9 (k:=?_);refine zT 10 (k:=?_);refine zT 11 (k:=?_);simp only[zA,zB,zF,zG,zC,zD,zE];refine zV 12 (k:=fun K hK=>?_);simp only[zA,zB];go_simp;refine hK.out _ _ ⟨(f6.out.cell (p:=⟨sb,1,none⟩) o5).trans k1,(f6.out.cell (p:=⟨nb,no+k,none⟩) m4).trans k2,(f6.out.cell (p:=⟨rb,ro+k,none⟩) o4).trans k3,trivial⟩ (fun hHeld=>?_);clear hK K;try simp only[zF,zG,zC,zD,zE]
    refine zV 13 (k:=fun K hK=>?_);simp only[zA,zB];go_simp;refine b8.out.mono ?_;rintro e w6 ⟨⟨v6,rfl⟩,l5⟩;have C2:=qZ l5;obtain⟨d9,n7⟩:=l5.bound;have p9:w6.cell? ⟨sb,1,none⟩=some (.pointer (some ⟨g2,0,none⟩)):=by obtain⟨d,es,vL,rs,_,h7,_⟩:=l5;exact Blk.cell h7 1
    have x4:w6.cell? ⟨nb,no+k,none⟩=some (.string s):=(d9.cell (p:=⟨nb,no+k,none⟩) n5).trans ((o7.out.cell (p:=⟨nb,no+k,none⟩) n5).symm.trans B2.out);have p4:w6.cell? ⟨rb,ro+k,none⟩=some (.slice q.a q.l.length q.c):=(d9.cell (p:=⟨rb,ro+k,none⟩) m5).trans ((o7.out.cell (p:=⟨rb,ro+k,none⟩) m5).symm.trans C4.out);clear l5 d9 n7 b8;refine hK.out _ _ ⟨p9,x4,p4,trivial⟩ (fun hHeld=>?_);clear hK K;refine wpAnyH_done (by kernel_rfl) ?_ _;clear hHeld p9 x4 p4 k1 k2 k3;go_wp2_with fail
    go_roundw
    case rel=>exact⟨k+1,by go_num,by omega,C2⟩
    case measure=>simp[intOf];omega
   have B5:k=12:=by omega
   subst B5;have m8:(12:Int)<(ss.length:Int):=by omega
   have t8:(12:Int)<(ps.length:Int):=by omega
   clear h1 h2 h3;go_wp2_with fail
   go_meet;exact qZ ⟨12,by omega,HK.out⟩
  have m8:(k:Int)<(ss.length:Int):=by omega
  have t8:¬(k:Int)<(ps.length:Int):=by omega
  go_wp2_with fail
  go_meet;exact qZ ⟨k,i4,HK.out⟩
 obtain⟨k,hk,d,es,vL,rs,hT,hS,hN,hJ,hB,s9,B7⟩:=hcut.out;have n6:JDk 240000 d:=hJ.mono (by omega);have o9:=qZ (cS6 hT hS hN n6 (by omega) B7 (fun w' hb=>⟨(HF.out.below (hB.trans (hb.mono s9))).tab,(HF.out.below (hB.trans (hb.mono s9))).err⟩));have x8:=qZ n6;have HB:=qZ hB;have C8:=hB.size;have B9:=qZ (show∀x,aB1 (lo+1) lo es x∨aC1 g2 vL rs x∨x=sb->w.heap.size<=x from fun x hx=>by
  rcases hx with h1|h1|h1
  ·have:=(hT.dk.lt x h1).1;omega
  ·have:=(hT.rk.lt x h1).1;omega
  have:=hN.1;omega)
 clear hT hS hN hJ n6 hB hcut l8 d0;go_wp2_with fail
 refine o9.out.mono ?_;rintro e w5 ⟨rfl,C7,C5,D3,vj,vy,t7,p8,t6,a8,_,_⟩;have t4:=HB.out.trans (a8.below HB.out.size B9.out);have y8:=qZ t4;have q6:=qZ (cM1 t7 p8 t6 (L:=240000) (cT5 x8.out) (by omega) (fun j hj=>by
  have h1:=cN5 (d:=d) (c:=(aI1 d).1) (j:=j) (d' :=(aI1 d).2.2) (by rw[<-hj]);have h2:=x8.out.sz;omega))
 clear t7 p8 t6 a8 t4 o9;go_wp2_with fail
 refine q6.out.mono ?_;rintro e w6 ⟨rfl,p0⟩;have B4:=qZ (y8.out.trans (p0.mono y8.out.size));clear p0 q6;go_wp2_with fail
 go_ret
 exact⟨rfl,B4.out⟩
theorem journalOpens_facts(W:World)(h:laidMet Tryz.prog Rows.journalOpensRow.laid W):bO5 W:=dE3 h
theorem journalOpens_walk(w:World)(ht:bO5 w)(A0:Option Addr)(ss:List ByteArray)(c0:Nat)(g0:cS5 w A0 ss c0)(A1:Option Addr)(ps:List Row)(c1:Nat)(g1:cZ6 w A1 ps c1):
  Calls Tryz.prog 3 #[.slice A0 ss.length c0,.slice A1 ps.length c1] w fun e w' =>e=.returned (.bool true)∧Below w.heap.size w w' :=bG7 A0 ss c0 A1 ps c1 w g0 g1 ht
end
end Go.Proofs.YtgeofijddhflaaaGreatDoor
