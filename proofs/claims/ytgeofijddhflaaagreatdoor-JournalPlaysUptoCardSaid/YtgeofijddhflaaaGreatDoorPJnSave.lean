/- journal.Save. Condition: the journal is on a disk of a call's own, within bounds; the entries' memory is known; the library's variables stand as laid. -/
import Derived.Test.YtgeofijddhflaaaGreatDoorPJnRComp
set_option linter.unusedVariables false
set_option linter.unusedSimpArgs false
set_option maxHeartbeats 8000000
set_option maxRecDepth 100000
namespace Go.Proofs.YtgeofijddhflaaaGreatDoor
open Go.RowKit Go.Maps Oct
theorem aF2{w:World}{base g m gj:Nat}{F E:Nat->Prop}{d:DkD}{j:bQ}{es:List (Nm×FE)}(h:aT8 w base g m gj F d j es)(Y4:base<=w){L:Nat}(PN:gP L d)(hL:L<=100000000000)(hE:∀w',Below base w w' ->aM0 w')(LI:j.b0.length<=1000000)(PE:∀s∈j.b0,1<=s.k∧s.k<=999999999)
  (Q7:∀s∈j.b0,s.l.length<=100000000∧0<=s.b2∧s.b2<=1000000000000)
  (Q6:∀s∈j.b0,s.a7≠[]∧∀n∈s.a7,0<=n∧n<=1000000000000)
  (Ae:Option Addr) (rs:List EntR) (ce:Nat) (LF:dM w E Ae (aG rs)) (KD:∀q∈rs,gQ w E q.v q.e.b) (ET:∀k,E k->k<w.heap.size) (UM:rs.length<=2000000) (OQ:((rs.map EntR.e).map aZ).flatten.length<=1000000000)
  (D5:∀q∈rs,(I6 q.e.ix)∧(I6 q.e.tm)∧(I6 q.e.kd)):
  Calls Tryz.prog 15 #[(gj,0),.slice Ae rs ce] w fun e w' =>vK w base g m gj es F (cP j d (rs.map EntR.e)) e w' :=by
 have OU:=h.jn.lt;have EV:=fun k hk=>(h.apart k hk).2.1
 have N5:=fun w' (hb:Below w w w')=>bQ1 (h.jn.a1 EV hb) (fun k hk=>ω2 (EV k hk) hb.size) Ae rs ce (LF.b1 hb.size (fun k hk=>hb.block k (ET k hk))) (fun k hk=>ω2 (ET k hk) hb.size) (fun q C=>by obtain⟨Av,cd,hv,_⟩:=KD q C;exact⟨Av,cd,hv⟩) O D5
 obtain⟨l,hl⟩:=eX (rs.map EntR.e);rw[<-hl] at N5 OQ⊢;obtain⟨mj,KX⟩:=eX (nG j l);rw[<-KX] at N5;obtain⟨jb,KQ⟩:=eX j.bad;obtain⟨⟨A,c,l7,H,I,Y,h4,h5⟩,h6,OX⟩:=h.jn;rw[<-KQ] at H;obtain⟨nl,FT⟩:=eX j.b0.length;rw[<-FT] at I h4 h6 LI;have OC:aS w gj 53 #[j.c6,j.h7,.slice A nl c,(g,0),jb]:=by rw[FT];exact H
 obtain⟨T,FY⟩:=eX (w.alloc (.cells #[(gj,0)] 30));have CE:=bN FY;have EX:=kN FY;have JQ:=OC.a1 CE OU;have b0:=EX.c 0;have j4:=JQ.c 4;have m9:=CE.size;have J7:=EX.lt;have NH:=J Y;have EP:=J h5;have HH:=J h;have NE:=J PN;have HE:=J hE;have MW:=J PE;have C0:=J Q7;have AH:=J Q6;have X8:=J KQ;have K3:=J FT;have i4:=J h4;have BG:=J D5;have EK:=J OX;have j8:=J EV;have S8:=J (N5 T CE);have S9:=J KX;have S7:=J hl;have NI:=J LF;have EJ:=J KD;have MM:=J ET;have l5:=J CE;have I2:=J EX;have G5:=J JQ;have RL:=J FY;clear h H Y h4 h5 h6 PN hE PE Q7 Q6 KQ FT D5 OX EV N5 KX hl LF KD ET CE EX JQ FY OC;go_enter Tryz.func15,Tryz.ntmps15;go_upto_region 1 with fail
 rw[<-RL.o];by_cases hb:jb=0;rotate_left
 ·have SA:=bne_iff_ne.2 hb
  have HR:=J (show cP j d l=(jb,j,d) by unfold cP;rw[if_pos (by rw[<-X8.o];exact hb),X8.o]);clear hb S8;go_wp2;go_ret;exact HH.o.same l5.o HR.o
 subst hb;go_wp2_with fail;refine S8.o.mono ?_;rintro e w1 ⟨rfl,EY⟩;have L2:=J EY;have R6:=J (l5.o.trans (EY.mono m9));have FV:=EY.size;clear EY S8 b0 j4;by_cases hm:mj=0;rotate_left
 ·have FM:=bne_iff_ne.2 hm
  have HR:=J (show cP j d l=(mj,j,d) by unfold cP;rw[if_neg (by rw[<-X8.o];simp),if_pos (by rw[<-S9.o];exact hm),S9.o]);clear hm;go_wp2;go_ret;exact HH.o.same R6.o HR.o
 subst hm;rcases Nat.eq_zero_or_pos rs with hz|hz
 ·have HR:=J (show cP j d l=(0,j,d) by
   have h0:l=[]:=by rw[S7.o,mD hz];rfl
   have FL:=S9.o;unfold cP;rw[if_neg (by rw[<-X8.o];simp),if_neg (by rw[<-FL];simp),h0])
  obtain⟨rn,PQ⟩:=eX rs.length;rw[<-PQ] at hz⊢;subst hz;clear PQ;go_wp2;go_ret;exact HH.o.same R6.o HR.o
 have UV:((rs:Int)==0)=false:=mN.2 O;obtain⟨eb,eo,RR,_,SM,OM⟩:=NI.o (by rw[aN];omega);subst RR;obtain⟨ix,DC⟩:=eX (rs[0].e.ix);have DE:=(BG.o rs[0] (lX hz)).1;rw[<-DC] at DE;have DD:0<=ix∧ix<=9223372036854775806:=by
  have h0:l=rs[0].e::(rs.drop 1).map EntR.e:=by
   rw[S7.o];have e:rs=rs[0]::rs.drop 1:=List.drop_eq_getElem_cons hz
   conv=>lhs;rw[e]
   rfl
  have FL:=S9.o.symm;rw[h0] at FL;have H:=bH9 FL;have I:=bQ.k3 HH.o.jn;rw[<-DC] at H;omega
 have NK:Hq (cP j d l=saveR j d l ix):=J (by
  have h0:l=rs[0].e::(rs.drop 1).map EntR.e:=by
   rw[S7.o];have e:rs=rs[0]::rs.drop 1:=List.drop_eq_getElem_cons hz
   conv=>lhs;rw[e]
   rfl
  rw[DC];exact uD X8.o.symm S9.o.symm h0)
 have e0:w1.cell? (eb,eo)=some (.int .i64 ix):=(R6.o.cell (p:=(eb,eo)) SM).trans (OM 0 _ (by rw[show(0:Nat)=0*4+0 from rfl,bM _ hz O,DC];rfl));have b1:=(I2.o.a1 L2.o J7).c 0;have j2:=(G5.o.a1 L2.o O).c 2;clear OM DC;go_upto_block 0 with fail
 obtain⟨N,hN⟩:=eX (dR j.b0 ix nl);have HN:=J hN;clear hN;go_cut [7,8,9] from 50 to 94 (fun c7 c8 c9 wx=>∃(dv:Value) (vs:List Value) (G:Nat->Prop),c7=.int .i64 N∧c8=.int .i64 (eY j N)∧c9=dv∧N<=nl∧vs<=nl∧Hq (Below T T wx)∧Hq (eO wx G T gj g dv vs ((fI j N).map fun x=>aQ.rm (aE x.k)))∧Hq (∀x,G x->T.heap.size<=x))
 case first=>
  go_wp2_with fail;go_loopw [7,8,9] (fun i7 i8 i9 wr=>∃(k:Nat) (dv:Value) (vs:List Value) (G:Nat->Prop),k<=nl∧i7=.int .i64 k∧i8=.int .i64 (eY j k)∧i9=dv∧vs+k<=nl∧Hq (N=dR j.b0 ix k)∧Hq (Below T T wr)∧Hq (eO wr G T gj g dv vs ((fI j k).map fun x=>aQ.rm (aE x.k)))∧Hq (∀x,G x->T.heap.size<=x)) (fun i7 _ _ _=>(intOf i7).toNat)
  case atStart=>
   have OR:fI j nl=[]:=by unfold fI;rw[List.drop_eq_nil_of_le (by rw[<-K3.o];exact lR _)];rfl
   refine⟨nl,.slice none 0 0,[],fun _=>False,lR _,rfl,?_,rfl,σ,HN,L2,J ?_,J (fun _ h=>h.elim)⟩;unfold eY;rw[OR];rfl;rw[OR];exact eO.nil
  obtain⟨k,dv,vs,G,hk,rfl,rfl,FG,LP,BF,HC,HA,L5⟩:=hrel;have KF:=FG.symm;clear FG;subst KF;clear HN b1 j2 e0 L2;have W5:=HC.o.size;have R5:=J (l5.o.trans (HC.o.mono m9));have b2:=(I2.o.a1 HC.o J7).c 0;have k2:=(G5.o.a1 HC.o O).c 2;by_cases hk1:1<k;rotate_left
  ·have CJ:N=k:=by
    rw[BF.o];rcases(by omega:k=0∨k=1) with h0|h0
    rw[h0];rfl;rw[h0];rfl
   have m7:=J CJ;have UI:¬(1:Int)<(k:Int):=O;clear BF CJ hk1;go_wp2;go_meet;exact⟨_,vs,G,by rw[m7.o],by rw[m7.o],rfl,by rw[m7.o];exact hk,O,HC,J (by rw[m7.o];exact HA.o),L5⟩
  obtain⟨P,FJ⟩:=eX (k-1);have J3:P<j.b0:=by rw[<-K3.o];omega
  have J2:P<l7:=by rw[i4.o];omega
  have DG:=fun q C=>R5.o.block q (j8.o q C)
  obtain⟨U,ao,e5,RT,M4,I8⟩:=NH.o (by rw[lU];omega);subst e5;have CI:=EP.o P J2 J3;have hM:=CI.b1 R5.o.size DG;obtain⟨b,o,Al,cl,O1,O6,P7,U2,JO,KW,_,d1,_⟩:=hM.rd.cells;have r0:w.cell? (U,ao+P)=some (.pointer (b,o)):=I8 P _ (by rw[List.getElem?_map,lW J2,U2];rfl);have r1:=(R5.o.cell (p:=(U,ao+P)) M4).trans r0;have C3:N=if ix<=j.b0[P].a8 then dR j.b0 ix P else k:=by
   obtain⟨m,hm⟩:∃m,k=m+2:=⟨k-2,O⟩
   have e1:P=m+1:=O;subst e1;rw[BF.o,hm];show(match j.b0[m+1]? with|some s=>_|none=>_)=_
   rw[lW J3]
  have D3:=vY J3;have N2:=yM J3;rw[show P+1=k by omega] at D3 N2;have U7:=uS (fun s hs=>(C0.o s hs).2) nl K3.o.symm (nl-k) O;rw[show nl-(nl-k)=k by omega] at U7;have DJ:=C0.o j.b0[P] (lX J3);have DU:(k:Int)-1=(P:Int):=O;have LS:IntKind.i64.wrap (P:Int)=(P:Int):=mH _ O;have FM:P<nl:=O;have V3:(P:Int)<(nl:Int):=O;have PC:(1:Int)<(k:Int):=O;rw[U2] at hM CI;obtain⟨s,hs⟩:=eX (j.b0[P]);rw[<-hs] at hM CI d1 C3 D3 N2 DJ;obtain⟨fi,OP⟩:=eX s.a8;rw[<-OP] at d1 C3;have Z:=J CI;have P4:=J hM.b2;have I0:=J C3;have IL:=J N2;have BH:=J r0;obtain⟨fk,KM⟩:=eX (eY j k);obtain⟨sl,LM⟩:=eX s.b2;rw[<-KM] at D3 U7⊢;rw[<-LM] at D3 DJ;have BC:Hq (Calls Tryz.prog 56 #[(b,o)] wr fun e w' =>e=.returned sl∧Below wr wr w'):=J (by rw[LM];exact P4.o);have LQ:IntKind.i64.wrap (fk+sl)=fk+sl:=mH _ (by
   have H:((nl-k:Nat):Int)*1000000000000<=1000000*1000000000000:=O;omega)
  have IG:=J D3;have IE:=J KM;clear I8 U2 hs OP hM CI C3 N2 r0 P4 KM LM D3 FJ JO U7;by_cases hle:ix<=fi;rotate_left
  ·have CJ:N=k:=by rw[I0.o,if_neg hle]
   have m7:=J CJ;clear I0 BF CJ;go_wp2;go_meet;exact⟨_,vs,G,by rw[m7.o],by rw[m7.o,IE.o],rfl,by rw[m7.o];exact hk,O,HC,J (by rw[m7.o];exact HA.o),L5⟩
  have QT:=J (show N=dR j.b0 ix P by rw[I0.o,if_pos hle]);clear I0 BF;go_wp2_with fail;refine BC.o.mono ?_;rintro e w5 ⟨rfl,D0⟩;have X4:=J (HC.o.trans (D0.mono W5));have MB:=J (HA.o.a1 D0);clear D0 BC HA HC b2 k2 r1 d1;go_upto_region 13 with fail
  have Z7:=J (l5.o.trans (X4.o.mono m9));have IA:=J X4.o.drew;have L1:=J Z7.o.drew;have FW:T.heap.size<=w5.drew:=X4.o.size;have MH:=J (MB.o.a1 (lS _ w5).drew);have b5:=(I2.o.a1 IA.o J7).c 0;have k5:=(G5.o.a1 IA.o O).c 2;have r5:=(L1.o.cell (p:=(U,ao+P)) M4).trans BH.o;have T0:=J ((Z.o.b1 L1.o.size (fun q C=>L1.o.block q (j8.o q C))).nameJ (HE.o w5.drew (L1.o.mono Y4)));have V6:=fJ s.k Z.o.rd.num.k;obtain⟨nm,J4⟩:=eX (aE s.k);have EM:=J J4;rw[<-J4] at T0 V6;clear J4 X4 Z7 MB;refine wp_region_held_drew (S:=fun W=>W.cell? ⟨w,0,none⟩=some (.pointer (some ⟨gj,0,none⟩))∧W.cell? ⟨gj,2,none⟩=some (.slice (some ⟨U,ao,none⟩) nl c)∧W.cell? ⟨U,ao+P,none⟩=some (.pointer (some ⟨b,o,none⟩))∧True) κ ⟨b5,k5,r5,trivial⟩ (fun f=>?_);refine zT 0 (k:=zT 1 (k:=zT 2 (k:=zT 3 (k:=zT 4 (k:=zT 5 (k:=zT 6 (k:=zT 7 (k:=zT 8 (k:=zT 9 (k:=?_))))))))));simp only[zA,zB,zF,zG,zC,zD,zE];refine zV 10 (k:=fun K M=>?_);simp only[zA,zB];go_simp;refine T0.o.mono ?_;rintro e R ⟨rfl,p6⟩;have FX:=p6.size;have L3:=J (IA.o.trans (p6.mono FW));have K9:=J (l5.o.trans (L3.o.mono m9));have Z4:=J p6;have b6:=(I2.o.a1 L3.o J7).c 0;have k6:=(G5.o.a1 L3.o O).c 2;have r6:=(K9.o.cell (p:=(U,ao+P)) M4).trans BH.o;clear p6 T0 b5 k5 r5 K9;refine M.out _ _ ⟨b6,k6,r6,trivial⟩ (fun f=>?_);clear M K;try simp only[zF,zG,zC,zD,zE]
  refine zV 11 (k:=fun K M=>?_);simp only[zA,zB];go_simp;refine(show Calls _ _ _ R _ from uV (gj:=gj) (g:=g) nm O R).mono ?_;rintro e w7 ⟨v7,rfl,Q3,⟨F6,m3,rfl⟩,_,p5⟩;have Y9:=Q3.size;have O9:=J (L3.o.trans (Q3.mono O));have Z8:=J (l5.o.trans (O9.o.mono m9));have B9:=J (Z4.o.trans (Q3.mono FX));have C5:=J (p5 (fun x=>G x∨(w5.drew.heap.size<=x∧x<w7.heap.size)) (fun x H I=>.inr ⟨O,I⟩));have b7:=(I2.o.a1 O9.o J7).c 0;have k7:=(G5.o.a1 O9.o O).c 2;have r7:=(Z8.o.cell (p:=(U,ao+P)) M4).trans BH.o;clear Q3 p5 b6 k6 r6 L3 Z4 Z8;refine M.out _ _ ⟨b7,k7,r7,trivial⟩ (fun f=>?_);clear M K;try simp only[zF,zG,zC,zD,zE]
  refine zV 12 (k:=fun K M=>?_);simp only[zA,zB];go_simp;have D1:=bA w7 (.cells #[.func (.func F6) #[] m3] 98);have D7:=J (O9.o.trans (D1.mono O));have L0:=J (l5.o.trans (D7.o.mono m9));have O7:=J (MH.o.a1 (B9.o.trans (D1.mono (ω1 B9.o.size))));have X2:=D7.o.size;have Y1:=J (cS w7 98 [.func (.func F6) #[] m3]);have bA:(w7.alloc (.cells #[.func (.func F6) #[] m3] 98)).cell? (w,0)=some (.pointer (gj,0)):=(I2.o.a1 D7.o J7).cell 0;have kA:(w7.alloc (.cells #[.func (.func F6) #[] m3] 98)).cell? (gj,2)=some (.slice (U,ao) nl c):=(G5.o.a1 D7.o O).cell 2;have rA:=(L0.o.cell (p:=(U,ao+P)) M4).trans BH.o;clear D1 b7 k7 r7 O9 L0;refine M.out _ _ ⟨bA,kA,rA,trivial⟩ (fun f=>?_);clear M K;try simp only[zF,zG,zC,zD,zE]
  refine zV 13 (k:=fun K M=>?_);simp only[zA,zB];rw[if_pos (by rfl)];refine fS (.tmp 81) (.tmp 93) 110 rfl T 98 .nilFunc 8 Tryz.underlying110 iV rfl _ vs rfl O7.o.own (w7.heap.size+1) (w7,0) 1 1 [.func (.func F6) #[] m3] rfl rfl Y1.o (by simp[Value.oneCell']) μ O X2 ?_;intro vq wq p7 Y7 CX;have ES:=MH.o.step B9.o C5.o Y7 CX p7;have R8:=J (D7.o.grown Y7 X2 (fun r Q=>(O7.o.own.lt r Q).1));have QI:=J ES;have AB:=J (l5.o.trans (R8.o.mono m9));have bq:=(I2.o.a1 R8.o J7).c 0;have kq:=(G5.o.a1 R8.o O).c 2;have rq:=(AB.o.cell (p:=(U,ao+P)) M4).trans BH.o;clear p7 Y7 CX ES bA kA rA O7 D7 AB;refine M.out _ _ ⟨bq,kq,rq,trivial⟩ (fun f=>?_);clear M K;try simp only[zF,zG,zC,zD,zE]
  refine zT 14 (k:=?_);simp only[zA,zB,zF,zG,zC,zD,zE];refine wpAnyH_done κ ?_ _;clear f bq kq rq;go_wp2;go_roundw
  case rel=>
   refine⟨P,vq,vs++[.func (.func F6) #[] m3],fun x=>G x∨(w5.drew.heap.size<=x∧x<w7.heap.size),O,rfl,by rw[IG.o],rfl,θ,QT,R8,J ?_,J (fun x hx=>?_)⟩;rw[IL.o,mE,mG,List.map_nil,<-EM.o];exact QI.o;rcases hx with hx|hx
   exact L5.o x hx;omega
  case measure=>simp[intOf];omega
 obtain⟨dv,vs,G,h7,h8,h9,JT,LP,HC,HA,L5⟩:=hcut;subst h7 h8;have CC:=h9.symm;clear h9;subst CC;clear L2 b1 j2 e0;have W5:=HC.o.size;have R5:=J (l5.o.trans (HC.o.mono m9));have b1:=(I2.o.a1 HC.o J7).c 0;have j2:=(G5.o.a1 HC.o O).c 2;have UG:(0:Int)<=(N:Int)∧(N:Int)<=(c:Int):=O;have X5:=J (wC A N c ((l7.map fun a=>Value.pointer (some a)).take N) wc (((NH.o.take N).rd.a1 R5.o).more R5.o.size) (by rw[lV,lU,i4.o];omega) (fun u hu=>by obtain⟨a,_,rfl⟩:=mF.1 (mO hu);rfl) O);have KK:=uS (fun s hs=>(C0.o s hs).2) nl K3.o.symm (nl-N) O;rw[show nl-(nl-N)=N by omega] at KK;obtain⟨f1,KI⟩:=eX (eY j N);rw[<-KI] at KK⊢;have SN:0<=f1∧f1<=1000000000000000000:=by
  have H:((nl-N:Nat):Int)*1000000000000<=1000000*1000000000000:=O;omega
 have MN:=J KI;clear KI KK;go_wp2_with fail;refine X5.o.mono ?_;rintro e w4 ⟨v4,rfl,C2,JV⟩;obtain⟨A4,c4,TR,RW,SF,_⟩:=aK C2;subst TR;have GU:=J (HC.o.trans (JV.mono W5));have PT:=GU.o.size;have GM:=J (HA.o.a1 JV);have JF:Hq (Own w4 T 108 (.slice A4 N c4) ((l7.take N).map fun a=>Value.pointer (some a))):=J (by
  unfold Own;rw[lU,lV,i4.o,Nat.min_eq_left JT,List.map_take];exact pK C2 W5)
 have EO:=J (show∀r,(Value.slice A4 N c4).ownBlock=some r->¬G r from fun r Q hg=>by
  have H:=(mL C2 r Q).1;have I:=HA.o.lt r hg;omega)
 clear C2 JV X5 b1 j2 HA HC R5;go_upto_region 15 with fail
 obtain⟨wA,X2⟩:=eX (w4.alloc (.cells #[.int .i64 1,ix,.int .i64 0,.slice none 0 0,.slice none 0 0] 104));have D1:=bN X2;have FH:=kN X2;obtain⟨V,DS⟩:=eX w4.heap.size;rw[<-DS] at FH;have EL:=J FH;have NP:=J X2;have RH:=J DS;have PV:=FH.lt;have V8:T<=V:=O;have D7:=J (GU.o.trans (D1.mono PT));have O7:=J (GM.o.a1 D1);have G8:=J (Own.a1 JF.o D1 (lR _));have BK:=J (show∀r,(Value.slice A4 N c4).ownBlock=some r->r<V from fun r Q=>by rw[DS];exact(JF.o.lt r Q).2);have n8:=J (show∀x,G x->x<V from fun x hx=>by rw[DS];exact GM.o.lt x hx);clear X2 D1 FH DS GU GM JF PT;go_upto_region 16 with fail
 rw[<-NP.o,<-RH.o];clear NP;go_upto_if 107 with fail
 go_cut [8,9] from 106 to 152 (fun c8 c9 wx=>∃(C9:Value) (q8:List Value) (G1:Nat->Prop) (I3:List Addr) (fk ft fr:Int) (al:List aQ),c8=.int .i64 fr∧c9=C9∧q8<=nl+1∧Hq (xX wx T F j ix l7 N w T V gj g (.slice A4 N c4) C9 q8 G1 I3 fk ft fr al))
 case first=>
  rcases Nat.eq_zero_or_pos N with JS|JS
  ·have NC:=J JS
   have KZ:¬(0:Int)<(N:Int):=O;clear JS;go_wp2;go_meet;refine⟨_,vs,G,[],1,0,f1,(fI j N).map fun x=>aQ.rm (aE x.k),rfl,rfl,O,J ⟨D7.o,EL.o,?_,O7.o,fun x hx=>.inr (ω1 (L5.o x hx)),⟨fun h=>ω1 (n8.o V h),fun r Q=>EO.o r Q⟩,⟨O,O,O,O⟩,.inl ⟨NC.o,rfl,rfl,rfl,by rw[MN.o,Int.add_zero],rfl⟩⟩⟩;have H:=G8.o;rw[NC.o] at H⊢;simpa using H
  obtain⟨P,FJ⟩:=eX (N-1);have J3:P<j.b0:=by rw[<-K3.o];omega
  have J2:P<l7:=by rw[i4.o];omega
  have KZ:(0:Int)<(N:Int):=O;have DU:(N:Int)-1=(P:Int):=O;have LS:IntKind.i64.wrap (P:Int)=(P:Int):=mH _ O;have FM:P<N:=O;have V3:(P:Int)<(N:Int):=O;have L0:=J (l5.o.trans (D7.o.mono m9));have hM:=EP.o P J2 J3;obtain⟨ob,oo,Al,cl,O1,O6,P7,U2,JO,KW,_⟩:=hM.rd.cells;obtain⟨U,ao,e5,_,M4,I8⟩:=(dM.e1 (F:=fun _=>True) G8.o (fun _ _ _=>trivial)) (by rw[lU,lV,i4.o];omega);subst e5;have r0:wA.cell? (U,ao+P)=some (.pointer (ob,oo)):=I8 P _ (by rw[List.getElem?_map,List.getElem?_take_of_lt O,lW J2,U2];rfl);have DJ:=C0.o j.b0[P] (lX J3);have PB:=MW.o j.b0[P] (lX J3);rw[U2] at hM;obtain⟨s,hs⟩:=eX (j.b0[P]);rw[<-hs] at hM DJ PB;have Z:=J hM;have RJ:=J hs;have NA:=J FJ;clear I8 U2 hs hM FJ JO
  --the box of the old segment
  obtain⟨wX,GG⟩:=eX (wA.alloc (.cells #[(ob,oo)] 108));have CP:=bN GG;have DF:=kN GG;obtain⟨xb,LT⟩:=eX wA.heap.size;rw[<-LT] at DF;have MX:=J DF;have NR:=J GG;have RN:=J LT;have GZ:=J (D7.o.trans (CP.mono O));have G2:=J (l5.o.trans (GZ.o.mono m9));have MG:=J (O7.o.a1 CP);have BN:=J (Own.a1 G8.o CP (lR _));have AU:=J (EL.o.a1 CP PV);have TX:V<xb:=O;have LU:=DF.lt;have x0:=DF.c 0;have JA:=J (Z.o.b1 G2.o.size (fun q C=>G2.o.block q (j8.o q C)));have ME:=J (aW2 JA.o (fun q C=>ω2 (j8.o q C) G2.o.size) O ix ⟨DD.1,DE.2⟩);clear GG CP DF LT D7 L0 O7 G8 EL;go_upto_region 18 with fail
  rw[<-NR.o,<-RN.o];clear NR r0;go_wp2_with fail;refine ME.o.mono ?_;rintro e R ⟨cb,O2,E5,D9,rfl,Q0,p6⟩;obtain⟨FB,FC,SG,FF⟩:=JA.o.ahead_ok ix;obtain⟨c,KA⟩:=eX (s.ahead ix);rw[<-KA] at Q0 FB FC SG FF;have QM:=J KA;have GW:=J FB;have QN:=J FC;have QO:=J FF;have CG:∀q,F q->q<R.heap.size:=fun q C=>by have:=j8.o q C;have:=G2.o.size;have:=p6.size;omega
  have g8:=J CG;have T8:=J (Q0.segM FB FC O FF);have L3:=J (GZ.o.trans (p6.mono O));have K9:=J (l5.o.trans (L3.o.mono m9));have MC:=J (MG.o.a1 p6);have BL:=J (Own.a1 BN.o p6 (lR _));have AS:=J (AU.o.a1 p6 O);have AY:=J (MX.o.a1 p6 LU);have BT:=J Q0;have NM:=J (show(∀r,E5.ownBlock=some r->wX.heap.size<=r∧r<R.heap.size)∧(∀r,D9.ownBlock=some r->wX.heap.size<=r∧r<R.heap.size) from⟨fun r Q=>mL Q0.c7 r Q,fun r Q=>mL Q0.a7 r Q⟩);have SH:wX<=cb∧cb<R:=⟨Q0.low,Q0.b4.lt⟩;have FX:=p6.size;have MY:=J (T8.o.b2);have KB:=T8.o.longB;obtain⟨cg,Q5⟩:=eX c.b2;rw[<-Q5] at KB;have MJ:=J Q5;have BA:Hq (Calls Tryz.prog 56 #[(cb,0)] R fun e w' =>e=.returned cg∧Below R R w'):=J (by rw[Q5];exact MY.o);clear Q0 p6 KA FB FC FF CG Q5 MY GZ G2 MG BN AU MX JA ME x0;go_wp2_with fail;refine BA.o.mono ?_;rintro e w7 ⟨rfl,Q3⟩;obtain⟨wL,GE⟩:=eX (w7.alloc (.cells #[cg] 3));have CO:=bN GE;have FI:=kN GE;obtain⟨lb,KV⟩:=eX w7.heap.size;rw[<-KV] at FI;have Y9:=Q3.size;have U4:=Q3.trans (CO.mono Y9);have IR:=J FI;have I1:=J GE;have IU:=J KV;have DI:=FI.lt;have SR:R<=lb:=O;have X5:=J (L3.o.trans (U4.mono O));have AA:=J (l5.o.trans (X5.o.mono m9));have MF:=J (MC.o.a1 U4);have BM:=J (Own.a1 BL.o U4 (lR _));have S3:=J (AS.o.a1 U4 O);have G7:=J (AY.o.a1 U4 O);have BU:=J (BT.o.a1 g8.o U4);have IY:=J (Z.o.b1 AA.o.size (fun q C=>AA.o.block q (j8.o q C)));clear GE CO FI KV Q3 U4 L3 K9 MC BL AS AY BT T8 BA;go_upto_region 20 with fail
  rw[<-I1.o,<-IU.o];clear I1;have SX:=IY.o.longB;obtain⟨og,N7⟩:=eX s.b2;rw[<-N7] at SX DJ;have ND:=J N7;have MZ:=J (fun wy (hb:Below wL wL wy)=>show Calls Tryz.prog 56 #[(ob,oo)] wy fun e w' =>e=.returned og∧Below wy wy w' from by rw[N7];exact(IY.o.b1 hb.size (fun q C=>hb.block q (ω1 (g8.o q C)))).b2);clear N7;have x0:=G7.o.c 0;have l0:=IR.o.c 0;go_cut [121] from 118 to 121 (fun c121 wx=>c121=.bool (decide (cg<og))∧Hq (Below wL wL wx))
  case first=>
   refine wp_region_held_drew (S:=fun W=>W.cell? ⟨xb,0,none⟩=some (.pointer (some ⟨ob,oo,none⟩))∧W.cell? ⟨lb,0,none⟩=some (.int .i64 cg)∧True∧True) κ ⟨x0,l0,trivial,trivial⟩ (fun f=>?_);refine zT 0 (k:=zT 1 (k:=?_));simp only[zA,zB,zF,zG,zC,zD,zE];refine zV 2 (k:=fun K M=>?_);simp only[zA,zB];go_simp;refine(MZ.o wL.drew (lS _ wL).drew).mono ?_;rintro e w8 ⟨rfl,K5⟩;have K6:Below wL wL w8:=(lS _ wL).drew.trans K5;have X3:=J K6;have x1:=(G7.o.a1 K6 G7.o.lt).c 0;have l1:=(IR.o.a1 K6 DI).c 0;clear K5 K6 x0 l0;refine M.out _ _ ⟨x1,l1,trivial,trivial⟩ (fun f=>?_);clear M K;try simp only[zF,zG,zC,zD,zE]
   refine zT 3 (k:=?_);simp only[zA,zB,zF,zG,zC,zD,zE];refine wpAnyH_done κ ?_ _;clear f x1 l1;go_wp2;go_meet;exact⟨rfl,X3⟩
  obtain⟨rfl,EI⟩:=hcut;clear x0 l0;have M9:=EI.o;have GX:=J (X5.o.trans (M9.mono O));have GO:=J (MF.o.a1 M9);have L8:=J (Own.a1 BM.o M9 (lR _));have L6:=J (S3.o.a1 M9 S3.o.lt);have B6:=J (G7.o.a1 M9 G7.o.lt);have C8:=J (IR.o.a1 M9 DI);have T9:=J (BU.o.a1 (fun q C=>ω1 (g8.o q C)) M9);have TN:=M9.size;clear M9 X5 MF BM S3 BU;go_upto_if 121 with fail
  go_cut [8,9] from 118 to 131 (fun c8 c9 wx=>∃(C9:Value) (q8:List Value) (G1:Nat->Prop),c8=.int .i64 (f1+if cg<og then og-cg else 0)∧c9=C9∧q8<=nl+1∧wL.heap.size<=wx∧Hq (Below T T wx)∧Hq (aS wx V 104 #[.int .i64 1,ix,.int .i64 0,.slice none 0 0,.slice none 0 0])∧Hq (aS wx xb 108 #[(ob,oo)])∧Hq (kU wx F wX cb c O2 E5 D9)∧Hq (eO wx G1 T gj g C9 q8 ((fI j N).map (fun x=>aQ.rm (aE x.k))++if cg<og then[.cut (aE s.k) cg] else[]))∧Hq (∀x,G1 x->(F x∨w.heap.size<=x)∧(x<V∧((Value.slice (U,ao) N c4).ownBlock≠some x)∨x=xb∨x=lb))∧Hq (Own wx T 108 (.slice (U,ao) N c4) ((l7.take N).map fun a=>Value.pointer (some a))))
  case first=>
   by_cases hcut:cg<og;rotate_left
   ·go_wp2
    go_meet;exact⟨_,vs,G,by rw[if_neg O,Int.add_zero],rfl,O,TN,GX,L6,B6,T9,J (by rw[if_neg O,List.append_nil];exact GO.o),J (fun x hx=>⟨.inr (ω1 (L5.o x hx)),.inl ⟨n8.o x hx,fun e=>EO.o x e hx⟩⟩),L8⟩
   have KP:∀{α:Type} (a b:α),(if cg<og then a else b)=a:=fun a b=>if_pos hcut
   have IN:=J (KP (og-cg) 0);have Io:=J (KP [aQ.cut (aE s.k) cg] []);have UR:IntKind.i64.wrap (og-cg)=og-cg:=mH _ O;have US:IntKind.i64.wrap (f1+(og-cg))=f1+(og-cg):=mH _ O;have x2:=B6.o.c 0;have l2:=C8.o.c 0;clear KP;go_upto_region 21 with fail
   refine wp_region_held_drew (S:=fun W=>W.cell? ⟨xb,0,none⟩=some (.pointer (some ⟨ob,oo,none⟩))∧W.cell? ⟨lb,0,none⟩=some (.int .i64 cg)∧True∧True) κ ⟨x2,l2,trivial,trivial⟩ (fun f=>?_);refine zT 0 (k:=zT 1 (k:=zT 3 (k:=?_)));simp only[zA,zB,zF,zG,zC,zD,zE];refine zV 2 (k:=fun K M=>?_);simp only[zA,zB];go_simp;refine(MZ.o wc.drew EI.o.drew).mono ?_;rintro e w8 ⟨rfl,K5⟩;have K6:Below wc wc w8:=(lS _ wc).drew.trans K5;have X3:=J K6;have PU:=K6.size;have x3:=(B6.o.a1 K6 B6.o.lt).c 0;have l3:=(C8.o.a1 K6 C8.o.lt).c 0;clear K5 K6 x2 l2;refine M.out _ _ ⟨x3,l3,trivial,trivial⟩ (fun f=>?_);clear M K;try simp only[zF,zG,zC,zD,zE]
   refine zT 4 (k:=zT 5 (k:=zT 6 (k:=?_)));simp only[zA,zB,zF,zG,zC,zD,zE];refine wpAnyH_done κ ?_ _;clear f;have OE:iY w8 (fun x=>G x∨F x∨x=w.heap.size∨x=xb∨x=lb) (ob,oo) s:=(IY.o.b1 O (fun q C=>((X3.o.block q (ω1 (g8.o q C))).trans (EI.o.block q (ω1 (g8.o q C)))))).mono (fun x hx=>.inr (.inl hx));have JN:=GX.o.trans (X3.o.mono O);have OY:fH w8 (fun x=>G x∨F x∨x=w.heap.size∨x=xb∨x=lb) gj g (.func (.func 61) #[] #[(w,0),(xb,0),(lb,0)]) (.cut (aE s.k) cg):=.inr ⟨w,xb,lb,(ob,oo),s,rfl,⟨.inr (.inr (.inl rfl)),.inr (.inr (.inr (.inl rfl))),.inr (.inr (.inr (.inr rfl)))⟩,(I2.o.a1 JN J7).cell 0,x3,l3,O,OE,rfl⟩;have QS:=J OY;have QL:=J JN;have M8:=bA w8 (.cells #[.func (.func 61) #[] #[(w,0),(xb,0),(lb,0)]] 98);have TJ:=M8.size;have J9:=J M8;have EH:=J ((GO.o.a1 X3.o).a1 M8);have Y1:=J (cS w8 98 [.func (.func 61) #[] #[(w,0),(xb,0),(lb,0)]]);obtain⟨Ad,cd,FG,_,_,_⟩:=EH.o.own.b3;subst FG;have i6:=J EH.o.own;clear OE JN OY M8 x3 l3;go_wp2_with (at_builtin;go_must (refine aP rfl (.tmp 128) (.tmp 130) 110 rfl T.heap.size 98 .nilFunc 8 Tryz.underlying110 iV rfl _ _ rfl i6.o (w8.heap.size+1) (some ⟨w8.heap.size,0,none⟩) 1 1 [.func (.func 61) #[] #[.pointer (some ⟨w.heap.size,0,none⟩),.pointer (some ⟨xb,0,none⟩),.pointer (some ⟨lb,0,none⟩)]] rfl rfl Y1.o (by simp[Value.oneCell']) (by unfold maxLen;omega) O O ?_;intro vq wq p7 Y7 CX;have QY:=J p7;have P0:=J Y7;have QQ:=J CX;clear p7 Y7 CX))
   go_meet;have J0:=X3.o.trans (J9.o.mono O);have PF:=B6.o.a1 J0 B6.o.lt;have SQ:=C8.o.a1 J0 C8.o.lt;have PA:=L6.o.a1 J0 L6.o.lt;have R1:=T9.o.a1 (fun q C=>ω1 (g8.o q C)) J0;have PS:=Own.a1 L8.o J0 (lR _);have PK:=aU i6.o PF δ;have SU:=aU i6.o SQ δ;have SS:=aU i6.o PA δ;have ST:=aU i6.o R1.b4 δ;have PX:=P0.o.size;refine⟨vq,vs++[.func (.func 61) #[] #[(w,0),(xb,0),(lb,0)]],fun x=>G x∨F x∨x=w.heap.size∨x=xb∨x=lb,by rw[IN.o],rfl,θ,O,J ((QL.o.trans (J9.o.mono O)).grown P0.o O (fun r Q=>(i6.o.lt r Q).1)),J (PA.grown P0.o (fun e=>SS e.symm)),J (PF.grown P0.o (fun e=>PK e.symm)),J (R1.b1 PX (fun q C=>P0.o.block q (ω1 (g8.o q C)) (fun e=>ω2 ((i6.o.lt q e.symm).1) (j8.o q C))) P0.o (fun e=>ST e) (jrow_type_ne R1.c7 i6.o δ) (jrow_type_ne R1.a7 i6.o δ)),J ?_,J (fun x hx=>?_),J (Own.kept PS P0.o (jrow_type_ne PS i6.o δ))⟩;rotate_left;have DP:=fun e=>(L8.o.lt x e).1
   rcases hx with hx|hx|hx|hx|hx
   exact⟨.inr (ω1 (L5.o x hx)),.inl ⟨n8.o x hx,fun e=>EO.o x e hx⟩⟩;exact⟨.inl hx,.inl ⟨ω1 (j8.o x hx),fun e=>ω2 (DP e) (j8.o x hx)⟩⟩;exact⟨.inr O,.inl ⟨O,fun e=>ω1 (DP e)⟩⟩;exact⟨.inr O,.inr (.inl hx)⟩;exact⟨.inr O,.inr (.inr hx)⟩;rw[Io.o];refine eO.j9 (bl:=[.cut (aE s.k) cg]) EH.o rfl (fun i H I=>?_) (by simp[Value.oneCell']) (fun x hx=>.inl hx) (fun x hx=>?_) (fun r Q hx=>?_) P0.o QQ.o QY.o;obtain rfl:i=0:=by simp at H;exact H
   exact QS.o.b1 J9.o.size (fun x hx=>J9.o.block x (by
    rcases hx with hx|hx|hx|hx|hx
    have:=n8.o x hx;omega;have:=g8.o x hx;omega;omega;omega;omega))
   rcases hx with hx|hx|hx|hx|hx
   have:=n8.o x hx;omega;have:=g8.o x hx;omega;omega;omega;omega;rcases hx with hx|hx|hx|hx|hx
   exact EH.o.apart r Q hx;have:=(i6.o.lt r Q).1;have:=j8.o r hx;omega;have:=(i6.o.lt r Q).1;omega;rw[hx] at Q;exact PK Q;rw[hx] at Q;exact SU Q
  obtain⟨C9,q8,G1,h8,h9,DZ,TO,L2,S2,AX,M1,GL,AP,m8⟩:=hcut;subst h8;have CC:=h9.symm;clear h9;subst CC;clear GX GO L8 L6 B6 C8 T9 EI;obtain⟨fr,N0⟩:=eX (f1+if cg<og then og-cg else 0);have SO:0<=fr∧fr<=6000000000000000000:=by
   rw[N0];split<;>omega
  have IF:=J N0;rw[<-N0];have RY:ao=0:=by
   rcases Own.e0 m8.o with⟨h,_⟩|⟨g',cap,P8,h,_⟩
   injection h with h _ _;cases h
   injection h with h _ _
   injection h with h
   injection h with _ h _
  subst RY;obtain⟨P8,U6,SJ⟩:∃P8,aS wc U 108 P8∧N<=P8.size:=by
   rcases Own.e0 m8.o with⟨h,_⟩|⟨g',cap,P8,h,_,_,hg,h4,_,h5,_⟩
   injection h with h _ _;cases h
   injection h with h _ _
   injection h with h
   injection h with H _ _
   rw[lU,lV,i4.o,Nat.min_eq_left JT] at h4;exact⟨P8,by rw[H];exact hg,O⟩
  have SI:=L2.o.size;have TD:=m8.o.lt U rfl;have zr:wc.frozen? (U,P)=false:=U6.a6 _;have rr:wc.cell? (U,P)=some (P8[P]'O):=(U6.cell P).trans (Array.getElem?_eq_getElem _);have C1:=aA wc U P (.pointer (cb,0));obtain⟨w9,FZ⟩:=eX (wc.setCell (U,P) (.pointer (cb,0)));have Q8:Own w9 T 108 (.slice (U,0) N c4) ((l7.take P++([(cb,0)]:List Addr)).map fun a=>Value.pointer (some a)):=by
   have V0:((l7.take N).map fun a=>Value.pointer (some a)).length=N:=by rw[lU,lV,i4.o,Nat.min_eq_left JT]
   have H:=m8.o;unfold Own at H⊢;rw[V0] at H;have I:=iQ (i:=P) H (.pointer (cb,0));rw[<-FZ] at I;have RV:N=P+1:=ω1 NA.o;have e:((l7.take N).map fun a=>Value.pointer (some a)).set P (.pointer (cb,0))=(l7.take P++([(cb,0)]:List Addr)).map fun a=>Value.pointer (some a):=by
    rw[RV,List.take_add_one,lW J2,mE,mE,List.set_append_right _ _ (by rw[lU,lV];omega)];rw[lU,lV,Nat.min_eq_left O,Nat.sub_self];rfl
   rw[e] at I;have DH:((l7.take P++([(cb,0)]:List Addr)).map fun a=>Value.pointer (some a)).length=N:=by rw[lU,lT,lV,Nat.min_eq_left O];simp;omega
   rw[DH];exact I
  rw[<-FZ] at C1;have PJ:=aU m8.o S2.o δ;have JE:=J Q8;have GV:=J (L2.o.grown C1 O (fun r Q=>by injection Q with Q;omega));have n9:=J (S2.o.grown C1 (fun e=>PJ e.symm));have AZ:=J (AX.o.grown C1 (by have:=BK.o U rfl;intro e;injection e with e;omega));have M2:=J (M1.o.b1 C1.size (fun q C=>C1.block q (ω1 (g8.o q C)) (fun e=>by injection e with e;have:=j8.o q C;omega)) C1 (fun e=>by injection e with e;have:=BK.o U rfl;omega) (jrow_type_ne M1.o.c7 m8.o δ) (jrow_type_ne M1.o.a7 m8.o δ));have GN:=J (GL.o.other C1 (jrow_type_ne GL.o.own m8.o δ) (fun r Q hx=>by
   injection Q with Q
   subst Q;have H:=BK.o U rfl;rcases(AP.o U hx).2 with I|I|I
   exact I.2 rfl;omega;omega))
  have NO:=J FZ;have LH:=C1.size;clear N0 U6 C1 FZ Q8 PJ S2 AX M1 GL m8 L2;go_upto_region 24 with fail
  rw[<-NO.o];clear NO zr rr;have Z9:=J (l5.o.trans (GV.o.mono m9));have OD:=Z.o.b1 Z9.o.size (fun q C=>Z9.o.block q (j8.o q C));obtain⟨UZ,VA,_,_,_,_,_,JU,_,DK,d0,_⟩:=OD.rd.cells;injection JU with e1 e2 _
  subst e1 e2;obtain⟨sk,V9⟩:=eX s.k;rw[<-V9] at d0 PB;have UT:IntKind.i64.wrap (sk+1)=sk+1:=mH _ O;have G9:=J V9;have x9:=AZ.o.c 0;have TZ:=n9.o.c 0;have UC:w9.frozen? (V,0)=false:=n9.o.a6 _;have N3:=aA w9 V 0 (.int .i64 (sk+1));obtain⟨wT,GF⟩:=eX (w9.setCell (V,0) (.int .i64 (sk+1)));have AT:Hq (aS wT V 104 #[.int .i64 (sk+1),ix,.int .i64 0,.slice none 0 0,.slice none 0 0]):=J (by rw[GF];exact n9.o.b8 0 _);rw[<-GF] at N3;have FO:=aU JE.o n9.o δ;have RG:=J (Own.kept JE.o N3 (.inr FO));have GY:=J (GV.o.grown N3 O (fun r Q=>by injection Q with Q;omega));have BV:=J (M2.o.b1 N3.size (fun q C=>N3.block q (ω1 (g8.o q C)) (fun e=>by injection e with e;have:=j8.o q C;omega)) N3 (fun e=>by injection e with e;omega) (.inr (aU M2.o.c7 n9.o δ)) (.inr (aU M2.o.a7 n9.o δ)));have QJ:=J (GN.o.other N3 (.inr (aU GN.o.own n9.o δ)) (fun r Q hx=>by
   injection Q with Q
   subst Q;rcases(AP.o V hx).2 with I|I|I
   omega;omega;omega))
  have NQ:=J GF;have UO:=N3.size;have IT:=J ((BV.o.rd GW.o).b7 O);obtain⟨UE,CT⟩:=eX (c.b7.1);obtain⟨NU,U5⟩:=eX (c.b7.2);rw[<-CT,<-U5] at IT;have AD:=J U5;clear V9 OD N3 GF FO CT U5 AZ n9 M2 GN JE GV DK;go_upto_region 25 with fail
  rw[<-NQ.o];clear NQ TZ UC d0 x9;go_wp2_with fail;refine IT.o.mono ?_;rintro e O4 ⟨rfl,f9⟩;have DQ:=f9.size;have B1:=J (AT.o.a1 f9 AT.o.lt);have s2:=B1.o.c 2;have z2:O4.frozen? (V,2)=false:=B1.o.a6 _;have d8:=J f9;clear f9 IT;go_wp2;go_meet;have j6:=aA O4 V 2 NU;have DO:=Own.a1 RG.o d8.o (lR _);have p5:=QJ.o.a1 d8.o;have R1:=BV.o.a1 (fun q C=>ω1 (g8.o q C)) d8.o;have DA:∀x,(V<=x∧x≠xb∧x≠lb)->¬G1 x:=fun x hx h=>by
   rcases(AP.o x h).2 with I|I|I
   omega;exact hx.2.1 I;exact hx.2.2 I
  refine⟨_,q8,G1,l7.take P++([(cb,0)]:List Addr),sk+1,NU,fr,((fI j N).map (fun x=>aQ.rm (aE x.k))++if cg<og then[.cut (aE s.k) cg] else[]),rfl,rfl,DZ,J ⟨(GY.o.trans (d8.o.mono O)).grown j6 O (fun r Q=>by injection Q with Q;omega),B1.o.b8 2 _,Own.kept DO j6 (.inr (aU DO B1.o δ)),p5.other j6 (.inr (aU p5.own B1.o δ)) (fun r Q hx=>by injection Q with Q;subst Q;exact DA V ⟨lR _,O,O⟩ hx),fun x hx=>(AP.o x hx).1,⟨DA V ⟨lR _,O,O⟩,fun r Q hx=>?_⟩,⟨O,by rw[AD.o];exact bQ6 GW.o,O,O⟩,.inr ⟨P,s,c,cb,O2,E5,D9,ω1 NA.o,⟨J3,RJ.o⟩,QM.o,rfl,(R1.b1 j6.size (fun q C=>j6.block q (ω1 (g8.o q C)) (fun e=>by injection e with e;have:=j8.o q C;omega)) j6 (fun e=>by injection e with e;omega) (.inr (aU R1.c7 B1.o δ)) (.inr (aU R1.a7 B1.o δ))).lower O,by rw[G9.o],AD.o,?_,?_,⟨GW.o,QN.o,O,QO.o⟩,O,DA cb ⟨O,O,O⟩,fun r Q=>DA r (ω1 (NM.o.1 r Q)),fun r Q=>DA r (ω1 (NM.o.2 r Q))⟩⟩⟩;have H:=BK.o r Q;rcases(AP.o r hx).2 with I|I|I
  exact I.2 Q;omega;omega;rw[IF.o,MN.o,MJ.o,ND.o];rfl;rw[MJ.o,ND.o];rfl
 obtain⟨C9,q8,G1,I3,fk,ft,fr,al,h8,h9,DZ,X6⟩:=hcut;subst h8;have CC:=h9.symm;clear h9;subst CC;clear EL D7 O7 G8 EO BK n8 PV;have SK:=X6.o.a1.size;have NZ:∀q,F q->q<wc.heap.size:=fun q C=>ω1 (j8.o q C)
 have QP:=J NZ;clear NZ;obtain⟨nb,FR⟩:=eX (cB5 j ix N);have BE:=J FR;clear FR;go_upto_region 27 with fail
 go_cut [163] from 153 to 163 (fun c163 wx=>c163=.bool nb∧wc.heap.size<=wx∧Hq (xX wx T F j ix l7 N w T V gj g (.slice A4 N c4) C9 q8 G1 I3 fk ft fr al))
 case first=>
  rcases X6.o.kind with⟨k1,k8⟩|⟨P,s,c2,cb,O2,E5,D9,k1,⟨k2,k3⟩,k4,k5,k6,k8,k9,Z0,R2,k7,O0⟩
  ·have hz:((N:Int)==0)=true:=by rw[k1];rfl
   have hb:nb=true:=by rw[BE.o,k1];rfl
   subst hb;clear k1 k8;go_wp2;go_meet;exact⟨rfl,lR _,X6⟩
  have hz:((N:Int)==0)=false:=mN.2 O;have hb:nb=decide (600<=c2.b2):=by rw[BE.o,k1,vB k2,k4,k3]
  have J2:P<l7:=by rw[i4.o];omega
  obtain⟨U,ao,e5,_,M4,I8⟩:=(dM.e1 (F:=fun _=>True) X6.o.row (fun _ _ _=>trivial)) (by rw[k5];simp);subst e5;have r0:wc.cell? (U,ao+P)=some (.pointer (cb,0)):=I8 P _ (by
   rw[k5,mE,List.getElem?_append_right (by rw[lU,lV];omega),lU,lV,Nat.min_eq_left O,Nat.sub_self];rfl)
  have DU:(N:Int)-1=(P:Int):=O;have LS:IntKind.i64.wrap (P:Int)=(P:Int):=mH _ O;have FM:P<N:=O;have V3:(P:Int)<(N:Int):=O;have hM:=k6.segM k7.1 k7.2.1 (ω1 (k7.2.2.1)) k7.2.2.2;obtain⟨cg,Q5⟩:=eX c2.b2;have P4:Hq (Calls Tryz.prog 56 #[(cb,0)] wc fun e w' =>e=.returned cg∧Below wc wc w'):=J (by rw[Q5];exact hM.b2);rw[<-Q5] at hb;have HB:=J hb;clear hb Q5 hM k1 k3 k4 k5 k6 k7 k8 k9 Z0 R2 O0 I8 J2;go_wp2_with fail;refine P4.o.mono ?_;rintro e w5 ⟨rfl,D0⟩;have FW:=D0.size;have X4:=J (X6.o.j7 QP.o D0 SK);clear D0 P4 r0;go_wp2;go_meet;exact⟨by rw[HB.o],FW,X4⟩
 obtain⟨rfl,SL,a8⟩:=hcut;clear X6;have KC:=a8.o.a1.size;have E9:=J (l5.o.trans (a8.o.a1.mono m9));have R9:=J (show∀q,F q->q<wc.heap.size from fun q C=>ω1 (j8.o q C));have AE:Hq (cO al=0):=J (by
  rcases a8.o.kind with⟨_,_,_,_,_,k6⟩|⟨P,s,c2,cb,O2,E5,D9,_,_,_,_,_,_,_,_,R2,_⟩
  rw[k6,jY];rw[R2,eW,jY,uN])
 go_upto_if 163 with fail
 go_cut [10,15] from 153 to 175 (fun c10 c15 wx=>∃(A5:Option Addr) (c5:Nat) (o9:List Addr) (O3:List aH) (FP:Nat->Prop) (X:Nat) (s0:aH) (LW:List EntR) (vl ve bv:Value) (bh:List UInt8),c10=.slice A5 (o9.length+1) c5∧c15=bv∧o9<=nl∧bh.length<=1048600∧(s0.l.length<=100000000∧s0.b2<=1000000000000)∧Hq (Below T T wx)∧Hq (dO wx F w T gj g (.slice A5 (o9.length+1) c5) C9 q8 G1 al o9 O3 FP X s0 LW vl ve bv bh)∧Hq (saveR j d l ix=jJ j d l al fr O3 s0 bh))
 case first=>
  cases nb with
  |false=>
   rcases a8.o.kind with⟨k1,k8⟩|⟨P,s,c2,cb,O2,E5,D9,k1,⟨k2,k3⟩,k4,k5,k6,k8,k9,Z0,R2,k7,O0⟩
   have:=BE.o;rw[k1] at this;cases this;have FU:¬600<=c2.b2:=by
    have H:=BE.o;rw[k1,vB k2,<-k3,<-k4] at H;exact of_decide_eq_false H.symm
   have J2:P<l7:=by rw[i4.o];omega
   have V0:(l7.take P).length=P:=by rw[lV];omega
   have X0:j.b0.take N=j.b0.take P++[s]:=by rw[k1,List.take_add_one,lW k2,<-k3];rfl
   have Q9:=rO (d:=d) (l:=l) (by rw[<-K3.o];exact HN.o) X0 k4 FU;rw[<-Z0,<-R2] at Q9;have DT:=MW.o s (by rw[k3];exact lX k2);have DL:dO wc F w T gj g (.slice A4 N c4) C9 q8 G1 al (l7.take P) (j.b0.take P) F cb c2 O2 E5 D9 (.slice none 0 0) []:=by
    refine⟨a8.o.e5,by rw[<-k5];exact a8.o.row,by rw[lV,lV,i4.o,<-K3.o],fun i H I=>?_,fun x hx=>⟨R9.o x hx,.inl hx⟩,a8.o.gl,k6,⟨⟨none,0,rfl,lR _,O,Rd.none_⟩,.inl rfl⟩,fun x hx=>?_,⟨k7.1,k7.2.1,ω1 (k7.2.2.1),k7.2.2.2,by rw[k4];show 1<=s.k∧s.k<=_;omega⟩⟩;rw[List.getElem_take,List.getElem_take];exact(EP.o i (by rw[lV] at H;omega) (by rw[lV] at I;omega)).b1 E9.o.size (fun q C=>E9.o.block q (j8.o q C));have EU:T<=x->¬F x:=fun h hf=>ω1 (j8.o x hf)
    rcases hx with hx|hx|hx|hx|hx|hx
    exact⟨a8.o.gs.2 x hx,EU (a8.o.row.lt x hx).1⟩;rw[hx];exact⟨O0.2.1,fun hf=>ω2 (j8.o cb hf) k6.low⟩;exact⟨O0.2.2.1 x hx,EU (mL k6.c7 x hx).1⟩;exact⟨O0.2.2.2 x hx,EU (mL k6.a7 x hx).1⟩;cases hx;exact⟨a8.o.e5.apart x hx,EU (a8.o.e5.own.lt x hx).1⟩
   have o8:=J DL;have L9:=J Q9;have JZ:c2.l.length<=100000000∧c2.b2<=1000000000000:=by
    have H:c2.b2∈c2.a7:=iP (fun e=>by have:=k7.2.1;rw[e] at this;simp at this);rw[k4] at H;have I:=(AH.o s (by rw[k3];exact lX k2)).2 _ (mO H);rw[<-k4] at I;exact⟨k7.2.2.1,I.2⟩
   have BB:=J (show(l7.take P).length+1=N by omega);have J3:P<=nl:=O;clear k1 k2 k3 k4 k5 k6 k7 k8 k9 Z0 R2 O0 FU J2 V0 X0 Q9 DT DL;go_wp2;go_meet;exact⟨A4,c4,l7.take P,j.b0.take P,F,cb,c2,O2,E5,D9,.slice none 0 0,[],by rw[BB.o],rfl,by rw[lV];omega,σ,JZ,J a8.o.a1,J (by rw[BB.o];exact o8.o),L9⟩
  |true=>
   have SP:=a8.o.fresh.lt;have J4:=a8.o.num;have MS:=J (aE9 V 0 ix ft O J4.2.1 wc (a8.o.fresh.cell 1) (a8.o.fresh.cell 2) SP);obtain⟨hd,KO⟩:=eX (dN ix ft);have IM:=J KO;have OW:hd.length<=1048600:=by
    rw[KO];refine dF ?_;have H:(nD ix).length<=10:=by
     unfold nD;split;simp;exact dG _ O
    have I:(dL [ft]).length<=10:=fK (z:=[ft]) (by intro n hn;obtain rfl:=lY.1 hn;exact J4.2.1);rw[lT];omega
   clear KO;go_wp2_with fail;refine MS.o.mono ?_;rintro e R ⟨v6,rfl,U9,p6⟩;rw[<-IM.o] at U9;obtain⟨A6,c6,TT,p1,p2,_⟩:=U9.b3;subst TT;have X7:=J U9;have FX:=p6.size;have f8:=J (a8.o.j7 R9.o p6 KC);have Y8:=f8.o.fresh;obtain⟨wI,EB⟩:=eX (R.setCell (V,4) (.slice (R,0) 1 1));have Y6:=aA R V 4 (.slice (R,0) 1 1);have KS:aS wI V 104 #[fk,ix,ft,.slice none 0 0,.slice (R,0) 1 1]:=by rw[EB];exact Y8.b8 4 _
   have DV:wI.heap.size=R:=by rw[EB];simp
   rw[<-EB] at Y6;obtain⟨w7,N9⟩:=eX (wI.alloc (.cells #[hd.length] 3));have U3:=bN N9;have QX:Hq (w7.ownsRow R 3 1 (.slice (R,0) 1 1) 1 [hd.length]):=J (by
    rw[N9,<-DV];exact World.ownsRow_lit wI #[hd.length] 1 (lR _) δ rfl)
   have sI:=Y8.c 4;have zI:=Y8.a6 4;have NN:=J (show w7=(R.setCell (V,4) (.slice (R,0) 1 1)).alloc (.cells #[hd.length] 3) by rw[N9,EB]);have Y9:R.heap.size<=w7:=ω1 U3.size;have V4:∀q,q≠V->q<R.heap.size->w7.heap[q]? =R.heap[q]? :=fun q H I=>(U3.block q O).trans (Y6.block q I (fun e=>by injection e with e;exact H e))
   have MV:=J (KS.a1 U3 KS.lt);have BJ:=J (Own.a1 (Own.kept f8.o.row Y6 (.inr (aU f8.o.row Y8 δ))) U3 (lR _));have Z1:=J ((f8.o.e5.other Y6 (.inr (aU f8.o.e5.own Y8 δ)) (fun r Q hx=>by injection Q with Q;subst Q;exact f8.o.gs.1 hx)).a1 U3);have II:=J (X7.o.kept (fun q C=>V4 q (ω1 (X7.o.row.base q C)) (X7.o.row.lt q C)) Y9);have B9:=J ((f8.o.a1.grown Y6 O (fun r Q=>by injection Q with Q;rw[<-Q];exact V8)).trans (U3.mono O));have L7:=J V4;have TK:=f8.o.fresh.lt;clear U9 p6 Y8 EB U3 KS N9 Y6 V4 X7 MS J4 DV;go_upto_region 30 with fail
   rw[<-NN.o];clear NN sI zI;have GD:=bA w7 (.cells #[(V,0)] 108);have UN:=GD.size;have Y3:=J GD;have a9:=J (Own.a1 BJ.o GD (lR _));have RC:=J (cS w7 108 [(V,0)]);have CM:(I3.map fun a=>Value.pointer (some a)).length=N:=by
    rcases a8.o.kind with⟨k1,k2,_⟩|⟨P,s,c2,cb,O2,E5,D9,k1,⟨k2,_⟩,_,k5,_⟩
    rw[k2,k1];rfl;rw[k5,lU,lT,lV,i4.o,k1];have:P<nl:=by rw[K3.o];exact k2
    simp;omega
   have R4:=J CM;obtain⟨rl,TC⟩:=eX ((I3.map fun a=>Value.pointer (some a)).length);clear CM GD;go_wp2_with (at_builtin;go_must (refine aP rfl (.tmp 172) (.tmp 174) 49 rfl T.heap.size 108 (.pointer none) 8 Tryz.underlying49 oI rfl _ _ rfl a9.o (w7.heap.size+1) (some ⟨w7.heap.size,0,none⟩) 1 1 [.pointer (some ⟨V,0,none⟩)] rfl rfl RC.o (by simp[Value.oneCell']) (by rw[R4.o];unfold maxLen;omega) (by rw[R4.o];omega) O ?_;intro GH J8 J5 CZ CW;have T4:=J J5;have l6:=J CZ;have IC:=J CW;clear J5 CZ CW));go_meet;obtain⟨GI,JI,B8,_⟩:=T4.o.b3;have KU:(I3.map (fun a=>Value.pointer (some a))++[Value.pointer (V,0)]).length=I3+1:=by simp
   rw[KU] at B8;have V7:=l6.o.size;have OZ:=MV.o.a1 Y3.o MV.o.lt;have FO:=aU a9.o OZ δ;have PM:=World.ownsRow.kept QX.o (aT Y3.o none) (.inr (by simp[Value.ownBlock]));have KY:=World.ownsRow.kept PM l6.o (jrow_type_ne PM a9.o δ);have DW:kU J8 F T V ⟨fk,ix,ft,[],[(hd:Int)]⟩ [] (.slice none 0 0) (.slice (R,0) 1 1):=⟨OZ.grown l6.o (fun e=>FO e.symm),V8,World.ownsRow_nil _ _ _ _,rfl,(fun q C=>by cases C),pK KY O⟩;have CL:=Z1.o.a1 Y3.o;have p5:=CL.other l6.o (jrow_type_ne CL.own a9.o δ) (fun r Q=>f8.o.gs.2 r Q);have KN:=II.o.a1 Y3.o (lR _);have N6:∀x,(Value.slice A6 hd c6).ownBlock=some x->wc.heap.size<=x∧x<w7.heap.size∧∃cs,aS (w7.alloc (.cells #[(V,0)] 108)) x 5 cs:=fun x hx=>by
    refine⟨II.o.row.base x hx,II.o.row.lt x hx,?_⟩;rcases KN.row with H|⟨g',_,_,P8,H,_,hB,_⟩
    rw[H] at hx;cases hx;rw[H] at hx;injection hx with hx
    subst hx;exact⟨_,hB⟩
   have CQ:=(KN.kept (fun q C=>l6.o.block q (KN.row.lt q C) (fun e=>by
    obtain⟨_,_,cs,hB⟩:=N6 q C;exact aU a9.o hB δ e.symm)) l6.o.size).mono (by omega:T.heap.size<=wc)
   have JP:=a8.o.e5.lt;have P9:∀x,GH.ownBlock=some x->((Value.slice A4 N c4).ownBlock=some x)∨(w7.alloc (.cells #[(V,0)] 108)).heap.size<=x:=fun x hx=>by
    rcases IC.o with e|⟨q,e,C⟩
    exact .inl (e▸hx);rw[hx] at e;injection e with e
    exact .inr O
   have D5:gU ⟨fk,ix,ft,[],[(hd:Int)]⟩:=⟨by have:=a8.o.num.1;show I6 fk;omega,DD,a8.o.num.2.1,(fun e he=>by cases he),fun x hx=>by rw[lY.1 hx];omega⟩;have OV:=a8.o.gl;have U0:=(B9.o.trans (Y3.o.mono O)).grown l6.o O (fun r Q=>(a9.o.lt r Q).1);have l8:=j8.o;have KH:=a8.o.e5.own.lt;have EC:∀x,GH.ownBlock=some x∨x=V∨(Value.slice none 0 0).ownBlock=some x∨(Value.slice (R,0) 1 1).ownBlock=some x∨(Value.slice A6 hd c6).ownBlock=some x∨C9.ownBlock=some x->¬G1 x∧T.heap.size<=x:=fun x hx=>by
    rcases hx with hx|hx|hx|hx|hx|hx
    rcases P9 x hx with H|H
    exact⟨a8.o.gs.2 x H,(a8.o.row.lt x H).1⟩;exact⟨fun h=>ω1 (JP x h),O⟩;rw[hx];exact⟨a8.o.gs.1,V8⟩;cases hx;have TW:R=x:=by simpa[Value.ownBlock] using hx
    exact⟨fun h=>ω1 (JP x h),O⟩;exact⟨fun h=>ω2 (JP x h) ((N6 x hx).1),ω1 ((N6 x hx).1)⟩;exact⟨a8.o.e5.apart x hx,(KH x hx).1⟩
   rcases f8.o.kind with⟨k1,k2,k3,k4,k5,k6⟩|⟨P,s,c2,cb,O2,E5,D9,k1,⟨k2,k3⟩,k4,k5,k6,k8,k9,Z0,R2,k7,O0⟩
   ·refine⟨GI,JI,[],[],F,V,⟨fk,ix,ft,[],[(hd:Int)]⟩,[],.slice none 0 0,.slice (R,0) 1 1,.slice A6 hd c6,hd,by rw[B8,k2]<;>rfl,rfl,σ,OW,⟨σ,by show(hd:Int)<=_;omega⟩,J U0,J ⟨p5,?_,rfl,fun i H I=>by simp at H,fun x hx=>⟨ω1 (l8 x hx),.inl hx⟩,OV,DW,CQ,fun x hx=>?_,⟨D5,rfl,σ,(fun e he=>by cases he),a8.o.num.1⟩⟩,J ?_⟩
    have H:=T4.o;rw[B8,k2] at H;exact H;rw[show(Value.slice GI (([]:List Addr).length+1) JI)=GH by rw[B8,k2]] at hx;have H:=EC x hx;exact⟨H.1,fun hf=>ω1 (l8 x hf)⟩;have H:=pO (d:=d) (l:=l) (by rw[<-K3.o];exact HN.o) (show j.b0.take N=[] by rw[k1];rfl);rw[H,k6,k5,IM.o,k3,k4]
   have FU:600<=c2.b2:=by
    have H:=BE.o;rw[k1,vB k2,<-k3,<-k4] at H;exact of_decide_eq_true H.symm
   have J2:P<l7:=by rw[i4.o];omega
   have X0:j.b0.take N=j.b0.take P++[s]:=by rw[k1,List.take_add_one,lW k2,<-k3];rfl
   have Q9:=rN (d:=d) (l:=l) (by rw[<-K3.o];exact HN.o) X0 k4 FU;rw[<-Z0,<-R2,<-k8,<-k9,<-IM.o] at Q9;have LN:=k6.keepB Y9 (fun x hx=>by
    rcases hx with hx|hx|hx|hx
    exact L7.o x (ω1 (l8 x hx)) (ω1 (l8 x hx));rw[hx];exact L7.o cb (ω1 (O0.1)) k6.b4.lt;exact L7.o x (fun e=>aU k6.c7 f8.o.fresh δ (e▸hx)) (mL k6.c7 x hx).2;exact L7.o x (fun e=>aU k6.a7 f8.o.fresh δ (e▸hx)) (mL k6.a7 x hx).2)
   have g9:=LN.a1 (fun q C=>ω1 (l8 q C)) Y3.o;have l4:=g9.b1 l6.o.size (fun q C=>l6.o.block q (ω1 (l8 q C)) (fun e=>ω2 ((a9.o.lt q e.symm).1) (l8 q C))) l6.o (fun e=>aU a9.o g9.b4 δ e) (jrow_type_ne g9.c7 a9.o δ) (jrow_type_ne g9.a7 a9.o δ);have JR:=l4.segMx k7.1 k7.2.1 (ω1 (k7.2.2.1)) k7.2.2.2;have CN:I3=N:=by have:=R4.o;rwa[lU] at this
   have CS:∀x,(GH.ownBlock=some x∨x=V∨(Value.slice none 0 0).ownBlock=some x∨(Value.slice (R,0) 1 1).ownBlock=some x∨(Value.slice A6 hd c6).ownBlock=some x∨C9.ownBlock=some x)->x≠cb∧E5.ownBlock≠some x∧D9.ownBlock≠some x:=fun x hx=>by
    have UJ:=k6.b4.lt;have PG:=fun e=>(mL k6.c7 x e).2
    have PH:=fun e=>(mL k6.a7 x e).2
    rcases hx with hx|hx|hx|hx|hx|hx
    rcases P9 x hx with H|H
    refine⟨fun e=>aU a9.o g9.b4 δ (e▸H),fun e=>?_,fun e=>?_⟩;rcases jrow_type_ne g9.c7 a9.o δ with I|I
    rw[I] at e;cases e;exact I (e.trans H.symm);rcases jrow_type_ne g9.a7 a9.o δ with I|I
    rw[I] at e;cases e;exact I (e.trans H.symm);exact⟨O,fun e=>ω1 (PG e),fun e=>ω1 (PH e)⟩;subst hx;exact⟨ω1 (O0.1),aU k6.c7 f8.o.fresh δ,aU k6.a7 f8.o.fresh δ⟩;cases hx;have TW:R=x:=by simpa[Value.ownBlock] using hx
    exact⟨O,fun e=>ω1 (PG e),fun e=>ω1 (PH e)⟩;obtain⟨_,_,cs,hB⟩:=N6 x hx;exact⟨fun e=>by subst e;exact blk_ne hB g9.b4 δ rfl,aU g9.c7 hB δ,aU g9.a7 hB δ⟩;refine⟨fun e=>aU CL.own g9.b4 δ (e▸hx),fun e=>?_,fun e=>?_⟩;rcases jrow_type_ne g9.c7 CL.own δ with I|I
    rw[I] at e;cases e;exact I (e.trans hx.symm);rcases jrow_type_ne g9.a7 CL.own δ with I|I
    rw[I] at e;cases e;exact I (e.trans hx.symm)
   have I4:=l5.o.trans (U0.mono m9);refine⟨GI,JI,I3,j.b0.take P++[c2],fun x=>F x∨x=cb∨E5.ownBlock=some x∨D9.ownBlock=some x,V,⟨fk,ix,ft,[],[(hd:Int)]⟩,[],.slice none 0 0,.slice (R,0) 1 1,.slice A6 hd c6,hd,B8,rfl,O,OW,⟨σ,by show(hd:Int)<=_;omega⟩,J U0,J ⟨p5,?_,?_,fun i H I=>?_,fun x hx=>?_,OV,DW,CQ,fun x hx=>?_,⟨D5,rfl,σ,(fun e he=>by cases he),a8.o.num.1⟩⟩,J Q9⟩;have H:=T4.o;rw[B8] at H;rw[mE];exact H;rw[CN,k1,lT,lV];simp;omega;by_cases hi:i<P;have e1:I3[i]=l7[i]'O:=by
    simp only[k5];rw[List.getElem_append_left (by rw[lV];omega),List.getElem_take]
   have e2:(j.b0.take P++[c2])[i]=j.b0[i]'O:=by
    rw[List.getElem_append_left (by rw[lV];omega),List.getElem_take]
   rw[e1,e2];exact((EP.o i O O).b1 I4.size (fun q C=>I4.block q (l8 q C))).mono (fun x hx=>.inl hx);have ei:i=P:=O;subst ei;have e1:I3[i]=((cb,0):Addr):=by
    simp only[k5];rw[List.getElem_append_right (by rw[lV];omega)];simp
   have e2:(j.b0.take i++[c2])[i]=c2:=by
    rw[List.getElem_append_right (by rw[lV];omega)];simp
   rw[e1,e2];exact JR;rcases hx with hx|hx|hx|hx
   exact⟨ω2 (l8 x hx) I4.size,.inl hx⟩;rw[hx];exact⟨l4.b4.lt,.inr l4.low⟩;exact⟨(mL l4.c7 x hx).2,.inr (mL l4.c7 x hx).1⟩;exact⟨(mL l4.a7 x hx).2,.inr (mL l4.a7 x hx).1⟩;rw[<-B8] at hx;have H:=EC x hx;have I:=CS x hx;refine⟨H.1,?_⟩;rintro(Y|Y|Y|Y);have:=l8 x Y;omega;exact I.1 Y;exact I.2.1 Y;exact I.2.2 Y
 obtain⟨A5,c5,o9,O3,FP,X,s0,LW,vl,ve,bv,bh,RQ,NV,SY,JX,⟨TF,TE⟩,HC,o8,L9⟩:=hcut;subst RQ;have JL:=NV.symm;clear NV;subst JL;clear a8 R9 E9;have TL:=HC.o.size;have G0:=J (l5.o.trans (HC.o.mono m9));obtain⟨mp,FN⟩:=eX o9.length;rw[<-FN] at o8 SY⊢;obtain⟨U,ao,e5,_,M4,I8⟩:=(dM.e1 (F:=fun _=>True) o8.o.row (fun _ _ _=>trivial)) σ;subst e5;have r0:wc.cell? (U,ao+mp)=some (.pointer (X,0)):=I8 mp _ (by
  rw[mE,List.getElem?_append_right (by rw[lU,FN];exact lR _),lU,FN,Nat.sub_self];rfl)
 have OK:(mp:Int)+1-1=(mp:Int):=O;have LS:IntKind.i64.wrap (mp:Int)=(mp:Int):=mH _ O;have FM:mp<mp+1:=O;have V3:(mp:Int)<(mp:Int)+1:=O;have kE:=fun q C=>G0.o.block q (MM.o q C)
 have MK:=J (wJ (eb,eo) rs ce wc (NI.o.b1 G0.o.size kE) (fun q C=>(EJ.o q C).b1 G0.o.size kE) (fun q C=>ω2 (MM.o q C) G0.o.size) O (fun q C=>by have:=aF7 S9.o.symm q.e (by rw[S7.o];exact mF.2 ⟨q,C,rfl⟩);omega));clear I8 FN kE;go_wp2_with fail;refine MK.o.mono ?_;rintro e wq ⟨vq,O1,rfl,V5,V2,OG,FA⟩;obtain⟨Aq,cq,TV,UX,UY,_⟩:=aK V5;subst TV;have TB:O1.length=rs:=by have:=congrArg List.length V2;simpa using this
 have PX:=FA.size;obtain⟨D,hD⟩:∃D:Nat->Prop,D=fun x=>wc.heap.size<=x∧x<wq.heap.size:=⟨_,rfl⟩
 have K0:Hq (∀x,D x↔wc.heap.size<=x∧x<wq.heap.size):=J (fun x=>by rw[hD]);have AJ:Hq (∀q,F q->q<wc.heap.size):=J (fun q C=>ω2 (j8.o q C) G0.o.size);have RE:=J (dM.e8 (F:=D) V5 (fun k H I=>(K0.o k).2 ⟨H,I⟩) (by rw[aN];omega));have ML:Hq (∀q∈O1,gQ wq D q.v q.e.b):=J (fun q C=>by
  have H:=OG q C;obtain⟨A1,c1,e1,k1,k2,_⟩:=bF H;rw[e1] at H;exact⟨A1,c1,e1,k1,k2,dM.e1 H (fun k I Y=>(K0.o k).2 ⟨I,Y⟩)⟩)
 have NB:=J ((o8.o.j7 AJ.o FA).monoF (F' :=fun x=>F x∨D x) (fun q C=>.inl C));have IX:Hq (O1.map EntR.e=l):=J (by rw[S7.o];exact V2);have IV:=J o8.o.wrlt;have L5:=J o8.o.gl;have QU:Hq (∀e∈l,((I6 e.ix)∧(I6 e.tm)∧(I6 e.kd))∧e.b.length<=65535):=J (fun e he=>by
  have H:=aF7 S9.o.symm e he;rw[S7.o] at he;obtain⟨q,C,rfl⟩:=mF.1 he;exact⟨BG.o q C,H⟩)
 have R8:=J (HC.o.trans (FA.mono TL));have UK:l.length=rs:=by rw[S7.o,lU]
 have G4:Hq (∀k,((l.take k).map aZ).flatten.length<=1000000000):=J (fun k=>by
  have H:(l.map aZ).flatten.length=((l.take k).map aZ).flatten.length+((l.drop k).map aZ).flatten.length:=by
   rw[<-lT,<-List.flatten_append,<-mE,List.take_append_drop]
  omega)
 clear V5 V2 OG FA hD o8 MK OQ HC;go_wp2_with fail;go_loopw [185,15,18,19] (fun i bvv _ _ wr=>∃(k:Nat) (C4:List EntR) (LY LX ER:Value),k<=rs∧i=.int .i64 k∧bvv=ER∧Hq (Below T T wr)∧Hq (wq.heap.size<=wr∧∀x,D x->wr.heap[x]? =wq.heap[x]?)∧Hq (dO wr (fun x=>F x∨D x) w T gj g (.slice (U,ao) (mp+1) c5) C9 q8 G1 al o9 O3 FP X (aO s0 (l.take k)) C4 LY LX ER (bh++((l.take k).map aZ).flatten))∧Hq (∀x,x=X∨LY.ownBlock=some x∨LX.ownBlock=some x∨ER.ownBlock=some x->x<wc.heap.size∨wq.heap.size<=x)) (fun i _ _ _ _=>rs.length-(intOf i).toNat)
 case atStart=>exact⟨0,LW,vl,ve,bv,O,rfl,rfl,R8,J ⟨lR _,fun _ _=>rfl⟩,J (by simpa[aO] using NB.o),J (fun x hx=>.inl (IV.o x (by rcases hx with h|h|h|h;exact .inr (.inl h);exact .inr (.inr (.inl h));exact .inr (.inr (.inr (.inl h)));exact .inr (.inr (.inr (.inr (.inl h)))))).2)⟩
 obtain⟨k,C4,LY,LX,ER,hk,rfl,OH,HB,AF,Z,HW⟩:=hrel;have JY:=OH.symm;clear OH;subst JY;clear NB R8;have W5:=HB.o.size;have UL:=AF.o.1;have AC:=J (l5.o.trans (HB.o.mono m9));have G3:Hq (∀q,(F q∨D q)->q<wr.heap.size):=J (fun q C=>by
  rcases C with C|C
  have:=AJ.o q C;omega;have:=((K0.o q).1 C).2;omega)
 by_cases hlt:k<rs
 ·have V1:k<O1:=O
  obtain⟨qb,qo,ES,NW,LC,PO⟩:=RE.o (by rw[aN];omega);subst ES;have kD:=AF.o.2 qb NW;obtain⟨q,C⟩:=eX (O1[k]);have LD:q∈O1:=by rw[C];exact lX V1
  have LB:l[k]? =some q.e:=by rw[<-IX.o,List.getElem?_map,lW V1,C];rfl
  have V6:=QU.o q.e (List.mem_of_getElem? LB);have IB:=J (ML.o q LD);obtain⟨Av,cv,PP,UP,UQ,PY⟩:=ML.o q LD;have CR:∀j u,(dU q)[j]? =some u->j<4->wr.cell? ⟨qb,qo+k*4+j,none⟩=some u:=fun j u hu hj=>(mK kD).trans (by
   have:=PO (k*4+j) u (by rw[bM O1 V1 hj,<-C];exact hu);rwa[<-Nat.add_assoc] at this)
  have X0:l.take (k+1)=l.take k++[q.e]:=by rw[List.take_add_one,LB];rfl
  obtain⟨qv,⟨n5,p9,p8,qd⟩⟩:=q;have LE:qv=.slice Av qd cv:=PP;subst LE;have SB:wr.cell? (qb,qo+k*4)=some (.int .i64 n5):=CR 0 n5 rfl O;have SC:=CR 1 p9 rfl O;have SD:=CR 2 p8 rfl O;have SE:=CR 3 (.slice Av qd cv) rfl O;have JH:=J X0;have JD:=J V6;have LA:qd.length<=65535:=V6.2;have RK:Hq (dM wq D Av (cells qd)):=J PY;obtain⟨wE,GA⟩:=eX (wr.alloc (.cells #[n5,p9,p8,.slice Av qd cv] 65));have JW:=bN GA;have KR:=kN GA;have TI:=JW.size;have RM:=J GA;have GQ:=J JW;have X9:=J KR;have KT:=KR.lt;clear CR kD PO C LD LB V6 X0 PP PY GA JW KR NW LC;go_upto_region 35 with fail
  rw[<-RM.o];have e0:=X9.o.c 0;have e1:=X9.o.c 1;have e2:=X9.o.c 2;have e3:=X9.o.c 3;have EJ:=J (RK.o.b1 O (fun x hx=>(GQ.o.block x (ω1 (((K0.o x).1 hx).2))).trans (AF.o.2 x hx)));obtain⟨pp,DN⟩:=eX (aZ ⟨n5,p9,p8,qd⟩);have NF:Hq (Calls Tryz.prog 65 #[.agg #[n5,p9,p8,.slice Av qd cv]] wE fun e w' =>∃v,e=.returned v∧eR w' wE v pp∧Below wE wE w'):=J (by rw[DN];exact aW6 Av ⟨n5,p9,p8,qd⟩ cv wE EJ.o.rd (by simp only;omega) JD.o.1.2.1 JD.o.1.2.2);obtain⟨bk,EZ⟩:=eX (bh++((l.take k).map aZ).flatten);have RZ:bk.length+pp<=1001048600:=by
   have h:=G4.o (k+1);rw[JH.o,mE,List.flatten_append,lT] at h;have I:(([⟨n5,p9,p8,qd⟩]:List cD).map aZ).flatten.length=pp.length:=by rw[DN];simp
   have Y:(List.map aZ [(EntR.e {v:=Value.slice Av qd cv,e:={ix:=n5,tm:=p9,kd:=p8,b:=qd}})]).flatten.length=pp.length:=I;rw[Y] at h;rw[EZ,lT];omega
  have LL:(aO s0 (l.take k)).l.length<=102000000:=by
   rw[(iB (l.take k) s0).1,lT,lV];omega
  have PR:C4.length<=102000000:=by
   have h:=congrArg List.length Z.o.h8.map;rw[lU] at h;omega
  have LK:(aO s0 (l.take k)).b2<=1001000000000:=by
   rw[oW];have:=G4.o k;omega
  have BR:Hq (aO s0 (l.take (k+1))={aO s0 (l.take k) with l:=(aO s0 (l.take k)).l++[⟨n5,p9,p8,qd⟩],a7:=(aO s0 (l.take k)).a7++[(aO s0 (l.take k)).b2+(pp:Int)]}):=J (by rw[JH.o,oX,DN]);have GR:Hq (bh++((l.take (k+1)).map aZ).flatten=bk++pp):=J (by rw[JH.o,EZ,DN,mE,List.flatten_append,List.append_assoc];simp);obtain⟨sk,DT⟩:=eX (aO s0 (l.take k));rw[<-DT] at Z BR LL LK;rw[<-EZ] at Z;clear DT EZ DN;obtain⟨GK,JK,LP,_⟩:=aK Z.o.h8.c7;subst LP;obtain⟨O6,P7,PZ,_⟩:=Own.b3 Z.o.h8.a7;rw[lU] at PZ;subst PZ;obtain⟨QF,K4,LO,_⟩:=Z.o.bytes.b3;subst LO;clear SB SC SD SE;go_wp2_with fail;refine NF.o.mono ?_;rintro e w5 ⟨v5,rfl,OS,D0⟩;obtain⟨QE,RO,TS,p1,p2,p3⟩:=OS.b3;subst TS;have FW:=D0.size;have IW:=J ((Z.o.j7 G3.o GQ.o).j7 (fun q C=>ω1 (G3.o q C)) D0);have AV:=J (X9.o.a1 D0 KT);have GP:=J (GQ.o.trans (D0.mono TI));have QZ:=J p3;clear OS D0 NF e0 e1 e2 e3 p3 X9 EJ;go_upto_region 37 with(at_builtin;go_must (refine sQ rfl (.tmp 191) (.tmp 192) rfl T.heap.size _ bk rfl IW.o.bytes w5.heap.size QE RO pp rfl QZ.o O O ?_;intro v6 R U9 DB ON;have X7:=J U9;have C6:=J DB;have MO:=J ON;clear U9 DB ON))
  have LR:=Z.o.wrlt;have PL:∀q,(F q∨D q)->(q=X∨(Value.slice GK C4 JK).ownBlock=some q∨(Value.slice O6 sk.a7 P7).ownBlock=some q∨(Value.slice QF bk K4).ownBlock=some q)->False:=fun q C hx=>by
   have H:=HW.o q hx;have I:=LR q (by rcases hx with h|h|h|h;exact .inr (.inl h);exact .inr (.inr (.inl h));exact .inr (.inr (.inr (.inl h)));exact .inr (.inr (.inr (.inr (.inl h)))));rcases C with C|C
   have:=j8.o q C;omega;have:=(K0.o q).1 C;omega
  have Y0:=J PL;have I1:=J LR;have FX:=C6.o.size;have D8:=J (IW.o.bytesG (fun q C=>⟨ω1 (G3.o q C),fun e=>Y0.o q C (.inr (.inr (.inr e)))⟩) C6.o X7.o MO.o);have D4:=AV.o.grown C6.o (fun e=>ω1 ((I1.o wr (.inr (.inr (.inr (.inr (.inl e.symm)))))).2));have N4:=D8.o.h8.b4;have OF:∀W:World,W.cell? (X,4)=R.cell? (X,4)->W.heap[wr.heap.size]? =R.heap[wr.heap.size]? ->W.cell? (X,4)=some (.slice O6 sk.a7 P7)∧W.cell? (wr,0)=some (.int .i64 n5)∧W.cell? (wr,1)=some (.int .i64 p9)∧W.cell? (wr,2)=some (.int .i64 p8)∧W.cell? (wr,3)=some (.slice Av qd cv)∧True:=fun W H I=>
   ⟨H.trans (N4.cell 4),(mK (w:=R) I).trans (D4.cell 0),(mK (w:=R) I).trans (D4.cell 1),(mK (w:=R) I).trans (D4.cell 2),(mK (w:=R) I).trans (D4.cell 3),trivial⟩
  have t3:=N4.c 3;have G9:=J OF;have IP:=J D4;have G6:=J N4;have Z4:=J ((HB.o.trans (GP.o.mono W5)).grown C6.o O (fun r Q=>(I1.o r (.inr (.inr (.inr (.inr (.inl Q)))))).1));clear LR PL D4 N4 OF AV IW;refine bW 25 rfl (S:=fun W=>W.cell? ⟨X,4,none⟩=some (.slice O6 sk.a7 P7)∧W.cell? ⟨wr,0,none⟩=some (.int .i64 n5)∧W.cell? ⟨wr,1,none⟩=some (.int .i64 p9)∧W.cell? ⟨wr,2,none⟩=some (.int .i64 p8)∧W.cell? ⟨wr,3,none⟩=some (.slice Av qd cv)∧True) (G9.o _ rfl rfl) (fun f=>?_);refine sE 0 (k:=sE 1 (k:=sE 2 (k:=sE 3 (k:=sE 4 (k:=sE 6 (k:=sE 9 (k:=sE 10 (k:=sE 11 (k:=sE 12 (k:=sE 13 (k:=sE 15 (k:=?_))))))))))));refine sE 16 (k:=?_);simp only[zA,zB,zF,zG,zC,zD,zE];have D1:Below R R ((R.alloc (.cells #[n5,p9,p8,.slice Av qd cv] 65)).drew):=aD ((lS _ R).alloc (lR _) _) 1;have Y2:=J G6.o.lt;have t9:=J IP.o.lt;have LV:=D1.block X Y2.o;have QC:=D1.block wr t9.o;have UA:(R.alloc (.cells #[n5,p9,p8,.slice Av qd cv] 65)).cell? (X,3)=some (.slice GK C4 JK):=(mK (w:=R) LV).trans t3;have BP:=J (G9.o _ (mK (w:=R) LV) QC);have MI:=J D1;clear LV QC D1;apply cE1
  ·intro key
   refine bF9 5 7 (by simp) (by simp) (by kernel_rfl) (fun K M=>?_) (fun K M=>?_)
   ·simp only[zA,zB]
    go_simp;refine M _ _ (G9.o _ rfl rfl) (fun f=>?_);clear M K;try simp only[zF,zG,zC,zD,zE]
    refine zW 7 (k:=fun K M=>?_);simp only[zA,zB];go_simp;refine M _ _ BP.o (fun f=>?_);clear M K;try simp only[zF,zG,zC,zD,zE]
    exact key
   simp only[zA,zB];go_simp;refine M _ _ BP.o (fun f=>?_);clear M K;try simp only[zF,zG,zC,zD,zE]
   refine zW 5 (k:=fun K M=>?_);simp only[zA,zB];go_simp;refine M _ _ BP.o (fun f=>?_);clear M K;try simp only[zF,zG,zC,zD,zE]
   exact key
  clear t3 UA;obtain⟨w7,N9⟩:=eX ((R.alloc (.cells #[n5,p9,p8,.slice Av qd cv] 65)).drew);have f:=BP.o;rw[<-N9] at f⊢;have B9:Hq (Below R R w7):=J (by rw[N9];exact MI.o);have OJ:∀j u,[Value.int .i64 n5,Value.int .i64 p9,Value.int .i64 p8,Value.slice Av qd cv][j]? =some u->w7.cell? (((R,0):Addr).add j)=some u:=by
   rw[N9];obtain⟨ad,e1,_,I⟩:=cS R 65 [Value.int .i64 n5,Value.int .i64 p9,Value.int .i64 p8,Value.slice Av qd cv] σ;injection e1 with e1
   subst e1;exact I
  have O9:=J OJ;have Y9:=B9.o.size;have NG:=J (World.ownsRow.kept D8.o.h8.c7 (aT B9.o none) (by generalize(Value.slice GK C4 JK).ownBlock=o;cases o<;>simp));have IS:=J (B9.o.block X Y2.o);have IQ:=J (B9.o.block wr t9.o);clear N9 OJ MI BP;refine zW 8 (k:=fun K M=>?_);simp only[zA,zB];rw[if_pos (by rfl)];refine eM (.tmp 199) (.tmp 201) 40 rfl T 65 (.agg #[.int .i64 0,.int .i64 0,.int .i64 0,.slice none 0 0]) 4 48 Tryz.underlying40 dW rfl δ _ C4 (aG C4) rfl NG.o (R,0) 1 1 _ rfl rfl O9.o (by simp[Value.oneCell']) μ O O ?_;intro v8 w8 J6 Y5 OO;obtain⟨A8,c8,TU,_⟩:=aK J6;subst TU;have PU:=Y5.size;have QD:=Y5.block X (ω1 Y2.o) (fun e=>aU D8.o.h8.c7 D8.o.h8.b4 δ e.symm);have QB:w8.heap[wr.heap.size]? =w7.heap[wr.heap.size]? :=Y5.block _ (ω1 t9.o) (fun e=>ω1 ((I1.o wr (.inr (.inr (.inl e.symm)))).2));have S5:=J (QD.trans IS.o);have AW:=J (QB.trans IQ.o);have X1:=World.ownsRow.kept D8.o.h8.a7 (aT B9.o none) (by generalize(Value.slice O6 sk.a7 P7).ownBlock=o;cases o<;>simp);have BX:=J (World.ownsRow.kept X1 Y5 (jrow_type_ne X1 NG.o δ));have QW:=J J6;have IJ:=J Y5;have MP:=J OO;have PW:sk.a7.length<=102000001:=ω1 (D8.o.num.2.1);have P4:Hq (Calls Tryz.prog 56 #[(X,0)] w8 fun e w' =>e=.returned sk.b2∧Below w8 w8 w'):=J (aX3 ((mK S5.o).trans (G6.o.cell 4)) (by have h:=BX.o;unfold Own;rw[lU] at h⊢;exact h) (fun e=>by have:=D8.o.num.2.1;rw[e] at this;simp at this) O);clear J6 Y5 OO QD QB X1 O9;refine M _ _ (G9.o _ (mK S5.o) AW.o) (fun f=>?_);clear M K;try simp only[zF,zG,zC,zD,zE]
  refine zW 14 (k:=fun K M=>?_);simp only[zA,zB];go_simp;refine P4.o.mono ?_;rintro e w9 ⟨rfl,Q4⟩;have LH:=Q4.size;have S6:=J ((Q4.block X (ω1 Y2.o)).trans S5.o);have S4:=J ((Q4.block wr (ω1 t9.o)).trans AW.o);have Z6:=J Q4;clear Q4 P4;refine M _ _ (G9.o _ (mK S6.o) S4.o) (fun f=>?_);clear M K;try simp only[zF,zG,zC,zD,zE]
  have TM:0<=sk.b2:=(D8.o.num.1.a7 _ (iP (fun e=>by have:=D8.o.num.2.1;rw[e] at this;simp at this))).1;obtain⟨n,hn⟩:=eX (sk.b2+(pp:Int));have UU:IntKind.i64.wrap (sk.b2+(pp:Int))=n:=by rw[hn];exact mH _ O
  have FR:0<=n∧n<=4611686018427387904:=O;have QV:=J hn;clear hn;refine zW 17 (k:=fun K M=>?_);simp only[zA,zB];go_simp;refine M _ _ (G9.o _ (mK S6.o) S4.o) (fun f=>?_);clear M K;try simp only[zF,zG,zC,zD,zE]
  refine zW 18 (k:=fun K M=>?_);simp only[zA,zB];go_simp;obtain⟨O4,N8⟩:=eX (w9.alloc (.cells #[n] 3));have f9:=bN N8;have DQ:=f9.size;have P5:Hq (Rd O4 (w9.heap.size+1) (w9,0) [n]):=J (by rw[N8];exact cS w9 3 [n]);have P3:=J ((f9.block X (ω1 Y2.o)).trans S6.o);have P1:=J ((f9.block wr (ω1 t9.o)).trans S4.o);have d8:=J (Z6.o.trans (f9.mono O));have BW:=J (Own.kept BX.o (aT d8.o none) (by generalize(Value.slice O6 sk.a7 P7).ownBlock=o;cases o<;>simp));rw[<-N8];clear N8 f9;refine M _ _ (G9.o _ (mK P3.o) P1.o) (fun f=>?_);clear M K;try simp only[zF,zG,zC,zD,zE]
  refine zW 19 (k:=fun K M=>?_);simp only[zA,zB];rw[if_pos (by rfl)];refine fS (.tmp 206) (.tmp 212) 41 rfl T 3 (.int .i64 0) 8 Tryz.underlying41 kX rfl _ (sk.a7.map (Value.int .i64)) rfl BW.o (w9.heap.size+1) (w9,0) 1 1 [n] rfl rfl P5.o (by simp[Value.oneCell']) (by rw[lU];unfold maxLen;omega) (by rw[lU];omega) O ?_;intro VB E6 B7 j6 CU;obtain⟨MA,NT,DY,_⟩:=Own.b3 B7;rw[lT,lU] at DY;subst DY;have DR:=j6.size;have EE:=j6.block X (ω1 Y2.o) (fun e=>aU D8.o.h8.a7 D8.o.h8.b4 δ e.symm);have ED:E6.heap[wr.heap.size]? =O4.heap[wr.heap.size]? :=j6.block _ (ω1 t9.o) (fun e=>ω1 ((I1.o wr (.inr (.inr (.inr (.inl e.symm))))).2));have I7:aS E6 X 104 _:=(EE.trans P3.o).trans G6.o;have g3:=I7.c 3;have z3:=I7.a6 3;have P2:=J (ED.trans P1.o);have JG:=J I7;have JC:=J B7;have S1:=J j6;have AI:=J CU;have T5:=J (G9.o E6 ((I7.cell 4).trans (G6.o.cell 4).symm) P2.o);clear B7 j6 CU EE ED I7 P5;refine M _ _ T5.o (fun f=>?_);clear M K;try simp only[zF,zG,zC,zD,zE]
  refine zW 20 (k:=fun K M=>?_);simp only[zA,zB];go_simp;refine M _ _ T5.o (fun f=>?_);clear M K;try simp only[zF,zG,zC,zD,zE]
  refine zW 21 (k:=fun K M=>?_);simp only[zA,zB];go_simp;refine M _ _ T5.o (fun f=>?_);clear M K;try simp only[zF,zG,zC,zD,zE]
  refine zW 22 (k:=fun K M=>?_);simp only[zA,zB];go_simp;have U1:=JG.o.b8 3 (.slice A8 (C4.length+1) c8);have CY:=aA E6 X 3 (.slice A8 (C4.length+1) c8);have g4:(E6.setCell (X,3) (.slice A8 (C4.length+1) c8)).cell? (X,4)=some (.slice O6 sk.a7 P7):=U1.cell 4;have z4:=U1.a6 4;have TP:=(I1.o X (.inr (.inl rfl))).2;have T6:=J (G9.o _ (g4.trans (G6.o.cell 4).symm) ((CY.block wr (ω1 t9.o) (fun e=>by injection e with e;omega)).trans P2.o));clear U1 CY;refine M _ _ T6.o (fun f=>?_);clear M K;try simp only[zF,zG,zC,zD,zE]
  refine zW 23 (k:=fun K M=>?_);simp only[zA,zB];go_simp;refine M _ _ T6.o (fun f=>?_);clear M K;try simp only[zF,zG,zC,zD,zE]
  refine zW 24 (k:=fun K M=>?_);simp only[zA,zB];go_simp;refine M _ _ T6.o (fun f=>?_);clear M K;try simp only[zF,zG,zC,zD,zE]
  refine dI (t:=25) (by simp) (by kernel_rfl) (by kernel_rfl) (fun K M=>?_);simp only[zA,zB];go_simp;refine M _ _ ?_;clear M K f g3 z3 g4 z4;have AG:Hq (gQ R (fun x=>F x∨D x) (.slice Av qd cv) qd):=J ((IB.o.b1 O (fun x hx=>by
   have H:=(K0.o x).1 hx;exact(C6.o.block x O (fun e=>Y0.o x (.inr hx) (.inr (.inr (.inr e.symm))))).trans ((GP.o.block x O).trans (AF.o.2 x hx)))).mono (fun x hx=>.inr hx))
  have BD:=J (D8.o.entG (q:=⟨.slice Av qd cv,⟨n5,p9,p8,qd⟩⟩) (n:=n) (fun x hx=>⟨ω1 (G3.o x hx),fun e=>Y0.o x hx (.inl e),fun e=>Y0.o x hx (.inr (.inl e)),fun e=>Y0.o x hx (.inr (.inr (.inl e)))⟩) AG.o B9.o IJ.o QW.o MP.o d8.o S1.o JC.o AI.o FR JD.o.1 O LA);have OT:E6.grownBy ((E6.setCell (X,3) (.slice A8 (C4.length+1) c8)).setCell (X,4) (.slice MA (sk.a7.length+1) NT)) (some X):=aF (aA E6 X 3 _) (aA _ X 4 _) (.inl rfl);have n8:=J OT;clear OT;generalize((E6.setCell (X,3) (.slice A8 (C4.length+1) c8)).setCell (X,4) (.slice MA (sk.a7.length+1) NT))=J8 at BD n8⊢;go_wp2;go_roundw
  case rel=>
   have V7:=n8.o.size;have LG:=Z4.o.size;refine⟨k+1,C4++[⟨.slice Av qd cv,⟨n5,p9,p8,qd⟩⟩],_,_,_,O,by go_num,rfl,J ?_,J ⟨O,fun x hx=>?_⟩,J (by rw[BR.o,GR.o,<-QV.o];exact BD.o),J (fun x hx=>?_)⟩;exact((((Z4.o.trans (B9.o.mono LG)).grown IJ.o O (fun r Q=>(I1.o r (.inr (.inr (.inl Q)))).1)).trans (d8.o.mono O)).grown S1.o O (fun r Q=>(I1.o r (.inr (.inr (.inr (.inl Q))))).1)).grown n8.o O (fun r Q=>by injection Q with Q;have:=(I1.o X (.inr (.inl rfl))).1;omega);have H:=(K0.o x).1 hx;have hn:=fun h=>Y0.o x (.inr hx) h
   exact(n8.o.block x O (fun e=>hn (.inl (by injection e)))).trans ((S1.o.block x O (fun e=>hn (.inr (.inr (.inl e.symm))))).trans ((d8.o.block x O).trans ((IJ.o.block x O (fun e=>hn (.inr (.inl e.symm)))).trans ((B9.o.block x O).trans ((C6.o.block x O (fun e=>hn (.inr (.inr (.inr e.symm))))).trans ((GP.o.block x O).trans (AF.o.2 x hx)))))));rcases hx with hx|hx|hx|hx
   exact HW.o x (.inl hx);rcases MP.o with e|⟨y,e,hy⟩
   exact HW.o x (.inr (.inl (e▸hx)));rw[hx] at e;injection e with e
   exact .inr O;rcases AI.o with e|⟨y,e,hy⟩
   exact HW.o x (.inr (.inr (.inl (e▸hx))));rw[hx] at e;injection e with e
   exact .inr O;rcases MO.o x hx with H|H
   exact HW.o x (.inr (.inr (.inr H)));exact .inr O
  case measure=>simp[intOf];omega
 obtain rfl:k=rs:=O;have DX:l.take rs=l:=List.take_of_length_le O;rw[DX] at Z;obtain⟨s1,FV⟩:=eX (aO s0 l);obtain⟨B,hB⟩:=eX (bh++(l.map aZ).flatten);have UF:B.length<=1001048600:=by
  have:=G4.o rs;rw[DX] at this;rw[hB,lT];omega
 rw[<-FV,<-hB] at Z;have M0:=J (NK.o.trans (L9.o.trans (by unfold jJ;rw[<-FV,<-hB])));obtain⟨Ab,K4,LO,TY,UW,_⟩:=Z.o.bytes.b3;subst LO;have t0:=Z.o.h8.b4.c 0;have DT:=Z.o.num.2.2.2.2;have NJ:=J (Z.o.segsAt (fun q C=>⟨G3.o q C,fun e=>by
  have H:=(Z.o.row.lt q e).1;rcases C with C|C
  have:=j8.o q C;omega;have:=(IV.o q (.inl e)).2;have:=(K0.o q).1 C;omega⟩))
 have ID:=J (Z.o.dvFar (fun q C e=>by
  have H:=IV.o q (.inr (.inr (.inr (.inr (.inr e)))));rcases C with C|C
  have:=j8.o q C;omega;have:=(K0.o q).1 C;omega))
 have AN:Hq (∀x,_->F x∨w.heap.size<=x):=J (fun x hx=>(Z.o.from_ (F0:=F) (fun q C=>by
  rcases C with C|C
  exact .inl C;have:=(K0.o q).1 C;exact .inr O) x hx).imp id (fun h=>O))
 clear FV hB DX L9;by_cases hmax:999999999<s1.k
 ·have RA:=J (show cP j d l=(1,j,d) by rw[M0.o,if_pos hmax])
  go_wp2;go_ret;exact HH.o.same AC.o RA.o
 obtain⟨_,_,SZ,TA⟩:=HH.o.c8.num;have MR:=J (HH.o.a1 AC.o);have N0:=tI MR.o.c8 (by rw[HH.o.fs];have:=NE.o.sz;omega);rw[HH.o.fs] at N0;obtain⟨f2,KJ⟩:=eX (d.room-bC d.fs);rw[<-KJ] at N0;obtain⟨fx,LQ⟩:∃x,IntKind.i64.wrap (f2+fr)=x:=⟨_,rfl⟩
 have MQ:=J (show d.free=f2 from KJ.symm);have AO:=J N0;have b0:=(I2.o.a1 HB.o J7).c 0;have j3:=(G5.o.a1 HB.o O).c 3;clear N0 KJ SZ TA MR;go_wp2_with fail;refine AO.o.mono ?_;rintro e w8 ⟨rfl,K5⟩;have PU:=K5.size;have O8:=J (HB.o.trans (K5.mono W5));have R7:=J (l5.o.trans (O8.o.mono m9));have K8:=J K5;clear K5 AO t0 b0 j3;by_cases hroom:fx<(B:Int)
 ·have BI:=J (show cP j d l=(52,j,d) by rw[M0.o,if_neg O,if_pos (by rw[MQ.o,LQ];exact hroom)])
  go_wp2;go_ret;exact HH.o.same R7.o BI.o
 have BS:Hq (cP j d l=((cF (al++[.app (aE s1.k) B,.sync (aE s1.k)]) d).1,if(cF (al++[.app (aE s1.k) B,.sync (aE s1.k)]) d).1=0 then {j with b0:=O3++[s1]} else {j with bad:=(cF (al++[.app (aE s1.k) B,.sync (aE s1.k)]) d).1},(cF (al++[.app (aE s1.k) B,.sync (aE s1.k)]) d).2)):=J (by rw[M0.o,if_neg O,if_neg (by rw[MQ.o,LQ];exact hroom)]);obtain⟨QG,RP,KE,_⟩:=Z.o.e5.own.b3;subst KE;have BY:=J Z.o.e5.len;have BZ:=J Z.o.wrlt;have DX:=(BZ.o X (.inr (.inl rfl))).2;have C5:=J (Z.o.e5.a1 K8.o);have IK:=J (Z.o.bytes.a1 K8.o (lR _));have NL:=J (Z.o.h8.b4.a1 K8.o DX);have JB:=J (mY Z.o.e5.own Z.o.bytes δ);have P6:Hq (∀W,Below T T W->W.cell? (w,0)=some (.pointer (gj,0))∧True∧True∧True):=J (fun W h=>⟨(I2.o.a1 h J7).cell 0,trivial,trivial,trivial⟩);have V6:=fJ s1.k O;have GT:Hq (Below w8 w8 w8.drew):=J (lS _ w8).drew;have T0:=J (jI X 0 s1.k O w8.drew ((NL.o.a1 GT.o O).cell 0) (HE.o w8.drew ((R7.o.trans (GT.o.mono O)).mono Y4)));obtain⟨nm,J4⟩:=eX (aE s1.k);have EM:=J J4;rw[<-J4] at T0 V6;clear J4 M0 NK;go_upto_region 43 with fail
 refine wp_region_held_drew (S:=fun W=>W.cell? ⟨w,0,none⟩=some (.pointer (some ⟨gj,0,none⟩))∧True∧True∧True) κ (P6.o _ O8.o.drew) (fun f=>?_);clear hroom hmax;refine zT 0 (k:=zT 1 (k:=zT 2 (k:=zT 3 (k:=zT 5 (k:=zT 7 (k:=zT 8 (k:=?_)))))));simp only[zA,zB,zF,zG,zC,zD,zE];refine zV 4 (k:=fun K M=>?_);simp only[zA,zB];go_simp;refine T0.o.mono ?_;rintro e w9 ⟨rfl,Q4⟩;have Z6:=J (GT.o.trans (Q4.mono (lR _)));have LH:=Z6.o.size;clear Q4 T0;refine M.out _ _ (P6.o _ (O8.o.trans (Z6.o.mono O))) (fun f=>?_);clear M K;try simp only[zF,zG,zC,zD,zE]
 refine zV 6 (k:=fun K M=>?_);simp only[zA,zB];go_simp;refine(show Calls _ _ _ w9 _ from aJ3 (gj:=gj) (g:=g) nm O B Ab K4 TY O w9).mono ?_;rintro e O4 ⟨vP,rfl,f9,⟨FQ,m5,rfl⟩,_,Q1⟩;have DQ:=f9.size;have d8:=J (Z6.o.trans (f9.mono LH));have MT:=J (Q1 (fun x=>G1 x∨(Value.slice Ab B K4).ownBlock=some x∨(w8.heap.size<=x∧x<O4.heap.size)) (fun x H I=>.inr (.inr ⟨O,I⟩)) ((IK.o.a1 d8.o (lR _)).rdO.mono (fun x hx=>.inr (.inl hx))));have T3:=J (jI X 0 s1.k O O4 ((NL.o.a1 d8.o O).cell 0) (HE.o O4 ((R7.o.trans (d8.o.mono O)).mono Y4)));rw[<-EM.o] at T3;clear f9 Q1;refine M.out _ _ (P6.o _ (O8.o.trans (d8.o.mono O))) (fun f=>?_);clear M K;try simp only[zF,zG,zC,zD,zE]
 refine zV 9 (k:=fun K M=>?_);simp only[zA,zB];go_simp;refine T3.o.mono ?_;rintro e E6 ⟨rfl,M5⟩;have DR:=M5.size;have Z2:=J (d8.o.trans (M5.mono O));have E7:=J M5;clear M5 T3;refine M.out _ _ (P6.o _ (O8.o.trans (Z2.o.mono O))) (fun f=>?_);clear M K;try simp only[zF,zG,zC,zD,zE]
 refine zV 10 (k:=fun K M=>?_);simp only[zA,zB];go_simp;refine(show Calls _ _ _ E6 _ from tO (gj:=gj) (g:=g) nm O E6).mono ?_;rintro e D6 ⟨vS,rfl,M6,⟨Fs,m6,rfl⟩,_,Q2⟩;have TG:=M6.size;have Z3:=J (Z2.o.trans (M6.mono O));have s9:=J (E7.o.trans (M6.mono DR));have MU:=J (Q2 (fun x=>G1 x∨(Value.slice Ab B K4).ownBlock=some x∨(w8.heap.size<=x∧x<D6.heap.size)) (fun x H I=>.inr (.inr ⟨O,I⟩)));have EW:=C5.o.lt;have M7:=IK.o.row.lt;have AQ:=J ((MT.o.b1 s9.o.size (fun x hx=>s9.o.block x (by
  rcases hx with hx|hx|hx
  have:=EW x hx;omega;have:=M7 x hx;omega;exact hx.2))).mono (E' :=fun x=>G1 x∨(Value.slice Ab B K4).ownBlock=some x∨(w8.heap.size<=x∧x<D6.heap.size)) (fun x hx=>hx.imp id (fun h=>h.imp id (fun h=>⟨h.1,O⟩))))
 clear M6 Q2 MT E7 s9;refine M.out _ _ (P6.o _ (O8.o.trans (Z3.o.mono O))) (fun f=>?_);clear M K;try simp only[zF,zG,zC,zD,zE]
 refine zV 11 (k:=fun K M=>?_);simp only[zA,zB];go_simp;obtain⟨wF,GB⟩:=eX (D6.alloc (.cells #[.func (.func FQ) #[] m5,.func (.func Fs) #[] m6] 98));have M8:=bN GB;have TJ:=M8.size;have Y1:Hq (Rd wF (D6.heap.size+1) (D6,0) [.func (.func FQ) #[] m5,.func (.func Fs) #[] m6]):=J (by rw[GB];exact cS D6 98 [.func (.func FQ) #[] m5,.func (.func Fs) #[] m6]);rw[<-GB];have J9:=J (Z3.o.trans (M8.mono O));have E8:=J M8;have R3:=J (C5.o.a1 J9.o);clear GB M8;refine M.out _ _ (P6.o _ (O8.o.trans (J9.o.mono O))) (fun f=>?_);clear M K;try simp only[zF,zG,zC,zD,zE]
 refine zV 12 (k:=fun K M=>?_);simp only[zA,zB];rw[if_pos (by rfl)];refine fS (.tmp 237) (.tmp 247) 110 rfl T 98 .nilFunc 8 Tryz.underlying110 iV rfl _ q8 rfl R3.o.own (D6.heap.size+1) (D6,0) 2 2 [.func (.func FQ) #[] m5,.func (.func Fs) #[] m6] rfl rfl Y1.o (by simp[Value.oneCell']) μ O O ?_;intro UB O5 j9 J1 CV;have TH:=J1.size;have OL:=C5.o.own.lt;have p4:eO O5 (fun x=>G1 x∨(Value.slice Ab B K4).ownBlock=some x∨(w8.heap.size<=x∧x<D6.heap.size)) T gj g UB (q8++[.func (.func FQ) #[] m5,.func (.func Fs) #[] m6]) (al++[.app nm B,.sync nm]):=by
  refine eO.j9 R3.o rfl (fun i H I=>?_) (by simp[Value.oneCell']) (fun x hx=>.inl hx) (fun x hx=>?_) (fun r Q hx=>?_) J1 CV j9;have hi:i<2:=H;have JX:∀x,(G1 x∨(Value.slice Ab B K4).ownBlock=some x∨(w8.heap.size<=x∧x<D6.heap.size))->x<D6.heap.size:=fun x hx=>by
   rcases hx with hx|hx|hx
   have:=EW x hx;omega;have:=M7 x hx;omega;exact hx.2
  rcases(by omega:i=0∨i=1) with rfl|rfl
  exact AQ.o.b1 E8.o.size (fun x hx=>E8.o.block x (JX x hx));exact MU.o.b1 E8.o.size (fun x hx=>E8.o.block x (JX x hx));rcases hx with hx|hx|hx
  have:=EW x hx;omega;have:=M7 x hx;omega;omega;rcases hx with hx|hx|hx
  exact C5.o.apart r Q hx;rcases JB.o with H|H
  rw[H] at Q;cases Q;exact H (Q.trans hx.symm);have:=(OL r Q).2;omega
 have K7:=J (O8.o.trans ((J9.o.mono O).trans ((lS _ wF).grown J1 O (fun r Q=>(OL r Q).1))));obtain⟨LZ,EA⟩:∃v:List Value,v=q8++[.func (.func FQ) #[] m5,.func (.func Fs) #[] m6]:=⟨_,rfl⟩
 rw[<-EA] at p4 j9;clear EA;obtain⟨GJ,JJ,KG,_,_,_⟩:=j9.b3;subst KG;have QH:=J p4;have l9:=J (l5.o.trans (K7.o.mono m9));have NX:∀x,((G1 x∨(Value.slice Ab B K4).ownBlock=some x∨(w8.heap.size<=x∧x<D6.heap.size))∨(Value.slice GJ LZ JJ).ownBlock=some x)->(F x∨w.heap.size<=x)∧x<O5.heap.size:=fun x hx=>by
  rcases hx with(hx|hx|hx)|hx
  have:=EW x hx;exact⟨L5.o x hx,O⟩;have:=M7 x hx;have:=IK.o.row.base x hx;exact⟨.inr O,O⟩;exact⟨.inr O,O⟩;have:=j9.lt x hx;exact⟨.inr O,this.2⟩
 have QR:=J (HH.o.a1 l9.o);obtain⟨EQ,I9⟩:=eX (al++[aQ.app nm B,aQ.sync nm]);have CN:EQ.length<=1000010:=by
  rw[I9,lT,<-BY.o];simp;omega
 have UH:cO EQ<=1001048601:=by
  rw[I9,eW,AE.o];simp[cO,aQ.cost];omega
 rw[<-I9] at p4;have CD:=lQ (E:=fun x=>(G1 x∨(Value.slice Ab B K4).ownBlock=some x∨(w8.heap.size<=x∧x<D6.heap.size))∨(Value.slice GJ LZ JJ).ownBlock=some x) QR.o.c8 (G5.o.a1 K7.o O) HH.o.lo GJ LZ EQ JJ ((zK p4.own).mono (fun x hx=>.inr hx)) p4.len (fun k h h' =>(p4.e5 k h h').mono (fun x hx=>.inl hx)) (fun x hx=>by
  have H:=NX x hx;refine⟨H.2,?_⟩;rcases H.1 with I|I
  exact⟨(HH.o.apart x I).2.2.2,(HH.o.apart x I).2.2.1⟩;exact⟨fun hf=>ω1 ((HH.o.c8.lt x hf).2),O⟩) (fun w' hb' =>HE.o w' ((l9.o.mono Y4).trans hb')) (L:=L) (by rw[DkD.h9 d HH.o.fs];exact NE.o) O O
 rw[DkD.h9 d HH.o.fs,<-p4.len] at CD;obtain⟨rc,d3,hR⟩:∃rc d3,cF EQ d=(rc,d3):=⟨_,_,rfl⟩
 rw[hR] at CD;have EN:Hq (cP j d l=(rc,if rc=0 then {j with b0:=O3++[s1]} else {j with bad:=rc},d3)):=J (by rw[BS.o,<-EM.o,<-I9,hR]);dsimp only at CD;have MD:=J CD;have BQ:Hq (∃F5:Nat->Prop,eF O5 F5 T.heap.size (.slice (some ⟨U,ao,none⟩) (mp+1) c5) (o9++[⟨X,0,none⟩]) (O3++[s1])∧∀x,F5 x∨(Value.slice (some ⟨U,ao,none⟩) (mp+1) c5).ownBlock=some x->F x∨w.heap.size<=x):=J (by
  refine⟨_,NJ.o.keep' O (fun x hx=>?_),fun x hx=>?_⟩;have QA:x<wr∧(Value.slice QG q8 RP).ownBlock≠some x:=by
   refine⟨?_,fun e=>?_⟩;rcases hx with hx|hx
   exact NJ.o.lt x hx;exact(BZ.o x (.inl hx)).2;exact ID.o x hx e
  exact(J1.block x O (fun e=>QA.2 e.symm)).trans ((J9.o.block x O).trans (K8.o.block x QA.1));exact AN.o x hx)
 clear p4 CD hR I9 j9 J1 CV NX R3 AQ MU Y1 J9 E8 BS;refine M.out _ _ (P6.o _ K7.o) (fun f=>?_);clear M K;try simp only[zF,zG,zC,zD,zE]
 refine zV 13 (k:=fun K M=>?_);simp only[zA,zB];go_simp;refine MD.o.mono ?_;rintro e J8 ⟨rfl,CA,CF,CK,CH,I5,U8⟩;have V7:=I5.size;have AM:=J ((Fr.b9 _ l9.o).trans I5 (fun j hj=>.inl hj));have L4:=J CF;have BO:=J CK;have C7:=J CH;have S0:=J (show∀k,aI g m CA k->aI g m es k∨O5.heap.size<=k from U8);obtain⟨F5,M3,NY⟩:=BQ.o;have I0:Hq (∀x,F5 x∨(Value.slice (U,ao) (mp+1) c5).ownBlock=some x->J8.heap[x]? =O5.heap[x]? ∧(F x∨w.heap.size<=x)∧x<O5.heap.size∧x≠gj∧¬aI g m CA x):=J (fun x hx=>by
  have H:(F x∨w<=x)∧x<O5:=by
   refine⟨NY x hx,?_⟩;rcases hx with hx|hx
   exact M3.lt x hx;exact(M3.own.lt x hx).2
  have I:x≠gj∧¬aI g m es x:=by
   rcases H.1 with Y|Y
   exact(HH.o.apart x Y).2.2;exact⟨O,fun hf=>ω1 ((HH.o.c8.lt x hf).2)⟩
  refine⟨I5.block x H.2 (by rintro(Y|Y);exact I.2 Y;exact I.1 Y),H.1,H.2,I.1,fun hf=>?_⟩;rcases U8 x hf with Y|Y
  exact I.2 Y;omega)
 have T7:=J (M3.keep' V7 (fun x hx=>(I0.o x hx).1));have OI:J8.heap[w.heap.size]? =O5.heap[w.heap.size]? :=I5.block _ O (by rintro(Y|Y);(have:=(HH.o.c8.lt _ Y).2;omega);omega);have NS:=(mK OI).trans (P6.o O5 K7.o).1;have j2:=C7.o.c 2;have j4:=C7.o.c 4;have z2:J8.frozen? (gj,2)=false:=C7.o.a6 _;have DM:mp+1=(O3++[s1]).length:=by
  have H:=T7.o.own.b3;obtain⟨_,_,e1,_⟩:=H;injection e1 with _ e1 _
  rw[e1,lU,T7.o.len]
 clear CF CK CH I5 U8 MD M3 NY OI;refine M.out _ _ ⟨NS,trivial,trivial,trivial⟩ (fun f=>?_);clear M K;try simp only[zF,zG,zC,zD,zE]
 refine zT 14 (k:=?_);simp only[zA,zB,zF,zG,zC,zD,zE];refine wpAnyH_done κ ?_ _;clear f;have IZ:=J DM;clear DM;by_cases hz:rc=0
 ·subst hz
  have BI:=J (EN.o.trans (by rw[if_pos rfl]:_=((0:Int),(⟨j.c6,j.h7,O3++[s1],j.bad⟩:bQ),d3)));clear EN;have C1:=aA J8 gj 2 (.slice (U,ao) (mp+1) c5);have JM:=C7.o.b8 2 (.slice (U,ao) (mp+1) c5);have UD:=(mK (C1.block w O (fun e=>by injection e with e;omega))).trans NS;have j5:(J8.setCell (gj,2) (.slice (U,ao) (mp+1) c5)).cell? (gj,4)=some (.int .i64 0):=JM.cell 4;have QK:=J JM;have n8:=J C1;clear C1 JM;go_wp2;go_ret;have SW:=fun k hk=>(I0.o k (.inr hk)).2.2.2.1
  have RX:=T7.o.other n8.o (by
   cases C:(Value.slice (U,ao) (mp+1) c5).ownBlock with
   |none=>exact .inl rfl
   |some q=>exact .inr (fun e=>by injection e with e;exact SW q C e)) (fun r Q hx=>by injection Q with Q;exact(I0.o r (.inl hx)).2.2.2.1 Q.symm)
  have RU:=RX.jat0 (t:=j.c6) (v:=j.h7) (bad:=j.bad) (gj:=gj) (g:=g) (by have h:=QK.o;rw[<-X8.o];exact h) (by rw[<-IZ.o];omega) EK.o.1 EK.o.2;exact HH.o.j2 (es2:=CA) (F' :=fun x=>F5 x∨(Value.slice (U,ao) (mp+1) c5).ownBlock=some x) (AM.o.trans (Fr.e2 (mine:=fun k=>k=gj) n8.o (fun k e=>by injection e with e;exact e.symm)) (fun k hk=>.inl (.inr hk))) (L4.o.b1 n8.o.size (fun k hk=>n8.o.block k (L4.o.lt k hk).2 (fun e=>by injection e with e;subst e;exact L4.o.e3 C7.o δ δ δ hk))) BO.o (fun k hk=>(S0.o k hk).imp id (fun h=>ω1 l9.o.size)) RU (fun x hx=>⟨(I0.o x hx).2.1,ω2 ((I0.o x hx).2.2.1) n8.o.size,(I0.o x hx).2.2.2⟩) Y4 BI.o
 have SA:(rc==0)=false:=by simpa using hz
 have BI:=J (EN.o.trans (by rw[if_neg hz]:_=(rc,(⟨j.c6,j.h7,j.b0,rc⟩:bQ),d3)));clear EN hz;go_wp2;go_ret;obtain⟨sv,RS,TQ⟩:=HH.o.jn.turn;have Q9:sv=.slice A nl c:=by
  have e0:=l5.o.block gj OU;have e:=RS.symm.trans (e0.symm.trans G5.o);injection e with e
  injection e with e _ _
  have e2:=congrArg (fun a:Array Value=>a[2]?) e;simpa using e2
 subst Q9;have OA:∀k,F k->J8.heap[k]? =w.heap[k]? ∧k<J8.heap.size∧k≠gj∧¬aI g m CA k:=fun k hk=>by
  have H:=HH.o.apart k hk;have:=AM.o.size;refine⟨AM.o.block k H.2.1 (by rintro(Y|Y);exact H.2.2.2 Y;exact H.2.2.1 Y),O,H.2.2.1,fun hf=>?_⟩;rcases S0.o k hf with Y|Y
  exact H.2.2.2 Y;have:=l9.o.size;omega
 exact HH.o.j2 (es2:=CA) (F' :=F) AM.o L4.o BO.o (fun k hk=>(S0.o k hk).imp id (fun h=>ω1 l9.o.size)) (TQ J8 j.c6 j.h7 rc AM.o.size (fun k hk=>(OA k hk).1) C7.o EK.o.1 EK.o.2) (fun k hk=>⟨.inl hk,(OA k hk).2⟩) Y4 BI.o
end Go.Proofs.YtgeofijddhflaaaGreatDoor
