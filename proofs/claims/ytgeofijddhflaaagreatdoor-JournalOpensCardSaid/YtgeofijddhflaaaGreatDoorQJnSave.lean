/- journal.Save. Condition: the journal is on a disk of a call's own, within bounds; the entries' memory is known; the library's variables stand as laid. -/
import Derived.Test.YtgeofijddhflaaaGreatDoorQJnREnt
set_option maxHeartbeats 8000000
set_option maxRecDepth 100000
namespace Go.Proofs.YtgeofijddhflaaaGreatDoor
open Go.RowKit Go.Maps Oct
theorem cW7{w:World}{base g m gj:Nat}{F E:Nat->Prop}{d:DkD}{j:JnP}{es:List (Nm×FE)}(h:JnK w base g m gj F d j es)(T4:base<=w.heap.size){L:Nat}(lJ:JDk L d)(hL:L<=100000000000)(hE:∀w',Below base w w' ->Tab w')(jH:j.segs.length<=1000000)(nL:∀s∈j.segs,1<=s.k∧s.k<=999999999)
  (M1:∀s∈j.segs,s.l.length<=100000000∧0<=s.long∧s.long<=1000000000000)
  (N0:∀s∈j.segs,s.ends≠[]∧∀n∈s.ends,0<=n∧n<=1000000000000) (aK:(j.segs.map aC4.long).sum<=aB8 d.fs)
  (Ae:Option Addr) (rs:List aF2) (ce:Nat) (kB:RdF w E Ae (aA7 rs)) (gL:∀q∈rs,bF9 w E q.v q.e.b) (dG:∀k,E k->k<w.heap.size) (uV:rs.length<=2000000) (pA:((rs.map aF2.e).map aD8).flatten.length<=1000000000)
  (x5:∀q∈rs,(-9223372036854775808<=q.e.ix∧q.e.ix<=9223372036854775807)∧(-9223372036854775808<=q.e.tm∧q.e.tm<=9223372036854775807)∧(-9223372036854775808<=q.e.kd∧q.e.kd<=9223372036854775807)):
  Calls Tryz.prog 15 #[.pointer (some ⟨gj,0,none⟩),.slice Ae rs.length ce] w fun e w' =>cU6 w base g m gj es F (aM6 j d (rs.map aF2.e)) e w' :=by
 have nC:=h.jn.lt;have dZ:∀k,F k->k<w.heap.size:=fun k hk=>(h.apart k hk).2.1
 have J2:=fun w' (hb:Below w.heap.size w w')=>dG7 (h.jn.below dZ hb) (fun k hk=>by have:=dZ k hk;have:=hb.size;omega) Ae rs ce (kB.keep hb.size (fun k hk=>hb.block k (dG k hk))) (fun k hk=>by have:=dG k hk;have:=hb.size;omega) (fun q hq=>by obtain⟨Av,cd,hv,_⟩:=gL q hq;exact⟨Av,cd,hv⟩) (by omega) x5
 obtain⟨l,hl⟩:∃l,l=rs.map aF2.e:=⟨_,rfl⟩
 rw[<-hl] at J2 pA⊢;obtain⟨mj,jS⟩:∃x,x=cJ1 j l:=⟨_,rfl⟩
 rw[<-jS] at J2;obtain⟨jb,fV⟩:∃x,x=j.bad:=⟨_,rfl⟩
 obtain⟨⟨A,c,l5,h1,h2,h3,h4,h5⟩,h6,nX⟩:=h.jn;rw[<-fV] at h1;obtain⟨nl,eD⟩:∃n,n=j.segs.length:=⟨_,rfl⟩
 rw[<-eD] at h2 h4 h6 jH;have oX:Blk w gj 53 #[.int .i64 j.term,.int .i64 j.vote,.slice A nl c,.pointer (some ⟨g,0,none⟩),.int .i64 jb]:=by rw[eD];exact h1
 obtain⟨w0,dK⟩:∃W,W=w.alloc (.cells #[.pointer (some ⟨gj,0,none⟩)] 30):=⟨_,rfl⟩
 have aE:Below w.heap.size w w0:=by rw[dK];exact(lS _ w).alloc (lR _) _
 have dJ:Blk w0 w.heap.size 30 #[.pointer (some ⟨gj,0,none⟩)]:=by rw[dK];exact Blk.new w _ _
 have jT:=oX.below aE nC;have b0:w0.cell? ⟨w.heap.size,0,none⟩=some (.pointer (some ⟨gj,0,none⟩)):=dJ.cell 0;have j4:w0.cell? ⟨gj,4,none⟩=some (.int .i64 jb):=jT.cell 4;have l6:=aE.size;have D9:=dJ.lt;have mK:=qZ h3;have eS:=qZ h5;have HH:=qZ h;have hZ:=qZ lJ;have HE:=qZ hE;have nY:=qZ nL;have o4:=qZ M1;have aF:=qZ N0;have gF:=qZ aK;have U8:=qZ fV;have E7:=qZ eD;have f9:=qZ h4;have cX:=qZ x5;have dP:=qZ nX;have i4:=qZ dZ;have O5:=qZ (J2 w0 aE);have O7:=qZ jS;have S5:=qZ hl;have oE:=qZ kB;have eE:=qZ gL;have oO:=qZ dG;have j6:=qZ aE;have B2:=qZ dJ;have D8:=qZ jT;have tH:=qZ dK;clear h h1 h3 h4 h5 h6 lJ hE nL M1 N0 aK fV eD x5 nX dZ J2 jS hl kB gL dG aE dJ jT dK oX;go_enter Tryz.func15,Tryz.ntmps15
 go_upto_region 1 with fail
 rw[<-tH.out];by_cases hb:jb=0
 rotate_left
 ·have tM:(jb !=0)=true:=bne_iff_ne.2 hb
  have HR:=qZ (show aM6 j d l=(jb,j,d) by unfold aM6;rw[if_pos (by rw[<-U8.out];exact hb),U8.out]);clear hb O5;go_wp2_with fail
  go_ret
  exact HH.out.same j6.out HR.out
 subst hb;go_wp2_with fail
 refine O5.out.mono ?_;rintro e w1 ⟨rfl,dW⟩;have L3:=qZ dW;have O9:=qZ (j6.out.trans (dW.mono l6));have dT:=dW.size;clear dW O5 b0 j4;by_cases hm:mj=0
 rotate_left
 ·have eP:(mj !=0)=true:=bne_iff_ne.2 hm
  have HR:=qZ (show aM6 j d l=(mj,j,d) by unfold aM6;rw[if_neg (by rw[<-U8.out];simp),if_pos (by rw[<-O7.out];exact hm),O7.out]);clear hm;go_wp2_with fail
  go_ret
  exact HH.out.same O9.out HR.out
 subst hm;rcases Nat.eq_zero_or_pos rs.length with hz|hz
 ·have HR:=qZ (show aM6 j d l=(0,j,d) by
   have h0:l=[]:=by rw[S5.out,mD hz];rfl
   have eF:=O7.out;unfold aM6;rw[if_neg (by rw[<-U8.out];simp),if_neg (by rw[<-eF];simp),h0])
  obtain⟨rn,mV⟩:∃n,n=rs.length:=⟨_,rfl⟩
  rw[<-mV] at hz⊢;subst hz;clear mV;go_wp2_with fail
  go_ret
  exact HH.out.same O9.out HR.out
 have tS:((rs.length:Int)==0)=false:=beq_eq_false_iff_ne.2 (by omega);obtain⟨eb,eo,rY,_,rB,jR⟩:=oE.out (by rw[aC3];omega);subst rY;obtain⟨ix,T5⟩:∃x,x=rs[0].e.ix:=⟨_,rfl⟩
 have bS:=(cX.out rs[0] (lX hz)).1;rw[<-T5] at bS;have X0:0<=ix∧ix<=9223372036854775806:=by
  have h0:l=rs[0].e::(rs.drop 1).map aF2.e:=by
   rw[S5.out];have e:rs=rs[0]::rs.drop 1:=List.drop_eq_getElem_cons hz
   conv=>lhs;rw[e]
   rfl
  have eF:=O7.out.symm;rw[h0] at eF;have h1:=cW1 eF;have h2:=JnP.base_low HH.out.jn;rw[<-T5] at h1;omega
 have oP:Hid (aM6 j d l=bR1 j d l ix):=qZ (by
  have h0:l=rs[0].e::(rs.drop 1).map aF2.e:=by
   rw[S5.out];have e:rs=rs[0]::rs.drop 1:=List.drop_eq_getElem_cons hz
   conv=>lhs;rw[e]
   rfl
  rw[T5];exact cI2 U8.out.symm O7.out.symm h0)
 have e0:w1.cell? ⟨eb,eo,none⟩=some (.int .i64 ix):=(O9.out.cell (p:=⟨eb,eo,none⟩) rB).trans (jR 0 _ (by rw[show(0:Nat)=0*4+0 from rfl,aF4 _ hz (by omega),T5];rfl));have b1:w1.cell? ⟨w.heap.size,0,none⟩=some (.pointer (some ⟨gj,0,none⟩)):=(B2.out.below L3.out D9).cell 0;have j2:w1.cell? ⟨gj,2,none⟩=some (.slice A nl c):=(D8.out.below L3.out (by omega)).cell 2;have uB:=qZ jR;have uW:=qZ T5;clear jR T5;go_upto_block 0 with fail
 obtain⟨N,hN⟩:∃N,N=bG9 j.segs ix nl:=⟨_,rfl⟩
 have HN:=qZ hN;clear hN;go_cut [7,8,9] from 50 to 94 (fun c7 c8 c9 wx=>∃(dv:Value) (vs:List Value) (G:Nat->Prop),c7=.int .i64 N∧c8=.int .i64 (aJ6 j N)∧c9=dv∧N<=nl∧vs.length<=nl∧Hid (Below w0.heap.size w0 wx)∧Hid (aM5 wx G w0.heap.size gj g dv vs ((aP0 j N).map fun x=>aD3.rm (aA8 x.k)))∧Hid (∀x,G x->w0.heap.size<=x))
 case first=>
  go_wp2_with fail
  go_loopw [7,8,9] (fun i7 i8 i9 wr=>∃(k:Nat) (dv:Value) (vs:List Value) (G:Nat->Prop),k<=nl∧i7=.int .i64 k∧i8=.int .i64 (aJ6 j k)∧i9=dv∧vs.length+k<=nl∧Hid (N=bG9 j.segs ix k)∧Hid (Below w0.heap.size w0 wr)∧Hid (aM5 wr G w0.heap.size gj g dv vs ((aP0 j k).map fun x=>aD3.rm (aA8 x.k)))∧Hid (∀x,G x->w0.heap.size<=x)) (fun i7 _ _ _=>(intOf i7).toNat)
  case atStart=>
   have mX:aP0 j nl=[]:=by unfold aP0;rw[List.drop_eq_nil_of_le (by rw[<-E7.out];exact lR _)];rfl
   refine⟨nl,.slice none 0 0,[],fun _=>False,lR _,rfl,?_,rfl,by simp,HN,L3,qZ ?_,qZ (fun _ h=>h.elim)⟩
   ·unfold aJ6;rw[mX];rfl
   rw[mX];exact aM5.nil
  obtain⟨k,dv,vs,G,hk,rfl,rfl,dH,fJ,bN,HC,HA,G9⟩:=hrel;have fW:=dH.symm;clear dH;subst fW;clear HN b1 j2 e0 L3;have S0:=HC.out.size;have R3:=qZ (j6.out.trans (HC.out.mono l6));have b2:wr.cell? ⟨w.heap.size,0,none⟩=some (.pointer (some ⟨gj,0,none⟩)):=(B2.out.below HC.out D9).cell 0;have k2:wr.cell? ⟨gj,2,none⟩=some (.slice A nl c):=(D8.out.below HC.out (by omega)).cell 2;by_cases hk1:1<k
  rotate_left
  ·have bQ:N=k:=by
    rw[bN.out];rcases(by omega:k=0∨k=1) with h0|h0
    ·rw[h0];rfl
    rw[h0];rfl
   have m5:=qZ bQ;have uM:¬(1:Int)<(k:Int):=by omega
   clear bN bQ hk1;go_wp2_with fail
   go_meet;exact⟨_,vs,G,by rw[m5.out],by rw[m5.out],rfl,by rw[m5.out];exact hk,by omega,HC,qZ (by rw[m5.out];exact HA.out),G9⟩
  obtain⟨m1,eK⟩:∃m,m=k-1:=⟨_,rfl⟩
  have B9:m1<j.segs.length:=by rw[<-E7.out];omega
  have C5:m1<l5.length:=by rw[f9.out];omega
  have Y6:∀q,F q->wr.heap[q]? =w.heap[q]? :=fun q hq=>R3.out.block q (i4.out q hq)
  obtain⟨ab,ao,e5,tK,J9,D7⟩:=mK.out (by rw[lU];omega);subst e5;have cP:=eS.out m1 C5 B9;have hM:=cP.keep R3.out.size Y6;obtain⟨b,o,Al,cl,K6,G6,I6,S7,iK,jP,_,d1,_⟩:=hM.rd.cells;have r0:w.cell? ⟨ab,ao+m1,none⟩=some (.pointer (some ⟨b,o,none⟩)):=D7 m1 _ (by rw[List.getElem?_map,lW C5,S7];rfl);have r1:wr.cell? ⟨ab,ao+m1,none⟩=some (.pointer (some ⟨b,o,none⟩)):=(R3.out.cell (p:=⟨ab,ao+m1,none⟩) J9).trans r0;have p8:N=if ix<=j.segs[m1].first then bG9 j.segs ix m1 else k:=by
   obtain⟨m,hm⟩:∃m,k=m+2:=⟨k-2,by omega⟩
   have e1:m1=m+1:=by omega
   subst e1;rw[bN.out,hm];show(match j.segs[m+1]? with|some s=>_|none=>_)=_
   rw[lW B9]
  have x4:=bI5 B9;have K3:=bP4 B9;rw[show m1+1=k by omega] at x4 K3;have S1:=bJ2 (fun s hs=>(o4.out s hs).2) nl E7.out.symm (nl-k) (by omega);rw[show nl-(nl-k)=k by omega] at S1;have cG:=o4.out j.segs[m1] (lX B9);have cV:(k:Int)-1=(m1:Int):=by omega
  have kH:IntKind.i64.wrap (m1:Int)=(m1:Int):=mH _ (by omega);have eP:m1<nl:=by omega
  have P0:(m1:Int)<(nl:Int):=by omega
  have pE:(1:Int)<(k:Int):=by omega
  rw[S7] at hM cP;obtain⟨s,hs⟩:∃s,s=j.segs[m1]:=⟨_,rfl⟩
  rw[<-hs] at hM cP d1 p8 x4 K3 cG;obtain⟨fi,mQ⟩:∃x,x=s.first:=⟨_,rfl⟩
  rw[<-mQ] at d1 p8;have HM:=qZ cP;have M0:=qZ hM.long;have B4:=qZ p8;have fO:=qZ K3;have aV:=qZ r0;obtain⟨fk,kC⟩:∃x,x=aJ6 j k:=⟨_,rfl⟩
  obtain⟨sl,jF⟩:∃x,x=s.long:=⟨_,rfl⟩
  rw[<-kC] at x4 S1⊢;rw[<-jF] at x4 cG;have Y1:Hid (Calls Tryz.prog 56 #[.pointer (some ⟨b,o,none⟩)] wr fun e w' =>e=.returned (.int .i64 sl)∧Below wr.heap.size wr w'):=qZ (by rw[jF];exact M0.out);have tA:IntKind.i64.wrap (fk+sl)=fk+sl:=mH _ (by
   have h1:((nl-k:Nat):Int)*1000000000000<=1000000*1000000000000:=by omega
   omega)
  have iZ:=qZ x4;have gI:=qZ kC;clear D7 S7 hs mQ hM cP p8 K3 r0 M0 kC jF x4 eK iK S1;by_cases hle:ix<=fi
  rotate_left
  ·have bQ:N=k:=by rw[B4.out,if_neg hle]
   have m5:=qZ bQ;clear B4 bN bQ;go_wp2_with fail
   go_meet;exact⟨_,vs,G,by rw[m5.out],by rw[m5.out,gI.out],rfl,by rw[m5.out];exact hk,by omega,HC,qZ (by rw[m5.out];exact HA.out),G9⟩
  have tO:=qZ (show N=bG9 j.segs ix m1 by rw[B4.out,if_pos hle]);clear B4 bN;go_wp2_with fail
  refine Y1.out.mono ?_;rintro e w5 ⟨rfl,y8⟩;have U2:=qZ (HC.out.trans (y8.mono S0));have kX:=qZ (HA.out.below y8);clear y8 Y1 HA HC b2 k2 r1 d1;go_upto_region 13 with fail
  have aP:=qZ (j6.out.trans (U2.out.mono l6));have gN:=qZ U2.out.drew;have G7:=qZ aP.out.drew;have dY:w0.heap.size<=w5.drew.heap.size:=U2.out.size;have lB:=qZ (kX.out.below (lS _ w5).drew);have b5:w5.drew.cell? ⟨w.heap.size,0,none⟩=some (.pointer (some ⟨gj,0,none⟩)):=(B2.out.below gN.out D9).cell 0;have k5:w5.drew.cell? ⟨gj,2,none⟩=some (.slice (some ⟨ab,ao,none⟩) nl c):=(D8.out.below gN.out (by omega)).cell 2;have r5:w5.drew.cell? ⟨ab,ao+m1,none⟩=some (.pointer (some ⟨b,o,none⟩)):=(G7.out.cell (p:=⟨ab,ao+m1,none⟩) J9).trans aV.out;have O3:=qZ ((HM.out.keep G7.out.size (fun q hq=>G7.out.block q (i4.out q hq))).nameJ (HE.out w5.drew (G7.out.mono T4)));have R5:=aN2 s.k HM.out.rd.num.k;obtain⟨nm,B7⟩:∃n,n=aA8 s.k:=⟨_,rfl⟩
  have dR:=qZ B7;rw[<-B7] at O3 R5;clear B7 U2 aP kX;refine wp_region_held_drew (S:=fun W=>W.cell? ⟨w.heap.size,0,none⟩=some (.pointer (some ⟨gj,0,none⟩))∧W.cell? ⟨gj,2,none⟩=some (.slice (some ⟨ab,ao,none⟩) nl c)∧W.cell? ⟨ab,ao+m1,none⟩=some (.pointer (some ⟨b,o,none⟩))∧True) (by kernel_rfl) ⟨b5,k5,r5,trivial⟩ (fun hHeld=>?_);refine zT 0 (k:=?_);refine zT 1 (k:=?_);refine zT 2 (k:=?_);refine zT 3 (k:=?_);refine zT 4 (k:=?_);refine zT 5 (k:=?_);refine zT 6 (k:=?_);refine zT 7 (k:=?_);refine zT 8 (k:=?_);refine zT 9 (k:=?_);simp only[zA,zB,zF,zG,zC,zD,zE];refine zV 10 (k:=fun K hK=>?_);simp only[zA,zB];go_simp;refine O3.out.mono ?_;rintro e w6 ⟨rfl,m9⟩;have dI:=m9.size;have I8:=qZ (gN.out.trans (m9.mono dY));have K8:=qZ (j6.out.trans (I8.out.mono l6));have bO:=qZ m9;have b6:w6.cell? ⟨w.heap.size,0,none⟩=some (.pointer (some ⟨gj,0,none⟩)):=(B2.out.below I8.out D9).cell 0;have k6:w6.cell? ⟨gj,2,none⟩=some (.slice (some ⟨ab,ao,none⟩) nl c):=(D8.out.below I8.out (by omega)).cell 2;have r6:w6.cell? ⟨ab,ao+m1,none⟩=some (.pointer (some ⟨b,o,none⟩)):=(K8.out.cell (p:=⟨ab,ao+m1,none⟩) J9).trans aV.out;clear m9 O3 b5 k5 r5 K8;refine hK.out _ _ ⟨b6,k6,r6,trivial⟩ (fun hHeld=>?_);clear hK K;try simp only[zF,zG,zC,zD,zE]
  refine zV 11 (k:=fun K hK=>?_);simp only[zA,zB];go_simp;refine(show Calls _ _ _ w6 _ from bY5 (gj:=gj) (g:=g) nm (by omega) w6).mono ?_;rintro e w7 ⟨v7,rfl,L9,⟨F6,f8,rfl⟩,_,n5⟩;have T9:=L9.size;have N6:=qZ (I8.out.trans (L9.mono (by omega)));have bC:=qZ (j6.out.trans (N6.out.mono l6));have p9:=qZ (bO.out.trans (L9.mono dI));have s9:=qZ (n5 (fun x=>G x∨(w5.drew.heap.size<=x∧x<w7.heap.size)) (fun x h1 h2=>.inr ⟨by omega,h2⟩));have b7:w7.cell? ⟨w.heap.size,0,none⟩=some (.pointer (some ⟨gj,0,none⟩)):=(B2.out.below N6.out D9).cell 0;have k7:w7.cell? ⟨gj,2,none⟩=some (.slice (some ⟨ab,ao,none⟩) nl c):=(D8.out.below N6.out (by omega)).cell 2;have r7:w7.cell? ⟨ab,ao+m1,none⟩=some (.pointer (some ⟨b,o,none⟩)):=(bC.out.cell (p:=⟨ab,ao+m1,none⟩) J9).trans aV.out;clear L9 n5 b6 k6 r6 I8 bO bC;refine hK.out _ _ ⟨b7,k7,r7,trivial⟩ (fun hHeld=>?_);clear hK K;try simp only[zF,zG,zC,zD,zE]
  refine zV 12 (k:=fun K hK=>?_);simp only[zA,zB];go_simp;have x6:Below w7.heap.size w7 (w7.alloc (.cells #[.func (.func F6) #[] f8] 98)):=(lS _ w7).alloc (lR _) _;have z8:=qZ (N6.out.trans (x6.mono (by omega)));have I4:=qZ (j6.out.trans (z8.out.mono l6));have N8:=qZ (lB.out.below (p9.out.trans (x6.mono (by have:=p9.out.size;omega))));have O8:w0.heap.size<=(w7.alloc (.cells #[.func (.func F6) #[] f8] 98)).heap.size:=z8.out.size;have U6:=qZ (aF9 w7 98 [.func (.func F6) #[] f8]);have bA:(w7.alloc (.cells #[.func (.func F6) #[] f8] 98)).cell? ⟨w.heap.size,0,none⟩=some (.pointer (some ⟨gj,0,none⟩)):=(B2.out.below z8.out D9).cell 0;have kA:(w7.alloc (.cells #[.func (.func F6) #[] f8] 98)).cell? ⟨gj,2,none⟩=some (.slice (some ⟨ab,ao,none⟩) nl c):=(D8.out.below z8.out (by omega)).cell 2;have rA:(w7.alloc (.cells #[.func (.func F6) #[] f8] 98)).cell? ⟨ab,ao+m1,none⟩=some (.pointer (some ⟨b,o,none⟩)):=(I4.out.cell (p:=⟨ab,ao+m1,none⟩) J9).trans aV.out;clear x6 b7 k7 r7 N6 I4;refine hK.out _ _ ⟨bA,kA,rA,trivial⟩ (fun hHeld=>?_);clear hK K;try simp only[zF,zG,zC,zD,zE]
  refine zV 13 (k:=fun K hK=>?_);simp only[zA,zB];rw[if_pos (by rfl)];refine aK9 (.tmp 81) (.tmp 93) 110 rfl w0.heap.size 98 .nilFunc 8 Tryz.underlying110 aP2 rfl _ vs rfl N8.out.own (w7.heap.size+1) (some ⟨w7.heap.size,0,none⟩) 1 1 [.func (.func F6) #[] f8] rfl rfl U6.out (by simp[Value.oneCell']) (by unfold maxLen;omega) (by omega) O8 ?_;intro vq wq n9 T8 aT;have eM:=lB.out.step p9.out s9.out T8 aT n9;have pI:=z8.out.grown T8 O8 (fun r hr=>(N8.out.own.lt r hr).1);have pP:=qZ eM;have P1:=qZ pI;have Z3:=qZ (j6.out.trans (P1.out.mono l6));have bq:wq.cell? ⟨w.heap.size,0,none⟩=some (.pointer (some ⟨gj,0,none⟩)):=(B2.out.below P1.out D9).cell 0;have kq:wq.cell? ⟨gj,2,none⟩=some (.slice (some ⟨ab,ao,none⟩) nl c):=(D8.out.below P1.out (by omega)).cell 2;have rq:wq.cell? ⟨ab,ao+m1,none⟩=some (.pointer (some ⟨b,o,none⟩)):=(Z3.out.cell (p:=⟨ab,ao+m1,none⟩) J9).trans aV.out;clear n9 T8 aT eM pI bA kA rA N8 z8 Z3;refine hK.out _ _ ⟨bq,kq,rq,trivial⟩ (fun hHeld=>?_);clear hK K;try simp only[zF,zG,zC,zD,zE]
  refine zT 14 (k:=?_);simp only[zA,zB,zF,zG,zC,zD,zE];refine wpAnyH_done (by kernel_rfl) ?_ _;clear hHeld bq kq rq;go_wp2_with fail
  go_roundw
  case rel=>
   refine⟨m1,vq,vs++[.func (.func F6) #[] f8],fun x=>G x∨(w5.drew.heap.size<=x∧x<w7.heap.size),by omega,rfl,by rw[iZ.out],rfl,by simp;omega,tO,P1,qZ ?_,qZ (fun x hx=>?_)⟩
   ·rw[fO.out,mE,mG,List.map_nil,<-dR.out]
    exact pP.out
   rcases hx with hx|hx
   ·exact G9.out x hx
   omega
  case measure=>simp[intOf];omega
 obtain⟨dv,vs,G,h7,h8,h9,jY,fJ,HC,HA,G9⟩:=hcut;subst h7 h8;have bP:=h9.symm;clear h9;subst bP;clear L3 b1 j2 e0;have S0:=HC.out.size;have R3:=qZ (j6.out.trans (HC.out.mono l6));have b1:wc.cell? ⟨w.heap.size,0,none⟩=some (.pointer (some ⟨gj,0,none⟩)):=(B2.out.below HC.out D9).cell 0;have j2:wc.cell? ⟨gj,2,none⟩=some (.slice A nl c):=(D8.out.below HC.out (by omega)).cell 2;have uT:(0:Int)<=(N:Int)∧(N:Int)<=(c:Int):=by omega
 have rF:N<=c:=by omega
 have T6:=qZ (cC8 A N c ((l5.map fun a=>Value.pointer (some a)).take N) wc (((mK.out.take N).rd.below R3.out).more R3.out.size) (by rw[lV,lU,f9.out];omega) (fun u hu=>by obtain⟨a,_,rfl⟩:=List.mem_map.1 (List.mem_of_mem_take hu);rfl) (by omega));have gX:=bJ2 (fun s hs=>(o4.out s hs).2) nl E7.out.symm (nl-N) (by omega);rw[show nl-(nl-N)=N by omega] at gX;obtain⟨f1,kI⟩:∃x,x=aJ6 j N:=⟨_,rfl⟩
 rw[<-kI] at gX⊢;have qM:0<=f1∧f1<=1000000000000000000:=by
  have h1:((nl-N:Nat):Int)*1000000000000<=1000000*1000000000000:=by omega
  omega
 have lM:=qZ kI;clear kI gX;go_wp2_with fail
 refine T6.out.mono ?_;rintro e w4 ⟨v4,rfl,p7,iB⟩;obtain⟨A4,c4,rP,tG,sH,_⟩:=aB2 p7;subst rP;have eT:=qZ (HC.out.trans (iB.mono S0));have fS:=qZ (j6.out.trans (eT.out.mono l6));have mO:=eT.out.size;have gZ:=qZ (HA.out.below iB);have gU:Hid (Own w4 w0.heap.size 108 (.slice A4 N c4) ((l5.take N).map fun a=>Value.pointer (some a))):=qZ (by
  unfold Own;rw[lU,lV,f9.out,Nat.min_eq_left jY,List.map_take];exact bE0 p7 S0)
 have dO:=qZ (show∀r,(Value.slice A4 N c4).ownBlock=some r->¬G r from fun r hr hg=>by
  have h1:=(World.ownsRow.lt p7 r hr).1;have h2:=HA.out.lt r hg;omega)
 clear p7 iB T6 b1 j2 HA HC R3;go_upto_region 15 with fail
 obtain⟨wA,O8⟩:∃W,W=w4.alloc (.cells #[.int .i64 1,.int .i64 ix,.int .i64 0,.slice none 0 0,.slice none 0 0] 104):=⟨_,rfl⟩
 have x6:Below w4.heap.size w4 wA:=by rw[O8];exact(lS _ w4).alloc (lR _) _
 have dS:Blk wA w4.heap.size 104 #[.int .i64 1,.int .i64 ix,.int .i64 0,.slice none 0 0,.slice none 0 0]:=by rw[O8];exact Blk.new w4 _ _
 obtain⟨sb,X2⟩:∃n,n=w4.heap.size:=⟨_,rfl⟩
 rw[<-X2] at dS;have eQ:=qZ dS;have kY:=qZ O8;have qG:=qZ X2;have pG:=dS.lt;have R8:w0.heap.size<=sb:=by omega
 have z8:=qZ (eT.out.trans (x6.mono mO));have N8:=qZ (gZ.out.below x6);have C2:=qZ (Own.below gU.out x6 (lR _));have cJ:=qZ (show∀r,(Value.slice A4 N c4).ownBlock=some r->r<sb from fun r hr=>by rw[X2];exact(gU.out.lt r hr).2);have n7:=qZ (show∀x,G x->x<sb from fun x hx=>by rw[X2];exact gZ.out.lt x hx);clear O8 x6 dS X2 eT fS gZ gU mO;go_upto_region 16 with fail
 rw[<-kY.out,<-qG.out];clear kY;go_upto_if 107 with fail
 go_cut [8,9] from 106 to 152 (fun c8 c9 wx=>∃(t7:Value) (o6:List Value) (G1:Nat->Prop) (C9:List Addr) (fk ft fr:Int) (al:List aD3),c8=.int .i64 fr∧c9=t7∧o6.length<=nl+1∧Hid (bV6 wx w0 F j ix l5 N w.heap.size w0.heap.size sb gj g (.slice A4 N c4) t7 o6 G1 C9 fk ft fr al))
 case first=>
  rcases Nat.eq_zero_or_pos N with fK|fK
  ·have mZ:=qZ fK
   have fF:¬(0:Int)<(N:Int):=by omega
   clear fK;go_wp2_with fail
   go_meet;refine⟨_,vs,G,[],1,0,f1,(aP0 j N).map fun x=>aD3.rm (aA8 x.k),rfl,rfl,by omega,qZ ⟨z8.out,eQ.out,?_,N8.out,fun x hx=>.inr (by have:=G9.out x hx;omega),⟨fun h=>by have:=n7.out sb h;omega,fun r hr=>dO.out r hr⟩,⟨by omega,by omega,by omega,by omega⟩,.inl ⟨mZ.out,rfl,rfl,rfl,by rw[lM.out,Int.add_zero],rfl⟩⟩⟩;have h1:=C2.out;rw[mZ.out] at h1⊢
   simpa using h1
  obtain⟨m1,eK⟩:∃m,m=N-1:=⟨_,rfl⟩
  have B9:m1<j.segs.length:=by rw[<-E7.out];omega
  have C5:m1<l5.length:=by rw[f9.out];omega
  have fF:(0:Int)<(N:Int):=by omega
  have cV:(N:Int)-1=(m1:Int):=by omega
  have kH:IntKind.i64.wrap (m1:Int)=(m1:Int):=mH _ (by omega);have eP:m1<N:=by omega
  have P0:(m1:Int)<(N:Int):=by omega
  have I4:=qZ (j6.out.trans (z8.out.mono l6));have hM:=eS.out m1 C5 B9;obtain⟨ob,oo,Al,cl,K6,G6,I6,S7,iK,jP,_⟩:=hM.rd.cells;obtain⟨ab,ao,e5,_,J9,D7⟩:=(RdF.of_own (F:=fun _=>True) C2.out (fun _ _ _=>trivial)) (by rw[lU,lV,f9.out];omega);subst e5;have r0:wA.cell? ⟨ab,ao+m1,none⟩=some (.pointer (some ⟨ob,oo,none⟩)):=D7 m1 _ (by rw[List.getElem?_map,List.getElem?_take_of_lt (by omega),lW C5,S7];rfl);have cG:=o4.out j.segs[m1] (lX B9);have lI:=nY.out j.segs[m1] (lX B9);rw[S7] at hM;obtain⟨s,hs⟩:∃s,s=j.segs[m1]:=⟨_,rfl⟩
  rw[<-hs] at hM cG lI;have HM:=qZ hM;have tI:=qZ hs;have lC:=qZ eK;clear D7 S7 hs hM eK iK
  --the box of the old segment
  obtain⟨wX,eG⟩:∃W,W=wA.alloc (.cells #[.pointer (some ⟨ob,oo,none⟩)] 108):=⟨_,rfl⟩
  have Z1:Below wA.heap.size wA wX:=by rw[eG];exact(lS _ wA).alloc (lR _) _
  have V8:Blk wX wA.heap.size 108 #[.pointer (some ⟨ob,oo,none⟩)]:=by rw[eG];exact Blk.new wA _ _
  obtain⟨xb,jB⟩:∃n,n=wA.heap.size:=⟨_,rfl⟩
  rw[<-jB] at V8;have oS:=qZ V8;have nI:=qZ eG;have sC:=qZ jB;have gK:=qZ (z8.out.trans (Z1.mono (by omega)));have E5:=qZ (j6.out.trans (gK.out.mono l6));have lQ:=qZ (N8.out.below Z1);have aO:=qZ (Own.below C2.out Z1 (lR _));have V5:=qZ (eQ.out.below Z1 pG);have rR:sb<xb:=by omega
  have jK:=V8.lt;have x0:wX.cell? ⟨xb,0,none⟩=some (.pointer (some ⟨ob,oo,none⟩)):=V8.cell 0;have iH:=qZ (HM.out.keep E5.out.size (fun q hq=>E5.out.block q (i4.out q hq)));have pC:=qZ (cN1 iH.out (fun q hq=>by have:=i4.out q hq;have:=E5.out.size;omega) (by omega) ix ⟨X0.1,bS.2⟩);clear eG Z1 V8 jB z8 I4 N8 C2 eQ;go_upto_region 18 with fail
  rw[<-nI.out,<-sC.out];clear nI r0;go_wp2_with fail
  refine pC.out.mono ?_;rintro e w6 ⟨cb,G4,t6,x8,rfl,M2,m9⟩;obtain⟨dD,eI,pQ,dV⟩:=iH.out.ahead_ok ix;obtain⟨c,fN⟩:∃c,c=s.ahead ix:=⟨_,rfl⟩
  rw[<-fN] at M2 dD eI pQ dV;have tB:=qZ fN;have iQ:=qZ dD;have qH:=qZ eI;have pN:=qZ dV;have bG:∀q,F q->q<w6.heap.size:=fun q hq=>by have:=i4.out q hq;have:=E5.out.size;have:=m9.size;omega
  have f6:=qZ bG;have P2:=qZ (M2.segM dD eI (by omega) dV);have I8:=qZ (gK.out.trans (m9.mono (by omega)));have K8:=qZ (j6.out.trans (I8.out.mono l6));have kT:=qZ (lQ.out.below m9);have bR:=qZ (Own.below aO.out m9 (lR _));have cU:=qZ (V5.out.below m9 (by omega));have aW:=qZ (oS.out.below m9 jK);have Z4:=qZ M2;have mY:=qZ (show(∀r,t6.ownBlock=some r->wX.heap.size<=r∧r<w6.heap.size)∧(∀r,x8.ownBlock=some r->wX.heap.size<=r∧r<w6.heap.size) from⟨fun r hr=>World.ownsRow.lt M2.ents r hr,fun r hr=>World.ownsRow.lt M2.ends r hr⟩);have rD:wX.heap.size<=cb∧cb<w6.heap.size:=⟨M2.low,M2.blk.lt⟩;have dI:=m9.size;have pK:=qZ (P2.out.long);have gW:=P2.out.longB;obtain⟨cg,M7⟩:∃x,x=c.long:=⟨_,rfl⟩
  rw[<-M7] at gW;have oQ:=qZ M7;have bY:Hid (Calls Tryz.prog 56 #[.pointer (some ⟨cb,0,none⟩)] w6 fun e w' =>e=.returned (.int .i64 cg)∧Below w6.heap.size w6 w'):=qZ (by rw[M7];exact pK.out);clear M2 m9 fN dD eI dV bG M7 pK gK E5 lQ aO V5 oS iH pC x0;go_wp2_with fail
  refine bY.out.mono ?_;rintro e w7 ⟨rfl,L9⟩;obtain⟨wL,eH⟩:∃W,W=w7.alloc (.cells #[.int .i64 cg] 3):=⟨_,rfl⟩
  have aI:Below w7.heap.size w7 wL:=by rw[eH];exact(lS _ w7).alloc (lR _) _
  have dE:Blk wL w7.heap.size 3 #[.int .i64 cg]:=by rw[eH];exact Blk.new w7 _ _
  obtain⟨lb,iV⟩:∃n,n=w7.heap.size:=⟨_,rfl⟩
  rw[<-iV] at dE;have T9:=L9.size;have R6:=L9.trans (aI.mono T9);have iO:=qZ dE;have C4:=qZ eH;have jL:=qZ iV;have cB:=dE.lt;have rC:w6.heap.size<=lb:=by omega
  have T6:=qZ (I8.out.trans (R6.mono (by omega)));have Y8:=qZ (j6.out.trans (T6.out.mono l6));have oV:=qZ (kT.out.below R6);have cQ:=qZ (Own.below bR.out R6 (lR _));have Q8:=qZ (cU.out.below R6 (by omega));have B6:=qZ (aW.out.below R6 (by omega));have bF:=qZ (Z4.out.below f6.out R6);have jZ:=qZ (HM.out.keep Y8.out.size (fun q hq=>Y8.out.block q (i4.out q hq)));clear eH aI dE iV L9 R6 I8 K8 kT bR cU aW Z4 P2 bY;go_upto_region 20 with fail
  rw[<-C4.out,<-jL.out];clear C4;have sU:=jZ.out.longB;obtain⟨og,I3⟩:∃x,x=s.long:=⟨_,rfl⟩
  rw[<-I3] at sU cG;have nM:=qZ I3;have oA:=qZ (fun wy (hb:Below wL.heap.size wL wy)=>show Calls Tryz.prog 56 #[.pointer (some ⟨ob,oo,none⟩)] wy fun e w' =>e=.returned (.int .i64 og)∧Below wy.heap.size wy w' from by rw[I3];exact(jZ.out.keep hb.size (fun q hq=>hb.block q (by have:=f6.out q hq;omega))).long);clear I3;have x0:wL.drew.cell? ⟨xb,0,none⟩=some (.pointer (some ⟨ob,oo,none⟩)):=B6.out.cell 0;have l0:wL.drew.cell? ⟨lb,0,none⟩=some (.int .i64 cg):=iO.out.cell 0;go_cut [121] from 118 to 121 (fun c121 wx=>c121=.bool (decide (cg<og))∧Hid (Below wL.heap.size wL wx))
  case first=>
   refine wp_region_held_drew (S:=fun W=>W.cell? ⟨xb,0,none⟩=some (.pointer (some ⟨ob,oo,none⟩))∧W.cell? ⟨lb,0,none⟩=some (.int .i64 cg)∧True∧True) (by kernel_rfl) ⟨x0,l0,trivial,trivial⟩ (fun hHeld=>?_);refine zT 0 (k:=?_);refine zT 1 (k:=?_);simp only[zA,zB,zF,zG,zC,zD,zE];refine zV 2 (k:=fun K hK=>?_);simp only[zA,zB];go_simp;refine(oA.out wL.drew (lS _ wL).drew).mono ?_;rintro e w8 ⟨rfl,G5⟩;have G3:Below wL.heap.size wL w8:=(lS _ wL).drew.trans G5;have V1:=qZ G3;have x1:w8.cell? ⟨xb,0,none⟩=some (.pointer (some ⟨ob,oo,none⟩)):=(B6.out.below G3 B6.out.lt).cell 0;have l1:w8.cell? ⟨lb,0,none⟩=some (.int .i64 cg):=(iO.out.below G3 cB).cell 0;clear G5 G3 x0 l0;refine hK.out _ _ ⟨x1,l1,trivial,trivial⟩ (fun hHeld=>?_);clear hK K;try simp only[zF,zG,zC,zD,zE]
   refine zT 3 (k:=?_);simp only[zA,zB,zF,zG,zC,zD,zE];refine wpAnyH_done (by kernel_rfl) ?_ _;clear hHeld x1 l1;go_wp2_with fail
   go_meet;exact⟨rfl,V1⟩
  obtain⟨rfl,dF⟩:=hcut;clear x0 l0;have K7:=dF.out;have fL:=qZ (T6.out.trans (K7.mono (by omega)));have gG:=qZ (oV.out.below K7);have K4:=qZ (Own.below cQ.out K7 (lR _));have L4:=qZ (Q8.out.below K7 Q8.out.lt);have o9:=qZ (B6.out.below K7 B6.out.lt);have t9:=qZ (iO.out.below K7 cB);have P5:=qZ (bF.out.below (fun q hq=>by have:=f6.out q hq;omega) K7);have tN:=K7.size;clear K7 T6 oV cQ Q8 bF;go_upto_if 121 with fail
  go_cut [8,9] from 118 to 131 (fun c8 c9 wx=>∃(t7:Value) (o6:List Value) (G1:Nat->Prop),c8=.int .i64 (f1+if cg<og then og-cg else 0)∧c9=t7∧o6.length<=nl+1∧wL.heap.size<=wx.heap.size∧Hid (Below w0.heap.size w0 wx)∧Hid (Blk wx sb 104 #[.int .i64 1,.int .i64 ix,.int .i64 0,.slice none 0 0,.slice none 0 0])∧Hid (Blk wx xb 108 #[.pointer (some ⟨ob,oo,none⟩)])∧Hid (bF7 wx F wX.heap.size cb c G4 t6 x8)∧Hid (aM5 wx G1 w0.heap.size gj g t7 o6 ((aP0 j N).map (fun x=>aD3.rm (aA8 x.k))++if cg<og then[.cut (aA8 s.k) cg] else[]))∧Hid (∀x,G1 x->(F x∨w.heap.size<=x)∧(x<sb∧((Value.slice (some ⟨ab,ao,none⟩) N c4).ownBlock≠some x)∨x=xb∨x=lb))∧Hid (Own wx w0.heap.size 108 (.slice (some ⟨ab,ao,none⟩) N c4) ((l5.take N).map fun a=>Value.pointer (some a))))
  case first=>
   by_cases hcut:cg<og
   rotate_left
   ·go_wp2_with fail
    go_meet;exact⟨_,vs,G,by rw[if_neg (by omega),Int.add_zero],rfl,by omega,tN,fL,L4,o9,P5,qZ (by rw[if_neg (by omega),List.append_nil];exact gG.out),qZ (fun x hx=>⟨.inr (by have:=G9.out x hx;omega),.inl ⟨n7.out x hx,fun e=>dO.out x e hx⟩⟩),K4⟩
   have iL:∀{α:Type} (a b:α),(if cg<og then a else b)=a:=fun a b=>if_pos hcut
   have iI:=qZ (iL (og-cg) 0);have jC:=qZ (iL [aD3.cut (aA8 s.k) cg] []);have uH:IntKind.i64.wrap (og-cg)=og-cg:=mH _ (by omega);have uO:IntKind.i64.wrap (f1+(og-cg))=f1+(og-cg):=mH _ (by omega);have x2:wc.drew.cell? ⟨xb,0,none⟩=some (.pointer (some ⟨ob,oo,none⟩)):=o9.out.cell 0;have l2:wc.drew.cell? ⟨lb,0,none⟩=some (.int .i64 cg):=t9.out.cell 0;clear iL;go_upto_region 21 with fail
   refine wp_region_held_drew (S:=fun W=>W.cell? ⟨xb,0,none⟩=some (.pointer (some ⟨ob,oo,none⟩))∧W.cell? ⟨lb,0,none⟩=some (.int .i64 cg)∧True∧True) (by kernel_rfl) ⟨x2,l2,trivial,trivial⟩ (fun hHeld=>?_);refine zT 0 (k:=?_);refine zT 1 (k:=?_);refine zT 3 (k:=?_);simp only[zA,zB,zF,zG,zC,zD,zE];refine zV 2 (k:=fun K hK=>?_);simp only[zA,zB];go_simp;refine(oA.out wc.drew dF.out.drew).mono ?_;rintro e w8 ⟨rfl,G5⟩;have G3:Below wc.heap.size wc w8:=(lS _ wc).drew.trans G5;have V1:=qZ G3;have oZ:=G3.size;have x3:w8.cell? ⟨xb,0,none⟩=some (.pointer (some ⟨ob,oo,none⟩)):=(o9.out.below G3 o9.out.lt).cell 0;have l3:w8.cell? ⟨lb,0,none⟩=some (.int .i64 cg):=(t9.out.below G3 t9.out.lt).cell 0;clear G5 G3 x2 l2;refine hK.out _ _ ⟨x3,l3,trivial,trivial⟩ (fun hHeld=>?_);clear hK K;try simp only[zF,zG,zC,zD,zE]
   refine zT 4 (k:=?_);refine zT 5 (k:=?_);refine zT 6 (k:=?_);simp only[zA,zB,zF,zG,zC,zD,zE];refine wpAnyH_done (by kernel_rfl) ?_ _;clear hHeld;have oW:bC8 w8 (fun x=>G x∨F x∨x=w.heap.size∨x=xb∨x=lb) ⟨ob,oo,none⟩ s:=(jZ.out.keep (by omega) (fun q hq=>((V1.out.block q (by have:=f6.out q hq;omega)).trans (dF.out.block q (by have:=f6.out q hq;omega))))).mono (fun x hx=>.inr (.inl hx));have kK:Below w0.heap.size w0 w8:=fL.out.trans (V1.out.mono (by omega));have mB:aK3 w8 (fun x=>G x∨F x∨x=w.heap.size∨x=xb∨x=lb) gj g (.func (.func 61) #[] #[.pointer (some ⟨w.heap.size,0,none⟩),.pointer (some ⟨xb,0,none⟩),.pointer (some ⟨lb,0,none⟩)]) (.cut (aA8 s.k) cg):=.inr ⟨w.heap.size,xb,lb,⟨ob,oo,none⟩,s,rfl,⟨.inr (.inr (.inl rfl)),.inr (.inr (.inr (.inl rfl))),.inr (.inr (.inr (.inr rfl)))⟩,(B2.out.below kK D9).cell 0,x3,l3,by omega,oW,rfl⟩;have pO:=qZ mB;have tC:=qZ kK;have I7:Below w8.heap.size w8 (w8.alloc (.cells #[.func (.func 61) #[] #[.pointer (some ⟨w.heap.size,0,none⟩),.pointer (some ⟨xb,0,none⟩),.pointer (some ⟨lb,0,none⟩)]] 98)):=(lS _ w8).alloc (lR _) _;have pX:=I7.size;have G2:=qZ I7;have eC:=qZ ((gG.out.below V1.out).below I7);have U6:=qZ (aF9 w8 98 [.func (.func 61) #[] #[.pointer (some ⟨w.heap.size,0,none⟩),.pointer (some ⟨xb,0,none⟩),.pointer (some ⟨lb,0,none⟩)]]);obtain⟨Ad,cd,dH,_,_,_⟩:=eC.out.own.shape;subst dH;have g9:=qZ eC.out.own;clear oW kK mB I7 x3 l3
   go_wp2_with (at_builtin;go_must (refine aA6 rfl (.tmp 128) (.tmp 130) 110 rfl w0.heap.size 98 .nilFunc 8 Tryz.underlying110 aP2 rfl _ _ rfl g9.out (w8.heap.size+1) (some ⟨w8.heap.size,0,none⟩) 1 1 [.func (.func 61) #[] #[.pointer (some ⟨w.heap.size,0,none⟩),.pointer (some ⟨xb,0,none⟩),.pointer (some ⟨lb,0,none⟩)]] rfl rfl U6.out (by simp[Value.oneCell']) (by unfold maxLen;omega) (by omega) (by omega) ?_;intro vq wq n9 T8 aT;have rG:=qZ n9;have N5:=qZ T8;have rS:=qZ aT;clear n9 T8 aT))
   go_meet;have C0:Below wc.heap.size wc (w8.alloc (.cells #[.func (.func 61) #[] #[.pointer (some ⟨w.heap.size,0,none⟩),.pointer (some ⟨xb,0,none⟩),.pointer (some ⟨lb,0,none⟩)]] 98)):=V1.out.trans (G2.out.mono (by omega));have nR:=o9.out.below C0 o9.out.lt;have sL:=t9.out.below C0 t9.out.lt;have nS:=L4.out.below C0 L4.out.lt;have L7:=P5.out.below (fun q hq=>by have:=f6.out q hq;omega) C0;have nH:=Own.below K4.out C0 (lR _);have pD:=aB5 g9.out nR (by decide);have sZ:=aB5 g9.out sL (by decide);have qI:=aB5 g9.out nS (by decide);have qJ:=aB5 g9.out L7.blk (by decide);have oC:=N5.out.size;refine⟨vq,vs++[.func (.func 61) #[] #[.pointer (some ⟨w.heap.size,0,none⟩),.pointer (some ⟨xb,0,none⟩),.pointer (some ⟨lb,0,none⟩)]],fun x=>G x∨F x∨x=w.heap.size∨x=xb∨x=lb,by rw[iI.out],rfl,by simp;omega,by omega,qZ ((tC.out.trans (G2.out.mono (by omega))).grown N5.out (by omega) (fun r hr=>(g9.out.lt r hr).1)),qZ (nS.grown N5.out (fun e=>qI e.symm)),qZ (nR.grown N5.out (fun e=>pD e.symm)),qZ (L7.keep oC (fun q hq=>N5.out.block q (by have:=f6.out q hq;omega) (fun e=>by have:=(g9.out.lt q e.symm).1;have:=i4.out q hq;omega)) N5.out (fun e=>qJ e) (jrow_type_ne L7.ents g9.out (by decide)) (jrow_type_ne L7.ends g9.out (by decide))),qZ ?_,qZ (fun x hx=>?_),qZ (Own.kept nH N5.out (jrow_type_ne nH g9.out (by decide)))⟩;rotate_left
   ·have Z9:=fun e=>(K4.out.lt x e).1
    rcases hx with hx|hx|hx|hx|hx
    ·exact⟨.inr (by have:=G9.out x hx;omega),.inl ⟨n7.out x hx,fun e=>dO.out x e hx⟩⟩
    ·exact⟨.inl hx,.inl ⟨by have:=i4.out x hx;omega,fun e=>by have:=Z9 e;have:=i4.out x hx;omega⟩⟩
    ·exact⟨.inr (by omega),.inl ⟨by omega,fun e=>by have:=Z9 e;omega⟩⟩
    ·exact⟨.inr (by omega),.inr (.inl hx)⟩
    exact⟨.inr (by omega),.inr (.inr hx)⟩
   rw[jC.out];refine aM5.pushes (bl:=[.cut (aA8 s.k) cg]) eC.out rfl (fun i h1 h2=>?_) (by simp[Value.oneCell']) (fun x hx=>.inl hx) (fun x hx=>?_) (fun r hr hx=>?_) N5.out rS.out rG.out
   ·obtain rfl:i=0:=by simp at h1;exact h1
    exact pO.out.keep G2.out.size (fun x hx=>G2.out.block x (by
     rcases hx with hx|hx|hx|hx|hx
     ·have:=n7.out x hx;omega
     ·have:=f6.out x hx;omega
     ·omega
     ·omega
     omega))
   ·rcases hx with hx|hx|hx|hx|hx
    ·have:=n7.out x hx;omega
    ·have:=f6.out x hx;omega
    ·omega
    ·omega
    omega
   rcases hx with hx|hx|hx|hx|hx
   ·exact eC.out.apart r hr hx
   ·have:=(g9.out.lt r hr).1;have:=i4.out r hx;omega
   ·have:=(g9.out.lt r hr).1;omega
   ·rw[hx] at hr;exact pD hr
   rw[hx] at hr;exact sZ hr
  obtain⟨t7,o6,G1,h8,h9,cR,rK,L3,P8,Y3,J6,jD,cF,m4⟩:=hcut;subst h8;have bP:=h9.symm;clear h9;subst bP;clear fL gG K4 L4 o9 t9 P5 dF;obtain⟨fr,I1⟩:∃x,x=f1+if cg<og then og-cg else 0:=⟨_,rfl⟩
  have rJ:0<=fr∧fr<=6000000000000000000:=by
   rw[I1];split<;>omega
  have iF:=qZ I1;rw[<-I1];have sO:ao=0:=by
   rcases Own.whole m4.out with⟨h,_⟩|⟨g',cap,M6,h,_⟩
   ·injection h with h _ _;cases h
   injection h with h _ _
   injection h with h
   injection h with _ h _
  subst sO;obtain⟨M6,R9,qU⟩:∃M6,Blk wc ab 108 M6∧N<=M6.size:=by
   rcases Own.whole m4.out with⟨h,_⟩|⟨g',cap,M6,h,_,_,hg,h4,_,h5,_⟩
   ·injection h with h _ _;cases h
   injection h with h _ _
   injection h with h
   injection h with h1 _ _
   rw[lU,lV,f9.out,Nat.min_eq_left jY] at h4;exact⟨M6,by rw[h1];exact hg,by omega⟩
  have pZ:=L3.out.size;have pY:=m4.out.lt ab rfl;have zr:wc.frozen? ⟨ab,m1,none⟩=false:=R9.frozen _;have rr:wc.cell? ⟨ab,m1,none⟩=some (M6[m1]'(by omega)):=(R9.cell m1).trans (Array.getElem?_eq_getElem _);have q6:=aA0 wc ab m1 (.pointer (some ⟨cb,0,none⟩));obtain⟨w9,eB⟩:∃W,W=wc.setCell ⟨ab,m1,none⟩ (.pointer (some ⟨cb,0,none⟩)):=⟨_,rfl⟩
  have N3:Own w9 w0.heap.size 108 (.slice (some ⟨ab,0,none⟩) N c4) ((l5.take m1++([⟨cb,0,none⟩]:List Addr)).map fun a=>Value.pointer (some a)):=by
   have P4:((l5.take N).map fun a=>Value.pointer (some a)).length=N:=by rw[lU,lV,f9.out,Nat.min_eq_left jY]
   have h1:=m4.out;unfold Own at h1⊢;rw[P4] at h1;have h2:=cU7 (i:=m1) h1 (.pointer (some ⟨cb,0,none⟩));rw[<-eB] at h2;have sJ:N=m1+1:=by have:=lC.out;omega
   have e:((l5.take N).map fun a=>Value.pointer (some a)).set m1 (.pointer (some ⟨cb,0,none⟩))=(l5.take m1++([⟨cb,0,none⟩]:List Addr)).map fun a=>Value.pointer (some a):=by
    rw[sJ,List.take_add_one,lW C5,mE,mE,List.set_append_right _ _ (by rw[lU,lV];omega)];rw[lU,lV,Nat.min_eq_left (by omega),Nat.sub_self]
    rfl
   rw[e] at h2;have aG:((l5.take m1++([⟨cb,0,none⟩]:List Addr)).map fun a=>Value.pointer (some a)).length=N:=by rw[lU,lT,lV,Nat.min_eq_left (by omega)];simp;omega
   rw[aG];exact h2
  rw[<-eB] at q6;have lP:=aB5 m4.out P8.out (by decide);have jJ:=qZ N3;have iJ:=qZ (L3.out.grown q6 (by omega) (fun r hr=>by injection hr with hr;omega));have m6:=qZ (P8.out.grown q6 (fun e=>lP e.symm));have aU:=qZ (Y3.out.grown q6 (by have:=cJ.out ab rfl;intro e;injection e with e;omega));have K9:=qZ (J6.out.keep q6.size (fun q hq=>q6.block q (by have:=f6.out q hq;omega) (fun e=>by injection e with e;have:=i4.out q hq;omega)) q6 (fun e=>by injection e with e;have:=cJ.out ab rfl;omega) (jrow_type_ne J6.out.ents m4.out (by decide)) (jrow_type_ne J6.out.ends m4.out (by decide)));have kL:=qZ (jD.out.other q6 (jrow_type_ne jD.out.own m4.out (by decide)) (fun r hr hx=>by
   injection hr with hr
   subst hr;have h1:=cJ.out ab rfl;rcases(cF.out ab hx).2 with h2|h2|h2
   ·exact h2.2 rfl
   ·omega
   omega))
  have oH:=qZ eB;have fC:=q6.size;clear I1 R9 q6 eB N3 lP P8 Y3 J6 jD m4 L3;go_upto_region 24 with fail
  rw[<-oH.out];clear oH zr rr;have aN:=qZ (j6.out.trans (iJ.out.mono l6));have lK:=HM.out.keep aN.out.size (fun q hq=>aN.out.block q (i4.out q hq));obtain⟨uJ,uG,_,_,_,_,_,kR,_,bE,d0,_⟩:=lK.rd.cells;injection kR with e1 e2 _
  subst e1 e2;obtain⟨sk,O6⟩:∃x,x=s.k:=⟨_,rfl⟩
  rw[<-O6] at d0 lI;have tU:IntKind.i64.wrap (sk+1)=sk+1:=mH _ (by omega);have D1:=qZ O6;have x9:w9.cell? ⟨xb,0,none⟩=some (.pointer (some ⟨ob,oo,none⟩)):=aU.out.cell 0;have sQ:w9.cell? ⟨sb,0,none⟩=some (.int .i64 1):=m6.out.cell 0;have rN:w9.frozen? ⟨sb,0,none⟩=false:=m6.out.frozen _;have I9:=aA0 w9 sb 0 (.int .i64 (sk+1));obtain⟨wT,eL⟩:∃W,W=w9.setCell ⟨sb,0,none⟩ (.int .i64 (sk+1)):=⟨_,rfl⟩
  have aQ:Hid (Blk wT sb 104 #[.int .i64 (sk+1),.int .i64 ix,.int .i64 0,.slice none 0 0,.slice none 0 0]):=qZ (by rw[eL];exact m6.out.set_ 0 _);rw[<-eL] at I9;have eN:=aB5 jJ.out m6.out (by decide);have sF:=qZ (Own.kept jJ.out I9 (.inr eN));have gA:=qZ (iJ.out.grown I9 (by omega) (fun r hr=>by injection hr with hr;omega));have cC:=qZ (K9.out.keep I9.size (fun q hq=>I9.block q (by have:=f6.out q hq;omega) (fun e=>by injection e with e;have:=i4.out q hq;omega)) I9 (fun e=>by injection e with e;omega) (.inr (aB5 K9.out.ents m6.out (by decide))) (.inr (aB5 K9.out.ends m6.out (by decide))));have rW:=qZ (kL.out.other I9 (.inr (aB5 kL.out.own m6.out (by decide))) (fun r hr hx=>by
   injection hr with hr
   subst hr;rcases(cF.out sb hx).2 with h2|h2|h2
   ·omega
   ·omega
   omega))
  have lO:=qZ eL;have uC:=I9.size;have fX:Hid (Calls Tryz.prog 62 #[.pointer (some ⟨cb,0,none⟩)] wT fun e w' =>e=.returned (.tuple #[.int .i64 c.last.1,.int .i64 c.last.2])∧Below wT.heap.size wT w'):=qZ ((cC.out.rd iQ.out).last (by omega));obtain⟨uQ,X1⟩:∃x,x=c.last.1:=⟨_,rfl⟩
  obtain⟨nV,O4⟩:∃x,x=c.last.2:=⟨_,rfl⟩
  rw[<-X1,<-O4] at fX;have aL:=qZ O4;clear O6 lK I9 eL eN X1 O4 aU m6 K9 kL jJ iJ bE;go_upto_region 25 with fail
  rw[<-lO.out];clear lO sQ rN d0 x9;go_wp2_with fail
  refine fX.out.mono ?_;rintro e t8 ⟨rfl,d8⟩;have X5:=d8.size;have p6:=qZ (aQ.out.below d8 aQ.out.lt);have s2:t8.cell? ⟨sb,2,none⟩=some (.int .i64 0):=p6.out.cell 2;have z2:t8.frozen? ⟨sb,2,none⟩=false:=p6.out.frozen _;have b8:=qZ d8;clear d8 fX;go_wp2_with fail
  go_meet;have g8:=aA0 t8 sb 2 (.int .i64 nV);have bW:=Own.below sF.out b8.out (lR _);have n5:=rW.out.below b8.out;have L7:=cC.out.below (fun q hq=>by have:=f6.out q hq;omega) b8.out;have Z8:∀x,(sb<=x∧x≠xb∧x≠lb)->¬G1 x:=fun x hx h=>by
   rcases(cF.out x h).2 with h2|h2|h2
   ·omega
   ·exact hx.2.1 h2
   exact hx.2.2 h2
  refine⟨_,o6,G1,l5.take m1++([⟨cb,0,none⟩]:List Addr),sk+1,nV,fr,((aP0 j N).map (fun x=>aD3.rm (aA8 x.k))++if cg<og then[.cut (aA8 s.k) cg] else[]),rfl,rfl,cR,qZ ⟨(gA.out.trans (b8.out.mono (by omega))).grown g8 (by omega) (fun r hr=>by injection hr with hr;omega),p6.out.set_ 2 _,Own.kept bW g8 (.inr (aB5 bW p6.out (by decide))),n5.other g8 (.inr (aB5 n5.own p6.out (by decide))) (fun r hr hx=>by injection hr with hr;subst hr;exact Z8 sb ⟨lR _,by omega,by omega⟩ hx),fun x hx=>(cF.out x hx).1,⟨Z8 sb ⟨lR _,by omega,by omega⟩,fun r hr hx=>?_⟩,⟨by omega,by rw[aL.out];exact dB4 iQ.out,by omega,by omega⟩,.inr ⟨m1,s,c,cb,G4,t6,x8,by have:=lC.out;omega,⟨B9,tI.out⟩,tB.out,rfl,(L7.keep g8.size (fun q hq=>g8.block q (by have:=f6.out q hq;omega) (fun e=>by injection e with e;have:=i4.out q hq;omega)) g8 (fun e=>by injection e with e;omega) (.inr (aB5 L7.ents p6.out (by decide))) (.inr (aB5 L7.ends p6.out (by decide)))).lower (by omega),by rw[D1.out],aL.out,?_,?_,⟨iQ.out,qH.out,by omega,pN.out⟩,by omega,Z8 cb ⟨by omega,by omega,by omega⟩,fun r hr=>Z8 r (by have:=mY.out.1 r hr;omega),fun r hr=>Z8 r (by have:=mY.out.2 r hr;omega)⟩⟩⟩
  ·have h1:=cJ.out r hr
   rcases(cF.out r hx).2 with h2|h2|h2
   ·exact h2.2 hr
   ·omega
   omega
  ·rw[iF.out,lM.out,oQ.out,nM.out]
   rfl
  rw[oQ.out,nM.out]
  rfl
 obtain⟨t7,o6,G1,C9,fk,ft,fr,al,h8,h9,cR,T0⟩:=hcut;subst h8;have bP:=h9.symm;clear h9;subst bP;clear eQ z8 N8 C2 dO cJ n7 pG;have tD:=T0.out.below.size;have sE:=qZ (j6.out.trans (T0.out.below.mono l6));have lY:∀q,F q->q<wc.heap.size:=fun q hq=>by have:=i4.out q hq;omega
 have qE:=qZ lY;clear lY;obtain⟨nb,dN⟩:∃b,b=dN2 j ix N:=⟨_,rfl⟩
 have aH:=qZ dN;clear dN;go_upto_region 27 with fail
 go_cut [163] from 153 to 163 (fun c163 wx=>c163=.bool nb∧wc.heap.size<=wx.heap.size∧Hid (bV6 wx w0 F j ix l5 N w.heap.size w0.heap.size sb gj g (.slice A4 N c4) t7 o6 G1 C9 fk ft fr al))
 case first=>
  rcases T0.out.kind with⟨k1,k8⟩|⟨m1,s,c2,cb,G4,t6,x8,k1,⟨k2,k3⟩,k4,k5,k6,k8,k9,O0,M4,k7,I0⟩
  ·have hz:((N:Int)==0)=true:=by rw[k1];rfl
   have hb:nb=true:=by rw[aH.out,k1];rfl
   subst hb;clear k1 k8;go_wp2_with fail
   go_meet;exact⟨rfl,lR _,T0⟩
  have hz:((N:Int)==0)=false:=beq_eq_false_iff_ne.2 (by omega);have hb:nb=decide (600<=c2.long):=by rw[aH.out,k1,bM8 k2,k4,k3]
  have C5:m1<l5.length:=by rw[f9.out];omega
  obtain⟨ab,ao,e5,_,J9,D7⟩:=(RdF.of_own (F:=fun _=>True) T0.out.row (fun _ _ _=>trivial)) (by rw[k5];simp);subst e5;have r0:wc.cell? ⟨ab,ao+m1,none⟩=some (.pointer (some ⟨cb,0,none⟩)):=D7 m1 _ (by
   rw[k5,mE,List.getElem?_append_right (by rw[lU,lV];omega),lU,lV,Nat.min_eq_left (by omega),Nat.sub_self]
   rfl)
  have cV:(N:Int)-1=(m1:Int):=by omega
  have kH:IntKind.i64.wrap (m1:Int)=(m1:Int):=mH _ (by omega);have eP:m1<N:=by omega
  have P0:(m1:Int)<(N:Int):=by omega
  have hM:=k6.segM k7.1 k7.2.1 (by have:=k7.2.2.1;omega) k7.2.2.2;obtain⟨cg,M7⟩:∃x,x=c2.long:=⟨_,rfl⟩
  have M0:Hid (Calls Tryz.prog 56 #[.pointer (some ⟨cb,0,none⟩)] wc fun e w' =>e=.returned (.int .i64 cg)∧Below wc.heap.size wc w'):=qZ (by rw[M7];exact hM.long);rw[<-M7] at hb;have HB:=qZ hb;clear hb M7 hM k1 k3 k4 k5 k6 k7 k8 k9 O0 M4 I0 D7 C5;go_wp2_with fail
  refine M0.out.mono ?_;rintro e w5 ⟨rfl,y8⟩;have dY:=y8.size;have U2:=qZ (T0.out.below2 qE.out y8 tD);clear y8 M0 r0;go_wp2_with fail
  go_meet;exact⟨by rw[HB.out],dY,U2⟩
 obtain⟨rfl,qX,a8⟩:=hcut;clear T0;have iC:w0.heap.size<=wc.heap.size:=a8.out.below.size;have D5:=qZ (j6.out.trans (a8.out.below.mono l6));have S6:=qZ (show∀q,F q->q<wc.heap.size from fun q hq=>by have:=i4.out q hq;omega);have gB:Hid (fr<=aB8 d.fs):=qZ (by
  refine Int.le_trans ?_ gF.out;rcases a8.out.kind with⟨k1,_,_,_,k5,_⟩|⟨m1,s,c2,cb,G4,t6,x8,k1,⟨k2,k3⟩,k4,_,_,_,_,O0,_,k7,_⟩
  ·rw[k5,k1,bQ2];simp
  rw[O0,k1,k3];exact dF2 k2 (fun s hs=>(o4.out s hs).2.1) (k7.1.ends _ (aW0 (fun e=>by have:=k7.2.1;rw[e] at this;simp at this))).1)
 have fZ:=qZ (a8.out.num.2.2.1);have cO:Hid (aI4 al=0):=qZ (by
  rcases a8.out.kind with⟨_,_,_,_,_,k6⟩|⟨m1,s,c2,cb,G4,t6,x8,_,_,_,_,_,_,_,_,M4,_⟩
  ·rw[k6,bC4]
  rw[M4,aN1,bC4,bX8])
 go_upto_if 163 with fail
 go_cut [10,15] from 153 to 175 (fun c10 c15 wx=>∃(A5:Option Addr) (c5:Nat) (n6:List Addr) (G0:List aC4) (FP:Nat->Prop) (tb:Nat) (s0:aC4) (kM:List aF2) (vl ve bv:Value) (bh:List UInt8),c10=.slice A5 (n6.length+1) c5∧c15=bv∧n6.length<=nl∧bh.length<=1048600∧(s0.l.length<=100000000∧s0.long<=1000000000000)∧Hid (Below w0.heap.size w0 wx)∧Hid (aG3 wx F w.heap.size w0.heap.size gj g (.slice A5 (n6.length+1) c5) t7 o6 G1 al n6 G0 FP tb s0 kM vl ve bv bh)∧Hid (bR1 j d l ix=bA8 j d l al fr G0 s0 bh))
 case first=>
  cases nb with
  |false=>
   rcases a8.out.kind with⟨k1,k8⟩|⟨m1,s,c2,cb,G4,t6,x8,k1,⟨k2,k3⟩,k4,k5,k6,k8,k9,O0,M4,k7,I0⟩
   ·have:=aH.out
    rw[k1] at this;cases this
   have dU:¬600<=c2.long:=by
    have h1:=aH.out;rw[k1,bM8 k2,<-k3,<-k4] at h1;exact of_decide_eq_false h1.symm
   have C5:m1<l5.length:=by rw[f9.out];omega
   have P4:(l5.take m1).length=m1:=by rw[lV];omega
   have Q5:j.segs.take N=j.segs.take m1++[s]:=by rw[k1,List.take_add_one,lW k2,<-k3];rfl
   have N7:=bY2 (d:=d) (l:=l) (by rw[<-E7.out];exact HN.out) Q5 k4 dU;rw[<-O0,<-M4] at N7;have cZ:=nY.out s (by rw[k3];exact lX k2);have bL:aG3 wc F w.heap.size w0.heap.size gj g (.slice A4 N c4) t7 o6 G1 al (l5.take m1) (j.segs.take m1) F cb c2 G4 t6 x8 (.slice none 0 0) []:=by
    refine⟨a8.out.acts,by rw[<-k5];exact a8.out.row,by rw[lV,lV,f9.out,<-E7.out],fun i h1 h2=>?_,fun x hx=>⟨S6.out x hx,.inl hx⟩,a8.out.gl,k6,⟨⟨none,0,rfl,lR _,by omega,Rd.none_⟩,.inl rfl⟩,fun x hx=>?_,⟨k7.1,k7.2.1,by have:=k7.2.2.1;omega,k7.2.2.2,by rw[k4];show 1<=s.k∧s.k<=_;omega⟩⟩
    ·rw[List.getElem_take,List.getElem_take]
     exact(eS.out i (by rw[lV] at h1;omega) (by rw[lV] at h2;omega)).keep D5.out.size (fun q hq=>D5.out.block q (i4.out q hq))
    have dQ:w0.heap.size<=x->¬F x:=fun h hf=>by have:=i4.out x hf;omega
    rcases hx with hx|hx|hx|hx|hx|hx
    ·exact⟨a8.out.gs.2 x hx,dQ (a8.out.row.lt x hx).1⟩
    ·rw[hx];exact⟨I0.2.1,fun hf=>by have:=i4.out cb hf;have:=k6.low;omega⟩
    ·exact⟨I0.2.2.1 x hx,dQ (World.ownsRow.lt k6.ents x hx).1⟩
    ·exact⟨I0.2.2.2 x hx,dQ (World.ownsRow.lt k6.ends x hx).1⟩
    ·cases hx
    exact⟨a8.out.acts.apart x hx,dQ (a8.out.acts.own.lt x hx).1⟩
   have n4:=qZ bL;have G8:=qZ N7;have jA:c2.l.length<=100000000∧c2.long<=1000000000000:=by
    have h1:c2.long∈c2.ends:=aW0 (fun e=>by have:=k7.2.1;rw[e] at this;simp at this);rw[k4] at h1;have h2:=(aF.out s (by rw[k3];exact lX k2)).2 _ (List.mem_of_mem_take h1);rw[<-k4] at h2;exact⟨k7.2.2.1,h2.2⟩
   have bZ:=qZ (show(l5.take m1).length+1=N by omega);have B9:m1<=nl:=by omega
   clear k1 k2 k3 k4 k5 k6 k7 k8 k9 O0 M4 I0 dU C5 P4 Q5 N7 cZ bL;go_wp2_with fail
   go_meet;exact⟨A4,c4,l5.take m1,j.segs.take m1,F,cb,c2,G4,t6,x8,.slice none 0 0,[],by rw[bZ.out],rfl,by rw[lV];omega,by simp,jA,qZ a8.out.below,qZ (by rw[bZ.out];exact n4.out),G8⟩
  |true=>
   have rH:=a8.out.fresh.lt;have B7:=a8.out.num;have nB:=qZ (cT3 sb 0 ix ft (by omega) B7.2.1 wc (a8.out.fresh.cell 1) (a8.out.fresh.cell 2) rH);obtain⟨hd,iY⟩:∃x,x=aZ3 ix ft:=⟨_,rfl⟩
   have gO:=qZ iY;have lD:hd.length<=1048600:=by
    rw[iY];refine aG4 ?_;have h1:(dA4 ix).length<=10:=by
     unfold dA4;split
     ·simp
     exact aN8 _ (by omega)
    have h2:(aM8 [ft]).length<=10:=aN5 (z:=[ft]) (by intro n hn;obtain rfl:=List.mem_singleton.1 hn;exact B7.2.1);rw[lT];omega
   clear iY;go_wp2_with fail
   refine nB.out.mono ?_;rintro e w6 ⟨v6,rfl,S2,m9⟩;rw[<-gO.out] at S2;obtain⟨A6,c6,qW,p1,p2,_⟩:=S2.shape;subst qW;have V0:=qZ S2;have dI:=m9.size;have d9:=qZ (a8.out.below2 S6.out m9 iC);have U0:=d9.out.fresh;obtain⟨wI,W7⟩:∃W,W=w6.setCell ⟨sb,4,none⟩ (.slice (some ⟨w6.heap.size,0,none⟩) 1 1):=⟨_,rfl⟩
   have U9:=aA0 w6 sb 4 (.slice (some ⟨w6.heap.size,0,none⟩) 1 1);have iW:Blk wI sb 104 #[.int .i64 fk,.int .i64 ix,.int .i64 ft,.slice none 0 0,.slice (some ⟨w6.heap.size,0,none⟩) 1 1]:=by rw[W7];exact U0.set_ 4 _
   have cY:wI.heap.size=w6.heap.size:=by rw[W7];simp
   rw[<-W7] at U9;obtain⟨w7,L0⟩:∃W,W=wI.alloc (.cells #[.int .i64 hd.length] 3):=⟨_,rfl⟩
   have Q0:Below wI.heap.size wI w7:=by rw[L0];exact(lS _ wI).alloc (lR _) _
   have rX:Hid (w7.ownsRow w6.heap.size 3 1 (.slice (some ⟨w6.heap.size,0,none⟩) 1 1) 1 [.int .i64 hd.length]):=qZ (by
    rw[L0,<-cY];exact World.ownsRow_lit wI #[.int .i64 hd.length] 1 (lR _) (by decide) rfl)
   have sI:w6.cell? ⟨sb,4,none⟩=some (.slice none 0 0):=U0.cell 4;have zI:w6.frozen? ⟨sb,4,none⟩=false:=U0.frozen 4;have oD:=qZ (show w7=(w6.setCell ⟨sb,4,none⟩ (.slice (some ⟨w6.heap.size,0,none⟩) 1 1)).alloc (.cells #[.int .i64 hd.length] 3) by rw[L0,W7]);have T9:w6.heap.size<=w7.heap.size:=by have:=Q0.size;omega
   have R7:∀q,q≠sb->q<w6.heap.size->w7.heap[q]? =w6.heap[q]? :=fun q h1 h2=>(Q0.block q (by omega)).trans (U9.block q h2 (fun e=>by injection e with e;exact h1 e))
   have kV:=qZ (iW.below Q0 iW.lt);have Y7:=qZ (Own.below (Own.kept d9.out.row U9 (.inr (aB5 d9.out.row U0 (by decide)))) Q0 (lR _));have bJ:=qZ ((d9.out.acts.other U9 (.inr (aB5 d9.out.acts.own U0 (by decide))) (fun r hr hx=>by injection hr with hr;subst hr;exact d9.out.gs.1 hx)).below Q0);have jX:=qZ (V0.out.kept (fun q hq=>R7 q (by have:=V0.out.row.base q hq;omega) (V0.out.row.lt q hq)) T9);have p9:=qZ ((d9.out.below.grown U9 (by omega) (fun r hr=>by injection hr with hr;rw[<-hr];exact R8)).trans (Q0.mono (by omega)));have I5:=qZ R7;have qD:=d9.out.fresh.lt;clear S2 m9 U0 W7 Q0 iW L0 U9 R7 V0 nB B7 cY;go_upto_region 30 with fail
   rw[<-oD.out];clear oD sI zI;have eU:Below w7.heap.size w7 (w7.alloc (.cells #[.pointer (some ⟨sb,0,none⟩)] 108)):=(lS _ w7).alloc (lR _) _;have uI:=eU.size;have U5:=qZ eU;have a9:=qZ (Own.below Y7.out eU (lR _));have tQ:=qZ (aF9 w7 108 [.pointer (some ⟨sb,0,none⟩)]);have Y9:(C9.map fun a=>Value.pointer (some a)).length=N:=by
    rcases a8.out.kind with⟨k1,k2,_⟩|⟨m1,s,c2,cb,G4,t6,x8,k1,⟨k2,_⟩,_,k5,_⟩
    ·rw[k2,k1];rfl
    rw[k5,lU,lT,lV,f9.out,k1];have:m1<nl:=by rw[E7.out];exact k2
    simp
    omega
   have Q1:=qZ Y9;obtain⟨rl,pT⟩:∃x,x=(C9.map fun a=>Value.pointer (some a)).length:=⟨_,rfl⟩
   clear Y9 eU;go_wp2_with (at_builtin;go_must (refine aA6 rfl (.tmp 172) (.tmp 174) 49 rfl w0.heap.size 108 (.pointer none) 8 Tryz.underlying49 bM6 rfl _ _ rfl a9.out (w7.heap.size+1) (some ⟨w7.heap.size,0,none⟩) 1 1 [.pointer (some ⟨sb,0,none⟩)] rfl rfl tQ.out (by simp[Value.oneCell']) (by rw[Q1.out];unfold maxLen;omega) (by rw[Q1.out];omega) (by omega) ?_;intro eJ m7 C3 bV V3;have P7:=qZ C3;have j9:=qZ bV;have kJ:=qZ V3;clear C3 bV V3))
   go_meet;obtain⟨eZ,iE,p5,_⟩:=P7.out.shape;have iS:(C9.map (fun a=>Value.pointer (some a))++[Value.pointer (some ⟨sb,0,none⟩)]).length=C9.length+1:=by simp
   rw[iS] at p5;have S3:=j9.out.size;have oY:=kV.out.below U5.out kV.out.lt;have eN:=aB5 a9.out oY (by decide);have nP:=World.ownsRow.kept rX.out (aA5 U5.out none) (.inr (by simp[Value.ownBlock]));have jN:=World.ownsRow.kept nP j9.out (jrow_type_ne nP a9.out (by decide));have bM:bF7 m7 F w0.heap.size sb ⟨fk,ix,ft,[],[(hd.length:Int)]⟩ [] (.slice none 0 0) (.slice (some ⟨w6.heap.size,0,none⟩) 1 1):=⟨oY.grown j9.out (fun e=>eN e.symm),R8,World.ownsRow_nil _ _ _ _,rfl,(fun q hq=>by cases hq),bE0 jN (by omega)⟩;have Y2:=bJ.out.below U5.out;have n5:=Y2.other j9.out (jrow_type_ne Y2.own a9.out (by decide)) (fun r hr=>d9.out.gs.2 r hr);have iN:=jX.out.below U5.out (lR _);have J3:∀x,(Value.slice A6 hd.length c6).ownBlock=some x->wc.heap.size<=x∧x<w7.heap.size∧∃cs,Blk (w7.alloc (.cells #[.pointer (some ⟨sb,0,none⟩)] 108)) x 5 cs:=fun x hx=>by
    refine⟨jX.out.row.base x hx,jX.out.row.lt x hx,?_⟩;rcases iN.row with h1|⟨g',_,_,M6,h1,_,hB,_⟩
    ·rw[h1] at hx;cases hx
    rw[h1] at hx;injection hx with hx
    subst hx;exact⟨_,hB⟩
   have cT:=(iN.kept (fun q hq=>j9.out.block q (iN.row.lt q hq) (fun e=>by
    obtain⟨_,_,cs,hB⟩:=J3 q hq;exact aB5 a9.out hB (by decide) e.symm)) j9.out.size).mono (by omega:w0.heap.size<=wc.heap.size)
   have fY:∀x,G1 x->x<wc.heap.size:=a8.out.acts.lt
   have M8:∀x,eJ.ownBlock=some x->((Value.slice A4 N c4).ownBlock=some x)∨(w7.alloc (.cells #[.pointer (some ⟨sb,0,none⟩)] 108)).heap.size<=x:=fun x hx=>by
    rcases kJ.out with e|⟨q,e,hq⟩
    ·exact .inl (e▸hx)
    rw[hx] at e;injection e with e
    exact .inr (by omega)
   have x5:aZ8 ⟨fk,ix,ft,[],[(hd.length:Int)]⟩:=⟨by have:=a8.out.num.1;show-9223372036854775808<=fk∧fk<=9223372036854775807;omega,X0,a8.out.num.2.1,(fun e he=>by cases he),fun x hx=>by rw[List.mem_singleton.1 hx];omega⟩;have oK:∀x,G1 x->F x∨w.heap.size<=x:=a8.out.gl
   have S9:Below w0.heap.size w0 m7:=(p9.out.trans (U5.out.mono (by omega))).grown j9.out (by omega) (fun r hr=>(a9.out.lt r hr).1);have l4:∀x,F x->x<w.heap.size:=i4.out
   have iP:=a8.out.acts.own.lt;have aJ:∀x,eJ.ownBlock=some x∨x=sb∨(Value.slice none 0 0).ownBlock=some x∨(Value.slice (some ⟨w6.heap.size,0,none⟩) 1 1).ownBlock=some x∨(Value.slice A6 hd.length c6).ownBlock=some x∨t7.ownBlock=some x->¬G1 x∧w0.heap.size<=x:=fun x hx=>by
    rcases hx with hx|hx|hx|hx|hx|hx
    ·rcases M8 x hx with h1|h1
     ·exact⟨a8.out.gs.2 x h1,(a8.out.row.lt x h1).1⟩
     exact⟨fun h=>by have:=fY x h;omega,by omega⟩
    ·rw[hx];exact⟨a8.out.gs.1,R8⟩
    ·cases hx
    ·have sT:w6.heap.size=x:=by simpa[Value.ownBlock] using hx
     exact⟨fun h=>by have:=fY x h;omega,by omega⟩
    ·exact⟨fun h=>by have:=fY x h;have:=(J3 x hx).1;omega,by have:=(J3 x hx).1;omega⟩
    exact⟨a8.out.acts.apart x hx,(iP x hx).1⟩
   rcases d9.out.kind with⟨k1,k2,k3,k4,k5,k6⟩|⟨m1,s,c2,cb,G4,t6,x8,k1,⟨k2,k3⟩,k4,k5,k6,k8,k9,O0,M4,k7,I0⟩
   ·refine⟨eZ,iE,[],[],F,sb,⟨fk,ix,ft,[],[(hd.length:Int)]⟩,[],.slice none 0 0,.slice (some ⟨w6.heap.size,0,none⟩) 1 1,.slice A6 hd.length c6,hd,by rw[p5,k2]<;>rfl,rfl,by simp,lD,⟨by simp,by show(hd.length:Int)<=_;omega⟩,qZ S9,qZ ⟨n5,?_,rfl,fun i h1 h2=>by simp at h1,fun x hx=>⟨by have:=l4 x hx;omega,.inl hx⟩,oK,bM,cT,fun x hx=>?_,⟨x5,rfl,by simp,(fun e he=>by cases he),a8.out.num.1⟩⟩,qZ ?_⟩
    ·have h1:=P7.out
     rw[p5,k2] at h1;exact h1
    ·rw[show(Value.slice eZ (([]:List Addr).length+1) iE)=eJ by rw[p5,k2]] at hx
     have h1:=aJ x hx;exact⟨h1.1,fun hf=>by have:=l4 x hf;omega⟩
    have h1:=bP5 (d:=d) (l:=l) (by rw[<-E7.out];exact HN.out) (show j.segs.take N=[] by rw[k1];rfl);rw[h1,k6,k5,gO.out,k3,k4]
   have dU:600<=c2.long:=by
    have h1:=aH.out;rw[k1,bM8 k2,<-k3,<-k4] at h1;exact of_decide_eq_true h1.symm
   have C5:m1<l5.length:=by rw[f9.out];omega
   have Q5:j.segs.take N=j.segs.take m1++[s]:=by rw[k1,List.take_add_one,lW k2,<-k3];rfl
   have N7:=bW6 (d:=d) (l:=l) (by rw[<-E7.out];exact HN.out) Q5 k4 dU;rw[<-O0,<-M4,<-k8,<-k9,<-gO.out] at N7;have iM:=k6.keepB T9 (fun x hx=>by
    rcases hx with hx|hx|hx|hx
    ·exact I5.out x (by have:=l4 x hx;omega) (by have:=l4 x hx;omega)
    ·rw[hx];exact I5.out cb (by have:=I0.1;omega) k6.blk.lt
    ·exact I5.out x (fun e=>aB5 k6.ents d9.out.fresh (by decide) (e▸hx)) (World.ownsRow.lt k6.ents x hx).2
    exact I5.out x (fun e=>aB5 k6.ends d9.out.fresh (by decide) (e▸hx)) (World.ownsRow.lt k6.ends x hx).2)
   have f7:=iM.below (fun q hq=>by have:=l4 q hq;omega) U5.out;have j8:=f7.keep j9.out.size (fun q hq=>j9.out.block q (by have:=l4 q hq;omega) (fun e=>by have:=(a9.out.lt q e.symm).1;have:=l4 q hq;omega)) j9.out (fun e=>aB5 a9.out f7.blk (by decide) e) (jrow_type_ne f7.ents a9.out (by decide)) (jrow_type_ne f7.ends a9.out (by decide));have fA:=j8.segMx k7.1 k7.2.1 (by have:=k7.2.2.1;omega) k7.2.2.2;have aR:C9.length=N:=by have:=Q1.out;rwa[lU] at this
   have Z7:∀x,(eJ.ownBlock=some x∨x=sb∨(Value.slice none 0 0).ownBlock=some x∨(Value.slice (some ⟨w6.heap.size,0,none⟩) 1 1).ownBlock=some x∨(Value.slice A6 hd.length c6).ownBlock=some x∨t7.ownBlock=some x)->x≠cb∧t6.ownBlock≠some x∧x8.ownBlock≠some x:=fun x hx=>by
    have tX:=k6.blk.lt;have nA:=fun e=>(World.ownsRow.lt k6.ents x e).2
    have pF:=fun e=>(World.ownsRow.lt k6.ends x e).2
    rcases hx with hx|hx|hx|hx|hx|hx
    ·rcases M8 x hx with h1|h1
     ·refine⟨fun e=>aB5 a9.out f7.blk (by decide) (e▸h1),fun e=>?_,fun e=>?_⟩
      ·rcases jrow_type_ne f7.ents a9.out (by decide) with h2|h2
       ·rw[h2] at e;cases e
       exact h2 (e.trans h1.symm)
      rcases jrow_type_ne f7.ends a9.out (by decide) with h2|h2
      ·rw[h2] at e;cases e
      exact h2 (e.trans h1.symm)
     exact⟨by omega,fun e=>by have:=nA e;omega,fun e=>by have:=pF e;omega⟩
    ·subst hx
     exact⟨by have:=I0.1;omega,aB5 k6.ents d9.out.fresh (by decide),aB5 k6.ends d9.out.fresh (by decide)⟩
    ·cases hx
    ·have sT:w6.heap.size=x:=by simpa[Value.ownBlock] using hx
     exact⟨by omega,fun e=>by have:=nA e;omega,fun e=>by have:=pF e;omega⟩
    ·obtain⟨_,_,cs,hB⟩:=J3 x hx
     exact⟨fun e=>by subst e;exact blk_ne hB f7.blk (by decide) rfl,aB5 f7.ents hB (by decide),aB5 f7.ends hB (by decide)⟩
    refine⟨fun e=>aB5 Y2.own f7.blk (by decide) (e▸hx),fun e=>?_,fun e=>?_⟩
    ·rcases jrow_type_ne f7.ents Y2.own (by decide) with h2|h2
     ·rw[h2] at e;cases e
     exact h2 (e.trans hx.symm)
    rcases jrow_type_ne f7.ends Y2.own (by decide) with h2|h2
    ·rw[h2] at e;cases e
    exact h2 (e.trans hx.symm)
   have D4:=j6.out.trans (S9.mono l6);refine⟨eZ,iE,C9,j.segs.take m1++[c2],fun x=>F x∨x=cb∨t6.ownBlock=some x∨x8.ownBlock=some x,sb,⟨fk,ix,ft,[],[(hd.length:Int)]⟩,[],.slice none 0 0,.slice (some ⟨w6.heap.size,0,none⟩) 1 1,.slice A6 hd.length c6,hd,p5,rfl,by omega,lD,⟨by simp,by show(hd.length:Int)<=_;omega⟩,qZ S9,qZ ⟨n5,?_,?_,fun i h1 h2=>?_,fun x hx=>?_,oK,bM,cT,fun x hx=>?_,⟨x5,rfl,by simp,(fun e he=>by cases he),a8.out.num.1⟩⟩,qZ N7⟩
   ·have h1:=P7.out
    rw[p5] at h1;rw[mE];exact h1
   ·rw[aR,k1,lT,lV];simp;omega
   ·by_cases hi:i<m1
    ·have e1:C9[i]=l5[i]'(by omega):=by
      simp only[k5];rw[List.getElem_append_left (by rw[lV];omega),List.getElem_take]
     have e2:(j.segs.take m1++[c2])[i]=j.segs[i]'(by omega):=by
      rw[List.getElem_append_left (by rw[lV];omega),List.getElem_take]
     rw[e1,e2];exact((eS.out i (by omega) (by omega)).keep D4.size (fun q hq=>D4.block q (l4 q hq))).mono (fun x hx=>.inl hx)
    have ei:i=m1:=by omega
    subst ei;have e1:C9[i]=(⟨cb,0,none⟩:Addr):=by
     simp only[k5];rw[List.getElem_append_right (by rw[lV];omega)];simp
    have e2:(j.segs.take i++[c2])[i]=c2:=by
     rw[List.getElem_append_right (by rw[lV];omega)];simp
    rw[e1,e2];exact fA
   ·rcases hx with hx|hx|hx|hx
    ·exact⟨by have:=l4 x hx;have:=D4.size;omega,.inl hx⟩
    ·rw[hx];exact⟨j8.blk.lt,.inr j8.low⟩
    ·exact⟨(World.ownsRow.lt j8.ents x hx).2,.inr (World.ownsRow.lt j8.ents x hx).1⟩
    exact⟨(World.ownsRow.lt j8.ends x hx).2,.inr (World.ownsRow.lt j8.ends x hx).1⟩
   rw[<-p5] at hx;have h1:=aJ x hx;have h2:=Z7 x hx;refine⟨h1.1,?_⟩;rintro(h3|h3|h3|h3)
   ·have:=l4 x h3;omega
   ·exact h2.1 h3
   ·exact h2.2.1 h3
   exact h2.2.2 h3
 obtain⟨A5,c5,n6,G0,FP,tb,s0,kM,vl,ve,bv,bh,sN,oG,tL,kQ,⟨sA,rL⟩,HC,n4,G8⟩:=hcut;subst sN;have jM:=oG.symm;clear oG;subst jM;clear a8 S6 D5;have pV:=HC.out.size;have D0:=qZ (j6.out.trans (HC.out.mono l6));obtain⟨mp,aA⟩:∃x,x=n6.length:=⟨_,rfl⟩
 have uU:=qZ aA;rw[<-aA] at n4 tL⊢;obtain⟨ab,ao,e5,_,J9,D7⟩:=(RdF.of_own (F:=fun _=>True) n4.out.row (fun _ _ _=>trivial)) (by simp);subst e5;have r0:wc.cell? ⟨ab,ao+mp,none⟩=some (.pointer (some ⟨tb,0,none⟩)):=D7 mp _ (by
  rw[mE,List.getElem?_append_right (by rw[lU,aA];exact lR _),lU,aA,Nat.sub_self]
  rfl)
 have sB:((mp+1:Nat):Int)-1=(mp:Int):=by omega
 have pH:(mp:Int)+1-1=(mp:Int):=by omega
 have kH:IntKind.i64.wrap (mp:Int)=(mp:Int):=mH _ (by omega);have eP:mp<mp+1:=by omega
 have P0:(mp:Int)<(mp:Int)+1:=by omega
 have kE:∀q,E q->wc.heap[q]? =w.heap[q]? :=fun q hq=>D0.out.block q (oO.out q hq)
 have oM:=qZ (bJ6 (some ⟨eb,eo,none⟩) rs ce wc (oE.out.keep D0.out.size kE) (fun q hq=>(eE.out q hq).keep D0.out.size kE) (fun q hq=>by have:=oO.out q hq;have:=D0.out.size;omega) (by omega) (fun q hq=>by have:=bW4 O7.out.symm q.e (by rw[S5.out];exact List.mem_map.2 ⟨q,hq,rfl⟩);omega));clear D7 aA kE;go_wp2_with fail
 refine oM.out.mono ?_;rintro e wq ⟨vq,K6,rfl,Q7,S4,lN,dX⟩;obtain⟨Aq,cq,sG,uS,uE,_⟩:=aB2 Q7;subst sG;have pU:K6.length=rs.length:=by have:=congrArg List.length S4;simpa using this
 have oC:=dX.size;obtain⟨D,hD⟩:∃D:Nat->Prop,D=fun x=>wc.heap.size<=x∧x<wq.heap.size:=⟨_,rfl⟩
 have E9:Hid (∀x,D x↔wc.heap.size<=x∧x<wq.heap.size):=qZ (fun x=>by rw[hD]);have V6:Hid (∀q,F q->q<wc.heap.size):=qZ (fun q hq=>by have:=i4.out q hq;have:=D0.out.size;omega);have qY:=qZ (RdF.of_row (F:=D) Q7 (fun k h1 h2=>(E9.out k).2 ⟨h1,h2⟩) (by rw[aC3];omega));have oB:Hid (∀q∈K6,bF9 wq D q.v q.e.b):=qZ (fun q hq=>by
  have h1:=lN q hq;obtain⟨A1,c1,e1,k1,k2,_⟩:=aC5 h1;rw[e1] at h1;exact⟨A1,c1,e1,k1,k2,RdF.of_own h1 (fun k h2 h3=>(E9.out k).2 ⟨h2,h3⟩)⟩)
 have kZ:=qZ ((n4.out.below2 V6.out dX).monoF (F' :=fun x=>F x∨D x) (fun q hq=>.inl hq));have gD:Hid (K6.map aF2.e=l):=qZ (by rw[S5.out];exact S4);have fU:=qZ n4.out.wrlt;have G9:=qZ n4.out.gl;have tJ:Hid (∀e∈l,((-9223372036854775808<=e.ix∧e.ix<=9223372036854775807)∧(-9223372036854775808<=e.tm∧e.tm<=9223372036854775807)∧(-9223372036854775808<=e.kd∧e.kd<=9223372036854775807))∧e.b.length<=65535):=qZ (fun e he=>by
  have h1:=bW4 O7.out.symm e he;rw[S5.out] at he;obtain⟨q,hq,rfl⟩:=List.mem_map.1 he;exact⟨cX.out q hq,h1⟩)
 have P1:=qZ (HC.out.trans (dX.mono pV));have uD:l.length=rs.length:=by rw[S5.out,lU]
 have D3:Hid (∀k,((l.take k).map aD8).flatten.length<=1000000000):=qZ (fun k=>by
  have h1:(l.map aD8).flatten.length=((l.take k).map aD8).flatten.length+((l.drop k).map aD8).flatten.length:=by
   rw[<-lT,<-List.flatten_append,<-mE,List.take_append_drop]
  omega)
 clear Q7 S4 lN dX hD n4 oM pA HC;go_wp2_with fail
 go_loopw [185,15,18,19] (fun i bvv _ _ wr=>∃(k:Nat) (m8:List aF2) (iD gM dM:Value),k<=rs.length∧i=.int .i64 k∧bvv=dM∧Hid (Below w0.heap.size w0 wr)∧Hid (wq.heap.size<=wr.heap.size∧∀x,D x->wr.heap[x]? =wq.heap[x]?)∧Hid (aG3 wr (fun x=>F x∨D x) w.heap.size w0.heap.size gj g (.slice (some ⟨ab,ao,none⟩) (mp+1) c5) t7 o6 G1 al n6 G0 FP tb (aB9 s0 (l.take k)) m8 iD gM dM (bh++((l.take k).map aD8).flatten))∧Hid (∀x,x=tb∨iD.ownBlock=some x∨gM.ownBlock=some x∨dM.ownBlock=some x->x<wc.heap.size∨wq.heap.size<=x)) (fun i _ _ _ _=>rs.length-(intOf i).toNat)
 case atStart=>exact⟨0,kM,vl,ve,bv,by omega,rfl,rfl,P1,qZ ⟨lR _,fun _ _=>rfl⟩,qZ (by simpa[aB9] using kZ.out),qZ (fun x hx=>.inl (fU.out x (by rcases hx with h|h|h|h;exact .inr (.inl h);exact .inr (.inr (.inl h));exact .inr (.inr (.inr (.inl h)));exact .inr (.inr (.inr (.inr (.inl h)))))).2)⟩
 obtain⟨k,m8,iD,gM,dM,hk,rfl,oU,HB,V7,HM,HW⟩:=hrel;have iT:=oU.symm;clear oU;subst iT;clear kZ P1;have S0:=HB.out.size;have uK:=V7.out.1;have bH:=qZ (j6.out.trans (HB.out.mono l6));have D6:Hid (∀q,(F q∨D q)->q<wr.heap.size):=qZ (fun q hq=>by
  rcases hq with hq|hq
  ·have:=V6.out q hq;omega
  have:=((E9.out q).1 hq).2;omega)
 by_cases hlt:k<rs.length
 ·have Q2:k<K6.length:=by omega
  obtain⟨qb,qo,eM,lL,eY,oF⟩:=qY.out (by rw[aC3];omega);subst eM;have kD:wr.heap[qb]? =wq.heap[qb]? :=V7.out.2 qb lL;obtain⟨q,hq⟩:∃q,q=K6[k]:=⟨_,rfl⟩
  have eX:q∈K6:=by rw[hq];exact lX Q2
  have gP:l[k]? =some q.e:=by rw[<-gD.out,List.getElem?_map,lW Q2,hq];rfl
  have R5:=tJ.out q.e (List.mem_of_getElem? gP);have iA:=qZ (oB.out q eX);obtain⟨Av,cv,lE,tV,tT,pJ⟩:=oB.out q eX;have cH:∀j u,(aK2 q)[j]? =some u->j<4->wr.cell? ⟨qb,qo+k*4+j,none⟩=some u:=fun j u hu hj=>(World.cell?_of_block kD).trans (by
   have:=oF (k*4+j) u (by rw[aF4 K6 Q2 hj,<-hq];exact hu)
   rwa[<-Nat.add_assoc] at this)
  have Q5:l.take (k+1)=l.take k++[q.e]:=by rw[List.take_add_one,gP];rfl
  obtain⟨qv,⟨m3,l7,m2,qd⟩⟩:=q;have fP:qv=.slice Av qd.length cv:=lE;subst fP;have tP:wr.cell? ⟨qb,qo+k*4,none⟩=some (.int .i64 m3):=cH 0 (.int .i64 m3) rfl (by omega);have rE:wr.cell? ⟨qb,qo+k*4+1,none⟩=some (.int .i64 l7):=cH 1 (.int .i64 l7) rfl (by omega);have sR:wr.cell? ⟨qb,qo+k*4+2,none⟩=some (.int .i64 m2):=cH 2 (.int .i64 m2) rfl (by omega);have sD:wr.cell? ⟨qb,qo+k*4+3,none⟩=some (.slice Av qd.length cv):=cH 3 (.slice Av qd.length cv) rfl (by omega);have kN:=qZ Q5;have jQ:=qZ R5;have gQ:qd.length<=65535:=R5.2;have qP:Hid (RdF wq D Av (cells qd)):=qZ pJ;obtain⟨wE,eR⟩:∃W,W=wr.alloc (.cells #[.int .i64 m3,.int .i64 l7,.int .i64 m2,.slice Av qd.length cv] 65):=⟨_,rfl⟩
  have iR:Below wr.heap.size wr wE:=by rw[eR];exact(lS _ wr).alloc (lR _) _
  have kS:Blk wE wr.heap.size 65 #[.int .i64 m3,.int .i64 l7,.int .i64 m2,.slice Av qd.length cv]:=by rw[eR];exact Blk.new wr _ _
  have rO:=iR.size;have rT:=qZ eR;have jW:=qZ iR;have U3:=qZ kS;have gS:=kS.lt;clear cH kD oF hq eX gP R5 Q5 lE pJ eR iR kS lL eY;go_upto_region 35 with fail
  rw[<-rT.out];have e0:wE.cell? ⟨wr.heap.size,0,none⟩=some (.int .i64 m3):=U3.out.cell 0;have e1:wE.cell? ⟨wr.heap.size,1,none⟩=some (.int .i64 l7):=U3.out.cell 1;have e2:wE.cell? ⟨wr.heap.size,2,none⟩=some (.int .i64 m2):=U3.out.cell 2;have e3:wE.cell? ⟨wr.heap.size,3,none⟩=some (.slice Av qd.length cv):=U3.out.cell 3;have eE:Hid (RdF wE D Av (cells qd)):=qZ (qP.out.keep (by omega) (fun x hx=>(jW.out.block x (by have:=((E9.out x).1 hx).2;omega)).trans (V7.out.2 x hx)));obtain⟨pp,U1⟩:∃p,p=aD8 ⟨m3,l7,m2,qd⟩:=⟨_,rfl⟩
  have uA:=qZ U1;have oL:Hid (Calls Tryz.prog 65 #[.agg #[.int .i64 m3,.int .i64 l7,.int .i64 m2,.slice Av qd.length cv]] wE fun e w' =>∃v,e=.returned v∧Got w' wE.heap.size v pp∧Below wE.heap.size wE w'):=qZ (by rw[U1];exact cM2 Av ⟨m3,l7,m2,qd⟩ cv wE eE.out.rd (by simp only;omega) jQ.out.1.2.1 jQ.out.1.2.2);obtain⟨bk,X4⟩:∃b,b=bh++((l.take k).map aD8).flatten:=⟨_,rfl⟩
  have tZ:=qZ X4;have sS:bk.length+pp.length<=1001048600:=by
   have h:=D3.out (k+1);rw[kN.out,mE,List.flatten_append,lT] at h;have h2:(([⟨m3,l7,m2,qd⟩]:List aK5).map aD8).flatten.length=pp.length:=by rw[U1];simp
   have h3:(List.map aD8 [(aF2.e {v:=Value.slice Av qd.length cv,e:={ix:=m3,tm:=l7,kd:=m2,b:=qd}})]).flatten.length=pp.length:=h2;rw[h3] at h;rw[X4,lT];omega
  have fB:(aB9 s0 (l.take k)).l.length<=102000000:=by
   rw[(aY4 (l.take k) s0).1,lT,lV];omega
  have mF:m8.length<=102000000:=by
   have h:=congrArg List.length HM.out.tgt.map;rw[lU] at h;omega
  have fI:(aB9 s0 (l.take k)).long<=1001000000000:=by
   rw[bG6];have:=D3.out k;omega
  have cM:Hid (aB9 s0 (l.take (k+1))={aB9 s0 (l.take k) with l:=(aB9 s0 (l.take k)).l++[⟨m3,l7,m2,qd⟩],ends:=(aB9 s0 (l.take k)).ends++[(aB9 s0 (l.take k)).long+(pp.length:Int)]}):=qZ (by rw[kN.out,bE7,U1]);have gE:Hid (bh++((l.take (k+1)).map aD8).flatten=bk++pp):=qZ (by rw[kN.out,X4,U1,mE,List.flatten_append,List.append_assoc];simp);obtain⟨sk,cZ⟩:∃s,s=aB9 s0 (l.take k):=⟨_,rfl⟩
  rw[<-cZ] at HM cM fB fI;rw[<-X4] at HM;clear cZ X4 U1;obtain⟨bU,cW,fJ,_⟩:=aB2 HM.out.tgt.ents;subst fJ;obtain⟨G6,I6,nN,_⟩:=Own.shape HM.out.tgt.ends;rw[lU] at nN;subst nN;obtain⟨rV,E8,fG,_⟩:=HM.out.bytes.shape;subst fG;clear tP rE sR sD;go_wp2_with fail
  refine oL.out.mono ?_;rintro e w5 ⟨v5,rfl,nQ,y8⟩;obtain⟨qT,pL,pR,p1,p2,p3⟩:=nQ.shape;subst pR;have dY:=y8.size;have gJ:=qZ ((HM.out.below2 D6.out jW.out).below2 (fun q hq=>by have:=D6.out q hq;omega) y8);have X8:=qZ (U3.out.below y8 gS);have fQ:=qZ (jW.out.trans (y8.mono rO));have qO:=qZ p3;clear nQ y8 oL e0 e1 e2 e3 p3 U3 eE;go_upto_region 37 with(at_builtin;go_must (refine bB6 rfl (.tmp 191) (.tmp 192) rfl w0.heap.size _ bk rfl gJ.out.bytes w5.heap.size qT pL pp rfl qO.out (by omega) (by omega) ?_;intro v6 w6 S2 Y0 mR;have V0:=qZ S2;have x7:=qZ Y0;have oJ:=qZ mR;clear S2 Y0 mR))
  have jI:=HM.out.wrlt;have nT:∀q,(F q∨D q)->(q=tb∨(Value.slice bU m8.length cW).ownBlock=some q∨(Value.slice G6 sk.ends.length I6).ownBlock=some q∨(Value.slice rV bk.length E8).ownBlock=some q)->False:=fun q hq hx=>by
   have h1:=HW.out q hx;have h2:=jI q (by rcases hx with h|h|h|h;exact .inr (.inl h);exact .inr (.inr (.inl h));exact .inr (.inr (.inr (.inl h)));exact .inr (.inr (.inr (.inr (.inl h)))));rcases hq with hq|hq
   ·have:=i4.out q hq;omega
   have:=(E9.out q).1 hq;omega
  have U4:=qZ nT;have C4:=qZ jI;have dI:=x7.out.size;have z9:=qZ (gJ.out.bytesG (fun q hq=>⟨by have:=D6.out q hq;omega,fun e=>U4.out q hq (.inr (.inr (.inr e)))⟩) x7.out V0.out oJ.out);have t4:=X8.out.grown x7.out (fun e=>by have:=(C4.out wr.heap.size (.inr (.inr (.inr (.inr (.inl e.symm)))))).2;omega);have K5:=z9.out.tgt.blk;have oI:∀W:World,W.cell? ⟨tb,4,none⟩=w6.cell? ⟨tb,4,none⟩->W.heap[wr.heap.size]? =w6.heap[wr.heap.size]? ->W.cell? ⟨tb,4,none⟩=some (.slice G6 sk.ends.length I6)∧W.cell? ⟨wr.heap.size,0,none⟩=some (.int .i64 m3)∧W.cell? ⟨wr.heap.size,1,none⟩=some (.int .i64 l7)∧W.cell? ⟨wr.heap.size,2,none⟩=some (.int .i64 m2)∧W.cell? ⟨wr.heap.size,3,none⟩=some (.slice Av qd.length cv)∧True:=fun W h1 h2=>
   ⟨h1.trans (K5.cell 4),(World.cell?_of_block (w:=w6) h2).trans (t4.cell 0),(World.cell?_of_block (w:=w6) h2).trans (t4.cell 1),(World.cell?_of_block (w:=w6) h2).trans (t4.cell 2),(World.cell?_of_block (w:=w6) h2).trans (t4.cell 3),trivial⟩
  have t3:w6.cell? ⟨tb,3,none⟩=some (.slice bU m8.length cW):=K5.cell 3;have D1:=qZ oI;have eW:=qZ t4;have C6:=qZ K5;have bO:=qZ ((HB.out.trans (fQ.out.mono S0)).grown x7.out (by omega) (fun r hr=>(C4.out r (.inr (.inr (.inr (.inr (.inl hr)))))).1));clear jI nT t4 K5 oI X8 gJ;refine aD4 25 rfl (S:=fun W=>W.cell? ⟨tb,4,none⟩=some (.slice G6 sk.ends.length I6)∧W.cell? ⟨wr.heap.size,0,none⟩=some (.int .i64 m3)∧W.cell? ⟨wr.heap.size,1,none⟩=some (.int .i64 l7)∧W.cell? ⟨wr.heap.size,2,none⟩=some (.int .i64 m2)∧W.cell? ⟨wr.heap.size,3,none⟩=some (.slice Av qd.length cv)∧True) (D1.out _ rfl rfl) (fun hHeld=>?_);refine zU6 0 (k:=?_);refine zU6 1 (k:=?_);refine zU6 2 (k:=?_);refine zU6 3 (k:=?_);refine zU6 4 (k:=?_);refine zU6 6 (k:=?_);refine zU6 9 (k:=?_);refine zU6 10 (k:=?_);refine zU6 11 (k:=?_);refine zU6 12 (k:=?_);refine zU6 13 (k:=?_);refine zU6 15 (k:=?_);refine zU6 16 (k:=?_);simp only[zA,zB,zF,zG,zC,zD,zE];have x6:Below w6.heap.size w6 ((w6.alloc (.cells #[.int .i64 m3,.int .i64 l7,.int .i64 m2,.slice Av qd.length cv] 65)).drew):=aA3 ((lS _ w6).alloc (lR _) _) 1;have T7:=qZ C6.out.lt;have p0:=qZ eW.out.lt;have iG:=x6.block tb T7.out;have nK:=x6.block wr.heap.size p0.out;have rI:(w6.alloc (.cells #[.int .i64 m3,.int .i64 l7,.int .i64 m2,.slice Av qd.length cv] 65)).cell? ⟨tb,3,none⟩=some (.slice bU m8.length cW):=(World.cell?_of_block (w:=w6) iG).trans t3;have Y5:=qZ (D1.out _ (World.cell?_of_block (w:=w6) iG) nK);have mM:=qZ x6;clear iG nK x6;apply dN9
  ·intro key
   refine cY0 5 7 (by simp) (by simp) (by kernel_rfl) (fun K hK=>?_) (fun K hK=>?_)
   ·simp only[zA,zB]
    go_simp;refine hK _ _ (D1.out _ rfl rfl) (fun hHeld=>?_);clear hK K;try simp only[zF,zG,zC,zD,zE]
    refine zW 7 (k:=fun K hK=>?_);simp only[zA,zB];go_simp;refine hK _ _ Y5.out (fun hHeld=>?_);clear hK K;try simp only[zF,zG,zC,zD,zE]
    exact key
   simp only[zA,zB];go_simp;refine hK _ _ Y5.out (fun hHeld=>?_);clear hK K;try simp only[zF,zG,zC,zD,zE]
   refine zW 5 (k:=fun K hK=>?_);simp only[zA,zB];go_simp;refine hK _ _ Y5.out (fun hHeld=>?_);clear hK K;try simp only[zF,zG,zC,zD,zE]
   exact key
  clear t3 rI;obtain⟨w7,L0⟩:∃W,W=(w6.alloc (.cells #[.int .i64 m3,.int .i64 l7,.int .i64 m2,.slice Av qd.length cv] 65)).drew:=⟨_,rfl⟩
  have hHeld:=Y5.out;rw[<-L0] at hHeld⊢;have p9:Hid (Below w6.heap.size w6 w7):=qZ (by rw[L0];exact mM.out);have pB:∀j u,[Value.int .i64 m3,Value.int .i64 l7,Value.int .i64 m2,Value.slice Av qd.length cv][j]? =some u->w7.cell? ((⟨w6.heap.size,0,none⟩:Addr).add j)=some u:=by
   rw[L0];obtain⟨ad,e1,_,h2⟩:=aF9 w6 65 [Value.int .i64 m3,Value.int .i64 l7,Value.int .i64 m2,Value.slice Av qd.length cv] (by simp);injection e1 with e1
   subst e1;exact h2
  have N6:=qZ pB;have T9:=p9.out.size;have oT:=qZ (World.ownsRow.kept z9.out.tgt.ents (aA5 p9.out none) (by generalize(Value.slice bU m8.length cW).ownBlock=o;cases o<;>simp));have gY:=qZ (p9.out.block tb T7.out);have gR:=qZ (p9.out.block wr.heap.size p0.out);clear L0 pB mM Y5;refine zW 8 (k:=fun K hK=>?_);simp only[zA,zB];rw[if_pos (by rfl)];refine aI2 (.tmp 199) (.tmp 201) 40 rfl w0.heap.size 65 (.agg #[.int .i64 0,.int .i64 0,.int .i64 0,.slice none 0 0]) 4 48 Tryz.underlying40 aM3 rfl (by decide) _ m8.length (aA7 m8) rfl oT.out ⟨w6.heap.size,0,none⟩ 1 1 _ rfl rfl N6.out (by simp[Value.oneCell']) (by unfold maxLen;omega) (by omega) (by omega) ?_;intro v8 w8 B5 U7 nU;obtain⟨A8,c8,sP,_⟩:=aB2 B5;subst sP;have oZ:=U7.size;have oR:w8.heap[tb]? =w7.heap[tb]? :=U7.block tb (by have:=T7.out;omega) (fun e=>aB5 z9.out.tgt.ents z9.out.tgt.blk (by decide) e.symm);have mL:w8.heap[wr.heap.size]? =w7.heap[wr.heap.size]? :=U7.block _ (by have:=p0.out;omega) (fun e=>by have:=(C4.out wr.heap.size (.inr (.inr (.inl e.symm)))).2;omega);have S8:=qZ (oR.trans gY.out);have aX:=qZ (mL.trans gR.out);have O2:=World.ownsRow.kept z9.out.tgt.ends (aA5 p9.out none) (by generalize(Value.slice G6 sk.ends.length I6).ownBlock=o;cases o<;>simp);have bD:=qZ (World.ownsRow.kept O2 U7 (jrow_type_ne O2 oT.out (by decide)));have qV:=qZ B5;have fT:=qZ U7;have lH:=qZ nU;have nO:sk.ends.length<=102000001:=by have:=z9.out.num.2.1;omega
  have M0:Hid (Calls Tryz.prog 56 #[.pointer (some ⟨tb,0,none⟩)] w8 fun e w' =>e=.returned (.int .i64 sk.long)∧Below w8.heap.size w8 w'):=qZ (cO2 ((World.cell?_of_block S8.out).trans (C6.out.cell 4)) (by have h:=bD.out;unfold Own;rw[lU] at h⊢;exact h) (fun e=>by have:=z9.out.num.2.1;rw[e] at this;simp at this) (by omega));clear B5 U7 nU oR mL O2 N6;refine hK _ _ (D1.out _ (World.cell?_of_block S8.out) aX.out) (fun hHeld=>?_);clear hK K;try simp only[zF,zG,zC,zD,zE]
  refine zW 14 (k:=fun K hK=>?_);simp only[zA,zB];go_simp;refine M0.out.mono ?_;rintro e w9 ⟨rfl,N4⟩;have fC:=N4.size;have Q6:=qZ ((N4.block tb (by have:=T7.out;omega)).trans S8.out);have O1:=qZ ((N4.block wr.heap.size (by have:=p0.out;omega)).trans aX.out);have bB:=qZ N4;clear N4 M0;refine hK _ _ (D1.out _ (World.cell?_of_block Q6.out) O1.out) (fun hHeld=>?_);clear hK K;try simp only[zF,zG,zC,zD,zE]
  have pS:0<=sk.long:=(z9.out.num.1.ends _ (aW0 (fun e=>by have:=z9.out.num.2.1;rw[e] at this;simp at this))).1;obtain⟨n,hn⟩:∃n,n=sk.long+(pp.length:Int):=⟨_,rfl⟩
  have uL:IntKind.i64.wrap (sk.long+(pp.length:Int))=n:=by rw[hn];exact mH _ (by omega)
  have dN:0<=n∧n<=4611686018427387904:=by omega
  have pW:=qZ hn;clear hn;refine zW 17 (k:=fun K hK=>?_);simp only[zA,zB];go_simp;refine hK _ _ (D1.out _ (World.cell?_of_block Q6.out) O1.out) (fun hHeld=>?_);clear hK K;try simp only[zF,zG,zC,zD,zE]
  refine zW 18 (k:=fun K hK=>?_);simp only[zA,zB];go_simp;obtain⟨t8,J5⟩:∃W,W=w9.alloc (.cells #[.int .i64 n] 3):=⟨_,rfl⟩
  have d8:Below w9.heap.size w9 t8:=by rw[J5];exact(lS _ w9).alloc (lR _) _
  have X5:=d8.size;have M9:Hid (Rd t8 (w9.heap.size+1) (some ⟨w9.heap.size,0,none⟩) [.int .i64 n]):=qZ (by rw[J5];exact aF9 w9 3 [.int .i64 n]);have N9:=qZ ((d8.block tb (by have:=T7.out;omega)).trans Q6.out);have M5:=qZ ((d8.block wr.heap.size (by have:=p0.out;omega)).trans O1.out);have b8:=qZ (bB.out.trans (d8.mono (by omega)));have aB:Hid (Own t8 w0.heap.size 3 (.slice G6 sk.ends.length I6) (sk.ends.map (Value.int .i64))):=qZ (Own.kept bD.out (aA5 b8.out none) (by generalize(Value.slice G6 sk.ends.length I6).ownBlock=o;cases o<;>simp));rw[<-J5];clear J5 d8;refine hK _ _ (D1.out _ (World.cell?_of_block N9.out) M5.out) (fun hHeld=>?_);clear hK K;try simp only[zF,zG,zC,zD,zE]
  refine zW 19 (k:=fun K hK=>?_);simp only[zA,zB];rw[if_pos (by rfl)];refine aK9 (.tmp 206) (.tmp 212) 41 rfl w0.heap.size 3 (.int .i64 0) 8 Tryz.underlying41 bB1 rfl _ (sk.ends.map (Value.int .i64)) rfl aB.out (w9.heap.size+1) (some ⟨w9.heap.size,0,none⟩) 1 1 [.int .i64 n] rfl rfl M9.out (by simp[Value.oneCell']) (by rw[lU];unfold maxLen;omega) (by rw[lU];omega) (by omega) ?_;intro uR o5 o8 g8 X3;obtain⟨mU,nJ,aY,_⟩:=Own.shape o8;rw[lT,lU] at aY;subst aY;have X7:=g8.size;have aS:o5.heap[tb]? =t8.heap[tb]? :=g8.block tb (by have:=T7.out;omega) (fun e=>aB5 z9.out.tgt.ends z9.out.tgt.blk (by decide) e.symm);have bI:o5.heap[wr.heap.size]? =t8.heap[wr.heap.size]? :=g8.block _ (by have:=p0.out;omega) (fun e=>by have:=(C4.out wr.heap.size (.inr (.inr (.inr (.inl e.symm))))).2;omega);have C1:Blk o5 tb 104 _:=(aS.trans N9.out).trans C6.out;have g3:o5.cell? ⟨tb,3,none⟩=some (.slice bU m8.length cW):=C1.cell 3;have z3:o5.frozen? ⟨tb,3,none⟩=false:=C1.frozen 3;have L6:=qZ (bI.trans M5.out);have fE:=qZ C1;have jG:=qZ o8;have R4:=qZ g8;have bX:=qZ X3;have R1:=qZ (D1.out o5 ((C1.cell 4).trans (C6.out.cell 4).symm) L6.out);clear o8 g8 X3 aS bI C1 M9;refine hK _ _ R1.out (fun hHeld=>?_);clear hK K;try simp only[zF,zG,zC,zD,zE]
  refine zW 20 (k:=fun K hK=>?_);simp only[zA,zB];go_simp;refine hK _ _ R1.out (fun hHeld=>?_);clear hK K;try simp only[zF,zG,zC,zD,zE]
  refine zW 21 (k:=fun K hK=>?_);simp only[zA,zB];go_simp;refine hK _ _ R1.out (fun hHeld=>?_);clear hK K;try simp only[zF,zG,zC,zD,zE]
  refine zW 22 (k:=fun K hK=>?_);simp only[zA,zB];go_simp;have P6:=fE.out.set_ 3 (.slice A8 (m8.length+1) c8);have cL:=aA0 o5 tb 3 (.slice A8 (m8.length+1) c8);have g4:(o5.setCell ⟨tb,3,none⟩ (.slice A8 (m8.length+1) c8)).cell? ⟨tb,4,none⟩=some (.slice G6 sk.ends.length I6):=P6.cell 4;have z4:(o5.setCell ⟨tb,3,none⟩ (.slice A8 (m8.length+1) c8)).frozen? ⟨tb,4,none⟩=false:=P6.frozen 4;have sX:=(C4.out tb (.inr (.inl rfl))).2;have P3:=qZ (D1.out _ (g4.trans (C6.out.cell 4).symm) ((cL.block wr.heap.size (by have:=p0.out;omega) (fun e=>by injection e with e;omega)).trans L6.out));clear P6 cL;refine hK _ _ P3.out (fun hHeld=>?_);clear hK K;try simp only[zF,zG,zC,zD,zE]
  refine zW 23 (k:=fun K hK=>?_);simp only[zA,zB];go_simp;refine hK _ _ P3.out (fun hHeld=>?_);clear hK K;try simp only[zF,zG,zC,zD,zE]
  refine zW 24 (k:=fun K hK=>?_);simp only[zA,zB];go_simp;refine hK _ _ P3.out (fun hHeld=>?_);clear hK K;try simp only[zF,zG,zC,zD,zE]
  refine aG6 (t:=25) (by simp) (by kernel_rfl) (by kernel_rfl) (fun K hK=>?_);simp only[zA,zB];go_simp;refine hK _ _ ?_;clear hK K hHeld g3 z3 g4 z4;have dA:Hid (bF9 w6 (fun x=>F x∨D x) (.slice Av qd.length cv) qd):=qZ ((iA.out.keep (by omega) (fun x hx=>by
   have h1:=(E9.out x).1 hx;exact(x7.out.block x (by omega) (fun e=>U4.out x (.inr hx) (.inr (.inr (.inr e.symm))))).trans ((fQ.out.block x (by omega)).trans (V7.out.2 x hx)))).mono (fun x hx=>.inr hx))
  have aD:=qZ (z9.out.entG (q:=⟨.slice Av qd.length cv,⟨m3,l7,m2,qd⟩⟩) (n:=n) (fun x hx=>⟨by have:=D6.out x hx;omega,fun e=>U4.out x hx (.inl e),fun e=>U4.out x hx (.inr (.inl e)),fun e=>U4.out x hx (.inr (.inr (.inl e)))⟩) dA.out p9.out fT.out qV.out lH.out b8.out R4.out jG.out bX.out dN jQ.out.1 (by omega) gQ);have nF:o5.grownBy ((o5.setCell ⟨tb,3,none⟩ (.slice A8 (m8.length+1) c8)).setCell ⟨tb,4,none⟩ (.slice mU (sk.ends.length+1) nJ)) (some tb):=aA4 (aA0 o5 tb 3 _) (aA0 _ tb 4 _) (.inl rfl);have n7:=qZ nF;clear nF;generalize((o5.setCell ⟨tb,3,none⟩ (.slice A8 (m8.length+1) c8)).setCell ⟨tb,4,none⟩ (.slice mU (sk.ends.length+1) nJ))=m7 at aD n7⊢
  go_wp2_with fail
  go_roundw
  case rel=>
   have S3:=n7.out.size;have gH:=bO.out.size;refine⟨k+1,m8++[⟨.slice Av qd.length cv,⟨m3,l7,m2,qd⟩⟩],_,_,_,by omega,by go_num,rfl,qZ ?_,qZ ⟨by omega,fun x hx=>?_⟩,qZ (by rw[cM.out,gE.out,<-pW.out];exact aD.out),qZ (fun x hx=>?_)⟩
   ·exact((((bO.out.trans (p9.out.mono gH)).grown fT.out (by omega) (fun r hr=>(C4.out r (.inr (.inr (.inl hr)))).1)).trans (b8.out.mono (by omega))).grown R4.out (by omega) (fun r hr=>(C4.out r (.inr (.inr (.inr (.inl hr))))).1)).grown n7.out (by omega) (fun r hr=>by injection hr with hr;have:=(C4.out tb (.inr (.inl rfl))).1;omega)
   ·have h1:=(E9.out x).1 hx
    have hn:=fun h=>U4.out x (.inr hx) h
    exact(n7.out.block x (by omega) (fun e=>hn (.inl (by injection e)))).trans ((R4.out.block x (by omega) (fun e=>hn (.inr (.inr (.inl e.symm))))).trans ((b8.out.block x (by omega)).trans ((fT.out.block x (by omega) (fun e=>hn (.inr (.inl e.symm)))).trans ((p9.out.block x (by omega)).trans ((x7.out.block x (by omega) (fun e=>hn (.inr (.inr (.inr e.symm))))).trans ((fQ.out.block x (by omega)).trans (V7.out.2 x hx)))))))
   rcases hx with hx|hx|hx|hx
   ·exact HW.out x (.inl hx)
   ·rcases lH.out with e|⟨y,e,hy⟩
    ·exact HW.out x (.inr (.inl (e▸hx)))
    rw[hx] at e;injection e with e
    exact .inr (by omega)
   ·rcases bX.out with e|⟨y,e,hy⟩
    ·exact HW.out x (.inr (.inr (.inl (e▸hx))))
    rw[hx] at e;injection e with e
    exact .inr (by omega)
   rcases oJ.out x hx with h1|h1
   ·exact HW.out x (.inr (.inr (.inr h1)))
   exact .inr (by omega)
  case measure=>simp[intOf];omega
 obtain rfl:k=rs.length:=by omega
 have aZ:l.take rs.length=l:=List.take_of_length_le (by omega);rw[aZ] at HM;obtain⟨s1,dT⟩:∃s,s=aB9 s0 l:=⟨_,rfl⟩
 obtain⟨B,hB⟩:∃b,b=bh++(l.map aD8).flatten:=⟨_,rfl⟩
 have uF:B.length<=1001048600:=by
  have:=D3.out rs.length;rw[aZ] at this;rw[hB,lT];omega
 rw[<-dT,<-hB] at HM;have J1:Hid (aM6 j d l=if 999999999<s1.k then(1,j,d) else if d.free+fr<(B.length:Int) then(52,j,d) else((aI5 (al++[.app (aA8 s1.k) B,.sync (aA8 s1.k)]) d).1,if(aI5 (al++[.app (aA8 s1.k) B,.sync (aA8 s1.k)]) d).1=0 then {j with segs:=G0++[s1]} else {j with bad:=(aI5 (al++[.app (aA8 s1.k) B,.sync (aA8 s1.k)]) d).1},(aI5 (al++[.app (aA8 s1.k) B,.sync (aA8 s1.k)]) d).2)):=qZ (oP.out.trans (G8.out.trans (by unfold bA8;rw[<-dT,<-hB])));obtain⟨Ab,E8,fG,qN,tY,_⟩:=HM.out.bytes.shape;subst fG;have t0:wr.cell? ⟨tb,0,none⟩=some (.int .i64 s1.k):=HM.out.tgt.blk.cell 0;have cZ:=HM.out.num.2.2.2.2;have mP:=qZ (HM.out.segsAt (fun q hq=>⟨D6.out q hq,fun e=>by
  have h1:=(HM.out.row.lt q e).1;rcases hq with hq|hq
  ·have:=i4.out q hq;omega
  have:=(fU.out q (.inl e)).2;have:=(E9.out q).1 hq;omega⟩))
 have gV:=qZ (HM.out.dvFar (fun q hq e=>by
  have h1:=fU.out q (.inr (.inr (.inr (.inr (.inr e)))));rcases hq with hq|hq
  ·have:=i4.out q hq;omega
  have:=(E9.out q).1 hq;omega))
 have bK:Hid (∀x,_->F x∨w.heap.size<=x):=qZ (fun x hx=>(HM.out.from_ (F0:=F) (fun q hq=>by
  rcases hq with hq|hq
  ·exact .inl hq
  have:=(E9.out q).1 hq;exact .inr (by omega)) x hx).imp id (fun h=>by omega))
 clear dT hB aZ G8;by_cases hmax:999999999<s1.k
 ·have rZ:=qZ (show aM6 j d l=(1,j,d) by rw[J1.out,if_pos hmax])
  go_wp2_with fail
  go_ret
  exact HH.out.same bH.out rZ.out
 obtain⟨_,_,tE,sY⟩:=HH.out.disk.num;have oN:=qZ (HH.out.below bH.out);have I1:=bR8 oN.out.disk (by rw[HH.out.fs];have:=hZ.out.sz;omega);rw[HH.out.fs] at I1;obtain⟨f2,jV⟩:∃x,x=d.room-aB8 d.fs:=⟨_,rfl⟩
 rw[<-jV] at I1;have tF:=gB.out;have qK:=fZ.out;have tR:=aD7 d.fs;have gT:=hZ.out.sz;have tA:IntKind.i64.wrap (f2+fr)=f2+fr:=mH _ (by omega);have nD:=qZ (show d.free=f2 from jV.symm);have V4:=qZ I1;have b0:wr.cell? ⟨w.heap.size,0,none⟩=some (.pointer (some ⟨gj,0,none⟩)):=(B2.out.below HB.out D9).cell 0;have j3:wr.cell? ⟨gj,3,none⟩=some (.pointer (some ⟨g,0,none⟩)):=(D8.out.below HB.out (by omega)).cell 3;clear I1 jV gT tE sY oN;go_wp2_with fail
 refine V4.out.mono ?_;rintro e w8 ⟨rfl,G5⟩;have oZ:=G5.size;have M3:=qZ (HB.out.trans (G5.mono S0));have P9:=qZ (j6.out.trans (M3.out.mono l6));have I2:=qZ G5;clear G5 V4 t0 b0 j3;by_cases hroom:f2+fr<(B.length:Int)
 ·have cI:=qZ (show aM6 j d l=(52,j,d) by rw[J1.out,if_neg (by omega),if_pos (by rw[nD.out];exact hroom)])
  go_wp2_with fail
  go_ret
  exact HH.out.same P9.out cI.out
 have W5:Hid (aM6 j d l=((aI5 (al++[.app (aA8 s1.k) B,.sync (aA8 s1.k)]) d).1,if(aI5 (al++[.app (aA8 s1.k) B,.sync (aA8 s1.k)]) d).1=0 then {j with segs:=G0++[s1]} else {j with bad:=(aI5 (al++[.app (aA8 s1.k) B,.sync (aA8 s1.k)]) d).1},(aI5 (al++[.app (aA8 s1.k) B,.sync (aA8 s1.k)]) d).2)):=qZ (by rw[J1.out,if_neg (by omega),if_neg (by rw[nD.out];omega)]);obtain⟨rQ,sV,gC,_⟩:=HM.out.acts.own.shape;subst gC;have cN:=qZ HM.out.acts.len;have uP:=qZ HM.out.wr;have cE:=qZ HM.out.wrlt;have aZ:=(cE.out tb (.inr (.inl rfl))).2;have s9:=qZ (HM.out.acts.below I2.out);have iU:=qZ (HM.out.bytes.below I2.out (lR _));have lF:=qZ (HM.out.tgt.blk.below I2.out aZ);have V2:=aQ9 HM.out.acts.own HM.out.bytes (by decide);have fR:=qZ V2;have L8:Hid (∀W,Below w0.heap.size w0 W->W.cell? ⟨w.heap.size,0,none⟩=some (.pointer (some ⟨gj,0,none⟩))∧True∧True∧True):=qZ (fun W h=>⟨(B2.out.below h D9).cell 0,trivial,trivial,trivial⟩);have R5:=aN2 s1.k (by omega);have jO:Hid (Below w8.heap.size w8 w8.drew):=qZ (lS _ w8).drew;have O3:=qZ (aS3 tb 0 s1.k (by omega) w8.drew ((lF.out.below jO.out (by omega)).cell 0) (HE.out w8.drew ((P9.out.trans (jO.out.mono (by omega))).mono T4)));obtain⟨nm,B7⟩:∃x,x=aA8 s1.k:=⟨_,rfl⟩
 have dR:=qZ B7;rw[<-B7] at O3 R5;clear B7 J1 oP V2;go_upto_region 43 with fail
 refine wp_region_held_drew (S:=fun W=>W.cell? ⟨w.heap.size,0,none⟩=some (.pointer (some ⟨gj,0,none⟩))∧True∧True∧True) (by kernel_rfl) (L8.out _ M3.out.drew) (fun hHeld=>?_);clear hroom hmax;refine zT 0 (k:=?_);refine zT 1 (k:=?_);refine zT 2 (k:=?_);refine zT 3 (k:=?_);refine zT 5 (k:=?_);refine zT 7 (k:=?_);refine zT 8 (k:=?_);simp only[zA,zB,zF,zG,zC,zD,zE];refine zV 4 (k:=fun K hK=>?_);simp only[zA,zB];go_simp;refine O3.out.mono ?_;rintro e w9 ⟨rfl,N4⟩;have bB:Hid (Below w8.heap.size w8 w9):=qZ (jO.out.trans (N4.mono (lR _)));have fC:=bB.out.size;clear N4 O3;refine hK.out _ _ (L8.out _ (M3.out.trans (bB.out.mono (by omega)))) (fun hHeld=>?_);clear hK K;try simp only[zF,zG,zC,zD,zE]
 refine zV 6 (k:=fun K hK=>?_);simp only[zA,zB];go_simp;refine(show Calls _ _ _ w9 _ from cW9 (gj:=gj) (g:=g) nm (by omega) B Ab E8 qN (by omega) w9).mono ?_;rintro e t8 ⟨vP,rfl,d8,⟨FQ,m0,rfl⟩,_,N2⟩;have X5:=d8.size;have b8:=qZ (bB.out.trans (d8.mono fC));have lG:=qZ (N2 (fun x=>G1 x∨(Value.slice Ab B.length E8).ownBlock=some x∨(w8.heap.size<=x∧x<t8.heap.size)) (fun x h1 h2=>.inr (.inr ⟨by omega,h2⟩)) ((iU.out.below b8.out (lR _)).rdO.mono (fun x hx=>.inr (.inl hx))));have Q3:=qZ (aS3 tb 0 s1.k (by omega) t8 ((lF.out.below b8.out (by omega)).cell 0) (HE.out t8 ((P9.out.trans (b8.out.mono (by omega))).mono T4)));rw[<-dR.out] at Q3;clear d8 N2;refine hK.out _ _ (L8.out _ (M3.out.trans (b8.out.mono (by omega)))) (fun hHeld=>?_);clear hK K;try simp only[zF,zG,zC,zD,zE]
 refine zV 9 (k:=fun K hK=>?_);simp only[zA,zB];go_simp;refine Q3.out.mono ?_;rintro e o5 ⟨rfl,L1⟩;have X7:=L1.size;have Z0:=qZ (b8.out.trans (L1.mono (by omega)));have E6:=qZ L1;clear L1 Q3;refine hK.out _ _ (L8.out _ (M3.out.trans (Z0.out.mono (by omega)))) (fun hHeld=>?_);clear hK K;try simp only[zF,zG,zC,zD,zE]
 refine zV 10 (k:=fun K hK=>?_);simp only[zA,zB];go_simp;refine(show Calls _ _ _ o5 _ from bT7 (gj:=gj) (g:=g) nm (by omega) o5).mono ?_;rintro e o7 ⟨vS,rfl,J8,⟨FS,l8,rfl⟩,_,L5⟩;have qQ:=J8.size;have Y4:=qZ (Z0.out.trans (J8.mono (by omega)));have p4:=qZ (E6.out.trans (J8.mono X7));have kU:=qZ (L5 (fun x=>G1 x∨(Value.slice Ab B.length E8).ownBlock=some x∨(w8.heap.size<=x∧x<o7.heap.size)) (fun x h1 h2=>.inr (.inr ⟨by omega,h2⟩)));have eA:=s9.out.lt;have J7:=iU.out.row.lt;have Z6:=qZ ((lG.out.keep p4.out.size (fun x hx=>p4.out.block x (by
  rcases hx with hx|hx|hx
  ·have:=eA x hx;omega
  ·have:=J7 x hx;omega
  exact hx.2))).mono (E' :=fun x=>G1 x∨(Value.slice Ab B.length E8).ownBlock=some x∨(w8.heap.size<=x∧x<o7.heap.size)) (fun x hx=>hx.imp id (fun h=>h.imp id (fun h=>⟨h.1,by omega⟩))))
 clear J8 L5 lG E6 p4;refine hK.out _ _ (L8.out _ (M3.out.trans (Y4.out.mono (by omega)))) (fun hHeld=>?_);clear hK K;try simp only[zF,zG,zC,zD,zE]
 refine zV 11 (k:=fun K hK=>?_);simp only[zA,zB];go_simp;obtain⟨wF,dL⟩:∃W,W=o7.alloc (.cells #[.func (.func FQ) #[] m0,.func (.func FS) #[] l8] 98):=⟨_,rfl⟩
 have I7:Below o7.heap.size o7 wF:=by rw[dL];exact(lS _ o7).alloc (lR _) _
 have pX:=I7.size;have U6:Hid (Rd wF (o7.heap.size+1) (some ⟨o7.heap.size,0,none⟩) [.func (.func FQ) #[] m0,.func (.func FS) #[] l8]):=qZ (by rw[dL];exact aF9 o7 98 [.func (.func FQ) #[] m0,.func (.func FS) #[] l8]);rw[<-dL];have G2:=qZ (Y4.out.trans (I7.mono (by omega)));have B1:=qZ I7;have R2:=qZ (s9.out.below G2.out);clear dL I7;refine hK.out _ _ (L8.out _ (M3.out.trans (G2.out.mono (by omega)))) (fun hHeld=>?_);clear hK K;try simp only[zF,zG,zC,zD,zE]
 refine zV 12 (k:=fun K hK=>?_);simp only[zA,zB];rw[if_pos (by rfl)];refine aK9 (.tmp 237) (.tmp 247) 110 rfl w0.heap.size 98 .nilFunc 8 Tryz.underlying110 aP2 rfl _ o6 rfl R2.out.own (o7.heap.size+1) (some ⟨o7.heap.size,0,none⟩) 2 2 [.func (.func FQ) #[] m0,.func (.func FS) #[] l8] rfl rfl U6.out (by simp[Value.oneCell']) (by unfold maxLen;omega) (by omega) (by omega) ?_;intro qS K0 i6 C7 dB;have qF:=C7.size;have nZ:=s9.out.own.lt;have n8:aM5 K0 (fun x=>G1 x∨(Value.slice Ab B.length E8).ownBlock=some x∨(w8.heap.size<=x∧x<o7.heap.size)) w0.heap.size gj g qS (o6++[.func (.func FQ) #[] m0,.func (.func FS) #[] l8]) (al++[.app nm B,.sync nm]):=by
  refine aM5.pushes R2.out rfl (fun i h1 h2=>?_) (by simp[Value.oneCell']) (fun x hx=>.inl hx) (fun x hx=>?_) (fun r hr hx=>?_) C7 dB i6
  ·have hi:i<2:=h1
   have kQ:∀x,(G1 x∨(Value.slice Ab B.length E8).ownBlock=some x∨(w8.heap.size<=x∧x<o7.heap.size))->x<o7.heap.size:=fun x hx=>by
    rcases hx with hx|hx|hx
    ·have:=eA x hx;omega
    ·have:=J7 x hx;omega
    exact hx.2
   rcases(by omega:i=0∨i=1) with rfl|rfl
   ·exact Z6.out.keep B1.out.size (fun x hx=>B1.out.block x (kQ x hx))
   exact kU.out.keep B1.out.size (fun x hx=>B1.out.block x (kQ x hx))
  ·rcases hx with hx|hx|hx
   ·have:=eA x hx;omega
   ·have:=J7 x hx;omega
   omega
  rcases hx with hx|hx|hx
  ·exact s9.out.apart r hr hx
  ·rcases fR.out with h1|h1
   ·rw[h1] at hr;cases hr
   exact h1 (hr.trans hx.symm)
  have:=(nZ r hr).2;omega
 have J4:=qZ (M3.out.trans ((G2.out.mono (by omega)).trans ((lS _ wF).grown C7 (by omega) (fun r hr=>(nZ r hr).1))));obtain⟨fH,bT⟩:∃v:List Value,v=o6++[.func (.func FQ) #[] m0,.func (.func FS) #[] l8]:=⟨_,rfl⟩
 rw[<-bT] at n8 i6;clear bT;obtain⟨iX,fD,jE,_,_,_⟩:=i6.shape;subst jE;have qL:=qZ n8;have l9:=qZ (j6.out.trans (J4.out.mono l6));have mW:∀x,((G1 x∨(Value.slice Ab B.length E8).ownBlock=some x∨(w8.heap.size<=x∧x<o7.heap.size))∨(Value.slice iX fH.length fD).ownBlock=some x)->(F x∨w.heap.size<=x)∧x<K0.heap.size:=fun x hx=>by
  rcases hx with(hx|hx|hx)|hx
  ·have:=eA x hx
   exact⟨G9.out x hx,by omega⟩
  ·have:=J7 x hx
   have:=iU.out.row.base x hx;exact⟨.inr (by omega),by omega⟩
  ·exact⟨.inr (by omega),by omega⟩
  have:=i6.lt x hx;exact⟨.inr (by omega),this.2⟩
 have qR:=qZ (HH.out.below l9.out);obtain⟨eO,B8⟩:∃a,a=al++[aD3.app nm B,aD3.sync nm]:=⟨_,rfl⟩
 have aR:eO.length<=1000010:=by
  rw[B8,lT,<-cN.out];simp
  omega
 have uN:aI4 eO<=1001048601:=by
  rw[B8,aN1,cO.out];simp[aI4,aD3.cost]
  omega
 rw[<-B8] at n8;have X6:=aU7 (E:=fun x=>(G1 x∨(Value.slice Ab B.length E8).ownBlock=some x∨(w8.heap.size<=x∧x<o7.heap.size))∨(Value.slice iX fH.length fD).ownBlock=some x) qR.out.disk (D8.out.below J4.out (by omega)) HH.out.lo iX fH eO fD ((bU9 n8.own).mono (fun x hx=>.inr hx)) n8.len (fun k h h' =>(n8.acts k h h').mono (fun x hx=>.inl hx)) (fun x hx=>by
  have h1:=mW x hx;refine⟨h1.2,?_⟩;rcases h1.1 with h2|h2
  ·exact⟨(HH.out.apart x h2).2.2.2,(HH.out.apart x h2).2.2.1⟩
  exact⟨fun hf=>by have:=(HH.out.disk.lt x hf).2;omega,by omega⟩) (fun w' hb' =>HE.out w' ((l9.out.mono T4).trans hb')) (L:=L) (by rw[DkD.eta' d HH.out.fs];exact hZ.out) (by omega) (by omega)
 rw[DkD.eta' d HH.out.fs,<-n8.len] at X6;obtain⟨rc,d3,hR⟩:∃rc d3,aI5 eO d=(rc,d3):=⟨_,_,rfl⟩
 rw[hR] at X6;have dC:Hid (aM6 j d l=(rc,if rc=0 then {j with segs:=G0++[s1]} else {j with bad:=rc},d3)):=qZ (by rw[W5.out,<-dR.out,<-B8,hR]);dsimp only at X6
 have nW:=qZ X6;have aC:Hid (∃F5:Nat->Prop,aL3 K0 F5 w0.heap.size (.slice (some ⟨ab,ao,none⟩) (mp+1) c5) (n6++[⟨tb,0,none⟩]) (G0++[s1])∧∀x,F5 x∨(Value.slice (some ⟨ab,ao,none⟩) (mp+1) c5).ownBlock=some x->F x∨w.heap.size<=x):=qZ (by
  refine⟨_,mP.out.keep' (by omega) (fun x hx=>?_),fun x hx=>?_⟩
  ·have lA:x<wr.heap.size∧(Value.slice rQ o6.length sV).ownBlock≠some x:=by
    refine⟨?_,fun e=>?_⟩
    ·rcases hx with hx|hx
     ·exact mP.out.lt x hx
     exact(cE.out x (.inl hx)).2
    exact gV.out x hx e
   exact(C7.block x (by omega) (fun e=>lA.2 e.symm)).trans ((G2.out.block x (by omega)).trans (I2.out.block x lA.1))
  exact bK.out x hx)
 clear n8 X6 hR B8 i6 C7 dB mW R2 Z6 kU U6 G2 B1 W5;refine hK.out _ _ (L8.out _ J4.out) (fun hHeld=>?_);clear hK K;try simp only[zF,zG,zC,zD,zE]
 refine zV 13 (k:=fun K hK=>?_);simp only[zA,zB];go_simp;refine nW.out.mono ?_;rintro e m7 ⟨rfl,V9,cK,cD,X9,C8,Q4⟩;have S3:=C8.size;have nG:Fr (fun k=>aB1 g m es k∨k=gj) w m7:=(Fr.of_below _ l9.out).trans C8 (fun j hj=>.inl hj);have cA:=qZ nG;have L2:=qZ cK;have Z2:=qZ cD;have q8:=qZ X9;have T3:=qZ (show∀k,aB1 g m V9 k->aB1 g m es k∨K0.heap.size<=k from Q4);obtain⟨F5,J0,kW⟩:=aC.out;have B4:Hid (∀x,F5 x∨(Value.slice (some ⟨ab,ao,none⟩) (mp+1) c5).ownBlock=some x->m7.heap[x]? =K0.heap[x]? ∧(F x∨w.heap.size<=x)∧x<K0.heap.size∧x≠gj∧¬aB1 g m V9 x):=qZ (fun x hx=>by
  have h1:(F x∨w.heap.size<=x)∧x<K0.heap.size:=by
   refine⟨kW x hx,?_⟩;rcases hx with hx|hx
   ·exact J0.lt x hx
   exact(J0.own.lt x hx).2
  have h2:x≠gj∧¬aB1 g m es x:=by
   rcases h1.1 with h3|h3
   ·exact(HH.out.apart x h3).2.2
   exact⟨by omega,fun hf=>by have:=(HH.out.disk.lt x hf).2;omega⟩
  refine⟨C8.block x h1.2 (by rintro(h3|h3);exact h2.2 h3;exact h2.1 h3),h1.1,h1.2,h2.1,fun hf=>?_⟩;rcases Q4 x hf with h3|h3
  ·exact h2.2 h3
  omega)
 have Q9:=qZ (J0.keep' S3 (fun x hx=>(B4.out x hx).1));have mT:m7.heap[w.heap.size]? =K0.heap[w.heap.size]? :=C8.block _ (by omega) (by rintro(h3|h3);(have:=(HH.out.disk.lt _ h3).2;omega);omega);have mS:m7.cell? ⟨w.heap.size,0,none⟩=some (.pointer (some ⟨gj,0,none⟩)):=(World.cell?_of_block mT).trans (L8.out K0 J4.out).1;have j2:m7.cell? ⟨gj,2,none⟩=some (.slice A nl c):=q8.out.cell 2;have j4:m7.cell? ⟨gj,4,none⟩=some (.int .i64 rc):=q8.out.cell 4;have z2:m7.frozen? ⟨gj,2,none⟩=false:=q8.out.frozen _;have cS:mp+1=(G0++[s1]).length:=by
  have h1:=Q9.out.own.shape;obtain⟨_,_,e1,_⟩:=h1;injection e1 with _ e1 _
  rw[e1,lU,Q9.out.len]
 clear cK cD X9 C8 Q4 nG nW J0 kW mT;refine hK.out _ _ ⟨mS,trivial,trivial,trivial⟩ (fun hHeld=>?_);clear hK K;try simp only[zF,zG,zC,zD,zE]
 refine zT 14 (k:=?_);simp only[zA,zB,zF,zG,zC,zD,zE];refine wpAnyH_done (by kernel_rfl) ?_ _;clear hHeld;have jU:=qZ cS;clear cS;by_cases hz:rc=0
 ·subst hz
  have cI:=qZ (dC.out.trans (by rw[if_pos rfl]:_=((0:Int),(⟨j.term,j.vote,G0++[s1],j.bad⟩:JnP),d3)));clear dC;have q6:=aA0 m7 gj 2 (.slice (some ⟨ab,ao,none⟩) (mp+1) c5);have eV:=q8.out.set_ 2 (.slice (some ⟨ab,ao,none⟩) (mp+1) c5);have tW:(m7.setCell ⟨gj,2,none⟩ (.slice (some ⟨ab,ao,none⟩) (mp+1) c5)).cell? ⟨w.heap.size,0,none⟩=some (.pointer (some ⟨gj,0,none⟩)):=(World.cell?_of_block (q6.block w.heap.size (by omega) (fun e=>by injection e with e;omega))).trans mS;have j5:(m7.setCell ⟨gj,2,none⟩ (.slice (some ⟨ab,ao,none⟩) (mp+1) c5)).cell? ⟨gj,4,none⟩=some (.int .i64 0):=eV.cell 4;have rM:=qZ eV;have n7:=qZ q6;clear q6 eV;go_wp2_with fail
  go_ret
  have pM:∀k,(Value.slice (some ⟨ab,ao,none⟩) (mp+1) c5).ownBlock=some k->k≠gj:=fun k hk=>(B4.out k (.inr hk)).2.2.2.1
  have rU:=Q9.out.other n7.out (by
   cases hq:(Value.slice (some ⟨ab,ao,none⟩) (mp+1) c5).ownBlock with
   |none=>exact .inl rfl
   |some q=>exact .inr (fun e=>by injection e with e;exact pM q hq e)) (fun r hr hx=>by injection hr with hr;exact(B4.out r (.inl hx)).2.2.2.1 hr.symm)
  have sK:=rU.jat0 (t:=j.term) (v:=j.vote) (bad:=j.bad) (gj:=gj) (g:=g) (by have h:=rM.out;rw[<-U8.out];exact h) (by rw[<-jU.out];omega) dP.out.1 dP.out.2;exact HH.out.acted (es2:=V9) (F' :=fun x=>F5 x∨(Value.slice (some ⟨ab,ao,none⟩) (mp+1) c5).ownBlock=some x) (cA.out.trans (Fr.of_grown (mine:=fun k=>k=gj) n7.out (fun k e=>by injection e with e;exact e.symm)) (fun k hk=>.inl (.inr hk))) (L2.out.keep n7.out.size (fun k hk=>n7.out.block k (L2.out.lt k hk).2 (fun e=>by injection e with e;subst e;exact L2.out.not_foot q8.out (by decide) (by decide) (by decide) hk))) Z2.out (fun k hk=>(T3.out k hk).imp id (fun h=>by have:=l9.out.size;omega)) sK (fun x hx=>⟨(B4.out x hx).2.1,by have:=(B4.out x hx).2.2.1;have:=n7.out.size;omega,(B4.out x hx).2.2.2⟩) T4 cI.out
 have tM:(rc==0)=false:=by simpa using hz
 have cI:=qZ (dC.out.trans (by rw[if_neg hz]:_=(rc,(⟨j.term,j.vote,j.segs,rc⟩:JnP),d3)));clear dC hz;go_wp2_with fail
 go_ret
 obtain⟨sv,sM,sW⟩:=HH.out.jn.turn;have N7:sv=.slice A nl c:=by
  have e0:=j6.out.block gj nC;have e:=sM.symm.trans (e0.symm.trans D8.out);injection e with e
  injection e with e _ _
  have e2:=congrArg (fun a:Array Value=>a[2]?) e
  simpa using e2
 subst N7;have mN:∀k,F k->m7.heap[k]? =w.heap[k]? ∧k<m7.heap.size∧k≠gj∧¬aB1 g m V9 k:=fun k hk=>by
  have h1:=HH.out.apart k hk;have:=cA.out.size;refine⟨cA.out.block k h1.2.1 (by rintro(h3|h3);exact h1.2.2.2 h3;exact h1.2.2.1 h3),by omega,h1.2.2.1,fun hf=>?_⟩;rcases T3.out k hf with h3|h3
  ·exact h1.2.2.2 h3
  have:=l9.out.size;omega
 exact HH.out.acted (es2:=V9) (F' :=F) cA.out L2.out Z2.out (fun k hk=>(T3.out k hk).imp id (fun h=>by have:=l9.out.size;omega)) (sW m7 j.term j.vote rc cA.out.size (fun k hk=>(mN k hk).1) q8.out dP.out.1 dP.out.2) (fun k hk=>⟨.inl hk,(mN k hk).2⟩) T4 cI.out
end Go.Proofs.YtgeofijddhflaaaGreatDoor
