/- journal.Save: what it holds on its way, in memory: the segments that stay, the one that is written, the acts. No condition. -/
import Derived.Test.YtgeofijddhflaaaGreatDoorQJnSort
import Derived.Test.YtgeofijddhflaaaGreatDoorQDiskFiles
import Derived.Test.YtgeofijddhflaaaGreatDoorQJnMk
set_option maxHeartbeats 8000000
set_option maxRecDepth 100000
namespace Go.Proofs.YtgeofijddhflaaaGreatDoor
section
open Go.RowKit Go.Maps Oct
theorem cV8{w:World}{base g m:Nat}{p:PWD}{room:Int}{es:List (Nm×FE)}(h:aB4 w base g m p room es)(hl:es.length<=1099511627776)(hn:∀q∈es,q.1.length<=1000)(o8:∀q∈es,q.2.f.b.length<=1000000000)(q8:p.off=false)(hE:dA6 w):
    Calls Tryz.prog 50 #[.pointer (some ⟨g,0,none⟩)] w fun e w' =>Below w.heap.size w w' ∧∃v,e=.returned (.tuple #[v,.bool (aM4 (aD6 p room es)).isSome])∧
      ∀l,aM4 (aD6 p room es)=some l->∃a9:List aG5,w'.ownsRow w.heap.size 106 6 v a9.length (aJ8 a9)∧a9.map aG5.o=l∧∀q∈a9,aV3 w' w.heap.size q:=by
  have G4:=qZ (bB7 h (by omega));have H:=qZ h;have HE:=qZ hE;have I5:=qZ hn;have x5:=qZ o8;have C2:=qZ q8;have I8:=qZ h.rising;clear h hE hn o8 q8;go_enter Tryz.func50,Tryz.ntmps50
  go_wp2_with fail
  refine G4.out.mono ?_;rintro e w1 ⟨v1,rfl,D7,t8⟩;obtain⟨A1,c1,rfl,l9,m2,D0⟩:=D7.shape;rw[lU] at l9;rw[lU];have f7:=t8.size;have J7:=qZ D0;have b8:=qZ t8;clear D0 D7 t8 G4;go_upto_block 0 with fail
  go_cut [4] from 4 to 43 (fun v wx=>∃a9:List aG5,a9.length<=es.length∧Hid (wx.ownsRow w1.heap.size 106 6 v a9.length (aJ8 a9))∧Hid (aD0 (sec FE.f es)=some (a9.map aG5.o))∧Hid (∀q∈a9,aV3 wx w1.heap.size q)∧Hid (Below w1.heap.size w1 wx))
  case first=>
   go_wp2_with fail
   go_loopw [17,4,6,7,8,9,10,11] (fun i v _ _ _ _ _ _ wr=>∃(k:Nat) (a9:List aG5),k<=es.length∧i=.int .i64 k∧a9.length<=k∧Hid (wr.ownsRow w1.heap.size 106 6 v a9.length (aJ8 a9))∧Hid (aD0 ((sec FE.f es).take k)=some (a9.map aG5.o))∧Hid (∀q∈a9,aV3 wr w1.heap.size q)∧Hid (Below w1.heap.size w1 wr)) (fun i _ _ _ _ _ _ _ _=>es.length-(intOf i).toNat)
   case atStart=>exact⟨0,[],by omega,rfl,lR _,qZ (World.ownsRow_nil _ _ _ _),qZ rfl,qZ (fun q hq=>by cases hq),qZ (lS _ _)⟩
   obtain⟨k,a9,hk,rfl,j8,HO,HL,HF,HB⟩:=hrel;have g8:=HB.out.size;obtain⟨Av,cv,hv,hx⟩:=aB2 HO.out;subst hv;clear hx;by_cases hlt:k<es.length
   rotate_left
   · obtain rfl:k=es.length:=by omega
     rw[List.take_of_length_le (by simp)] at HL;go_wp2_with fail
     go_meet;exact⟨a9,j8,HO,HL,HF,HB⟩
   obtain⟨ad,rfl,L8,B5⟩:=(J7.out.below HB.out).at_ (k:=k) (by rw[lU];exact hlt);rw[List.getElem_map] at B5;have o7:=lX hlt;obtain⟨nm,p8⟩:∃nm,nm=es[k].1:=⟨_,rfl⟩
   obtain⟨fb,o8⟩:∃fb,fb=es[k].2.f.b:=⟨_,rfl⟩
   obtain⟨kn,m6⟩:∃kn,kn=cB5 nm:=⟨_,rfl⟩
   have L1:fb.length<=1000000000:=by rw[o8];exact x5.out _ o7
   have L6:nm.length<=1000:=by rw[p8];exact I5.out _ o7
   have E7:0<=kn∧kn<=999999999:=by rw[m6];exact bE3 nm
   have n4:(sec FE.f es).take (k+1)=(sec FE.f es).take k++[(nm,es[k].2.f)]:=by
     rw[List.take_add_one,lW (by simpa using hlt),p8];unfold sec;rw[List.getElem_map]
     rfl
   have m7:aD0 ((sec FE.f es).take (k+1))=if kn=0 then some (a9.map aG5.o) else(aD9 kn fb).map fun s=>a9.map aG5.o++[s]:=by
     rw[n4,aQ3,HL.out,m6,o8]
     rfl
   have t4:=qZ m7;have p0:(aD6 p room es).read nm=(fb,0):=by
     have B9:aB6 nm (sec FE.f es)=some es[k].2.f:=by
       rw[aH6,p8,bU5 I8.out hlt]
       rfl
     unfold DkD.read;rw[if_neg (by rw[show(aD6 p room es).pw.off=p.off from rfl,C2.out];simp)];rw[show(aD6 p room es).fs=sec FE.f es from rfl,B9,o8]
   have L3:(str nm).size=nm.length:=aK1 nm;have B6:=qZ (cC1 (str nm) (by omega) wr ((HE.out.below b8.out).below HB.out));rw[show(str nm).data.toList=nm from by simp[str],<-m6] at B6;have C7:=qZ ((H.out.below b8.out).below HB.out);rw[<-p8] at B5;have n6:=qZ p0;clear m7 p0 n4 o7 m6 o8 p8;go_wp2_with fail
   refine B6.out.mono ?_;rintro e w2 ⟨rfl,o9⟩;have g9:=o9.size;have x6:=qZ (C7.out.below o9);have m8:=qZ (HB.out.trans (o9.mono g8));have x7:=qZ (aE6 HO.out o9);have p4:=qZ (fun q hq=>(HF.out q hq).below o9);clear o9 C7 HB HO HF B6 B5;by_cases h0:kn=0
   · subst h0
     have n8:=qZ (t4.out.trans (if_pos rfl));clear t4 n6 x6;go_wp2_with fail
     go_roundw
     case rel=>exact⟨k+1,a9,by omega,by go_num,by omega,x7,n8,p4,m8⟩
     case measure=>simp[intOf];omega
   have n8:=qZ (t4.out.trans (if_neg h0));clear t4;have t9:=qZ (bN2 x6.out (str nm) (by omega) (fun q hq=>by have:=x5.out q hq;omega));rw[show(str nm).data.toList=nm from by simp[str],n6.out] at t9;clear x6 n6;go_wp2_with fail
   refine t9.out.mono ?_;rintro e w3 ⟨v3,rfl,G7,p9⟩;obtain⟨A3,c3,rfl,q1,q2,q3⟩:=aC5 G7;have i6:=p9.size;have l4:=qZ (m8.out.trans (p9.mono (by have:=m8.out.size;omega)));have D9:=qZ (aE6 x7.out p9);have D1:=qZ (fun q hq=>(p4.out q hq).below p9);have G0:=qZ (cW0 kn (by omega) A3 fb c3 w3 (q3.more (by omega)) q1 (by omega) (by omega));clear p9 G7 q3 m8 x7 p4 t9;go_wp2_with fail
   refine G0.out.mono ?_;rintro e w4 ⟨s9,v4,rfl,⟨a1,a2,a3,Al,nl,cl,Ae,ne,ce,tn,rfl⟩,hS⟩;have K6:=s9.size;have n9:=qZ (l4.out.trans (s9.mono (by have:=l4.out.size;omega)));have y8:=qZ (aE6 D9.out s9);have C1:=qZ (fun q hq=>(D1.out q hq).below s9);have B7:=qZ hS;clear hS l4 D9 D1 G0;rcases hrs:aD9 kn fb with _|⟨sg,G2⟩
   · rw[hrs] at n8
     have J2:=qZ hrs;clear hrs B7;have D8:aM4 (aD6 p room es)=none:=by
       have h1:=aY1 (r:=(sec FE.f es).drop (k+1)) n8.out;rw[List.take_append_drop] at h1;unfold aM4;rw[show(aD6 p room es).fs=sec FE.f es from rfl,h1]
     have f9:=qZ (b8.out.trans ((n9.out.trans ((lS _ w4).alloc (by have:=n9.out.size;omega) (.cells #[.int .i64 a1,.int .i64 a2,.int .i64 a3,.slice Al nl cl,.slice Ae ne ce,.bool tn] 106))).mono f7));have E6:=qZ D8;clear D8 n8 n9 C1 y8;go_wp2_with fail
     go_ret2
     exact⟨f9.out,_,by rw[E6.out];rfl,fun l h=>by rw[E6.out] at h;cases h⟩
   obtain⟨G,rs,vl,ve,hG,t7,hv,G6,K8,K9,L4,L5⟩:=B7.out sg G2 hrs;injection hv with hv
   have e1:Value.int .i64 a1=.int .i64 sg.k:=by have:=congrArg (fun a:Array Value=>a[0]?) hv;simpa using this
   have e2:Value.int .i64 a2=.int .i64 sg.first:=by have:=congrArg (fun a:Array Value=>a[1]?) hv;simpa using this
   have e3:Value.int .i64 a3=.int .i64 sg.term:=by have:=congrArg (fun a:Array Value=>a[2]?) hv;simpa using this
   have e4:Value.slice Al nl cl=vl:=by have:=congrArg (fun a:Array Value=>a[3]?) hv;simpa using this
   have e5:Value.slice Ae ne ce=ve:=by have:=congrArg (fun a:Array Value=>a[4]?) hv;simpa using this
   have e6:Value.bool tn=.bool G2:=by have:=congrArg (fun a:Array Value=>a[5]?) hv;simpa using this
   injection e1 with _ e1
   injection e2 with _ e2
   injection e3 with _ e3
   injection e6 with e6
   subst e1 e2 e3 e4 e5 e6;have L2:=qZ G6;clear G6;obtain⟨_,_,e7,_⟩:=aB2 t7.ents;injection e7 with x1 e7 x2
   subst x1 e7 x2;obtain⟨_,_,e8,_⟩:=Own.shape t7.ends;injection e8 with x1 e8 x2
   rw[lU] at e8;subst x1 e8 x2;rw[hrs] at n8;have I7:=qZ t7;have J2:=qZ hrs;have L7:w3.heap.size<=G:=hG;clear hrs B7 t7 hv;obtain⟨q,hq⟩:∃q:aG5,q=⟨sg,tn,Al,cl,Ae,ce,rs⟩:=⟨_,rfl⟩
   have G8:q.o=(sg,tn):=by rw[hq];rfl
   have G3:bA1 q=[.int .i64 sg.k,.int .i64 sg.first,.int .i64 sg.term,.slice Al rs.length cl,.slice Ae sg.ends.length ce,.bool tn]:=by rw[hq];rfl
   have I1:aV3 w4 w1.heap.size q:=by
     have h1:=aV3.of_sg (tn:=tn) I7.out;rw[hq];exact h1.mono (by have:=n9.out.size;omega)
   have I6:=qZ G8;have K4:=qZ G3;have D5:=qZ I1;clear hq G8 G3 I1;have o6:Below w4.heap.size w4 ((w4.alloc (.cells #[.int .i64 sg.k,.int .i64 sg.first,.int .i64 sg.term,.slice Al rs.length cl,.slice Ae sg.ends.length ce,.bool tn] 106)).alloc (.cells #[.int .i64 sg.k,.int .i64 sg.first,.int .i64 sg.term,.slice Al rs.length cl,.slice Ae sg.ends.length ce,.bool tn] 106)):=((lS _ w4).alloc (lR _) _).alloc (by simp) _;have K5:=qZ o6;have hC:=(aG0 (Blk.new (w4.alloc (.cells #[.int .i64 sg.k,.int .i64 sg.first,.int .i64 sg.term,.slice Al rs.length cl,.slice Ae sg.ends.length ce,.bool tn] 106)) 106 #[.int .i64 sg.k,.int .i64 sg.first,.int .i64 sg.term,.slice Al rs.length cl,.slice Ae sg.ends.length ce,.bool tn]));rw[show(w4.alloc (.cells #[.int .i64 sg.k,.int .i64 sg.first,.int .i64 sg.term,.slice Al rs.length cl,.slice Ae sg.ends.length ce,.bool tn] 106)).heap.size=w4.heap.size+1 from by simp] at hC;have HC:=qZ hC;clear hC;have t6:=qZ (aE6 y8.out o6);have J5:=qZ (fun q hq=>(C1.out q hq).below o6);have J8:=qZ (D5.out.below o6);have I2:=qZ (n9.out.trans (o6.mono (by have:=n9.out.size;omega)));have L0:=o6.size;have J3:=I2.out.size;clear o6 y8 C1 D5 n9
   go_wp2_with (at_builtin;go_must (refine aG7 rfl (.tmp 39) (.tmp 41) 100 rfl w1.heap.size 106 (.agg #[.int .i64 0,.int .i64 0,.int .i64 0,.slice none 0 0,.slice none 0 0,.bool false]) 6 80 Tryz.underlying100 cM7 rfl (by decide) _ a9.length (aJ8 a9) rfl t6.out ⟨w4.heap.size+1,0,none⟩ 1 1 _ rfl rfl HC.out (by simp[Value.oneCell']) (by unfold maxLen;omega) (by omega) (by omega) ?_;intro v6 w6 m5 E5 J0;have K3:=qZ m5;have B2:=qZ E5;clear m5 E5 J0))
   go_roundw
   case rel=>
     have I9:=Below.grown (lS w1.heap.size _) B2.out (by omega) (fun k hk=>(World.ownsRow.lt t6.out k hk).1);refine⟨k+1,a9++[q],by omega,by go_num,by simp;omega,qZ ?_,qZ ?_,qZ ?_,qZ (I2.out.trans I9)⟩
     · rw[lT,bT5]
       have:=K3.out;rw[show aJ8 [q]=bA1 q from by simp[aJ8],K4.out];exact this
     · rw[n8.out,mE,mG,I6.out]
       rfl
     intro x hx;rcases List.mem_append.1 hx with hx|hx
     · exact(J5.out x hx).grown t6.out B2.out
     obtain rfl:=List.mem_singleton.1 hx;exact J8.out.grown t6.out B2.out
   case measure=>simp[intOf];omega
  obtain⟨a9,j8,HO,HL,HF,HB⟩:=hcut;have g8:=HB.out.size;obtain⟨Av,cv,hv,hx⟩:=aB2 HO.out;subst hv;clear hx;have C3:=qZ (cW4 HO.out (by omega));go_wp2_with fail
  refine C3.out.mono ?_;rintro e w2 ⟨rfl,a8,p5,D4,o4,hg⟩;have n5:a9.length=a8.length:=p5.length_eq.symm;have D3:aM4 (aD6 p room es)=if aL1 (a8.map aG5.o)=true then some (a8.map aG5.o) else none:=
    bR0 (d:=aD6 p room es) HL.out (p5.map _) (by rw[List.pairwise_map];exact D4)
  have C4:=qZ D3;have p4:=qZ (fun q (hq:q∈a8)=>(HF.out q (p5.mem_iff.1 hq)).grown HO.out hg);have m8:=qZ (Below.grown HB.out hg g8 (fun k hk=>(World.ownsRow.lt HO.out k hk).1));have J1:=qZ (fun q (hq:q∈a8)=>((aP7 HL.out (fun q hq=>by
    obtain⟨x,hx,rfl⟩:=List.mem_map.1 hq;exact x5.out x hx)).2 q.o (List.mem_map.2 ⟨q,p5.mem_iff.1 hq,rfl⟩)))
  have g9:=m8.out.size;rw[n5] at o4;have I0:=qZ o4;have hN:a8.length<=1099511627776:=by omega
  rw[n5];clear D3 p5 D4 o4 hg HL HF HB HO C3 n5;go_wp2_with fail
  go_loopw [48,12,13] (fun i _ _ wr=>∃k:Nat,k<=a8.length∧i=.int .i64 k∧Hid (∀j (h:j<a8.length),j<k->cZ5 a8 j h)∧Hid (Below w2.heap.size w2 wr)) (fun i _ _ _=>a8.length-(intOf i).toNat)
  case atStart=>exact⟨0,by omega,rfl,qZ (fun j h h0=>by omega),qZ (lS _ _)⟩
  obtain⟨k,hk,rfl,C5,l4⟩:=hrel;have i6:=l4.out.size;by_cases hlt:k<a8.length
  rotate_left
  · obtain rfl:k=a8.length:=by omega
    have p7:aM4 (aD6 p room es)=some (a8.map aG5.o):=by
      rw[C4.out,if_pos ((cA9 a8).2 fun j h=>C5.out j h h)]
    have HY:=qZ p7;have z8:=qZ (b8.out.trans ((m8.out.trans (l4.out.mono g9)).mono f7));clear p7;go_wp2_with fail
    go_ret2
    refine⟨z8.out,_,by rw[HY.out];rfl,fun l h=>?_⟩;rw[HY.out] at h;injection h with h
    subst h;exact⟨a8,aV8 (aE6 I0.out l4.out) f7,rfl,fun q hq=>((p4.out q hq).below l4.out).mono f7⟩
  obtain⟨A,c,hv,l8,hc,h3⟩:=aB2 (aE6 I0.out l4.out);obtain⟨gr,L9,rfl,m3,l6,l7,m0,m4⟩:=h3 (by omega);injection hv with hv hv2 hv'
  subst hv hv';clear hv2;have d9:∀i (hi:i<a8.length) j,j<6->(aJ8 a8)[i*6+j]? =(bA1 a8[i])[j]? :=fun i hi j hj=>bL8 a8 hi hj
  have c0:wr.cell? ⟨gr,k*6,none⟩=some (.int .i64 a8[k].s.k):=m4 _ _ (d9 k hlt 0 (by omega));have c1:wr.cell? ⟨gr,k*6+1,none⟩=some (.int .i64 a8[k].s.first):=m4 _ _ (d9 k hlt 1 (by omega));have c2:wr.cell? ⟨gr,k*6+2,none⟩=some (.int .i64 a8[k].s.term):=m4 _ _ (d9 k hlt 2 (by omega));have c3:wr.cell? ⟨gr,k*6+3,none⟩=some (.slice a8[k].al a8[k].rs.length a8[k].cl):=m4 _ _ (d9 k hlt 3 (by omega));have c4:wr.cell? ⟨gr,k*6+4,none⟩=some (.slice a8[k].ae a8[k].s.ends.length a8[k].ce):=m4 _ _ (d9 k hlt 4 (by omega));have c5:wr.cell? ⟨gr,k*6+5,none⟩=some (.bool a8[k].tn):=m4 _ _ (d9 k hlt 5 (by omega));have m6:=J1.out a8[k] (lX hlt);have E7:1<=a8[k].s.k∧a8[k].s.k<=999999999:=m6.2.1;obtain⟨ek,x8⟩:∃x,x=a8[k].s.k:=⟨_,rfl⟩
  obtain⟨tk,B1⟩:∃x,x=a8[k].tn:=⟨_,rfl⟩
  obtain⟨nk,x4⟩:∃x,x=a8[k].s.ends.length:=⟨_,rfl⟩
  obtain⟨B,hB⟩:∃B:Bool,B=false↔cZ5 a8 k hlt:=by
    by_cases hh:cZ5 a8 k hlt
    · exact⟨false,by simp[hh]⟩
    exact⟨true,by simp[hh]⟩
  have d8:=qZ hB;have i4:=qZ x8;have f8:=qZ B1;have j9:=qZ x4;obtain⟨xf,I3⟩:∃x,x=a8[k].s.first:=⟨_,rfl⟩
  obtain⟨xt,C6⟩:∃x,x=a8[k].s.term:=⟨_,rfl⟩
  obtain⟨xl,D6⟩:∃x,x=a8[k].al:=⟨_,rfl⟩
  obtain⟨xn,C8⟩:∃x,x=a8[k].rs.length:=⟨_,rfl⟩
  obtain⟨xm,I4⟩:∃x,x=a8[k].cl:=⟨_,rfl⟩
  obtain⟨xa,E9⟩:∃x,x=a8[k].ae:=⟨_,rfl⟩
  obtain⟨xc,E8⟩:∃x,x=a8[k].ce:=⟨_,rfl⟩
  rw[<-I3] at c1;rw[<-C6] at c2;rw[<-D6,<-C8,<-I4] at c3;rw[<-E9,<-E8] at c4;clear I3 C6 D6 C8 I4 E9 E8;rw[<-x8] at c0 E7;rw[<-B1] at c5;rw[<-x4] at c4;have l5:=qZ m6;have j6:=qZ m4;clear x8 B1 x4 hB m6 m4;go_upto_region 17 with fail
  have B4:Below wr.heap.size wr (wr.alloc (.cells #[.int .i64 ek,.int .i64 xf,.int .i64 xt,.slice xl xn xm,.slice xa nk xc,.bool tk] 106)):=(lS _ wr).alloc (lR _) _;have q6:=Blk.new wr 106 #[.int .i64 ek,.int .i64 xf,.int .i64 xt,.slice xl xn xm,.slice xa nk xc,.bool tk];have f6:nk=0↔a8[k].s.ends=[]:=by rw[j9.out];exact List.length_eq_zero_iff
  obtain⟨wB,G5⟩:∃W,W=wr.alloc (.cells #[.int .i64 ek,.int .i64 xf,.int .i64 xt,.slice xl xn xm,.slice xa nk xc,.bool tk] 106):=⟨_,rfl⟩
  rw[<-G5] at B4 q6⊢;have b0:wB.cell? ⟨wr.heap.size,0,none⟩=some (.int .i64 ek):=q6.cell 0;have b4:wB.cell? ⟨wr.heap.size,4,none⟩=some (.slice xa nk xc):=q6.cell 4;have b5:wB.cell? ⟨wr.heap.size,5,none⟩=some (.bool tk):=q6.cell 5;have f9:=qZ B4;clear G5 B4 q6;go_cut [86] from 53 to 86 (fun c wx=>c=.bool B∧Hid (Below wr.heap.size wr wx))
  case first=>
    clear c0 c1 c2 c3 c4 c5;by_cases hk0:0<k
    rotate_left
    · have J6:decide (0<k)=false:=decide_eq_false hk0
      by_cases h1:k+1<a8.length
      rotate_left
      · have hd:decide ((k:Int)<(a8.length:Int)-1)=false:=decide_eq_false (by omega)
        have b8:Hid (B=false):=qZ (d8.out.2 ⟨fun h0=>absurd h0 hk0,fun h=>absurd h h1⟩);clear f6 d8 d9 j6 i4 f8 j9 l5 h3 l7 m0 l6 m3 i6 g9 g8 j8 l9 m2 f7 hl hc l8;go_big_quiet (fail)
        go_wp2_with fail
        go_meet;exact⟨by first|(rw[b8.out];done)|(rw[b8.out];rfl)|(rw[b8.out];simpa using h4),qZ (aA3 f9.out _)⟩
      have hd:decide ((k:Int)<(a8.length:Int)-1)=true:=decide_eq_true (by omega);cases tk with
      |true=>
        have b8:Hid (B=true):=qZ (by
          cases B with
          |true=>rfl
          |false=>
            have:=(d8.out.1 rfl).2 h1;rw[<-f8.out] at this;cases this.1)
        clear f6 d8 d9 j6 i4 f8 j9 l5 h3 l7 m0 l6 m3 i6 g9 g8 j8 l9 m2 f7 hl hc l8;go_big_quiet (fail)
        go_wp2_with fail
        go_meet;exact⟨by first|(rw[b8.out];done)|(rw[b8.out];rfl)|(rw[b8.out];simpa using h4),qZ (aA3 f9.out _)⟩
      |false=>
        by_cases h4:nk=0
        · have b8:Hid (B=true):=qZ (by
            cases B with
            |true=>rfl
            |false=>exact absurd (f6.1 h4) ((d8.out.1 rfl).2 h1).2)
          clear f6 d8 d9 j6 i4 f8 j9 l5 h3 l7 m0 l6 m3 i6 g9 g8 j8 l9 m2 f7 hl hc l8;subst h4;go_big_quiet (fail)
          go_wp2_with fail
          go_meet;exact⟨by first|(rw[b8.out];done)|(rw[b8.out];rfl)|(rw[b8.out];simpa using h4),qZ (aA3 f9.out _)⟩
        have b8:Hid (B=false):=qZ (d8.out.2 ⟨fun h0=>absurd h0 hk0,fun _=>⟨f8.out.symm,fun h=>h4 (f6.2 h)⟩⟩);clear f6 d8 d9 j6 i4 f8 j9 l5 h3 l7 m0 l6 m3 i6 g9 g8 j8 l9 m2 f7 hl hc l8;go_big_quiet (fail)
        go_wp2_with fail
        go_meet;exact⟨by first|(rw[b8.out];done)|(rw[b8.out];rfl)|(rw[b8.out];simpa using h4),qZ (aA3 f9.out _)⟩
    have J6:decide (0<k)=true:=decide_eq_true hk0;obtain⟨j,hj⟩:∃j,k=j+1:=⟨k-1,by omega⟩
    have J4:j<a8.length:=by omega
    have z9:wr.cell? ⟨gr,j*6,none⟩=some (.int .i64 a8[j].s.k):=j6.out _ _ (d9 j J4 0 (by omega));have m9:(a8[k-1]'(by omega)).s.k=a8[j].s.k:=by
      have e:k-1=j:=by omega
      simp only[e]
    have n7:=qZ m9;obtain⟨ej,C0⟩:∃x,x=a8[j].s.k:=⟨_,rfl⟩
    have o5:=qZ C0;rw[<-C0] at z9;have K7:wB.cell? ⟨gr,j*6,none⟩=some (.int .i64 ej):=(f9.out.cell (p:=⟨gr,j*6,none⟩) l6).trans z9;clear z9 C0 m9;by_cases h2:ej=ek-1
    rotate_left
    · have b8:Hid (B=true):=qZ (by
        cases B with
        |true=>rfl
        |false=>
          have:=(d8.out.1 rfl).1 hk0;rw[n7.out,<-o5.out,<-i4.out] at this;exact absurd this h2)
      have K0:(ej !=ek-1)=true:=bne_iff_ne.2 h2;clear f6 d8 d9 j6 i4 f8 j9 l5 h3 l7 m0 l6 m3 i6 g9 g8 j8 l9 m2 f7 hl hc l8 n7 o5;go_big_quiet (fail)
      go_wp2_with fail
      go_meet;exact⟨by first|(rw[b8.out];done)|(rw[b8.out];rfl)|(rw[b8.out];simpa using h4),qZ (aA3 f9.out _)⟩
    have H2:Hid (∀h0:0<k,(a8[k-1]'(by omega)).s.k=a8[k].s.k-1):=qZ (fun h0=>by rw[n7.out,<-o5.out,<-i4.out];exact h2);have K0:(ej !=ek-1)=false:=by rw[bne_eq_false_iff_eq];exact h2
    clear h2;by_cases h1:k+1<a8.length
    rotate_left
    · have hd:decide ((k:Int)<(a8.length:Int)-1)=false:=decide_eq_false (by omega)
      have J9:decide ((j:Int)+1<(a8.length:Int)-1)=false:=decide_eq_false (by omega);have b8:Hid (B=false):=qZ (d8.out.2 ⟨H2.out,fun h=>absurd h h1⟩);clear f6 d8 d9 j6 i4 f8 j9 l5 h3 l7 m0 l6 m3 i6 g9 g8 j8 l9 m2 f7 hl hc l8 n7 o5 H2;go_big_quiet (fail)
      go_wp2_with fail
      go_meet;exact⟨by first|(rw[b8.out];done)|(rw[b8.out];rfl)|(rw[b8.out];simpa using h4),qZ (aA3 f9.out _)⟩
    have hd:decide ((k:Int)<(a8.length:Int)-1)=true:=decide_eq_true (by omega);have J9:decide ((j:Int)+1<(a8.length:Int)-1)=true:=decide_eq_true (by omega);cases tk with
    |true=>
      have b8:Hid (B=true):=qZ (by
        cases B with
        |true=>rfl
        |false=>
          have:=(d8.out.1 rfl).2 h1;rw[<-f8.out] at this;cases this.1)
      clear f6 d8 d9 j6 i4 f8 j9 l5 h3 l7 m0 l6 m3 i6 g9 g8 j8 l9 m2 f7 hl hc l8 n7 o5 H2;go_big_quiet (fail)
      go_wp2_with fail
      go_meet;exact⟨by first|(rw[b8.out];done)|(rw[b8.out];rfl)|(rw[b8.out];simpa using h4),qZ (aA3 f9.out _)⟩
    |false=>
      by_cases h4:nk=0
      · have b8:Hid (B=true):=qZ (by
          cases B with
          |true=>rfl
          |false=>exact absurd (f6.1 h4) ((d8.out.1 rfl).2 h1).2)
        clear f6 d8 d9 j6 i4 f8 j9 l5 h3 l7 m0 l6 m3 i6 g9 g8 j8 l9 m2 f7 hl hc l8 n7 o5 H2;subst h4;go_big_quiet (fail)
        go_wp2_with fail
        go_meet;exact⟨by first|(rw[b8.out];done)|(rw[b8.out];rfl)|(rw[b8.out];simpa using h4),qZ (aA3 f9.out _)⟩
      have b8:Hid (B=false):=qZ (d8.out.2 ⟨H2.out,fun _=>⟨f8.out.symm,fun h=>h4 (f6.2 h)⟩⟩);clear f6 d8 d9 j6 i4 f8 j9 l5 h3 l7 m0 l6 m3 i6 g9 g8 j8 l9 m2 f7 hl hc l8 n7 o5 H2;go_big_quiet (fail)
      go_wp2_with fail
      go_meet;exact⟨by first|(rw[b8.out];done)|(rw[b8.out];rfl)|(rw[b8.out];simpa using h4),qZ (aA3 f9.out _)⟩
  obtain⟨rfl,HW⟩:=hcut;have G9:=qZ (l4.out.trans (HW.out.mono i6));clear c0 c1 c2 c3 c4 c5 b0 b4 b5 f9 f6 i4 f8 j9 l5 j6 h3 l7 m0 l8 hc d9;cases B with
  |true=>
    have C9:aM4 (aD6 p room es)=none:=by
      rw[C4.out,if_neg];intro h;have:=d8.out.2 ((cA9 a8).1 h k hlt);cases this
    have p6:=qZ C9;have z8:=qZ (b8.out.trans ((m8.out.trans (G9.out.mono g9)).mono f7));clear C9;go_wp2_with fail
    go_ret2
    exact⟨z8.out,_,by rw[p6.out];rfl,fun l h=>by rw[p6.out] at h;cases h⟩
  |false=>
    have B8:Hid (∀j (h:j<a8.length),j<k+1->cZ5 a8 j h):=qZ (fun j h h0=>by
      by_cases e:j=k
      · subst e
        exact d8.out.1 rfl
      exact C5.out j h (by omega))
    go_wp2_with fail
    go_roundw
    case rel=>exact⟨k+1,by omega,by go_num,B8,G9⟩
    case measure=>simp[intOf];omega
end
section
open Go.RowKit Go.Maps Oct
structure OpS(w:World)(base g m:Nat)(es:List (Nm×FE))(bd gj:Nat)(d:DkD)(t v:Int)(sv:Value)(bad:Int)(wx:World)(es' :List (Nm×FE)):Prop where
 disk:aB4 wx base g m d.pw d.room es'
 fs:sec FE.f es' =d.fs
 jb:Blk wx gj 53 #[.int .i64 t,.int .i64 v,sv,.pointer (some ⟨g,0,none⟩),.int .i64 bad]
 bx:Blk wx bd 26 #[.pointer (some ⟨g,0,none⟩)]
 fr:Fr (aB1 g m es) w wx
 grow:∀k,aB1 g m es' k->aB1 g m es k∨w.heap.size<=k
 lo:w.heap.size<=bd∧bd<gj
section
variable{w wx wy:World}{base g m bd gj:Nat}{es es' :List (Nm×FE)}{d d' :DkD}{t v:Int}{sv:Value}{bad bad' :Int}
theorem OpS.below(h:OpS w base g m es bd gj d t v sv bad wx es')(hb:Below wx.heap.size wx wy):OpS w base g m es bd gj d t v sv bad wy es' :=
 ⟨h.disk.below hb,h.fs,h.jb.below hb h.jb.lt,h.bx.below hb h.bx.lt,h.fr.trans (Fr.of_below (aB1 g m es) hb) (fun j hj=>.inl hj),h.grow,h.lo⟩
theorem OpS.nj(h:OpS w base g m es bd gj d t v sv bad wx es'):¬aB1 g m es' gj:=h.disk.not_foot h.jb (by decide) (by decide) (by decide)
theorem OpS.nb(h:OpS w base g m es bd gj d t v sv bad wx es'):¬aB1 g m es' bd:=h.disk.not_foot h.bx (by decide) (by decide) (by decide)
theorem OpS.acts(h:OpS w base g m es bd gj d t v sv bad wx es')(a8:dL5 wx base g m es' gj t v sv d' bad' wy):∃es2,OpS w base g m es bd gj d' t v sv bad' wy es2∧(∀k,aB1 g m es2 k->aB1 g m es' k∨wx.heap.size<=k)∧Fr (fun k=>aB1 g m es' k∨k=gj) wx wy:=by
 obtain⟨es2,h1,h2,h3,h4,h5⟩:=a8;have a9:=h.fr.size;have b8:=h.lo;refine⟨es2,⟨h1,h2,h3,?_,?_,fun k hk=>?_,h.lo⟩,h5,h4⟩
 ·exact h4.blk_ h.bx (by rintro(h6|h6);exact h.nb h6;omega)
 ·exact h.fr.trans h4 (fun j hj=>by
   rcases hj with hj|hj
   ·exact h.grow j hj
   exact .inr (by omega))
 rcases h5 k hk with h6|h6
 ·exact h.grow k h6
 exact .inr (by omega)
theorem OpS.put{t' v' :Int}{sv' :Value}(h:OpS w base g m es bd gj d t v sv bad wx es')(hg:wx.grownBy wy (some gj))(hB:Blk wy gj 53 #[.int .i64 t',.int .i64 v',sv',.pointer (some ⟨g,0,none⟩),.int .i64 bad']):OpS w base g m es bd gj d t' v' sv' bad' wy es' :=by
 have a8:=h.lo;refine⟨h.disk.keep hg.size (fun k hk=>hg.block k (h.disk.lt k hk).2 (fun e=>by injection e with e;subst e;exact h.nj hk)),h.fs,hB,h.bx.grown hg (by intro e;injection e with e;omega),h.fr.trans (Fr.of_grown (mine:=fun k=>k=gj) hg (fun k e=>by injection e with e;exact e.symm)) (fun j hj=>.inr (by omega)),h.grow,h.lo⟩
theorem OpS.baseB(h:OpS w base g m es bd gj d t v sv bad wx es')(hD:∀k,aB1 g m es k->base<=k)(hb:base<=w.heap.size):Below base w wx:=h.fr.below hb hD
end
def aP6(d:DkD):Int×DkD:=if(d.fs.any fun q=>q.1==aA9)=true then d.remove aA9 else(0,d)
theorem bH6{d:DkD}(h:d.pw.off=false):aI1 d=if(aP6 d).1=0 then aN9 (aP6 d).2 else((aP6 d).1,none,(aP6 d).2):=by
 unfold aI1 aP6;rw[if_neg (by rw[h];simp)];split
 ·rfl
 rw[if_pos rfl]
theorem bB4{d:DkD}(h:d.pw.off=true):aI1 d=(50,none,d):=by
 unfold aI1;rw[if_pos h]
theorem cG1{d:DkD}(h:d.pw.off=false)(h0:(aP6 d).1=0):(aP6 d).2.pw.off=false:=by
 unfold aP6 at h0⊢;split
 ·rename_i h1
  rw[if_pos h1] at h0;exact cN0 h0
 exact h
theorem cC0{d:DkD}{L:Nat}(h:JDk L d):JDk L (aP6 d).2:=by
 unfold aP6;split
 ·exact h.run (.rm aA9)
 exact h
end
section
open Go.RowKit Go.Maps Oct
structure aM7(w:World)(F:Nat->Prop)(A:Option Addr)(recs:List aG5):Prop where
 addr:0<recs.length->∃gr,A=some ⟨gr,0,none⟩∧F gr∧gr<w.heap.size∧∀i (h:i<recs.length),aT8 w F ⟨gr,i*6,none⟩ recs[i].s∧∀j u,(bA1 recs[i])[j]? =some u->w.cell? ⟨gr,i*6+j,none⟩=some u
section
variable{w w' :World}{F F' :Nat->Prop}{A:Option Addr}{recs:List aG5}
theorem aM7.keep(h:aM7 w F A recs)(hs:w.heap.size<=w'.heap.size)(hk:∀k,F k->w'.heap[k]? =w.heap[k]?):aM7 w' F A recs:=⟨fun h0=>by
 obtain⟨gr,e,hF,hlt,hc⟩:=h.addr h0;exact⟨gr,e,hF,by omega,fun i hi=>⟨(hc i hi).1.keep hs hk,fun j u hu=>(World.cell?_of_block (hk gr hF)).trans ((hc i hi).2 j u hu)⟩⟩⟩
theorem aM7.mono(h:aM7 w F A recs)(hF:∀k,F k->F' k):aM7 w F' A recs:=⟨fun h0=>by
 obtain⟨gr,e,hFg,hlt,hc⟩:=h.addr h0;exact⟨gr,e,hF gr hFg,hlt,fun i hi=>⟨(hc i hi).1.mono hF,(hc i hi).2⟩⟩⟩
theorem aM7.take(h:aM7 w F A recs)(n:Nat):aM7 w F A (recs.take n):=⟨fun h0=>by
 rw[lV] at h0;obtain⟨gr,e,hFg,hlt,hc⟩:=h.addr (by omega);refine⟨gr,e,hFg,hlt,fun i hi=>?_⟩;rw[lV] at hi;rw[List.getElem_take];exact hc i (by omega)⟩
theorem aM7.of_row{B c:Nat}(a9:w.ownsRow B 106 6 (.slice A recs.length c) recs.length (aJ8 recs))(hq:∀q∈recs,aV3 w B q)(a8:∀q∈recs,aZ8 q.s)(hF:∀k,B<=k->k<w.heap.size->F k):aM7 w F A recs:=⟨fun h0=>by
 obtain⟨A',c',hv,h1,h2,h3⟩:=aB2 a9;obtain⟨gr,cur,rfl,hgb,hgl,hgh,hgs,hgc⟩:=h3 h0;injection hv with hv _ _
 subst hv;have hcell:∀i (hi:i<recs.length) j u,(bA1 recs[i])[j]? =some u->w.cell? ⟨gr,i*6+j,none⟩=some u:=fun i hi j u hu=>by
  have hj:=(List.getElem?_eq_some_iff.1 hu).1;exact hgc _ _ ((bL8 recs hi hj).trans hu)
 refine⟨gr,rfl,hF gr hgb hgl,hgl,fun i hi=>⟨⟨?_,a8 _ (lX hi)⟩,hcell i hi⟩⟩;have hok:=hq _ (lX hi);obtain⟨q,hqe⟩:∃q,q=recs[i]:=⟨_,rfl⟩
 rw[<-hqe] at hok⊢;have hrl:q.rs.length=q.s.l.length:=by rw[<-hok.map,lU]
 obtain⟨A1,c1,e1,k1,k2,_⟩:=aB2 hok.ents;obtain⟨A2,c2,e2,k3,k4,_⟩:=Own.shape hok.ends;unfold aG5.vl at e1;unfold aG5.ve at e2;injection e1 with _ _ e1
 injection e2 with _ e3 e2
 rw[lU] at k3 e3;refine⟨q.al,q.cl,q.rs,q.ae,q.ce,fun _=>⟨gr,i*6,rfl,hF gr hgb hgl,hgl,fun j u hu=>hcell i hi j u ?_⟩,by rw[e1,<-hrl];exact k1,by rw[e1];unfold maxLen;omega,by rw[e2];exact k3,by rw[e2];exact k4,RdF.of_row hok.ents hF (by rw[aC3];omega),hok.map,fun x hx=>(hok.dat x hx).datF hF,RdF.of_own hok.ends hF⟩;rw[<-hqe];have hj:=(List.getElem?_eq_some_iff.1 hu).1;have:(bA1 q)[j]? =([Value.int .i64 q.s.k,.int .i64 q.s.first,.int .i64 q.s.term,.slice q.al q.s.l.length q.cl,.slice q.ae q.s.ends.length q.ce]:List Value)[j]? :=by
  unfold bA1 aG5.vl aG5.ve;rw[hrl];simp only[mC,List.length_nil] at hj;rcases(by omega:j=0∨j=1∨j=2∨j=3∨j=4) with rfl|rfl|rfl|rfl|rfl<;>rfl
 rw[this];exact hu⟩
end
end
section
open Go.RowKit Go.Maps Oct
def cY3(w:World)(base g m:Nat)(es:List (Nm×FE))(r:Int×Option JnP×DkD)(e:Ending)(w' :World):Prop:=
 ∃es',aB4 w' base g m r.2.2.pw r.2.2.room es' ∧sec FE.f es' =r.2.2.fs∧Fr (aB1 g m es) w w' ∧(∀k,aB1 g m es' k->aB1 g m es k∨w.heap.size<=k)∧
  match r.2.1 with
  |none=>e=.returned (.tuple #[.pointer none,.int .i64 r.1])
  |some j=>∃(gj:Nat) (F:Nat->Prop),e=.returned (.tuple #[.pointer (some ⟨gj,0,none⟩),.int .i64 r.1])∧w.heap.size<=gj∧JAt w' F gj g j∧∀k,F k->w.heap.size<=k∧k<w'.heap.size∧k≠gj∧¬aB1 g m es' k
theorem OpS.endNone{w wx:World}{base g m bd gj:Nat}{es es' :List (Nm×FE)}{d:DkD}{t v:Int}{sv:Value}{bad:Int}(h:OpS w base g m es bd gj d t v sv bad wx es')(c:Int){r:Int×Option JnP×DkD}(hr:r=(c,none,d)):cY3 w base g m es r (.returned (.tuple #[.pointer none,.int .i64 c])) wx:=by
 subst hr;exact⟨es',h.disk,h.fs,h.fr,h.grow,rfl⟩
def aI7(l:List (aC4×Bool))(m:Int×Int)(d:DkD):Int×Option JnP×DkD:=match l.getLast? with
 |none=>aE3 l m d
 |some f=>if f.1.ends.isEmpty=true then(if(d.remove (aA8 f.1.k)).1=0 then aE3 l.dropLast m (d.remove (aA8 f.1.k)).2 else((d.remove (aA8 f.1.k)).1,none,(d.remove (aA8 f.1.k)).2)) else aE3 l m d
def cK1:Option (Int×Int)->Option (List (aC4×Bool))->DkD->Int×Option JnP×DkD
 |some m,some l,d=>aI7 l m d
 |_,_,d=>(53,none,d)
theorem aT3(d:DkD):aN9 d=cK1 (aF3 d) (aM4 d) d:=by
 unfold aN9 cK1 aI7;cases aF3 d<;>cases aM4 d<;>rfl
structure bS2(q:aG5):Prop where
 ok:bK7 q.s
 first:1<=q.s.first
 k:1<=q.s.k∧q.s.k<=999999999
 txt:∀e∈q.s.l,e.b.length<=65535
 len:q.s.l.length<=1000000000
theorem dI2{l:List (aC4×Bool)}{recs:List aG5}(a8:recs.map aG5.o=l)(h:(∀y∈l,aZ8 y.1∧(1<=y.1.k∧y.1.k<=999999999)∧(y.1.ends=[]∧y.1.l=[]∨bK7 y.1∧1<=y.1.first)∧(∀e∈y.1.l,e.b.length<=65535)∧y.1.l.length<=1000000000)∧aL1 l=true):
  (∀i (h:i+1<recs.length),bS2 recs[i])∧∀q∈recs,q.s.ends≠[]->bS2 q:=by
 subst a8;have hq:∀q∈recs,q.s.ends≠[]->bS2 q:=fun q hq hne=>by
  obtain⟨h1,h2,h3,h4,h5⟩:=h.1 q.o (List.mem_map.2 ⟨q,hq,rfl⟩);rcases h3 with h3|h3
  ·exact absurd h3.1 hne
  exact⟨h3.1,h3.2,h2,h4,h5⟩
 refine⟨fun i hi=>hq _ (lX (by omega)) ?_,hq⟩;have h1:=(bD5 _).1 h.2 i (by rw[lU];exact hi);simp only[List.getElem_map] at h1;exact h1.2.2
theorem bA5(r:List aG5)(q:aG5)(m:Int×Int)(d:DkD):aI7 ((r++[q]).map aG5.o) m d=if q.s.ends.isEmpty=true then(if(d.remove (aA8 q.s.k)).1=0 then aE3 (r.map aG5.o) m (d.remove (aA8 q.s.k)).2 else((d.remove (aA8 q.s.k)).1,none,(d.remove (aA8 q.s.k)).2)) else aE3 ((r++[q]).map aG5.o) m d:=by
 unfold aI7;rw[mE,mG,List.map_nil,List.getLast?_append];simp only[List.getLast?_singleton,Option.some_or,List.dropLast_concat]
 rfl
theorem bR3(a:aD3)(d:DkD):aI5 [a] d=a.run d:=by
 unfold aI5;by_cases h0:(a.run d).1=0
 ·rw[if_pos h0]
  exact Prod.ext h0.symm rfl
 rw[if_neg h0]
theorem aL6{w:World}{g:Nat}{T:TypeId}{cs:Array Value}(h:Blk w g T cs)(j:Nat)(u:Value)(hu:cs.toList[j]? =some u):w.cell? ⟨g,j,none⟩=some u:=(h.cell j).trans (by rw[<-Array.getElem?_toList];exact hu)
theorem OpS.grown{w wx wy:World}{base g m bd gj:Nat}{es es' :List (Nm×FE)}{d:DkD}{t v:Int}{sv:Value}{bad:Int}(h:OpS w base g m es bd gj d t v sv bad wx es'){row:Option Nat}(hg:wx.grownBy wy row)(hr:∀k,row=some k->k≠gj∧k≠bd∧¬aB1 g m es' k∧w.heap.size<=k):OpS w base g m es bd gj d t v sv bad wy es' :=
 ⟨h.disk.keep hg.size (fun k hk=>hg.block k (h.disk.lt k hk).2 (fun e=>(hr k e.symm).2.2.1 hk)),h.fs,h.jb.grown hg (fun e=>(hr gj e.symm).1 rfl),h.bx.grown hg (fun e=>(hr bd e.symm).2.1 rfl),h.fr.trans (Fr.of_grown (mine:=fun k=>row=some k) hg (fun k e=>e)) (fun j hj=>.inr (hr j hj).2.2.2),h.grow,h.lo⟩
def dN0(A:Option Addr)(q:Nat):Value:=.pointer (some ⟨(A.map Addr.block).getD 0,q*6,none⟩)
def bH0(A:Option Addr)(st n:Nat):List Value:=(List.range' st (n-st)).map (dN0 A)
theorem cT9(A:Option Addr){st k:Nat}(h:st<=k):bH0 A st (k+1)=bH0 A st k++[dN0 A k]:=by
 unfold bH0;rw[show k+1-st=(k-st)+1 by omega,List.range'_1_concat,mE,show st+(k-st)=k by omega]
 rfl
theorem cI0(A:Option Addr)(st k:Nat):(bH0 A st k).length=k-st:=by unfold bH0;simp
theorem cH6{sl:List aC4}{k st:Nat}(hk:k<sl.length)(a8:0<k->st<k)(h:aG2 [] (sl.take k)=(sl.take k).drop st)(b8:st<=k)(hg:∀h0:0<k,sl[k].goesOn (sl[k-1]'(by omega))=true):aG2 [] (sl.take (k+1))=(sl.take (k+1)).drop st:=by
 have a9:sl.take (k+1)=sl.take k++[sl[k]]:=by rw[List.take_add_one,lW hk];rfl
 rw[a9,aQ0,h];unfold aY7;rcases Nat.eq_zero_or_pos k with h0|h0
 ·subst h0
  obtain rfl:st=0:=by omega
  simp
 have hl:((sl.take k).drop st).getLast?=some (sl[k-1]'(by omega)):=by
  rw[List.getLast?_drop,if_neg (by rw[lV];have:=a8 h0;omega),List.getLast?_eq_getElem?,lV,Nat.min_eq_left (by omega),List.getElem?_take_of_lt (by omega),lW (by omega)]
 rw[hl];simp only;rw[if_pos (hg h0),List.drop_append_of_le_length (by rw[lV];omega)]
theorem cR2{sl:List aC4}{k st:Nat}(hk:k<sl.length)(h0:0<k)(a8:0<k->st<k)(h:aG2 [] (sl.take k)=(sl.take k).drop st)(hg:sl[k].goesOn (sl[k-1]'(by omega))=false):aG2 [] (sl.take (k+1))=(sl.take (k+1)).drop k:=by
 have a9:sl.take (k+1)=sl.take k++[sl[k]]:=by rw[List.take_add_one,lW hk];rfl
 rw[a9,aQ0,h];unfold aY7;have hl:((sl.take k).drop st).getLast?=some (sl[k-1]'(by omega)):=by
  rw[List.getLast?_drop,if_neg (by rw[lV];have:=a8 h0;omega),List.getLast?_eq_getElem?,lV,Nat.min_eq_left (by omega),List.getElem?_take_of_lt (by omega),lW (by omega)]
 rw[hl];simp only;rw[if_neg (by rw[hg];simp),List.drop_append_of_le_length (by rw[lV];omega),List.drop_eq_nil_of_le (by rw[lV];omega)]
 rfl
def EF(bd lo hi nE:Nat)(W:World)(x:Nat):Prop:=x=bd∨(lo<=x∧x<hi)∨(nE<=x∧x<W.heap.size∧∀cs fz,W.heap[x]? ≠some (.cells cs 98 fz))
theorem EF.same{bd lo hi nE:Nat}{W W' :World}{row:Option Nat}(hg:W.grownBy W' row)(a8:bd<nE∧hi<=nE∧nE<=W.heap.size)(hr:∀r,row=some r->nE<=r∧∃cs fz,W.heap[r]? =some (.cells cs 98 fz)):(∀x,EF bd lo hi nE W x->W'.heap[x]? =W.heap[x]?)∧∀x,EF bd lo hi nE W x->EF bd lo hi nE W' x:=by
 have h1:∀x,EF bd lo hi nE W x->W'.heap[x]? =W.heap[x]? :=fun x hx=>by
  have hs:x<W.heap.size:=by
   rcases hx with h|h|h
   ·omega
   ·omega
   exact h.2.1
  refine hg.block x hs fun e=>?_
  obtain⟨h2,cs,fz,h3⟩:=hr x e.symm;rcases hx with h|h|h
  ·omega
  ·omega
  exact h.2.2 cs fz h3
 refine⟨h1,fun x hx=>?_⟩;rcases hx with h|h|h
 ·exact .inl h
 ·exact .inr (.inl h)
 refine .inr (.inr ⟨h.1,by have:=hg.size;omega,fun cs fz=>?_⟩);rw[h1 x (.inr (.inr h))];exact h.2.2 cs fz
theorem EF.below{bd lo hi nE:Nat}{W W' :World}(hb:Below W.heap.size W W')(hlt:bd<nE∧hi<=nE∧nE<=W.heap.size):(∀x,EF bd lo hi nE W x->W'.heap[x]? =W.heap[x]?)∧∀x,EF bd lo hi nE W x->EF bd lo hi nE W' x:=
 EF.same (aA5 hb none) hlt (fun r h=>by cases h)
structure aZ6(W:World)(bd lo hi nE gj g:Nat)(dv:Value)(vs:List Value)(al:List aD3):Prop where
 own:Own W nE 98 dv vs
 len:vs.length=al.length
 acts:∀i (h:i<vs.length) (h' :i<al.length),aK3 W (EF bd lo hi nE W) gj g vs[i] al[i]
 fns:∀v∈vs,v.oneCell' =true
section
variable{W W' :World}{bd lo hi nE gj g:Nat}{dv:Value}{vs:List Value}{al:List aD3}
theorem aZ6.nil:aZ6 W bd lo hi nE gj g (.slice none 0 0) [] []:=⟨Own.nil _ _ _,rfl,fun i h=>by simp at h,fun v hv=>by cases hv⟩
theorem aZ6.below(h:aZ6 W bd lo hi nE gj g dv vs al)(hb:Below W.heap.size W W')(a8:bd<nE∧hi<=nE∧nE<=W.heap.size):aZ6 W' bd lo hi nE gj g dv vs al:=by
 obtain⟨h1,h2⟩:=EF.below (bd:=bd) (lo:=lo) (hi:=hi) (nE:=nE) hb a8;exact⟨Own.below h.own hb (lR _),h.len,fun i h3 h4=>((h.acts i h3 h4).keep hb.size h1).mono h2,h.fns⟩
theorem aZ6.push{W2:World}{v dv' :Value}{a:aD3}(h:aZ6 W bd lo hi nE gj g dv vs al)(a9:bd<nE∧hi<=nE∧nE<=W.heap.size)(ha:aK3 W (EF bd lo hi nE W) gj g v a)(h1:v.oneCell' =true)(hg:W.grownBy W2 dv.ownBlock)(a8:Own W2 nE 98 dv' (vs++[v])):aZ6 W2 bd lo hi nE gj g dv' (vs++[v]) (al++[a]):=by
 obtain⟨k1,k2⟩:=EF.same (bd:=bd) (lo:=lo) (hi:=hi) (nE:=nE) hg a9 (fun r e=>by
  obtain⟨cs,hc⟩:=aD1 h.own e;exact⟨(h.own.lt r e).1,cs,_,hc⟩)
 refine⟨a8,by rw[lT,lT,h.len];rfl,fun i h3 h4=>?_,fun x hx=>?_⟩
 ·by_cases hi:i<vs.length
  ·rw[List.getElem_append_left hi,List.getElem_append_left (by rw[<-h.len];exact hi)]
   exact((h.acts i hi _).keep hg.size k1).mono k2
  have e:i=vs.length:=by rw[lT] at h3;simp at h3;omega
  subst e;have e2:(al++[a])[vs.length]=a:=by simp[h.len]
  rw[e2];simp only[List.getElem_concat_length];exact(ha.keep hg.size k1).mono k2
 rcases List.mem_append.1 hx with hx|hx
 ·exact h.fns x hx
 obtain rfl:=List.mem_singleton.1 hx;exact h1
end
theorem cZ0{w w2 w3:World}{base g m bd gj:Nat}{es es' :List (Nm×FE)}{d:DkD}{t v:Int}{sv:Value}(hO:OpS w base g m es bd gj d t v sv 0 w2 es')(d9:Below w2.heap.size w2 w3)(a:aD3)(F3:Nat)(caps3:Array Value)(b8:∀E:Nat->Prop,(∀k,w2.heap.size<=k->k<w3.heap.size->E k)->aK3 w3 E gj g (.func (.func F3) #[] caps3) a)
  (f6:∀k,aB1 g m es k->base<=k) (i6:base<=w.heap.size) (hE:∀w',Below base w w' ->Tab w' ∧dA6 w') {L:Nat} (i4:JDk L d) (hL:L+a.cost<=137438953472):
  Calls Tryz.prog 48 #[.pointer (some ⟨gj,0,none⟩),.slice (some ⟨w3.heap.size,0,none⟩) 1 1] (w3.alloc (.cells #[.func (.func F3) #[] caps3] 98)) fun e w' =>e=.returned (.int .i64 (a.run d).1)∧∃es2,OpS w base g m es bd gj (a.run d).2 t v sv (a.run d).1 w' es2∧(∀k,aB1 g m es2 k->aB1 g m es' k∨w3.heap.size<k)∧Fr (fun k=>aB1 g m es' k∨k=gj) w2 w' :=by
 have g9:=d9.size;have f7:Below w2.heap.size w2 (w3.alloc (.cells #[.func (.func F3) #[] caps3] 98)):=d9.alloc d9.size _;have a9:=hO.below f7;have d8:RdF (w3.alloc (.cells #[.func (.func F3) #[] caps3] 98)) (fun k=>w2.heap.size<=k∧k<w3.heap.size+1) (some ⟨w3.heap.size,0,none⟩) [.func (.func F3) #[] caps3]:=fun _=>⟨w3.heap.size,0,rfl,⟨g9,by omega⟩,by simp,fun j u hu=>by
  rw[Nat.zero_add];exact aL6 (Blk.new w3 98 #[.func (.func F3) #[] caps3]) j u hu⟩
 have f9:∀k (h:k<[Value.func (.func F3) #[] caps3].length) (h' :k<[a].length),aK3 (w3.alloc (.cells #[.func (.func F3) #[] caps3] 98)) (fun k=>w2.heap.size<=k∧k<w3.heap.size+1) gj g [Value.func (.func F3) #[] caps3][k] [a][k]:=fun k h h' =>by
  obtain rfl:k=0:=by simp at h;exact h
  have a8:=(lS w3.heap.size w3).alloc (lR _) (.cells #[.func (.func F3) #[] caps3] 98);exact((b8 (fun k=>w2.heap.size<=k∧k<w3.heap.size) (fun k h1 h2=>⟨h1,h2⟩)).keep a8.size (fun k hk=>a8.block k hk.2)).mono (fun k hk=>⟨hk.1,by omega⟩)
 have j6:=hO.lo;have f8:=aU7 a9.disk a9.jb (by omega) (some ⟨w3.heap.size,0,none⟩) [.func (.func F3) #[] caps3] [a] 1 d8 rfl f9 (fun k hk=>⟨by simp;omega,fun hf=>by have:=(hO.disk.lt k hf).2;omega,by have:=hO.jb.lt;omega⟩) (fun w' hb' =>(hE w' ((a9.baseB f6 i6).trans hb')).1) (L:=L) (by rw[DkD.eta' d hO.fs];exact i4) (by rw[bD8];show L+(a.cost+0)<=_;omega) (by simp);rw[DkD.eta' d hO.fs,bR3] at f8;refine f8.mono ?_;rintro e w4 ⟨rfl,g8⟩;obtain⟨es2,h1,h2,h3⟩:=a9.acts g8;refine⟨rfl,es2,h1,fun k hk=>?_,(Fr.of_below (fun k=>aB1 g m es' k∨k=gj) f7).trans h3 (fun j hj=>.inl hj)⟩;rcases h2 k hk with h4|h4
 ·exact .inl h4
 refine .inr ?_;simp at h4
 omega
end
section
open Go.RowKit Go.Maps Oct
def EG(G:Nat->Prop)(nE:Nat)(W:World)(x:Nat):Prop:=G x∨(nE<=x∧x<W.heap.size∧∀cs fz,W.heap[x]? ≠some (.cells cs 98 fz))
theorem EG.same{G:Nat->Prop}{nE:Nat}{W W' :World}{row:Option Nat}(hg:W.grownBy W' row)(a8:(∀x,G x->x<nE)∧nE<=W.heap.size)(hr:∀r,row=some r->nE<=r∧∃cs fz,W.heap[r]? =some (.cells cs 98 fz)):(∀x,EG G nE W x->W'.heap[x]? =W.heap[x]?)∧∀x,EG G nE W x->EG G nE W' x:=by
 have h1:∀x,EG G nE W x->W'.heap[x]? =W.heap[x]? :=fun x hx=>by
  have hs:x<W.heap.size:=by
   rcases hx with h|h
   ·have:=a8.1 x h;have:=a8.2;omega
   exact h.2.1
  refine hg.block x hs fun e=>?_
  obtain⟨h2,cs,fz,h3⟩:=hr x e.symm;rcases hx with h|h
  ·have:=a8.1 x h;omega
  exact h.2.2 cs fz h3
 refine⟨h1,fun x hx=>?_⟩;rcases hx with h|h
 ·exact .inl h
 refine .inr ⟨h.1,by have:=hg.size;omega,fun cs fz=>?_⟩;rw[h1 x (.inr h)];exact h.2.2 cs fz
theorem EG.below{G:Nat->Prop}{nE:Nat}{W W' :World}(hb:Below W.heap.size W W')(hlt:(∀x,G x->x<nE)∧nE<=W.heap.size):(∀x,EG G nE W x->W'.heap[x]? =W.heap[x]?)∧∀x,EG G nE W x->EG G nE W' x:=
 EG.same (aA5 hb none) hlt (fun r h=>by cases h)
theorem EG.fresh{G:Nat->Prop}{nE:Nat}{W:World}{b:Nat}{T:TypeId}{cs:Array Value}(hb:Blk W b T cs)(h1:nE<=b)(hT:T≠98):EG G nE W b:=.inr ⟨h1,hb.lt,fun cs' fz e=>by
 have e2:=e.symm.trans hb;injection e2 with e2
 injection e2 with _ e2 _
 exact hT e2.symm⟩
structure aP1(W:World)(G:Nat->Prop)(nE gj g:Nat)(dv:Value)(vs:List Value)(al:List aD3):Prop where
 own:Own W nE 98 dv vs
 len:vs.length=al.length
 acts:∀i (h:i<vs.length) (h' :i<al.length),aK3 W (EG G nE W) gj g vs[i] al[i]
 fns:∀v∈vs,v.oneCell' =true
section
variable{W W' :World}{G:Nat->Prop}{nE gj g:Nat}{dv:Value}{vs:List Value}{al:List aD3}
theorem aP1.nil:aP1 W G nE gj g (.slice none 0 0) [] []:=⟨Own.nil _ _ _,rfl,fun i h=>by simp at h,fun v hv=>by cases hv⟩
theorem aP1.below(h:aP1 W G nE gj g dv vs al)(hb:Below W.heap.size W W')(a8:(∀x,G x->x<nE)∧nE<=W.heap.size):aP1 W' G nE gj g dv vs al:=by
 obtain⟨h1,h2⟩:=EG.below (G:=G) (nE:=nE) hb a8;exact⟨Own.below h.own hb (lR _),h.len,fun i h3 h4=>((h.acts i h3 h4).keep hb.size h1).mono h2,h.fns⟩
theorem aP1.other{row:Option Nat}(h:aP1 W G nE gj g dv vs al)(hg:W.grownBy W' row)(a8:(∀x,G x->x<nE)∧nE<=W.heap.size)(hr:∀r,row=some r->nE<=r)(a9:dv.ownBlock=none∨dv.ownBlock≠row)(hE:∀i (h:i<vs.length) (h' :i<al.length),aK3 W (fun x=>EG G nE W x∧row≠some x) gj g vs[i] al[i]):aP1 W' G nE gj g dv vs al:=by
 have h1:∀x,EG G nE W x∧row≠some x->W'.heap[x]? =W.heap[x]? :=fun x hx=>by
  have hs:x<W.heap.size:=by
   rcases hx.1 with h|h
   ·have:=a8.1 x h;have:=a8.2;omega
   exact h.2.1
  exact hg.block x hs fun e=>hx.2 e.symm
 refine⟨Own.kept h.own hg a9,h.len,fun i h3 h4=>((hE i h3 h4).keep hg.size h1).mono fun x hx=>?_,h.fns⟩;rcases hx.1 with h|h
 ·exact .inl h
 refine .inr ⟨h.1,by have:=hg.size;omega,fun cs fz=>?_⟩;rw[h1 x hx];exact h.2.2 cs fz
theorem aP1.push{W2:World}{v dv' :Value}{a:aD3}(h:aP1 W G nE gj g dv vs al)(a9:(∀x,G x->x<nE)∧nE<=W.heap.size)(ha:aK3 W (EG G nE W) gj g v a)(h1:v.oneCell' =true)(hg:W.grownBy W2 dv.ownBlock)(a8:Own W2 nE 98 dv' (vs++[v])):aP1 W2 G nE gj g dv' (vs++[v]) (al++[a]):=by
 obtain⟨k1,k2⟩:=EG.same (G:=G) (nE:=nE) hg a9 (fun r e=>by
  obtain⟨cs,hc⟩:=aD1 h.own e;exact⟨(h.own.lt r e).1,cs,_,hc⟩)
 refine⟨a8,by rw[lT,lT,h.len];rfl,fun i h3 h4=>?_,fun x hx=>?_⟩
 ·by_cases hi:i<vs.length
  ·rw[List.getElem_append_left hi,List.getElem_append_left (by rw[<-h.len];exact hi)]
   exact((h.acts i hi _).keep hg.size k1).mono k2
  have e:i=vs.length:=by rw[lT] at h3;simp at h3;omega
  subst e;have e2:(al++[a])[vs.length]=a:=by simp[h.len]
  rw[e2];simp only[List.getElem_concat_length];exact(ha.keep hg.size k1).mono k2
 rcases List.mem_append.1 hx with hx|hx
 ·exact h.fns x hx
 obtain rfl:=List.mem_singleton.1 hx;exact h1
end
theorem aP1.pushes{W W2:World}{G:Nat->Prop}{nE gj g:Nat}{dv dv' :Value}{vs us:List Value}{al bl:List aD3}(h:aP1 W G nE gj g dv vs al)(b8:(∀x,G x->x<nE)∧nE<=W.heap.size)(a9:us.length=bl.length)(ha:∀i (h:i<us.length) (h' :i<bl.length),aK3 W (EG G nE W) gj g us[i] bl[i])(h1:∀u∈us,u.oneCell' =true)(hg:W.grownBy W2 dv.ownBlock)(a8:Own W2 nE 98 dv' (vs++us)):aP1 W2 G nE gj g dv' (vs++us) (al++bl):=by
 obtain⟨k1,k2⟩:=EG.same (G:=G) (nE:=nE) hg b8 (fun r e=>by
  obtain⟨cs,hc⟩:=aD1 h.own e;exact⟨(h.own.lt r e).1,cs,_,hc⟩)
 refine⟨a8,by rw[lT,lT,h.len,a9],fun i h3 h4=>?_,fun x hx=>?_⟩
 ·by_cases hi:i<vs.length
  ·rw[List.getElem_append_left hi,List.getElem_append_left (by rw[<-h.len];exact hi)]
   exact((h.acts i hi _).keep hg.size k1).mono k2
  rw[List.getElem_append_right (by omega),List.getElem_append_right (by rw[<-h.len];omega)];have h5:i-vs.length<us.length:=by rw[lT] at h3;omega
  have h6:=ha (i-vs.length) h5 (by omega);have e:i-al.length=i-vs.length:=by rw[h.len]
  simp only[e];exact(h6.keep hg.size k1).mono k2
 rcases List.mem_append.1 hx with hx|hx
 ·exact h.fns x hx
 exact h1 x hx
theorem aP1.row{W:World}{G:Nat->Prop}{nE gj g:Nat}{dv:Value}{vs:List Value}{al:List aD3}(h:aP1 W G nE gj g dv vs al){r:Nat}(hr:dv.ownBlock=some r):nE<=r∧r<W.heap.size∧∃cs fz,W.heap[r]? =some (.cells cs 98 fz):=by
 obtain⟨cs,hc⟩:=aD1 h.own hr;exact⟨(h.own.lt r hr).1,(h.own.lt r hr).2,cs,_,hc⟩
structure JnK(w:World)(base g m gj:Nat)(F:Nat->Prop)(d:DkD)(j:JnP)(es:List (Nm×FE)):Prop where
 disk:aB4 w base g m d.pw d.room es
 fs:sec FE.f es=d.fs
 jn:JAt w F gj g j
 apart:∀k,F k->base<=k∧k<w.heap.size∧k≠gj∧¬aB1 g m es k
 lo:base<=gj
def cU6(w:World)(base g m gj:Nat)(es:List (Nm×FE))(F:Nat->Prop)(r:Int×JnP×DkD)(e:Ending)(w' :World):Prop:=
 e=.returned (.int .i64 r.1)∧∃es' F',JnK w' base g m gj F' r.2.2 r.2.1 es' ∧Fr (fun k=>aB1 g m es k∨k=gj) w w' ∧(∀k,aB1 g m es' k->aB1 g m es k∨w.heap.size<=k)∧∀k,F' k->F k∨w.heap.size<=k
section
variable{w w' :World}{base g m gj:Nat}{F:Nat->Prop}{d:DkD}{j:JnP}{es:List (Nm×FE)}
theorem JAt.blk(h:JAt w F gj g j):∃sv,Blk w gj 53 #[.int .i64 j.term,.int .i64 j.vote,sv,.pointer (some ⟨g,0,none⟩),.int .i64 j.bad]:=by
 obtain⟨⟨A,c,a8,h1,_⟩,_⟩:=h;exact⟨_,h1⟩
theorem JnK.nj(h:JnK w base g m gj F d j es):¬aB1 g m es gj:=by
 obtain⟨sv,hB⟩:=h.jn.blk;exact h.disk.not_foot hB (by decide) (by decide) (by decide)
theorem JnK.below(h:JnK w base g m gj F d j es)(hb:Below w.heap.size w w'):JnK w' base g m gj F d j es:=
 ⟨h.disk.below hb,h.fs,h.jn.below (fun k hk=>(h.apart k hk).2.1) hb,fun k hk=>by have:=h.apart k hk;have:=hb.size;exact⟨by omega,by omega,by omega,(h.apart k hk).2.2.2⟩,h.lo⟩
theorem JnK.same(h:JnK w base g m gj F d j es)(hb:Below w.heap.size w w'){r:Int×JnP×DkD}{c:Int}(hr:r=(c,j,d)):cU6 w base g m gj es F r (.returned (.int .i64 c)) w' :=by
 subst hr;exact⟨rfl,es,F,h.below hb,Fr.of_below _ hb,fun k hk=>.inl hk,fun k hk=>.inl hk⟩
theorem JnK.acted{wy:World}{es2:List (Nm×FE)}{d' :DkD}{j' :JnP}{F' :Nat->Prop}(h:JnK w base g m gj F d j es)(a8:Fr (fun k=>aB1 g m es k∨k=gj) w wy)(hD:aB4 wy base g m d'.pw d'.room es2)(hs:sec FE.f es2=d'.fs)(a9:∀k,aB1 g m es2 k->aB1 g m es k∨w.heap.size<=k)(hJ:JAt wy F' gj g j')(hF:∀k,F' k->(F k∨w.heap.size<=k)∧k<wy.heap.size∧k≠gj∧¬aB1 g m es2 k)(b8:base<=w.heap.size){r:Int×JnP×DkD}{c:Int}(hr:r=(c,j',d')):cU6 w base g m gj es F r (.returned (.int .i64 c)) wy:=by
 subst hr;refine⟨rfl,es2,F',⟨hD,hs,hJ,fun k hk=>?_,h.lo⟩,a8,a9,fun k hk=>(hF k hk).1⟩;have h1:=hF k hk;refine⟨?_,h1.2⟩;rcases h1.1 with h2|h2
 ·exact(h.apart k h2).1
 omega
end
theorem JAt.turn{w:World}{F:Nat->Prop}{gj g:Nat}{j:JnP}(h:JAt w F gj g j):∃sv,Blk w gj 53 #[.int .i64 j.term,.int .i64 j.vote,sv,.pointer (some ⟨g,0,none⟩),.int .i64 j.bad]∧
  ∀(w' :World) (t v bad:Int),w.heap.size<=w'.heap.size->(∀k,F k->w'.heap[k]? =w.heap[k]?)->Blk w' gj 53 #[.int .i64 t,.int .i64 v,sv,.pointer (some ⟨g,0,none⟩),.int .i64 bad]->(-9223372036854775808<=t∧t<=9223372036854775807)->(-9223372036854775808<=v∧v<=9223372036854775807)->JAt w' F gj g ⟨t,v,j.segs,bad⟩:=by
 obtain⟨⟨A,c,a8,h1,h2,h3,h4,h5⟩,h6,h7⟩:=h;exact⟨_,h1,fun w' t v bad hs hk hb ht hv=>⟨⟨A,c,a8,hb,h2,h3.keep hs hk,h4,fun i h h' =>(h5 i h h').keep hs hk⟩,h6,⟨ht,hv⟩⟩⟩
theorem Got.rdG{w:World}{base nE:Nat}{G:Nat->Prop}{A:Option Addr}{n c:Nat}{l:List UInt8}(h:Got w base (.slice A n c) l)(hb:nE<=base):RdF w (EG G nE w) A (cells l):=fun h0=>by
 obtain⟨A',c',hv,_,_,hr⟩:=h.shape;injection hv with e1 _ _
 subst e1;obtain⟨ad,e,hlt,hc⟩:=hr h0;rcases h.row with hr0|⟨g,n',cap,cur,hv2,hg,hB,_⟩
 ·injection hr0 with e2 _ _
  rw[e2] at e;cases e
 injection hv2 with e2 _ _
 rw[e2] at e;injection e with e
 subst e;refine⟨g,0,e2,EG.fresh hB (by omega) (by decide),hB.lt,fun j u hu=>?_⟩;rw[<-add_lit];exact hc j u hu
theorem dC0{d:DkD}{n:Nm}:((d.read n).1.length:Int)<=aB8 d.fs:=by
 unfold DkD.read;split
 ·exact aD7 _
 split
 ·exact aD7 _
 rename_i f hf
 exact aJ5 (q:=(n,f)) (aC8 hf)
section
variable{P:Program}{md:Region.Mode}{Q:Exit->Act->World->Prop}{S:World->Prop}{l:List Oper}
theorem dE6(i k:Nat){fuel:Nat}{listed:Array Bool}{a:Act}{w:World}(hi:i<l.length)(hk:k<l.length)(hr:Region.ready md l.toArray listed=[i,k])
  (h1:∀K' :Act->World->Prop,Shut (∀a w,S w->(S w->wpAnyH P md l.toArray Q S fuel (listed.setIfInBounds i true) a w)->K' a w)->if Region.wanted l[i] (yielded l.toArray a.tmps)=true then Oper.wp P l[i] a w K' Q else K' (a.put l[i].dst undef) w)
  (h2:∀K' :Act->World->Prop,Shut (∀a w,S w->(S w->wpAnyH P md l.toArray Q S fuel (listed.setIfInBounds k true) a w)->K' a w)->if Region.wanted l[k] (yielded l.toArray a.tmps)=true then Oper.wp P l[k] a w K' Q else K' (a.put l[k].dst undef) w):wpAnyH P md l.toArray Q S (fuel+1) listed a w:=
 wpAnyH_ready hr (by simp) (AllReadyH.cons (by rw[List.getElem?_toArray,lW hi]) h1 (AllReadyH.cons (by rw[List.getElem?_toArray,lW hk]) h2 AllReadyH.nil))
end
end
section
open Go.RowKit Oct
structure bI0(w:World)(G:Nat)(s:aC4)(rs:List aF2)(vl ve:Value)(lo:Int)(em tn:Bool):Prop where
 blk:Blk w G 139 #[.int .i64 s.k,.int .i64 s.first,.int .i64 s.term,vl,ve,.int .i64 lo,.bool em,.bool tn]
 ents:w.ownsRow (G+1) 65 4 vl rs.length (aA7 rs)
 map:rs.map aF2.e=s.l
 dat:∀q∈rs,bC9 w (G+1) q.v q.e.b
 ends:Own w (G+1) 3 ve (s.ends.map (Value.int .i64))
section
variable{w w' :World}{G:Nat}{s:aC4}{rs:List aF2}{vl ve:Value}{lo:Int}{em tn:Bool}
theorem bI0.new(h:bI0 w G s rs vl ve lo em tn)(hb:Below w.heap.size w w'):bI0 w' G s rs vl ve lo em tn:=
 ⟨h.blk.below hb h.blk.lt,World.ownsRow.kept h.ents (aA5 hb none) (by cases vl.ownBlock<;>simp),h.map,fun q hq=>(h.dat q hq).keep fun k hk=>hb.block k ((h.dat q hq).lt k hk).2,Own.below h.ends hb (lR _)⟩
theorem bI0.headed(h:bI0 w G s rs vl ve lo em tn)(hg:w.grownBy w' (some G)){f t:Int}(hB:Blk w' G 139 #[.int .i64 s.k,.int .i64 f,.int .i64 t,vl,ve,.int .i64 lo,.bool em,.bool tn]):bI0 w' G {s with first:=f,term:=t} rs vl ve lo em tn:=
 ⟨hB,World.ownsRow.kept h.ents hg (by
  cases hv:vl.ownBlock with
  |none=>exact .inl rfl
  |some q=>exact .inr fun e=>by injection e with e;have:=(World.ownsRow.lt h.ents q hv).1;omega),h.map,fun q hq=>(h.dat q hq).keep fun k hk=>hg.block k ((h.dat q hq).lt k hk).2 (fun e=>by injection e with e;have:=((h.dat q hq).lt k hk).1;omega),Own.far h.ends hg (by omega)⟩
theorem bI0.push{w2:World}{vl' :Value}{q:aF2}(h:bI0 w G s rs vl ve lo em tn)(hq:bC9 w (G+1) q.v q.e.b)(a9:w2.ownsRow (G+1) 65 4 vl' (rs.length+1) (aA7 rs++aK2 q))(hg:w.grownBy w2 vl.ownBlock):
  bI0 (w2.setCell ⟨G,3,none⟩ vl') G {s with l:=s.l++[q.e]} (rs++[q]) vl' ve lo em tn:=by
 have d9:∀k,vl.ownBlock=some k->G<k:=fun k hk=>by have:=(World.ownsRow.lt h.ents k hk).1;omega
 have b8:∀(v:Value) (l:List UInt8),bC9 w (G+1) v l->bC9 (w2.setCell ⟨G,3,none⟩ vl') (G+1) v l:=fun v l hd=>hd.keep fun k hk=>by
  have h2:=hd.lt k hk;rw[Below.heap_setCell w2 ⟨G,3,none⟩ vl' k (by show k≠G;omega)];refine hg.block k h2.2 fun e=>?_
  obtain⟨g,cs,fz,e1,hc⟩:=hd.held;rw[hk] at e1;injection e1 with e1
  subst e1;obtain⟨f6,a8⟩:=aD1 h.ents e.symm;rw[hc] at a8;injection a8 with a8
  injection a8 with _ h _
  exact absurd h (by decide)
 have d8:=aA0 w2 G 3 vl';have k1:Blk w2 G 139 _:=h.blk.grown hg (fun e=>by have:=d9 G e.symm;omega);refine⟨Blk.set_ k1 3 _,?_,by rw[mE,h.map];rfl,fun x hx=>?_,Own.far (Own.kept h.ends hg (jrow_type_ne h.ends h.ents (by decide))) d8 (by omega)⟩
 ·rw[aI3,lT]
  have:w2.ownsRow (G+1) 65 4 vl' (rs.length+[q].length) (aA7 rs++aA7 [q]):=by simpa[aA7] using a9
  exact World.ownsRow.kept this d8 (by
   cases hv:vl'.ownBlock with
   |none=>exact .inl rfl
   |some k=>exact .inr fun e=>by injection e with e;have:=(World.ownsRow.lt this k hv).1;omega)
 rcases List.mem_append.1 hx with hx|hx
 ·exact b8 _ _ (h.dat x hx)
 obtain rfl:=List.mem_singleton.1 hx;exact b8 _ _ hq
end
theorem bI0.setR{w:World}{G:Nat}{s:aC4}{rs:List aF2}{vl ve:Value}{lo:Int}{em tn:Bool}(h:bI0 w G s rs vl ve lo em tn)(g i:Nat)(u:Value)(hg:g<G):bI0 (w.setCell ⟨g,i,none⟩ u) G s rs vl ve lo em tn:=
 ⟨h.blk.far (by show G≠g;omega) u,World.ownsRow.kept h.ents (aA0 w g i u) (by
  cases hv:vl.ownBlock with
  |none=>exact .inl rfl
  |some q=>exact .inr fun e=>by injection e with e;have:=(World.ownsRow.lt h.ents q hv).1;omega),h.map,fun q hq=>(h.dat q hq).keep fun k hk=>(aA0 w g i u).block k ((h.dat q hq).lt k hk).2 (fun e=>by injection e with e;have:=((h.dat q hq).lt k hk).1;omega),Own.far h.ends (aA0 w g i u) (by omega)⟩
theorem bI0.pushEnd{w w2:World}{G:Nat}{s:aC4}{rs:List aF2}{vl ve ve' :Value}{lo:Int}{em tn:Bool}{a:Int}(h:bI0 w G s rs vl ve lo em tn)(b8:Own w2 (G+1) 3 ve' (s.ends.map (Value.int .i64)++[.int .i64 a]))(hg:w.grownBy w2 ve.ownBlock):
  bI0 (w2.setCell ⟨G,4,none⟩ ve') G {s with ends:=s.ends++[a]} rs vl ve' lo em tn:=by
 have f6:∀k,ve.ownBlock=some k->G<k:=fun k hk=>by have:=(Own.lt h.ends k hk).1;omega
 have d8:=aA0 w2 G 4 ve';have k1:Blk w2 G 139 _:=h.blk.grown hg (fun e=>by have:=f6 G e.symm;omega);have a8:Own w2 (G+1) 3 ve' ((s.ends++[a]).map (Value.int .i64)):=by simpa using b8
 have d9:w2.ownsRow (G+1) 65 4 vl rs.length (aA7 rs):=World.ownsRow.kept h.ents hg (jrow_type_ne h.ents h.ends (by decide));refine⟨Blk.set_ k1 4 _,World.ownsRow.kept d9 d8 (by
  cases hv:vl.ownBlock with
  |none=>exact .inl rfl
  |some k=>exact .inr fun e=>by injection e with e;have:=(World.ownsRow.lt d9 k hv).1;omega),h.map,fun q hq=>(h.dat q hq).keep fun k hk=>?_,Own.far a8 d8 (by omega)⟩
 have h2:=(h.dat q hq).lt k hk;rw[Below.heap_setCell w2 ⟨G,4,none⟩ ve' k (by show k≠G;omega)];refine hg.block k h2.2 fun e=>?_
 obtain⟨g,cs,fz,e1,hc⟩:=(h.dat q hq).held;rw[hk] at e1;injection e1 with e1
 subst e1;obtain⟨f7,a9⟩:=aD1 h.ends e.symm;rw[hc] at a9;injection a9 with a9
 injection a9 with _ h _
 exact absurd h (by decide)
theorem bR4{w1 w2 w4:World}{G:Nat}{s:aC4}{rs:List aF2}{vl ve v4:Value}{lo:Int}{em tn:Bool}{a:Int}(hS:bI0 w2 G s rs vl ve lo em tn)(hB:Below G w1 w2)(a8:Own w4 (G+1) 3 v4 (s.ends.map (Value.int .i64)++[.int .i64 a]))(hg:w2.grownBy w4 ve.ownBlock):
  ∃A4 c4,v4=.slice A4 (s.ends.length+1) c4∧w4.cell? ⟨G,4,none⟩=some ve∧w4.frozen? ⟨G,4,none⟩=false∧bI0 (w4.setCell ⟨G,4,none⟩ v4) G {s with ends:=s.ends++[a]} rs vl v4 lo em tn∧Below G w1 (w4.setCell ⟨G,4,none⟩ v4):=by
 have a9:ve.ownBlock≠some G:=fun e=>by have:=(Own.lt hS.ends G e).1;omega
 have d9:=hS.blk.lt;have k4:=hg.block G d9 (fun e=>a9 e.symm);have d8:Blk w4 G 139 _:=Eq.trans k4 hS.blk;obtain⟨A4,c4,b8,_,_,_⟩:=Own.shape a8;rw[lT,lU] at b8;have hb:=hB.size;exact⟨A4,c4,b8,d8.cell 4,d8.frozen _,hS.pushEnd a8 hg,aI0 (hB.grown hg (by omega) (fun j hj=>by have:=(Own.lt hS.ends j hj).1;omega)) G 4 _ (lR _)⟩
structure RdJ(k:Int)(b:List UInt8)(i:Nat)(s:aC4)(a:Int):Prop where
 rd:RdI k b i s a
 ix:0<i->s.last.1=s.first+i-2
theorem RdJ.start(k:Int)(b:List UInt8):RdJ k b 0 ⟨k,0,0,[],[]⟩ 0:=⟨RdI.start k b,fun h=>by omega⟩
section
variable{k:Int}{b:List UInt8}{i:Nat}{s:aC4}{a:Int}
theorem RdJ.head{p:List UInt8}{f t:Int}(h:RdJ k b 0 s a)(hp:(aE4 b).1[0]? =some p)(hpl:p.length<=1048576)(ht:aK0 p=some (f,t)):RdJ k b 1 ⟨k,f,t,[],[((aF1 p).length:Int)]⟩ ((aF1 p).length:Int):=
 ⟨h.rd.head hp hpl ht,fun _=>by show f-1=f+((1:Nat):Int)-2;omega⟩
theorem RdJ.entry{p:List UInt8}{q:aK5}(h:RdJ k b i s a)(hi:0<i)(hp:(aE4 b).1[i]? =some p)(hpl:p.length<=1048576)(ht:aF6 p s.last.1=some q):
  RdJ k b (i+1) {s with l:=s.l++[q],ends:=s.ends++[a+(aF1 p).length]} (a+(aF1 p).length):=
 ⟨h.rd.entry hi hp hpl ht,fun _=>by
  have h1:=bJ3 ht;have h2:=h.ix hi;have h3:aC4.last {s with l:=s.l++[q],ends:=s.ends++[a+(aF1 p).length]}=(q.ix,q.tm):=by unfold aC4.last;simp
  rw[h3];show q.ix=s.first+((i+1:Nat):Int)-2
  omega⟩
end
theorem cQ2{p:List UInt8}{a:Int}(h:aG9-1<=a):aF6 p a=none:=by
 have h1:aF6 p a=aF6 p ((a+1)-1):=by rw[show a+1-1=a by omega]
 rw[h1,bZ3];split
 ·rfl
 split
 ·rfl
 rw[if_pos (.inr (.inr (by omega)))]
theorem bI1{w:World}{R:Nat}{T:TypeId}{z0 z1 z2 z3 z4 z5 z6 z7:Value}(h:Blk w R T #[z0,z1,z2,z3,z4,z5,z6,z7])(c0 c1 c2 c3 c4 c5 c6 c7:Value):
  Blk ((((((((w.setCell ⟨R,0,none⟩ c0).setCell ⟨R,1,none⟩ c1).setCell ⟨R,2,none⟩ c2).setCell ⟨R,3,none⟩ c3).setCell ⟨R,4,none⟩ c4).setCell ⟨R,5,none⟩ c5).setCell ⟨R,6,none⟩ c6).setCell ⟨R,7,none⟩ c7) R T #[c0,c1,c2,c3,c4,c5,c6,c7]:=by
 have h0:Blk _ R T #[c0,z1,z2,z3,z4,z5,z6,z7]:=h.set_ 0 c0;have h1:Blk _ R T #[c0,c1,z2,z3,z4,z5,z6,z7]:=h0.set_ 1 c1;have h2:Blk _ R T #[c0,c1,c2,z3,z4,z5,z6,z7]:=h1.set_ 2 c2;have h3:Blk _ R T #[c0,c1,c2,c3,z4,z5,z6,z7]:=h2.set_ 3 c3;have h4:Blk _ R T #[c0,c1,c2,c3,c4,z5,z6,z7]:=h3.set_ 4 c4;have h5:Blk _ R T #[c0,c1,c2,c3,c4,c5,z6,z7]:=h4.set_ 5 c5;have h6:Blk _ R T #[c0,c1,c2,c3,c4,c5,c6,z7]:=h5.set_ 6 c6;have h7:Blk _ R T #[c0,c1,c2,c3,c4,c5,c6,c7]:=h6.set_ 7 c7;exact h7
theorem aW8{w:World}{g:Nat}{t:TypeId}{c0 c1 c2 c3 c4 c5 c6 c7:Value}(h:Blk w g t #[c0,c1,c2,c3,c4,c5,c6,c7]):w.cell? ⟨g,0,none⟩=some c0∧w.cell? ⟨g,1,none⟩=some c1∧w.cell? ⟨g,2,none⟩=some c2∧w.cell? ⟨g,3,none⟩=some c3∧w.cell? ⟨g,4,none⟩=some c4∧w.cell? ⟨g,5,none⟩=some c5∧w.cell? ⟨g,6,none⟩=some c6∧w.cell? ⟨g,7,none⟩=some c7:=
 ⟨h.cell 0,h.cell 1,h.cell 2,h.cell 3,h.cell 4,h.cell 5,h.cell 6,h.cell 7⟩
theorem aS7{fn:Func}(h:fn.results=#[.cell 4 139,.tmp 5])(tmps:Array Value)(W:World)(g:Nat)(c0 c1 c2 c3 c4 c5 c6 c7:Value)(hp:tmps[4]?.getD undef=.pointer (some ⟨g,0,none⟩))(hB:Blk W g 139 #[c0,c1,c2,c3,c4,c5,c6,c7]):
  (results fn tmps).run Tryz.prog W=.ok (.tuple #[.agg #[c0,c1,c2,c3,c4,c5,c6,c7],tmps.getD 5 undef]) W:=by
 obtain⟨e0,e1,e2,e3,e4,e5,e6,e7⟩:=aW8 hB;simp[results,h,go_sem,hp,e0,e1,e2,e3,e4,e5,e6,e7]
theorem cX0{w1 wB w9:World}{G:Nat}{s:aC4}{rs:List aF2}{vl ve v9:Value}{lo:Int}{em tn:Bool}{q:aF2}(hS:bI0 wB G s rs vl ve lo em tn)(hB:Below G w1 wB)(hq:bC9 wB (G+1) q.v q.e.b)(a8:w9.ownsRow (G+1) 65 4 v9 (rs.length+1) (aA7 rs++aK2 q))(hg:wB.grownBy w9 vl.ownBlock):
  ∃A9 c9,v9=.slice A9 (rs.length+1) c9∧w9.cell? ⟨G,3,none⟩=some vl∧w9.frozen? ⟨G,3,none⟩=false∧bI0 (w9.setCell ⟨G,3,none⟩ v9) G {s with l:=s.l++[q.e]} (rs++[q]) v9 ve lo em tn∧Below G w1 (w9.setCell ⟨G,3,none⟩ v9):=by
 have a9:vl.ownBlock≠some G:=fun e=>by have:=(World.ownsRow.lt hS.ents G e).1;omega
 have d8:=hS.blk.lt;have k4:=hg.block G d8 (fun e=>a9 e.symm);have b8:Blk w9 G 139 _:=Eq.trans k4 hS.blk;obtain⟨A9,c9,d9,_⟩:=aB2 a8;have hb:=hB.size;exact⟨A9,c9,d9,b8.cell 3,b8.frozen _,hS.push hq a8 hg,aI0 (hB.grown hg (by omega) (fun j hj=>by have:=(World.ownsRow.lt hS.ents j hj).1;omega)) G 3 _ (lR _)⟩
def aP3(o:Option aK5)(a0 a1 a2:Int)(v:Value)(ok:Bool)(w:World)(B:Nat):Prop:=match o with
 |none=>ok=false
 |some q=>ok=true∧a0=q.ix∧a1=q.tm∧a2=q.kd∧bC9 w B v q.b
theorem aP3.keep{o:Option aK5}{a0 a1 a2:Int}{v:Value}{ok:Bool}{w w' :World}{B:Nat}(h:aP3 o a0 a1 a2 v ok w B)(hk:∀x,B<=x->x<w.heap.size->w'.heap[x]? =w.heap[x]?):aP3 o a0 a1 a2 v ok w' B:=by
 cases o with
 |none=>exact h
 |some q=>exact⟨h.1,h.2.1,h.2.2.1,h.2.2.2.1,h.2.2.2.2.keep fun x hx=>hk x (h.2.2.2.2.lt x hx).1 (h.2.2.2.2.lt x hx).2⟩
theorem aP3.keepRow{o:Option aK5}{a0 a1 a2:Int}{v:Value}{ok:Bool}{w w' :World}{B xb:Nat}{cs:Array Value}(h:aP3 o a0 a1 a2 v ok w B)(hg:w.grownBy w' (some xb))(hB:Blk w xb 65 cs):aP3 o a0 a1 a2 v ok w' B:=by
 cases o with
 |none=>exact h
 |some q=>
  refine⟨h.1,h.2.1,h.2.2.1,h.2.2.2.1,h.2.2.2.2.keep fun x hx=>hg.block x (h.2.2.2.2.lt x hx).2 (fun e=>?_)⟩;injection e with e
  subst e;obtain⟨g,a8,fz,e1,hc⟩:=h.2.2.2.2.held;rw[hx] at e1;injection e1 with e1
  subst e1;have h1:=hc.symm.trans hB;injection h1 with h1
  injection h1 with _ h1 _
  exact absurd h1 (by decide)
theorem aP3.mono{o:Option aK5}{a0 a1 a2:Int}{v:Value}{ok:Bool}{w:World}{B B' :Nat}(h:aP3 o a0 a1 a2 v ok w B)(hB:B' <=B):aP3 o a0 a1 a2 v ok w B' :=by
 cases o with
 |none=>exact h
 |some q=>exact⟨h.1,h.2.1,h.2.2.1,h.2.2.2.1,h.2.2.2.2.mono hB⟩
theorem cN7(A:Option Addr)(p:List UInt8)(c:Nat)(w:World)(hr:Rd w w.heap.size A (cells p))(a8:p.length<=c)(hl:p.length<=140737488351232)(hc:c<=9223372036854775807)(ix:Int)(a9:-9223372036854775808<=ix∧ix<=9223372036854775807):
  Calls Tryz.prog 168 #[.slice A p.length c,.int .i64 ix] w fun e w' =>∃(a0 a1 a2:Int) (Av:Option Addr) (nv cv:Nat) (ok:Bool),e=.returned (.tuple #[.agg #[.int .i64 a0,.int .i64 a1,.int .i64 a2,.slice Av nv cv],.bool ok])∧Below w.heap.size w w' ∧aP3 (aF6 p (ix-1)) a0 a1 a2 (.slice Av nv cv) ok w' w.heap.size:=by
 refine(cE1 A p c w hr a8 hl hc ix a9).mono fun e w' ⟨hb,h⟩=>?_
 cases ht:aF6 p (ix-1) with
 |none=>
  rw[ht] at h;exact⟨_,_,_,_,_,_,_,h,hb,rfl⟩
 |some q=>
  rw[ht] at h;obtain⟨v,h1,h2⟩:=h;obtain⟨g,cc,cs,fz,rfl,_⟩:=id h2;exact⟨_,_,_,_,_,_,_,h1,hb,rfl,rfl,rfl,rfl,h2⟩
theorem cN4(k:Int)(hk:-9223372036854775808<=k∧k<=9223372036854775807)(A:Option Addr)(b:List UInt8)(c:Nat)(w:World)(hr:Rd w w.heap.size A (cells b))(N8:b.length<=c)(hb:b.length<=1000000000)(hc:c<=9223372036854775807):
  Calls Tryz.prog 137 #[.int .i64 k,.slice A b.length c] w fun e w' =>Below w.heap.size w w' ∧∃v,e=.returned (.tuple #[v,.bool (aD9 k b).isSome])∧(∃a1 a2 a3 Al nl cl Ae ne ce lo em tn,v=.agg #[.int .i64 a1,.int .i64 a2,.int .i64 a3,.slice Al nl cl,.slice Ae ne ce,.int .i64 lo,.bool em,.bool tn])∧
   ∀s torn,aD9 k b=some (s,torn)->∃G rs vl ve,w.heap.size<=G∧bI0 w' G s rs vl ve (aE4 b).2.1 (decide ((aE4 b).1.length=0)) torn∧v=.agg #[.int .i64 s.k,.int .i64 s.first,.int .i64 s.term,vl,ve,.int .i64 (aE4 b).2.1,.bool (decide ((aE4 b).1.length=0)),.bool torn]∧s.k=k∧(0<=s.first∧s.first<=9223372036854775806)∧-1<=s.last.1∧s.l.length<=b.length∧s.ends.length<=b.length:=by
 obtain⟨wR,s9⟩:∃W,W=w.alloc (.cells #[.int .i64 0,.int .i64 0,.int .i64 0,.slice none 0 0,.slice none 0 0,.int .i64 0,.bool false,.bool false] 139):=⟨_,rfl⟩
 have t4:Below w.heap.size w wR:=by rw[s9];exact(lS _ w).alloc (lR _) _
 have B8:Blk wR w.heap.size 139 #[.int .i64 0,.int .i64 0,.int .i64 0,.slice none 0 0,.slice none 0 0,.int .i64 0,.bool false,.bool false]:=by rw[s9];exact Blk.new w _ _
 have M1:=qZ s9;have K3:=qZ (cV0 A b b.length c rfl wR ((hr.below t4).more t4.size) N8 (by omega));have K0:=qZ B8;have K4:=qZ t4;have G4:=B8.lt;clear t4 B8 hr s9;go_enter Tryz.func137,Tryz.ntmps137
 go_upto_region 1 with fail
 rw[<-M1.out];go_wp2_with fail
 refine K3.out.mono ?_;rintro e w1 ⟨v,xs,rfl,hg,x8⟩;obtain⟨A1,c1,hv,O9,P1,N0⟩:=Own.shape hg.own;subst hv;have C4:=K0.out.below x8 G4;have D5:Below w.heap.size w w1:=K4.out.trans (x8.mono (by omega));obtain⟨er,C9⟩:∃er,er=(aE4 b).2.2:=⟨_,rfl⟩
 obtain⟨lo,B2⟩:∃lo,lo=(aE4 b).2.1:=⟨_,rfl⟩
 have N4:=qZ C9;have M6:=qZ B2;rw[<-C9,<-B2];have P5:=D5.size;have E9:w.heap.size<w1.heap.size:=C4.lt;clear C9 B2 K3 K0 K4;have j9:=qZ hg;have G5:=qZ C4;have p8:=qZ D5;clear hg C4 D5 x8;go_upto_region 3 with(fail)
 obtain⟨G,hG⟩:∃G,G=w1.heap.size:=⟨_,rfl⟩
 obtain⟨tn,B5⟩:∃tn,tn=(er !=0):=⟨_,rfl⟩
 obtain⟨em,C3⟩:∃em,em=((xs.length:Int)==0):=⟨_,rfl⟩
 have p4:em=decide ((aE4 b).1.length=0):=by
  rw[C3,j9.out.len];by_cases h:(aE4 b).1.length=0
  ·rw[h];rfl
  rw[decide_eq_false h];exact beq_eq_false_iff_ne.2 (by omega)
 rw[<-B5,<-C3];obtain⟨wG,x7⟩:∃W,W=w1.alloc (.cells #[.int .i64 k,.int .i64 0,.int .i64 0,.slice none 0 0,.slice none 0 0,.int .i64 lo,.bool em,.bool tn] 139):=⟨_,rfl⟩
 have J9:bI0 wG G ⟨k,0,0,[],[]⟩ [] (.slice none 0 0) (.slice none 0 0) lo em tn:=by
  rw[hG,x7];exact⟨Blk.new w1 _ _,World.ownsRow_nil _ _ _ _,rfl,(fun q hq=>by cases hq),Own.nil _ _ _⟩
 have J2:Below G w1 wG:=by
  rw[hG,x7];exact(lS _ w1).alloc (lR _) _
 rw[<-x7,<-hG];have L1:=qZ J9;have M7:=qZ J2;have K8:=qZ B5;have K9:=qZ p4;have HG:=qZ hG;have m5:=qZ E9;obtain⟨J0,m9⟩:=bB9 b;have G7:xs.length<=1000000000:=by rw[j9.out.len];omega
 clear J9 J2 B5 C3 p4 hG G4 E9 N0 x7;go_wp2_with fail
 go_loopw [10,11,12,13,14,15,16,17,18] (fun at_ ix _ _ _ _ _ _ _ wr=>∃(i:Nat) (a:Int) (s:aC4) (rs:List aF2) (vl ve:Value),i<=xs.length∧ix=.int .i64 i∧at_=.int .i64 a∧Hid (RdJ k b i s a)∧Hid (rs.length=s.l.length)∧Hid (bI0 wr G s rs vl ve lo em tn)∧Hid (Below G w1 wr)) (fun _ ix _ _ _ _ _ _ _ _=>xs.length-(intOf ix).toNat)
 case atStart=>exact⟨0,0,_,[],_,_,by omega,rfl,rfl,qZ (RdJ.start k b),qZ rfl,L1,M7⟩
 obtain⟨i,a,s,rs,vl,ve,hi,rfl,rfl,f7,D8,HS,HB⟩:=hrel;have O1:G<wr.heap.size:=HS.out.blk.lt;by_cases hlt:i<xs.length
 rotate_left
 ·obtain rfl:i=xs.length:=by omega
  have hD:=f7.out.rd.done j9.out.len;obtain⟨Al,cl,C5,_⟩:=aB2 HS.out.ents;obtain⟨Ae,ce,n5,_,_,_⟩:=Own.shape HS.out.ends;rw[lU] at n5;subst C5 n5;have K7:=G5.out.below HB.out (by rw[HG.out];exact m5.out);have b8:=qZ K7;have I5:tn=decide ((aE4 b).2.2≠0):=by rw[K8.out,N4.out];by_cases h:(aE4 b).2.2=0<;>simp[h,bne]
  rw[<-I5] at hD;have hz:(aD9 k b).isSome=true:=by rw[hD];rfl
  have HZ:=qZ hz;have HD:=qZ hD;clear K7 hz hD I5;have g0:wr.cell? ⟨G,0,none⟩=some (.int .i64 s.k):=HS.out.blk.cell 0;have g1:wr.cell? ⟨G,1,none⟩=some (.int .i64 s.first):=HS.out.blk.cell 1;have g2:wr.cell? ⟨G,2,none⟩=some (.int .i64 s.term):=HS.out.blk.cell 2;have g3:wr.cell? ⟨G,3,none⟩=some (.slice Al rs.length cl):=HS.out.blk.cell 3;have g4:wr.cell? ⟨G,4,none⟩=some (.slice Ae s.ends.length ce):=HS.out.blk.cell 4;have g5:wr.cell? ⟨G,5,none⟩=some (.int .i64 lo):=HS.out.blk.cell 5;have g6:wr.cell? ⟨G,6,none⟩=some (.bool em):=HS.out.blk.cell 6;have g7:wr.cell? ⟨G,7,none⟩=some (.bool tn):=HS.out.blk.cell 7;have r0:wr.cell? ⟨w.heap.size,0,none⟩=some _:=b8.out.cell 0;have r1:wr.cell? ⟨w.heap.size,1,none⟩=some _:=b8.out.cell 1;have r2:wr.cell? ⟨w.heap.size,2,none⟩=some _:=b8.out.cell 2;have r3:wr.cell? ⟨w.heap.size,3,none⟩=some _:=b8.out.cell 3;have r4:wr.cell? ⟨w.heap.size,4,none⟩=some _:=b8.out.cell 4;have r5:wr.cell? ⟨w.heap.size,5,none⟩=some _:=b8.out.cell 5;have r6:wr.cell? ⟨w.heap.size,6,none⟩=some _:=b8.out.cell 6;have r7:wr.cell? ⟨w.heap.size,7,none⟩=some _:=b8.out.cell 7;have z0:wr.frozen? ⟨w.heap.size,0,none⟩=false:=b8.out.frozen _;have z1:wr.frozen? ⟨w.heap.size,1,none⟩=false:=b8.out.frozen _;have z2:wr.frozen? ⟨w.heap.size,2,none⟩=false:=b8.out.frozen _;have z3:wr.frozen? ⟨w.heap.size,3,none⟩=false:=b8.out.frozen _;have z4:wr.frozen? ⟨w.heap.size,4,none⟩=false:=b8.out.frozen _;have z5:wr.frozen? ⟨w.heap.size,5,none⟩=false:=b8.out.frozen _;have z6:wr.frozen? ⟨w.heap.size,6,none⟩=false:=b8.out.frozen _;have z7:wr.frozen? ⟨w.heap.size,7,none⟩=false:=b8.out.frozen _
  go_wp2_with fail
  (try simp only[Exit.inBlock,Exit.then])
  refine bodyPost_ret (v:=.tuple #[.agg #[.int .i64 s.k,.int .i64 s.first,.int .i64 s.term,.slice Al rs.length cl,.slice Ae s.ends.length ce,.int .i64 lo,.bool em,.bool tn],.bool true]) ((aS7 rfl _ _ w.heap.size _ _ _ _ _ _ _ _ rfl (bI1 b8.out _ _ _ _ _ _ _ _)).trans rfl) rfl ?_;have O6:=HG.out;have O7:=m5.out;have l5:Below w.heap.size w wr:=p8.out.trans (HB.out.mono (by omega));have N7:=HS.out;have M2:=K9.out;have M9:=M6.out;refine⟨?_,_,by rw[HZ.out],⟨_,_,_,_,_,_,_,_,_,_,_,_,rfl⟩,fun s' torn' h=>?_⟩
  ·iterate 8 (refine aI0 ?_ _ _ _ (lR _))
   exact l5
  rw[HD.out] at h;injection h with h
  injection h with e1 e2
  subst e1 e2;rw[<-M2,<-M9];refine⟨G,rs,_,_,by omega,?_,rfl,f7.out.rd.key,f7.out.rd.first,f7.out.rd.last,by have:=f7.out.rd.len.2;rw[j9.out.len] at this;omega,by have:=f7.out.rd.len.1;rw[j9.out.len] at this;omega⟩
  iterate 8 (refine bI0.setR ?_ _ _ _ (by omega))
  exact N7
 have l6:i<(aE4 b).1.length:=by rw[<-j9.out.len];exact hlt
 have o7:=Rd.at_ (aG1.rd j9.out) hlt;obtain⟨l9,L2,J6,p9⟩:=o7;subst L2;have hp:=(j9.out.got i hlt l6).shape;obtain⟨Ap,cp,hv,B7,p6,J3⟩:=hp;rw[hv] at p9;have C7:=qZ p9;have o9:wr.cell? (l9.add i)=some (.slice Ap ((aE4 b).1[i]).length cp):=(World.cell?_of_block (w:=w1) (HB.out.block _ (by rw[aC7,HG.out];exact J6))).trans p9;have t7:=m9 _ (lX l6);have C2:(aE4 b).1[i]? =some ((aE4 b).1[i]):=lW l6;have x6:Rd w1 G Ap (cells ((aE4 b).1[i])):=by rw[HG.out];exact J3
 have l4:Rd wr G Ap (cells ((aE4 b).1[i])):=x6.below HB.out;generalize(aE4 b).1[i]=p at x6 B7 t7 C2 l4 o9 C7
 have o8:=qZ C2;have L0:=qZ x6;have M4:=qZ l4;clear C2 l4 p9 hv J3 x6;have M5:(i:Int)<(xs.length:Int):=by omega
 obtain⟨Al,cl,C5,_⟩:=aB2 HS.out.ents;obtain⟨Ae,ce,n5,_,_,_⟩:=Own.shape HS.out.ends;rw[lU] at n5;subst C5 n5;have D7:=cM0 Ap p p.length cp rfl wr (M4.out.more (by omega)) (by omega);obtain⟨P4,n4⟩:∃x,x=bI4 p:=⟨_,rfl⟩
 rw[<-n4] at D7;have G9:=qZ D7;clear n4 D7;go_wp2_with fail
 refine G9.out.mono ?_;rintro e w3 ⟨v3,rfl,D9,D4⟩;obtain⟨A3,c3,O0,_,_,_⟩:=aC5 D9;subst O0;have C8:=HS.out.new D4;have E6:Below G w1 w3:=HB.out.trans (D4.mono (by omega));have I9:=aG4 t7;obtain⟨f8,l8⟩:∃x,x=(aF1 p).length:=⟨_,rfl⟩
 have o5:=qZ l8;rw[<-l8] at I9⊢;have N3:=f7.out.rd.at_;have hw:IntKind.i64.wrap (a+(f8:Int))=a+(f8:Int):=mH _ (by omega);have x5:=qZ C8;have E7:=qZ E6;have z9:G<w3.heap.size:=C8.blk.lt;have n9:=Nat.le_of_eq f7.out.rd.len.1;clear G9 D9 D4 C8 E6 l8;go_upto_region 9 with fail
 have g4:w3.cell? ⟨G,4,none⟩=some (.slice Ae s.ends.length ce):=x5.out.blk.cell 4;have gz:w3.frozen? ⟨G,4,none⟩=false:=x5.out.blk.frozen _;have m7:=qZ (x5.out.new ((lS _ w3).alloc (lR _) (.cells [Value.int .i64 (a+(f8:Int))].toArray 3)));have t8:=qZ (E7.out.trans (((lS _ w3).alloc (lR _) (.cells [Value.int .i64 (a+(f8:Int))].toArray 3)).mono (by omega)));have p0:Rd (w3.alloc (.cells [Value.int .i64 (a+(f8:Int))].toArray 3)) (w3.heap.size+1) (some ⟨w3.heap.size,0,none⟩) [Value.int .i64 (a+(f8:Int))]:=aF9 w3 3 [Value.int .i64 (a+(f8:Int))];have n6:=qZ p0;have D0:=((lS _ w3).alloc (lR _) (.cells [Value.int .i64 (a+(f8:Int))].toArray 3)).size;clear p0;go_upto_region 10 with(at_builtin;go_must (refine aA6 rfl (.tmp 52) (.tmp 54) 41 rfl (G+1) 3 (.int .i64 0) 8 Tryz.underlying41 bB1 rfl _ _ rfl m7.out.ends (w3.heap.size+1) (some ⟨w3.heap.size,0,none⟩) 1 1 [.int .i64 (a+(f8:Int))] rfl rfl n6.out (by simp[Value.oneCell']) (by unfold maxLen;simp<;>omega) (by simp<;>omega) (by omega) ?_;intro v4 w4 i6 K6 L5;obtain⟨A4,c4,L7,q4,y4,I6,E8⟩:=bR4 m7.out t8.out i6 K6;subst L7;have t6:=qZ (And.intro I6 E8);clear i6 K6 L5 I6 E8))
 clear q4 y4 g4 gz m7 t8 n6 D0;generalize(w4.setCell ⟨G,4,none⟩ (.slice A4 (s.ends.length+1) c4))=w5 at t6⊢
 have a9:=qZ t6.out.1;have m4:=qZ t6.out.2;have B1:G<w5.heap.size:=a9.out.blk.lt;have q6:Hid (w5.cell? (l9.add i)=some (.slice Ap p.length cp)):=qZ ((World.cell?_of_block (w:=w1) (m4.out.block _ (by rw[aC7,HG.out];exact J6))).trans C7.out);have o6:=qZ (L0.out.below m4.out);clear t6 o9 x5 E7 z9 HS HB O1;have o4:=G5.out.below m4.out (by rw[HG.out];exact m5.out);have a8:=qZ o4;clear o4;by_cases hi0:i=0
 ·subst hi0
  obtain⟨rfl,rfl⟩:=f7.out.rd.zero rfl;have C0:w5.cell? l9=some (.slice Ap p.length cp):=(show l9.add 0=l9 by simp[Addr.add])▸q6.out;have D1:=cQ4 Ap p cp w5 (o6.out.more (by omega)) B7 (by omega) p6;have C1:=bU4 p;obtain⟨f,hf⟩:∃x,x=(aT7 p).1:=⟨_,rfl⟩
  obtain⟨t,ht⟩:∃x,x=(aT7 p).2.1:=⟨_,rfl⟩
  obtain⟨ok,m6⟩:∃x,x=(aT7 p).2.2:=⟨_,rfl⟩
  rw[<-hf,<-ht,<-m6] at D1 C1;have J5:=qZ D1;have G2:=qZ C1;clear D1 C1 hf ht m6;go_wp2_with fail
  refine J5.out.mono ?_;rintro e w6 ⟨rfl,rfl⟩;clear J5 C0;cases ok with
  |false=>
   have HN:=qZ (RdI.headBad (k:=k) o8.out (G2.out.trans (if_neg (by decide))));have HZ:=qZ (show(aD9 k b).isSome=false by rw[HN.out];rfl);have g0:w5.cell? ⟨G,0,none⟩=some (.int .i64 k):=a9.out.blk.cell 0;have g1:w5.cell? ⟨G,1,none⟩=some (.int .i64 0):=a9.out.blk.cell 1;have g2:w5.cell? ⟨G,2,none⟩=some (.int .i64 0):=a9.out.blk.cell 2;have g3:w5.cell? ⟨G,3,none⟩=some (.slice Al rs.length cl):=a9.out.blk.cell 3;have g4:w5.cell? ⟨G,4,none⟩=some (.slice A4 1 c4):=a9.out.blk.cell 4;have g5:w5.cell? ⟨G,5,none⟩=some (.int .i64 lo):=a9.out.blk.cell 5;have g6:w5.cell? ⟨G,6,none⟩=some (.bool em):=a9.out.blk.cell 6;have g7:w5.cell? ⟨G,7,none⟩=some (.bool tn):=a9.out.blk.cell 7;have r0:w5.cell? ⟨w.heap.size,0,none⟩=some _:=a8.out.cell 0;have r1:w5.cell? ⟨w.heap.size,1,none⟩=some _:=a8.out.cell 1;have r2:w5.cell? ⟨w.heap.size,2,none⟩=some _:=a8.out.cell 2;have r3:w5.cell? ⟨w.heap.size,3,none⟩=some _:=a8.out.cell 3;have r4:w5.cell? ⟨w.heap.size,4,none⟩=some _:=a8.out.cell 4;have r5:w5.cell? ⟨w.heap.size,5,none⟩=some _:=a8.out.cell 5;have r6:w5.cell? ⟨w.heap.size,6,none⟩=some _:=a8.out.cell 6;have r7:w5.cell? ⟨w.heap.size,7,none⟩=some _:=a8.out.cell 7;have z0:w5.frozen? ⟨w.heap.size,0,none⟩=false:=a8.out.frozen _;have z1:w5.frozen? ⟨w.heap.size,1,none⟩=false:=a8.out.frozen _;have z2:w5.frozen? ⟨w.heap.size,2,none⟩=false:=a8.out.frozen _;have z3:w5.frozen? ⟨w.heap.size,3,none⟩=false:=a8.out.frozen _;have z4:w5.frozen? ⟨w.heap.size,4,none⟩=false:=a8.out.frozen _;have z5:w5.frozen? ⟨w.heap.size,5,none⟩=false:=a8.out.frozen _;have z6:w5.frozen? ⟨w.heap.size,6,none⟩=false:=a8.out.frozen _
   have z7:w5.frozen? ⟨w.heap.size,7,none⟩=false:=a8.out.frozen _;go_wp2_with fail
   (try simp only[Exit.inBlock,Exit.then])
   refine bodyPost_ret (v:=.tuple #[.agg #[.int .i64 k,.int .i64 0,.int .i64 0,.slice Al rs.length cl,.slice A4 1 c4,.int .i64 lo,.bool em,.bool tn],.bool false]) ((aS7 rfl _ _ w.heap.size _ _ _ _ _ _ _ _ rfl (bI1 a8.out _ _ _ _ _ _ _ _)).trans rfl) rfl ?_;refine⟨?_,_,by rw[HZ.out],⟨_,_,_,_,_,_,_,_,_,_,_,_,rfl⟩,fun s torn h=>by rw[HN.out] at h;cases h⟩;have l5:Below w.heap.size w w5:=p8.out.trans (m4.out.mono (by have:=HG.out;have:=m5.out;omega))
   iterate 8 (refine aI0 ?_ _ _ _ (lR _))
   exact l5
  |true=>
   have I1:aK0 p=some (f,t):=G2.out.trans (if_pos rfl);have B9:=qZ (f7.out.head o8.out t7 I1);have g1:w5.cell? ⟨G,1,none⟩=some (.int .i64 0):=a9.out.blk.cell 1;have g2:w5.cell? ⟨G,2,none⟩=some (.int .i64 0):=a9.out.blk.cell 2;have y1:w5.frozen? ⟨G,1,none⟩=false:=a9.out.blk.frozen _;have y2:w5.frozen? ⟨G,2,none⟩=false:=a9.out.blk.frozen _;have D6:w5.grownBy ((w5.setCell ⟨G,1,none⟩ (.int .i64 f)).setCell ⟨G,2,none⟩ (.int .i64 t)) (some G):=aA4 (aA0 w5 G 1 _) (aA0 _ G 2 _) (.inl rfl);have N2:=qZ (a9.out.headed D6 (f:=f) (t:=t) ((a9.out.blk.set_ 1 (.int .i64 f)).set_ 2 (.int .i64 t)));have m2:=qZ (m4.out.grown D6 (by omega) (fun r hr=>by injection hr with hr;omega));clear D6 I1;go_wp2_with fail
   go_roundw
   case rel=>exact⟨1,(f8:Int),_,rs,_,_,by omega,rfl,rfl,qZ (by have h:=B9.out;rw[<-o5.out] at h;rw[Int.zero_add,List.nil_append];exact h),qZ D8.out,qZ N2.out,qZ m2.out⟩
   case measure=>simp[intOf];omega
 have p7:0<i:=by omega
 have O8:((i:Int)==0)=false:=beq_eq_false_iff_ne.2 (by omega);have B6:=f7.out.ix p7;have O3:=f7.out.rd.first;have g1:w5.cell? ⟨G,1,none⟩=some (.int .i64 s.first):=a9.out.blk.cell 1;have P2:IntKind.i64.wrap (9223372036854775807-(i:Int))=9223372036854775807-(i:Int):=mH _ (by omega);have I4:-9223372036854775808<=9223372036854775807-(i:Int):=by omega
 by_cases hbig:9223372036854775807-(i:Int)<s.first
 ·have HN:=qZ (f7.out.rd.entryBad p7 o8.out (cQ2 (by unfold aG9;omega)))
  have HZ:=qZ (show(aD9 k b).isSome=false by rw[HN.out];rfl);have N6:decide (s.first>9223372036854775807-(i:Int))=true:=decide_eq_true hbig;clear g1 I4 hbig B6 O3;have g0:w5.cell? ⟨G,0,none⟩=some (.int .i64 s.k):=a9.out.blk.cell 0;have g1:w5.cell? ⟨G,1,none⟩=some (.int .i64 s.first):=a9.out.blk.cell 1;have g2:w5.cell? ⟨G,2,none⟩=some (.int .i64 s.term):=a9.out.blk.cell 2;have g3:w5.cell? ⟨G,3,none⟩=some (.slice Al rs.length cl):=a9.out.blk.cell 3;have g4:w5.cell? ⟨G,4,none⟩=some (.slice A4 (s.ends.length+1) c4):=a9.out.blk.cell 4;have g5:w5.cell? ⟨G,5,none⟩=some (.int .i64 lo):=a9.out.blk.cell 5;have g6:w5.cell? ⟨G,6,none⟩=some (.bool em):=a9.out.blk.cell 6;have g7:w5.cell? ⟨G,7,none⟩=some (.bool tn):=a9.out.blk.cell 7;have r0:w5.cell? ⟨w.heap.size,0,none⟩=some _:=a8.out.cell 0;have r1:w5.cell? ⟨w.heap.size,1,none⟩=some _:=a8.out.cell 1;have r2:w5.cell? ⟨w.heap.size,2,none⟩=some _:=a8.out.cell 2;have r3:w5.cell? ⟨w.heap.size,3,none⟩=some _:=a8.out.cell 3;have r4:w5.cell? ⟨w.heap.size,4,none⟩=some _:=a8.out.cell 4;have r5:w5.cell? ⟨w.heap.size,5,none⟩=some _:=a8.out.cell 5;have r6:w5.cell? ⟨w.heap.size,6,none⟩=some _:=a8.out.cell 6;have r7:w5.cell? ⟨w.heap.size,7,none⟩=some _:=a8.out.cell 7;have z0:w5.frozen? ⟨w.heap.size,0,none⟩=false:=a8.out.frozen _;have z1:w5.frozen? ⟨w.heap.size,1,none⟩=false:=a8.out.frozen _;have z2:w5.frozen? ⟨w.heap.size,2,none⟩=false:=a8.out.frozen _;have z3:w5.frozen? ⟨w.heap.size,3,none⟩=false:=a8.out.frozen _;have z4:w5.frozen? ⟨w.heap.size,4,none⟩=false:=a8.out.frozen _;have z5:w5.frozen? ⟨w.heap.size,5,none⟩=false:=a8.out.frozen _
  have z6:w5.frozen? ⟨w.heap.size,6,none⟩=false:=a8.out.frozen _;have z7:w5.frozen? ⟨w.heap.size,7,none⟩=false:=a8.out.frozen _;go_wp2_with fail
  (try simp only[Exit.inBlock,Exit.then])
  refine bodyPost_ret (v:=.tuple #[.agg #[.int .i64 s.k,.int .i64 s.first,.int .i64 s.term,.slice Al rs.length cl,.slice A4 (s.ends.length+1) c4,.int .i64 lo,.bool em,.bool tn],.bool false]) ((aS7 rfl _ _ w.heap.size _ _ _ _ _ _ _ _ rfl (bI1 a8.out _ _ _ _ _ _ _ _)).trans rfl) rfl ?_;refine⟨?_,_,by rw[HZ.out],⟨_,_,_,_,_,_,_,_,_,_,_,_,rfl⟩,fun s torn h=>by rw[HN.out] at h;cases h⟩;have l5:Below w.heap.size w w5:=p8.out.trans (m4.out.mono (by have:=HG.out;have:=m5.out;omega))
  iterate 8 (refine aI0 ?_ _ _ _ (lR _))
  exact l5
 have N6:decide (s.first>9223372036854775807-(i:Int))=false:=decide_eq_false hbig;have M8:=qZ B6;have G0:s.first+(i:Int)<=9223372036854775807:=by omega
 have y8:=qZ G0;clear I4 hbig B6 G0;obtain⟨R,hR⟩:∃R,R=aF6 p s.last.1:=⟨_,rfl⟩
 have C6:=qZ hR;clear hR;go_upto_region 18 with fail
 go_cut [17,18] from 80 to 92 (fun c17 c18 wx=>∃(xb:Nat) (a0 a1 a2:Int) (Av:Option Addr) (nv cv:Nat) (ok:Bool),c17=.pointer (some ⟨xb,0,none⟩)∧c18=.bool ok∧w5.heap.size<=xb∧Hid (Below w5.heap.size w5 wx)∧Hid (Blk wx xb 65 #[.int .i64 a0,.int .i64 a1,.int .i64 a2,.slice Av nv cv])∧Hid (aP3 R a0 a1 a2 (.slice Av nv cv) ok wx w5.heap.size))
 case first=>
  have HE:Hid (∀W,Below w5.heap.size w5 W->Calls Tryz.prog 168 #[.slice Ap p.length cp,.int .i64 (s.first+(i:Int)-1)] W fun e w' =>∃(a0 a1 a2:Int) (Av:Option Addr) (nv cv:Nat) (ok:Bool),e=.returned (.tuple #[.agg #[.int .i64 a0,.int .i64 a1,.int .i64 a2,.slice Av nv cv],.bool ok])∧Below W.heap.size W w' ∧aP3 R a0 a1 a2 (.slice Av nv cv) ok w' W.heap.size):=qZ (fun W hW=>by
   rw[C6.out,show s.last.1=s.first+(i:Int)-1-1 by have:=M8.out;omega];exact cN7 Ap p cp W (((o6.out.more (by omega:G<=w5.heap.size)).below hW).more hW.size) B7 (by omega) p6 _ (by have:=y8.out;omega))
  have P0:IntKind.i64.wrap (s.first+(i:Int))=s.first+(i:Int):=mH _ (by have:=y8.out;omega);have O5:IntKind.i64.wrap (s.first+(i:Int)-1)=s.first+(i:Int)-1:=mH _ (by have:=y8.out;omega);have m3:Hid (∀W,Below w5.heap.size w5 W->W.cell? (l9.add i)=some (.slice Ap p.length cp)∧W.cell? ⟨G,1,none⟩=some (.int .i64 s.first)∧True∧True):=qZ (fun W hW=>⟨(hW.cell (mI _ _ q6.out)).trans q6.out,(hW.cell (p:=⟨G,1,none⟩) B1).trans (a9.out.blk.cell 1),trivial,trivial⟩);have x4:Hid (Below w5.heap.size w5 w5.drew):=qZ (lS _ w5).drew;clear g1 hw I9 N3 n9;refine wp_region_held_drew (S:=fun W=>W.cell? (l9.add i)=some (.slice Ap p.length cp)∧W.cell? ⟨G,1,none⟩=some (.int .i64 s.first)∧True∧True) (by kernel_rfl) (m3.out _ x4.out) (fun hHeld=>?_);refine zT 0 (k:=?_);refine zT 1 (k:=?_);refine zT 2 (k:=?_);refine zT 3 (k:=?_);refine zT 4 (k:=?_);refine zT 5 (k:=?_);refine zT 6 (k:=?_);refine zT 7 (k:=?_);refine zT 8 (k:=?_);simp only[zA,zB,zF,zG,zC,zD,zE];refine dE6 9 13 (by simp) (by simp) (by kernel_rfl) (fun K hK=>?_) (fun K hK=>?_)
  ·simp only[zA,zB]
   go_simp;refine(HE.out _ x4.out).mono ?_;rintro e w6 ⟨a0,a1,a2,Av,nv,cv,ok,rfl,B4,d8⟩;have O2:w5.heap.size<=w6.heap.size:=B4.size;have I3:Hid (Below w5.heap.size w5 w6):=qZ (x4.out.trans B4);have K5:Hid (aP3 R a0 a1 a2 (.slice Av nv cv) ok w6 w5.heap.size):=qZ d8;clear B4 d8;refine hK _ _ (m3.out _ I3.out) (fun hHeld=>?_);clear hK K;try simp only[zF,zG,zC,zD,zE]
   refine zT 10 (k:=?_);refine zT 11 (k:=?_);refine zT 12 (k:=?_);simp only[zA,zB,zF,zG,zC,zD,zE];refine zV 13 (k:=fun K hK=>?_);simp only[zA,zB];go_simp;have hX:=Blk.new w6 65 #[.int .i64 0,.int .i64 0,.int .i64 0,.slice none 0 0];have j6:Below w6.heap.size w6 (w6.alloc (.cells #[.int .i64 0,.int .i64 0,.int .i64 0,.slice none 0 0] 65)):=(lS _ w6).alloc (lR _) _;obtain⟨w7,G6⟩:∃W,W=w6.alloc (.cells #[.int .i64 0,.int .i64 0,.int .i64 0,.slice none 0 0] 65):=⟨_,rfl⟩
   rw[<-G6] at hX j6⊢;obtain⟨xb,m8⟩:∃n,n=w6.heap.size:=⟨_,rfl⟩
   rw[<-m8] at hX⊢;have L9:=j6.size;have G7:=hX.lt;have m2:=qZ (I3.out.trans (j6.mono O2));have l7:=qZ (K5.out.keep (fun x h1 h2=>j6.block x h2));have i4:w5.heap.size<=xb:=by omega
   have f0:w7.cell? ⟨xb,0,none⟩=some (.int .i64 0):=hX.cell 0;have f1:w7.cell? ⟨xb,1,none⟩=some (.int .i64 0):=hX.cell 1;have f2:w7.cell? ⟨xb,2,none⟩=some (.int .i64 0):=hX.cell 2;have f3:w7.cell? ⟨xb,3,none⟩=some (.slice none 0 0):=hX.cell 3;have z0:w7.frozen? ⟨xb,0,none⟩=false:=hX.frozen _;have z1:w7.frozen? ⟨xb,1,none⟩=false:=hX.frozen _;have z2:w7.frozen? ⟨xb,2,none⟩=false:=hX.frozen _;have z3:w7.frozen? ⟨xb,3,none⟩=false:=hX.frozen _;have p5:=(((hX.set_ 0 (.int .i64 a0)).set_ 1 (.int .i64 a1)).set_ 2 (.int .i64 a2)).set_ 3 (.slice Av nv cv);have m0:w7.grownBy ((((w7.setCell ⟨xb,0,none⟩ (.int .i64 a0)).setCell ⟨xb,1,none⟩ (.int .i64 a1)).setCell ⟨xb,2,none⟩ (.int .i64 a2)).setCell ⟨xb,3,none⟩ (.slice Av nv cv)) (some xb):=aA4 (aA4 (aA4 (aA0 w7 xb 0 _) (aA0 _ xb 1 _) (.inl rfl)) (aA0 _ xb 2 _) (.inl rfl)) (aA0 _ xb 3 _) (.inl rfl);have g9:=qZ p5;have g8:=qZ (m2.out.grown m0 (by omega) (fun r hr=>by injection hr with hr;omega));have f6:=qZ (l7.out.keepRow m0 hX);clear hX p5 m0 K5 j6 G6 m8;refine hK _ _ (m3.out _ m2.out) (fun hHeld=>?_);clear hK K;try simp only[zF,zG,zC,zD,zE]
   refine zV 14 (k:=fun K hK=>?_);simp only[zA,zB];go_simp;refine hK _ _ (m3.out _ g8.out) (fun hHeld=>?_);clear hK K f0 f1 f2 f3 z0 z1 z2 z3;try simp only[zF,zG,zC,zD,zE]
   refine zT 15 (k:=?_);simp only[zA,zB,zF,zG,zC,zD,zE];refine wpAnyH_done (by kernel_rfl) ?_ _;clear hHeld;go_wp2_with fail
   go_meet;exact⟨xb,a0,a1,a2,Av,nv,cv,ok,rfl,rfl,i4,g8,g9,f6⟩
  simp only[zA,zB];go_simp;have E5:Blk (w5.drew.alloc (.cells #[.int .i64 0,.int .i64 0,.int .i64 0,.slice none 0 0] 65)) w5.heap.size 65 #[.int .i64 0,.int .i64 0,.int .i64 0,.slice none 0 0]:=Blk.new w5.drew _ _;have j6:Below w5.heap.size w5 (w5.drew.alloc (.cells #[.int .i64 0,.int .i64 0,.int .i64 0,.slice none 0 0] 65)):=x4.out.alloc (lR _) _;obtain⟨wA,t9⟩:∃W,W=(w5.alloc (.cells #[.int .i64 0,.int .i64 0,.int .i64 0,.slice none 0 0] 65)).drew:=⟨_,rfl⟩
  have J4:Blk wA w5.heap.size 65 #[.int .i64 0,.int .i64 0,.int .i64 0,.slice none 0 0]:=by rw[t9];exact E5
  have D3:Below w5.heap.size w5 wA:=by rw[t9];exact j6
  clear E5 j6;rw[<-t9];have z8:=qZ D3;have I2:=qZ J4;have J1:=D3.size;clear t9 D3 J4;refine hK _ _ (m3.out _ z8.out) (fun hHeld=>?_);clear hK K;try simp only[zF,zG,zC,zD,zE]
  refine zV 9 (k:=fun K hK=>?_);simp only[zA,zB];go_simp;refine(HE.out _ z8.out).mono ?_;rintro e w7 ⟨a0,a1,a2,Av,nv,cv,ok,rfl,q8,d8⟩;have L9:=q8.size;have m2:=qZ (z8.out.trans (q8.mono J1));have l7:Hid (aP3 R a0 a1 a2 (.slice Av nv cv) ok w7 w5.heap.size):=qZ (d8.mono J1);have hX:=I2.out.below q8 I2.out.lt;clear q8 d8;refine hK.out _ _ (m3.out _ m2.out) (fun hHeld=>?_);clear hK K;try simp only[zF,zG,zC,zD,zE]
  refine zT 10 (k:=?_);refine zT 11 (k:=?_);refine zT 12 (k:=?_);simp only[zA,zB,zF,zG,zC,zD,zE];obtain⟨xb,m8⟩:∃n,n=w5.heap.size:=⟨_,rfl⟩
  have i4:w5.heap.size<=xb:=by omega
  rw[<-m8] at hX;have G7:=hX.lt;have f0:w7.cell? ⟨xb,0,none⟩=some (.int .i64 0):=hX.cell 0;have f1:w7.cell? ⟨xb,1,none⟩=some (.int .i64 0):=hX.cell 1;have f2:w7.cell? ⟨xb,2,none⟩=some (.int .i64 0):=hX.cell 2;have f3:w7.cell? ⟨xb,3,none⟩=some (.slice none 0 0):=hX.cell 3;have z0:w7.frozen? ⟨xb,0,none⟩=false:=hX.frozen _;have z1:w7.frozen? ⟨xb,1,none⟩=false:=hX.frozen _;have z2:w7.frozen? ⟨xb,2,none⟩=false:=hX.frozen _;have z3:w7.frozen? ⟨xb,3,none⟩=false:=hX.frozen _;have p5:=(((hX.set_ 0 (.int .i64 a0)).set_ 1 (.int .i64 a1)).set_ 2 (.int .i64 a2)).set_ 3 (.slice Av nv cv);have m0:w7.grownBy ((((w7.setCell ⟨xb,0,none⟩ (.int .i64 a0)).setCell ⟨xb,1,none⟩ (.int .i64 a1)).setCell ⟨xb,2,none⟩ (.int .i64 a2)).setCell ⟨xb,3,none⟩ (.slice Av nv cv)) (some xb):=aA4 (aA4 (aA4 (aA0 w7 xb 0 _) (aA0 _ xb 1 _) (.inl rfl)) (aA0 _ xb 2 _) (.inl rfl)) (aA0 _ xb 3 _) (.inl rfl);have g9:=qZ p5;have g8:=qZ (m2.out.grown m0 (by omega) (fun r hr=>by injection hr with hr;omega));have f6:=qZ (l7.out.keepRow m0 hX);clear hX p5 m0;rw[<-m8];clear m8;refine zV 14 (k:=fun K hK=>?_);simp only[zA,zB];go_simp;refine hK _ _ (m3.out _ g8.out) (fun hHeld=>?_);clear hK K f0 f1 f2 f3 z0 z1 z2 z3;try simp only[zF,zG,zC,zD,zE]
  refine zT 15 (k:=?_);simp only[zA,zB,zF,zG,zC,zD,zE];refine wpAnyH_done (by kernel_rfl) ?_ _;clear hHeld;go_wp2_with fail
  go_meet;exact⟨xb,a0,a1,a2,Av,nv,cv,ok,rfl,rfl,i4,g8,g9,f6⟩
 obtain⟨xb,a0,a1,a2,Av,nv,cv,ok,L4,M3,i4,g8,g9,f6⟩:=hcut;subst L4 M3;have f9:=qZ (a9.out.new g8.out);have O4:=g8.out.size;have n8:=qZ (m4.out.trans (g8.out.mono (by omega)));have d9:=qZ (a8.out.below g8.out a8.out.lt);have N5:G<wc.heap.size:=f9.out.blk.lt;clear a9 a8 g1 C7 q6;cases R with
 |none=>
  have m6:ok=false:=f6.out;subst m6;have HN:=qZ (f7.out.rd.entryBad p7 o8.out C6.out.symm);have HZ:=qZ (show(aD9 k b).isSome=false by rw[HN.out];rfl);clear f6;have g0:wc.cell? ⟨G,0,none⟩=some (.int .i64 s.k):=f9.out.blk.cell 0;have g1:wc.cell? ⟨G,1,none⟩=some (.int .i64 s.first):=f9.out.blk.cell 1;have g2:wc.cell? ⟨G,2,none⟩=some (.int .i64 s.term):=f9.out.blk.cell 2;have g3:wc.cell? ⟨G,3,none⟩=some (.slice Al rs.length cl):=f9.out.blk.cell 3;have g4:wc.cell? ⟨G,4,none⟩=some (.slice A4 (s.ends.length+1) c4):=f9.out.blk.cell 4;have g5:wc.cell? ⟨G,5,none⟩=some (.int .i64 lo):=f9.out.blk.cell 5;have g6:wc.cell? ⟨G,6,none⟩=some (.bool em):=f9.out.blk.cell 6;have g7:wc.cell? ⟨G,7,none⟩=some (.bool tn):=f9.out.blk.cell 7;have r0:wc.cell? ⟨w.heap.size,0,none⟩=some _:=d9.out.cell 0;have r1:wc.cell? ⟨w.heap.size,1,none⟩=some _:=d9.out.cell 1;have r2:wc.cell? ⟨w.heap.size,2,none⟩=some _:=d9.out.cell 2;have r3:wc.cell? ⟨w.heap.size,3,none⟩=some _:=d9.out.cell 3;have r4:wc.cell? ⟨w.heap.size,4,none⟩=some _:=d9.out.cell 4;have r5:wc.cell? ⟨w.heap.size,5,none⟩=some _:=d9.out.cell 5;have r6:wc.cell? ⟨w.heap.size,6,none⟩=some _:=d9.out.cell 6;have r7:wc.cell? ⟨w.heap.size,7,none⟩=some _:=d9.out.cell 7;have z0:wc.frozen? ⟨w.heap.size,0,none⟩=false:=d9.out.frozen _;have z1:wc.frozen? ⟨w.heap.size,1,none⟩=false:=d9.out.frozen _;have z2:wc.frozen? ⟨w.heap.size,2,none⟩=false:=d9.out.frozen _;have z3:wc.frozen? ⟨w.heap.size,3,none⟩=false:=d9.out.frozen _;have z4:wc.frozen? ⟨w.heap.size,4,none⟩=false:=d9.out.frozen _;have z5:wc.frozen? ⟨w.heap.size,5,none⟩=false:=d9.out.frozen _
  have z6:wc.frozen? ⟨w.heap.size,6,none⟩=false:=d9.out.frozen _;have z7:wc.frozen? ⟨w.heap.size,7,none⟩=false:=d9.out.frozen _;go_wp2_with fail
  (try simp only[Exit.inBlock,Exit.then])
  refine bodyPost_ret (v:=.tuple #[.agg #[.int .i64 s.k,.int .i64 s.first,.int .i64 s.term,.slice Al rs.length cl,.slice A4 (s.ends.length+1) c4,.int .i64 lo,.bool em,.bool tn],.bool false]) ((aS7 rfl _ _ w.heap.size _ _ _ _ _ _ _ _ rfl (bI1 d9.out _ _ _ _ _ _ _ _)).trans rfl) rfl ?_;refine⟨?_,_,by rw[HZ.out],⟨_,_,_,_,_,_,_,_,_,_,_,_,rfl⟩,fun s torn h=>by rw[HN.out] at h;cases h⟩;have l5:Below w.heap.size w wc:=p8.out.trans (n8.out.mono (by have:=HG.out;have:=m5.out;omega))
  iterate 8 (refine aI0 ?_ _ _ _ (lR _))
  exact l5
 |some q=>
  obtain⟨m6,e0,e1,e2,J8⟩:=f6.out;subst m6 e0 e1 e2;have I8:=qZ J8;have B9:=qZ (f7.out.entry p7 o8.out t7 C6.out.symm);clear f6 J8;obtain⟨qx,qt,qk,qb⟩:=q;have x0:wc.cell? ⟨xb,0,none⟩=some (.int .i64 qx):=g9.out.cell 0;have x1:wc.cell? ⟨xb,1,none⟩=some (.int .i64 qt):=g9.out.cell 1;have x2:wc.cell? ⟨xb,2,none⟩=some (.int .i64 qk):=g9.out.cell 2;have x3:wc.cell? ⟨xb,3,none⟩=some (.slice Av nv cv):=g9.out.cell 3;have g3:wc.cell? ⟨G,3,none⟩=some (.slice Al rs.length cl):=f9.out.blk.cell 3;have n7:Below wc.heap.size wc (wc.alloc (.cells #[.int .i64 qx,.int .i64 qt,.int .i64 qk,.slice Av nv cv] 65)):=(lS _ wc).alloc (lR _) _;have m7:=qZ (f9.out.new n7);have t8:=qZ (n8.out.trans (n7.mono (by omega)));have L3:=qZ ((I8.out.keep (fun x hx=>n7.block x (I8.out.lt x hx).2)).mono (by omega:G+1<=w5.heap.size));have I0:∀j u,[Value.int .i64 qx,Value.int .i64 qt,Value.int .i64 qk,Value.slice Av nv cv][j]? =some u->(wc.alloc (.cells #[.int .i64 qx,.int .i64 qt,.int .i64 qk,.slice Av nv cv] 65)).cell? ((⟨wc.heap.size,0,none⟩:Addr).add j)=some u:=by
   obtain⟨ad,e1,_,h2⟩:=aF9 wc 65 [Value.int .i64 qx,Value.int .i64 qt,Value.int .i64 qk,Value.slice Av nv cv] (by simp);injection e1 with e1
   subst e1;exact h2
  have M0:=qZ I0;have P3:=n7.size;have L8:rs.length<=1000000000:=by have h1:=D8.out;have h2:=f7.out.rd.len.2;omega
  clear n7 I0 g9;go_wp2_with (at_builtin;go_must (refine aG7 rfl (.tmp 97) (.tmp 99) 40 rfl (G+1) 65 (.agg #[.int .i64 0,.int .i64 0,.int .i64 0,.slice none 0 0]) 4 48 Tryz.underlying40 aM3 rfl (by decide) _ rs.length (aA7 rs) rfl m7.out.ents ⟨wc.heap.size,0,none⟩ 1 1 [Value.int .i64 qx,Value.int .i64 qt,Value.int .i64 qk,Value.slice Av nv cv] rfl rfl M0.out (by simp[Value.oneCell']) (by unfold maxLen;omega) (by omega) (by omega) ?_;intro v9 w9 j8 G3 L6;obtain⟨A9,c9,N9,q9,y9,G8,I7⟩:=cX0 (q:=⟨.slice Av nv cv,⟨qx,qt,qk,qb⟩⟩) m7.out t8.out L3.out j8 G3;subst N9;have J7:=qZ (And.intro G8 I7);clear j8 G3 L6 G8 I7))
  go_roundw
  case rel=>exact⟨i+1,a+(f8:Int),_,rs++[⟨.slice Av nv cv,⟨qx,qt,qk,qb⟩⟩],_,_,by omega,by go_num,rfl,qZ (by have h:=B9.out;rw[<-o5.out] at h;exact h),qZ (by show(rs++[_]).length=(s.l++[_]).length;rw[lT,lT,D8.out];rfl),qZ J7.out.1,qZ J7.out.2⟩
  case measure=>simp[intOf];omega
end
section
open Go.RowKit Go.Maps Oct
structure bF7(w:World)(F:Nat->Prop)(B b:Nat)(s:aC4)(rs:List aF2)(vl ve:Value):Prop where
 blk:Blk w b 104 #[.int .i64 s.k,.int .i64 s.first,.int .i64 s.term,vl,ve]
 low:B<=b
 ents:w.ownsRow B 65 4 vl rs.length (aA7 rs)
 map:rs.map aF2.e=s.l
 dat:∀q∈rs,bF9 w F q.v q.e.b
 ends:Own w B 3 ve (s.ends.map (Value.int .i64))
section
variable{w w' :World}{F F' :Nat->Prop}{B b:Nat}{s:aC4}{rs:List aF2}{vl ve:Value}
theorem bF7.keep(h:bF7 w F B b s rs vl ve)(hs:w.heap.size<=w'.heap.size)(hk:∀k,F k->w'.heap[k]? =w.heap[k]?){row:Option Nat}(hg:w.grownBy w' row)(hb:row≠some b)(hl:vl.ownBlock=none∨vl.ownBlock≠row)(he:ve.ownBlock=none∨ve.ownBlock≠row):bF7 w' F B b s rs vl ve:=
 ⟨h.blk.grown hg (fun e=>hb e.symm),h.low,World.ownsRow.kept h.ents hg hl,h.map,fun q hq=>(h.dat q hq).keep hs hk,Own.kept h.ends hg he⟩
theorem bF7.below(h:bF7 w F B b s rs vl ve)(hF:∀k,F k->k<w.heap.size)(hb:Below w.heap.size w w'):bF7 w' F B b s rs vl ve:=
 h.keep hb.size (fun k hk=>hb.block k (hF k hk)) (aA5 hb none) (by simp) (by cases vl.ownBlock<;>simp) (by cases ve.ownBlock<;>simp)
theorem bF7.mono(h:bF7 w F B b s rs vl ve)(hF:∀k,F k->F' k):bF7 w F' B b s rs vl ve:=⟨h.blk,h.low,h.ents,h.map,fun q hq=>(h.dat q hq).mono hF,h.ends⟩
theorem bF7.rd(h:bF7 w F B b s rs vl ve)(hn:aZ8 s):aT8 w (fun k=>F k∨(B<=k∧k<w.heap.size)) ⟨b,0,none⟩ s:=by
 obtain⟨A1,c1,e1,k1,k2,_⟩:=aB2 h.ents;obtain⟨A2,c2,e2,k3,k4,_⟩:=Own.shape h.ends;have a8:rs.length=s.l.length:=by rw[<-h.map,lU]
 rw[lU] at k3 e2;subst e1 e2;refine⟨⟨A1,c1,rs,A2,c2,fun _=>⟨b,0,rfl,.inr ⟨h.low,h.blk.lt⟩,h.blk.lt,fun j u hu=>?_⟩,by rw[<-a8];exact k1,k2,k3,k4,RdF.of_row h.ents (fun k h1 h2=>.inr ⟨h1,h2⟩) (by rw[aC3];omega),h.map,fun q hq=>(h.dat q hq).mono (fun k hk=>.inl hk),RdF.of_own h.ends (fun k h1 h2=>.inr ⟨h1,h2⟩)⟩,hn⟩;rw[Nat.zero_add];refine aL6 h.blk j u ?_;rw[a8];exact hu
theorem bF7.segM(h:bF7 w F B b s rs vl ve)(hn:aZ8 s)(he:s.ends.length=s.l.length+1)(hl:s.l.length<=1099511627776)(ht:∀e∈s.l,e.b.length<=65535):bC8 w (fun k=>F k∨(B<=k∧k<w.heap.size)) ⟨b,0,none⟩ s:=⟨h.rd hn,he,hl,ht⟩
end
theorem bE0{w:World}{B B' :Nat}{e:TypeId}{size n:Nat}{v:Value}{xs:List Value}(h:w.ownsRow B e size v n xs)(hB:B' <=B):w.ownsRow B' e size v n xs:=by
 obtain⟨h1,h2⟩:=h;refine⟨h1,?_⟩;rcases h2 with h2|⟨g,cap,a8,hv,hb,r⟩
 ·exact .inl h2
 exact .inr ⟨g,cap,a8,hv,by omega,r⟩
theorem cA7{w:World}{F:Nat->Prop}{rs:List aF2}(h:∀q∈rs,bF9 w F q.v q.e.b):∀u∈aA7 rs,u.oneCell' =true:=by
 intro u hu;obtain⟨q,hq,hu⟩:=List.mem_flatMap.1 hu;obtain⟨A,c,hv,_⟩:=h q hq;simp only[aK2,List.mem_cons,List.not_mem_nil,or_false] at hu;rcases hu with rfl|rfl|rfl|rfl
 ·rfl
 ·rfl
 ·rfl
 rw[hv];rfl
theorem cN1{w:World}{F:Nat->Prop}{ad:Addr}{s:aC4}(h:bC8 w F ad s)(hF:∀k,F k->k<w.heap.size)(p6:s.l.length<=1000000000)(ix:Int)(t6:0<=ix∧ix<=9223372036854775807):
  Calls Tryz.prog 60 #[.pointer (some ad),.int .i64 ix] w fun e w' =>∃b rs vl ve,e=.returned (.pointer (some ⟨b,0,none⟩))∧bF7 w' F w.heap.size b (s.ahead ix) rs vl ve∧Below w.heap.size w w' :=by
 obtain⟨b,o,Al,cl,rs,Ae,ce,rfl,t4,a8,c0,c1,c2,c3,c4,⟨h1,h2,h3,h4⟩,h6,h7,h8,h9⟩:=h.rd.cells;have l5:=h.ends;have o9:=h.len;have p9:=h.rd.num.first;obtain⟨k,hk⟩:∃k,k=s.aheadN ix:=⟨_,rfl⟩
 have q6:k<=s.l.length:=by rw[hk];exact Nat.min_le_right _ _
 obtain⟨fi,j6⟩:∃x,x=s.first:=⟨_,rfl⟩
 obtain⟨sk,g8⟩:∃x,x=s.k:=⟨_,rfl⟩
 obtain⟨tm,f9⟩:∃x,x=s.term:=⟨_,rfl⟩
 obtain⟨nl,j9⟩:∃x,x=s.l.length:=⟨_,rfl⟩
 obtain⟨ne,l7⟩:∃x,x=s.ends.length:=⟨_,rfl⟩
 rw[<-j6] at c1 p9;rw[<-g8] at c0;rw[<-f9] at c2;rw[<-j9] at c3 h1 o9 l5 q6 p6;rw[<-l7] at c4 h3 l5;have m2:min (max (ix-fi) 0) (nl:Int)=(k:Int):=by
  rw[hk];unfold aC4.aheadN;rw[<-j6,<-j9];omega
 have t7:IntKind.i64.wrap (ix-fi)=ix-fi:=mH _ (by omega);have p5:ne=nl+1:=l5;have m9:((aA7 rs).take (k*4)).length=k*4:=by
  have m5:rs.length=nl:=by rw[j9,<-h7,lU]
  rw[lV,aC3];omega
 have n7:RdF w F Al ((aA7 rs).take (k*4)):=h6.take (k*4);have o4:RdF w F Ae ((s.ends.map (Value.int .i64)).take (k+1)):=h9.take (k+1);have n5:((s.ends.map (Value.int .i64)).take (k+1)).length=k+1:=by rw[lV,lU,<-l7];omega
 have o5:=qZ n7;have p0:=qZ o4;have n8:=qZ m9;have n9:=qZ n5;have HD:=qZ h8;have HM:=qZ h7;have HF:=qZ hF;have HK:=qZ hk;have p7:=qZ (show s.ahead ix=⟨sk,fi,tm,s.l.take k,s.ends.take (k+1)⟩ by rw[hk,g8,j6,f9];rfl);clear h h6 h7 h8 h9 hk j6 g8 f9 j9 l7 m9 n7 o4 n5 hF l5 t4;go_enter Tryz.func60,Tryz.ntmps60
 go_upto_region 1 with fail
 go_cut [5] from 6 to 18 (fun kv wx=>kv=.int .i64 k∧Hid (Below w.heap.size w wx))
 case first=>
  refine wp_region_held_drew (S:=fun W=>W.cell? ⟨b,o+1,none⟩=some (.int .i64 fi)∧W.cell? ⟨b,o+3,none⟩=some (.slice Al nl cl)∧True∧True) (by kernel_rfl) ⟨c1,c3,trivial,trivial⟩ (fun hHeld=>?_);refine zT 0 (k:=?_);refine zT 1 (k:=?_);refine zT 2 (k:=?_);refine zT 3 (k:=?_);refine zT 4 (k:=?_);refine zT 5 (k:=?_);refine zT 6 (k:=?_);refine zT 7 (k:=?_);refine zT 8 (k:=?_);refine zT 9 (k:=?_);refine zT 10 (k:=?_);refine zT 11 (k:=?_);refine zT 12 (k:=?_);refine zT 13 (k:=?_);simp only[zA,zB,zF,zG,zC,zD,zE];refine wpAnyH_done (by kernel_rfl) ?_ _;go_wp2_with fail
  go_meet;refine⟨congrArg (Value.int .i64) ?_,qZ (lS _ w).drew⟩;rw[<-m2]
  repeat' split
  all_goals omega
 obtain⟨rfl,HB⟩:=hcut;have o8:=HB.out.size;have f8:=qZ HB.out.drew;have l6:w.heap.size<=wc.drew.heap.size:=o8;have d0:wc.drew.cell? ⟨b,o,none⟩=some (.int .i64 sk):=(f8.out.cell (p:=⟨b,o,none⟩) a8).trans c0;have d1:wc.drew.cell? ⟨b,o+1,none⟩=some (.int .i64 fi):=(f8.out.cell (p:=⟨b,o+1,none⟩) a8).trans c1;have d2:wc.drew.cell? ⟨b,o+2,none⟩=some (.int .i64 tm):=(f8.out.cell (p:=⟨b,o+2,none⟩) a8).trans c2;have d3:wc.drew.cell? ⟨b,o+3,none⟩=some (.slice Al nl cl):=(f8.out.cell (p:=⟨b,o+3,none⟩) a8).trans c3;have d4:wc.drew.cell? ⟨b,o+4,none⟩=some (.slice Ae ne ce):=(f8.out.cell (p:=⟨b,o+4,none⟩) a8).trans c4;have a9:=qZ (And.intro c0 (And.intro c1 (And.intro c2 (And.intro c3 c4))));have x4:IntKind.i64.wrap ((k:Int)+1)=(k:Int)+1:=mH _ (by omega);have t9:k<=cl:=by omega
 have s9:k+1<=ce:=by omega
 have p4:(0:Int)<=(k:Int)+1:=by omega
 have q8:(k:Int)+1<=(ce:Int):=by omega
 have l9:=qZ (cA7 HD.out);have m3:=qZ (bK8 Al k cl _ wc.drew ((o5.out.rd.below f8.out).more l6) n8.out (fun u hu=>l9.out u (List.mem_of_mem_take hu)) (by omega));clear c0 c1 c2 c3 c4 HB;go_upto_region 2 with fail
 refine wp_region_held_drew (S:=fun W=>W.cell? ⟨b,o,none⟩=some (.int .i64 sk)∧W.cell? ⟨b,o+1,none⟩=some (.int .i64 fi)∧W.cell? ⟨b,o+2,none⟩=some (.int .i64 tm)∧W.cell? ⟨b,o+3,none⟩=some (.slice Al nl cl)∧W.cell? ⟨b,o+4,none⟩=some (.slice Ae ne ce)∧True) (by kernel_rfl) ⟨d0,d1,d2,d3,d4,trivial⟩ (fun hHeld=>?_);refine zT6 0 (k:=?_);refine zT6 1 (k:=?_);refine zT6 2 (k:=?_);refine zT6 3 (k:=?_);refine zT6 4 (k:=?_);refine zT6 5 (k:=?_);refine zT6 6 (k:=?_);refine zT6 7 (k:=?_);refine zT6 8 (k:=?_);refine zT6 9 (k:=?_);refine zT6 10 (k:=?_);refine zT6 11 (k:=?_);refine zT6 12 (k:=?_);refine zT6 13 (k:=?_);refine zT6 14 (k:=?_);refine zT6 15 (k:=?_);refine zT6 16 (k:=?_);refine zT6 17 (k:=?_);refine zT6 19 (k:=?_);refine zT6 20 (k:=?_);refine zT6 21 (k:=?_);refine zT6 22 (k:=?_);refine zT6 23 (k:=?_);refine zT6 24 (k:=?_);refine zT6 25 (k:=?_);simp only[zA,zB,zF,zG,zC,zD,zE];refine zV 18 (k:=fun K hK=>?_);simp only[zA,zB];go_simp;refine m3.out.mono ?_;rintro e w6 ⟨vl,rfl,d8,l8⟩;obtain⟨A6,c6,o7,_⟩:=aB2 d8;subst o7;have m7:=qZ d8;have d9:=qZ (f8.out.trans (l8.mono l6));have m0:=d9.out.size;have t8:=l8.size;have e0:w6.cell? ⟨b,o,none⟩=some (.int .i64 sk):=(d9.out.cell (p:=⟨b,o,none⟩) a8).trans a9.out.1;have e1:w6.cell? ⟨b,o+1,none⟩=some (.int .i64 fi):=(d9.out.cell (p:=⟨b,o+1,none⟩) a8).trans a9.out.2.1;have e2:w6.cell? ⟨b,o+2,none⟩=some (.int .i64 tm):=(d9.out.cell (p:=⟨b,o+2,none⟩) a8).trans a9.out.2.2.1;have e3:w6.cell? ⟨b,o+3,none⟩=some (.slice Al nl cl):=(d9.out.cell (p:=⟨b,o+3,none⟩) a8).trans a9.out.2.2.2.1
 have e4:w6.cell? ⟨b,o+4,none⟩=some (.slice Ae ne ce):=(d9.out.cell (p:=⟨b,o+4,none⟩) a8).trans a9.out.2.2.2.2;have n6:=qZ (cF3 Ae (k+1) ce _ w6 ((p0.out.rd.below d9.out).more m0) (by rw[n9.out];omega) (fun u hu=>by obtain⟨n,_,rfl⟩:=List.mem_map.1 (List.mem_of_mem_take hu);rfl) (by omega));clear d8 l8 m3 d0 d1 d2 d3 d4;refine hK.out _ _ ⟨e0,e1,e2,e3,e4,trivial⟩ (fun hHeld=>?_);clear hK K;try simp only[zF,zG,zC,zD,zE]
 refine zV 26 (k:=fun K hK=>?_);simp only[zA,zB];go_simp;refine n6.out.mono ?_;rintro e w7 ⟨ve,rfl,b8,l4⟩;obtain⟨A7,c7,o6,_⟩:=aB2 b8;subst o6;have m8:=qZ b8;have f7:=qZ (d9.out.trans (l4.mono m0));have p8:=f7.out.size;have x5:=l4.size;have i6:=qZ (World.ownsRow.kept m7.out (aA5 l4 none) (by cases(Value.slice A6 k c6).ownBlock<;>simp));have f0:w7.cell? ⟨b,o,none⟩=some (.int .i64 sk):=(f7.out.cell (p:=⟨b,o,none⟩) a8).trans a9.out.1;have f1:w7.cell? ⟨b,o+1,none⟩=some (.int .i64 fi):=(f7.out.cell (p:=⟨b,o+1,none⟩) a8).trans a9.out.2.1;have f2:w7.cell? ⟨b,o+2,none⟩=some (.int .i64 tm):=(f7.out.cell (p:=⟨b,o+2,none⟩) a8).trans a9.out.2.2.1;have f3:w7.cell? ⟨b,o+3,none⟩=some (.slice Al nl cl):=(f7.out.cell (p:=⟨b,o+3,none⟩) a8).trans a9.out.2.2.2.1;have f4:w7.cell? ⟨b,o+4,none⟩=some (.slice Ae ne ce):=(f7.out.cell (p:=⟨b,o+4,none⟩) a8).trans a9.out.2.2.2.2;clear b8 l4 n6 e0 e1 e2 e3 e4 m7 d9;refine hK.out _ _ ⟨f0,f1,f2,f3,f4,trivial⟩ (fun hHeld=>?_);clear hK K;try simp only[zF,zG,zC,zD,zE]
 refine zT6 27 (k:=?_);simp only[zA,zB,zF,zG,zC,zD,zE];refine zV 28 (k:=fun K hK=>?_);simp only[zA,zB];go_simp;have j8:Below w7.heap.size w7 (w7.alloc (.cells #[.int .i64 sk,.int .i64 fi,.int .i64 tm,.slice A6 k c6,.slice A7 (k+1) c7] 104)):=(lS _ w7).alloc (lR _) _;have m6:=Blk.new w7 104 #[.int .i64 sk,.int .i64 fi,.int .i64 tm,.slice A6 k c6,.slice A7 (k+1) c7];have f6:=qZ (f7.out.trans (j8.mono p8));have g9:=qZ (World.ownsRow.kept i6.out (aA5 j8 none) (by cases(Value.slice A6 k c6).ownBlock<;>simp));have i4:=qZ (World.ownsRow.kept m8.out (aA5 j8 none) (by cases(Value.slice A7 (k+1) c7).ownBlock<;>simp));have n4:=qZ m6;have g0:=(f6.out.cell (p:=⟨b,o,none⟩) a8).trans a9.out.1;have g1:=(f6.out.cell (p:=⟨b,o+1,none⟩) a8).trans a9.out.2.1;have g2:=(f6.out.cell (p:=⟨b,o+2,none⟩) a8).trans a9.out.2.2.1;have g3:=(f6.out.cell (p:=⟨b,o+3,none⟩) a8).trans a9.out.2.2.2.1;have g4:=(f6.out.cell (p:=⟨b,o+4,none⟩) a8).trans a9.out.2.2.2.2;clear j8 m6 i6 m8 f0 f1 f2 f3 f4;obtain⟨w8,m4⟩:∃W,W=w7.alloc (.cells #[.int .i64 sk,.int .i64 fi,.int .i64 tm,.slice A6 k c6,.slice A7 (k+1) c7] 104):=⟨_,rfl⟩
 rw[<-m4] at f6 g9 i4 n4 g0 g1 g2 g3 g4⊢;clear m4;refine hK.out _ _ ⟨g0,g1,g2,g3,g4,trivial⟩ (fun hHeld=>?_);clear hK K;try simp only[zF,zG,zC,zD,zE]
 refine zT6 29 (k:=?_);simp only[zA,zB,zF,zG,zC,zD,zE];refine wpAnyH_done (by kernel_rfl) ?_ _;clear hHeld g0 g1 g2 g3 g4;go_wp2_with fail
 go_ret
 have m5:(rs.take k).length=k:=by
  have h1:=n8.out;rw[bF4,aC3] at h1;omega
 refine⟨w7.heap.size,rs.take k,.slice A6 k c6,.slice A7 (k+1) c7,rfl,?_,f6.out⟩;rw[p7.out];refine⟨n4.out,by omega,?_,?_,fun q hq=>(HD.out q (List.mem_of_mem_take hq)).keep f6.out.size (fun k hk=>f6.out.block k (HF.out k hk)),?_⟩
 ·rw[m5,<-bF4]
  exact bE0 g9.out l6
 ·rw[List.map_take,HM.out]
 have h1:=bE0 i4.out m0;unfold Own;rw[lU,lV,List.map_take];have h2:=n9.out;rw[lV,lU] at h2;rw[h2];exact h1
end
section
open Go.RowKit Go.Maps Oct
structure aM5(W:World)(G:Nat->Prop)(nE gj g:Nat)(dv:Value)(vs:List Value)(al:List aD3):Prop where
 own:Own W nE 98 dv vs
 len:vs.length=al.length
 acts:∀i (h:i<vs.length) (h' :i<al.length),aK3 W G gj g vs[i] al[i]
 fns:∀v∈vs,v.oneCell' =true
 lt:∀x,G x->x<W.heap.size
 apart:∀r,dv.ownBlock=some r->¬G r
section
variable{W W' :World}{G:Nat->Prop}{nE gj g:Nat}{dv:Value}{vs:List Value}{al:List aD3}
theorem aM5.nil:aM5 W (fun _=>False) nE gj g (.slice none 0 0) [] []:=⟨Own.nil _ _ _,rfl,(fun i h=>by simp at h),(fun v hv=>by cases hv),(fun _ h=>h.elim),(fun _ _ h=>h)⟩
theorem aM5.other{row:Option Nat}(h:aM5 W G nE gj g dv vs al)(hg:W.grownBy W' row)(hne:dv.ownBlock=none∨dv.ownBlock≠row)(hr:∀r,row=some r->¬G r):aM5 W' G nE gj g dv vs al:=
 ⟨Own.kept h.own hg hne,h.len,fun i h3 h4=>(h.acts i h3 h4).keep hg.size (fun x hx=>hg.block x (h.lt x hx) (fun e=>hr x e.symm hx)),h.fns,fun x hx=>Nat.lt_of_lt_of_le (h.lt x hx) hg.size,h.apart⟩
theorem aM5.below(h:aM5 W G nE gj g dv vs al)(hb:Below W.heap.size W W'):aM5 W' G nE gj g dv vs al:=
 h.other (aA5 hb none) (by cases dv.ownBlock<;>simp) (fun r e=>(by cases e))
theorem aM5.pushes{W2:World}{G' :Nat->Prop}{us:List Value}{bl:List aD3}{dv' :Value}(h:aM5 W G nE gj g dv vs al)(d8:us.length=bl.length)(ha:∀i (h:i<us.length) (h' :i<bl.length),aK3 W G' gj g us[i] bl[i])(h1:∀u∈us,u.oneCell' =true)(hG:∀x,G x->G' x)(a9:∀x,G' x->x<W.heap.size)(b8:∀r,dv.ownBlock=some r->¬G' r)(hg:W.grownBy W2 dv.ownBlock)(hf:aR5 dv' dv.ownBlock W.heap.size)(a8:Own W2 nE 98 dv' (vs++us)):aM5 W2 G' nE gj g dv' (vs++us) (al++bl):=by
 have hk:∀x,G' x->W2.heap[x]? =W.heap[x]? :=fun x hx=>hg.block x (a9 x hx) (fun e=>b8 x e.symm hx)
 refine⟨a8,by rw[lT,lT,h.len,d8],fun i h3 h4=>?_,fun x hx=>?_,fun x hx=>Nat.lt_of_lt_of_le (a9 x hx) hg.size,fun r hr hx=>?_⟩
 ·by_cases hi:i<vs.length
  ·rw[List.getElem_append_left hi,List.getElem_append_left (by rw[<-h.len];exact hi)]
   exact((h.acts i hi _).mono hG).keep hg.size hk
  rw[List.getElem_append_right (by omega),List.getElem_append_right (by rw[<-h.len];omega)];have h5:i-vs.length<us.length:=by rw[lT] at h3;omega
  have h6:=ha (i-vs.length) h5 (by omega);have e:i-al.length=i-vs.length:=by rw[h.len]
  simp only[e];exact h6.keep hg.size hk
 ·rcases List.mem_append.1 hx with hx|hx
  ·exact h.fns x hx
  exact h1 x hx
 rcases hf with e|⟨q,e,hq⟩
 ·exact b8 r (e▸hr) hx
 rw[hr] at e;injection e with e
 have:=a9 r hx;omega
theorem aM5.step{W6 W8:World}{a:aD3}{F6:Nat}{caps6:Array Value}{dv' :Value}(h:aM5 W G nE gj g dv vs al)(d8:Below W.heap.size W W6)(a9:aK3 W6 (fun x=>G x∨(W.heap.size<=x∧x<W6.heap.size)) gj g (.func (.func F6) #[] caps6) a)
  (hg:(W6.alloc (.cells #[.func (.func F6) #[] caps6] 98)).grownBy W8 dv.ownBlock) (hf:aR5 dv' dv.ownBlock (W6.alloc (.cells #[.func (.func F6) #[] caps6] 98)).heap.size) (b8:Own W8 nE 98 dv' (vs++[.func (.func F6) #[] caps6])):
  aM5 W8 (fun x=>G x∨(W.heap.size<=x∧x<W6.heap.size)) nE gj g dv' (vs++[.func (.func F6) #[] caps6]) (al++[a]):=by
 have a8:=(lS W6.heap.size W6).alloc (lR _) (.cells #[.func (.func F6) #[] caps6] 98);have d9:=d8.size;have f6:=a8.size;refine aM5.pushes (h.below (d8.trans (a8.mono d9))) rfl (fun i h1 h2=>?_) (fun u hu=>by rw[List.mem_singleton.1 hu];rfl) (fun x hx=>.inl hx) (fun x hx=>?_) (fun r hr hx=>?_) hg hf b8
 ·obtain rfl:i=0:=by simp at h1;exact h1
  exact a9.keep a8.size (fun x hx=>a8.block x (by
   rcases hx with hx|hx
   ·have:=h.lt x hx;omega
   exact hx.2))
 ·rcases hx with hx|hx
  ·have:=h.lt x hx;omega
  omega
 rcases hx with hx|hx
 ·exact h.apart r hr hx
 have:=(h.own.lt r hr).2;omega
end
structure aL3(W:World)(F:Nat->Prop)(nE:Nat)(v:Value)(ads:List Addr)(ss:List aC4):Prop where
 own:Own W nE 108 v (ads.map fun a=>.pointer (some a))
 len:ads.length=ss.length
 seg:∀i (h:i<ads.length) (h' :i<ss.length),bC8 W F ads[i] ss[i]
 lt:∀x,F x->x<W.heap.size
 apart:∀r,v.ownBlock=some r->¬F r
section
variable{W W' :World}{F:Nat->Prop}{nE:Nat}{v:Value}{ads:List Addr}{ss:List aC4}
theorem aL3.other{row:Option Nat}(h:aL3 W F nE v ads ss)(hg:W.grownBy W' row)(hne:v.ownBlock=none∨v.ownBlock≠row)(hr:∀r,row=some r->¬F r):aL3 W' F nE v ads ss:=
 ⟨Own.kept h.own hg hne,h.len,fun i h1 h2=>(h.seg i h1 h2).keep hg.size (fun x hx=>hg.block x (h.lt x hx) (fun e=>hr x e.symm hx)),fun x hx=>Nat.lt_of_lt_of_le (h.lt x hx) hg.size,h.apart⟩
theorem aL3.below(h:aL3 W F nE v ads ss)(hb:Below W.heap.size W W'):aL3 W' F nE v ads ss:=
 h.other (aA5 hb none) (by cases v.ownBlock<;>simp) (fun r e=>(by cases e))
theorem aL3.push{W2:World}{F' :Nat->Prop}{v' :Value}{ad:Addr}{s:aC4}(h:aL3 W F nE v ads ss)(hs:bC8 W F' ad s)(hF:∀x,F x->F' x)(a8:∀x,F' x->x<W.heap.size)(b8:∀r,v.ownBlock=some r->¬F' r)(hg:W.grownBy W2 v.ownBlock)(hf:aR5 v' v.ownBlock W.heap.size)(a9:Own W2 nE 108 v' ((ads.map fun a=>.pointer (some a))++[.pointer (some ad)])):aL3 W2 F' nE v' (ads++[ad]) (ss++[s]):=by
 have hk:∀x,F' x->W2.heap[x]? =W.heap[x]? :=fun x hx=>hg.block x (a8 x hx) (fun e=>b8 x e.symm hx)
 refine⟨by rw[mE];exact a9,by rw[lT,lT,h.len];rfl,fun i h3 h4=>?_,fun x hx=>Nat.lt_of_lt_of_le (a8 x hx) hg.size,fun r hr hx=>?_⟩
 ·by_cases hi:i<ads.length
  ·rw[List.getElem_append_left hi,List.getElem_append_left (by rw[<-h.len];exact hi)]
   exact((h.seg i hi _).mono hF).keep hg.size hk
  have e:i=ads.length:=by rw[lT] at h3;simp at h3;omega
  subst e;have e2:(ss++[s])[ads.length]=s:=by simp[h.len]
  rw[e2];simp only[List.getElem_concat_length];exact hs.keep hg.size hk
 rcases hf with e|⟨q,e,hq⟩
 ·exact b8 r (e▸hr) hx
 rw[hr] at e;injection e with e
 have:=a8 r hx;omega
end
theorem RdF.cutA{w:World}{F:Nat->Prop}{A:Option Addr}{xs:List Value}(h:RdF w F A xs){k cap:Nat}(hk:k<=xs.length)(hc:xs.length<=cap):RdF w F (Go.Proofs.YtgeofijddhflaaaGreatDoor.cutA A k cap) (xs.drop k):=fun h0=>by
 rw[lZ] at h0;obtain⟨b,o,rfl,hF,hlt,hcc⟩:=h (by omega);refine⟨b,o+k,?_,hF,hlt,fun j u hu=>?_⟩
 ·unfold Go.Proofs.YtgeofijddhflaaaGreatDoor.cutA
  rw[if_neg (by omega)];simp only[Option.map_some,add_lit]
 rw[Nat.add_assoc];exact hcc (k+j) u (by rw[<-hu,List.getElem?_drop])
theorem aS2{w w' :World}{B:Nat}{e:TypeId}{size n:Nat}{v:Value}{xs:List Value}(h:w.ownsRow B e size v n xs)(hk:∀r,v.ownBlock=some r->w'.heap[r]? =w.heap[r]?):w'.ownsRow B e size v n xs:=by
 refine⟨h.1,?_⟩;rcases h.2 with h2|⟨g,cap,a8,hv,hb,hg,r⟩
 ·exact .inl h2
 exact .inr ⟨g,cap,a8,hv,hb,(hk g (by rw[hv];rfl)).trans hg,r⟩
theorem aL3.keep{W W' :World}{F:Nat->Prop}{nE:Nat}{v:Value}{ads:List Addr}{ss:List aC4}(h:aL3 W F nE v ads ss)(hs:W.heap.size<=W'.heap.size)(hk:∀x,F x∨v.ownBlock=some x->W'.heap[x]? =W.heap[x]?):aL3 W' F nE v ads ss:=
 ⟨aS2 h.own (fun r hr=>hk r (.inr hr)),h.len,fun i h1 h2=>(h.seg i h1 h2).keep hs (fun x hx=>hk x (.inl hx)),fun x hx=>Nat.lt_of_lt_of_le (h.lt x hx) hs,h.apart⟩
end
section
open Go.RowKit Go.Maps Oct
theorem bW4{j:JnP}{l:List aK5}(h:cJ1 j l=0):∀e∈l,e.b.length<=65535:=by
 unfold cJ1 at h;split at h
 ·cases h
 split at h
 ·cases h
 rename_i h2
 intro e he;refine Nat.le_of_not_lt fun h3=>h2 ?_
 rw[List.any_eq_true];exact⟨e,he,decide_eq_true h3⟩
theorem cW1{j:JnP}{e:aK5}{r:List aK5}(h:cJ1 j (e::r)=0):j.base.1<e.ix∧e.ix≠9223372036854775807:=by
 unfold cJ1 at h;split at h
 ·cases h
 rename_i h1
 rw[bL6] at h1;have h2:cO7 j.base.1 e j.last.1 none=false:=by
  cases hs:cO7 j.base.1 e j.last.1 none with
  |false=>rfl
  |true=>rw[hs] at h1;exact absurd rfl h1
 unfold cO7 at h2;simp only[Bool.or_eq_false_iff,decide_eq_false_iff_not] at h2;obtain⟨⟨⟨⟨⟨h3,_⟩,h4⟩,_⟩,_⟩,_⟩:=h2;exact⟨by omega,h4⟩
theorem bC8.ahead_ok{w:World}{F:Nat->Prop}{ad:Addr}{s:aC4}(h:bC8 w F ad s)(ix:Int):aZ8 (s.ahead ix)∧(s.ahead ix).ends.length=(s.ahead ix).l.length+1∧(s.ahead ix).l.length<=s.l.length∧∀e∈(s.ahead ix).l,e.b.length<=65535:=by
 have h1:s.aheadN ix<=s.l.length:=Nat.min_le_right _ _;refine⟨⟨h.rd.num.k,h.rd.num.first,h.rd.num.term,fun e he=>h.rd.num.ent e (List.mem_of_mem_take he),fun n hn=>h.rd.num.ends n (List.mem_of_mem_take hn)⟩,?_,?_,fun e he=>h.txt e (List.mem_of_mem_take he)⟩
 ·show(s.ends.take _).length=(s.l.take _).length+1
  rw[lV,lV,h.ends];omega
 show(s.l.take _).length<=_
 rw[lV];omega
theorem aB5{W:World}{B:Nat}{e:TypeId}{size n:Nat}{v:Value}{xs:List Value}{b:Nat}{T:TypeId}{cs:Array Value}(h:W.ownsRow B e size v n xs)(hb:Blk W b T cs)(hT:e≠T):v.ownBlock≠some b:=fun e' =>by
 obtain⟨cs',hc⟩:=aD1 h e';have h1:=hc.symm.trans hb;injection h1 with h1
 injection h1 with _ h1 _
 exact hT h1
structure bV6(W w0:World)(F:Nat->Prop)(j:JnP)(ix:Int)(ads:List Addr)(N wz nE sb gj g:Nat)(rv dv:Value)(vs:List Value)(G:Nat->Prop)(adK:List Addr)(fk ft fr:Int)(al:List aD3):Prop where
 below:Below nE w0 W
 fresh:Blk W sb 104 #[.int .i64 fk,.int .i64 ix,.int .i64 ft,.slice none 0 0,.slice none 0 0]
 row:Own W nE 108 rv (adK.map fun a=>Value.pointer (some a))
 acts:aM5 W G nE gj g dv vs al
 gl:∀x,G x->F x∨wz<=x
 gs:¬G sb∧∀r,rv.ownBlock=some r->¬G r
 num:(1<=fk∧fk<=1000000000)∧(-9223372036854775808<=ft∧ft<=9223372036854775807)∧0<=fr∧fr<=7000000000000000000
 kind:(N=0∧adK=[]∧fk=1∧ft=0∧fr=aJ6 j N+0∧al=(aP0 j N).map fun x=>aD3.rm (aA8 x.k))∨∃(m1:Nat) (s c:aC4) (cb:Nat) (rsC:List aF2) (vlC veC:Value),N=m1+1∧(∃h:m1<j.segs.length,s=j.segs[m1])∧c=s.ahead ix∧adK=ads.take m1++([⟨cb,0,none⟩]:List Addr)∧bF7 W F nE cb c rsC vlC veC∧fk=s.k+1∧ft=c.last.2∧fr=aJ6 j N+aZ4 s c∧al=((aP0 j N).map fun x=>aD3.rm (aA8 x.k))++aW1 s c∧(aZ8 c∧c.ends.length=c.l.length+1∧c.l.length<=100000000∧∀e∈c.l,e.b.length<=65535)∧sb<cb∧¬G cb∧(∀r,vlC.ownBlock=some r->¬G r)∧(∀r,veC.ownBlock=some r->¬G r)
def dN2(j:JnP)(ix:Int)(N:Nat):Bool:=if N=0 then true else match j.segs[N-1]? with|some s=>decide (600<=(s.ahead ix).long)|none=>true
theorem bM8{j:JnP}{ix:Int}{m1:Nat}(h:m1<j.segs.length):dN2 j ix (m1+1)=decide (600<=(j.segs[m1].ahead ix).long):=by
 unfold dN2;rw[if_neg (by omega),Nat.add_sub_cancel,lW h]
theorem bV6.below2{W W' w0:World}{F:Nat->Prop}{j:JnP}{ix:Int}{ads:List Addr}{N wz nE sb gj g:Nat}{rv dv:Value}{vs:List Value}{G:Nat->Prop}{adK:List Addr}{fk ft fr:Int}{al:List aD3}(h:bV6 W w0 F j ix ads N wz nE sb gj g rv dv vs G adK fk ft fr al)(hF:∀q,F q->q<W.heap.size)(hb:Below W.heap.size W W')(hn:nE<=W.heap.size):bV6 W' w0 F j ix ads N wz nE sb gj g rv dv vs G adK fk ft fr al:=
 ⟨h.below.trans (hb.mono hn),h.fresh.below hb h.fresh.lt,Own.below h.row hb (lR _),h.acts.below hb,h.gl,h.gs,h.num,by
  rcases h.kind with h1|⟨m1,s,c,cb,rsC,vlC,veC,k1,k2,k3,k4,k5,k6⟩
  ·exact .inl h1
  exact .inr ⟨m1,s,c,cb,rsC,vlC,veC,k1,k2,k3,k4,k5.below hF hb,k6⟩⟩
structure aG3(W:World)(F:Nat->Prop)(wz nE gj g:Nat)(rv dv:Value)(vs:List Value)(G:Nat->Prop)(al:List aD3)(adsP:List Addr)(ssP:List aC4)(FP:Nat->Prop)(tb:Nat)(s0:aC4)(rsT:List aF2)(vl ve bv:Value)(bh:List UInt8):Prop where
 acts:aM5 W G nE gj g dv vs al
 row:Own W nE 108 rv ((adsP++([⟨tb,0,none⟩]:List Addr)).map fun a=>Value.pointer (some a))
 len:adsP.length=ssP.length
 seg:∀i (h:i<adsP.length) (h' :i<ssP.length),bC8 W FP adsP[i] ssP[i]
 fl:∀x,FP x->x<W.heap.size∧(F x∨nE<=x)
 gl:∀x,G x->F x∨wz<=x
 tgt:bF7 W F nE tb s0 rsT vl ve
 bytes:Got W nE bv bh
 wr:∀x,rv.ownBlock=some x∨x=tb∨vl.ownBlock=some x∨ve.ownBlock=some x∨bv.ownBlock=some x∨dv.ownBlock=some x->¬G x∧¬FP x
 num:aZ8 s0∧s0.ends.length=s0.l.length+1∧s0.l.length<=103000000∧(∀e∈s0.l,e.b.length<=65535)∧(1<=s0.k∧s0.k<=1000000000)
section
variable{W W' :World}{F F' :Nat->Prop}{wz nE gj g:Nat}{rv dv:Value}{vs:List Value}{G:Nat->Prop}{al:List aD3}{adsP:List Addr}{ssP:List aC4}{FP:Nat->Prop}{tb:Nat}{s0:aC4}{rsT:List aF2}{vl ve bv:Value}{bh:List UInt8}
theorem aG3.below2(h:aG3 W F wz nE gj g rv dv vs G al adsP ssP FP tb s0 rsT vl ve bv bh)(hF:∀q,F q->q<W.heap.size)(hb:Below W.heap.size W W'):aG3 W' F wz nE gj g rv dv vs G al adsP ssP FP tb s0 rsT vl ve bv bh:=
 ⟨h.acts.below hb,Own.below h.row hb (lR _),h.len,fun i h1 h2=>(h.seg i h1 h2).keep hb.size (fun q hq=>hb.block q (h.fl q hq).1),fun x hx=>⟨Nat.lt_of_lt_of_le (h.fl x hx).1 hb.size,(h.fl x hx).2⟩,h.gl,h.tgt.below hF hb,h.bytes.below hb (lR _),h.wr,h.num⟩
theorem aG3.monoF(h:aG3 W F wz nE gj g rv dv vs G al adsP ssP FP tb s0 rsT vl ve bv bh)(hF:∀q,F q->F' q):aG3 W F' wz nE gj g rv dv vs G al adsP ssP FP tb s0 rsT vl ve bv bh:=
 ⟨h.acts,h.row,h.len,h.seg,fun x hx=>⟨(h.fl x hx).1,(h.fl x hx).2.imp (hF x) id⟩,fun x hx=>(h.gl x hx).imp (hF x) id,h.tgt.mono hF,h.bytes,h.wr,h.num⟩
theorem aG3.wrlt(h:aG3 W F wz nE gj g rv dv vs G al adsP ssP FP tb s0 rsT vl ve bv bh):∀x,rv.ownBlock=some x∨x=tb∨vl.ownBlock=some x∨ve.ownBlock=some x∨bv.ownBlock=some x∨dv.ownBlock=some x->nE<=x∧x<W.heap.size:=fun x hx=>by
 rcases hx with hx|hx|hx|hx|hx|hx
 ·exact h.row.lt x hx
 ·rw[hx];exact⟨h.tgt.low,h.tgt.blk.lt⟩
 ·exact World.ownsRow.lt h.tgt.ents x hx
 ·exact World.ownsRow.lt h.tgt.ends x hx
 ·exact⟨h.bytes.row.base x hx,h.bytes.row.lt x hx⟩
 exact h.acts.own.lt x hx
end
theorem bU9{w:World}{base:Nat}{e:TypeId}{n c:Nat}{A:Option Addr}{xs:List Value}(h:Own w base e (.slice A n c) xs):RdF w (fun k=>(Value.slice A n c).ownBlock=some k) A xs:=fun h0=>by
 obtain⟨b,o,e1,_,hlt,hc⟩:=(RdF.of_own (F:=fun _=>True) h (fun _ _ _=>trivial)) h0;subst e1;refine⟨b,o,rfl,?_,hlt,hc⟩;rcases Own.whole h with⟨h1,_⟩|⟨g,cap,cur,h1,_⟩
 ·injection h1 with h1 _ _;cases h1
 injection h1 with h1 _ _
 injection h1 with h1
 injection h1 with h1 h2 _
 subst h1 h2
 rfl
theorem dD7{w:World}{base:Nat}{e:TypeId}{size n m c:Nat}{A:Option Addr}{xs:List Value}(h:w.ownsRow base e size (.slice A m c) n xs)(hn:n*size=xs.length):RdF w (fun k=>(Value.slice A m c).ownBlock=some k) A xs:=fun h0=>by
 obtain⟨b,o,e1,_,hlt,hc⟩:=(RdF.of_row (F:=fun _=>True) h (fun _ _ _=>trivial) hn) h0;subst e1;refine⟨b,o,rfl,?_,hlt,hc⟩;rcases h.2 with⟨h1,_⟩|⟨g,cap,cur,h1,_⟩
 ·injection h1 with h1 _ _;cases h1
 injection h1 with h1 _ _
 injection h1 with h1
 injection h1 with h1 h2 _
 subst h1 h2
 rfl
theorem bF7.keepB{w w' :World}{F:Nat->Prop}{B b:Nat}{s:aC4}{rs:List aF2}{vl ve:Value}(h:bF7 w F B b s rs vl ve)(hs:w.heap.size<=w'.heap.size)(hk:∀x,F x∨x=b∨vl.ownBlock=some x∨ve.ownBlock=some x->w'.heap[x]? =w.heap[x]?):bF7 w' F B b s rs vl ve:=
 ⟨(hk b (.inr (.inl rfl))).trans h.blk,h.low,aS2 h.ents (fun r hr=>hk r (.inr (.inr (.inl hr)))),h.map,fun q hq=>(h.dat q hq).keep hs (fun x hx=>hk x (.inl hx)),aS2 h.ends (fun r hr=>hk r (.inr (.inr (.inr hr))))⟩
theorem bF7.segMx{w:World}{F:Nat->Prop}{B b:Nat}{s:aC4}{rs:List aF2}{vl ve:Value}(h:bF7 w F B b s rs vl ve)(hn:aZ8 s)(he:s.ends.length=s.l.length+1)(hl:s.l.length<=1099511627776)(ht:∀e∈s.l,e.b.length<=65535):bC8 w (fun x=>F x∨x=b∨vl.ownBlock=some x∨ve.ownBlock=some x) ⟨b,0,none⟩ s:=by
 obtain⟨A1,c1,e1,k1,k2,_⟩:=aB2 h.ents;obtain⟨A2,c2,e2,k3,k4,_⟩:=Own.shape h.ends;have a8:rs.length=s.l.length:=by rw[<-h.map,lU]
 rw[lU] at k3 e2;subst e1 e2;refine⟨⟨⟨A1,c1,rs,A2,c2,fun _=>⟨b,0,rfl,.inr (.inl rfl),h.blk.lt,fun j u hu=>?_⟩,by rw[<-a8];exact k1,k2,k3,k4,(dD7 h.ents (by rw[aC3];omega)).mono (fun k hk=>.inr (.inr (.inl hk))),h.map,fun q hq=>(h.dat q hq).mono (fun k hk=>.inl hk),(bU9 h.ends).mono (fun k hk=>.inr (.inr (.inr hk)))⟩,hn⟩,he,hl,ht⟩;rw[Nat.zero_add];refine aL6 h.blk j u ?_;rw[a8];exact hu
theorem dB4{s:aC4}(h:aZ8 s):-9223372036854775808<=s.last.2∧s.last.2<=9223372036854775807:=by
 unfold aC4.last;rcases mJ s.l with h0|⟨r,e,h0⟩
 ·rw[h0];exact h.term
 rw[mA] at h0;have:=h.ent e (by rw[h0];simp);rw[h0];simp only[List.getLast?_append,List.getLast?_singleton,Option.some_or];exact this.2.1
theorem bF7.lower{w:World}{F:Nat->Prop}{B B' b:Nat}{s:aC4}{rs:List aF2}{vl ve:Value}(h:bF7 w F B b s rs vl ve)(hB:B' <=B):bF7 w F B' b s rs vl ve:=⟨h.blk,Nat.le_trans hB h.low,bE0 h.ents hB,h.map,h.dat,bE0 h.ends hB⟩
theorem dN9{G X:Prop}(h1:G->X)(h2:G):X:=h1 h2
section
variable{P:Program}{md:Region.Mode}{Q:Exit->Act->World->Prop}{S:World->Prop}{l:List Oper}{t:Nat}
theorem cY0(i k:Nat){fuel:Nat}{listed:Array Bool}{a:Act}{w:World}(hi:i<l.length)(hk:k<l.length)(hr:Region.ready md l.toArray listed=[i,k])
  (h1:∀K' :Act->World->Prop,Shut (∀a w,S w->(S w->aI8 P md l.toArray Q S t fuel (listed.setIfInBounds i true) a w)->K' a w)->if Region.wanted l[i] (yielded l.toArray a.tmps)=true then Oper.wp P l[i] a w K' Q else K' (a.put l[i].dst undef) w)
  (h2:∀K' :Act->World->Prop,Shut (∀a w,S w->(S w->aI8 P md l.toArray Q S t fuel (listed.setIfInBounds k true) a w)->K' a w)->if Region.wanted l[k] (yielded l.toArray a.tmps)=true then Oper.wp P l[k] a w K' Q else K' (a.put l[k].dst undef) w):aI8 P md l.toArray Q S t (fuel+1) listed a w:=
 ⟨fun h0=>absurd (hr▸h0) (by simp),fun j hj=>by
  rw[hr] at hj;rcases List.mem_cons.1 hj with rfl|hj
  ·exact wpOp_step (by rw[List.getElem?_toArray,lW hi]) (fun K' hK=>h1 K' (fun a w hS hW=>hK a w ⟨fun _=>hS,hW hS⟩))
  obtain rfl:=List.mem_singleton.1 hj;exact wpOp_step (by rw[List.getElem?_toArray,lW hk]) (fun K' hK=>h2 K' (fun a w hS hW=>hK a w ⟨fun _=>hS,hW hS⟩))⟩
end
theorem Got.kind{w:World}{b:Nat}{v:Value}{l:List UInt8}(h:Got w b v l):∀x,v.ownBlock=some x->∃cs,Blk w x 5 cs:=fun x hx=>by
 rcases h.row with h1|⟨g',_,_,cur,h1,_,hB,_⟩
 ·rw[h1] at hx;cases hx
 rw[h1] at hx;injection hx with hx
 subst hx;exact⟨_,hB⟩
theorem aQ9{w:World}{B b:Nat}{e:TypeId}{size n:Nat}{v bv:Value}{xs:List Value}{l:List UInt8}(h:w.ownsRow B e size v n xs)(hg:Got w b bv l)(hT:e≠5):v.ownBlock=none∨v.ownBlock≠bv.ownBlock:=by
 cases hu:v.ownBlock with
 |none=>exact .inl rfl
 |some q=>
  refine .inr fun e' =>?_
  obtain⟨cs,hB⟩:=hg.kind q e'.symm;exact aB5 h hB hT hu
theorem bB6{w:World}{ops:Array Oper}{rest:List Oper}{o:Oper}{a:Act}{Q:Exit->Act->World->Prop}(hgd:o.guard=none)(s x:Operand)
  (ho:o.op=.call {callee:=.builtin .append,args:=#[s,x],argTypes:=#[34,34]})
  (base:Nat) (v:Value) (l:List UInt8) (hs:a.eval s=v) (hgot:Got w base v l) (B:Nat) (A:Option Addr) (c:Nat) (q:List UInt8) (hx:a.eval x=.slice A q.length c) (hrd:Rd w B A (cells q)) (hlen:l.length+q.length<=1099511627776) (hbase:base<=w.heap.size)
  (h:∀v' w',Got w' base v' (l++q)->w.grownBy w' v.ownBlock->(∀k,v'.ownBlock=some k->v.ownBlock=some k∨w.heap.size<=k)->wpList Tryz.prog ops Q rest (a.put o.dst v') w'):wpList Tryz.prog ops Q (o::rest) a w:=
 wpList_plain hgd fun _ hK=>aX8 s x ho base v l hs hgot B A c q hx hrd hlen hbase fun v' w' h1 h2 h3=>hK _ _ (h v' w' h1 h2 h3)
theorem aL3.jat0{W:World}{F:Nat->Prop}{nE gj g n c:Nat}{A:Option Addr}{ads:List Addr}{ss:List aC4}(h:aL3 W F nE (.slice A n c) ads ss){t v bad:Int}(hb:Blk W gj 53 #[.int .i64 t,.int .i64 v,.slice A n c,.pointer (some ⟨g,0,none⟩),.int .i64 bad])(hn:ss.length<=1000000000)(ht:-9223372036854775808<=t∧t<=9223372036854775807)(hv:-9223372036854775808<=v∧v<=9223372036854775807):
  JAt W (fun x=>F x∨(Value.slice A n c).ownBlock=some x) gj g ⟨t,v,ss,bad⟩:=by
 have a9:=bU9 h.own;obtain⟨A',c',a8,h1,h2,_⟩:=Own.shape h.own;injection a8 with _ e1 e2
 rw[lU] at h1 e1;rw[h.len] at e1 h1;subst e1 e2;exact⟨⟨A,c,ads,hb,⟨h1,h2⟩,a9.mono (fun k hk=>.inr hk),h.len,fun i h3 h4=>(h.seg i h3 h4).mono (fun x hx=>.inl hx)⟩,by show ss.length<=_;omega,ht,hv⟩
theorem aL3.keep' {W W' :World}{F:Nat->Prop}{nE:Nat}{v:Value}{ads:List Addr}{ss:List aC4}(h:aL3 W F nE v ads ss)(hs:W.heap.size<=W'.heap.size)(hk:∀x,F x∨v.ownBlock=some x->W'.heap[x]? =W.heap[x]?):aL3 W' F nE v ads ss:=
 ⟨aS2 h.own (fun r hr=>hk r (.inr hr)),h.len,fun i h1 h2=>(h.seg i h1 h2).keep hs (fun x hx=>hk x (.inl hx)),fun x hx=>Nat.lt_of_lt_of_le (h.lt x hx) hs,h.apart⟩
theorem Got.rdO{w:World}{b:Nat}{A:Option Addr}{n c:Nat}{l:List UInt8}(h:Got w b (.slice A n c) l):RdF w (fun k=>(Value.slice A n c).ownBlock=some k) A (cells l):=fun h0=>by
 obtain⟨A',c',hv,_,_,hr⟩:=h.shape;injection hv with e1 e2 _
 subst e1;obtain⟨ad,e4,hlt,hc⟩:=hr h0;rcases h.row with h1|⟨g',n',cap',cur,h1,_,hB,_⟩
 ·injection h1 with h1 _ _
  rw[h1] at e4;cases e4
 injection h1 with h1 _ _
 rw[h1] at e4;injection e4 with e4
 subst e4 h1;exact⟨g',0,rfl,rfl,hB.lt,fun j u hu=>by rw[<-add_lit];exact hc j u hu⟩
theorem aM5.keepB{W W' :World}{G:Nat->Prop}{nE gj g:Nat}{dv:Value}{vs:List Value}{al:List aD3}(h:aM5 W G nE gj g dv vs al)(hs:W.heap.size<=W'.heap.size)(hk:∀x,G x∨dv.ownBlock=some x->W'.heap[x]? =W.heap[x]?):aM5 W' G nE gj g dv vs al:=
 ⟨aS2 h.own (fun r hr=>hk r (.inr hr)),h.len,fun i h1 h2=>(h.acts i h1 h2).keep hs (fun x hx=>hk x (.inl hx)),h.fns,fun x hx=>Nat.lt_of_lt_of_le (h.lt x hx) hs,h.apart⟩
theorem cO2{w:World}{nE b:Nat}{Ae:Option Addr}{ce:Nat}{ends:List Int}(hc:w.cell? ⟨b,4,none⟩=some (.slice Ae ends.length ce))(ho:Own w nE 3 (.slice Ae ends.length ce) (ends.map (Value.int .i64)))(a8:ends≠[])(hl:ends.length<=1099511627776):
  Calls Tryz.prog 56 #[.pointer (some ⟨b,0,none⟩)] w fun e w' =>e=.returned (.int .i64 (ends.getLastD 0))∧Below w.heap.size w w' :=by
 rcases mJ ends with h0|⟨r,x,hr⟩
 ·exact absurd h0 a8
 rw[mA] at hr;subst hr;obtain⟨eb,eo,rfl,_,b8,a9⟩:=RdF.of_own (F:=fun _=>True) ho (fun _ _ _=>trivial) (by simp);have e0:=a9 r.length (.int .i64 x) (by simp);have hx:(r++[x]).getLastD 0=x:=by simp
 rw[hx];rw[lT] at hc hl;simp at hl
 exact bY0 b 0 r.length eb eo ce x (by omega) w hc e0
section
variable{W W' :World}{F F' :Nat->Prop}{wz nE gj g:Nat}{rv dv:Value}{vs:List Value}{G:Nat->Prop}{al:List aD3}{adsP:List Addr}{ssP:List aC4}{FP:Nat->Prop}{tb:Nat}{s0:aC4}{rsT:List aF2}{vl ve bv:Value}{bh:List UInt8}
theorem aG3.bytesG{bv' :Value}{bh' :List UInt8}(h:aG3 W F wz nE gj g rv dv vs G al adsP ssP FP tb s0 rsT vl ve bv bh)(hF:∀q,F q->q<W.heap.size∧bv.ownBlock≠some q)(hg:W.grownBy W' bv.ownBlock)(hG:Got W' nE bv' bh')(hf:∀k,bv'.ownBlock=some k->bv.ownBlock=some k∨W.heap.size<=k):aG3 W' F wz nE gj g rv dv vs G al adsP ssP FP tb s0 rsT vl ve bv' bh' :=by
 have hb:=fun x (hx:bv.ownBlock=some x)=>h.wr x (.inr (.inr (.inr (.inr (.inl hx)))))
 refine⟨h.acts.other hg (aQ9 h.acts.own h.bytes (by decide)) (fun r hr=>(hb r hr).1),Own.kept h.row hg (aQ9 h.row h.bytes (by decide)),h.len,fun i h1 h2=>(h.seg i h1 h2).keep hg.size (fun q hq=>hg.block q (h.fl q hq).1 (fun e=>(hb q e.symm).2 hq)),fun x hx=>⟨Nat.lt_of_lt_of_le (h.fl x hx).1 hg.size,(h.fl x hx).2⟩,h.gl,h.tgt.keep hg.size (fun k hk=>hg.block k (hF k hk).1 (fun e=>(hF k hk).2 e.symm)) hg (fun e=>?_) (aQ9 h.tgt.ents h.bytes (by decide)) (aQ9 h.tgt.ends h.bytes (by decide)),hG,fun x hx=>?_,h.num⟩
 ·obtain⟨cs,hB⟩:=h.bytes.kind tb e
  exact blk_ne hB h.tgt.blk (by decide) rfl
 rcases hx with hx|hx|hx|hx|hx|hx
 ·exact h.wr x (.inl hx)
 ·exact h.wr x (.inr (.inl hx))
 ·exact h.wr x (.inr (.inr (.inl hx)))
 ·exact h.wr x (.inr (.inr (.inr (.inl hx))))
 ·rcases hf x hx with h1|h1
  ·exact hb x h1
  exact⟨fun h2=>by have:=h.acts.lt x h2;omega,fun h2=>by have:=(h.fl x h2).1;omega⟩
 exact h.wr x (.inr (.inr (.inr (.inr (.inr hx)))))
theorem aG3.entG{W1 W2 W3 W4:World}{vl' ve' :Value}{q:aF2}{n:Int}(h:aG3 W F wz nE gj g rv dv vs G al adsP ssP FP tb s0 rsT vl ve bv bh)(hF:∀x,F x->x<W.heap.size∧x≠tb∧vl.ownBlock≠some x∧ve.ownBlock≠some x)(hd:bF9 W F q.v q.e.b)
  (g8:Below W.heap.size W W1) (l5:W1.grownBy W2 vl.ownBlock) (b8:W2.ownsRow nE 65 4 vl' (rsT.length+1) (aA7 rsT++aK2 q)) (l9:aR5 vl' vl.ownBlock W1.heap.size)
  (f8:Below W2.heap.size W2 W3) (j6:W3.grownBy W4 ve.ownBlock) (a8:Own W4 nE 3 ve' (s0.ends.map (Value.int .i64)++[.int .i64 n])) (m4:aR5 ve' ve.ownBlock W3.heap.size)
  (l6:0<=n∧n<=4611686018427387904) (he:(-9223372036854775808<=q.e.ix∧q.e.ix<=9223372036854775807)∧(-9223372036854775808<=q.e.tm∧q.e.tm<=9223372036854775807)∧(-9223372036854775808<=q.e.kd∧q.e.kd<=9223372036854775807)) (j8:s0.l.length+1<=103000000) (ht:q.e.b.length<=65535):
  aG3 ((W4.setCell ⟨tb,3,none⟩ vl').setCell ⟨tb,4,none⟩ ve') F wz nE gj g rv dv vs G al adsP ssP FP tb {s0 with l:=s0.l++[q.e],ends:=s0.ends++[n]} (rsT++[q]) vl' ve' bv bh:=by
 have m6:=g8.size;have m7:=l5.size;have m8:=f8.size;have m5:=j6.size;obtain⟨W6,l4⟩:∃X,X=(W4.setCell ⟨tb,3,none⟩ vl').setCell ⟨tb,4,none⟩ ve' :=⟨_,rfl⟩
 have f7:W4.grownBy W6 (some tb):=by rw[l4];exact aA4 (aA0 W4 tb 3 _) (aA0 _ tb 4 _) (.inl rfl)
 rw[<-l4];have m9:=f7.size;have m2:=h.tgt.blk.lt;have m0:=fun x e=>(World.ownsRow.lt h.tgt.ents x e).2
 have m3:=fun x e=>(World.ownsRow.lt h.tgt.ends x e).2
 have k4:∀x,x<W.heap.size->vl.ownBlock≠some x->ve.ownBlock≠some x->W4.heap[x]? =W.heap[x]? :=fun x h1 h2 h3=>
  (j6.block x (by omega) (fun e=>h3 e.symm)).trans ((f8.block x (by omega)).trans ((l5.block x (by omega) (fun e=>h2 e.symm)).trans (g8.block x h1)))
 have k6:∀x,x<W.heap.size->x≠tb->vl.ownBlock≠some x->ve.ownBlock≠some x->W6.heap[x]? =W.heap[x]? :=fun x h1 h2 h3 h4=>
  (f7.block x (by omega) (fun e=>h2 (by injection e))).trans (k4 x h1 h3 h4)
 have i6:vl.ownBlock≠some tb:=fun e=>aB5 h.tgt.ents h.tgt.blk (by decide) e
 have g9:ve.ownBlock≠some tb:=fun e=>aB5 h.tgt.ends h.tgt.blk (by decide) e
 have f9:Blk W4 tb 104 #[.int .i64 s0.k,.int .i64 s0.first,.int .i64 s0.term,vl,ve]:=(k4 tb m2 i6 g9).trans h.tgt.blk;have l8:Blk W6 tb 104 #[.int .i64 s0.k,.int .i64 s0.first,.int .i64 s0.term,vl',ve']:=by rw[l4];exact(f9.set_ 3 vl').set_ 4 ve'
 have i4:W3.ownsRow nE 3 1 ve (s0.ends.map (Value.int .i64)).length (s0.ends.map (Value.int .i64)):=by
  have h1:=World.ownsRow.kept (World.ownsRow.kept (World.ownsRow.kept h.tgt.ends (aA5 g8 none) (by cases ve.ownBlock<;>simp)) l5 (jrow_type_ne h.tgt.ends h.tgt.ents (by decide))) (aA5 f8 none) (by cases ve.ownBlock<;>simp);exact h1
 have f6:=World.ownsRow.kept b8 (aA5 f8 none) (by cases vl'.ownBlock<;>simp);have d8:=World.ownsRow.kept f6 j6 (jrow_type_ne f6 i4 (by decide));have l7:=World.ownsRow.kept d8 f7 (by
  cases hq:vl'.ownBlock with
  |none=>exact .inl rfl
  |some x=>exact .inr (fun e=>aB5 d8 f9 (by decide) (hq.trans e)))
 have j9:=Own.kept a8 f7 (by
  cases hq:ve'.ownBlock with
  |none=>exact .inl rfl
  |some x=>exact .inr (fun e=>aB5 a8 f9 (by decide) (hq.trans e)))
 have kF:∀x,F x->W6.heap[x]? =W.heap[x]? :=fun x hx=>k6 x (hF x hx).1 (hF x hx).2.1 (hF x hx).2.2.1 (hF x hx).2.2.2
 have kG:∀x,G x->W6.heap[x]? =W.heap[x]? :=fun x hx=>k6 x (h.acts.lt x hx) (fun e=>(h.wr tb (.inr (.inl rfl))).1 (e▸hx)) (fun e=>(h.wr x (.inr (.inr (.inl e)))).1 hx) (fun e=>(h.wr x (.inr (.inr (.inr (.inl e))))).1 hx)
 have kP:∀x,FP x->W6.heap[x]? =W.heap[x]? :=fun x hx=>k6 x (h.fl x hx).1 (fun e=>(h.wr tb (.inr (.inl rfl))).2 (e▸hx)) (fun e=>(h.wr x (.inr (.inr (.inl e)))).2 hx) (fun e=>(h.wr x (.inr (.inr (.inr (.inl e))))).2 hx)
 have kO:∀{e:TypeId} {size m:Nat} {v:Value} {xs:List Value},W.ownsRow nE e size v m xs->e≠104->e≠65->e≠3->∀x,v.ownBlock=some x->W6.heap[x]? =W.heap[x]? :=fun {e size m v xs} ho h1 h2 h3 x hx=>by
  refine k6 x (World.ownsRow.lt ho x hx).2 (fun e=>aB5 ho h.tgt.blk h1 (e▸hx)) (fun e=>?_) (fun e=>?_)
  ·rcases jrow_type_ne ho h.tgt.ents h2 with h4|h4
   ·rw[h4] at hx;cases hx
   exact h4 (hx.trans e.symm)
  rcases jrow_type_ne ho h.tgt.ends h3 with h4|h4
  ·rw[h4] at hx;cases hx
  exact h4 (hx.trans e.symm)
 have a9:W.heap.size<=W6.heap.size:=by omega
 refine⟨h.acts.keepB a9 (fun x hx=>hx.elim (kG x) (fun hx=>kO h.acts.own (by decide) (by decide) (by decide) x hx)),aS2 h.row (fun x hx=>kO h.row (by decide) (by decide) (by decide) x hx),h.len,fun i h1 h2=>(h.seg i h1 h2).keep a9 kP,fun x hx=>⟨Nat.lt_of_lt_of_le (h.fl x hx).1 a9,(h.fl x hx).2⟩,h.gl,⟨l8,h.tgt.low,?_,by rw[mE,h.tgt.map];rfl,fun p hp=>?_,by rw[mE];exact j9⟩,h.bytes.kept (fun x hx=>?_) a9,fun x hx=>?_,⟨⟨h.num.1.k,h.num.1.first,h.num.1.term,fun e hx=>?_,fun m hm=>?_⟩,?_,?_,fun e hx=>?_,h.num.2.2.2.2⟩⟩
 ·rw[lT,aI3]
  have e:aA7 [q]=aK2 q:=by unfold aA7;simp
  rw[e];exact l7
 ·rcases List.mem_append.1 hp with hp|hp
  ·exact(h.tgt.dat p hp).keep a9 kF
  rw[List.mem_singleton.1 hp];exact hd.keep a9 kF
 ·obtain⟨cs,hB⟩:=h.bytes.kind x hx
  exact k6 x (h.bytes.row.lt x hx) (blk_ne hB h.tgt.blk (by decide)) (aB5 h.tgt.ents hB (by decide)) (aB5 h.tgt.ends hB (by decide))
 ·have d9:∀y,W.heap.size<=y->¬G y∧¬FP y:=fun y hy=>⟨fun h2=>by have:=h.acts.lt y h2;omega,fun h2=>by have:=(h.fl y h2).1;omega⟩
  rcases hx with hx|hx|hx|hx|hx|hx
  ·exact h.wr x (.inl hx)
  ·exact h.wr x (.inr (.inl hx))
  ·rcases l9 with e|⟨y,e,hy⟩
   ·exact h.wr x (.inr (.inr (.inl (e▸hx))))
   rw[hx] at e;injection e with e
   exact d9 x (by omega)
  ·rcases m4 with e|⟨y,e,hy⟩
   ·exact h.wr x (.inr (.inr (.inr (.inl (e▸hx)))))
   rw[hx] at e;injection e with e
   exact d9 x (by omega)
  ·exact h.wr x (.inr (.inr (.inr (.inr (.inl hx)))))
  exact h.wr x (.inr (.inr (.inr (.inr (.inr hx)))))
 ·rcases List.mem_append.1 hx with hx|hx
  ·exact h.num.1.ent e hx
  rw[List.mem_singleton.1 hx];exact he
 ·rcases List.mem_append.1 hm with hm|hm
  ·exact h.num.1.ends m hm
  rw[List.mem_singleton.1 hm];exact l6
 ·show(s0.ends++[n]).length=(s0.l++[q.e]).length+1
  rw[lT,lT,h.num.2.1]
  rfl
 ·show(s0.l++[q.e]).length<=_
  rw[lT];exact j8
 rcases List.mem_append.1 hx with hx|hx
 ·exact h.num.2.2.2.1 e hx
 rw[List.mem_singleton.1 hx];exact ht
theorem aG3.segsAt(h:aG3 W F wz nE gj g rv dv vs G al adsP ssP FP tb s0 rsT vl ve bv bh)(hF:∀q,F q->q<W.heap.size∧rv.ownBlock≠some q):aL3 W (fun x=>FP x∨F x∨x=tb∨vl.ownBlock=some x∨ve.ownBlock=some x) nE rv (adsP++[⟨tb,0,none⟩]) (ssP++[s0]):=by
 refine⟨h.row,by rw[lT,lT,h.len];rfl,fun i h1 h2=>?_,fun x hx=>?_,fun r hr hx=>?_⟩
 ·by_cases hi:i<adsP.length
  ·rw[List.getElem_append_left hi,List.getElem_append_left (by rw[<-h.len];exact hi)]
   exact(h.seg i hi _).mono (fun x hx=>.inl hx)
  have e:i=adsP.length:=by rw[lT] at h1;simp at h1;omega
  subst e;have e2:(ssP++[s0])[adsP.length]=s0:=by simp[h.len]
  rw[e2];simp only[List.getElem_concat_length];exact(h.tgt.segMx h.num.1 h.num.2.1 (by have:=h.num.2.2.1;omega) h.num.2.2.2.1).mono (fun x hx=>.inr hx)
 ·rcases hx with hx|hx|hx|hx|hx
  ·exact(h.fl x hx).1
  ·exact(hF x hx).1
  ·rw[hx];exact h.tgt.blk.lt
  ·exact(World.ownsRow.lt h.tgt.ents x hx).2
  exact(World.ownsRow.lt h.tgt.ends x hx).2
 rcases hx with hx|hx|hx|hx|hx
 ·exact(h.wr r (.inl hr)).2 hx
 ·exact(hF r hx).2 hr
 ·exact aB5 h.row h.tgt.blk (by decide) (hx▸hr)
 ·rcases jrow_type_ne h.row h.tgt.ents (by decide) with h2|h2
  ·rw[h2] at hr;cases hr
  exact h2 (hr.trans hx.symm)
 rcases jrow_type_ne h.row h.tgt.ends (by decide) with h2|h2
 ·rw[h2] at hr;cases hr
 exact h2 (hr.trans hx.symm)
theorem aG3.dvFar(h:aG3 W F wz nE gj g rv dv vs G al adsP ssP FP tb s0 rsT vl ve bv bh)(hF:∀q,F q->dv.ownBlock≠some q):∀x,((FP x∨F x∨x=tb∨vl.ownBlock=some x∨ve.ownBlock=some x)∨rv.ownBlock=some x)->dv.ownBlock≠some x:=fun x hx e=>by
 have hne:∀{e1:TypeId} {size m:Nat} {v:Value} {xs:List Value},W.ownsRow nE e1 size v m xs->98≠e1->v.ownBlock=some x->False:=fun ho ht hv=>by
  rcases jrow_type_ne h.acts.own ho ht with h2|h2
  ·rw[h2] at e;cases e
  exact h2 (e.trans hv.symm)
 rcases hx with(hx|hx|hx|hx|hx)|hx
 ·exact(h.wr x (.inr (.inr (.inr (.inr (.inr e)))))).2 hx
 ·exact hF x hx e
 ·exact aB5 h.acts.own h.tgt.blk (by decide) (hx▸e)
 ·exact hne h.tgt.ents (by decide) hx
 ·exact hne h.tgt.ends (by decide) hx
 exact hne h.row (by decide) hx
theorem aG3.from_(h:aG3 W F wz nE gj g rv dv vs G al adsP ssP FP tb s0 rsT vl ve bv bh){F0:Nat->Prop}(hF:∀q,F q->F0 q∨nE<=q):∀x,((FP x∨F x∨x=tb∨vl.ownBlock=some x∨ve.ownBlock=some x)∨rv.ownBlock=some x)->F0 x∨nE<=x:=fun x hx=>by
 rcases hx with(hx|hx|hx|hx|hx)|hx
 ·rcases(h.fl x hx).2 with h1|h1
  ·exact hF x h1
  exact .inr h1
 ·exact hF x hx
 ·exact .inr (hx▸h.tgt.low)
 ·exact .inr (World.ownsRow.lt h.tgt.ents x hx).1
 ·exact .inr (World.ownsRow.lt h.tgt.ends x hx).1
 exact .inr (h.row.lt x hx).1
end
end
end Go.Proofs.YtgeofijddhflaaaGreatDoor
