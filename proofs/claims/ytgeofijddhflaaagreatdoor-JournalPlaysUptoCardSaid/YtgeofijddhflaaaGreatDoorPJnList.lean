/- journal.list: the segments of a disk, rising. Condition: the disk is a call's own, up, within bounds. -/
import Derived.Test.YtgeofijddhflaaaGreatDoorPJnSort
import Derived.Test.YtgeofijddhflaaaGreatDoorPDiskFiles
set_option linter.unusedVariables false
set_option linter.unusedSimpArgs false
set_option maxHeartbeats 8000000
set_option maxRecDepth 100000
namespace Go.Proofs.YtgeofijddhflaaaGreatDoor
open Go.RowKit Go.Maps Oct
theorem bH0{w:World}{base g m:Nat}{p:fT}{room:Int}{es:List (Nm×FE)}(h:aV w base g m p room es)(hl:es.length<=1099511627776)(hn:∀q∈es,q.1.length<=1000)(q8:∀q∈es,q.2.f.b.length<=1000000000)(C4:p.off=false)(hE:aC2 w):
    Calls Tryz.prog 50 #[(g,0)] w fun e w' =>Below w w w' ∧∃v,e=.returned (.tuple #[v,.bool (gH (bH p room es)).isSome])∧
      ∀l,gH (bH p room es)=some l->∃z:List cB,w'.ownsRow w 106 6 v z (fQ z)∧z.map cB.o=l∧∀q∈z,kT w' w q:=by
  have I7:=J (rJ h O);have H:=J h;have HE:=J hE;have L8:=J hn;have D5:=J q8;have E5:=J C4;have M5:=J h.rising;clear h hE hn q8 C4;go_enter Tryz.func50,Tryz.ntmps50;go_wp2_with fail;refine I7.o.mono ?_;rintro e w1 ⟨v1,rfl,K6,G0⟩;obtain⟨A1,c1,rfl,l9,m8,K4⟩:=K6.b3;rw[lU] at l9;rw[lU];have M:=G0.size;have M4:=J K4;have t:=J G0;clear K4 K6 G0 I7;go_upto_block 0 with fail
  go_cut [4] from 4 to 43 (fun v wx=>∃z:List cB,z.length<=es∧Hq (wx.ownsRow w1 106 6 v z (fQ z))∧Hq (cE (bI FE.f es)=some (z.map cB.o))∧Hq (∀q∈z,kT wx w1 q)∧Hq (Below w1 w1 wx))
  case first=>
   go_wp2_with fail;go_loopw [17,4,6,7,8,9,10,11] (fun i v _ _ _ _ _ _ wr=>∃(k:Nat) (z:List cB),k<=es∧i=.int .i64 k∧z<=k∧Hq (wr.ownsRow w1 106 6 v z (fQ z))∧Hq (cE ((bI FE.f es).take k)=some (z.map cB.o))∧Hq (∀q∈z,kT wr w1 q)∧Hq (Below w1 w1 wr)) (fun i _ _ _ _ _ _ _ _=>es.length-(intOf i).toNat)
   case atStart=>exact⟨0,[],O,rfl,lR _,J (World.ownsRow_nil _ _ _ _),J rfl,J (fun q C=>by cases C),J (lS _ _)⟩
   obtain⟨k,z,hk,rfl,l6,HO,HL,HF,V⟩:=hrel;have T:=V.o.size;obtain⟨Av,cv,F,hx⟩:=aK HO.o;subst F;clear hx;by_cases u:k<es;rotate_left
   · obtain rfl:k=es:=O
     rw[List.take_of_length_le σ] at HL;go_wp2;go_meet;exact⟨z,l6,HO,HL,HF,V⟩
   obtain⟨ad,rfl,N7,G3⟩:=(M4.o.a1 V.o).at_ (k:=k) (by rw[lU];exact u);rw[List.getElem_map] at G3;have B1:=lX u;obtain⟨P,C3⟩:=eX (es[k].1);obtain⟨fb,q8⟩:=eX (es[k].2.f.b);obtain⟨kn,s9⟩:=eX (qK P);have N9:fb.length<=1000000000:=by rw[q8];exact D5.o _ B1
   have O2:P.length<=1000:=by rw[C3];exact L8.o _ B1
   have J6:0<=kn∧kn<=999999999:=by rw[s9];exact sF P
   have p4:(bI FE.f es).take (k+1)=(bI FE.f es).take k++[(P,es[k].2.f)]:=by
     rw[List.take_add_one,lW (by simpa using u),C3];unfold bI;rw[List.getElem_map];rfl
   have o9:cE ((bI FE.f es).take (k+1))=if kn=0 then some (z.map cB.o) else(cH kn fb).map fun s=>z.map cB.o++[s]:=by
     rw[p4,mX,HL.o,s9,q8];rfl
   have C9:=J o9;have C6:(bH p room es).read P=(fb,0):=by
     have G7:aX P (bI FE.f es)=some es[k].2.f:=by
       rw[fA,C3,yB M5.o u];rfl
     unfold DkD.read;rw[if_neg (by rw[show(bH p room es).pw.off=p.off from rfl,E5.o];simp)];rw[show(bH p room es).fs=bI FE.f es from rfl,G7,q8]
   have O5:=fL P;have D7:=J (aO1 (bU P) O wr ((HE.o.a1 t.o).a1 V.o));rw[show(bU P).data.toList=P from by simp[bU],<-s9] at D7;have I2:=J ((H.o.a1 t.o).a1 V.o);rw[<-C3] at G3;have p8:=J C6;clear o9 C6 p4 B1 s9 q8 C3;go_wp2_with fail;refine D7.o.mono ?_;rintro e w2 ⟨rfl,B7⟩;have S:=B7.size;have D3:=J (I2.o.a1 B7);have n5:=J (V.o.trans (B7.mono T));have D8:=J (bT HO.o B7);have B8:=J (fun q C=>(HF.o q C).a1 B7);clear B7 I2 V HO HF D7 G3;by_cases h0:kn=0
   · subst h0
     have p9:=J (C9.o.trans (if_pos rfl));clear C9 p8 D3;go_wp2;go_roundw
     case rel=>exact⟨k+1,z,O,by go_num,O,D8,p9,B8,n5⟩
     case measure=>simp[intOf];omega
   have p9:=J (C9.o.trans (if_neg h0));clear C9;have E7:=J (uQ D3.o (bU P) O (fun q C=>ω1 (D5.o q C)));rw[show(bU P).data.toList=P from by simp[bU],p8.o] at E7;clear D3 p8;go_wp2_with fail;refine E7.o.mono ?_;rintro e w3 ⟨v3,rfl,K7,C1⟩;obtain⟨A3,c3,rfl,q1,q2,q3⟩:=bF K7;have l7:=C1.size;have l8:=J (n5.o.trans (C1.mono (ω1 n5.o.size)));have I8:=J (bT D8.o C1);have I3:=J (fun q C=>(B8.o q C).a1 C1);have J2:=J (bH2 kn O A3 fb c3 w3 (q3.more O) q1 O O);clear C1 K7 q3 n5 D8 B8 E7;go_wp2_with fail;refine J2.o.mono ?_;rintro e w4 ⟨G2,v4,rfl,⟨a1,a2,a3,Al,nl,cl,Ae,ne,ce,U,rfl⟩,hS⟩;have p5:=J (l8.o.trans (G2.mono (ω1 l8.o.size)));have D9:=J (bT I8.o G2);have D4:=J (fun q C=>(I3.o q C).a1 G2);have E8:=J hS;clear hS l8 I8 I3 J2;rcases hrs:cH kn fb with _|⟨y,L6⟩
   · rw[hrs] at p9
     clear hrs E8;have J7:gH (bH p room es)=none:=by
       have Q:=qN (r:=(bI FE.f es).drop (k+1)) p9.o;rw[List.take_append_drop] at Q;unfold gH;rw[show(bH p room es).fs=bI FE.f es from rfl,Q]
     have N:=J (t.o.trans ((p5.o.trans ((lS _ w4).alloc (ω1 p5.o.size) (.cells #[a1,a2,a3,.slice Al nl cl,.slice Ae ne ce,.bool U] 106))).mono M));have I5:=J J7;clear J7 p9 p5 D4 D9;go_wp2;go_ret2;exact⟨N.o,_,by rw[I5.o];rfl,fun l h=>by rw[I5.o] at h;cases h⟩
   obtain⟨G,rs,vl,ve,hG,D0,F,N5,O3,O4,O0,O1⟩:=E8.o y L6 hrs;injection F with F
   have e1:Value.int .i64 a1=.int .i64 y.k:=by have:=congrArg (fun a:Array Value=>a[0]?) F;simpa using this
   have e2:Value.int .i64 a2=.int .i64 y.a8:=by have:=congrArg (fun a:Array Value=>a[1]?) F;simpa using this
   have e3:Value.int .i64 a3=.int .i64 y.c6:=by have:=congrArg (fun a:Array Value=>a[2]?) F;simpa using this
   have e4:Value.slice Al nl cl=vl:=by have:=congrArg (fun a:Array Value=>a[3]?) F;simpa using this
   have e5:Value.slice Ae ne ce=ve:=by have:=congrArg (fun a:Array Value=>a[4]?) F;simpa using this
   have e6:Value.bool U=.bool L6:=by have:=congrArg (fun a:Array Value=>a[5]?) F;simpa using this
   injection e1 with _ e1
   injection e2 with _ e2
   injection e3 with _ e3
   injection e6 with e6
   subst e1 e2 e3 e4 e5 e6;clear N5;obtain⟨_,_,e7,_⟩:=aK D0.c7;injection e7 with x1 e7 x2
   subst x1 e7 x2;obtain⟨_,_,e8,_⟩:=Own.b3 D0.a7;injection e8 with x1 e8 x2
   rw[lU] at e8;subst x1 e8 x2;rw[hrs] at p9;have M6:=J D0;clear hrs E8 D0 F;obtain⟨q,C⟩:∃q:cB,q=⟨y,U,Al,cl,Ae,ce,rs⟩:=⟨_,rfl⟩
   have K3:q.o=(y,U):=by rw[C];rfl
   have J9:jN q=[.int .i64 y.k,.int .i64 y.a8,.int .i64 y.c6,.slice Al rs.length cl,.slice Ae y.a7.length ce,.bool U]:=by rw[C];rfl
   have K0:kT w4 w1 q:=by
     have Q:=kT.of_sg (tn:=U) M6.o;rw[C];exact Q.mono (ω1 p5.o.size)
   have M3:=J K3;have M2:=J J9;have J1:=J K0;clear C K3 J9 K0;have C2:Below w4 w4 ((w4.alloc (.cells #[y.k,y.a8,y.c6,.slice Al rs cl,.slice Ae y.a7 ce,.bool U] 106)).alloc (.cells #[y.k,y.a8,y.c6,.slice Al rs cl,.slice Ae y.a7 ce,.bool U] 106)):=((lS _ w4).alloc (lR _) _).alloc σ _;have hC:=(dH (aS.new (w4.alloc (.cells #[y.k,y.a8,y.c6,.slice Al rs cl,.slice Ae y.a7 ce,.bool U] 106)) 106 #[y.k,y.a8,y.c6,.slice Al rs cl,.slice Ae y.a7 ce,.bool U]));rw[show(w4.alloc (.cells #[y.k,y.a8,y.c6,.slice Al rs cl,.slice Ae y.a7 ce,.bool U] 106)).heap.size=w4+1 from by simp] at hC;have HC:=J hC;clear hC;have C8:=J (bT D9.o C2);have L7:=J (fun q C=>(D4.o q C).a1 C2);have M1:=J (J1.o.a1 C2);have I0:=J (p5.o.trans (C2.mono (ω1 p5.o.size)));have N4:=I0.o.size;clear C2 D9 D4 J1 p5;go_wp2_with (at_builtin;go_must (refine dZ rfl (.tmp 39) (.tmp 41) 100 rfl w1.heap.size 106 (.agg #[.int .i64 0,.int .i64 0,.int .i64 0,.slice none 0 0,.slice none 0 0,.bool false]) 6 80 Tryz.underlying100 aV8 rfl δ _ z.length (fQ z) rfl C8.o ⟨w4.heap.size+1,0,none⟩ 1 1 _ rfl rfl HC.o (by simp[Value.oneCell']) (by unfold maxLen;omega) O O ?_;intro v6 w6 n9 J5 N2;have M0:=J n9;have D6:=J J5;clear n9 J5 N2));go_roundw
   case rel=>
     have M7:=Below.grown (lS w1 _) D6.o O (fun k hk=>(mL C8.o k hk).1);refine⟨k+1,z++[q],O,by go_num,θ,J ?_,J ?_,J ?_,J (I0.o.trans M7)⟩;rw[lT,aC5];have:=M0.o;rw[show fQ [q]=jN q from by simp[fQ],M2.o];exact this;rw[p9.o,mE,mG,M3.o];rfl;intro x hx;rcases mB.1 hx with hx|hx
     exact(L7.o x hx).grown C8.o D6.o;obtain rfl:=lY.1 hx;exact M1.o.grown C8.o D6.o
   case measure=>simp[intOf];omega
  obtain⟨z,l6,HO,HL,HF,V⟩:=hcut;have T:=V.o.size;obtain⟨Av,cv,F,hx⟩:=aK HO.o;subst F;clear hx;have J3:=J (bH4 HO.o O);go_wp2_with fail;refine J3.o.mono ?_;rintro e w2 ⟨rfl,n,C5,K5,B6,hg⟩;have t9:=C5.length_eq.symm;have J4:gH (bH p room es)=if eT (n.map cB.o)=true then some (n.map cB.o) else none:=
    yX (d:=bH p room es) HL.o (C5.map _) (by rw[List.pairwise_map];exact K5)
  have I4:=J J4;have B8:=J (fun q (C:q∈n)=>(HF.o q (C5.mem_iff.1 C)).grown HO.o hg);have n5:=J (Below.grown V.o hg T (fun k hk=>(mL HO.o k hk).1));have L9:=J (fun q (C:q∈n)=>((lI HL.o (fun q C=>by
    obtain⟨x,hx,rfl⟩:=mF.1 C;exact D5.o x hx)).2 q.o (mF.2 ⟨q,C5.mem_iff.1 C,rfl⟩)))
  have S:=n5.o.size;rw[t9] at B6;have J0:=J B6;have hN:n.length<=1099511627776:=O;rw[t9];clear J4 C5 K5 B6 hg HL HF V HO J3 t9;go_wp2_with fail;go_loopw [48,12,13] (fun i _ _ wr=>∃k:Nat,k<=n∧i=.int .i64 k∧Hq (∀j (h:j<n.length),j<k->aO7 n j h)∧Hq (Below w2 w2 wr)) (fun i _ _ _=>n.length-(intOf i).toNat)
  case atStart=>exact⟨0,O,rfl,J (fun j h h0=>O),J (lS _ _)⟩
  obtain⟨k,hk,rfl,I9,l8⟩:=hrel;have l7:=l8.o.size;by_cases u:k<n;rotate_left
  · obtain rfl:k=n:=O
    have C7:gH (bH p room es)=some (n.map cB.o):=by
      rw[I4.o,if_pos ((aF6 n).2 fun j h=>I9.o j h h)]
    have HY:=J C7;have D1:=J (t.o.trans ((n5.o.trans (l8.o.mono S)).mono M));clear C7;go_wp2;go_ret2;refine⟨D1.o,_,by rw[HY.o];rfl,fun l h=>?_⟩;rw[HY.o] at h;injection h with h
    subst h;exact⟨n,jH (bT J0.o l8.o) M,rfl,fun q C=>((B8.o q C).a1 l8.o).mono M⟩
  obtain⟨A,c,F,m3,hc,W⟩:=aK (bT J0.o l8.o);obtain⟨gr,N6,rfl,m9,m6,m5,m7,n8⟩:=W O;injection F with F hv2 hv'
  subst F hv';clear hv2;have E:∀i (hi:i<n.length) j,j<6->(fQ n)[i*6+j]? =(jN n[i])[j]? :=fun i hi j hj=>uR n hi hj
  have c0:wr.cell? (gr,k*6)=some (.int .i64 n[k].s.k):=n8 _ _ (E k u 0 O);have c1:=n8 _ _ (E k u 1 O);have c2:=n8 _ _ (E k u 2 O);have c3:wr.cell? (gr,k*6+3)=some (.slice n[k].al n[k].rs.length n[k].cl):=n8 _ _ (E k u 3 O);have c4:wr.cell? (gr,k*6+4)=some (.slice n[k].ae n[k].s.a7.length n[k].ce):=n8 _ _ (E k u 4 O);have c5:=n8 _ _ (E k u 5 O);have s9:=L9.o n[k] (lX u);have J6:1<=n[k].s.k∧n[k].s.k<=999999999:=s9.2.1;obtain⟨ek,G6⟩:=eX (n[k].s.k);obtain⟨tk,G9⟩:=eX (n[k].tn);obtain⟨nk,G8⟩:=eX (n[k].s.a7.length);obtain⟨B,hB⟩:∃B:Bool,B=false↔aO7 n k u:=by
    by_cases hh:aO7 n k u;exact⟨false,by simp[hh]⟩;exact⟨true,by simp[hh]⟩
  have D:=J hB;have R:=J G6;have K:=J G9;have Z:=J G8;obtain⟨xf,L1⟩:=eX (n[k].s.a8);obtain⟨xt,L5⟩:=eX (n[k].s.c6);obtain⟨xl,L2⟩:=eX (n[k].al);obtain⟨xn,L4⟩:=eX (n[k].rs.length);obtain⟨xm,L3⟩:=eX (n[k].cl);obtain⟨xa,K9⟩:=eX (n[k].ae);obtain⟨xc,L0⟩:=eX (n[k].ce);rw[<-L1] at c1;rw[<-L5] at c2;rw[<-L2,<-L4,<-L3] at c3;rw[<-K9,<-L0] at c4;clear L1 L5 L2 L4 L3 K9 L0;rw[<-G6] at c0 J6;rw[<-G9] at c5;rw[<-G8] at c4;have Y:=J n8;clear G6 G9 G8 hB s9 n8;go_upto_region 17 with fail
  have E9:=bA wr (.cells #[ek,xf,xt,.slice xl xn xm,.slice xa nk xc,.bool tk] 106);have C0:=aS.new wr 106 #[ek,xf,xt,.slice xl xn xm,.slice xa nk xc,.bool tk];have L:nk=0↔n[k].s.a7=[]:=by rw[Z.o];exact List.length_eq_zero_iff
  obtain⟨wB,K8⟩:=eX (wr.alloc (.cells #[ek,xf,xt,.slice xl xn xm,.slice xa nk xc,.bool tk] 106));rw[<-K8] at E9 C0⊢;have b0:=C0.c 0;have b4:=C0.c 4;have b5:=C0.c 5;have N:=J E9;clear K8 E9 C0;go_cut [86] from 53 to 86 (fun c wx=>c=.bool B∧Hq (Below wr wr wx))
  case first=>
    clear c0 c1 c2 c3 c4 c5;by_cases X:0<k;rotate_left
    · have M9:=decide_eq_false X
      by_cases Q:k+1<n;rotate_left
      · have hd:decide ((k:Int)<(n:Int)-1)=false:=decide_eq_false O
        have t:=J (D.o.2 ⟨fun h0=>absurd h0 X,fun h=>absurd h Q⟩);clear L D E Y R K Z W m5 m7 m6 m9 l7 S T l6 l9 m8 M hl hc m3;go_big_quiet (fail);go_wp2;go_meet;exact⟨by first|(rw[t.o];done)|(rw[t.o];rfl)|(rw[t.o];simpa using I),J (aD N.o _)⟩
      have hd:decide ((k:Int)<(n:Int)-1)=true:=decide_eq_true O;cases tk with
      |true=>
        have t:Hq (B=true):=J (by
          cases B with
          |true=>rfl
          |false=>
            have:=(D.o.1 rfl).2 Q;rw[<-K.o] at this;cases this.1)
        clear L D E Y R K Z W m5 m7 m6 m9 l7 S T l6 l9 m8 M hl hc m3;go_big_quiet (fail);go_wp2;go_meet;exact⟨by first|(rw[t.o];done)|(rw[t.o];rfl)|(rw[t.o];simpa using I),J (aD N.o _)⟩
      |false=>
        by_cases I:nk=0
        · have t:Hq (B=true):=J (by
            cases B with
            |true=>rfl
            |false=>exact absurd (L.1 I) ((D.o.1 rfl).2 Q).2)
          clear L D E Y R K Z W m5 m7 m6 m9 l7 S T l6 l9 m8 M hl hc m3;subst I;go_big_quiet (fail);go_wp2;go_meet;exact⟨by first|(rw[t.o];done)|(rw[t.o];rfl)|(rw[t.o];simpa using I),J (aD N.o _)⟩
        have t:=J (D.o.2 ⟨fun h0=>absurd h0 X,fun _=>⟨K.o.symm,fun h=>I (L.2 h)⟩⟩);clear L D E Y R K Z W m5 m7 m6 m9 l7 S T l6 l9 m8 M hl hc m3;go_big_quiet (fail);go_wp2;go_meet;exact⟨by first|(rw[t.o];done)|(rw[t.o];rfl)|(rw[t.o];simpa using I),J (aD N.o _)⟩
    have M9:=decide_eq_true X;obtain⟨j,hj⟩:∃j,k=j+1:=⟨k-1,O⟩
    have N3:j<n:=O;have G4:wr.cell? (gr,j*6)=some (.int .i64 n[j].s.k):=Y.o _ _ (E j N3 0 O);have o8:(n[k-1]'O).s.k=n[j].s.k:=by
      have e:k-1=j:=O;simp only[e]
    have p7:=J o8;obtain⟨ej,G5⟩:=eX (n[j].s.k);have p6:=J G5;rw[<-G5] at G4;have N8:=(N.o.cell (p:=(gr,j*6)) m6).trans G4;clear G4 G5 o8;by_cases h2:ej=ek-1;rotate_left
    · have t:Hq (B=true):=J (by
        cases B with
        |true=>rfl
        |false=>
          have:=(D.o.1 rfl).1 X;rw[p7.o,<-p6.o,<-R.o] at this;exact absurd this h2)
      have M8:=bne_iff_ne.2 h2;clear L D E Y R K Z W m5 m7 m6 m9 l7 S T l6 l9 m8 M hl hc m3 p7 p6;go_big_quiet (fail);go_wp2;go_meet;exact⟨by first|(rw[t.o];done)|(rw[t.o];rfl)|(rw[t.o];simpa using I),J (aD N.o _)⟩
    have H2:Hq (∀h0:0<k,(n[k-1]'O).s.k=n[k].s.k-1):=J (fun h0=>by rw[p7.o,<-p6.o,<-R.o];exact h2);have M8:(ej !=ek-1)=false:=by rw[bne_eq_false_iff_eq];exact h2
    clear h2;by_cases Q:k+1<n;rotate_left
    · have hd:decide ((k:Int)<(n:Int)-1)=false:=decide_eq_false O
      have N0:decide ((j:Int)+1<(n:Int)-1)=false:=decide_eq_false O;have t:=J (D.o.2 ⟨H2.o,fun h=>absurd h Q⟩);clear L D E Y R K Z W m5 m7 m6 m9 l7 S T l6 l9 m8 M hl hc m3 p7 p6 H2;go_big_quiet (fail);go_wp2;go_meet;exact⟨by first|(rw[t.o];done)|(rw[t.o];rfl)|(rw[t.o];simpa using I),J (aD N.o _)⟩
    have hd:decide ((k:Int)<(n:Int)-1)=true:=decide_eq_true O;have N0:decide ((j:Int)+1<(n:Int)-1)=true:=decide_eq_true O;cases tk with
    |true=>
      have t:Hq (B=true):=J (by
        cases B with
        |true=>rfl
        |false=>
          have:=(D.o.1 rfl).2 Q;rw[<-K.o] at this;cases this.1)
      clear L D E Y R K Z W m5 m7 m6 m9 l7 S T l6 l9 m8 M hl hc m3 p7 p6 H2;go_big_quiet (fail);go_wp2;go_meet;exact⟨by first|(rw[t.o];done)|(rw[t.o];rfl)|(rw[t.o];simpa using I),J (aD N.o _)⟩
    |false=>
      by_cases I:nk=0
      · have t:Hq (B=true):=J (by
          cases B with
          |true=>rfl
          |false=>exact absurd (L.1 I) ((D.o.1 rfl).2 Q).2)
        clear L D E Y R K Z W m5 m7 m6 m9 l7 S T l6 l9 m8 M hl hc m3 p7 p6 H2;subst I;go_big_quiet (fail);go_wp2;go_meet;exact⟨by first|(rw[t.o];done)|(rw[t.o];rfl)|(rw[t.o];simpa using I),J (aD N.o _)⟩
      have t:=J (D.o.2 ⟨H2.o,fun _=>⟨K.o.symm,fun h=>I (L.2 h)⟩⟩);clear L D E Y R K Z W m5 m7 m6 m9 l7 S T l6 l9 m8 M hl hc m3 p7 p6 H2;go_big_quiet (fail);go_wp2;go_meet;exact⟨by first|(rw[t.o];done)|(rw[t.o];rfl)|(rw[t.o];simpa using I),J (aD N.o _)⟩
  obtain⟨rfl,HW⟩:=hcut;have I1:=J (l8.o.trans (HW.o.mono l7));clear c0 c1 c2 c3 c4 c5 b0 b4 b5 N L R K Z Y W m5 m7 m3 hc E;cases B with
  |true=>
    have J8:gH (bH p room es)=none:=by
      rw[I4.o,if_neg];intro h;have:=D.o.2 ((aF6 n).1 h k u);cases this
    have B9:=J J8;have D1:=J (t.o.trans ((n5.o.trans (I1.o.mono S)).mono M));clear J8;go_wp2;go_ret2;exact⟨D1.o,_,by rw[B9.o];rfl,fun l h=>by rw[B9.o] at h;cases h⟩
  |false=>
    have E6:Hq (∀j (h:j<n.length),j<k+1->aO7 n j h):=J (fun j h h0=>by
      by_cases e:j=k;subst e;exact D.o.1 rfl;exact I9.o j h O)
    go_wp2;go_roundw
    case rel=>exact⟨k+1,O,by go_num,E6,I1⟩
    case measure=>simp[intOf];omega
end Go.Proofs.YtgeofijddhflaaaGreatDoor
