/- pavaneref22.write. Condition: the journal is on a disk of a call's own, within bounds; the entries can be read. -/
import Derived.Test.YtgeofijddhflaaaGreatDoorPJnRComp
set_option linter.unusedVariables false
set_option linter.unusedSimpArgs false
set_option maxHeartbeats 8000000
set_option maxRecDepth 100000
namespace Go.Proofs.YtgeofijddhflaaaGreatDoor
open Go.RowKit Go.Maps Oct
def aV2(segs:List aH)(N k:Nat)(tl:List aQ):List aQ:=(((segs.take k).drop N).reverse.map fun s=>aQ.rm (aE s.k))++tl
theorem bN7{segs:List aH}{N m:Nat}{tl:List aQ}(h:m<segs)(a:N<=m):aV2 segs N (m+1) tl=.rm (aE segs[m].k)::aV2 segs N m tl:=by
 unfold aV2;rw[List.take_add_one,lW h,List.drop_append_of_le_length (by rw[lV];omega)];simp
theorem bW6{segs:List aH}{N:Nat}{tl:List aQ}:aV2 segs N N tl=tl:=by
 unfold aV2;rw[List.drop_eq_nil_of_le (by rw[lV];omega)];rfl
theorem bB9{j:bQ}{N:Nat}{tl:List aQ}:aV2 j.b0 N j.b0 tl=(fI j N).map (fun s=>aQ.rm (aE s.k))++tl:=by
 unfold aV2 fI;rw[List.take_length]
structure pW(s:aH):Prop where
 len:s.a7.length=s.l+1
 inc:s.a7.Pairwise (· < ·)
theorem pW.at_{s:aH}(h:pW s){i k:Nat}(hi:i<k)(a:k<s.a7):s.a7[i]'O<s.a7[k]:=List.pairwise_iff_getElem.1 h.inc i k O a hi
theorem rF(s:aH)(ix:Int):s.e4 ix<=s.l:=by unfold aH.e4;omega
theorem pW.e0{s:aH}(h:pW s){ix:Int}(g:¬(s.ahead ix).b2<s.b2):s.ahead ix=s:=by
 have a:=oY (ix:=ix) h.len;have d:=rF s ix;have b:s.a7[s.l.length]? =some s.b2:=by
  unfold aH.b2;rw[List.getLastD_eq_getLast?,List.getLast?_eq_getElem?,h.len,Nat.add_sub_cancel,lW (by rw[h.len];omega)];rfl
 have c:s.e4 ix=s.l:=by
  rcases Nat.eq_or_lt_of_le d with e|e
  exact e;exfalso;have f:=h.at_ e (by rw[h.len];omega);rw[lW (by rw[h.len];omega)] at a b;injection a with a
  injection b with b
  omega
 unfold aH.ahead;rw[c,List.take_length,List.take_of_length_le (by rw[h.len];omega)]
theorem pW.stop{s:aH}(h:pW s){ix:Int}{k:Nat}(d:k<=s.e4 ix)(f:k<s.a7):s.a7[k]<(s.ahead ix).b2↔k<s.e4 ix:=by
 have a:=oY (ix:=ix) h.len;have g:=rF s ix;have b:s.e4 ix<s.a7:=by rw[h.len];omega
 rw[lW b] at a;injection a with a
 constructor;intro c;rcases Nat.eq_or_lt_of_le d with e|e
 subst e;omega;exact e;intro c;have:=h.at_ c b;omega
theorem tZ{w:World}{base g n c b:Nat}{e:TypeId}{d:List Value}(h:w.ownsRow base e b (.slice (g,0) (n+1) c) (n+1) d){i:Nat}{u:Value}(k:d[i]? =some u):w.cell? (g,i)=some u:=by
 obtain⟨A,m,a,_,_,f⟩:=aK h;obtain⟨o,l,rfl,_,_,_,_,j⟩:=f O;injection a with a _ _
 injection a with a
 injection a with a
 subst a;exact j i u k
theorem aK6{a:List RqR}{q q' :RqR}{m:Nat}(i:a.length=m){c d e:Value}(j:gZ q' =[.int .i64 q.s.k,.int .i64 q.s.a8,.int .i64 q.s.c6,c,d,e,.bool q.em,.bool q.tn]):(((aY (a++[q])).set (m*8+3) c).set (m*8+4) d).set (m*8+5) e=aY (a++[q']):=by
 subst i;have b:∀x:RqR,aY [x]=gZ x:=fun x=>by unfold aY;simp
 have l:=bS a;have f:a.length*8+3-(aY a).length=3:=O;have g:a.length*8+4-(aY a).length=4:=O;have h:a.length*8+5-(aY a).length=5:=O;rw[eL,eL,b,b,j,List.set_append_right _ _ O,List.set_append_right _ _ O,List.set_append_right _ _ O,f,g,h];rfl
theorem cZ.aside{w wx m:World}{base g gj b:Nat}{vL c :Value}{es a :List (Nm×RF)}{d:DkD}{t v:Int}{l:Value}{bad:Int}(h:cZ w base g vL es gj d t v l bad wx c a)(f:Fr (fun k=>k=b) wx m)(o:w<=b)(p:b≠gj)(n:¬aL g c a b):cZ w base g vL es gj d t v l bad m c a :=
 ⟨h.c8.b1 f.size (fun k i=>f.block k (h.c8.lt k i).2 (fun e=>n (e▸i))),h.fs,f.h4 h.jb (fun e=>p e.symm),h.fr.trans f (fun j e=>.inr (by subst e;exact o)),h.grow⟩
theorem cZ.asides{w wx m:World}{base g gj:Nat}{P:Nat->Prop}{vL b :Value}{es a :List (Nm×RF)}{d:DkD}{t v:Int}{l:Value}{bad:Int}(h:cZ w base g vL es gj d t v l bad wx b a)(c:Fr P wx m)(f:∀k,P k->w.heap.size<=k∧k≠gj∧¬aL g b a k):cZ w base g vL es gj d t v l bad m b a :=
 ⟨h.c8.b1 c.size (fun k i=>c.block k (h.c8.lt k i).2 (fun e=>(f k e).2.2 i)),h.fs,c.h4 h.jb (fun e=>(f _ e).2.1 rfl),h.fr.trans c (fun j e=>.inr (f j e).1),h.grow⟩
theorem bJ3(q:RqR):aY [q]=gZ q:=by unfold aY;simp
theorem dP{w:World}{base g n c b:Nat}{e:TypeId}{j:List Value}(h:w.ownsRow base e b (.slice (g,0) (n+1) c) (n+1) j)(i:Nat):w.frozen? (g,i)=false:=by
 obtain⟨A,l,a,_,_,d⟩:=aK h;obtain⟨m,k,rfl,_,_,f,_⟩:=d O;injection a with a _ _
 injection a with a
 injection a with a
 subst a;simp[World.frozen?,f]
theorem oO{w w' :World}{base n a B:Nat}{e:TypeId}{v:Value}{b:List Value}(h:w.ownsRow base e a v n b)(c:Below B w w')(f:w<=B:=by omega):w'.ownsRow base e a v n b:=cC h fun k d=>c.block k (ω1 ((mL h k d).2))
theorem bY5{g n c k:Nat}(h:(Value.slice (g,0) n c).ownBlock=some k):k=g:=by
 have a:g=k:=by simpa[Value.ownBlock] using h
 exact a.symm
structure xZ(w:World)(F:Nat->Prop)(q:RqR):Prop where
 num:gU q.s
 cap:q.rs<=q.cl∧q.cl<=maxLen∧q.s.a7<=q.ce∧q.ce<=maxLen
 c7:dM w F q.al (aG q.rs)
 map:q.rs.map EntR.e=q.s.l
 h6:∀x∈q.rs,gQ w F x.v x.e.b
 a7:dM w F q.ae (q.s.a7.map (Value.int .i64))
 em:q.em=q.s.a7.isEmpty
theorem nT.n{w:World}{F:Nat->Prop}{q:RqR}(h:nT w F q):xZ w F q:=⟨h.num,h.cap,h.c7,h.map,h.h6,h.a7,h.em⟩
theorem xZ.b1{w w' :World}{F:Nat->Prop}{q:RqR}(h:xZ w F q)(b:w.heap.size<=w')(a:∀k,F k->w'.heap[k]? =w.heap[k]?):xZ w' F q:=⟨h.num,h.cap,h.c7.b1 b a,h.map,fun x hx=>(h.h6 x hx).b1 b a,h.a7.b1 b a,h.em⟩
theorem xZ.mono{w:World}{F F' :Nat->Prop}{q:RqR}(h:xZ w F q)(a:∀k,F k->F' k):xZ w F' q:=⟨h.num,h.cap,h.c7.mono a,h.map,fun x hx=>(h.h6 x hx).mono a,h.a7.mono a,h.em⟩
def cF9(w:World)(F:Nat->Prop)(l:List RqR):Prop:=∀q∈l,nT w F q
def cG0(w:World)(F:Nat->Prop)(l:List RqR):Prop:=(∀q∈l,xZ w F q)∧∀q∈l.dropLast,nT w F q
structure cF5(ok:World->(Nat->Prop)->List RqR->Prop)(w w1 wx:World)(base g gj:Nat)(vL:Value)(es:List (Nm×RF))(F:Nat->Prop)(jt jv:Int)(sv:Value)(L:Nat)(r:Int×DkD)(v:Value)(tl:List aQ)(ss:List aH):Prop where
 ex:∃(b3:Nat) (recsK:List RqR) (FK:Nat->Prop) (d3:DkD) (vL3:Value) (es3:List (Nm×RF)),(w1<=b3∧b3<=wx)∧wx.ownsRow b3 139 8 v recsK (aY recsK)∧recsK.map RqR.s=ss∧ok wx FK recsK∧cZ w base g vL es gj d3 jt jv sv 0 wx vL3 es3∧gP L d3∧r=cF tl d3∧(∀k,FK k->base<=k∧k<wx.heap.size∧k≠gj∧¬aL g vL3 es3 k∧v.ownBlock≠some k)∧∀k,FK k->F k∨w.heap.size<=k
 o:Fr (fun k=>aL g vL es k∨k=gj) w1 wx
theorem aR1{w:World}{base g gj:Nat}{F E:Nat->Prop}{d:DkD}{j:bQ}{vL:Value}{es:List (Nm×RF)}(h:aL9 w base g gj F d j vL es)(FA:j.bad=0){L:Nat}(KR:gP L d)(hL:L<=100000000000)(C8:j.b0.length<=1000000)(KM:∀s∈j.b0,1<=s.k∧s.k<=999999999)
  (N:Nat) (hN:N<=j.b0.length) (lg:Int) (fresh:Bool) (sN:aH) (lo:Int) (em tn:Bool) (al ae:Option Addr) (cl ce:Nat) (B5:Option Addr) (bs:List UInt8) (cb:Nat) (Ae:Option Addr) (rs:List EntR) (cr:Nat) (tl tl2:List aQ) (r:Int×DkD) (hr:r=cF ((fI j N).map (fun s=>aQ.rm (aE s.k))++tl) d) (ix:Int) (ss:List aH) (AQ:∀s∈j.b0,pW s) (NF:∀s∈j.b0,s.l.length<=100000000000) (I:(N=0∧ss=[]∧tl=tl2)∨∃kr s,j.b0.take N=kr++[s]∧lg=(s.ahead ix).b2∧tl=fV s (s.ahead ix)++tl2∧ss=kr++[s.ahead ix]) (KZ:fresh=true->xZ w F ⟨sN,tn,lo,em,al,cl,ae,ce,[]⟩) (KO:0<N∨fresh=true) (KW:dM w E Ae (aG rs)) (o8:∀x∈rs,gQ w E x.v x.e.b) (KE:dM w E B5 (cells bs)) (hE:∀k,E k->k<w.heap.size∧k≠gj∧¬aL g vL es k) (MY:rs.length<=cr∧cr<=9223372036854775807) (D1:bs.length<=cb∧cb<=9223372036854775807) (FC:bs.length<=100000000000) (LA:∀s∈(if fresh=true then ss++[sN] else ss),s.l.length<=100000000000∧s.a7.length=s.l.length+1∧(0<=s.b2∧s.b2<=1000000000000)∧1<=s.k∧s.k<=999999999) (n5:∀x∈rs,(-9223372036854775808<=x.e.ix∧x.e.ix<=9223372036854775807)∧(-9223372036854775808<=x.e.tm∧x.e.tm<=9223372036854775807)∧(-9223372036854775808<=x.e.kd∧x.e.kd<=9223372036854775807)∧x.e.b.length<=65535) (R8:((rs.map EntR.e).map aZ).flatten.length<=1000000000000) (NV:rs.length<=100000000000) (res:Int×bQ×DkD) (BN:r.1≠0->res=(r.1,{j with bad:=r.1},r.2)) (E7:∀kr s,(if fresh=true then ss++[sN] else ss)=kr++[s]->tl2=[.app (aE s.k) bs,.sync (aE s.k)]∧(r.1=0->res=(0,{j with b0:=kr++[aO s (rs.map EntR.e)]},r.2))):
  Calls Tryz.prog 126 #[(gj,0),N,lg,.bool fresh,.agg #[sN.k,sN.a8,sN.c6,.slice al 0 cl,.slice ae sN.a7 ce,lo,.bool em,.bool tn],.slice B5 bs cb,.slice Ae rs cr] w fun e w' =>pV w base g gj vL es F res e w' :=by
 obtain⟨sv,hO,C3⟩:=h.start;obtain⟨A,c,M,EU,Y6,C6,NU,_⟩:=h.jn.lst;have GP:=fun q hq=>NF _ (by rw[<-C6];exact mF.2 ⟨q,hq,rfl⟩)
 have OC:sv=.slice A M c:=by
  have D:=hO.jb;unfold aS at D EU;rw[EU] at D;injection D with D
  injection D with D _ _
  have U:some (Value.slice A M c)=some sv:=congrArg (fun a:Array Value=>a[3]?) D;exact(Option.some.inj U).symm
 subst OC;have GD:=h.jn.num;have BO:M.length=j.b0:=by rw[<-C6,lU]
 obtain⟨jt,CW⟩:=eX j.c6;obtain⟨jv,CX⟩:=eX j.h7;rw[FA,<-CW,<-CX] at hO;rw[<-CW,<-CX] at GD;obtain⟨w1,DE⟩:=eX (w.alloc (.cells #[sN.k,sN.a8,sN.c6,.slice al 0 cl,.slice ae sN.a7 ce,lo,.bool em,.bool tn] 139));have CO:=bN DE;have KC:=kN DE;have P6:=hO.a1 CO;have NX:=CO.size;have EP:=cY.start P6.again KR (aV2 j.b0 N j.b0 tl);rw[bB9,<-hr] at EP;have HH:=J h;have V6:=J P6;have MA:=J KC;have T9:=J CO;have JO:=J DE;have N4:=J C3;have DM:Hq (cY w1 base g vL es gj jt jv (.slice A M c) L r (aV2 j.b0 N M tl) true w1):=J (by rw[show aV2 j.b0 N M tl=(fI j N).map (fun s=>aQ.rm (aE s.k))++tl by rw[BO,bB9]];exact EP);have CE:=J (Y6.b1 NX (fun k f=>(h.j5 P6 f).1));have N5:=J (show∀k,F k->k<w1.heap.size∧k≠gj∧¬aL g vL es k from fun k f=>(h.j5 P6 f).2);have O0:=J C6;have LX:=J GP;have CD:=J GD;have K4:=J (And.intro CW CX);have IY:=J (show∀q∈M,1<=q.s.k∧q.s.k<=999999999 from fun q hq=>KM _ (by rw[<-C6];exact mF.2 ⟨q,hq,rfl⟩));have IP:=J (show∀m (D:m<M.length),N<=m->aV2 j.b0 N (m+1) tl=.rm (aE M[m].s.k)::aV2 j.b0 N m tl from fun m D U=>by
  have h3:=bN7 (segs:=j.b0) (tl:=tl) (by omega:m<j.b0) U;simp only[<-C6,List.getElem_map] at h3⊢;exact h3)
 have FY:=P6.jb.lt;have O8:=J BN;have U4:=J E7;have DK:=J FA;have P0:=J (And.intro KW (And.intro o8 KE));have HE:=J hE;have X2:=J LA;have V5:=J n5;have JG:=J R8;have N8:=J AQ;have HK:=J I;have CM:N<=M:=O;have GU:M.length<=1000000:=O;have c3:=P6.jb.c 3;clear h hO EU Y6 C6 GP GD CW CX DE CO KC P6 EP C3 KM FA KR hr BN hN C8 BO NU AQ I E7 KW o8 KE hE LA n5 R8;go_enter Tryz.func126,Tryz.ntmps126;go_upto_region 1 with fail
 rw[<-JO.o];have LG:IntKind.i64.wrap ((M:Int)-1)=(M:Int)-1:=mH _ O;go_upto_block 0 with fail
 go_cut [15,16] from 29 to 55 (fun c15 c16 wx=>Hq (cY w1 base g vL es gj jt jv (.slice A M c) L r tl true wx))
 case first=>
  go_wp2_with fail;go_loopw [15,16] (fun iv _ wr=>∃k:Nat,N<=k∧k<=M∧iv=.int .i64 ((k:Int)-1)∧Hq (cY w1 base g vL es gj jt jv (.slice A M c) L r (aV2 j.b0 N k tl) true wr)) (fun iv _ _=>(intOf iv+1).toNat)
  case atStart=>exact⟨M,CM,lR _,rfl,DM⟩
  obtain⟨k,PE,GF,rfl,HD⟩:=hrel;clear DM c3;by_cases hkn:N<k;rotate_left
  ·obtain rfl:k=N:=O
   have hd:=HD.o;rw[bW6] at hd;have LR:=J hd;have MO:¬(k:Int)<=(k:Int)-1:=O;clear hd HD;go_wp2;go_meet;exact LR
  obtain⟨m,rfl⟩:∃m,k=m+1:=⟨k-1,O⟩
  have G7:m<M:=O;have KX:=HD.o.rd CE.o.row N5.o;obtain⟨ab,ao,rfl,_,MQ,a9⟩:=KX (by rw[bS];omega);have CR:=IP.o m G7 O;have T7:=IY.o _ (lX G7);obtain⟨qk,C7⟩:=eX (M[m].s.k);have e0:wr.cell? (ab,ao+m*8)=some (.int .i64 qk):=by
   have:=a9 (m*8+0) qk (by rw[dY M G7 O,C7];rfl);simpa using this
  rw[<-C7] at CR T7;obtain⟨nm,G8⟩:=eX (aE qk);have B6:=gN qk O wr.drew;rw[<-G8] at CR B6;have AF:=HD.o;rw[CR] at AF;have DN:=J AF;have O1:=J B6;obtain⟨l0,T5⟩:=AF.ptr;have l3:=AF.row3;have KK:((m+1:Nat):Int)-1=(m:Int):=O;have MO:(N:Int)<=(m:Int):=O;have PB:(m:Int)<(M:Int):=O;have Y3:0<=(m:Int)∧(m:Int)<(M:Int):=O;have PM:IntKind.i64.wrap ((m:Int)-1)=(m:Int)-1:=mH _ O;have DY:=J (show∀W,Fr (fun q=>aL g vL es q∨q=gj) w1 W->W.cell? (ab,ao+m*8)=some (.int .i64 qk) from fun W hW=>by
   obtain⟨OV,OW,he,hF,MR,J3⟩:=CE.o.row (by rw[bS];omega);injection he with he
   injection he with he1 he2 _
   subst he1 he2;have D:=J3 (m*8+0) qk (by rw[dY M G7 O,C7];rfl);have U:=N5.o _ hF;exact(mK (w:=w1) (a:=(ab,ao+m*8)) (hW.block ab U.1 (fun e=>e.elim U.2.2 U.2.1))).trans (by simpa using D))
  clear KX a9 CR C7 G8 B6 AF HD;rw[KK];clear KK;go_upto_region 4 with fail
  go_cut [16] from 34 to 49 (fun c16 wx=>∃B,c16=.bool B∧Hq (cY w1 base g vL es gj jt jv (.slice (ab,ao) M c) L r (aV2 j.b0 N m tl) B wx))
  case first=>
   refine wp_region_held_drew (S:=fun W=>W.cell? ⟨gj,0,none⟩=some (.pointer (some ⟨g,0,none⟩))∧W.cell? ⟨gj,3,none⟩=some (.slice (some ⟨ab,ao,none⟩) M c)∧W.cell? ⟨ab,ao+m*8,none⟩=some (.int .i64 qk)∧True) κ ⟨l0,l3,e0,trivial⟩ (fun C=>?_);refine zT 0 (k:=zT 1 (k:=zT 2 (k:=zT 3 (k:=zT 4 (k:=zT 5 (k:=zT 6 (k:=zT 7 (k:=zT 8 (k:=zT 9 (k:=zT 10 (k:=zT 11 (k:=?_))))))))))));refine zT 12 (k:=?_);simp only[zA,zB,zF,zG,zC,zD,zE];refine zV 13 (k:=fun K I=>?_);simp only[zA,zB];go_simp;refine O1.o.mono ?_;rintro e CC ⟨rfl,m6⟩;have d8:Below wr wr CC:=((lS _ wr).drew).trans m6;have JK:=J (cY.rm (n:=nm) (rest:=aV2 j.b0 N m tl) (DN.o.a1 d8) O);have i0:=(d8.cell (p:=(gj,0)) T5).trans l0;have i3:=(d8.cell (p:=(gj,3)) T5).trans l3;have i1:=(d8.cell (p:=(ab,ao+m*8)) MQ).trans e0;clear m6 d8 O1 DN l0 l3 e0;refine I.out _ _ ⟨i0,i3,i1,trivial⟩ (fun C=>?_);clear I K;try simp only[zF,zG,zC,zD,zE]
   refine zV 14 (k:=fun K I=>?_);simp only[zA,zB];go_simp;refine JK.o.mono ?_;rintro e LM ⟨z,rfl,⟨⟨n0,n3⟩,m9⟩,L2⟩;have K0:=J L2;have n1:=DY.o _ m9;clear L2 m9 JK i0 i1 i3;refine I.out _ _ ⟨n0,n3,n1,trivial⟩ (fun C=>?_);clear I K;try simp only[zF,zG,zC,zD,zE]
   refine zV 15 (k:=fun K I=>?_);simp only[zA,zB];go_simp;refine K0.o.mono ?_;rintro e LN ⟨ok,rfl,p5⟩;have l4:=J p5;have o0:=p5.ptr.1;have o3:=p5.row3;have o1:=DY.o _ p5.fr;clear p5 K0 n0 n1 n3;refine I.out _ _ ⟨o0,o3,o1,trivial⟩ (fun C=>?_);clear I K;try simp only[zF,zG,zC,zD,zE]
   refine zT 16 (k:=?_);simp only[zA,zB,zF,zG,zC,zD,zE];refine wpAnyH_done κ ?_ _;clear C o0 o1 o3;go_wp2;go_meet;exact⟨ok,rfl,l4⟩
  obtain⟨B,rfl,l4⟩:=hcut;clear DN O1 DY l0 l3 e0;cases B with
  |false=>
   obtain⟨Z,ID,EN,n9⟩:=(l4.o.skip (rest' :=[]) (lR _)).done;obtain⟨rc,d6⟩:=r;simp only at Z n9;have M8:rc≠0:=by simpa using Z.symm
   have i6:=V6.o.join n9;have K8:=J i6;have j4:=i6.jb.c 4;have X1:=J (O8.o M8);clear Z n9 i6 l4 M8;go_wp2;go_ret;exact N4.o _ _ _ _ rc _ _ _ K8.o CD.o res (by rw[X1.o,K4.o.1,K4.o.2])
  |true=>
   go_wp2;go_roundw
   case rel=>exact⟨m,O,O,by go_num,l4⟩
   case measure=>simp[intOf]
 have HD:=hcut;clear DM IY IP LG c3 hcut;obtain⟨d2,DI,es2,Y8,JW,BF,GG⟩:=HD.o.open_;have CT:=HD.o.fr;have KY:=CT.size;have AJ:=CT;have K6:=J Y8;have IW:=J JW;have JH:=J BF;have Y5:=CE.o.b1 KY (fun k f=>CT.block k (N5.o k f).1 (fun e=>e.elim (N5.o k f).2.2 (N5.o k f).2.1));have I1:=J (show∀k,F k->base<=k∧k<wc.heap.size∧k≠gj∧¬aL g DI es2 k from fun k f=>by
  obtain⟨q1,q2,q3⟩:=N5.o k f;exact⟨(HH.o.apart k f).1,O,q2,fun e=>(Y8.grow k e).elim q3 (fun e=>O)⟩)
 have X3:=J ((Y5.take CM).src);have LW:=J Y5;have c2:=Y8.jb.c 3;have AO:=Y8.jb.lt;have FN:=Y5.cap;have AE:=fun W:World=>nQ (P:=Tryz.prog) Tryz.underlying92 dX A M c N O (N:Int) rfl W
 have BU:(M.take N).length=N:=by rw[lV];omega
 have l6:=bA wc (.cells #[] 139);have R4:=gD wc 139 8;have c3:=(l6.cell (p:=(gj,3)) AO).trans c2;have G0:0<N->∃ad,A=some ad∧∀j u,(aY (M.take N))[j]? =some u->(wc.alloc (.cells #[] 139)).cell? (ad.add j)=some u:=by
  have:=((Y5.take CM).b1 l6.size (fun k f=>l6.block k (I1.o k f).2.1)).src;rw[BU] at this;exact this
 clear Y8 JW BF CT Y5 HD CE N5 MA;go_upto_region 8 with(at_builtin;go_must (refine cV rfl (.tmp 56) (.tmp 62) 92 rfl wc.heap.size 139 _ 8 88 Tryz.underlying92 dX rfl δ _ 0 [] rfl R4 A N c (aY (M.take N)) rfl (by rw[bS,BU]) G0 (kY _) (by unfold maxLen;omega) O l6.size ?_;intro v3 w3 CY CV))
 rw[Nat.zero_add,List.nil_append] at CY;have Z9:=l6.grown CV l6.size (fun q hq=>(mL R4 q hq).1);obtain⟨A3,P2,OE,FF,FG,LH⟩:=aK CY;subst OE;have CF:=J CY;have I0:=J Z9;have IS:=J (AJ.trans (Fr.b9 (fun k=>aL g vL es k∨k=gj) Z9) (fun k f=>.inl f));have V0:=J (show∀q∈M.take N,nT w3 F q from fun q hq=>((LW.o.b1 Z9.size (fun k f=>Z9.block k (I1.o k f).2.1)).rd q (mO hq)));clear CY CV Z9 G0 R4 l6 AE X3 c3 c2 AJ;have EK:=J (show 0<N->∃R,A3=some ⟨R,0,none⟩∧wc.heap.size<=R∧∀j u,(aY (M.take N))[j]? =some u->w3.cell? ⟨R,j,none⟩=some u from fun h0=>by
  obtain⟨R,EM,e,k1,k2,k3,k4,k5⟩:=LH h0;exact⟨R,e,k1,k5⟩)
 obtain⟨CB,JQ⟩:∃B:Bool,B=true↔∃h:0<N,lg<(M[N-1]'O).s.b2:=⟨decide (∃h:0<N,lg<(M[N-1]'O).s.b2),σ⟩
 have S5:=J JQ;clear LH JQ;go_cut [75] from 64 to 75 (fun c75 wx=>c75=.bool CB∧w3=wx)
 case first=>
  by_cases h0:0<N;rotate_left
  ·obtain rfl:CB=false:=by
    cases CB with
    |false=>rfl
    |true=>
     obtain⟨h,_⟩:=S5.o.1 rfl;exact absurd h h0
   go_wp2;go_meet;exact⟨rfl,rfl⟩
  obtain⟨m,rfl⟩:∃m,N=m+1:=⟨N-1,O⟩
  have G7:m<M:=O;obtain⟨R,rfl,CV,a9⟩:=EK.o h0;have m5:=V0.o M[m] (by
   rw[List.mem_take_iff_getElem];exact⟨m,O,rfl⟩)
  obtain⟨lq,GI⟩:=eX (M[m].s.b2);have e5:=a9 (m*8+5) lq (by
   rw[dY (M.take (m+1)) (k:=m) (by rw[lV];omega) O,List.getElem_take,GI,<-m5.lo];rfl)
  have D1:CB=true↔lg<lq:=by
   rw[S5.o,GI];constructor;rintro⟨_,h⟩;exact h;intro h;exact⟨O,h⟩
  have OY:(0:Int)<(m:Int)+1:=O;have LE:(m:Int)+1-1=(m:Int):=O;have LF:IntKind.i64.wrap (m:Int)=(m:Int):=mH _ O;have KN:(m:Int)<(m:Int)+1:=O;clear a9 m5 GI;by_cases hl:lg<lq
  ·obtain rfl:CB=true:=D1.2 hl
   clear D1;go_wp2;go_meet;exact⟨rfl,rfl⟩
  obtain rfl:CB=false:=by
   cases CB with
   |false=>rfl
   |true=>exact absurd (D1.1 rfl) hl
  clear D1;go_wp2;go_meet;exact⟨rfl,rfl⟩
 obtain⟨rfl,hw⟩:=hcut;subst hw;go_upto_if 75 with fail
 go_cut [18,19] from 76 to 146 (fun s9 c19 wx=>Hq (cF5 cF9 w w1 wx base g gj vL es F jt jv (.slice A M c) L r (.slice A3 N P2) tl2 ss))
 case first=>
  have AW:(M.take N).map RqR.s=j.b0.take N:=by rw[List.map_take,O0.o]
  cases CB with
  |false=>
   have E7:(M.take N).map RqR.s=ss∧tl=tl2:=by
    rcases HK.o with⟨h0,D,U⟩|⟨kr,s,h0,D,U,h3⟩
    rw[D,h0,List.take_zero];exact⟨rfl,U⟩;have EV:0<N:=by
     rcases Nat.eq_zero_or_pos N with e|e
     rw[e,List.take_zero] at h0;simp at h0;exact e
    have hs:(M[N-1]'O).s=s:=by
     have h4:=AW.trans h0;have h5:=congrArg (fun l=>l[N-1]?) h4;have NJ:kr=N-1:=by
      have:=congrArg List.length h4;rw[lU,BU,lT] at this;simp at this;omega
     simp only[List.getElem?_map] at h5;rw[List.getElem?_take_of_lt O,lW O,show(kr++[s])[N-1]? =some s by rw[<-NJ];simp] at h5;exact Option.some.inj h5
    have T6:¬(s.ahead ix).b2<s.b2:=fun e=>by
     have h6:=S5.o.2 ⟨EV,by rw[hs,D];exact e⟩;cases h6
    have hw:=(N8.o s (by
     have:s∈j.b0.take N:=by rw[h0];simp
     exact mO this)).e0 T6
    rw[h3,hw,AW,h0];refine⟨rfl,?_⟩;rw[U];unfold fV;rw[if_neg T6];rfl
   have U3:=J E7;clear E7 AW;go_wp2;go_meet;refine J ⟨⟨_,M.take N,F,d2,DI,es2,⟨K6.o.fr.size,I0.o.size⟩,?_,U3.o.1,V0.o,(V6.o.join K6.o).a1 I0.o,IW.o,by rw[<-U3.o.2];exact JH.o,fun k f=>?_,fun k f=>.inl f⟩,IS.o⟩;rw[BU];exact CF.o;obtain⟨q1,q2,q3,q4⟩:=I1.o k f;refine⟨q1,ω1 I0.o.size,q3,q4,fun e=>?_⟩;have:=(mL CF.o k e).1;omega
  |true=>
   obtain⟨EV,G6⟩:=S5.o.1 rfl;obtain⟨m,rfl⟩:∃m,N=m+1:=⟨N-1,O⟩
   have G7:m<M:=O;have AT:lg<M[m].s.b2:=G6;obtain⟨q,hq⟩:=eX (M[m]);have t9:lg=(q.s.ahead ix).b2∧tl=.cut (aE q.s.k) lg::tl2∧ss=(M.take m).map RqR.s++[q.s.ahead ix]:=by
    rcases HK.o with⟨h0,_⟩|⟨kr,s,h0,D,U,h3⟩
    omega;have h4:j.b0.take (m+1)=(M.take m).map RqR.s++[q.s]:=by
     rw[<-AW,List.take_succ_eq_append_getElem G7,mE,<-hq];rfl
    have h5:=h4.symm.trans h0;have h6:=List.append_inj_left' h5 rfl;have h7:=List.append_inj_right' h5 rfl;injection h7 with h7 _
    rw[h7];refine⟨D,?_,by rw[h6];exact h3⟩;rw[U];unfold fV;rw[if_pos (by rw[<-D,<-h7,hq];exact AT),D];rfl
   obtain⟨R,rfl,CV,a9⟩:=EK.o EV;have GQ:q∈M.take (m+1):=by
    rw[hq,List.mem_take_iff_getElem];exact⟨m,O,rfl⟩
   have m5:=V0.o q GQ;have m8:∀i u,i<8->(gZ q)[i]? =some u->w3.cell? ⟨R,m*8+i,none⟩=some u:=fun i u hi hu=>a9 (m*8+i) u (by
    rw[dY (M.take (m+1)) (k:=m) (by rw[lV];omega) hi,List.getElem_take,<-hq];exact hu)
   have JL:=J (show∀i u,i<8->(gZ q)[i]? =some u->(aY (M.take (m+1)))[m*8+i]? =some u from fun i u hi hu=>by
    rw[dY (M.take (m+1)) (k:=m) (by rw[lV];omega) hi,List.getElem_take,<-hq];exact hu)
   have Z1:=(V6.o.join K6.o).a1 I0.o;have X5:=cY.start Z1.again IW.o tl;rw[<-JH.o,t9.2.1] at X5;obtain⟨qk,C7⟩:=eX q.s.k;have e0:w3.cell? (R,m*8)=some (.int .i64 qk):=by rw[C7];exact m8 0 _ O rfl
   have j0:=Z1.jb.c 0;have FZ:=Z1.jb.lt;have C5:=mI w3 (R,m*8) e0;rw[<-C7] at X5;have T7:I6 qk:=by rw[C7];exact m5.num.k
   obtain⟨nm,G8⟩:=eX (aE qk);have B6:=gN qk T7 w3.drew;rw[<-G8] at B6 X5;have O1:=J B6;have DO:=J X5;have V8:=J Z1;have D7:=J t9;have HQ:=J hq;have IN:=J m8;have JJ:=J m5;have GH:I6 lg:=by
    have D:=oY (ix:=ix) (N8.o q.s (by rw[<-O0.o];exact mF.2 ⟨q,mO GQ,rfl⟩)).len;have U:=m5.num.a7 _ (List.mem_of_getElem? D);rw[t9.1];omega
   have D8:=J (show R≠gj∧¬aL g DI es2 R from⟨ω1 K6.o.jb.lt,fun e=>ω1 ((K6.o.c8.lt R e).2)⟩);have LE:(m:Int)+1-1=(m:Int):=O;have LF:IntKind.i64.wrap (m:Int)=(m:Int):=mH _ O;have KN:(m:Int)<(m:Int)+1:=O;have NL:0<=(m:Int)∧(m:Int)<(m:Int)+1:=O;clear G6 AT hq t9 GQ m5 m8 Z1 X5 C7 G8 B6 a9 AW S5;go_upto_region 9 with fail
   go_cut [18] from 76 to 90 (fun s9 wx=>∃B,s9=.bool B∧Hq (cY w3 base g DI es2 gj jt jv (.slice A M c) L r tl2 B wx))
   case first=>
    refine wp_region_held_drew (S:=fun W=>W.cell? ⟨gj,0,none⟩=some (.pointer (some ⟨g,0,none⟩))∧W.cell? ⟨R,m*8,none⟩=some (.int .i64 qk)∧True∧True) κ ⟨j0,e0,trivial,trivial⟩ (fun C=>?_);refine zT 0 (k:=zT 1 (k:=zT 2 (k:=zT 3 (k:=zT 4 (k:=zT 5 (k:=zT 6 (k:=zT 7 (k:=zT 8 (k:=zT 9 (k:=zT 10 (k:=zT 12 (k:=?_))))))))))));simp only[zA,zB,zF,zG,zC,zD,zE];refine zV 11 (k:=fun K I=>?_);simp only[zA,zB];go_simp;refine O1.o.mono ?_;rintro e CC ⟨rfl,m6⟩;have d8:Below w3 w3 CC:=((lS _ w3).drew).trans m6;have Io:=J (cY.cut (n:=nm) (z:=lg) (rest:=tl2) (DO.o.a1 d8) O GH);have i0:=(d8.cell (p:=(gj,0)) FZ).trans j0;have i1:=(d8.cell (p:=(R,m*8)) C5).trans e0;clear m6 d8 O1 DO;refine I.out _ _ ⟨i0,i1,trivial,trivial⟩ (fun C=>?_);clear I K;try simp only[zF,zG,zC,zD,zE]
    refine zV 13 (k:=fun K I=>?_);simp only[zA,zB];go_simp;refine Io.o.mono ?_;rintro e LM ⟨z,rfl,⟨⟨n0,_⟩,m9⟩,L2⟩;have K0:=J L2;have n1:=(mK (w:=w3) (a:=(R,m*8)) (m9.block R C5 (fun e=>e.elim D8.o.2 D8.o.1))).trans e0;clear L2 m9 Io i0 i1;refine I.out _ _ ⟨n0,n1,trivial,trivial⟩ (fun C=>?_);clear I K;try simp only[zF,zG,zC,zD,zE]
    refine zV 14 (k:=fun K I=>?_);simp only[zA,zB];go_simp;refine K0.o.mono ?_;rintro e LN ⟨ok,rfl,p5⟩;have l4:=J p5;have o0:=p5.ptr.1;have o1:=(mK (w:=w3) (a:=(R,m*8)) (p5.fr.block R C5 (fun e=>e.elim D8.o.2 D8.o.1))).trans e0;clear p5 K0 n0 n1;refine I.out _ _ ⟨o0,o1,trivial,trivial⟩ (fun C=>?_);clear I K;try simp only[zF,zG,zC,zD,zE]
    refine zT 15 (k:=?_);simp only[zA,zB,zF,zG,zC,zD,zE];refine wpAnyH_done κ ?_ _;clear C o0 o1;go_wp2;go_meet;exact⟨ok,rfl,l4⟩
   obtain⟨B,rfl,l4⟩:=hcut;clear DO O1;cases B with
   |false=>
    obtain⟨Z,ID,EN,n9⟩:=(l4.o.skip (rest' :=[]) (lR _)).done;obtain⟨rc,d6⟩:=r;simp only at Z n9;have M8:rc≠0:=by simpa using Z.symm
    have i6:=V8.o.join n9;have K8:=J i6;have j4:=i6.jb.c 4;have X1:=J (O8.o M8);clear Z n9 i6 l4 M8;go_wp2;go_ret;exact N4.o _ _ _ _ rc _ _ _ K8.o CD.o res (by rw[X1.o,K4.o.1,K4.o.2])
   |true=>
    obtain⟨d4,J9,I2,S9,Y3,BG,_⟩:=l4.o.open_;have L7:=l4.o.fr;have OA:=L7.size;have C8:=N8.o q.s (by rw[<-O0.o,HQ.o];exact mF.2 ⟨_,lX G7,rfl⟩);have X9:∀k,F k->base<=k∧k<wc.heap.size∧k≠gj∧¬aL g J9 I2 k:=fun k f=>by
     obtain⟨q1,q2,q3,q4⟩:=I1.o k f;have:=I0.o.size;exact⟨q1,O,q3,fun e=>(S9.grow k e).elim q4 (fun e=>O)⟩
    have m5:=JJ.o.b1 OA (fun k f=>by
     obtain⟨q1,q2,q3,q4⟩:=I1.o k f;have:=I0.o.size;exact L7.block k O (fun e=>e.elim q4 q3))
    have FB:=L7.block R C5 (fun e=>e.elim D8.o.2 D8.o.1);have m8:=fun i u hi hu=>(mK (w:=w3) (a:=⟨R,m*8+i,none⟩) FB).trans (IN.o i u hi hu)
    obtain⟨K,Y4⟩:=eX (q.s.e4 ix);have OZ:K<=q.s.l:=by rw[Y4];exact rF _ _
    have G2:=fun k (D:k<=K) (U:k<q.s.a7.length)=>C8.stop (ix:=ix) (by rw[<-Y4];exact D:k<=q.s.e4 ix) U
    rw[<-D7.o.1,<-Y4] at G2;obtain⟨eb,eo,EZ,NA,MZ,AH⟩:=m5.a7 (by rw[lU,C8.len];omega);have e4:wc.cell? (R,m*8+4)=some (.slice (eb,eo) q.s.a7 q.ce):=by rw[<-EZ];exact m8 4 _ O rfl
    have DR:=J (C8.len);have NT:=LX.o q (by rw[HQ.o];exact lX G7);have MM:K<=100000000000:=O;have K7:=J S9;have LU:=J Y3;have LY:=J BG;have U7:=J L7;have N6:=J X9;have p4:=J m5;have DL:=J m8;have JM:=J G2;have LV:=J Y4;have DQ:=J AH;have LP:=J FB;have GP:=m5.cap;clear S9 Y3 BG L7 X9 m5 m8 G2 Y4 AH FB C8 NA e0 j0 l4 JJ IN;go_upto_block 2 with fail
    go_cut [19] from 97 to 109 (fun c19 wx=>c19=.int .i64 K∧wc=wx)
    case first=>
     go_wp2_with fail;go_loopw [19] (fun iv wr=>∃k:Nat,k<=K∧iv=.int .i64 k∧wc=wr) (fun iv _=>K-(intOf iv).toNat)
     case atStart=>exact⟨0,Nat.zero_le _,rfl,rfl⟩
     obtain⟨k,f,rfl,hw⟩:=hrel;subst hw;have GF:k<q.s.a7:=by rw[DR.o];omega
     obtain⟨ek,FV⟩:=eX (q.s.a7[k]);have ee:wc.cell? (eb,eo+k)=some (.int .i64 ek):=DQ.o k _ (by rw[List.getElem?_map,lW GF,FV];rfl);have BS:=JM.o k f GF;rw[<-FV] at BS;have NG:(k:Int)<(q.s.a7:Int):=O;have NH:0<=(k:Int)∧(k:Int)<(q.s.a7:Int):=O;have PF:k<=4611686018427387904:=O;clear FV;by_cases G6:ek<lg
     ·have PC:=BS.1 G6
      clear BS;go_wp2;go_roundw
      case rel=>exact⟨k+1,O,by go_num,trivial⟩
      case measure=>simp[intOf];omega
     obtain rfl:k=K:=by
      rcases Nat.eq_or_lt_of_le f with e|e
      exact e;exact absurd (BS.2 e) G6
     clear BS;go_wp2;go_meet;exact⟨rfl,rfl⟩
    obtain⟨rfl,hw⟩:=hcut;subst hw;clear JM DQ;have m5:=p4.o;have NW:q.rs.length=q.s.l:=by rw[<-m5.map,lU]
    have AD:=m5.cap;have J4:=Nat.lt_of_lt_of_le (show R<w3 from C5) U7.o.size;have e3:wc.cell? (R,m*8+3)=some (.slice q.al q.rs q.cl):=DL.o 3 _ O rfl;have l6:=bA wc (.cells #[] 65);have R4:=gD wc 65 4;have f3:=(l6.cell (p:=(R,m*8+3)) J4).trans e3;have BJ:dM wc F q.al (aG (q.rs.take K)):=by rw[<-lF];exact m5.c7.take _
    have S1:(q.rs.take K).length=K:=by rw[lV];omega
    have G0:0<K->∃ad,q.al=some ad∧∀j u,(aG (q.rs.take K))[j]? =some u->(wc.alloc (.cells #[] 65)).cell? (ad.add j)=some u:=fun h0=>by
     obtain⟨b,o,e,_,hb,hc⟩:=BJ (by rw[aN];omega);refine⟨_,e,fun i u hu=>?_⟩;rw[add_lit];exact(l6.cell (p:=(b,o+i)) hb).trans (hc i u hu)
    have AZ:=pE (rs:=q.rs.take K) (fun x hx=>m5.h6 x (mO hx));have g8:wc.ownsRow _ 139 8 (.slice (R,0) (m+1) P2) (m+1) (aY (M.take (m+1))):=cC CF.o (fun k f=>by
     obtain rfl:R=k:=by simpa[Value.ownBlock] using f
     exact LP.o)
    have L0:=J g8;clear m5 AD BJ g8;go_upto_region 16 with(at_builtin;go_must (refine cV rfl (.tmp 113) (.tmp 121) 40 rfl wc.heap.size 65 _ 4 48 Tryz.underlying40 dW rfl δ _ 0 [] rfl R4 q.al K q.cl (aG (q.rs.take K)) rfl (by rw[aN];omega) G0 AZ (by unfold maxLen;omega) O l6.size ?_;intro v5 w5 CZ KH;rw[Nat.zero_add,List.nil_append] at CZ;have J1:=l6.grown KH l6.size (fun q hq=>(mL R4 q hq).1);have e5:=(J1.cell (p:=⟨R,m*8+3,none⟩) J4).trans e3;have z5:w5.frozen? ⟨R,m*8+3,none⟩=false:=dP (oO L0.o J1) _;obtain⟨A5,c5,OF,FH,MV,M7⟩:=aK CZ;subst OF;have JB:=J CZ;have IG:=J J1;have OT:=J M7;clear CZ J1 KH G0 l6 R4 M7))
    obtain⟨w6,BW⟩:=eX (w5.setCell (R,m*8+3) (.slice A5 K c5));rw[<-BW];have DD:=iQ (i:=m*8+3) (oO L0.o IG.o) (.slice A5 K c5);rw[<-BW] at DD;have AM:Fr (fun k=>k=R) wc w6:=by
     rw[BW];exact(Fr.b9 _ IG.o).trans (Fr.e2 (mine:=fun k=>k=R) (aA w5 R (m*8+3) _) (fun k e=>by injection e with e;exact e.symm)) (fun k e=>.inl e)
    have JI:=J DD;have IT:=J AM;have O4:=J (show w6.ownsRow wc 65 4 (.slice A5 K c5) K (aG (q.rs.take K)) from cC JB.o (fun k f=>by
     have D:=mL JB.o k f;rw[BW];exact Below.heap_setCell _ _ _ _ (by show k≠R;omega)))
    have e6:w6.cell? (R,m*8+4)=some (.slice (eb,eo) q.s.a7 q.ce):=tZ DD (by
     rw[List.getElem?_set_ne O,<-EZ];exact JL.o 4 _ O rfl)
    have AN:=Nat.lt_of_lt_of_le J4 AM.size;clear BW DD e3 f3 e5 z5 AZ;have BI:dM w6 F (eb,eo) ((q.s.a7.take (K+1)).map (Value.int .i64)):=by
     rw[List.map_take,<-EZ];exact(p4.o.a7.b1 AM.size (fun k f=>AM.block k (N6.o k f).2.1 (fun e=>ω1 ((I1.o k f).2.1)))).take _
    have Q1:=DR.o;have S0:((q.s.a7.take (K+1)).map (Value.int .i64)).length=K+1:=by rw[lU,lV];omega
    have C1:=bA w6 (.cells #[] 3);have R6:=gD w6 3 1;have f6:=(C1.cell (p:=(R,m*8+4)) AN).trans e6;have M4:0<K+1->∃ad,(some ((eb,eo):Addr))=some ad∧∀j u,((q.s.a7.take (K+1)).map (Value.int .i64))[j]? =some u->(w6.alloc (.cells #[] 3)).cell? (ad.add j)=some u:=fun h0=>by
     obtain⟨b,o,e,_,hb,hc⟩:=BI (by rw[S0];exact h0);refine⟨_,e,fun i u hu=>?_⟩;rw[add_lit];exact(C1.cell (p:=(b,o+i)) hb).trans (hc i u hu)
    have M1:∀u∈(q.s.a7.take (K+1)).map (Value.int .i64),u.oneCell' =true:=fun u hu=>by
     obtain⟨x,_,rfl⟩:=mF.1 hu;rfl
    have MN:IntKind.i64.wrap ((K:Int)+1)=(K:Int)+1:=mH _ O;clear BI;go_upto_region 17 with(at_builtin;go_must (refine cV rfl (.tmp 128) (.tmp 137) 41 rfl w6.heap.size 3 _ 1 8 Tryz.underlying41 kX rfl δ _ 0 [] rfl R6 (some ⟨eb,eo,none⟩) (K+1) q.ce ((q.s.a7.take (K+1)).map (Value.int .i64)) rfl (by rw[S0];omega) M4 M1 (by unfold maxLen;omega) O C1.size ?_;intro v7 w7 R3 KI;rw[Nat.zero_add,List.nil_append] at R3;have P9:=C1.grown KI C1.size (fun q hq=>(mL R6 q hq).1);have e7:=(P9.cell (p:=⟨R,m*8+4,none⟩) AN).trans e6;have z7:w7.frozen? ⟨R,m*8+4,none⟩=false:=dP (oO JI.o P9) _;obtain⟨A7,c7,IA,MW,MX,BX⟩:=aK R3;subst IA;have JC:=J R3;have II:=J P9;have OU:=J BX;clear R3 P9 KI M4 C1 R6 BX))
    obtain⟨w8,G4⟩:=eX (w7.setCell (R,m*8+4) (.slice A7 (K+1) c7));rw[<-G4];have BH:=iQ (i:=m*8+4) (oO JI.o II.o) (.slice A7 (K+1) c7);rw[<-G4] at BH;have Q3:Fr (fun k=>k=R) w6 w8:=by
     rw[G4];exact(Fr.b9 _ II.o).trans (Fr.e2 (mine:=fun k=>k=R) (aA w7 R (m*8+4) _) (fun k e=>by injection e with e;exact e.symm)) (fun k e=>.inl e)
    have FW:=IT.o.trans Q3 (fun k e=>.inl e);have LZ:=J BH;have LS:=J FW;have O5:=J (show w8.ownsRow wc 65 4 (.slice A5 K c5) K (aG (q.rs.take K)) from cC O4.o (fun k f=>Q3.block k (mL O4.o k f).2 (fun e=>ω1 ((mL O4.o k f).1))));have O6:=J (show w8.ownsRow w6 3 1 (.slice A7 (K+1) c7) (K+1) ((q.s.a7.take (K+1)).map (Value.int .i64)) from cC JC.o (fun k f=>by
     have D:=mL JC.o k f;rw[G4];exact Below.heap_setCell _ _ _ _ (by show k≠R;omega)))
    have e8:w8.cell? (R,m*8+5)=some (.int .i64 q.lo):=tZ BH (by
     rw[List.getElem?_set_ne O,List.getElem?_set_ne O];exact JL.o 5 _ O rfl)
    have z8:w8.frozen? (R,m*8+5)=false:=dP BH _;have NC:=Nat.lt_of_lt_of_le J4 FW.size;have GX:=IT.o.size;clear G4 BH e6 f6 e7 z7 M1 Q3 FW AM;go_wp2;go_meet;obtain⟨w9,IC⟩:=eX (w8.setCell (R,m*8+5) lg);rw[<-IC];have FX:w8.grownBy w9 (some R):=by rw[IC];exact aA w8 R (m*8+5) _
    have Q4:Fr (fun k=>k=R) w8 w9:=Fr.e2 FX (fun k e=>by injection e with e;exact e.symm);have Q5:=LS.o.trans Q4 (fun k e=>.inl e);have GT:=iQ (i:=m*8+5) LZ.o lg;rw[<-IC] at GT;have EX:=cC O5.o (fun k f=>Q4.block k (mL O5.o k f).2 (fun e=>ω1 ((mL O5.o k f).1)));have EY:=cC O6.o (fun k f=>Q4.block k (mL O6.o k f).2 (fun e=>ω1 ((mL O6.o k f).1)));have S3:=Q5.size;have GE:=LV.o;have Q1:=DR.o;have o8:=p4.o;have DB:=V8.o.join K7.o;have NQ:¬aL g J9 I2 R:=fun e=>(K7.o.grow R e).elim D8.o.2 (fun e=>by have:R<w3:=C5;omega)
    have JU:=fun k f=>Q5.block k (N6.o k f).2.1 (fun e=>ω1 ((I1.o k f).2.1))
    have BT:M.take (m+1)=M.take m++[q]:=by rw[List.take_succ_eq_append_getElem G7,<-HQ.o]
    have KS:gZ ⟨q.s.ahead ix,q.tn,lg,q.em,A5,c5,A7,c7,q.rs.take K⟩=[.int .i64 q.s.k,.int .i64 q.s.a8,.int .i64 q.s.c6,.slice A5 K c5,.slice A7 (K+1) c7,.int .i64 lg,.bool q.em,.bool q.tn]:=by
     show[_,_,_,Value.slice A5 (q.rs.take K).length c5,Value.slice A7 (q.s.a7.take (q.s.e4 ix+1)).length c7,_,_,_]=_
     rw[S1,<-GE,show(q.s.a7.take (K+1)).length=K+1 by rw[lV];omega];rfl
    have BV:(M.take m).length=m:=by rw[lV];omega
    have KD:base<=wc:=ω1 (DB.c8.lt g (.inl rfl));refine J ⟨⟨_,M.take m++[⟨q.s.ahead ix,q.tn,lg,q.em,A5,c5,A7,c7,q.rs.take K⟩],fun k=>F k∨(wc.heap.size<=k∧k<w9.heap.size),d4,J9,I2,⟨K6.o.fr.size,mM I0.o.size (mM U7.o.size S3)⟩,?_,?_,?_,DB.aside Q5 (ω1 T9.o.size) D8.o.1 NQ,LU.o,LY.o,?_,?_⟩,?_⟩;rw[BT,aK6 BV KS] at GT;rw[lT,BV];exact GT;rw[mE,D7.o.2.2];rfl
    ·intro x hx
     rcases mB.1 hx with hx|hx
     refine((V0.o x (by rw[BT];exact List.mem_append_left _ hx)).b1 (mM U7.o.size S3) (fun k f=>?_)).mono (fun k f=>.inl f);obtain⟨q1,q2,q3,q4⟩:=I1.o k f;exact(JU k f).trans (U7.o.block k (ω1 I0.o.size) (fun e=>e.elim q4 q3));obtain rfl:=lY.1 hx;have n5:=o8.num;refine⟨⟨n5.k,n5.a8,n5.c6,fun e he=>n5.l0 e (mO he),fun n hn=>n5.a7 n (mO hn)⟩,⟨?_,?_,?_,?_⟩,?_,?_,?_,?_,?_,?_⟩;show(q.rs.take K).length<=c5
     rw[S1];exact FH;show c5<=maxLen
     unfold maxLen;omega;show(q.s.a7.take (q.s.e4 ix+1)).length<=c7
     rw[lV];omega;show c7<=maxLen
     unfold maxLen;omega;exact dM.e8 EX (fun k D U=>.inr ⟨D,U⟩) (by rw[aN,S1];omega);show(q.rs.take K).map EntR.e=q.s.l.take (q.s.e4 ix)
     rw[List.map_take,o8.map,<-GE];intro y hy;obtain⟨A,c,e,D,U,h3⟩:=o8.h6 y (mO hy);exact⟨A,c,e,D,U,(h3.b1 S3 JU).mono (fun k f=>.inl f)⟩;show dM w9 _ A7 ((q.s.a7.take (q.s.e4 ix+1)).map (Value.int .i64))
     rw[<-GE];exact dM.e8 EY (fun k D U=>.inr ⟨O,U⟩) (by rw[S0];omega);show lg=(q.s.ahead ix).b2
     exact D7.o.1;show q.em=(q.s.a7.take (q.s.e4 ix+1)).isEmpty
     rw[o8.em];have D:q.s.a7≠[]:=fun e=>by rw[e] at Q1;simp at Q1
     cases he:q.s.a7 with
     |nil=>exact absurd he D
     |cons a b=>rfl
    intro k f;have GN:(Value.slice (R,0) (m+1) P2).ownBlock=some R:=rfl;rw[GN];rcases f with f|⟨D,U⟩
    obtain⟨q1,q2,q3,q4⟩:=N6.o k f;exact⟨q1,O,q3,q4,fun e=>by injection e with e;have:=(I1.o k f).2.1;omega⟩;have h3:=DB.jb.lt;exact⟨O,U,O,fun e=>ω1 ((DB.c8.lt k e).2),fun e=>by injection e with e;omega⟩;intro k f;rcases f with f|⟨D,_⟩
    exact .inl f;exact .inr O;exact(IS.o.trans U7.o (fun k e=>e.elim (fun e=>(K6.o.grow k e).elim (fun e=>.inl (.inl e)) (fun e=>.inr e)) (fun e=>.inl (.inr e)))).trans Q5 (fun k e=>.inr (by subst e;have:=K6.o.fr.size;omega))
 obtain⟨b3,B8,FK,d3,LL,JP,P8,l7,BQ,S2,CN,JX,BJ,ES,P4⟩:=hcut.o.ex;have CU:=hcut.o.o;obtain⟨AK,cK,LB,_,_,OM⟩:=aK l7;have EW:N=B8:=by injection LB
 rw[<-EW] at l7;have JA:=J EW;clear LB EW OM;obtain⟨_,I9,_⟩:=HH.o.start;have NI:=CU.h4 (by rw[JO.o];exact aS.new w _ _) (fun e=>e.elim (fun e=>ω1 ((I9.c8.lt _ e).2)) (fun e=>ω1 I9.jb.lt));have g9:=fun k (f:F k)=>HH.o.j5 CN f
 have E6:=fun k (f:F k)=>(HH.o.j5 V6.o f).2.1
 obtain⟨a0,a1,a2,a3,a4,a5,a6,a7⟩:=fN NI;have HC:=hcut;have MC:=J KZ;clear hcut I9 KZ;go_upto_if 147 with fail
 go_cut [17] from 148 to 151 (fun c17 wx=>∃(A4:Option Addr) (n4 c4:Nat),c17=.slice A4 n4 c4∧n4<=1000001∧Hq (cF5 cG0 w w1 wx base g gj vL es F jt jv (.slice A M c) L r (.slice A4 n4 c4) tl2 (if fresh=true then ss++[sN] else ss)))
 case first=>
  cases fresh with
  |false=>
   go_wp2;go_meet;have MU:=HC.o.ex;obtain⟨y1,y2,y3,y4,y5,y6,y7,y8,y9,LO,OR⟩:=MU;exact⟨_,_,_,rfl,O,J ⟨⟨y1,y2,y3,y4,y5,y6,y7,y8,y9,⟨fun x hx=>(LO x hx).n,fun x hx=>LO x ((List.dropLast_sublist _).subset hx)⟩,OR⟩,HC.o.o⟩⟩
  |true=>
   obtain⟨rq,GV⟩:∃q:RqR,q=⟨sN,tn,lo,em,al,cl,ae,ce,[]⟩:=⟨_,rfl⟩
   have l6:=bA wc (.cells #[sN.k,sN.a8,sN.c6,.slice al 0 cl,.slice ae sN.a7 ce,lo,.bool em,.bool tn] 139);have NS:=oO l7 l6;have hX:∀j u,(aY [rq])[j]? =some u->(wc.alloc (.cells #[sN.k,sN.a8,sN.c6,.slice al 0 cl,.slice ae sN.a7 ce,lo,.bool em,.bool tn] 139)).cell? (((wc,0):Addr).add j)=some u:=fun j u hu=>by
    rw[bJ3,GV] at hu;exact dH (aS.new wc _ _) j u hu
   have EH:=J S2;have JD:=J CN;have L1:=J l7;have DU:=J ES;have DV:=J P4;have N7:=J g9;have U2:=J CU;clear S2 CN l7 ES P4 g9 CU;go_wp2_with (at_builtin;go_must (refine dJ rfl (.tmp 148) (.tmp 150) 92 rfl b3 139 _ 8 88 Tryz.underlying92 dX rfl δ (.slice A3 N P2) N (aY B8) rfl NS ⟨wc.heap.size,0,none⟩ 1 1 (aY [rq]) rfl (by rw[bS];rfl) hX (kY _) (by unfold maxLen;omega) O (mM P8.2 l6.size) ?_;intro v6 w6 R2 T3 p7;obtain⟨A6,c6,GZ,_,_,_⟩:=aK R2;subst GZ));go_meet;have GX:=T3.size;have PL:=l6.size;have p9:xZ wc F rq:=by
    rw[GV];exact(MC.o (by trivial)).b1 (ω2 T9.o.size U2.o.size) (fun k f=>(N7.o k f).1)
   have L8:∀k,k<wc.heap.size->(Value.slice A3 N P2).ownBlock≠some k->w6.heap[k]? =wc.heap[k]? :=fun k D U=>(T3.block k O (fun e=>U e.symm)).trans (l6.block k D)
   have Z2:=fun k f=>mL L1.o k f
   have MP:∀k,(Value.slice A3 N P2).ownBlock=some k->¬aL g LL JP k:=fun k f=>by
    rcases L1.o.2 with⟨hv,_⟩|⟨g',cap,EM,hv,_,hg,_⟩
    rw[hv] at f;cases f;injection hv with e1 _ _
    subst e1;obtain rfl:g' =k:=by simpa[Value.ownBlock] using f
    exact JD.o.c8.e3 (T:=139) hg δ δ δ
   have KG:=(Fr.b9 _ l6).trans (Fr.e2 T3 (fun k e=>e)) (fun k e=>.inl e);refine⟨A6,N+1,c6,rfl,O,J ⟨⟨b3,B8++[rq],fun k=>FK k∨F k,d3,LL,JP,⟨P8.1,O⟩,?_,?_,?_,?_,JX,BJ,?_,?_⟩,?_⟩⟩;rw[eL,lT,<-JA.o];exact R2;rw[mE,BQ,GV];rfl;have Z7:∀x∈B8,nT w6 (fun k=>FK k∨F k) x:=fun x hx=>((EH.o x hx).b1 O (fun k f=>L8 k (DU.o k f).2.1 (DU.o k f).2.2.2.2)).mono (fun k f=>.inl f)
   refine⟨fun x hx=>?_,fun x hx=>by rw[List.dropLast_concat] at hx;exact Z7 x hx⟩;rcases mB.1 hx with hx|hx
   exact(Z7 x hx).n;obtain rfl:=lY.1 hx;exact(p9.b1 O (fun k f=>L8 k (N7.o k f).2.1 (fun e=>ω2 ((Z2 k e).1) (E6 k f)))).mono (fun k f=>.inr f);exact JD.o.asides KG (fun k f=>⟨ω1 ((Z2 k f).1),ω1 ((Z2 k f).1),MP k f⟩);intro k f;have AX:∀k,k<wc.heap.size->(Value.slice A3 N P2).ownBlock≠some k->(Value.slice A6 (N+1) c6).ownBlock≠some k:=fun k D U e=>by
    rcases p7 with h|⟨g',h,h3⟩
    exact U (h.symm.trans e);rw[h] at e;injection e with e
    omega
   rcases f with f|f
   obtain⟨q1,q2,q3,q4,q5⟩:=DU.o k f;exact⟨q1,O,q3,q4,AX k q2 q5⟩;obtain⟨_,q2,q3,q4⟩:=N7.o k f;exact⟨(HH.o.apart k f).1,O,q3,q4,AX k q2 (fun e=>ω2 ((Z2 k e).1) (E6 k f))⟩;exact fun k f=>f.elim (fun f=>DV.o k f) (fun f=>.inl f)
   exact U2.o.trans KG (fun k e=>.inr (ω1 ((Z2 k e).1)))
 obtain⟨A4,n4,c4,rfl,NP,HW⟩:=hcut;have ET:=JA.o;clear S2 CN l7 ES P4 g9 CU BJ JX BQ P8 a0 a1 a2 a3 a4 a5 a6 a7;obtain⟨b4,i4,F4,d4,J9,I2,MT,g8,S4,BL,S9,Y3,BG,X9,Y0⟩:=HW.o.ex;have L7:=HW.o.o;obtain⟨A4',c4',hv4,-,-,-⟩:=aK g8;have I7:n4=i4:=by injection hv4
 rw[<-I7] at g8;clear hv4;have GL:0<n4:=by
  have D:=congrArg List.length S4;rw[lU,<-I7] at D;rw[D];rcases KO with h|h
  ·have U:0<ss.length:=by
    rcases HK.o with⟨h0,_⟩|⟨kr,s,_,_,_,h3⟩
    omega;rw[h3];simp
   split<;>(try rw[lT])<;>omega
  rw[if_pos h];simp
 obtain⟨Q,rfl⟩:∃m,n4=m+1:=⟨n4-1,O⟩
 have AV:Q<i4:=O;obtain⟨q,hq⟩:=eX (i4[Q]);obtain⟨X,MK,PA⟩:∃X,A4=some ⟨X,0,none⟩∧b4<=X∧X<wc.heap.size:=by
  obtain⟨A',c',OD,_,_,h3⟩:=aK g8;obtain⟨g',EM,e,h5,h6,_⟩:=h3 O;injection OD with v1 _ _
  exact⟨g',v1.trans e,h5,h6⟩
 subst MK;have m8:∀i u,i<8->(gZ q)[i]? =some u->wc.cell? ⟨X,Q*8+i,none⟩=some u:=fun i u hi hu=>tZ g8 (by
  rw[dY i4 (k:=Q) AV hi,<-hq];exact hu)
 have a0:wc.cell? (X,Q*8)=some (.int .i64 q.s.k):=m8 0 _ O rfl;have a1:=m8 1 _ O rfl;have a2:=m8 2 _ O rfl;have a3:wc.cell? (X,Q*8+3)=some (.slice q.al q.rs q.cl):=m8 3 _ O rfl;have a4:wc.cell? (X,Q*8+4)=some (.slice q.ae q.s.a7 q.ce):=m8 4 _ O rfl;have a5:=m8 5 _ O rfl;have a6:=m8 6 _ O rfl;have a7:=m8 7 _ O rfl;have OH:IntKind.i64.wrap (Q:Int)=(Q:Int):=mH _ O;have OI:(Q:Int)+1-1=(Q:Int):=O;have NM:(Q:Int)<(Q:Int)+1:=O;have NN:0<=(Q:Int)∧(Q:Int)<(Q:Int)+1:=O;have O9:=J g8;have DZ:=J I7;have CG:=J hq;have P1:=J S4;have p4:=J BL;have K7:=J S9;have N6:=J X9;have DT:=J Y0;have U6:=J L7;have X0:=J BG;clear g8 I7 hq S4 BL S9 X9 Y0 L7 BG ET m8;go_upto_region 21 with fail
 have q8:=J (X2.o q.s (by rw[<-P1.o,CG.o];exact mF.2 ⟨_,lX AV,rfl⟩));have GO:q.s.l.length<=200000000000:=ω1 (q8.o.1);have o8:=p4.o.1 q (by rw[CG.o];exact lX AV);have PJ:q.rs.length<=200000000000:=by rw[<-o8.map,lU] at GO;exact GO
 obtain⟨w5,J8⟩:=eX (wc.alloc (.cells #[q.s.k,q.s.a8,q.s.c6,.slice q.al q.rs q.cl,.slice q.ae q.s.a7 q.ce,q.lo,.bool q.em,.bool q.tn] 139));rw[<-J8];have CL:=kN J8;have J1:=bN J8;obtain⟨x0,x1,x2,x3,x4,x5,x6,x7⟩:=fN CL;have M7:=CL.lt;have C0:=bA w5 (.cells #[] 65);have R5:=gD w5 65 4;have f3:=(C0.cell (p:=(wc,3)) M7).trans x3;have M3:0<q.rs.length->∃ad,q.al=some ad∧∀j u,(aG q.rs)[j]? =some u->(w5.alloc (.cells #[] 65)).cell? (ad.add j)=some u:=fun h0=>by
  obtain⟨b,o,e,_,hb,hc⟩:=o8.c7 (by rw[aN];omega);refine⟨_,e,fun i u hu=>?_⟩;rw[add_lit];have MS:b<w5:=ω1 J1.size;exact(C0.cell (p:=(b,o+i)) MS).trans ((J1.cell (p:=(b,o+i)) hb).trans (hc i u hu))
 have M0:=pE o8.h6;have IX:=J CL;clear J8 CL a0 a1 a2 a3 a4 a5 a6 a7 GO o8;go_upto_region 22 with(at_builtin;go_must (refine cV rfl (.tmp 158) (.tmp 160) 40 rfl w5.heap.size 65 _ 4 48 Tryz.underlying40 dW rfl δ _ 0 [] rfl R5 q.al q.rs.length q.cl (aG q.rs) rfl (by rw[aN];omega) M3 M0 (by unfold maxLen;omega) O C0.size ?_;intro v6 w6 R2 T3;rw[Nat.zero_add,List.nil_append] at R2;have CP:=C0.grown T3 C0.size (fun q hq=>(mL R5 q hq).1);have e6:=(CP.cell (p:=⟨wc.heap.size,3,none⟩) M7).trans x3;have z6:=(IX.o.a1 CP M7).a6 3;obtain⟨A6,c6,GZ,FI,FJ,OL⟩:=aK R2;subst GZ;have K8:=J R2;have DJ:=J CP;clear R2 CP T3 M3 C0 R5 OL))
 obtain⟨w8,G4⟩:=eX (w6.setCell (wc,3) (.slice A6 q.rs c6));rw[<-G4];have I5:aS w8 wc 139 #[q.s.k,q.s.a8,q.s.c6,.slice A6 q.rs c6,.slice q.ae q.s.a7 q.ce,q.lo,.bool q.em,.bool q.tn]:=by rw[G4];exact(IX.o.a1 DJ.o M7).b8 3 _
 have GX:=DJ.o.size;have AA:Below wc wc w8:=by rw[G4];exact dV (J1.trans (DJ.o.mono J1.size)) _ _ _ (lR _)
 have S7:=J (show w8.ownsRow w5 65 4 (.slice A6 q.rs c6) q.rs (aG q.rs) from cC K8.o (fun k f=>by
  have D:=mL K8.o k f;rw[G4];exact Below.heap_setCell _ _ _ _ (by show k≠wc;omega)))
 obtain⟨y0,y1,y2,y3,y4,y5,y6,y7⟩:=fN I5;have BY:=I5.lt;have K5:=J I5;have K3:=J AA;clear G4 I5 AA e6 z6 f3 x0 x1 x2 x3 x4 x5 x6 x7 M0;have o8:=p4.o.1 q (by rw[CG.o];exact lX AV);have CS:q.s.a7.length<=200000000001:=ω2 (q8.o.1) (q8.o.2.1);have BI:=o8.a7.b1 K3.o.size (fun k f=>K3.o.block k (N6.o k f).2.1);have C2:=bA w8 (.cells #[] 3);have R7:=gD w8 3 1;have f4:=(C2.cell (p:=(wc,4)) BY).trans y4;have M5:0<q.s.a7.length->∃ad,q.ae=some ad∧∀j u,(q.s.a7.map (Value.int .i64))[j]? =some u->(w8.alloc (.cells #[] 3)).cell? (ad.add j)=some u:=fun h0=>by
  obtain⟨b,o,e,_,hb,hc⟩:=BI (by rw[lU];exact h0);refine⟨_,e,fun i u hu=>?_⟩;rw[add_lit];exact(C2.cell (p:=(b,o+i)) hb).trans (hc i u hu)
 have M2:∀u∈q.s.a7.map (Value.int .i64),u.oneCell' =true:=fun u hu=>by
  obtain⟨x,_,rfl⟩:=mF.1 hu;rfl
 have EI:=J o8;clear o8 BI;go_upto_region 23 with(at_builtin;go_must (refine cV rfl (.tmp 163) (.tmp 165) 41 rfl w8.heap.size 3 _ 1 8 Tryz.underlying41 kX rfl δ _ 0 [] rfl R7 q.ae q.s.a7.length q.ce (q.s.a7.map (Value.int .i64)) rfl (by rw[lU,Nat.mul_one]) M5 M2 (by unfold maxLen;omega) O C2.size ?_;intro v9 w9 DA T4;rw[Nat.zero_add,List.nil_append] at DA;have CQ:=C2.grown T4 C2.size (fun q hq=>(mL R7 q hq).1);have e9:=(CQ.cell (p:=⟨wc.heap.size,4,none⟩) BY).trans y4;have z9:=(K5.o.a1 CQ BY).a6 4;obtain⟨A9,c9,IB,FL,FM,BZ⟩:=aK DA;subst IB;have K9:=J DA;have D6:=J CQ;clear DA CQ T4 M5 C2 R7 BZ))
 obtain⟨T8,C9⟩:=eX (w9.setCell (wc,4) (.slice A9 q.s.a7 c9));rw[<-C9];have JY:aS T8 wc 139 #[q.s.k,q.s.a8,q.s.c6,.slice A6 q.rs c6,.slice A9 q.s.a7 c9,q.lo,.bool q.em,.bool q.tn]:=by rw[C9];exact(K5.o.a1 D6.o BY).b8 4 _
 have S3:=D6.o.size;have AC:Below wc wc T8:=by rw[C9];exact dV (K3.o.trans (D6.o.mono K3.o.size)) _ _ _ (lR _)
 have JF:=J (show T8.ownsRow w5 65 4 (.slice A6 q.rs c6) q.rs (aG q.rs) from cC S7.o (fun k f=>by
  have D:=mL S7.o k f;rw[C9];exact(Below.heap_setCell _ _ _ _ (by show k≠wc;omega)).trans (D6.o.block k D.2)))
 have JE:=J (show T8.ownsRow w8 3 1 (.slice A9 q.s.a7 c9) q.s.a7 (q.s.a7.map (Value.int .i64)) from cC K9.o (fun k f=>by
  have D:=mL K9.o k f;rw[C9];exact Below.heap_setCell _ _ _ _ (by show k≠wc;omega)))
 have IZ:=J JY;have IL:=J AC;clear C9 JY AC e9 z9 f4 y0 y1 y2 y3 y4 y5 y6 y7 M2;have ND:=K7.o.jb.lt;obtain⟨H,L8⟩:=eX wc.heap.size;have OJ:w<=H:=ω2 T9.o.size U6.o.size;have CH:=J (show∀W,Below H wc W->dM W E Ae (aG rs)∧(∀x∈rs,gQ W E x.v x.e.b)∧dM W E B5 (cells bs) from fun W hW=>by
  have hs:w.heap.size<=W:=ω1 hW.size;have f:=fun k f=>by
   obtain⟨q1,q2,q3⟩:=HE.o k f;have D:=T9.o.size;exact(hW.block k O).trans ((U6.o.block k O (fun e=>e.elim q3 q2)).trans (T9.o.block k q1))
  exact⟨P0.o.1.b1 hs f,fun x hx=>(P0.o.2.1 x hx).b1 hs f,P0.o.2.2.b1 hs f⟩)
 have CI:Hq (bV4 wc T8 H q []):=J (by
  obtain⟨MJ,Q2⟩:∃m,q.s.a7.length=m+1:=⟨q.s.l,q8.o.2.1⟩
  have AC:=IL.o;rw[<-L8] at AC;have D:=jH JF.o (show H<=w5 by omega);have U:=jH JE.o (show H<=w8 by omega);refine⟨⟨[],A6,q.rs,c6,A9,MJ,c9,rfl,rfl,Q2.symm,?_,?_,?_,fun x hx=>by cases hx⟩,AC⟩;rw[L8,<-Q2];exact IZ.o;rw[List.append_nil];exact D;rw[<-Q2];exact U)
 rw[<-L8];have D9:=J L8;obtain⟨wq,DF⟩:=eX wc;have MD:=J DF;clear IZ JF JE L8 DF;go_upto_block 4 with fail
 go_cut [21] from 168 to 203 (fun c21 wx=>Hq (bV4 wc wx H q (rs.map EntR.e)))
 case first=>
  go_wp2_with fail;go_loopw [21] (fun iv wr=>∃k:Nat,k<=rs∧iv=.int .i64 k∧Hq (bV4 wc wr H q ((rs.take k).map EntR.e))) (fun iv _=>rs.length-(intOf iv).toNat)
  case atStart=>exact⟨0,Nat.zero_le _,rfl,CI⟩
  obtain⟨k,f,rfl,HX⟩:=hrel;by_cases G6:k<rs;rotate_left
  ·obtain rfl:k=rs:=O
   have BZ:=HX.o;rw[List.take_length] at BZ;have ME:=J BZ;clear BZ HX CI;go_wp2;go_meet;exact ME
  obtain⟨⟨na,Ax,nx,cx,Ay,V,cy,B6,AY,Q9,p6,L4,I3,S8⟩,Q0⟩:=HX.o;obtain⟨x,hx⟩:=eX (rs[k]);have DG:x∈rs:=by rw[hx];exact lX G6
  have T6:na=k:=by have:=congrArg List.length B6;rw[lU,lU,lV] at this;omega
  have BT:(rs.take (k+1)).map EntR.e=(rs.take k).map EntR.e++[x.e]:=by rw[List.take_succ_eq_append_getElem G6,mE,<-hx];rfl
  obtain⟨GR,BF,_⟩:=CH.o wr.drew Q0.drew;obtain⟨eb,eo,rfl,JS,MZ,AH⟩:=GR (by rw[aN];omega);have LI:=V5.o x DG;have AD:=tY (F:=E) (eb,eo+k*4) [x] (cr-k) wr.drew (by rw[hx];exact bY7 GR G6) (fun y hy=>by obtain rfl:=lY.1 hy;exact BF _ DG) (fun j hj=>by have D:=(HE.o j hj).1;have U:=Q0.size;have h3:wr.drew.heap.size=wr:=rfl;omega) σ (fun y hy=>by obtain rfl:=lY.1 hy;omega) (by rw[List.length_singleton];unfold maxLen;omega);simp only[List.length_singleton] at AD;have IM:=J AD;have T5:=p6.lt;have c3:=p6.c 3;have hcut:=fun W:World=>bS9 (P:=Tryz.prog) Tryz.underlying40 dW eb eo rs cr k O W
  have OK:IntKind.i64.wrap ((k:Int)+1)=(k:Int)+1:=mH _ O;have NO:=aU L4 p6 δ;have NP:=aU I3 p6 δ;have V2:=J (jrow_type_ne I3 L4 δ);have NR:nx<=300000000000:=ω1 (q8.o.1);have n8:=J (And.intro B6 (And.intro AY Q9));have IV:=J p6;have V9:=J L4;have DS:=J I3;have IK:=J S8;have IJ:=J Q0;have MG:=J DG;have EL:=J LI;have X3:=J BT;have MF:=J hx;have IR:=J JS;have DQ:=J AH;clear AD p6 L4 I3 S8 Q0 GR BF B6 AY Q9 DG LI BT AH JS HX CI hx T6;go_upto_region 26 with fail
  refine bW 10 κ (S:=fun W=>W.cell? ⟨H,3,none⟩=some (.slice Ax nx cx)∧True∧True∧True) ⟨c3,trivial,trivial,trivial⟩ (fun C=>?_);refine zU 0 (k:=zU 1 (k:=zU 2 (k:=zU 3 (k:=zU 4 (k:=zU 5 (k:=zU 6 (k:=?_)))))));simp only[zA,zB,zF,zG,zC,zD,zE];refine zW 7 (k:=fun K I=>?_);simp only[zA,zB];go_simp;refine IM.o.mono ?_;rintro e w7 ⟨v7,ra,rfl,R3,GJ,KT,P9⟩;have j8:Below wr wr w7:=((lS _ wr).drew).trans P9;obtain⟨y,rfl⟩:∃y,ra=[y]:=by
   have:=congrArg List.length GJ;simp only[lU,List.length_singleton] at this;exact List.length_eq_one_iff.1 this
  have LK:y.e=x.e:=by simpa using GJ
  have DH:=KT y (lY.2 rfl);obtain⟨A7,c7,IA,_,_,BX⟩:=aK R3;obtain⟨g7,MI,rfl,_,_,_,_,KF⟩:=BX O;subst IA;have PK:=j8.size;refine I.out _ _ ⟨(j8.cell (p:=(H,3)) T5).trans c3,trivial,trivial,trivial⟩ (fun C=>?_);clear I K IM BX;try simp only[zF,zG,zC,zD,zE]
  refine zW 8 (k:=fun K I=>?_);simp only[zA,zB];rw[if_pos (by rfl)];refine eM (.tmp 175) (.tmp 181) 40 rfl H 65 _ 4 48 Tryz.underlying40 dW rfl δ (.slice Ax nx cx) nx (aG (q.rs++na)) rfl (bT V9.o j8) (g7,0) 1 c7 (aG [y]) rfl (by rw[aN];rfl) (fun j u hj=>by rw[add_lit,Nat.zero_add];exact KF j u hj) (vV (fun z Z=>by obtain rfl:=lY.1 Z;exact DH)) μ O O ?_;intro v8 w8 GM D3 _;obtain⟨A8,c8,OG,_,_,_⟩:=aK GM;subst OG;have I5:=(IV.o.a1 j8 T5).grown D3 (fun e=>NO e.symm);have JR:=cC (bT DS.o j8) (fun b hb=>D3.block b (mL (bT DS.o j8) b hb).2 (fun e=>by
   rcases V2.o with h|h
   rw[h] at hb;cases hb;exact h (hb.trans e)))
  have FC:∀z∈na++[y],Bs w8 H z.v z.e.b:=fun z Z=>by
   rcases mB.1 Z with Z|Z
   have D:=Own.a1 (IK.o z Z) j8 (lR _);exact Own.kept D D3 (jrow_type_ne D (bT V9.o j8) δ);obtain rfl:=lY.1 Z;exact Own.kept (Own.mono DH (show H<=wr.drew from Nat.le_of_lt T5)) D3 (jrow_type_ne DH (bT V9.o j8) δ)
  have AA:=(IJ.o.trans (j8.mono O)).grown D3 O (fun b hb=>(mL V9.o b hb).1);have d3:=I5.c 3;have z3:=I5.a6 3;have K5:=J I5;have S7:=J GM;have DP:=J JR;have EB:=J FC;have K3:=J AA;have MH:=J LK;clear I5 GM JR FC AA D3 R3 KT P9 j8 DH KF GJ LK c3;refine I.out _ _ ⟨d3,trivial,trivial,trivial⟩ (fun C=>?_);clear I K;try simp only[zF,zG,zC,zD,zE]
  refine zU 9 (k:=?_);simp only[zA,zB,zF,zG,zC,zD,zE];refine dI (t:=10) (by simp) (by kernel_rfl) (by kernel_rfl) (fun K I=>?_);simp only[zA,zB];go_simp;refine I.out _ _ ?_;clear I K C d3 z3;have S6:=J (by have:=K5.o.b8 3 (.slice A8 (nx+1) c8);simpa using this);have g9:∀k,k≠H->(w8.setCell (H,3) (.slice A8 (nx+1) c8)).heap[k]? =w8.heap[k]? :=fun k f=>Below.heap_setCell _ _ _ _ f
  have K9:=J (cC (w' :=w8.setCell (H,3) (.slice A8 (nx+1) c8)) S7.o (fun k f=>g9 k (fun e=>aU S7.o K5.o δ (e▸f))));have N3:=J (cC (w' :=w8.setCell (H,3) (.slice A8 (nx+1) c8)) DP.o (fun k f=>g9 k (fun e=>aU DP.o K5.o δ (e▸f))));have EC:=J (show∀z∈na++[y],Bs (w8.setCell (H,3) (.slice A8 (nx+1) c8)) H z.v z.e.b from fun z Z=>cC (EB.o z Z) (fun k f=>g9 k (fun e=>aU (EB.o z Z) K5.o δ (e▸f))));have D6:=J (K3.o.setCell (p:=(H,3)) (lR H) (.slice A8 (nx+1) c8));have S3:=D6.o.size;clear g9;generalize w8.setCell (H,3) (.slice A8 (nx+1) c8)=w9 at S6 K9 N3 EC D6 S3⊢;clear K5 S7 DP EB K3 V9 DS IK IJ IV V2;obtain⟨gy,EO,GB,Q8,CA⟩:=aZ4 N3.o O;subst EO;obtain⟨le,L9⟩:=eX ((aO q.s ((rs.take k).map EntR.e)).b2);have T0:w9.cell? (gy,V)=some (.int .i64 le):=CA V _ (by rw[List.getElem?_map,aJ5 n8.o.2.2,L9];rfl);obtain⟨pl,R8⟩:=eX ((aZ x.e).length);have PG:(0<=le∧le<=2000000000000)∧(pl:Int)<=1000000000000:=by
   have D:=oW ((rs.take k).map EntR.e) q.s;have U:=wS (l:=rs.map EntR.e) (k+1);rw[<-List.map_take,X3.o,mE,List.flatten_append,lT] at U;have h3:((([x.e]:List cD).map aZ).flatten).length=pl:=by rw[R8];simp
   have h4:=JG.o;have h5:=q8.o.2.2.1;rw[<-L9] at D;omega
  obtain⟨_,BM,_⟩:=CH.o w9.drew D6.o.drew;obtain⟨Aq,cq,KU,KS,PH,T7⟩:=BM x MG.o;have AG:=wY x.e.ix x.e.tm x.e.kd Aq x.e.b cq EL.o.2.1 EL.o.2.2.1 EL.o.2.2.2 w9.drew T7.rd;have CS:Calls Tryz.prog 125 #[.agg #[x.e.ix,x.e.tm,x.e.kd,.slice Aq x.e.b cq]] w9.drew (fun e w' =>∃A c,e=.returned (.slice A pl c)∧Below w9 w9 w'):=by
   refine AG.mono ?_;rintro e w' ⟨v,D,U,h3⟩;obtain⟨A,c,hv,_⟩:=bF U;refine⟨A,c,?_,((lS _ w9).drew).trans h3⟩;rw[D,hv,R8]
  have IQ:=J CS;have a9:∀j,j<4->∀u,(dU x)[j]? =some u->w9.cell? ⟨eb,eo+k*4+j,none⟩=some u:=fun j hj u hu=>by
   obtain⟨b',o',e,_,_,hc⟩:=(CH.o w9 D6.o).1 (by rw[aN];omega);injection e with e
   injection e with e1 e2 _
   subst e1 e2;rw[Nat.add_assoc];exact hc (k*4+j) u (by rw[bM _ G6 hj,<-MF.o];exact hu)
  have e0:w9.cell? (eb,eo+k*4)=some (.int .i64 x.e.ix):=a9 0 O _ rfl;have e1:=a9 1 O _ rfl;have e2:=a9 2 O _ rfl;have e3:w9.cell? (eb,eo+k*4+3)=some (.slice Aq x.e.b cq):=a9 3 O _ (by rw[<-KU];rfl);have c4:=S6.o.c 4;have T4:=S6.o.lt;have l9:eb<w9:=ω1 ((HE.o eb IR.o).1);have FU:eb≠gy:=ω1 ((HE.o eb IR.o).1);have GA:H≠gy:=fun e=>aU N3.o S6.o δ (by rw[e];rfl)
  have GK:V<=400000000000:=by
   have D:=n8.o.2.2;rw[(iB _ _).2,lU,lV] at D;have:=q8.o.1;have:=q8.o.2.1;omega
  have LE:(V:Int)+1-1=(V:Int):=O;have LF:IntKind.i64.wrap (V:Int)=(V:Int):=mH _ O;have KN:(V:Int)<(V:Int)+1:=O;have NL:0<=(V:Int)∧(V:Int)<(V:Int)+1:=O;have NG:(k:Int)<(rs:Int):=O;have NH:0<=(k:Int)∧(k:Int)<(rs:Int):=O;have LG:IntKind.i64.wrap (le+(pl:Int))=le+(pl:Int):=mH _ O;have DX:=J (And.intro L9 R8);clear CS AG L9 R8 a9 CA T7 KU BM OK hcut;go_upto_region 27 with fail
  refine bW 20 κ (S:=fun W=>W.cell? ⟨H,4,none⟩=some (.slice (some ⟨gy,0,none⟩) (V+1) cy)∧W.cell? ⟨gy,V,none⟩=some (.int .i64 le)∧W.cell? ⟨eb,eo+k*4,none⟩=some (.int .i64 x.e.ix)∧W.cell? ⟨eb,eo+k*4+1,none⟩=some (.int .i64 x.e.tm)∧W.cell? ⟨eb,eo+k*4+2,none⟩=some (.int .i64 x.e.kd)∧W.cell? ⟨eb,eo+k*4+3,none⟩=some (.slice Aq x.e.b cq)∧True) ⟨c4,T0,e0,e1,e2,e3,trivial⟩ (fun C=>?_);refine aN9 0 (k:=aN9 1 (k:=aN9 2 (k:=aN9 3 (k:=aN9 4 (k:=aN9 5 (k:=aN9 6 (k:=aN9 7 (k:=aN9 8 (k:=aN9 9 (k:=aN9 10 (k:=aN9 11 (k:=?_))))))))))));refine aN9 12 (k:=aN9 13 (k:=?_));simp only[zA,zB,zF,zG,zC,zD,zE];refine zW 14 (k:=fun K I=>?_);simp only[zA,zB];go_simp;refine IQ.o.mono ?_;rintro e IE ⟨OS,OX,rfl,l8⟩;have GW:=l8.size;refine I.out _ _ ⟨(l8.cell (p:=⟨H,4,none⟩) T4).trans c4,(l8.cell (p:=⟨gy,V,none⟩) Q8).trans T0,(l8.cell (p:=⟨eb,_,none⟩) l9).trans e0,(l8.cell (p:=⟨eb,_,none⟩) l9).trans e1,(l8.cell (p:=⟨eb,_,none⟩) l9).trans e2,(l8.cell (p:=⟨eb,_,none⟩) l9).trans e3,trivial⟩ (fun C=>?_);clear I K IQ;try simp only[zF,zG,zC,zD,zE]
  refine aN9 15 (k:=aN9 16 (k:=?_));simp only[zA,zB,zF,zG,zC,zD,zE];refine zW 17 (k:=fun K I=>?_);simp only[zA,zB];go_simp;have f9:Below w9 w9 (IE.alloc (.cells #[.int .i64 (le+(pl:Int))] 3)):=l8.trans (((lS _ IE).alloc (lR _) _).mono GW);refine I.out _ _ ⟨(f9.cell (p:=⟨H,4,none⟩) T4).trans c4,(f9.cell (p:=⟨gy,V,none⟩) Q8).trans T0,(f9.cell (p:=⟨eb,_,none⟩) l9).trans e0,(f9.cell (p:=⟨eb,_,none⟩) l9).trans e1,(f9.cell (p:=⟨eb,_,none⟩) l9).trans e2,(f9.cell (p:=⟨eb,_,none⟩) l9).trans e3,trivial⟩ (fun C=>?_);clear I K;try simp only[zF,zG,zC,zD,zE]
  refine zW 18 (k:=fun K I=>?_);simp only[zA,zB];rw[if_pos (by rfl)];have NY:=f9.size;refine xP (.tmp 185) (.tmp 201) 41 rfl H 3 _ 1 8 Tryz.underlying41 kX rfl δ gy (V+1) cy _ rfl (bT N3.o f9) (IE,0) 1 1 [.int .i64 (le+(pl:Int))] rfl rfl (cell_one_new _ _ _) (by intro u hu;obtain rfl:=lY.1 hu;rfl) μ O O ?_;intro PN G5 R1 C4 AS;obtain⟨D4,s9,GY,_,_,_⟩:=aK R1;subst GY;have I4:=(S6.o.a1 f9 T4).grown C4 (fun e=>GA (Option.some.inj e));have D1:∀j u,w9.cell? ⟨eb,j,none⟩=some u->G5.cell? ⟨eb,j,none⟩=some u:=fun j u h=>(mK (w:=w9) (a:=⟨eb,j,none⟩) ((C4.block eb O (fun e=>FU (Option.some.inj e))).trans (f9.block eb l9))).trans h
  have AU:G5.cell? (gy,V)=some (.int .i64 le):=AS V _ (by rw[List.getElem?_map,aJ5 n8.o.2.2,DX.o.1];rfl);have Y7:=cC (bT K9.o f9) (fun b hb=>C4.block b (mL (bT K9.o f9) b hb).2 (fun e=>by
   rcases jrow_type_ne K9.o N3.o δ with h|h
   rw[h] at hb;cases hb;exact h (hb.trans e)))
  have Z3:∀z∈na++[y],Bs G5 H z.v z.e.b:=fun z Z=>by
   have D:=Own.a1 (EC.o z Z) f9 (lR _);exact Own.kept D C4 (jrow_type_ne D (bT N3.o f9) δ)
  have U0:=J ((D6.o.trans (f9.mono O)).grown C4 O (fun b hb=>by injection hb with hb;omega));have d4:=I4.c 4;have z4:=I4.a6 4;have f0:=D1 _ _ e0;have f1:=D1 _ _ e1;have f2:=D1 _ _ e2;have f3:=D1 _ _ e3;have E5:=J I4;have N0:=J R1;have O2:=J Y7;have O7:=J Z3;clear I4 R1 Y7 Z3 C4 AS D1 l8 f9 S6 K9 N3 EC D6 c4 T0 e0 e1 e2 e3;refine I.out _ _ ⟨d4,AU,f0,f1,f2,f3,trivial⟩ (fun C=>?_);clear I K;try simp only[zF,zG,zC,zD,zE]
  refine aN9 19 (k:=?_);simp only[zA,zB,zF,zG,zC,zD,zE];refine dI (t:=20) (by simp) (by kernel_rfl) (by kernel_rfl) (fun K I=>?_);simp only[zA,zB];go_simp;refine I.out _ _ ?_;clear I K C d4 z4 f0 f1 f2 f3 AU;have Y1:aS (G5.setCell (H,4) (.slice D4 (V+1+1) s9)) H 139 #[q.s.k,q.s.a8,q.s.c6,.slice A8 (nx+1) c8,.slice D4 (V+1+1) s9,q.lo,.bool q.em,.bool q.tn]:=by have:=E5.o.b8 4 (.slice D4 (V+1+1) s9);simpa using this
  have g9:∀k,k≠H->(G5.setCell (H,4) (.slice D4 (V+1+1) s9)).heap[k]? =G5.heap[k]? :=fun k f=>Below.heap_setCell _ _ _ _ f
  have Y9:=cC (w' :=G5.setCell (H,4) (.slice D4 (V+1+1) s9)) O2.o (fun k f=>g9 k (fun e=>aU O2.o E5.o δ (e▸f)));have X7:=cC (w' :=G5.setCell (H,4) (.slice D4 (V+1+1) s9)) N0.o (fun k f=>g9 k (fun e=>aU N0.o E5.o δ (e▸f)));have Z4:∀z∈na++[y],Bs (G5.setCell (H,4) (.slice D4 (V+1+1) s9)) H z.v z.e.b:=fun z Z=>cC (O7.o z Z) (fun k f=>g9 k (fun e=>aU (O7.o z Z) E5.o δ (e▸f)))
  have Z8:=U0.o.setCell (p:=(H,4)) (lR H) (.slice D4 (V+1+1) s9);have C3:aO q.s ((rs.take (k+1)).map EntR.e)={aO q.s ((rs.take k).map EntR.e) with l:=(aO q.s ((rs.take k).map EntR.e)).l++[x.e],a7:=(aO q.s ((rs.take k).map EntR.e)).a7++[le+(pl:Int)]}:=by rw[X3.o,oX,<-DX.o.1,<-DX.o.2]
  have V3:Hq (bV4 wc (G5.setCell (H,4) (.slice D4 (V+1+1) s9)) H q ((rs.take (k+1)).map EntR.e)):=J ⟨⟨na++[y],A8,nx+1,c8,D4,V+1,s9,by rw[mE,n8.o.1,X3.o,mG,MH.o];rfl,by rw[n8.o.2.1,lT];rfl,by rw[C3,lT,<-n8.o.2.2];rfl,Y1,by rw[<-List.append_assoc,eG];exact Y9,by rw[C3,mE];exact X7,Z4⟩,Z8⟩;clear Y1 Y9 X7 Z4 Z8 g9 C3;generalize G5.setCell (H,4) (.slice D4 (V+1+1) s9)=w20 at V3⊢;clear E5 O2 N0 O7 U0;go_wp2;go_roundw
  case rel=>exact⟨k+1,O,by go_num,V3⟩
  case measure=>simp[intOf];omega
 obtain⟨⟨na,Ax,nx,cx,Ay,V,cy,B6,AY,Q9,p6,L4,I3,S8⟩,Q0⟩:=hcut.o;clear hcut CI;obtain⟨gy,EO,GB,Q8,CA⟩:=aZ4 I3 O;subst EO;obtain⟨le,L9⟩:=eX ((aO q.s (rs.map EntR.e)).b2);have T0:wc.cell? (gy,V)=some (.int .i64 le):=CA V _ (by rw[List.getElem?_map,aJ5 Q9,L9];rfl);have c4:=p6.c 4;have x5:=p6.c 5;have z5:=p6.a6 5;have GK:V<=400000000000:=by
  have D:=Q9;rw[(iB _ _).2,lU] at D;have:=q8.o.1;have:=q8.o.2.1;omega
 have ON:(V:Int)+1-1=(V:Int):=O;have OO:IntKind.i64.wrap (V:Int)=(V:Int):=mH _ O;have OP:(V:Int)<(V:Int)+1:=O;have OQ:0<=(V:Int)∧(V:Int)<(V:Int)+1:=O;have NB:X<H:=ω1 D9.o;obtain⟨B9,G3⟩:=eX (wc.setCell (H,5) le);have P5:aS B9 H 139 #[q.s.k,q.s.a8,q.s.c6,.slice Ax nx cx,.slice (gy,0) (V+1) cy,le,.bool q.em,.bool q.tn]:=by rw[G3];have:=p6.b8 5 le;simpa using this
 have J0:=Q0.setCell (p:=(H,5)) (lR H) le;rw[<-G3] at J0;have m3:∀k,k≠H->B9.heap[k]? =wc.heap[k]? :=fun k f=>by rw[G3];exact Below.heap_setCell _ _ _ _ f
 have Z0:=cC (w' :=B9) L4 (fun k f=>m3 k (fun e=>aU L4 p6 δ (e▸f)));have X8:=cC (w' :=B9) I3 (fun k f=>m3 k (fun e=>aU I3 p6 δ (e▸f)));have X4:∀z∈na,Bs B9 H z.v z.e.b:=fun z Z=>cC (S8 z Z) (fun k f=>m3 k (fun e=>aU (S8 z Z) p6 δ (e▸f)))
 obtain⟨pre,BA,BB,BC⟩:∃pre,i4=pre++[q]∧pre=Q∧∀x∈pre,x∈i4:=⟨i4.take Q,by
  have D:=List.take_succ_eq_append_getElem AV;rw[List.take_of_length_le (ω1 DZ.o),<-CG.o] at D;exact D,by rw[lV];omega,fun x hx=>mO hx⟩
 have j6:=cC (w' :=B9) O9.o (fun k f=>J0.block k (ω2 ((mL O9.o k f).2) D9.o));have J6:∀i,i<8->∃u,B9.cell? ⟨X,Q*8+i,none⟩=some u:=fun i hi=>by
  have D:Q*8+i<(aY i4).length:=by rw[bS];omega
  exact⟨_,tZ j6 (lW D)⟩
 obtain⟨u0,o0⟩:=J6 0 O;rw[Nat.add_zero] at o0;obtain⟨u1,o1⟩:=J6 1 O;obtain⟨u2,o2⟩:=J6 2 O;obtain⟨u3,o3⟩:=J6 3 O;obtain⟨u4,o4⟩:=J6 4 O;obtain⟨u5,o5⟩:=J6 5 O;obtain⟨u6,o6⟩:=J6 6 O;obtain⟨u7,o7⟩:=J6 7 O;have f0:=dP j6 (Q*8);have f1:=dP j6 (Q*8+1);have f2:=dP j6 (Q*8+2);have f3:=dP j6 (Q*8+3);have f4:=dP j6 (Q*8+4);have f5:=dP j6 (Q*8+5);have f6:=dP j6 (Q*8+6);have f7:=dP j6 (Q*8+7);obtain⟨x0,x1,x2,x3,x4,x6,x7,x8⟩:=fN P5;have U8:=J P5;have G9:=J J0;have O3:=J Z0;have N2:=J X8;have M9:=J X4;have ED:=J j6;have o9:=J (And.intro BA (And.intro BB BC));have n8:=J (And.intro B6 (And.intro AY (And.intro Q9 L9)));have EJ:=J G3;clear G3 P5 J0 Z0 X8 X4 j6 BA BB BC B6 AY Q9 L9 p6 L4 I3 S8 Q0 CA m3 J6 IL K3;go_upto_region 29 with fail
 rw[<-EJ.o];clear c4 x5 z5 T0;go_upto_region 30 with fail
 obtain⟨Y,J7⟩:=eX ((((((((B9.setCell (X,Q*8) q.s.k).setCell (X,Q*8+1) q.s.a8).setCell (X,Q*8+2) q.s.c6).setCell (X,Q*8+3) (.slice Ax nx cx)).setCell (X,Q*8+4) (.slice (gy,0) (V+1) cy)).setCell (X,Q*8+5) le).setCell (X,Q*8+6) (.bool q.em)).setCell (X,Q*8+7) (.bool q.tn));rw[<-J7];clear o0 o1 o2 o3 o4 o5 o6 o7 f0 f1 f2 f3 f4 f5 f6 f7 x0 x1 x2 x3 x4 x6 x7 x8;have DF:=MD.o;subst DF;clear S5 EK V0 CF I0;clear FN FF FG FI FJ FL FM GX S3 GG AO KY CM OH OI NM NN ON OO OP OQ M7 BY E6 BU GL CS FY MY KO GU;have j9:B9.grownBy Y (some X):=by
  rw[J7];exact aF (aF (aF (aF (aF (aF (aF (aA B9 X (Q*8) _) (aA _ X (Q*8+1) _) (.inl rfl)) (aA _ X (Q*8+2) _) (.inl rfl)) (aA _ X (Q*8+3) _) (.inl rfl)) (aA _ X (Q*8+4) _) (.inl rfl)) (aA _ X (Q*8+5) _) (.inl rfl)) (aA _ X (Q*8+6) _) (.inl rfl)) (aA _ X (Q*8+7) _) (.inl rfl)
 obtain⟨q',E9⟩:=eX ((⟨aO q.s (rs.map EntR.e),q.tn,le,q.em,Ax,cx,some ⟨gy,0,none⟩,cy,q.rs++na⟩:RqR));have DC:=mR (rs.map EntR.e) q.s;have LD:q'.vl=.slice Ax nx cx:=by rw[E9];show Value.slice Ax (q.rs++na).length cx=_;rw[lT,<-n8.o.2.1]
 have LC:q'.ve=.slice (gy,0) (V+1) cy:=by rw[E9];show Value.slice (gy,0) (aO q.s (rs.map EntR.e)).a7.length cy=_;rw[<-n8.o.2.2.1]
 have p8:Y.ownsRow b4 139 8 (.slice (X,0) (Q+1) c4) (Q+1) (aY (pre++[q'])):=by
  have h:=iQ (i:=Q*8+7) (iQ (i:=Q*8+6) (iQ (i:=Q*8+5) (iQ (i:=Q*8+4) (iQ (i:=Q*8+3) (iQ (i:=Q*8+2) (iQ (i:=Q*8+1) (iQ (i:=Q*8) ED.o q.s.k) q.s.a8) q.s.c6) (.slice Ax nx cx)) (.slice (gy,0) (V+1) cy)) le) (.bool q.em)) (.bool q.tn);have e8:=aK7 (a:=pre) (q:=q) (q' :=q') o9.o.2.1;rw[LD,LC,show q'.s.k=q.s.k by rw[E9];exact DC.1,show q'.s.a8=q.s.a8 by rw[E9];exact DC.2.1,show q'.s.c6=q.s.c6 by rw[E9];exact DC.2.2,show q'.lo=le by rw[E9],show q'.em=q.em by rw[E9],show q'.tn=q.tn by rw[E9],<-o9.o.1] at e8;rw[e8,<-J7] at h;exact h
 have BP:=j9.size;have NZ:=G9.o.size;have AI:=(Fr.b9 (fun k=>k=X) (show Below wq wq B9 by rw[<-D9.o];exact G9.o)).trans (Fr.e2 (mine:=fun k=>k=X) j9 (fun k e=>by injection e with e;exact e.symm)) (fun k e=>.inl e);have Q7:¬aL g J9 I2 X:=by
  rcases O9.o.2 with⟨hv,_⟩|⟨g',cap,EM,hv,_,hg,_⟩
  cases hv;injection hv with e1 _ _
  injection e1 with e1
  injection e1 with e1
  subst e1;exact K7.o.c8.e3 (T:=139) hg δ δ δ
 have KJ:=V6.o.jb.lt;have I8:=K7.o.asides AI (fun k f=>by subst f;exact⟨O,O,Q7⟩);have M6:∀k,k<H->k≠X->Y.heap[k]? =wq.heap[k]? :=fun k D U=>(j9.block k (ω1 D9.o) (fun e=>U (Option.some.inj e))).trans (G9.o.block k D)
 have B7:=aR2 p8 (by rw[bS,lT,o9.o.2.1];rfl);have J5:∀k,H<=k->k<B9.heap.size->Y.heap[k]? =B9.heap[k]? :=fun k D U=>j9.block k U (fun e=>by injection e with e;omega)
 have P7:=cC (w' :=Y) O3.o (fun k f=>J5 k (mL O3.o k f).1 (mL O3.o k f).2);have P3:=cC (w' :=Y) N2.o (fun k f=>J5 k (mL N2.o k f).1 (mL N2.o k f).2);have X6:∀z∈na,Bs Y H z.v z.e.b:=fun z Z=>cC (M9.o z Z) (fun k f=>J5 k (mL (M9.o z Z) k f).1 (mL (M9.o z Z) k f).2)
 have p9:=EI.o;have ER:=fun k f=>by
  obtain⟨_,q2,_,_,q5⟩:=N6.o k f;exact M6 k (ω1 D9.o) (fun e=>q5 (by rw[e];rfl))
 have BD:q.em=false:=by
  rw[p9.em];have:=q8.o.2.1;cases he:q.s.a7 with
  |nil=>rw[he] at this;simp at this
  |cons x r=>rfl
 have BE:=q8.o.2.2.1;obtain⟨Az,cz,hvz,hcz1,hcz2,-⟩:=aK P7;obtain⟨Ay,cy',hvy,hcy1,hcy2,-⟩:=aK P3;have FR:nx<=cx∧cx<=9223372036854775807:=by injection hvz with _ _ h3;rw[h3];exact⟨hcz1,hcz2⟩
 have FT:V+1<=cy∧cy<=9223372036854775807:=by injection hvy with _ _ h3;rw[h3];exact⟨hcy1,hcy2⟩
 have Z6:nT Y (fun k=>F4 k∨k=X∨(H<=k∧k<Y.heap.size)) q' :=by
  rw[E9];refine⟨?_,?_,?_,?_,?_,?_,?_,?_⟩;refine aD6 (rs.map EntR.e) q.s p9.num (fun e he=>?_) BE.1 (ω1 JG.o);obtain⟨x,hx,rfl⟩:=mF.1 he;have:=V5.o x hx;exact⟨this.1,this.2.1,this.2.2.1⟩;refine⟨?_,by show cx<=maxLen;unfold maxLen;omega,?_,by show cy<=maxLen;unfold maxLen;omega⟩;show(q.rs++na).length<=cx
  rw[lT,<-n8.o.2.1];exact FR.1;show(aO q.s (rs.map EntR.e)).a7.length<=cy
  rw[<-n8.o.2.2.1];exact FT.1;exact dM.e8 P7 (fun k D U=>.inr (.inr ⟨D,U⟩)) (by rw[aN,lT,<-n8.o.2.1,Nat.mul_comm]);show(q.rs++na).map EntR.e=(aO q.s (rs.map EntR.e)).l
  rw[(iB _ _).1,mE,p9.map,n8.o.1];intro x hx;rcases mB.1 (show x∈q.rs++na from hx) with hx|hx
  exact((p9.h6 x hx).b1 (ω1 D9.o) ER).mono (fun k f=>.inl f);have h6:=X6 x hx;obtain⟨A1,c1,e1,k1,k2,_⟩:=bF h6;rw[e1] at h6;exact⟨A1,c1,e1,k1,k2,dM.e1 h6 (fun k h7 h8=>.inr (.inr ⟨h7,h8⟩))⟩;exact dM.e8 P3 (fun k D U=>.inr (.inr ⟨D,U⟩)) (by rw[lU,<-n8.o.2.2.1,Nat.mul_one]);exact n8.o.2.2.2;show q.em=(aO q.s (rs.map EntR.e)).a7.isEmpty
  rw[BD];have:=n8.o.2.2.1;cases he:(aO q.s (rs.map EntR.e)).a7 with
  |nil=>rw[he] at this;simp at this
  |cons x r=>rfl
 have L5:∀x∈pre++[q'],nT Y (fun k=>F4 k∨k=X∨(H<=k∧k<Y.heap.size)) x:=fun x hx=>by
  rcases mB.1 hx with hx|hx
  exact((p4.o.2 x (by rw[o9.o.1,List.dropLast_concat];exact hx)).b1 (ω1 D9.o) ER).mono (fun k f=>.inl f);obtain rfl:=lY.1 hx;exact Z6
 have FO:Q+1<=c4∧c4<=9223372036854775807:=by
  obtain⟨A9,c9,IB,D,U,_⟩:=aK p8;injection IB with _ _ h3
  rw[h3];exact⟨D,U⟩
 have R9:(pre++[q']).length=Q+1:=by rw[lT,o9.o.2.1];rfl
 have L3:jK Y (fun k=>F4 k∨k=X∨(H<=k∧k<Y.heap.size)) (X,0) c4 (pre++[q']):=⟨B7.mono (fun k f=>.inr (.inl (bY5 f))),by rw[R9];exact⟨FO.1,by unfold maxLen;omega⟩,L5⟩;have JT:∀k,(F4 k∨k=X∨(H<=k∧k<Y.heap.size))->base<=k∧k<Y.heap.size∧k≠gj∧¬aL g J9 I2 k:=fun k f=>by
  have NE:=D9.o;rcases f with f|rfl|f
  obtain⟨q1,q2,q3,q4,_⟩:=N6.o k f;exact⟨q1,O,q3,q4⟩;exact⟨ω1 HH.o.lo,O,O,Q7⟩;exact⟨ω1 HH.o.lo,f.2,O,fun e=>ω1 ((K7.o.c8.lt k e).2)⟩
 have JV:∀k,(F4 k∨k=X∨(H<=k∧k<Y.heap.size))->F k∨w.heap.size<=k:=fun k f=>by
  rcases f with f|rfl|f
  exact DT.o k f;exact .inr O;exact .inr O
 obtain⟨nm,G8⟩:=eX (aE q.s.k);have BR:(if fresh=true then ss++[sN] else ss)=pre.map RqR.s++[q.s]:=by rw[<-P1.o,o9.o.1,mE];rfl
 have Q6:=U4.o _ _ BR;have L6:dM Y E B5 (cells bs):=by
  have D:=CH.o B9 G9.o;exact D.2.2.b1 BP (fun k f=>j9.block k (ω1 ((HE.o k f).1)) (fun e=>by injection e with e;have:=(HE.o k f).1;omega))
 have C7:=q8.o.2.2.2;have T6:nm.length<=1000:=by rw[G8];have:=fJ q.s.k O;omega
 have EQ:=cY.start I8.again Y3 [.app nm bs,.sync nm];have KV:r=cF [.app nm bs,.sync nm] d4:=by rw[X0.o,Q6.1,G8]
 rw[<-KV] at EQ;have LQ:=J EQ;have U1:=J L6;have KP:I6 q.s.k:=⟨Int.le_trans δ C7.1,Int.le_trans C7.2 δ⟩;have KQ:∀W:World,Calls Tryz.prog 88 #[q.s.k] W fun e w' =>e=.returned (.string (bU nm))∧Below W W w' :=fun W=>by rw[G8];exact gN q.s.k KP W
 have EA:=J KQ;clear KQ KP;have D8:=J (show H≠gj∧¬aL g J9 I2 H from⟨ω1 D9.o,fun e=>ω2 ((K7.o.c8.lt H e).2) D9.o⟩);have AP:=D9.o;have B1:gj<Y:=O;have l5:=Nat.lt_of_lt_of_le U8.o.lt BP;clear AP;have Y2:aS Y H 139 _:=U8.o.grown j9 (fun e=>by injection e with e;omega);have j0:=I8.jb.c 0;have k0:=Y2.c 0;have V7:=J I8;have U9:=J L3;have IU:=J JT;have LT:=J JV;have DW:=J Q6.2;have E8:∀x∈pre++[q'],x.s.l.length<=4611686018427387904:=fun x hx=>by
  rcases mB.1 hx with hx|hx
  have:=(X2.o x.s (by rw[<-P1.o];exact mF.2 ⟨x,o9.o.2.2 x hx,rfl⟩)).1;omega;obtain rfl:=lY.1 hx;rw[E9];show(aO q.s (rs.map EntR.e)).l.length<=_
  rw[(iB _ _).1,lT,lU];have:=q8.o.1;omega
 have N9:=J E8;have V1:=J (show(pre++[q']).map RqR.s=pre.map RqR.s++[aO q.s (rs.map EntR.e)] by rw[mE,E9];rfl);have W5:=J R9;clear R9 BD BE C7 hcz1 hcz2 hcy1 hcy2 J7 j9 DC LD LC p8 AI Q7 I8 M6 B7 J5 P7 P3 X6 p9 ER Z6 L5 L3 JT JV G8 BR Q6 L6 EQ KV Y2 E8 hvz hvy;go_cut [22] from 219 to 230 (fun c22 wx=>∃B,c22=.bool B∧Hq (cY Y base g J9 I2 gj jt jv (.slice A M c) (L+(bs.length+1)) r [aQ.sync nm] B wx))
 case first=>
  refine wp_region_held_drew (S:=fun W=>W.cell? ⟨gj,0,none⟩=some (.pointer (some ⟨g,0,none⟩))∧W.cell? ⟨H,0,none⟩=some (.int .i64 q.s.k)∧True∧True) κ ⟨j0,k0,trivial,trivial⟩ (fun C=>?_);refine zT 0 (k:=zT 1 (k:=zT 2 (k:=zT 3 (k:=zT 4 (k:=zT 5 (k:=zT 6 (k:=zT 8 (k:=?_))))))));simp only[zA,zB,zF,zG,zC,zD,zE];have EE:=J (And.intro U1.o trivial);clear C;refine bT3 (G:=?G) (fun W b=>Below Y Y W∧Rd W W (some ⟨b,0,none⟩) [.slice B5 bs cb]) ?h1 ?h2
  case h1=>
   intro key;refine qJ 7 9 (by simp) (by simp) (by kernel_rfl) (fun K I=>?_) (fun K I=>?_)
   ·simp only[zA,zB]
    go_simp;refine(EA.o Y.drew).mono ?_;rintro e wn ⟨rfl,AB⟩;have m7:Below Y Y wn:=((lS _ Y).drew).trans AB;refine I _ _ ⟨(m7.cell (p:=(gj,0)) B1).trans j0,(m7.cell (p:=(H,0)) l5).trans k0,trivial,trivial⟩ (fun C=>?_);clear I K;try simp only[zF,zG,zC,zD,zE]
    refine zV 9 (k:=fun K I=>?_);simp only[zA,zB];go_simp;have J2:Below Y Y (wn.alloc (.cells #[.slice B5 bs cb] 34)):=m7.trans (((lS _ wn).alloc (lR _) _).mono m7.size);refine I.out _ _ ⟨(J2.cell (p:=(gj,0)) B1).trans j0,(J2.cell (p:=(H,0)) l5).trans k0,trivial,trivial⟩ (fun C=>?_);clear I K;try simp only[zF,zG,zC,zD,zE]
    have BK:Rd (wn.alloc (.cells #[.slice B5 bs cb] 34)) (wn.alloc (.cells #[.slice B5 bs cb] 34)).heap.size (wn,0) [.slice B5 bs cb]:=(cS wn 34 [.slice B5 bs cb]).more σ;generalize(wn.alloc (.cells #[.slice B5 bs.length cb] 34))=W at J2 BK⊢;generalize wn.heap.size=b at BK⊢;exact key W b ⟨J2,BK⟩
   simp only[zA,zB];go_simp;have J2:=bD Y (.cells #[.slice B5 bs cb] 34);refine I _ _ ⟨(J2.cell (p:=⟨gj,0,none⟩) B1).trans j0,(J2.cell (p:=⟨H,0,none⟩) l5).trans k0,trivial,trivial⟩ (fun C=>?_);clear I K;try simp only[zF,zG,zC,zD,zE]
   refine zV 7 (k:=fun K I=>?_);simp only[zA,zB];go_simp;refine(EA.o (Y.drew.alloc (.cells #[.slice B5 bs cb] 34))).mono ?_;rintro e wn ⟨rfl,AB⟩;have m7:=J2.trans (AB.mono J2.size);refine I.out _ _ ⟨(m7.cell (p:=(gj,0)) B1).trans j0,(m7.cell (p:=(H,0)) l5).trans k0,trivial,trivial⟩ (fun C=>?_);clear I K;try simp only[zF,zG,zC,zD,zE]
   have BK:Rd wn wn.heap.size (some ⟨Y.heap.size,0,none⟩) [.slice B5 bs.length cb]:=(Rd.a1 (cS Y.drew 34 [.slice B5 bs.length cb]) (AB.mono (by simp))).more (by have:=AB.size;simp at this;show Y.heap.size+1<=_;omega);exact key wn Y ⟨m7,BK⟩
  rintro W b ⟨CK,KB⟩;have IF:=J (cY.app (n:=nm) (p:=bs) (LQ.o.a1 CK) O T6 (b,0) B5 cb KB (((EE.o.1.rd).a1 CK).more CK.size) D1 O);clear CK KB;refine zV 10 (k:=fun K I=>?_);simp only[zA,zB];go_simp;refine IF.o.mono ?_;rintro e w9 ⟨z,rfl,⟨⟨i0,_⟩,Q5⟩,h9⟩;have H9:=J h9;have D0:=D8.o;have i1:=(mK (w:=Y) (a:=(H,0)) (Q5.block H l5 (fun e=>e.elim D0.2 D0.1))).trans k0;clear h9 Q5 IF;refine I.out _ _ ⟨i0,i1,trivial,trivial⟩ (fun C=>?_);clear I K;try simp only[zF,zG,zC,zD,zE]
  refine zV 11 (k:=fun K I=>?_);simp only[zA,zB];go_simp;refine H9.o.mono ?_;rintro e T8 ⟨ok,rfl,CJ⟩;have D5:=J CJ;have l0:=CJ.ptr.1;have l1:=(mK (w:=Y) (a:=(H,0)) (CJ.fr.block H l5 (fun e=>e.elim D0.2 D0.1))).trans k0;clear CJ H9 i0 i1;refine I.out _ _ ⟨l0,l1,trivial,trivial⟩ (fun C=>?_);clear I K;try simp only[zF,zG,zC,zD,zE]
  refine zT 12 (k:=?_);simp only[zA,zB,zF,zG,zC,zD,zE];refine wpAnyH_done κ ?_ _;clear C l0 l1;go_wp2;go_meet;exact⟨ok,rfl,D5⟩
 obtain⟨B,rfl,D5⟩:=hcut;go_upto_region 31 with fail
 go_cut [22] from 231 to 243 (fun c22 wx=>∃B,c22=.bool B∧Hq (cY Y base g J9 I2 gj jt jv (.slice A M c) (L+(bs.length+1)) r [] B wx))
 case first=>
  have D0:=D8.o;have l0:=D5.o.ptr.1;have l1:=(mK (w:=Y) (a:=(H,0)) (D5.o.fr.block H l5 (fun e=>e.elim D0.2 D0.1))).trans k0;cases B with
  |false=>
   have MB:=J (D5.o.skip (rest' :=[]) (lR _));clear D0 D5;go_quiet (fail);go_wp2;go_meet;exact⟨false,rfl,J (MB.o.a1 (aD (lS _ wc) _))⟩
  |true=>
   have NK:=D5.o.ptr.2;have ML:=Nat.lt_of_lt_of_le l5 D5.o.fr.size;have V4:=J (EA.o wc.drew);refine wp_region_held_drew (S:=fun W=>W.cell? ⟨gj,0,none⟩=some (.pointer (some ⟨g,0,none⟩))∧W.cell? ⟨H,0,none⟩=some (.int .i64 q.s.k)∧True∧True) κ ⟨l0,l1,trivial,trivial⟩ (fun C=>?_);refine zT 0 (k:=zT 1 (k:=zT 2 (k:=zT 3 (k:=zT 4 (k:=zT 5 (k:=zT 6 (k:=?_)))))));simp only[zA,zB,zF,zG,zC,zD,zE];refine lP 7 (v:=?_) (by simp) (by kernel_rfl) (by kernel_rfl) (by kernel_rfl) (fun _ _ _ h=>h) (Or.inl ⟨by rfl,?_⟩) C ?_
   case refine_2=>(intro w b;(try dsimp only at b);(try(obtain⟨j,m,n,o⟩:=b));simp only[zA,zB,zF,zG,zC,zD,zE];go_simp<;>with_reducible rfl)
   simp only[zA,zB,zF,zG,zC,zD,zE];refine zT 8 (k:=?_);simp only[zA,zB,zF,zG,zC,zD,zE];refine zV 9 (k:=fun K I=>?_);simp only[zA,zB];go_simp;refine V4.o.mono ?_;rintro e CC ⟨rfl,m6⟩;have d8:Below wc wc CC:=((lS _ wc).drew).trans m6;have JN:=J (cY.sync (n:=nm) (rest:=[]) (D5.o.a1 d8) O);have i0:=(d8.cell (p:=(gj,0)) NK).trans l0;have i1:=(d8.cell (p:=(H,0)) ML).trans l1;clear m6 d8 V4 D5 l0 l1;refine I.out _ _ ⟨i0,i1,trivial,trivial⟩ (fun C=>?_);clear I K;try simp only[zF,zG,zC,zD,zE]
   refine zV 10 (k:=fun K I=>?_);simp only[zA,zB];go_simp;refine JN.o.mono ?_;rintro e LM ⟨z,rfl,⟨⟨n0,_⟩,m9⟩,L2⟩;have K0:=J L2;have n1:=(mK (w:=Y) (a:=(H,0)) (m9.block H l5 (fun e=>e.elim D0.2 D0.1))).trans k0;clear L2 m9 JN i0 i1;refine I.out _ _ ⟨n0,n1,trivial,trivial⟩ (fun C=>?_);clear I K;try simp only[zF,zG,zC,zD,zE]
   refine zV 11 (k:=fun K I=>?_);simp only[zA,zB];go_simp;refine K0.o.mono ?_;rintro e LN ⟨ok,rfl,p5⟩;have l4:=J p5;have o0:=p5.ptr.1;have o1:=(mK (w:=Y) (a:=(H,0)) (p5.fr.block H l5 (fun e=>e.elim D0.2 D0.1))).trans k0;clear p5 K0 n0 n1;refine I.out _ _ ⟨o0,o1,trivial,trivial⟩ (fun C=>?_);clear I K;try simp only[zF,zG,zC,zD,zE]
   refine zT 12 (k:=zT 13 (k:=?_));simp only[zA,zB,zF,zG,zC,zD,zE];refine wpAnyH_done κ ?_ _;clear C o0 o1;go_wp2;go_meet;exact⟨ok,rfl,l4⟩
 obtain⟨B2,rfl,l4⟩:=hcut;clear D5;cases B2 with
 |false=>
  obtain⟨Z,ID,EN,n9⟩:=l4.o.done;obtain⟨rc,d6⟩:=r;simp only at Z n9;have M8:rc≠0:=by simpa using Z.symm
  have i6:=V7.o.join n9;have K8:=J i6;have j4:=i6.jb.c 4;have X1:=J (O8.o M8);clear Z n9 i6 l4 M8;go_wp2;go_ret;exact N4.o _ _ _ _ rc _ _ _ K8.o CD.o res (by rw[X1.o,K4.o.1,K4.o.2])
 |true=>
  obtain⟨Z,ID,EN,n9⟩:=l4.o.done;obtain⟨rc,d6⟩:=r;simp only at Z n9;obtain rfl:rc=0:=by simpa using Z.symm
  have I9:=V7.o.join n9;have p7:=l4.o.fr;have j3:=I9.jb.c 3;have z3:=I9.jb.a6 3;have D3:=aA wc gj 3 (.slice (X,0) (Q+1) c4);have KA:=I9.put D3 (by have:=I9.jb.b8 3 (.slice (X,0) (Q+1) c4);simpa using this);have JZ:=jK.b1 (w' :=wc.setCell (gj,3) (.slice (X,0) (Q+1) c4)) U9.o (by have D:=p7.size;have U:=D3.size;omega) (fun k f=>by
   obtain⟨q1,q2,q3,q4⟩:=IU.o k f;exact(D3.block k (ω1 p7.size) (fun e=>by injection e with e;exact q3 e)).trans (p7.block k q2 (fun e=>e.elim q4 q3)))
  have U5:=J (aL9.fin HH.o KA JZ W5.o.symm (by rw[W5.o];omega) N9.o (fun k f=>by
   obtain⟨q1,q2,q3,q4⟩:=IU.o k f;have D:=p7.size;have U:=D3.size;exact⟨q1,O,q3,fun e=>(n9.grow k e).elim q4 (fun e=>O)⟩) LT.o CD.o 0 res (by
   rw[DW.o rfl,V1.o,K4.o.1,K4.o.2,<-DK.o]))
  clear Z n9 I9 p7 D3 KA JZ l4;go_wp2;go_ret;exact U5.o
end Go.Proofs.YtgeofijddhflaaaGreatDoor
