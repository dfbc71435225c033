/- Rows of bytes that a call has made; which pieces bytes begin with, in plain words. No condition. -/
import Derived.Test.YtgeofijddhflaaaGreatDoorQOpenS
import Derived.Lib.MakeNoZero
import Derived.Lib.SlBytesConst
set_option maxHeartbeats 8000000
set_option maxRecDepth 100000
namespace Go.Proofs.YtgeofijddhflaaaGreatDoor
section
open Oct
def head(p:List UInt8):List UInt8:=enc p.length++p
def cN8(p:List UInt8):List UInt8:=head p++Crc.four (Crc.sum (head p))
def aF1(p:List UInt8):List UInt8:=if 1048576<p.length then[] else cN8 p
def bI4(p:List UInt8):Int:=if 1048576<p.length then 2 else 0
def bN5(b:List UInt8):Nat:=(aA2 maxI b).2.1+(aA2 maxI b).1
def aD2(b:List UInt8):List UInt8×Nat×Int:=
 if(aA2 maxI b).2.2≠0 then([],0,(aA2 maxI b).2.2)
 else if 1048576<(aA2 maxI b).1 then([],0,2)
 else if b.length<bN5 b+4 then([],0,3)
 else if Crc.four (Crc.sum (b.take (bN5 b)))=(b.drop (bN5 b)).take 4 then((b.drop (aA2 maxI b).2.1).take (aA2 maxI b).1,bN5 b+4,0)
 else([],0,5)
def aV0(b:List UInt8):Nat->Nat->List (List UInt8)×Nat×Int
 |0,a=>([],a,0)
 |f+1,a=>
  if b.length<=a then([],a,0)
  else if(aD2 (b.drop a)).2.2=0 then
   ((aD2 (b.drop a)).1::(aV0 b f (a+(aD2 (b.drop a)).2.1)).1,(aV0 b f (a+(aD2 (b.drop a)).2.1)).2)
  else([],a,(aD2 (b.drop a)).2.2)
def aE4(b:List UInt8):List (List UInt8)×Nat×Int:=aV0 b (b.length+1) 0
theorem aR1{b:List UInt8}(h:(aD2 b).2.2=0):(aD2 b).1.length<=1048576∧5<=(aD2 b).2.1∧(aD2 b).2.1<=b.length∧b.take (aD2 b).2.1=cN8 (aD2 b).1:=by
 unfold aD2 at h⊢;by_cases h1:(aA2 maxI b).2.2≠0
 ·rw[if_pos h1] at h
  exact absurd h h1
 rw[if_neg h1] at h⊢;by_cases h2:1048576<(aA2 maxI b).1
 ·rw[if_pos h2] at h
  cases h
 rw[if_neg h2] at h⊢;by_cases h3:b.length<bN5 b+4
 ·rw[if_pos h3] at h
  cases h
 rw[if_neg h3] at h⊢;by_cases h4:Crc.four (Crc.sum (b.take (bN5 b)))=(b.drop (bN5 b)).take 4
 rotate_left
 ·rw[if_neg h4] at h
  cases h
 rw[if_pos h4];have a9:(aA2 maxI b).2.2=0:=Classical.not_not.1 h1;have hf:=cJ3 (m:=maxI) (l:=b) a9;rw[<-bR7 a9] at hf;obtain⟨f1,f2,f3⟩:=hf;have b8:b.take (aA2 maxI b).2.1=enc (aA2 maxI b).1:=f3;have a8:((b.drop (aA2 maxI b).2.1).take (aA2 maxI b).1).length=(aA2 maxI b).1:=by
  unfold bN5 at h3;simp
  omega
 have hh:b.take (bN5 b)=head ((b.drop (aA2 maxI b).2.1).take (aA2 maxI b).1):=by
  unfold head;rw[a8,<-b8];unfold bN5;rw[List.take_add]
 refine⟨by simp only;rw[a8];omega,by simp only;unfold bN5;omega,by simp only;omega,?_⟩;show b.take (bN5 b+4)=cN8 _
 unfold cN8;rw[<-hh,List.take_add,<-h4]
end
section
open Go.RowKit Oct
theorem aF9(w:World)(e:TypeId)(xs:List Value):Rd (w.alloc (.cells xs.toArray e)) (w.heap.size+1) (some ⟨w.heap.size,0,none⟩) xs:=by
 intro _;refine⟨_,rfl,by simp,fun j u hu=>?_⟩;rw[show(⟨w.heap.size,0,none⟩:Addr).add j=⟨w.heap.size,j,none⟩ by simp[Addr.add_lit],World.cell?_alloc_at _ _ _ _ rfl]
 simpa using hu
theorem bJ8{p:List UInt8}(h:¬1048576<p.length):aF1 p=enc p.length++p++Crc.four (Crc.sum (enc p.length++p)):=if_neg h
theorem cM0(A:Option Addr)(p:List UInt8)(n c:Nat)(hn:n=p.length)(w:World)(hr:Rd w w.heap.size A (cells p))(hl:p.length<=140737488351232):
  Calls Tryz.prog 128 #[.slice A n c] w fun e w' =>∃v,e=.returned (.tuple #[v,.int .i64 (bI4 p)])∧Bs w' w.heap.size v (aF1 p)∧Below w.heap.size w w' :=by
 subst hn;by_cases h0:1048576<p.length
 ·have h1:bI4 p=2:=if_pos h0
  have h2:aF1 p=[]:=if_pos h0;rw[h1,h2];clear h1 h2;go_enter Tryz.func128,Tryz.ntmps128
  go_wp2;go_ret2
  exact⟨_,rfl,Own.nil _ _ _,lS _ _⟩
 have h1:bI4 p=0:=if_neg h0;have j9:=aN8 p.length (by omega);have hH:=bJ8 h0;have j6:(enc p.length++p).length<=1048586:=by rw[lT];omega
 obtain⟨H,f6⟩:∃H,H=enc p.length++p:=⟨_,rfl⟩
 rw[<-f6] at hH j6;have hs:=Crc.sum_lt H;have HF:=qZ (bD0 _ hs);have HC:=qZ hH;have HH:=qZ f6;clear hH f6;rw[h1];clear h1;go_enter Tryz.func128,Tryz.ntmps128
 go_wp2_with fail
 refine(cR5 p.length w (by omega)).mono ?_;rintro e w1 ⟨v1,rfl,d8,d9⟩;have i4:=d9.size;go_wp2_with (at_builtin;refine cF2 (W:=w) rfl (.tmp 16) (.tmp 17) 34 rfl 5 (.int .u8 0) 1 Tryz.underlying34 aC6 rfl v1 (cells (enc p.length)) rfl w.heap.size d9 (lR _) d8 w.heap.size A p.length c _ rfl (aA1 _).symm (hr.below d9) (aQ8 _) (by rw[aA1];omega) (by rw[aA1];omega) ?_;intro v2 w2 a8 g8)
 rw[<-aE1,<-HH.out] at a8;have a9:Bs w2 w.heap.size v2 H:=a8;obtain⟨A2,c2,rfl,j8,_,f8⟩:=aC5 a9;have f7:=g8.size;clear d8 d9;go_wp2_with fail
 refine(cK2 A2 H _ c2 _ rfl w2 f8 (by omega)).mono ?_;rintro e w3 ⟨rfl,rfl⟩;generalize Crc.sum H=S at hs HF HC⊢
 clear f8;go_wp2_with (at_builtin;refine aA6 rfl (.tmp 21) (.tmp 33) 34 rfl w.heap.size 5 (.int .u8 0) 1 Tryz.underlying34 aC6 rfl _ (cells H) rfl (a8.alloc _) (w2.heap.size+1) (some ⟨w2.heap.size,0,none⟩) 4 4 _ rfl rfl (aF9 w2 _ _) (by rw[<-HF.out];exact aQ8 _) (by rw[aA1];unfold maxLen;omega) (by rw[aA1];omega) (by simp;omega) ?_;intro v4 w4 b8 f9 i6)
 rw[<-HF.out,<-aE1,<-HC.out] at b8;have g9:Below w.heap.size w w4:=(g8.alloc f7 _).grown f9 (by simp;omega) (fun k hk=>(a8.lt k hk).1);clear f9 i6 a8 a9;go_wp2;go_ret2
 exact⟨_,rfl,b8,g9⟩
end
section
open Go.RowKit Oct
theorem bD9{P:Program}{T e:TypeId}{z:Value}{bytes:Nat}(ht:P.underlying T=some (.slice e))(a8:(P.info? e).map (fun i=>(i.zero,i.size,i.bytes))=some (some z,1,bytes))(A:Option Addr)(len cap hi:Nat)(h1:hi<=cap)(X:Int)(hX:X=(hi:Int))(w:World):
  (Instr.slice T (.slice A len cap) none (some (.int .i64 X)) none).run P w=.ok (.slice A hi cap) w:=by
 obtain⟨i,b8,hz,a9,d8⟩:=info_parts a8;subst hX;rw[run_slice_h w T A len cap (by rw[ht];simp[Program.elem,ht]) .i64 hi (by omega) (by omega)];have he:P.elem T=e:=by simp[Program.elem,ht]
 rw[he,aQ6 b8 a9];have hm:A.map (·.add 0)=A:=by cases A<;>simp[Addr.add]
 simp[sliced,Result.andThen,hm]
theorem cZ4{l:List UInt8}{E:Nat}(h:E+4<=l.length)(S:Nat)(hS:S<4294967296):
  (Crc.four S=(l.drop E).take 4)↔((l[E]'(by omega)).toNat*16777216+(l[E+1]'(by omega)).toNat*65536+(l[E+2]'(by omega)).toNat*256+(l[E+3]'(by omega)).toNat=S):=by
 have e:(l.drop E).take 4=[l[E]'(by omega),l[E+1]'(by omega),l[E+2]'(by omega),l[E+3]'(by omega)]:=by
  rw[List.drop_eq_getElem_cons (by omega),List.drop_eq_getElem_cons (by omega),List.drop_eq_getElem_cons (by omega),List.drop_eq_getElem_cons (by omega)]
  rfl
 rw[e];generalize l[E]'(by omega)=a
 generalize l[E+1]'(by omega)=b
 generalize l[E+2]'(by omega)=c
 generalize l[E+3]'(by omega)=d
 have ha:=a.toNat_lt;have hb:=b.toNat_lt;have hc:=c.toNat_lt;have hd:=d.toNat_lt;simp only[Crc.four,List.cons.injEq,<-UInt8.toNat_inj,UInt8.toNat_ofNat'];constructor
 ·intro h
  omega
 intro h;subst h;refine⟨?_,?_,?_,?_,trivial⟩<;>omega
theorem cA2(A:Option Addr)(l:List UInt8)(n c:Nat)(hn:n=l.length)(w:World)(hr:Rd w w.heap.size A (cells l))(l9:l.length<=c)(hl:l.length<=140737488351232∧c<=9223372036854775807):
  Calls Tryz.prog 134 #[.slice A n c] w fun e w' =>∃v,e=.returned (.tuple #[v,.int .i64 (aD2 l).2.1,.int .i64 (aD2 l).2.2])∧Bs w' w.heap.size v (aD2 l).1∧Below w.heap.size w w' :=by
 subst hn;have m4:(aA2 maxI l).1<=9223372036854775807:=aK8 maxI l;have hu:=aE5 maxI l;by_cases h1:(aA2 maxI l).2.2≠0
 ·have HO:Hid (aD2 l=([],0,(aA2 maxI l).2.2)):=qZ (if_pos h1)
  have hd:((aA2 maxI l).2.2 !=0)=true:=by simpa using h1
  have m6:((aA2 maxI l).2.2==0)=false:=by simpa using h1
  rw[HO.out];clear h1;go_enter Tryz.func134,Tryz.ntmps134
  go_wp2_with fail
  refine(aF7 A l _ c _ rfl w hr (by omega)).mono ?_;rintro e w1 ⟨rfl,rfl⟩;go_wp2;go_ret3
  exact⟨_,rfl,Own.nil _ _ _,lS _ _⟩
 have f6:(aA2 maxI l).2.2=0:=Classical.not_not.1 h1;by_cases h2:1048576<(aA2 maxI l).1
 ·have HO:Hid (aD2 l=([],0,2)):=qZ (by unfold aD2;rw[if_neg h1,if_pos h2])
  rw[HO.out];have HE:=qZ f6;clear h1 f6;go_enter Tryz.func134,Tryz.ntmps134
  go_wp2_with fail
  refine(aF7 A l _ c _ rfl w hr (by omega)).mono ?_;rintro e w1 ⟨rfl,rfl⟩;rw[HE.out];go_wp2;go_ret3
  exact⟨_,rfl,Own.nil _ _ _,lS _ _⟩
 by_cases h3:l.length<bN5 l+4
 ·have HO:Hid (aD2 l=([],0,3)):=qZ (by unfold aD2;rw[if_neg h1,if_neg h2,if_pos h3])
  rw[HO.out];have HE:=qZ f6;unfold bN5 at h3;clear h1 f6;go_enter Tryz.func134,Tryz.ntmps134
  go_wp2_with fail
  refine(aF7 A l _ c _ rfl w hr (by omega)).mono ?_;rintro e w1 ⟨rfl,rfl⟩;rw[HE.out];go_wp2;go_ret3
  exact⟨_,rfl,Own.nil _ _ _,lS _ _⟩
 have HE:=qZ f6;have d8:bN5 l+4<=l.length:=by omega
 obtain⟨E,hE⟩:∃E,E=bN5 l:=⟨_,rfl⟩
 have i6:E=(aA2 maxI l).2.1+(aA2 maxI l).1:=hE;have m9:=qZ hE;rw[<-hE] at d8;obtain⟨a0,A0,b0,c0⟩:=aQ1 hr (k:=E) (by omega);obtain⟨a1,A1,b1,c1⟩:=aQ1 hr (k:=E+1) (by omega);obtain⟨a2,A2,b2,c2⟩:=aQ1 hr (k:=E+2) (by omega);obtain⟨a3,A3,b3,c3⟩:=aQ1 hr (k:=E+3) (by omega);subst A0;injection A1 with A1;subst A1
 injection A2 with A2;subst A2
 injection A3 with A3;subst A3
 have hS:=Crc.sum_lt (l.take E);have HR:=qZ (cZ4 d8 _ hS);have x0:=(l[E]'(by omega)).toNat_lt;have x1:=(l[E+1]'(by omega)).toNat_lt;have x2:=(l[E+2]'(by omega)).toNat_lt;have x3:=(l[E+3]'(by omega)).toNat_lt;have b8:Hid ((l[E]'(by omega)).toNat*16777216+(l[E+1]'(by omega)).toNat*65536+(l[E+2]'(by omega)).toNat*256+(l[E+3]'(by omega)).toNat=Crc.sum (l.take E)->aD2 l=((l.drop (aA2 maxI l).2.1).take (aA2 maxI l).1,E+4,0)):=qZ fun h=>by
  unfold aD2;rw[if_neg h1,if_neg h2,if_neg h3,<-hE,if_pos (HR.out.2 h)]
 have a8:Hid (¬(l[E]'(by omega)).toNat*16777216+(l[E+1]'(by omega)).toNat*65536+(l[E+2]'(by omega)).toNat*256+(l[E+3]'(by omega)).toNat=Crc.sum (l.take E)->aD2 l=([],0,5)):=qZ fun h=>by
  unfold aD2;rw[if_neg h1,if_neg h2,if_neg h3,<-hE,if_neg fun h' =>h (HR.out.1 h')]
 generalize(l[E]'(by omega)).toNat=y0 at c0 HR x0 b8 a8
 generalize(l[E+1]'(by omega)).toNat=y1 at c1 HR x1 b8 a8
 generalize(l[E+2]'(by omega)).toNat=y2 at c2 HR x2 b8 a8
 generalize(l[E+3]'(by omega)).toNat=y3 at c3 HR x3 b8 a8
 have hcut:=fun W:World=>bD9 (P:=Tryz.prog) Tryz.underlying34 aC6 (some a0) l.length c E (by omega) (E:Int) rfl W
 have m0:Rd w w.heap.size (some a0) (cells (l.take E)):=by simpa[cells,List.map_take] using hr.take E
 have g9:(l.take E).length=E:=by rw[lV];omega
 have d9:(((aA2 maxI l).2.1:Nat):Int)+((aA2 maxI l).1:Nat)=(E:Int):=by omega
 have l7:=qZ g9;have f7:=qZ i6;clear h1 f6 hE i6 h3 g9;go_enter Tryz.func134,Tryz.ntmps134
 go_wp2_with fail
 refine(aF7 (some a0) l _ c _ rfl w hr (by omega)).mono ?_;rintro e w1 ⟨rfl,rfl⟩;rw[HE.out];go_wp2_with fail
 have i0:(E:Int)<l.length:=by omega
 have j0:(0:Int)<=E:=by omega
 obtain⟨E1,l8⟩:∃E1,E1=E+1:=⟨_,rfl⟩
 obtain⟨E2,j8⟩:∃E2,E2=E+2:=⟨_,rfl⟩
 obtain⟨E3,l5⟩:∃E3,E3=E+3:=⟨_,rfl⟩
 have i1:(E1:Int)<l.length:=by omega
 have j1:(0:Int)<=E1:=by omega
 have i2:(E2:Int)<l.length:=by omega
 have j2:(0:Int)<=E2:=by omega
 have i3:(E3:Int)<l.length:=by omega
 have j3:(0:Int)<=E3:=by omega
 rw[<-l8] at c1;rw[<-j8] at c2;rw[<-l5] at c3;have H1:Hid ((E1:Int)=(E:Int)+1):=qZ (by omega);have H2:Hid ((E2:Int)=(E:Int)+2):=qZ (by omega);have H3:Hid ((E3:Int)=(E:Int)+3):=qZ (by omega);clear l8 j8 l5;have z1:IntKind.i64.wrap ((E:Int)+1)=(E1:Int):=by rw[H1.out];exact mH _ (by omega)
 have z2:IntKind.i64.wrap ((E:Int)+2)=(E2:Int):=by rw[H2.out];exact mH _ (by omega)
 have z3:IntKind.i64.wrap ((E:Int)+3)=(E3:Int):=by rw[H3.out];exact mH _ (by omega)
 have HV:Hid (wrap64 (wrap64 (wrap64 (wrap64 (wrap64 (y0:Int)*16777216)+wrap64 (wrap64 (y1:Int)*65536))+wrap64 (wrap64 (y2:Int)*256))+wrap64 (y3:Int))=((y0*16777216+y1*65536+y2*256+y3:Nat):Int)):=qZ (by
  rw[IntWalk.wrap64_in (y0:Int) (by omega),IntWalk.wrap64_in (y1:Int) (by omega),IntWalk.wrap64_in (y2:Int) (by omega),IntWalk.wrap64_in (y3:Int) (by omega),IntWalk.wrap64_in ((y0:Int)*16777216) (by omega),IntWalk.wrap64_in ((y1:Int)*65536) (by omega),IntWalk.wrap64_in ((y2:Int)*256) (by omega),IntWalk.wrap64_in ((y0:Int)*16777216+(y1:Int)*65536) (by omega),IntWalk.wrap64_in ((y0:Int)*16777216+(y1:Int)*65536+(y2:Int)*256) (by omega),IntWalk.wrap64_in ((y0:Int)*16777216+(y1:Int)*65536+(y2:Int)*256+(y3:Int)) (by omega)];omega)
 clear x0 x1 x2 x3 b0 b1 b2 b3 hS m4 hu h2;generalize(aA2 maxI l).1=N at d9 b8 f7⊢
 generalize(aA2 maxI l).2.1=U at d9 b8 f7⊢
 have m7:=qZ d9;have a9:=qZ d8;have l6:=qZ l9;clear d9 d8 l9;go_quiet (fail);go_wp2_with fail
 refine(cK2 (some a0) (l.take E) _ c w.heap.size l7.out.symm _ (m0.drewN _) (by rw[l7.out];omega)).mono ?_;rintro e w2 ⟨rfl,rfl⟩;clear c0 c1 c2 c3 z1 z2 z3 i1 i2 i3 j1 j2 j3 H1 H2 H3;rw[HV.out];generalize y0*16777216+y1*65536+y2*256+y3=Y at b8 a8⊢
 generalize Crc.sum (l.take E)=Z at b8 a8⊢
 by_cases h4:Y=Z
 rotate_left
 ·have h5:aD2 l=([],0,5):=a8.out h4
  have h6:((Z:Int) !=(Y:Int))=true:=by simp;omega
  have f8:=qZ h5;clear h5 HR b8 a8;go_wp2;go_ret3
  rw[f8.out];exact⟨_,rfl,Own.nil _ _ _,aA3 (lS _ _) _⟩
 have h5:=b8.out h4;have h6:((Z:Int) !=(Y:Int))=false:=by simp;omega
 have f8:=qZ h5;have j6:=fun W:World=>aQ2 (P:=Tryz.prog) Tryz.underlying34 aC6 (some a0) l.length c U E (by have:=f7.out;omega) (by have:=a9.out;have:=l6.out;omega) (U:Int) (E:Int) rfl rfl W
 have f9:((l.drop U).take N).length=E-U:=by simp;have:=f7.out;have:=a9.out;omega
 have g8:Rd w w.heap.size (cutA (some a0) U c) (cells ((l.drop U).take N)):=by
  have:=(Rd.cutA hr (k:=U) (cap:=c) (by rw[aA1];have:=f7.out;have:=a9.out;omega) (by rw[aA1];exact l6.out)).take N
  simpa[cells,List.map_take,List.map_drop] using this
 generalize(l.drop U).take N=M at f9 g8 f8⊢
 have m8:M.length<=140737488351232:=by have:=a9.out;omega
 have m2:=qZ f9;have n4:=a9.out;clear h4 h5 HR b8 a8 f9;generalize hwd:w.drewN nq=wd
 have m5:Rd wd wd.heap.size (cutA (some a0) U c) (cells M):=by rw[<-hwd];exact g8.drewN nq
 have l4:Below w.heap.size w wd:=by rw[<-hwd];exact aA3 (lS _ _) _
 have i4:w.heap.size=wd.heap.size:=by rw[<-hwd];rfl
 have j9:=qZ i4;clear hwd m0 hr g8 i4;go_wp2_with (at_builtin;go_loud (refine bM7 (W:=wd) rfl (.tmp 64) (.tmp 68) 34 rfl 5 (.int .u8 0) 1 Tryz.underlying34 aC6 rfl rfl (cutA (some a0) U c) (E-U) (c-U) _ rfl (by rw[aA1];exact m2.out.symm) m5 (aQ8 _) (by omega) (by omega) ?_);intro v1 w1 m3 hb)
 go_ret3
 rw[f8.out];refine⟨_,rfl,?_,?_⟩
 ·rw[j9.out];exact m3
 rw[j9.out] at l4⊢;exact l4.trans hb
end
section
open Go.RowKit Oct
theorem bT3(A:Option Addr)(l:List UInt8)(n c:Nat)(hn:n=l.length)(w:World)(hr:Rd w w.heap.size A (cells l))(f6:l.length<=c)(hl:l.length<=140737488351232∧c<=9223372036854775807)
  (a8:(aA2 maxI l).2.2≠0∨1048576<(aA2 maxI l).1∨l.length<bN5 l+4):
  Calls Tryz.prog 103 #[.slice A n c] w fun e w' =>∃v,e=.returned (.tuple #[v,.int .i64 (aD2 l).2.1,.int .i64 (aD2 l).2.2])∧Bs w' w.heap.size v (aD2 l).1∧Below w.heap.size w w' :=by
 subst hn;have d9:(aA2 maxI l).1<=9223372036854775807:=aK8 maxI l;have hu:=aE5 maxI l;have d8:IntKind.i64.wrap ((l.length:Int)-((aA2 maxI l).2.1:Nat))=(l.length:Int)-((aA2 maxI l).2.1:Nat):=mH _ (by omega);by_cases h1:(aA2 maxI l).2.2≠0
 ·have HO:Hid (aD2 l=([],0,(aA2 maxI l).2.2)):=qZ (if_pos h1)
  have hd:((aA2 maxI l).2.2 !=0)=true:=by simpa using h1
  have b8:((aA2 maxI l).2.2==0)=false:=by simpa using h1
  rw[HO.out];clear h1 a8;go_enter Tryz.func103,Tryz.ntmps103
  go_wp2_with fail
  refine(aN4 A l c w hr (by omega)).mono ?_;rintro e w1 ⟨rfl,hb⟩;go_wp2;go_ret3
  exact⟨_,rfl,Own.nil _ _ _,hb⟩
 have a9:(aA2 maxI l).2.2=0:=Classical.not_not.1 h1;by_cases h2:1048576<(aA2 maxI l).1
 ·have HO:Hid (aD2 l=([],0,2)):=qZ (by unfold aD2;rw[if_neg h1,if_pos h2])
  rw[HO.out];have HE:=qZ a9;clear h1 a9 a8;go_enter Tryz.func103,Tryz.ntmps103
  go_wp2_with fail
  refine(aN4 A l c w hr (by omega)).mono ?_;rintro e w1 ⟨rfl,hb⟩;rw[HE.out];go_wp2;go_ret3
  exact⟨_,rfl,Own.nil _ _ _,hb⟩
 have h3:l.length<bN5 l+4:=by
  rcases a8 with h|h|h
  ·exact absurd h h1
  ·exact absurd h h2
  exact h
 have HO:Hid (aD2 l=([],0,3)):=qZ (by unfold aD2;rw[if_neg h1,if_neg h2,if_pos h3]);rw[HO.out];have HE:=qZ a9;unfold bN5 at h3;clear h1 a9 a8;go_enter Tryz.func103,Tryz.ntmps103
 go_wp2_with fail
 refine(aN4 A l c w hr (by omega)).mono ?_;rintro e w1 ⟨rfl,hb⟩;rw[HE.out];go_wp2;go_ret3
 exact⟨_,rfl,Own.nil _ _ _,hb⟩
theorem dH9(W:World)(A:Option Addr)(X:List UInt8)(E c:Nat)(hE:E=X.length):Rd (W.alloc (.cells #[.slice A E c] 34)) (W.alloc (.cells #[.slice A E c] 34)).heap.size (some ⟨W.heap.size,0,none⟩) ([Row.mk A X c].map Row.val):=by
 subst hE;exact(aF9 W 34 [.slice A X.length c]).more (by simp)
theorem dI7(A:Option Addr)(l:List UInt8)(n c:Nat)(hn:n=l.length)(w:World)(hr:Rd w w.heap.size A (cells l))(m0:l.length<=c)(hl:l.length<=140737488351232∧c<=9223372036854775807)
  (h1:(aA2 maxI l).2.2=0) (h2:¬1048576<(aA2 maxI l).1) (h3:¬l.length<bN5 l+4):
  Calls Tryz.prog 103 #[.slice A n c] w fun e w' =>∃v,e=.returned (.tuple #[v,.int .i64 (aD2 l).2.1,.int .i64 (aD2 l).2.2])∧Bs w' w.heap.size v (aD2 l).1∧Below w.heap.size w w' :=by
 subst hn;have n4:(aA2 maxI l).1<=9223372036854775807:=aK8 maxI l;have hu:=aE5 maxI l;have HE:=qZ h1;obtain⟨E,hE⟩:∃E,E=bN5 l:=⟨_,rfl⟩
 have j8:E=(aA2 maxI l).2.1+(aA2 maxI l).1:=hE;have d8:Hid (Crc.four (Crc.sum (l.take E))=(l.drop E).take 4->aD2 l=((l.drop (aA2 maxI l).2.1).take (aA2 maxI l).1,E+4,0)):=qZ fun h=>by
  unfold aD2;rw[if_neg (by simpa using h1),if_neg h2,if_neg h3,<-hE,if_pos h]
 have a9:Hid (¬Crc.four (Crc.sum (l.take E))=(l.drop E).take 4->aD2 l=([],0,5)):=qZ fun h=>by
  unfold aD2;rw[if_neg (by simpa using h1),if_neg h2,if_neg h3,<-hE,if_neg h]
 have f7:E+4<=l.length:=by omega
 clear h1 h3 hE;have o5:IntKind.i64.wrap ((l.length:Int)-((aA2 maxI l).2.1:Nat))=(l.length:Int)-((aA2 maxI l).2.1:Nat):=mH _ (by omega);go_enter Tryz.func103,Tryz.ntmps103
 go_wp2_with fail
 refine(aN4 A l c w hr (by omega)).mono ?_;rintro e w1 ⟨rfl,m3⟩;rw[HE.out];go_upto_region 9 with fail
 generalize(aA2 maxI l).1=N at j8 d8 h2 n4⊢
 generalize(aA2 maxI l).2.1=U at j8 d8 hu⊢
 have m2:(l.take E).length=E:=by rw[lV];omega
 have l9:((l.drop E).take 4).length=4:=by simp;omega
 have i4:=fun W:World=>bD9 (P:=Tryz.prog) Tryz.underlying34 aC6 A l.length c E (by omega) (E:Int) rfl W
 obtain⟨E4,j9⟩:∃E4,E4=E+4:=⟨_,rfl⟩
 have g8:∀W:World,(Instr.slice 34 (.slice A l.length c) (some (.int .i64 (E:Int))) (some (.int .i64 (E4:Int))) none).run Tryz.prog W=.ok (.slice (cutA A E c) 4 (c-E)) W:=fun W=>by
  have:=aQ2 (P:=Tryz.prog) Tryz.underlying34 aC6 A l.length c E E4 (by omega) (by omega) (E:Int) (E4:Int) rfl rfl W
  rwa[j9,Nat.add_sub_cancel_left,<-j9] at this
 have o4:Rd w w.heap.size A (cells (l.take E)):=by simpa[cells,List.map_take] using hr.take E
 have f6:Rd w w.heap.size (cutA A E c) (cells ((l.drop E).take 4)):=by
  have:=(Rd.cutA hr (k:=E) (cap:=c) (by rw[aA1];omega) (by rw[aA1];exact m0)).take 4
  simpa[cells,List.map_take,List.map_drop] using this
 have b8:Below w.heap.size w (w1.drew.alloc (.cells #[.slice A E c] 34)):=m3.drew.alloc m3.size _;have n7:=dH9 w1.drew A (l.take E) E c m2.symm;have m9:RRd (w1.drew.alloc (.cells #[.slice A E c] 34)) (w1.drew.alloc (.cells #[.slice A E c] 34)).heap.size [Row.mk A (l.take E) c]:=by
  intro p hp;obtain rfl:=List.mem_singleton.1 hp;exact⟨(o4.below b8).more b8.size,by show(l.take E).length<=_;omega⟩
 have m5:aE9 [Row.mk A (l.take E) c]=l.take E:=by simp[aE9]
 have n8:=fun W:World=>aQ2 (P:=Tryz.prog) Tryz.underlying34 aC6 A l.length c U E (by omega) (by omega) (U:Int) (E:Int) rfl rfl W
 have l6:Rd w w.heap.size (cutA A U c) (cells ((l.drop U).take N)):=by
  have:=(Rd.cutA hr (k:=U) (cap:=c) (by rw[aA1];omega) (by rw[aA1];exact m0)).take N
  simpa[cells,List.map_take,List.map_drop] using this
 have l4:((l.drop U).take N).length=E-U:=by simp;omega
 have j6:((l.drop U).take N).length<=140737488351232:=by omega
 have hS:=Crc.sum_lt (l.take E);have z1:IntKind.i64.wrap ((U:Int)+(N:Int))=(E:Int):=by rw[show(U:Int)+N=E by omega];exact mH _ (by omega)
 have z2:IntKind.i64.wrap ((E:Int)+4)=(E4:Int):=by rw[show(E:Int)+4=E4 by omega];exact mH _ (by omega)
 have Z5:Hid ((U:Int)+(N:Int)=(E:Int)):=qZ (by omega);generalize(l.drop U).take N=M at l6 l4 j6 d8
 generalize(l.drop E).take 4=F at f6 l9 d8 a9
 have o8:=qZ l9;have o7:=qZ m5;have HS:=qZ hS;have o6:=qZ l4;have o9:=qZ j9;have m4:=qZ n7;have n5:=qZ m9;have n6:=qZ f6;have l5:=qZ l6;have n9:=qZ b8;have l7:=qZ f7;have p0:=qZ j8;clear m2 l9 j9 n7 m9 m5 l4 j8 f6 l6 o4 b8 hS hr o5 hu n4 h2 f7 m0;go_region_held3 (fun _=>True) ((first|trivial)) (first|(go_at_call 153;refine(cV2 _ [Row.mk A (l.take E) c] 1 1 rfl _ m4.out n5.out (by simp)).mono ?_;rintro e w3 ⟨rfl,m7⟩;rw[o7.out];have d9:=n9.out.trans (m7.mono n9.out.size))|(go_at_call 152;refine(cH7 (Crc.sum (l.take E)) _ rfl HS.out _).mono ?_;rintro e w4 ⟨v4,rfl,f9,m6⟩;obtain⟨A4,c4,rfl,p4,_,f6⟩:=aC5 f9;have a8:=d9.trans (m6.mono d9.size))|(go_at_call 151;refine(cV7 A4 (cutA A E c) (Crc.four (Crc.sum (l.take E))) F _ _ c4 (c-E) w4.heap.size (by rfl) o8.out.symm _ f6 ((n6.out.below a8).more a8.size)).mono ?_;rintro e w5 ⟨rfl,rfl⟩))
 clear z1 z2 i4 g8 f6 n6 m4 n5 m7 m6 f9 d9;generalize Crc.four (Crc.sum (l.take E))=G at d8 a9⊢
 by_cases h4:G=F
 ·rw[decide_eq_true h4]
  have HO:=qZ (d8.out h4);have g9:Rd w4 w4.heap.size (cutA A U c) (cells M):=(l5.out.below a8).more a8.size;have z5:=Z5.out;have z6:=l7.out;clear d8 a9 h4 l5;go_wp2_with fail
  refine(aQ7 (cutA A U c) M (E-U) (c-U) o6.out.symm w4 g9 j6).mono ?_;rintro e w6 ⟨v6,rfl,i6,m8⟩;have l8:=a8.trans (m8.mono a8.size);have f8:=i6.mono a8.size;clear i6 m8 g9;go_wp2;go_ret3
  rw[HO.out];exact⟨_,rfl,f8,l8⟩
 rw[decide_eq_false h4];have HO:=qZ (a9.out h4);clear d8 a9 h4 l5;go_wp2;go_ret3
 rw[HO.out];exact⟨_,rfl,Own.nil _ _ _,a8⟩
theorem cH5(A:Option Addr)(l:List UInt8)(n c:Nat)(hn:n=l.length)(w:World)(hr:Rd w w.heap.size A (cells l))(a8:l.length<=c)(hl:l.length<=140737488351232∧c<=9223372036854775807):
  Calls Tryz.prog 103 #[.slice A n c] w fun e w' =>∃v,e=.returned (.tuple #[v,.int .i64 (aD2 l).2.1,.int .i64 (aD2 l).2.2])∧Bs w' w.heap.size v (aD2 l).1∧Below w.heap.size w w' :=by
 by_cases h1:(aA2 maxI l).2.2≠0
 ·exact bT3 A l n c hn w hr a8 hl (.inl h1)
 by_cases h2:1048576<(aA2 maxI l).1
 ·exact bT3 A l n c hn w hr a8 hl (.inr (.inl h2))
 by_cases h3:l.length<bN5 l+4
 ·exact bT3 A l n c hn w hr a8 hl (.inr (.inr h3))
 exact dI7 A l n c hn w hr a8 hl (Classical.not_not.1 h1) h2 h3
end
section
open Go.RowKit Oct
def dO1(w:World)(base:Nat)(v:Value)(l:List UInt8):Prop:=∃g rest,v=.slice (some ⟨g,0,none⟩) l.length l.length∧base<=g∧Blk w g 5 (cells l++rest).toArray
theorem dE1{P:Program}{T e:TypeId}{z:Value}{bytes:Nat}(ht:P.underlying T=some (.slice e))(a8:(P.info? e).map (fun i=>(i.zero,i.size,i.bytes))=some (some z,1,bytes))(A:Option Addr)(len cap hi:Nat)(h1:hi<=cap)(X:Int)(hX:X=(hi:Int))(w:World):
  (Instr.slice T (.slice A len cap) none (some (.int .i64 X)) (some (.int .i64 X))).run P w=.ok (.slice A hi hi) w:=by
 obtain⟨i,b8,hz,a9,d8⟩:=info_parts a8;subst hX;rw[run_slice_hm w T A len cap (by rw[ht];simp[Program.elem,ht]) .i64 .i64 hi hi (by omega) (by omega) (by omega)];have he:P.elem T=e:=by simp[Program.elem,ht]
 rw[he,aQ6 b8 a9];have hm:A.map (·.add 0)=A:=by cases A<;>simp[Addr.add]
 simp[sliced,Result.andThen,hm]
theorem dJ3{g bp T:Nat}(h:bp<T):cutA (some ⟨g,0,none⟩) bp T=some ⟨g,bp,none⟩:=by
 unfold cutA;rw[if_neg (by omega)];simp[Addr.add_lit]
theorem bW0(a b:List UInt8)(r:List Value):splice (cells a++r) a.length (cells b)=cells (a++b)++r.drop b.length:=by
 unfold splice;rw[aE1,<-aA1 a,List.take_left,List.append_assoc]
 congr 2
 rw[<-List.drop_drop,List.drop_left,aA1]
theorem bI9{w:World}{ops:Array Oper}{rest:List Oper}{o:Oper}{a:Act}{Q:Exit->Act->World->Prop}(a8:o.guard=none)(d s:Operand)
  (ho:o.op=.call {callee:=.builtin .copy,args:=#[d,s],argTypes:=#[34,34]})
  (dp A:Option Addr) (dLen dCap n c:Nat) (hd:a.eval d=.slice dp dLen dCap) (hs:a.eval s=.slice A n c)
  (g:Nat) (acc:List UInt8) (r:List Value) (hb:Blk w g 5 (cells acc++r).toArray) (l:List UInt8) (hn:n=l.length) (f7:l.length<=dLen) (d8:0<l.length->dp=some ⟨g,acc.length,none⟩) (f6:l.length<=r.length)
  (B:Nat) (hr:Rd w B A (cells l)) (base:Nat) (w0:World) (a9:Below base w0 w) (d9:base<=g)
  (h:∀w',Blk w' g 5 (cells (acc++l)++r.drop l.length).toArray->Below base w0 w' ->wpList Tryz.prog ops Q rest (a.put o.dst (goInt l.length)) w'):wpList Tryz.prog ops Q (o::rest) a w:=by
 subst hn;obtain⟨i,hi,_,b8,_⟩:=info_parts aC6;refine wpList_copy_splice a8 d s _ _ ho 5 Tryz.underlying34 (by rw[hi];simp[b8]) dp A dLen dCap l.length c hd hs g acc.length (cells acc++r) 5 hb (cells l) (by rw[aA1];exact(Nat.min_eq_left f7).symm) (fun h0=>⟨d8 (by rw[aA1] at h0;exact h0),?_⟩) (by rw[aA1,lT,aA1];omega) (aQ8 l) base w0 a9 d9 fun w' h1 h2=>?_
 ·obtain⟨ad,h1,_,h3⟩:=hr h0
  exact⟨ad,h1,h3⟩
 have h3:=h1.out;rw[bW0] at h3;rw[aA1];exact h w' h3 h2
theorem bI7(ps:List Row)(k:Nat):(aE9 (ps.take k)).length<=(aE9 ps).length:=by
 have h:aE9 ps=aE9 (ps.take k)++aE9 (ps.drop k):=by
  unfold aE9;rw[<-List.flatMap_append,List.take_append_drop]
 rw[h,lT];omega
theorem dE5(ps:List Row)(h:0<ps.length):aE9 (ps.take 1)=ps[0].l:=by
 rw[aV1 ps 0 h];simp[aE9]
theorem dG3(A:Option Addr)(ps:List Row)(n c:Nat)(hn:n=ps.length)(h2:2<=ps.length)(w:World)(hr:Rd w w.heap.size A (ps.map Row.val))(hp:RRd w w.heap.size ps)(hl:ps.length<=140737488351232)(hf:(aE9 ps).length<=140737488351232)(q8:ps.length<=c):
  Calls Tryz.prog 30 #[.slice A n c,.slice none 0 0] w fun e w' =>∃v,e=.returned v∧dO1 w' w.heap.size v (aE9 ps)∧Below w.heap.size w w' :=by
 subst hn;have HP:=qZ hp;clear hp;go_enter Tryz.func30,Tryz.ntmps30
 go_wp2_with fail
 go_loop [44,5,7] (fun i s _=>∃k:Nat,k<=ps.length∧i=.int .i64 k∧s=.int .i64 ((aE9 (ps.take k)).length:Nat)) (fun i _ _=>ps.length-(intOf i).toNat)
 case atStart=>exact⟨0,by omega,rfl,rfl⟩
 obtain⟨k,hk,rfl,rfl⟩:=hrel;by_cases hlt:k<ps.length
 ·obtain⟨ad,rfl,n4,a8⟩:=aQ1 hr hlt
  obtain⟨a,l,c',a9⟩:∃a l c',ps[k]=Row.mk a l c' :=⟨_,_,_,rfl⟩
  have hF:=aV1 ps k hlt;have d8:=bI7 ps (k+1);rw[hF,a9,lT] at d8;have b8:(aE9 (ps.take (k+1))).length=(aE9 (ps.take k)).length+l.length:=by rw[hF,a9,lT]
  rw[a9] at a8;have i6:w.cell? (ad.add k)=some (.slice a l.length c'):=a8;have o9:(k:Int)<ps.length:=by omega
  have HL:=qZ b8;replace d8:(aE9 (ps.take k)).length+l.length<=(aE9 ps).length:=d8;generalize(aE9 (ps.take k)).length=N at d8 HL⊢
  clear a9 a8 hF b8;go_wp2;exact⟨⟨k+1,by omega,by go_num,by rw[HL.out];go_num⟩,by simp[intOf];omega⟩
 obtain rfl:k=ps.length:=by omega
 rw[List.take_length];obtain⟨T,hT⟩:∃T,T=(aE9 ps).length:=⟨_,rfl⟩
 rw[<-hT] at hf⊢;have HT:=qZ hT;clear hT;obtain⟨cs,f8,d8,_⟩:=Lib.run_makeNoZero (P:=Tryz.prog) w #[3] 34 5 Tryz.underlying34 T (by omega);have m2:(callFunc 82 #[.int .i64 (T:Int)]).run Tryz.prog w=.ok (.value (.slice (some ⟨w.heap.size,0,none⟩) T cs.size)) ((w.alloc (.cells cs 5)).drewN 2):=by
  rw[run_callFunc_extern Tryz.func82 (by kernel_rfl) (by kernel_rfl) (by kernel_rfl) (e:=Extern.BytealgMakeNoZero.makeNoZero #[3] #[34]) (by kernel_rfl),f8]
  rfl
 have hcut:=fun W:World=>dE1 (P:=Tryz.prog) Tryz.underlying34 aC6 (some ⟨w.heap.size,0,none⟩) T cs.size T d8 (T:Int) rfl W
 clear f8;obtain⟨ad,rfl,n4,a8⟩:=aQ1 hr (k:=0) (by omega);obtain⟨a0,l0,c0,a9⟩:∃a l c',ps[0]=Row.mk a l c' :=⟨_,_,_,rfl⟩
 have m5:aE9 (ps.take 1)=l0:=by rw[dE5 ps (by omega),a9]
 have l4:=bI7 ps 1;rw[m5,<-HT.out] at l4;have i4:=HP.out _ (lX (show 0<ps.length by omega));rw[a9] at a8 i4;have m4:Below w.heap.size w ((w.alloc (.cells cs 5)).drewN 2):=aA3 ((lS _ _).alloc (lR _) _) 2;have d9:((w.alloc (.cells cs 5)).drewN 2).cell? (ad.add 0)=some (.slice a0 l0.length c0):=(m4.cell (by rw[aC7];exact n4)).trans a8;rw[show ad.add 0=ad by simp[Addr.add]] at d9;have g8:Blk ((w.alloc (.cells cs 5)).drewN 2) w.heap.size 5 (cells []++cs.toList).toArray:=by rw[cV9,List.nil_append,Array.toArray_toList];exact(Blk.new w 5 cs).drewN 2
 have l8:Rd ((w.alloc (.cells cs 5)).drewN 2) w.heap.size a0 (cells l0):=i4.1.below m4;have s9:(0:Int)<ps.length:=by omega
 have m7:Hid (l0.length<=cs.toList.length):=qZ (by have:=@Array.length_toList _ cs;omega);have n6:=qZ m5;have j8:=qZ l8;have g9:=qZ g8;have o6:=qZ m4;clear a9 a8 m5 i4 l8 g8 m4;go_wp2_with (with_reducible refine bI9 rfl (.tmp 64) (.tmp 67) rfl (some ⟨w.heap.size,0,none⟩) a0 T T l0.length c0 rfl rfl w.heap.size [] cs.toList g9.out l0 rfl l4 (fun _=>rfl) m7.out w.heap.size j8.out w.heap.size w o6.out (lR _) ?_;intro w1 f9 o8)
 have o7:1<=c:=by omega
 have j6:Blk w1 w.heap.size 5 (cells (aE9 (ps.take 1))++cs.toList.drop (aE9 (ps.take 1)).length).toArray:=by rw[n6.out];simpa using f9
 have p9:Hid ((l0.length:Int)=((aE9 (ps.take (0+1))).length:Nat)):=qZ (by rw[n6.out]);clear f9 j8 g9 o6 d9 m2 hcut n6;go_wp2_with fail
 go_loopw [72,9,11] (fun i bp _ wr=>∃k:Nat,k<=ps.length-1∧i=.int .i64 k∧bp=.int .i64 ((aE9 (ps.take (k+1))).length:Nat)∧Blk wr w.heap.size 5 (cells (aE9 (ps.take (k+1)))++cs.toList.drop (aE9 (ps.take (k+1))).length).toArray∧Below w.heap.size w wr) (fun i _ _ _=>ps.length-(intOf i).toNat)
 case atStart=>exact⟨0,by omega,rfl,by rw[p9.out],j6,o8⟩
 obtain⟨k,hk,rfl,rfl,f6,m3⟩:=hrel;by_cases hlt:k<ps.length-1
 rotate_left
 ·obtain rfl:k=ps.length-1:=by omega
  have p5:aE9 (ps.take (ps.length-1+1))=aE9 ps:=by rw[show ps.length-1+1=ps.length by omega,List.take_length]
  rw[p5] at f6⊢;go_wp2;go_ret
  refine⟨_,rfl,?_,m3⟩;rw[HT.out];exact⟨_,_,rfl,lR _,f6⟩
 obtain⟨p4,o4,p8,a8⟩:=aQ1 hr (k:=k+1) (by omega);obtain rfl:ad=p4:=by injection o4
 obtain⟨a,l,c',a9⟩:∃a l c',ps[k+1]'(by omega)=Row.mk a l c' :=⟨_,_,_,rfl⟩
 have hF:=aV1 ps (k+1) (by omega);have d8:=bI7 ps (k+1+1);rw[hF,a9,lT,<-HT.out] at d8;replace d8:(aE9 (ps.take (k+1))).length+l.length<=T:=d8;have b8:(aE9 (ps.take (k+1+1))).length=(aE9 (ps.take (k+1))).length+l.length:=by rw[hF,a9,lT]
 rw[a9] at hF;have m9:=HP.out _ (lX (show k+1<ps.length by omega));rw[a9] at a8 m9;have i6:wr.cell? ⟨ad.block,ad.off+1+k,none⟩=some (.slice a l.length c'):=by
  have h1:=(m3.cell (p:=ad.add (k+1)) (by rw[aC7];exact n4)).trans a8;have h2:ad.add (k+1)=⟨ad.block,ad.off+1+k,none⟩:=by unfold Addr.add;rw[if_neg (by omega),show ad.off+(k+1)=ad.off+1+k by omega]
  rw[h2] at h1;exact h1
 have n8:Rd wr w.heap.size a (cells l):=m9.1.below m3;have o9:(k:Int)<((ps.length-1:Nat):Int):=by omega
 obtain⟨f7,l5⟩:∃f7,f7=aE9 (ps.take (k+1)):=⟨_,rfl⟩
 rw[<-l5] at f6 d8 b8 hF⊢;obtain⟨N,hN⟩:∃N,N=f7.length:=⟨_,rfl⟩
 have n9:=fun W:World=>aH0 (P:=Tryz.prog) Tryz.underlying34 aC6 (some ⟨w.heap.size,0,none⟩) T T N (by omega) (N:Int) rfl W
 have j9:l.length<=(cs.toList.drop f7.length).length:=by have:=@Array.length_toList _ cs;rw[lZ];omega
 have l7:0<l.length->cutA (some ⟨w.heap.size,0,none⟩) N T=some ⟨w.heap.size,f7.length,none⟩:=fun h0=>by rw[dJ3 (by omega),hN]
 have HH:Hid (aE9 (ps.take (k+1+1))=f7++l):=qZ hF;have HL:Hid (((N:Int)+l.length)=((aE9 (ps.take (k+1+1))).length:Nat)):=qZ (by rw[b8,hN];omega);have p0:Hid ((aE9 (ps.take (k+1+1))).length=f7.length+l.length):=qZ b8;have n5:=qZ f6;have q6:=qZ n8;have l9:=qZ j9;have n7:=qZ l7;have p6:=qZ m3;rw[<-hN] at d8⊢;have m6:l.length<=T-N:=by omega
 clear a9 a8 hF b8 m9 hN l5 f6 n8 j9 l7 m3 o4 hk;obtain⟨i5,o5,_,l6,_⟩:=info_parts aC6;have m8:(Tryz.prog.info? 5).map (·.size)=some 1:=by rw[o5];simp[l6]
 clear o5 l6;go_wp2_with (first|(with_reducible refine wpList_copy_nothing rfl (.tmp 79) (.tmp 80) _ _ rfl 5 Tryz.underlying34 m8 (cutA (some ⟨w.heap.size,0,none⟩) N T) none (T-N) (T-N) 0 0 rfl rfl (by simp) ?_)|(with_reducible refine bI9 rfl (.tmp 86) (.tmp 87) rfl (cutA (some ⟨w.heap.size,0,none⟩) N T) a (T-N) (T-N) l.length c' rfl rfl w.heap.size f7 (cs.toList.drop f7.length) n5.out l rfl m6 n7.out l9.out w.heap.size q6.out w.heap.size w p6.out (lR _) ?_);intro w2 m0 p7)
 go_roundw
 case rel=>
  refine⟨k+1,by omega,by go_num,by rw[HL.out],?_,p7⟩;rw[p0.out,HH.out,<-List.drop_drop];exact m0
 case measure=>simp[intOf];omega
structure Got(w:World)(base:Nat)(v:Value)(l:List UInt8):Prop where
 shape:∃A c,v=.slice A l.length c∧l.length<=c∧c<=9223372036854775807∧Rd w w.heap.size A (cells l)
 row:aH7 w base v
theorem Got.of_own{w:World}{base:Nat}{v:Value}{l:List UInt8}(h:Bs w base v l):Got w base v l:=by
 obtain⟨A,c,h1,h2,h3,h4⟩:=aC5 h;exact⟨⟨A,c,h1,h2,by omega,h4⟩,aH7.of_own h⟩
theorem Got.of_held{w:World}{base:Nat}{v:Value}{l:List UInt8}(h:dO1 w base v l)(hl:l.length<=9223372036854775807):Got w base v l:=by
 obtain⟨g,rest,rfl,hb,a8⟩:=h;refine⟨⟨_,_,rfl,lR _,hl,fun _=>⟨_,rfl,a8.lt,fun j u hu=>?_⟩⟩,.inr ⟨g,_,_,_,rfl,hb,a8,by simp[cells],lR _,hl⟩⟩;rw[show(⟨g,0,none⟩:Addr).add j=⟨g,j,none⟩ by simp[Addr.add_lit],a8.cell];have hj:j<(cells l).length:=(List.getElem?_eq_some_iff.1 hu).1;simp only[List.getElem?_toArray];rw[List.getElem?_append_left hj];exact hu
theorem Got.below{w w' :World}{base B:Nat}{v:Value}{l:List UInt8}(h:Got w base v l)(hb:Below B w w')(hB:w.heap.size<=B):Got w' base v l:=by
 obtain⟨A,c,h1,h2,h3,h4⟩:=h.shape;have a8:=hb.mono hB;exact⟨⟨A,c,h1,h2,h3,(h4.below a8).more a8.size⟩,h.row.keep fun g hg=>a8.block g (h.row.lt g hg)⟩
theorem Got.mono{w:World}{base base' :Nat}{v:Value}{l:List UInt8}(h:Got w base v l)(hb:base' <=base):Got w base' v l:=by
 refine⟨h.shape,?_⟩;rcases h.row with r|⟨g,n,cap,a8,r,hg,x⟩
 ·exact .inl r
 exact .inr ⟨g,n,cap,a8,r,by omega,x⟩
theorem bT1(A:Option Addr)(ps:List Row)(n c:Nat)(hn:n=ps.length)(w:World)(hr:Rd w w.heap.size A (ps.map Row.val))(hp:RRd w w.heap.size ps)(hl:ps.length<=140737488351232)(hf:(aE9 ps).length<=140737488351232)(a9:ps.length<=c):
  Calls Tryz.prog 30 #[.slice A n c,.slice none 0 0] w fun e w' =>∃v,e=.returned v∧Got w' w.heap.size v (aE9 ps)∧Below w.heap.size w w' :=by
 by_cases h2:2<=ps.length
 ·refine(dG3 A ps n c hn h2 w hr hp hl hf a9).mono ?_
  rintro e w' ⟨v,rfl,h,hb⟩;exact⟨v,rfl,.of_held h (by omega),hb⟩
 subst hn
 match ps,hr,hp,hf,a9,h2 with
 |[],hr,hp,hf,a9,h2=>
  clear hr hp hf hl h2;go_enter Tryz.func30,Tryz.ntmps30
  go_wp2;go_ret
  exact⟨_,rfl,.of_own (aZ5 w w.heap.size _ (lR _)),(lS _ _).alloc (lR _) _⟩
 |[r],hr,hp,hf,a9,h2=>
  obtain⟨ad,rfl,g8,a8⟩:=aQ1 hr (k:=0) (by simp);obtain⟨a,l,c'⟩:=r;have f6:=hp _ (List.mem_singleton.2 rfl);have d9:aE9 [Row.mk a l c']=l:=by simp[aE9]
  rw[d9] at hf⊢;have b8:w.cell? ad=some (.slice a l.length c'):=by
   rw[show ad.add 0=ad by simp[Addr.add]] at a8;exact a8
  have f7:Rd w w.heap.size a (cells l):=f6.1;have f9:0<c:=by simp at a9;omega
  clear hr hp f6 h2 d9 a8 a9;go_enter Tryz.func30,Tryz.ntmps30
  go_wp2_with (at_builtin;with_reducible refine aA6 rfl (.const (.slice none 0 0)) (.tmp 21) 34 rfl w.heap.size 5 (.int .u8 0) 1 Tryz.underlying34 aC6 rfl _ [] rfl (Own.nil _ _ _) w.heap.size a l.length c' _ rfl (aA1 _).symm f7 (aQ8 _) (by unfold maxLen;simp;omega) (by simp;omega) (lR _) ?_;intro v1 w1 d8 hg f8)
  go_ret
  refine⟨_,rfl,?_,aH1 hg⟩;rw[List.nil_append] at d8;exact .of_own d8
 |_::_::_,hr,hp,hf,a9,h2=>exact absurd (by simp) h2
end
section
open Go.RowKit Oct
theorem bW3{p:List UInt8}(h:¬1048576<p.length):aF1 p=cN8 p:=if_neg h
theorem cI1(W:World)(t:TypeId)(ps:List Row)(h:RRd W W.heap.size ps):Rd (W.alloc (.cells (ps.map Row.val).toArray t)) (W.alloc (.cells (ps.map Row.val).toArray t)).heap.size (some ⟨W.heap.size,0,none⟩) (ps.map Row.val)∧RRd (W.alloc (.cells (ps.map Row.val).toArray t)) (W.alloc (.cells (ps.map Row.val).toArray t)).heap.size ps:=by
 refine⟨(aF9 W t _).more (by simp),fun p hp=>⟨?_,(h p hp).2⟩⟩;have hb:Below W.heap.size W (W.alloc (.cells (ps.map Row.val).toArray t)):=(lS _ _).alloc (lR _) _;exact((h p hp).1.below hb).more hb.size
theorem RRd.below{w w' :World}{B:Nat}{ps:List Row}(h:RRd w B ps)(hb:Below B w w')(hB:B<=w'.heap.size):RRd w' w'.heap.size ps:=fun p hp=>⟨((h p hp).1.below hb).more hB,(h p hp).2⟩
theorem RRd.cons{w:World}{B:Nat}{A:Option Addr}{l:List UInt8}{c:Nat}{ps:List Row}(h:Rd w B A (cells l))(hl:l.length<=4611686018427387904)(k:RRd w B ps):RRd w B (Row.mk A l c::ps):=by
 intro p hp;rcases List.mem_cons.1 hp with rfl|hp
 ·exact⟨h,hl⟩
 exact k p hp
theorem RRd.snoc{w:World}{B:Nat}{A:Option Addr}{l:List UInt8}{c:Nat}{ps:List Row}(k:RRd w B ps)(h:Rd w B A (cells l))(hl:l.length<=4611686018427387904):RRd w B (ps++[Row.mk A l c]):=by
 intro p hp;rcases List.mem_append.1 hp with hp|hp
 ·exact k p hp
 obtain rfl:=List.mem_singleton.1 hp;exact⟨h,hl⟩
theorem RRd.nil{w:World}{B:Nat}:RRd w B []:=fun p hp=>by cases hp
theorem cS0(A:Option Addr)(p:List UInt8)(n c:Nat)(hn:n=p.length)(w:World)(hr:Rd w w.heap.size A (cells p))(hl:p.length<=140737488351232):
  Calls Tryz.prog 118 #[.slice A n c] w fun e w' =>∃v,e=.returned (.tuple #[v,.int .i64 (bI4 p)])∧Got w' w.heap.size v (aF1 p)∧Below w.heap.size w w' :=by
 subst hn;by_cases h0:1048576<p.length
 ·have h1:bI4 p=2:=if_pos h0
  have h2:aF1 p=[]:=if_pos h0;rw[h1,h2];clear h1 h2;go_enter Tryz.func118,Tryz.ntmps118
  go_wp2;go_ret2
  exact⟨_,rfl,.of_own (Own.nil _ _ _),lS _ _⟩
 have h1:bI4 p=0:=if_neg h0;have m8:=aN8 p.length (by omega);have HC:Hid (aF1 p=aE9 [Row.mk none (enc p.length) 0,Row.mk none p 0,Row.mk none (Crc.four (Crc.sum (enc p.length++p))) 0]):=qZ (by rw[bW3 h0];simp[aE9,cN8,head]);rw[h1];clear h1;go_enter Tryz.func118,Tryz.ntmps118
 go_wp2_with fail
 refine(cG0 p.length w (by omega)).mono ?_;rintro e w1 ⟨v1,rfl,g9,i6⟩;obtain⟨A1,c1,rfl,m9,m7,m4⟩:=aC5 g9;have hs:=Crc.sum_lt (enc p.length++p);have m3:(Crc.four (Crc.sum (enc p.length++p))).length=4:=Crc.four_length _;have a9:∀a b c,aE9 [Row.mk A1 (enc p.length) a,Row.mk A p b,c]=aE9 [Row.mk none (enc p.length) 0,Row.mk none p 0,Row.mk none c.l 0]:=fun a b c=>by simp[aE9]
 have f9:aE9 [Row.mk A1 (enc p.length) c1,Row.mk A p c]=enc p.length++p:=by simp[aE9]
 have l8:=(hr.below i6).more i6.size;have l4:RRd w1 w1.heap.size [Row.mk A1 (enc p.length) c1,Row.mk A p c]:=.cons m4 (by omega) (.cons l8 (by omega) .nil);obtain⟨k1,k2⟩:=cI1 w1 34 _ l4;have HS:=qZ hs;have H4:=qZ m3;have m6:=qZ a9;have l5:=qZ f9;have K1:=qZ k1;have K2:=qZ k2;have l9:=qZ l4;have j8:=(lS w1.heap.size w1).alloc (lR _) (.cells ([Row.mk A1 (enc p.length) c1,Row.mk A p c].map Row.val).toArray 34);have a8:=i6.alloc i6.size (.cells ([Row.mk A1 (enc p.length) c1,Row.mk A p c].map Row.val).toArray 34);clear hs m3 a9 f9 k1 k2 l4 hr l8 m4 g9;go_wp2_with fail
 refine(cV2 _ [Row.mk A1 (enc p.length) c1,Row.mk A p c] 2 2 rfl _ K1.out K2.out (by simp)).mono ?_;rintro e w2 ⟨rfl,l7⟩;rw[l5.out];have d9:=a8.trans (l7.mono a8.size);have f7:=j8.trans (l7.mono j8.size);clear l7 a8 K1 K2 j8;go_wp2_with fail
 refine(cH7 (Crc.sum (enc p.length++p)) _ rfl HS.out w2).mono ?_;rintro e w3 ⟨v3,rfl,f8,l6⟩;obtain⟨A3,c3,rfl,n5,n4,j6⟩:=aC5 f8;have f6:=d9.trans (l6.mono d9.size);have d8:=f7.trans (l6.mono f7.size);have m0:=l9.out.below d8 d8.size;generalize Crc.four (Crc.sum (enc p.length++p))=F at j6 H4 HC⊢
 have hF:F.length<=4:=by rw[H4.out];omega
 have g8:RRd w3 w3.heap.size [Row.mk A1 (enc p.length) c1,Row.mk A p c,Row.mk A3 F c3]:=m0.snoc j6 (by omega);obtain⟨k1,k2⟩:=cI1 w3 34 _ g8;have K1:=qZ k1;have K2:=qZ k2;have m5:Hid ((aE9 [Row.mk A1 (enc p.length) c1,Row.mk A p c,Row.mk A3 F c3]).length<=140737488351232):=qZ (by simp[aE9];omega);have a8:=f6.alloc f6.size (.cells ([Row.mk A1 (enc p.length) c1,Row.mk A p c,Row.mk A3 F c3].map Row.val).toArray 34);clear m0 g8 k1 k2 j6 f8 l6 d9 f6 f7 d8 l9 hF;go_wp2_with fail
 refine(bT1 _ [Row.mk A1 (enc p.length) c1,Row.mk A p c,Row.mk A3 F c3] 3 3 rfl _ K1.out K2.out (by simp) m5.out (by simp)).mono ?_;rintro e w4 ⟨v4,rfl,b8,m2⟩;rw[m6.out,<-HC.out] at b8;have j9:=a8.trans (m2.mono a8.size);have i4:=b8.mono a8.size;clear b8 m2 a8 K1 K2;go_wp2;go_ret2
 exact⟨_,rfl,i4,j9⟩
end
section
open Go.RowKit Oct
structure aG1(w:World)(base:Nat)(v:Value)(xs:List Value)(ls:List (List UInt8)):Prop where
 own:Own w base 34 v xs
 len:xs.length=ls.length
 got:∀i (h:i<xs.length) (h' :i<ls.length),Got w base xs[i] ls[i]
 apart:dM5 xs
 off:∀x∈xs,∀g,x.ownBlock=some g->v.ownBlock≠some g
theorem aG1.nil(w:World)(base:Nat):aG1 w base (.slice none 0 0) [] []:=
 ⟨Own.nil _ _ _,rfl,fun i h _=>absurd h (by simp),fun i j hi=>absurd hi (by simp),fun x hx=>by cases hx⟩
theorem aG1.below{w w' :World}{base:Nat}{v:Value}{xs:List Value}{ls:List (List UInt8)}(h:aG1 w base v xs ls){B:Nat}(hb:Below B w w')(hB:w.heap.size<=B):aG1 w' base v xs ls:=
 ⟨h.own.below hb hB,h.len,fun i hi hi' =>(h.got i hi hi').below hb hB,h.apart,h.off⟩
theorem aG1.drewN{w:World}{base:Nat}{v:Value}{xs:List Value}{ls:List (List UInt8)}(h:aG1 w base v xs ls)(n:Nat):aG1 (w.drewN n) base v xs ls:=
 h.below (aA3 (lS _ w) n) (lR _)
theorem Got.kept{w w' :World}{base:Nat}{v:Value}{l:List UInt8}(h:Got w base v l)(hk:∀g,v.ownBlock=some g->w'.heap[g]? =w.heap[g]?)(hs:w.heap.size<=w'.heap.size):Got w' base v l:=by
 obtain⟨⟨A,c,rfl,h2,h3,h4⟩,r⟩:=h;refine⟨⟨A,c,rfl,h2,h3,fun hn=>?_⟩,r.keep hk⟩;rcases r with r|⟨g,n,cap,a8,r,_⟩
 ·obtain⟨ad,h5,_⟩:=h4 hn
  injection r with r1
  rw[h5] at r1;cases r1
 obtain⟨ad,h5,h6,h7⟩:=h4 hn;injection r with r1
 refine⟨ad,h5,by omega,fun j u hu=>?_⟩;rw[h5] at r1;injection r1 with r1
 subst r1;exact(World.cell?_of_block (w:=w) (by rw[aC7];exact hk g (by rw[h5];rfl))).trans (h7 j u hu)
theorem aG1.push{w w1 w2:World}{base:Nat}{v v' x:Value}{xs:List Value}{ls:List (List UInt8)}{l:List UInt8}(h:aG1 w base v xs ls)(hb:Below w.heap.size w w1)(hx:Got w1 w.heap.size x l)(f6:base<=w.heap.size)
  (g8:Own w2 base 34 v' (xs++[x])) (hg:w1.grownBy w2 v.ownBlock) (hf:aR5 v' v.ownBlock w1.heap.size):aG1 w2 base v' (xs++[x]) (ls++[l]):=by
 have h1:=h.below hb (lR _);have f7:∀g,v.ownBlock=some g->g<w.heap.size:=fun g hv=>(h.own.lt g hv).2
 have d8:∀g,x.ownBlock=some g->w.heap.size<=g:=hx.row.base
 have f8:∀g,x.ownBlock=some g->g<w1.heap.size:=hx.row.lt
 have a8:∀y∈xs,∀g,y.ownBlock=some g->g<w.heap.size:=fun y hy g hg' =>by
  obtain⟨i,hi,rfl⟩:=List.getElem_of_mem hy;exact(h.got i hi (by rw[<-h.len];exact hi)).row.lt g hg'
 refine⟨g8,by simp[h.len],fun i hi hi' =>?_,?_,?_⟩
 ·by_cases hlt:i<xs.length
  ·rw[List.getElem_append_left hlt,List.getElem_append_left (by rw[<-h.len];exact hlt)]
   refine(h1.got i hlt (by rw[<-h.len];exact hlt)).kept (fun g hg' =>hg.block g ?_ ?_) hg.size
   ·exact Nat.lt_of_lt_of_le (a8 _ (lX hlt) g hg') hb.size
   exact fun e=>h.off _ (lX hlt) g hg' e.symm
  have f9:i=xs.length:=by simp at hi;omega
  subst f9;rw[List.getElem_append_right (lR _)];have e2:(ls++[l])[xs.length]'(hi')=l:=by
   rw[List.getElem_append_right (by rw[h.len];exact lR _)];simp
  rw[e2];simp only[Nat.sub_self,List.getElem_cons_zero];refine(hx.mono f6).kept (fun g hg' =>hg.block g (f8 g hg') ?_) hg.size;intro e;have a1:=f7 g e.symm;have a2:=d8 g hg';omega
 ·intro i j hi hj g9 g b8 a9
  simp only[lT,mC,List.length_nil] at hi hj;by_cases h1:i<xs.length<;>by_cases h2:j<xs.length
  ·rw[List.getElem_append_left h1] at b8
   rw[List.getElem_append_left h2] at a9;exact h.apart i j h1 h2 g9 g b8 a9
  ·rw[List.getElem_append_left h1] at b8
   have i4:j=xs.length:=by omega
   subst i4;rw[List.getElem_append_right (lR _)] at a9;simp at a9
   have a1:=a8 _ (lX h1) g b8;have a2:=d8 g a9;omega
  ·rw[List.getElem_append_left h2] at a9
   have f9:i=xs.length:=by omega
   subst f9;rw[List.getElem_append_right (lR _)] at b8;simp at b8
   have a1:=a8 _ (lX h2) g a9;have a2:=d8 g b8;omega
  omega
 intro y hy g b8 a9;have d9:v.ownBlock=some g∨w1.heap.size<=g:=by
  rcases hf with hf|⟨k,hf,hk⟩
  ·exact .inl (hf.symm.trans a9)
  rw[hf] at a9;injection a9 with a9
  subst a9;exact .inr hk
 rcases List.mem_append.1 hy with hy|hy
 ·rcases d9 with d9|d9
  ·exact h.off y hy g b8 d9
  have:=a8 y hy g b8;have:=hb.size;omega
 obtain rfl:=List.mem_singleton.1 hy;rcases d9 with d9|d9
 ·have a1:=f7 g d9
  have a2:=d8 g b8;omega
 have:=f8 g b8;omega
theorem bP8:(Tryz.prog.info? 34).map (fun i=>(i.zero,i.size,i.bytes))=some (some (.slice none 0 0),1,24):=by kernel_rfl
theorem bG4{P:Program}{W w:World}{ops:Array Oper}{rest:List Oper}{o:Oper}{a:Act}{Q:Exit->Act->World->Prop}(f6:o.guard=none)(s x:Operand)(t:TypeId)
  (ho:o.op=.call {callee:=.builtin .append,args:=#[s,x],argTypes:=#[t,t]})
  (base:Nat) (e:TypeId) (z:Value) (bytes:Nat) (ht:P.underlying t=some (.slice e)) (b8:(P.info? e).map (fun i=>(i.zero,i.size,i.bytes))=some (some z,1,bytes)) (f7:z.cells.size=1)
  (v:Value) (xs:List Value) (u:Value) (hW:W=w.alloc (.cells #[u] e)) (hs:a.eval s=v) (d8:Own w base e v xs)
  (hx:a.eval x=.slice (some ⟨w.heap.size,0,none⟩) 1 1) (h1:u.oneCell' =true)
  (d9:xs.length+1<=9223372036854775807) (a8:(xs.length+1)*bytes<=140737488355328) (a9:base<=w.heap.size)
  (h:∀v' w',Own w' base e v' (xs++[u])->w.grownBy w' v.ownBlock->aR5 v' v.ownBlock w.heap.size->wpList P ops Q rest (a.put o.dst v') w'):wpList P ops Q (o::rest) a W:=by
 subst hW;exact aO7 f6 s x t ho base e z bytes ht b8 f7 v xs u u rfl hs d8 hx h1 d9 a8 a9 h
def aO5(l:List UInt8)(a:Nat)(acc:List (List UInt8)):Prop:=∃f,l.length<a+f∧aE4 l=(acc++(aV0 l f a).1,(aV0 l f a).2)
theorem aO5.start(l:List UInt8):aO5 l 0 []:=⟨l.length+1,by omega,by simp[aE4]⟩
theorem aO5.done{l:List UInt8}{a:Nat}{acc:List (List UInt8)}(h:aO5 l a acc)(ha:l.length<=a):aE4 l=(acc,a,0):=by
 obtain⟨f,hf,h⟩:=h;rw[h];cases f with
 |zero=>simp[aV0]
 |succ f=>simp[aV0,ha]
theorem aO5.bad{l:List UInt8}{a:Nat}{acc:List (List UInt8)}(h:aO5 l a acc)(ha:a<l.length)(he:(aD2 (l.drop a)).2.2≠0):aE4 l=(acc,a,(aD2 (l.drop a)).2.2):=by
 obtain⟨f,hf,h⟩:=h;rw[h];cases f with
 |zero=>omega
 |succ f=>simp[aV0,show¬l.length<=a by omega,he]
theorem aO5.step{l:List UInt8}{a:Nat}{acc:List (List UInt8)}(h:aO5 l a acc)(ha:a<l.length)(he:(aD2 (l.drop a)).2.2=0):aO5 l (a+(aD2 (l.drop a)).2.1) (acc++[(aD2 (l.drop a)).1]):=by
 obtain⟨f,hf,h⟩:=h;have hp:=(aR1 he).2.1;cases f with
 |zero=>omega
 |succ f=>
  refine⟨f,by omega,?_⟩;rw[h];simp[aV0,show¬l.length<=a by omega,he]
theorem aG1.rd{w:World}{base:Nat}{A:Option Addr}{n c:Nat}{xs:List Value}{ls:List (List UInt8)}(h:aG1 w base (.slice A n c) xs ls):Rd w w.heap.size A xs:=by
 obtain⟨A',c',hv,_,_,hr⟩:=Own.shape h.own;injection hv with hv _ _
 rw[hv];exact hr
theorem aG1.at_{w:World}{base:Nat}{A:Option Addr}{n c:Nat}{xs:List Value}{ls:List (List UInt8)}(h:aG1 w base (.slice A n c) xs ls){k:Nat}(hk:k<ls.length):
  ∃ad a c',A=some ad∧ad.block<w.heap.size∧w.cell? (ad.add k)=some (.slice a ls[k].length c')∧Rd w w.heap.size a (cells ls[k])∧ls[k].length<=c' :=by
 have a8:k<xs.length:=by rw[h.len];exact hk
 obtain⟨ad,h1,h2,h3⟩:=h.rd.at_ a8;obtain⟨a,c',h4,h5,_,h6⟩:=(h.got k a8 hk).shape;rw[h4] at h3;exact⟨ad,a,c',h1,h2,h3,h6,h5⟩
end
section
open Go.RowKit Oct
theorem dD0(A:Option Addr)(l:List UInt8)(n c:Nat)(hn:n=l.length)(w:World)(hr:Rd w w.heap.size A (cells l))(n4:l.length<=c)(hl:l.length<=1099511627776∧c<=9223372036854775807):
  Calls Tryz.prog 144 #[.slice A n c] w fun e w' =>∃v xs,e=.returned (.tuple #[v,.int .i64 (aE4 l).2.1,.int .i64 (aE4 l).2.2])∧aG1 w' w.heap.size v xs (aE4 l).1∧Below w.heap.size w w' :=by
 subst hn;obtain⟨n7,n8⟩:=hl;go_enter Tryz.func144,Tryz.ntmps144
 go_wp2_with fail
 go_loopw [5,6,7,8,9] (fun v at_ _ _ _ wr=>∃(a:Nat) (f6:List (List UInt8)) (xs:List Value),a<=l.length∧at_=.int .i64 a∧f6.length<=a∧aO5 l a f6∧aG1 wr w.heap.size v xs f6∧Below w.heap.size w wr) (fun _ i _ _ _ _=>l.length-(intOf i).toNat)
 case atStart=>exact⟨0,[],[],by omega,rfl,by simp,aO5.start l,aG1.nil _ _,lS _ _⟩
 obtain⟨a,f6,xs,ha,rfl,l4,i4,b8,hb⟩:=hrel;by_cases hlt:a<l.length
 rotate_left
 ·obtain rfl:a=l.length:=by omega
  have HF:=qZ (i4.done (lR _));clear i4;go_wp2;go_ret3
  rw[HF.out];exact⟨_,_,rfl,b8,hb⟩
 have g9:(l.drop a).length=l.length-a:=lZ;have hcut:=fun W:World=>aH0 (P:=Tryz.prog) Tryz.underlying34 aC6 A l.length c a ha (a:Int) rfl W
 have j8:Rd wr wr.heap.size (cutA A a c) (cells (l.drop a)):=by
  have:=(Rd.cutA hr (k:=a) (cap:=c) (by rw[aA1];omega) (by rw[aA1];exact n4)).below hb;exact(by simpa[cells,List.map_drop] using this:Rd wr w.heap.size (cutA A a c) (cells (l.drop a))).more hb.size
 have m5:(a:Int)<l.length:=by omega
 have i6:=qZ g9.symm;have m2:=qZ i4;have f9:=b8.len;have j9:=qZ f9;have HG:=qZ b8;obtain⟨d,hd⟩:∃d,d=l.drop a:=⟨_,rfl⟩
 have n5:d.length<=c-a:=by rw[hd,g9];omega
 have m3:d.length<=140737488351232:=by rw[hd,g9];omega
 rw[<-hd] at j8 i6;have HD:=qZ hd;clear g9 i4 b8 f9 hd;go_wp2_with fail
 refine(cH5 (cutA A a c) d (l.length-a) (c-a) i6.out wr j8 n5 ⟨m3,by omega⟩).mono ?_;rintro e w1 ⟨p,rfl,j6,f7⟩;obtain⟨Ap,cp,rfl,_⟩:=aC5 j6;have a9:=hb.trans (f7.mono hb.size);by_cases he:(aD2 d).2.2=0
 ·have a8:=aR1 he
  have d8:aO5 l (a+(aD2 d).2.1) (f6++[(aD2 d).1]):=by
   have h1:=HD.out;rw[h1] at he⊢;exact m2.out.step hlt he
  have l9:=Got.of_own j6;have m7:=a8.2.1;have m9:=a8.2.2.1;have m8:d.length=l.length-a:=i6.out.symm;have n9:xs.length<=a:=by rw[j9.out];exact l4
  rw[he];have l8:=qZ d8;have m6:=qZ l9;generalize(aD2 d).2.1=U at m7 m9 l8⊢
  have hU:a+U<=l.length:=by omega
  clear j8 a8 d8 l9 j6 m8 he i6;have m0:=HG.out.own;have d9:=m0.below f7 (lR _);go_wp2_with (at_builtin;refine bG4 (w:=w1) rfl (.tmp 27) (.tmp 29) 23 rfl w.heap.size 34 (.slice none 0 0) 24 Tryz.underlying23 bP8 rfl u5 xs _ rfl rfl d9 rfl rfl (by omega) (by omega) a9.size ?_;intro v2 w2 g8 l6 l7)
  have l5:Below w.heap.size w w2:=a9.grown l6 a9.size (fun k hk=>(d9.lt k hk).1);have n6:=HG.out.push f7 m6.out hb.size g8 l6 l7;clear g8 l6 l7 m0 d9 f7 a9;go_wp2;go_roundw
  case rel=>exact⟨a+U,_,_,hU,by go_num,by simp;omega,l8.out,n6,l5⟩
  case measure=>simp[intOf];omega
 have f8:aE4 l=(f6,a,(aD2 d).2.2):=by
  have h1:=HD.out;rw[h1] at he⊢;exact m2.out.bad hlt he
 have h1:((aD2 d).2.2 !=0)=true:=by simpa using he
 have HF:=qZ f8;have m4:=HG.out.below f7 (lR _);clear j8 he f8 j6;go_wp2;go_ret3
 rw[HF.out];exact⟨_,_,rfl,m4,a9⟩
end
section
open Go.RowKit Oct
theorem cV0(A:Option Addr)(l:List UInt8)(n c:Nat)(hn:n=l.length)(w:World)(hr:Rd w w.heap.size A (cells l))(n4:l.length<=c)(hl:l.length<=1099511627776∧c<=9223372036854775807):
  Calls Tryz.prog 166 #[.slice A n c] w fun e w' =>∃v xs,e=.returned (.tuple #[v,.int .i64 (aE4 l).2.1,.int .i64 (aE4 l).2.2])∧aG1 w' w.heap.size v xs (aE4 l).1∧Below w.heap.size w w' :=by
 subst hn;obtain⟨n7,n8⟩:=hl;go_enter Tryz.func166,Tryz.ntmps166
 go_wp2_with fail
 go_loopw [5,6,7,8,9] (fun v at_ _ _ _ wr=>∃(a:Nat) (f6:List (List UInt8)) (xs:List Value),a<=l.length∧at_=.int .i64 a∧f6.length<=a∧aO5 l a f6∧aG1 wr w.heap.size v xs f6∧Below w.heap.size w wr) (fun _ i _ _ _ _=>l.length-(intOf i).toNat)
 case atStart=>exact⟨0,[],[],by omega,rfl,by simp,aO5.start l,aG1.nil _ _,lS _ _⟩
 obtain⟨a,f6,xs,ha,rfl,l4,i4,b8,hb⟩:=hrel;by_cases hlt:a<l.length
 rotate_left
 ·obtain rfl:a=l.length:=by omega
  have HF:=qZ (i4.done (lR _));clear i4;go_wp2;go_ret3
  rw[HF.out];exact⟨_,_,rfl,b8,hb⟩
 have g9:(l.drop a).length=l.length-a:=lZ;have hcut:=fun W:World=>aH0 (P:=Tryz.prog) Tryz.underlying34 aC6 A l.length c a ha (a:Int) rfl W
 have j8:Rd wr wr.heap.size (cutA A a c) (cells (l.drop a)):=by
  have:=(Rd.cutA hr (k:=a) (cap:=c) (by rw[aA1];omega) (by rw[aA1];exact n4)).below hb;exact(by simpa[cells,List.map_drop] using this:Rd wr w.heap.size (cutA A a c) (cells (l.drop a))).more hb.size
 have m5:(a:Int)<l.length:=by omega
 have i6:=qZ g9.symm;have m2:=qZ i4;have f9:=b8.len;have j9:=qZ f9;have HG:=qZ b8;obtain⟨d,hd⟩:∃d,d=l.drop a:=⟨_,rfl⟩
 have n5:d.length<=c-a:=by rw[hd,g9];omega
 have m3:d.length<=140737488351232:=by rw[hd,g9];omega
 rw[<-hd] at j8 i6;have HD:=qZ hd;clear g9 i4 b8 f9 hd;go_wp2_with fail
 refine(cA2 (cutA A a c) d (l.length-a) (c-a) i6.out wr j8 n5 ⟨m3,by omega⟩).mono ?_;rintro e w1 ⟨p,rfl,j6,f7⟩;obtain⟨Ap,cp,rfl,_⟩:=aC5 j6;have a9:=hb.trans (f7.mono hb.size);by_cases he:(aD2 d).2.2=0
 ·have a8:=aR1 he
  have d8:aO5 l (a+(aD2 d).2.1) (f6++[(aD2 d).1]):=by
   have h1:=HD.out;rw[h1] at he⊢;exact m2.out.step hlt he
  have l9:=Got.of_own j6;have m7:=a8.2.1;have m9:=a8.2.2.1;have m8:d.length=l.length-a:=i6.out.symm;have n9:xs.length<=a:=by rw[j9.out];exact l4
  rw[he];have l8:=qZ d8;have m6:=qZ l9;generalize(aD2 d).2.1=U at m7 m9 l8⊢
  have hU:a+U<=l.length:=by omega
  clear j8 a8 d8 l9 j6 m8 he i6;have m0:=HG.out.own;have d9:=m0.below f7 (lR _);go_wp2_with (at_builtin;refine bG4 (w:=w1) rfl (.tmp 27) (.tmp 29) 23 rfl w.heap.size 34 (.slice none 0 0) 24 Tryz.underlying23 bP8 rfl u5 xs _ rfl rfl d9 rfl rfl (by omega) (by omega) a9.size ?_;intro v2 w2 g8 l6 l7)
  have l5:Below w.heap.size w w2:=a9.grown l6 a9.size (fun k hk=>(d9.lt k hk).1);have n6:=HG.out.push f7 m6.out hb.size g8 l6 l7;clear g8 l6 l7 m0 d9 f7 a9;go_wp2;go_roundw
  case rel=>exact⟨a+U,_,_,hU,by go_num,by simp;omega,l8.out,n6,l5⟩
  case measure=>simp[intOf];omega
 have f8:aE4 l=(f6,a,(aD2 d).2.2):=by
  have h1:=HD.out;rw[h1] at he⊢;exact m2.out.bad hlt he
 have h1:((aD2 d).2.2 !=0)=true:=by simpa using he
 have HF:=qZ f8;have m4:=HG.out.below f7 (lR _);clear j8 he f8 j6;go_wp2;go_ret3
 rw[HF.out];exact⟨_,_,rfl,m4,a9⟩
end
section
open Go.RowKit Oct
theorem aH7.mono{w:World}{base base' :Nat}{v:Value}(h:aH7 w base v)(hb:base' <=base):aH7 w base' v:=by
 rcases h with r|⟨g,n,cap,a8,r,hg,x⟩
 ·exact .inl r
 exact .inr ⟨g,n,cap,a8,r,by omega,x⟩
theorem aH7.below{w w' :World}{base B:Nat}{v:Value}(h:aH7 w base v)(hb:Below B w w')(hB:w.heap.size<=B):aH7 w' base v:=
 h.keep fun g hg=>hb.block g (Nat.lt_of_lt_of_le (h.lt g hg) hB)
theorem Got.rd{w:World}{base:Nat}{A:Option Addr}{n c:Nat}{l:List UInt8}(h:Got w base (.slice A n c) l):Rd w w.heap.size A (cells l)∧n=l.length∧l.length<=c∧c<=9223372036854775807:=by
 obtain⟨A',c',h1,h2,h3,h4⟩:=h.shape;injection h1 with h1 h5 h6
 subst h1;subst h5;subst h6;exact⟨h4,rfl,h2,h3⟩
end
end Go.Proofs.YtgeofijddhflaaaGreatDoor
