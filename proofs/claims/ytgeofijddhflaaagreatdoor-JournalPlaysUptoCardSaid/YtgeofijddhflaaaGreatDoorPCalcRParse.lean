/- The reference of layer 3: Parse. Condition: the text is at most 2^47 bytes. -/
import Derived.Test.YtgeofijddhflaaaGreatDoorPHeldS
import Derived.Test.YtgeofijddhflaaaGreatDoorShelfB
import Derived.Deep.DeepCutAuto
import Derived.Deep.CutBlock
set_option linter.unusedVariables false
set_option linter.unusedSimpArgs false
set_option maxHeartbeats 8000000
set_option maxRecDepth 100000
namespace Go.Proofs.YtgeofijddhflaaaGreatDoor
open Go.RowKit Oct
def aC2(w:World):Prop:=∃tp p,w.var? Tryz.prog "strconv.ErrRange" =some #[.iface tp p]
theorem aC2.a1{w w' :World}(h:aC2 w)(a:Below w w w'):aC2 w' :=by
 obtain⟨b,p,h⟩:=h;exact⟨b,p,aH7 h a⟩
theorem bN6(c:UInt8):decide (((c.toNat:Int)-48) %256<10)=xN c:=by
 have:=c.toNat_lt;unfold xN;by_cases h:48<=c.toNat∧c.toNat<=57;rw[decide_eq_true h,decide_eq_true O];rw[decide_eq_false h,decide_eq_false O]
theorem aE2(c:UInt8)(w:World):Calls Tryz.prog 173 #[.int .u8 (c.toNat:Int)] w fun e b =>e=.returned (.bool (xN c))∧w=b :=by
 have a:=J (bN6 c);go_enter Tryz.func173,Tryz.ntmps173;go_wp2;go_ret;exact⟨by rw[<-a.o];rfl,rfl⟩
theorem aO4(l:List UInt8):(iS l).length<=l:=by
 unfold iS;exact(List.takeWhile_sublist _).length_le
theorem aF3(l:List UInt8):iS l=l.take (iS l).length:=by
 have h:iS l<+:l:=List.takeWhile_prefix _;exact List.prefix_iff_eq_take.1 h
theorem bI2(s:ByteArray)(hs:s.size<=140737488351232)(w:World)(W:aC2 w):
  Calls Tryz.prog 143 #[.string s] w fun e w' =>e=.returned (.tuple #[.int .i64 (cG s.data.toList).1,.int .i64 (cG s.data.toList).2.1,.int .i64 (cG s.data.toList).2.2])∧Below w w w' :=by
 have HE:=J W;clear W;obtain⟨L,M⟩:=eX ((iS s.data.toList).length);have m5:L<=s.size:=by
  have:=aO4 s.data.toList;rw[M];simpa using this
 have b:=J M;clear M;go_enter Tryz.func143,Tryz.ntmps143;go_upto_block 0 with fail
 go_cut [5] (fun v wx=>v=.int .i64 L∧wx=w)
 case first=>
  go_wp2_with fail;go_loop [5] (fun i=>∃k:Nat,k<=s.size∧i=.int .i64 k∧Hq (∀j (A:j<s.data.toList.length),j<k->xN s.data.toList[j]=true)) (fun i=>s.size-(intOf i).toNat)
  case atStart=>exact⟨0,O,rfl,J (fun j A h=>O)⟩
  obtain⟨k,Y,rfl,F⟩:=hrel;by_cases f:k<s.size
  ·have l8:k<s.data.toList:=by simpa using f
   by_cases u:xN s[k]=true
   ·have g8:Hq (∀j (A:j<s.data.toList.length),j<k+1->xN s.data.toList[j]=true):=J fun j A h=>by
     by_cases Q:j=k;subst Q;exact u;exact F.o j A O
    have E:=J u;clear u;go_wp2_with (go_at_call 173;refine(aE2 s[k] _).mono ?_;rintro e D ⟨rfl,rfl⟩;rw[E.o]);go_round
    case rel=>exact⟨k+1,O,by go_num,g8⟩
    case measure=>simp[intOf];omega
   have S:xN s[k]=false:=by simpa using u
   have p:=xT s.data.toList k F.o (by simpa using Y) (.inr ⟨l8,S⟩);have R:L=k:=by rw[b.o,p,lV];simp;omega
   have E:=J S;clear u S p;subst R;go_wp2_with (go_at_call 173;refine(aE2 s[L] _).mono ?_;rintro e D ⟨rfl,rfl⟩;rw[E.o]);go_meet;exact⟨rfl,rfl⟩
  have l6:k=s.data.toList:=by simp;omega
  have p:=xT s.data.toList k F.o (by simpa using Y) (.inl l6);have R:L=k:=by rw[b.o,p,lV];simp;omega
  clear p l6;subst R;go_wp2;go_meet;exact⟨rfl,rfl⟩
 obtain⟨rfl,rfl⟩:=hcut;by_cases c:s.data.toList=[]
 ·obtain rfl:s=⟨#[]⟩:=by
   obtain⟨⟨l⟩⟩:=s;simp at c;subst c;rfl
  have Z:cG []=(0,0,3):=rfl;have d:Hq (cG (⟨#[]⟩:ByteArray).data.toList=(0,0,3)):=J Z;clear Z c b;go_wp2;go_ret3;rw[d.o];exact⟨rfl,lS _ _⟩
 have l9:0<s.size:=by
  have:=List.length_pos_iff.2 c;simpa using this
 have m6:s.toList.isEmpty=false:=by
  rw[toList_eq];exact List.isEmpty_eq_false_iff.2 c
 have f:=aF3 s.data.toList;have m:(s.extract 0 L).data.toList=iS s.data.toList:=by
  rw[Lib.extract_data,f,<-b.o];simp
 have n:s.data.toList.head?=some s[0]:=by
  rw[List.head?_eq_getElem?,lW (by simpa using l9)];rfl
 by_cases I:L=0
 ·have d:Hq (cG s.data.toList=(0,0,4)):=J (by
   unfold cG;rw[if_neg c,if_pos (.inl (mD (by rw[<-b.o];exact I)))])
  subst I;clear b f m n c;go_wp2;go_ret3;rw[d.o];exact⟨rfl,lS _ _⟩
 have q:iS s.data.toList≠[]:=fun h=>I (by rw[b.o,h];rfl)
 have d1:((L:Int)==0)=false:=mN.2 O;by_cases g:1<L∧s[0]=48
 ·have d:Hq (cG s.data.toList=(0,0,4)):=J (by
   unfold cG;rw[if_neg c,if_pos (.inr ⟨by rw[<-b.o];exact g.1,by rw[n,g.2]⟩)])
  obtain⟨h3,U⟩:=g;have z:((s[0].toNat:Int)==48)=true:=by rw[U];rfl
  have m3:(1:Int)<L:=O;clear b f m n c U q;go_wp2;go_ret3;rw[d.o];exact⟨rfl,lS _ _⟩
 have H:=aO5 s.data.toList;have B:=cF1 (iS s.data.toList) q H;have C:¬(iS s.data.toList=[]∨(1<(iS s.data.toList).length∧s.data.toList.head?=some 48)):=by
  rintro(h|⟨h,r⟩);exact q h;rw[n] at r;injection r with r
  exact g ⟨by rw[b.o];exact h,r⟩
 have l7:(s.extract 0 L).size<=140737488351232:=by rw[ByteArray.size_extract];omega
 have z:1<L->((s[0].toNat:Int)==48)=false:=fun h=>mN.2 (fun r =>g ⟨h,by
  apply UInt8.toNat_inj.1;have:(48:UInt8).toNat=48:=rfl;omega⟩)
 have x:=J z;by_cases a:9223372036854775807<valD (iS s.data.toList)
 ·have d:Hq (cG s.data.toList=(0,0,20)):=J (by
   unfold cG;rw[if_neg c,if_neg C,if_pos a])
  have HR:Hq (Lib.parseIntB 64 (s.extract 0 L).data.toList=.range):=J (by rw[m];exact B.1 a);clear B C m f n c q H a g z b;obtain⟨tp,pe,i4⟩:=HE.o;have HV:=J i4;clear i4;obtain⟨SV,l5⟩:=eX (Lib.intSat 64 (s.extract 0 L).data.toList);have y:=J (Tryz.strconv_ParseInt_10_at64_range_var (s.extract 0 L) O HR.o tp pe wc HV.o);rw[<-l5] at y;clear l5 l7;by_cases K:1<L;rotate_left;have G:=trivial;rotate_left;have G:=x.o K
  all_goals
   clear x;go_wp2_with fail;refine y.o.mono ?_;rintro e D ⟨N,rfl,_,_,P⟩;go_wp2;go_ret3;rw[d.o];exact⟨rfl,P⟩
 have d:Hq (cG s.data.toList=((valD (iS s.data.toList):Int),L,0)):=J (by
  unfold cG;rw[if_neg c,if_neg C,if_neg a,<-b.o])
 have T:=B.2 O;obtain⟨V,X⟩:=eX (valD (iS s.data.toList));rw[<-X] at T d;have y:=J (Tryz.strconv_ParseInt_10_at64_ok (s.extract 0 L) O (V:Int) (by rw[m];exact T) wc);clear B C m f n c q H a g z b T X l7;by_cases K:1<L;rotate_left;have G:=trivial;rotate_left;have G:=x.o K
 all_goals
  clear x;go_wp2_with fail;refine y.o.mono ?_;rintro e D ⟨rfl,hw⟩;have P:Below wc wc D:=by
   rcases hw with rfl|⟨t,rfl⟩
   exact lS _ _;exact Lib.bytesWorld_below _ _ _
  clear hw;go_wp2;go_ret3;rw[d.o];exact⟨rfl,P⟩
theorem aZ6(s:ByteArray)(hs:s.size<=140737488351232)(w:World):
  Calls Tryz.prog 165 #[.string s] w fun e w' =>e=.returned (.tuple #[.int .i64 (cG s.data.toList).1,.int .i64 (cG s.data.toList).2.1,.int .i64 (cG s.data.toList).2.2])∧w=w' :=by
 by_cases f:s.data.toList=[]
 ·have d:Hq (cG s.data.toList=(0,0,3)):=J (by rw[f];rfl)
  have hz:s.size=0:=by
   have:=congrArg List.length f;simpa using this
  have d0:((s.size:Int)==0)=true:=by rw[hz];rfl
  clear f hz;go_enter Tryz.func165,Tryz.ntmps165;go_wp2;go_ret3;rw[d.o];exact⟨rfl,rfl⟩
 have m7:0<s.size:=by
  have:=List.length_pos_iff.2 f;simpa using this
 have d0:((s.size:Int)==0)=false:=mN.2 O;obtain⟨L,G⟩:=eX ((iS s.data.toList).length);have m9:L<=s.size:=by
  have:=aO4 s.data.toList;rw[G];simpa using this
 have b:=J G;have u:=J f;clear G f;go_enter Tryz.func165,Tryz.ntmps165;go_upto_block 0 with fail
 go_cut [5] (fun v wx=>v=.int .i64 L∧wx=w)
 case first=>
  go_wp2_with fail;go_loop [5] (fun i=>∃k:Nat,k<=s.size∧i=.int .i64 k∧Hq (∀j (y:j<s.data.toList.length),j<k->xN s.data.toList[j]=true)) (fun i=>s.size-(intOf i).toNat)
  case atStart=>exact⟨0,O,rfl,J (fun j y h=>O)⟩
  obtain⟨k,M,rfl,C⟩:=hrel;by_cases a:k<s.size;rotate_left
  ·have A:k=s.data.toList:=by simp;omega
   have l:=xT s.data.toList k C.o (by simpa using M) (.inl A);have P:L=k:=by rw[b.o,l,lV];simp;omega
   clear l A;subst P;go_wp2;go_meet;exact⟨rfl,rfl⟩
  have z:k<s.data.toList:=by simpa using a
  by_cases q:xN s[k]=true
  ·have i4:Hq (∀j (y:j<s.data.toList.length),j<k+1->xN s.data.toList[j]=true):=J fun j y h=>by
    by_cases K:j=k;subst K;exact q;exact C.o j y O
   obtain⟨x,E⟩:=of_decide_eq_true q;have m3:(48:Int)<=(s[k].toNat:Int):=O;have m5:(s[k].toNat:Int)<=57:=O;clear q;go_wp2;go_round
   case rel=>exact⟨k+1,O,by go_num,i4⟩
   case measure=>simp[intOf];omega
  have Q:xN s[k]=false:=by simpa using q
  have l:=xT s.data.toList k C.o (by simpa using M) (.inr ⟨z,Q⟩);have P:L=k:=by rw[b.o,l,lV];simp;omega
  have hn:=of_decide_eq_false Q;clear q Q l;subst P;by_cases hlo:s[L].toNat<48
  ·have x:¬(48:Int)<=(s[L].toNat:Int):=O
   go_wp2;go_meet;exact⟨rfl,rfl⟩
  have x:(48:Int)<=(s[L].toNat:Int):=O;have E:¬(s[L].toNat:Int)<=57:=O;go_wp2;go_meet;exact⟨rfl,rfl⟩
 obtain⟨rfl,rfl⟩:=hcut;have a:=aF3 s.data.toList;have r:s.data.toList.head?=some s[0]:=by
  rw[List.head?_eq_getElem?,lW (by simpa using m7)];rfl
 by_cases F:L=0
 ·have d:Hq (cG s.data.toList=(0,0,4)):=J (by
   unfold cG;rw[if_neg u.o,if_pos (.inl (mD (by rw[<-b.o];exact F)))])
  subst F;clear b a r;go_wp2;go_ret3;rw[d.o];exact⟨rfl,rfl⟩
 have R:iS s.data.toList≠[]:=fun h=>F (by rw[b.o,h];rfl)
 have d1:((L:Int)==0)=false:=mN.2 O;by_cases g:1<L∧s[0]=48
 ·have d:Hq (cG s.data.toList=(0,0,4)):=J (by
   unfold cG;rw[if_neg u.o,if_pos (.inr ⟨by rw[<-b.o];exact g.1,by rw[r,g.2]⟩)])
  obtain⟨h3,X⟩:=g;have B:((s[0].toNat:Int)==48)=true:=by rw[X];rfl
  have m8:(1:Int)<L:=O;clear b a r X R;go_wp2;go_ret3;rw[d.o];exact⟨rfl,rfl⟩
 have S:¬(iS s.data.toList=[]∨(1<(iS s.data.toList).length∧s.data.toList.head?=some 48)):=by
  rintro(h|⟨h,p⟩);exact R h;rw[r] at p;injection p with p
  exact g ⟨by rw[b.o];exact h,p⟩
 have B:1<L->((s[0].toNat:Int)==48)=false:=fun h=>mN.2 (fun p =>g ⟨h,by
  apply UInt8.toNat_inj.1;have:(48:UInt8).toNat=48:=rfl;omega⟩)
 rw[<-b.o] at a;have W:Hq (9223372036854775807<valD (s.data.toList.take L)->cG s.data.toList=(0,0,20)):=J fun h=>by
  unfold cG;rw[if_neg u.o,if_neg S,if_pos (by rw[a];exact h)]
 have l9:Hq (¬9223372036854775807<valD (s.data.toList.take L)->cG s.data.toList=((valD (s.data.toList.take L):Int),L,0)):=J fun h=>by
  unfold cG;rw[if_neg u.o,if_neg S,if_neg (by rw[a];exact h),<-b.o,a]
 have HD:Hq (∀i (hi:i<s.data.toList.length),i<L->xN s.data.toList[i]=true):=J fun i hi hiL=>by
  have:=aO5 s.data.toList s.data.toList[i] (by
   rw[a];exact List.mem_take_iff_getElem.2 ⟨i,O,rfl⟩)
  exact this
 have T:=J B;clear S a r R g B b;by_cases h5:1<L;rotate_left;have d3:=trivial;rotate_left;have d3:=T.o h5
 all_goals
  clear T;go_wp2_with fail;go_loop [7,6,8] (fun i n _=>∃k:Nat,k<=L∧i=.int .i64 k∧n=.int .i64 (valD (s.data.toList.take k):Nat)∧valD (s.data.toList.take k)<=9223372036854775807) (fun i _ _=>L-(intOf i).toNat)
  case atStart=>exact⟨0,O,rfl,rfl,by simp[valD]⟩
  obtain⟨k,M,rfl,rfl,hv⟩:=hrel;by_cases a:k<L;rotate_left
  ·obtain rfl:k=L:=O
   have d:=J (l9.o O);clear l9 W;generalize valD (s.data.toList.take k)=V at hv d⊢;go_wp2;go_ret3;rw[d.o];exact⟨rfl,rfl⟩
  have A:k<s.size:=O;have z:k<s.data.toList:=by simpa using A
  have D:=HD.o k z a;have I:s.data.toList[k]=s[k]:=rfl;rw[I] at D;obtain⟨x,E⟩:=of_decide_eq_true D;have t:=bL2 s.data.toList k z;rw[I] at t;have U:valD (s.data.toList.take (k+1))<=valD (s.data.toList.take L):=by
   have h:=bL1 (s.data.toList.take L) (k+1);rw[List.take_take,Nat.min_eq_left O] at h;exact h
  have m3:(48:Int)<=(s[k].toNat:Int):=O;have m5:(s[k].toNat:Int)<=57:=O;have n8:(k:Int)<L:=O;have n9:(k:Int)<s.size:=O;obtain⟨V,Y⟩:=eX (valD (s.data.toList.take k));obtain⟨c,H⟩:∃c:Nat,c=s[k].toNat:=⟨_,rfl⟩
  rw[<-Y] at t hv⊢;rw[<-H] at t m3 m5 x E;have n5:(s[k].toNat:Int)=(c:Int):=by rw[H]
  have m:=J t;have N:=J U;clear t U D I Y H;by_cases Z:9223372036854775807<10*V+(c-48)
  ·have j6:(9223372036854775807-((c:Int)-48))/10<(V:Int):=O
   have d:=J (W.o (ω2 m.o N.o));clear Z m N;go_wp2;go_ret3;rw[d.o];exact⟨rfl,rfl⟩
  have j6:(V:Int)<=(9223372036854775807-((c:Int)-48))/10:=O;have o8:10*(V:Int)<=9223372036854775807:=O;have o9:10*(V:Int)+((c:Int)-48)<=9223372036854775807:=O;have HN:Hq (10*(V:Int)+((c:Int)-48)=((valD (s.data.toList.take (k+1)):Nat):Int)):=J (by rw[m.o];omega);have m6:Hq (valD (s.data.toList.take (k+1))<=9223372036854775807):=J (by rw[m.o];omega);clear Z m N;go_wp2;exact⟨⟨k+1,O,by go_num,by rw[HN.o],m6.o⟩,by simp[intOf];omega⟩
end Go.Proofs.YtgeofijddhflaaaGreatDoor
