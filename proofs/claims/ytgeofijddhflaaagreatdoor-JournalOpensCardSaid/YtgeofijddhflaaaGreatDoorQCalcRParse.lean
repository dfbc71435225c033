/- The reference of layer 3: Parse. Condition: the text is at most 2^47 bytes. -/
import Derived.Test.YtgeofijddhflaaaGreatDoorQCalcSmall
import Derived.Test.YtgeofijddhflaaaGreatDoorQHeldS
import Derived.Test.YtgeofijddhflaaaGreatDoorShelfB
import Derived.Deep.DeepCutAuto
import Derived.Deep.CutBlock
set_option maxHeartbeats 8000000
set_option maxRecDepth 100000
namespace Go.Proofs.YtgeofijddhflaaaGreatDoor
section
open Go.RowKit Oct
def dA6(w:World):Prop:=∃tp p,w.var? Tryz.prog "strconv.ErrRange" =some #[.iface tp p]
theorem dA6.below{w w' :World}(h:dA6 w)(hb:Below w.heap.size w w'):dA6 w' :=by
 obtain⟨tp,p,h⟩:=h;exact⟨tp,p,bZ4 h hb⟩
theorem dG5(c:UInt8):decide (((c.toNat:Int)-48) %256<10)=isD c:=by
 have:=c.toNat_lt;unfold isD;by_cases h:48<=c.toNat∧c.toNat<=57
 ·rw[decide_eq_true h,decide_eq_true (by omega)]
 rw[decide_eq_false h,decide_eq_false (by omega)]
theorem bW1(c:UInt8)(w:World):Calls Tryz.prog 173 #[.int .u8 (c.toNat:Int)] w fun e w' =>e=.returned (.bool (isD c))∧w=w' :=by
 have HD:=qZ (dG5 c);go_enter Tryz.func173,Tryz.ntmps173
 go_wp2;go_ret
 exact⟨by rw[<-HD.out];rfl,rfl⟩
theorem cG8(l:List UInt8):(aX3 l).length<=l.length:=by
 unfold aX3;exact(List.takeWhile_sublist _).length_le
theorem cA8(l:List UInt8):aX3 l=l.take (aX3 l).length:=by
 have h:aX3 l<+:l:=List.takeWhile_prefix _;exact List.prefix_iff_eq_take.1 h
theorem cS7(s:ByteArray)(hs:s.size<=140737488351232)(w:World)(hE:dA6 w):
  Calls Tryz.prog 143 #[.string s] w fun e w' =>e=.returned (.tuple #[.int .i64 (aE0 s.data.toList).1,.int .i64 (aE0 s.data.toList).2.1,.int .i64 (aE0 s.data.toList).2.2])∧Below w.heap.size w w' :=by
 have HE:=qZ hE;clear hE;obtain⟨L,hL⟩:∃L,L=(aX3 s.data.toList).length:=⟨_,rfl⟩
 have l6:L<=s.size:=by
  have:=cG8 s.data.toList;rw[hL]
  simpa using this
 have HL:=qZ hL;clear hL;go_enter Tryz.func143,Tryz.ntmps143
 go_upto_block 0 with fail
 go_cut [5] (fun v wx=>v=.int .i64 L∧wx=w)
 case first=>
  go_wp2_with fail
  go_loop [5] (fun i=>∃k:Nat,k<=s.size∧i=.int .i64 k∧Hid (∀j (hj:j<s.data.toList.length),j<k->isD s.data.toList[j]=true)) (fun i=>s.size-(intOf i).toNat)
  case atStart=>exact⟨0,by omega,rfl,qZ (fun j hj h=>by omega)⟩
  obtain⟨k,hk,rfl,a9⟩:=hrel;by_cases d8:k<s.size
  ·have l4:k<s.data.toList.length:=by simpa using d8
   by_cases hd:isD s[k]=true
   ·have f6:Hid (∀j (hj:j<s.data.toList.length),j<k+1->isD s.data.toList[j]=true):=qZ fun j hj h=>by
     by_cases hjk:j=k
     ·subst hjk
      exact hd
     exact a9.out j hj (by omega)
    have HD:=qZ hd;clear hd;go_wp2_with (go_at_call 173;refine(bW1 s[k] _).mono ?_;rintro e w1 ⟨rfl,rfl⟩;rw[HD.out])
    go_round
    case rel=>exact⟨k+1,by omega,by go_num,f6⟩
    case measure=>simp[intOf];omega
   have i6:isD s[k]=false:=by simpa using hd
   have a8:=bS0 s.data.toList k a9.out (by simpa using hk) (.inr ⟨l4,i6⟩);have g9:L=k:=by rw[HL.out,a8,lV];simp;omega
   have HD:=qZ i6;clear hd i6 a8;subst g9;go_wp2_with (go_at_call 173;refine(bW1 s[L] _).mono ?_;rintro e w1 ⟨rfl,rfl⟩;rw[HD.out])
   go_meet;exact⟨rfl,rfl⟩
  have j8:k=s.data.toList.length:=by simp;omega
  have a8:=bS0 s.data.toList k a9.out (by simpa using hk) (.inl j8);have g9:L=k:=by rw[HL.out,a8,lV];simp;omega
  clear a8 j8;subst g9;go_wp2;go_meet;exact⟨rfl,rfl⟩
 obtain⟨rfl,rfl⟩:=hcut;by_cases h0:s.data.toList=[]
 ·obtain rfl:s=⟨#[]⟩:=by
   obtain⟨⟨l⟩⟩:=s;simp at h0
   subst h0
   rfl
  have hp:aE0 []=(0,0,3):=rfl;have HP:Hid (aE0 (⟨#[]⟩:ByteArray).data.toList=(0,0,3)):=qZ hp;clear hp h0 HL;go_wp2;go_ret3
  rw[HP.out];exact⟨rfl,lS _ _⟩
 have l5:0<s.size:=by
  have:=List.length_pos_iff.2 h0
  simpa using this
 have l8:s.toList.isEmpty=false:=by
  rw[toList_eq];exact List.isEmpty_eq_false_iff.2 h0
 have d8:=cA8 s.data.toList;have d9:(s.extract 0 L).data.toList=aX3 s.data.toList:=by
  rw[Lib.extract_data,d8,<-HL.out];simp
 have hh:s.data.toList.head?=some s[0]:=by
  rw[List.head?_eq_getElem?,lW (by simpa using l5)]
  rfl
 by_cases h1:L=0
 ·have HP:Hid (aE0 s.data.toList=(0,0,4)):=qZ (by
   unfold aE0;rw[if_neg h0,if_pos (.inl (mD (by rw[<-HL.out];exact h1)))])
  subst h1;clear HL d8 d9 hh h0;go_wp2;go_ret3
  rw[HP.out];exact⟨rfl,lS _ _⟩
 have f8:aX3 s.data.toList≠[]:=fun h=>h1 (by rw[HL.out,h];rfl)
 have d1:((L:Int)==0)=false:=beq_eq_false_iff_ne.2 (by omega);by_cases h2:1<L∧s[0]=48
 ·have HP:Hid (aE0 s.data.toList=(0,0,4)):=qZ (by
   unfold aE0;rw[if_neg h0,if_pos (.inr ⟨by rw[<-HL.out];exact h2.1,by rw[hh,h2.2]⟩)])
  obtain⟨h3,h4⟩:=h2;have d2:((s[0].toNat:Int)==48)=true:=by rw[h4];rfl
  have l7:(1:Int)<L:=by omega
  clear HL d8 d9 hh h0 h4 f8;go_wp2;go_ret3
  rw[HP.out];exact⟨rfl,lS _ _⟩
 have b8:=cK0 s.data.toList;have f9:=dO6 (aX3 s.data.toList) f8 b8;have g8:¬(aX3 s.data.toList=[]∨(1<(aX3 s.data.toList).length∧s.data.toList.head?=some 48)):=by
  rintro(h|⟨h,h'⟩)
  ·exact f8 h
  rw[hh] at h';injection h' with h'
  exact h2 ⟨by rw[HL.out];exact h,h'⟩
 have j9:(s.extract 0 L).size<=140737488351232:=by rw[ByteArray.size_extract];omega
 have d2:1<L->((s[0].toNat:Int)==48)=false:=fun h=>beq_eq_false_iff_ne.2 (fun h' =>h2 ⟨h,by
  apply UInt8.toNat_inj.1
  have:(48:UInt8).toNat=48:=rfl;omega⟩)
 have D2:=qZ d2;by_cases hbig:9223372036854775807<valD (aX3 s.data.toList)
 ·have HP:Hid (aE0 s.data.toList=(0,0,20)):=qZ (by
   unfold aE0;rw[if_neg h0,if_neg g8,if_pos hbig])
  have HR:Hid (Lib.parseIntB 64 (s.extract 0 L).data.toList=.range):=qZ (by rw[d9];exact f9.1 hbig);clear f9 g8 d9 d8 hh h0 f8 b8 hbig h2 d2 HL;obtain⟨tp,pe,f7⟩:=HE.out;have HV:=qZ f7;clear f7;obtain⟨SV,j6⟩:∃SV,SV=Lib.intSat 64 (s.extract 0 L).data.toList:=⟨_,rfl⟩
  have HC:=qZ (Tryz.strconv_ParseInt_10_at64_range_var (s.extract 0 L) (by omega) HR.out tp pe wc HV.out);rw[<-j6] at HC;clear j6 j9;by_cases h5:1<L
  rotate_left
  have d3:True:=trivial;rotate_left
  have d3:=D2.out h5
  all_goals
   clear D2;go_wp2_with fail
   refine HC.out.mono ?_;rintro e w1 ⟨N,rfl,_,_,hb⟩;go_wp2;go_ret3
   rw[HP.out];exact⟨rfl,hb⟩
 have HP:Hid (aE0 s.data.toList=((valD (aX3 s.data.toList):Int),L,0)):=qZ (by
  unfold aE0;rw[if_neg h0,if_neg g8,if_neg hbig,<-HL.out])
 have i4:=f9.2 (by omega);obtain⟨V,hV⟩:∃V,V=valD (aX3 s.data.toList):=⟨_,rfl⟩
 rw[<-hV] at i4 HP;have HC:=qZ (Tryz.strconv_ParseInt_10_at64_ok (s.extract 0 L) (by omega) (V:Int) (by rw[d9];exact i4) wc);clear f9 g8 d9 d8 hh h0 f8 b8 hbig h2 d2 HL i4 hV j9;by_cases h5:1<L
 rotate_left
 have d3:True:=trivial;rotate_left
 have d3:=D2.out h5
 all_goals
  clear D2;go_wp2_with fail
  refine HC.out.mono ?_;rintro e w1 ⟨rfl,hw⟩;have hb:Below wc.heap.size wc w1:=by
   rcases hw with rfl|⟨t,rfl⟩
   ·exact lS _ _
   exact Lib.bytesWorld_below _ _ _
  clear hw;go_wp2;go_ret3
  rw[HP.out];exact⟨rfl,hb⟩
end
section
open Go.RowKit Oct
theorem cO6(s:ByteArray)(hs:s.size<=140737488351232)(w:World):
  Calls Tryz.prog 165 #[.string s] w fun e w' =>e=.returned (.tuple #[.int .i64 (aE0 s.data.toList).1,.int .i64 (aE0 s.data.toList).2.1,.int .i64 (aE0 s.data.toList).2.2])∧w=w' :=by
 by_cases h0:s.data.toList=[]
 ·have HP:Hid (aE0 s.data.toList=(0,0,3)):=qZ (by rw[h0];rfl)
  have hz:s.size=0:=by
   have:=congrArg List.length h0
   simpa using this
  have d0:((s.size:Int)==0)=true:=by rw[hz];rfl
  clear h0 hz;go_enter Tryz.func165,Tryz.ntmps165
  go_wp2;go_ret3
  rw[HP.out];exact⟨rfl,rfl⟩
 have m0:0<s.size:=by
  have:=List.length_pos_iff.2 h0
  simpa using this
 have l8:(0:Int)<s.size:=by omega
 have d0:((s.size:Int)==0)=false:=beq_eq_false_iff_ne.2 (by omega);obtain⟨L,hL⟩:∃L,L=(aX3 s.data.toList).length:=⟨_,rfl⟩
 have m5:L<=s.size:=by
  have:=cG8 s.data.toList;rw[hL]
  simpa using this
 have HL:=qZ hL;have H0:=qZ h0;clear hL h0;go_enter Tryz.func165,Tryz.ntmps165
 go_upto_block 0 with fail
 go_cut [5] (fun v wx=>v=.int .i64 L∧wx=w)
 case first=>
  go_wp2_with fail
  go_loop [5] (fun i=>∃k:Nat,k<=s.size∧i=.int .i64 k∧Hid (∀j (hj:j<s.data.toList.length),j<k->isD s.data.toList[j]=true)) (fun i=>s.size-(intOf i).toNat)
  case atStart=>exact⟨0,by omega,rfl,qZ (fun j hj h=>by omega)⟩
  obtain⟨k,hk,rfl,d8⟩:=hrel;by_cases a9:k<s.size
  rotate_left
  ·have i4:k=s.data.toList.length:=by simp;omega
   have a8:=bS0 s.data.toList k d8.out (by simpa using hk) (.inl i4);have i6:L=k:=by rw[HL.out,a8,lV];simp;omega
   clear a8 i4;subst i6;go_wp2;go_meet;exact⟨rfl,rfl⟩
  have g9:k<s.data.toList.length:=by simpa using a9
  by_cases hd:isD s[k]=true
  ·have f6:Hid (∀j (hj:j<s.data.toList.length),j<k+1->isD s.data.toList[j]=true):=qZ fun j hj h=>by
    by_cases hjk:j=k
    ·subst hjk
     exact hd
    exact d8.out j hj (by omega)
   obtain⟨g1,g2⟩:=of_decide_eq_true hd;have l5:(48:Int)<=(s[k].toNat:Int):=by omega
   have l6:(s[k].toNat:Int)<=57:=by omega
   clear hd;go_wp2;go_round
   case rel=>exact⟨k+1,by omega,by go_num,f6⟩
   case measure=>simp[intOf];omega
  have j9:isD s[k]=false:=by simpa using hd
  have a8:=bS0 s.data.toList k d8.out (by simpa using hk) (.inr ⟨g9,j9⟩);have i6:L=k:=by rw[HL.out,a8,lV];simp;omega
  have hn:=of_decide_eq_false j9;clear hd j9 a8;subst i6;by_cases hlo:s[L].toNat<48
  ·have g1:¬(48:Int)<=(s[L].toNat:Int):=by omega
   go_wp2;go_meet;exact⟨rfl,rfl⟩
  have g1:(48:Int)<=(s[L].toNat:Int):=by omega
  have g2:¬(s[L].toNat:Int)<=57:=by omega
  go_wp2;go_meet;exact⟨rfl,rfl⟩
 obtain⟨rfl,rfl⟩:=hcut;have a9:=cA8 s.data.toList;have hh:s.data.toList.head?=some s[0]:=by
  rw[List.head?_eq_getElem?,lW (by simpa using m0)]
  rfl
 by_cases h1:L=0
 ·have HP:Hid (aE0 s.data.toList=(0,0,4)):=qZ (by
   unfold aE0;rw[if_neg H0.out,if_pos (.inl (mD (by rw[<-HL.out];exact h1)))])
  subst h1;clear HL a9 hh;go_wp2;go_ret3
  rw[HP.out];exact⟨rfl,rfl⟩
 have l4:aX3 s.data.toList≠[]:=fun h=>h1 (by rw[HL.out,h];rfl)
 have d1:((L:Int)==0)=false:=beq_eq_false_iff_ne.2 (by omega);by_cases h2:1<L∧s[0]=48
 ·have HP:Hid (aE0 s.data.toList=(0,0,4)):=qZ (by
   unfold aE0;rw[if_neg H0.out,if_pos (.inr ⟨by rw[<-HL.out];exact h2.1,by rw[hh,h2.2]⟩)])
  obtain⟨h3,h4⟩:=h2;have d2:((s[0].toNat:Int)==48)=true:=by rw[h4];rfl
  have m6:(1:Int)<L:=by omega
  clear HL a9 hh h4 l4;go_wp2;go_ret3
  rw[HP.out];exact⟨rfl,rfl⟩
 have j8:¬(aX3 s.data.toList=[]∨(1<(aX3 s.data.toList).length∧s.data.toList.head?=some 48)):=by
  rintro(h|⟨h,h'⟩)
  ·exact l4 h
  rw[hh] at h';injection h' with h'
  exact h2 ⟨by rw[HL.out];exact h,h'⟩
 have d2:1<L->((s[0].toNat:Int)==48)=false:=fun h=>beq_eq_false_iff_ne.2 (fun h' =>h2 ⟨h,by
  apply UInt8.toNat_inj.1
  have:(48:UInt8).toNat=48:=rfl;omega⟩)
 rw[<-HL.out] at a9;have f8:Hid (9223372036854775807<valD (s.data.toList.take L)->aE0 s.data.toList=(0,0,20)):=qZ fun h=>by
  unfold aE0;rw[if_neg H0.out,if_neg j8,if_pos (by rw[a9];exact h)]
 have l7:Hid (¬9223372036854775807<valD (s.data.toList.take L)->aE0 s.data.toList=((valD (s.data.toList.take L):Int),L,0)):=qZ fun h=>by
  unfold aE0;rw[if_neg H0.out,if_neg j8,if_neg (by rw[a9];exact h),<-HL.out,a9]
 have HD:Hid (∀i (hi:i<s.data.toList.length),i<L->isD s.data.toList[i]=true):=qZ fun i hi hiL=>by
  have:=cK0 s.data.toList s.data.toList[i] (by
   rw[a9];exact List.mem_take_iff_getElem.2 ⟨i,by omega,rfl⟩)
  exact this
 have D2:=qZ d2;clear j8 a9 hh l4 h2 d2 HL;by_cases h5:1<L
 rotate_left
 have d3:True:=trivial;rotate_left
 have d3:=D2.out h5
 all_goals
  clear D2;go_wp2_with fail
  go_loop [7,6,8] (fun i n _=>∃k:Nat,k<=L∧i=.int .i64 k∧n=.int .i64 (valD (s.data.toList.take k):Nat)∧valD (s.data.toList.take k)<=9223372036854775807) (fun i _ _=>L-(intOf i).toNat)
  case atStart=>exact⟨0,by omega,rfl,rfl,by simp[valD]⟩
  obtain⟨k,hk,rfl,rfl,hv⟩:=hrel;by_cases a9:k<L
  rotate_left
  ·obtain rfl:k=L:=by omega
   have HP:=qZ (l7.out (by omega));clear l7 f8;generalize valD (s.data.toList.take k)=V at hv HP⊢
   go_wp2;go_ret3
   rw[HP.out];exact⟨rfl,rfl⟩
  have i4:k<s.size:=by omega
  have g9:k<s.data.toList.length:=by simpa using i4
  have d9:=HD.out k g9 a9;have hg:s.data.toList[k]=s[k]:=rfl;rw[hg] at d9;obtain⟨g1,g2⟩:=of_decide_eq_true d9;have f7:=cV1 s.data.toList k g9;rw[hg] at f7;have b8:valD (s.data.toList.take (k+1))<=valD (s.data.toList.take L):=by
   have h:=cZ2 (s.data.toList.take L) (k+1);rw[List.take_take,Nat.min_eq_left (by omega)] at h;exact h
  have l5:(48:Int)<=(s[k].toNat:Int):=by omega
  have l6:(s[k].toNat:Int)<=57:=by omega
  have m4:(k:Int)<L:=by omega
  have m2:(k:Int)<s.size:=by omega
  obtain⟨V,hV⟩:∃V,V=valD (s.data.toList.take k):=⟨_,rfl⟩
  obtain⟨c,hc⟩:∃c:Nat,c=s[k].toNat:=⟨_,rfl⟩
  rw[<-hV] at f7 hv⊢;rw[<-hc] at f7 l5 l6 g1 g2;have m7:(s[k].toNat:Int)=(c:Int):=by rw[hc]
  have hm:((c:Int)-48) %256=(c:Int)-48:=by omega
  have f9:=qZ f7;have j6:=qZ b8;clear f7 b8 d9 hg hV hc;by_cases hb:9223372036854775807<10*V+(c-48)
  ·have g8:(9223372036854775807-((c:Int)-48))/10<(V:Int):=by omega
   have HP:=qZ (f8.out (by have:=f9.out;have:=j6.out;omega));clear hb f9 j6;go_wp2;go_ret3
   rw[HP.out];exact⟨rfl,rfl⟩
  have g8:(V:Int)<=(9223372036854775807-((c:Int)-48))/10:=by omega
  have m3:10*(V:Int)<=9223372036854775807:=by omega
  have m8:10*(V:Int)+((c:Int)-48)<=9223372036854775807:=by omega
  have HN:Hid (10*(V:Int)+((c:Int)-48)=((valD (s.data.toList.take (k+1)):Nat):Int)):=qZ (by rw[f9.out];omega);have l9:Hid (valD (s.data.toList.take (k+1))<=9223372036854775807):=qZ (by rw[f9.out];omega);clear hb f9 j6;go_wp2;exact⟨⟨k+1,by omega,by go_num,by rw[HN.out],l9.out⟩,by simp[intOf];omega⟩
end
end Go.Proofs.YtgeofijddhflaaaGreatDoor
