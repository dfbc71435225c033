/- Arguments opened: strings one behind another. No condition. -/
import Derived.Test.YtgeofijddhflaaaGreatDoorQOwnK
import Derived.ProofKit
import Derived.OpenShut
import Derived.ShutString
import Derived.Deep.DeepCutAuto
import Derived.Deep.WholeRow
import Derived.Deep.Matrix
import Derived.Deep.Strs
set_option maxHeartbeats 8000000
set_option maxRecDepth 100000
namespace Go.Proofs.YtgeofijddhflaaaGreatDoor
section
open Go.RowKit Oct
def dA4(n:Int):List UInt8:=if n<0 then[] else enc n.toNat
def dO3(n:Int):Int:=if n<0 then 1 else 0
def cQ8(l:List UInt8):List UInt8:=if 65535<l.length then[] else enc l.length++l
def dO0(l:List UInt8):Int:=if 65535<l.length then 2 else 0
theorem dB6(n:Int)(h:n<=9223372036854775807)(w:World):
  Calls Tryz.prog 115 #[.int .i64 n] w fun e w' =>∃v,e=.returned (.tuple #[v,.int .i64 (dO3 n)])∧Bs w' w.heap.size v (dA4 n)∧Below w.heap.size w w' :=by
 unfold dA4 dO3;by_cases h0:n<0
 ·rw[if_pos h0,if_pos h0]
  refine(dC5 n w h0).mono ?_;rintro e w' ⟨rfl,rfl⟩;exact⟨_,rfl,Own.nil _ _ _,lS _ _⟩
 rw[if_neg h0,if_neg h0];exact dI6 n.toNat n (by omega) w (by omega)
theorem dD8(s:ByteArray)(h:s.size<=140737488351232)(w:World):
  Calls Tryz.prog 116 #[.string s] w fun e w' =>∃v,e=.returned (.tuple #[v,.int .i64 (dO0 s.data.toList)])∧Bs w' w.heap.size v (cQ8 s.data.toList)∧Below w.heap.size w w' :=by
 have hs:s.data.toList.length=s.size:=by simp
 unfold cQ8 dO0;rw[hs];by_cases h0:65535<s.size
 ·rw[if_pos h0,if_pos h0]
  refine(cS9 s w h0 (by omega)).mono ?_;rintro e w' ⟨rfl,rfl⟩;exact⟨_,rfl,Own.nil _ _ _,lS _ _⟩
 rw[if_neg h0,if_neg h0];exact dJ9 s w (by omega)
end
section
open Go.RowKit Oct
theorem aZ5(w:World)(base:Nat)(e:TypeId)(hb:base<=w.heap.size):Own (w.alloc (.cells #[] e)) base e (.slice (some ⟨w.heap.size,0,none⟩) 0 0) []:=World.ownsRow_made w #[] 0 hb (by simp[maxLen]) (by simp)
section
variable{P:Program}{W w:World}{ops:Array Oper}{rest:List Oper}{o:Oper}{a:Act}{Q:Exit->Act->World->Prop}
theorem bM7(d8:o.guard=none)(s x:Operand)(t:TypeId)
  (ho:o.op=.call {callee:=.builtin .append,args:=#[s,x],argTypes:=#[t,t]})
  (e:TypeId) (z:Value) (bytes:Nat) (ht:P.underlying t=some (.slice e)) (a9:(P.info? e).map (fun i=>(i.zero,i.size,i.bytes))=some (some z,1,bytes)) (d9:z.cells.size=1)
  (hs:a.eval s=.slice (some ⟨W.heap.size,0,none⟩) 0 0)
  (A:Option Addr) (m c:Nat) (news:List Value) (hx:a.eval x=.slice A m c) (hm:m=news.length) (hr:Rd W W.heap.size A news) (h1:∀u∈news,u.oneCell' =true)
  (f6:m<=9223372036854775807) (a8:m*bytes<=140737488355328)
  (h:∀v' w',Own w' W.heap.size e v' news->Below W.heap.size W w' ->wpList P ops Q rest (a.put o.dst v') w'):wpList P ops Q (o::rest) a (W.alloc (.cells #[] e)):=by
 have b8:=aZ5 W W.heap.size e (lR _);refine aA6 d8 s x t ho W.heap.size e z bytes ht a9 d9 _ [] hs b8 W.heap.size A m c news hx hm (hr.alloc (lR _) _) h1 (by unfold maxLen;simp;omega) (by simpa using a8) (by simp) fun v' w' h2 h3 h4=>?_
 exact h v' w' (by simpa using h2) (((lS _ W).alloc (lR _) _).grown h3 (by simp) fun k hk=>(b8.lt k hk).1)
theorem cF2(hgd:o.guard=none)(s x:Operand)(t:TypeId)
  (ho:o.op=.call {callee:=.builtin .append,args:=#[s,x],argTypes:=#[t,t]})
  (e:TypeId) (z:Value) (bytes:Nat) (ht:P.underlying t=some (.slice e)) (hinfo:(P.info? e).map (fun i=>(i.zero,i.size,i.bytes))=some (some z,1,bytes)) (hzs:z.cells.size=1)
  (v:Value) (xs:List Value) (hs:a.eval s=v) (base:Nat) (hb:Below base W w) (hbs:base<=W.heap.size) (hown:Own w base e v xs)
  (B:Nat) (A:Option Addr) (m c:Nat) (news:List Value) (hx:a.eval x=.slice A m c) (hm:m=news.length) (hr:Rd w B A news) (h1:∀u∈news,u.oneCell' =true)
  (h63:xs.length+m<=9223372036854775807) (hbytes:(xs.length+m)*bytes<=140737488355328)
  (h:∀v' w',Own w' base e v' (xs++news)->Below base W w' ->wpList P ops Q rest (a.put o.dst v') w'):wpList P ops Q (o::rest) a w:=
 aA6 hgd s x t ho base e z bytes ht hinfo hzs v xs hs hown B A m c news hx hm hr h1 (by unfold maxLen;omega) hbytes (Nat.le_trans hbs hb.size) fun v' w' h2 h3 h4=>
  h v' w' h2 (hb.grown h3 (Nat.le_trans hbs hb.size) fun k hk=>(hown.lt k hk).1)
end
end
section
open Go.RowKit Oct
theorem cP4{m:Nat}{l:List UInt8}(h:(lenOf m l).2=0):(cnt maxI l).2.2=0∧(lenOf m l).1=(cnt maxI l).1∧(cnt maxI l).1<=m:=by
 unfold lenOf at h⊢;by_cases h1:(cnt maxI l).2.2=0
 ·rw[if_pos h1] at h⊢
  by_cases h2:m<(cnt maxI l).1
  ·rw[if_pos h2] at h
   cases h
  rw[if_neg h2];exact⟨h1,rfl,by omega⟩
 rw[if_neg h1] at h;exact absurd h h1
theorem cP5{l:List UInt8}(h:(aE8 l).2.2=0):(aE8 l).2.1<=l.length∧l.take (aE8 l).2.1=enc (aE8 l).1.length++(aE8 l).1∧(aE8 l).1.length<=65535:=by
 unfold aE8 at h⊢;by_cases h1:(lenOf 65535 l).2=0
 ·rw[if_pos h1] at h⊢
  by_cases h2:l.length-(cnt maxI l).2.1<(lenOf 65535 l).1
  ·rw[if_pos h2] at h
   cases h
  rw[if_neg h2];obtain⟨g1,g2,g3⟩:=cP4 h1;obtain⟨f1,f2,f3⟩:=cJ3 g1;show(cnt maxI l).2.1+(lenOf 65535 l).1<=l.length∧l.take ((cnt maxI l).2.1+(lenOf 65535 l).1)=enc ((l.drop (cnt maxI l).2.1).take (lenOf 65535 l).1).length++(l.drop (cnt maxI l).2.1).take (lenOf 65535 l).1∧((l.drop (cnt maxI l).2.1).take (lenOf 65535 l).1).length<=65535
  have a8:((l.drop (cnt maxI l).2.1).take (lenOf 65535 l).1).length=(lenOf 65535 l).1:=by simp;omega
  rw[a8,g2,<-f3,g2.symm];refine⟨by omega,?_,by omega⟩;rw[List.take_add]
 rw[if_neg h1] at h;exact absurd h h1
end
section
namespace Crc
def cs(s:Nat):Nat:=(s*2 %4294967296)^^^(if s.testBit 31 then 79764919 else 0)
def csn:Nat->Nat->Nat
 |0,s=>s
 |k+1,s=>cs (csn k s)
def tab(i:Nat):Nat:=csn 8 (i*16777216)
def byte(s c:Nat):Nat:=csn 8 (s^^^c*16777216)
def reg(s:Nat)(l:List UInt8):Nat:=l.foldl (fun s c=>byte s c.toNat) s
def sum(l:List UInt8):Nat:=4294967295-reg 4294967295 l
theorem dN3{s:Nat}:cs s<4294967296:=by
 unfold cs;refine Nat.xor_lt_two_pow (n:=32) (Nat.mod_lt _ (by omega)) ?_;split<;>omega
theorem csn_lt{k s:Nat}(h:s<4294967296):csn k s<4294967296:=by
 cases k with
 |zero=>exact h
 |succ k=>exact dN3
theorem top{s:Nat}(h:s<4294967296):s.testBit 31=decide (2147483648<=s):=by
 rw[Nat.testBit_eq_decide_div_mod_eq]
 congr 1
 apply propext
 omega
theorem dbl(s i:Nat):(s*2 %4294967296).testBit i=(decide (i<32)&&(decide (1<=i)&&s.testBit (i-1))):=by
 rw[show(4294967296:Nat)=2^32 from rfl,Nat.testBit_mod_two_pow,show s*2=s<<<1 by rw[Nat.shiftLeft_eq],Nat.testBit_shiftLeft]
theorem dL6(a b:Nat):cs (a^^^b)=cs a^^^cs b:=by
 apply Nat.eq_of_testBit_eq
 intro i;unfold cs;simp only[Nat.testBit_xor,dbl];cases decide (i<32)<;>cases decide (1<=i)<;>cases a.testBit 31<;>cases b.testBit 31<;>cases a.testBit (i-1)<;>cases b.testBit (i-1)<;>simp
theorem dL2(k a b:Nat):csn k (a^^^b)=csn k a^^^csn k b:=by
 induction k with
 |zero=>rfl
 |succ k ih=>simp only[csn];rw[ih,dL6]
theorem dH8(k s:Nat)(h:s*2^k<4294967296):csn k s=s*2^k:=by
 induction k with
 |zero=>simp[csn]
 |succ k ih=>
  rw[Nat.pow_succ,<-Nat.mul_assoc] at h⊢;rw[csn,ih (by omega),cs,top (by omega),decide_eq_false (by omega)];simp
  omega
theorem dK3(s:Nat):s=(s/16777216*16777216)^^^(s %16777216):=by
 apply Nat.eq_of_testBit_eq
 intro i;rw[Nat.testBit_xor,show(16777216:Nat)=2^24 from rfl,Nat.testBit_mod_two_pow,<-Nat.shiftLeft_eq,Nat.testBit_shiftLeft,<-Nat.shiftRight_eq_div_pow,Nat.testBit_shiftRight];by_cases h:i<24
 ·simp[h,show¬24<=i by omega]
 simp[h,show 24<=i by omega]
theorem byte_tab(s c:Nat):byte s c=(s*256 %4294967296)^^^tab ((s/16777216)^^^c):=by
 have h1:s^^^c*16777216=((s/16777216)^^^c)*16777216^^^(s %16777216):=by
  have h2:((s/16777216)^^^c)*16777216=(s/16777216*16777216)^^^(c*16777216):=by
   rw[show(16777216:Nat)=2^24 from rfl,<-Nat.shiftLeft_eq,<-Nat.shiftLeft_eq,<-Nat.shiftLeft_eq,Nat.shiftLeft_xor_distrib]
  rw[h2]
  conv=>lhs;rw[dK3 s]
  rw[Nat.xor_assoc,Nat.xor_assoc,Nat.xor_comm (s %16777216)]
 unfold byte tab;rw[h1,dL2,dH8 8 (s %16777216) (by omega),Nat.xor_comm]
 congr 1
 omega
theorem byte_lt{s c:Nat}(h:s<4294967296)(hc:c<256):byte s c<4294967296:=
 csn_lt (Nat.xor_lt_two_pow (n:=32) h (by omega))
theorem reg_lt(l:List UInt8):∀{s:Nat},s<4294967296->reg s l<4294967296:=by
 induction l with
 |nil=>intro s h;exact h
 |cons c r ih=>intro s h;exact ih (byte_lt h c.toNat_lt)
theorem reg_snoc(s:Nat)(l:List UInt8)(c:UInt8):reg s (l++[c])=byte (reg s l) c.toNat:=by simp[reg]
theorem reg_append(s:Nat)(a b:List UInt8):reg s (a++b)=reg (reg s a) b:=by simp[reg]
theorem sum_lt(l:List UInt8):sum l<4294967296:=by unfold sum;omega
theorem tab_lt{i:Nat}(h:i<256):tab i<4294967296:=csn_lt (by omega)
def four(n:Nat):List UInt8:=[UInt8.ofNat (n/16777216),UInt8.ofNat (n/65536),UInt8.ofNat (n/256),UInt8.ofNat n]
theorem four_length(n:Nat):(four n).length=4:=rfl
theorem turn_bits(s:Nat)(h:s<4294967296):bits .xor .u32 ((s:Int)*2 %4294967296) (bits .and .u32 79764919 (-((s:Int)/2147483648) %4294967296))=(cs s:Int):=by
 have e1:(s:Int)*2 %4294967296=((s*2 %4294967296:Nat):Int):=by omega
 rw[e1];unfold cs;rw[top h];by_cases h2:2147483648<=s
 ·have e2:-((s:Int)/2147483648) %4294967296=((4294967295:Nat):Int):=by
   rw[show(s:Int)/2147483648=1 by omega]
   rfl
  rw[e2,show(79764919:Int)=((79764919:Nat):Int) from rfl,u32_and_nat _ _ (by omega) (by omega),show(79764919&&& 4294967295:Nat)=79764919 from rfl,u32_xor_nat _ _ (Nat.mod_lt _ (by omega)) (by omega)];simp[h2]
 have e2:-((s:Int)/2147483648) %4294967296=((0:Nat):Int):=by
  rw[show(s:Int)/2147483648=0 by omega]
  rfl
 rw[e2,show(79764919:Int)=((79764919:Nat):Int) from rfl,u32_and_nat _ _ (by omega) (by omega),show(79764919&&& 0:Nat)=0 from rfl,u32_xor_nat _ _ (Nat.mod_lt _ (by omega)) (by omega)];simp[h2]
end Crc
end
section
open Go.RowKit Oct
def bO2(cs:Array Value)(k:Nat):Prop:=cs.size=256∧∀j,j<k->cs[j]? =some (.int .u32 (Crc.tab j:Nat))
theorem bO2.start:bO2 Tryz.zeroCells222 0:=⟨Tryz.zeroCells222_size,fun j h=>absurd h (by omega)⟩
theorem bO2.set{cs:Array Value}{k:Nat}(h:bO2 cs k)(hk:k<256):bO2 (cs.setIfInBounds k (.int .u32 (Crc.tab k:Nat))) (k+1):=by
 refine⟨by rw[Array.size_setIfInBounds];exact h.1,fun j hj=>?_⟩;by_cases hjk:j=k
 ·subst hjk
  rw[Array.getElem?_setIfInBounds_self_of_lt (by rw[h.1];exact hk)]
 rw[Array.getElem?_setIfInBounds_ne (by omega)];exact h.2 j (by omega)
theorem bO2.one{cs:Array Value}(h:bO2 cs 256):cs.all (·.oneCell')=true:=by
 rw[Array.all_eq_true];intro i hi;have h2:=h.2 i (by rw[h.1] at hi;exact hi);rw[Array.getElem?_eq_getElem hi] at h2;rw[Option.some.inj h2]
 rfl
theorem bH8:(Tryz.prog.info? 222).map (·.size)=some 256:=by kernel_rfl
section
variable{w:World}{g:Nat}{cs cs' :Array Value}
theorem cD5(hb:Blk w g 222 cs):w.setRow g cs=w:=by
 unfold World.setRow
 congr 1
 apply Array.ext_getElem?
 intro i;rw[Array.getElem?_modify];split
 ·rename_i h
  subst h;rw[show w.heap[g]? =_ from hb]
  rfl
 rfl
end
theorem dF1(w:World):Calls Tryz.prog 188 #[] w fun e w' =>∃cs,e=.returned (.agg cs)∧bO2 cs 256∧Below w.heap.size w w' :=by
 go_enter Tryz.func188,Tryz.ntmps188
 go_wp2_with fail
 go_loopw [3,1,2] (fun i y1 y2 wr=>∃k:Nat,k<=256∧i=.int .i64 k∧∃cs,Blk wr w.heap.size 222 cs∧Hid (bO2 cs k)∧Below w.heap.size w wr) (fun i _ _ _=>256-(intOf i).toNat)
 case atStart=>exact⟨0,by omega,rfl,_,Blk.new _ _ _,qZ bO2.start,(lS _ _).alloc (lR _) _⟩
 obtain⟨k,hk,rfl,cs,a8,a9,hb⟩:=hrel;by_cases hlt:k<256
 rotate_left
 ·obtain rfl:k=256:=by omega
  go_upto_region 11 with fail
  refine wp_region_lit ?_;refine wpList_load_row rfl 222 (.tmp 0) rfl w.heap.size rfl 222 cs (0,0) _ a8 Tryz.underlying222 rfl (by rw[a9.out.1];exact bH8) ?_;refine wpList_store_row rfl 222 (.tmp 0) (.tmp 23) rfl w.heap.size cs rfl rfl 222 cs a8 (by rw[a9.out.1];exact bH8) rfl a9.out.one ?_;rw[cD5 a8];go_wp2;refine bodyPost_ret (v:=.agg cs) (results_cell_row Tryz.results188 _ wr w.heap.size 222 cs (0,0) _ rfl a8 Tryz.underlying222 rfl (by rw[a9.out.1];exact bH8)) rfl ⟨cs,rfl,a9.out,hb⟩
 go_wp2_with fail
 obtain⟨wo,d9⟩:∃wo:World,wo=wr:=⟨_,rfl⟩
 rw[<-d9] at a8 hb⊢;clear d9;go_loop [9,2] (fun i r=>∃q:Nat,q<=8∧i=.int .i64 q∧r=.int .u32 (Crc.csn q (k*16777216):Nat)) (fun i _=>8-(intOf i).toNat)
 case atStart=>exact⟨0,by omega,rfl,by simp[Crc.csn]⟩
 obtain⟨q,hq,rfl,rfl⟩:=hrel;by_cases hq8:q<8
 ·have hs:Crc.csn q (k*16777216)<4294967296:=Crc.csn_lt (by omega)
  have ht:=Crc.turn_bits _ hs;go_wp2;exact⟨⟨q+1,by omega,by go_num,rfl⟩,by simp[intOf];omega⟩
 obtain rfl:q=8:=by omega
 have b8:∃u,wo.cell? ⟨w.heap.size,k,none⟩=some u:=by
  rw[a8.cell];exact⟨_,Array.getElem?_eq_getElem (by rw[a9.out.1];exact hlt)⟩
 obtain⟨u,b8⟩:=b8;have f7:=a8.frozen k;have d8:=a9.out.set hlt;have f6:=hb.grown (aA0 wo w.heap.size k (.int .u32 (Crc.tab k:Nat))) hb.size (fun k hk=>by injection hk with hk;omega);go_wp2;exact⟨⟨k+1,by omega,by go_num,_,a8.set_ k _,qZ d8,f6⟩,by simp[intOf];omega⟩
end
section
open Go.RowKit Oct
structure Row where
 a:Option Addr
 l:List UInt8
 c:Nat
def Row.val(r:Row):Value:=.slice r.a r.l.length r.c
def RRd(w:World)(B:Nat)(ps:List Row):Prop:=∀p∈ps,Rd w B p.a (cells p.l)∧p.l.length<=4611686018427387904
def aE9(ps:List Row):List UInt8:=ps.flatMap Row.l
theorem aV1(ps:List Row)(k:Nat)(h:k<ps.length):aE9 (ps.take (k+1))=aE9 (ps.take k)++ps[k].l:=by
 unfold aE9;rw[List.take_add_one,lW h];simp only[List.flatMap_append,Option.toList_some,List.flatMap_cons,List.flatMap_nil,List.append_nil]
theorem cJ2(s:Nat)(l:List UInt8)(k:Nat)(h:k<l.length):Crc.reg s (l.take (k+1))=Crc.byte (Crc.reg s (l.take k)) l[k].toNat:=by
 rw[List.take_add_one,lW h];exact Crc.reg_snoc _ _ _
theorem dJ8{r b:Nat}(hr:r<4294967296)(hb:b<256):(r/16777216)^^^b<256:=Nat.xor_lt_two_pow (n:=8) (by omega) hb
theorem dN7(r:Nat)(h:r<4294967296):(4294967295^^^r:Nat)=4294967295-r:=by
 have h2:∀x:BitVec 32,(BitVec.allOnes 32^^^x)= ~~~ x:=fun x=>BitVec.allOnes_xor
 have h3:=congrArg BitVec.toNat (h2 (BitVec.ofNat 32 r));rw[BitVec.toNat_not,BitVec.toNat_xor,BitVec.toNat_ofNat,Nat.mod_eq_of_lt (by omega)] at h3
 simpa using h3
theorem dJ6(l:List UInt8):bits .xor .u32 IntKind.u32.max (Crc.reg 4294967295 l:Nat)=(Crc.sum l:Nat):=by
 have h:=Crc.reg_lt l (s:=4294967295) (by omega);rw[show IntKind.u32.max=((4294967295:Nat):Int) from rfl,u32_xor_nat _ _ (by omega) h,dN7 _ h]
 rfl
theorem cV2(A:Option Addr)(ps:List Row)(n c:Nat)(hn:n=ps.length)(w:World)(hr:Rd w w.heap.size A (ps.map Row.val))(hp:RRd w w.heap.size ps)(hl:ps.length<=4611686018427387904):
  Calls Tryz.prog 153 #[.slice A n c] w fun e w' =>e=.returned (.int .i64 (Crc.sum (aE9 ps):Nat))∧Below w.heap.size w w' :=by
 subst hn;have HP:=qZ hp;clear hp;go_enter Tryz.func153,Tryz.ntmps153
 go_wp2_with fail
 refine(dF1 w).mono ?_;rintro e w1 ⟨cs,rfl,a8,g8⟩;go_wp2_with (refine wpList_store_row rfl 222 (.tmp 3) (.tmp 9) rfl w1.heap.size cs rfl rfl 222 _ (Blk.new w1 _ _) (by rw[a8.1];exact bH8) (by rw[a8.1];exact Tryz.zeroCells222_size) a8.one ?_)
 rw[World.setRow_alloc_new];have f8:Below w.heap.size w (w1.alloc (.cells cs 222)):=g8.alloc g8.size _;have d9:Blk (w1.alloc (.cells cs 222)) w1.heap.size 222 cs:=Blk.new _ _ _;have HT:=qZ a8;generalize w1.alloc (.cells cs 222)=w2 at f8 d9⊢
 generalize w1.heap.size=g at d9⊢
 clear g8 a8;have l6:=hr.below f8;go_loop [12,4,6,8] (fun i r _ _=>∃k:Nat,k<=ps.length∧i=.int .i64 k∧r=.int .u32 (Crc.reg 4294967295 (aE9 (ps.take k)):Nat)) (fun i _ _ _=>ps.length-(intOf i).toNat)
 case atStart=>exact⟨0,by omega,rfl,rfl⟩
 obtain⟨k,hk,rfl,rfl⟩:=hrel;by_cases hlt:k<ps.length
 rotate_left
 ·obtain rfl:k=ps.length:=by omega
  have d8:=dJ6 (aE9 ps);have l4:=Crc.sum_lt (aE9 ps);have hw:wrap64 ((Crc.sum (aE9 ps):Nat):Int)=(Crc.sum (aE9 ps):Nat):=by unfold wrap64;omega
  go_wp2;go_ret
  exact⟨rfl,f8⟩
 obtain⟨ad,rfl,m2,a9⟩:=aQ1 l6 hlt;have i6:=qZ (HP.out _ (lX hlt));obtain⟨a,l,c',f7⟩:∃a l c',ps[k]=Row.mk a l c' :=⟨_,_,_,rfl⟩
 have HF:=qZ (aV1 ps k hlt);rw[f7] at a9 i6 HF;have i4:w2.cell? (ad.add k)=some (.slice a l.length c'):=a9;have l5:Rd w2 w.heap.size a (cells l):=i6.out.1.below f8;have m0:l.length<=4611686018427387904:=i6.out.2;have l8:(k:Int)<ps.length:=by omega
 clear f7 a9;obtain⟨R,hR⟩:∃R,R=Crc.reg 4294967295 (aE9 (ps.take k)):=⟨_,rfl⟩
 have j6:R<4294967296:=by rw[hR];exact Crc.reg_lt _ (by omega)
 rw[<-hR];have HR:=qZ hR;clear hR;go_wp2_with fail
 go_loop [18,4,8] (fun i r _=>∃q:Nat,q<=l.length∧i=.int .i64 q∧r=.int .u32 (Crc.reg R (l.take q):Nat)) (fun i _ _=>l.length-(intOf i).toNat)
 case atStart=>exact⟨0,by omega,rfl,rfl⟩
 obtain⟨q,hq,rfl,rfl⟩:=hrel;by_cases hql:q<l.length
 ·obtain⟨l9,rfl,l7,f9⟩:=aQ1 l5 hql
  have m3:(q:Int)<l.length:=by omega
  have HS:=qZ (cJ2 R l q hql);have f6:=Crc.reg_lt (l.take q) j6;generalize Crc.reg R (l.take q)=s at HS f6⊢
  have g9:=l[q].toNat_lt;have hx:bits .xor .u8 ((s:Int)/16777216) (l[q].toNat:Int)=(((s/16777216)^^^l[q].toNat:Nat):Int):=by
   rw[u8_xor _ _ (by omega) (by omega) (by omega) (by omega)]
   congr 1
  have b8:=dJ8 f6 g9;have j9:w2.cell? ⟨g,(s/16777216)^^^l[q].toNat,none⟩=some (.int .u32 (Crc.tab ((s/16777216)^^^l[q].toNat):Nat)):=by
   rw[d9.cell];exact HT.out.2 _ b8
  have hy:bits .xor .u32 ((s:Int)*256 %4294967296) (Crc.tab ((s/16777216)^^^l[q].toNat):Nat)=(Crc.byte s l[q].toNat:Nat):=by
   rw[Crc.byte_tab,show(s:Int)*256 %4294967296=((s*256 %4294967296:Nat):Int) by omega,u32_xor_nat _ _ (by omega) (Crc.tab_lt b8)]
  generalize(s/16777216)^^^l[q].toNat=X at hx b8 j9 hy
  go_wp2;exact⟨⟨q+1,by omega,by go_num,by rw[HS.out]⟩,by simp[intOf];omega⟩
 obtain rfl:q=l.length:=by omega
 have d8:Crc.reg R (l.take l.length)=Crc.reg 4294967295 (aE9 (ps.take (k+1))):=by
  rw[List.take_length,HF.out,Crc.reg_append,HR.out]
 have j8:=qZ d8;clear d8;go_wp2;exact⟨⟨k+1,by omega,by go_num,by rw[j8.out]⟩,by simp[intOf];omega⟩
end
section
open Go.RowKit Oct
theorem dN8{s:Nat}(h:s<4294967296)(h2:2147483648<=s):bits .xor .u32 ((s:Int)*2 %4294967296) 79764919=(Crc.cs s:Nat):=by
 unfold Crc.cs;rw[Crc.top h,show(s:Int)*2 %4294967296=((s*2 %4294967296:Nat):Int) by omega,show(79764919:Int)=((79764919:Nat):Int) from rfl,u32_xor_nat _ _ (by omega) (by omega)];simp[h2]
theorem dN5{s:Nat}(h:s<4294967296)(h2:¬2147483648<=s):(s:Int)*2=(Crc.cs s:Nat):=by
 unfold Crc.cs;rw[Crc.top h];simp[h2]
 omega
theorem cK2(A:Option Addr)(l:List UInt8)(n c B:Nat)(hn:n=l.length)(w:World)(hr:Rd w B A (cells l))(hl:l.length<=4611686018427387904):
  Calls Tryz.prog 161 #[.slice A n c] w fun e w' =>e=.returned (.int .i64 (Crc.sum l:Nat))∧w=w' :=by
 subst hn;go_enter Tryz.func161,Tryz.ntmps161
 go_wp2_with fail
 go_loop [4,3,5,6] (fun i s _ _=>∃k:Nat,k<=l.length∧i=.int .i64 k∧s=.int .u32 (Crc.reg 4294967295 (l.take k):Nat)) (fun i _ _ _=>l.length-(intOf i).toNat)
 case atStart=>exact⟨0,by omega,rfl,rfl⟩
 obtain⟨k,hk,rfl,rfl⟩:=hrel;by_cases hlt:k<l.length
 rotate_left
 ·obtain rfl:k=l.length:=by omega
  have f6:=Crc.reg_lt l (s:=4294967295) (by omega);have d9:(4294967295:Int)-(Crc.reg 4294967295 l:Nat)=(Crc.sum l:Nat):=by unfold Crc.sum;omega
  go_wp2;go_ret
  exact⟨rfl,rfl⟩
 obtain⟨ad,rfl,f8,d8⟩:=aQ1 hr hlt;have f9:(k:Int)<l.length:=by omega
 have HS:=qZ (cJ2 4294967295 l k hlt);have a9:=Crc.reg_lt (l.take k) (s:=4294967295) (by omega);generalize Crc.reg 4294967295 (l.take k)=s at HS a9⊢
 have f7:=l[k].toNat_lt;have hx:bits .xor .u32 (s:Int) ((l[k].toNat:Int)*16777216)=((s^^^l[k].toNat*16777216:Nat):Int):=by
  rw[show(l[k].toNat:Int)*16777216=((l[k].toNat*16777216:Nat):Int) by omega,u32_xor_nat _ _ a9 (by omega)]
 have b8:(s^^^l[k].toNat*16777216)<4294967296:=Nat.xor_lt_two_pow (n:=32) a9 (by omega);have HB:Hid (Crc.byte s l[k].toNat=Crc.csn 8 (s^^^l[k].toNat*16777216)):=qZ rfl;generalize s^^^l[k].toNat*16777216=X at hx b8 HB
 go_wp2_with fail
 go_loop [5,3,6] (fun i s _=>∃q:Nat,q<=8∧i=.int .i64 q∧s=.int .u32 (Crc.csn q X:Nat)) (fun i _ _=>8-(intOf i).toNat)
 case atStart=>exact⟨0,by omega,rfl,rfl⟩
 obtain⟨q,hq,rfl,rfl⟩:=hrel;by_cases hql:q<8
 ·have a8:Crc.csn q X<4294967296:=Crc.csn_lt b8
  have HC:Hid (Crc.csn (q+1) X=Crc.cs (Crc.csn q X)):=qZ rfl;generalize Crc.csn q X=t at a8 HC⊢
  by_cases ht:2147483648<=t
  ·have h1:=dN8 a8 ht
   have h2:((t:Int)/2147483648==1)=true:=by simp;omega
   go_wp2;exact⟨⟨q+1,by omega,by go_num,by rw[HC.out]⟩,by simp[intOf];omega⟩
  have h1:=dN5 a8 ht;have h2:((t:Int)/2147483648==1)=false:=by simp;omega
  go_wp2;exact⟨⟨q+1,by omega,by go_num,by rw[HC.out]⟩,by simp[intOf];omega⟩
 obtain rfl:q=8:=by omega
 go_wp2;exact⟨⟨k+1,by omega,by go_num,by rw[HS.out,HB.out]⟩,by simp[intOf];omega⟩
end
section
open Go.RowKit Oct
theorem dJ5(w:World)(base:Nat)(e:TypeId)(xs:List Value)(n:Nat)(hn:n=xs.length)(hb:base<=w.heap.size)(hl:xs.length<=9223372036854775807):Own (w.alloc (.cells xs.toArray e)) base e (.slice (some ⟨w.heap.size,0,none⟩) n n) xs:=by
 subst hn;exact⟨by simp,.inr ⟨w.heap.size,xs.length,xs.toArray,rfl,hb,heap_alloc_new w _,lR _,by unfold maxLen;omega,by simp,by simp⟩⟩
theorem bH5(x:Nat)(y:Int)(h:y %256=((x %256:Nat):Int)):Value.int .u8 (y %256)=.int .u8 (((UInt8.ofNat x).toNat:Nat):Int):=by
 rw[UInt8.toNat_ofNat',h]
theorem bD0(n:Nat)(h:n<4294967296):cells (Crc.four n)=[.int .u8 ((n:Int)/16777216),.int .u8 ((n:Int)/65536 %256),.int .u8 ((n:Int)/256 %256),.int .u8 ((n:Int) %256)]:=by
 simp only[cells,Crc.four,mG,List.map_nil];rw[<-bH5 (n/16777216) ((n:Int)/16777216) (by omega),<-bH5 (n/65536) ((n:Int)/65536) (by omega),<-bH5 (n/256) ((n:Int)/256) (by omega),<-bH5 n (n:Int) (by omega),show(n:Int)/16777216 %256=(n:Int)/16777216 by omega]
theorem cH7(n:Nat)(N:Int)(hN:N=(n:Int))(h:n<4294967296)(w:World):
  Calls Tryz.prog 152 #[.int .i64 N] w fun e w' =>∃v,e=.returned v∧Bs w' w.heap.size v (Crc.four n)∧Below w.heap.size w w' :=by
 subst hN;go_enter Tryz.func152,Tryz.ntmps152
 go_wp2;go_ret
 refine⟨_,rfl,?_,(lS _ _).alloc (lR _) _⟩;have:=dJ5 w w.heap.size 5 (cells (Crc.four n)) 4 (by rw[aA1];rfl) (lR _) (by rw[aA1];simp[Crc.four]);rw[bD0 n h] at this;unfold Bs;rw[bD0 n h];exact this
theorem aZ7(a b:List UInt8):((str a).toList==(str b).toList)=decide (a=b):=by
 rw[aO0,aO0];by_cases hab:a=b
 ·simp[hab]
 rw[decide_eq_false hab];exact beq_eq_false_iff_ne.2 hab
theorem cV7(A B:Option Addr)(l m:List UInt8)(n1 n2 c d K:Nat)(a9:n1=l.length)(a8:n2=m.length)(w:World)(ha:Rd w K A (cells l))(hb:Rd w K B (cells m)):
  Calls Tryz.prog 151 #[.slice A n1 c,.slice B n2 d] w fun e w' =>e=.returned (.bool (decide (l=m)))∧w=w' :=by
 subst a9;subst a8;have k1:=aX6 c ha;have k2:=aX6 d hb;have k3:=aZ7 l m;clear ha hb;go_enter Tryz.func151,Tryz.ntmps151
 go_wp2;go_ret
 exact⟨rfl,rfl⟩
theorem aQ7(A:Option Addr)(l:List UInt8)(n c:Nat)(hn:n=l.length)(w:World)(hr:Rd w w.heap.size A (cells l))(hl:l.length<=140737488351232):
  Calls Tryz.prog 73 #[.slice A n c] w fun e w' =>∃v,e=.returned v∧Bs w' w.heap.size v l∧Below w.heap.size w w' :=by
 subst hn;cases A with
 |none=>
  have h0:l=[]:=by
   refine Classical.byContradiction fun h=>?_
   obtain⟨ad,h1,_⟩:=hr (by rw[aA1];exact List.length_pos_iff.2 h);cases h1
  subst h0;clear hr;have he:∀W:World,(binOp .eql 34 (.slice none 0 c) (.slice none 0 0)).run Tryz.prog W=.ok (.bool true) W:=fun _=>rfl
  go_enter Tryz.func73,Tryz.ntmps73
  go_wp2;go_ret
  exact⟨_,rfl,Own.nil _ _ _,lS _ _⟩
 |some ad=>
  have he:∀W:World,(binOp .eql 34 (.slice (some ad) l.length c) (.slice none 0 0)).run Tryz.prog W=.ok (.bool false) W:=fun _=>rfl
  go_enter Tryz.func73,Tryz.ntmps73
  go_wp2_with (at_builtin;refine bM7 rfl (.tmp 5) (.tmp 6) 34 rfl 5 (.int .u8 0) 1 Tryz.underlying34 aC6 rfl rfl (some ad) l.length c _ rfl (aA1 _).symm hr (aQ8 _) (by omega) (by omega) ?_;intro v1 w1 a8 hb)
  go_ret
  exact⟨_,rfl,a8,hb⟩
end
section
open Go.ChangeShapes Go.WideShapes Go.ChangeAt Go.RowKit Oct
structure cZ6(w:World)(A:Option Addr)(ps:List Row)(c:Nat):Prop where
 rd:Rd w w.heap.size A (ps.map Row.val)
 rows:RRd w w.heap.size ps
 fit:∀r∈ps,r.l.length<=140737488351232∧r.l.length<=r.c∧r.c<=140737488351232
 le:ps.length<=c
 cap:c*24<=140737488351232
theorem dM7(z:List Int)(a8:∀n∈z,(Lit.int .u8 n).wf=true):z.map (Value.int .u8)=cells (z.map fun n=>UInt8.ofNat n.toNat):=by
 simp only[cells,List.map_map];refine List.map_congr_left fun n hn=>?_
 have h1:=a8 n hn;simp[Lit.wf,IntKind.min,IntKind.max,IntKind.signed,IntKind.bits] at h1
 simp
 omega
section
variable{H:Type}{enc:TypeId×Value->H}{P:Program}{W:World}{base:Nat}
theorem aV9{e:TypeId}{n:Nat}{l:List (DataW H)}{d:DataW H}(hd:d∈l)(hn:n∈d.weights P e):n∈DataW.weightsAll P e l:=by
 induction l with
 |nil=>cases hd
 |cons x r ih=>
  unfold DataW.weightsAll;rcases List.mem_cons.1 hd with rfl|hd
  ·exact List.mem_append_left _ hn
  exact List.mem_append_right _ (ih hd)
theorem open_rows{t e q:TypeId}(ht:P.underlying t=some (.slice e))(he:P.underlying e=some (.slice q))(hq:P.underlying q=some (.int .u8))(ce:P.cellsOf e=1)(be:P.bytesOf e=24)(cq:P.cellsOf q=1)(bq:P.bytesOf q=1)
  {v:Value} {d:DataW H} {p:List MemPlace} (hv:Value.okWide P W .any base t v) (h:DataW.Trod enc P W 0 (fun _=>true) true t v d p) (hw:∀n∈d.weights P t,n<=reachBytes):
  ∃(A:Option Addr) (ps:List Row) (c:Nat),v=.slice A ps.length c∧cZ6 W A ps c:=by
 obtain⟨A,len,cap,rfl⟩:=okWide_slice ht hv;obtain⟨f6,hf⟩:=h;rcases Go.Deep.open_int_rows ht he hq ce cq hf with⟨a9,hx⟩|⟨a,l,c,A',L,C,Z,a9,_,hl,hm,hx,a8⟩
 ·simp[Value.cells] at a9
  obtain⟨rfl,rfl,rfl⟩:=a9;exact⟨none,[],0,rfl,⟨Rd.none_,(fun r hr=>by cases hr),(fun r hr=>by cases hr),by simp,by simp⟩⟩
 simp[Value.cells] at a9
 obtain⟨rfl,rfl,rfl⟩:=a9;simp only[Prod.mk.injEq] at hx;obtain⟨rfl,rfl⟩:=hx;have d9:cap*24<=140737488351232:=by
  have:=hw (((List.range len).length+(List.range (cap-len)).length)*P.bytesOf e) (by simp[DataW.weights,ht]);simp only[List.length_range,reachBytes,be] at this;have h2:len+(cap-len)=cap:=by omega
  rw[h2] at this;omega
 have hC:∀r,r<len->C r<=140737488351232:=by
  intro r hr;obtain⟨h1,h2,h3,h4,h5,h6,h7⟩:=a8 r (by omega);cases hA:A' r with
  |none=>rw[h6 hA];omega
  |some a' =>
   have b8:Go.Deep.intRow (H:=H) .u8 (A' r) (L r) (Z r)∈(List.range len).map (fun r=>Go.Deep.intRow (H:=H) .u8 (A' r) (L r) (Z r)):=List.mem_map.2 ⟨r,List.mem_range.2 hr,rfl⟩;have h8:C r∈(Go.Deep.intRow (H:=H) .u8 (A' r) (L r) (Z r)).weights P e:=by
    rw[hA];simp only[Go.Deep.intRow,DataW.weights,he,bq,lits,lU,lV,lZ];rw[show(min (L r) (Z r).length+((Z r).length-L r))*1=C r by omega];exact List.mem_cons_self
   have h9:=hw (C r) (by
    simp only[DataW.weights,ht];exact List.mem_cons_of_mem _ (List.mem_append_left _ (aV9 b8 h8)))
   simp only[reachBytes] at h9;omega
 refine⟨some a,(List.range len).map fun r=>Row.mk (A' r) (((Z r).take (L r)).map fun n=>UInt8.ofNat n.toNat) (C r),cap,by simp,⟨?_,?_,?_,by simpa using hl,d9⟩⟩
 ·intro h0
  have h1:0<len:=by simpa using h0
  refine⟨a,rfl,?_,fun j u hu=>?_⟩
  ·exact mI W a (by have:=(a8 0 (by omega)).1;simpa[Addr.add] using this)
  rw[List.map_map,List.getElem?_map] at hu;obtain⟨r,hr,rfl⟩:=Option.map_eq_some_iff.1 hu;have hj:j<len:=by have:=(List.getElem?_eq_some_iff.1 hr).1;simpa using this
  rw[List.getElem?_range hj] at hr;injection hr with hr
  subst hr;obtain⟨h1,h2,h3,h4,h5,h6,h7⟩:=a8 j (by omega);rw[h1];simp[Row.val]
  omega
 ·intro r hr
  obtain⟨j,hj,rfl⟩:=List.mem_map.1 hr;have hj:=List.mem_range.1 hj;obtain⟨h1,h2,h3,h4,h5,h6,h7⟩:=a8 j (by omega);have d8:=hC j hj;refine⟨?_,by simp;omega⟩;rw[<-dM7 _ (fun n hn=>h5 n (List.mem_of_mem_take hn))];intro h0;have hL:0<L j∧0<(Z j).length:=by simp at h0;omega
  cases hA:A' j with
  |none=>have:=h6 hA;omega
  |some a' =>
   obtain⟨_,h8⟩:=h7 a' hA;refine⟨a',rfl,mI W a' (by have:=h8 0 (by omega);simpa[Addr.add] using this),fun i u hu=>?_⟩;rw[List.getElem?_map] at hu;obtain⟨n,hn,rfl⟩:=Option.map_eq_some_iff.1 hu;rw[List.getElem?_take] at hn;split at hn
   ·have hi:i<(Z j).length:=(List.getElem?_eq_some_iff.1 hn).1
    rw[h8 i (by omega)];simp[List.getD,hn]
   cases hn
 intro r hr;obtain⟨j,hj,rfl⟩:=List.mem_map.1 hr;have hj:=List.mem_range.1 hj;obtain⟨h1,h2,h3,h4,h5,h6,h7⟩:=a8 j (by omega);have d8:=hC j hj;exact⟨by simp;omega,by simp;omega,d8⟩
end
end
section
open Go.ChangeShapes Go.WideShapes Go.ChangeAt Go.RowKit
open Go.ChangeMaps (open_string shut_string)
structure cS5(w:World)(A:Option Addr)(ss:List ByteArray)(c:Nat):Prop where
 rd:Rd w w.heap.size A (ss.map Value.string)
 fit:∀s∈ss,s.size<=140737488351232
 le:ss.length<=c
 cap:c<=9223372036854775807
section
variable{H:Type}{enc:TypeId×Value->H}{P:Program}{W:World}{base:Nat}
theorem open_names{t e:TypeId}(ht:P.underlying t=some (.slice e))(he:P.underlying e=some .string)(hc:P.cellsOf e=1)
  {v:Value} {d:DataW H} {p:List MemPlace} (hv:Value.okWide P W .any base t v) (h:DataW.Trod enc P W 0 (fun _=>true) true t v d p) (hw:∀n∈d.weights P t,n<=reachBytes):
  ∃(A:Option Addr) (ss:List ByteArray) (c:Nat),v=.slice A ss.length c∧cS5 W A ss c:=by
 obtain⟨A,len,cap,rfl⟩:=okWide_slice ht hv;obtain⟨d9,hf⟩:=h;rcases Go.Deep.open_strs ht he hc hf with⟨a9,hx⟩|⟨a,l,c,m,Sx,a9,_,hl,hm,d8,hx,a8⟩
 ·simp[Value.cells] at a9
  obtain⟨rfl,rfl,rfl⟩:=a9;exact⟨none,[],0,rfl,⟨Rd.none_,(fun r hr=>by cases hr),by simp,by simp⟩⟩
 simp[Value.cells] at a9
 obtain⟨rfl,rfl,rfl⟩:=a9;simp only[Prod.mk.injEq] at hx;obtain⟨rfl,rfl⟩:=hx;simp only[if_true] at d8;refine⟨some a,(List.range len).map Sx,cap,by simp,⟨?_,?_,by simpa using hl,by unfold maxLen at hm;omega⟩⟩
 ·intro h0
  have h1:0<len:=by simpa using h0
  refine⟨a,rfl,?_,fun j u hu=>?_⟩
  ·exact mI W a (by have:=(a8 0 (by omega)).1;simpa[Addr.add] using this)
  rw[List.map_map,List.getElem?_map] at hu;obtain⟨r,hr,rfl⟩:=Option.map_eq_some_iff.1 hu;have hj:j<len:=by have:=(List.getElem?_eq_some_iff.1 hr).1;simpa using this
  rw[List.getElem?_range hj] at hr;injection hr with hr
  subst hr;exact(a8 j (by omega)).1
 intro s hs;obtain⟨j,hj,rfl⟩:=List.mem_map.1 hs;have hj:=List.mem_range.1 hj;have b8:(DataW.lit (.string (Sx j).data.toList):DataW H)∈(List.range len).map (fun i=>DataW.lit (.string (Sx i).data.toList)):=List.mem_map.2 ⟨j,List.mem_range.2 hj,rfl⟩;have h8:(Sx j).data.toList.length∈(DataW.lit (.string (Sx j).data.toList):DataW H).weights P e:=by simp[DataW.weights]
 have h9:=hw (Sx j).data.toList.length (by
  simp only[DataW.weights,ht];exact List.mem_cons_of_mem _ (List.mem_append_left _ (aV9 b8 h8)))
 simp only[reachBytes] at h9
 simpa using h9
end
end
end Go.Proofs.YtgeofijddhflaaaGreatDoor
