/- Rows of bytes that a call has made; which pieces bytes begin with, in plain words. No condition. -/
import Derived.Test.YtgeofijddhflaaaGreatDoorPTot
import Derived.Deep.DeepCutAuto
import Derived.Deep.WholeRow
import Derived.Deep.Matrix
import Derived.Lib.SmallJoins
import Derived.Lib.MakeNoZero
set_option linter.unusedVariables false
set_option linter.unusedSimpArgs false
set_option maxHeartbeats 8000000
set_option maxRecDepth 100000
namespace Go.Proofs.YtgeofijddhflaaaGreatDoor
namespace Crc
def cs(s:Nat):Nat:=(s*2 %4294967296)^^^(if s.testBit 31 then 79764919 else 0)
def csn:Nat->Nat->Nat
 |0,s=>s
 |k+1,s=>cs (csn k s)
def tab(i:Nat):Nat:=csn 8 (i*16777216)
def byte(s c:Nat):Nat:=csn 8 (s^^^c*16777216)
def reg(s:Nat)(l:List UInt8):Nat:=l.foldl (fun s c=>byte s c.toNat) s
def sum(l:List UInt8):Nat:=4294967295-reg 4294967295 l
theorem cD8{s:Nat}:cs s<4294967296:=by
 unfold cs;refine Nat.xor_lt_two_pow (n:=32) (Nat.mod_lt _ O) ?_;split<;>omega
theorem csn_lt{k s:Nat}(h:s<4294967296):csn k s<4294967296:=by
 cases k with
 |zero=>exact h
 |succ k=>exact cD8
theorem top{s:Nat}(h:s<4294967296):s.testBit 31=decide (2147483648<=s):=by
 rw[Nat.testBit_eq_decide_div_mod_eq]
 congr 1
 apply propext;omega
theorem cF7(s i:Nat):(s*2 %4294967296).testBit i=(decide (i<32)&&(decide (1<=i)&&s.testBit (i-1))):=by
 rw[show(4294967296:Nat)=2^32 from rfl,Nat.testBit_mod_two_pow,show s*2=s<<<1 by rw[Nat.shiftLeft_eq],Nat.testBit_shiftLeft]
theorem cB3(a b:Nat):cs (a^^^b)=cs a^^^cs b:=by
 apply Nat.eq_of_testBit_eq;intro i;unfold cs;simp only[Nat.testBit_xor,cF7];cases decide (i<32)<;>cases decide (1<=i)<;>cases a.testBit 31<;>cases b.testBit 31<;>cases a.testBit (i-1)<;>cases b.testBit (i-1)<;>simp
theorem bW1(k a b:Nat):csn k (a^^^b)=csn k a^^^csn k b:=by
 induction k with
 |zero=>rfl
 |succ k ih=>simp only[csn];rw[ih,cB3]
theorem bW0(k s:Nat)(h:s*2^k<4294967296):csn k s=s*2^k:=by
 induction k with
 |zero=>simp[csn]
 |succ k ih=>
  rw[Nat.pow_succ,<-Nat.mul_assoc] at h⊢;rw[csn,ih O,cs,top O,decide_eq_false O];simp;omega
theorem bZ6(s:Nat):s=(s/16777216*16777216)^^^(s %16777216):=by
 apply Nat.eq_of_testBit_eq;intro i;rw[Nat.testBit_xor,show(16777216:Nat)=2^24 from rfl,Nat.testBit_mod_two_pow,<-Nat.shiftLeft_eq,Nat.testBit_shiftLeft,<-Nat.shiftRight_eq_div_pow,Nat.testBit_shiftRight];by_cases h:i<24;simp[h,show¬24<=i by omega];simp[h,show 24<=i by omega]
theorem byte_tab(s c:Nat):byte s c=(s*256 %4294967296)^^^tab ((s/16777216)^^^c):=by
 have a:s^^^c*16777216=((s/16777216)^^^c)*16777216^^^(s %16777216):=by
  have b:((s/16777216)^^^c)*16777216=(s/16777216*16777216)^^^(c*16777216):=by
   rw[show(16777216:Nat)=2^24 from rfl,<-Nat.shiftLeft_eq,<-Nat.shiftLeft_eq,<-Nat.shiftLeft_eq,Nat.shiftLeft_xor_distrib]
  rw[b]
  conv=>lhs;rw[bZ6 s]
  rw[Nat.xor_assoc,Nat.xor_assoc,Nat.xor_comm (s %16777216)]
 unfold byte tab;rw[a,bW1,bW0 8 (s %16777216) O,Nat.xor_comm]
 congr 1
 omega
theorem byte_lt{s c:Nat}(h:s<4294967296)(a:c<256):byte s c<4294967296:=
 csn_lt (Nat.xor_lt_two_pow (n:=32) h O)
theorem reg_lt(l:List UInt8):∀{s:Nat},s<4294967296->reg s l<4294967296:=by
 induction l with
 |nil=>intro s h;exact h
 |cons c r ih=>intro s h;exact ih (byte_lt h c.toNat_lt)
theorem reg_snoc(s:Nat)(l:List UInt8)(c:UInt8):reg s (l++[c])=byte (reg s l) c.toNat:=by simp[reg]
theorem reg_append(s:Nat)(a b:List UInt8):reg s (a++b)=reg (reg s a) b:=by simp[reg]
theorem sum_lt(l:List UInt8):sum l<4294967296:=by unfold sum;omega
theorem tab_lt{i:Nat}(h:i<256):tab i<4294967296:=csn_lt O
def four(n:Nat):List UInt8:=[UInt8.ofNat (n/16777216),UInt8.ofNat (n/65536),UInt8.ofNat (n/256),UInt8.ofNat n]
theorem four_length(n:Nat):(four n).length=4:=rfl
theorem turn_bits(s:Nat)(h:s<4294967296):bits .xor .u32 ((s:Int)*2 %4294967296) (bits .and .u32 79764919 (-((s:Int)/2147483648) %4294967296))=(cs s:Int):=by
 have c:(s:Int)*2 %4294967296=((s*2 %4294967296:Nat):Int):=O;rw[c];unfold cs;rw[top h];by_cases b:2147483648<=s;have a:-((s:Int)/2147483648) %4294967296=((4294967295:Nat):Int):=by
  rw[show(s:Int)/2147483648=1 by omega];rfl
 rw[a,show(79764919:Int)=((79764919:Nat):Int) from rfl,u32_and_nat _ _ O O,show(79764919&&& 4294967295:Nat)=79764919 from rfl,u32_xor_nat _ _ (Nat.mod_lt _ O) O];simp[b];have a:-((s:Int)/2147483648) %4294967296=((0:Nat):Int):=by
  rw[show(s:Int)/2147483648=0 by omega];rfl
 rw[a,show(79764919:Int)=((79764919:Nat):Int) from rfl,u32_and_nat _ _ O O,show(79764919&&& 0:Nat)=0 from rfl,u32_xor_nat _ _ (Nat.mod_lt _ O) O];simp[b]
end Crc
section
open Go.RowKit Oct
def rR(cs:Array Value)(k:Nat):Prop:=cs.size=256∧∀j,j<k->cs[j]? =some (.int .u32 (Crc.tab j:Nat))
theorem rR.start:rR Tryz.zeroCells222 0:=⟨Tryz.zeroCells222_size,fun j h=>absurd h O⟩
theorem rR.set{cs:Array Value}{k:Nat}(h:rR cs k)(b:k<256):rR (cs.setIfInBounds k (.int .u32 (Crc.tab k:Nat))) (k+1):=by
 refine⟨by rw[Array.size_setIfInBounds];exact h.1,fun j c=>?_⟩;by_cases a:j=k;subst a;rw[Array.getElem?_setIfInBounds_self_of_lt (by rw[h.1];exact b)];rw[Array.getElem?_setIfInBounds_ne O];exact h.2 j O
theorem rR.one{cs:Array Value}(h:rR cs 256):cs.all (·.oneCell')=true:=by
 rw[Array.all_eq_true];intro i a;have b:=h.2 i (by rw[h.1] at a;exact a);rw[Array.getElem?_eq_getElem a] at b;rw[Option.some.inj b];rfl
theorem uH:(Tryz.prog.info? 222).map (·.size)=some 256:=by kernel_rfl
section
variable{w:World}{g:Nat}{cs cs' :Array Value}
theorem aS0(a:aS w g 222 cs):w.setRow g cs=w:=by
 unfold World.setRow
 congr 1
 apply Array.ext_getElem?;intro i;rw[Array.getElem?_modify];split;rename_i h;subst h;rw[show w.heap[g]? =_ from a];rfl;rfl
end
theorem bT6(w:World):Calls Tryz.prog 188 #[] w fun e s =>∃cs,e=.returned (.agg cs)∧rR cs 256∧Below w w s :=by
 go_enter Tryz.func188,Tryz.ntmps188;go_wp2_with fail;go_loopw [3,1,2] (fun i z A wr=>∃k:Nat,k<=256∧i=.int .i64 k∧∃cs,aS wr w 222 cs∧Hq (rR cs k)∧Below w w wr) (fun i _ _ _=>256-(intOf i).toNat)
 case atStart=>exact⟨0,O,rfl,_,aS.new _ _ _,J rR.start,(lS _ _).alloc (lR _) _⟩
 obtain⟨k,g,rfl,cs,a,b,d⟩:=hrel;by_cases c:k<256;rotate_left
 ·obtain rfl:k=256:=O
  go_upto_region 11 with fail
  refine wp_region_lit ?_;refine wpList_load_row rfl 222 (.tmp 0) rfl w.heap.size rfl 222 cs (0,0) _ a Tryz.underlying222 rfl (by rw[b.o.1];exact uH) ?_;refine wpList_store_row rfl 222 (.tmp 0) (.tmp 23) rfl w.heap.size cs rfl rfl 222 cs a (by rw[b.o.1];exact uH) rfl b.o.one ?_;rw[aS0 a];go_wp2;refine bodyPost_ret (v:=.agg cs) (results_cell_row Tryz.results188 _ wr w 222 cs (0,0) _ rfl a Tryz.underlying222 rfl (by rw[b.o.1];exact uH)) rfl ⟨cs,rfl,b.o,d⟩
 go_wp2_with fail;obtain⟨f,j⟩:∃f:World,f=wr:=⟨_,rfl⟩
 rw[<-j] at a d⊢;clear j;go_loop [9,2] (fun i r=>∃q:Nat,q<=8∧i=.int .i64 q∧r=.int .u32 (Crc.csn q (k*16777216):Nat)) (fun i _=>8-(intOf i).toNat)
 case atStart=>exact⟨0,O,rfl,by simp[Crc.csn]⟩
 obtain⟨q,x,rfl,rfl⟩:=hrel;by_cases n:q<8
 ·have p:Crc.csn q (k*16777216)<4294967296:=Crc.csn_lt O
  have y:=Crc.turn_bits _ p;go_wp2;exact⟨⟨q+1,O,by go_num,rfl⟩,by simp[intOf];omega⟩
 obtain rfl:q=8:=O;have h:∃u,f.cell? (w,k)=some u:=by
  rw[a.cell];exact⟨_,Array.getElem?_eq_getElem (by rw[b.o.1];exact c)⟩
 obtain⟨u,h⟩:=h;have t:=a.a6 k;have l:=b.o.set c;have m:=d.grown (aA f w k (.int .u32 (Crc.tab k:Nat))) d.size (fun k g=>by injection g with g;omega);go_wp2;exact⟨⟨k+1,O,by go_num,_,a.b8 k _,J l,m⟩,by simp[intOf];omega⟩
end
section
open Go.RowKit Oct
structure dK where
 a:Option Addr
 l:List UInt8
 c:Nat
def dK.val(r:dK):Value:=.slice r.a r.l r.c
def xI(w:World)(B:Nat)(ps:List dK):Prop:=∀p∈ps,Rd w B p.a (cells p.l)∧p.l.length<=4611686018427387904
def bR(ps:List dK):List UInt8:=ps.flatMap dK.l
theorem oH(ps:List dK)(k:Nat)(h:k<ps):bR (ps.take (k+1))=bR (ps.take k)++ps[k].l:=by
 unfold bR;rw[List.take_add_one,lW h];simp only[List.flatMap_append,Option.toList_some,List.flatMap_cons,List.flatMap_nil,List.append_nil]
theorem aQ4(s:Nat)(l:List UInt8)(k:Nat)(h:k<l):Crc.reg s (l.take (k+1))=Crc.byte (Crc.reg s (l.take k)) l[k].toNat:=by
 rw[List.take_add_one,lW h];exact Crc.reg_snoc _ _ _
theorem cA0{r b:Nat}(c:r<4294967296)(a:b<256):(r/16777216)^^^b<256:=Nat.xor_lt_two_pow (n:=8) O a
theorem cE0(r:Nat)(h:r<4294967296):(4294967295^^^r:Nat)=4294967295-r:=by
 have b:∀x:BitVec 32,(BitVec.allOnes 32^^^x)= ~~~ x:=fun x=>BitVec.allOnes_xor
 have a:=congrArg BitVec.toNat (b (BitVec.ofNat 32 r));rw[BitVec.toNat_not,BitVec.toNat_xor,BitVec.toNat_ofNat,Nat.mod_eq_of_lt O] at a;simpa using a
theorem bZ8(l:List UInt8):bits .xor .u32 IntKind.u32.max (Crc.reg 4294967295 l:Nat)=(Crc.sum l:Nat):=by
 have h:=Crc.reg_lt l (s:=4294967295) O;rw[show IntKind.u32.max=((4294967295:Nat):Int) from rfl,u32_xor_nat _ _ O h,cE0 _ h];rfl
theorem bD4(A:Option Addr)(ps:List dK)(n c:Nat)(L:n=ps)(w:World)(M:Rd w w A (ps.map dK.val))(F:xI w w ps)(Z:ps.length<=4611686018427387904):
  Calls Tryz.prog 153 #[.slice A n c] w fun e W =>e=.returned (.int .i64 (Crc.sum (bR ps):Nat))∧Below w w W :=by
 subst L;have G:=J F;clear F;go_enter Tryz.func153,Tryz.ntmps153;go_wp2_with fail;refine(bT6 w).mono ?_;rintro e d ⟨cs,rfl,f,y⟩;go_wp2_with (refine wpList_store_row rfl 222 (.tmp 3) (.tmp 9) rfl d.heap.size cs rfl rfl 222 _ (aS.new d _ _) (by rw[f.1];exact uH) (by rw[f.1];exact Tryz.zeroCells222_size) f.one ?_);rw[World.setRow_alloc_new];have m:Below w w (d.alloc (.cells cs 222)):=y.alloc y.size _;have u:aS (d.alloc (.cells cs 222)) d 222 cs:=aS.new _ _ _;have I:=J f;generalize d.alloc (.cells cs 222)=w2 at m u⊢;generalize d=g at u⊢;clear y f;have T:=M.a1 m;go_loop [12,4,6,8] (fun i r _ _=>∃k:Nat,k<=ps∧i=.int .i64 k∧r=.int .u32 (Crc.reg 4294967295 (bR (ps.take k)):Nat)) (fun i _ _ _=>ps.length-(intOf i).toNat)
 case atStart=>exact⟨0,O,rfl,rfl⟩
 obtain⟨k,Y,rfl,rfl⟩:=hrel;by_cases b:k<ps;rotate_left
 ·obtain rfl:k=ps:=O
  have v:=bZ8 (bR ps);have l8:=Crc.sum_lt (bR ps);have hw:wrap64 ((Crc.sum (bR ps):Nat):Int)=(Crc.sum (bR ps):Nat):=by unfold wrap64;omega
  go_wp2;go_ret;exact⟨rfl,m⟩
 obtain⟨K,rfl,m7,p⟩:=iR T b;have z:=J (G.o _ (lX b));obtain⟨a,l,t,E⟩:∃a l t,ps[k]=dK.mk a l t :=⟨_,_,_,rfl⟩
 have B:=J (oH ps k b);rw[E] at p z B;have j9:w2.cell? (K.add k)=some (.slice a l t):=p;have U:Rd w2 w a (cells l):=z.o.1.a1 m;have m9:l.length<=4611686018427387904:=z.o.2;have m8:(k:Int)<ps.length:=O;clear E p;obtain⟨R,j⟩:=eX (Crc.reg 4294967295 (bR (ps.take k)));have P:R<4294967296:=by rw[j];exact Crc.reg_lt _ O
 rw[<-j];have H:=J j;clear j;go_wp2_with fail;go_loop [18,4,8] (fun i r _=>∃q:Nat,q<=l∧i=.int .i64 q∧r=.int .u32 (Crc.reg R (l.take q):Nat)) (fun i _ _=>l.length-(intOf i).toNat)
 case atStart=>exact⟨0,O,rfl,rfl⟩
 obtain⟨q,hq,rfl,rfl⟩:=hrel;by_cases h:q<l
 ·obtain⟨m6,rfl,l7,l4⟩:=iR U h
  have n5:(q:Int)<l.length:=O;have C:=J (aQ4 R l q h);have D:=Crc.reg_lt (l.take q) P;generalize Crc.reg R (l.take q)=s at C D⊢;have Q:=l[q].toNat_lt;have hx:bits .xor .u8 ((s:Int)/16777216) (l[q].toNat:Int)=(((s/16777216)^^^l[q].toNat:Nat):Int):=by
   rw[u8_xor _ _ O O O O]
   congr 1
  have x:=cA0 D Q;have V:w2.cell? (g,(s/16777216)^^^l[q].toNat)=some (.int .u32 (Crc.tab ((s/16777216)^^^l[q].toNat):Nat)):=by
   rw[u.cell];exact I.o.2 _ x
  have N:bits .xor .u32 ((s:Int)*256 %4294967296) (Crc.tab ((s/16777216)^^^l[q].toNat):Nat)=(Crc.byte s l[q].toNat:Nat):=by
   rw[Crc.byte_tab,show(s:Int)*256 %4294967296=((s*256 %4294967296:Nat):Int) by omega,u32_xor_nat _ _ O (Crc.tab_lt x)]
  generalize(s/16777216)^^^l[q].toNat=X at hx x V N;go_wp2;exact⟨⟨q+1,by omega,by go_num,by rw[C.o]⟩,by simp[intOf];omega⟩
 obtain rfl:q=l:=O;have v:Crc.reg R (l.take l)=Crc.reg 4294967295 (bR (ps.take (k+1))):=by
  rw[List.take_length,B.o,Crc.reg_append,H.o]
 have S:=J v;clear v;go_wp2;exact⟨⟨k+1,O,by go_num,by rw[S.o]⟩,by simp[intOf];omega⟩
end
section
open Go.RowKit Oct
theorem cD6{s:Nat}(h:s<4294967296)(a:2147483648<=s):bits .xor .u32 ((s:Int)*2 %4294967296) 79764919=(Crc.cs s:Nat):=by
 unfold Crc.cs;rw[Crc.top h,show(s:Int)*2 %4294967296=((s*2 %4294967296:Nat):Int) by omega,show(79764919:Int)=((79764919:Nat):Int) from rfl,u32_xor_nat _ _ O O];simp[a]
theorem cD7{s:Nat}(h:s<4294967296)(a:¬2147483648<=s):(s:Int)*2=(Crc.cs s:Nat):=by
 unfold Crc.cs;rw[Crc.top h];simp[a];omega
theorem aR8(A:Option Addr)(l:List UInt8)(n c B:Nat)(u:n=l)(w:World)(x:Rd w B A (cells l))(H:l.length<=4611686018427387904):
  Calls Tryz.prog 161 #[.slice A n c] w fun e y =>e=.returned (.int .i64 (Crc.sum l:Nat))∧w=y :=by
 subst u;go_enter Tryz.func161,Tryz.ntmps161;go_wp2_with fail;go_loop [4,3,5,6] (fun i s _ _=>∃k:Nat,k<=l∧i=.int .i64 k∧s=.int .u32 (Crc.reg 4294967295 (l.take k):Nat)) (fun i _ _ _=>l.length-(intOf i).toNat)
 case atStart=>exact⟨0,O,rfl,rfl⟩
 obtain⟨k,G,rfl,rfl⟩:=hrel;by_cases a:k<l;rotate_left
 ·obtain rfl:k=l:=O
  have F:=Crc.reg_lt l (s:=4294967295) O;have E:(4294967295:Int)-(Crc.reg 4294967295 l:Nat)=(Crc.sum l:Nat):=by unfold Crc.sum;omega
  go_wp2;go_ret;exact⟨rfl,rfl⟩
 obtain⟨z,rfl,K,C⟩:=iR x a;have L:(k:Int)<l.length:=O;have h:=J (aQ4 4294967295 l k a);have f:=Crc.reg_lt (l.take k) (s:=4294967295) O;generalize Crc.reg 4294967295 (l.take k)=s at h f⊢;have D:=l[k].toNat_lt;have hx:bits .xor .u32 (s:Int) ((l[k].toNat:Int)*16777216)=((s^^^l[k].toNat*16777216:Nat):Int):=by
  rw[show(l[k].toNat:Int)*16777216=((l[k].toNat*16777216:Nat):Int) by omega,u32_xor_nat _ _ f O]
 have j:(s^^^l[k].toNat*16777216)<4294967296:=Nat.xor_lt_two_pow (n:=32) f O;have g:Hq (Crc.byte s l[k].toNat=Crc.csn 8 (s^^^l[k].toNat*16777216)):=J rfl;generalize s^^^l[k].toNat*16777216=X at hx j g;go_wp2_with fail;go_loop [5,3,6] (fun i s _=>∃q:Nat,q<=8∧i=.int .i64 q∧s=.int .u32 (Crc.csn q X:Nat)) (fun i _ _=>8-(intOf i).toNat)
 case atStart=>exact⟨0,O,rfl,rfl⟩
 obtain⟨q,I,rfl,rfl⟩:=hrel;by_cases v:q<8
 ·have d:Crc.csn q X<4294967296:=Crc.csn_lt j
  have b:Hq (Crc.csn (q+1) X=Crc.cs (Crc.csn q X)):=J rfl;generalize Crc.csn q X=t at d b⊢;by_cases m:2147483648<=t
  ·have p:=cD6 d m
   have r:((t:Int)/2147483648==1)=true:=by simp;omega
   go_wp2;exact⟨⟨q+1,O,by go_num,by rw[b.o]⟩,by simp[intOf];omega⟩
  have p:=cD7 d m;have r:((t:Int)/2147483648==1)=false:=by simp;omega
  go_wp2;exact⟨⟨q+1,O,by go_num,by rw[b.o]⟩,by simp[intOf];omega⟩
 obtain rfl:q=8:=O;go_wp2;exact⟨⟨k+1,O,by go_num,by rw[h.o,g.o]⟩,by simp[intOf];omega⟩
end
section
open Go.RowKit Oct
theorem bY4(w:World)(base:Nat)(e:TypeId)(a:List Value)(n:Nat)(c:n=a)(b:base<=w)(d:a.length<=9223372036854775807):Own (w.alloc (.cells a.toArray e)) base e (.slice (w,0) n n) a:=by
 subst c;exact⟨σ,.inr ⟨w,a,a.toArray,rfl,b,heap_alloc_new w _,lR _,by unfold maxLen;omega,σ,σ⟩⟩
theorem tD(x:Nat)(y:Int)(h:y %256=((x %256:Nat):Int)):Value.int .u8 (y %256)=.int .u8 (((UInt8.ofNat x).toNat:Nat):Int):=by
 rw[UInt8.toNat_ofNat',h]
theorem sC(n:Nat)(h:n<4294967296):cells (Crc.four n)=[.int .u8 ((n:Int)/16777216),.int .u8 ((n:Int)/65536 %256),.int .u8 ((n:Int)/256 %256),.int .u8 ((n:Int) %256)]:=by
 simp only[cells,Crc.four,mG,List.map_nil];rw[<-tD (n/16777216) ((n:Int)/16777216) O,<-tD (n/65536) ((n:Int)/65536) O,<-tD (n/256) ((n:Int)/256) O,<-tD n (n:Int) O,show(n:Int)/16777216 %256=(n:Int)/16777216 by omega]
theorem aN8(n:Nat)(N:Int)(b:N=(n:Int))(h:n<4294967296)(w:World):
  Calls Tryz.prog 152 #[N] w fun e a =>∃v,e=.returned v∧Bs a w v (Crc.four n)∧Below w w a :=by
 subst b;go_enter Tryz.func152,Tryz.ntmps152;go_wp2;go_ret;refine⟨_,rfl,?_,(lS _ _).alloc (lR _) _⟩;have:=bY4 w w 5 (cells (Crc.four n)) 4 (by rw[aB];rfl) (lR _) (by rw[aB];simp[Crc.four]);rw[sC n h] at this;unfold Bs;rw[sC n h];exact this
theorem nR(a b:List UInt8):((bU a).toList==(bU b).toList)=decide (a=b):=by
 rw[jB,jB];by_cases c:a=b;simp[c];rw[decide_eq_false c];exact mN.2 c
theorem bF2(A B:Option Addr)(l m:List UInt8)(a b c d K:Nat)(a8:a=l)(f:b=m)(w:World)(g:Rd w K A (cells l))(h:Rd w K B (cells m)):
  Calls Tryz.prog 151 #[.slice A a c,.slice B b d] w fun e i =>e=.returned (.bool (decide (l=m)))∧w=i :=by
 subst a8;subst f;have j:=kM c g;have k:=kM d h;have n:=nR l m;go_enter Tryz.func151,Tryz.ntmps151;go_wp2;go_ret;exact⟨rfl,rfl⟩
theorem oD(A:Option Addr)(l:List UInt8)(n c:Nat)(m:n=l)(w:World)(b:Rd w w A (cells l))(o:l.length<=140737488351232):
  Calls Tryz.prog 73 #[.slice A n c] w fun e d =>∃v,e=.returned v∧Bs d w v l∧Below w w d :=by
 subst m;cases A with
 |none=>
  have g:l=[]:=by
   refine Classical.byContradiction fun h=>?_
   obtain⟨a,i,_⟩:=b (by rw[aB];exact List.length_pos_iff.2 h);cases i
  subst g;have k:∀W:World,(binOp .eql 34 (.slice none 0 c) (.slice none 0 0)).run Tryz.prog W=.ok (.bool true) W:=fun _=>rfl
  go_enter Tryz.func73,Tryz.ntmps73;go_wp2;go_ret;exact⟨_,rfl,Own.nil _ _ _,lS _ _⟩
 |some a=>
  have k:∀W:World,(binOp .eql 34 (.slice (some a) l c) (.slice none 0 0)).run Tryz.prog W=.ok (.bool false) W:=fun _=>rfl
  go_enter Tryz.func73,Tryz.ntmps73;go_wp2_with (at_builtin;refine xG rfl (.tmp 5) (.tmp 6) 34 rfl 5 (.int .u8 0) 1 Tryz.underlying34 bJ rfl rfl (some a) l.length c _ rfl (aB _).symm b (fY _) O O ?_;intro p q f j);go_ret;exact⟨_,rfl,f,j⟩
end
section
open Go.ChangeShapes Go.WideShapes Go.ChangeAt Go.RowKit Oct
theorem cB4(z:List Int)(a8:∀n∈z,(Lit.int .u8 n).wf=true):z.map (Value.int .u8)=cells (z.map fun n=>UInt8.ofNat n.toNat):=by
 simp only[cells,List.map_map];refine List.map_congr_left fun n b=>?_
 have a:=a8 n b;simp[Lit.wf,IntKind.min,IntKind.max,IntKind.signed,IntKind.bits] at a;simp;omega
section
variable{H:Type}{enc:TypeId×Value->H}{P:Program}{W:World}{base:Nat}
theorem pT{e:TypeId}{n:Nat}{l:List (DataW H)}{d:DataW H}(a:d∈l)(b:n∈d.weights P e):n∈DataW.weightsAll P e l:=by
 induction l with
 |nil=>cases a
 |cons x r ih=>
  unfold DataW.weightsAll;rcases List.mem_cons.1 a with rfl|a
  exact List.mem_append_left _ b;exact List.mem_append_right _ (ih a)
end
end
section
open Go.ChangeShapes Go.WideShapes Go.ChangeAt Go.RowKit Go.Joins Go.Deep Oct
section
variable{H:Type}{enc:TypeId×Value->H}{P:Program}{W:World}{base:Nat}
theorem oJ{t:TypeId}(f:P.underlying t=some (.int .i64)){v:Value}{b:Nat}{y:DataW H×List MemPlace}(e:DataW.trod enc P W 0 (fun _=>true) true b t [v]=some y):
  ∃a:Int,v=.int .i64 a∧I6 a:=by
 obtain⟨a,c,_,d⟩:=DataW.trod_int f e;simp at c;exact⟨a,c,bd_i64 d⟩
end
end
section
open Go.ChangeShapes Go.WideShapes Go.ChangeAt Go.RowKit Go.Joins Go.Deep Oct
theorem aJ4{α:Type}{G:Nat->α->Prop}:∀n,(∀k,k<n->∃p,G k p)->∃a:List α,a.length=n∧∀k (b:k<a.length),G k a[k]
 |0,_=>⟨[],rfl,fun k b=>absurd b σ⟩
 |n+1,h=>by
  obtain⟨a,d,e⟩:=aJ4 n (fun k b=>h k O);obtain⟨p,f⟩:=h n O;refine⟨a++[p],by simp[d],fun k b=>?_⟩;by_cases c:k<a;rw[List.getElem_append_left c];exact e k c;have:k=n:=by simp at b;omega
  subst this;rw[List.getElem_append_right O];simpa[d] using f
end
section
open Oct
def head(p:List UInt8):List UInt8:=enc p++p
def aF8(p:List UInt8):List UInt8:=head p++Crc.four (Crc.sum (head p))
def cM(p:List UInt8):List UInt8:=if 1048576<p.length then[] else aF8 p
def sA(p:List UInt8):Int:=if 1048576<p.length then 2 else 0
def nF(b:List UInt8):Nat:=(aC maxI b).2.1+(aC maxI b).1
def bO(b:List UInt8):List UInt8×Nat×Int:=
 if(aC maxI b).2.2≠0 then([],0,(aC maxI b).2.2)
 else if 1048576<(aC maxI b).1 then([],0,2)
 else if b<nF b+4 then([],0,3)
 else if Crc.four (Crc.sum (b.take (nF b)))=(b.drop (nF b)).take 4 then((b.drop (aC maxI b).2.1).take (aC maxI b).1,nF b+4,0)
 else([],0,5)
def jR(b:List UInt8):Nat->Nat->List (List UInt8)×Nat×Int
 |0,a=>([],a,0)
 |f+1,a=>
  if b<=a then([],a,0)
  else if(bO (b.drop a)).2.2=0 then
   ((bO (b.drop a)).1::(jR b f (a+(bO (b.drop a)).2.1)).1,(jR b f (a+(bO (b.drop a)).2.1)).2)
  else([],a,(bO (b.drop a)).2.2)
def cL(b:List UInt8):List (List UInt8)×Nat×Int:=jR b (b.length+1) 0
theorem kH{b:List UInt8}(h:(bO b).2.2=0):(bO b).1.length<=1048576∧5<=(bO b).2.1∧(bO b).2.1<=b.length∧b.take (bO b).2.1=aF8 (bO b).1:=by
 unfold bO at h⊢;by_cases a:(aC maxI b).2.2≠0;rw[if_pos a] at h;exact absurd h a;rw[if_neg a] at h⊢;by_cases g:1048576<(aC maxI b).1;rw[if_pos g] at h;cases h;rw[if_neg g] at h⊢;by_cases c:b<nF b+4;rw[if_pos c] at h;cases h;rw[if_neg c] at h⊢;by_cases d:Crc.four (Crc.sum (b.take (nF b)))=(b.drop (nF b)).take 4;rotate_left;rw[if_neg d] at h;cases h;rw[if_pos d];have f:=Classical.not_not.1 a;have i:=aM8 (m:=maxI) (l:=b) f;rw[<-aB2 f] at i;obtain⟨o,p,k⟩:=i;have j:b.take (aC maxI b).2.1=enc (aC maxI b).1:=k;have e:((b.drop (aC maxI b).2.1).take (aC maxI b).1).length=(aC maxI b).1:=by
  unfold nF at c;simp;omega
 have n:b.take (nF b)=head ((b.drop (aC maxI b).2.1).take (aC maxI b).1):=by
  unfold head;rw[e,<-j];unfold nF;rw[List.take_add]
 refine⟨by simp only;rw[e];omega,by simp only;unfold nF;omega,by simp only;omega,?_⟩;show b.take (nF b+4)=aF8 _
 unfold aF8;rw[<-n,List.take_add,<-d]
end
section
open Go.RowKit Oct
theorem cS(w:World)(e:TypeId)(a:List Value):Rd (w.alloc (.cells a.toArray e)) (w.heap.size+1) (w,0) a:=by
 intro _;refine⟨_,rfl,σ,fun j u b=>?_⟩;rw[show((w,0):Addr).add j=⟨w,j,none⟩ by simp[Addr.add_lit],World.cell?_alloc_at _ _ _ _ rfl];simpa using b
theorem jG{p:List UInt8}(h:¬1048576<p.length):cM p=enc p++p++Crc.four (Crc.sum (enc p++p)):=if_neg h
theorem pM(A:Option Addr)(p:List UInt8)(n c:Nat)(G:n=p)(w:World)(I:Rd w w A (cells p))(Q:p.length<=140737488351232):
  Calls Tryz.prog 128 #[.slice A n c] w fun e z =>∃v,e=.returned (.tuple #[v,.int .i64 (sA p)])∧Bs z w v (cM p)∧Below w w z :=by
 subst G;by_cases f:1048576<p.length
 ·have b:sA p=2:=if_pos f
  have s:cM p=[]:=if_pos f;rw[b,s];clear b s;go_enter Tryz.func128,Tryz.ntmps128;go_wp2;go_ret2;exact⟨_,rfl,Own.nil _ _ _,lS _ _⟩
 have b:sA p=0:=if_neg f;have T:=dG p O;have j:=jG f;have K:(enc p++p).length<=1048586:=by rw[lT];omega
 obtain⟨H,h⟩:=eX (enc p++p);rw[<-h] at j K;have t:=Crc.sum_lt H;have g:=J (sC _ t);have l:=J j;have C:=J h;clear j h;rw[b];clear b;go_enter Tryz.func128,Tryz.ntmps128;go_wp2_with fail;refine(aG7 p w O).mono ?_;rintro e V ⟨N,rfl,q,i⟩;go_wp2_with (at_builtin;refine nS (W:=w) rfl (.tmp 16) (.tmp 17) 34 rfl 5 (.int .u8 0) 1 Tryz.underlying34 bJ rfl N (cells (enc p.length)) rfl w.heap.size i (lR _) q w.heap.size A p.length c _ rfl (aB _).symm (I.a1 i) (fY _) (by rw[aB];omega) (by rw[aB];omega) ?_;intro P d a u);rw[<-bV,<-C.o] at a;have m:Bs d w P H:=a;obtain⟨B,D,rfl,R,_,y⟩:=bF m;have E:=u.size;clear q i;go_wp2_with fail;refine(aR8 B H _ D _ rfl d y O).mono ?_;rintro e X ⟨rfl,rfl⟩;generalize Crc.sum H=S at t g l⊢;clear y;go_wp2_with (at_builtin;refine aP rfl (.tmp 21) (.tmp 33) 34 rfl w.heap.size 5 (.int .u8 0) 1 Tryz.underlying34 bJ rfl _ (cells H) rfl (a.alloc _) (d.heap.size+1) (some ⟨d.heap.size,0,none⟩) 4 4 _ rfl rfl (cS d _ _) (by rw[<-g.o];exact fY _) (by rw[aB];unfold maxLen;omega) (by rw[aB];omega) (by simp;omega) ?_;intro U Y r x M);rw[<-g.o,<-bV,<-l.o] at r;have L:=(u.alloc E _).grown x θ (fun k F=>(a.lt k F).1);clear x M a m;go_wp2;go_ret2;exact⟨_,rfl,r,L⟩
end
section
open Go.RowKit Oct
theorem sP{P:Program}{T e:TypeId}{z:Value}{a:Nat}(c:P.underlying T=some (.slice e))(a8:(P.info? e).map (fun i=>(i.zero,i.size,i.bytes))=some (some z,1,a))(A:Option Addr)(b cap hi:Nat)(l:hi<=cap)(X:Int)(g:X=(hi:Int))(w:World):
  (Instr.slice T (.slice A b cap) none (some (.int .i64 X)) none).run P w=.ok (.slice A hi cap) w:=by
 obtain⟨i,f,m,d,k⟩:=info_parts a8;subst g;rw[run_slice_h w T A b cap (by rw[c];simp[Program.elem,c]) .i64 hi O O];have h:P.elem T=e:=by simp[Program.elem,c]
 rw[h,mZ f d];have j:A.map (·.add 0)=A:=by cases A<;>simp[Addr.add]
 simp[sliced,Result.andThen,j]
theorem bF7{l:List UInt8}{E:Nat}(h:E+4<=l)(S:Nat)(f:S<4294967296):
  (Crc.four S=(l.drop E).take 4)↔((l[E]'O).toNat*16777216+(l[E+1]'O).toNat*65536+(l[E+2]'O).toNat*256+(l[E+3]'O).toNat=S):=by
 have e:(l.drop E).take 4=[l[E]'O,l[E+1]'O,l[E+2]'O,l[E+3]'O]:=by
  rw[List.drop_eq_getElem_cons O,List.drop_eq_getElem_cons O,List.drop_eq_getElem_cons O,List.drop_eq_getElem_cons O];rfl
 rw[e];generalize l[E]'O=a;generalize l[E+1]'O=b;generalize l[E+2]'O=c;generalize l[E+3]'O=d;have g:=a.toNat_lt;have i:=b.toNat_lt;have j:=c.toNat_lt;have k:=d.toNat_lt;simp only[Crc.four,List.cons.injEq,<-UInt8.toNat_inj,UInt8.toNat_ofNat'];constructor;intro h;omega;intro h;subst h;refine⟨?_,?_,?_,?_,trivial⟩<;>omega
theorem aG1(A:Option Addr)(l:List UInt8)(n c:Nat)(hn:n=l)(w:World)(d:Rd w w A (cells l))(m5:l<=c)(hl:l.length<=140737488351232∧c<=9223372036854775807):
  Calls Tryz.prog 134 #[.slice A n c] w fun e w' =>∃v,e=.returned (.tuple #[v,.int .i64 (bO l).2.1,.int .i64 (bO l).2.2])∧Bs w' w v (bO l).1∧Below w w w' :=by
 subst hn;have n5:(aC maxI l).1<=9223372036854775807:=iM maxI l;have hu:=cX maxI l;by_cases b:(aC maxI l).2.2≠0
 ·have s:Hq (bO l=([],0,(aC maxI l).2.2)):=J (if_pos b)
  have hd:((aC maxI l).2.2 !=0)=true:=by simpa using b
  rw[s.o];clear b;go_enter Tryz.func134,Tryz.ntmps134;go_wp2_with fail;refine(eD A l _ c _ rfl w d O).mono ?_;rintro e I ⟨rfl,rfl⟩;go_wp2;go_ret3;exact⟨_,rfl,Own.nil _ _ _,lS _ _⟩
 have q:=Classical.not_not.1 b;by_cases u:1048576<(aC maxI l).1
 ·have s:Hq (bO l=([],0,2)):=J (by unfold bO;rw[if_neg b,if_pos u])
  rw[s.o];have r:=J q;clear b q;go_enter Tryz.func134,Tryz.ntmps134;go_wp2_with fail;refine(eD A l _ c _ rfl w d O).mono ?_;rintro e I ⟨rfl,rfl⟩;rw[r.o];go_wp2;go_ret3;exact⟨_,rfl,Own.nil _ _ _,lS _ _⟩
 by_cases x:l<nF l+4
 ·have s:Hq (bO l=([],0,3)):=J (by unfold bO;rw[if_neg b,if_neg u,if_pos x])
  rw[s.o];have r:=J q;unfold nF at x;clear b q;go_enter Tryz.func134,Tryz.ntmps134;go_wp2_with fail;refine(eD A l _ c _ rfl w d O).mono ?_;rintro e I ⟨rfl,rfl⟩;rw[r.o];go_wp2;go_ret3;exact⟨_,rfl,Own.nil _ _ _,lS _ _⟩
 have r:=J q;have G:nF l+4<=l:=O;obtain⟨E,z⟩:=eX (nF l);have l5:E=(aC maxI l).2.1+(aC maxI l).1:=z;rw[<-z] at G;obtain⟨i,A0,b0,c0⟩:=iR d (k:=E) O;obtain⟨a1,K,b1,R⟩:=iR d (k:=E+1) O;obtain⟨a2,L,b2,S⟩:=iR d (k:=E+2) O;obtain⟨a3,Q,b3,T⟩:=iR d (k:=E+3) O;subst A0;injection K with K;subst K
 injection L with L;subst L
 injection Q with Q;subst Q
 have hS:=Crc.sum_lt (l.take E);have g:=J (bF7 G _ hS);have x0:=(l[E]'O).toNat_lt;have x1:=(l[E+1]'O).toNat_lt;have x2:=(l[E+2]'O).toNat_lt;have x3:=(l[E+3]'O).toNat_lt;have a:Hq ((l[E]'O).toNat*16777216+(l[E+1]'O).toNat*65536+(l[E+2]'O).toNat*256+(l[E+3]'O).toNat=Crc.sum (l.take E)->bO l=((l.drop (aC maxI l).2.1).take (aC maxI l).1,E+4,0)):=J fun h=>by
  unfold bO;rw[if_neg b,if_neg u,if_neg x,<-z,if_pos (g.o.2 h)]
 have f:Hq (¬(l[E]'O).toNat*16777216+(l[E+1]'O).toNat*65536+(l[E+2]'O).toNat*256+(l[E+3]'O).toNat=Crc.sum (l.take E)->bO l=([],0,5)):=J fun h=>by
  unfold bO;rw[if_neg b,if_neg u,if_neg x,<-z,if_neg fun h' =>h (g.o.1 h')]
 generalize(l[E]'O).toNat=j at c0 g x0 a f;generalize(l[E+1]'O).toNat=m at R g x1 a f;generalize(l[E+2]'O).toNat=p at S g x2 a f;generalize(l[E+3]'O).toNat=B at T g x3 a f;have hcut:=fun W:World=>sP (P:=Tryz.prog) Tryz.underlying34 bJ (some i) l c E O (E:Int) rfl W
 have m6:Rd w w (some i) (cells (l.take E)):=by simpa[cells,List.map_take] using d.take E
 have m8:(l.take E).length=E:=by rw[lV];omega
 have X:(((aC maxI l).2.1:Nat):Int)+((aC maxI l).1:Nat)=(E:Int):=O;have l4:=J m8;have t:=J l5;clear b q z l5 x m8;go_enter Tryz.func134,Tryz.ntmps134;go_wp2_with fail;refine(eD (some i) l _ c _ rfl w d O).mono ?_;rintro e I ⟨rfl,rfl⟩;rw[r.o];go_wp2_with fail;have i0:(E:Int)<l.length:=O;have j0:(0:Int)<=E:=O;obtain⟨C,l6⟩:=eX (E+1);obtain⟨D,l7⟩:=eX (E+2);obtain⟨F,l8⟩:=eX (E+3);have i1:(C:Int)<l.length:=O;have j1:(0:Int)<=C:=O;have i2:(D:Int)<l.length:=O;have j2:(0:Int)<=D:=O;have i3:(F:Int)<l.length:=O;have j3:(0:Int)<=F:=O;rw[<-l6] at R;rw[<-l7] at S;rw[<-l8] at T;have H1:Hq ((C:Int)=(E:Int)+1):=J O;have H2:Hq ((D:Int)=(E:Int)+2):=J O;have H3:Hq ((F:Int)=(E:Int)+3):=J O;clear l6 l7 l8;have z1:IntKind.i64.wrap ((E:Int)+1)=(C:Int):=by rw[H1.o];exact mH _ O
 have z2:IntKind.i64.wrap ((E:Int)+2)=(D:Int):=by rw[H2.o];exact mH _ O
 have z3:IntKind.i64.wrap ((E:Int)+3)=(F:Int):=by rw[H3.o];exact mH _ O
 have HV:Hq (wrap64 (wrap64 (wrap64 (wrap64 (wrap64 (j:Int)*16777216)+wrap64 (wrap64 (m:Int)*65536))+wrap64 (wrap64 (p:Int)*256))+wrap64 (B:Int))=((j*16777216+m*65536+p*256+B:Nat):Int)):=J (by
  rw[IntWalk.wrap64_in (j:Int) O,IntWalk.wrap64_in (m:Int) O,IntWalk.wrap64_in (p:Int) O,IntWalk.wrap64_in (B:Int) O,IntWalk.wrap64_in ((j:Int)*16777216) O,IntWalk.wrap64_in ((m:Int)*65536) O,IntWalk.wrap64_in ((p:Int)*256) O,IntWalk.wrap64_in ((j:Int)*16777216+(m:Int)*65536) O,IntWalk.wrap64_in ((j:Int)*16777216+(m:Int)*65536+(p:Int)*256) O,IntWalk.wrap64_in ((j:Int)*16777216+(m:Int)*65536+(p:Int)*256+(B:Int)) O];omega)
 clear x0 x1 x2 x3 b0 b1 b2 b3 hS n5 hu u;generalize(aC maxI l).1=N at X a t⊢;generalize(aC maxI l).2.1=U at X a t⊢;have V:=J G;have j8:=J m5;clear X G m5;go_quiet (fail);go_wp2_with fail;refine(aR8 (some i) (l.take E) _ c w l4.o.symm _ (m6.drewN _) (by rw[l4.o];omega)).mono ?_;rintro e w2 ⟨rfl,rfl⟩;clear c0 R S T z1 z2 z3 i1 i2 i3 j1 j2 j3 H1 H2 H3;rw[HV.o];generalize j*16777216+m*65536+p*256+B=Y at a f⊢;generalize Crc.sum (l.take E)=Z at a f⊢;by_cases h4:Y=Z;rotate_left
 ·have y:=f.o h4
  have h6:((Z:Int) !=(Y:Int))=true:=by simp;omega
  have H:=J y;clear y g a f;go_wp2;go_ret3;rw[H.o];exact⟨_,rfl,Own.nil _ _ _,aD (lS _ _) _⟩
 have y:=a.o h4;have h6:((Z:Int) !=(Y:Int))=false:=by simp;omega
 have H:=J y;have m3:=fun W:World=>uC (P:=Tryz.prog) Tryz.underlying34 bJ (some i) l c U E (ω1 t.o) (ω2 V.o j8.o) (U:Int) (E:Int) rfl rfl W
 have i6:((l.drop U).take N).length=E-U:=by simp;have:=t.o;have:=V.o;omega
 have j6:Rd w w (cutA (some i) U c) (cells ((l.drop U).take N)):=by
  have:=(Rd.j1 d (k:=U) (cap:=c) (by rw[aB];have:=t.o;have:=V.o;omega) (by rw[aB];exact j8.o)).take N;simpa[cells,List.map_take,List.map_drop] using this
 generalize(l.drop U).take N=M at i6 j6 H⊢;have m9:=J i6;clear h4 y g a f i6;generalize hwd:w.drewN nq=wd;have n9:Rd wd wd (cutA (some i) U c) (cells M):=by rw[<-hwd];exact j6.drewN nq
 have l9:Below w w wd:=by rw[<-hwd];exact aD (lS _ _) _
 have m7:w.heap.size=wd:=by rw[<-hwd];rfl
 have j9:=J m7;clear hwd m6 d j6 m7;go_wp2_with (at_builtin;go_loud (refine xG (W:=wd) rfl (.tmp 64) (.tmp 68) 34 rfl 5 (.int .u8 0) 1 Tryz.underlying34 bJ rfl rfl (cutA (some i) U c) (E-U) (c-U) _ rfl (by rw[aB];exact m9.o.symm) n9 (fY _) O O ?_);intro v1 I n8 hb);go_ret3;rw[H.o];refine⟨_,rfl,?_,?_⟩;rw[j9.o];exact n8;rw[j9.o] at l9⊢;exact l9.trans hb
end
section
open Go.RowKit Oct
theorem zH(A:Option Addr)(l:List UInt8)(n c:Nat)(p:n=l)(w:World)(k:Rd w w A (cells l))(r:l<=c)(x:l.length<=140737488351232∧c<=9223372036854775807)
  (a8:(aC maxI l).2.2≠0∨1048576<(aC maxI l).1∨l<nF l+4):
  Calls Tryz.prog 103 #[.slice A n c] w fun e m =>∃v,e=.returned (.tuple #[v,.int .i64 (bO l).2.1,.int .i64 (bO l).2.2])∧Bs m w v (bO l).1∧Below w w m :=by
 subst p;have s:(aC maxI l).1<=9223372036854775807:=iM maxI l;have y:=cX maxI l;have t:IntKind.i64.wrap ((l:Int)-((aC maxI l).2.1:Nat))=(l:Int)-((aC maxI l).2.1:Nat):=mH _ O;by_cases a:(aC maxI l).2.2≠0
 ·have b:Hq (bO l=([],0,(aC maxI l).2.2)):=J (if_pos a)
  have u:((aC maxI l).2.2 !=0)=true:=by simpa using a
  rw[b.o];clear a a8;go_enter Tryz.func103,Tryz.ntmps103;go_wp2_with fail;refine(lK A l c w k O).mono ?_;rintro e q ⟨rfl,g⟩;go_wp2;go_ret3;exact⟨_,rfl,Own.nil _ _ _,g⟩
 have d:=Classical.not_not.1 a;by_cases f:1048576<(aC maxI l).1;have b:Hq (bO l=([],0,2)):=J (by unfold bO;rw[if_neg a,if_pos f]);rw[b.o];have i:=J d;rotate_left;have j:l<nF l+4:=by
  rcases a8 with h|h|h
  exact absurd h a;exact absurd h f;exact h
 have b:Hq (bO l=([],0,3)):=J (by unfold bO;rw[if_neg a,if_neg f,if_pos j]);rw[b.o];have i:=J d;unfold nF at j
 all_goals
  clear a d a8;go_enter Tryz.func103,Tryz.ntmps103;go_wp2_with fail;refine(lK A l c w k O).mono ?_;rintro e q ⟨rfl,g⟩;rw[i.o];go_wp2;go_ret3;exact⟨_,rfl,Own.nil _ _ _,g⟩
theorem bY8(W:World)(A:Option Addr)(X:List UInt8)(E c:Nat)(a:E=X):Rd (W.alloc (.cells #[.slice A E c] 34)) (W.alloc (.cells #[.slice A E c] 34)).heap.size (W,0) ([dK.mk A X c].map dK.val):=by
 subst a;exact(cS W 34 [.slice A X c]).more σ
theorem bY3(A:Option Addr)(l:List UInt8)(n c:Nat)(hn:n=l)(w:World)(j:Rd w w A (cells l))(I:l<=c)(hl:l.length<=140737488351232∧c<=9223372036854775807)
  (q:(aC maxI l).2.2=0) (r:¬1048576<(aC maxI l).1) (y:¬l<nF l+4):
  Calls Tryz.prog 103 #[.slice A n c] w fun e w' =>∃v,e=.returned (.tuple #[v,.int .i64 (bO l).2.1,.int .i64 (bO l).2.2])∧Bs w' w v (bO l).1∧Below w w w' :=by
 subst hn;have p8:(aC maxI l).1<=9223372036854775807:=iM maxI l;have R:=cX maxI l;have HE:=J q;obtain⟨E,s⟩:=eX (nF l);have B:E=(aC maxI l).2.1+(aC maxI l).1:=s;have b:Hq (Crc.four (Crc.sum (l.take E))=(l.drop E).take 4->bO l=((l.drop (aC maxI l).2.1).take (aC maxI l).1,E+4,0)):=J fun h=>by
  unfold bO;rw[if_neg (by simpa using q),if_neg r,if_neg y,<-s,if_pos h]
 have i:Hq (¬Crc.four (Crc.sum (l.take E))=(l.drop E).take 4->bO l=([],0,5)):=J fun h=>by
  unfold bO;rw[if_neg (by simpa using q),if_neg r,if_neg y,<-s,if_neg h]
 have S:E+4<=l:=O;clear q y s;have B8:IntKind.i64.wrap ((l:Int)-((aC maxI l).2.1:Nat))=(l:Int)-((aC maxI l).2.1:Nat):=mH _ O;go_enter Tryz.func103,Tryz.ntmps103;go_wp2_with fail;refine(lK A l c w j O).mono ?_;rintro e t ⟨rfl,o8⟩;rw[HE.o];go_upto_region 9 with fail
 generalize(aC maxI l).1=N at B b r p8⊢;generalize(aC maxI l).2.1=U at B b R⊢;have t9:(l.take E).length=E:=by rw[lV];omega
 have H:((l.drop E).take 4).length=4:=by simp;omega
 have i4:=fun W:World=>sP (P:=Tryz.prog) Tryz.underlying34 bJ A l c E O (E:Int) rfl W
 obtain⟨g,C⟩:=eX (E+4);have i6:∀W:World,(Instr.slice 34 (.slice A l c) (some (.int .i64 (E:Int))) (some (.int .i64 (g:Int))) none).run Tryz.prog W=.ok (.slice (cutA A E c) 4 (c-E)) W:=fun W=>by
  have:=uC (P:=Tryz.prog) Tryz.underlying34 bJ A l c E g O O (E:Int) (g:Int) rfl rfl W;rwa[C,Nat.add_sub_cancel_left,<-C] at this
 have p9:Rd w w A (cells (l.take E)):=by simpa[cells,List.map_take] using j.take E
 have d:Rd w w (cutA A E c) (cells ((l.drop E).take 4)):=by
  have:=(Rd.j1 j (k:=E) (cap:=c) (by rw[aB];omega) (by rw[aB];exact I)).take 4;simpa[cells,List.map_take,List.map_drop] using this
 have m:Below w w (t.drew.alloc (.cells #[.slice A E c] 34)):=o8.drew.alloc o8.size _;have q8:=bY8 t.drew A (l.take E) E c t9.symm;have s9:xI (t.drew.alloc (.cells #[.slice A E c] 34)) (t.drew.alloc (.cells #[.slice A E c] 34)).heap.size [dK.mk A (l.take E) c]:=by
  intro p hp;obtain rfl:=lY.1 hp;exact⟨(p9.a1 m).more m.size,by show(l.take E).length<=_;omega⟩
 have p7:bR [dK.mk A (l.take E) c]=l.take E:=by simp[bR]
 have p6:=fun W:World=>uC (P:=Tryz.prog) Tryz.underlying34 bJ A l c U E O O (U:Int) (E:Int) rfl rfl W
 have K:Rd w w (cutA A U c) (cells ((l.drop U).take N)):=by
  have:=(Rd.j1 j (k:=U) (cap:=c) (by rw[aB];omega) (by rw[aB];exact I)).take N;simpa[cells,List.map_take,List.map_drop] using this
 have D:((l.drop U).take N).length=E-U:=by simp;omega
 have L:((l.drop U).take N).length<=140737488351232:=O;have Q:=Crc.sum_lt (l.take E);have z1:IntKind.i64.wrap ((U:Int)+(N:Int))=(E:Int):=by rw[show(U:Int)+N=E by omega];exact mH _ O
 have z2:IntKind.i64.wrap ((E:Int)+4)=(g:Int):=by rw[show(E:Int)+4=g by omega];exact mH _ O
 have Z5:Hq ((U:Int)+(N:Int)=(E:Int)):=J O;generalize(l.drop U).take N=M at K D L b;generalize(l.drop E).take 4=F at d H b i;have B1:=J H;have B6:=J p7;have HS:=J Q;have B7:=J D;have n8:=J q8;have n9:=J s9;have Z:=J d;have z:=J K;have Y:=J m;have l6:=J S;clear t9 H C q8 s9 p7 D B d K p9 m Q j B8 R p8 r S I;go_region_held3 (fun _=>True) ((first|trivial)) (first|(go_at_call 153;refine(bD4 _ [dK.mk A (l.take E) c] 1 1 rfl _ n8.o n9.o σ).mono ?_;rintro e w3 ⟨rfl,o9⟩;rw[B6.o];have x:=Y.o.trans (o9.mono Y.o.size))|(go_at_call 152;refine(aN8 (Crc.sum (l.take E)) _ rfl HS.o _).mono ?_;rintro e w4 ⟨v4,rfl,T,p4⟩;obtain⟨A4,c4,rfl,B9,_,d⟩:=bF T;have a:=x.trans (p4.mono x.size))|(go_at_call 151;refine(bF2 A4 (cutA A E c) (Crc.four (Crc.sum (l.take E))) F _ _ c4 (c-E) w4 (by rfl) B1.o.symm _ d ((Z.o.a1 a).more a.size)).mono ?_;rintro e w5 ⟨rfl,rfl⟩));clear z1 z2 i4 i6 d Z n8 n9 o9 p4 T x;generalize Crc.four (Crc.sum (l.take E))=G at b i⊢;by_cases f:G=F
 ·rw[decide_eq_true f]
  have u:=J (b.o f);have X:=(z.o.a1 a).more a.size;have z5:=Z5.o;have z6:=l6.o;clear b i f z;go_wp2_with fail;refine(oD (cutA A U c) M (E-U) (c-U) B7.o.symm w4 X L).mono ?_;rintro e w6 ⟨v6,rfl,V,p5⟩;have m5:=a.trans (p5.mono a.size);have l4:=V.mono a.size;clear V p5 X;go_wp2;go_ret3;rw[u.o];exact⟨_,rfl,l4,m5⟩
 rw[decide_eq_false f];have u:=J (i.o f);clear b i f z;go_wp2;go_ret3;rw[u.o];exact⟨_,rfl,Own.nil _ _ _,a⟩
theorem aP1(A:Option Addr)(l:List UInt8)(n c:Nat)(b:n=l)(w:World)(d:Rd w w A (cells l))(a8:l<=c)(a:l.length<=140737488351232∧c<=9223372036854775807):
  Calls Tryz.prog 103 #[.slice A n c] w fun e i =>∃v,e=.returned (.tuple #[v,.int .i64 (bO l).2.1,.int .i64 (bO l).2.2])∧Bs i w v (bO l).1∧Below w w i :=by
 by_cases f:(aC maxI l).2.2≠0;exact zH A l n c b w d a8 a (.inl f);by_cases g:1048576<(aC maxI l).1;exact zH A l n c b w d a8 a (.inr (.inl g));by_cases h:l<nF l+4;exact zH A l n c b w d a8 a (.inr (.inr h));exact bY3 A l n c b w d a8 a (Classical.not_not.1 f) g h
end
section
open Go.RowKit Oct
def cD5(w:World)(base:Nat)(v:Value)(l:List UInt8):Prop:=∃g rest,v=.slice (some ⟨g,0,none⟩) l l∧base<=g∧aS w g 5 (cells l++rest).toArray
theorem bT0{P:Program}{T e:TypeId}{z:Value}{a:Nat}(c:P.underlying T=some (.slice e))(a8:(P.info? e).map (fun i=>(i.zero,i.size,i.bytes))=some (some z,1,a))(A:Option Addr)(b cap hi:Nat)(l:hi<=cap)(X:Int)(g:X=(hi:Int))(w:World):
  (Instr.slice T (.slice A b cap) none (some (.int .i64 X)) (some (.int .i64 X))).run P w=.ok (.slice A hi hi) w:=by
 obtain⟨i,f,m,d,k⟩:=info_parts a8;subst g;rw[run_slice_hm w T A b cap (by rw[c];simp[Program.elem,c]) .i64 .i64 hi hi O O O];have h:P.elem T=e:=by simp[Program.elem,c]
 rw[h,mZ f d];have j:A.map (·.add 0)=A:=by cases A<;>simp[Addr.add]
 simp[sliced,Result.andThen,j]
theorem bW2{g a T:Nat}(h:a<T):cutA (g,0) a T=some ⟨g,a,none⟩:=by
 unfold cutA;rw[if_neg O];simp[Addr.add_lit]
theorem aL4(a b:List UInt8)(r:List Value):splice (cells a++r) a (cells b)=cells (a++b)++r.drop b:=by
 unfold splice;rw[bV,<-aB a,List.take_left,List.append_assoc]
 congr 2
 rw[<-List.drop_drop,List.drop_left,aB]
theorem xH{w:World}{j:Array Oper}{rest:List Oper}{o:Oper}{a:Act}{Q:Exit->Act->World->Prop}(z:o.guard=none)(d s:Operand)
  (K:o.op=.call {callee:=.builtin .copy,args:=#[d,s],argTypes:=#[34,34]})
  (p A:Option Addr) (e f n c:Nat) (G:a.eval d=.slice p e f) (M:a.eval s=.slice A n c)
  (g:Nat) (b:List UInt8) (r:List Value) (F:aS w g 5 (cells b++r).toArray) (l:List UInt8) (I:n=l) (C:l<=e) (y:0<l.length->p=some ⟨g,b,none⟩) (N:l.length<=r)
  (B:Nat) (L:Rd w B A (cells l)) (base:Nat) (u:World) (a8:Below base u w) (v:base<=g)
  (h:∀k,aS k g 5 (cells (b++l)++r.drop l).toArray->Below base u k ->wpList Tryz.prog j Q rest (a.put o.dst (goInt l)) k):wpList Tryz.prog j Q (o::rest) a w:=by
 subst I;obtain⟨i,H,_,D,_⟩:=info_parts bJ;refine wpList_copy_splice z d s _ _ K 5 Tryz.underlying34 (by rw[H];simp[D]) p A e f l.length c G M g b.length (cells b++r) 5 F (cells l) (by rw[aB];exact(Nat.min_eq_left C).symm) (fun q=>⟨y (by rw[aB] at q;exact q),?_⟩) (by rw[aB,lT,aB];omega) (fY l) base u a8 v fun k t E=>?_
 obtain⟨x,t,_,m⟩:=L q;exact⟨x,t,m⟩;have m:=t;rw[aL4] at m;rw[aB];exact h k m E
theorem xS(ps:List dK)(k:Nat):(bR (ps.take k)).length<=(bR ps).length:=by
 have h:bR ps=bR (ps.take k)++bR (ps.drop k):=by
  unfold bR;rw[<-List.flatMap_append,List.take_append_drop]
 rw[h,lT];omega
theorem bO6(ps:List dK)(h:0<ps.length):bR (ps.take 1)=ps[0].l:=by
 rw[oH ps 0 h];simp[bR]
theorem bQ2(A:Option Addr)(ps:List dK)(n c:Nat)(hn:n=ps)(Y:2<=ps.length)(w:World)(F:Rd w w A (ps.map dK.val))(hp:xI w w ps)(hl:ps.length<=140737488351232)(hf:(bR ps).length<=140737488351232)(C7:ps<=c):
  Calls Tryz.prog 30 #[.slice A n c,.slice none 0 0] w fun e w' =>∃v,e=.returned v∧cD5 w' w v (bR ps)∧Below w w w' :=by
 subst hn;have R:=J hp;clear hp;go_enter Tryz.func30,Tryz.ntmps30;go_wp2_with fail;go_loop [44,5,7] (fun i s _=>∃k:Nat,k<=ps∧i=.int .i64 k∧s=.int .i64 ((bR (ps.take k)).length:Nat)) (fun i _ _=>ps.length-(intOf i).toNat)
 case atStart=>exact⟨0,O,rfl,rfl⟩
 obtain⟨k,Z,rfl,rfl⟩:=hrel;by_cases q:k<ps
 ·obtain⟨d,rfl,I,g⟩:=iR F q
  obtain⟨a,l,h,b⟩:∃a l h,ps[k]=dK.mk a l h :=⟨_,_,_,rfl⟩
  have j:=oH ps k q;have f:=xS ps (k+1);rw[j,b,lT] at f;have m:(bR (ps.take (k+1))).length=(bR (ps.take k)).length+l:=by rw[j,b,lT]
  rw[b] at g;have j9:w.cell? (d.add k)=some (.slice a l h):=g;have C6:(k:Int)<ps.length:=O;have y:=J m;replace f:(bR (ps.take k)).length+l<=(bR ps).length:=f;generalize(bR (ps.take k)).length=N at f y⊢;clear b g j m;go_wp2;exact⟨⟨k+1,O,by go_num,by rw[y.o];go_num⟩,by simp[intOf];omega⟩
 obtain rfl:k=ps:=O;rw[List.take_length];obtain⟨T,E⟩:=eX ((bR ps).length);rw[<-E] at hf⊢;have C:=J E;clear E;obtain⟨cs,j6,f,_⟩:=Lib.run_makeNoZero (P:=Tryz.prog) w #[3] 34 5 Tryz.underlying34 T O;have m5:(callFunc 82 #[.int .i64 (T:Int)]).run Tryz.prog w=.ok (.value (.slice (w,0) T cs.size)) ((w.alloc (.cells cs 5)).drewN 2):=by
  rw[run_callFunc_extern Tryz.func82 κ κ κ (e:=Extern.BytealgMakeNoZero.makeNoZero #[3] #[34]) κ,j6];rfl
 have hcut:=fun W:World=>bT0 (P:=Tryz.prog) Tryz.underlying34 bJ (w,0) T cs.size T f (T:Int) rfl W
 clear j6;obtain⟨d,rfl,I,g⟩:=iR F (k:=0) O;obtain⟨D,r,S,b⟩:∃a l h,ps[0]=dK.mk a l h :=⟨_,_,_,rfl⟩
 have K:bR (ps.take 1)=r:=by rw[bO6 ps O,b]
 have m8:=xS ps 1;rw[K,<-C.o] at m8;have G:=R.o _ (lX (show 0<ps.length by omega));rw[b] at g G;have B:Below w w ((w.alloc (.cells cs 5)).drewN 2):=aD ((lS _ _).alloc (lR _) _) 2;have U:((w.alloc (.cells cs 5)).drewN 2).cell? (d.add 0)=some (.slice D r S):=(B.cell (by rw[bK];exact I)).trans g;rw[show d.add 0=d by simp[Addr.add]] at U;have i4:aS ((w.alloc (.cells cs 5)).drewN 2) w 5 (cells []++cs.toList).toArray:=by rw[bE1,List.nil_append,Array.toArray_toList];exact(aS.new w 5 cs).drewN 2
 have m9:Rd ((w.alloc (.cells cs 5)).drewN 2) w D (cells r):=G.1.a1 B;have p4:Hq (r.length<=cs.toList):=J (ω1 (@Array.length_toList _ cs));have H:=J K;have l7:=J m9;have V:=J i4;have q8:=J B;clear b g K G m9 i4 B;go_wp2_with (with_reducible refine xH rfl (.tmp 64) (.tmp 67) rfl (some ⟨w.heap.size,0,none⟩) D T T r.length S rfl rfl w.heap.size [] cs.toList V.o r rfl m8 (fun _=>rfl) p4.o w.heap.size l7.o w.heap.size w q8.o (lR _) ?_;intro w1 i6 C2);have j8:aS w1 w 5 (cells (bR (ps.take 1))++cs.toList.drop (bR (ps.take 1)).length).toArray:=by rw[H.o];simpa using i6
 have C0:Hq ((r:Int)=((bR (ps.take (0+1))).length:Nat)):=J (by rw[H.o]);clear i6 l7 V q8 U m5 hcut H;go_wp2_with fail;go_loopw [72,9,11] (fun i bp _ wr=>∃k:Nat,k<=ps-1∧i=.int .i64 k∧bp=.int .i64 ((bR (ps.take (k+1))).length:Nat)∧aS wr w 5 (cells (bR (ps.take (k+1)))++cs.toList.drop (bR (ps.take (k+1))).length).toArray∧Below w w wr) (fun i _ _ _=>ps.length-(intOf i).toNat)
 case atStart=>exact⟨0,O,rfl,by rw[C0.o],j8,C2⟩
 obtain⟨k,Z,rfl,rfl,u,x⟩:=hrel;by_cases q:k<ps-1;rotate_left
 ·obtain rfl:k=ps-1:=O
  have C5:bR (ps.take (ps.length-1+1))=bR ps:=by rw[show ps.length-1+1=ps by omega,List.take_length]
  rw[C5] at u⊢;go_wp2;go_ret;refine⟨_,rfl,?_,x⟩;rw[C.o];exact⟨_,_,rfl,lR _,u⟩
 obtain⟨C1,s9,C4,g⟩:=iR F (k:=k+1) O;obtain rfl:d=C1:=by injection s9
 obtain⟨a,l,h,b⟩:∃a l h,ps[k+1]'O=dK.mk a l h :=⟨_,_,_,rfl⟩
 have j:=oH ps (k+1) O;have f:=xS ps (k+1+1);rw[j,b,lT,<-C.o] at f;replace f:(bR (ps.take (k+1))).length+l<=T:=f;have m:(bR (ps.take (k+1+1))).length=(bR (ps.take (k+1))).length+l:=by rw[j,b,lT]
 rw[b] at j;have L:=R.o _ (lX (show k+1<ps by omega));rw[b] at g L;have j9:wr.cell? (d.block,d.off+1+k)=some (.slice a l h):=by
  have X:=(x.cell (p:=d.add (k+1)) (by rw[bK];exact I)).trans g;have Y:d.add (k+1)=⟨d.block,d.off+1+k,none⟩:=by unfold Addr.add;rw[if_neg O,show d.off+(k+1)=d.off+1+k by omega]
  rw[Y] at X;exact X
 have Q:Rd wr w a (cells l):=L.1.a1 x;have C6:(k:Int)<((ps.length-1:Nat):Int):=O;obtain⟨t,l8⟩:=eX (bR (ps.take (k+1)));rw[<-l8] at u f m j⊢;obtain⟨N,z⟩:=eX t.length;have t9:=fun W:World=>eE (P:=Tryz.prog) Tryz.underlying34 bJ (w,0) T T N O (N:Int) rfl W
 have m7:l.length<=(cs.toList.drop t).length:=by have:=@Array.length_toList _ cs;rw[lZ];omega
 have m6:0<l.length->cutA (w,0) N T=some ⟨w,t,none⟩:=fun h0=>by rw[bW2 O,z]
 have HH:Hq (bR (ps.take (k+1+1))=t++l):=J j;have y:Hq (((N:Int)+l.length)=((bR (ps.take (k+1+1))).length:Nat)):=J (by rw[m,z];omega);have B8:=J m;have n9:=J u;have B9:=J Q;have l6:=J m7;have o8:=J m6;have B7:=J x;rw[<-z] at f⊢;have p8:l<=T-N:=O;clear b g j m L z l8 u Q m7 m6 x s9 Z;obtain⟨i5,M,_,n5,_⟩:=info_parts bJ;have p7:(Tryz.prog.info? 5).map (·.size)=some 1:=by rw[M];simp[n5]
 clear M n5;go_wp2_with (first|(with_reducible refine wpList_copy_nothing rfl (.tmp 79) (.tmp 80) _ _ rfl 5 Tryz.underlying34 p7 (cutA (some ⟨w.heap.size,0,none⟩) N T) none (T-N) (T-N) 0 0 rfl rfl σ ?_)|(with_reducible refine xH rfl (.tmp 86) (.tmp 87) rfl (cutA (some ⟨w.heap.size,0,none⟩) N T) a (T-N) (T-N) l.length h rfl rfl w.heap.size t (cs.toList.drop t.length) n9.o l rfl p8 o8.o l6.o w.heap.size B9.o w.heap.size w B7.o (lR _) ?_);intro w2 l9 C3);go_roundw
 case rel=>
  refine⟨k+1,O,by go_num,by rw[y.o],?_,C3⟩;rw[B8.o,HH.o,<-List.drop_drop];exact l9
 case measure=>simp[intOf];omega
structure eR(w:World)(base:Nat)(v:Value)(l:List UInt8):Prop where
 b3:∃A c,v=.slice A l c∧l.length<=c∧c<=9223372036854775807∧Rd w w A (cells l)
 row:eU w base v
theorem eR.e1{w:World}{base:Nat}{v:Value}{l:List UInt8}(h:Bs w base v l):eR w base v l:=by
 obtain⟨A,c,a,b,e,d⟩:=bF h;exact⟨⟨A,c,a,b,O,d⟩,eU.e1 h⟩
theorem eR.of_held{w:World}{base:Nat}{v:Value}{l:List UInt8}(h:cD5 w base v l)(b:l.length<=9223372036854775807):eR w base v l:=by
 obtain⟨g,rest,rfl,d,a⟩:=h;refine⟨⟨_,_,rfl,lR _,b,fun _=>⟨_,rfl,a.lt,fun j u c=>?_⟩⟩,.inr ⟨g,_,_,_,rfl,d,a,by simp[cells],lR _,b⟩⟩;rw[show((g,0):Addr).add j=⟨g,j,none⟩ by simp[Addr.add_lit],a.cell];have e:=(List.getElem?_eq_some_iff.1 c).1;simp only[List.getElem?_toArray];rw[List.getElem?_append_left e];exact c
theorem eR.a1{w w' :World}{base B:Nat}{v:Value}{l:List UInt8}(h:eR w base v l)(j:Below B w w')(i:w<=B):eR w' base v l:=by
 obtain⟨A,c,b,d,e,f⟩:=h.b3;have a:=j.mono i;exact⟨⟨A,c,b,d,e,(f.a1 a).more a.size⟩,h.row.b1 fun g k=>a.block g (h.row.lt g k)⟩
theorem eR.mono{w:World}{base a :Nat}{v:Value}{l:List UInt8}(h:eR w base v l)(d:a <=base):eR w a v l:=by
 refine⟨h.b3,?_⟩;rcases h.row with r|⟨g,n,b,c,r,e,x⟩
 exact .inl r;exact .inr ⟨g,n,b,c,r,O,x⟩
theorem yQ(A:Option Addr)(ps:List dK)(n c:Nat)(x:n=ps)(w:World)(f:Rd w w A (ps.map dK.val))(d:xI w w ps)(u:ps.length<=140737488351232)(g:(bR ps).length<=140737488351232)(i:ps<=c):
  Calls Tryz.prog 30 #[.slice A n c,.slice none 0 0] w fun e p =>∃v,e=.returned v∧eR p w v (bR ps)∧Below w w p :=by
 by_cases b:2<=ps.length;refine(bQ2 A ps n c x b w f d u g i).mono ?_;rintro e p ⟨v,rfl,h,z⟩;exact⟨v,rfl,.of_held h O,z⟩;subst x
 match ps,f,d,g,i,b with
 |[],f,d,g,i,b=>
  clear f d g u b;go_enter Tryz.func30,Tryz.ntmps30;go_wp2;go_ret;exact⟨_,rfl,.e1 (nN w w _ (lR _)),(lS _ _).alloc (lR _) _⟩
 |[r],f,d,g,i,b=>
  obtain⟨m,rfl,D,j⟩:=iR f (k:=0) σ;obtain⟨a,l,o⟩:=r;have t:=d _ (lY.2 rfl);have q:bR [dK.mk a l o]=l:=by simp[bR]
  rw[q] at g⊢;have C:w.cell? m=some (.slice a l o):=by
   rw[show m.add 0=m by simp[Addr.add]] at j;exact j
  have y:Rd w w a (cells l):=t.1;clear f d t b q j i;go_enter Tryz.func30,Tryz.ntmps30;go_wp2_with (at_builtin;with_reducible refine aP rfl (.const (.slice none 0 0)) (.tmp 21) 34 rfl w.heap.size 5 (.int .u8 0) 1 Tryz.underlying34 bJ rfl _ [] rfl (Own.nil _ _ _) w.heap.size a l.length o _ rfl (aB _).symm y (fY _) (by unfold maxLen;simp;omega) (by simp;omega) (lR _) ?_;intro F G s B E);go_ret;refine⟨_,rfl,?_,fD B⟩;rw[List.nil_append] at s;exact .e1 s
 |_::_::_,f,d,g,i,b=>exact absurd σ b
end
section
open Go.RowKit Oct
theorem aI1{p:List UInt8}(h:¬1048576<p.length):cM p=aF8 p:=if_neg h
theorem aR4(W:World)(t:TypeId)(ps:List dK)(h:xI W W ps):Rd (W.alloc (.cells (ps.map dK.val).toArray t)) (W.alloc (.cells (ps.map dK.val).toArray t)).heap.size (W,0) (ps.map dK.val)∧xI (W.alloc (.cells (ps.map dK.val).toArray t)) (W.alloc (.cells (ps.map dK.val).toArray t)).heap.size ps:=by
 refine⟨(cS W t _).more σ,fun p b=>⟨?_,(h p b).2⟩⟩;have a:Below W W (W.alloc (.cells (ps.map dK.val).toArray t)):=(lS _ _).alloc (lR _) _;exact((h p b).1.a1 a).more a.size
theorem xI.a1{w w' :World}{B:Nat}{ps:List dK}(h:xI w B ps)(c:Below B w w')(b:B<=w'):xI w' w' ps:=fun p a=>⟨((h p a).1.a1 c).more b,(h p a).2⟩
theorem xI.cons{w:World}{B:Nat}{A:Option Addr}{l:List UInt8}{c:Nat}{ps:List dK}(h:Rd w B A (cells l))(b:l.length<=4611686018427387904)(k:xI w B ps):xI w B (dK.mk A l c::ps):=by
 intro p a;rcases List.mem_cons.1 a with rfl|a
 exact⟨h,b⟩;exact k p a
theorem xI.snoc{w:World}{B:Nat}{A:Option Addr}{l:List UInt8}{c:Nat}{ps:List dK}(k:xI w B ps)(h:Rd w B A (cells l))(b:l.length<=4611686018427387904):xI w B (ps++[dK.mk A l c]):=by
 intro p a;rcases mB.1 a with a|a
 exact k p a;obtain rfl:=lY.1 a;exact⟨h,b⟩
theorem xI.nil{w:World}{B:Nat}:xI w B []:=fun p a=>by cases a
theorem bE2(A:Option Addr)(p:List UInt8)(n c:Nat)(hn:n=p)(w:World)(Q:Rd w w A (cells p))(hl:p.length<=140737488351232):
  Calls Tryz.prog 118 #[.slice A n c] w fun e w' =>∃v,e=.returned (.tuple #[v,.int .i64 (sA p)])∧eR w' w v (cM p)∧Below w w w' :=by
 subst hn;by_cases t:1048576<p.length
 ·have j:sA p=2:=if_pos t
  have P:cM p=[]:=if_pos t;rw[j,P];clear j P;go_enter Tryz.func118,Tryz.ntmps118;go_wp2;go_ret2;exact⟨_,rfl,.e1 (Own.nil _ _ _),lS _ _⟩
 have j:sA p=0:=if_neg t;have p5:=dG p O;have M:Hq (cM p=bR [dK.mk none (enc p) 0,dK.mk none p 0,dK.mk none (Crc.four (Crc.sum (enc p++p))) 0]):=J (by rw[aI1 t];simp[bR,aF8,head]);rw[j];clear j;go_enter Tryz.func118,Tryz.ntmps118;go_wp2_with fail;refine(aT1 p w O).mono ?_;rintro e q ⟨v1,rfl,S,u⟩;obtain⟨d,f,rfl,o9,p6,n8⟩:=bF S;have R:=Crc.sum_lt (enc p++p);have Y:(Crc.four (Crc.sum (enc p++p))).length=4:=Crc.four_length _;have N:∀a b c,bR [dK.mk d (enc p) a,dK.mk A p b,c]=bR [dK.mk none (enc p) 0,dK.mk none p 0,dK.mk none c.l 0]:=fun a b c=>by simp[bR]
 have V:bR [dK.mk d (enc p) f,dK.mk A p c]=enc p++p:=by simp[bR]
 have n5:=(Q.a1 u).more u.size;have H:xI q q [dK.mk d (enc p) f,dK.mk A p c]:=.cons n8 O (.cons n5 O .nil);obtain⟨k,m⟩:=aR4 q 34 _ H;have HS:=J R;have L:=J Y;have n9:=J N;have l5:=J V;have h:=J k;have i:=J m;have W:=J H;have G:=(lS q q).alloc (lR _) (.cells ([dK.mk d (enc p) f,dK.mk A p c].map dK.val).toArray 34);have g:=u.alloc u.size (.cells ([dK.mk d (enc p) f,dK.mk A p c].map dK.val).toArray 34);clear R Y N V k m H Q n5 n8 S;go_wp2_with fail;refine(bD4 _ [dK.mk d (enc p) f,dK.mk A p c] 2 2 rfl _ h.o i.o σ).mono ?_;rintro e w2 ⟨rfl,D⟩;rw[l5.o];have x:=g.trans (D.mono g.size);have z:=G.trans (D.mono G.size);clear D g h i G;go_wp2_with fail;refine(aN8 (Crc.sum (enc p++p)) _ rfl HS.o w2).mono ?_;rintro e K ⟨v3,rfl,T,E⟩;obtain⟨r,s,rfl,p4,p7,I⟩:=bF T;have y:=x.trans (E.mono x.size);have B:=z.trans (E.mono z.size);have Z:=W.o.a1 B B.size;generalize Crc.four (Crc.sum (enc p++p))=F at I L M⊢;have hF:F.length<=4:=by rw[L.o];omega
 have U:xI K K [dK.mk d (enc p) f,dK.mk A p c,dK.mk r F s]:=Z.snoc I O;obtain⟨k,m⟩:=aR4 K 34 _ U;have h:=J k;have i:=J m;have o8:Hq ((bR [dK.mk d (enc p) f,dK.mk A p c,dK.mk r F s]).length<=140737488351232):=J (by simp[bR];omega);have g:=y.alloc y.size (.cells ([dK.mk d (enc p) f,dK.mk A p c,dK.mk r F s].map dK.val).toArray 34);clear Z U k m I T E x y z B W hF;go_wp2_with fail;refine(yQ _ [dK.mk d (enc p) f,dK.mk A p c,dK.mk r F s] 3 3 rfl _ h.o i.o σ o8.o σ).mono ?_;rintro e w4 ⟨v4,rfl,C,X⟩;rw[n9.o,<-M.o] at C;have l6:=g.trans (X.mono g.size);have i4:=C.mono g.size;clear C X g h i;go_wp2;go_ret2;exact⟨_,rfl,i4,l6⟩
end
section
open Go.RowKit Oct
structure fF(w:World)(base:Nat)(v:Value)(xs:List Value)(ls:List (List UInt8)):Prop where
 own:Own w base 34 v xs
 len:xs.length=ls
 e9:∀i (h:i<xs.length) (h' :i<ls.length),eR w base xs[i] ls[i]
 apart:cA2 xs
 off:∀x∈xs,∀g,x.ownBlock=some g->v.ownBlock≠some g
theorem fF.nil(w:World)(base:Nat):fF w base (.slice none 0 0) [] []:=
 ⟨Own.nil _ _ _,rfl,fun i h _=>absurd h σ,fun i j a=>absurd a σ,fun x hx=>by cases hx⟩
theorem fF.a1{w w' :World}{base:Nat}{v:Value}{e:List Value}{d:List (List UInt8)}(h:fF w base v e d){B:Nat}(c:Below B w w')(b:w<=B):fF w' base v e d:=
 ⟨h.own.a1 c b,h.len,fun i f a =>(h.e9 i f a).a1 c b,h.apart,h.off⟩
theorem eR.kept{w w' :World}{base:Nat}{v:Value}{l:List UInt8}(h:eR w base v l)(e:∀g,v.ownBlock=some g->w'.heap[g]? =w.heap[g]?)(t:w.heap.size<=w'):eR w' base v l:=by
 obtain⟨⟨A,c,rfl,k,m,d⟩,r⟩:=h;refine⟨⟨A,c,rfl,k,m,fun f=>?_⟩,r.b1 e⟩;rcases r with r|⟨g,n,i,q,r,_⟩
 obtain⟨b,a,_⟩:=d f;injection r with r1
 rw[a] at r1;cases r1;obtain⟨b,a,s,o⟩:=d f;injection r with r1
 refine⟨b,a,O,fun j u p=>?_⟩;rw[a] at r1;injection r1 with r1
 subst r1;exact(mK (w:=w) (by rw[bK];exact e g (by rw[a];rfl))).trans (o j u p)
theorem fF.push{w w1 G:World}{base:Nat}{v F x:Value}{f:List Value}{E:List (List UInt8)}{l:List UInt8}(h:fF w base v f E)(B:Below w w w1)(hx:eR w1 w x l)(L:base<=w)
  (Q:Own G base 34 F (f++[x])) (u:w1.grownBy G v.ownBlock) (q:jD F v.ownBlock w1):fF G base F (f++[x]) (E++[l]):=by
 have o:=h.a1 B (lR _);have H:=fun g P=>(h.own.lt g P).2
 have s:=hx.row.base;have I:=hx.row.lt;have r:∀y∈f,∀g,y.ownBlock=some g->g<w.heap.size:=fun y n g a =>by
  obtain⟨i,p,rfl⟩:=List.getElem_of_mem n;exact(h.e9 i p (by rw[<-h.len];exact p)).row.lt g a
 refine⟨Q,by simp[h.len],fun i p C =>?_,?_,?_⟩;by_cases c:i<f;rw[List.getElem_append_left c,List.getElem_append_left (by rw[<-h.len];exact c)];refine(o.e9 i c (by rw[<-h.len];exact c)).kept (fun g a =>u.block g ?_ ?_) u.size;exact Nat.lt_of_lt_of_le (r _ (lX c) g a) B.size;exact fun e=>h.off _ (lX c) g a e.symm
 have D:i=f:=by simp at p;omega
 subst D;rw[List.getElem_append_right (lR _)];have K:(E++[l])[f.length]'(C)=l:=by
  rw[List.getElem_append_right (by rw[h.len];exact lR _)];simp
 rw[K];simp only[Nat.sub_self,List.getElem_cons_zero];refine(hx.mono L).kept (fun g a =>u.block g (I g a) ?_) u.size;intro e;have z:=H g e.symm;have A:=s g a;omega
 ·intro i j p M R g d b
  simp only[lT,mC,List.length_nil] at p M;by_cases o:i<f<;>by_cases t:j<f
  rw[List.getElem_append_left o] at d;rw[List.getElem_append_left t] at b;exact h.apart i j o t R g d b;rw[List.getElem_append_left o] at d;have S:j=f:=O;subst S;rw[List.getElem_append_right (lR _)] at b;simp at b;have z:=r _ (lX o) g d;have A:=s g b;omega;rw[List.getElem_append_left t] at b;have D:i=f:=O;subst D;rw[List.getElem_append_right (lR _)] at d;simp at d;have z:=r _ (lX t) g b;have A:=s g d;omega;omega
 intro y n g d b;have m:v.ownBlock=some g∨w1<=g:=by
  rcases q with q|⟨k,q,N⟩
  exact .inl (q.symm.trans b);rw[q] at b;injection b with b
  subst b;exact .inr N
 rcases mB.1 n with n|n
 rcases m with m|m
 exact h.off y n g d m;have:=r y n g d;have:=B.size;omega;obtain rfl:=lY.1 n;rcases m with m|m
 have z:=H g m;have A:=s g d;omega;have:=I g d;omega
theorem yN:(Tryz.prog.info? 34).map (fun i=>(i.zero,i.size,i.bytes))=some (some (.slice none 0 0),1,24):=by kernel_rfl
theorem uK{P:Program}{W w:World}{c:Array Oper}{rest:List Oper}{o:Oper}{a:Act}{Q:Exit->Act->World->Prop}(n:o.guard=none)(s x:Operand)(t:TypeId)
  (y:o.op=.call {callee:=.builtin .append,args:=#[s,x],argTypes:=#[t,t]})
  (base:Nat) (e:TypeId) (z:Value) (b:Nat) (B:P.underlying t=some (.slice e)) (k:(P.info? e).map (fun i=>(i.zero,i.size,i.bytes))=some (some z,1,b)) (p:z.cells.size=1)
  (v:Value) (d:List Value) (u:Value) (r:W=w.alloc (.cells #[u] e)) (A:a.eval s=v) (m:Own w base e v d)
  (hx:a.eval x=.slice (w,0) 1 1) (q:u.oneCell' =true)
  (l:d.length+1<=9223372036854775807) (a8:(d.length+1)*b<=140737488355328) (j:base<=w)
  (h:∀f g,Own g base e f (d++[u])->w.grownBy g v.ownBlock->jD f v.ownBlock w->wpList P c Q rest (a.put o.dst f) g):wpList P c Q (o::rest) a W:=by
 subst r;exact lA n s x t y base e z b B k p v d u u rfl A m hx q l a8 j h
def iX(l:List UInt8)(a:Nat)(acc:List (List UInt8)):Prop:=∃f,l<a+f∧cL l=(acc++(jR l f a).1,(jR l f a).2)
theorem iX.start(l:List UInt8):iX l 0 []:=⟨l.length+1,O,by simp[cL]⟩
theorem iX.done{l:List UInt8}{a:Nat}{b:List (List UInt8)}(h:iX l a b)(c:l<=a):cL l=(b,a,0):=by
 obtain⟨f,d,h⟩:=h;rw[h];cases f with
 |zero=>simp[jR]
 |succ f=>simp[jR,c]
theorem iX.bad{l:List UInt8}{a:Nat}{b:List (List UInt8)}(h:iX l a b)(d:a<l)(c:(bO (l.drop a)).2.2≠0):cL l=(b,a,(bO (l.drop a)).2.2):=by
 obtain⟨f,e,h⟩:=h;rw[h];cases f with
 |zero=>omega
 |succ f=>simp[jR,show¬l<=a by omega,c]
theorem iX.step{l:List UInt8}{a:Nat}{b:List (List UInt8)}(h:iX l a b)(d:a<l)(c:(bO (l.drop a)).2.2=0):iX l (a+(bO (l.drop a)).2.1) (b++[(bO (l.drop a)).1]):=by
 obtain⟨f,e,h⟩:=h;have g:=(kH c).2.1;cases f with
 |zero=>omega
 |succ f=>
  refine⟨f,O,?_⟩;rw[h];simp[jR,show¬l<=a by omega,c]
theorem fF.rd{w:World}{base:Nat}{A:Option Addr}{n c:Nat}{b:List Value}{e:List (List UInt8)}(h:fF w base (.slice A n c) b e):Rd w w A b:=by
 obtain⟨f,g,a,_,_,d⟩:=Own.b3 h.own;injection a with a _ _
 rw[a];exact d
end
section
open Go.RowKit Oct
theorem bS4(A:Option Addr)(l:List UInt8)(n c:Nat)(hn:n=l)(w:World)(hr:Rd w w A (cells l))(p4:l<=c)(hl:l.length<=1099511627776∧c<=9223372036854775807):
  Calls Tryz.prog 144 #[.slice A n c] w fun e V =>∃v h,e=.returned (.tuple #[v,.int .i64 (cL l).2.1,.int .i64 (cL l).2.2])∧fF V w v h (cL l).1∧Below w w V :=by
 subst hn;obtain⟨p8,p9⟩:=hl;go_enter Tryz.func144,Tryz.ntmps144;go_wp2_with fail;go_loopw [5,6,7,8,9] (fun v F _ _ _ wr=>∃(a:Nat) (f:List (List UInt8)) (h:List Value),a<=l∧F=.int .i64 a∧f<=a∧iX l a f∧fF wr w v h f∧Below w w wr) (fun _ i _ _ _ _=>l.length-(intOf i).toNat)
 case atStart=>exact⟨0,[],[],O,rfl,σ,iX.start l,fF.nil _ _,lS _ _⟩
 obtain⟨a,f,h,Y,rfl,l7,x,s,g⟩:=hrel;by_cases r:a<l;rotate_left
 ·obtain rfl:a=l:=O
  have C:=J (x.done (lR _));clear x;go_wp2;go_ret3;rw[C.o];exact⟨_,_,rfl,s,g⟩
 have y:(l.drop a).length=l-a:=lZ;have hcut:=fun W:World=>eE (P:=Tryz.prog) Tryz.underlying34 bJ A l c a Y (a:Int) rfl W
 have B:Rd wr wr (cutA A a c) (cells (l.drop a)):=by
  have:=(Rd.j1 hr (k:=a) (cap:=c) (by rw[aB];omega) (by rw[aB];exact p4)).a1 g;exact(by simpa[cells,List.map_drop] using this:Rd wr w (cutA A a c) (cells (l.drop a))).more g.size
 have p5:(a:Int)<l.length:=O;have u:=J y.symm;have N:=J x;have l6:=J (s.len);have D:=J s;obtain⟨d,q⟩:=eX (l.drop a);have n5:d<=c-a:=by rw[q,y];omega
 have n8:d.length<=140737488351232:=by rw[q,y];omega
 rw[<-q] at B u;have I:=J q;clear y x s q;go_wp2_with fail;refine(aP1 (cutA A a c) d (l-a) (c-a) u.o wr B n5 ⟨n8,O⟩).mono ?_;rintro e w1 ⟨p,rfl,z,m⟩;obtain⟨Ap,cp,rfl,_⟩:=bF z;have j:=g.trans (m.mono g.size);by_cases b:(bO d).2.2=0
 ·have E:=kH b
  have K:iX l (a+(bO d).2.1) (f++[(bO d).1]):=by
   have t:=I.o;rw[t] at b⊢;exact N.o.step r b
  have S:=eR.e1 z;have p6:=E.2.1;have p7:=E.2.2.1;have n9:=u.o.symm;have q8:h<=a:=by rw[l6.o];exact l7
  rw[b];have Q:=J K;have m9:=J S;generalize(bO d).2.1=U at p6 p7 Q⊢;have X:a+U<=l:=O;clear B E K S z n9 b u;have T:=D.o.own;have G:=T.a1 m (lR _);go_wp2_with (at_builtin;refine uK (w:=w1) rfl (.tmp 27) (.tmp 29) 23 rfl w.heap.size 34 (.slice none 0 0) 24 Tryz.underlying23 yN rfl u5 h _ rfl rfl G rfl rfl O O j.size ?_;intro v2 w2 M H R);have l8:=j.grown H j.size (fun k Z=>(G.lt k Z).1);have o9:=D.o.push m m9.o g.size M H R;clear M H R T G m j;go_wp2;go_roundw
  case rel=>exact⟨a+U,_,_,X,by go_num,θ,Q.o,o9,l8⟩
  case measure=>simp[intOf];omega
 have L:cL l=(f,a,(bO d).2.2):=by
  have t:=I.o;rw[t] at b⊢;exact N.o.bad r b
 have t:((bO d).2.2 !=0)=true:=by simpa using b
 have C:=J L;have o8:=D.o.a1 m (lR _);clear B b L z;go_wp2;go_ret3;rw[C.o];exact⟨_,_,rfl,o8,j⟩
end
section
open Go.RowKit Oct
theorem bJ5(A:Option Addr)(l:List UInt8)(n c:Nat)(hn:n=l)(w:World)(hr:Rd w w A (cells l))(p4:l<=c)(hl:l.length<=1099511627776∧c<=9223372036854775807):
  Calls Tryz.prog 166 #[.slice A n c] w fun e V =>∃v h,e=.returned (.tuple #[v,.int .i64 (cL l).2.1,.int .i64 (cL l).2.2])∧fF V w v h (cL l).1∧Below w w V :=by
 subst hn;obtain⟨p8,p9⟩:=hl;go_enter Tryz.func166,Tryz.ntmps166;go_wp2_with fail;go_loopw [5,6,7,8,9] (fun v F _ _ _ wr=>∃(a:Nat) (f:List (List UInt8)) (h:List Value),a<=l∧F=.int .i64 a∧f<=a∧iX l a f∧fF wr w v h f∧Below w w wr) (fun _ i _ _ _ _=>l.length-(intOf i).toNat)
 case atStart=>exact⟨0,[],[],O,rfl,σ,iX.start l,fF.nil _ _,lS _ _⟩
 obtain⟨a,f,h,Y,rfl,l7,x,s,g⟩:=hrel;by_cases r:a<l;rotate_left
 ·obtain rfl:a=l:=O
  have C:=J (x.done (lR _));clear x;go_wp2;go_ret3;rw[C.o];exact⟨_,_,rfl,s,g⟩
 have y:(l.drop a).length=l-a:=lZ;have hcut:=fun W:World=>eE (P:=Tryz.prog) Tryz.underlying34 bJ A l c a Y (a:Int) rfl W
 have B:Rd wr wr (cutA A a c) (cells (l.drop a)):=by
  have:=(Rd.j1 hr (k:=a) (cap:=c) (by rw[aB];omega) (by rw[aB];exact p4)).a1 g;exact(by simpa[cells,List.map_drop] using this:Rd wr w (cutA A a c) (cells (l.drop a))).more g.size
 have p5:(a:Int)<l.length:=O;have u:=J y.symm;have N:=J x;have l6:=J (s.len);have D:=J s;obtain⟨d,q⟩:=eX (l.drop a);have n5:d<=c-a:=by rw[q,y];omega
 have n8:d.length<=140737488351232:=by rw[q,y];omega
 rw[<-q] at B u;have I:=J q;clear y x s q;go_wp2_with fail;refine(aG1 (cutA A a c) d (l-a) (c-a) u.o wr B n5 ⟨n8,O⟩).mono ?_;rintro e w1 ⟨p,rfl,z,m⟩;obtain⟨Ap,cp,rfl,_⟩:=bF z;have j:=g.trans (m.mono g.size);by_cases b:(bO d).2.2=0
 ·have E:=kH b
  have K:iX l (a+(bO d).2.1) (f++[(bO d).1]):=by
   have t:=I.o;rw[t] at b⊢;exact N.o.step r b
  have S:=eR.e1 z;have p6:=E.2.1;have p7:=E.2.2.1;have n9:=u.o.symm;have q8:h<=a:=by rw[l6.o];exact l7
  rw[b];have Q:=J K;have m9:=J S;generalize(bO d).2.1=U at p6 p7 Q⊢;have X:a+U<=l:=O;clear B E K S z n9 b u;have T:=D.o.own;have G:=T.a1 m (lR _);go_wp2_with (at_builtin;refine uK (w:=w1) rfl (.tmp 27) (.tmp 29) 23 rfl w.heap.size 34 (.slice none 0 0) 24 Tryz.underlying23 yN rfl u5 h _ rfl rfl G rfl rfl O O j.size ?_;intro v2 w2 M H R);have l8:=j.grown H j.size (fun k Z=>(G.lt k Z).1);have o9:=D.o.push m m9.o g.size M H R;clear M H R T G m j;go_wp2;go_roundw
  case rel=>exact⟨a+U,_,_,X,by go_num,θ,Q.o,o9,l8⟩
  case measure=>simp[intOf];omega
 have L:cL l=(f,a,(bO d).2.2):=by
  have t:=I.o;rw[t] at b⊢;exact N.o.bad r b
 have t:((bO d).2.2 !=0)=true:=by simpa using b
 have C:=J L;have o8:=D.o.a1 m (lR _);clear B b L z;go_wp2;go_ret3;rw[C.o];exact⟨_,_,rfl,o8,j⟩
end
end Go.Proofs.YtgeofijddhflaaaGreatDoor
