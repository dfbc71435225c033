/- Layer 3: Text, One, the small case. Condition: the table of powers of ten lies as the program's text lays it. -/
import Derived.Test.YtgeofijddhflaaaGreatDoorShelf
import Derived.Lib.AppendIntMem
set_option linter.unusedVariables false
set_option linter.unusedSimpArgs false
set_option maxHeartbeats 8000000
set_option maxRecDepth 100000
namespace Go.Proofs.YtgeofijddhflaaaGreatDoor
section
open Go.RowKit
theorem eX{α:Type _}(a:α):∃x,x=a:=⟨a,rfl⟩
abbrev I6 (x:Int):Prop:=-9223372036854775808<=x∧x<=9223372036854775807
instance(a b:Nat):CoeDep (Nat×Nat) (a,b) Addr:=⟨⟨a,b,none⟩⟩
instance(a b:Nat):CoeDep (Nat×Nat) (a,b) (Option Addr):=⟨some ⟨a,b,none⟩⟩
instance(a b:Nat):CoeDep (Nat×Nat) (a,b) Value:=⟨.pointer (some ⟨a,b,none⟩)⟩
instance(w:World)(b:Nat):CoeDep (World×Nat) (w,b) Addr:=⟨⟨w.heap.size,b,none⟩⟩
instance(w:World)(b:Nat):CoeDep (World×Nat) (w,b) (Option Addr):=⟨some ⟨w.heap.size,b,none⟩⟩
instance(w:World)(b:Nat):CoeDep (World×Nat) (w,b) Value:=⟨.pointer (some ⟨w.heap.size,b,none⟩)⟩
instance:CoeOut Int Value:=⟨fun n=>.int .i64 n⟩
instance:CoeOut Nat Value:=⟨fun n=>.int .i64 n⟩
instance:CoeOut World Nat:=⟨fun w=>w.heap.size⟩
instance{α:Type _}:CoeOut (List α) Nat:=⟨fun l=>l.length⟩
theorem O{p:Prop}(h:p:=by omega):p:=h
theorem ω1{q p:Prop}(a:q)(h:q->p:=by intro h;omega):p:=h a
theorem ω2{q r p:Prop}(a:q)(b:r)(h:q->r->p:=by intro h c;omega):p:=h a b
theorem σ{p:Prop}(h:p:=by simp):p:=h
theorem δ{p:Prop}(h:p:=by decide):p:=h
theorem κ{p:Prop}(h:p:=by kernel_rfl):p:=h
theorem μ{p:Prop}(h:p:=by unfold maxLen;omega):p:=h
theorem θ{p:Prop}(h:p:=by simp;omega):p:=h
end
section
open Go.RowKit
def Hq (p : Prop) : Prop := p
theorem Hq.o {p : Prop} (h : Hq p) : p := h
theorem J {p : Prop} (h : p) : Hq p := h
theorem lR(n:Nat):n≤n:=Nat.le_refl n
theorem lS(B:Nat)(w:World):RowKit.Below B w w:=RowKit.Below.refl B w
theorem lT{α:Type _}{x y:List α}:(x++y).length=x.length+y.length:=List.length_append
theorem lU{α β:Type _}{x:List α}(f:α→β):(x.map f).length=x.length:=List.length_map f
theorem lV{α:Type _}{i:Nat}{l:List α}:(l.take i).length=min i l.length:=List.length_take
theorem lW{α:Type _}{l:List α}{i:Nat}(h:i<l.length):l[i]? =some l[i]:=List.getElem?_eq_getElem h
theorem lX{α:Type _}{l:List α}{n:Nat}(h:n<l.length):l[n]∈l:=List.getElem_mem h
theorem lY{α:Type _}{a b:α}:a∈[b]↔a=b:=List.mem_singleton
theorem lZ{α:Type _}{i:Nat}{l:List α}:(l.drop i).length=l.length-i:=List.length_drop
theorem mA{α:Type _}{x:List α}{a:α}:x.concat a=x++[a]:=List.concat_eq_append
theorem mB{α:Type _}{a:α}{s t:List α}:a∈s++t↔a∈s∨a∈t:=List.mem_append
theorem mC{α:Type _}{a:α}{x:List α}:(a::x).length=x.length+1:=List.length_cons
theorem mD{α:Type _}{l:List α}(h:l.length=0):l=[]:=List.eq_nil_of_length_eq_zero h
theorem mE{α β:Type _}{f:α→β}{a b:List α}:(a++b).map f=a.map f++b.map f:=List.map_append
theorem mF{α β:Type _}{b:β}{f:α→β}{l:List α}:b∈l.map f↔∃a,a∈l∧f a=b:=List.mem_map
theorem mG{α β:Type _}{f:α→β}{a:α}{l:List α}:(a::l).map f=f a::l.map f:=List.map_cons
theorem mH(n:Int)(h:-9223372036854775808≤n∧n≤9223372036854775807):IntKind.i64.wrap n=n:=IntWalk.i64_in n h
theorem mI(w:World)(a:Addr){u:Value}(h:w.cell? a=some u):a.block<w.heap.size:=World.block_lt_of_cell? w a h
theorem mK{w w' :World}{a:Addr}(h:w'.heap[a.block]? =w.heap[a.block]?):w'.cell? a=w.cell? a:=World.cell?_of_block h
theorem mL{w:World}{base:Nat}{e:TypeId}{a:Nat}{v:Value}{n:Nat}{b:List Value}(h:w.ownsRow base e a v n b):∀k,v.ownBlock=some k→base≤k∧k<w.heap.size:=World.ownsRow.lt h
theorem mM{n m k:Nat}(h:n≤m)(i:m≤k):n≤k:=Nat.le_trans h i
theorem mN{α:Type _} [BEq α] [LawfulBEq α]{a b:α}:(a==b)=false↔a≠b:=beq_eq_false_iff_ne
theorem mO{α:Type _}{a:α}{i:Nat}{l:List α}(h:a∈l.take i):a∈l:=List.mem_of_mem_take h
theorem mJ{α:Type _}(l:List α):l=[]∨∃(L:List α) (b:α),l=L.concat b:=List.eq_nil_or_concat l
end
section
open Go.RowKit
end
section
open Go
def xN(c:UInt8):Bool:=decide (48<=c.toNat∧c.toNat<=57)
def iS(l:List UInt8):List UInt8:=l.takeWhile xN
def dv(n:Nat)(c:UInt8):Nat:=10*n+(c.toNat-48)
def valD(l:List UInt8):Nat:=l.foldl dv 0
def cG(l:List UInt8):Int×Nat×Int:=
 if l=[] then(0,0,3)
 else if iS l=[]∨(1<(iS l).length∧l.head?=some 48) then(0,0,4)
 else if 9223372036854775807<valD (iS l) then(0,0,20)
 else(valD (iS l),(iS l).length,0)
def yI(u:Nat):List UInt8:=if u=0 then[] else Lib.decDigits u
theorem xT(l:List UInt8)(k:Nat)(h:∀i (hi:i<l.length),i<k->xN l[i]=true)(g:k<=l)(a:k=l∨∃b:k<l,xN l[k]=false):iS l=l.take k:=by
 induction l generalizing k with
 |nil=>simp[iS]
 |cons c r ih=>
  cases k with
  |zero=>
   rcases a with a|⟨b,a⟩
   simp at a;simp at a;simp[iS,a]
  |succ k=>
   have d:=h 0 σ O;simp at d;have e:=ih k (fun i hi f=>h (i+1) θ O) (by simpa using g) (by
    rcases a with a|⟨b,a⟩
    exact .inl (by simpa using a);exact .inr ⟨by simpa using b,by simpa using a⟩)
   unfold iS at e⊢;simp[d,e]
theorem bC3(l:List UInt8):∀a,a<=l.foldl dv a:=by
 induction l with
 |nil=>intro a;exact lR _
 |cons c r ih=>
  intro a;have:=ih (dv a c);simp only[List.foldl_cons];unfold dv at*;omega
theorem bL2(l:List UInt8)(k:Nat)(h:k<l):valD (l.take (k+1))=10*valD (l.take k)+(l[k].toNat-48):=by
 rw[List.take_succ_eq_append_getElem h];unfold valD;rw[List.foldl_append];rfl
theorem bL1(l:List UInt8)(k:Nat):valD (l.take k)<=valD l:=by
 have h:valD l=(l.drop k).foldl dv (valD (l.take k)):=by
  unfold valD;rw[<-List.foldl_append,List.take_append_drop]
 rw[h];exact bC3 _ _
theorem cE2(l:List UInt8):(∀c∈l,xN c=true)->∀a,a<=18446744073709551615->(18446744073709551615<l.foldl dv a->Lib.parseUintM 18446744073709551615 a l=.range)∧(l.foldl dv a<=18446744073709551615->Lib.parseUintM 18446744073709551615 a l=.ok (l.foldl dv a)):=by
 induction l with
 |nil=>
  intro _ a h;exact⟨fun b =>by simp at b;omega,fun _=>rfl⟩
 |cons c r ih=>
  intro g a h;have f:=g c σ;unfold xN at f;have i:=of_decide_eq_true f;have m:=bC3 r (dv a c);have j:dv a c=a*10+(c.toNat-48):=by unfold dv;omega
  have k:(c::r).foldl dv a=r.foldl dv (dv a c):=rfl;unfold Lib.parseUintM;rw[if_pos i,k];by_cases d:1844674407370955162<=a;rw[if_pos d];exact⟨fun _=>rfl,fun b =>O⟩;rw[if_neg d];by_cases e:18446744073709551615<a*10+(c.toNat-48);rw[if_pos e];exact⟨fun _=>rfl,fun b =>O⟩;rw[if_neg e,<-j];exact ih (fun x hx=>g x (by simp[hx])) (dv a c) O
theorem cF1(l:List UInt8)(e:l≠[])(f:∀c∈l,xN c=true):(9223372036854775807<valD l->Lib.parseIntB 64 l=.range)∧(valD l<=9223372036854775807->Lib.parseIntB 64 l=.ok (valD l:Int)):=by
 have a:(18446744073709551615<valD l->Lib.parseUintB 64 l=.range)∧(valD l<=18446744073709551615->Lib.parseUintB 64 l=.ok (valD l)):=by
  unfold Lib.parseUintB;rw[if_neg e];exact cE2 l f 0 O
 cases l with
 |nil=>exact absurd rfl e
 |cons c r=>
  have j:=of_decide_eq_true (f c σ);have g:¬(c.toNat=43∨c.toNat=45):=O;have b:¬c.toNat=45:=O;generalize valD (c::r)=V at a⊢;unfold Lib.parseIntB;simp only[if_neg g];constructor;intro h;by_cases i:18446744073709551615<V;rw[a.1 i];rw[a.2 O];simp only;rw[if_pos ⟨b,θ⟩];intro h;rw[a.2 O];simp only;rw[if_neg (fun d =>by have:=d.2;simp at this;omega),if_neg (fun d =>b d.1),if_neg b]
theorem aO5(l:List UInt8):∀c∈iS l,xN c=true:=fun c a=>by
 unfold iS at a;have:=List.all_takeWhile (p:=xN) (l:=l);exact List.all_eq_true.1 this c a
theorem uP(d:Nat)(h:d<10):(UInt8.ofNat (48+d)).toNat=48+d:=by
 rw[UInt8.toNat_ofNat'];omega
theorem bP4{a b:List UInt8}(h:a≠[]):(a++b).head?=a.head?:=by
 cases a with
 |nil=>exact absurd rfl h
 |cons c r=>rfl
theorem rS(u:Nat):valD (Lib.decDigits u)=u∧(∀c∈Lib.decDigits u,xN c=true)∧Lib.decDigits u≠[]∧(0<u->(Lib.decDigits u).head?≠some 48):=by
 induction u using Nat.strongRecOn with
 |ind u ih=>
  unfold Lib.decDigits;by_cases h:u<10;rw[dif_pos h];have b:=uP u h;refine⟨?_,?_,σ,?_⟩;simp[valD,dv];omega;intro c a;obtain rfl:=lY.1 a;unfold xN;rw[b];exact decide_eq_true O;intro k f;simp only[List.head?_cons,Option.some.injEq] at f;have:=congrArg UInt8.toNat f;rw[b] at this;have e:(48:UInt8).toNat=48:=rfl;omega;rw[dif_neg h];obtain⟨d,g,i,j⟩:=ih (u/10) O;have b:=uP (u %10) O;refine⟨?_,?_,σ,?_⟩;unfold valD at d⊢;rw[List.foldl_append,d];simp only[List.foldl_cons,List.foldl_nil,dv,b];omega;intro c a;rcases mB.1 a with a|a
  exact g c a;obtain rfl:=lY.1 a;unfold xN;rw[b];exact decide_eq_true O;intro _;rw[bP4 i];exact j O
end
section
open Go.RowKit
end
section
open Go.RowKit
theorem cF3{a b :Value}(h:a=b):Ending.returned a=.returned b :=by rw[h]
theorem aS2(n:Int)(b:I6 n)(w:World):
  Calls Tryz.prog 170 #[n] w fun e f =>e=.returned (.int .u64 (n.natAbs:Nat))∧w=f :=by
 by_cases h:n<0
 ·obtain⟨m,a⟩:∃m:Nat,m=n.natAbs:=⟨_,rfl⟩
  rw[<-a];have g:1<=m:=O;have d:m<=9223372036854775808:=O;obtain rfl:n=-(m:Int):=O;have c:Hq ((-(-(m:Int)+1))+1=(m:Int)):=J O;clear b h a;go_enter Tryz.func170,Tryz.ntmps170;go_wp2;go_ret;exact⟨cF3 (congrArg (Value.int .u64) c.o),rfl⟩
 obtain⟨m,rfl⟩:=Int.eq_ofNat_of_zero_le (show 0<=n by omega);have d:m<=9223372036854775807:=O;clear b h;rw[Int.natAbs_natCast];go_enter Tryz.func170,Tryz.ntmps170;go_wp2;go_ret;exact⟨rfl,rfl⟩
end
section
open Go.RowKit
def aM0(w:World):Prop:=Lib.TabIs Tryz.prog w "internal/strconv.uint64pow10" .u64 Lib.pow10Tab
theorem aH7{P:Program}{a:String}{cs:Array Value}{w w' :World}(h:w.var? P a=some cs)(c:Below w w w'):w'.var? P a=some cs:=by
 unfold World.var? at h⊢;cases hg:P.globalNamed a with
 |none=>
  rw[hg] at h;cases h
 |some g=>
  rw[hg] at h;simp only[Option.bind_some] at h⊢;by_cases b:g<w;rw[c.block g b];exact h;rw[Array.getElem?_eq_none O] at h;cases h
theorem aM0.a1{w w' :World}(h:aM0 w)(a:Below w w w'):aM0 w' :=aH7 h a
theorem bT9(n:Int)(d:I6 n)(w:World)(f:aM0 w):
  Calls Tryz.prog 105 #[n] w fun e b =>e=.returned (.string ⟨(Lib.itoa n).toArray⟩)∧Below w w b :=by
 have c:=J d;have i:=J f;clear d f;go_enter Tryz.func105,Tryz.ntmps105;go_wp2_with fail;refine(Tryz.strconv_Itoa n c.o.1 c.o.2 w i.o).mono ?_;rintro e b ⟨rfl,k,m,g⟩;have j:Below w w b :=by rw[g];exact Lib.below_grow _ w (lR _) k m
 clear g;obtain⟨l,a⟩:=eX (Lib.itoa n);rw[<-a];have h:=J a;clear a;go_wp2;go_ret;exact⟨by rw[<-h.o];rfl,j⟩
end
end Go.Proofs.YtgeofijddhflaaaGreatDoor
