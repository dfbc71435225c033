/- A step of a drawing region's walk in short: what an operation needs is shown by the way. No condition. -/
import Derived.Test.YtgeofijddhflaaaGreatDoorPCalcSmall
import Derived.Laws.CopyOwn
import Derived.Deep.AppendLies
import Derived.Deep.RegionHeld3
import Derived.RangeFuncNested
set_option linter.unusedVariables false
set_option linter.unusedSimpArgs false
namespace Go.Proofs.YtgeofijddhflaaaGreatDoor.Oct
open Go.RowKit Oct
def aI4(n:Nat):UInt8:=UInt8.ofNat (n %128+128)
def aX4(n:Nat):UInt8:=UInt8.ofNat (n %128)
def qE(n:Nat):List UInt8:=if _h:n=0 then[] else qE (n/128)++[aI4 n]
 termination_by n
 decreasing_by exact Nat.div_lt_self (Nat.pos_of_ne_zero _h) O
def enc(n:Nat):List UInt8:=qE (n/128)++[aX4 n]
theorem lN:qE 0=[]:=by rw[qE];simp
theorem tG(n:Nat)(h:n≠0):qE n=qE (n/128)++[aI4 n]:=by
 conv=>lhs;rw[qE]
 simp[h]
def cells(l:List UInt8):List Value:=l.map fun b=>.int .u8 (b.toNat:Int)
theorem aB(l:List UInt8):(cells l).length=l:=by simp[cells]
theorem bV(a b:List UInt8):cells (a++b)=cells a++cells b:=by simp[cells]
theorem bE1:cells []=[]:=rfl
theorem tF(n k:Nat)(h:n<128^k):(qE n).length<=k:=by
 induction k generalizing n with
 |zero=>
  have:n=0:=by simpa using h
  subst this;simp[lN]
 |succ k ih=>
  by_cases a:n=0;subst a;simp[lN];rw[tG n a];have:n/128<128^k:=by
   apply Nat.div_lt_of_lt_mul;rw[Nat.pow_succ] at h;omega
  have:=ih _ this;simp;omega
theorem dG(n:Nat)(h:n<18446744073709551616):(enc n).length<=10:=by
 have:=tF (n/128) 9 O;simp[enc];omega
theorem gO(m:Nat)(h:m<256):(UInt8.ofNat m).toNat=m:=by
 simp;omega
theorem cF2(k:Nat):(2:Nat)^(7*k)=128^k:=by rw[Nat.pow_mul]
theorem zL(k:Nat):(2:Int)^(7*k)=((128^k:Nat):Int):=by rw[<-cF2];simp
theorem bN0{n k:Nat}(h:(128:Int)<=(n:Int)/2^(7*k)):128<=n/128^k:=by
 rw[zL,<-Int.natCast_ediv] at h;omega
theorem bT4{n k:Nat}(e:n<2^64)(h:(128:Int)<=(n:Int)/2^(7*k)):k<9:=by
 have c:=bN0 h;rcases Nat.lt_or_ge k 9 with a|a
 exact a;have b:(128:Nat)^9<=128^k:=Nat.pow_le_pow_right O a;have d:n/128^k<=n/128^9:=Nat.div_le_div_left b O;omega
def cE7(n k:Nat):Prop:=k=0∨128<=n/128^(k-1)
theorem bI0(m:Nat):(m %256)|||128=m %128+128:=by
 have h:∀x:Fin 256,x.val|||128=x.val %128+128:=by decide+kernel
 have:=h ⟨m %256,Nat.mod_lt _ O⟩;simp only at this;omega
theorem bE8{n k j:Nat}(d:cE7 n k)(f:j<=k)(e:0<j):qE (n/128^j)=qE (n/128^(j+1))++[aI4 (n/128^j)]:=by
 have a:n/128^j≠0:=by
  rcases d with h|h
  omega;have b:(128:Nat)^(j-1)<=128^(k-1):=Nat.pow_le_pow_right O O;have c:n/128^(k-1)<=n/128^(j-1):=Nat.div_le_div_left b (Nat.pow_pos O);obtain⟨i,rfl⟩:∃i,j=i+1:=⟨j-1,O⟩
  rw[Nat.pow_succ,<-Nat.div_div_eq_div_mul];simp at c;omega
 rw[tG _ a,Nat.pow_succ,Nat.div_div_eq_div_mul]
theorem aV1{n k:Nat}(h:(n:Int)/2^(7*k)<128):qE (n/128^(k+1))=[]:=by
 rw[zL,<-Int.natCast_ediv] at h;rw[Nat.pow_succ,<-Nat.div_div_eq_div_mul,Nat.div_eq_of_lt O,lN]
def tkc(m:Nat):Bool->Nat->Nat->List UInt8->Nat×Nat×Int
 |_,_,i,[]=>(0,i,3)
 |first,n,i,c::r=>
  if(first&&c==128)||decide (m/128<n)||(decide (n=m/128)&&decide (m %128<c.toNat %128)) then(0,i+1,4)
  else if c.toNat<128 then(n*128+c.toNat %128,i+1,0)
  else tkc m false (n*128+c.toNat %128) (i+1) r
theorem cC8(m:Nat)(f:Bool)(n i:Nat)(l:List UInt8):(tkc m f n i l).1<=m:=by
 induction l generalizing f n i with
 |nil=>simp[tkc]
 |cons c r ih=>
  rw[tkc];split;exact Nat.zero_le _;rename_i a;simp only[Bool.or_eq_true,Bool.and_eq_true,decide_eq_true_eq,not_or,not_and] at a;have b:=a.2;have e:=a.1.2;split;show n*128+c.toNat %128<=m
  by_cases d:n=m/128;have:=b d;omega;omega;exact ih ..
theorem bU3(m:Nat)(f:Bool)(n i:Nat)(l:List UInt8):i<=(tkc m f n i l).2.1∧(tkc m f n i l).2.1<=i+l:=by
 induction l generalizing f n i with
 |nil=>simp[tkc]
 |cons c r ih=>
  rw[tkc];split;simp;split;simp;have:=ih false (n*128+c.toNat %128) (i+1);simp only[mC];omega
def cnt(m:Nat)(l:List UInt8):Nat×Nat×Int:=tkc m true 0 0 l
theorem aI2(m:Nat)(l:List UInt8):(cnt m l).1<=m:=cC8 ..
theorem yH(m:Nat)(l:List UInt8):(cnt m l).2.1<=l.length:=by have:=(bU3 m true 0 0 l).2;simpa[cnt] using this
def maxI:Nat:=9223372036854775807
def maxU:Nat:=18446744073709551615
def aC(m:Nat)(l:List UInt8):Nat×Nat×Int:=((cnt m l).1,if(cnt m l).2.2=0 then(cnt m l).2.1 else 0,(cnt m l).2.2)
def bX(u:Nat):Int:=if u %2=0 then(u/2:Nat) else-((u/2:Nat):Int)-1
def fold1(n:Int):Nat:=if 0<=n then 2*n.toNat else 2*(-(n+1)).toNat+1
end Go.Proofs.YtgeofijddhflaaaGreatDoor.Oct
namespace Go.Proofs.YtgeofijddhflaaaGreatDoor.Oct
open Go.RowKit Oct
theorem aU9(n:Nat):(aI4 n).toNat=n %128+128:=gO _ O
theorem aX5(n:Nat):(aX4 n).toNat=n %128:=gO _ O
theorem bB3{a b:UInt8}(h:a.toNat=b.toNat):a=b:=UInt8.toNat_inj.1 h
theorem cF4{m n i:Nat}{f:Bool}{c:UInt8}{r:List UInt8}(a:f=true->c.toNat≠128)(h:n<=m/128)(b:n=m/128->c.toNat %128<=m %128):
  tkc m f n i (c::r)=if c.toNat<128 then(n*128+c.toNat %128,i+1,0) else tkc m false (n*128+c.toNat %128) (i+1) r:=by
 rw[tkc,if_neg];simp only[Bool.or_eq_true,Bool.and_eq_true,decide_eq_true_eq,beq_iff_eq,not_or,not_and];refine⟨⟨fun e d=>a e (by rw[d];rfl),O⟩,fun g=>ω1 (b g)⟩
theorem bU2(m:Nat)(l:List UInt8):∀(f:Bool) (n i:Nat) (v u:Nat),(f=true∧n=0)∨(f=false∧n≠0)->tkc m f n i l=(v,u,0)->i<u∧u-i<=l∧qE n++l.take (u-i)=enc v:=by
 induction l with
 |nil=>intro f n i v u _ h;simp[tkc] at h
 |cons c r ih=>
  intro f n i v u o h;rw[tkc] at h;split at h;simp at h;rename_i e;simp only[Bool.or_eq_true,Bool.and_eq_true,decide_eq_true_eq,beq_iff_eq,not_or,not_and] at e;have p:=c.toNat_lt;split at h;rename_i j;simp only[Prod.mk.injEq] at h;obtain⟨rfl,rfl,_⟩:=h;refine⟨O,σ,?_⟩;rw[show i+1-i=1 by omega];unfold enc;have a:(n*128+c.toNat %128)/128=n:=O;rw[a]
  congr 1
  show[c]=_
  congr 1
  apply bB3;rw[aX5];omega;rename_i j;have d:n*128+c.toNat %128≠0:=by
   rcases o with⟨rfl,rfl⟩|⟨_,hn⟩
   have a:=e.1.1 rfl;intro g;apply a;apply bB3;show c.toNat=128
   omega;omega
  obtain⟨a,g,b⟩:=ih false _ (i+1) v u (.inr ⟨rfl,d⟩) h;refine⟨O,θ,?_⟩;rw[tG _ d,show(n*128+c.toNat %128)/128=n by omega,List.append_assoc] at b;have k:aI4 (n*128+c.toNat %128)=c:=by
   apply bB3;rw[aU9];omega
  rw[k] at b;rw[show u-i=(u-(i+1))+1 by omega,List.take_succ_cons];exact b
theorem aM8{m:Nat}{l:List UInt8}(h:(cnt m l).2.2=0):0<(cnt m l).2.1∧(cnt m l).2.1<=l.length∧l.take (cnt m l).2.1=enc (cnt m l).1:=by
 have:=bU2 m l true 0 0 (cnt m l).1 (cnt m l).2.1 (.inl ⟨rfl,rfl⟩) (by
  show cnt m l=_
  rw[<-h])
 rw[lN] at this;simpa using this
end Go.Proofs.YtgeofijddhflaaaGreatDoor.Oct
namespace Go.Proofs.YtgeofijddhflaaaGreatDoor
open Go.RowKit Oct
theorem bD0{k:IntKind}{a b:Int}(h:a=b):Ending.returned (.int k a)=.returned (.int k b):=by rw[h]
theorem cC2{a d b e c f :Value}(g:a=d)(h:b=e)(i:c=f):Ending.returned (.tuple #[a,b,c])=.returned (.tuple #[d,e,f]):=by rw[g,h,i]
theorem bK(a:Addr)(n:Nat):(a.add n).block=a.block:=by unfold Addr.add;split<;>rfl
theorem aU2(a:Addr)(i j:Nat):(a.add i).add j=a.add (i+j):=by
 unfold Addr.add;by_cases b:i=0<;>by_cases c:j=0<;>simp[b,c,Nat.add_assoc]
theorem aD{B:Nat}{a w:World}(h:Below B a w)(n:Nat):Below B a (w.drewN n):=⟨h.os,h.tape,h.output,h.size,h.block⟩
theorem fD{w w' :World}(h:w.grownBy w' none):Below w w w' :=⟨h.os,h.tape,h.output,h.size,fun k a=>h.block k a σ⟩
theorem aT{w w' :World}(h:Below w w w')(row:Option Nat):w.grownBy w' row:=⟨h.os,h.tape,h.output,h.size,fun i a _=>h.block i a⟩
theorem aF{w w1 d:World}{r b:Option Nat}(h:w.grownBy w1 r)(k:w1.grownBy d b)(e:b=r∨∃g,b=some g∧w.heap.size<=g):w.grownBy d r:=
 ⟨k.os.trans h.os,k.tape.trans h.tape,k.output.trans h.output,mM h.size k.size,fun i c a=>by
  refine(k.block i (Nat.lt_of_lt_of_le c h.size) ?_).trans (h.block i c a);rcases e with rfl|⟨g,rfl,f⟩
  exact a;simp;omega⟩
theorem iF{a w:World}{row:Option Nat}(h:a.grownBy w row)(n:Nat):a.grownBy (w.drewN n) row:=⟨h.os,h.tape,h.output,h.size,h.block⟩
theorem fE{a w:World}{row:Option Nat}{n:Nat}(h:(a.drewN n).grownBy w row):a.grownBy w row:=⟨h.os,h.tape,h.output,h.size,h.block⟩
def Rd(w:World)(B:Nat)(A:Option Addr)(xs:List Value):Prop:=
 0<xs.length->∃ad,A=some ad∧ad.block<B∧∀j u,xs[j]? =some u->w.cell? (ad.add j)=some u
section
variable{w w' :World}{B B' :Nat}{A:Option Addr}{xs:List Value}
theorem Rd.none_:Rd w B A []:=fun h=>absurd h σ
theorem Rd.at_{k:Nat}(h:Rd w B A xs)(d:k<xs):∃a,A=some a∧a.block<B∧w.cell? (a.add k)=some xs[k]:=by
 obtain⟨a,e,b,c⟩:=h O;exact⟨a,e,b,c k _ (lW d)⟩
theorem Rd.b1(h:Rd w B A xs)(d:∀p:Addr,p.block<B->w'.cell? p=w.cell? p):Rd w' B A xs:=fun f=>by
 obtain⟨b,e,a,c⟩:=h f;exact⟨b,e,a,fun j u g=>(d _ (by rw[bK];exact a)).trans (c j u g)⟩
theorem Rd.more(h:Rd w B A xs)(d:B<=B'):Rd w B' A xs:=fun c=>by
 obtain⟨a,e,f,b⟩:=h c;exact⟨a,e,O,b⟩
theorem Rd.a1(h:Rd w B A xs)(a:Below B w w'):Rd w' B A xs:=h.b1 fun _ b=>a.cell b
theorem Rd.drewN(h:Rd w B A xs)(k:Nat):Rd (w.drewN k) B A xs:=h
theorem Rd.alloc(h:Rd w B A xs)(a:B<=w)(o:Obj):Rd (w.alloc o) B A xs:=h.b1 fun p b=>World.cell?_alloc_lt w o p O
theorem Rd.cut(h:Rd w B A xs){k cap:Nat}(g:k<=xs)(f:xs<=cap):Rd w B (if cap=k then A else A.map (·.add k)) (xs.drop k):=fun d=>by
 rw[lZ] at d;obtain⟨b,rfl,c,a⟩:=h O;rw[if_neg O];refine⟨b.add k,rfl,by rw[bK];exact c,fun j u e=>?_⟩;rw[aU2];exact a _ u (by rw[<-e,List.getElem?_drop])
theorem Rd.take(h:Rd w B A xs)(k:Nat):Rd w B A (xs.take k):=fun e=>by
 obtain⟨c,rfl,d,a⟩:=h (by rw[lV] at e;omega);refine⟨c,rfl,d,fun j u b=>a j u ?_⟩;rw[List.getElem?_take] at b;split at b;exact b;cases b
end
theorem iR{w:World}{B:Nat}{A:Option Addr}{α:Type}{f:α->Value}{l:List α}{k:Nat}(h:Rd w B A (l.map f))(e:k<l):∃a,A=some a∧a.block<B∧w.cell? (a.add k)=some (f l[k]):=by
 obtain⟨a,c,d,b⟩:=h.at_ (k:=k) (by rw[lU];exact e);rw[List.getElem_map] at b;exact⟨a,c,d,b⟩
def cutA(A:Option Addr)(lo cap:Nat):Option Addr:=if cap=lo then A else A.map (·.add lo)
theorem Rd.j1{w:World}{B:Nat}{A:Option Addr}{a:List Value}(h:Rd w B A a){k cap:Nat}(c:k<=a)(b:a<=cap):Rd w B (cutA A k cap) (a.drop k):=h.cut c b
theorem mZ{P:Program}{e:TypeId}{i:TypeInfo}(hi:P.info? e=some i)(a:i.size=1)(w:World):(sizeOf e).run P w=.ok 1 w:=by
 simp[sizeOf,typeInfo,hi,a]
section
variable{P:Program}{T e:TypeId}{z:Value}{bytes:Nat}(ht:P.underlying T=some (.slice e))(hinfo:(P.info? e).map (fun i=>(i.zero,i.size,i.bytes))=some (some z,1,bytes))
include ht hinfo
theorem uC(A:Option Addr)(a cap lo hi:Nat)(j:lo<=hi)(k:hi<=cap)(X Y:Int)(d:X=(lo:Int))(f:Y=(hi:Int))(w:World):
  (Instr.slice T (.slice A a cap) (some (.int .i64 X)) (some (.int .i64 Y)) none).run P w=.ok (.slice (cutA A lo cap) (hi-lo) (cap-lo)) w:=by
 obtain⟨i,c,l,b,h⟩:=info_parts hinfo;subst d;subst f;rw[run_slice_lh w T A a cap (by rw[ht];simp[Program.elem,ht]) .i64 .i64 lo hi O O O];have g:P.elem T=e:=by simp[Program.elem,ht]
 rw[g,mZ c b];simp[sliced,Go.Proofs.YtgeofijddhflaaaGreatDoor.cutA,Result.andThen]
theorem eE(A:Option Addr)(a cap lo:Nat)(h:lo<=a)(X:Int)(d:X=(lo:Int))(w:World):
  (Instr.slice T (.slice A a cap) (some (.int .i64 X)) none none).run P w=.ok (.slice (cutA A lo cap) (a-lo) (cap-lo)) w:=by
 obtain⟨i,c,j,b,g⟩:=info_parts hinfo;subst d;rw[run_slice_l w T A a cap (by rw[ht];simp[Program.elem,ht]) .i64 lo O O];have f:P.elem T=e:=by simp[Program.elem,ht]
 rw[f,mZ c b];simp[sliced,Go.Proofs.YtgeofijddhflaaaGreatDoor.cutA,Result.andThen]
end
def Own(w:World)(base:Nat)(e:TypeId)(v:Value)(xs:List Value):Prop:=w.ownsRow base e 1 v xs xs
def jD(v:Value)(r:Option Nat)(n:Nat):Prop:=v.ownBlock=r∨∃g,v.ownBlock=some g∧n<=g
theorem yL{v a:Value}{r:Option Nat}{n m:Nat}(h:jD v r n)(k:jD a v.ownBlock m)(c:n<=m):jD a r n:=by
 rcases k with k|⟨g,k,b⟩
 unfold jD;rw[k];exact h;exact .inr ⟨g,k,O⟩
section
variable{w w' :World}{base:Nat}{e:TypeId}{v:Value}{xs:List Value}
theorem Own.nil(w:World)(base:Nat)(e:TypeId):Own w base e (.slice none 0 0) []:=World.ownsRow_nil w base e 1
theorem Own.lt(h:Own w base e v xs):∀k,v.ownBlock=some k->base<=k∧k<w.heap.size:=mL h
theorem Own.kept{row:Option Nat}(h:Own w base e v xs)(b:w.grownBy w' row)(a:v.ownBlock=none∨v.ownBlock≠row):Own w' base e v xs:=World.ownsRow.kept h b a
theorem Own.a1(h:Own w base e v xs){B:Nat}(b:Below B w w')(a:w<=B):Own w' base e v xs:=
 Own.kept h (row:=none) (aT (b.mono a) none) (by cases v.ownBlock<;>simp)
theorem Own.j5{g:Nat}(h:Own w base e v xs)(a:w.grownBy w' (some g))(a8:g<base):Own w' base e v xs:=by
 refine Own.kept h a (.inr fun b=>?_);have:=(h.lt g b).1;omega
theorem Own.alloc(h:Own w base e v xs)(o:Obj):Own (w.alloc o) base e v xs:=World.ownsRow.alloc h o
theorem Own.mono{a :Nat}(h:Own w base e v xs)(j:a <=base):Own w a e v xs:=by
 obtain⟨f,c⟩:=h;refine⟨f,?_⟩;rcases c with c|⟨g,b,d,i,k,r⟩
 exact .inl c;exact .inr ⟨g,b,d,i,O,r⟩
theorem Own.b3(h:Own w base e v xs):∃A c,v=.slice A xs c∧xs.length<=c∧c<=maxLen∧Rd w w A xs:=by
 obtain⟨b,a⟩:=id h;rcases a with⟨rfl,h0⟩|⟨g,cap,a8,rfl,hb,hg,hn,hc,hs,ht⟩
 have hx:=mD h0;subst hx;exact⟨none,0,rfl,lR _,Nat.zero_le _,Rd.none_⟩;refine⟨_,cap,rfl,hn,hc,fun _=>⟨_,rfl,(Array.getElem?_eq_some_iff.1 hg).1,World.ownsRow.cells h rfl⟩⟩
theorem Own.e0(h:Own w base e v xs):(v=.slice none 0 0∧xs=[])∨∃g a b,v=.slice (some ⟨g,0,none⟩) xs a∧base<=g∧g<w.heap.size∧w.heap[g]? =some (.cells b e (0,0))∧
  xs<=a∧a<=maxLen∧b.size=a∧b.toList.take xs=xs:=by
 obtain⟨d,c⟩:=id h;rcases c with⟨rfl,h0⟩|⟨g,a,b,rfl,hb,hg,hn,hc,hs,ht⟩
 exact .inl ⟨rfl,mD h0⟩;exact .inr ⟨g,a,b,rfl,hb,(Array.getElem?_eq_some_iff.1 hg).1,hg,hn,hc,O,by simpa using ht⟩
end
def aS(w:World)(g:Nat)(t:TypeId)(cs:Array Value):Prop:=w.heap[g]? =some (.cells cs t (0,0))
section
variable{w w' :World}{g:Nat}{t:TypeId}{cs:Array Value}
theorem aS.lt(h:aS w g t cs):g<w:=(Array.getElem?_eq_some_iff.1 h).1
theorem aS.cell(h:aS w g t cs)(i:Nat):w.cell? (g,i)=cs[i]? :=cell_of_row w g i cs t (0,0) h
theorem aS.a6(h:aS w g t cs)(i:Nat):w.frozen? (g,i)=false:=by
 unfold aS at h;simp[World.frozen?,h]
theorem aS.new(w:World)(t:TypeId)(cs:Array Value):aS (w.alloc (.cells cs t)) w t cs:=heap_alloc_new w _
theorem aS.drewN(h:aS w g t cs)(n:Nat):aS (w.drewN n) g t cs:=h
theorem aS.alloc(h:aS w g t cs)(o:Obj):aS (w.alloc o) g t cs:=(Below.heap_alloc w o g h.lt).trans h
theorem aS.b8(h:aS w g t cs)(i:Nat)(u:Value):aS (w.setCell (g,i) u) g t (cs.setIfInBounds i u):=by
 unfold aS at h⊢;simp[World.setCell,Array.getElem?_modify,h]
theorem aS.j5(h:aS w g t cs){p:Addr}(a:g≠p.block)(u:Value):aS (w.setCell p u) g t cs:=(Below.heap_setCell w p u g a).trans h
theorem aS.a1{B:Nat}(h:aS w g t cs)(a:Below B w w')(b:g<B):aS w' g t cs:=(a.block g b).trans h
theorem aS.grown{row:Option Nat}(h:aS w g t cs)(a:w.grownBy w' row)(b:some g≠row):aS w' g t cs:=(a.block g h.lt b).trans h
end
theorem aA(w:World)(g i:Nat)(u:Value):w.grownBy (w.setCell (g,i) u) (some g):=
 ⟨rfl,rfl,rfl,by simp[World.setCell],fun k b a=>Below.heap_setCell _ _ _ _ (by rintro rfl;exact a rfl)⟩
theorem vI{P:Program}{w:World}{m:Array Oper}{rest:List Oper}{o:Oper}{a:Act}{Q:Exit->Act->World->Prop}(D:o.guard=none)(d s:Operand)(p x:TypeId)
  (G:o.op=.call {callee:=.builtin .copy,args:=#[d,s],argTypes:=#[p,x]}) (e:TypeId) (z:Value) (l:Nat) (I:P.underlying p=some (.slice e)) (a8:(P.info? e).map (fun i=>(i.zero,i.size,i.bytes))=some (some z,1,l))
  (g b j:Nat) (A:Option Addr) (n c:Nat) (F:a.eval d=.slice (g,0) b j) (H:a.eval s=.slice A n c)
  (f:List Value) (t:TypeId) (r:aS w g t f.toArray) (B:Nat) (cs:List Value) (S:n=cs) (T:Rd w B A cs) (U:n<=b) (V:b<=f) (N:∀v∈cs,v.oneCell' =true)
  (h:∀y,aS y g t (cs++f.drop n).toArray->w.grownBy y (some g)->wpList P m Q rest (a.put o.dst (goInt n)) y):
  wpList P m Q (o::rest) a w:=by
 obtain⟨i,R,X,L,Y⟩:=info_parts a8;have E:(P.info? e).map (·.size)=some 1:=by rw[R];simp[L]
 subst S;have C:cs=Nat.min cs b:=(Nat.min_eq_left U).symm;by_cases q:cs.length=0;refine wpList_copy_nothing D d s p x G e I E _ _ _ _ _ _ F H (by rw[<-C];exact q) ?_;have:=h w (by rw[mD q];simpa using r) (World.grownBy.refl w _);rw[q] at this;exact this;obtain⟨K,rfl,_,M⟩:=T O;refine wpList_copy_own D d s p x G e I E g 0 b j K _ _ F H f.toArray t r cs C M (by simp;omega) N ?_;refine h _ ?_ ⟨rfl,rfl,rfl,by simp[World.setRow],fun k W u=>setRow_other w g k _ (fun e=>u (by rw[e]))⟩;have:=setRow_heap w g f.toArray (cs++f.drop cs).toArray t (0,0) r;unfold aS;simpa using this
theorem aK9{P:Program}{T e:TypeId}{z:Value}{a:Nat}(m:P.underlying T=some (.slice e))(a8:(P.info? e).map (fun i=>(i.zero,i.size,i.bytes))=some (some z,1,a))
  (n c:Nat) (X Y:Int) (g:X=(n:Int)) (j:Y=(c:Int)) (r:n<=c) (p:a*c<=281474976710656) (q:c<=9223372036854775807) (w:World):
  (Instr.makeSlice T X Y).run P w=.ok (.slice (w,0) n c) (w.alloc (.cells (madeCells z.cells c) e)):=by
 obtain⟨i,l,o,d,f⟩:=info_parts a8;subst g;subst j;have k:(i.bytes:Int)*(c:Int)<=281474976710656:=by
  have h:((i.bytes*c:Nat):Int)<=281474976710656:=by rw[f];omega
  rwa[Int.natCast_mul] at h
 have b:=run_make (P:=P) w T e i z m l o .i64 .i64 n c O O k O;simp only[Int.toNat_natCast,d,Nat.mul_one] at b;exact b
section
variable{P:Program}{w:World}
theorem uB(base:Nat)(t b e:TypeId)(i:TypeInfo)(a:P.underlying t=some (.slice e))(hi:P.info? e=some i)
  (v:Value) (d:List Value) (a8:Own w base e v d) (c:Nat):(Builtin.append_ #[t,t] b #[v,.slice none 0 c]).run P w=.ok v w:=by
 rcases a8.2 with⟨rfl,hn⟩|⟨g,cap,d8,rfl,_,_,a9,_⟩
 simp[Builtin.append_,run_underlying a,sizeOf,typeInfo,hi,Builtin.lenOf,Builtin.firstCells];simp[Builtin.append_,run_underlying a,sizeOf,typeInfo,hi,Builtin.lenOf,Builtin.firstCells,a9,storeCells]
theorem zZ(base:Nat)(t q e:TypeId)(z:Value)(b:Nat)(x:P.underlying t=some (.slice e))(E:(P.info? e).map (fun i=>(i.zero,i.size,i.bytes))=some (some z,1,b))(S:z.cells.size=1)
  (v:Value) (f:List Value) (o:Own w base e v f)
  (B:Nat) (A:Option Addr) (m c:Nat) (a:List Value) (p:m=a) (s:Rd w B A a) (H:∀u∈a,u.oneCell' =true)
  (Q:f+m<=maxLen) (a8:(f+m)*b<=140737488355328) (D:base<=w):
  ∃k l,(Builtin.append_ #[t,t] q #[v,.slice A m c]).run P w=.ok k l ∧Own l base e k (f++a)∧w.grownBy l v.ownBlock∧jD k v.ownBlock w:=by
 obtain⟨i,r,N,F,R⟩:=info_parts E;subst p;rcases A with _|n
 have p:a=[]:=by
  rcases Nat.eq_zero_or_pos a with d|d
  exact mD d;obtain⟨n,h,_⟩:=s d;cases h
 subst p;exact⟨v,w,uB base t q e i x r v f o c,by simpa using o,World.grownBy.refl w _,.inl rfl⟩;have C:∀j u,a[j]? =some u->w.cell? (n.add j)=some u:=by
  intro j u y;rcases Nat.eq_zero_or_pos a with d|d
  have M:=mD d;subst M;simp at y;obtain⟨T,h,_,L⟩:=s d;injection h with h
  subst h;exact L j u y
 obtain⟨k,l,G,I,K,_,g⟩:=run_append_own_at (P:=P) w base t q e i z 1 b x r N F R S O v f f o n a c a σ C H Q a8 D;refine⟨k,l,G,?_,K,?_⟩;unfold Own;rw[lT];exact I;rcases g with g|g
 exact .inl g;exact .inr ⟨_,g,lR _⟩
theorem fS{o:Oper}{a:Act}{K:Act->World->Prop}{Q:Exit->Act->World->Prop}(s x:Operand)(t:TypeId)
  (G:o.op=.call {callee:=.builtin .append,args:=#[s,x],argTypes:=#[t,t]})
  (base:Nat) (e:TypeId) (z:Value) (d:Nat) (L:P.underlying t=some (.slice e)) (l:(P.info? e).map (fun i=>(i.zero,i.size,i.bytes))=some (some z,1,d)) (r:z.cells.size=1)
  (v:Value) (j:List Value) (I:a.eval s=v) (n:Own w base e v j)
  (B:Nat) (A:Option Addr) (m c:Nat) (b:List Value) (hx:a.eval x=.slice A m c) (F:m=b) (H:Rd w B A b) (y:∀u∈b,u.oneCell' =true)
  (q:j+m<=maxLen) (a8:(j+m)*d<=140737488355328) (k:base<=w)
  (h:∀f g,Own g base e f (j++b)->w.grownBy g v.ownBlock->jD f v.ownBlock w->K (a.put o.dst f) g):o.wp P a w K Q:=by
 obtain⟨f,g,p,C,D,E⟩:=zZ (P:=P) base t o.type e z d L l r v j n B A m c b F H y q a8 k;unfold Oper.wp execOp;simp only[G,resolve,invoke,builtin,Sem.run_bind,Sem.run_pure,Result.andThen_ok,List.map_toArray,mG,List.map_nil,I,hx,p];exact h f g C D E
theorem aP{l:Array Oper}{rest:List Oper}{o:Oper}{a:Act}{Q:Exit->Act->World->Prop}(y:o.guard=none)(s x:Operand)(t:TypeId)
  (K:o.op=.call {callee:=.builtin .append,args:=#[s,x],argTypes:=#[t,t]})
  (base:Nat) (e:TypeId) (z:Value) (d:Nat) (N:P.underlying t=some (.slice e)) (j:(P.info? e).map (fun i=>(i.zero,i.size,i.bytes))=some (some z,1,d)) (C:z.cells.size=1)
  (v:Value) (q:List Value) (M:a.eval s=v) (k:Own w base e v q)
  (B:Nat) (A:Option Addr) (m c:Nat) (b:List Value) (hx:a.eval x=.slice A m c) (I:m=b) (L:Rd w B A b) (D:∀u∈b,u.oneCell' =true)
  (r:q+m<=maxLen) (f:(q+m)*d<=140737488355328) (g:base<=w)
  (h:∀n p,Own p base e n (q++b)->w.grownBy p v.ownBlock->jD n v.ownBlock w->wpList P l Q rest (a.put o.dst n) p):wpList P l Q (o::rest) a w:=
 wpList_plain y fun _ H=>fS s x t K base e z d N j C v q M k B A m c b hx I L D r f g fun n p E F G=>H _ _ (h n p E F G)
theorem lA{f:Array Oper}{rest:List Oper}{o:Oper}{a:Act}{Q:Exit->Act->World->Prop}(C:o.guard=none)(s x:Operand)(t:TypeId)
  (I:o.op=.call {callee:=.builtin .append,args:=#[s,x],argTypes:=#[t,t]})
  (base:Nat) (e:TypeId) (z:Value) (b:Nat) (L:P.underlying t=some (.slice e)) (y:(P.info? e).map (fun i=>(i.zero,i.size,i.bytes))=some (some z,1,b)) (D:z.cells.size=1)
  (v:Value) (n:List Value) (u r :Value) (M:u=r) (K:a.eval s=v) (B:Own w base e v n)
  (hx:a.eval x=.slice (w,0) 1 1) (E:u.oneCell' =true)
  (A:n.length+1<=9223372036854775807) (a8:(n.length+1)*b<=140737488355328) (N:base<=w)
  (h:∀l m,Own m base e l (n++[r])->w.grownBy m v.ownBlock->jD l v.ownBlock w->wpList P f Q rest (a.put o.dst l) m):wpList P f Q (o::rest) a (w.alloc (.cells #[u] e)):=by
 subst M;refine aP C s x t I base e z b L y D v n K (B.alloc _) (w.heap.size+1) (some ⟨w.heap.size,0,none⟩) 1 1 [u] hx rfl ?_ (by simpa using E) (by simpa[maxLen] using A) a8 (by simp;omega) ?_;intro _;refine⟨_,rfl,σ,fun j x p=>?_⟩
 match j,p with
 |0,p=>
  simp at p;subst p;rw[show((w,0):Addr).add 0=⟨w,0,none⟩ from rfl,World.cell?_alloc_at _ _ _ _ rfl];rfl
 intro l m F c d;refine h l m F ?_ ?_;exact⟨c.os,c.tape,c.output,mM σ c.size,fun k H q=>(c.block k θ q).trans (Below.heap_alloc _ _ _ H)⟩;rcases d with d|⟨g,d,G⟩
 exact .inl d;exact .inr ⟨g,d,by simp at G;omega⟩
end
end Go.Proofs.YtgeofijddhflaaaGreatDoor
namespace Go.Proofs.YtgeofijddhflaaaGreatDoor
open Go.RowKit Oct
def bU(l:List UInt8):ByteArray:=⟨l.toArray⟩
theorem uG(l:List UInt8):(bU l).data.toList=l:=rfl
theorem fL(l:List UInt8):(bU l).size=l:=rfl
theorem bX9(s:ByteArray)(n i:Nat)(r:List UInt8)(h:s.size-i=n):ByteArray.toList.loop s i r=r.reverse++s.data.toList.drop i:=by
 induction n generalizing i r with
 |zero=>
  unfold ByteArray.toList.loop;have c:¬i<s.size:=O;simp[c];show s.data.size<=i
  have:s.data.size=s.size:=rfl;omega
 |succ n ih=>
  unfold ByteArray.toList.loop;have a:i<s.size:=O;have b:i<s.data.toList:=by simpa using a
  simp[a];rw[ih (i+1) _ O];simp;rw[List.drop_eq_getElem_cons b]
  congr 1
  have d:i<s.data.size:=a;have e:s.get! i=s.data[i]! :=by cases s;rfl
  rw[e];rw[getElem!_pos s.data i d];simp
theorem toList_eq(s:ByteArray):s.toList=s.data.toList:=by
 unfold ByteArray.toList;rw[bX9 s s.size 0 [] O];simp
theorem jB(l:List UInt8):(bU l).toList=l:=by rw[toList_eq];rfl
theorem xW{P:Program}{w:World}{B:Nat}{A:Option Addr}{l:List UInt8}(g d e:TypeId)(t:P.underlying g=some (.slice e))(q:P.underlying e=some (.int .u8))(p:P.underlying d=some .string)
  (n c:Nat) (k:n=l) (h:Rd w B A (cells l)):
  (convert g d (.slice A n c)).run P w=.ok (.string (bU l)) w:=by
 subst k;rw[run_convert_bytes_string w g d e A _ _ t q p];rcases A with _|a
 have s:l=[]:=by
  rcases Nat.eq_zero_or_pos l with f|f
  exact mD f;obtain⟨x,h,_⟩:=h (by rw[aB];exact f);cases h
 subst s;simp[Conv.bytesToString,Sem.run_pure];rfl;have i:(loadCells a l).run P w=.ok ((l.map fun b=>(b.toNat:Int)).map (Value.int .u8)).toArray w:=by
  have o:∀j u,(cells l)[j]? =some u->w.cell? (a.add j)=some u:=by
   intro j u m;rcases Nat.eq_zero_or_pos l with f|f
   have k:=mD f;subst k;simp[cells] at m;obtain⟨v,h,_,i⟩:=h (by rw[aB];exact f);injection h with h
   subst h;exact i j u m
  have:=run_loadCells_list (P:=P) (w:=w) a (cells l) o;rw[aB] at this;rw[this];simp[cells]
 rw[run_bytesToString w a l c _ i,foldl_push_bytes]
 congr 2
 simp only[bU,List.map_map];simp;have r:((fun n:Int=>UInt8.ofNat n.toNat)∘fun b:UInt8=>(b.toNat:Int))=id:=by
  funext b
  simp
 rw[r,List.map_id]
end Go.Proofs.YtgeofijddhflaaaGreatDoor
namespace Go.Proofs.YtgeofijddhflaaaGreatDoor
open Go.RowKit Oct
theorem aS.c{w:World}{g:Nat}{t:TypeId}{cs:Array Value}(h:aS w g t cs)(i:Nat){v:Value}(a:cs[i]? =some v:=by simp only[List.getElem?_toArray,List.getElem?_cons_zero,List.getElem?_cons_succ];rfl):w.cell? ⟨g,i,none⟩=some v:=(aS.cell h i).trans a
theorem kN{w W:World}{cs:Array Value}{T:TypeId}(h:W=w.alloc (.cells cs T)):aS W w.heap.size T cs:=by rw[h];exact aS.new w _ _
theorem bN{w W:World}{o:Obj}(h:W=w.alloc o):Below w.heap.size w W:=by rw[h];exact(lS _ w).alloc (lR _) _
theorem bA(w:World)(o:Obj):Below w.heap.size w (w.alloc o):=(lS _ w).alloc (lR _) _
theorem bD(w:World)(o:Obj):Below w.heap.size w (w.drew.alloc o):=((lS _ w).drew).alloc (lR _) _
end Go.Proofs.YtgeofijddhflaaaGreatDoor
namespace Go.Proofs.YtgeofijddhflaaaGreatDoor
open Go.RowKit Oct
section
variable{P:Program}{md:Region.Mode}{Q:Exit->Act->World->Prop}{S S' :World->Prop}{l:List Oper}
theorem lP(i:Nat){v:Value}{d:Nat}{b:Array Bool}{a:Act}{w:World}(e:i<l)
  (m:Region.noSelect l.toArray=true) (j:Region.free md l.toArray b i=true) (k:(Region.ready md l.toArray b).contains i=true)
  (f:∀c a w,Q (.panic c) (a.put l[i].dst v) w->Q (.panic c) a w) (n:YieldsIf P l.toArray S l[i] v a) (g:S w)
  (h:wpAnyH P md l.toArray Q S d (b.setIfInBounds i true) (a.put l[i].dst v) w):wpAnyH P md l.toArray Q S (d+1) b a w:=
 wpAnyH_take (oi:=l[i]) (v:=v) (by rw[List.getElem?_toArray,lW e]) m j k f n g h
theorem bG0(i:Nat){c:Nat}{b:Array Bool}{a:Act}{w:World}(e:i<l)(f:Region.ready md l.toArray b=[i])
  (h:∀d :Act->World->Prop,Shut (∀a w,S w->(S w->wpAnyH P md l.toArray Q S c (b.setIfInBounds i true) a w)->d a w)->if Region.wanted l[i] (yielded l.toArray a.tmps)=true then Oper.wp P l[i] a w d Q else d (a.put l[i].dst undef) w):wpAnyH P md l.toArray Q S (c+1) b a w:=
 wpAnyH_ready f σ (AllReadyH.cons (by rw[List.getElem?_toArray,lW e]) h AllReadyH.nil)
end
end Go.Proofs.YtgeofijddhflaaaGreatDoor
namespace Go.Proofs.YtgeofijddhflaaaGreatDoor
open Go.RowKit Oct
section
variable{P:Program}{ops:Array Oper}{Q:Exit->Act->World->Prop}{md:Region.Mode}{S:World->Prop}{t:Nat}
def eZ(P:Program)(md:Region.Mode)(ops:Array Oper)(Q:Exit->Act->World->Prop)(S:World->Prop)(t:Nat):Nat->Array Bool->Act->World->Prop
 |0,listed,a,w=>Region.ready md ops listed=[]∧Q .normal a w
 |fuel+1,listed,a,w=>
  (Region.ready md ops listed=[]->Q .normal a w)∧
  ∀i∈Region.ready md ops listed,wpOp P ops Q i (fun a' w' =>(i≠t->S w')∧eZ P md ops Q S t fuel (listed.setIfInBounds i true) a' w') a w
theorem aB6:∀(b:Nat) (c:Array Bool) (a:Act) (w:World),eZ P md ops Q S t b c a w->wpAny P md ops Q b c a w
 |0,_,_,_,h=>h
 |b+1,_,_,_,h=>⟨h.1,fun i f=>wpOp_mono (fun d g e =>aB6 b _ d g e.2) (h.2 i f)⟩
def kZ(md:Region.Mode)(ops:Array Oper)(t i:Nat):Bool:=match ops[t]? with|some o=>o.after.any (fun e=>Region.binds md e&&e.on==i)|none=>true
theorem sJ{i:Nat}{a:Array Bool}(h:kZ md ops t i=true)(hi:a.getD i true=false):t∉Region.ready md ops a:=by
 intro j;obtain⟨_,l,f,e⟩:=mem_ready.1 j;unfold kZ at h;rw[f] at h;simp only[Array.any_eq_true] at h;obtain⟨k,g,d⟩:=h;simp only[Bool.and_eq_true,beq_iff_eq] at d;have b:=e _ (Array.getElem_mem g) d.1;rw[d.2] at b;rcases Nat.lt_or_ge i a.size with c |c
 simp[c] at hi b;rw[hi] at b;cases b;simp[Array.getElem?_eq_none c] at hi
theorem aL8{i:Nat}{oi:Oper}{v:Value}(hi:ops[i]? =some oi)(F:∀(j:Nat) (o:Oper) cs b,ops[j]? =some o->o.op≠.select cs b)(X:kZ md ops t i=true)
  (N:∀c a w,Q (.panic c) (a.put oi.dst v) w->Q (.panic c) a w):
  ∀(m:Nat) (a8:Array Bool) (a:Act) (w:World),
   (∀j l,ops[j]? =some l->j≠i->a8.getD j true=false->(∀e∈l.after,Region.binds md e=true->e.on≠i)->oi.apart ops l=true)→
   i∈Region.ready md ops a8->YieldsIf P ops S oi v a->S w→
   eZ P md ops Q S t m (a8.setIfInBounds i true) (a.put oi.dst v) w->eZ P md ops Q S t (m+1) a8 a w:=by
 intro m;induction m with
 |zero=>
  intro a8 a w _ f x n H;refine⟨fun h=>(by rw[h] at f;cases f),fun j p=>?_⟩;by_cases d:j=i;subst d;exact x.wpOp hi n ⟨fun _=>n,H⟩;have:=ready_mono p d;rw[H.1] at this;cases this
 |succ m ih=>
  intro a8 a w D f x n H;refine⟨fun h=>(by rw[h] at f;cases f),fun j p=>?_⟩;by_cases d:j=i;subst d;exact x.wpOp hi n ⟨fun _=>n,H⟩;have W:j≠t:=fun e=>sJ X (mem_ready.1 f).1 (e▸p)
  have g:=H.2 j (ready_mono p d);obtain⟨E,l,C,L⟩:=mem_ready.1 p;have V:∀e∈l.after,Region.binds md e=true->e.on≠i:=fun e T R z=>by
   have g:=L e T R;have G:=(mem_ready.1 f).1;rw[z] at g;rcases Nat.lt_or_ge i a8.size with y |y
   simp[y] at G g;rw[G] at g;cases g;simp[Array.getElem?_eq_none y] at g
  have M:=wpOp_putIf C (D j l C d E V) (fun cs b=>F i oi cs b hi) (fun cs b=>F j l cs b C) N x g;have K:∀k s,ops[k]? =some s->k≠i->(a8.setIfInBounds j true).getD k true=false→
    (∀e∈s.after,Region.binds md e=true->e.on≠i)->oi.apart ops s=true:=fun k s U A r B=>by
   refine D k s U A ?_ B;by_cases q:j=k;subst q;exact E;rw[getD_set_ne true q] at r;exact r
  refine wpOp_mono (fun I Y u=>⟨u.2.1,ih (a8.setIfInBounds j true) I Y K (ready_mono f (Ne.symm d)) u.1 (u.2.1 W) ?_⟩) M;rw[Array.setIfInBounds_comm _ _ d];exact u.2.2
theorem aT3{b:Array Bool}{a:Act}{w:World}(d:Region.ready md ops b=[])(h:Q .normal a w):
  ∀c,eZ P md ops Q S t c b a w
 |0=>⟨d,h⟩
 |_+1=>⟨fun _=>h,by rw[d];simp⟩
end
section
variable{P:Program}{md:Region.Mode}{Q:Exit->Act->World->Prop}{S S' :World->Prop}{l:List Oper}{t:Nat}
theorem jZ(i:Nat){v:Value}{d:Nat}{b:Array Bool}{a:Act}{w:World}(a8:i<l)
  (n:Region.noSelect l.toArray=true) (k:Region.free md l.toArray b i=true) (m:(Region.ready md l.toArray b).contains i=true) (f:kZ md l.toArray t i=true)
  (g:∀c a w,Q (.panic c) (a.put l[i].dst v) w->Q (.panic c) a w) (o:YieldsIf P l.toArray S l[i] v a) (j:S w)
  (h:eZ P md l.toArray Q S t d (b.setIfInBounds i true) (a.put l[i].dst v) w):eZ P md l.toArray Q S t (d+1) b a w:=by
 have e:l.toArray[i]? =some l[i]:=by rw[List.getElem?_toArray,lW a8]
 exact aL8 e (Region.noSelect_spec n) f g d b a w (Region.free_spec e k) (by simpa using m) o j h
theorem aV7(i:Nat){c:Nat}{b:Array Bool}{a:Act}{w:World}(e:i<l)(k:Region.ready md l.toArray b=[i])
  (h:∀d :Act->World->Prop,Shut (∀a w,S w->(S w->eZ P md l.toArray Q S t c (b.setIfInBounds i true) a w)->d a w)->if Region.wanted l[i] (yielded l.toArray a.tmps)=true then Oper.wp P l[i] a w d Q else d (a.put l[i].dst undef) w):eZ P md l.toArray Q S t (c+1) b a w:=
 ⟨fun m=>absurd (k▸m) σ,fun j g=>by
  rw[k] at g;obtain rfl:=lY.1 g;exact wpOp_step (by rw[List.getElem?_toArray,lW e]) (fun d n=>h d (fun a w f o=>n a w ⟨fun _=>f,o f⟩))⟩
theorem dI{d:Nat}{b:Array Bool}{a:Act}{w:World}(f:t<l)(k:Region.ready md l.toArray b=[t])(g:Region.ready md l.toArray (b.setIfInBounds t true)=[])
  (h:∀c :Act->World->Prop,Shut (∀a w,Q .normal a w->c a w)->if Region.wanted l[t] (yielded l.toArray a.tmps)=true then Oper.wp P l[t] a w c Q else c (a.put l[t].dst undef) w):eZ P md l.toArray Q S t (d+1) b a w:=
 ⟨fun m=>absurd (k▸m) σ,fun j i=>by
  rw[k] at i;obtain rfl:=lY.1 i;exact wpOp_step (by rw[List.getElem?_toArray,lW f]) (fun c n=>h c (fun a w o=>n a w ⟨fun e=>absurd rfl e,aT3 g o _⟩))⟩
theorem bW{b:Array Oper}{e:Nat}{a:Act}{w:World}(t:Nat)(d:P.follows .mixedOrders=true)(c:S w.drew)
  (h:S w.drew->eZ P .any b Q S t b.size (Array.replicate b.size false) a w.drew):(Code.region e b true).wp P Q a w:=
 wp_region_any d (aB6 _ _ _ _ (h c))
end
end Go.Proofs.YtgeofijddhflaaaGreatDoor
namespace Go.Proofs.YtgeofijddhflaaaGreatDoor
open Go.RowKit Oct
theorem zA{α:Type}{a:α}{l:List α}(h:0<(a::l).length):(a::l)[0]'h=a:=rfl
theorem zB{α:Type}(a:α)(l:List α)(i:Nat)(h:i+1<(a::l).length):(a::l)[i+1]'h=l[i]'(Nat.lt_of_succ_lt_succ h):=rfl
theorem zC{α:Type}(l:List α)(i:Nat)(a:α):l.toArray.setIfInBounds i a=(l.set i a).toArray:=List.setIfInBounds_toArray l i a
theorem zD{α:Type}(x a:α)(l:List α):(x::l).set 0 a=a::l:=rfl
theorem zE{α:Type}(x a:α)(l:List α)(i:Nat):(x::l).set (i+1) a=x::l.set i a:=rfl
theorem zF(a:Act)(d:Nat)(v:Value):a.put (some d) v={a with tmps:=a.tmps.setIfInBounds d v}:=rfl
theorem zG(a:Act)(v:Value):a.put none v=a:=rfl
section
variable{P:Program}{md:Region.Mode}{Q:Exit→Act→World→Prop}{S:World→Prop}{l:List Oper}{v:Value}{fuel:Nat}{listed:Array Bool}{a:Act}{w:World}
theorem zT(i:Nat)(e:i<l.length:=by simp)(s:S w:=by assumption)(f:Region.noSelect l.toArray=true:=by kernel_rfl)(d:Region.free md l.toArray listed i=true:=by kernel_rfl)(g:(Region.ready md l.toArray listed).contains i=true:=by kernel_rfl)
    (q:∀c a w,Q (.panic c) (a.put l[i].dst v) w→Q (.panic c) a w:=by exact fun _ _ _ h=>h) (y:YieldsIf P l.toArray S l[i] v a:=by refine Or.inl ⟨by rfl,?_⟩;intro w b;(try dsimp only at b);(try(obtain⟨j,m,n,o⟩:=b));simp only[zA,zB,zF,zG,zC,zD,zE];go_simp<;>with_reducible rfl)
    (k:wpAnyH P md l.toArray Q S fuel (listed.setIfInBounds i true) (a.put l[i].dst v) w):wpAnyH P md l.toArray Q S (fuel+1) listed a w:=lP i e f d g q y s k
theorem zU{t:Nat}(i:Nat)(e:i<l.length:=by simp)(s:S w:=by assumption)(f:Region.noSelect l.toArray=true:=by kernel_rfl)(d:Region.free md l.toArray listed i=true:=by kernel_rfl)(g:(Region.ready md l.toArray listed).contains i=true:=by kernel_rfl)(j:kZ md l.toArray t i=true:=by kernel_rfl)
    (q:∀c a w,Q (.panic c) (a.put l[i].dst v) w→Q (.panic c) a w:=by exact fun _ _ _ h=>h) (y:YieldsIf P l.toArray S l[i] v a:=by refine Or.inl ⟨by rfl,?_⟩;intro w b;(try dsimp only at b);(try(obtain⟨m,n,o,p⟩:=b));simp only[zA,zB,zF,zG,zC,zD,zE];go_simp<;>with_reducible rfl)
    (k:eZ P md l.toArray Q S t fuel (listed.setIfInBounds i true) (a.put l[i].dst v) w):eZ P md l.toArray Q S t (fuel+1) listed a w:=jZ i e f d g j q y s k
theorem uT(i:Nat)(e:i<l.length:=by simp)(s:S w:=by assumption)(f:Region.noSelect l.toArray=true:=by kernel_rfl)(d:Region.free md l.toArray listed i=true:=by kernel_rfl)(g:(Region.ready md l.toArray listed).contains i=true:=by kernel_rfl)
    (q:∀c a w,Q (.panic c) (a.put l[i].dst v) w→Q (.panic c) a w:=by exact fun _ _ _ h=>h) (y:YieldsIf P l.toArray S l[i] v a:=by refine Or.inl ⟨by rfl,?_⟩;intro w b;(try dsimp only at b);obtain⟨j,m,n,o,p,r⟩:=b;simp only[zA,zB,zF,zG,zC,zD,zE];go_simp<;>with_reducible rfl)
    (k:wpAnyH P md l.toArray Q S fuel (listed.setIfInBounds i true) (a.put l[i].dst v) w):wpAnyH P md l.toArray Q S (fuel+1) listed a w:=lP i e f d g q y s k
theorem sE{t:Nat}(i:Nat)(e:i<l.length:=by simp)(s:S w:=by assumption)(f:Region.noSelect l.toArray=true:=by kernel_rfl)(d:Region.free md l.toArray listed i=true:=by kernel_rfl)(g:(Region.ready md l.toArray listed).contains i=true:=by kernel_rfl)(j:kZ md l.toArray t i=true:=by kernel_rfl)
    (q:∀c a w,Q (.panic c) (a.put l[i].dst v) w→Q (.panic c) a w:=by exact fun _ _ _ h=>h) (y:YieldsIf P l.toArray S l[i] v a:=by refine Or.inl ⟨by rfl,?_⟩;intro w b;(try dsimp only at b);obtain⟨m,n,o,p,r,u⟩:=b;simp only[zA,zB,zF,zG,zC,zD,zE];go_simp<;>with_reducible rfl)
    (k:eZ P md l.toArray Q S t fuel (listed.setIfInBounds i true) (a.put l[i].dst v) w):eZ P md l.toArray Q S t (fuel+1) listed a w:=jZ i e f d g j q y s k
theorem zT7(i:Nat)(e:i<l.length:=by simp)(s:S w:=by assumption)(f:Region.noSelect l.toArray=true:=by kernel_rfl)(d:Region.free md l.toArray listed i=true:=by kernel_rfl)(g:(Region.ready md l.toArray listed).contains i=true:=by kernel_rfl)
    (q:∀c a w,Q (.panic c) (a.put l[i].dst v) w→Q (.panic c) a w:=by exact fun _ _ _ h=>h) (y:YieldsIf P l.toArray S l[i] v a:=by refine Or.inl ⟨by rfl,?_⟩;intro w b;(try dsimp only at b);obtain⟨j,m,n,o,p,r,t⟩:=b;simp only[zA,zB,zF,zG,zC,zD,zE];go_simp<;>with_reducible rfl)
    (k:wpAnyH P md l.toArray Q S fuel (listed.setIfInBounds i true) (a.put l[i].dst v) w):wpAnyH P md l.toArray Q S (fuel+1) listed a w:=lP i e f d g q y s k
theorem aN9{t:Nat}(i:Nat)(e:i<l.length:=by simp)(s:S w:=by assumption)(f:Region.noSelect l.toArray=true:=by kernel_rfl)(d:Region.free md l.toArray listed i=true:=by kernel_rfl)(g:(Region.ready md l.toArray listed).contains i=true:=by kernel_rfl)(j:kZ md l.toArray t i=true:=by kernel_rfl)
    (q:∀c a w,Q (.panic c) (a.put l[i].dst v) w→Q (.panic c) a w:=by exact fun _ _ _ h=>h) (y:YieldsIf P l.toArray S l[i] v a:=by refine Or.inl ⟨by rfl,?_⟩;intro w b;(try dsimp only at b);obtain⟨m,n,o,p,r,u,x⟩:=b;simp only[zA,zB,zF,zG,zC,zD,zE];go_simp<;>with_reducible rfl)
    (k:eZ P md l.toArray Q S t fuel (listed.setIfInBounds i true) (a.put l[i].dst v) w):eZ P md l.toArray Q S t (fuel+1) listed a w:=jZ i e f d g j q y s k
theorem cE4(i:Nat)(e:i<l.length:=by simp)(s:S w:=by assumption)(f:Region.noSelect l.toArray=true:=by kernel_rfl)(d:Region.free md l.toArray listed i=true:=by kernel_rfl)(g:(Region.ready md l.toArray listed).contains i=true:=by kernel_rfl)
    (q:∀c a w,Q (.panic c) (a.put l[i].dst v) w→Q (.panic c) a w:=by exact fun _ _ _ h=>h) (y:YieldsIf P l.toArray S l[i] v a:=by refine Or.inl ⟨by rfl,?_⟩;intro w b;(try dsimp only at b);obtain⟨j,m,n,o,p,r,t,u,x⟩:=b;simp only[zA,zB,zF,zG,zC,zD,zE];go_simp<;>with_reducible rfl)
    (k:wpAnyH P md l.toArray Q S fuel (listed.setIfInBounds i true) (a.put l[i].dst v) w):wpAnyH P md l.toArray Q S (fuel+1) listed a w:=lP i e f d g q y s k
theorem cF8{t:Nat}(i:Nat)(e:i<l.length:=by simp)(s:S w:=by assumption)(f:Region.noSelect l.toArray=true:=by kernel_rfl)(d:Region.free md l.toArray listed i=true:=by kernel_rfl)(g:(Region.ready md l.toArray listed).contains i=true:=by kernel_rfl)(j:kZ md l.toArray t i=true:=by kernel_rfl)
    (q:∀c a w,Q (.panic c) (a.put l[i].dst v) w→Q (.panic c) a w:=by exact fun _ _ _ h=>h) (y:YieldsIf P l.toArray S l[i] v a:=by refine Or.inl ⟨by rfl,?_⟩;intro w b;(try dsimp only at b);obtain⟨m,n,o,p,r,u,x,z,A⟩:=b;simp only[zA,zB,zF,zG,zC,zD,zE];go_simp<;>with_reducible rfl)
    (k:eZ P md l.toArray Q S t fuel (listed.setIfInBounds i true) (a.put l[i].dst v) w):eZ P md l.toArray Q S t (fuel+1) listed a w:=jZ i e f d g j q y s k
theorem zV(i:Nat)(c:i<l.length:=by simp)(r:Region.ready md l.toArray listed=[i]:=by kernel_rfl)
    (k:∀b :Act→World→Prop,Shut (∀a w,S w→(S w→wpAnyH P md l.toArray Q S fuel (listed.setIfInBounds i true) a w)→b a w)→if Region.wanted l[i] (yielded l.toArray a.tmps)=true then Oper.wp P l[i] a w b Q else b (a.put l[i].dst undef) w):wpAnyH P md l.toArray Q S (fuel+1) listed a w:=bG0 i c r k
theorem zW{t:Nat}(i:Nat)(c:i<l.length:=by simp)(r:Region.ready md l.toArray listed=[i]:=by kernel_rfl)
    (k:∀b :Act→World→Prop,Shut (∀a w,S w→(S w→eZ P md l.toArray Q S t fuel (listed.setIfInBounds i true) a w)→b a w)→if Region.wanted l[i] (yielded l.toArray a.tmps)=true then Oper.wp P l[i] a w b Q else b (a.put l[i].dst undef) w):eZ P md l.toArray Q S t (fuel+1) listed a w:=aV7 i c r k
end
end Go.Proofs.YtgeofijddhflaaaGreatDoor
