/- A step of a drawing region's walk in short: what an operation needs is shown by the way. No condition. -/
import Derived.Test.YtgeofijddhflaaaGreatDoorQCalcPlain
import Derived.Laws.CopyOwn
import Derived.Deep.AppendLies
import Derived.Deep.Draws
import Derived.Laws.Slices
import Derived.Laws.BytesArg
import Derived.Deep.RegionHeld3
import Derived.RangeFuncNested
import Derived.OrdersIn
namespace Go.Proofs.YtgeofijddhflaaaGreatDoor.Oct
def dA8(n:Nat):UInt8:=UInt8.ofNat (n %128+128)
def dK8(n:Nat):UInt8:=UInt8.ofNat (n %128)
def bX1(n:Nat):List UInt8:=if _h:n=0 then[] else bX1 (n/128)++[dA8 n]
 termination_by n
 decreasing_by exact Nat.div_lt_self (Nat.pos_of_ne_zero _h) (by omega)
def enc(n:Nat):List UInt8:=bX1 (n/128)++[dK8 n]
theorem aR2:bX1 0=[]:=by rw[bX1];simp
theorem bH3(n:Nat)(h:n≠0):bX1 n=bX1 (n/128)++[dA8 n]:=by
 conv=>lhs;rw[bX1]
 simp[h]
def cells(l:List UInt8):List Value:=l.map fun b=>.int .u8 (b.toNat:Int)
theorem aA1(l:List UInt8):(cells l).length=l.length:=by simp[cells]
theorem aE1(a b:List UInt8):cells (a++b)=cells a++cells b:=by simp[cells]
theorem cV9:cells []=[]:=rfl
theorem bH9(n k:Nat)(h:n<128^k):(bX1 n).length<=k:=by
 induction k generalizing n with
 |zero=>
  have:n=0:=by simpa using h
  subst this;simp[aR2]
 |succ k ih=>
  by_cases h0:n=0
  ·subst h0;simp[aR2]
  rw[bH3 n h0];have:n/128<128^k:=by
   apply Nat.div_lt_of_lt_mul
   rw[Nat.pow_succ] at h;omega
  have:=ih _ this;simp
  omega
theorem aN8(n:Nat)(h:n<18446744073709551616):(enc n).length<=10:=by
 have:=bH9 (n/128) 9 (by omega);simp[enc]
 omega
def num:List UInt8->Nat
 |l=>l.foldl (fun a b=>a*128+b.toNat %128) 0
theorem aJ3(m:Nat)(h:m<256):(UInt8.ofNat m).toNat=m:=by
 simp;omega
theorem dO5(k:Nat):(2:Nat)^(7*k)=128^k:=by rw[Nat.pow_mul]
theorem bV1(k:Nat):(2:Int)^(7*k)=((128^k:Nat):Int):=by rw[<-dO5];simp
theorem dH5{n k:Nat}(h:(128:Int)<=(n:Int)/2^(7*k)):128<=n/128^k:=by
 rw[bV1,<-Int.natCast_ediv] at h;omega
theorem dC4{n k:Nat}(hn:n<2^64)(h:(128:Int)<=(n:Int)/2^(7*k)):k<9:=by
 have h1:=dH5 h;rcases Nat.lt_or_ge k 9 with h9|h9
 ·exact h9
 have h2:(128:Nat)^9<=128^k:=Nat.pow_le_pow_right (by omega) h9;have h3:n/128^k<=n/128^9:=Nat.div_le_div_left h2 (by omega);omega
def Big(n k:Nat):Prop:=k=0∨128<=n/128^(k-1)
theorem cS1(m:Nat):(m %256)|||128=m %128+128:=by
 have h:∀x:Fin 256,x.val|||128=x.val %128+128:=by decide+kernel
 have:=h ⟨m %256,Nat.mod_lt _ (by omega)⟩;simp only at this;omega
theorem cX1{n k j:Nat}(hB:Big n k)(hj:j<=k)(h0:0<j):bX1 (n/128^j)=bX1 (n/128^(j+1))++[dA8 (n/128^j)]:=by
 have a8:n/128^j≠0:=by
  rcases hB with h|h
  ·omega
  have h1:(128:Nat)^(j-1)<=128^(k-1):=Nat.pow_le_pow_right (by omega) (by omega);have h2:n/128^(k-1)<=n/128^(j-1):=Nat.div_le_div_left h1 (Nat.pow_pos (by omega));obtain⟨i,rfl⟩:∃i,j=i+1:=⟨j-1,by omega⟩
  rw[Nat.pow_succ,<-Nat.div_div_eq_div_mul];simp at h2
  omega
 rw[bH3 _ a8,Nat.pow_succ,Nat.div_div_eq_div_mul]
theorem cN2{n k:Nat}(h:(n:Int)/2^(7*k)<128):bX1 (n/128^(k+1))=[]:=by
 rw[bV1,<-Int.natCast_ediv] at h;rw[Nat.pow_succ,<-Nat.div_div_eq_div_mul,Nat.div_eq_of_lt (by omega),aR2]
def tkc(m:Nat):Bool->Nat->Nat->List UInt8->Nat×Nat×Int
 |_,_,i,[]=>(0,i,3)
 |first,n,i,c::r=>
  if(first&&c==128)||decide (m/128<n)||(decide (n=m/128)&&decide (m %128<c.toNat %128)) then(0,i+1,4)
  else if c.toNat<128 then(n*128+c.toNat %128,i+1,0)
  else tkc m false (n*128+c.toNat %128) (i+1) r
theorem dM3(m:Nat)(f:Bool)(n i:Nat)(l:List UInt8):(tkc m f n i l).1<=m:=by
 induction l generalizing f n i with
 |nil=>simp[tkc]
 |cons c r ih=>
  rw[tkc];split
  ·exact Nat.zero_le _
  rename_i hb
  simp only[Bool.or_eq_true,Bool.and_eq_true,decide_eq_true_eq,not_or,not_and] at hb;have h2:=hb.2;have h1:=hb.1.2;split
  ·show n*128+c.toNat %128<=m
   by_cases hn:n=m/128
   ·have:=h2 hn;omega
   omega
  exact ih ..
theorem dF5(m:Nat)(f:Bool)(n i:Nat)(l:List UInt8):i<=(tkc m f n i l).2.1∧(tkc m f n i l).2.1<=i+l.length:=by
 induction l generalizing f n i with
 |nil=>simp[tkc]
 |cons c r ih=>
  rw[tkc];split
  ·simp
  split
  ·simp
  have:=ih false (n*128+c.toNat %128) (i+1);simp only[mC];omega
def cnt(m:Nat)(l:List UInt8):Nat×Nat×Int:=tkc m true 0 0 l
theorem cJ8(m:Nat)(l:List UInt8):(cnt m l).1<=m:=dM3 ..
theorem bS4(m:Nat)(l:List UInt8):(cnt m l).2.1<=l.length:=by have:=(dF5 m true 0 0 l).2;simpa[cnt] using this
def maxI:Nat:=9223372036854775807
def maxU:Nat:=18446744073709551615
def aA2(m:Nat)(l:List UInt8):Nat×Nat×Int:=((cnt m l).1,if(cnt m l).2.2=0 then(cnt m l).2.1 else 0,(cnt m l).2.2)
def aC9(u:Nat):Int:=if u %2=0 then(u/2:Nat) else-((u/2:Nat):Int)-1
def fold1(n:Int):Nat:=if 0<=n then 2*n.toNat else 2*(-(n+1)).toNat+1
end Go.Proofs.YtgeofijddhflaaaGreatDoor.Oct
namespace Go.Proofs.YtgeofijddhflaaaGreatDoor.Oct
theorem cP8(n:Nat):(dA8 n).toNat=n %128+128:=aJ3 _ (by omega)
theorem cL2(n:Nat):(dK8 n).toNat=n %128:=aJ3 _ (by omega)
theorem cV3{a b:UInt8}(h:a.toNat=b.toNat):a=b:=UInt8.toNat_inj.1 h
theorem dE8(m:Nat)(l:List UInt8):∀(f:Bool) (n i:Nat) (v u:Nat),(f=true∧n=0)∨(f=false∧n≠0)->tkc m f n i l=(v,u,0)->i<u∧u-i<=l.length∧bX1 n++l.take (u-i)=enc v:=by
 induction l with
 |nil=>intro f n i v u _ h;simp[tkc] at h
 |cons c r ih=>
  intro f n i v u hf h;rw[tkc] at h;split at h
  ·simp at h
  rename_i hb
  simp only[Bool.or_eq_true,Bool.and_eq_true,decide_eq_true_eq,beq_iff_eq,not_or,not_and] at hb;have a9:=c.toNat_lt;split at h
  ·rename_i hc
   simp only[Prod.mk.injEq] at h;obtain⟨rfl,rfl,_⟩:=h;refine⟨by omega,by simp,?_⟩;rw[show i+1-i=1 by omega];unfold enc;have h1:(n*128+c.toNat %128)/128=n:=by omega
   rw[h1]
   congr 1
   show[c]=_
   congr 1
   apply cV3
   rw[cL2];omega
  rename_i hc
  have a8:n*128+c.toNat %128≠0:=by
   rcases hf with⟨rfl,rfl⟩|⟨_,hn⟩
   ·have h1:=hb.1.1 rfl
    intro h2;apply h1
    apply cV3
    show c.toNat=128
    omega
   omega
  obtain⟨h1,h2,h3⟩:=ih false _ (i+1) v u (.inr ⟨rfl,a8⟩) h;refine⟨by omega,by simp;omega,?_⟩;rw[bH3 _ a8,show(n*128+c.toNat %128)/128=n by omega,List.append_assoc] at h3;have hd:dA8 (n*128+c.toNat %128)=c:=by
   apply cV3
   rw[cP8];omega
  rw[hd] at h3;rw[show u-i=(u-(i+1))+1 by omega,List.take_succ_cons];exact h3
theorem cJ3{m:Nat}{l:List UInt8}(h:(cnt m l).2.2=0):0<(cnt m l).2.1∧(cnt m l).2.1<=l.length∧l.take (cnt m l).2.1=enc (cnt m l).1:=by
 have:=dE8 m l true 0 0 (cnt m l).1 (cnt m l).2.1 (.inl ⟨rfl,rfl⟩) (by
  show cnt m l=_
  rw[<-h])
 rw[aR2] at this
 simpa using this
end Go.Proofs.YtgeofijddhflaaaGreatDoor.Oct
namespace Go.Proofs.YtgeofijddhflaaaGreatDoor
open Go.RowKit
theorem cR9{k:IntKind}{a b:Int}(h:a=b):Ending.returned (.int k a)=.returned (.int k b):=by rw[h]
theorem dN4{a a' b b' c c' :Value}(h1:a=a')(h2:b=b')(h3:c=c'):Ending.returned (.tuple #[a,b,c])=.returned (.tuple #[a',b',c']):=by rw[h1,h2,h3]
theorem aC7(a:Addr)(n:Nat):(a.add n).block=a.block:=by unfold Addr.add;split<;>rfl
theorem cK4(a:Addr)(i j:Nat):(a.add i).add j=a.add (i+j):=by
 unfold Addr.add;by_cases hi:i=0<;>by_cases hj:j=0<;>simp[hi,hj,Nat.add_assoc]
theorem aA3{B:Nat}{a w:World}(h:Below B a w)(n:Nat):Below B a (w.drewN n):=⟨h.os,h.tape,h.output,h.size,h.block⟩
theorem aH1{w w' :World}(h:w.grownBy w' none):Below w.heap.size w w' :=⟨h.os,h.tape,h.output,h.size,fun k hk=>h.block k hk (by simp)⟩
theorem aA5{w w' :World}(h:Below w.heap.size w w')(row:Option Nat):w.grownBy w' row:=⟨h.os,h.tape,h.output,h.size,fun i hi _=>h.block i hi⟩
theorem aA4{w w1 w2:World}{r r1:Option Nat}(h:w.grownBy w1 r)(k:w1.grownBy w2 r1)(hr:r1=r∨∃g,r1=some g∧w.heap.size<=g):w.grownBy w2 r:=
 ⟨k.os.trans h.os,k.tape.trans h.tape,k.output.trans h.output,Nat.le_trans h.size k.size,fun i hi hne=>by
  refine(k.block i (Nat.lt_of_lt_of_le hi h.size) ?_).trans (h.block i hi hne);rcases hr with rfl|⟨g,rfl,hg⟩
  ·exact hne
  simp;omega⟩
theorem aK4{a w:World}{row:Option Nat}(h:a.grownBy w row)(n:Nat):a.grownBy (w.drewN n) row:=⟨h.os,h.tape,h.output,h.size,h.block⟩
theorem aH2{a w:World}{row:Option Nat}{n:Nat}(h:(a.drewN n).grownBy w row):a.grownBy w row:=⟨h.os,h.tape,h.output,h.size,h.block⟩
def Rd(w:World)(B:Nat)(A:Option Addr)(xs:List Value):Prop:=
 0<xs.length->∃ad,A=some ad∧ad.block<B∧∀j u,xs[j]? =some u->w.cell? (ad.add j)=some u
section
variable{w w' :World}{B B' :Nat}{A:Option Addr}{xs:List Value}
theorem Rd.none_:Rd w B A []:=fun h=>absurd h (by simp)
theorem Rd.at_{k:Nat}(h:Rd w B A xs)(hk:k<xs.length):∃ad,A=some ad∧ad.block<B∧w.cell? (ad.add k)=some xs[k]:=by
 obtain⟨ad,e,hb,hc⟩:=h (by omega);exact⟨ad,e,hb,hc k _ (lW hk)⟩
theorem Rd.keep(h:Rd w B A xs)(hk:∀p:Addr,p.block<B->w'.cell? p=w.cell? p):Rd w' B A xs:=fun hn=>by
 obtain⟨ad,e,hb,hc⟩:=h hn;exact⟨ad,e,hb,fun j u hu=>(hk _ (by rw[aC7];exact hb)).trans (hc j u hu)⟩
theorem Rd.more(h:Rd w B A xs)(hB:B<=B'):Rd w B' A xs:=fun hn=>by
 obtain⟨ad,e,hb,hc⟩:=h hn;exact⟨ad,e,by omega,hc⟩
theorem Rd.below(h:Rd w B A xs)(hb:Below B w w'):Rd w' B A xs:=h.keep fun _ hp=>hb.cell hp
theorem Rd.drewN(h:Rd w B A xs)(k:Nat):Rd (w.drewN k) B A xs:=h
theorem Rd.alloc(h:Rd w B A xs)(hB:B<=w.heap.size)(o:Obj):Rd (w.alloc o) B A xs:=h.keep fun p hp=>World.cell?_alloc_lt w o p (by omega)
theorem Rd.grown(h:Rd w B A xs){row:Option Nat}(hg:w.grownBy w' row)(hB:B<=w.heap.size)(hr:∀g,row=some g->B<=g):Rd w' B A xs:=
 h.keep fun p hp=>World.cell?_of_block (hg.block p.block (by omega) (fun e=>by have:=hr _ e.symm;omega))
theorem Rd.cut(h:Rd w B A xs){k cap:Nat}(hk:k<=xs.length)(hc:xs.length<=cap):Rd w B (if cap=k then A else A.map (·.add k)) (xs.drop k):=fun hn=>by
 rw[lZ] at hn;obtain⟨ad,rfl,hb,hcell⟩:=h (by omega);rw[if_neg (by omega)];refine⟨ad.add k,rfl,by rw[aC7];exact hb,fun j u hu=>?_⟩;rw[cK4];exact hcell _ u (by rw[<-hu,List.getElem?_drop])
theorem Rd.take(h:Rd w B A xs)(k:Nat):Rd w B A (xs.take k):=fun hn=>by
 obtain⟨ad,rfl,hb,hcell⟩:=h (by rw[lV] at hn;omega);refine⟨ad,rfl,hb,fun j u hu=>hcell j u ?_⟩;rw[List.getElem?_take] at hu;split at hu
 ·exact hu
 cases hu
end
theorem aQ1{w:World}{B:Nat}{A:Option Addr}{α:Type}{f:α->Value}{l:List α}{k:Nat}(h:Rd w B A (l.map f))(hk:k<l.length):∃ad,A=some ad∧ad.block<B∧w.cell? (ad.add k)=some (f l[k]):=by
 obtain⟨ad,h1,h2,h3⟩:=h.at_ (k:=k) (by rw[lU];exact hk);rw[List.getElem_map] at h3;exact⟨ad,h1,h2,h3⟩
def cutA(A:Option Addr)(lo cap:Nat):Option Addr:=if cap=lo then A else A.map (·.add lo)
theorem Rd.cutA{w:World}{B:Nat}{A:Option Addr}{xs:List Value}(h:Rd w B A xs){k cap:Nat}(hk:k<=xs.length)(hc:xs.length<=cap):Rd w B (cutA A k cap) (xs.drop k):=h.cut hk hc
theorem aQ6{P:Program}{e:TypeId}{i:TypeInfo}(hi:P.info? e=some i)(hz:i.size=1)(w:World):(sizeOf e).run P w=.ok 1 w:=by
 simp[sizeOf,typeInfo,hi,hz]
section
variable{P:Program}{T e:TypeId}{z:Value}{bytes:Nat}(ht:P.underlying T=some (.slice e))(hinfo:(P.info? e).map (fun i=>(i.zero,i.size,i.bytes))=some (some z,1,bytes))
include ht hinfo
theorem aQ2(A:Option Addr)(len cap lo hi:Nat)(h1:lo<=hi)(h2:hi<=cap)(X Y:Int)(hX:X=(lo:Int))(hY:Y=(hi:Int))(w:World):
  (Instr.slice T (.slice A len cap) (some (.int .i64 X)) (some (.int .i64 Y)) none).run P w=.ok (.slice (cutA A lo cap) (hi-lo) (cap-lo)) w:=by
 obtain⟨i,a9,hz,a8,b8⟩:=info_parts hinfo;subst hX;subst hY;rw[run_slice_lh w T A len cap (by rw[ht];simp[Program.elem,ht]) .i64 .i64 lo hi (by omega) (by omega) (by omega)];have he:P.elem T=e:=by simp[Program.elem,ht]
 rw[he,aQ6 a9 a8];simp[sliced,Go.Proofs.YtgeofijddhflaaaGreatDoor.cutA,Result.andThen]
theorem aH0(A:Option Addr)(len cap lo:Nat)(h1:lo<=len)(X:Int)(hX:X=(lo:Int))(w:World):
  (Instr.slice T (.slice A len cap) (some (.int .i64 X)) none none).run P w=.ok (.slice (cutA A lo cap) (len-lo) (cap-lo)) w:=by
 obtain⟨i,a9,hz,a8,b8⟩:=info_parts hinfo;subst hX;rw[run_slice_l w T A len cap (by rw[ht];simp[Program.elem,ht]) .i64 lo (by omega) (by omega)];have he:P.elem T=e:=by simp[Program.elem,ht]
 rw[he,aQ6 a9 a8];simp[sliced,Go.Proofs.YtgeofijddhflaaaGreatDoor.cutA,Result.andThen]
end
def Own(w:World)(base:Nat)(e:TypeId)(v:Value)(xs:List Value):Prop:=w.ownsRow base e 1 v xs.length xs
def aR5(v:Value)(r:Option Nat)(n:Nat):Prop:=v.ownBlock=r∨∃g,v.ownBlock=some g∧n<=g
theorem bQ8{v v1:Value}{r:Option Nat}{n m:Nat}(h:aR5 v r n)(k:aR5 v1 v.ownBlock m)(hm:n<=m):aR5 v1 r n:=by
 rcases k with k|⟨g,k,hg⟩
 ·unfold aR5;rw[k];exact h
 exact .inr ⟨g,k,by omega⟩
section
variable{w w' :World}{base:Nat}{e:TypeId}{v:Value}{xs:List Value}
theorem Own.nil(w:World)(base:Nat)(e:TypeId):Own w base e (.slice none 0 0) []:=World.ownsRow_nil w base e 1
theorem Own.lt(h:Own w base e v xs):∀k,v.ownBlock=some k->base<=k∧k<w.heap.size:=World.ownsRow.lt h
theorem Own.kept{row:Option Nat}(h:Own w base e v xs)(hg:w.grownBy w' row)(hne:v.ownBlock=none∨v.ownBlock≠row):Own w' base e v xs:=World.ownsRow.kept h hg hne
theorem Own.below(h:Own w base e v xs){B:Nat}(hb:Below B w w')(hB:w.heap.size<=B):Own w' base e v xs:=
 Own.kept h (row:=none) (aA5 (hb.mono hB) none) (by cases v.ownBlock<;>simp)
theorem Own.far{g:Nat}(h:Own w base e v xs)(hg:w.grownBy w' (some g))(a8:g<base):Own w' base e v xs:=by
 refine Own.kept h hg (.inr fun hv=>?_);have:=(h.lt g hv).1;omega
theorem Own.alloc(h:Own w base e v xs)(o:Obj):Own (w.alloc o) base e v xs:=World.ownsRow.alloc h o
theorem Own.drewN(h:Own w base e v xs)(n:Nat):Own (w.drewN n) base e v xs:=h
theorem Own.mono{base' :Nat}(h:Own w base e v xs)(hb:base' <=base):Own w base' e v xs:=by
 obtain⟨h1,h2⟩:=h;refine⟨h1,?_⟩;rcases h2 with h2|⟨g,cap,a8,hv,hg,r⟩
 ·exact .inl h2
 exact .inr ⟨g,cap,a8,hv,by omega,r⟩
theorem Own.shape(h:Own w base e v xs):∃A c,v=.slice A xs.length c∧xs.length<=c∧c<=maxLen∧Rd w w.heap.size A xs:=by
 obtain⟨h1,h2⟩:=id h;rcases h2 with⟨rfl,h0⟩|⟨g,cap,a8,rfl,hb,hg,hn,hc,hs,ht⟩
 ·have hx:xs=[]:=mD h0
  subst hx;exact⟨none,0,rfl,lR _,Nat.zero_le _,Rd.none_⟩
 refine⟨_,cap,rfl,hn,hc,fun _=>⟨_,rfl,(Array.getElem?_eq_some_iff.1 hg).1,World.ownsRow.cells h rfl⟩⟩
theorem Own.whole(h:Own w base e v xs):(v=.slice none 0 0∧xs=[])∨∃g cap a8,v=.slice (some ⟨g,0,none⟩) xs.length cap∧base<=g∧g<w.heap.size∧w.heap[g]? =some (.cells a8 e (0,0))∧
  xs.length<=cap∧cap<=maxLen∧a8.size=cap∧a8.toList.take xs.length=xs:=by
 obtain⟨h1,h2⟩:=id h;rcases h2 with⟨rfl,h0⟩|⟨g,cap,a8,rfl,hb,hg,hn,hc,hs,ht⟩
 ·exact .inl ⟨rfl,mD h0⟩
 exact .inr ⟨g,cap,a8,rfl,hb,(Array.getElem?_eq_some_iff.1 hg).1,hg,hn,hc,by omega,by simpa using ht⟩
end
def Blk(w:World)(g:Nat)(t:TypeId)(cs:Array Value):Prop:=w.heap[g]? =some (.cells cs t (0,0))
section
variable{w w' :World}{g:Nat}{t:TypeId}{cs:Array Value}
theorem Blk.lt(h:Blk w g t cs):g<w.heap.size:=(Array.getElem?_eq_some_iff.1 h).1
theorem Blk.cell(h:Blk w g t cs)(i:Nat):w.cell? ⟨g,i,none⟩=cs[i]? :=cell_of_row w g i cs t (0,0) h
theorem Blk.frozen(h:Blk w g t cs)(i:Nat):w.frozen? ⟨g,i,none⟩=false:=by
 unfold Blk at h;simp[World.frozen?,h]
theorem Blk.new(w:World)(t:TypeId)(cs:Array Value):Blk (w.alloc (.cells cs t)) w.heap.size t cs:=heap_alloc_new w _
theorem Blk.drewN(h:Blk w g t cs)(n:Nat):Blk (w.drewN n) g t cs:=h
theorem Blk.alloc(h:Blk w g t cs)(o:Obj):Blk (w.alloc o) g t cs:=(Below.heap_alloc w o g h.lt).trans h
theorem Blk.set_(h:Blk w g t cs)(i:Nat)(u:Value):Blk (w.setCell ⟨g,i,none⟩ u) g t (cs.setIfInBounds i u):=by
 unfold Blk at h⊢;simp[World.setCell,Array.getElem?_modify,h]
theorem Blk.far(h:Blk w g t cs){p:Addr}(hp:g≠p.block)(u:Value):Blk (w.setCell p u) g t cs:=(Below.heap_setCell w p u g hp).trans h
theorem Blk.below{B:Nat}(h:Blk w g t cs)(hb:Below B w w')(hg:g<B):Blk w' g t cs:=(hb.block g hg).trans h
theorem Blk.grown{row:Option Nat}(h:Blk w g t cs)(hb:w.grownBy w' row)(hg:some g≠row):Blk w' g t cs:=(hb.block g h.lt hg).trans h
end
theorem aA0(w:World)(g i:Nat)(u:Value):w.grownBy (w.setCell ⟨g,i,none⟩ u) (some g):=
 ⟨rfl,rfl,rfl,by simp[World.setCell],fun k hk hne=>Below.heap_setCell _ _ _ _ (by rintro rfl;exact hne rfl)⟩
section
variable{P:Program}{w:World}
theorem bE2(base:Nat)(t ty e:TypeId)(i:TypeInfo)(ht:P.underlying t=some (.slice e))(hi:P.info? e=some i)
  (v:Value) (xs:List Value) (a8:Own w base e v xs) (c:Nat):(Builtin.append_ #[t,t] ty #[v,.slice none 0 c]).run P w=.ok v w:=by
 rcases a8.2 with⟨rfl,hn⟩|⟨g,cap,b8,rfl,_,_,a9,_⟩
 ·simp[Builtin.append_,run_underlying ht,sizeOf,typeInfo,hi,Builtin.lenOf,Builtin.firstCells]
 simp[Builtin.append_,run_underlying ht,sizeOf,typeInfo,hi,Builtin.lenOf,Builtin.firstCells,a9,storeCells]
theorem bO3(base:Nat)(t ty e:TypeId)(z:Value)(bytes:Nat)(ht:P.underlying t=some (.slice e))(f6:(P.info? e).map (fun i=>(i.zero,i.size,i.bytes))=some (some z,1,bytes))(f8:z.cells.size=1)
  (v:Value) (xs:List Value) (a9:Own w base e v xs)
  (B:Nat) (A:Option Addr) (m c:Nat) (news:List Value) (hm:m=news.length) (hr:Rd w B A news) (h1:∀u∈news,u.oneCell' =true)
  (g8:xs.length+m<=maxLen) (b8:(xs.length+m)*bytes<=140737488355328) (d8:base<=w.heap.size):
  ∃v' w',(Builtin.append_ #[t,t] ty #[v,.slice A m c]).run P w=.ok v' w' ∧Own w' base e v' (xs++news)∧w.grownBy w' v.ownBlock∧aR5 v' v.ownBlock w.heap.size:=by
 obtain⟨i,hi,hz,d9,f9⟩:=info_parts f6;subst hm;rcases A with _|ad
 ·have hm:news=[]:=by
   rcases Nat.eq_zero_or_pos news.length with h0|h0
   ·exact mD h0
   obtain⟨ad,h,_⟩:=hr h0;cases h
  subst hm;exact⟨v,w,bE2 base t ty e i ht hi v xs a9 c,by simpa using a9,World.grownBy.refl w _,.inl rfl⟩
 have a8:∀j u,news[j]? =some u->w.cell? (ad.add j)=some u:=by
  intro j u hu;rcases Nat.eq_zero_or_pos news.length with h0|h0
  ·have hn:news=[]:=mD h0
   subst hn;simp at hu
  obtain⟨g9,h,_,hc⟩:=hr h0;injection h with h
  subst h;exact hc j u hu
 obtain⟨v',w',f7,h2,h3,_,h5⟩:=run_append_own_at (P:=P) w base t ty e i z 1 bytes ht hi hz d9 f9 f8 (by omega) v xs.length xs a9 ad news.length c news (by simp) a8 h1 g8 b8 d8;refine⟨v',w',f7,?_,h3,?_⟩
 ·unfold Own;rw[lT];exact h2
 rcases h5 with h5|h5
 ·exact .inl h5
 exact .inr ⟨_,h5,lR _⟩
theorem aK9{o:Oper}{a:Act}{K:Act->World->Prop}{Q:Exit->Act->World->Prop}(s x:Operand)(t:TypeId)
  (ho:o.op=.call {callee:=.builtin .append,args:=#[s,x],argTypes:=#[t,t]})
  (base:Nat) (e:TypeId) (z:Value) (bytes:Nat) (ht:P.underlying t=some (.slice e)) (b8:(P.info? e).map (fun i=>(i.zero,i.size,i.bytes))=some (some z,1,bytes)) (f6:z.cells.size=1)
  (v:Value) (xs:List Value) (hs:a.eval s=v) (d9:Own w base e v xs)
  (B:Nat) (A:Option Addr) (m c:Nat) (news:List Value) (hx:a.eval x=.slice A m c) (hm:m=news.length) (hr:Rd w B A news) (h1:∀u∈news,u.oneCell' =true)
  (f7:xs.length+m<=maxLen) (a8:(xs.length+m)*bytes<=140737488355328) (a9:base<=w.heap.size)
  (h:∀v' w',Own w' base e v' (xs++news)->w.grownBy w' v.ownBlock->aR5 v' v.ownBlock w.heap.size->K (a.put o.dst v') w'):o.wp P a w K Q:=by
 obtain⟨v',w',d8,h2,h3,h4⟩:=bO3 (P:=P) base t o.type e z bytes ht b8 f6 v xs d9 B A m c news hm hr h1 f7 a8 a9;unfold Oper.wp execOp;simp only[ho,resolve,invoke,builtin,Sem.run_bind,Sem.run_pure,Result.andThen_ok,List.map_toArray,mG,List.map_nil,hs,hx,d8];exact h v' w' h2 h3 h4
theorem aA6{ops:Array Oper}{rest:List Oper}{o:Oper}{a:Act}{Q:Exit->Act->World->Prop}(hgd:o.guard=none)(s x:Operand)(t:TypeId)
  (ho:o.op=.call {callee:=.builtin .append,args:=#[s,x],argTypes:=#[t,t]})
  (base:Nat) (e:TypeId) (z:Value) (bytes:Nat) (ht:P.underlying t=some (.slice e)) (hinfo:(P.info? e).map (fun i=>(i.zero,i.size,i.bytes))=some (some z,1,bytes)) (hzs:z.cells.size=1)
  (v:Value) (xs:List Value) (hs:a.eval s=v) (hown:Own w base e v xs)
  (B:Nat) (A:Option Addr) (m c:Nat) (news:List Value) (hx:a.eval x=.slice A m c) (hm:m=news.length) (hr:Rd w B A news) (h1:∀u∈news,u.oneCell' =true)
  (h63:xs.length+m<=maxLen) (hbytes:(xs.length+m)*bytes<=140737488355328) (hbase:base<=w.heap.size)
  (h:∀v' w',Own w' base e v' (xs++news)->w.grownBy w' v.ownBlock->aR5 v' v.ownBlock w.heap.size->wpList P ops Q rest (a.put o.dst v') w'):wpList P ops Q (o::rest) a w:=
 wpList_plain hgd fun _ hK=>aK9 s x t ho base e z bytes ht hinfo hzs v xs hs hown B A m c news hx hm hr h1 h63 hbytes hbase fun v' w' h2 h3 h4=>hK _ _ (h v' w' h2 h3 h4)
theorem aO7{ops:Array Oper}{rest:List Oper}{o:Oper}{a:Act}{Q:Exit->Act->World->Prop}(f6:o.guard=none)(s x:Operand)(t:TypeId)
  (ho:o.op=.call {callee:=.builtin .append,args:=#[s,x],argTypes:=#[t,t]})
  (base:Nat) (e:TypeId) (z:Value) (bytes:Nat) (ht:P.underlying t=some (.slice e)) (a9:(P.info? e).map (fun i=>(i.zero,i.size,i.bytes))=some (some z,1,bytes)) (f7:z.cells.size=1)
  (v:Value) (xs:List Value) (u u' :Value) (hu:u=u') (hs:a.eval s=v) (b8:Own w base e v xs)
  (hx:a.eval x=.slice (some ⟨w.heap.size,0,none⟩) 1 1) (h1:u.oneCell' =true)
  (d8:xs.length+1<=9223372036854775807) (a8:(xs.length+1)*bytes<=140737488355328) (d9:base<=w.heap.size)
  (h:∀v' w',Own w' base e v' (xs++[u'])->w.grownBy w' v.ownBlock->aR5 v' v.ownBlock w.heap.size->wpList P ops Q rest (a.put o.dst v') w'):wpList P ops Q (o::rest) a (w.alloc (.cells #[u] e)):=by
 subst hu;refine aA6 f6 s x t ho base e z bytes ht a9 f7 v xs hs (b8.alloc _) (w.heap.size+1) (some ⟨w.heap.size,0,none⟩) 1 1 [u] hx rfl ?_ (by simpa using h1) (by simpa[maxLen] using d8) a8 (by simp;omega) ?_
 ·intro _
  refine⟨_,rfl,by simp,fun j x hj=>?_⟩
  match j,hj with
  |0,hj=>
   simp at hj
   subst hj;rw[show(⟨w.heap.size,0,none⟩:Addr).add 0=⟨w.heap.size,0,none⟩ from rfl,World.cell?_alloc_at _ _ _ _ rfl]
   rfl
 intro v' w' h2 h3 h4;refine h v' w' h2 ?_ ?_
 ·exact⟨h3.os,h3.tape,h3.output,Nat.le_trans (by simp) h3.size,fun k hk hne=>(h3.block k (by simp;omega) hne).trans (Below.heap_alloc _ _ _ hk)⟩
 rcases h4 with h4|⟨g,h4,hg⟩
 ·exact .inl h4
 exact .inr ⟨g,h4,by simp at hg;omega⟩
end
end Go.Proofs.YtgeofijddhflaaaGreatDoor
namespace Go.Proofs.YtgeofijddhflaaaGreatDoor
open Go.RowKit Oct
def str(l:List UInt8):ByteArray:=⟨l.toArray⟩
theorem bU1(l:List UInt8):(str l).data.toList=l:=rfl
theorem aK1(l:List UInt8):(str l).size=l.length:=rfl
theorem dK6(s:ByteArray)(n i:Nat)(r:List UInt8)(h:s.size-i=n):ByteArray.toList.loop s i r=r.reverse++s.data.toList.drop i:=by
 induction n generalizing i r with
 |zero=>
  unfold ByteArray.toList.loop;have b8:¬i<s.size:=by omega
  simp[b8]
  show s.data.size<=i
  have:s.data.size=s.size:=rfl;omega
 |succ n ih=>
  unfold ByteArray.toList.loop;have a9:i<s.size:=by omega
  have a8:i<s.data.toList.length:=by simpa using a9
  simp[a9]
  rw[ih (i+1) _ (by omega)];simp
  rw[List.drop_eq_getElem_cons a8]
  congr 1
  have h2:i<s.data.size:=a9;have e:s.get! i=s.data[i]! :=by cases s;rfl
  rw[e];rw[getElem!_pos s.data i h2];simp
theorem toList_eq(s:ByteArray):s.toList=s.data.toList:=by
 unfold ByteArray.toList;rw[dK6 s s.size 0 [] (by omega)];simp
theorem aO0(l:List UInt8):(str l).toList=l:=by rw[toList_eq];rfl
theorem bU2{P:Program}{w:World}{B:Nat}{A:Option Addr}{l:List UInt8}(src dst e:TypeId)(hs:P.underlying src=some (.slice e))(he:P.underlying e=some (.int .u8))(hd:P.underlying dst=some .string)
  (n c:Nat) (hn:n=l.length) (h:Rd w B A (cells l)):
  (convert src dst (.slice A n c)).run P w=.ok (.string (str l)) w:=by
 subst hn;rw[run_convert_bytes_string w src dst e A _ _ hs he hd];rcases A with _|a
 ·have hl:l=[]:=by
   rcases Nat.eq_zero_or_pos l.length with h0|h0
   ·exact mD h0
   obtain⟨ad,h,_⟩:=h (by rw[aA1];exact h0);cases h
  subst hl;simp[Conv.bytesToString,Sem.run_pure]
  rfl
 have hc:(loadCells a l.length).run P w=.ok ((l.map fun b=>(b.toNat:Int)).map (Value.int .u8)).toArray w:=by
  have a8:∀j u,(cells l)[j]? =some u->w.cell? (a.add j)=some u:=by
   intro j u hu;rcases Nat.eq_zero_or_pos l.length with h0|h0
   ·have hn:l=[]:=mD h0
    subst hn;simp[cells] at hu
   obtain⟨a9,h,_,hc⟩:=h (by rw[aA1];exact h0);injection h with h
   subst h;exact hc j u hu
  have:=run_loadCells_list (P:=P) (w:=w) a (cells l) a8;rw[aA1] at this;rw[this];simp[cells]
 rw[run_bytesToString w a l.length c _ hc,foldl_push_bytes]
 congr 2
 simp only[str,List.map_map];simp
 have hf:((fun n:Int=>UInt8.ofNat n.toNat)∘fun b:UInt8=>(b.toNat:Int))=id:=by
  funext b
  simp
 rw[hf,List.map_id]
end Go.Proofs.YtgeofijddhflaaaGreatDoor
namespace Go.Proofs.YtgeofijddhflaaaGreatDoor
section
variable{P:Program}{md:Region.Mode}{Q:Exit->Act->World->Prop}{S S' :World->Prop}{l:List Oper}
theorem aR0(i:Nat){v:Value}{fuel:Nat}{listed:Array Bool}{a:Act}{w:World}(hlt:i<l.length)
  (hs:Region.noSelect l.toArray=true) (hf:Region.free md l.toArray listed i=true) (hr:(Region.ready md l.toArray listed).contains i=true)
  (hQ:∀c a w,Q (.panic c) (a.put l[i].dst v) w->Q (.panic c) a w) (hy:YieldsIf P l.toArray S l[i] v a) (hS:S w)
  (h:wpAnyH P md l.toArray Q S fuel (listed.setIfInBounds i true) (a.put l[i].dst v) w):wpAnyH P md l.toArray Q S (fuel+1) listed a w:=
 wpAnyH_take (oi:=l[i]) (v:=v) (by rw[List.getElem?_toArray,lW hlt]) hs hf hr hQ hy hS h
theorem cX5(i:Nat){fuel:Nat}{listed:Array Bool}{a:Act}{w:World}(hlt:i<l.length)(hr:Region.ready md l.toArray listed=[i])
  (h:∀K' :Act->World->Prop,Shut (∀a w,S w->(S w->wpAnyH P md l.toArray Q S fuel (listed.setIfInBounds i true) a w)->K' a w)->if Region.wanted l[i] (yielded l.toArray a.tmps)=true then Oper.wp P l[i] a w K' Q else K' (a.put l[i].dst undef) w):wpAnyH P md l.toArray Q S (fuel+1) listed a w:=
 wpAnyH_ready hr (by simp) (AllReadyH.cons (by rw[List.getElem?_toArray,lW hlt]) h AllReadyH.nil)
end
end Go.Proofs.YtgeofijddhflaaaGreatDoor
namespace Go.Proofs.YtgeofijddhflaaaGreatDoor
section
variable{P:Program}{ops:Array Oper}{Q:Exit->Act->World->Prop}{md:Region.Mode}{S:World->Prop}{t:Nat}
def aI8(P:Program)(md:Region.Mode)(ops:Array Oper)(Q:Exit->Act->World->Prop)(S:World->Prop)(t:Nat):Nat->Array Bool->Act->World->Prop
 |0,listed,a,w=>Region.ready md ops listed=[]∧Q .normal a w
 |fuel+1,listed,a,w=>
  (Region.ready md ops listed=[]->Q .normal a w)∧
  ∀i∈Region.ready md ops listed,wpOp P ops Q i (fun a' w' =>(i≠t->S w')∧aI8 P md ops Q S t fuel (listed.setIfInBounds i true) a' w') a w
theorem bQ3:∀(fuel:Nat) (listed:Array Bool) (a:Act) (w:World),aI8 P md ops Q S t fuel listed a w->wpAny P md ops Q fuel listed a w
 |0,_,_,_,h=>h
 |fuel+1,_,_,_,h=>⟨h.1,fun i hi=>wpOp_mono (fun a' w' h' =>bQ3 fuel _ a' w' h'.2) (h.2 i hi)⟩
def aP4(md:Region.Mode)(ops:Array Oper)(t i:Nat):Bool:=match ops[t]? with|some o=>o.after.any (fun e=>Region.binds md e&&e.on==i)|none=>true
theorem bB0{i:Nat}{listed:Array Bool}(h:aP4 md ops t i=true)(hi:listed.getD i true=false):t∉Region.ready md ops listed:=by
 intro hr;obtain⟨_,ot,a9,a8⟩:=mem_ready.1 hr;unfold aP4 at h;rw[a9] at h;simp only[Array.any_eq_true] at h;obtain⟨k,hk,he⟩:=h;simp only[Bool.and_eq_true,beq_iff_eq] at he;have h1:=a8 _ (Array.getElem_mem hk) he.1;rw[he.2] at h1;rcases Nat.lt_or_ge i listed.size with h' |h'
 ·simp[h'] at hi h1;rw[hi] at h1;cases h1
 simp[Array.getElem?_eq_none h'] at hi
theorem bZ0{i:Nat}{oi:Oper}{v:Value}(hi:ops[i]? =some oi)(f6:∀(j:Nat) (o:Oper) cs b,ops[j]? =some o->o.op≠.select cs b)(g9:aP4 md ops t i=true)
  (hQ:∀c a w,Q (.panic c) (a.put oi.dst v) w->Q (.panic c) a w):
  ∀(a9:Nat) (a8:Array Bool) (a:Act) (w:World),
   (∀j oj,ops[j]? =some oj->j≠i->a8.getD j true=false->(∀e∈oj.after,Region.binds md e=true->e.on≠i)->oi.apart ops oj=true)→
   i∈Region.ready md ops a8->YieldsIf P ops S oi v a->S w→
   aI8 P md ops Q S t a9 (a8.setIfInBounds i true) (a.put oi.dst v) w->aI8 P md ops Q S t (a9+1) a8 a w:=by
 intro a9;induction a9 with
 |zero=>
  intro a8 a w _ hr hy hS H;refine⟨fun h=>(by rw[h] at hr;cases hr),fun j hj=>?_⟩;by_cases hji:j=i
  ·subst hji;exact hy.wpOp hi hS ⟨fun _=>hS,H⟩
  have:=ready_mono hj hji;rw[H.1] at this;cases this
 |succ a9 ih=>
  intro a8 a w b8 hr hy hS H;refine⟨fun h=>(by rw[h] at hr;cases hr),fun j hj=>?_⟩;by_cases hji:j=i
  ·subst hji;exact hy.wpOp hi hS ⟨fun _=>hS,H⟩
  have g8:j≠t:=fun e=>bB0 g9 (mem_ready.1 hr).1 (e▸hj)
  have h1:=H.2 j (ready_mono hj hji);obtain⟨d9,oj,f8,f9⟩:=mem_ready.1 hj;have f7:∀e∈oj.after,Region.binds md e=true->e.on≠i:=fun e he hb heq=>by
   have h1:=f9 e he hb;have h0:=(mem_ready.1 hr).1;rw[heq] at h1;rcases Nat.lt_or_ge i a8.size with h' |h'
   ·simp[h'] at h0 h1;rw[h0] at h1;cases h1
   simp[Array.getElem?_eq_none h'] at h1
  have h2:=wpOp_putIf f8 (b8 j oj f8 hji d9 f7) (fun cs b=>f6 i oi cs b hi) (fun cs b=>f6 j oj cs b f8) hQ hy h1;have d8:∀k ok,ops[k]? =some ok->k≠i->(a8.setIfInBounds j true).getD k true=false→
    (∀e∈ok.after,Region.binds md e=true->e.on≠i)->oi.apart ops ok=true:=fun k ok hk hki hun hno=>by
   refine b8 k ok hk hki ?_ hno;by_cases hjk:j=k
   ·subst hjk;exact d9
   rw[getD_set_ne true hjk] at hun;exact hun
  refine wpOp_mono (fun a' w' h3=>⟨h3.2.1,ih (a8.setIfInBounds j true) a' w' d8 (ready_mono hr (Ne.symm hji)) h3.1 (h3.2.1 g8) ?_⟩) h2;rw[Array.setIfInBounds_comm _ _ hji];exact h3.2.2
theorem cE7{listed:Array Bool}{a:Act}{w:World}(hr:Region.ready md ops listed=[])(h:Q .normal a w):
  ∀fuel,aI8 P md ops Q S t fuel listed a w
 |0=>⟨hr,h⟩
 |_+1=>⟨fun _=>h,by rw[hr];simp⟩
end
section
variable{P:Program}{md:Region.Mode}{Q:Exit->Act->World->Prop}{S S' :World->Prop}{l:List Oper}{t:Nat}
theorem aO3(i:Nat){v:Value}{fuel:Nat}{listed:Array Bool}{a:Act}{w:World}(a8:i<l.length)
  (hs:Region.noSelect l.toArray=true) (hf:Region.free md l.toArray listed i=true) (hr:(Region.ready md l.toArray listed).contains i=true) (a9:aP4 md l.toArray t i=true)
  (hQ:∀c a w,Q (.panic c) (a.put l[i].dst v) w->Q (.panic c) a w) (hy:YieldsIf P l.toArray S l[i] v a) (hS:S w)
  (h:aI8 P md l.toArray Q S t fuel (listed.setIfInBounds i true) (a.put l[i].dst v) w):aI8 P md l.toArray Q S t (fuel+1) listed a w:=by
 have hi:l.toArray[i]? =some l[i]:=by rw[List.getElem?_toArray,lW a8]
 exact bZ0 hi (Region.noSelect_spec hs) a9 hQ fuel listed a w (Region.free_spec hi hf) (by simpa using hr) hy hS h
theorem cL0(i:Nat){fuel:Nat}{listed:Array Bool}{a:Act}{w:World}(hlt:i<l.length)(hr:Region.ready md l.toArray listed=[i])
  (h:∀K' :Act->World->Prop,Shut (∀a w,S w->(S w->aI8 P md l.toArray Q S t fuel (listed.setIfInBounds i true) a w)->K' a w)->if Region.wanted l[i] (yielded l.toArray a.tmps)=true then Oper.wp P l[i] a w K' Q else K' (a.put l[i].dst undef) w):aI8 P md l.toArray Q S t (fuel+1) listed a w:=
 ⟨fun h0=>absurd (hr▸h0) (by simp),fun j hj=>by
  rw[hr] at hj;obtain rfl:=List.mem_singleton.1 hj;exact wpOp_step (by rw[List.getElem?_toArray,lW hlt]) (fun K' hK=>h K' (fun a w hS hW=>hK a w ⟨fun _=>hS,hW hS⟩))⟩
theorem aG6{fuel:Nat}{listed:Array Bool}{a:Act}{w:World}(hlt:t<l.length)(hr:Region.ready md l.toArray listed=[t])(hr2:Region.ready md l.toArray (listed.setIfInBounds t true)=[])
  (h:∀K' :Act->World->Prop,Shut (∀a w,Q .normal a w->K' a w)->if Region.wanted l[t] (yielded l.toArray a.tmps)=true then Oper.wp P l[t] a w K' Q else K' (a.put l[t].dst undef) w):aI8 P md l.toArray Q S t (fuel+1) listed a w:=
 ⟨fun h0=>absurd (hr▸h0) (by simp),fun j hj=>by
  rw[hr] at hj;obtain rfl:=List.mem_singleton.1 hj;exact wpOp_step (by rw[List.getElem?_toArray,lW hlt]) (fun K' hK=>h K' (fun a w hW=>hK a w ⟨fun e=>absurd rfl e,cE7 hr2 hW _⟩))⟩
theorem aD4{ops:Array Oper}{id:Nat}{a:Act}{w:World}(t:Nat)(hm:P.follows .mixedOrders=true)(hS:S w.drew)
  (h:S w.drew->aI8 P .any ops Q S t ops.size (Array.replicate ops.size false) a w.drew):(Code.region id ops true).wp P Q a w:=
 wp_region_any hm (bQ3 _ _ _ _ (h hS))
end
end Go.Proofs.YtgeofijddhflaaaGreatDoor
namespace Go.Proofs.YtgeofijddhflaaaGreatDoor
theorem zA{α:Type}{a:α}{l:List α}(h:0<(a::l).length):(a::l)[0]'h=a:=rfl
theorem zB{α:Type}(a:α)(l:List α)(i:Nat)(h:i+1<(a::l).length):(a::l)[i+1]'h=l[i]'(Nat.lt_of_succ_lt_succ h):=rfl
theorem zC{α:Type}(l:List α)(i:Nat)(a:α):l.toArray.setIfInBounds i a=(l.set i a).toArray:=List.setIfInBounds_toArray l i a
theorem zD{α:Type}(x a:α)(l:List α):(x::l).set 0 a=a::l:=rfl
theorem zE{α:Type}(x a:α)(l:List α)(i:Nat):(x::l).set (i+1) a=x::l.set i a:=rfl
theorem zF(a:Act)(d:Nat)(v:Value):a.put (some d) v={a with tmps:=a.tmps.setIfInBounds d v}:=rfl
theorem zG(a:Act)(v:Value):a.put none v=a:=rfl
section
variable{P:Program}{md:Region.Mode}{Q:Exit→Act→World→Prop}{S:World→Prop}{l:List Oper}{v:Value}{fuel:Nat}{listed:Array Bool}{a:Act}{w:World}
theorem zT(i:Nat)(lt:i<l.length:=by simp)(s:S w:=by assumption)(ns:Region.noSelect l.toArray=true:=by kernel_rfl)(fr:Region.free md l.toArray listed i=true:=by kernel_rfl)(rd:(Region.ready md l.toArray listed).contains i=true:=by kernel_rfl)
    (q:∀c a w,Q (.panic c) (a.put l[i].dst v) w→Q (.panic c) a w:=by exact fun _ _ _ h=>h) (y:YieldsIf P l.toArray S l[i] v a:=by refine Or.inl ⟨by rfl,?_⟩;intro w hSw;(try dsimp only at hSw);(try(obtain⟨s0,s1,s2,s3⟩:=hSw));simp only[zA,zB,zF,zG,zC,zD,zE];go_simp<;>with_reducible rfl)
    (k:wpAnyH P md l.toArray Q S fuel (listed.setIfInBounds i true) (a.put l[i].dst v) w):wpAnyH P md l.toArray Q S (fuel+1) listed a w:=aR0 i lt ns fr rd q y s k
theorem zU{t:Nat}(i:Nat)(lt:i<l.length:=by simp)(s:S w:=by assumption)(ns:Region.noSelect l.toArray=true:=by kernel_rfl)(fr:Region.free md l.toArray listed i=true:=by kernel_rfl)(rd:(Region.ready md l.toArray listed).contains i=true:=by kernel_rfl)(wt:aP4 md l.toArray t i=true:=by kernel_rfl)
    (q:∀c a w,Q (.panic c) (a.put l[i].dst v) w→Q (.panic c) a w:=by exact fun _ _ _ h=>h) (y:YieldsIf P l.toArray S l[i] v a:=by refine Or.inl ⟨by rfl,?_⟩;intro w hSw;(try dsimp only at hSw);(try(obtain⟨s0,s1,s2,s3⟩:=hSw));simp only[zA,zB,zF,zG,zC,zD,zE];go_simp<;>with_reducible rfl)
    (k:aI8 P md l.toArray Q S t fuel (listed.setIfInBounds i true) (a.put l[i].dst v) w):aI8 P md l.toArray Q S t (fuel+1) listed a w:=aO3 i lt ns fr rd wt q y s k
theorem zT6(i:Nat)(lt:i<l.length:=by simp)(s:S w:=by assumption)(ns:Region.noSelect l.toArray=true:=by kernel_rfl)(fr:Region.free md l.toArray listed i=true:=by kernel_rfl)(rd:(Region.ready md l.toArray listed).contains i=true:=by kernel_rfl)
    (q:∀c a w,Q (.panic c) (a.put l[i].dst v) w→Q (.panic c) a w:=by exact fun _ _ _ h=>h) (y:YieldsIf P l.toArray S l[i] v a:=by refine Or.inl ⟨by rfl,?_⟩;intro w hSw;(try dsimp only at hSw);obtain⟨s0,s1,s2,s3,s4,s5⟩:=hSw;simp only[zA,zB,zF,zG,zC,zD,zE];go_simp<;>with_reducible rfl)
    (k:wpAnyH P md l.toArray Q S fuel (listed.setIfInBounds i true) (a.put l[i].dst v) w):wpAnyH P md l.toArray Q S (fuel+1) listed a w:=aR0 i lt ns fr rd q y s k
theorem zU6{t:Nat}(i:Nat)(lt:i<l.length:=by simp)(s:S w:=by assumption)(ns:Region.noSelect l.toArray=true:=by kernel_rfl)(fr:Region.free md l.toArray listed i=true:=by kernel_rfl)(rd:(Region.ready md l.toArray listed).contains i=true:=by kernel_rfl)(wt:aP4 md l.toArray t i=true:=by kernel_rfl)
    (q:∀c a w,Q (.panic c) (a.put l[i].dst v) w→Q (.panic c) a w:=by exact fun _ _ _ h=>h) (y:YieldsIf P l.toArray S l[i] v a:=by refine Or.inl ⟨by rfl,?_⟩;intro w hSw;(try dsimp only at hSw);obtain⟨s0,s1,s2,s3,s4,s5⟩:=hSw;simp only[zA,zB,zF,zG,zC,zD,zE];go_simp<;>with_reducible rfl)
    (k:aI8 P md l.toArray Q S t fuel (listed.setIfInBounds i true) (a.put l[i].dst v) w):aI8 P md l.toArray Q S t (fuel+1) listed a w:=aO3 i lt ns fr rd wt q y s k
theorem zT7(i:Nat)(lt:i<l.length:=by simp)(s:S w:=by assumption)(ns:Region.noSelect l.toArray=true:=by kernel_rfl)(fr:Region.free md l.toArray listed i=true:=by kernel_rfl)(rd:(Region.ready md l.toArray listed).contains i=true:=by kernel_rfl)
    (q:∀c a w,Q (.panic c) (a.put l[i].dst v) w→Q (.panic c) a w:=by exact fun _ _ _ h=>h) (y:YieldsIf P l.toArray S l[i] v a:=by refine Or.inl ⟨by rfl,?_⟩;intro w hSw;(try dsimp only at hSw);obtain⟨s0,s1,s2,s3,s4,s5,s6⟩:=hSw;simp only[zA,zB,zF,zG,zC,zD,zE];go_simp<;>with_reducible rfl)
    (k:wpAnyH P md l.toArray Q S fuel (listed.setIfInBounds i true) (a.put l[i].dst v) w):wpAnyH P md l.toArray Q S (fuel+1) listed a w:=aR0 i lt ns fr rd q y s k
theorem zU7{t:Nat}(i:Nat)(lt:i<l.length:=by simp)(s:S w:=by assumption)(ns:Region.noSelect l.toArray=true:=by kernel_rfl)(fr:Region.free md l.toArray listed i=true:=by kernel_rfl)(rd:(Region.ready md l.toArray listed).contains i=true:=by kernel_rfl)(wt:aP4 md l.toArray t i=true:=by kernel_rfl)
    (q:∀c a w,Q (.panic c) (a.put l[i].dst v) w→Q (.panic c) a w:=by exact fun _ _ _ h=>h) (y:YieldsIf P l.toArray S l[i] v a:=by refine Or.inl ⟨by rfl,?_⟩;intro w hSw;(try dsimp only at hSw);obtain⟨s0,s1,s2,s3,s4,s5,s6⟩:=hSw;simp only[zA,zB,zF,zG,zC,zD,zE];go_simp<;>with_reducible rfl)
    (k:aI8 P md l.toArray Q S t fuel (listed.setIfInBounds i true) (a.put l[i].dst v) w):aI8 P md l.toArray Q S t (fuel+1) listed a w:=aO3 i lt ns fr rd wt q y s k
theorem zT9(i:Nat)(lt:i<l.length:=by simp)(s:S w:=by assumption)(ns:Region.noSelect l.toArray=true:=by kernel_rfl)(fr:Region.free md l.toArray listed i=true:=by kernel_rfl)(rd:(Region.ready md l.toArray listed).contains i=true:=by kernel_rfl)
    (q:∀c a w,Q (.panic c) (a.put l[i].dst v) w→Q (.panic c) a w:=by exact fun _ _ _ h=>h) (y:YieldsIf P l.toArray S l[i] v a:=by refine Or.inl ⟨by rfl,?_⟩;intro w hSw;(try dsimp only at hSw);obtain⟨s0,s1,s2,s3,s4,s5,s6,s7,s8⟩:=hSw;simp only[zA,zB,zF,zG,zC,zD,zE];go_simp<;>with_reducible rfl)
    (k:wpAnyH P md l.toArray Q S fuel (listed.setIfInBounds i true) (a.put l[i].dst v) w):wpAnyH P md l.toArray Q S (fuel+1) listed a w:=aR0 i lt ns fr rd q y s k
theorem zU9{t:Nat}(i:Nat)(lt:i<l.length:=by simp)(s:S w:=by assumption)(ns:Region.noSelect l.toArray=true:=by kernel_rfl)(fr:Region.free md l.toArray listed i=true:=by kernel_rfl)(rd:(Region.ready md l.toArray listed).contains i=true:=by kernel_rfl)(wt:aP4 md l.toArray t i=true:=by kernel_rfl)
    (q:∀c a w,Q (.panic c) (a.put l[i].dst v) w→Q (.panic c) a w:=by exact fun _ _ _ h=>h) (y:YieldsIf P l.toArray S l[i] v a:=by refine Or.inl ⟨by rfl,?_⟩;intro w hSw;(try dsimp only at hSw);obtain⟨s0,s1,s2,s3,s4,s5,s6,s7,s8⟩:=hSw;simp only[zA,zB,zF,zG,zC,zD,zE];go_simp<;>with_reducible rfl)
    (k:aI8 P md l.toArray Q S t fuel (listed.setIfInBounds i true) (a.put l[i].dst v) w):aI8 P md l.toArray Q S t (fuel+1) listed a w:=aO3 i lt ns fr rd wt q y s k
theorem zV(i:Nat)(lt:i<l.length:=by simp)(r:Region.ready md l.toArray listed=[i]:=by kernel_rfl)
    (k:∀K' :Act→World→Prop,Shut (∀a w,S w→(S w→wpAnyH P md l.toArray Q S fuel (listed.setIfInBounds i true) a w)→K' a w)→if Region.wanted l[i] (yielded l.toArray a.tmps)=true then Oper.wp P l[i] a w K' Q else K' (a.put l[i].dst undef) w):wpAnyH P md l.toArray Q S (fuel+1) listed a w:=cX5 i lt r k
theorem zW{t:Nat}(i:Nat)(lt:i<l.length:=by simp)(r:Region.ready md l.toArray listed=[i]:=by kernel_rfl)
    (k:∀K' :Act→World→Prop,Shut (∀a w,S w→(S w→aI8 P md l.toArray Q S t fuel (listed.setIfInBounds i true) a w)→K' a w)→if Region.wanted l[i] (yielded l.toArray a.tmps)=true then Oper.wp P l[i] a w K' Q else K' (a.put l[i].dst undef) w):aI8 P md l.toArray Q S t (fuel+1) listed a w:=cL0 i lt r k
end
end Go.Proofs.YtgeofijddhflaaaGreatDoor
