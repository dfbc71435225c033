/- The reference of layer 1: digits, count, Uint, Int, Text, Ints: the same bytes. Condition: ints fit their kind. -/
import Derived.Test.YtgeofijddhflaaaGreatDoorPHeldS
import Derived.Test.YtgeofijddhflaaaGreatDoorChecked
import Derived.WalkLawsBesides
import Derived.StillTailTactics
set_option linter.unusedVariables false
set_option linter.unusedSimpArgs false
set_option maxHeartbeats 8000000
set_option maxRecDepth 100000
namespace Go.Proofs.YtgeofijddhflaaaGreatDoor
open Go.RowKit Oct
theorem bJ:(Tryz.prog.info? 5).map (fun i=>(i.zero,i.size,i.bytes))=some (some (.int .u8 0),1,1):=by kernel_rfl
abbrev Bs (w:World) (base:Nat) (v:Value) (l:List UInt8):Prop:=Own w base 5 v (cells l)
theorem bF{w:World}{base:Nat}{v:Value}{l:List UInt8}(h:Bs w base v l):∃A c,v=.slice A l c∧l.length<=c∧c<=9223372036854775807∧Rd w w A (cells l):=by
 obtain⟨A,c,b,a,d,e⟩:=Own.b3 h;rw[aB] at b a;exact⟨A,c,b,a,by unfold maxLen at d;omega,e⟩
theorem kM{w:World}{B:Nat}{A:Option Addr}{l:List UInt8}(c:Nat)(h:Rd w B A (cells l)):(convert 34 9 (.slice A l c)).run Tryz.prog w=.ok (.string (bU l)) w:=
 xW 34 9 5 Tryz.underlying34 Tryz.underlying5 Tryz.underlying9 _ c rfl h
theorem bR6(n j:Nat):bits .or .u8 ((n:Int)/2^(7*j) %256) 128=((aI4 (n/128^j)).toNat:Int):=by
 unfold aI4;rw[zL,<-Int.natCast_ediv,gO _ O,<-bI0,u8_or _ _ O O O O]
 congr 1
theorem sU(n:Nat):bits .andNot .u8 ((n:Int) %256) 128=((aX4 n).toNat:Int):=by
 unfold aX4;rw[gO _ O,u8_andNot _ _ O O O O];have h:∀x:Fin 256,x.val&&& 127=x.val %128:=by decide+kernel
 have:=h ⟨n %256,Nat.mod_lt _ O⟩;simp only at this;have a:((n:Int) %256).toNat=n %256:=O;rw[a];show(((n %256)&&& 127:Nat):Int)=_
 omega
theorem aJ8(v:Value)(l:List UInt8)(n:Nat)(base:Nat)(w:World)(y:n<2^64)(L:l.length+11<=140737488355328)(I:base<=w)
  (E:Bs w base v l):
  Calls Tryz.prog 157 #[v,.int .u64 n] w fun e A =>∃a,e=.returned a ∧Bs A base a (l++enc n)∧w.grownBy A v.ownBlock∧jD a v.ownBlock w:=by
 have u:=J y;clear y;go_enter Tryz.func157,Tryz.ntmps157;go_wp2;go_loop [5] (fun s=>∃k:Nat,k<=9∧s=.int .i64 (7*k:Nat)∧cE7 n k) (fun s=>64-(intOf s).toNat)
 case atStart=>exact⟨0,O,rfl,.inl rfl⟩
 obtain⟨k,K,rfl,G⟩:=hrel;go_wp2
 ·have x:(128:Int)<=(n:Int)/2^(7*k):=by assumption
  have N:=bT4 u.o x;have C:cE7 n (k+1):=.inr (by rw[Nat.add_sub_cancel];exact bN0 x);go_round
  case rel=>exact⟨k+1,O,by go_num,C⟩
  case measure=>simp[intOf];omega
 have H:(n:Int)/2^(7*k)<128:=by assumption
 have i:=aV1 H;go_loopw [0,5] (fun b s wr=>∃j:Nat,j<=k∧s=.int .i64 (7*j:Nat)∧Bs wr base b (l++qE (n/128^(j+1)))∧w.grownBy wr v.ownBlock∧jD b v.ownBlock w) (fun _ s _=>(intOf s).toNat)
 case atStart=>exact⟨k,lR _,rfl,by rw[i,List.append_nil];exact E,World.grownBy.refl _ _,.inl rfl⟩
 clear i;obtain⟨j,D,rfl,m,h,c⟩:=hrel;have M:(l++qE (n/128^(j+1))).length<=l+10:=by
  have:=tF (n/128^(j+1)) 10 (by have:=u.o;have:n/128^(j+1)<=n:=Nat.div_le_self _ _;omega);simp;omega
 have z:=h.size;by_cases B:0<j
 ·have i:=bE8 G D B
  have F:=J i;clear i;go_wp2_with (at_builtin;refine lA rfl (.tmp 16) (.tmp 22) 34 rfl base 5 (.int .u8 0) 1 Tryz.underlying34 bJ rfl _ _ _ _ (congrArg (Value.int .u8) (bR6 n j)) rfl m rfl rfl (by rw[aB];omega) (by rw[aB];omega) O ?_);intro a t d g f;have p:Bs t base a (l++qE (n/128^j)):=by rw[F.o,<-List.append_assoc];unfold Bs;rw[bV];exact d
  have r:=aF h g c;have q:=yL c f z;clear d g f m h c;go_wp2;go_roundw
  case rel=>exact⟨j-1,O,by go_num,by rw[show j-1+1=j by omega];exact p,r,q⟩
  case measure=>simp[intOf];omega
 obtain rfl:j=0:=O;go_wp2_with (at_builtin;refine lA rfl (.tmp 24) (.tmp 28) 34 rfl base 5 (.int .u8 0) 1 Tryz.underlying34 bJ rfl _ _ _ _ (congrArg (Value.int .u8) (sU n)) rfl m rfl rfl (by rw[aB];omega) (by rw[aB];omega) O ?_);intro a t d g f;have r:=aF h g c;have q:=yL c f z;have p:Bs t base a (l++enc n):=by
  unfold Bs enc;rw[<-List.append_assoc,bV];exact d
 clear d g f m h c;go_wp2;go_ret;exact⟨a,rfl,p,r,q⟩
theorem bU4(n:Int)(w:World)(h:n<0):
  Calls Tryz.prog 115 #[n] w fun e a =>e=.returned (.tuple #[.slice none 0 0,.int .i64 1])∧w=a :=by
 go_enter Tryz.func115,Tryz.ntmps115;go_wp2;go_ret2;exact⟨rfl,rfl⟩
theorem aT1(n:Nat)(w:World)(h:n<=9223372036854775807):
  Calls Tryz.prog 115 #[n] w fun e b =>∃v,e=.returned (.tuple #[v,.int .i64 0])∧Bs b w v (enc n)∧Below w w b :=by
 go_enter Tryz.func115,Tryz.ntmps115;go_wp2_with fail;refine(aJ8 (.slice none 0 0) [] n w w O σ (lR _) (Own.nil _ _ _)).mono ?_;rintro e f ⟨v,rfl,c,a,_⟩;have d:=fD a;clear a;go_wp2;go_ret2;exact⟨v,rfl,c,d⟩
theorem cA1(n:Nat)(M:Int)(b:M=(n:Int))(w:World)(h:n<=9223372036854775807):
  Calls Tryz.prog 115 #[M] w fun e a =>∃v,e=.returned (.tuple #[v,.int .i64 0])∧Bs a w v (enc n)∧Below w w a :=by
 subst b;exact aT1 n w h
abbrev Tk (w:World) (g:Nat) (a e:Int) (s:Value):Prop:=aS w g 220 #[a,e,s]
theorem eV{w:World}{g:Nat}{a e:Int}{s:Value}(h:Tk w g a e s):
  w.cell? (g,0)=some (.int .i64 a)∧w.cell? (g,1)=some (.int .i64 e)∧w.cell? (g,2)=some s∧w.frozen? (g,0)=false∧w.frozen? (g,1)=false:=
 ⟨h.cell 0,h.cell 1,h.cell 2,h.a6 0,h.a6 1⟩
theorem cB6(g:Nat)(a e n m:Int)(s:Value)(w:World)(h:Tk w g a e s)(c:e≠0):
  Calls Tryz.prog 205 #[(g,0),n,m] w fun b d =>b =.returned (.bool false)∧w=d :=by
 obtain⟨k,l,o,i,j⟩:=eV h;clear h;have f:(e==0)=false:=by simpa using c
 go_enter Tryz.func205,Tryz.ntmps205;go_wp2;go_ret;exact⟨rfl,rfl⟩
theorem bR5(g:Nat)(a n m:Int)(s:Value)(w:World)(h:Tk w g a 0 s)(p:m-a<n)(e:-4611686018427387904<=m-a)(f:m-a<=4611686018427387904):
  Calls Tryz.prog 205 #[(g,0),n,m] w fun d b =>d =.returned (.bool false)∧Tk b g a 3 s∧w.grownBy b (some g):=by
 obtain⟨k,l,o,i,j⟩:=eV h;have c:Tk (w.setCell (g,1) (.int .i64 3)) g a 3 s∧w.grownBy (w.setCell (g,1) (.int .i64 3)) (some g):=⟨h.b8 1 _,aA _ _ _ _⟩;clear h;go_enter Tryz.func205,Tryz.ntmps205;go_wp2;go_ret;exact⟨rfl,c⟩
theorem cA5(g:Nat)(a n m:Int)(s:Value)(w:World)(h:Tk w g a 0 s)(t:n<=m-a)(e:-4611686018427387904<=m-a)(f:m-a<=4611686018427387904)(i:0<=a)(j:0<=n)(k:m<=4611686018427387904):
  Calls Tryz.prog 205 #[(g,0),n,m] w fun d b =>d =.returned (.bool true)∧Tk b g (a+n) 0 s∧w.grownBy b (some g):=by
 obtain⟨p,q,r,l,o⟩:=eV h;have c:Tk (w.setCell (g,0) (.int .i64 (a+n))) g (a+n) 0 s∧w.grownBy (w.setCell (g,0) (.int .i64 (a+n))) (some g):=⟨h.b8 0 _,aA _ _ _ _⟩;clear h;go_enter Tryz.func205,Tryz.ntmps205;go_wp2;go_ret;exact⟨rfl,c⟩
theorem bL4(g:Nat)(a e c:Int)(b:Bool)(s:Value)(w:World)(h:Tk w g a e s)(d:e≠0):
  Calls Tryz.prog 211 #[(g,0),.bool b,c] w fun f i =>f =.returned (.bool true)∧w=i :=by
 obtain⟨n,o,p,l,m⟩:=eV h;clear h;have j:(e==0)=false:=by simpa using d
 have k:(e !=0)=true:=by simpa using d
 go_enter Tryz.func211,Tryz.ntmps211;go_wp2;go_ret;exact⟨rfl,rfl⟩
theorem rE(g:Nat)(a c:Int)(s:Value)(w:World)(h:Tk w g a 0 s):
  Calls Tryz.prog 211 #[(g,0),.bool false,c] w fun b d =>b =.returned (.bool false)∧w=d :=by
 obtain⟨i,j,k,e,f⟩:=eV h;clear h;go_enter Tryz.func211,Tryz.ntmps211;go_wp2;go_ret;exact⟨rfl,rfl⟩
theorem mP(g:Nat)(a c:Int)(s:Value)(w:World)(h:Tk w g a 0 s)(f:c≠0):
  Calls Tryz.prog 211 #[(g,0),.bool true,c] w fun e b =>e =.returned (.bool true)∧Tk b g a c s∧w.grownBy b (some g):=by
 obtain⟨l,m,n,j,k⟩:=eV h;have d:Tk (w.setCell (g,1) c) g a c s∧w.grownBy (w.setCell (g,1) c) (some g):=⟨h.b8 1 _,aA _ _ _ _⟩;clear h;have i:(c !=0)=true:=by simpa using f
 go_enter Tryz.func211,Tryz.ntmps211;go_wp2;go_ret;exact⟨rfl,d⟩
def aB5(a e:Int):Int:=if e=0 then a else 0
theorem aT2(g:Nat)(a e:Int)(s:Value)(w:World)(h:Tk w g a e s):
  Calls Tryz.prog 187 #[(g,0)] w fun c d =>c =.returned (.int .i64 (aB5 a e))∧d =w:=by
 obtain⟨k,l,m,i,j⟩:=eV h;clear h;by_cases b:e=0
 ·subst b
  rw[show aB5 a 0=a from rfl];go_enter Tryz.func187,Tryz.ntmps187;go_wp2;go_ret;exact⟨rfl,rfl⟩
 have f:(e !=0)=true:=by simpa using b
 rw[show aB5 a e=0 from if_neg b];go_enter Tryz.func187,Tryz.ntmps187;go_wp2;go_ret;exact⟨rfl,rfl⟩
section
variable{P:Program}{ops:Array Oper}{md:Region.Mode}{C:World->Prop}
def bM7(P:Program)(md:Region.Mode)(ops:Array Oper)(C:World->Prop)(n:Nat)(L:Array Bool->Act->Prop):Nat->Array Bool->Act->Prop
 |0,listed,a=>L listed a
 |f+1,listed,a=>Region.ready md ops listed≠[]∧∀i∈Region.ready md ops listed,i<n∧qOp P ops C i (bM7 P md ops C n L f (listed.setIfInBounds i true)) a
theorem vM{n g:Nat}{L:Array Bool->Act->Prop}{Q' :Exit->Act->World->Prop}(d:∀b a w,C w->L b a->wpAny P md ops Q' g b a w):
  ∀(f:Nat) (b:Array Bool) (a:Act) (w:World),C w->bM7 P md ops C n L f b a->wpAny P md ops Q' (f+g) b a w
 |0,b,a,w,hw,h=>by rw[Nat.zero_add];exact d _ _ _ hw h
 |f+1,b,a,w,hw,h=>by
  rw[show f+1+g=(f+g)+1 by omega];exact⟨fun k=>absurd k h.1,fun i l=>wpOp_of_qOp hw (fun e m c j =>vM d f _ e m c j) (h.2 i l).2⟩
theorem aU4{n i:Nat}{oi:Oper}{v:Value}{L:Array Bool->Act->Prop}(hi:ops[i]? =some oi)(D:∀(j:Nat) (o:Oper) cs b,ops[j]? =some o->o.op≠.select cs b)
  (I:Region.sinkB md ops n=true) (F:Region.chainB md ops n=true) (G:n<ops.size) (K:i<n)
  (Q:∀a8 a,L a8 a->∀j∈Region.ready md ops a8,n<=j):
  ∀(f:Nat) (a8:Array Bool) (a:Act),HeadInv md ops n a8→
   (∀j l,ops[j]? =some l->j≠i->a8.getD j true=false->(∀e∈l.after,Region.binds md e=true->e.on≠i)->oi.apart ops l=true)→
   i∈Region.ready md ops a8->YieldsIn P ops C oi v a→
   bM7 P md ops C n L f (a8.setIfInBounds i true) (a.put oi.dst v)->bM7 P md ops C n L (f+1) a8 a:=by
 intro f;induction f with
 |zero=>
  intro a8 a u _ d s H;refine⟨fun h=>(by rw[h] at d;cases d),fun j g=>?_⟩;have t:j<n:=by
   rcases Nat.lt_or_ge j n with h|h
   exact h;exact absurd g (tail_waits I F G u _ i rfl K (mem_ready.1 d).1 j h)
  refine⟨t,?_⟩;by_cases c:j=i;subst c;exact s.qOp hi H;have:=Q _ _ H j (ready_mono g c);omega
 |succ f ih=>
  intro a8 a u A d s H;have m:=(mem_ready.1 d).1;refine⟨fun h=>(by rw[h] at d;cases d),fun j g=>?_⟩;have t:j<n:=by
   rcases Nat.lt_or_ge j n with h|h
   exact h;exact absurd g (tail_waits I F G u _ i rfl K m j h)
  refine⟨t,?_⟩;by_cases c:j=i;subst c;exact s.qOp hi H;have r:=(H.2 j (ready_mono g c)).2;obtain⟨B,l,z,V⟩:=mem_ready.1 g;have W:∀e∈l.after,Region.binds md e=true->e.on≠i:=fun e T S w=>by
   have r:=V e T S;rw[w,getD_both m] at r;cases r
  have R:=qOp_put z (A j l z c B W) (fun cs b=>D i oi cs b hi) (fun cs b=>D j l cs b z) s r;have N:∀k q,ops[k]? =some q->k≠i->(a8.setIfInBounds j true).getD k true=false→
    (∀e∈q.after,Region.binds md e=true->e.on≠i)->oi.apart ops q=true:=fun k q U x m y=>by
   refine A k q U x ?_ y;by_cases p:j=k;subst p;exact B;rw[getD_set_ne true p] at m;exact m
  refine qOp_mono (fun M E=>ih (a8.setIfInBounds j true) M (u.set g t) N (ready_mono d (Ne.symm c)) E.1 ?_) R;rw[Array.setIfInBounds_comm _ _ c];exact E.2
theorem aM3{n g:Nat}{m:Act->Prop}(d:Region.noSelect ops=true)(u:Region.sinkB md ops n=true)(s:Region.chainB md ops n=true)(t:n<ops.size):
  ∀(l:List Oper) (k:Nat) (b:Array Bool) (a:Act),(∀j,j<l.length->l[j]? =ops[k+j]?)->k+l=n->HeadInv md ops n b→
  Region.lexHead md ops g l k b=true->wpQuiet P ops C m l a→
  bM7 P md ops C n (fun c r =>Region.seqB md ops g n c =true∧m r) l b a
 |[],k,b,a,_,hk,_,hB,h=>by
  have:k=n:=by simpa using hk
  subst this;exact⟨by simpa[Region.lexHead] using hB,h⟩
 |o::l,k,b,a,hl,hk,inv,hB,h=>by
  have i:ops[k]? =some o:=by simpa using(hl 0 σ).symm
  simp only[mC,Region.lexHead,Bool.and_eq_true] at hB;obtain⟨⟨z,y⟩,p⟩:=hB;have e:k<n:=by simp only[mC] at hk;omega
  have f :k∈Region.ready md ops b:=by simpa using z
  have q:qOp P ops C k (wpQuiet P ops C m l) a:=by unfold qOp;simp only[i];exact h
  obtain⟨v,A,w⟩:=yieldsIn_of_qOp i q;exact aU4 i (Region.noSelect_spec d) u s t e (fun c r x=>seqB_ready x.1) l b a inv (Region.free_spec i y) f A
   (aM3 d u s t l (k+1) _ _ (fun j B=>by have:=hl (j+1) θ;simpa[Nat.add_assoc,Nat.add_comm 1 j] using this) (by simp only[mC] at hk;omega) (inv.set f e) p w)
theorem bB{B:Nat}{Q:Exit->Act->World->Prop}{a:Act}{w:World}{l:List Oper}(n:Nat)(y:P.follows .mixedOrders=true)(k:Region.lexTailB .any l.toArray n=true)
  (h:wpQuiet P l.toArray (fun c =>∃n,c =w.drewN n) (fun e =>∀c,(∃n,c =w.drewN n)->wpList P l.toArray Q (l.drop n) e c) (l.take n) a):(Code.region B l.toArray true).wp P Q a w:=by
 simp only[Region.lexTailB,Bool.and_eq_true,decide_eq_true_eq] at k;obtain⟨⟨⟨⟨s,q⟩,z⟩,x⟩,r⟩:=k;have C:n<l:=by simpa using q
 have d:(l.take n).length=n:=by simp;omega
 have i:(l.drop n).length=l.toArray.size-n:=by simp
 have u:HeadInv .any l.toArray n (Array.replicate l.toArray.size false):=
  ⟨σ,fun j D _ p=>(by rw[getD_replicate_false] at p;cases p),fun t _ A=>getD_in (by simpa using A) (getD_replicate_false _ _)⟩
 have H:=aM3 (md:=.any) (g:=l.toArray.size-n) s z x q (l.take n) 0 _ a (fun j o=>by
  have v:j<n:=by rw[d] at o;exact o
  simp[v]) (by simpa using d) u (by rw[d];exact r) h
 refine wp_region_any y ?_;have:=vM (Q' :=Q) (g:=l.toArray.size-n) (fun b e c f m=>by
  have:=wpAny_of_seq (md:=.any) (Q' :=Q) (l.drop n) n b e c (fun j=>by simp[List.getElem?_drop]) (by rw[i];exact m.1) (m.2 c f);rwa[i] at this) _ _ _ w.drew ⟨1,rfl⟩ H
 rw[d,show n+(l.toArray.size-n)=l.toArray.size by omega] at this;exact this
end
theorem aM2(x:UInt8):bits .andNot .u8 (x.toNat:Int) 128=((x.toNat %128:Nat):Int):=by
 have h:=sU x.toNat;have hx:=x.toNat_lt;rw[show((x.toNat:Int) %256)=x.toNat by omega] at h;rw[h,aX4,gO _ O]
theorem cB1(m:Nat)(a:m<2^64):bits .and .u64 (m:Int) 127=((m %128:Nat):Int):=by
 have:=u64_and_nat m 127 O O;rw[show((127:Nat):Int)=127 from rfl] at this;rw[this]
 congr 1
 rw[show(127:Nat)=2^7-1 from rfl,Nat.and_two_pow_sub_one_eq_mod]
theorem xU(k d:Nat)(c:k<2^57)(b:d<128):bits .or .u64 ((k:Int)*128) (d:Int)=((k*128+d:Nat):Int):=by
 have:=u64_or_nat (k*128) d O O;rw[show((k*128:Nat):Int)=(k:Int)*128 by simp] at this;rw[this]
 congr 1
 have a:=Nat.two_pow_add_eq_or_of_lt (i:=7) b k;rw[show(2:Nat)^7=128 from rfl] at a;rw[Nat.mul_comm k 128,<-a]
def bad(m i k:Nat)(x:UInt8):Bool:=((i==0)&&x==128)||decide (m/128<k)||(decide (k=m/128)&&decide (m %128<x.toNat %128))
theorem oT(m i k:Nat)(x:UInt8)(r:List UInt8):tkc m (i==0) k i (x::r)=if bad m i k x then(0,i+1,4) else if x.toNat<128 then(k*128+x.toNat %128,i+1,0) else tkc m (i+1==0) (k*128+x.toNat %128) (i+1) r:=by
 rw[tkc];rfl
section
variable{a m i k d c g:Nat}{x:UInt8}{l:List UInt8}{w w3:World}{s:Value}
theorem cA4(m k:Nat)(hi:i=0)(hx:x.toNat=128):bad m i k x=true:=by
 have:x=128:=UInt8.toNat_inj.1 hx;subst this;subst hi;simp[bad]
theorem bB8(i:Nat)(x:UInt8)(h:m/128<k):bad m i k x=true:=by simp[bad,h]
theorem bB7(i:Nat)(h:m/128=k)(a:m %128<x.toNat %128):bad m i k x=true:=by simp[bad,h,a]
theorem pY(a:i≠0∨x.toNat≠128)(e:k<=m/128)(d:m/128=k->x.toNat %128<=m %128):bad m i k x=false:=by
 have hx:i=0->¬x=128:=by
  rintro b rfl;rcases a with a|a
  exact a b;exact a rfl
 simp only[bad,Bool.or_eq_false_iff,Bool.and_eq_false_iff,decide_eq_false_iff_not,mN];refine⟨⟨?_,O⟩,?_⟩;by_cases b:i=0;exact .inr (hx b);exact .inl b;by_cases c:k=m/128;have:=d c.symm;exact .inr O;exact .inl c
theorem bM9(h:bad m i k x=false):k*128+x.toNat %128<=m:=by
 simp only[bad,Bool.or_eq_false_iff,Bool.and_eq_false_iff,decide_eq_false_iff_not] at h;omega
theorem tA(e:Hq (tkc m true 0 0 (l.drop a)=tkc m (i==0) k i (l.drop (a+i))))(c:l.drop (a+i)=x::l.drop (a+i+1))(b:bad m i k x=true)
  (f:Tk w3 g (a+i+1:Nat) 4 s) (d:w.grownBy w3 (some g)):
  Ending.returned (.int .u64 0)=.returned (.int .u64 (tkc m true 0 0 (l.drop a)).1)∧Tk w3 g (a+(tkc m true 0 0 (l.drop a)).2.1:Nat) (tkc m true 0 0 (l.drop a)).2.2 s∧w.grownBy w3 (some g):=by
 rw[e.o,c,oT,if_pos b];exact⟨rfl,f,d⟩
theorem tK{X:Int}(h:Hq (tkc m true 0 0 (l.drop a)=tkc m (i==0) k i (l.drop (a+i))))(e:l.drop (a+i)=x::l.drop (a+i+1))(c:bad m i k x=false)(hx:x.toNat<128)
  (a8:d=x.toNat %128) (b:X=(k*128+d:Nat)) (j:Tk w3 g (a+i+1:Nat) 0 s) (f:w.grownBy w3 (some g)):
  Ending.returned (.int .u64 X)=.returned (.int .u64 (tkc m true 0 0 (l.drop a)).1)∧Tk w3 g (a+(tkc m true 0 0 (l.drop a)).2.1:Nat) (tkc m true 0 0 (l.drop a)).2.2 s∧w.grownBy w3 (some g):=by
 rw[h.o,e,oT,if_neg (by rw[c];exact Bool.false_ne_true),if_pos hx];exact⟨by rw[b,a8],j,f⟩
theorem pG{X:Int}(n:Hq (tkc m true 0 0 (l.drop a)=tkc m (i==0) k i (l.drop (a+i))))(h:l.drop (a+i)=x::l.drop (a+i+1))(e:bad m i k x=false)(hx:¬x.toNat<128)
  (a8:d=x.toNat %128) (f:X=(k*128+d:Nat)) (p:Tk w3 g (a+i+1:Nat) 0 s) (j:w.grownBy w3 (some g)) (q:a+i<l):
  ∃b c :Nat,a+b <=l∧Value.int .u64 X=.int .u64 c ∧c <=m∧Tk w3 g (a+b :Nat) 0 s∧w.grownBy w3 (some g)∧Hq (tkc m true 0 0 (l.drop a)=tkc m (b ==0) c b (l.drop (a+b))):=by
 refine⟨i+1,k*128+d,O,by rw[f],by rw[a8];exact bM9 e,p,j,?_⟩;show tkc m true 0 0 (l.drop a)=_
 rw[n.o,h,oT,if_neg (by rw[e];exact Bool.false_ne_true),if_neg hx,a8];rfl
theorem lG{wr:World}(c:w3.cell? (g,0)=some (.int .i64 (a+i+1:Nat)))(b:Hq (wr.cell? (g,0)=some (.int .i64 (a+i:Nat))))(a8:a+i<l):
  l.length-(intOf ((w3.cell? (g,0)).getD undef)).toNat<l-(intOf ((wr.cell? (g,0)).getD undef)).toNat:=by
 rw[c,b.o];simp[intOf];omega
end
theorem bE4(g:Nat)(a m:Nat)(A:Option Addr)(l:List UInt8)(c:Nat)(w:World)(h:Tk w g a 0 (.slice A l c))(hm:m<2^64)(ha:a<=l)(hl:l.length<=4611686018427387904)
  (hr:Rd w g A (cells l)):
  Calls Tryz.prog 186 #[(g,0),.int .u64 m] w fun e' w' =>e' =.returned (.int .u64 (tkc m true 0 0 (l.drop a)).1)∧
   Tk w' g (a+(tkc m true 0 0 (l.drop a)).2.1:Nat) (tkc m true 0 0 (l.drop a)).2.2 (.slice A l c)∧w.grownBy w' (some g):=by
 have D:=J hm;clear hm;have m7:Tk w g (a+0:Nat) 0 (.slice A l c):=h;have m5:Hq (tkc m true 0 0 (l.drop a)=tkc m ((0:Nat)==0) 0 0 (l.drop (a+0))):=J rfl;obtain⟨Y,h1,h2,f0,f1⟩:=eV h;go_enter Tryz.func186,Tryz.ntmps186;go_wp2_with fail;go_quiet (fail);go_wp2_with fail;go_loopw [5,7,8] (fun n x y wr=>∃i k:Nat,a+i<=l∧n=.int .u64 k∧k<=m∧Tk wr g (a+i:Nat) 0 (.slice A l c)∧w.grownBy wr (some g)∧Hq (tkc m true 0 0 (l.drop a)=tkc m (i==0) k i (l.drop (a+i)))) (fun _ _ _ wr=>l.length-(intOf ((wr.cell? (g,0)).getD undef)).toNat)
 case atStart=>exact⟨0,0,O,rfl,O,m7,iF (World.grownBy.refl _ _) _,m5⟩
 obtain⟨i,k,hi,rfl,hk,W,Z,s⟩:=hrel;obtain⟨Y,h1,h2,f0,f1⟩:=eV W;by_cases q:a+i<l;rotate_left
 ·have n8:l<=a+i:=O
  have S:∀n,Tk (wr.drewN n) g (a+i:Nat) 0 (.slice A l c):=fun _=>W
  go_wp2_with fail;refine bB 8 κ κ ?_;simp only[List.take_succ_cons,List.take_zero,List.drop_succ_cons,List.drop_zero]
  iterate 8 go_big_quiet_step (fail)
  refine wpQuiet_nil ?_;rintro _ ⟨f,rfl⟩;go_wp2_with fail;refine(bR5 g (a+i:Nat) 1 l _ _ (S _) O O O).mono ?_;rintro e X ⟨rfl,R,V⟩;go_wp2;go_ret;have Q:=List.drop_eq_nil_of_le n8;rw[s.o,Q];exact⟨rfl,R,aF Z (fE V) (.inl rfl)⟩
 obtain⟨G,rfl,n9,i4⟩:=iR hr q;obtain⟨x,hx⟩:=eX (l[a+i]);have t:l.drop (a+i)=x::l.drop (a+i+1):=by rw[hx];exact List.drop_eq_getElem_cons q
 rw[<-hx] at i4;have o9:=x.toNat_lt;clear hx;have S:∀n,Tk (wr.drewN n) g (a+i:Nat) 0 (.slice (some G) l c):=fun _=>W
 obtain⟨d,Q⟩:=eX (x.toNat %128);have U:d<128:=O;have m9:bits .andNot .u8 (x.toNat:Int) 128=(d:Int):=by rw[aM2,Q]
 have m8:=cB1 m D.o;have v:=J Q;clear Q;go_wp2_with fail;refine bB 8 κ κ ?_;simp only[List.take_succ_cons,List.take_zero,List.drop_succ_cons,List.drop_zero]
 iterate 8 go_big_quiet_step (fail)
 refine wpQuiet_nil ?_;rintro _ ⟨f,rfl⟩;go_wp2_with fail;refine(cA5 g (a+i:Nat) 1 l _ _ (S _) O O O O O O).mono ?_;rintro e X ⟨rfl,R,V⟩;have m3:=aF Z (fE V) (.inl rfl);obtain⟨q0,q1,q2,q3,q4⟩:=eV R;have n5:X.cell? (G.add (a+i))=some (.int .u8 (x.toNat:Int)):=by
  refine(mK (w:=w) ?_).trans i4;rw[bK];exact m3.block G.block (ω1 h.lt) θ
 have l9:=J Y;clear Y h1 h2 f0 f1 W S Z V i4;go_wp2_with fail;go_quiet (fail);go_wp2_with fail;have r:Tk (X.drewN nq) g (a+i+1:Nat) 0 (.slice (some G) l c):=R;have C:=iF m3 nq;clear R m3 q0 q1 q2 q3 q4 n5;generalize X.drewN nq=w2 at r C⊢;obtain⟨q0,q1,q2,q3,q4⟩:=eV r;have T:=l9;have o8:IntKind.i64.wrap ((a:Int)+1)=a+1:=mH _ O;rcases Nat.eq_zero_or_pos i with N|N
 rotate_left
 ·have g1:((a:Int)+i+1==a+1)=false:=by simp;omega
  have M:=J N;have P:=M;rcases Nat.lt_trichotomy (m/128) k with u|u|u
  ·have I:¬((k:Int)<=(m:Int)/128):=O
   have K:(m:Int)/128<k:=O;have p:=J (bB8 i x u);refine bB 33 κ κ ?_;simp only[List.take_succ_cons,List.take_zero,List.drop_succ_cons,List.drop_zero]
   iterate 33 go_big_quiet_step (fail)
   refine wpQuiet_nil ?_;rintro _ ⟨f,rfl⟩;go_wp2_with fail;refine(mP g (a+i+1:Nat) 4 _ _ (r.drewN f) O).mono ?_;rintro e H ⟨rfl,j,F⟩;go_wp2;go_ret;exact tA s t p.o j (aF C (fE F) (.inl rfl))
  ·rcases Nat.lt_or_ge (m %128) d with L|L
   ·have I:¬((d:Int)<=(m:Int) %128):=O
    have K:(m:Int) %128<d:=O;have p:=J (bB7 i u (by rw[<-v.o];exact L));subst u;refine bB 33 κ κ ?_;simp only[List.take_succ_cons,List.take_zero,List.drop_succ_cons,List.drop_zero]
    iterate 33 go_big_quiet_step (fail)
    refine wpQuiet_nil ?_;rintro _ ⟨f,rfl⟩;go_wp2_with fail;refine(mP g (a+i+1:Nat) 4 _ _ (r.drewN f) O).mono ?_;rintro e H ⟨rfl,j,F⟩;go_wp2;go_ret;exact tA s t p.o j (aF C (fE F) (.inl rfl))
   have I:(d:Int)<=(m:Int) %128:=O;have K:¬(m:Int) %128<d:=O;have p:=J (pY (m:=m) (i:=i) (k:=k) (x:=x) (ω2 M.o P.o) O (by intro _;rw[<-v.o];exact L));subst u;refine bB 33 κ κ ?_;simp only[List.take_succ_cons,List.take_zero,List.drop_succ_cons,List.drop_zero]
   iterate 33 go_big_quiet_step (fail)
   refine wpQuiet_nil ?_;rintro _ ⟨f,rfl⟩;go_wp2_with fail;refine(rE g (a+i+1:Nat) 4 _ _ (r.drewN f)).mono ?_;rintro e H ⟨rfl,rfl⟩;have B:=J (xU (m/128) d (ω1 D.o) U);have j:Tk (w2.drewN f) g (a+i+1:Nat) 0 (.slice (some G) l c):=r.drewN f;have z:=iF C f;have m6:m/128<=144115188075855871:=ω1 D.o;by_cases b:x.toNat<128
   ·go_wp2
    go_ret;exact tK s t p.o b v.o B.o j z
   go_wp2;go_roundw
   case rel=>exact pG s t p.o b v.o B.o j z q
   case measure=>exact lG (j.cell 0) T q
  have I:((k:Int)<=(m:Int)/128):=O;have K:¬(m:Int)/128<k:=O;have e3:¬((k:Int)=(m:Int)/128):=O;have e4:((k:Int)==(m:Int)/128)=false:=by simp;omega
  have p:=J (pY (m:=m) (i:=i) (k:=k) (x:=x) (ω2 M.o P.o) O O);refine bB 33 κ κ ?_;simp only[List.take_succ_cons,List.take_zero,List.drop_succ_cons,List.drop_zero]
  iterate 33 go_big_quiet_step (fail)
  refine wpQuiet_nil ?_;rintro _ ⟨f,rfl⟩;go_wp2_with fail;refine(rE g (a+i+1:Nat) 4 _ _ (r.drewN f)).mono ?_;rintro e H ⟨rfl,rfl⟩;have B:=J (xU k d (ω1 D.o) U);have j:Tk (w2.drewN f) g (a+i+1:Nat) 0 (.slice (some G) l c):=r.drewN f;have z:=iF C f;have m6:k<=144115188075855871:=ω1 D.o;by_cases b:x.toNat<128
  ·go_wp2
   go_ret;exact tK s t p.o b v.o B.o j z
  go_wp2;go_roundw
  case rel=>exact pG s t p.o b v.o B.o j z q
  case measure=>exact lG (j.cell 0) T q
 have g1:((a:Int)+i+1==a+1)=true:=by simp;omega
 have M:=J N;by_cases E:x.toNat=128
 ·have g3:((x.toNat:Int)==128)=true:=by simp;omega
  have p:=J (cA4 m k N E);clear N E;refine bB 33 κ κ ?_;simp only[List.take_succ_cons,List.take_zero,List.drop_succ_cons,List.drop_zero]
  iterate 33 go_big_quiet_step (fail)
  refine wpQuiet_nil ?_;rintro _ ⟨f,rfl⟩;go_wp2_with fail;refine(mP g (a+i+1:Nat) 4 _ _ (r.drewN f) O).mono ?_;rintro e H ⟨rfl,j,F⟩;go_wp2;go_ret;exact tA s t p.o j (aF C (fE F) (.inl rfl))
 have g3:((x.toNat:Int)==128)=false:=by simp;omega
 have P:=J E;clear N E;rcases Nat.lt_trichotomy (m/128) k with u|u|u
 ·have I:¬((k:Int)<=(m:Int)/128):=O
  have K:(m:Int)/128<k:=O;have p:=J (bB8 i x u);refine bB 33 κ κ ?_;simp only[List.take_succ_cons,List.take_zero,List.drop_succ_cons,List.drop_zero]
  iterate 33 go_big_quiet_step (fail)
  refine wpQuiet_nil ?_;rintro _ ⟨f,rfl⟩;go_wp2_with fail;refine(mP g (a+i+1:Nat) 4 _ _ (r.drewN f) O).mono ?_;rintro e H ⟨rfl,j,F⟩;go_wp2;go_ret;exact tA s t p.o j (aF C (fE F) (.inl rfl))
 ·rcases Nat.lt_or_ge (m %128) d with L|L
  ·have I:¬((d:Int)<=(m:Int) %128):=O
   have K:(m:Int) %128<d:=O;have p:=J (bB7 i u (by rw[<-v.o];exact L));subst u;refine bB 33 κ κ ?_;simp only[List.take_succ_cons,List.take_zero,List.drop_succ_cons,List.drop_zero]
   iterate 33 go_big_quiet_step (fail)
   refine wpQuiet_nil ?_;rintro _ ⟨f,rfl⟩;go_wp2_with fail;refine(mP g (a+i+1:Nat) 4 _ _ (r.drewN f) O).mono ?_;rintro e H ⟨rfl,j,F⟩;go_wp2;go_ret;exact tA s t p.o j (aF C (fE F) (.inl rfl))
  have I:(d:Int)<=(m:Int) %128:=O;have K:¬(m:Int) %128<d:=O;have p:=J (pY (m:=m) (i:=i) (k:=k) (x:=x) (ω2 M.o P.o) O (by intro _;rw[<-v.o];exact L));subst u;refine bB 33 κ κ ?_;simp only[List.take_succ_cons,List.take_zero,List.drop_succ_cons,List.drop_zero]
  iterate 33 go_big_quiet_step (fail)
  refine wpQuiet_nil ?_;rintro _ ⟨f,rfl⟩;go_wp2_with fail;refine(rE g (a+i+1:Nat) 4 _ _ (r.drewN f)).mono ?_;rintro e H ⟨rfl,rfl⟩;have B:=J (xU (m/128) d (ω1 D.o) U);have j:Tk (w2.drewN f) g (a+i+1:Nat) 0 (.slice (some G) l c):=r.drewN f;have z:=iF C f;have m6:m/128<=144115188075855871:=ω1 D.o;by_cases b:x.toNat<128
  ·go_wp2
   go_ret;exact tK s t p.o b v.o B.o j z
  go_wp2;go_roundw
  case rel=>exact pG s t p.o b v.o B.o j z q
  case measure=>exact lG (j.cell 0) T q
 have I:((k:Int)<=(m:Int)/128):=O;have K:¬(m:Int)/128<k:=O;have e3:¬((k:Int)=(m:Int)/128):=O;have e4:((k:Int)==(m:Int)/128)=false:=by simp;omega
 have p:=J (pY (m:=m) (i:=i) (k:=k) (x:=x) (ω2 M.o P.o) O O);refine bB 33 κ κ ?_;simp only[List.take_succ_cons,List.take_zero,List.drop_succ_cons,List.drop_zero]
 iterate 33 go_big_quiet_step (fail)
 refine wpQuiet_nil ?_;rintro _ ⟨f,rfl⟩;go_wp2_with fail;refine(rE g (a+i+1:Nat) 4 _ _ (r.drewN f)).mono ?_;rintro e H ⟨rfl,rfl⟩;have B:=J (xU k d (ω1 D.o) U);have j:Tk (w2.drewN f) g (a+i+1:Nat) 0 (.slice (some G) l c):=r.drewN f;have z:=iF C f;have m6:k<=144115188075855871:=ω1 D.o;by_cases b:x.toNat<128
 ·go_wp2
  go_ret;exact tK s t p.o b v.o B.o j z
 go_wp2;go_roundw
 case rel=>exact pG s t p.o b v.o B.o j z q
 case measure=>exact lG (j.cell 0) T q
theorem tS:(9223372036854775807:Int)=(maxI:Int):=rfl
theorem bC8:(18446744073709551615:Int)=(maxU:Int):=rfl
theorem tT:maxI<2^64:=by decide
theorem bC9:maxU<2^64:=by decide
theorem pZ(g a m:Nat)(M:Int)(e:M=(m:Int))(A:Option Addr)(l:List UInt8)(c:Nat)(w:World)(h:Tk w g a 0 (.slice A l c))(j:m<2^64)(f:a<=l)(i:l.length<=4611686018427387904)
  (k:Rd w g A (cells l)):
  Calls Tryz.prog 186 #[(g,0),.int .u64 M] w fun d b =>d =.returned (.int .u64 (cnt m (l.drop a)).1)∧
   Tk b g (a+(cnt m (l.drop a)).2.1:Nat) (cnt m (l.drop a)).2.2 (.slice A l c)∧w.grownBy b (some g):=by
 subst e;exact bE4 g a m A l c w h j f i k
theorem aB4(w:World)(s:Value):Tk (w.alloc (.cells #[.int .i64 0,.int .i64 0,s] 220)) w 0 0 s:=aS.new _ _ _
theorem oB{w w1:World}{o:Obj}(h:(w.alloc o).grownBy w1 (some w)):Below w w w1:=
 ((lS _ w).alloc (lR _) o).trans ⟨h.os,h.tape,h.output,h.size,fun k a=>h.block k θ θ⟩
theorem xF(a:Nat)(e:Int):aB5 (a:Int) e=((if e=0 then a else 0:Nat):Int):=by
 unfold aB5;split<;>rfl
theorem lK(A:Option Addr)(l:List UInt8)(c:Nat)(w:World)(g:Rd w w A (cells l))(f:l.length<=4611686018427387904):
  Calls Tryz.prog 150 #[.slice A l c] w fun e h =>e=.returned (.tuple #[.int .i64 (aC maxI l).1,.int .i64 (aC maxI l).2.1,.int .i64 (aC maxI l).2.2])∧Below w w h :=by
 go_enter Tryz.func150,Tryz.ntmps150;go_wp2_with fail;refine(pZ w 0 maxI _ tS A l c _ (aB4 _ _) tT O f (g.alloc (lR _) _)).mono ?_;rintro e p ⟨rfl,a,b⟩;have d:=oB b;rw[List.drop_zero,Nat.zero_add] at a;rw[List.drop_zero];have i:(cnt maxI l).1<=9223372036854775807:=aI2 maxI l;obtain⟨m,n,o,j,k⟩:=eV a;clear b;go_wp2_with fail;go_quiet ((go_at_call 187;exact Calls.quiet_of_same (aT2 _ _ _ _ _ (a.drewN _))));go_wp2;go_ret3;exact⟨cC2 rfl (congrArg (Value.int .i64) (xF _ _)) rfl,aD d _⟩
theorem aO9(u:Nat)(f:u<=maxU):bits .xor .i64 (wrap64 ((u:Int)/2)) (wrap64 (-wrap64 (bits .and .u64 (u:Int) 1)))=bX u:=by
 have g:u<=18446744073709551615:=f;have d:bits .and .u64 (u:Int) 1=((u %2:Nat):Int):=by
  have:=u64_and_nat u 1 O O;rw[show((1:Nat):Int)=1 from rfl] at this;rw[this,Nat.and_one_is_mod]
 have e:wrap64 ((u:Int)/2)=((u/2:Nat):Int):=by
  rw[IntWalk.wrap64_in _ ⟨O,O⟩];omega
 rw[d,e];have c:(BitVec.ofInt 64 ((u/2:Nat):Int)).toNat=u/2:=by
  rw[BitVec.ofInt_natCast,BitVec.toNat_ofNat];exact Nat.mod_eq_of_lt O
 rcases Nat.mod_two_eq_zero_or_one u with h|h
 rw[h];have a:wrap64 (-wrap64 ((0:Nat):Int))=0:=by unfold wrap64;decide
 rw[a];show IntKind.i64.wrap ((BitVec.ofInt 64 ((u/2:Nat):Int)^^^BitVec.ofInt 64 0).toNat:Int)=_
 have b:BitVec.ofInt 64 ((u/2:Nat):Int)^^^BitVec.ofInt 64 0=BitVec.ofInt 64 ((u/2:Nat):Int):=by
  rw[show BitVec.ofInt 64 0=0#64 from rfl,BitVec.xor_zero]
 rw[b,c,IntKind.wrap_i64,bX,if_pos h];omega;rw[h];have a:wrap64 (-wrap64 ((1:Nat):Int))=-1:=by unfold wrap64;decide
 rw[a];show IntKind.i64.wrap ((BitVec.ofInt 64 ((u/2:Nat):Int)^^^BitVec.ofInt 64 (-1)).toNat:Int)=_
 have b:BitVec.ofInt 64 ((u/2:Nat):Int)^^^BitVec.ofInt 64 (-1)= ~~~ (BitVec.ofInt 64 ((u/2:Nat):Int)):=by
  rw[show BitVec.ofInt 64 (-1)=BitVec.allOnes 64 from rfl,BitVec.xor_allOnes]
 rw[b,BitVec.toNat_not,c,IntKind.wrap_i64,bX,if_neg O];omega
theorem aX6(g a:Nat)(A:Option Addr)(l:List UInt8)(c:Nat)(w:World)(h:Tk w g a 0 (.slice A l c))(j:a<=l)(m:l.length<=4611686018427387904)(n:Rd w g A (cells l)):
  Calls Tryz.prog 189 #[(g,0)] w fun i b =>i =.returned (.int .i64 (bX (cnt maxU (l.drop a)).1))∧
   Tk b g (a+(cnt maxU (l.drop a)).2.1:Nat) (cnt maxU (l.drop a)).2.2 (.slice A l c)∧w.grownBy b (some g):=by
 go_enter Tryz.func189,Tryz.ntmps189;go_wp2_with fail;refine(pZ g a maxU _ bC8 A l c _ h bC9 j m n).mono ?_;rintro e p ⟨rfl,f,k⟩;have d:=J (aI2 maxU (l.drop a));go_wp2;go_ret;exact⟨bD0 (aO9 _ d.o),f,k⟩
theorem aS6(A:Option Addr)(l:List UInt8)(c:Nat)(w:World)(g:Rd w w A (cells l))(f:l.length<=4611686018427387904):
  Calls Tryz.prog 154 #[.slice A l c] w fun e h =>e=.returned (.tuple #[.int .i64 (bX (aC maxU l).1),.int .i64 (aC maxU l).2.1,.int .i64 (aC maxU l).2.2])∧Below w w h :=by
 go_enter Tryz.func154,Tryz.ntmps154;go_wp2_with fail;refine(aX6 w 0 A l c _ (aB4 _ _) O f (g.alloc (lR _) _)).mono ?_;rintro e o ⟨rfl,a,b⟩;have d:=oB b;rw[List.drop_zero,Nat.zero_add] at a;rw[List.drop_zero];obtain⟨k,m,n,i,j⟩:=eV a;clear b;go_wp2_with fail;go_quiet ((go_at_call 187;exact Calls.quiet_of_same (aT2 _ _ _ _ _ (a.drewN _))));go_wp2;go_ret3;exact⟨cC2 rfl (congrArg (Value.int .i64) (xF _ _)) rfl,aD d _⟩
def lenOf(m:Nat)(l:List UInt8):Nat×Int:=if(cnt maxI l).2.2=0 then(if m<(cnt maxI l).1 then(0,2) else((cnt maxI l).1,0)) else(0,(cnt maxI l).2.2)
theorem bH8(m:Nat)(l:List UInt8)(h:(cnt maxI l).2.2≠0):lenOf m l=(0,(cnt maxI l).2.2):=if_neg h
theorem aX2(m:Nat)(l:List UInt8)(h:(cnt maxI l).2.2=0)(a:m<(cnt maxI l).1):lenOf m l=(0,2):=by unfold lenOf;rw[if_pos h,if_pos a]
theorem bQ7(m:Nat)(l:List UInt8)(h:(cnt maxI l).2.2=0)(a:¬m<(cnt maxI l).1):lenOf m l=((cnt maxI l).1,0):=by unfold lenOf;rw[if_pos h,if_neg a]
theorem sG(g m:Nat)(A:Option Addr)(l:List UInt8)(c:Nat)(w:World)(h:Tk w g 0 0 (.slice A l c))(j:l.length<=4611686018427387904)(k:Rd w g A (cells l))(v:m<=65536):
  Calls Tryz.prog 204 #[(g,0),m] w fun t n =>t =.returned (.int .i64 (lenOf m l).1)∧
   Tk n g ((cnt maxI l).2.1:Nat) (lenOf m l).2 (.slice A l c)∧w.grownBy n (some g):=by
 have u:(cnt maxI l).1<=9223372036854775807:=aI2 maxI l;by_cases a:(cnt maxI l).2.2=0;rotate_left
 ·rw[bH8 m l a]
  go_enter Tryz.func204,Tryz.ntmps204;go_wp2_with fail;refine(pZ g 0 maxI _ tS A l c _ h tT O j k).mono ?_;rintro e p ⟨rfl,b,d⟩;rw[List.drop_zero,Nat.zero_add] at b;rw[List.drop_zero];have i:=J a;clear a;go_wp2_with fail;refine(bL4 g _ _ 2 _ _ _ b i.o).mono ?_;rintro e q ⟨rfl,rfl⟩;go_wp2;go_ret;exact⟨rfl,b,d⟩
 by_cases f:m<(cnt maxI l).1
 ·rw[aX2 m l a f]
  go_enter Tryz.func204,Tryz.ntmps204;go_wp2_with fail;refine(pZ g 0 maxI _ tS A l c _ h tT O j k).mono ?_;rintro e p ⟨rfl,b,d⟩;rw[List.drop_zero,a,Nat.zero_add] at b;rw[List.drop_zero];have i:=J a;clear a;go_wp2_with fail;refine(mP g _ 2 _ _ b O).mono ?_;rintro e q ⟨rfl,r,s⟩;go_wp2;go_ret;exact⟨rfl,r,aF d s (.inl rfl)⟩
 rw[bQ7 m l a f];go_enter Tryz.func204,Tryz.ntmps204;go_wp2_with fail;refine(pZ g 0 maxI _ tS A l c _ h tT O j k).mono ?_;rintro e p ⟨rfl,b,d⟩;rw[List.drop_zero,a,Nat.zero_add] at b;rw[List.drop_zero];have i:=J a;clear a;go_wp2_with fail;refine(rE g _ 2 _ _ b).mono ?_;rintro e q ⟨rfl,rfl⟩;go_wp2;go_ret;exact⟨rfl,b,d⟩
def cJ(l:List UInt8):List UInt8×Nat×Int:=
 if(lenOf 65535 l).2=0 then
  (if l.length-(cnt maxI l).2.1<(lenOf 65535 l).1 then([],0,3) else((l.drop (cnt maxI l).2.1).take (lenOf 65535 l).1,(cnt maxI l).2.1+(lenOf 65535 l).1,0))
 else([],0,(lenOf 65535 l).2)
theorem aL7(A:Option Addr)(l:List UInt8)(c:Nat)(w:World)(j:Rd w w A (cells l))(i:l.length<=4611686018427387904)(a:(lenOf 65535 l).2≠0):
  Calls Tryz.prog 175 #[.slice A l c] w fun e k =>e=.returned (.tuple #[.string (bU (cJ l).1),.int .i64 (cJ l).2.1,.int .i64 (cJ l).2.2])∧Below w w k :=by
 have b:cJ l=([],0,(lenOf 65535 l).2):=if_neg a;rw[b];have g:=J a;clear a b;go_enter Tryz.func175,Tryz.ntmps175;go_wp2_with fail;refine(sG w 65535 A l c _ (aB4 _ _) i (j.alloc (lR _) _) O).mono ?_;rintro e s ⟨rfl,d,f⟩;have h:=oB f;clear f;obtain⟨p,q,r,m,n⟩:=eV d;go_wp2_with fail;refine(cB6 _ _ _ _ _ _ _ d g.o).mono ?_;rintro e t ⟨rfl,rfl⟩;go_wp2_with fail;go_quiet (fail);go_wp2;go_ret3;exact⟨rfl,aD h _⟩
theorem aL6(A:Option Addr)(l:List UInt8)(c:Nat)(w:World)(p:Rd w w A (cells l))(n:l.length<=4611686018427387904)(d:(lenOf 65535 l).2=0)
  (m:l.length-(cnt maxI l).2.1<(lenOf 65535 l).1):
  Calls Tryz.prog 175 #[.slice A l c] w fun e q =>e=.returned (.tuple #[.string (bU (cJ l).1),.int .i64 (cJ l).2.1,.int .i64 (cJ l).2.2])∧Below w w q :=by
 have f:cJ l=([],0,3):=by unfold cJ;rw[if_pos d,if_pos m]
 rw[f];have i:=J d;have x:=yH maxI l;clear d f;go_enter Tryz.func175,Tryz.ntmps175;go_wp2_with fail;refine(sG w 65535 A l c _ (aB4 _ _) n (p.alloc (lR _) _) O).mono ?_;rintro e y ⟨rfl,a,h⟩;rw[i.o] at a;have b:=oB h;clear h;go_wp2_with fail;refine(bR5 _ _ _ _ _ _ a O O O).mono ?_;rintro e z ⟨rfl,j,g⟩;have k:=b.grown g b.size σ;obtain⟨t,u,v,r,s⟩:=eV j;clear g b a;go_wp2_with fail;go_quiet (fail);go_wp2;go_ret3;exact⟨rfl,aD k _⟩
theorem aS8(A:Option Addr)(l:List UInt8)(c:Nat)(w:World)(f:Rd w w A (cells l))(F:l<=c)(C:l.length<=4611686018427387904∧c<=9223372036854775807)(d:(lenOf 65535 l).2=0)
  (t:¬l.length-(cnt maxI l).2.1<(lenOf 65535 l).1):
  Calls Tryz.prog 175 #[.slice A l c] w fun e u =>e=.returned (.tuple #[.string (bU (cJ l).1),.int .i64 (cJ l).2.1,.int .i64 (cJ l).2.2])∧Below w w u :=by
 have g:cJ l=((l.drop (cnt maxI l).2.1).take (lenOf 65535 l).1,(cnt maxI l).2.1+(lenOf 65535 l).1,0):=by unfold cJ;rw[if_pos d,if_neg t]
 rw[g];have r:=J d;have D:=yH maxI l;clear d g;go_enter Tryz.func175,Tryz.ntmps175;go_wp2_with fail;refine(sG w 65535 A l c _ (aB4 _ _) O (f.alloc (lR _) _) O).mono ?_;rintro e I ⟨rfl,a,n⟩;rw[r.o] at a;have b:=oB n;clear n;go_wp2_with fail;refine(cA5 _ _ _ _ _ _ a O O O O O O).mono ?_;rintro e p ⟨rfl,s,i⟩;have h:=b.grown i b.size σ;obtain⟨y,z,B,v,x⟩:=eV s;have j:=f.a1 h;clear i b a;have hcut:=fun W:World=>uC (P:=Tryz.prog) Tryz.underlying34 bJ A l c (cnt maxI l).2.1 ((cnt maxI l).2.1+(lenOf 65535 l).1) O O (((cnt maxI l).2.1:Nat):Int) (((cnt maxI l).2.1:Int)+((lenOf 65535 l).1:Int)) rfl σ W
 rw[Nat.add_sub_cancel_left] at hcut;have m:Rd p w (cutA A (cnt maxI l).2.1 c) (cells ((l.drop (cnt maxI l).2.1).take (lenOf 65535 l).1)):=by
  have:=(Rd.j1 j (k:=(cnt maxI l).2.1) (cap:=c) (by rw[aB];omega) (by rw[aB];omega)).take (lenOf 65535 l).1;simpa[cells,List.map_take,List.map_drop] using this
 have E:=fun q=>by
  have:=kM (w:=p.drewN q) (c-(cnt maxI l).2.1) (m.drewN q);rw[show((l.drop (cnt maxI l).2.1).take (lenOf 65535 l).1).length=(lenOf 65535 l).1 by simp;omega] at this;exact this
 have G:IntKind.i64.wrap (((cnt maxI l).2.1:Int)+((lenOf 65535 l).1:Int)-((lenOf 65535 l).1:Int))=((cnt maxI l).2.1:Int):=by rw[mH _ O];omega
 have H:IntKind.i64.wrap (((cnt maxI l).2.1:Nat):Int)=((cnt maxI l).2.1:Int):=mH _ O;clear j f m;go_wp2_with fail;go_quiet (fail);go_wp2;go_ret3;exact⟨rfl,aD h _⟩
theorem aL5(A:Option Addr)(l:List UInt8)(c:Nat)(w:World)(d:Rd w w A (cells l))(a8:l<=c)(f:l.length<=4611686018427387904∧c<=9223372036854775807):
  Calls Tryz.prog 175 #[.slice A l c] w fun e g =>e=.returned (.tuple #[.string (bU (cJ l).1),.int .i64 (cJ l).2.1,.int .i64 (cJ l).2.2])∧Below w w g :=by
 by_cases b:(lenOf 65535 l).2=0;by_cases a:l.length-(cnt maxI l).2.1<(lenOf 65535 l).1;exact aL6 A l c w d O b a;exact aS8 A l c w d a8 f b a;exact aL7 A l c w d O b
theorem kX:(Tryz.prog.info? 3).map (fun i=>(i.zero,i.size,i.bytes))=some (some (.int .i64 0),1,8):=by kernel_rfl
def uL(w:World)(g:Nat)(l:List UInt8):Prop:=aS w g 5 (cells l++[Value.int .u8 77]).toArray
def aT5(n:Nat):Array Value:=madeCells #[.int .u8 0] n
theorem bV1(n:Nat):aT5 n=(List.replicate n (Value.int .u8 0)).toArray:=by
 have:=toList_madeCells_one (.int .u8 0) n;unfold aT5;rw[<-this]
theorem fY(l:List UInt8):∀u∈cells l,u.oneCell' =true:=by
 intro u a;obtain⟨_,_,rfl⟩:=mF.1 a;rfl
theorem bQ8(A:Option Addr)(l:List UInt8)(c:Nat)(w:World)(k:Rd w w A (cells l))(q:l.length<=140737488351232):
  Calls Tryz.prog 121 #[.slice A l c] w fun e m =>e=.returned (.slice (w,0) l (l.length+1))∧uL m w l∧Below w w m :=by
 have t:∀W:World,(Instr.makeSlice 34 (.int .i64 (l:Int)) (.int .i64 ((l:Int)+1))).run Tryz.prog W=.ok (.slice (W,0) l (l.length+1)) (W.alloc (.cells (aT5 (l.length+1)) 5)):=
  fun W=>aK9 (P:=Tryz.prog) Tryz.underlying34 bJ l (l.length+1) (l:Int) ((l:Int)+1) rfl σ O O O W
 go_enter Tryz.func121,Tryz.ntmps121;have g:aS (w.alloc (.cells (aT5 (l.length+1)) 5)) w 5 (List.replicate (l.length+1) (Value.int .u8 0)).toArray:=by rw[<-bV1];exact aS.new _ _ _
 have b:Below w w (w.alloc (.cells (aT5 (l.length+1)) 5)):=(lS _ _).alloc (lR _) _;have j:=k.a1 b;have f:=J g;clear g;go_wp2_with (with_reducible refine vI rfl (.tmp 10) (.tmp 11) 34 34 rfl 5 _ 1 Tryz.underlying34 bJ w.heap.size l.length (l.length+1) A l.length c rfl rfl _ 5 f.o w.heap.size (cells l) (aB l).symm j (lR _) σ (fY l) ?_);intro d a i;have h:=b.grown i b.size σ;have r:d.cell? ⟨w,l,none⟩=some (.int .u8 0):=by rw[a.cell];simp[cells]
 have s:=a.a6 l;have n:uL (d.setCell ⟨w,l,none⟩ (.int .u8 77)) w l:=by
  have:=a.b8 l (.int .u8 77);unfold uL;rw[show(cells l++[Value.int .u8 77]).toArray=(cells l++[Value.int .u8 0]).toArray.setIfInBounds l (.int .u8 77) by simp[cells]];exact this
 have p:Below w w (d.setCell ⟨w,l,none⟩ (.int .u8 77)):=h.setCell (lR _) _;clear f a i b h j k;go_wp2;go_ret;exact⟨rfl,n,p⟩
theorem bQ5(g:Nat)(A:Option Addr)(l:List UInt8)(c B:Nat)(w:World)(a:uL w g l)(b:Rd w B A (cells l))(k:l.length<=140737488351232):
  Calls Tryz.prog 127 #[.slice (g,0) l (l.length+1),.slice A l c] w fun e h =>e=.returned (.bool true)∧w=h :=by
 have m:=kM (w:=w) (l:=l) (A:=some ⟨g,0,none⟩) (B:=w.heap.size) (l.length+1) (by
  intro _;refine⟨_,rfl,aS.lt a,fun j u d=>?_⟩;rw[show((g,0):Addr).add j=⟨g,j,none⟩ by simp[Addr.add_lit],aS.cell a];have f:=(List.getElem?_eq_some_iff.1 d).1;simp only[List.getElem?_toArray];rw[List.getElem?_append_left f];exact d)
 have n:=kM c b;have i:w.cell? (g,l.length)=some (.int .u8 77):=by rw[aS.cell a];simp[cells]
 clear a b;go_enter Tryz.func127,Tryz.ntmps127;go_wp2;go_ret;exact⟨rfl,rfl⟩
theorem bV0(x:Nat)(h:x<18446744073709551616):x^^^18446744073709551615=18446744073709551615-x:=by
 have a:(BitVec.ofNat 64 x^^^BitVec.allOnes 64).toNat=x^^^18446744073709551615:=by
  rw[BitVec.toNat_xor,BitVec.toNat_ofNat,BitVec.toNat_allOnes,Nat.mod_eq_of_lt O]
 rw[<-a,BitVec.xor_allOnes,BitVec.toNat_not,BitVec.toNat_ofNat,Nat.mod_eq_of_lt O]
theorem bF5(n:Int)(h:I6 n):
  bits .xor .u64 (IntKind.u64.wrap (IntKind.u64.wrap n*2)) (IntKind.u64.wrap (n/9223372036854775808))=((fold1 n:Nat):Int):=by
 have a:∀x:Int,IntKind.u64.wrap x=x %18446744073709551616:=fun x=>by simp[IntKind.wrap,IntKind.bits,IntKind.signed]
 by_cases b:0<=n;obtain⟨k,rfl⟩:=Int.eq_ofNat_of_zero_le b;rw[a,a,a,show((k:Int) %18446744073709551616*2) %18446744073709551616=((2*k:Nat):Int) by omega,show((k:Int)/9223372036854775808) %18446744073709551616=((0:Nat):Int) by omega,
  u64_xor_nat _ _ O O,Nat.xor_zero,fold1,if_pos b]
 simp;obtain⟨k,d⟩:∃k:Nat,n=-(k:Int)-1:=⟨(-(n+1)).toNat,O⟩
 subst d;rw[a,a,a,show((-(k:Int)-1) %18446744073709551616*2) %18446744073709551616=((18446744073709551614-2*k:Nat):Int) by omega,
  show((-(k:Int)-1)/9223372036854775808) %18446744073709551616=((18446744073709551615:Nat):Int) by omega,
  u64_xor_nat _ _ O O,fold1,if_neg b]
 have c:(18446744073709551614-2*k)^^^18446744073709551615=2*k+1:=by
  rw[bV0 _ O];omega
 rw[c]
 congr 1
 omega
theorem jO(n:Int)(h:I6 n):fold1 n<2^64:=by
 unfold fold1;split<;>omega
theorem aV3(n:Int)(h:I6 n)(w:World):
  Calls Tryz.prog 158 #[n] w fun e a =>e=.returned (.int .u64 (fold1 n:Nat))∧w=a :=by
 have H:=J h;clear h;go_enter Tryz.func158,Tryz.ntmps158;go_wp2;go_ret;exact⟨bD0 (bF5 n H.o),rfl⟩
theorem bX5(n:Int)(h:I6 n)(w:World):
  Calls Tryz.prog 119 #[n] w fun e b =>∃v,e=.returned v∧Bs b w v (enc (fold1 n))∧Below w w b :=by
 have d:=J (jO n h);have H:=J h;clear h;go_enter Tryz.func119,Tryz.ntmps119;go_wp2_with fail;refine(aV3 n H.o _).mono ?_;rintro e g ⟨rfl,rfl⟩;go_wp2_with fail;refine(aJ8 (.slice none 0 0) [] (fold1 n) w w d.o σ (lR _) (Own.nil _ _ _)).mono ?_;rintro e g ⟨v,rfl,c,a,_⟩;have f:=fD a;clear a;go_wp2;go_ret;exact⟨v,rfl,c,f⟩
theorem bL0(s:ByteArray)(w:World)(h:65535<s.size)(b:s.size<=9223372036854775807):
  Calls Tryz.prog 116 #[.string s] w fun e a =>e=.returned (.tuple #[.slice none 0 0,.int .i64 2])∧w=a :=by
 go_enter Tryz.func116,Tryz.ntmps116;go_wp2;go_ret2;exact⟨rfl,rfl⟩
theorem xD(s:ByteArray):Lib.strCells s=cells s.data.toList:=rfl
theorem bZ9(s:ByteArray)(w:World)(h:s.size<=65535):
  Calls Tryz.prog 116 #[.string s] w fun e j =>∃v,e=.returned (.tuple #[v,.int .i64 0])∧Bs j w v (enc s.size++s.data.toList)∧Below w w j :=by
 obtain⟨p,n,r,t,u⟩:=info_parts bJ;go_enter Tryz.func116,Tryz.ntmps116;go_wp2_with fail;refine(aJ8 (.slice none 0 0) [] s.size w w O σ (lR _) (Own.nil _ _ _)).mono ?_;rintro e x ⟨v,rfl,b,g,_⟩;have c:=fD g;clear g;have z:=dG s.size O;have d:x.ownsRow w 5 1 v (enc s.size).length (cells (enc s.size)):=by have:=b;unfold Bs Own at this;rw[aB] at this;exact this
 have q:=c.size;go_wp2_with (at_builtin;refine Lib.wpList_append_own_string _ rfl (.tmp 10) (.tmp 11) 34 9 rfl w.heap.size 5 p Tryz.underlying34 Tryz.underlying9 n r t u v (enc s.size).length (cells (enc s.size)) rfl d s rfl (by unfold maxLen;omega) O O ?_);intro i y a f _;have l:Bs y w i (enc s.size++s.data.toList):=by
  unfold Bs Own;rw[aB,lT,bV];rw[xD] at a;exact a
 have m:=c.grown f q (fun k o=>(b.lt k o).1);clear a f b d c;go_wp2;go_ret2;exact⟨i,rfl,l,m⟩
def eU(w:World)(base:Nat)(v:Value):Prop:=
 v=.slice none 0 0∨∃g n cap cur,v=.slice (some ⟨g,0,none⟩) n cap∧base<=g∧aS w g 5 cur∧cap<=cur.size∧n<=cap∧cap<=9223372036854775807
def nI(w:World)(v:Value)(x:Int):Prop:=
 v=.slice none 0 0∨∃g n cap rest,v=.slice (some ⟨g,0,none⟩) n cap∧aS w g 5 (List.replicate cap (Value.int .u8 x)++rest).toArray∧n<=cap∧cap<=9223372036854775807
def cA2(vs:List Value):Prop:=∀i j (hi:i<vs.length) (hj:j<vs.length),i≠j->∀g,vs[i].ownBlock=some g->vs[j].ownBlock≠some g
theorem eU.base{w:World}{base:Nat}{v:Value}(h:eU w base v):∀k,v.ownBlock=some k->base<=k:=by
 rintro k a;rcases h with rfl|⟨g,n,b,c,rfl,d,_⟩
 simp[Value.ownBlock] at a;simp[Value.ownBlock] at a;omega
theorem eU.of_full{w:World}{base:Nat}{v:Value}{x:Int}(h:nI w v x)(c:∀k,v.ownBlock=some k->base<=k):eU w base v:=by
 rcases h with rfl|⟨g,n,a,rest,rfl,b,e,d⟩
 exact .inl rfl;exact .inr ⟨g,n,a,_,rfl,c g rfl,b,σ,e,d⟩
theorem eU.b1{w w' :World}{base:Nat}{v:Value}(h:eU w base v)(e:∀g,v.ownBlock=some g->w'.heap[g]? =w.heap[g]?):eU w' base v:=by
 rcases h with rfl|⟨g,n,a,c,rfl,d,b,r⟩
 exact .inl rfl;exact .inr ⟨g,n,a,c,rfl,d,(e g rfl).trans b,r⟩
theorem nI.b1{w w' :World}{v:Value}{x:Int}(h:nI w v x)(c:∀g,v.ownBlock=some g->w'.heap[g]? =w.heap[g]?):nI w' v x:=by
 rcases h with rfl|⟨g,n,a,rest,rfl,b,r⟩
 exact .inl rfl;exact .inr ⟨g,n,a,rest,rfl,(c g rfl).trans b,r⟩
theorem eU.e1{w:World}{base:Nat}{v:Value}{l:List UInt8}(h:Bs w base v l):eU w base v:=by
 rcases Own.e0 h with⟨rfl,_⟩|⟨g,cap,a9,rfl,hb,hg,a8,hn,hc,hs,_⟩
 exact .inl rfl;exact .inr ⟨g,_,cap,a9,rfl,hb,a8,Nat.le_of_eq hs.symm,hn,by unfold maxLen at hc;omega⟩
def iD(k:Nat):Int:=((k:Int)+1) %256
theorem bF4(cap q:Nat)(x:Value)(a:List Value)(a8:cap<=a)(b:q<cap):
  (List.replicate q x++a.drop q).toArray.setIfInBounds q x=(List.replicate (q+1) x++a.drop (q+1)).toArray:=by
 have h:a.drop q=a[q]::a.drop (q+1):=List.drop_eq_getElem_cons O;rw[h,List.replicate_succ',List.append_assoc];simp only[List.setIfInBounds_toArray];rw[List.set_append,if_neg σ];simp;rw[h];rfl
theorem eU.lt{w:World}{base:Nat}{v:Value}(h:eU w base v):∀g,v.ownBlock=some g->g<w.heap.size:=by
 rintro k a;rcases h with rfl|⟨g,n,c,d,rfl,e,b,_⟩
 simp[Value.ownBlock] at a;simp[Value.ownBlock] at a;rw[<-a];exact b.lt
theorem eU.alloc{w:World}{base:Nat}{v:Value}(h:eU w base v)(o:Obj):eU (w.alloc o) base v:=
 h.b1 fun g a=>Below.heap_alloc w o g (h.lt g a)
structure fU(vs:List Value)(w w' :World):Prop where
 os:w'.os=w.os
 tape:w'.tape=w.tape
 output:w'.output=w.output
 size:w'.heap.size=w
 block:∀k,(∀v∈vs,v.ownBlock≠some k)->w'.heap[k]? =w.heap[k]?
 kind:∀k cur,aS w k 5 cur->∃cur',aS w' k 5 cur' ∧cur'.size=cur.size
theorem fU.refl(vs:List Value)(w:World):fU vs w w:=⟨rfl,rfl,rfl,rfl,fun _ _=>rfl,fun k a h=>⟨a,h,rfl⟩⟩
theorem fU.drewN{vs:List Value}{w w' :World}(h:fU vs w w')(n:Nat):fU vs w (w'.drewN n):=⟨h.os,h.tape,h.output,h.size,h.block,h.kind⟩
theorem fU.set{vs:List Value}{w w' :World}(h:fU vs w w'){v:Value}(m:v∈vs){g:Nat}(l:v.ownBlock=some g)(i:Nat)(u:Value):fU vs w (w'.setCell (g,i) u):=
 ⟨h.os,h.tape,h.output,by simp[World.setCell,h.size],fun k e=>(Below.heap_setCell _ _ _ _ (by rintro rfl;exact e v m l)).trans (h.block k e),fun k b j=>by
  obtain⟨f,c,d⟩:=h.kind k b j;by_cases a:k=g;subst a;exact⟨_,c.b8 i u,by simpa using d⟩;exact⟨f,c.j5 (p:=(g,i)) a u,d⟩⟩
theorem fU.rd{vs:List Value}{w w' :World}(h:fU vs w w'){B:Nat}{A:Option Addr}{c:List Value}(g:Rd w B A c)(b:∀a,A=some a->∀v∈vs,v.ownBlock≠some a.block):Rd w' B A c:=fun f=>by
 obtain⟨a,rfl,d,e⟩:=g f;exact⟨a,rfl,d,fun j u i=>(mK (w:=w) (by rw[bK];exact h.block _ (b a rfl))).trans (e j u i)⟩
theorem eU.kept{vs:List Value}{w w' :World}{base:Nat}{v:Value}(j:eU w base v)(h:fU vs w w'):eU w' base v:=by
 rcases j with rfl|⟨g,n,a,c,rfl,i,b,l,e,f⟩
 exact .inl rfl;obtain⟨d,k,m⟩:=h.kind g c b;exact .inr ⟨g,n,a,d,rfl,i,k,O,e,f⟩
theorem aX8(A:Option Addr)(vs:List Value)(n c B base:Nat)(hn:n=vs)(w:World)(S:Rd w B A vs)(p4:∀v∈vs,eU w base v)(Z:cA2 vs)(o9:∀C,A=some C->∀v∈vs,v.ownBlock≠some C.block)
  (hl:vs.length<=4611686018427387904):
  Calls Tryz.prog 92 #[.slice A n c] w fun e w' =>e=.returned (.bool true)∧fU vs w w' ∧∀v∈vs,eU w' base v:=by
 subst hn;have X:=J p4;have p7:=J Z;have W:=J o9;clear p4 Z o9;go_enter Tryz.func92,Tryz.ntmps92;go_wp2_with fail;go_loopw [3,4,5] (fun i y1 y2 wr=>∃k:Nat,k<=vs∧i=.int .i64 k∧fU vs w wr∧Hq (∀j (f:j<vs.length),(j<k->nI wr vs[j] (iD j))∧(k<=j->eU wr base vs[j]))) (fun i _ _ _=>vs.length-(intOf i).toNat)
 case atStart=>exact⟨0,O,rfl,fU.refl _ _,J fun j f=>⟨fun h=>absurd h O,fun _=>X.o _ (lX f)⟩⟩
 obtain⟨k,hk,rfl,t,r⟩:=hrel;by_cases l:k<vs;rotate_left
 ·obtain rfl:k=vs:=O
  have H:=fun j f=>(r.o j f).1 f
  have L:=J H;clear r H;go_wp2_with fail;obtain⟨d,p⟩:∃d:World,d=wr:=⟨_,rfl⟩
  rw[<-p] at L t⊢;clear p;go_loopw [6,7,8] (fun i y1 y2 wr=>∃k:Nat,k<=vs∧i=.int .i64 k∧∃q,wr=d.drewN q) (fun i _ _ _=>vs.length-(intOf i).toNat)
  case atStart=>exact⟨0,O,rfl,0,rfl⟩
  obtain⟨k,hk,rfl,q0,rfl⟩:=hrel;by_cases l:k<vs;rotate_left
  ·go_wp2
   go_ret;refine⟨rfl,t.drewN _,fun v b=>?_⟩;obtain⟨j,f,rfl⟩:=List.getElem_of_mem b;exact eU.of_full (w:=d) (L.o j f) (X.o _ b).base
  obtain⟨C,rfl,p8,s⟩:=(t.rd S W.o).at_ l;have q8:(k:Int)<vs.length:=O;rcases L.o k l with b|⟨g,n,a,rest,b,D,o8,T⟩
  ·rw[b] at s
   have G:=J b;clear b;go_wp2_with fail;go_quiet (fail);go_wp2_with fail;refine wp_loop_rounds 1 ?_;rw[rounds_succ];go_wp2;go_roundw
   case rel=>exact⟨k+1,O,by go_num,_,rfl⟩
   case measure=>simp[intOf];omega
  rw[b] at s;have G:=J b;have F:=J D;clear b D;go_wp2_with fail;go_quiet (fail);go_wp2_with fail;go_loopw [8] (fun i E=>∃q:Nat,q<=a∧i=.int .i64 q∧∃Q,E=d.drewN Q) (fun i _=>a-(intOf i).toNat)
  case atStart=>exact⟨0,O,rfl,q0+nq,by rw[World.drewN_drewN]⟩
  obtain⟨q,hq,rfl,Q,rfl⟩:=hrel;by_cases y:q<a
  ·have R:d.cell? (g,q)=some (.int .u8 (iD k)):=by
    rw[F.o.cell];simp[List.getElem?_append,y]
   have l6:IntKind.u8.wrap ((k:Int)+1)=iD k:=by unfold iD;simp[IntKind.wrap,IntKind.bits,IntKind.signed]
   have l7:((k:Int)+1) %256=iD k:=rfl;go_wp2;go_roundw
   case rel=>exact⟨q+1,O,by go_num,Q,rfl⟩
   case measure=>simp[intOf];omega
  go_wp2;go_roundw
  case rel=>exact⟨k+1,O,by go_num,_,rfl⟩
  case measure=>simp[intOf];omega
 obtain⟨C,rfl,p8,s⟩:=(t.rd S W.o).at_ l;have q8:(k:Int)<vs.length:=O;rcases(r.o k l).2 (lR _) with b|⟨g,n,a,i6,b,t9,D,n9,o8,T⟩
 ·have j9:Hq (∀j (f:j<vs.length),(j<k+1->nI wr vs[j] (iD j))∧(k+1<=j->eU wr base vs[j])):=J fun j f=>⟨fun h=>by
   by_cases m:j=k;subst m;exact .inl b;exact(r.o j f).1 O,fun h=>(r.o j f).2 O⟩
  rw[b] at s;have G:=J b;clear b r;go_wp2_with fail;go_quiet (fail);go_wp2_with fail;refine wp_loop_rounds 1 ?_;rw[rounds_succ];go_wp2;go_roundw
  case rel=>exact⟨k+1,O,by go_num,t.drewN _,j9⟩
  case measure=>simp[intOf];omega
 have m6:=lX l;have p6:vs[k].ownBlock=some g:=by rw[b];rfl
 rw[b] at s;have G:=J b;have F:=J D;have V:=J n9;clear b D n9;go_wp2_with fail;go_quiet (fail);go_wp2_with fail;obtain⟨d,p⟩:∃d:World,d=wr.drewN nq:=⟨_,rfl⟩
 rw[<-p];have M:fU vs w d:=by rw[p];exact t.drewN _
 have Y:aS d g 5 i6:=by rw[p];exact F.o
 have P:Hq (∀j (f:j<vs.length),(j<k->nI d vs[j] (iD j))∧(k<=j->eU d base vs[j])):=by rw[p];exact r
 have p9:d.cell? (C.add k)=some (.slice (g,0) n a):=by rw[p];exact s
 clear t F r s p;go_loopw [5] (fun i E=>∃q:Nat,q<=a∧i=.int .i64 q∧fU vs w E∧aS E g 5 (List.replicate q (Value.int .u8 (iD k))++i6.toList.drop q).toArray∧d.grownBy E (some g)) (fun i _=>a-(intOf i).toNat)
 case atStart=>exact⟨0,O,rfl,M,by simpa using Y,World.grownBy.refl _ _⟩
 obtain⟨q,hq,rfl,I,z,K⟩:=hrel;have m5:a<=i6.toList:=by rw[Array.length_toList];exact V.o
 by_cases y:q<a
 ·have p5:=bF4 a q (Value.int .u8 (iD k)) i6.toList m5 y
  have R:∃u,wr.cell? (g,q)=some u:=by
   rw[z.cell];exact⟨_,Array.getElem?_eq_getElem (by have:=V.o;simp;omega)⟩
  obtain⟨u,R⟩:=R;have B1:=z.a6 q;have l8:aS (wr.setCell (g,q) (.int .u8 (iD k))) g 5 (List.replicate (q+1) (Value.int .u8 (iD k))++i6.toList.drop (q+1)).toArray:=by rw[<-p5];exact z.b8 q _
  have s9:=I.set m6 p6 q (.int .u8 (iD k));have m3:=aF K (aA wr g q (.int .u8 (iD k))) (.inl rfl);have l6:IntKind.u8.wrap ((k:Int)+1)=iD k:=by unfold iD;simp[IntKind.wrap,IntKind.bits,IntKind.signed]
  have l7:((k:Int)+1) %256=iD k:=rfl;clear p5 z I K;go_wp2;go_roundw
  case rel=>exact⟨q+1,O,by go_num,s9,l8,m3⟩
  case measure=>simp[intOf];omega
 obtain rfl:q=a:=O;have H:Hq (∀j (f:j<vs.length),(j<k+1->nI wr vs[j] (iD j))∧(k+1<=j->eU wr base vs[j])):=J fun j f=>by
  have U:j≠k->∀x,vs[j].ownBlock=some x->wr.heap[x]? =d.heap[x]? :=fun m x hx=>by
   by_cases N:x<d;exact K.block x N (by
   intro e;have:x=g:=by injection e
   subst this;exact p7.o j k f l m x hx p6)
   have h1:d.heap[x]? =none:=Array.getElem?_eq_none O;have h2:wr.heap[x]? =none:=Array.getElem?_eq_none (ω2 I.size M.size);rw[h1,h2]
  refine⟨fun h=>?_,fun h=>((P.o j f).2 O).b1 (U O)⟩;by_cases m:j=k;subst m;exact .inr ⟨g,n,q,_,G.o,z,o8,T⟩;exact((P.o j f).1 O).b1 (U m)
 clear z K P M Y p9;go_wp2;go_roundw
 case rel=>exact⟨k+1,O,by go_num,I,H⟩
 case measure=>simp[intOf];omega
theorem bN5(n:Nat):(n:Int) %128+128=((aI4 n).toNat:Int):=by
 unfold aI4;rw[gO _ O];omega
theorem bQ9(n:Nat):(n:Int) %128=((aX4 n).toNat:Int):=by
 unfold aX4;rw[gO _ O];omega
theorem aV0(k:Nat):∀(n:Nat) (w:World),n<128^k->k<=10->n<2^64->∀M:Int,M=(n:Int)→
  Calls Tryz.prog 191 #[.int .u64 M] w fun e p =>∃v,e=.returned v∧Bs p w v (qE n)∧Below w w p :=by
 induction k with
 |zero=>
  intro n w a _ _ M f;subst f;obtain rfl:n=0:=by simpa using a
  go_enter Tryz.func191,Tryz.ntmps191;go_wp2;go_ret;rw[lN];exact⟨_,rfl,Own.nil _ _ _,lS _ _⟩
 |succ k ih=>
  intro n w a B x M f;subst f;by_cases c:n=0
  ·subst c
   go_enter Tryz.func191,Tryz.ntmps191;go_wp2;go_ret;rw[lN];exact⟨_,rfl,Own.nil _ _ _,lS _ _⟩
  have d:n/128<128^k:=by
   apply Nat.div_lt_of_lt_mul;rw[Nat.pow_succ] at a;omega
  have A:=tF (n/128) k d;have i:=J (ih (n/128) w d O O);have t:=J (tG n c);have D:((n:Int)==0)=false:=by simp;omega
  have C:IntKind.u64.wrap ((n:Int)/128)=(n:Int)/128:=IntWalk.u64_in _ O;clear ih a x c d;go_enter Tryz.func191,Tryz.ntmps191;go_wp2_with fail;refine(i.o _ O).mono ?_;rintro e E ⟨v,rfl,b,h⟩;have y:=h.size;clear i;go_wp2_with (at_builtin;refine lA rfl (.tmp 7) (.tmp 12) 34 rfl w.heap.size 5 (.int .u8 0) 1 Tryz.underlying34 bJ rfl _ _ _ _ (congrArg (Value.int .u8) (bN5 n)) rfl b rfl rfl (by rw[aB];omega) (by rw[aB];omega) O ?_);intro m z j l s;have q:Bs z w m (qE n):=by rw[t.o];unfold Bs;rw[bV];exact j
  have r:=h.grown l y (fun g u=>(b.lt g u).1);clear j l s b h;go_wp2;go_ret;exact⟨m,rfl,q,r⟩
theorem sM(n:Nat)(w:World)(p:n<2^64):
  Calls Tryz.prog 162 #[.int .u64 n] w fun e i =>∃v,e=.returned v∧Bs i w v (enc n)∧Below w w i :=by
 have s:=tF (n/128) 9 O;have c:=J (aV0 9 (n/128) w O O O);have t:IntKind.u64.wrap ((n:Int)/128)=(n:Int)/128:=IntWalk.u64_in _ O;clear p;go_enter Tryz.func162,Tryz.ntmps162;go_wp2_with fail;refine(c.o _ O).mono ?_;rintro e u ⟨v,rfl,a,b⟩;have q:=b.size;clear c;go_wp2_with (at_builtin;refine lA rfl (.tmp 5) (.tmp 9) 34 rfl w.heap.size 5 (.int .u8 0) 1 Tryz.underlying34 bJ rfl _ _ _ _ (congrArg (Value.int .u8) (bQ9 n)) rfl a rfl rfl (by rw[aB];omega) (by rw[aB];omega) O ?_);intro h r d f l;have j:Bs r w h (enc n):=by unfold Bs enc;rw[bV];exact d
 have k:=b.grown f q (fun g m=>(a.lt g m).1);clear d f l a b;go_wp2;go_ret;exact⟨h,rfl,j,k⟩
theorem bK1(n:Int)(w:World)(h:n<0):
  Calls Tryz.prog 159 #[n] w fun e a =>e=.returned (.tuple #[.slice none 0 0,.int .i64 1])∧w=a :=by
 go_enter Tryz.func159,Tryz.ntmps159;go_wp2;go_ret2;exact⟨rfl,rfl⟩
theorem aG7(n:Nat)(w:World)(h:n<=9223372036854775807):
  Calls Tryz.prog 159 #[n] w fun e a =>∃v,e=.returned (.tuple #[v,.int .i64 0])∧Bs a w v (enc n)∧Below w w a :=by
 go_enter Tryz.func159,Tryz.ntmps159;go_wp2_with fail;refine(sM n w O).mono ?_;rintro e d ⟨v,rfl,b,c⟩;go_wp2;go_ret2;exact⟨v,rfl,b,c⟩
theorem qW(n:Int)(h:I6 n)(w:World):
  Calls Tryz.prog 129 #[n] w fun e b =>∃v,e=.returned v∧Bs b w v (enc (fold1 n))∧Below w w b :=by
 have i:=J (fun(m:Nat) (M:Int) (p:M=m) (l:m<2^64)=>(show Calls Tryz.prog 162 #[.int .u64 M] w fun e b =>∃v,e=.returned v∧Bs b w v (enc m)∧Below w w b by subst p;exact sM m w l));by_cases f:0<=n
 ·obtain⟨k,rfl⟩:=Int.eq_ofNat_of_zero_le f
  have j:k<=9223372036854775807:=O;have a:fold1 (k:Int)=2*k:=by unfold fold1;rw[if_pos f];simp
  have c:=J a;clear h a;go_enter Tryz.func129,Tryz.ntmps129;go_wp2_with fail;refine(i.o (2*k) _ σ O).mono ?_;rintro e q ⟨v,rfl,d,g⟩;go_wp2;go_ret;rw[c.o];exact⟨v,rfl,d,g⟩
 obtain⟨k,j,r⟩:∃k:Nat,n=-(k:Int)-1∧k<=9223372036854775807:=⟨(-(n+1)).toNat,O,O⟩
 subst j;have a:fold1 (-(k:Int)-1)=2*k+1:=by unfold fold1;rw[if_neg f];omega
 have c:=J a;clear h a;go_enter Tryz.func129,Tryz.ntmps129;go_wp2_with fail;refine(i.o (2*k+1) _ (by first|(simp;done)|(simp;omega)) O).mono ?_;rintro e q ⟨v,rfl,d,g⟩;go_wp2;go_ret;rw[c.o];exact⟨v,rfl,d,g⟩
section
variable{m i k d c g:Nat}{x:UInt8}{l:List UInt8}{w:World}
theorem qS(c:Hq (cnt m l=tkc m (i==0) k i (l.drop i)))(b:l.drop i=x::l.drop (i+1))(a:bad m i k x=true):
  Ending.returned (.tuple #[.int .u64 0,.int .i64 0,.int .i64 4])=.returned (.tuple #[.int .u64 (aC m l).1,.int .i64 (aC m l).2.1,.int .i64 (aC m l).2.2])∧w=w:=by
 unfold aC;rw[c.o,b,oT,if_pos a];exact⟨rfl,rfl⟩
theorem rL(c:Hq (cnt m l=tkc m (i==0) k i (l.drop i)))(b:l.drop i=x::l.drop (i+1))(a:bad m i k x=false)(hx:x.toNat<128):
  Ending.returned (.tuple #[.int .u64 ((k:Int)*128+(x.toNat:Int) %128),.int .i64 ((i:Int)+1),.int .i64 0])=.returned (.tuple #[.int .u64 (aC m l).1,.int .i64 (aC m l).2.1,.int .i64 (aC m l).2.2])∧w=w:=by
 unfold aC;rw[c.o,b,oT,if_neg (by rw[a];exact Bool.false_ne_true),if_pos hx];exact⟨cC2 (by congr 1) rfl rfl,rfl⟩
theorem nP(e:Hq (cnt m l=tkc m (i==0) k i (l.drop i)))(d:l.drop i=x::l.drop (i+1))(c:bad m i k x=false)(hx:¬x.toNat<128)(a8:i<l):
  ∃a b :Nat,a <=l∧Value.int .u64 ((k:Int)*128+(x.toNat:Int) %128)=.int .u64 b ∧Value.int .i64 ((i:Int)+1)=.int .i64 a ∧b <=m∧Hq (cnt m l=tkc m (a ==0) b a (l.drop a)):=by
 refine⟨i+1,k*128+x.toNat %128,O,by congr 1,rfl,bM9 c,?_⟩;show cnt m l=_
 rw[e.o,d,oT,if_neg (by rw[c];exact Bool.false_ne_true),if_neg hx]
end
theorem aG6(m:Nat)(M:Int)(L:M=(m:Int))(E:m<2^64)(A:Option Addr)(l:List UInt8)(c B:Nat)(w:World)(N:Rd w B A (cells l))(W:l.length<=4611686018427387904):
  Calls Tryz.prog 164 #[.slice A l c,.int .u64 M] w fun e Q =>e=.returned (.tuple #[.int .u64 (aC m l).1,.int .i64 (aC m l).2.1,.int .i64 (aC m l).2.2])∧w=Q :=by
 subst L;have v:=J E;have X:IntKind.u64.wrap ((m:Int)/128)=(m:Int)/128:=IntWalk.u64_in _ O;clear E;have K:Hq (cnt m l=tkc m ((0:Nat)==0) 0 0 (l.drop 0)):=J rfl;go_enter Tryz.func164,Tryz.ntmps164;go_wp2_with fail;go_loop [7,8,9] (fun n j y=>∃i k:Nat,i<=l∧n=.int .u64 k∧j=.int .i64 i∧k<=m∧Hq (cnt m l=tkc m (i==0) k i (l.drop i))) (fun _ j _=>l.length-(intOf j).toNat)
 case atStart=>exact⟨0,0,O,rfl,rfl,O,K⟩
 obtain⟨i,k,U,rfl,rfl,V,f⟩:=hrel;by_cases h:i<l;rotate_left
 ·have P:l.drop i=[]:=List.drop_eq_nil_of_le O
  go_wp2;go_ret3;unfold aC;rw[f.o,P];exact⟨rfl,rfl⟩
 obtain⟨F,rfl,Y,D⟩:=iR N h;obtain⟨x,hx⟩:=eX (l[i]);have d:l.drop i=x::l.drop (i+1):=by rw[hx];exact List.drop_eq_getElem_cons h
 rw[<-hx] at D;have Z:=x.toNat_lt;clear hx;have R:=J d;rcases Nat.eq_zero_or_pos i with z|z
 ·subst z
  have t:Hq ((0:Nat)=0):=J rfl;have S:w.cell? F=some (.int .u8 (x.toNat:Int)):=D;by_cases p:x.toNat=128
  ·have I:((x.toNat:Int)==128)=true:=by simp;omega
   have b:=J (cA4 m k rfl p);clear p;go_wp2;go_ret3;exact qS f d b.o
  have I:((x.toNat:Int)==128)=false:=by simp;omega
  have u:=J p;clear p;rcases Nat.lt_trichotomy (m/128) k with g|g|g
  ·have q:¬((k:Int)<=(m:Int)/128):=O
   have r:(m:Int)/128<k:=O;have b:=J (bB8 0 x g);go_wp2;go_ret3;exact qS f d b.o
  ·rcases Nat.lt_or_ge (m %128) (x.toNat %128) with s|s
   ·have q:¬((x.toNat:Int) %128<=(m:Int) %128):=O
    have r:(m:Int) %128<(x.toNat:Int) %128:=O;have b:=J (bB7 0 g s);subst g;go_wp2;go_ret3;exact qS f d b.o
   have q:(x.toNat:Int) %128<=(m:Int) %128:=O;have r:¬(m:Int) %128<(x.toNat:Int) %128:=O;have b:=J (pY (m:=m) (i:=0) (k:=k) (x:=x) (ω2 t.o u.o) O (by intro _;exact s));subst g;have C:m/128<=144115188075855871:=ω1 v.o;by_cases a:x.toNat<128
   ·go_wp2
    go_ret3;exact rL f d b.o a
   go_wp2;go_round
   case rel=>exact nP f d b.o a h
   case measure=>simp[intOf];omega
  have q:((k:Int)<=(m:Int)/128):=O;have r:¬(m:Int)/128<k:=O;have G:¬((k:Int)=(m:Int)/128):=O;have H:((k:Int)==(m:Int)/128)=false:=by simp;omega
  have b:=J (pY (m:=m) (i:=0) (k:=k) (x:=x) (ω2 t.o u.o) O O);have C:k<=144115188075855871:=ω1 v.o;by_cases a:x.toNat<128
  ·go_wp2
   go_ret3;exact rL f d b.o a
  go_wp2;go_round
  case rel=>exact nP f d b.o a h
  case measure=>simp[intOf];omega
 have T:((i:Int)==0)=false:=by simp;omega
 have t:=J z;have u:=t;rcases Nat.lt_trichotomy (m/128) k with g|g|g
 ·have q:¬((k:Int)<=(m:Int)/128):=O
  have r:(m:Int)/128<k:=O;have b:=J (bB8 i x g);go_wp2;go_ret3;exact qS f d b.o
 ·rcases Nat.lt_or_ge (m %128) (x.toNat %128) with s|s
  ·have q:¬((x.toNat:Int) %128<=(m:Int) %128):=O
   have r:(m:Int) %128<(x.toNat:Int) %128:=O;have b:=J (bB7 i g s);subst g;go_wp2;go_ret3;exact qS f d b.o
  have q:(x.toNat:Int) %128<=(m:Int) %128:=O;have r:¬(m:Int) %128<(x.toNat:Int) %128:=O;have b:=J (pY (m:=m) (i:=i) (k:=k) (x:=x) (ω2 t.o u.o) O (by intro _;exact s));subst g;have C:m/128<=144115188075855871:=ω1 v.o;by_cases a:x.toNat<128
  ·go_wp2
   go_ret3;exact rL f d b.o a
  go_wp2;go_round
  case rel=>exact nP f d b.o a h
  case measure=>simp[intOf];omega
 have q:((k:Int)<=(m:Int)/128):=O;have r:¬(m:Int)/128<k:=O;have G:¬((k:Int)=(m:Int)/128):=O;have H:((k:Int)==(m:Int)/128)=false:=by simp;omega
 have b:=J (pY (m:=m) (i:=i) (k:=k) (x:=x) (ω2 t.o u.o) O O);have C:k<=144115188075855871:=ω1 v.o;by_cases a:x.toNat<128
 ·go_wp2
  go_ret3;exact rL f d b.o a
 go_wp2;go_round
 case rel=>exact nP f d b.o a h
 case measure=>simp[intOf];omega
theorem cU(l:List UInt8):∀u∈cells l,u.oneCell' =true:=by
 intro u a;obtain⟨_,_,rfl⟩:=mF.1 a;rfl
theorem iM(m:Nat)(l:List UInt8):(aC m l).1<=m:=aI2 m l
theorem eD(A:Option Addr)(l:List UInt8)(n c B:Nat)(b:n=l)(w:World)(d:Rd w B A (cells l))(a:l.length<=4611686018427387904):
  Calls Tryz.prog 163 #[.slice A n c] w fun e f =>e=.returned (.tuple #[.int .i64 (aC maxI l).1,.int .i64 (aC maxI l).2.1,.int .i64 (aC maxI l).2.2])∧w=f :=by
 subst b;have g:(aC maxI l).1<=9223372036854775807:=iM maxI l;go_enter Tryz.func163,Tryz.ntmps163;go_wp2_with fail;refine(aG6 maxI _ tS tT A l c B _ d a).mono ?_;rintro e h ⟨rfl,rfl⟩;go_wp2;go_ret3;exact⟨rfl,rfl⟩
theorem jS(A:Option Addr)(l:List UInt8)(n c B:Nat)(k:n=l)(w:World)(m:Rd w B A (cells l))(j:l.length<=4611686018427387904):
  Calls Tryz.prog 135 #[.slice A n c] w fun e p =>e=.returned (.tuple #[.int .i64 (bX (aC maxU l).1),.int .i64 (aC maxU l).2.1,.int .i64 (aC maxU l).2.2])∧w=p :=by
 subst k;have g:(aC maxU l).1<=18446744073709551615:=iM maxU l;obtain⟨u,a⟩:=eX ((aC maxU l).1);have r:IntKind.u64.wrap ((u:Int)/2)=(u:Int)/2:=IntWalk.u64_in _ (by rw[a];omega);have s:wrap64 ((u:Int)/2)=(u:Int)/2:=IntWalk.wrap64_in _ ⟨O,by rw[a];omega⟩;have q:u/2<=9223372036854775807:=by rw[a];omega
 have d:=J a;clear g a;by_cases i:u %2=1;have h:((u:Int) %2==1)=true:=by simp;omega
 have b:bX u=-((u/2:Nat):Int)-1:=by unfold bX;rw[if_neg O]
 rotate_left;have h:((u:Int) %2==1)=false:=by simp;omega
 have b:bX u=((u/2:Nat):Int):=by unfold bX;rw[if_pos O]
 all_goals
  have f:=J b;clear i b;go_enter Tryz.func135,Tryz.ntmps135;go_wp2_with fail;refine(aG6 maxU _ bC8 bC9 A l c B _ m j).mono ?_;rintro e t ⟨rfl,rfl⟩;rw[<-d.o];go_wp2;go_ret3;rw[<-d.o,f.o];exact⟨rfl,rfl⟩
theorem aZ8(s:ByteArray)(w:World)(h:65535<s.size)(b:s.size<=9223372036854775807):
  Calls Tryz.prog 160 #[.string s] w fun e a =>e=.returned (.tuple #[.slice none 0 0,.int .i64 2])∧w=a :=by
 go_enter Tryz.func160,Tryz.ntmps160;go_wp2;go_ret2;exact⟨rfl,rfl⟩
theorem bS8(s:ByteArray)(w:World)(h:s.size<=65535):
  Calls Tryz.prog 160 #[.string s] w fun e i =>∃v,e=.returned (.tuple #[v,.int .i64 0])∧Bs i w v (enc s.size++s.data.toList)∧Below w w i :=by
 obtain⟨o,m,q,r,t⟩:=info_parts bJ;go_enter Tryz.func160,Tryz.ntmps160;go_wp2_with fail;refine(sM s.size w O).mono ?_;rintro e u ⟨v,rfl,b,c⟩;have y:=dG s.size O;have d:u.ownsRow w 5 1 v (enc s.size).length (cells (enc s.size)):=by have:=b;unfold Bs Own at this;rw[aB] at this;exact this
 have p:=c.size;go_wp2_with (at_builtin;refine Lib.wpList_append_own_string _ rfl (.tmp 10) (.tmp 11) 34 9 rfl w.heap.size 5 o Tryz.underlying34 Tryz.underlying9 m q r t v (enc s.size).length (cells (enc s.size)) rfl d s rfl (by unfold maxLen;omega) O O ?_);intro g x a f _;have j:Bs x w g (enc s.size++s.data.toList):=by
  unfold Bs Own;rw[aB,lT,bV];rw[xD] at a;exact a
 have l:=c.grown f p (fun k n=>(b.lt k n).1);clear a f b d c;go_wp2;go_ret2;exact⟨g,rfl,j,l⟩
theorem cX(m:Nat)(l:List UInt8):(aC m l).2.1<=l.length:=by
 unfold aC;have:=yH m l;show(if(cnt m l).2.2=0 then(cnt m l).2.1 else 0)<=_
 split<;>omega
theorem nM(m:Nat)(l:List UInt8):lenOf m l=if(aC maxI l).2.2=0 then(if m<(aC maxI l).1 then(0,2) else((aC maxI l).1,0)) else(0,(aC maxI l).2.2):=rfl
theorem aH4{l:List UInt8}(h:(aC maxI l).2.2≠0):cJ l=([],0,(aC maxI l).2.2):=by
 have a:lenOf 65535 l=(0,(aC maxI l).2.2):=by rw[nM,if_neg h]
 unfold cJ;rw[a,if_neg h]
theorem aB1{l:List UInt8}(h:(aC maxI l).2.2=0)(b:65535<(aC maxI l).1):cJ l=([],0,2):=by
 have a:lenOf 65535 l=(0,2):=by rw[nM,if_pos h,if_pos b]
 unfold cJ;rw[a];rfl
theorem aB2{m:Nat}{l:List UInt8}(h:(aC m l).2.2=0):(aC m l).2.1=(cnt m l).2.1:=if_pos h
theorem aH3{l:List UInt8}(h:(aC maxI l).2.2=0)(b:¬65535<(aC maxI l).1)(c:l.length-(aC maxI l).2.1<(aC maxI l).1):cJ l=([],0,3):=by
 have a:lenOf 65535 l=((aC maxI l).1,0):=by rw[nM,if_pos h,if_neg b]
 unfold cJ;rw[a,if_pos rfl,<-aB2 h,if_pos c]
theorem aS7{l:List UInt8}(h:(aC maxI l).2.2=0)(b:¬65535<(aC maxI l).1)(c:¬l.length-(aC maxI l).2.1<(aC maxI l).1):
  cJ l=((l.drop (aC maxI l).2.1).take (aC maxI l).1,(aC maxI l).2.1+(aC maxI l).1,0):=by
 have a:lenOf 65535 l=((aC maxI l).1,0):=by rw[nM,if_pos h,if_neg b]
 unfold cJ;rw[a,if_pos rfl,<-aB2 h,if_neg c]
end Go.Proofs.YtgeofijddhflaaaGreatDoor
