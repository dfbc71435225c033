/- journal: acts to come are made (remove, sync, put). No condition. -/
import Derived.Test.YtgeofijddhflaaaGreatDoorPJnSame
import Derived.Test.YtgeofijddhflaaaGreatDoorPDiskCut
set_option linter.unusedVariables false
set_option linter.unusedSimpArgs false
set_option maxHeartbeats 8000000
set_option maxRecDepth 100000
namespace Go.Proofs.YtgeofijddhflaaaGreatDoor
section
open Oct
section
variable{α:Type}{n m:Nm}{l:List (Nm×α)}
theorem sX{x:Nm×α}(h:m≠x.1):∀l:List (Nm×α),aX m (asIns x l)=aX m l
 |[]=>by
  unfold asIns aX;rw[List.find?_cons_of_neg (by simpa using fun e:x.1=m=>h e.symm)]
 |y::r=>by
  have c:=sX h r;unfold asIns;split;unfold aX;rw[List.find?_cons_of_neg (p:=fun p:Nm×α=>p.1==m) (by simpa using fun e:x.1=m=>h e.symm)];unfold aX at c⊢;by_cases b:(y.1==m)=true;rw[List.find?_cons_of_pos (p:=fun p:Nm×α=>p.1==m) b,List.find?_cons_of_pos (p:=fun p:Nm×α=>p.1==m) b];rw[List.find?_cons_of_neg (p:=fun p:Nm×α=>p.1==m) b,List.find?_cons_of_neg (p:=fun p:Nm×α=>p.1==m) b];exact c
theorem jM(h:m≠n)(l:List (Nm×α)):aX m (bE n l)=aX m l:=by
 unfold aX bE;induction l with
 |nil=>rfl
 |cons y r ih=>
  by_cases b:y.1=n;rw[List.filter_cons_of_neg (by simp[b]),ih,List.find?_cons_of_neg (by simpa[b] using fun e:n=m=>h e.symm)];rw[List.filter_cons_of_pos (by simpa using b)];by_cases a:(y.1==m)=true;rw[List.find?_cons_of_pos (p:=fun p:Nm×α=>p.1==m) a,List.find?_cons_of_pos (p:=fun p:Nm×α=>p.1==m) a];rw[List.find?_cons_of_neg (p:=fun p:Nm×α=>p.1==m) a,List.find?_cons_of_neg (p:=fun p:Nm×α=>p.1==m) a];exact ih
theorem lE(h:m≠n)(a:α)(l:List (Nm×α)):aX m (aW n a l)=aX m l:=by
 unfold aW;rw[sX h,jM h]
end
def nK(pw:fT):Prop:=pw.off=false∧pw.j3=false
theorem oC{pw:fT}(h:nK pw):pw.cut=(false,0,pw):=by
 unfold fT.cut;rw[if_pos h.2]
section
variable{pw:fT}{room:Int}{fs:List (Nm×FD)}{n:Nm}{f:FD}
theorem aO2(h:nK pw)(a:aX n fs=some f):(aQ.rm n).run ⟨pw,room,fs⟩=(0,⟨pw,room,bE n fs⟩):=by
 show DkD.b6 _ n=_
 unfold DkD.b6;rw[if_neg (by rw[h.1];simp)];simp only[a];unfold DkD.e0;simp only[oC h];rfl
theorem bG6(h:nK pw)(a:aX n fs=some f){k:Int}(c:0<=k∧k<=f.b):(aQ.cut n k).run ⟨pw,room,fs⟩=(0,⟨pw,room,aW n ⟨f.b.take k.toNat,min f.b5 k.toNat⟩ fs⟩):=by
 show DkD.e6 _ n k=_
 unfold DkD.e6;rw[if_neg (by rw[h.1];simp)];simp only[a];rw[if_neg O];unfold DkD.e0;simp only[oC h];rfl
theorem aW8(h:nK pw)(a:aX n fs=some f):(aQ.sync n).run ⟨pw,room,fs⟩=(0,⟨pw,room,aW n ⟨f.b,f.b⟩ fs⟩):=by
 show DkD.sync _ n=_
 unfold DkD.sync;rw[if_neg (by rw[h.1];simp)];simp only[a,oC h];rfl
theorem bG3(h:nK pw)(c:n≠[]∧n.length<=32)(p:List UInt8)(a:(p:Int)<=room-bC fs):
  (aQ.app n p).run ⟨pw,room,fs⟩=(0,⟨pw,room,aW n ⟨((aX n fs).getD ⟨[],0⟩).b++p,((aX n fs).getD ⟨[],0⟩).b5⟩ fs⟩):=by
 show DkD.append _ n [p]=_
 unfold DkD.append;rw[if_neg (by rw[h.1];simp),if_neg (by rintro(e|e);exact c.1 e;omega),if_neg (by unfold fits fits DkD.free;simpa using a)];simp only[oC h];simp
theorem bH3(h:nK pw)(a:aX aJ fs=some f):aQ.ren.run ⟨pw,room,fs⟩=(0,⟨pw,room,aW fZ f (bE aJ fs)⟩):=by
 show DkD.rename _ aJ fZ=_
 unfold DkD.rename;rw[if_neg (by rw[h.1];simp)];simp only[a];rw[if_neg δ];unfold DkD.e0;simp only[oC h];rfl
end
theorem gE(a:aQ)(r:List aQ)(d:DkD):cF (a::r) d=if(a.run d).1=0 then cF r (a.run d).2 else a.run d:=rfl
theorem rB(a b:List aQ)(d:DkD)(h:(cF a d).1=0):cF (a++b) d=cF b (cF a d).2:=by
 induction a generalizing d with
 |nil=>rfl
 |cons x r ih=>
  rw[List.cons_append,gE];rw[gE] at h⊢;split;rename_i c;rw[if_pos c] at h;exact ih _ h;rename_i c;rw[if_neg c] at h;exact absurd h c
theorem oK{a b:Int}(d:0<=a)(e:0<=b)(h:aE a=aE b):a=b:=by
 unfold aE at h;injection h with _ h
 unfold Lib.itoa at h;rw[if_neg O,if_neg O] at h;have c:=(rS a.toNat).1;rw[h,(rS b.toNat).1] at c;omega
theorem fJ(k:Int)(h:I6 k):(aE k).length<=22:=by
 have:=Lib.itoa_length_le k h.1 h.2;unfold aE;simp;omega
end
section
open Oct
structure oV(s:aH):Prop where
 rise:s.a7.Pairwise (· <= ·)
 pos:∀n∈s.a7,0<=n
 len:s.a7.length=s.l+1
theorem tQ{l:List Int}(h:l.Pairwise (· <= ·)):∀x∈l,x<=l.getLastD 0:=by
 rcases mJ l with rfl|⟨r,y,rfl⟩
 intro x hx;cases hx;rw[mA] at h⊢;intro x hx;have a:(r++[y]).getLastD 0=y:=by simp
 rw[a];rcases mB.1 hx with hx|hx
 exact(List.pairwise_append.1 h).2.2 x hx y σ;rw[lY.1 hx];exact Int.le_refl _
theorem iP{l:List Int}(h:l≠[]):l.getLastD 0∈l:=by
 rcases mJ l with rfl|⟨r,y,rfl⟩
 exact absurd rfl h;simp
theorem oV.ne{s:aH}(h:oV s):s.a7≠[]:=fun e=>by have:=h.len;rw[e] at this;simp at this
theorem oV.j4{s:aH}(h:oV s):0<=s.b2:=h.pos _ (iP h.ne)
theorem oV.ahead{s:aH}(h:oV s)(ix:Int):oV (s.ahead ix)∧(s.ahead ix).b2<=s.b2∧(s.ahead ix).k=s.k:=by
 have c:s.e4 ix<=s.l:=Nat.min_le_right _ _;have a:oV (s.ahead ix):=by
  refine⟨?_,?_,?_⟩;show(s.a7.take _).Pairwise _
  exact h.rise.sublist (List.take_sublist _ _);intro n b;exact h.pos n (mO b);show(s.a7.take _).length=(s.l.take _).length+1
  rw[lV,lV,h.len];omega
 refine⟨a,?_,rfl⟩;exact tQ h.rise _ (mO (iP a.ne))
theorem lM:∀(l:List cD) (s:aH),(aO s l).k=s.k∧(aO s l).a8=s.a8∧(aO s l).c6=s.c6
 |[],s=>⟨rfl,rfl,rfl⟩
 |e::r,s=>by unfold aO;exact lM r _
theorem oV.add:∀(l:List cD) {s:aH},oV s->oV (aO s l)∧(aO s l).b2=s.b2+((l.map aZ).flatten.length:Int)
 |[],s,h=>⟨h,by simp[aO]⟩
 |e::r,s,h=>by
  have k:=h.j4;have f:oV {s with l:=s.l++[e],a7:=s.a7++[s.b2+(aZ e).length]}:=by
   refine⟨?_,?_,?_⟩;refine List.pairwise_append.2 ⟨h.rise,List.pairwise_singleton _ _,fun a i b j=>?_⟩;rw[lY.1 j];have:=tQ h.rise a i;unfold aH.b2;omega;intro n c;rcases mB.1 c with c|c
   exact h.pos n c;rw[lY.1 c];omega;show(s.a7++_).length=(s.l++_).length+1
   rw[lT,lT,h.len];rfl
  have d:=oV.add r f;have g:aH.b2 {s with l:=s.l++[e],a7:=s.a7++[s.b2+(aZ e).length]}=s.b2+(aZ e).length:=by
   unfold aH.b2;simp
  unfold aO;refine⟨d.1,?_⟩;rw[d.2,g];simp only[mG,List.flatten_cons,lT];omega
def aT6(fs:List (Nm×FD))(n:Nm)(k:Int):Prop:=∃f,aX n fs=some f∧k<=f.b
theorem aT6.of_eq{fs a :List (Nm×FD)}{n:Nm}{k:Int}(h:aT6 fs n k)(e:aX n a =aX n fs):aT6 a n k:=by
 obtain⟨f,b,c⟩:=h;exact⟨f,e.trans b,c⟩
section
variable{pw:fT}{room:Int}
theorem zTT(h:nK pw):∀(ss:List aH) (fs:List (Nm×FD)),(∀s∈ss,aT6 fs (aE s.k) s.b2)->(∀s∈ss,0<=s.k)->ss.Pairwise (fun a b=>a.k≠b.k)→
  ∃c,cF (ss.map fun s=>aQ.rm (aE s.k)) ⟨pw,room,fs⟩=(0,⟨pw,room,c⟩)∧bC c +(ss.map aH.b2).sum<=bC fs∧∀n,(∀s∈ss,n≠aE s.k)->aX n c =aX n fs
 |[],fs,_,_,_=>⟨fs,rfl,σ,fun n _=>rfl⟩
 |s::r,fs,hf,hk,hd=>by
  obtain⟨f,i,p⟩:=hf s (List.mem_cons_self ..);have g:=List.pairwise_cons.1 hd;have j:∀t∈r,aE t.k≠aE s.k:=fun t d e=>g.1 t d (oK (hk s (List.mem_cons_self ..)) (hk t (List.mem_cons_of_mem _ d)) e.symm)
  obtain⟨c,m,q,o⟩:=zTT h r (bE (aE s.k) fs) (fun t d=>(hf t (List.mem_cons_of_mem _ d)).of_eq (jM (j t d) fs)) (fun t d=>hk t (List.mem_cons_of_mem _ d)) g.2;refine⟨c,?_,?_,fun n l=>?_⟩;rw[mG,gE,aO2 h i,if_pos rfl];exact m;have u:=iG i;rw[mG,List.sum_cons];omega;rw[o n (fun t d=>l t (List.mem_cons_of_mem _ d)),jM (l s (List.mem_cons_self ..))]
theorem sV(h:nK pw){n:Nm}(k:n≠[]∧n.length<=32)(p:List UInt8){fs:List (Nm×FD)}(j:(p:Int)<=room-bC fs):
  ∃a,cF [.app n p,.sync n] ⟨pw,room,fs⟩=(0,⟨pw,room,a⟩)∧(∃f,aX n a =some f∧f.b.length=((aX n fs).getD ⟨[],0⟩).b.length+p.length)∧∀m,m≠n->aX m a =aX m fs:=by
 have e:=bG3 h k p j;have g:=aW8 (room:=room) h (nZ n ⟨((aX n fs).getD ⟨[],0⟩).b++p,((aX n fs).getD ⟨[],0⟩).b5⟩ fs);obtain⟨c,d⟩:∃f:FD,f=⟨((aX n fs).getD ⟨[],0⟩).b++p,((aX n fs).getD ⟨[],0⟩).b5⟩:=⟨_,rfl⟩
 rw[<-d] at e g;refine⟨aW n ⟨c.b,c.b⟩ (aW n c fs),?_,⟨⟨c.b,c.b⟩,nZ _ _ _,?_⟩,fun m i=>?_⟩;rw[gE,e,if_pos rfl,gE,g,if_pos rfl];rfl;rw[d,<-lT];rw[lE i,lE i]
end
theorem aE6(l:List Int):∀a:Int,l.foldl (· + ·) a=a+l.sum:=by
 induction l with
 |nil=>intro a;simp
 |cons x r ih=>
  intro a;rw[List.foldl_cons,ih,List.sum_cons];omega
theorem bP8(k:Int)(h:1<=k∧k<=999999999):aE k≠[]∧(aE k).length<=32:=by
 have:=fJ k O;exact⟨by unfold aE;simp,O⟩
structure kV(ss:List aH)(fs:List (Nm×FD)):Prop where
 h5:∀s∈ss,oV s∧(1<=s.k∧s.k<=999999999)∧aT6 fs (aE s.k) s.b2
 ks:ss.Pairwise fun a b=>a.k<b.k
structure RI(j:bQ)(d:DkD):Prop where
 bad:j.bad=0
 calm:nK d.pw
 b0:kV j.b0 d.fs
def xY(r:Int×bQ×DkD)(j:bQ)(d:DkD):Prop:=RI r.2.1 r.2.2∧(r.1=0∨r.1≠50∧r.2=(j,d))
theorem xY.same{j:bQ}{d:DkD}(h:RI j d){c:Int}(a:c≠50):xY (c,j,d) j d:=⟨h,.inr ⟨a,rfl⟩⟩
theorem kV.b1{ss:List aH}{fs a :List (Nm×FD)}(h:kV ss fs)(c:∀s∈ss,aX (aE s.k) a =aX (aE s.k) fs):kV ss a :=
 ⟨fun s b=>⟨(h.h5 s b).1,(h.h5 s b).2.1,(h.h5 s b).2.2.of_eq (c s b)⟩,h.ks⟩
theorem uU(k:Int):aE k≠aJ:=by
 intro e;unfold aE aJ at e;injection e with e _
 exact absurd e δ
theorem aV9(k:Int):aE k≠fZ:=by
 intro e;unfold aE fZ at e;injection e with e _
 exact absurd e δ
theorem aL1{j:bQ}{d:DkD}(h:RI j d)(t v:Int):xY (bP j d t v) j d:=by
 obtain⟨l,a,g⟩:=d;have o:nK l:=h.calm;unfold bP;rw[if_neg (by rw[h.bad];simp)];split;exact xY.same h δ;simp only;split;exact xY.same h δ;rename_i c;have x:∃m,cF ((if(DkD.read ⟨l,a,g⟩ aJ).2=0 then[.rm aJ] else[])++[.app aJ (gR t v),.sync aJ,.ren]) ⟨l,a,g⟩=(0,⟨l,a,m⟩)∧∀k,aX (aE k) m=aX (aE k) g:=by
  have y:DkD.read ⟨l,a,g⟩ aJ=match aX aJ g with|none=>([],51)|some f=>(f.b,0):=by
   unfold DkD.read;rw[if_neg (by rw[o.1];simp)];rfl
  have u:∀i:List (Nm×FD),((gR t v).length:Int)<=a-bC i->∃m,cF [.app aJ (gR t v),.sync aJ,.ren] ⟨l,a,i⟩=(0,⟨l,a,m⟩)∧∀k,aX (aE k) m=aX (aE k) i:=fun i D=>by
   obtain⟨r,p,⟨f,q,_⟩,z⟩:=sV (room:=a) o (n:=aJ) ⟨by decide,δ⟩ (gR t v) D;have A:=bH3 (room:=a) o q;refine⟨aW fZ f (bE aJ r),?_,fun k=>?_⟩;have e:([aQ.app aJ (gR t v),.sync aJ,.ren]:List aQ)=[.app aJ (gR t v),.sync aJ]++[.ren]:=rfl;rw[e,rB _ _ _ (by rw[p]),p];show cF [.ren] ⟨l,a,r⟩=_
   rw[gE,A,if_pos rfl];rfl;rw[lE (aV9 k),jM (uU k),z _ (uU k)]
  rw[y] at c⊢;have w:DkD.free ⟨l,a,g⟩=a-bC g:=rfl;rw[w] at c;cases hg:aX aJ g with
  |none=>
   rw[hg] at c;simp only[hg];rw[if_neg δ,List.nil_append];exact u g (by simp only[List.length_nil] at c;omega)
  |some f=>
   rw[hg] at c;simp only[hg];rw[if_pos trivial,List.singleton_append,gE,aO2 o hg,if_pos rfl];have E:=iG hg;obtain⟨m,B,C⟩:=u (bE aJ g) (by simp only at c;omega);exact⟨m,B,fun k=>by rw[C,jM (uU k)]⟩
 obtain⟨m,p,q⟩:=x;rw[p];refine⟨⟨?_,o,?_⟩,.inl rfl⟩;rw[if_pos rfl];rw[if_pos rfl];exact h.b0.b1 (fun s _=>q s.k)
theorem cD9{ss:List aH}(h:ss.Pairwise fun a b=>a.k<b.k):ss.Pairwise fun a b=>a.k≠b.k:=h.imp fun h=>O
theorem kV.drop{pw:fT}{room:Int}(o:nK pw){ss:List aH}{fs:List (Nm×FD)}(h:kV ss fs)(n:Nat):∃d,cF ((ss.take n).map fun s=>aQ.rm (aE s.k)) ⟨pw,room,fs⟩=(0,⟨pw,room,d⟩)∧kV (ss.drop n) d:=by
 have j:(ss.take n++ss.drop n).Pairwise fun a b=>a.k<b.k:=by rw[List.take_append_drop];exact h.ks
 have g:=List.pairwise_append.1 j;obtain⟨d,l,_,m⟩:=zTT (room:=room) o (ss.take n) fs (fun s c=>(h.h5 s (mO c)).2.2) (fun s c=>ω1 ((h.h5 s (mO c)).2.1)) (cD9 g.1);refine⟨d,l,⟨fun s c=>?_,g.2.1⟩⟩;have f:=h.h5 s (List.mem_of_mem_drop c);refine⟨f.1,f.2.1,f.2.2.of_eq (m _ fun t i e=>?_)⟩;have p:=g.2.2 t i s c;have q:=(h.h5 t (mO i)).2.1;have:=oK O O e;omega
theorem kV.cutBack{pw:fT}{room:Int}(p:nK pw){ss:List aH}{fs:List (Nm×FD)}(h:kV ss fs)(n:Nat):∃d,cF ((ss.drop n).reverse.map fun s=>aQ.rm (aE s.k)) ⟨pw,room,fs⟩=(0,⟨pw,room,d⟩)∧kV (ss.take n) d∧bC d+((ss.drop n).reverse.map aH.b2).foldl (· + ·) 0<=bC fs:=by
 have l:(ss.take n++ss.drop n).Pairwise fun a b=>a.k<b.k:=by rw[List.take_append_drop];exact h.ks
 have i:=List.pairwise_append.1 l;have f:∀s∈(ss.drop n).reverse,s∈ss:=fun s c=>List.mem_of_mem_drop (List.mem_reverse.1 c)
 obtain⟨d,m,q,o⟩:=zTT (room:=room) p (ss.drop n).reverse fs (fun s c=>(h.h5 s (f s c)).2.2) (fun s c=>ω1 ((h.h5 s (f s c)).2.1)) (List.pairwise_reverse.2 (i.2.1.imp fun h=>O));refine⟨d,m,⟨fun s c=>?_,i.1⟩,by rw[aE6];omega⟩;have g:=h.h5 s (mO c);refine⟨g.1,g.2.1,g.2.2.of_eq (o _ fun t j e=>?_)⟩;have r:=i.2.2 s c t (List.mem_reverse.1 j);have u:=(h.h5 t (f t j)).2.1;have:=oK O O e;omega
theorem kV.snoc{ss:List aH}{fs:List (Nm×FD)}(h:kV ss fs){s:aH}(d:oV s)(e:1<=s.k∧s.k<=999999999)(f:aT6 fs (aE s.k) s.b2)(g:∀t∈ss,t.k<s.k):kV (ss++[s]) fs:=
 ⟨fun t c=>by
  rcases mB.1 c with c|c
  exact h.h5 t c;rw[lY.1 c];exact⟨d,e,f⟩,List.pairwise_append.2 ⟨h.ks,List.pairwise_singleton _ _,fun a i b j=>by rw[lY.1 j];exact g a i⟩⟩
def aC8(j:bQ)(ix t:Int):Bool:=decide (j.b7.1<ix)||(match jC j ix with|some x=>decide (x≠t)|none=>false)
def tV(j:bQ)(ix t:Int):aH:=⟨match j.b0.getLast? with|some x=>x.k+1|none=>1,ix+1,t,[],[((dN (ix+1) t).length:Int)]⟩
def xK(j:bQ)(ix t:Int):Prop:=ix<j.base.1∨bL-2<ix∨t<0∨(ix=j.base.1∧(jC j ix).getD 0≠t)
instance(j:bQ)(ix t:Int):Decidable (xK j ix t):=by unfold xK;infer_instance
def iE(j:bQ)(d:DkD)(ix t:Int)(new:Bool)(s:aH):Int×bQ×DkD:=
 if new=true∧999999999<s.k then(1,j,d) else if new=true∧d.free<((dN (ix+1) t).length:Int) then(52,j,d) else
 let segs:=if new=true then j.b0++[s] else j.b0
 let from_:=gY segs ix segs (if new=true then j.b0 else 0)
 let r:=cF ((if new=true then[.app (aE s.k) (dN (ix+1) t),.sync (aE s.k)] else[])++(segs.take from_).map fun x=>aQ.rm (aE x.k)) d
 (r.1,if r.1=0 then {j with b0:=segs.drop from_} else {j with bad:=r.1},r.2)
theorem kW(j:bQ)(d:DkD)(ix t:Int):bZ j d ix t=if j.bad≠0 then(j.bad,j,d) else if xK j ix t then(1,j,d) else iE j d ix t (aC8 j ix t) (tV j ix t):=rfl
end
section
open Oct
def saveR(j:bQ)(d:DkD)(l:List cD)(ix:Int):Int×bQ×DkD:=
  let n:=dR j.b0 ix j.b0
  let gone:=(j.b0.drop n).reverse
  let freed1:=(gone.map aH.b2).foldl (· + ·) 0
  let do1:=gone.map fun s=>aQ.rm (aE s.k)
  let kept:=j.b0.take n
  let cut:=kept.getLast?.map fun s=>(s,s.ahead ix)
  let freed:=freed1+(match cut with|some (s,c)=>if c.b2<s.b2 then s.b2-c.b2 else 0|none=>0)
  let do2:=match cut with|some (s,c)=>(if c.b2<s.b2 then[aQ.cut (aE s.k) c.b2] else[])|none=>[]
  let kept2:=match cut with|some (_,c)=>kept.dropLast++[c]|none=>kept
  let new:=match cut with|some (_,c)=>decide (600<=c.b2)|none=>true
  let fk:=match cut with|some (s,_)=>s.k+1|none=>1
  let ft:=match cut with|some (_,c)=>c.b7.2|none=>0
  let hd:=dN ix ft
  let s0:aH:=if new=true then⟨fk,ix,ft,[],[(hd:Int)]⟩ else(match cut with|some (_,c)=>c|none=>⟨fk,ix,ft,[],[]⟩)
  let b:=(if new=true then hd else[])++(l.map aZ).flatten
  let s1:=aO s0 l
  let segs:=(if new=true then kept2 else kept2.dropLast)++[s1]
  if 999999999<s1.k then(1,j,d) else if IntKind.i64.wrap (d.free+freed)<(b:Int) then(52,j,d) else
  let r:=cF (do1++do2++[.app (aE s1.k) b,.sync (aE s1.k)]) d
  (r.1,if r.1=0 then {j with b0:=segs} else {j with bad:=r.1},r.2)
theorem uD{j:bQ}{d:DkD}{l:List cD}{e0:cD}{r:List cD}(a:j.bad=0)(c:nG j l=0)(b:l=e0::r):cP j d l=saveR j d l e0.ix:=by
 subst b;unfold cP;rw[if_neg (by rw[a];simp),if_neg (by rw[c];simp)];rfl
def fI(j:bQ)(k:Nat):List aH:=(j.b0.drop k).reverse
theorem yM{j:bQ}{k:Nat}(h:k<j.b0):fI j k=fI j (k+1)++[j.b0[k]]:=by
 unfold fI;rw[List.drop_eq_getElem_cons h,List.reverse_cons]
def eY(j:bQ)(k:Nat):Int:=((fI j k).map aH.b2).foldl (· + ·) 0
theorem vY{j:bQ}{k:Nat}(h:k<j.b0):eY j k=eY j (k+1)+j.b0[k].b2:=by
 unfold eY;rw[yM h,mE,List.foldl_append];rfl
theorem uS{j:bQ}(b:∀s∈j.b0,0<=s.b2∧s.b2<=1000000000000)(n:Nat)(c:j.b0=n):∀i,i<=n->0<=eY j (n-i)∧eY j (n-i)<=i*1000000000000
 |0,_=>by
  unfold eY fI;rw[Nat.sub_zero,List.drop_eq_nil_of_le O];simp
 |i+1,hi=>by
  have d:=uS b n c i O;have a:n-(i+1)<j.b0.length:=O;rw[vY a,show n-(i+1)+1=n-i by omega];have:=b _ (lX a);omega
def jJ(j:bQ)(d:DkD)(l:List cD)(do12:List aQ)(freed:Int)(K:List aH)(s0:aH)(bh:List UInt8):Int×bQ×DkD:=
 if 999999999<(aO s0 l).k then(1,j,d) else if IntKind.i64.wrap (d.free+freed)<((bh++(l.map aZ).flatten).length:Int) then(52,j,d) else
  ((cF (do12++[.app (aE (aO s0 l).k) (bh++(l.map aZ).flatten),.sync (aE (aO s0 l).k)]) d).1,if(cF (do12++[.app (aE (aO s0 l).k) (bh++(l.map aZ).flatten),.sync (aE (aO s0 l).k)]) d).1=0 then {j with b0:=K++[aO s0 l]} else {j with bad:=(cF (do12++[.app (aE (aO s0 l).k) (bh++(l.map aZ).flatten),.sync (aE (aO s0 l).k)]) d).1},(cF (do12++[.app (aE (aO s0 l).k) (bh++(l.map aZ).flatten),.sync (aE (aO s0 l).k)]) d).2)
def fV(s c:aH):List aQ:=if c.b2<s.b2 then[aQ.cut (aE s.k) c.b2] else[]
def pD(s c:aH):Int:=if c.b2<s.b2 then s.b2-c.b2 else 0
section
variable{j:bQ}{d:DkD}{l:List cD}{ix:Int}{N:Nat}
theorem pO(b:N=dR j.b0 ix j.b0)(a:j.b0.take N=[]):saveR j d l ix=jJ j d l ((fI j N).map fun s=>aQ.rm (aE s.k)) (eY j N+0) [] ⟨1,ix,0,[],[((dN ix 0).length:Int)]⟩ (dN ix 0):=by
 unfold saveR jJ eY fI;dsimp only;rw[<-b,a];simp only[List.getLast?_nil,Option.map_none,if_true,List.append_nil]
theorem rN(e:N=dR j.b0 ix j.b0){a:List aH}{s c:aH}(b:j.b0.take N=a++[s])(f:c=s.ahead ix)(g:600<=c.b2):saveR j d l ix=jJ j d l ((fI j N).map (fun s=>aQ.rm (aE s.k))++fV s c) (eY j N+pD s c) (a++[c]) ⟨s.k+1,ix,c.b7.2,[],[((dN ix c.b7.2).length:Int)]⟩ (dN ix c.b7.2):=by
 unfold saveR jJ eY fI fV pD;dsimp only;rw[<-e,b];simp only[List.getLast?_append,List.getLast?_singleton,Option.some_or,Option.map_some,List.dropLast_concat,<-f,decide_eq_true g,if_true]
theorem rO(e:N=dR j.b0 ix j.b0){a:List aH}{s c:aH}(b:j.b0.take N=a++[s])(f:c=s.ahead ix)(g:¬600<=c.b2):saveR j d l ix=jJ j d l ((fI j N).map (fun s=>aQ.rm (aE s.k))++fV s c) (eY j N+pD s c) a c []:=by
 unfold saveR jJ eY fI fV pD;dsimp only;rw[<-e,b];simp only[List.getLast?_append,List.getLast?_singleton,Option.some_or,Option.map_some,List.dropLast_concat,<-f,decide_eq_false g,Bool.false_eq_true,if_false]
end
theorem oX:∀(a:List cD) (s:aH) (e:cD),aO s (a++[e])={aO s a with l:=(aO s a).l++[e],a7:=(aO s a).a7++[(aO s a).b2+(aZ e).length]}
 |[],s,e=>rfl
 |x::r,s,e=>by
  show aO _ (r++[e])=_
  rw[oX r];rfl
theorem iB:∀(a:List cD) (s:aH),(aO s a).l=s.l++a∧(aO s a).a7.length=s.a7.length+a
 |[],s=>by simp[aO]
 |x::r,s=>by
  obtain⟨b,c⟩:=iB r {s with l:=s.l++[x],a7:=s.a7++[s.b2+(aZ x).length]};show(aO {s with l:=s.l++[x],a7:=s.a7++[s.b2+(aZ x).length]} r).l=_∧_
  refine⟨by rw[b];simp,?_⟩;show(aO {s with l:=s.l++[x],a7:=s.a7++[s.b2+(aZ x).length]} r).a7.length=_
  rw[c];simp;omega
theorem oW:∀(a:List cD) (s:aH),(aO s a).b2=s.b2+((a.map aZ).flatten.length:Int)
 |[],s=>by simp[aO]
 |x::r,s=>by
  show(aO {s with l:=s.l++[x],a7:=s.a7++[s.b2+(aZ x).length]} r).b2=_
  rw[oW r];have h:aH.b2 {s with l:=s.l++[x],a7:=s.a7++[s.b2+(aZ x).length]}=s.b2+(aZ x).length:=by
   unfold aH.b2;simp
  rw[h];simp only[mG,List.flatten_cons,lT];omega
theorem yK(j:bQ)(N:Nat):eY j N=((j.b0.drop N).map aH.b2).sum:=by
 unfold eY fI;rw[aE6,List.map_reverse,List.sum_reverse];omega
end
section
open Oct
theorem bY0(j:bQ)(l:List cD):nG j l≠50:=by
 unfold nG;split;decide;split<;>decide
section
variable{j:bQ}{pw:fT}{room:Int}{fs:List (Nm×FD)}
theorem bC7:∀(l:List aH) (a:Int),0<=a->(∀s∈l,0<=s.b2)->0<=(l.map aH.b2).foldl (· + ·) a
 |[],a,h,_=>h
 |s::r,a,h,hl=>bC7 r (a+s.b2) (ω1 (hl s (List.mem_cons_self ..))) fun x hx=>hl x (List.mem_cons_of_mem _ hx)
theorem aA2(M:0<=room∧room<=9223372036854775807)(P:bC fs<=9223372036854775807)(h:RI j ⟨pw,room,fs⟩){do12:List aQ}{c:List (Nm×FD)}(i:cF do12 ⟨pw,room,fs⟩=(0,⟨pw,room,c⟩)){K:List aH}(n:kV K c){s0:aH}(B:oV s0)(y:1<=s0.k)(m:∀t∈K,t.k<s0.k)(d:List UInt8)(D:s0.b2<=(((aX (aE s0.k) c).getD ⟨[],0⟩).b.length:Int)+d.length)(a:Int)(F:0<=a)(L:bC c+a<=bC fs)(l:List cD):
  xY (if 999999999<(aO s0 l).k then(1,j,⟨pw,room,fs⟩) else if IntKind.i64.wrap (DkD.free ⟨pw,room,fs⟩+a)<((d++(l.map aZ).flatten).length:Int) then(52,j,⟨pw,room,fs⟩) else
   ((cF (do12++[.app (aE (aO s0 l).k) (d++(l.map aZ).flatten),.sync (aE (aO s0 l).k)]) ⟨pw,room,fs⟩).1,if(cF (do12++[.app (aE (aO s0 l).k) (d++(l.map aZ).flatten),.sync (aE (aO s0 l).k)]) ⟨pw,room,fs⟩).1=0 then {j with b0:=K++[aO s0 l]} else {j with bad:=(cF (do12++[.app (aE (aO s0 l).k) (d++(l.map aZ).flatten),.sync (aE (aO s0 l).k)]) ⟨pw,room,fs⟩).1},(cF (do12++[.app (aE (aO s0 l).k) (d++(l.map aZ).flatten),.sync (aE (aO s0 l).k)]) ⟨pw,room,fs⟩).2)) j ⟨pw,room,fs⟩:=by
 have o:nK pw:=h.calm;obtain⟨x,z⟩:=oV.add l B;rw[(lM l s0).1];split;exact xY.same h δ;rename_i I;split;exact xY.same h δ;rename_i A;have r:DkD.free ⟨pw,room,fs⟩=room-bC fs:=rfl;have N:=dD c;rw[r,mH _ O] at A;obtain⟨E,s,⟨f,u,v⟩,w⟩:=sV (room:=room) o (bP8 s0.k ⟨y,O⟩) (d++(l.map aZ).flatten) (fs:=c) O;rw[rB _ _ _ (by rw[i]),i,s];refine⟨⟨?_,o,?_⟩,.inl rfl⟩;rw[if_pos rfl];exact h.bad;rw[if_pos rfl];have g:=(lM l s0).1;refine(n.b1 fun q p=>w _ fun e=>?_).snoc x (by rw[g];omega) ⟨f,by rw[g];exact u,?_⟩ (fun t C=>by rw[g];exact m t C);have G:=(n.h5 q p).2.1;have H:=m q p;have:=oK O O e;omega;rw[z,v];rw[lT];omega
theorem bK4(Q:0<=room∧room<=9223372036854775807)(R:bC fs<=9223372036854775807)(h:RI j ⟨pw,room,fs⟩)(l:List cD):xY (cP j ⟨pw,room,fs⟩ l) j ⟨pw,room,fs⟩:=by
 have V:nK pw:=h.calm;unfold cP;rw[if_neg (by rw[h.bad];simp)];split;exact xY.same h (bY0 j l);cases l with
 |nil=>exact xY.same h δ
 |cons a r=>
  simp only;obtain⟨L,U⟩:=eX (a::r);rw[<-U];clear U;obtain⟨n,p⟩:=eX (dR j.b0 a.ix j.b0);rw[<-p];clear p;have m5:kV j.b0 fs:=h.b0;obtain⟨F,x,o,h3⟩:=m5.cutBack (room:=room) V n;obtain⟨B,N⟩:=eX (((j.b0.drop n).reverse.map aH.b2).foldl (· + ·) 0);have m8:0<=B:=by rw[N];exact bC7 _ 0 O fun s hs=>(m5.h5 s (List.mem_of_mem_drop (List.mem_reverse.1 hs))).1.j4
  rw[<-N] at h3⊢;obtain⟨W,Y⟩:=eX ((j.b0.drop n).reverse.map fun s=>aQ.rm (aE s.k));rw[<-Y] at x⊢;clear N Y;rcases mJ (j.b0.take n) with D|⟨E,s,D⟩
  rw[D] at o⊢;simp only[List.getLast?_nil,Option.map_none,if_true,List.append_nil];exact aA2 Q R h (do12:=W) x (K:=[]) o (s0:=⟨1,a.ix,0,[],[((dN a.ix 0).length:Int)]⟩) ⟨List.pairwise_singleton _ _,fun n p=>by rw[lY.1 p];omega,rfl⟩ (by show(1:Int)<=1;omega) (fun t d=>by cases d) (dN a.ix 0) (by show((dN a.ix 0).length:Int)<=_;omega) (B+0) O O L;rw[mA] at D;rw[D] at o⊢;simp only[List.getLast?_append,List.getLast?_singleton,Option.some_or,Option.map_some,List.dropLast_concat];have w:=o.h5 s σ;have m3:=List.pairwise_append.1 o.ks;obtain⟨C,m7,i⟩:=w.1.ahead a.ix;obtain⟨c,X⟩:=eX (s.ahead a.ix);rw[<-X] at C m7 i⊢;clear X;have m6:=C.j4;have P:kV E F:=⟨fun q u=>o.h5 q (by simp[u]),m3.1⟩;have z:=fun q u=>m3.2.2 q u s σ
  have j9:∃v,cF (W++(if c.b2<s.b2 then[aQ.cut (aE s.k) c.b2] else[])) ⟨pw,room,fs⟩=(0,⟨pw,room,v⟩)∧kV E v∧aT6 v (aE s.k) c.b2∧bC v+(B+(if c.b2<s.b2 then s.b2-c.b2 else 0))<=bC fs:=by
   obtain⟨f,I,m9⟩:=w.2.2;by_cases g:c.b2<s.b2;rotate_left;rw[if_neg g,if_neg g,List.append_nil];exact⟨F,x,P,⟨f,I,O⟩,O⟩;rw[if_pos g,if_pos g];have y:=bG6 (room:=room) V I (k:=c.b2) ⟨m6,O⟩;obtain⟨A,M⟩:∃A:FD,A=⟨f.b.take c.b2.toNat,min f.b5 c.b2.toNat⟩:=⟨_,rfl⟩
   rw[<-M] at y;refine⟨aW (aE s.k) A F,?_,?_,⟨A,nZ _ _ _,?_⟩,?_⟩;rw[rB _ _ _ (by rw[x]),x,gE];dsimp only;rw[y,if_pos rfl];rfl;refine P.b1 fun q u=>lE (fun e=>?_) _ _
   have G:=z q u;have H:=(P.h5 q u).2.1;have:=oK O O e;omega;rw[M];simp only[lV];omega;rw[yS];have T:=iG I;rw[M];simp only[lV];omega
  obtain⟨v,S,y,G,H⟩:=j9;have Z:0<=B+(if c.b2<s.b2 then s.b2-c.b2 else 0):=by split<;>omega
  by_cases m:600<=c.b2;rw[decide_eq_true m];simp only[if_true];have:=aA2 Q R h S (K:=E++[c]) (y.snoc C (by rw[i];exact w.2.1) (by rw[i];exact G) (fun t d=>by rw[i];exact z t d)) (s0:=⟨s.k+1,a.ix,c.b7.2,[],[((dN a.ix c.b7.2).length:Int)]⟩) ⟨List.pairwise_singleton _ _,fun n p=>by rw[lY.1 p];omega,rfl⟩ (by show 1<=s.k+1;have:=w.2.1;omega) (fun t d=>by
   show t.k<s.k+1
   rcases mB.1 d with d|d
   have:=z t d;omega;rw[lY.1 d,i];omega) (dN a.ix c.b7.2) (by show((dN a.ix c.b7.2).length:Int)<=_;omega) _ Z H L
  exact this;rw[decide_eq_false m];simp only[Bool.false_eq_true,if_false];obtain⟨f,T,h9⟩:=G;exact aA2 Q R h S (K:=E) y (s0:=c) C (by rw[i];exact w.2.1.1) (fun t d=>by rw[i];exact z t d) [] (by rw[i,T];simp only[Option.getD_some,List.length_nil];omega) _ Z H L
end
end
section
open Oct
theorem eW(a b:List aQ):cO (a++b)=cO a+cO b:=by unfold cO;rw[mE,List.sum_append]
theorem jY(l:List aH):cO (l.map fun s=>aQ.rm (aE s.k))=0:=by
 induction l with
 |nil=>rfl
 |cons x r ih=>unfold cO at ih⊢;rw[mG,mG,List.sum_cons,ih];rfl
theorem uN(s c:aH):cO (fV s c)=0:=by
 unfold fV;split<;>rfl
theorem aE8{f t:Int}(e:f<=9223372036854775807)(b:I6 t):(dN f t).length<=1048600:=by
 refine dF ?_;have c:(nD f).length<=10:=by
  unfold nD;split;simp;exact dG _ O
 have d:(dL [t]).length<=10:=fK (z:=[t]) (by intro n a;obtain rfl:=lY.1 a;exact b);rw[lT];omega
theorem aH.k6{s:aH}(h:gU s):I6 s.b7.2:=by
 unfold aH.b7;rcases mJ s.l with a|⟨r,e,a⟩
 rw[a];exact h.c6;rw[mA] at a;have:=h.l0 e (by rw[a];simp);rw[a];simp only[List.getLast?_append,List.getLast?_singleton,Option.some_or];exact this.2.1
theorem gU.l4{s:aH}(h:gU s)(ix:Int):gU (s.ahead ix):=⟨h.k,h.a8,h.c6,fun e a=>h.l0 e (mO a),fun n b=>h.a7 n (mO b)⟩
theorem saveJ_shape(j:bQ)(d:DkD)(l:List cD)(x:∀s∈j.b0,gU s)(y:∀e∈l,e.ix<=9223372036854775807):(∃c,cP j d l=(c,j,d))∨∃(ix:Int) (do12:List aQ) (w:Int) (K:List aH) (s0:aH) (o:List UInt8),cP j d l=jJ j d l do12 w K s0 o∧cO do12=0∧o.length<=1048600∧K.length<=j.b0∧(∀s∈K,s∈j.b0∨∃t∈j.b0,s=t.ahead ix)∧((∃t∈j.b0,s0=t.ahead ix)∨s0.l=[]):=by
 by_cases g:j.bad=0;rotate_left;refine .inl ⟨j.bad,?_⟩;unfold cP;rw[if_pos g];by_cases m:nG j l=0;cases l with
 |nil=>
  refine .inl ⟨0,?_⟩;unfold cP;rw[if_neg (by rw[g];simp),if_neg (by rw[m];simp)]
 |cons e0 r=>
  have hx:=y e0 (List.mem_cons_self ..);have h:=uD (d:=d) g m (rfl:e0::r=e0::r);obtain⟨N,i⟩:=eX (dR j.b0 e0.ix j.b0);have n:∀s∈j.b0.take N,s∈j.b0:=fun s f=>mO f
  rcases mJ (j.b0.take N) with b|⟨v,s,b⟩
  exact .inr ⟨e0.ix,_,_,_,_,_,h.trans (pO i b),jY _,aE8 hx O,σ,(fun s f=>by cases f),.inr rfl⟩;rw[mA] at b;have f:=n s (by rw[b];simp);have z:v.length+1<=j.b0:=by
   have:=congrArg List.length b;rw[lV,lT] at this;simp at this;omega
  have q:∀t∈v,t∈j.b0:=fun t a=>n t (by rw[b];simp[a])
  have p:cO ((fI j N).map (fun s=>aQ.rm (aE s.k))++fV s (s.ahead e0.ix))=0:=by rw[eW,jY,uN]
  by_cases u:600<=(s.ahead e0.ix).b2;refine .inr ⟨e0.ix,_,_,_,_,_,h.trans (rN i b rfl u),p,aE8 hx (aH.k6 ((x s f).l4 _)),θ,fun t a=>?_,.inr rfl⟩;rcases mB.1 a with a|a
  exact .inl (q t a);exact .inr ⟨s,f,lY.1 a⟩;exact .inr ⟨e0.ix,_,_,_,_,_,h.trans (rO i b rfl u),p,σ,O,fun t a=>.inl (q t a),.inl ⟨s,f,rfl⟩⟩
 refine .inl ⟨nG j l,?_⟩;unfold cP;rw[if_neg (by rw[g];simp),if_pos m]
theorem bA0(j:bQ)(d:DkD)(l:List cD)(do12:List aQ)(b:Int)(K:List aH)(s0:aH)(a:List UInt8):((jJ j d l do12 b K s0 a).2.1.b0=j.b0∨(jJ j d l do12 b K s0 a).2.1.b0=K++[aO s0 l])∧((jJ j d l do12 b K s0 a).2.2=d∨(jJ j d l do12 b K s0 a).2.2=(cF (do12++[.app (aE (aO s0 l).k) (a++(l.map aZ).flatten),.sync (aE (aO s0 l).k)]) d).2):=by
 unfold jJ;split;exact⟨.inl rfl,.inl rfl⟩;split;exact⟨.inl rfl,.inl rfl⟩;refine⟨?_,.inr rfl⟩;dsimp only;split;exact .inr rfl;exact .inl rfl
def rbD(k:Nat):Nat:=k*14000000
def cC0(k:Nat):Nat:=k*1048576
theorem aP8(k:Nat):rbD (k+1)=rbD k+14000000:=Nat.succ_mul k 14000000
theorem aQ0(k:Nat):cC0 (k+1)=cC0 k+1048576:=Nat.succ_mul k 1048576
theorem aP7{k a :Nat}(h:k<=a):rbD k<=rbD a :=Nat.mul_le_mul_right _ h
theorem aP9{k a :Nat}(h:k<=a):cC0 k<=cC0 a :=Nat.mul_le_mul_right _ h
structure RB(k:Nat)(j:bQ)(d:DkD):Prop where
 dk:gP (rbD k) d
 len:j.b0<=k
 l0:∀s∈j.b0,s.l<=cC0 k
theorem RB.mono{k b :Nat}{j:bQ}{d:DkD}(h:RB k j d)(a:k<=b):RB b j d:=
 ⟨h.dk.mono (aP7 a),mM h.len a,fun s c=>mM (h.l0 s c) (aP9 a)⟩
theorem aD7(s:aH)(ix:Int):(s.ahead ix).l.length<=s.l.length:=by
 show(s.l.take _).length<=_
 rw[lV];omega
theorem RB.save{k:Nat}{j:bQ}{d:DkD}(h:RB k j d)(l:List cD)(m:∀s∈j.b0,gU s)(n:∀e∈l,e.ix<=9223372036854775807)(q:l.length<=1048576)(r:(l.map aZ).flatten.length<=12600000):RB (k+1) (cP j d l).2.1 (cP j d l).2.2:=by
 rcases saveJ_shape j d l m n with⟨c,hc⟩|⟨ix,do12,fr,K,s0,bh,he,hc,hb,hK,a8,h0⟩
 rw[hc];exact h.mono O;rw[he];obtain⟨a,f⟩:=bA0 j d l do12 fr K s0 bh;have o:s0.l<=cC0 k:=by
  rcases h0 with⟨t,g,rfl⟩|h0
  exact mM (aD7 t ix) (h.l0 t g);rw[h0];simp
 have hx:=aQ0 k;have p:=aP8 k;refine⟨?_,?_,fun s b=>?_⟩;rcases f with f|f
 rw[f];exact h.dk.mono O;rw[f];refine(gP.runs _ h.dk).mono ?_;rw[eW,hc];have:cO [aQ.app (aE (aO s0 l).k) (bh++(l.map aZ).flatten),.sync (aE (aO s0 l).k)]=(bh++(l.map aZ).flatten).length+1:=by simp[cO,aQ.cost]
 rw[this,lT];omega;rcases a with a|a
 rw[a];have:=h.len;omega;rw[a,lT];have:=h.len;simp;omega;rcases a with a|a
 rw[a] at b;have:=h.l0 s b;omega;rw[a] at b;rcases mB.1 b with b|b
 rcases a8 s b with i|⟨t,g,rfl⟩
 have:=h.l0 s i;omega;have:=h.l0 t g;have:=aD7 t ix;omega;rw[lY.1 b,(iB l s0).1,lT];omega
theorem RB.setMeta{k:Nat}{j:bQ}{d:DkD}(h:RB k j d)(t v:Int)(p:I6 t)(q:I6 v):RB (k+1) (bP j d t v).2.1 (bP j d t v).2.2:=by
 have w:(gR t v).length<=1048600:=by
  refine dF ?_;have:=fK (z:=[t,v]) (by
   intro n g;simp only[List.mem_cons,List.not_mem_nil,or_false] at g;rcases g with rfl|rfl
   exact p;exact q)
  simp at this;omega
 have hx:=aQ0 k;have x:=aP8 k;unfold bP;split;exact h.mono O;split;exact h.mono O;obtain⟨a,b⟩:=eX ((if(d.read aJ).2=0 then[aQ.rm aJ] else[])++[aQ.app aJ (gR t v),.sync aJ,.ren]);dsimp only;rw[<-b];have u:cO a<=1048601:=by
  rw[b,eW];have i:cO (if(d.read aJ).2=0 then[aQ.rm aJ] else[])=0:=by split<;>rfl
  have l:cO [aQ.app aJ (gR t v),.sync aJ,.ren]=(gR t v).length+1:=by simp[cO,aQ.cost]
  rw[i,l];omega
 have f:gP (rbD (k+1)) (cF a d).2:=(gP.runs a h.dk).mono O;clear b;split;exact h.mono O;obtain⟨r,m⟩:=eX (cF a d);rw[<-m] at f⊢;have e:(if r.1=0 then(⟨t,v,j.b0,0⟩:bQ) else {j with bad:=r.1}).b0=j.b0:=by split<;>rfl
 refine⟨f,?_,fun s o=>?_⟩;show(if r.1=0 then(⟨t,v,j.b0,0⟩:bQ) else {j with bad:=r.1}).b0.length<=_
 rw[e];have:=h.len;omega;have c:s∈(if r.1=0 then(⟨t,v,j.b0,0⟩:bQ) else {j with bad:=r.1}).b0:=o;rw[e] at c;have:=h.l0 s c;omega
end
section
open Oct
theorem oV.ends_le{s:aH}(h:oV s):s.a7≠[]∧∀n∈s.a7,0<=n∧n<=s.b2:=⟨h.ne,fun n a=>⟨h.pos n a,tQ h.rise n a⟩⟩
theorem RI.long_le{j:bQ}{d:DkD}(h:RI j d):∀s∈j.b0,0<=s.b2∧s.b2<=bC d.fs:=fun s g=>by
 obtain⟨e,_,f,a,c⟩:=h.b0.h5 s g;have b:=fR (bY a);simp only at b;exact⟨e.j4,O⟩
structure bB6(j:bQ)(d:DkD):Prop where
 h5:j.b0.length<=1000000
 ks:∀s∈j.b0,1<=s.k∧s.k<=999999999
 b2:∀s∈j.b0,s.l.length<=100000000∧0<=s.b2∧s.b2<=1000000000000
 a7:∀s∈j.b0,s.a7≠[]∧∀n∈s.a7,0<=n∧n<=1000000000000
theorem aY2{k:Nat}(h:k<=90):rbD k<=1260000000:=aP7 h
theorem cC1{k:Nat}(h:k<=90):cC0 k<=94371840:=aP9 h
theorem RI.pre{j:bQ}{d:DkD}{k:Nat}(h:RI j d)(b:RB k j d)(e:k<=90):bB6 j d:=by
 have g:=b.dk.sz;have i:=aY2 e;have l:=cC1 e;have m:=b.len;refine⟨O,fun s a=>(h.b0.h5 s a).2.1,fun s a=>?_,fun s a=>?_⟩;have:=b.l0 s a;have:=h.long_le s a;omega;have c:=(h.b0.h5 s a).1.ends_le;have o:=h.long_le s a;refine⟨c.1,fun n f=>?_⟩;have:=c.2 n f;omega
theorem aW0{e:cD}(f:I6 e.tm)(d:I6 e.kd):(aZ e).length<=e.b+60:=by
 unfold aZ;have c:=fK (z:=[e.tm,e.kd]) (by
  intro n a;simp only[List.mem_cons,List.not_mem_nil,or_false] at a;rcases a with rfl|rfl
  exact f;exact d)
 have g:(nU e.b).length<=e.b+10∧(nU e.b).length<=65545:=by
  unfold nU;split;simp;have:=dG e.b O;rw[lT];omega
 simp at c;have h:(dL [e.tm,e.kd]++nU e.b).length<=e.b+30∧(dL [e.tm,e.kd]++nU e.b).length<=70000:=by rw[lT];omega
 rw[jG O,lT,lT,Crc.four_length];have:=dG (dL [e.tm,e.kd]++nU e.b).length O;omega
theorem sL:∀(l:List cD),(∀e∈l,(I6 e.tm)∧(I6 e.kd))->(l.map aZ).flatten.length<=(l.map fun e=>e.b.length+5).sum*12
 |[],_=>by simp
 |e::r,h=>by
  have c:=sL r (fun x hx=>h x (List.mem_cons_of_mem _ hx));have a:=h e (List.mem_cons_self ..);have d:=aW0 a.1 a.2;simp only[mG,List.flatten_cons,lT,List.sum_cons];omega
end
section
open Oct
def cF0(f t:Int):List UInt8:=nD f++dL [t]
def cE9(e:cD):List UInt8:=dL [e.tm,e.kd]++nU e.b
structure bV3(e:cD):Prop where
 tm:0<=e.tm∧e.tm<=9223372036854775807
 kd:0<=e.kd∧e.kd<=9223372036854775807
 b:e.b.length<=65535
theorem bX4{f t:Int}(e:f<=9223372036854775807)(b:I6 t):(cF0 f t).length<=20:=by
 have c:(nD f).length<=10:=by
  unfold nD;split;simp;exact dG _ O
 have d:(dL [t]).length<=10:=fK (z:=[t]) (by intro n a;obtain rfl:=lY.1 a;exact b);unfold cF0;rw[lT];omega
theorem bW8{e:cD}(h:bV3 e):(cE9 e).length<=70000:=by
 have c:=fK (z:=[e.tm,e.kd]) (by
  intro n a;simp only[List.mem_cons,List.not_mem_nil,or_false] at a;rcases a with rfl|rfl
  exact⟨ω1 h.tm,h.tm.2⟩;exact⟨ω1 h.kd,h.kd.2⟩)
 have d:(nU e.b).length<=65545:=by
  unfold nU;split;simp;have:=dG e.b (ω1 h.b);have:=h.b;rw[lT];omega
 simp at c;unfold cE9;rw[lT];omega
theorem bC6(f t k:Int)(l:List cD)(a:List Int)(hi:∀i (h:i<l.length),l[i].ix=f+i):(aH.b7 ⟨k,f,t,l,a⟩).1=f+l-1:=by
 rcases mJ l with rfl|⟨r,x,rfl⟩
 simp[aH.b7];rw[mA] at hi⊢;have b:=hi r σ;simp only[List.getElem_concat_length] at b;unfold aH.b7;simp only[List.getLast?_append,List.getLast?_singleton,Option.some_or,lT,List.length_singleton];rw[b];omega
end
section
open Go.RowKit Go.Maps Oct
theorem aA8(n:Nm):(bU n).data.toList=n:=by simp[bU]
theorem iY.longB{w:World}{F:Nat->Prop}{b:Addr}{s:aH}(h:iY w F b s):0<=s.b2∧s.b2<=4611686018427387904:=by
 unfold aH.b2;rcases mJ s.a7 with c|⟨r,x,a⟩
 rw[c];simp;rw[mA] at a;have:=h.rd.num.a7 x (by rw[a];simp);rw[a];simpa using this
section
variable{w:World}{base g m gj:Nat}{p:fT}{room:Int}{es:List (Nm×FE)}
theorem bX7(h:aV w base g m p room es)(n:Nm)(I:n.length<=1000)(b c:Nat)(i:w.cell? (b,0)=some (.pointer (gj,0)))(j:w.cell? (c,0)=some (.string (bU n)))(l:w.cell? (gj,3)=some (.pointer (g,0)))(A:∀k,k=b∨k=c∨k=gj->¬aI g m es k):
  Calls Tryz.prog 96 #[(b,0),(c,0)] w fun e r =>e=.returned (.int .i64 ((aQ.rm n).run (bH p room es)).1)∧bG w base g m es ((aQ.rm n).run (bH p room es)).2 r :=by
 have d:=J (aN2 (h.a1 (aD (lS _ w) 1)) (bU n) (by rw[fL];omega));rw[aA8] at d;obtain⟨R,y⟩:=eX ((aQ.rm n).run (bH p room es));change Hq (Calls _ _ _ _ fun e r =>e=.returned (.int .i64 ((aQ.rm n).run (bH p room es)).1)∧bG _ base g m es ((aQ.rm n).run (bH p room es)).2 r) at d;rw[<-y] at d⊢;have q:=J A;have B:=J (Fr.b9 (aI g m es) (aD (lS _ w) 1));have C:=mI w (b,0) i;have D:=mI w (c,0) j;have E:=mI w (gj,3) l;clear y h A;go_enter Tryz.func96,Tryz.ntmps96;go_wp2_with fail;refine wp_region_held_drew (S:=fun W=>W.cell? ⟨b,0,none⟩=some (.pointer (some ⟨gj,0,none⟩))∧W.cell? ⟨c,0,none⟩=some (.string (bU n))∧W.cell? ⟨gj,3,none⟩=some (.pointer (some ⟨g,0,none⟩))∧True) κ ⟨i,j,l,trivial⟩ (fun a=>?_);refine zT 0 (k:=zT 1 (k:=zT 2 (k:=zT 3 (k:=zT 4 (k:=?_)))));simp only[zA,zB,zF,zG,zC,zD,zE];refine zV 5 (k:=fun K x=>?_);simp only[zA,zB];go_simp;refine(show Calls _ _ _ w.drew _ from d.o).mono ?_;rintro e H ⟨rfl,z⟩;have s:=J (bG.step B.o (fun k G=>.inl G) z);have f:Fr (aI g m es) w H:=by
  obtain⟨_,_,_,F,_⟩:=s.o;exact F
 have t:=(mK (f.block b C (q.o _ (.inl rfl)))).trans i;have u:=(mK (f.block c D (q.o _ (.inr (.inl rfl))))).trans j;have v:=(mK (f.block gj E (q.o _ (.inr (.inr rfl))))).trans l;clear z f d;refine x.out _ _ ⟨t,u,v,trivial⟩ (fun a=>?_);clear x K;try simp only[zF,zG,zC,zD,zE]
 refine zT 6 (k:=?_);simp only[zA,zB,zF,zG,zC,zD,zE];refine wpAnyH_done κ ?_ _;clear i j l t u v;go_wp2;go_ret;exact⟨rfl,s.o⟩
theorem bH5(h:aV w base g m p room es)(n:Nm)(I:n.length<=1000)(b c:Nat)(i:w.cell? (b,0)=some (.pointer (gj,0)))(j:w.cell? (c,0)=some (.string (bU n)))(l:w.cell? (gj,3)=some (.pointer (g,0)))(A:∀k,k=b∨k=c∨k=gj->¬aI g m es k):
  Calls Tryz.prog 109 #[(b,0),(c,0)] w fun e r =>e=.returned (.int .i64 ((aQ.sync n).run (bH p room es)).1)∧bG w base g m es ((aQ.sync n).run (bH p room es)).2 r :=by
 have d:=J (bE9 (h.a1 (aD (lS _ w) 1)) (bU n) (by rw[fL];omega));rw[aA8] at d;obtain⟨R,y⟩:=eX ((aQ.sync n).run (bH p room es));change Hq (Calls _ _ _ _ fun e r =>e=.returned (.int .i64 ((aQ.sync n).run (bH p room es)).1)∧bG _ base g m es ((aQ.sync n).run (bH p room es)).2 r) at d;rw[<-y] at d⊢;have q:=J A;have B:=J (Fr.b9 (aI g m es) (aD (lS _ w) 1));have C:=mI w (b,0) i;have D:=mI w (c,0) j;have E:=mI w (gj,3) l;clear y h A;go_enter Tryz.func109,Tryz.ntmps109;go_wp2_with fail;refine wp_region_held_drew (S:=fun W=>W.cell? ⟨b,0,none⟩=some (.pointer (some ⟨gj,0,none⟩))∧W.cell? ⟨c,0,none⟩=some (.string (bU n))∧W.cell? ⟨gj,3,none⟩=some (.pointer (some ⟨g,0,none⟩))∧True) κ ⟨i,j,l,trivial⟩ (fun a=>?_);refine zT 0 (k:=zT 1 (k:=zT 2 (k:=zT 3 (k:=zT 4 (k:=?_)))));simp only[zA,zB,zF,zG,zC,zD,zE];refine zV 5 (k:=fun K x=>?_);simp only[zA,zB];go_simp;refine(show Calls _ _ _ w.drew _ from d.o).mono ?_;rintro e H ⟨rfl,z⟩;have s:=J (bG.step B.o (fun k G=>.inl G) z);have f:Fr (aI g m es) w H:=by
  obtain⟨_,_,_,F,_⟩:=s.o;exact F
 have t:=(mK (f.block b C (q.o _ (.inl rfl)))).trans i;have u:=(mK (f.block c D (q.o _ (.inr (.inl rfl))))).trans j;have v:=(mK (f.block gj E (q.o _ (.inr (.inr rfl))))).trans l;clear z f d;refine x.out _ _ ⟨t,u,v,trivial⟩ (fun a=>?_);clear x K;try simp only[zF,zG,zC,zD,zE]
 refine zT 6 (k:=?_);simp only[zA,zB,zF,zG,zC,zD,zE];refine wpAnyH_done κ ?_ _;clear i j l t u v;go_wp2;go_ret;exact⟨rfl,s.o⟩
theorem bQ3(h:aV w base g m p room es)(n:Nm)(hn:n.length<=1000)(l:List UInt8)(A:Option Addr)(c i j r:Nat)(u:w.cell? (i,0)=some (.pointer (gj,0)))(v:w.cell? (j,0)=some (.string (bU n)))(y:w.cell? (r,0)=some (.slice A l c))(x:w.cell? (gj,3)=some (.pointer (g,0)))(Z:∀k,k=i∨k=j∨k=r∨k=gj->¬aI g m es k)
  (hr:Rd w w A (cells l)) (j9:l<=c) (hl:l.length<=274877906944) (j6:∀q∈es,q.2.f.b.length<=549755813888) (j8:bC (bI FE.f es)<=4611686018427387904) (i6:es.length<4398046511104):
  Calls Tryz.prog 117 #[(i,0),(j,0),(r,0)] w fun e C =>e=.returned (.int .i64 ((aQ.app n l).run (bH p room es)).1)∧bG w base g m es ((aQ.app n l).run (bH p room es)).2 C :=by
 have d:Below w w (w.drew.alloc (.cells #[.slice A l c] 34)):=((lS _ w).drew).alloc σ _;have V:Rd (w.drew.alloc (.cells #[.slice A l c] 34)) (w.drew.alloc (.cells #[.slice A l c] 34)).heap.size (w,0) ([⟨A,l,c⟩].map dK.val):=by
  have h1:=cS w.drew 34 [.slice A l c];exact(show Rd _ _ _ _ from h1).more σ
 have i4:xI (w.drew.alloc (.cells #[.slice A l c] 34)) (w.drew.alloc (.cells #[.slice A l c] 34)).heap.size [⟨A,l,c⟩]:=fun q hq=>by
  obtain rfl:=lY.1 hq;exact⟨(hr.a1 d).more d.size,by show l.length<=_;omega⟩
 have s:=J (vR (h.a1 d) (bU n) (by rw[fL];omega) (w,0) [⟨A,l,c⟩] 1 V i4 σ σ (by simp[bR];omega) j6 j8 i6);rw[aA8] at s;obtain⟨R,X⟩:=eX ((aQ.app n l).run (bH p room es));change Hq (Calls _ _ _ _ fun e C =>e=.returned (.int .i64 ((aQ.app n l).run (bH p room es)).1)∧bG _ base g m es ((aQ.app n l).run (bH p room es)).2 C) at s;rw[<-X] at s⊢;have B:=J Z;have HB:=J (Fr.b9 (aI g m es) d);have I:=mI w (i,0) u;have Q:=mI w (j,0) v;have U:=mI w (gj,3) x;have T:=mI w (r,0) y;have L:=(d.cell (p:=(i,0)) I).trans u;have M:=(d.cell (p:=(j,0)) Q).trans v;have N:=(d.cell (p:=(gj,3)) U).trans x;have P:=(d.cell (p:=(r,0)) T).trans y;clear X h Z V i4 hr d;go_enter Tryz.func117,Tryz.ntmps117;go_wp2_with fail;refine wp_region_held_drew (S:=fun W=>W.cell? ⟨i,0,none⟩=some (.pointer (some ⟨gj,0,none⟩))∧W.cell? ⟨j,0,none⟩=some (.string (bU n))∧W.cell? ⟨gj,3,none⟩=some (.pointer (some ⟨g,0,none⟩))∧W.cell? ⟨r,0,none⟩=some (.slice A l c)) κ ⟨u,v,x,y⟩ (fun a=>?_);refine zT 0 (k:=zT 1 (k:=zT 2 (k:=zT 3 (k:=zT 4 (k:=zT 5 (k:=?_))))));simp only[zA,zB,zF,zG,zC,zD,zE];refine zV 6 (k:=fun K z=>?_);simp only[zA,zB];go_simp;refine z.out _ _ ⟨L,M,N,P⟩ (fun a=>?_);clear z K;try simp only[zF,zG,zC,zD,zE]
 refine zV 7 (k:=fun K z=>?_);simp only[zA,zB];go_simp;refine s.o.mono ?_;rintro e w1 ⟨rfl,Y⟩;have D:=J (bG.step HB.o (fun k hk=>.inl hk) Y);have t:Fr (aI g m es) w w1:=by
  obtain⟨_,_,_,h3,_⟩:=D.o;exact h3
 have E:=(mK (t.block i I (B.o _ (.inl rfl)))).trans u;have F:=(mK (t.block j Q (B.o _ (.inr (.inl rfl))))).trans v;have G:=(mK (t.block gj U (B.o _ (.inr (.inr (.inr rfl)))))).trans x;have H:=(mK (t.block r T (B.o _ (.inr (.inr (.inl rfl)))))).trans y;clear Y t s L M N P;refine z.out _ _ ⟨E,F,G,H⟩ (fun a=>?_);clear z K;try simp only[zF,zG,zC,zD,zE]
 refine zT 8 (k:=?_);simp only[zA,zB,zF,zG,zC,zD,zE];refine wpAnyH_done κ ?_ _;clear u v x y E F G H;go_wp2;go_ret;exact⟨rfl,D.o⟩
theorem bQ4(h:aV w base g m p room es)(c:Nat)(j:w.cell? (c,0)=some (.pointer (gj,0)))(k:w.cell? (gj,3)=some (.pointer (g,0)))(a8:es.length<4398046511104):
  Calls Tryz.prog 70 #[(c,0)] w fun e b =>e=.returned (.int .i64 (aQ.ren.run (bH p room es)).1)∧bG w base g m es (aQ.ren.run (bH p room es)).2 b :=by
 have a:=J (aN3 h ⟨#[109,101,116,97,46,110,101,119]⟩ ⟨#[109,101,116,97]⟩ (by show 8<=_;omega) (by show 4<=_;omega) a8);obtain⟨R,d⟩:=eX (aQ.ren.run (bH p room es));change Hq (Calls _ _ _ _ fun e b =>e=.returned (.int .i64 (aQ.ren.run (bH p room es)).1)∧bG _ base g m es (aQ.ren.run (bH p room es)).2 b) at a;rw[<-d] at a⊢;clear d h;go_enter Tryz.func70,Tryz.ntmps70;go_wp2_with fail;refine a.o.mono ?_;rintro e l ⟨rfl,f⟩;have i:=J f;clear f j k;go_wp2;go_ret;exact⟨rfl,i.o⟩
theorem bG4(h:aV w base g m p room es){E:Nat->Prop}{s:aH}(b j:Nat)(l:iY w E (j,0) s)(H:∀k,E k->k<w.heap.size)(i:w.cell? (b,0)=some (.pointer (g,0)))(M:¬aI g m es b)(P:aM0 w):
  Calls Tryz.prog 54 #[(b,0),(j,0)] w fun e r =>e=.returned (.int .i64 ((aQ.cut (aE s.k) s.b2).run (bH p room es)).1)∧bG w base g m es ((aQ.cut (aE s.k) s.b2).run (bH p room es)).2 r :=by
 have l4:=l.longB;have Y:=l.rd.num.k;have l5:=fJ s.k Y;have v:=J ((l.b1 (w' :=w.drew) (lR _) (fun _ _=>rfl)).nameJ (P.a1 (aD (lS _ w) 1)));have u:=J (fun(f:World) (q:Below w w f)=>(l.b1 q.size (fun k B=>q.block k (H k B))).b2);have d:=J (fun(f:World) (q:Below w w f)=>uO (h.a1 q) (bU (aE s.k)) (by rw[fL];omega) s.b2 O);obtain⟨n,N⟩:=eX (aE s.k);obtain⟨z,Q⟩:=eX s.b2;rw[<-N] at v d⊢;rw[<-Q] at u d⊢;rw[aA8] at d;obtain⟨R,I⟩:=eX ((aQ.cut n z).run (bH p room es));change Hq (∀(f:World) (q:Below w w f),Calls _ _ _ _ fun e r =>e=.returned (.int .i64 ((aQ.cut n z).run (bH p room es)).1)∧bG _ base g m es ((aQ.cut n z).run (bH p room es)).2 r) at d;rw[<-I] at d⊢;have HF:=J M;have x:=mI w (b,0) i;clear I h M l H l4 Y l5 N Q P;go_enter Tryz.func54,Tryz.ntmps54;go_wp2_with fail;refine wp_region_held_drew (S:=fun W=>W.cell? ⟨b,0,none⟩=some (.pointer (some ⟨g,0,none⟩))∧True∧True∧True) κ ⟨i,trivial,trivial,trivial⟩ (fun a=>?_);refine zT 0 (k:=zT 1 (k:=zT 3 (k:=?_)));simp only[zA,zB,zF,zG,zC,zD,zE];refine zV 2 (k:=fun K c=>?_);simp only[zA,zB];go_simp;refine(show Calls _ _ _ w.drew _ from v.o).mono ?_;rintro e Z ⟨rfl,V⟩;have y:Below w w Z:=((lS _ w).drew).trans V;have D:=(y.cell (p:=(b,0)) x).trans i;have t:=J y;clear V y v;refine c.out _ _ ⟨D,trivial,trivial,trivial⟩ (fun a=>?_);clear c K;try simp only[zF,zG,zC,zD,zE]
 refine zV 4 (k:=fun K c=>?_);simp only[zA,zB];go_simp;refine(u.o Z t.o).mono ?_;rintro e f ⟨rfl,X⟩;have A:=t.o.trans (X.mono t.o.size);have F:=(A.cell (p:=(b,0)) x).trans i;have T:=J A;clear X A u;refine c.out _ _ ⟨F,trivial,trivial,trivial⟩ (fun a=>?_);clear c K;try simp only[zF,zG,zC,zD,zE]
 refine zV 5 (k:=fun K c=>?_);simp only[zA,zB];go_simp;refine(d.o f T.o).mono ?_;rintro e w3 ⟨rfl,L⟩;have C:=J (bG.step (Fr.b9 (aI g m es) T.o) (fun k B=>.inl B) L);have U:Fr (aI g m es) w w3:=by
  obtain⟨_,_,_,h3,_⟩:=C.o;exact h3
 have G:=(mK (U.block b x HF.o)).trans i;clear L U d;refine c.out _ _ ⟨G,trivial,trivial,trivial⟩ (fun a=>?_);clear c K;try simp only[zF,zG,zC,zD,zE]
 refine zT 6 (k:=?_);simp only[zA,zB,zF,zG,zC,zD,zE];refine wpAnyH_done κ ?_ _;clear i D F G;go_wp2;go_ret;exact⟨rfl,C.o⟩
theorem bG5(h:aV w base g m p room es){E:Nat->Prop}{s:aH}{F:Addr}(c d f:Nat)(z:Int)(hz:I6 z)(y:iY w E F s)(l:w.cell? (c,0)=some (.pointer (gj,0)))(q:w.cell? (d,0)=some (.pointer (some F)))(t:w.cell? (f,0)=some (.int .i64 z))(r:w.cell? (gj,3)=some (.pointer (g,0)))(hf:∀k,k=c∨k=d∨k=f∨k=gj->¬aI g m es k)(ht:aM0 w):
  Calls Tryz.prog 61 #[(c,0),(d,0),(f,0)] w fun e A =>e=.returned (.int .i64 ((aQ.cut (aE s.k) z).run (bH p room es)).1)∧bG w base g m es ((aQ.cut (aE s.k) z).run (bH p room es)).2 A :=by
 have j8:=y.rd.num.k;have j9:=fJ s.k j8;have B:=J ((y.b1 (w' :=w.drew) (lR _) (fun _ _=>rfl)).nameJ (ht.a1 (aD (lS _ w) 1)));have i:=J (fun(C:World) (Z:Below w w C)=>uO (h.a1 Z) (bU (aE s.k)) (by rw[fL];omega) z hz);obtain⟨n,hn⟩:=eX (aE s.k);rw[<-hn] at B i⊢;rw[aA8] at i;obtain⟨R,X⟩:=eX ((aQ.cut n z).run (bH p room es));change Hq (∀(C:World) (Z:Below w w C),Calls _ _ _ _ fun e A =>e=.returned (.int .i64 ((aQ.cut n z).run (bH p room es)).1)∧bG _ base g m es ((aQ.cut n z).run (bH p room es)).2 A) at i;rw[<-X] at i⊢;have x:=J hf;have U:=mI w (c,0) l;have V:=mI w (d,0) q;have i6:=mI w (gj,3) r;have i4:=mI w (f,0) t;obtain⟨b,o,_,_,_,_,_,rfl,_⟩:=y.rd.cells;clear X h hf y j8 j9 hn ht hz;go_enter Tryz.func61,Tryz.ntmps61;go_wp2_with fail;refine wp_region_held_drew (S:=fun W=>W.cell? ⟨c,0,none⟩=some (.pointer (some ⟨gj,0,none⟩))∧W.cell? ⟨d,0,none⟩=some (.pointer (some ⟨b,o,none⟩))∧W.cell? ⟨gj,3,none⟩=some (.pointer (some ⟨g,0,none⟩))∧W.cell? ⟨f,0,none⟩=some (.int .i64 z)) κ ⟨l,q,r,t⟩ (fun a=>?_);refine zT 0 (k:=zT 1 (k:=zT 2 (k:=zT 3 (k:=zT 4 (k:=zT 6 (k:=?_))))));simp only[zA,zB,zF,zG,zC,zD,zE];refine zV 5 (k:=fun K v=>?_);simp only[zA,zB];go_simp;refine(show Calls _ _ _ w.drew _ from B.o).mono ?_;rintro e w1 ⟨rfl,j6⟩;have j:Below w w w1:=((lS _ w).drew).trans j6;have M:=(j.cell (p:=(c,0)) U).trans l;have N:=(j.cell (p:=(d,0)) V).trans q;have P:=(j.cell (p:=(gj,3)) i6).trans r;have Q:=(j.cell (p:=(f,0)) i4).trans t;have T:=J j;clear j6 j B;refine v.out _ _ ⟨M,N,P,Q⟩ (fun a=>?_);clear v K;try simp only[zF,zG,zC,zD,zE]
 refine zV 7 (k:=fun K v=>?_);simp only[zA,zB];go_simp;refine(i.o w1 T.o).mono ?_;rintro e w3 ⟨rfl,Y⟩;have D:=J (bG.step (Fr.b9 (aI g m es) T.o) (fun k hk=>.inl hk) Y);have u:Fr (aI g m es) w w3:=by
  obtain⟨_,_,_,h3,_⟩:=D.o;exact h3
 have G:=(mK (u.block c U (x.o _ (.inl rfl)))).trans l;have H:=(mK (u.block d V (x.o _ (.inr (.inl rfl))))).trans q;have I:=(mK (u.block gj i6 (x.o _ (.inr (.inr (.inr rfl)))))).trans r;have L:=(mK (u.block f i4 (x.o _ (.inr (.inr (.inl rfl)))))).trans t;clear Y u i M N P Q;refine v.out _ _ ⟨G,H,I,L⟩ (fun a=>?_);clear v K;try simp only[zF,zG,zC,zD,zE]
 refine zT 8 (k:=?_);simp only[zA,zB,zF,zG,zC,zD,zE];refine wpAnyH_done κ ?_ _;clear l q r t G H I L;go_wp2;go_ret;exact⟨rfl,D.o⟩
end
end
section
open Go.RowKit Go.Shelf Go.Maps Oct
theorem iV:(Tryz.prog.info? 98).map (fun i=>(i.zero,i.size,i.bytes))=some (some .nilFunc,1,8):=by kernel_rfl
def fH(W:World)(E:Nat->Prop)(gj g:Nat)(v:Value):aQ->Prop
 | .rm n=>∃b1 b2,v=.func (.func 96) #[] #[.pointer (some ⟨b1,0,none⟩),.pointer (some ⟨b2,0,none⟩)]∧(E b1∧E b2)∧W.cell? ⟨b1,0,none⟩=some (.pointer (some ⟨gj,0,none⟩))∧W.cell? ⟨b2,0,none⟩=some (.string (bU n))∧n.length<=1000
 | .sync n=>∃b1 b2,v=.func (.func 109) #[] #[.pointer (some ⟨b1,0,none⟩),.pointer (some ⟨b2,0,none⟩)]∧(E b1∧E b2)∧W.cell? ⟨b1,0,none⟩=some (.pointer (some ⟨gj,0,none⟩))∧W.cell? ⟨b2,0,none⟩=some (.string (bU n))∧n.length<=1000
 | .app n p=>∃b1 b2 b3 A c,v=.func (.func 117) #[] #[.pointer (some ⟨b1,0,none⟩),.pointer (some ⟨b2,0,none⟩),.pointer (some ⟨b3,0,none⟩)]∧(E b1∧E b2∧E b3)∧W.cell? ⟨b1,0,none⟩=some (.pointer (some ⟨gj,0,none⟩))∧W.cell? ⟨b2,0,none⟩=some (.string (bU n))∧n.length<=1000∧W.cell? ⟨b3,0,none⟩=some (.slice A p c)∧p.length<=c∧p.length<=274877906944∧dM W E A (cells p)
 | .cut n k=>(∃b1 b13 s,v=.func (.func 54) #[] #[.pointer (some ⟨b1,0,none⟩),.pointer (some ⟨b13,0,none⟩)]∧E b1∧W.cell? ⟨b1,0,none⟩=some (.pointer (some ⟨g,0,none⟩))∧iY W E ⟨b13,0,none⟩ s∧n=aE s.k∧k=s.b2)∨
  ∃b1 b2 b3 ad s,v=.func (.func 61) #[] #[.pointer (some ⟨b1,0,none⟩),.pointer (some ⟨b2,0,none⟩),.pointer (some ⟨b3,0,none⟩)]∧(E b1∧E b2∧E b3)∧W.cell? ⟨b1,0,none⟩=some (.pointer (gj,0))∧W.cell? ⟨b2,0,none⟩=some (.pointer (some ad))∧W.cell? ⟨b3,0,none⟩=some (.int .i64 k)∧(I6 k)∧iY W E ad s∧n=aE s.k
 | .ren=>∃b1,v=.func (.func 70) #[] #[.pointer (some ⟨b1,0,none⟩)]∧E b1∧W.cell? ⟨b1,0,none⟩=some (.pointer (some ⟨gj,0,none⟩))
theorem fH.b1{W r :World}{E:Nat->Prop}{gj g:Nat}{v:Value}{a:aQ}(h:fH W E gj g v a)(B:W.heap.size<=r)(t:∀k,E k->r.heap[k]? =W.heap[k]?):fH r E gj g v a:=by
 have e:∀b i u,E b->W.cell? ⟨b,i,none⟩=some u->r.cell? ⟨b,i,none⟩=some u:=fun b i u D F=>(mK (t b D)).trans F
 cases a with
 |rm n=>
  obtain⟨f,q,j,d,l,m,o⟩:=h;exact⟨f,q,j,d,e _ _ _ d.1 l,e _ _ _ d.2 m,o⟩
 |sync n=>
  obtain⟨f,q,j,d,l,m,o⟩:=h;exact⟨f,q,j,d,e _ _ _ d.1 l,e _ _ _ d.2 m,o⟩
 |app n p=>
  obtain⟨f,q,w,A,c,j,d,l,m,o,x,y,z,C⟩:=h;exact⟨f,q,w,A,c,j,d,e _ _ _ d.1 l,e _ _ _ d.2.1 m,o,e _ _ _ d.2.2 x,y,z,C.b1 B t⟩
 |cut n k=>
  rcases h with⟨f,a8,s,j,d,l,m,o⟩|⟨f,q,w,ad,s,j,d,l,m,o,x,y,z⟩
  exact .inl ⟨f,a8,s,j,d,e _ _ _ d l,m.b1 B t,o⟩;exact .inr ⟨f,q,w,ad,s,j,d,e _ _ _ d.1 l,e _ _ _ d.2.1 m,e _ _ _ d.2.2 o,x,y.b1 B t,z⟩
 |ren=>
  obtain⟨f,j,d,l⟩:=h;exact⟨f,j,d,e _ _ _ d l⟩
theorem fH.mono{W:World}{E E' :Nat->Prop}{gj g:Nat}{v:Value}{a:aQ}(h:fH W E gj g v a)(d:∀k,E k->E' k):fH W E' gj g v a:=by
 cases a with
 |rm n=>
  obtain⟨e,m,f,b,i,j,l⟩:=h;exact⟨e,m,f,⟨d _ b.1,d _ b.2⟩,i,j,l⟩
 |sync n=>
  obtain⟨e,m,f,b,i,j,l⟩:=h;exact⟨e,m,f,⟨d _ b.1,d _ b.2⟩,i,j,l⟩
 |app n p=>
  obtain⟨e,m,o,A,c,f,b,i,j,l,q,r,t,u⟩:=h;exact⟨e,m,o,A,c,f,⟨d _ b.1,d _ b.2.1,d _ b.2.2⟩,i,j,l,q,r,t,u.mono d⟩
 |cut n k=>
  rcases h with⟨e,a8,s,f,b,i,j,l⟩|⟨e,m,o,ad,s,f,b,i,j,l,q,r,t⟩
  exact .inl ⟨e,a8,s,f,d _ b,i,j.mono d,l⟩;exact .inr ⟨e,m,o,ad,s,f,⟨d _ b.1,d _ b.2.1,d _ b.2.2⟩,i,j,l,q,r.mono d,t⟩
 |ren=>
  obtain⟨e,f,b,i⟩:=h;exact⟨e,f,d _ b,i⟩
theorem sB(a:aQ)(r:List aQ):cO (a::r)=a.cost+cO r:=by unfold cO;rw[mG,List.sum_cons]
theorem tL{es:List (Nm×FE)}{pw:fT}{room:Int}{L:Nat}(h:gP L (bH pw room es)):(∀q∈es,(q.2.f.b.length:Int)<=L)∧es<=L:=by
 refine⟨fun q d=>?_,?_⟩;have a:=fR (q:=(q.1,q.2.f)) (l:=bI FE.f es) (mF.2 ⟨q,d,rfl⟩);have c:=h.sz;have e:bC (bH pw room es).fs=bC (bI FE.f es):=rfl;simp only at a;omega;have c:=h.len;have e:(bH pw room es).fs.length=es.length:=by show(bI FE.f es).length=_;simp
 omega
theorem aW1{W:World}{E:Nat->Prop}{base g m gj:Nat}{pw:fT}{room:Int}{es:List (Nm×FE)}{a:aQ}{v:Value}(u:aV W base g m pw room es)(y:fH W E gj g v a)(w:W.cell? (gj,3)=some (.pointer (g,0)))
  (d:∀k,E k->k<W.heap.size∧¬aI g m es k) (a8:¬aI g m es gj) (G:aM0 W) {L:Nat} (D:gP L (bH pw room es)) (N:L<=137438953472):
  ∃F r,v=.func (.func F) #[] r∧Enters Tryz.prog F∧Calls Tryz.prog F r W fun e w' =>e=.returned (.int .i64 (a.run (bH pw room es)).1)∧bG W base g m es (a.run (bH pw room es)).2 w' :=by
 have H:=tL D;have I:bC (bI FE.f es)<=4611686018427387904:=by
  have b:=D.sz;have e:bC (bH pw room es).fs=bC (bI FE.f es):=rfl;omega
 cases a with
 |rm n=>
  obtain⟨h,t,i,b,j,l,o⟩:=y;exact⟨_,_,i,enters_of Tryz.func96 κ rfl,bX7 u n o h t j l w (by rintro k (rfl|rfl|rfl);exact(d _ b.1).2;exact(d _ b.2).2;exact a8)⟩
 |sync n=>
  obtain⟨h,t,i,b,j,l,o⟩:=y;exact⟨_,_,i,enters_of Tryz.func109 κ rfl,bH5 u n o h t j l w (by rintro k (rfl|rfl|rfl);exact(d _ b.1).2;exact(d _ b.2).2;exact a8)⟩
 |app n p=>
  obtain⟨h,t,z,A,c,i,b,j,l,o,x,B,C,K⟩:=y;exact⟨_,_,i,enters_of Tryz.func117 κ rfl,bQ3 u n o p A c h t z j l x w (by rintro k (rfl|rfl|rfl|rfl);exact(d _ b.1).2;exact(d _ b.2.1).2;exact(d _ b.2.2).2;exact a8) K.rd B C (fun q M=>ω1 (H.1 q M)) I O⟩
 |cut n k=>
  rcases y with⟨h,d8,s,i,b,j,l,o,x⟩|⟨h,t,z,ad,s,i,b,j,l,o,x,B,C⟩
  subst o x;exact⟨_,_,i,enters_of Tryz.func54 κ rfl,bG4 u h d8 l (fun k hk=>(d k hk).1) j (d _ b).2 G⟩;subst C;exact⟨_,_,i,enters_of Tryz.func61 κ rfl,bG5 u h t z k x B j l o w (by rintro k (rfl|rfl|rfl|rfl);exact(d _ b.1).2;exact(d _ b.2.1).2;exact(d _ b.2.2).2;exact a8) G⟩
 |ren=>
  obtain⟨h,i,b,j⟩:=y;exact⟨_,_,i,enters_of Tryz.func70 κ rfl,bQ4 u h j w O⟩
def bD6(w:World)(base g m:Nat)(es:List (Nm×FE))(gj:Nat)(t v:Int)(sv:Value)(d:DkD)(bad:Int)(w' :World):Prop:=
 ∃es',aV w' base g m d.pw d.room es' ∧bI FE.f es' =d.fs∧aS w' gj 53 #[t,v,sv,(g,0),bad]∧Fr (fun k=>aI g m es k∨k=gj) w w' ∧∀k,aI g m es' k->aI g m es k∨w.heap.size<=k
theorem DkD.h9 (d:DkD){es:List (Nm×FE)}(h:bI FE.f es=d.fs):bH d.pw d.room es=d:=by
 unfold bH;rw[h]
theorem lQ{w:World}{E:Nat->Prop}{base g m gj:Nat}{pw:fT}{room:Int}{es:List (Nm×FE)}(U:aV w base g m pw room es){t v:Int}{C:Value}(V:aS w gj 53 #[t,v,C,(g,0),.int .i64 0])(C8:base<=gj)
  (A:Option Addr) (vs:List Value) (al:List aQ) (c:Nat) (hr:dM w E A vs) (hn:vs.length=al) (Y:∀k (h:k<vs.length) (h' :k<al.length),fH w E gj g vs[k] al[k])
  (hE:∀k,E k->k<w.heap.size∧¬aI g m es k∧k≠gj) (hT:∀w',Below base w w' ->aM0 w') {L:Nat} (B1:gP L (bH pw room es)) (hL:L+cO al<=137438953472) (C6:al.length<=1099511627776):
  Calls Tryz.prog 48 #[(gj,0),.slice A al c] w fun e w' =>e=.returned (.int .i64 (cF al (bH pw room es)).1)∧bD6 w base g m es gj t v C (cF al (bH pw room es)).2 (cF al (bH pw room es)).1 w' :=by
 have C5:=J (U.e3 V δ δ δ);have C9:=V.lt;have j9:=J U.lt;have HR:=J hr;have HV:=J Y;have D:=J hE;have HT:=J hT;have HN:=J hn;have p9:bD6 w base g m es gj t v C (bH pw room es) 0 w:=⟨es,U,rfl,V,Fr.refl _ _,fun k hk=>.inl hk⟩;have p4:=J p9;have o9:=J B1;obtain⟨d0,t9⟩:=eX (bH pw room es);rw[<-t9] at p4 o9⊢;obtain⟨R,n8⟩:=eX (cF al d0);rw[<-n8];have B9:=J n8;clear hr Y hE hT hn p9 B1 U V t9 n8;go_enter Tryz.func48,Tryz.ntmps48;go_wp2_with fail;go_loopw [9,6] (fun i _ wr=>∃(k s:Nat) (d:DkD) (b:Int),k<=al∧i=.int .i64 k∧s+cO (al.drop k)<=137438953472∧Hq (bD6 w base g m es gj t v C d b wr)∧Hq (gP s d)∧Hq (R=if b=0 then cF (al.drop k) d else(b,d))) (fun i _ _=>al.length-(intOf i).toNat)
 case atStart=>exact⟨0,L,d0,0,O,rfl,hL,p4,o9,J (by rw[if_pos rfl];exact B9.o)⟩
 obtain⟨k,s,d,b,hk,rfl,p6,Z,S,K⟩:=hrel;obtain⟨C2,M,P,B,x,G⟩:=Z.o;have B6:=x.size;have c2:=B.c 4;by_cases y:k<al;rotate_left
 ·obtain rfl:k=al:=O
  have I:R=(b,d):=by
   rw[K.o,List.drop_length];split;rename_i h;rw[h];rfl;rfl
  have C0:=J (show bD6 w base g m es gj t v C R.2 R.1 wr by rw[I];exact Z.o);have p7:R.1=b:=by rw[I]
  have B8:=J p7;clear I p7 M P B x G;go_wp2;go_ret;exact⟨by rw[B8.o];rfl,C0.o⟩
 have m6:k<vs:=by rw[HN.o];exact y
 have m5:=fun q l=>x.block q (D.o q l).1 (by rintro(f|f);exact(D.o q l).2.1 f;exact(D.o q l).2.2 f)
 obtain⟨ab,ao,rfl,_,C3,n9⟩:=(HR.o.b1 B6 m5) O;have s9:=n9 k _ (lW m6);have N:=List.drop_eq_getElem_cons y;have d8:cO (al.drop k)=al[k].cost+cO (al.drop (k+1)):=by rw[N,sB]
 obtain⟨u,X⟩:=eX (vs[k]);obtain⟨a,W⟩:=eX (al[k]);have j6:fH wr E gj g u a:=by rw[X,W];exact(HV.o k m6 y).b1 B6 m5
 rw[<-X] at s9;rw[<-W] at N d8;by_cases H:b=0;rotate_left
 ·have n5:s+cO (al.drop (k+1))<=137438953472:=O
  have m8:=J (show R=if b=0 then cF (al.drop (k+1)) d else(b,d) by rw[K.o,if_neg H,if_neg H]);have C7:(b==0)=false:=by simpa using H
  clear j6 N d8 W X m5 G x M P B n9 m6 p6 K H;go_wp2;go_roundw
  case rel=>exact⟨k+1,s,d,b,O,by go_num,n5,Z,S,m8⟩
  case measure=>simp[intOf];omega
 subst H;have p8:R=cF (a::al.drop (k+1)) d:=by rw[K.o,if_pos rfl,N]
 have c3:=B.c 3;have o8:=M.e3 B δ δ δ;have q8:Below base w wr:=x.a1 (ω1 (j9.o g (.inl rfl))) (by rintro j (f|f);exact(j9.o j f).1;omega);obtain⟨F,m9,Y,l7,Q⟩:=aW1 M j6 c3 (fun q l=>⟨ω1 ((D.o q l).1),fun f=>by
  rcases G q f with T|T
  exact(D.o q l).2.1 T;have:=(D.o q l).1;omega⟩) o8 (HT.o _ q8) (by rw[DkD.h9 d P];exact S.o) O
 rw[DkD.h9 d P] at Q;subst Y;obtain⟨n,m3⟩:=eX (a.run d);rw[<-m3] at Q;have I:R=if n.1=0 then cF (al.drop (k+1)) n.2 else n:=by rw[p8,m3];rfl
 have m8:=J I;have m7:=J (show gP (s+a.cost) n.2 by rw[m3];exact S.o.run a);have n5:s+a.cost+cO (al.drop (k+1))<=137438953472:=O;have f9:=J Q;have g8:Hq (∀r,bG wr base g m C2 n.2 r->∃(H:aS r gj 53 #[t,v,C,(g,0),.int .i64 0]),bD6 w base g m es gj t v C n.2 n.1 (r.setCell (gj,4) (.int .i64 n.1))):=J (fun r p=>by
  obtain⟨C1,f,T,h3,h4⟩:=p;have z:=h3.h4 B o8;have C4:=f.e3 z δ δ δ;refine⟨z,C1,?_,T,aS.b8 z 4 _,?_,fun q l=>?_⟩;exact f.b1 (aA r gj 4 _).size (fun q l=>Below.heap_setCell _ _ _ _ (by show q≠gj;rintro rfl;exact C4 l));have e1:=x.trans h3 (fun j hj=>(G j hj).elim (fun h=>.inl (.inl h)) .inr);exact e1.trans (Fr.e2 (mine:=fun k=>k=gj) (aA r gj 4 _) (fun k e=>by injection e with e;exact e.symm)) (fun j hj=>.inl (.inr hj));rcases h4 q l with h5|h5
  exact G q h5;exact .inr O)
 clear j6 N d8 W X Q m3 m5 G x M P B o8 q8 I p8 n9 m6 p6 Z S K c3;go_wp2_with fail;rw[l7 m9 wr];refine f9.o.mono ?_;rintro e r ⟨rfl,p⟩;obtain⟨z,p5⟩:=g8.o r p;have f4:=z.c 4;have z4:r.frozen? (gj,4)=false:=z.a6 _;have B7:=J p5;clear p z p5 f9 g8 l7 s9 c2;go_wp2;go_roundw
 case rel=>exact⟨k+1,s+a.cost,n.2,n.1,O,by go_num,n5,B7,m7,m8⟩
 case measure=>simp[intOf];omega
end
section
open Go.RowKit Go.Shelf Go.Maps Oct
section
variable{w:World}{gj g:Nat}
theorem uV(n:Nm)(s:n.length<=1000)(w:World):
  Calls Tryz.prog 49 #[(gj,0),.string (bU n)] w fun e d =>∃v,e=.returned v∧Below w w d ∧(∃F b,v=Value.func (.func F) #[] b)∧(∀k,w.heap.size<=k->k<d.heap.size->∀cs a,d.heap[k]? ≠some (.cells cs 98 a))∧∀E:Nat->Prop,(∀k,w.heap.size<=k->k<d.heap.size->E k)->fH d E gj g v (.rm n):=by
 have i:∀W,W=(w.alloc (.cells #[(gj,0)] 30)).alloc (.cells #[.string (bU n)] 9)->Below w w W∧(∀k,w.heap.size<=k->k<W.heap.size->∀cs a,W.heap[k]? ≠some (.cells cs 98 a))∧∀E:Nat->Prop,(∀k,w.heap.size<=k->k<W.heap.size->E k)->fH W E gj g (.func (.func 96) #[] #[(w,0),.pointer (some ⟨w.heap.size+1,0,none⟩)]) (.rm n):=by
  rintro W rfl;have f:=aS.new w 30 #[(gj,0)];have c:=aS.new (w.alloc (.cells #[(gj,0)] 30)) 9 #[.string (bU n)];have t:(w.alloc (.cells #[(gj,0)] 30)).heap.size=w+1:=by simp
  rw[t] at c;have j:=f.a1 ((lS _ (w.alloc (.cells #[(gj,0)] 30))).alloc (lR _) (.cells #[.string (bU n)] 9)) f.lt;have p:∀k,w.heap.size<=k->k<((w.alloc (.cells #[(gj,0)] 30)).alloc (.cells #[.string (bU n)] 9)).heap.size->∀cs a,((w.alloc (.cells #[(gj,0)] 30)).alloc (.cells #[.string (bU n)] 9)).heap[k]? ≠some (.cells cs 98 a):=fun k r h cs a e=>by
   have u:k<w+1+1:=by simpa using h
   rcases(by omega:k=w∨k=w+1) with rfl|rfl
   rw[j] at e;injection e with e
   injection e with _ e _
   exact absurd e δ;rw[c] at e;injection e with e
   injection e with _ e _
   exact absurd e δ
  exact⟨((lS _ w).alloc (lR _) _).alloc σ _,p,fun E l=>⟨_,_,rfl,⟨l _ (lR _) θ,l _ O σ⟩,j.cell 0,c.cell 0,s⟩⟩
 have m:=J i;clear i;go_enter Tryz.func49,Tryz.ntmps49;go_wp2;go_ret;obtain⟨f,q,c⟩:=m.o _ rfl;exact⟨_,rfl,f,⟨_,_,rfl⟩,q,c⟩
theorem tO(n:Nm)(s:n.length<=1000)(w:World):
  Calls Tryz.prog 57 #[(gj,0),.string (bU n)] w fun e d =>∃v,e=.returned v∧Below w w d ∧(∃F b,v=Value.func (.func F) #[] b)∧(∀k,w.heap.size<=k->k<d.heap.size->∀cs a,d.heap[k]? ≠some (.cells cs 98 a))∧∀E:Nat->Prop,(∀k,w.heap.size<=k->k<d.heap.size->E k)->fH d E gj g v (.sync n):=by
 have i:∀W,W=(w.alloc (.cells #[(gj,0)] 30)).alloc (.cells #[.string (bU n)] 9)->Below w w W∧(∀k,w.heap.size<=k->k<W.heap.size->∀cs a,W.heap[k]? ≠some (.cells cs 98 a))∧∀E:Nat->Prop,(∀k,w.heap.size<=k->k<W.heap.size->E k)->fH W E gj g (.func (.func 109) #[] #[(w,0),.pointer (some ⟨w.heap.size+1,0,none⟩)]) (.sync n):=by
  rintro W rfl;have f:=aS.new w 30 #[(gj,0)];have c:=aS.new (w.alloc (.cells #[(gj,0)] 30)) 9 #[.string (bU n)];have t:(w.alloc (.cells #[(gj,0)] 30)).heap.size=w+1:=by simp
  rw[t] at c;have j:=f.a1 ((lS _ (w.alloc (.cells #[(gj,0)] 30))).alloc (lR _) (.cells #[.string (bU n)] 9)) f.lt;have p:∀k,w.heap.size<=k->k<((w.alloc (.cells #[(gj,0)] 30)).alloc (.cells #[.string (bU n)] 9)).heap.size->∀cs a,((w.alloc (.cells #[(gj,0)] 30)).alloc (.cells #[.string (bU n)] 9)).heap[k]? ≠some (.cells cs 98 a):=fun k r h cs a e=>by
   have u:k<w+1+1:=by simpa using h
   rcases(by omega:k=w∨k=w+1) with rfl|rfl
   rw[j] at e;injection e with e
   injection e with _ e _
   exact absurd e δ;rw[c] at e;injection e with e
   injection e with _ e _
   exact absurd e δ
  exact⟨((lS _ w).alloc (lR _) _).alloc σ _,p,fun E l=>⟨_,_,rfl,⟨l _ (lR _) θ,l _ O σ⟩,j.cell 0,c.cell 0,s⟩⟩
 have m:=J i;clear i;go_enter Tryz.func57,Tryz.ntmps57;go_wp2;go_ret;obtain⟨f,q,c⟩:=m.o _ rfl;exact⟨_,rfl,f,⟨_,_,rfl⟩,q,c⟩
theorem aJ3(n:Nm)(C:n.length<=1000)(p:List UInt8)(A:Option Addr)(c:Nat)(z:p<=c)(D:p.length<=274877906944)(w:World):
  Calls Tryz.prog 66 #[(gj,0),.string (bU n),.slice A p c] w fun e b =>∃v,e=.returned v∧Below w w b ∧(∃F d,v=Value.func (.func F) #[] d)∧(∀k,w.heap.size<=k->k<b.heap.size->∀cs a,b.heap[k]? ≠some (.cells cs 98 a))∧∀E:Nat->Prop,(∀k,w.heap.size<=k->k<b.heap.size->E k)->dM b E A (cells p)->fH b E gj g v (.app n p):=by
 have q:∀W,W=((w.alloc (.cells #[(gj,0)] 30)).alloc (.cells #[.string (bU n)] 9)).alloc (.cells #[.slice A p c] 34)->Below w w W∧(∀k,w.heap.size<=k->k<W.heap.size->∀cs a,W.heap[k]? ≠some (.cells cs 98 a))∧∀E:Nat->Prop,(∀k,w.heap.size<=k->k<W.heap.size->E k)->dM W E A (cells p)->fH W E gj g (.func (.func 117) #[] #[(w,0),.pointer (some ⟨w.heap.size+1,0,none⟩),.pointer (some ⟨w.heap.size+1+1,0,none⟩)]) (.app n p):=by
  rintro W rfl;have i:=aS.new w 30 #[(gj,0)];have f:=aS.new (w.alloc (.cells #[(gj,0)] 30)) 9 #[.string (bU n)];have h:=aS.new ((w.alloc (.cells #[(gj,0)] 30)).alloc (.cells #[.string (bU n)] 9)) 34 #[.slice A p c];have H:(w.alloc (.cells #[(gj,0)] 30)).heap.size=w+1:=by simp
  have I:((w.alloc (.cells #[(gj,0)] 30)).alloc (.cells #[.string (bU n)] 9)).heap.size=w+1+1:=by simp
  rw[H] at f;rw[I] at h;have u:=(lS _ (w.alloc (.cells #[(gj,0)] 30))).alloc (lR _) (.cells #[.string (bU n)] 9);have r:=(lS _ ((w.alloc (.cells #[(gj,0)] 30)).alloc (.cells #[.string (bU n)] 9))).alloc (lR _) (.cells #[.slice A p c] 34);have s:=(i.a1 u i.lt);have m:=s.a1 r s.lt;have t:=f.a1 r f.lt;have y:∀k,w.heap.size<=k->k<(((w.alloc (.cells #[(gj,0)] 30)).alloc (.cells #[.string (bU n)] 9)).alloc (.cells #[.slice A p c] 34)).heap.size->∀cs a,(((w.alloc (.cells #[(gj,0)] 30)).alloc (.cells #[.string (bU n)] 9)).alloc (.cells #[.slice A p c] 34)).heap[k]? ≠some (.cells cs 98 a):=fun k B l cs a e=>by
   have K:k<w+1+1+1:=by simpa using l
   rcases(by omega:k=w∨k=w+1∨k=w+1+1) with rfl|rfl|rfl
   rw[m] at e;injection e with e
   injection e with _ e _
   exact absurd e δ;rw[t] at e;injection e with e
   injection e with _ e _
   exact absurd e δ;rw[h] at e;injection e with e
   injection e with _ e _
   exact absurd e δ
  exact⟨(((lS _ w).alloc (lR _) _).alloc σ _).alloc θ _,y,fun E j G=>⟨_,_,_,_,_,rfl,⟨j _ (lR _) (by simp<;>omega),j _ O (by simp<;>omega),j _ O (by simp<;>omega)⟩,m.cell 0,t.cell 0,C,h.cell 0,z,D,G⟩⟩
 have x:=J q;clear q;go_enter Tryz.func66,Tryz.ntmps66;go_wp2;go_ret;obtain⟨i,h,f⟩:=x.o _ rfl;exact⟨_,rfl,i,⟨_,_,rfl⟩,h,f⟩
end
end
end Go.Proofs.YtgeofijddhflaaaGreatDoor
