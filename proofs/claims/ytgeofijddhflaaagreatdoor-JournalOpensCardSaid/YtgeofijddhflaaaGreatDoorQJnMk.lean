/- journal: acts to come are made (remove, sync, put). No condition. -/
import Derived.Test.YtgeofijddhflaaaGreatDoorQJnSame
import Derived.Test.YtgeofijddhflaaaGreatDoorQDiskCut
set_option maxHeartbeats 8000000
set_option maxRecDepth 100000
namespace Go.Proofs.YtgeofijddhflaaaGreatDoor
section
open Oct
section
variable{α:Type}{n m:Nm}{l:List (Nm×α)}
theorem bE8{x:Nm×α}(h:m≠x.1):∀l:List (Nm×α),aB6 m (asIns x l)=aB6 m l
 |[]=>by
  unfold asIns aB6;rw[List.find?_cons_of_neg (by simpa using fun e:x.1=m=>h e.symm)]
 |y::r=>by
  have ih:=bE8 h r;unfold asIns;split
  ·unfold aB6
   rw[List.find?_cons_of_neg (p:=fun p:Nm×α=>p.1==m) (by simpa using fun e:x.1=m=>h e.symm)]
  unfold aB6 at ih⊢;by_cases hy:(y.1==m)=true
  ·rw[List.find?_cons_of_pos (p:=fun p:Nm×α=>p.1==m) hy,List.find?_cons_of_pos (p:=fun p:Nm×α=>p.1==m) hy]
  rw[List.find?_cons_of_neg (p:=fun p:Nm×α=>p.1==m) hy,List.find?_cons_of_neg (p:=fun p:Nm×α=>p.1==m) hy];exact ih
theorem aN7(h:m≠n)(l:List (Nm×α)):aB6 m (aC2 n l)=aB6 m l:=by
 unfold aB6 aC2;induction l with
 |nil=>rfl
 |cons y r ih=>
  by_cases hy:y.1=n
  ·rw[List.filter_cons_of_neg (by simp[hy]),ih,List.find?_cons_of_neg (by simpa[hy] using fun e:n=m=>h e.symm)]
  rw[List.filter_cons_of_pos (by simpa using hy)];by_cases hm:(y.1==m)=true
  ·rw[List.find?_cons_of_pos (p:=fun p:Nm×α=>p.1==m) hm,List.find?_cons_of_pos (p:=fun p:Nm×α=>p.1==m) hm]
  rw[List.find?_cons_of_neg (p:=fun p:Nm×α=>p.1==m) hm,List.find?_cons_of_neg (p:=fun p:Nm×α=>p.1==m) hm];exact ih
theorem aP9(h:m≠n)(a:α)(l:List (Nm×α)):aB6 m (aB7 n a l)=aB6 m l:=by
 unfold aB7;rw[bE8 h,aN7 h]
end
def bB8(pw:PWD):Prop:=pw.off=false∧pw.armed=false
theorem aU9{pw:PWD}(h:bB8 pw):pw.cut=(false,0,pw):=by
 unfold PWD.cut;rw[if_pos h.2]
section
variable{pw:PWD}{room:Int}{fs:List (Nm×FD)}{n:Nm}{f:FD}
theorem cJ9(h:bB8 pw)(hf:aB6 n fs=some f):(aD3.rm n).run ⟨pw,room,fs⟩=(0,⟨pw,room,aC2 n fs⟩):=by
 show DkD.remove _ n=_
 unfold DkD.remove;rw[if_neg (by rw[h.1];simp)];simp only[hf];unfold DkD.whole;simp only[aU9 h]
 rfl
theorem cY9(h:bB8 pw)(hf:aB6 n fs=some f){k:Int}(hk:0<=k∧k<=f.b.length):(aD3.cut n k).run ⟨pw,room,fs⟩=(0,⟨pw,room,aB7 n ⟨f.b.take k.toNat,min f.safe k.toNat⟩ fs⟩):=by
 show DkD.cutF _ n k=_
 unfold DkD.cutF;rw[if_neg (by rw[h.1];simp)];simp only[hf];rw[if_neg (by omega)];unfold DkD.whole;simp only[aU9 h]
 rfl
theorem cN3(h:bB8 pw)(hf:aB6 n fs=some f):(aD3.sync n).run ⟨pw,room,fs⟩=(0,⟨pw,room,aB7 n ⟨f.b,f.b.length⟩ fs⟩):=by
 show DkD.sync _ n=_
 unfold DkD.sync;rw[if_neg (by rw[h.1];simp)];simp only[hf,aU9 h]
 rfl
theorem cW2(h:bB8 pw)(hn:n≠[]∧n.length<=32)(p:List UInt8)(hf:(p.length:Int)<=room-aB8 fs):
  (aD3.app n p).run ⟨pw,room,fs⟩=(0,⟨pw,room,aB7 n ⟨((aB6 n fs).getD ⟨[],0⟩).b++p,((aB6 n fs).getD ⟨[],0⟩).safe⟩ fs⟩):=by
 show DkD.append _ n [p]=_
 unfold DkD.append;rw[if_neg (by rw[h.1];simp),if_neg (by rintro(e|e);exact hn.1 e;omega),if_neg (by unfold fits fits DkD.free;simpa using hf)];simp only[aU9 h];simp
theorem cZ9(h:bB8 pw)(hf:aB6 aA9 fs=some f):aD3.ren.run ⟨pw,room,fs⟩=(0,⟨pw,room,aB7 aO8 f (aC2 aA9 fs)⟩):=by
 show DkD.rename _ aA9 aO8=_
 unfold DkD.rename;rw[if_neg (by rw[h.1];simp)];simp only[hf];rw[if_neg (by decide)];unfold DkD.whole;simp only[aU9 h]
 rfl
end
theorem aJ9(a:aD3)(r:List aD3)(d:DkD):aI5 (a::r) d=if(a.run d).1=0 then aI5 r (a.run d).2 else a.run d:=rfl
theorem aY6(a b:List aD3)(d:DkD)(h:(aI5 a d).1=0):aI5 (a++b) d=aI5 b (aI5 a d).2:=by
 induction a generalizing d with
 |nil=>rfl
 |cons x r ih=>
  rw[List.cons_append,aJ9];rw[aJ9] at h⊢;split
  ·rename_i h0
   rw[if_pos h0] at h;exact ih _ h
  rename_i h0
  rw[if_neg h0] at h;exact absurd h h0
theorem aU2{a b:Int}(ha:0<=a)(hb:0<=b)(h:aA8 a=aA8 b):a=b:=by
 unfold aA8 at h;injection h with _ h
 unfold Lib.itoa at h;rw[if_neg (by omega),if_neg (by omega)] at h;have h1:=(bC5 a.toNat).1;rw[h,(bC5 b.toNat).1] at h1;omega
theorem aN2(k:Int)(h:-9223372036854775808<=k∧k<=9223372036854775807):(aA8 k).length<=22:=by
 have:=Lib.itoa_length_le k h.1 h.2;unfold aA8;simp
 omega
end
section
open Oct
structure bR5(s:aC4):Prop where
 rise:s.ends.Pairwise (· <= ·)
 pos:∀n∈s.ends,0<=n
 len:s.ends.length=s.l.length+1
theorem bT4{l:List Int}(h:l.Pairwise (· <= ·)):∀x∈l,x<=l.getLastD 0:=by
 rcases mJ l with rfl|⟨r,y,rfl⟩
 ·intro x hx;cases hx
 rw[mA] at h⊢;intro x hx;have hl:(r++[y]).getLastD 0=y:=by simp
 rw[hl];rcases List.mem_append.1 hx with hx|hx
 ·exact(List.pairwise_append.1 h).2.2 x hx y (by simp)
 rw[List.mem_singleton.1 hx];exact Int.le_refl _
theorem aW0{l:List Int}(h:l≠[]):l.getLastD 0∈l:=by
 rcases mJ l with rfl|⟨r,y,rfl⟩
 ·exact absurd rfl h
 simp
theorem bR5.ne{s:aC4}(h:bR5 s):s.ends≠[]:=fun e=>by have:=h.len;rw[e] at this;simp at this
theorem bR5.long0{s:aC4}(h:bR5 s):0<=s.long:=h.pos _ (aW0 h.ne)
theorem bR5.ahead{s:aC4}(h:bR5 s)(ix:Int):bR5 (s.ahead ix)∧(s.ahead ix).long<=s.long∧(s.ahead ix).k=s.k:=by
 have h1:s.aheadN ix<=s.l.length:=Nat.min_le_right _ _;have hg:bR5 (s.ahead ix):=by
  refine⟨?_,?_,?_⟩
  ·show(s.ends.take _).Pairwise _
   exact h.rise.sublist (List.take_sublist _ _)
  ·intro n hn
   exact h.pos n (List.mem_of_mem_take hn)
  show(s.ends.take _).length=(s.l.take _).length+1
  rw[lV,lV,h.len];omega
 refine⟨hg,?_,rfl⟩;exact bT4 h.rise _ (List.mem_of_mem_take (aW0 hg.ne))
theorem bJ4:∀(l:List aK5) (s:aC4),(aB9 s l).k=s.k∧(aB9 s l).first=s.first∧(aB9 s l).term=s.term
 |[],s=>⟨rfl,rfl,rfl⟩
 |e::r,s=>by unfold aB9;exact bJ4 r _
theorem bR5.add:∀(l:List aK5) {s:aC4},bR5 s->bR5 (aB9 s l)∧(aB9 s l).long=s.long+((l.map aD8).flatten.length:Int)
 |[],s,h=>⟨h,by simp[aB9]⟩
 |e::r,s,h=>by
  have h0:=h.long0;have h1:bR5 {s with l:=s.l++[e],ends:=s.ends++[s.long+(aD8 e).length]}:=by
   refine⟨?_,?_,?_⟩
   ·refine List.pairwise_append.2 ⟨h.rise,List.pairwise_singleton _ _,fun a ha b hb=>?_⟩
    rw[List.mem_singleton.1 hb];have:=bT4 h.rise a ha;unfold aC4.long;omega
   ·intro n hn
    rcases List.mem_append.1 hn with hn|hn
    ·exact h.pos n hn
    rw[List.mem_singleton.1 hn];omega
   show(s.ends++_).length=(s.l++_).length+1
   rw[lT,lT,h.len]
   rfl
  have h2:=bR5.add r h1;have h3:aC4.long {s with l:=s.l++[e],ends:=s.ends++[s.long+(aD8 e).length]}=s.long+(aD8 e).length:=by
   unfold aC4.long;simp
  unfold aB9;refine⟨h2.1,?_⟩;rw[h2.2,h3];simp only[mG,List.flatten_cons,lT];omega
def dJ7(fs:List (Nm×FD))(n:Nm)(k:Int):Prop:=∃f,aB6 n fs=some f∧k<=f.b.length
theorem dJ7.of_eq{fs fs' :List (Nm×FD)}{n:Nm}{k:Int}(h:dJ7 fs n k)(e:aB6 n fs' =aB6 n fs):dJ7 fs' n k:=by
 obtain⟨f,h1,h2⟩:=h;exact⟨f,e.trans h1,h2⟩
section
variable{pw:PWD}{room:Int}
theorem bS1(h:bB8 pw):∀(ss:List aC4) (fs:List (Nm×FD)),(∀s∈ss,dJ7 fs (aA8 s.k) s.long)->(∀s∈ss,0<=s.k)->ss.Pairwise (fun a b=>a.k≠b.k)→
  ∃fs',aI5 (ss.map fun s=>aD3.rm (aA8 s.k)) ⟨pw,room,fs⟩=(0,⟨pw,room,fs'⟩)∧aB8 fs' +(ss.map aC4.long).sum<=aB8 fs∧∀n,(∀s∈ss,n≠aA8 s.k)->aB6 n fs' =aB6 n fs
 |[],fs,_,_,_=>⟨fs,rfl,by simp,fun n _=>rfl⟩
 |s::r,fs,hf,hk,hd=>by
  obtain⟨f,hf1,hf2⟩:=hf s (List.mem_cons_self ..);have hd1:=List.pairwise_cons.1 hd;have hne:∀t∈r,aA8 t.k≠aA8 s.k:=fun t ht e=>hd1.1 t ht (aU2 (hk s (List.mem_cons_self ..)) (hk t (List.mem_cons_of_mem _ ht)) e.symm)
  obtain⟨fs',h1,h2,h3⟩:=bS1 h r (aC2 (aA8 s.k) fs) (fun t ht=>(hf t (List.mem_cons_of_mem _ ht)).of_eq (aN7 (hne t ht) fs)) (fun t ht=>hk t (List.mem_cons_of_mem _ ht)) hd1.2;refine⟨fs',?_,?_,fun n hn=>?_⟩
  ·rw[mG,aJ9,cJ9 h hf1,if_pos rfl]
   exact h1
  ·have h4:=aK6 hf1
   rw[mG,List.sum_cons];omega
  rw[h3 n (fun t ht=>hn t (List.mem_cons_of_mem _ ht)),aN7 (hn s (List.mem_cons_self ..))]
theorem bG5(h:bB8 pw){n:Nm}(hn:n≠[]∧n.length<=32)(p:List UInt8){fs:List (Nm×FD)}(hf:(p.length:Int)<=room-aB8 fs):
  ∃fs',aI5 [.app n p,.sync n] ⟨pw,room,fs⟩=(0,⟨pw,room,fs'⟩)∧(∃f,aB6 n fs' =some f∧f.b.length=((aB6 n fs).getD ⟨[],0⟩).b.length+p.length)∧∀m,m≠n->aB6 m fs' =aB6 m fs:=by
 have h1:=cW2 h hn p hf;have h2:=cN3 (room:=room) h (aV6 n ⟨((aB6 n fs).getD ⟨[],0⟩).b++p,((aB6 n fs).getD ⟨[],0⟩).safe⟩ fs);obtain⟨f1,a8⟩:∃f:FD,f=⟨((aB6 n fs).getD ⟨[],0⟩).b++p,((aB6 n fs).getD ⟨[],0⟩).safe⟩:=⟨_,rfl⟩
 rw[<-a8] at h1 h2;refine⟨aB7 n ⟨f1.b,f1.b.length⟩ (aB7 n f1 fs),?_,⟨⟨f1.b,f1.b.length⟩,aV6 _ _ _,?_⟩,fun m hm=>?_⟩
 ·rw[aJ9,h1,if_pos rfl,aJ9,h2,if_pos rfl]
  rfl
 ·rw[a8,<-lT]
 rw[aP9 hm,aP9 hm]
end
theorem bK6(l:List Int):∀a:Int,l.foldl (· + ·) a=a+l.sum:=by
 induction l with
 |nil=>intro a;simp
 |cons x r ih=>
  intro a;rw[List.foldl_cons,ih,List.sum_cons];omega
theorem dG2(k:Int)(h:1<=k∧k<=999999999):aA8 k≠[]∧(aA8 k).length<=32:=by
 have:=aN2 k (by omega);exact⟨by unfold aA8;simp,by omega⟩
structure aU8(ss:List aC4)(fs:List (Nm×FD)):Prop where
 seg:∀s∈ss,bR5 s∧(1<=s.k∧s.k<=999999999)∧dJ7 fs (aA8 s.k) s.long
 ks:ss.Pairwise fun a b=>a.k<b.k
structure RI(j:JnP)(d:DkD):Prop where
 bad:j.bad=0
 calm:bB8 d.pw
 segs:aU8 j.segs d.fs
def cS4(r:Int×JnP×DkD)(j:JnP)(d:DkD):Prop:=RI r.2.1 r.2.2∧(r.1=0∨r.1≠50∧r.2=(j,d))
theorem cS4.same{j:JnP}{d:DkD}(h:RI j d){c:Int}(hc:c≠50):cS4 (c,j,d) j d:=⟨h,.inr ⟨hc,rfl⟩⟩
theorem aU8.keep{ss:List aC4}{fs fs' :List (Nm×FD)}(h:aU8 ss fs)(he:∀s∈ss,aB6 (aA8 s.k) fs' =aB6 (aA8 s.k) fs):aU8 ss fs' :=
 ⟨fun s hs=>⟨(h.seg s hs).1,(h.seg s hs).2.1,(h.seg s hs).2.2.of_eq (he s hs)⟩,h.ks⟩
theorem bL7(k:Int):aA8 k≠aA9:=by
 intro e;unfold aA8 aA9 at e;injection e with e _
 exact absurd e (by decide)
theorem cP2(k:Int):aA8 k≠aO8:=by
 intro e;unfold aA8 aO8 at e;injection e with e _
 exact absurd e (by decide)
theorem bY8{j:JnP}{d:DkD}(h:RI j d)(t v:Int):cS4 (aI9 j d t v) j d:=by
 obtain⟨pw,room,fs⟩:=d;have hc:bB8 pw:=h.calm;unfold aI9;rw[if_neg (by rw[h.bad];simp)];split
 ·exact cS4.same h (by decide)
 simp only;split
 ·exact cS4.same h (by decide)
 rename_i hroom
 have b8:∃a8,aI5 ((if(DkD.read ⟨pw,room,fs⟩ aA9).2=0 then[.rm aA9] else[])++[.app aA9 (aT9 t v),.sync aA9,.ren]) ⟨pw,room,fs⟩=(0,⟨pw,room,a8⟩)∧∀k,aB6 (aA8 k) a8=aB6 (aA8 k) fs:=by
  have f6:DkD.read ⟨pw,room,fs⟩ aA9=match aB6 aA9 fs with|none=>([],51)|some f=>(f.b,0):=by
   unfold DkD.read;rw[if_neg (by rw[hc.1];simp)]
   rfl
  have d8:∀fs1:List (Nm×FD),((aT9 t v).length:Int)<=room-aB8 fs1->∃a8,aI5 [.app aA9 (aT9 t v),.sync aA9,.ren] ⟨pw,room,fs1⟩=(0,⟨pw,room,a8⟩)∧∀k,aB6 (aA8 k) a8=aB6 (aA8 k) fs1:=fun fs1 hr=>by
   obtain⟨d9,h1,⟨f,h2,_⟩,h3⟩:=bG5 (room:=room) hc (n:=aA9) ⟨by decide,by decide⟩ (aT9 t v) hr;have h4:=cZ9 (room:=room) hc h2;refine⟨aB7 aO8 f (aC2 aA9 d9),?_,fun k=>?_⟩
   ·have e:([aD3.app aA9 (aT9 t v),.sync aA9,.ren]:List aD3)=[.app aA9 (aT9 t v),.sync aA9]++[.ren]:=rfl
    rw[e,aY6 _ _ _ (by rw[h1]),h1];show aI5 [.ren] ⟨pw,room,d9⟩=_
    rw[aJ9,h4,if_pos rfl]
    rfl
   rw[aP9 (cP2 k),aN7 (bL7 k),h3 _ (bL7 k)]
  rw[f6] at hroom⊢;have a9:DkD.free ⟨pw,room,fs⟩=room-aB8 fs:=rfl;rw[a9] at hroom;cases hg:aB6 aA9 fs with
  |none=>
   rw[hg] at hroom;simp only[hg];rw[if_neg (by decide),List.nil_append];exact d8 fs (by simp only[List.length_nil] at hroom;omega)
  |some f=>
   rw[hg] at hroom;simp only[hg];rw[if_pos trivial,List.singleton_append,aJ9,cJ9 hc hg,if_pos rfl];have h5:=aK6 hg;obtain⟨a8,h6,h7⟩:=d8 (aC2 aA9 fs) (by simp only at hroom;omega);exact⟨a8,h6,fun k=>by rw[h7,aN7 (bL7 k)]⟩
 obtain⟨a8,h1,h2⟩:=b8;rw[h1];refine⟨⟨?_,hc,?_⟩,.inl rfl⟩
 ·rw[if_pos rfl]
 rw[if_pos rfl];exact h.segs.keep (fun s _=>h2 s.k)
theorem dN6{ss:List aC4}(h:ss.Pairwise fun a b=>a.k<b.k):ss.Pairwise fun a b=>a.k≠b.k:=h.imp fun h=>by omega
theorem aU8.drop{pw:PWD}{room:Int}(hc:bB8 pw){ss:List aC4}{fs:List (Nm×FD)}(h:aU8 ss fs)(n:Nat):∃a8,aI5 ((ss.take n).map fun s=>aD3.rm (aA8 s.k)) ⟨pw,room,fs⟩=(0,⟨pw,room,a8⟩)∧aU8 (ss.drop n) a8:=by
 have a9:(ss.take n++ss.drop n).Pairwise fun a b=>a.k<b.k:=by rw[List.take_append_drop];exact h.ks
 have hp:=List.pairwise_append.1 a9;obtain⟨a8,h1,_,h3⟩:=bS1 (room:=room) hc (ss.take n) fs (fun s hs=>(h.seg s (List.mem_of_mem_take hs)).2.2) (fun s hs=>by have:=(h.seg s (List.mem_of_mem_take hs)).2.1;omega) (dN6 hp.1);refine⟨a8,h1,⟨fun s hs=>?_,hp.2.1⟩⟩;have hm:=h.seg s (List.mem_of_mem_drop hs);refine⟨hm.1,hm.2.1,hm.2.2.of_eq (h3 _ fun t ht e=>?_)⟩;have h4:=hp.2.2 t ht s hs;have h5:=(h.seg t (List.mem_of_mem_take ht)).2.1;have:=aU2 (by omega) (by omega) e;omega
theorem aU8.cutBack{pw:PWD}{room:Int}(hc:bB8 pw){ss:List aC4}{fs:List (Nm×FD)}(h:aU8 ss fs)(n:Nat):∃a9,aI5 ((ss.drop n).reverse.map fun s=>aD3.rm (aA8 s.k)) ⟨pw,room,fs⟩=(0,⟨pw,room,a9⟩)∧aU8 (ss.take n) a9∧aB8 a9+((ss.drop n).reverse.map aC4.long).foldl (· + ·) 0<=aB8 fs:=by
 have b8:(ss.take n++ss.drop n).Pairwise fun a b=>a.k<b.k:=by rw[List.take_append_drop];exact h.ks
 have hp:=List.pairwise_append.1 b8;have a8:∀s∈(ss.drop n).reverse,s∈ss:=fun s hs=>List.mem_of_mem_drop (List.mem_reverse.1 hs)
 obtain⟨a9,h1,h2,h3⟩:=bS1 (room:=room) hc (ss.drop n).reverse fs (fun s hs=>(h.seg s (a8 s hs)).2.2) (fun s hs=>by have:=(h.seg s (a8 s hs)).2.1;omega) (List.pairwise_reverse.2 (hp.2.1.imp fun h=>by omega));refine⟨a9,h1,⟨fun s hs=>?_,hp.1⟩,by rw[bK6];omega⟩;have hm:=h.seg s (List.mem_of_mem_take hs);refine⟨hm.1,hm.2.1,hm.2.2.of_eq (h3 _ fun t ht e=>?_)⟩;have h4:=hp.2.2 s hs t (List.mem_reverse.1 ht);have h5:=(h.seg t (a8 t ht)).2.1;have:=aU2 (by omega) (by omega) e;omega
theorem aU8.snoc{ss:List aC4}{fs:List (Nm×FD)}(h:aU8 ss fs){s:aC4}(h1:bR5 s)(h2:1<=s.k∧s.k<=999999999)(h3:dJ7 fs (aA8 s.k) s.long)(h4:∀t∈ss,t.k<s.k):aU8 (ss++[s]) fs:=
 ⟨fun t ht=>by
  rcases List.mem_append.1 ht with ht|ht
  ·exact h.seg t ht
  rw[List.mem_singleton.1 ht];exact⟨h1,h2,h3⟩,List.pairwise_append.2 ⟨h.ks,List.pairwise_singleton _ _,fun a ha b hb=>by rw[List.mem_singleton.1 hb];exact h4 a ha⟩⟩
end
section
open Oct
theorem dK5(j:JnP)(l:List aK5):cJ1 j l≠50:=by
 unfold cJ1;split
 ·decide
 split<;>decide
section
variable{j:JnP}{pw:PWD}{room:Int}{fs:List (Nm×FD)}
theorem bS3(h:RI j ⟨pw,room,fs⟩){do12:List aD3}{fs2:List (Nm×FD)}(a9:aI5 do12 ⟨pw,room,fs⟩=(0,⟨pw,room,fs2⟩)){K:List aC4}(hK:aU8 K fs2){s0:aC4}(hs:bR5 s0)(hk:1<=s0.k)(d8:∀t∈K,t.k<s0.k)(bh:List UInt8)(d9:s0.long<=(((aB6 (aA8 s0.k) fs2).getD ⟨[],0⟩).b.length:Int)+bh.length)(freed:Int)(f6:aB8 fs2+freed<=aB8 fs)(l:List aK5):
  cS4 (if 999999999<(aB9 s0 l).k then(1,j,⟨pw,room,fs⟩) else if DkD.free ⟨pw,room,fs⟩+freed<((bh++(l.map aD8).flatten).length:Int) then(52,j,⟨pw,room,fs⟩) else
   ((aI5 (do12++[.app (aA8 (aB9 s0 l).k) (bh++(l.map aD8).flatten),.sync (aA8 (aB9 s0 l).k)]) ⟨pw,room,fs⟩).1,if(aI5 (do12++[.app (aA8 (aB9 s0 l).k) (bh++(l.map aD8).flatten),.sync (aA8 (aB9 s0 l).k)]) ⟨pw,room,fs⟩).1=0 then {j with segs:=K++[aB9 s0 l]} else {j with bad:=(aI5 (do12++[.app (aA8 (aB9 s0 l).k) (bh++(l.map aD8).flatten),.sync (aA8 (aB9 s0 l).k)]) ⟨pw,room,fs⟩).1},(aI5 (do12++[.app (aA8 (aB9 s0 l).k) (bh++(l.map aD8).flatten),.sync (aA8 (aB9 s0 l).k)]) ⟨pw,room,fs⟩).2)) j ⟨pw,room,fs⟩:=by
 have hc:bB8 pw:=h.calm;obtain⟨hg,hl⟩:=bR5.add l hs;rw[(bJ4 l s0).1];split
 ·exact cS4.same h (by decide)
 rename_i hm
 split
 ·exact cS4.same h (by decide)
 rename_i hr
 have a8:DkD.free ⟨pw,room,fs⟩=room-aB8 fs:=rfl;rw[a8] at hr;obtain⟨f7,h1,⟨f,h2,h3⟩,h4⟩:=bG5 (room:=room) hc (dG2 s0.k ⟨hk,by omega⟩) (bh++(l.map aD8).flatten) (fs:=fs2) (by omega);rw[aY6 _ _ _ (by rw[a9]),a9,h1];refine⟨⟨?_,hc,?_⟩,.inl rfl⟩
 ·rw[if_pos rfl];exact h.bad
 rw[if_pos rfl];have b8:=(bJ4 l s0).1;refine(hK.keep fun q hq=>h4 _ fun e=>?_).snoc hg (by rw[b8];omega) ⟨f,by rw[b8];exact h2,?_⟩ (fun t ht=>by rw[b8];exact d8 t ht)
 ·have h5:=(hK.seg q hq).2.1
  have h6:=d8 q hq;have:=aU2 (by omega) (by omega) e;omega
 rw[hl,h3];rw[lT];omega
theorem cT7(h:RI j ⟨pw,room,fs⟩)(l:List aK5):cS4 (aM6 j ⟨pw,room,fs⟩ l) j ⟨pw,room,fs⟩:=by
 have hc:bB8 pw:=h.calm;unfold aM6;rw[if_neg (by rw[h.bad];simp)];split
 ·exact cS4.same h (dK5 j l)
 cases l with
 |nil=>exact cS4.same h (by decide)
 |cons e0 r=>
  simp only;obtain⟨L,hL⟩:∃L,L=e0::r:=⟨_,rfl⟩
  rw[<-hL];clear hL;obtain⟨n,hn⟩:∃n,n=bG9 j.segs e0.ix j.segs.length:=⟨_,rfl⟩
  rw[<-hn];clear hn;have l5:aU8 j.segs fs:=h.segs;obtain⟨f8,h1,h2,h3⟩:=l5.cutBack (room:=room) hc n;obtain⟨j9,i6⟩:∃x,x=((j.segs.drop n).reverse.map aC4.long).foldl (· + ·) 0:=⟨_,rfl⟩
  rw[<-i6] at h3⊢;obtain⟨g9,j6⟩:∃x,x=(j.segs.drop n).reverse.map fun s=>aD3.rm (aA8 s.k):=⟨_,rfl⟩
  rw[<-j6] at h1⊢;clear i6 j6;rcases mJ (j.segs.take n) with h0|⟨kr,s,h0⟩
  ·rw[h0] at h2⊢
   simp only[List.getLast?_nil,Option.map_none,if_true,List.append_nil];exact bS3 h (do12:=g9) h1 (K:=[]) h2 (s0:=⟨1,e0.ix,0,[],[((aZ3 e0.ix 0).length:Int)]⟩) ⟨List.pairwise_singleton _ _,fun n hn=>by rw[List.mem_singleton.1 hn];omega,rfl⟩ (by show(1:Int)<=1;omega) (fun t ht=>by cases ht) (aZ3 e0.ix 0) (by show((aZ3 e0.ix 0).length:Int)<=_;omega) (j9+0) (by omega) L
  rw[mA] at h0;rw[h0] at h2⊢;simp only[List.getLast?_append,List.getLast?_singleton,Option.some_or,Option.map_some,List.dropLast_concat];have b8:=h2.seg s (by simp);have j8:=List.pairwise_append.1 h2.ks;obtain⟨d9,l4,a9⟩:=b8.1.ahead e0.ix;obtain⟨c,i4⟩:∃c,c=s.ahead e0.ix:=⟨_,rfl⟩
  rw[<-i4] at d9 l4 a9⊢;clear i4;have l6:=d9.long0;have f7:aU8 kr f8:=⟨fun q hq=>h2.seg q (by simp[hq]),j8.1⟩;have a8:∀q∈kr,q.k<s.k:=fun q hq=>j8.2.2 q hq s (by simp)
  have g8:∃d8,aI5 (g9++(if c.long<s.long then[aD3.cut (aA8 s.k) c.long] else[])) ⟨pw,room,fs⟩=(0,⟨pw,room,d8⟩)∧aU8 kr d8∧dJ7 d8 (aA8 s.k) c.long∧aB8 d8+(j9+(if c.long<s.long then s.long-c.long else 0))<=aB8 fs:=by
   obtain⟨f,f6,l7⟩:=b8.2.2;by_cases hlt:c.long<s.long
   rotate_left
   ·rw[if_neg hlt,if_neg hlt,List.append_nil]
    exact⟨f8,h1,f7,⟨f,f6,by omega⟩,by omega⟩
   rw[if_pos hlt,if_pos hlt];have h5:=cY9 (room:=room) hc f6 (k:=c.long) ⟨l6,by omega⟩;obtain⟨f2,f9⟩:∃f2:FD,f2=⟨f.b.take c.long.toNat,min f.safe c.long.toNat⟩:=⟨_,rfl⟩
   rw[<-f9] at h5;refine⟨aB7 (aA8 s.k) f2 f8,?_,?_,⟨f2,aV6 _ _ _,?_⟩,?_⟩
   ·rw[aY6 _ _ _ (by rw[h1]),h1,aJ9]
    dsimp only
    rw[h5,if_pos rfl]
    rfl
   ·refine f7.keep fun q hq=>aP9 (fun e=>?_) _ _
    have h6:=a8 q hq;have h7:=(f7.seg q hq).2.1;have:=aU2 (by omega) (by omega) e;omega
   ·rw[f9]
    simp only[lV];omega
   rw[bP3];have h8:=aK6 f6;rw[f9];simp only[lV];omega
  obtain⟨d8,h4,h5,h6,h7⟩:=g8;by_cases hnew:600<=c.long
  ·rw[decide_eq_true hnew]
   simp only[if_true];have:=bS3 h h4 (K:=kr++[c]) (h5.snoc d9 (by rw[a9];exact b8.2.1) (by rw[a9];exact h6) (fun t ht=>by rw[a9];exact a8 t ht)) (s0:=⟨s.k+1,e0.ix,c.last.2,[],[((aZ3 e0.ix c.last.2).length:Int)]⟩) ⟨List.pairwise_singleton _ _,fun n hn=>by rw[List.mem_singleton.1 hn];omega,rfl⟩ (by show 1<=s.k+1;have:=b8.2.1;omega) (fun t ht=>by
    show t.k<s.k+1
    rcases List.mem_append.1 ht with ht|ht
    ·have:=a8 t ht;omega
    rw[List.mem_singleton.1 ht,a9];omega) (aZ3 e0.ix c.last.2) (by show((aZ3 e0.ix c.last.2).length:Int)<=_;omega) _ h7 L
   exact this
  rw[decide_eq_false hnew];simp only[Bool.false_eq_true,if_false,List.dropLast_concat];obtain⟨f,h8,h9⟩:=h6;exact bS3 h h4 (K:=kr) h5 (s0:=c) d9 (by rw[a9];exact b8.2.1.1) (fun t ht=>by rw[a9];exact a8 t ht) [] (by rw[a9,h8];simp only[Option.getD_some,List.length_nil];omega) _ h7 L
end
end
section
open Oct
def bR1(j:JnP)(d:DkD)(l:List aK5)(ix:Int):Int×JnP×DkD:=
  let n:=bG9 j.segs ix j.segs.length
  let gone:=(j.segs.drop n).reverse
  let freed1:=(gone.map aC4.long).foldl (· + ·) 0
  let do1:=gone.map fun s=>aD3.rm (aA8 s.k)
  let kept:=j.segs.take n
  let cut:=kept.getLast?.map fun s=>(s,s.ahead ix)
  let freed:=freed1+(match cut with|some (s,c)=>if c.long<s.long then s.long-c.long else 0|none=>0)
  let do2:=match cut with|some (s,c)=>(if c.long<s.long then[aD3.cut (aA8 s.k) c.long] else[])|none=>[]
  let kept2:=match cut with|some (_,c)=>kept.dropLast++[c]|none=>kept
  let new:=match cut with|some (_,c)=>decide (600<=c.long)|none=>true
  let fk:=match cut with|some (s,_)=>s.k+1|none=>1
  let ft:=match cut with|some (_,c)=>c.last.2|none=>0
  let hd:=aZ3 ix ft
  let s0:aC4:=if new=true then⟨fk,ix,ft,[],[(hd.length:Int)]⟩ else(match cut with|some (_,c)=>c|none=>⟨fk,ix,ft,[],[]⟩)
  let b:=(if new=true then hd else[])++(l.map aD8).flatten
  let s1:=aB9 s0 l
  let segs:=(if new=true then kept2 else kept2.dropLast)++[s1]
  if 999999999<s1.k then(1,j,d) else if d.free+freed<(b.length:Int) then(52,j,d) else
  let r:=aI5 (do1++do2++[.app (aA8 s1.k) b,.sync (aA8 s1.k)]) d
  (r.1,if r.1=0 then {j with segs:=segs} else {j with bad:=r.1},r.2)
theorem cI2{j:JnP}{d:DkD}{l:List aK5}{e0:aK5}{r:List aK5}(hb:j.bad=0)(hm:cJ1 j l=0)(hl:l=e0::r):aM6 j d l=bR1 j d l e0.ix:=by
 subst hl;unfold aM6;rw[if_neg (by rw[hb];simp),if_neg (by rw[hm];simp)]
 rfl
def aP0(j:JnP)(k:Nat):List aC4:=(j.segs.drop k).reverse
theorem bP4{j:JnP}{k:Nat}(h:k<j.segs.length):aP0 j k=aP0 j (k+1)++[j.segs[k]]:=by
 unfold aP0;rw[List.drop_eq_getElem_cons h,List.reverse_cons]
def aJ6(j:JnP)(k:Nat):Int:=((aP0 j k).map aC4.long).foldl (· + ·) 0
theorem bI5{j:JnP}{k:Nat}(h:k<j.segs.length):aJ6 j k=aJ6 j (k+1)+j.segs[k].long:=by
 unfold aJ6;rw[bP4 h,mE,List.foldl_append]
 rfl
theorem bJ2{j:JnP}(hl:∀s∈j.segs,0<=s.long∧s.long<=1000000000000)(n:Nat)(hn:j.segs.length=n):∀i,i<=n->0<=aJ6 j (n-i)∧aJ6 j (n-i)<=i*1000000000000
 |0,_=>by
  unfold aJ6 aP0;rw[Nat.sub_zero,List.drop_eq_nil_of_le (by omega)];simp
 |i+1,hi=>by
  have ih:=bJ2 hl n hn i (by omega);have h1:n-(i+1)<j.segs.length:=by omega
  rw[bI5 h1,show n-(i+1)+1=n-i by omega];have:=hl _ (lX h1);omega
def bA8(j:JnP)(d:DkD)(l:List aK5)(do12:List aD3)(freed:Int)(K:List aC4)(s0:aC4)(bh:List UInt8):Int×JnP×DkD:=
 if 999999999<(aB9 s0 l).k then(1,j,d) else if d.free+freed<((bh++(l.map aD8).flatten).length:Int) then(52,j,d) else
  ((aI5 (do12++[.app (aA8 (aB9 s0 l).k) (bh++(l.map aD8).flatten),.sync (aA8 (aB9 s0 l).k)]) d).1,if(aI5 (do12++[.app (aA8 (aB9 s0 l).k) (bh++(l.map aD8).flatten),.sync (aA8 (aB9 s0 l).k)]) d).1=0 then {j with segs:=K++[aB9 s0 l]} else {j with bad:=(aI5 (do12++[.app (aA8 (aB9 s0 l).k) (bh++(l.map aD8).flatten),.sync (aA8 (aB9 s0 l).k)]) d).1},(aI5 (do12++[.app (aA8 (aB9 s0 l).k) (bh++(l.map aD8).flatten),.sync (aA8 (aB9 s0 l).k)]) d).2)
def aW1(s c:aC4):List aD3:=if c.long<s.long then[aD3.cut (aA8 s.k) c.long] else[]
def aZ4(s c:aC4):Int:=if c.long<s.long then s.long-c.long else 0
section
variable{j:JnP}{d:DkD}{l:List aK5}{ix:Int}{N:Nat}
theorem bP5(hN:N=bG9 j.segs ix j.segs.length)(h0:j.segs.take N=[]):bR1 j d l ix=bA8 j d l ((aP0 j N).map fun s=>aD3.rm (aA8 s.k)) (aJ6 j N+0) [] ⟨1,ix,0,[],[((aZ3 ix 0).length:Int)]⟩ (aZ3 ix 0):=by
 unfold bR1 bA8 aJ6 aP0;dsimp only
 rw[<-hN,h0];simp only[List.getLast?_nil,Option.map_none,if_true,List.append_nil]
theorem bW6(hN:N=bG9 j.segs ix j.segs.length){kr:List aC4}{s c:aC4}(h0:j.segs.take N=kr++[s])(hc:c=s.ahead ix)(hn:600<=c.long):bR1 j d l ix=bA8 j d l ((aP0 j N).map (fun s=>aD3.rm (aA8 s.k))++aW1 s c) (aJ6 j N+aZ4 s c) (kr++[c]) ⟨s.k+1,ix,c.last.2,[],[((aZ3 ix c.last.2).length:Int)]⟩ (aZ3 ix c.last.2):=by
 unfold bR1 bA8 aJ6 aP0 aW1 aZ4;dsimp only
 rw[<-hN,h0];simp only[List.getLast?_append,List.getLast?_singleton,Option.some_or,Option.map_some,List.dropLast_concat,<-hc,decide_eq_true hn,if_true]
theorem bY2(hN:N=bG9 j.segs ix j.segs.length){kr:List aC4}{s c:aC4}(h0:j.segs.take N=kr++[s])(hc:c=s.ahead ix)(hn:¬600<=c.long):bR1 j d l ix=bA8 j d l ((aP0 j N).map (fun s=>aD3.rm (aA8 s.k))++aW1 s c) (aJ6 j N+aZ4 s c) kr c []:=by
 unfold bR1 bA8 aJ6 aP0 aW1 aZ4;dsimp only
 rw[<-hN,h0];simp only[List.getLast?_append,List.getLast?_singleton,Option.some_or,Option.map_some,List.dropLast_concat,<-hc,decide_eq_false hn,Bool.false_eq_true,if_false]
end
theorem bE7:∀(a:List aK5) (s:aC4) (e:aK5),aB9 s (a++[e])={aB9 s a with l:=(aB9 s a).l++[e],ends:=(aB9 s a).ends++[(aB9 s a).long+(aD8 e).length]}
 |[],s,e=>rfl
 |x::r,s,e=>by
  show aB9 _ (r++[e])=_
  rw[bE7 r]
  rfl
theorem aY4:∀(a:List aK5) (s:aC4),(aB9 s a).l=s.l++a∧(aB9 s a).ends.length=s.ends.length+a.length
 |[],s=>by simp[aB9]
 |x::r,s=>by
  obtain⟨h1,h2⟩:=aY4 r {s with l:=s.l++[x],ends:=s.ends++[s.long+(aD8 x).length]};show(aB9 {s with l:=s.l++[x],ends:=s.ends++[s.long+(aD8 x).length]} r).l=_∧_
  refine⟨by rw[h1];simp,?_⟩;show(aB9 {s with l:=s.l++[x],ends:=s.ends++[s.long+(aD8 x).length]} r).ends.length=_
  rw[h2];simp
  omega
theorem bG6:∀(a:List aK5) (s:aC4),(aB9 s a).long=s.long+((a.map aD8).flatten.length:Int)
 |[],s=>by simp[aB9]
 |x::r,s=>by
  show(aB9 {s with l:=s.l++[x],ends:=s.ends++[s.long+(aD8 x).length]} r).long=_
  rw[bG6 r];have h:aC4.long {s with l:=s.l++[x],ends:=s.ends++[s.long+(aD8 x).length]}=s.long+(aD8 x).length:=by
   unfold aC4.long;simp
  rw[h];simp only[mG,List.flatten_cons,lT];omega
theorem bQ2(j:JnP)(N:Nat):aJ6 j N=((j.segs.drop N).map aC4.long).sum:=by
 unfold aJ6 aP0;rw[bK6,List.map_reverse,List.sum_reverse];omega
theorem dF2{j:JnP}{m1:Nat}(h:m1<j.segs.length)(hp:∀s∈j.segs,0<=s.long){c:aC4}(hc:0<=c.long):aJ6 j (m1+1)+aZ4 j.segs[m1] c<=(j.segs.map aC4.long).sum:=by
 have h1:(j.segs.map aC4.long).sum=((j.segs.take m1).map aC4.long).sum+((j.segs.drop m1).map aC4.long).sum:=by
  rw[<-List.sum_append,<-mE,List.take_append_drop]
 have h2:0<=((j.segs.take m1).map aC4.long).sum:=by
  have:∀l:List aC4,(∀s∈l,0<=s.long)->0<=(l.map aC4.long).sum:=by
   intro l;induction l with
   |nil=>intro _;simp
   |cons x r ih=>
    intro hl;have:=ih (fun s hs=>hl s (List.mem_cons_of_mem _ hs));have:=hl x (List.mem_cons_self ..);rw[mG,List.sum_cons];omega
  exact this _ (fun s hs=>hp s (List.mem_of_mem_take hs))
 rw[List.drop_eq_getElem_cons h,mG,List.sum_cons] at h1;rw[bQ2];have h3:=hp _ (lX h);unfold aZ4;split<;>omega
end
section
open Oct
theorem aN1(a b:List aD3):aI4 (a++b)=aI4 a+aI4 b:=by unfold aI4;rw[mE,List.sum_append]
theorem bC4(l:List aC4):aI4 (l.map fun s=>aD3.rm (aA8 s.k))=0:=by
 induction l with
 |nil=>rfl
 |cons x r ih=>unfold aI4 at ih⊢;rw[mG,mG,List.sum_cons,ih];rfl
theorem bX8(s c:aC4):aI4 (aW1 s c)=0:=by
 unfold aW1;split<;>rfl
theorem bW2{f t:Int}(hf:f<=9223372036854775807)(ht:-9223372036854775808<=t∧t<=9223372036854775807):(aZ3 f t).length<=1048600:=by
 refine aG4 ?_;have h1:(dA4 f).length<=10:=by
  unfold dA4;split
  ·simp
  exact aN8 _ (by omega)
 have h2:(aM8 [t]).length<=10:=aN5 (z:=[t]) (by intro n hn;obtain rfl:=List.mem_singleton.1 hn;exact ht);rw[lT];omega
theorem aC4.last_tm{s:aC4}(h:aZ8 s):-9223372036854775808<=s.last.2∧s.last.2<=9223372036854775807:=by
 unfold aC4.last;rcases mJ s.l with h0|⟨r,e,h0⟩
 ·rw[h0];exact h.term
 rw[mA] at h0;have:=h.ent e (by rw[h0];simp);rw[h0];simp only[List.getLast?_append,List.getLast?_singleton,Option.some_or];exact this.2.1
theorem aZ8.aheadB{s:aC4}(h:aZ8 s)(ix:Int):aZ8 (s.ahead ix):=⟨h.k,h.first,h.term,fun e he=>h.ent e (List.mem_of_mem_take he),fun n hn=>h.ends n (List.mem_of_mem_take hn)⟩
theorem saveJ_shape(j:JnP)(d:DkD)(l:List aK5)(hB:∀s∈j.segs,aZ8 s)(hl:∀e∈l,e.ix<=9223372036854775807):(∃c,aM6 j d l=(c,j,d))∨∃(ix:Int) (do12:List aD3) (fr:Int) (K:List aC4) (s0:aC4) (bh:List UInt8),aM6 j d l=bA8 j d l do12 fr K s0 bh∧aI4 do12=0∧bh.length<=1048600∧K.length<=j.segs.length∧(∀s∈K,s∈j.segs∨∃t∈j.segs,s=t.ahead ix)∧((∃t∈j.segs,s0=t.ahead ix)∨s0.l=[]):=by
 by_cases hb:j.bad=0
 rotate_left
 ·refine .inl ⟨j.bad,?_⟩
  unfold aM6;rw[if_pos hb]
 by_cases hm:cJ1 j l=0
 ·cases l with
  |nil=>
   refine .inl ⟨0,?_⟩;unfold aM6;rw[if_neg (by rw[hb];simp),if_neg (by rw[hm];simp)]
  |cons e0 r=>
   have hx:=hl e0 (List.mem_cons_self ..);have a9:=cI2 (d:=d) hb hm (rfl:e0::r=e0::r);obtain⟨N,hN⟩:∃N,N=bG9 j.segs e0.ix j.segs.length:=⟨_,rfl⟩
   have a8:∀s∈j.segs.take N,s∈j.segs:=fun s hs=>List.mem_of_mem_take hs
   rcases mJ (j.segs.take N) with h0|⟨kr,s,h0⟩
   ·exact .inr ⟨e0.ix,_,_,_,_,_,a9.trans (bP5 hN h0),bC4 _,bW2 hx (by omega),by simp,(fun s hs=>by cases hs),.inr rfl⟩
   rw[mA] at h0;have hs:s∈j.segs:=a8 s (by rw[h0];simp);have d9:kr.length+1<=j.segs.length:=by
    have:=congrArg List.length h0;rw[lV,lT] at this;simp at this
    omega
   have d8:∀t∈kr,t∈j.segs:=fun t ht=>a8 t (by rw[h0];simp[ht])
   have b8:aI4 ((aP0 j N).map (fun s=>aD3.rm (aA8 s.k))++aW1 s (s.ahead e0.ix))=0:=by rw[aN1,bC4,bX8]
   by_cases hn:600<=(s.ahead e0.ix).long
   ·refine .inr ⟨e0.ix,_,_,_,_,_,a9.trans (bW6 hN h0 rfl hn),b8,bW2 hx (aC4.last_tm ((hB s hs).aheadB _)),by simp;omega,fun t ht=>?_,.inr rfl⟩
    rcases List.mem_append.1 ht with ht|ht
    ·exact .inl (d8 t ht)
    exact .inr ⟨s,hs,List.mem_singleton.1 ht⟩
   exact .inr ⟨e0.ix,_,_,_,_,_,a9.trans (bY2 hN h0 rfl hn),b8,by simp,by omega,fun t ht=>.inl (d8 t ht),.inl ⟨s,hs,rfl⟩⟩
 refine .inl ⟨cJ1 j l,?_⟩;unfold aM6;rw[if_neg (by rw[hb];simp),if_pos hm]
theorem cP7(j:JnP)(d:DkD)(l:List aK5)(do12:List aD3)(fr:Int)(K:List aC4)(s0:aC4)(bh:List UInt8):((bA8 j d l do12 fr K s0 bh).2.1.segs=j.segs∨(bA8 j d l do12 fr K s0 bh).2.1.segs=K++[aB9 s0 l])∧((bA8 j d l do12 fr K s0 bh).2.2=d∨(bA8 j d l do12 fr K s0 bh).2.2=(aI5 (do12++[.app (aA8 (aB9 s0 l).k) (bh++(l.map aD8).flatten),.sync (aA8 (aB9 s0 l).k)]) d).2):=by
 unfold bA8;split
 ·exact⟨.inl rfl,.inl rfl⟩
 split
 ·exact⟨.inl rfl,.inl rfl⟩
 refine⟨?_,.inr rfl⟩;dsimp only
 split
 ·exact .inr rfl
 exact .inl rfl
def rbD(k:Nat):Nat:=k*14000000
def rbE(k:Nat):Nat:=k*1048576
theorem cI7(k:Nat):rbD (k+1)=rbD k+14000000:=Nat.succ_mul k 14000000
theorem cG9(k:Nat):rbE (k+1)=rbE k+1048576:=Nat.succ_mul k 1048576
theorem cG7{k k' :Nat}(h:k<=k'):rbD k<=rbD k' :=Nat.mul_le_mul_right _ h
theorem cI6{k k' :Nat}(h:k<=k'):rbE k<=rbE k' :=Nat.mul_le_mul_right _ h
structure RB(k:Nat)(j:JnP)(d:DkD):Prop where
 dk:JDk (rbD k) d
 len:j.segs.length<=k
 ent:∀s∈j.segs,s.l.length<=rbE k
theorem RB.mono{k k' :Nat}{j:JnP}{d:DkD}(h:RB k j d)(hk:k<=k'):RB k' j d:=
 ⟨h.dk.mono (cG7 hk),Nat.le_trans h.len hk,fun s hs=>Nat.le_trans (h.ent s hs) (cI6 hk)⟩
theorem bW7(s:aC4)(ix:Int):(s.ahead ix).l.length<=s.l.length:=by
 show(s.l.take _).length<=_
 rw[lV];omega
theorem RB.save{k:Nat}{j:JnP}{d:DkD}(h:RB k j d)(l:List aK5)(hB:∀s∈j.segs,aZ8 s)(hl:∀e∈l,e.ix<=9223372036854775807)(hn:l.length<=1048576)(hp:(l.map aD8).flatten.length<=12600000):RB (k+1) (aM6 j d l).2.1 (aM6 j d l).2.2:=by
 rcases saveJ_shape j d l hB hl with⟨c,hc⟩|⟨ix,do12,fr,K,s0,bh,he,hc,hb,hK,a8,h0⟩
 ·rw[hc];exact h.mono (by omega)
 rw[he];obtain⟨h1,h2⟩:=cP7 j d l do12 fr K s0 bh;have a9:s0.l.length<=rbE k:=by
  rcases h0 with⟨t,ht,rfl⟩|h0
  ·exact Nat.le_trans (bW7 t ix) (h.ent t ht)
  rw[h0];simp
 have hx:=cG9 k;have b8:=cI7 k;refine⟨?_,?_,fun s hs=>?_⟩
 ·rcases h2 with h2|h2
  ·rw[h2];exact h.dk.mono (by omega)
  rw[h2];refine(JDk.runs _ h.dk).mono ?_;rw[aN1,hc];have:aI4 [aD3.app (aA8 (aB9 s0 l).k) (bh++(l.map aD8).flatten),.sync (aA8 (aB9 s0 l).k)]=(bh++(l.map aD8).flatten).length+1:=by simp[aI4,aD3.cost]
  rw[this,lT];omega
 ·rcases h1 with h1|h1
  ·rw[h1];have:=h.len;omega
  rw[h1,lT];have:=h.len;simp
  omega
 rcases h1 with h1|h1
 ·rw[h1] at hs;have:=h.ent s hs;omega
 rw[h1] at hs;rcases List.mem_append.1 hs with hs|hs
 ·rcases a8 s hs with h3|⟨t,ht,rfl⟩
  ·have:=h.ent s h3;omega
  have:=h.ent t ht;have:=bW7 t ix;omega
 rw[List.mem_singleton.1 hs,(aY4 l s0).1,lT];omega
theorem RB.setMeta{k:Nat}{j:JnP}{d:DkD}(h:RB k j d)(t v:Int)(ht:-9223372036854775808<=t∧t<=9223372036854775807)(hv:-9223372036854775808<=v∧v<=9223372036854775807):RB (k+1) (aI9 j d t v).2.1 (aI9 j d t v).2.2:=by
 have b8:(aT9 t v).length<=1048600:=by
  refine aG4 ?_;have:=aN5 (z:=[t,v]) (by
   intro n hn;simp only[List.mem_cons,List.not_mem_nil,or_false] at hn;rcases hn with rfl|rfl
   ·exact ht
   exact hv)
  simp at this
  omega
 have hx:=cG9 k;have d9:=cI7 k;unfold aI9;split
 ·exact h.mono (by omega)
 split
 ·exact h.mono (by omega)
 obtain⟨al,a8⟩:∃al,al=(if(d.read aA9).2=0 then[aD3.rm aA9] else[])++[aD3.app aA9 (aT9 t v),.sync aA9,.ren]:=⟨_,rfl⟩
 dsimp only
 rw[<-a8];have d8:aI4 al<=1048601:=by
  rw[a8,aN1];have h1:aI4 (if(d.read aA9).2=0 then[aD3.rm aA9] else[])=0:=by split<;>rfl
  have h2:aI4 [aD3.app aA9 (aT9 t v),.sync aA9,.ren]=(aT9 t v).length+1:=by simp[aI4,aD3.cost]
  rw[h1,h2];omega
 have hd:JDk (rbD (k+1)) (aI5 al d).2:=(JDk.runs al h.dk).mono (by omega);clear a8;split
 ·exact h.mono (by omega)
 obtain⟨r,hr⟩:∃r,r=aI5 al d:=⟨_,rfl⟩
 rw[<-hr] at hd⊢;have e:(if r.1=0 then(⟨t,v,j.segs,0⟩:JnP) else {j with bad:=r.1}).segs=j.segs:=by split<;>rfl
 refine⟨hd,?_,fun s hs=>?_⟩
 ·show(if r.1=0 then(⟨t,v,j.segs,0⟩:JnP) else {j with bad:=r.1}).segs.length<=_
  rw[e];have:=h.len;omega
 have a9:s∈(if r.1=0 then(⟨t,v,j.segs,0⟩:JnP) else {j with bad:=r.1}).segs:=hs;rw[e] at a9;have:=h.ent s a9;omega
end
section
open Oct
theorem RI.sum{j:JnP}{d:DkD}(h:RI j d):(j.segs.map aC4.long).sum<=aB8 d.fs:=by
 obtain⟨pw,room,fs⟩:=d;obtain⟨a8,_,_,h3⟩:=h.segs.cutBack (pw:=pw) (room:=room) h.calm 0;have h4:=aD7 a8;rw[bK6,List.map_reverse,List.sum_reverse,List.drop_zero] at h3;simp only at h3⊢;omega
theorem bR5.ends_le{s:aC4}(h:bR5 s):s.ends≠[]∧∀n∈s.ends,0<=n∧n<=s.long:=⟨h.ne,fun n hn=>⟨h.pos n hn,bT4 h.rise n hn⟩⟩
theorem RI.long_le{j:JnP}{d:DkD}(h:RI j d):∀s∈j.segs,0<=s.long∧s.long<=aB8 d.fs:=fun s hs=>by
 obtain⟨hg,_,f,hf1,hf2⟩:=h.segs.seg s hs;have h1:=aJ5 (aC8 hf1);simp only at h1;exact⟨hg.long0,by omega⟩
structure dI5(j:JnP)(d:DkD):Prop where
 seg:j.segs.length<=1000000
 ks:∀s∈j.segs,1<=s.k∧s.k<=999999999
 long:∀s∈j.segs,s.l.length<=100000000∧0<=s.long∧s.long<=1000000000000
 ends:∀s∈j.segs,s.ends≠[]∧∀n∈s.ends,0<=n∧n<=1000000000000
 sum:(j.segs.map aC4.long).sum<=aB8 d.fs
theorem dH4{k:Nat}(h:k<=90):rbD k<=1260000000:=cG7 h
theorem dM0{k:Nat}(h:k<=90):rbE k<=94371840:=cI6 h
theorem RI.pre{j:JnP}{d:DkD}{k:Nat}(h:RI j d)(hb:RB k j d)(hk:k<=90):dI5 j d:=by
 have h1:=hb.dk.sz;have h2:=dH4 hk;have h3:=dM0 hk;have h4:=hb.len;refine⟨by omega,fun s hs=>(h.segs.seg s hs).2.1,fun s hs=>?_,fun s hs=>?_,h.sum⟩
 ·have:=hb.ent s hs
  have:=h.long_le s hs;omega
 have h5:=(h.segs.seg s hs).1.ends_le;have h6:=h.long_le s hs;refine⟨h5.1,fun n hn=>?_⟩;have:=h5.2 n hn;omega
theorem cM6{e:aK5}(ht:-9223372036854775808<=e.tm∧e.tm<=9223372036854775807)(hk:-9223372036854775808<=e.kd∧e.kd<=9223372036854775807):(aD8 e).length<=e.b.length+60:=by
 unfold aD8;have h1:=aN5 (z:=[e.tm,e.kd]) (by
  intro n hn;simp only[List.mem_cons,List.not_mem_nil,or_false] at hn;rcases hn with rfl|rfl
  ·exact ht
  exact hk)
 have h2:(cQ8 e.b).length<=e.b.length+10∧(cQ8 e.b).length<=65545:=by
  unfold cQ8;split
  ·simp
  have:=aN8 e.b.length (by omega);rw[lT];omega
 simp at h1
 have h3:(aM8 [e.tm,e.kd]++cQ8 e.b).length<=e.b.length+30∧(aM8 [e.tm,e.kd]++cQ8 e.b).length<=70000:=by rw[lT];omega
 rw[bJ8 (by omega),lT,lT,Crc.four_length];have:=aN8 (aM8 [e.tm,e.kd]++cQ8 e.b).length (by omega);omega
theorem bQ5:∀(l:List aK5),(∀e∈l,(-9223372036854775808<=e.tm∧e.tm<=9223372036854775807)∧(-9223372036854775808<=e.kd∧e.kd<=9223372036854775807))->(l.map aD8).flatten.length<=(l.map fun e=>e.b.length+5).sum*12
 |[],_=>by simp
 |e::r,h=>by
  have h1:=bQ5 r (fun x hx=>h x (List.mem_cons_of_mem _ hx));have h2:=h e (List.mem_cons_self ..);have h3:=cM6 h2.1 h2.2;simp only[mG,List.flatten_cons,lT,List.sum_cons];omega
end
section
open Go.RowKit Go.Maps Oct
theorem bX3(n:Nm):(str n).data.toList=n:=by simp[str]
theorem bC8.longB{w:World}{F:Nat->Prop}{ad:Addr}{s:aC4}(h:bC8 w F ad s):0<=s.long∧s.long<=4611686018427387904:=by
 unfold aC4.long;rcases mJ s.ends with h0|⟨r,x,hr⟩
 ·rw[h0];simp
 rw[mA] at hr;have:=h.rd.num.ends x (by rw[hr];simp);rw[hr]
 simpa using this
section
variable{w:World}{base g m gj:Nat}{p:PWD}{room:Int}{es:List (Nm×FE)}
theorem dL1(h:aB4 w base g m p room es)(n:Nm)(hn:n.length<=1000)(b1 b2:Nat)(c1:w.cell? ⟨b1,0,none⟩=some (.pointer (some ⟨gj,0,none⟩)))(c2:w.cell? ⟨b2,0,none⟩=some (.string (str n)))(c3:w.cell? ⟨gj,3,none⟩=some (.pointer (some ⟨g,0,none⟩)))(hf:∀k,k=b1∨k=b2∨k=gj->¬aB1 g m es k):
  Calls Tryz.prog 96 #[.pointer (some ⟨b1,0,none⟩),.pointer (some ⟨b2,0,none⟩)] w fun e w' =>e=.returned (.int .i64 ((aD3.rm n).run (aD6 p room es)).1)∧aC0 w base g m es ((aD3.rm n).run (aD6 p room es)).2 w' :=by
 have HC:=qZ (cC7 (h.below (aA3 (lS _ w) 1)) (str n) (by rw[aK1];omega));rw[bX3] at HC;obtain⟨R,hR⟩:∃R,R=(aD3.rm n).run (aD6 p room es):=⟨_,rfl⟩
 change Hid (Calls _ _ _ _ fun e w' =>e=.returned (.int .i64 ((aD3.rm n).run (aD6 p room es)).1)∧aC0 _ base g m es ((aD3.rm n).run (aD6 p room es)).2 w') at HC;rw[<-hR] at HC⊢;have HF:=qZ hf;have HB:=qZ (Fr.of_below (aB1 g m es) (aA3 (lS _ w) 1));have d9:=mI w ⟨b1,0,none⟩ c1;have d8:=mI w ⟨b2,0,none⟩ c2;have b8:=mI w ⟨gj,3,none⟩ c3;clear hR h hf;go_enter Tryz.func96,Tryz.ntmps96
 go_wp2_with fail
 refine wp_region_held_drew (S:=fun W=>W.cell? ⟨b1,0,none⟩=some (.pointer (some ⟨gj,0,none⟩))∧W.cell? ⟨b2,0,none⟩=some (.string (str n))∧W.cell? ⟨gj,3,none⟩=some (.pointer (some ⟨g,0,none⟩))∧True) (by kernel_rfl) ⟨c1,c2,c3,trivial⟩ (fun hHeld=>?_);refine zT 0 (k:=?_);refine zT 1 (k:=?_);refine zT 2 (k:=?_);refine zT 3 (k:=?_);refine zT 4 (k:=?_);simp only[zA,zB,zF,zG,zC,zD,zE];refine zV 5 (k:=fun K hK=>?_);simp only[zA,zB];go_simp;refine(show Calls _ _ _ w.drew _ from HC.out).mono ?_;rintro e w1 ⟨rfl,hT⟩;have a9:=aC0.step HB.out (fun k hk=>.inl hk) hT;have HT:=qZ a9;have a8:Fr (aB1 g m es) w w1:=by
  obtain⟨_,_,_,h3,_⟩:=HT.out;exact h3
 have d1:w1.cell? ⟨b1,0,none⟩=some (.pointer (some ⟨gj,0,none⟩)):=(World.cell?_of_block (a8.block b1 d9 (HF.out _ (.inl rfl)))).trans c1;have d2:w1.cell? ⟨b2,0,none⟩=some (.string (str n)):=(World.cell?_of_block (a8.block b2 d8 (HF.out _ (.inr (.inl rfl))))).trans c2;have d3:w1.cell? ⟨gj,3,none⟩=some (.pointer (some ⟨g,0,none⟩)):=(World.cell?_of_block (a8.block gj b8 (HF.out _ (.inr (.inr rfl))))).trans c3;clear hT a9 a8 HC;refine hK.out _ _ ⟨d1,d2,d3,trivial⟩ (fun hHeld=>?_);clear hK K;try simp only[zF,zG,zC,zD,zE]
 refine zT 6 (k:=?_);simp only[zA,zB,zF,zG,zC,zD,zE];refine wpAnyH_done (by kernel_rfl) ?_ _;clear c1 c2 c3 d1 d2 d3;go_wp2_with fail
 go_ret
 exact⟨rfl,HT.out⟩
theorem cY7(h:aB4 w base g m p room es)(n:Nm)(hn:n.length<=1000)(b1 b2:Nat)(c1:w.cell? ⟨b1,0,none⟩=some (.pointer (some ⟨gj,0,none⟩)))(c2:w.cell? ⟨b2,0,none⟩=some (.string (str n)))(c3:w.cell? ⟨gj,3,none⟩=some (.pointer (some ⟨g,0,none⟩)))(hf:∀k,k=b1∨k=b2∨k=gj->¬aB1 g m es k):
  Calls Tryz.prog 109 #[.pointer (some ⟨b1,0,none⟩),.pointer (some ⟨b2,0,none⟩)] w fun e w' =>e=.returned (.int .i64 ((aD3.sync n).run (aD6 p room es)).1)∧aC0 w base g m es ((aD3.sync n).run (aD6 p room es)).2 w' :=by
 have HC:=qZ (cY1 (h.below (aA3 (lS _ w) 1)) (str n) (by rw[aK1];omega));rw[bX3] at HC;obtain⟨R,hR⟩:∃R,R=(aD3.sync n).run (aD6 p room es):=⟨_,rfl⟩
 change Hid (Calls _ _ _ _ fun e w' =>e=.returned (.int .i64 ((aD3.sync n).run (aD6 p room es)).1)∧aC0 _ base g m es ((aD3.sync n).run (aD6 p room es)).2 w') at HC;rw[<-hR] at HC⊢;have HF:=qZ hf;have HB:=qZ (Fr.of_below (aB1 g m es) (aA3 (lS _ w) 1));have d9:=mI w ⟨b1,0,none⟩ c1;have d8:=mI w ⟨b2,0,none⟩ c2;have b8:=mI w ⟨gj,3,none⟩ c3;clear hR h hf;go_enter Tryz.func109,Tryz.ntmps109
 go_wp2_with fail
 refine wp_region_held_drew (S:=fun W=>W.cell? ⟨b1,0,none⟩=some (.pointer (some ⟨gj,0,none⟩))∧W.cell? ⟨b2,0,none⟩=some (.string (str n))∧W.cell? ⟨gj,3,none⟩=some (.pointer (some ⟨g,0,none⟩))∧True) (by kernel_rfl) ⟨c1,c2,c3,trivial⟩ (fun hHeld=>?_);refine zT 0 (k:=?_);refine zT 1 (k:=?_);refine zT 2 (k:=?_);refine zT 3 (k:=?_);refine zT 4 (k:=?_);simp only[zA,zB,zF,zG,zC,zD,zE];refine zV 5 (k:=fun K hK=>?_);simp only[zA,zB];go_simp;refine(show Calls _ _ _ w.drew _ from HC.out).mono ?_;rintro e w1 ⟨rfl,hT⟩;have a9:=aC0.step HB.out (fun k hk=>.inl hk) hT;have HT:=qZ a9;have a8:Fr (aB1 g m es) w w1:=by
  obtain⟨_,_,_,h3,_⟩:=HT.out;exact h3
 have d1:w1.cell? ⟨b1,0,none⟩=some (.pointer (some ⟨gj,0,none⟩)):=(World.cell?_of_block (a8.block b1 d9 (HF.out _ (.inl rfl)))).trans c1;have d2:w1.cell? ⟨b2,0,none⟩=some (.string (str n)):=(World.cell?_of_block (a8.block b2 d8 (HF.out _ (.inr (.inl rfl))))).trans c2;have d3:w1.cell? ⟨gj,3,none⟩=some (.pointer (some ⟨g,0,none⟩)):=(World.cell?_of_block (a8.block gj b8 (HF.out _ (.inr (.inr rfl))))).trans c3;clear hT a9 a8 HC;refine hK.out _ _ ⟨d1,d2,d3,trivial⟩ (fun hHeld=>?_);clear hK K;try simp only[zF,zG,zC,zD,zE]
 refine zT 6 (k:=?_);simp only[zA,zB,zF,zG,zC,zD,zE];refine wpAnyH_done (by kernel_rfl) ?_ _;clear c1 c2 c3 d1 d2 d3;go_wp2_with fail
 go_ret
 exact⟨rfl,HT.out⟩
theorem dB8(h:aB4 w base g m p room es)(n:Nm)(hn:n.length<=1000)(l:List UInt8)(A:Option Addr)(c b1 b2 b3:Nat)(c1:w.cell? ⟨b1,0,none⟩=some (.pointer (some ⟨gj,0,none⟩)))(c2:w.cell? ⟨b2,0,none⟩=some (.string (str n)))(c4:w.cell? ⟨b3,0,none⟩=some (.slice A l.length c))(c3:w.cell? ⟨gj,3,none⟩=some (.pointer (some ⟨g,0,none⟩)))(hf:∀k,k=b1∨k=b2∨k=b3∨k=gj->¬aB1 g m es k)
  (hr:Rd w w.heap.size A (cells l)) (i6:l.length<=c) (hl:l.length<=274877906944) (i4:∀q∈es,q.2.f.b.length<=549755813888) (g9:aB8 (sec FE.f es)<=4611686018427387904) (g8:es.length<4398046511104):
  Calls Tryz.prog 117 #[.pointer (some ⟨b1,0,none⟩),.pointer (some ⟨b2,0,none⟩),.pointer (some ⟨b3,0,none⟩)] w fun e w' =>e=.returned (.int .i64 ((aD3.app n l).run (aD6 p room es)).1)∧aC0 w base g m es ((aD3.app n l).run (aD6 p room es)).2 w' :=by
 have a8:Below w.heap.size w (w.drew.alloc (.cells #[.slice A l.length c] 34)):=((lS _ w).drew).alloc (by simp) _;have d8:Rd (w.drew.alloc (.cells #[.slice A l.length c] 34)) (w.drew.alloc (.cells #[.slice A l.length c] 34)).heap.size (some ⟨w.heap.size,0,none⟩) ([⟨A,l,c⟩].map Row.val):=by
  have h1:=aF9 w.drew 34 [.slice A l.length c];exact(show Rd _ _ _ _ from h1).more (by simp)
 have b8:RRd (w.drew.alloc (.cells #[.slice A l.length c] 34)) (w.drew.alloc (.cells #[.slice A l.length c] 34)).heap.size [⟨A,l,c⟩]:=fun q hq=>by
  obtain rfl:=List.mem_singleton.1 hq;exact⟨(hr.below a8).more a8.size,by show l.length<=_;omega⟩
 have HC:=qZ (bM3 (h.below a8) (str n) (by rw[aK1];omega) (some ⟨w.heap.size,0,none⟩) [⟨A,l,c⟩] 1 d8 b8 (by simp) (by simp) (by simp[aE9];omega) i4 g9 g8);rw[bX3] at HC;obtain⟨R,hR⟩:∃R,R=(aD3.app n l).run (aD6 p room es):=⟨_,rfl⟩
 change Hid (Calls _ _ _ _ fun e w' =>e=.returned (.int .i64 ((aD3.app n l).run (aD6 p room es)).1)∧aC0 _ base g m es ((aD3.app n l).run (aD6 p room es)).2 w') at HC;rw[<-hR] at HC⊢;have HF:=qZ hf;have HB:=qZ (Fr.of_below (aB1 g m es) a8);have f9:=mI w ⟨b1,0,none⟩ c1;have f7:=mI w ⟨b2,0,none⟩ c2;have f6:=mI w ⟨gj,3,none⟩ c3;have d9:=mI w ⟨b3,0,none⟩ c4;have e1:(w.drew.alloc (.cells #[.slice A l.length c] 34)).cell? ⟨b1,0,none⟩=some (.pointer (some ⟨gj,0,none⟩)):=(a8.cell (p:=⟨b1,0,none⟩) f9).trans c1;have e2:(w.drew.alloc (.cells #[.slice A l.length c] 34)).cell? ⟨b2,0,none⟩=some (.string (str n)):=(a8.cell (p:=⟨b2,0,none⟩) f7).trans c2;have e3:(w.drew.alloc (.cells #[.slice A l.length c] 34)).cell? ⟨gj,3,none⟩=some (.pointer (some ⟨g,0,none⟩)):=(a8.cell (p:=⟨gj,3,none⟩) f6).trans c3;have e4:(w.drew.alloc (.cells #[.slice A l.length c] 34)).cell? ⟨b3,0,none⟩=some (.slice A l.length c):=(a8.cell (p:=⟨b3,0,none⟩) d9).trans c4;clear hR h hf d8 b8 hr a8;go_enter Tryz.func117,Tryz.ntmps117
 go_wp2_with fail
 refine wp_region_held_drew (S:=fun W=>W.cell? ⟨b1,0,none⟩=some (.pointer (some ⟨gj,0,none⟩))∧W.cell? ⟨b2,0,none⟩=some (.string (str n))∧W.cell? ⟨gj,3,none⟩=some (.pointer (some ⟨g,0,none⟩))∧W.cell? ⟨b3,0,none⟩=some (.slice A l.length c)) (by kernel_rfl) ⟨c1,c2,c3,c4⟩ (fun hHeld=>?_);refine zT 0 (k:=?_);refine zT 1 (k:=?_);refine zT 2 (k:=?_);refine zT 3 (k:=?_);refine zT 4 (k:=?_);refine zT 5 (k:=?_);simp only[zA,zB,zF,zG,zC,zD,zE];refine zV 6 (k:=fun K hK=>?_);simp only[zA,zB];go_simp;refine hK.out _ _ ⟨e1,e2,e3,e4⟩ (fun hHeld=>?_);clear hK K;try simp only[zF,zG,zC,zD,zE]
 refine zV 7 (k:=fun K hK=>?_);simp only[zA,zB];go_simp;refine HC.out.mono ?_;rintro e w1 ⟨rfl,hT⟩;have f8:=aC0.step HB.out (fun k hk=>.inl hk) hT;have HT:=qZ f8;have a9:Fr (aB1 g m es) w w1:=by
  obtain⟨_,_,_,h3,_⟩:=HT.out;exact h3
 have d1:w1.cell? ⟨b1,0,none⟩=some (.pointer (some ⟨gj,0,none⟩)):=(World.cell?_of_block (a9.block b1 f9 (HF.out _ (.inl rfl)))).trans c1;have d2:w1.cell? ⟨b2,0,none⟩=some (.string (str n)):=(World.cell?_of_block (a9.block b2 f7 (HF.out _ (.inr (.inl rfl))))).trans c2;have d3:w1.cell? ⟨gj,3,none⟩=some (.pointer (some ⟨g,0,none⟩)):=(World.cell?_of_block (a9.block gj f6 (HF.out _ (.inr (.inr (.inr rfl)))))).trans c3;have d4:w1.cell? ⟨b3,0,none⟩=some (.slice A l.length c):=(World.cell?_of_block (a9.block b3 d9 (HF.out _ (.inr (.inr (.inl rfl)))))).trans c4;clear hT f8 a9 HC e1 e2 e3 e4;refine hK.out _ _ ⟨d1,d2,d3,d4⟩ (fun hHeld=>?_);clear hK K;try simp only[zF,zG,zC,zD,zE]
 refine zT 8 (k:=?_);simp only[zA,zB,zF,zG,zC,zD,zE];refine wpAnyH_done (by kernel_rfl) ?_ _;clear c1 c2 c3 c4 d1 d2 d3 d4;go_wp2_with fail
 go_ret
 exact⟨rfl,HT.out⟩
theorem dE0(h:aB4 w base g m p room es)(b1:Nat)(c1:w.cell? ⟨b1,0,none⟩=some (.pointer (some ⟨gj,0,none⟩)))(c3:w.cell? ⟨gj,3,none⟩=some (.pointer (some ⟨g,0,none⟩)))(a8:es.length<4398046511104):
  Calls Tryz.prog 70 #[.pointer (some ⟨b1,0,none⟩)] w fun e w' =>e=.returned (.int .i64 (aD3.ren.run (aD6 p room es)).1)∧aC0 w base g m es (aD3.ren.run (aD6 p room es)).2 w' :=by
 have HC:=qZ (cF5 h ⟨#[109,101,116,97,46,110,101,119]⟩ ⟨#[109,101,116,97]⟩ (by show 8<=_;omega) (by show 4<=_;omega) a8);obtain⟨R,hR⟩:∃R,R=aD3.ren.run (aD6 p room es):=⟨_,rfl⟩
 change Hid (Calls _ _ _ _ fun e w' =>e=.returned (.int .i64 (aD3.ren.run (aD6 p room es)).1)∧aC0 _ base g m es (aD3.ren.run (aD6 p room es)).2 w') at HC;rw[<-hR] at HC⊢;clear hR h;go_enter Tryz.func70,Tryz.ntmps70
 go_wp2_with fail
 refine HC.out.mono ?_;rintro e w1 ⟨rfl,hT⟩;have HT:=qZ hT;clear hT c1 c3;go_wp2_with fail
 go_ret
 exact⟨rfl,HT.out⟩
theorem cZ8(h:aB4 w base g m p room es){E:Nat->Prop}{s:aC4}(b1 b13:Nat)(hM:bC8 w E ⟨b13,0,none⟩ s)(hE:∀k,E k->k<w.heap.size)(c1:w.cell? ⟨b1,0,none⟩=some (.pointer (some ⟨g,0,none⟩)))(hf:¬aB1 g m es b1)(ht:Tab w):
  Calls Tryz.prog 54 #[.pointer (some ⟨b1,0,none⟩),.pointer (some ⟨b13,0,none⟩)] w fun e w' =>e=.returned (.int .i64 ((aD3.cut (aA8 s.k) s.long).run (aD6 p room es)).1)∧aC0 w base g m es ((aD3.cut (aA8 s.k) s.long).run (aD6 p room es)).2 w' :=by
 have j8:=hM.longB;have g8:=hM.rd.num.k;have j6:=aN2 s.k g8;have b8:=qZ ((hM.keep (w' :=w.drew) (lR _) (fun _ _=>rfl)).nameJ (ht.below (aA3 (lS _ w) 1)));have d9:=qZ (fun(w2:World) (hb:Below w.heap.size w w2)=>(hM.keep hb.size (fun k hk=>hb.block k (hE k hk))).long);have a8:=qZ (fun(w2:World) (hb:Below w.heap.size w w2)=>bY7 (h.below hb) (str (aA8 s.k)) (by rw[aK1];omega) s.long (by omega));obtain⟨n,hn⟩:∃n,n=aA8 s.k:=⟨_,rfl⟩
 obtain⟨z,hz⟩:∃n,n=s.long:=⟨_,rfl⟩
 rw[<-hn] at b8 a8⊢;rw[<-hz] at d9 a8⊢;rw[bX3] at a8;obtain⟨R,hR⟩:∃R,R=(aD3.cut n z).run (aD6 p room es):=⟨_,rfl⟩
 change Hid (∀(w2:World) (hb:Below w.heap.size w w2),Calls _ _ _ _ fun e w' =>e=.returned (.int .i64 ((aD3.cut n z).run (aD6 p room es)).1)∧aC0 _ base g m es ((aD3.cut n z).run (aD6 p room es)).2 w') at a8;rw[<-hR] at a8⊢;have HF:=qZ hf;have f7:=mI w ⟨b1,0,none⟩ c1;clear hR h hf hM hE j8 g8 j6 hn hz ht;go_enter Tryz.func54,Tryz.ntmps54
 go_wp2_with fail
 refine wp_region_held_drew (S:=fun W=>W.cell? ⟨b1,0,none⟩=some (.pointer (some ⟨g,0,none⟩))∧True∧True∧True) (by kernel_rfl) ⟨c1,trivial,trivial,trivial⟩ (fun hHeld=>?_);refine zT 0 (k:=?_);refine zT 1 (k:=?_);refine zT 3 (k:=?_);simp only[zA,zB,zF,zG,zC,zD,zE];refine zV 2 (k:=fun K hK=>?_);simp only[zA,zB];go_simp;refine(show Calls _ _ _ w.drew _ from b8.out).mono ?_;rintro e w1 ⟨rfl,f9⟩;have a9:Below w.heap.size w w1:=((lS _ w).drew).trans f9;have d1:w1.cell? ⟨b1,0,none⟩=some (.pointer (some ⟨g,0,none⟩)):=(a9.cell (p:=⟨b1,0,none⟩) f7).trans c1;have d8:=qZ a9;clear f9 a9 b8;refine hK.out _ _ ⟨d1,trivial,trivial,trivial⟩ (fun hHeld=>?_);clear hK K;try simp only[zF,zG,zC,zD,zE]
 refine zV 4 (k:=fun K hK=>?_);simp only[zA,zB];go_simp;refine(d9.out w1 d8.out).mono ?_;rintro e w2 ⟨rfl,i6⟩;have f6:Below w.heap.size w w2:=d8.out.trans (i6.mono d8.out.size);have d2:w2.cell? ⟨b1,0,none⟩=some (.pointer (some ⟨g,0,none⟩)):=(f6.cell (p:=⟨b1,0,none⟩) f7).trans c1;have i4:=qZ f6;clear i6 f6 d9;refine hK.out _ _ ⟨d2,trivial,trivial,trivial⟩ (fun hHeld=>?_);clear hK K;try simp only[zF,zG,zC,zD,zE]
 refine zV 5 (k:=fun K hK=>?_);simp only[zA,zB];go_simp;refine(a8.out w2 i4.out).mono ?_;rintro e w3 ⟨rfl,hT⟩;have g9:=aC0.step (Fr.of_below (aB1 g m es) i4.out) (fun k hk=>.inl hk) hT;have HT:=qZ g9;have f8:Fr (aB1 g m es) w w3:=by
  obtain⟨_,_,_,h3,_⟩:=HT.out;exact h3
 have d3:w3.cell? ⟨b1,0,none⟩=some (.pointer (some ⟨g,0,none⟩)):=(World.cell?_of_block (f8.block b1 f7 HF.out)).trans c1;clear hT g9 f8 a8;refine hK.out _ _ ⟨d3,trivial,trivial,trivial⟩ (fun hHeld=>?_);clear hK K;try simp only[zF,zG,zC,zD,zE]
 refine zT 6 (k:=?_);simp only[zA,zB,zF,zG,zC,zD,zE];refine wpAnyH_done (by kernel_rfl) ?_ _;clear c1 d1 d2 d3;go_wp2_with fail
 go_ret
 exact⟨rfl,HT.out⟩
theorem cU1(h:aB4 w base g m p room es){E:Nat->Prop}{s:aC4}{ad:Addr}(b1 b2 b3:Nat)(z:Int)(hz:-9223372036854775808<=z∧z<=9223372036854775807)(hM:bC8 w E ad s)(c1:w.cell? ⟨b1,0,none⟩=some (.pointer (some ⟨gj,0,none⟩)))(c2:w.cell? ⟨b2,0,none⟩=some (.pointer (some ad)))(c4:w.cell? ⟨b3,0,none⟩=some (.int .i64 z))(c3:w.cell? ⟨gj,3,none⟩=some (.pointer (some ⟨g,0,none⟩)))(hf:∀k,k=b1∨k=b2∨k=b3∨k=gj->¬aB1 g m es k)(ht:Tab w):
  Calls Tryz.prog 61 #[.pointer (some ⟨b1,0,none⟩),.pointer (some ⟨b2,0,none⟩),.pointer (some ⟨b3,0,none⟩)] w fun e w' =>e=.returned (.int .i64 ((aD3.cut (aA8 s.k) z).run (aD6 p room es)).1)∧aC0 w base g m es ((aD3.cut (aA8 s.k) z).run (aD6 p room es)).2 w' :=by
 have f8:=hM.rd.num.k;have i6:=aN2 s.k f8;have d8:=qZ ((hM.keep (w' :=w.drew) (lR _) (fun _ _=>rfl)).nameJ (ht.below (aA3 (lS _ w) 1)));have a9:=qZ (fun(w2:World) (hb:Below w.heap.size w w2)=>bY7 (h.below hb) (str (aA8 s.k)) (by rw[aK1];omega) z hz);obtain⟨n,hn⟩:∃n,n=aA8 s.k:=⟨_,rfl⟩
 rw[<-hn] at d8 a9⊢;rw[bX3] at a9;obtain⟨R,hR⟩:∃R,R=(aD3.cut n z).run (aD6 p room es):=⟨_,rfl⟩
 change Hid (∀(w2:World) (hb:Below w.heap.size w w2),Calls _ _ _ _ fun e w' =>e=.returned (.int .i64 ((aD3.cut n z).run (aD6 p room es)).1)∧aC0 _ base g m es ((aD3.cut n z).run (aD6 p room es)).2 w') at a9;rw[<-hR] at a9⊢;have HF:=qZ hf;have i4:=mI w ⟨b1,0,none⟩ c1;have g8:=mI w ⟨b2,0,none⟩ c2;have f9:=mI w ⟨gj,3,none⟩ c3;have f6:=mI w ⟨b3,0,none⟩ c4;obtain⟨b,o,_,_,_,_,_,rfl,_⟩:=hM.rd.cells;clear hR h hf hM f8 i6 hn ht hz;go_enter Tryz.func61,Tryz.ntmps61
 go_wp2_with fail
 refine wp_region_held_drew (S:=fun W=>W.cell? ⟨b1,0,none⟩=some (.pointer (some ⟨gj,0,none⟩))∧W.cell? ⟨b2,0,none⟩=some (.pointer (some ⟨b,o,none⟩))∧W.cell? ⟨gj,3,none⟩=some (.pointer (some ⟨g,0,none⟩))∧W.cell? ⟨b3,0,none⟩=some (.int .i64 z)) (by kernel_rfl) ⟨c1,c2,c3,c4⟩ (fun hHeld=>?_);refine zT 0 (k:=?_);refine zT 1 (k:=?_);refine zT 2 (k:=?_);refine zT 3 (k:=?_);refine zT 4 (k:=?_);refine zT 6 (k:=?_);simp only[zA,zB,zF,zG,zC,zD,zE];refine zV 5 (k:=fun K hK=>?_);simp only[zA,zB];go_simp;refine(show Calls _ _ _ w.drew _ from d8.out).mono ?_;rintro e w1 ⟨rfl,f7⟩;have a8:Below w.heap.size w w1:=((lS _ w).drew).trans f7;have e1:w1.cell? ⟨b1,0,none⟩=some (.pointer (some ⟨gj,0,none⟩)):=(a8.cell (p:=⟨b1,0,none⟩) i4).trans c1;have e2:w1.cell? ⟨b2,0,none⟩=some (.pointer (some ⟨b,o,none⟩)):=(a8.cell (p:=⟨b2,0,none⟩) g8).trans c2;have e3:w1.cell? ⟨gj,3,none⟩=some (.pointer (some ⟨g,0,none⟩)):=(a8.cell (p:=⟨gj,3,none⟩) f9).trans c3;have e4:w1.cell? ⟨b3,0,none⟩=some (.int .i64 z):=(a8.cell (p:=⟨b3,0,none⟩) f6).trans c4;have d9:=qZ a8;clear f7 a8 d8;refine hK.out _ _ ⟨e1,e2,e3,e4⟩ (fun hHeld=>?_);clear hK K;try simp only[zF,zG,zC,zD,zE]
 refine zV 7 (k:=fun K hK=>?_);simp only[zA,zB];go_simp;refine(a9.out w1 d9.out).mono ?_;rintro e w3 ⟨rfl,hT⟩;have g9:=aC0.step (Fr.of_below (aB1 g m es) d9.out) (fun k hk=>.inl hk) hT;have HT:=qZ g9;have b8:Fr (aB1 g m es) w w3:=by
  obtain⟨_,_,_,h3,_⟩:=HT.out;exact h3
 have d1:w3.cell? ⟨b1,0,none⟩=some (.pointer (some ⟨gj,0,none⟩)):=(World.cell?_of_block (b8.block b1 i4 (HF.out _ (.inl rfl)))).trans c1;have d2:w3.cell? ⟨b2,0,none⟩=some (.pointer (some ⟨b,o,none⟩)):=(World.cell?_of_block (b8.block b2 g8 (HF.out _ (.inr (.inl rfl))))).trans c2;have d3:w3.cell? ⟨gj,3,none⟩=some (.pointer (some ⟨g,0,none⟩)):=(World.cell?_of_block (b8.block gj f9 (HF.out _ (.inr (.inr (.inr rfl)))))).trans c3;have d4:w3.cell? ⟨b3,0,none⟩=some (.int .i64 z):=(World.cell?_of_block (b8.block b3 f6 (HF.out _ (.inr (.inr (.inl rfl)))))).trans c4;clear hT g9 b8 a9 e1 e2 e3 e4;refine hK.out _ _ ⟨d1,d2,d3,d4⟩ (fun hHeld=>?_);clear hK K;try simp only[zF,zG,zC,zD,zE]
 refine zT 8 (k:=?_);simp only[zA,zB,zF,zG,zC,zD,zE];refine wpAnyH_done (by kernel_rfl) ?_ _;clear c1 c2 c3 c4 d1 d2 d3 d4;go_wp2_with fail
 go_ret
 exact⟨rfl,HT.out⟩
end
end
section
open Go.RowKit Go.Shelf Go.Maps Oct
theorem aP2:(Tryz.prog.info? 98).map (fun i=>(i.zero,i.size,i.bytes))=some (some .nilFunc,1,8):=by kernel_rfl
def aK3(W:World)(E:Nat->Prop)(gj g:Nat)(v:Value):aD3->Prop
 | .rm n=>∃b1 b2,v=.func (.func 96) #[] #[.pointer (some ⟨b1,0,none⟩),.pointer (some ⟨b2,0,none⟩)]∧(E b1∧E b2)∧W.cell? ⟨b1,0,none⟩=some (.pointer (some ⟨gj,0,none⟩))∧W.cell? ⟨b2,0,none⟩=some (.string (str n))∧n.length<=1000
 | .sync n=>∃b1 b2,v=.func (.func 109) #[] #[.pointer (some ⟨b1,0,none⟩),.pointer (some ⟨b2,0,none⟩)]∧(E b1∧E b2)∧W.cell? ⟨b1,0,none⟩=some (.pointer (some ⟨gj,0,none⟩))∧W.cell? ⟨b2,0,none⟩=some (.string (str n))∧n.length<=1000
 | .app n p=>∃b1 b2 b3 A c,v=.func (.func 117) #[] #[.pointer (some ⟨b1,0,none⟩),.pointer (some ⟨b2,0,none⟩),.pointer (some ⟨b3,0,none⟩)]∧(E b1∧E b2∧E b3)∧W.cell? ⟨b1,0,none⟩=some (.pointer (some ⟨gj,0,none⟩))∧W.cell? ⟨b2,0,none⟩=some (.string (str n))∧n.length<=1000∧W.cell? ⟨b3,0,none⟩=some (.slice A p.length c)∧p.length<=c∧p.length<=274877906944∧RdF W E A (cells p)
 | .cut n k=>(∃b1 b13 s,v=.func (.func 54) #[] #[.pointer (some ⟨b1,0,none⟩),.pointer (some ⟨b13,0,none⟩)]∧E b1∧W.cell? ⟨b1,0,none⟩=some (.pointer (some ⟨g,0,none⟩))∧bC8 W E ⟨b13,0,none⟩ s∧n=aA8 s.k∧k=s.long)∨
  ∃b1 b2 b3 ad s,v=.func (.func 61) #[] #[.pointer (some ⟨b1,0,none⟩),.pointer (some ⟨b2,0,none⟩),.pointer (some ⟨b3,0,none⟩)]∧(E b1∧E b2∧E b3)∧W.cell? ⟨b1,0,none⟩=some (.pointer (some ⟨gj,0,none⟩))∧W.cell? ⟨b2,0,none⟩=some (.pointer (some ad))∧W.cell? ⟨b3,0,none⟩=some (.int .i64 k)∧(-9223372036854775808<=k∧k<=9223372036854775807)∧bC8 W E ad s∧n=aA8 s.k
 | .ren=>∃b1,v=.func (.func 70) #[] #[.pointer (some ⟨b1,0,none⟩)]∧E b1∧W.cell? ⟨b1,0,none⟩=some (.pointer (some ⟨gj,0,none⟩))
theorem aK3.keep{W W' :World}{E:Nat->Prop}{gj g:Nat}{v:Value}{a:aD3}(h:aK3 W E gj g v a)(hs:W.heap.size<=W'.heap.size)(hk:∀k,E k->W'.heap[k]? =W.heap[k]?):aK3 W' E gj g v a:=by
 have hc:∀b i u,E b->W.cell? ⟨b,i,none⟩=some u->W'.cell? ⟨b,i,none⟩=some u:=fun b i u hb hu=>(World.cell?_of_block (hk b hb)).trans hu
 cases a with
 |rm n=>
  obtain⟨b1,b2,h1,h2,h3,h4,h5⟩:=h;exact⟨b1,b2,h1,h2,hc _ _ _ h2.1 h3,hc _ _ _ h2.2 h4,h5⟩
 |sync n=>
  obtain⟨b1,b2,h1,h2,h3,h4,h5⟩:=h;exact⟨b1,b2,h1,h2,hc _ _ _ h2.1 h3,hc _ _ _ h2.2 h4,h5⟩
 |app n p=>
  obtain⟨b1,b2,b3,A,c,h1,h2,h3,h4,h5,h6,h7,h8,h9⟩:=h;exact⟨b1,b2,b3,A,c,h1,h2,hc _ _ _ h2.1 h3,hc _ _ _ h2.2.1 h4,h5,hc _ _ _ h2.2.2 h6,h7,h8,h9.keep hs hk⟩
 |cut n k=>
  rcases h with⟨b1,a8,s,h1,h2,h3,h4,h5⟩|⟨b1,b2,b3,ad,s,h1,h2,h3,h4,h5,h6,h7,h8⟩
  ·exact .inl ⟨b1,a8,s,h1,h2,hc _ _ _ h2 h3,h4.keep hs hk,h5⟩
  exact .inr ⟨b1,b2,b3,ad,s,h1,h2,hc _ _ _ h2.1 h3,hc _ _ _ h2.2.1 h4,hc _ _ _ h2.2.2 h5,h6,h7.keep hs hk,h8⟩
 |ren=>
  obtain⟨b1,h1,h2,h3⟩:=h;exact⟨b1,h1,h2,hc _ _ _ h2 h3⟩
theorem aK3.mono{W:World}{E E' :Nat->Prop}{gj g:Nat}{v:Value}{a:aD3}(h:aK3 W E gj g v a)(hE:∀k,E k->E' k):aK3 W E' gj g v a:=by
 cases a with
 |rm n=>
  obtain⟨b1,b2,h1,h2,h3,h4,h5⟩:=h;exact⟨b1,b2,h1,⟨hE _ h2.1,hE _ h2.2⟩,h3,h4,h5⟩
 |sync n=>
  obtain⟨b1,b2,h1,h2,h3,h4,h5⟩:=h;exact⟨b1,b2,h1,⟨hE _ h2.1,hE _ h2.2⟩,h3,h4,h5⟩
 |app n p=>
  obtain⟨b1,b2,b3,A,c,h1,h2,h3,h4,h5,h6,h7,h8,h9⟩:=h;exact⟨b1,b2,b3,A,c,h1,⟨hE _ h2.1,hE _ h2.2.1,hE _ h2.2.2⟩,h3,h4,h5,h6,h7,h8,h9.mono hE⟩
 |cut n k=>
  rcases h with⟨b1,a8,s,h1,h2,h3,h4,h5⟩|⟨b1,b2,b3,ad,s,h1,h2,h3,h4,h5,h6,h7,h8⟩
  ·exact .inl ⟨b1,a8,s,h1,hE _ h2,h3,h4.mono hE,h5⟩
  exact .inr ⟨b1,b2,b3,ad,s,h1,⟨hE _ h2.1,hE _ h2.2.1,hE _ h2.2.2⟩,h3,h4,h5,h6,h7.mono hE,h8⟩
 |ren=>
  obtain⟨b1,h1,h2,h3⟩:=h;exact⟨b1,h1,hE _ h2,h3⟩
theorem bD8(a:aD3)(r:List aD3):aI4 (a::r)=a.cost+aI4 r:=by unfold aI4;rw[mG,List.sum_cons]
theorem bL1{es:List (Nm×FE)}{pw:PWD}{room:Int}{L:Nat}(h:JDk L (aD6 pw room es)):(∀q∈es,(q.2.f.b.length:Int)<=L)∧es.length<=L:=by
 refine⟨fun q hq=>?_,?_⟩
 ·have h1:=aJ5 (q:=(q.1,q.2.f)) (l:=sec FE.f es) (List.mem_map.2 ⟨q,hq,rfl⟩)
  have h2:=h.sz;have e:aB8 (aD6 pw room es).fs=aB8 (sec FE.f es):=rfl;simp only at h1;omega
 have h2:=h.len;have e:(aD6 pw room es).fs.length=es.length:=by show(sec FE.f es).length=_;simp
 omega
theorem cP1{W:World}{E:Nat->Prop}{base g m gj:Nat}{pw:PWD}{room:Int}{es:List (Nm×FE)}{a:aD3}{v:Value}(hD:aB4 W base g m pw room es)(ha:aK3 W E gj g v a)(c3:W.cell? ⟨gj,3,none⟩=some (.pointer (some ⟨g,0,none⟩)))
  (hE:∀k,E k->k<W.heap.size∧¬aB1 g m es k) (a8:¬aB1 g m es gj) (ht:Tab W) {L:Nat} (a9:JDk L (aD6 pw room es)) (hL:L<=137438953472):
  ∃F caps,v=.func (.func F) #[] caps∧Enters Tryz.prog F∧Calls Tryz.prog F caps W fun e w' =>e=.returned (.int .i64 (a.run (aD6 pw room es)).1)∧aC0 W base g m es (a.run (aD6 pw room es)).2 w' :=by
 have d9:=bL1 a9;have b8:aB8 (sec FE.f es)<=4611686018427387904:=by
  have h2:=a9.sz;have e:aB8 (aD6 pw room es).fs=aB8 (sec FE.f es):=rfl;omega
 cases a with
 |rm n=>
  obtain⟨b1,b2,h1,h2,h3,h4,h5⟩:=ha;exact⟨_,_,h1,enters_of Tryz.func96 (by kernel_rfl) rfl,dL1 hD n h5 b1 b2 h3 h4 c3 (by rintro k (rfl|rfl|rfl);exact(hE _ h2.1).2;exact(hE _ h2.2).2;exact a8)⟩
 |sync n=>
  obtain⟨b1,b2,h1,h2,h3,h4,h5⟩:=ha;exact⟨_,_,h1,enters_of Tryz.func109 (by kernel_rfl) rfl,cY7 hD n h5 b1 b2 h3 h4 c3 (by rintro k (rfl|rfl|rfl);exact(hE _ h2.1).2;exact(hE _ h2.2).2;exact a8)⟩
 |app n p=>
  obtain⟨b1,b2,b3,A,c,h1,h2,h3,h4,h5,h6,h7,h8,h9⟩:=ha;exact⟨_,_,h1,enters_of Tryz.func117 (by kernel_rfl) rfl,dB8 hD n h5 p A c b1 b2 b3 h3 h4 h6 c3 (by rintro k (rfl|rfl|rfl|rfl);exact(hE _ h2.1).2;exact(hE _ h2.2.1).2;exact(hE _ h2.2.2).2;exact a8) h9.rd h7 h8 (fun q hq=>by have:=d9.1 q hq;omega) b8 (by omega)⟩
 |cut n k=>
  rcases ha with⟨b1,d8,s,h1,h2,h3,h4,h5,h6⟩|⟨b1,b2,b3,ad,s,h1,h2,h3,h4,h5,h6,h7,h8⟩
  ·subst h5 h6
   exact⟨_,_,h1,enters_of Tryz.func54 (by kernel_rfl) rfl,cZ8 hD b1 d8 h4 (fun k hk=>(hE k hk).1) h3 (hE _ h2).2 ht⟩
  subst h8;exact⟨_,_,h1,enters_of Tryz.func61 (by kernel_rfl) rfl,cU1 hD b1 b2 b3 k h6 h7 h3 h4 h5 c3 (by rintro k (rfl|rfl|rfl|rfl);exact(hE _ h2.1).2;exact(hE _ h2.2.1).2;exact(hE _ h2.2.2).2;exact a8) ht⟩
 |ren=>
  obtain⟨b1,h1,h2,h3⟩:=ha;exact⟨_,_,h1,enters_of Tryz.func70 (by kernel_rfl) rfl,dE0 hD b1 h3 c3 (by omega)⟩
def dL5(w:World)(base g m:Nat)(es:List (Nm×FE))(gj:Nat)(t v:Int)(sv:Value)(d:DkD)(bad:Int)(w' :World):Prop:=
 ∃es',aB4 w' base g m d.pw d.room es' ∧sec FE.f es' =d.fs∧Blk w' gj 53 #[.int .i64 t,.int .i64 v,sv,.pointer (some ⟨g,0,none⟩),.int .i64 bad]∧Fr (fun k=>aB1 g m es k∨k=gj) w w' ∧∀k,aB1 g m es' k->aB1 g m es k∨w.heap.size<=k
theorem DkD.eta' (d:DkD){es:List (Nm×FE)}(h:sec FE.f es=d.fs):aD6 d.pw d.room es=d:=by
 unfold aD6;rw[h]
theorem aU7{w:World}{E:Nat->Prop}{base g m gj:Nat}{pw:PWD}{room:Int}{es:List (Nm×FE)}(hD:aB4 w base g m pw room es){t v:Int}{sv:Value}(hJ:Blk w gj 53 #[.int .i64 t,.int .i64 v,sv,.pointer (some ⟨g,0,none⟩),.int .i64 0])(q8:base<=gj)
  (A:Option Addr) (vs:List Value) (al:List aD3) (c:Nat) (hr:RdF w E A vs) (hn:vs.length=al.length) (hv:∀k (h:k<vs.length) (h' :k<al.length),aK3 w E gj g vs[k] al[k])
  (hE:∀k,E k->k<w.heap.size∧¬aB1 g m es k∧k≠gj) (hT:∀w',Below base w w' ->Tab w') {L:Nat} (o5:JDk L (aD6 pw room es)) (hL:L+aI4 al<=137438953472) (t4:al.length<=1099511627776):
  Calls Tryz.prog 48 #[.pointer (some ⟨gj,0,none⟩),.slice A al.length c] w fun e w' =>e=.returned (.int .i64 (aI5 al (aD6 pw room es)).1)∧dL5 w base g m es gj t v sv (aI5 al (aD6 pw room es)).2 (aI5 al (aD6 pw room es)).1 w' :=by
 have n9:¬aB1 g m es gj:=hD.not_foot hJ (by decide) (by decide) (by decide);have p9:=hJ.lt;have j9:=qZ hD.lt;have HR:=qZ hr;have HV:=qZ hv;have HE:=qZ hE;have HT:=qZ hT;have HN:=qZ hn;have m8:dL5 w base g m es gj t v sv (aD6 pw room es) 0 w:=⟨es,hD,rfl,hJ,Fr.refl _ _,fun k hk=>.inl hk⟩;have o4:=qZ m8;have n7:=qZ o5;have s9:=qZ n9;obtain⟨d0,m9⟩:∃d,d=aD6 pw room es:=⟨_,rfl⟩
 rw[<-m9] at o4 n7⊢;obtain⟨R,m5⟩:∃R,R=aI5 al d0:=⟨_,rfl⟩
 rw[<-m5];have p6:=qZ m5;clear hr hv hE hT hn m8 o5 n9 hD hJ m9 m5;go_enter Tryz.func48,Tryz.ntmps48
 go_wp2_with fail
 go_loopw [9,6] (fun i _ wr=>∃(k Lk:Nat) (d:DkD) (bd:Int),k<=al.length∧i=.int .i64 k∧Lk+aI4 (al.drop k)<=137438953472∧Hid (dL5 w base g m es gj t v sv d bd wr)∧Hid (JDk Lk d)∧Hid (R=if bd=0 then aI5 (al.drop k) d else(bd,d))) (fun i _ _=>al.length-(intOf i).toNat)
 case atStart=>exact⟨0,L,d0,0,by omega,rfl,hL,o4,n7,qZ (by rw[if_pos rfl];exact p6.out)⟩
 obtain⟨k,Lk,d,bd,hk,rfl,n8,l7,d8,j6⟩:=hrel;obtain⟨n4,j8,i6,g8,f7,a9⟩:=l7.out;have o9:=f7.size;have c2:wr.cell? ⟨gj,4,none⟩=some (.int .i64 bd):=g8.cell 4;by_cases hlt:k<al.length
 rotate_left
 ·obtain rfl:k=al.length:=by omega
  have g9:R=(bd,d):=by
   rw[j6.out,List.drop_length];split
   ·rename_i h;rw[h];rfl
   rfl
  have p4:=qZ (show dL5 w base g m es gj t v sv R.2 R.1 wr by rw[g9];exact l7.out);have n5:R.1=bd:=by rw[g9]
  have p8:=qZ n5;clear g9 n5 j8 i6 g8 f7 a9;go_wp2_with fail
  go_ret
  exact⟨by rw[p8.out];rfl,p4.out⟩
 have l8:k<vs.length:=by rw[HN.out];exact hlt
 have l6:∀q,E q->wr.heap[q]? =w.heap[q]? :=fun q hq=>f7.block q (HE.out q hq).1 (by rintro(h1|h1);exact(HE.out q hq).2.1 h1;exact(HE.out q hq).2.2 h1)
 obtain⟨ab,ao,rfl,_,p0,m4⟩:=(HR.out.keep o9 l6) (by omega);have n6:wr.cell? ⟨ab,ao+k,none⟩=some vs[k]:=m4 k _ (lW l8);have l4:al.drop k=al[k]::al.drop (k+1):=List.drop_eq_getElem_cons hlt;have b8:aI4 (al.drop k)=al[k].cost+aI4 (al.drop (k+1)):=by rw[l4,bD8]
 obtain⟨u,hu⟩:∃u,u=vs[k]:=⟨_,rfl⟩
 obtain⟨a,ha⟩:∃a,a=al[k]:=⟨_,rfl⟩
 have f9:aK3 wr E gj g u a:=by rw[hu,ha];exact(HV.out k l8 hlt).keep o9 l6
 rw[<-hu] at n6;rw[<-ha] at l4 b8;by_cases hz:bd=0
 rotate_left
 ·have m2:Lk+aI4 (al.drop (k+1))<=137438953472:=by omega
  have m6:=qZ (show R=if bd=0 then aI5 (al.drop (k+1)) d else(bd,d) by rw[j6.out,if_neg hz,if_neg hz]);have q6:(bd==0)=false:=by simpa using hz
  clear f9 l4 b8 ha hu l6 a9 f7 j8 i6 g8 m4 l8 n8 j6 hz;go_wp2_with fail
  go_roundw
  case rel=>exact⟨k+1,Lk,d,bd,by omega,by go_num,m2,l7,d8,m6⟩
  case measure=>simp[intOf];omega
 subst hz;have o8:R=aI5 (a::al.drop (k+1)) d:=by rw[j6.out,if_pos rfl,l4]
 have c3:wr.cell? ⟨gj,3,none⟩=some (.pointer (some ⟨g,0,none⟩)):=g8.cell 3;have l9:¬aB1 g m n4 gj:=j8.not_foot g8 (by decide) (by decide) (by decide);have o7:Below base w wr:=f7.below (by have:=j9.out g (.inl rfl);omega) (by rintro j (h1|h1);exact(j9.out j h1).1;omega);obtain⟨F,m0,hv,i4,a8⟩:=cP1 j8 f9 c3 (fun q hq=>⟨by have:=(HE.out q hq).1;omega,fun h1=>by
  rcases a9 q h1 with h2|h2
  ·exact(HE.out q hq).2.1 h2
  have:=(HE.out q hq).1;omega⟩) l9 (HT.out _ o7) (by rw[DkD.eta' d i6];exact d8.out) (by omega)
 rw[DkD.eta' d i6] at a8;subst hv;obtain⟨AR,l5⟩:∃AR,AR=a.run d:=⟨_,rfl⟩
 rw[<-l5] at a8;have g9:R=if AR.1=0 then aI5 (al.drop (k+1)) AR.2 else AR:=by rw[o8,l5];rfl
 have m6:=qZ g9;have m3:=qZ (show JDk (Lk+a.cost) AR.2 by rw[l5];exact d8.out.run a);have m2:Lk+a.cost+aI4 (al.drop (k+1))<=137438953472:=by omega
 have d9:=qZ a8;have f6:Hid (∀w7,aC0 wr base g m n4 AR.2 w7->∃(hz:Blk w7 gj 53 #[.int .i64 t,.int .i64 v,sv,.pointer (some ⟨g,0,none⟩),.int .i64 0]),dL5 w base g m es gj t v sv AR.2 AR.1 (w7.setCell ⟨gj,4,none⟩ (.int .i64 AR.1))):=qZ (fun w7 hT7=>by
  obtain⟨o6,h1,h2,h3,h4⟩:=hT7;have f8:=h3.blk_ g8 l9;have p7:¬aB1 g m o6 gj:=h1.not_foot f8 (by decide) (by decide) (by decide);refine⟨f8,o6,?_,h2,Blk.set_ f8 4 _,?_,fun q hq=>?_⟩
  ·exact h1.keep (aA0 w7 gj 4 _).size (fun q hq=>Below.heap_setCell _ _ _ _ (by show q≠gj;rintro rfl;exact p7 hq))
  ·have e1:=f7.trans h3 (fun j hj=>(a9 j hj).elim (fun h=>.inl (.inl h)) .inr)
   exact e1.trans (Fr.of_grown (mine:=fun k=>k=gj) (aA0 w7 gj 4 _) (fun k e=>by injection e with e;exact e.symm)) (fun j hj=>.inl (.inr hj))
  rcases h4 q hq with h5|h5
  ·exact a9 q h5
  exact .inr (by omega))
 clear f9 l4 b8 ha hu a8 l5 l6 a9 f7 j8 i6 g8 l9 o7 g9 o8 m4 l8 n8 l7 d8 j6 c3;go_wp2_with fail
 rw[i4 m0 wr];refine d9.out.mono ?_;rintro e w7 ⟨rfl,hT7⟩;obtain⟨f8,m7⟩:=f6.out w7 hT7;have f4:w7.cell? ⟨gj,4,none⟩=some (.int .i64 0):=f8.cell 4;have z4:w7.frozen? ⟨gj,4,none⟩=false:=f8.frozen _;have p5:=qZ m7;clear hT7 f8 m7 d9 f6 i4 n6 c2;go_wp2_with fail
 go_roundw
 case rel=>exact⟨k+1,Lk+a.cost,AR.2,AR.1,by omega,by go_num,m2,p5,m3,m6⟩
 case measure=>simp[intOf];omega
end
section
open Go.RowKit Go.Shelf Go.Maps Oct
section
variable{w:World}{gj g:Nat}
theorem bY5(n:Nm)(hn:n.length<=1000)(w:World):
  Calls Tryz.prog 49 #[.pointer (some ⟨gj,0,none⟩),.string (str n)] w fun e w' =>∃v,e=.returned v∧Below w.heap.size w w' ∧(∃F caps,v=Value.func (.func F) #[] caps)∧(∀k,w.heap.size<=k->k<w'.heap.size->∀cs fz,w'.heap[k]? ≠some (.cells cs 98 fz))∧∀E:Nat->Prop,(∀k,w.heap.size<=k->k<w'.heap.size->E k)->aK3 w' E gj g v (.rm n):=by
 have a8:∀W,W=(w.alloc (.cells #[.pointer (some ⟨gj,0,none⟩)] 30)).alloc (.cells #[.string (str n)] 9)->Below w.heap.size w W∧(∀k,w.heap.size<=k->k<W.heap.size->∀cs fz,W.heap[k]? ≠some (.cells cs 98 fz))∧∀E:Nat->Prop,(∀k,w.heap.size<=k->k<W.heap.size->E k)->aK3 W E gj g (.func (.func 96) #[] #[.pointer (some ⟨w.heap.size,0,none⟩),.pointer (some ⟨w.heap.size+1,0,none⟩)]) (.rm n):=by
  rintro W rfl;have h1:=Blk.new w 30 #[.pointer (some ⟨gj,0,none⟩)];have h2:=Blk.new (w.alloc (.cells #[.pointer (some ⟨gj,0,none⟩)] 30)) 9 #[.string (str n)];have hs:(w.alloc (.cells #[.pointer (some ⟨gj,0,none⟩)] 30)).heap.size=w.heap.size+1:=by simp
  rw[hs] at h2;have a9:=h1.below ((lS _ (w.alloc (.cells #[.pointer (some ⟨gj,0,none⟩)] 30))).alloc (lR _) (.cells #[.string (str n)] 9)) h1.lt;have b8:∀k,w.heap.size<=k->k<((w.alloc (.cells #[.pointer (some ⟨gj,0,none⟩)] 30)).alloc (.cells #[.string (str n)] 9)).heap.size->∀cs fz,((w.alloc (.cells #[.pointer (some ⟨gj,0,none⟩)] 30)).alloc (.cells #[.string (str n)] 9)).heap[k]? ≠some (.cells cs 98 fz):=fun k hk1 hk2 cs fz e=>by
   have d9:k<w.heap.size+1+1:=by simpa using hk2
   rcases(by omega:k=w.heap.size∨k=w.heap.size+1) with rfl|rfl
   ·rw[a9] at e
    injection e with e
    injection e with _ e _
    exact absurd e (by decide)
   rw[h2] at e;injection e with e
   injection e with _ e _
   exact absurd e (by decide)
  exact⟨((lS _ w).alloc (lR _) _).alloc (by simp) _,b8,fun E hE=>⟨_,_,rfl,⟨hE _ (lR _) (by simp;omega),hE _ (by omega) (by simp)⟩,a9.cell 0,h2.cell 0,hn⟩⟩
 have d8:=qZ a8;clear a8;go_enter Tryz.func49,Tryz.ntmps49
 go_wp2_with fail
 go_ret
 obtain⟨h1,h3,h2⟩:=d8.out _ rfl;exact⟨_,rfl,h1,⟨_,_,rfl⟩,h3,h2⟩
theorem bT7(n:Nm)(hn:n.length<=1000)(w:World):
  Calls Tryz.prog 57 #[.pointer (some ⟨gj,0,none⟩),.string (str n)] w fun e w' =>∃v,e=.returned v∧Below w.heap.size w w' ∧(∃F caps,v=Value.func (.func F) #[] caps)∧(∀k,w.heap.size<=k->k<w'.heap.size->∀cs fz,w'.heap[k]? ≠some (.cells cs 98 fz))∧∀E:Nat->Prop,(∀k,w.heap.size<=k->k<w'.heap.size->E k)->aK3 w' E gj g v (.sync n):=by
 have a8:∀W,W=(w.alloc (.cells #[.pointer (some ⟨gj,0,none⟩)] 30)).alloc (.cells #[.string (str n)] 9)->Below w.heap.size w W∧(∀k,w.heap.size<=k->k<W.heap.size->∀cs fz,W.heap[k]? ≠some (.cells cs 98 fz))∧∀E:Nat->Prop,(∀k,w.heap.size<=k->k<W.heap.size->E k)->aK3 W E gj g (.func (.func 109) #[] #[.pointer (some ⟨w.heap.size,0,none⟩),.pointer (some ⟨w.heap.size+1,0,none⟩)]) (.sync n):=by
  rintro W rfl;have h1:=Blk.new w 30 #[.pointer (some ⟨gj,0,none⟩)];have h2:=Blk.new (w.alloc (.cells #[.pointer (some ⟨gj,0,none⟩)] 30)) 9 #[.string (str n)];have hs:(w.alloc (.cells #[.pointer (some ⟨gj,0,none⟩)] 30)).heap.size=w.heap.size+1:=by simp
  rw[hs] at h2;have a9:=h1.below ((lS _ (w.alloc (.cells #[.pointer (some ⟨gj,0,none⟩)] 30))).alloc (lR _) (.cells #[.string (str n)] 9)) h1.lt;have b8:∀k,w.heap.size<=k->k<((w.alloc (.cells #[.pointer (some ⟨gj,0,none⟩)] 30)).alloc (.cells #[.string (str n)] 9)).heap.size->∀cs fz,((w.alloc (.cells #[.pointer (some ⟨gj,0,none⟩)] 30)).alloc (.cells #[.string (str n)] 9)).heap[k]? ≠some (.cells cs 98 fz):=fun k hk1 hk2 cs fz e=>by
   have d9:k<w.heap.size+1+1:=by simpa using hk2
   rcases(by omega:k=w.heap.size∨k=w.heap.size+1) with rfl|rfl
   ·rw[a9] at e
    injection e with e
    injection e with _ e _
    exact absurd e (by decide)
   rw[h2] at e;injection e with e
   injection e with _ e _
   exact absurd e (by decide)
  exact⟨((lS _ w).alloc (lR _) _).alloc (by simp) _,b8,fun E hE=>⟨_,_,rfl,⟨hE _ (lR _) (by simp;omega),hE _ (by omega) (by simp)⟩,a9.cell 0,h2.cell 0,hn⟩⟩
 have d8:=qZ a8;clear a8;go_enter Tryz.func57,Tryz.ntmps57
 go_wp2_with fail
 go_ret
 obtain⟨h1,h3,h2⟩:=d8.out _ rfl;exact⟨_,rfl,h1,⟨_,_,rfl⟩,h3,h2⟩
theorem cW9(n:Nm)(hn:n.length<=1000)(p:List UInt8)(A:Option Addr)(c:Nat)(f8:p.length<=c)(hp:p.length<=274877906944)(w:World):
  Calls Tryz.prog 66 #[.pointer (some ⟨gj,0,none⟩),.string (str n),.slice A p.length c] w fun e w' =>∃v,e=.returned v∧Below w.heap.size w w' ∧(∃F caps,v=Value.func (.func F) #[] caps)∧(∀k,w.heap.size<=k->k<w'.heap.size->∀cs fz,w'.heap[k]? ≠some (.cells cs 98 fz))∧∀E:Nat->Prop,(∀k,w.heap.size<=k->k<w'.heap.size->E k)->RdF w' E A (cells p)->aK3 w' E gj g v (.app n p):=by
 have a8:∀W,W=((w.alloc (.cells #[.pointer (some ⟨gj,0,none⟩)] 30)).alloc (.cells #[.string (str n)] 9)).alloc (.cells #[.slice A p.length c] 34)->Below w.heap.size w W∧(∀k,w.heap.size<=k->k<W.heap.size->∀cs fz,W.heap[k]? ≠some (.cells cs 98 fz))∧∀E:Nat->Prop,(∀k,w.heap.size<=k->k<W.heap.size->E k)->RdF W E A (cells p)->aK3 W E gj g (.func (.func 117) #[] #[.pointer (some ⟨w.heap.size,0,none⟩),.pointer (some ⟨w.heap.size+1,0,none⟩),.pointer (some ⟨w.heap.size+1+1,0,none⟩)]) (.app n p):=by
  rintro W rfl;have h1:=Blk.new w 30 #[.pointer (some ⟨gj,0,none⟩)];have h2:=Blk.new (w.alloc (.cells #[.pointer (some ⟨gj,0,none⟩)] 30)) 9 #[.string (str n)];have h3:=Blk.new ((w.alloc (.cells #[.pointer (some ⟨gj,0,none⟩)] 30)).alloc (.cells #[.string (str n)] 9)) 34 #[.slice A p.length c];have hs:(w.alloc (.cells #[.pointer (some ⟨gj,0,none⟩)] 30)).heap.size=w.heap.size+1:=by simp
  have f7:((w.alloc (.cells #[.pointer (some ⟨gj,0,none⟩)] 30)).alloc (.cells #[.string (str n)] 9)).heap.size=w.heap.size+1+1:=by simp
  rw[hs] at h2;rw[f7] at h3;have b2:=(lS _ (w.alloc (.cells #[.pointer (some ⟨gj,0,none⟩)] 30))).alloc (lR _) (.cells #[.string (str n)] 9);have b3:=(lS _ ((w.alloc (.cells #[.pointer (some ⟨gj,0,none⟩)] 30)).alloc (.cells #[.string (str n)] 9))).alloc (lR _) (.cells #[.slice A p.length c] 34);have b8:=(h1.below b2 h1.lt);have a9:=b8.below b3 b8.lt;have d8:=h2.below b3 h2.lt;have d9:∀k,w.heap.size<=k->k<(((w.alloc (.cells #[.pointer (some ⟨gj,0,none⟩)] 30)).alloc (.cells #[.string (str n)] 9)).alloc (.cells #[.slice A p.length c] 34)).heap.size->∀cs fz,(((w.alloc (.cells #[.pointer (some ⟨gj,0,none⟩)] 30)).alloc (.cells #[.string (str n)] 9)).alloc (.cells #[.slice A p.length c] 34)).heap[k]? ≠some (.cells cs 98 fz):=fun k hk1 hk2 cs fz e=>by
   have f9:k<w.heap.size+1+1+1:=by simpa using hk2
   rcases(by omega:k=w.heap.size∨k=w.heap.size+1∨k=w.heap.size+1+1) with rfl|rfl|rfl
   ·rw[a9] at e
    injection e with e
    injection e with _ e _
    exact absurd e (by decide)
   ·rw[d8] at e
    injection e with e
    injection e with _ e _
    exact absurd e (by decide)
   rw[h3] at e;injection e with e
   injection e with _ e _
   exact absurd e (by decide)
  exact⟨(((lS _ w).alloc (lR _) _).alloc (by simp) _).alloc (by simp;omega) _,d9,fun E hE hr=>⟨_,_,_,_,_,rfl,⟨hE _ (lR _) (by simp<;>omega),hE _ (by omega) (by simp<;>omega),hE _ (by omega) (by simp<;>omega)⟩,a9.cell 0,d8.cell 0,hn,h3.cell 0,f8,hp,hr⟩⟩
 have f6:=qZ a8;clear a8;go_enter Tryz.func66,Tryz.ntmps66
 go_wp2_with fail
 go_ret
 obtain⟨h1,h3,h2⟩:=f6.out _ rfl;exact⟨_,rfl,h1,⟨_,_,rfl⟩,h3,h2⟩
end
end
end Go.Proofs.YtgeofijddhflaaaGreatDoor
