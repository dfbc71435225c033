/- Opening an argument that is a slice of a journal's acts, and how many values it holds. No condition. -/
import Derived.Test.YtgeofijddhflaaaGreatDoorQCalcFacts
import Derived.Test.YtgeofijddhflaaaGreatDoorQKeepRPieces
import Derived.Test.YtgeofijddhflaaaGreatDoorQDiskApp
import Derived.Lib.ItoaLen
import Derived.Deep.DeepMust
import Derived.Lib.SmallJoins
set_option maxHeartbeats 8000000
set_option maxRecDepth 100000
namespace Go.Proofs.YtgeofijddhflaaaGreatDoor
section
open Oct
structure aK5 where
 ix:Int
 tm:Int
 kd:Int
 b:List UInt8
structure aC4 where
 k:Int
 first:Int
 term:Int
 l:List aK5
 ends:List Int
def aM8(l:List Int):List UInt8:=(l.map fun n=>enc (fold1 n)).flatten
def aZ3(first term:Int):List UInt8:=aF1 (dA4 first++aM8 [term])
def aD8(e:aK5):List UInt8:=aF1 (aM8 [e.tm,e.kd]++cQ8 e.b)
def aT9(term vote:Int):List UInt8:=aF1 (aM8 [term,vote])
def aC4.long(s:aC4):Int:=s.ends.getLastD 0
def aC4.last(s:aC4):Int×Int:=match s.l.getLast? with
 |none=>(s.first-1,s.term)
 |some e=>(e.ix,e.tm)
def aC4.aheadN(s:aC4)(ix:Int):Nat:=min (ix-s.first).toNat s.l.length
def aC4.ahead(s:aC4)(ix:Int):aC4:={s with l:=s.l.take (s.aheadN ix),ends:=s.ends.take (s.aheadN ix+1)}
def aC4.goesOn(s t:aC4):Bool:=decide (s.first-1=t.last.1)&&decide (s.term=t.last.2)
def aA8(k:Int):Nm:=106::Lib.itoa k
def aO8:Nm:=[109,101,116,97]
def aA9:Nm:=[109,101,116,97,46,110,101,119]
def cB5:Nm->Int
 |[]=>0
 |c::r=>if r.length<1∨9<r.length∨c≠106 then 0 else if(aE0 r).2.2≠0∨(aE0 r).2.1≠(r.length:Int) then 0 else(aE0 r).1
def aE7:Nat->List UInt8->List Int×Option (List UInt8)
 |0,b=>([],some b)
 |n+1,b=>if(aA2 maxU b).2.2≠0∨aC9 (aA2 maxU b).1<0 then([],none) else
  (aC9 (aA2 maxU b).1::(aE7 n (b.drop (aA2 maxU b).2.1)).1,(aE7 n (b.drop (aA2 maxU b).2.1)).2)
def aG9:Int:=9223372036854775807
def aK0(p:List UInt8):Option (Int×Int):=
 if(aA2 maxI p).2.2≠0∨(aA2 maxI p).1<1∨((aA2 maxI p).1:Int)=aG9 then none else
 match aE7 1 (p.drop (aA2 maxI p).2.1) with
 |([t],some [])=>some ((aA2 maxI p).1,t)
 |_=>none
def aF6(p:List UInt8)(at_:Int):Option aK5:=
 match aE7 2 p with
 |([t,k],some r)=>if(aE8 r).2.2≠0∨(aE8 r).2.1≠r.length∨aG9-1<=at_ then none else some ⟨at_+1,t,k,(aE8 r).1⟩
 |_=>none
def aK7:List (List UInt8)->Int->aC4->Option aC4
 |[],_,s=>some s
 |p::r,a,s=>match aF6 p s.last.1 with
  |none=>none
  |some e=>aK7 r (a+(aF1 p).length) {s with l:=s.l++[e],ends:=s.ends++[a+(aF1 p).length]}
def aD9(k:Int)(b:List UInt8):Option (aC4×Bool):=
 match(aE4 b).1 with
 |[]=>some (⟨k,0,0,[],[]⟩,decide ((aE4 b).2.2≠0))
 |p::r=>match aK0 p with
  |none=>none
  |some (f,t)=>(aK7 r (aF1 p).length ⟨k,f,t,[],[((aF1 p).length:Int)]⟩).map fun s=>(s,decide ((aE4 b).2.2≠0))
def aD0:List (Nm×FD)->Option (List (aC4×Bool))
 |[]=>some []
 |q::r=>if cB5 q.1=0 then aD0 r else match aD9 (cB5 q.1) q.2.b with
  |none=>none
  |some s=>(aD0 r).map (s:: ·)
def aL1:List (aC4×Bool)->Bool
 |a::b::r=>decide (a.1.k=b.1.k-1)&& ! a.2&& ! a.1.ends.isEmpty&&aL1 (b::r)
 |_=>true
def aM4(d:DkD):Option (List (aC4×Bool)):=match aD0 d.fs with
 |none=>none
 |some l=>if aL1 (l.mergeSort fun x y=>decide (x.1.k<=y.1.k))=true then some (l.mergeSort fun x y=>decide (x.1.k<=y.1.k)) else none
def aF3(d:DkD):Option (Int×Int):=match d.read aO8 with
 |(b,e)=>if e≠0 then some (0,0) else if(aD2 b).2.2≠0∨(aD2 b).2.1≠b.length then none else
  match aE7 2 (aD2 b).1 with
  |([t,v],some [])=>some (t,v)
  |_=>none
inductive aD3
 |rm (n:Nm)
 |cut (n:Nm) (k:Int)
 |sync (n:Nm)
 |app (n:Nm) (p:List UInt8)
 |ren
def aD3.run(d:DkD):aD3->Int×DkD
 | .rm n=>d.remove n
 | .cut n k=>d.cutF n k
 | .sync n=>d.sync n
 | .app n p=>d.append n [p]
 | .ren=>d.rename aA9 aO8
def aI5:List aD3->DkD->Int×DkD
 |[],d=>(0,d)
 |a::r,d=>if(a.run d).1=0 then aI5 r (a.run d).2 else a.run d
structure JnP where
 term:Int
 vote:Int
 segs:List aC4
 bad:Int
def aG2:List aC4->List aC4->List aC4
 |acc,[]=>acc
 |acc,s::r=>aG2 (match acc.getLast? with|none=>[s]|some t=>if s.goesOn t=true then acc++[s] else[s]) r
def aE3(l:List (aC4×Bool))(m:Int×Int)(d:DkD):Int×Option JnP×DkD:=
 let segs:=aG2 [] (l.map (·.1))
 let acts:=((l.take (l.length-segs.length)).map fun f=>aD3.rm (aA8 f.1.k))++(match l.getLast? with
  |none=>[]
  |some f=>(if f.2=true then[.cut (aA8 f.1.k) f.1.long] else[])++[.sync (aA8 f.1.k)])
 let r:=aI5 acts d
 (r.1,if r.1=0 then some ⟨m.1,m.2,segs,0⟩ else none,r.2)
def aN9(d:DkD):Int×Option JnP×DkD:=match aF3 d,aM4 d with
 |some m,some l=>(match l.getLast? with
  |none=>aE3 l m d
  |some f=>if f.1.ends.isEmpty=true then(if(d.remove (aA8 f.1.k)).1=0 then aE3 l.dropLast m (d.remove (aA8 f.1.k)).2 else((d.remove (aA8 f.1.k)).1,none,(d.remove (aA8 f.1.k)).2)) else aE3 l m d)
 |_,_=>(53,none,d)
def aI1(d:DkD):Int×Option JnP×DkD:=
 if d.pw.off=true then(50,none,d) else if(d.fs.any fun q=>q.1==aA9)=true then
  (if(d.remove aA9).1=0 then aN9 (d.remove aA9).2 else((d.remove aA9).1,none,(d.remove aA9).2)) else aN9 d
def aI9(j:JnP)(d:DkD)(term vote:Int):Int×JnP×DkD:=
 if j.bad≠0 then(j.bad,j,d) else if term<0∨vote<0 then(1,j,d) else
 let p:=aT9 term vote
 if d.free+(d.read aA9).1.length<p.length then(52,j,d) else
 let r:=aI5 ((if(d.read aA9).2=0 then[.rm aA9] else[])++[.app aA9 p,.sync aA9,.ren]) d
 (r.1,if r.1=0 then⟨term,vote,j.segs,0⟩ else {j with bad:=r.1},r.2)
def JnP.base(j:JnP):Int×Int:=match j.segs with
 |[]=>(0,0)
 |s::_=>(s.first-1,s.term)
def JnP.last(j:JnP):Int×Int:=match j.segs.getLast? with
 |none=>(0,0)
 |some s=>s.last
def JnP.ents(j:JnP):List aK5:=(j.segs.map aC4.l).flatten
def bA6(base:Int):List aK5->Int->Option Int->Bool
 |[],_,_=>true
 |e::r,last,prev=> !(decide (e.ix<=base)||decide (last<e.ix-1)||decide (e.ix=aG9)||(match prev with|none=>false|some p=>decide (e.ix-1≠p))||decide (e.tm<0)||decide (e.kd<0))&&bA6 base r e.ix (some e.ix)
def cJ1(j:JnP)(l:List aK5):Int:=if bA6 j.base.1 l j.last.1 none=false then 1 else if(l.any fun e=>decide (65535<e.b.length))=true then 2 else 0
def bG9(segs:List aC4)(ix:Int):Nat->Nat
 |0=>0
 |1=>1
 |n+2=>match segs[n+1]? with
  |some s=>if ix<=s.first then bG9 segs ix (n+1) else n+2
  |none=>n+2
def aB9:aC4->List aK5->aC4
 |s,[]=>s
 |s,e::r=>aB9 {s with l:=s.l++[e],ends:=s.ends++[s.long+(aD8 e).length]} r
def aM6(j:JnP)(d:DkD)(l:List aK5):Int×JnP×DkD:=
 if j.bad≠0 then(j.bad,j,d) else if cJ1 j l≠0 then(cJ1 j l,j,d) else match l with
 |[]=>(0,j,d)
 |e0::_=>
  let n:=bG9 j.segs e0.ix j.segs.length
  let gone:=(j.segs.drop n).reverse
  let freed1:=(gone.map aC4.long).foldl (· + ·) 0
  let do1:=gone.map fun s=>aD3.rm (aA8 s.k)
  let kept:=j.segs.take n
  let cut:=kept.getLast?.map fun s=>(s,s.ahead e0.ix)
  let freed:=freed1+(match cut with|some (s,c)=>if c.long<s.long then s.long-c.long else 0|none=>0)
  let do2:=match cut with|some (s,c)=>(if c.long<s.long then[aD3.cut (aA8 s.k) c.long] else[])|none=>[]
  let kept2:=match cut with|some (_,c)=>kept.dropLast++[c]|none=>kept
  let new:=match cut with|some (_,c)=>decide (600<=c.long)|none=>true
  let fk:=match cut with|some (s,_)=>s.k+1|none=>1
  let ft:=match cut with|some (_,c)=>c.last.2|none=>0
  let hd:=aZ3 e0.ix ft
  let s0:aC4:=if new=true then⟨fk,e0.ix,ft,[],[(hd.length:Int)]⟩ else(match cut with|some (_,c)=>c|none=>⟨fk,e0.ix,ft,[],[]⟩)
  let b:=(if new=true then hd else[])++(l.map aD8).flatten
  let s1:=aB9 s0 l
  let segs:=(if new=true then kept2 else kept2.dropLast)++[s1]
  if 999999999<s1.k then(1,j,d) else if d.free+freed<(b.length:Int) then(52,j,d) else
  let r:=aI5 (do1++do2++[.app (aA8 s1.k) b,.sync (aA8 s1.k)]) d
  (r.1,if r.1=0 then {j with segs:=segs} else {j with bad:=r.1},r.2)
end
section
open Oct
structure JDk(L:Nat)(d:DkD):Prop where
 sz:aB8 d.fs<=(L:Int)
 len:d.fs.length<=L
 nm:∀q∈d.fs,q.1.length<=1000
theorem aJ5{q:Nm×FD}:∀{l:List (Nm×FD)},q∈l->(q.2.b.length:Int)<=aB8 l
 |x::r,h=>by
  have hn:=aD7 r;unfold aB8;rcases List.mem_cons.1 h with rfl|h
  ·omega
  have:=aJ5 h;omega
theorem bB2(f:Nm×FD->Bool):∀l:List (Nm×FD),aB8 (l.filter f)<=aB8 l
 |[]=>Int.le_refl _
 |x::r=>by
  have:=bB2 f r;by_cases h:f x=true
  ·rw[List.filter_cons_of_pos h]
   simp only[aB8];omega
  rw[List.filter_cons_of_neg h];simp only[aB8];omega
theorem aR3(n:Nm)(l:List (Nm×FD)):aB8 (aC2 n l)<=aB8 l:=bB2 _ l
theorem bS9{α:Type}(n:Nm)(l:List (Nm×α)):(aC2 n l).length<=l.length:=List.length_filter_le _ _
theorem bO7(x:Nm×FD):∀l:List (Nm×FD),aB8 (asIns x l)=x.2.b.length+aB8 l
 |[]=>by simp[asIns,aB8]
 |y::r=>by
  have:=bO7 x r;unfold asIns;split
  ·simp[aB8]
  simp only[aB8];omega
theorem bP3(n:Nm)(f:FD)(l:List (Nm×FD)):aB8 (aB7 n f l)=f.b.length+aB8 (aC2 n l):=bO7 _ _
theorem cJ5{α:Type}(n:Nm)(f:α)(l:List (Nm×α)):(aB7 n f l).length<=l.length+1:=by
 unfold aB7;rw[aM9];have:=bS9 n l;omega
theorem aV4{α:Type}{n:Nm}{f f' :α}{l:List (Nm×α)}(h:aB6 n l=some f):(aB7 n f' l).length<=l.length:=by
 unfold aB7;rw[aM9];have hm:=aC8 h;have:(aC2 n l).length<l.length:=by
  refine Nat.lt_of_le_of_ne (bS9 n l) fun e=>?_
  have h1:=List.filter_eq_self.1 (List.Sublist.eq_of_length (List.filter_sublist (p:=fun p:Nm×α=> !(p.1==n)) (l:=l)) e) _ hm;simp at h1
 omega
theorem aK6{n:Nm}{f:FD}:∀{l:List (Nm×FD)},aB6 n l=some f->(f.b.length:Int)+aB8 (aC2 n l)<=aB8 l
 |[],h=>by cases h
 |x::r,h=>by
  unfold aB6 at h;by_cases hx:(x.1==n)=true
  ·rw[List.find?_cons_of_pos (p:=fun p:Nm×FD=>p.1==n) hx] at h
   simp at h
   subst h;have h1:=aR3 n r;unfold aC2 at h1⊢;rw[List.filter_cons_of_neg (by simp[hx])];simp only[aB8];omega
  rw[List.find?_cons_of_neg (p:=fun p:Nm×FD=>p.1==n) hx] at h;have:=aK6 (l:=r) h;unfold aC2 at this⊢;rw[List.filter_cons_of_pos (by simpa using hx)];simp only[aB8];omega
def aD3.cost:aD3->Nat
 | .app _ p=>p.length+1
 |_=>0
def aI4(l:List aD3):Nat:=(l.map aD3.cost).sum
section
variable{L:Nat}{d:DkD}
theorem JDk.mono{L' :Nat}(h:JDk L d)(hN:L<=L'):JDk L' d:=⟨by have:=h.sz;omega,Nat.le_trans h.len hN,h.nm⟩
theorem JDk.pw(h:JDk L d)(p:PWD):JDk L {d with pw:=p}:=⟨h.sz,h.len,h.nm⟩
theorem JDk.del(h:JDk L d)(n:Nm):JDk L {d with fs:=aC2 n d.fs}:=
 ⟨Int.le_trans (aR3 n _) h.sz,Nat.le_trans (bS9 n _) h.len,fun q hq=>h.nm q (aG8.1 hq).1⟩
theorem JDk.put(h:JDk L d)(n:Nm)(f:FD)(hn:n.length<=1000){M:Nat}(hf:(f.b.length:Int)+aB8 (aC2 n d.fs)<=(M:Int))(hM:(aB7 n f d.fs).length<=M):JDk M {d with fs:=aB7 n f d.fs}:=
 ⟨by rw[bP3];exact hf,hM,fun q hq=>by
  rcases asPut_mem.1 hq with rfl|hq
  ·exact hn
  exact h.nm q hq.1⟩
theorem JDk.whole(h:JDk L d){fs:List (Nm×FD)}(hf:JDk L {d with fs:=fs}):JDk L (d.whole fs).2:=by
 have h1:=h.pw d.pw.cut.2.2;have h2:=hf.pw d.pw.cut.2.2;unfold DkD.whole;by_cases hc:d.pw.cut.1=false∨d.pw.cut.2.1 %2≠0
 ·simp only[if_pos hc]
  exact h2
 simp only[if_neg hc];exact h1
theorem dB3(n:Nm)(l:List (Nm×FD)):((((aB6 n l).getD ⟨[],0⟩).b.length:Nat):Int)+aB8 (aC2 n l)<=aB8 l:=by
 cases e:aB6 n l with
 |none=>
  have:=aR3 n l;simp
  omega
 |some f=>simpa using aK6 e
theorem cT8(h:JDk L d){n:Nm}{f:FD}(e:aB6 n d.fs=some f):n.length<=1000:=h.nm (n,f) (aC8 e)
theorem JDk.run(h:JDk L d)(a:aD3):JDk (L+a.cost) (a.run d).2:=by
 cases a with
 |rm n=>
  show JDk L (d.remove n).2
  unfold DkD.remove;split
  ·exact h
  split
  ·exact h
  exact h.whole (h.del n)
 |cut n k=>
  show JDk L (d.cutF n k).2
  unfold DkD.cutF;split
  ·exact h
  split
  ·exact h
  rename_i f hf
  split
  ·exact h
  refine h.whole (h.put n _ (cT8 h hf) ?_ (Nat.le_trans (aV4 hf) h.len));have h1:=aK6 hf;have h2:=h.sz;simp only[lV];omega
 |sync n=>
  show JDk L (d.sync n).2
  unfold DkD.sync;split
  ·exact h
  split
  ·exact h
  rename_i f hf
  split
  ·exact h.pw _
  refine(h.put n _ (cT8 h hf) ?_ (Nat.le_trans (aV4 hf) h.len)).pw _;have h1:=aK6 hf;have h2:=h.sz;simp only;omega
 |app n p=>
  show JDk (L+(p.length+1)) (d.append n [p]).2
  have hm:JDk (L+(p.length+1)) d:=h.mono (by omega);unfold DkD.append;split
  ·exact hm
  split
  ·exact hm
  rename_i hnm
  split
  ·exact hm
  have d8:=h.sz;have b8:=h.len;have a8:=dB3 n d.fs;have d9:(cG6 d.pw.cut.2.1 [p].flatten).length<=p.length:=by
   unfold cG6;rw[lV];simp
   omega
  refine(h.put n _ (by omega) ?_ (by have:=cJ5 n (⟨((aB6 n d.fs).getD ⟨[],0⟩).b++(if d.pw.cut.1=true then cG6 d.pw.cut.2.1 [p].flatten else[p].flatten),((aB6 n d.fs).getD ⟨[],0⟩).safe⟩:FD) d.fs;omega)).pw _;have a9:[p].flatten=p:=by simp
  simp only[lT];split
  ·push_cast;omega
  rw[a9];push_cast;omega
 |ren=>
  show JDk L (d.rename aA9 aO8).2
  unfold DkD.rename;split
  ·exact h
  split
  ·exact h
  rename_i f hf
  split
  ·exact h
  have hd:=h.del aA9;refine h.whole (hd.put aO8 f (by decide) ?_ ?_)
  ·have h1:=aK6 hf
   have h2:=aR3 aO8 (aC2 aA9 d.fs);have:=h.sz;simp only;omega
  have h1:=cJ5 aO8 f (aC2 aA9 d.fs);have h2:=aV4 (f' :=f) hf;have h3:=h.len;unfold aB7 at h2;rw[aM9] at h2;simp only;omega
theorem JDk.runs:∀(l:List aD3) {L:Nat} {d:DkD},JDk L d->JDk (L+aI4 l) (aI5 l d).2
 |[],L,d,h=>h
 |a::r,L,d,h=>by
  have e:L+aI4 (a::r)=L+a.cost+aI4 r:=by unfold aI4;simp;omega
  unfold aI5;rw[e];split
  ·exact JDk.runs r (h.run a)
  exact(h.run a).mono (by omega)
end
end
section
open Go.RowKit Oct
def RdF(w:World)(F:Nat->Prop)(A:Option Addr)(xs:List Value):Prop:=0<xs.length->∃b o,A=some ⟨b,o,none⟩∧F b∧b<w.heap.size∧∀j u,xs[j]? =some u->w.cell? ⟨b,o+j,none⟩=some u
theorem add_lit(b o j:Nat):(⟨b,o,none⟩:Addr).add j=⟨b,o+j,none⟩:=by
 unfold Addr.add;by_cases h:j=0
 ·subst h;rfl
 simp[h]
section
variable{w w' :World}{F F' :Nat->Prop}{A:Option Addr}{xs:List Value}
theorem RdF.rd(h:RdF w F A xs):Rd w w.heap.size A xs:=fun h0=>by
 obtain⟨b,o,e,_,hlt,hc⟩:=h h0;exact⟨⟨b,o,none⟩,e,hlt,fun j u hu=>by rw[add_lit];exact hc j u hu⟩
theorem RdF.keep(h:RdF w F A xs)(hs:w.heap.size<=w'.heap.size)(hk:∀k,F k->w'.heap[k]? =w.heap[k]?):RdF w' F A xs:=fun h0=>by
 obtain⟨b,o,e,hF,hlt,hc⟩:=h h0;exact⟨b,o,e,hF,by omega,fun j u hu=>(World.cell?_of_block (w:=w) (hk b hF)).trans (hc j u hu)⟩
theorem RdF.mono(h:RdF w F A xs)(hF:∀k,F k->F' k):RdF w F' A xs:=fun h0=>by
 obtain⟨b,o,e,h1,hlt,hc⟩:=h h0;exact⟨b,o,e,hF b h1,hlt,hc⟩
theorem RdF.nil:RdF w F A []:=fun h=>absurd h (by simp)
theorem RdF.take(h:RdF w F A xs)(k:Nat):RdF w F A (xs.take k):=fun h0=>by
 rw[lV] at h0;obtain⟨b,o,e,h1,hlt,hc⟩:=h (by omega);exact⟨b,o,e,h1,hlt,fun j u hu=>hc j u (by
  rw[List.getElem?_take] at hu;split at hu
  ·exact hu
  cases hu)⟩
theorem RdF.of_own{base:Nat}{e:TypeId}{n c:Nat}(h:Own w base e (.slice A n c) xs)(hF:∀k,base<=k->k<w.heap.size->F k):RdF w F A xs:=fun h0=>by
 rcases Own.whole h with⟨h1,h2⟩|⟨g,cap,cur,h1,h2,h3,h4,_⟩
 ·rw[h2] at h0
  simp at h0
 obtain⟨A',c',hv,_,_,hr⟩:=Own.shape h;injection h1 with e1 _ _
 injection hv with e2 _ _
 obtain⟨ad,e3,hlt,hc⟩:=hr h0;rw[<-e2,e1] at e3;injection e3 with e3
 subst e3;exact⟨g,0,e1,hF g h2 h3,h3,fun j u hu=>by rw[<-add_lit];exact hc j u hu⟩
theorem RdF.of_row{base:Nat}{e:TypeId}{size n m c:Nat}(h:w.ownsRow base e size (.slice A m c) n xs)(hF:∀k,base<=k->k<w.heap.size->F k)(hn:n*size=xs.length):RdF w F A xs:=fun h0=>by
 rcases h.2 with⟨h1,h2⟩|⟨g,cap,cur,h1,h2,h3,h4,h5,h6,h7⟩
 ·subst h2
  omega
 have hk:=h1;injection h1 with e1 e2 e3
 have hlt:=(Array.getElem?_eq_some_iff.1 h3).1;exact⟨g,0,e1,hF g h2 hlt,hlt,fun j u hu=>by
  have hj:=(List.getElem?_eq_some_iff.1 hu).1;have h8:=World.ownsRow.cellAt (hk▸h) (0+j) (by omega);rw[h8,Nat.zero_add];exact hu⟩
end
def bF9(w:World)(F:Nat->Prop)(v:Value)(l:List UInt8):Prop:=∃A c,v=.slice A l.length c∧l.length<=c∧c<=9223372036854775807∧RdF w F A (cells l)
structure aF2 where
 v:Value
 e:aK5
def aK2(q:aF2):List Value:=[.int .i64 q.e.ix,.int .i64 q.e.tm,.int .i64 q.e.kd,q.v]
def aA7(l:List aF2):List Value:=l.flatMap aK2
theorem aC3(l:List aF2):(aA7 l).length=4*l.length:=by
 induction l with
 |nil=>rfl
 |cons x r ih=>unfold aA7 at ih⊢;rw[List.flatMap_cons,lT,ih];simp[aK2];omega
theorem aF4(l:List aF2){k:Nat}(hk:k<l.length){j:Nat}(hj:j<4):(aA7 l)[k*4+j]? =(aK2 l[k])[j]? :=by
 induction l generalizing k with
 |nil=>simp at hk
 |cons x r ih=>
  unfold aA7 at ih⊢;rw[List.flatMap_cons];cases k with
  |zero=>rw[List.getElem?_append_left (by simp[aK2];omega)];simp
  |succ k=>
   rw[List.getElem?_append_right (by simp[aK2];omega)];have:(k+1)*4+j-(aK2 x).length=k*4+j:=by simp[aK2];omega
   rw[this,ih (by simpa using hk)]
   rfl
theorem aI3(a b:List aF2):aA7 (a++b)=aA7 a++aA7 b:=by unfold aA7;rw[List.flatMap_append]
theorem bF4(l:List aF2)(k:Nat):(aA7 l).take (k*4)=aA7 (l.take k):=by
 induction l generalizing k with
 |nil=>simp[aA7]
 |cons x r ih=>
  cases k with
  |zero=>simp[aA7]
  |succ k=>
   have:=ih k;unfold aA7 at this⊢;rw[List.take_succ_cons,List.flatMap_cons,List.flatMap_cons,<-this,List.take_append];have h4:(aK2 x).length=4:=rfl;rw[h4,List.take_of_length_le (by rw[h4];omega),show(k+1)*4-4=k*4 by omega]
structure aZ8(s:aC4):Prop where
 k:-9223372036854775808<=s.k∧s.k<=9223372036854775807
 first:0<=s.first∧s.first<=9223372036854775806
 term:-9223372036854775808<=s.term∧s.term<=9223372036854775807
 ent:∀e∈s.l,(-9223372036854775808<=e.ix∧e.ix<=9223372036854775807)∧(-9223372036854775808<=e.tm∧e.tm<=9223372036854775807)∧(-9223372036854775808<=e.kd∧e.kd<=9223372036854775807)
 ends:∀n∈s.ends,0<=n∧n<=4611686018427387904
structure aT8(w:World)(F:Nat->Prop)(ad:Addr)(s:aC4):Prop where
 at_:∃Al cl rs Ae ce,RdF w F (some ad) [.int .i64 s.k,.int .i64 s.first,.int .i64 s.term,.slice Al s.l.length cl,.slice Ae s.ends.length ce]∧s.l.length<=cl∧cl<=maxLen∧s.ends.length<=ce∧ce<=maxLen∧RdF w F Al (aA7 rs)∧rs.map aF2.e=s.l∧(∀q∈rs,bF9 w F q.v q.e.b)∧RdF w F Ae (s.ends.map (Value.int .i64))
 num:aZ8 s
section
variable{w w' :World}{F F' :Nat->Prop}{ad:Addr}{s:aC4}
theorem bF9.keep{v:Value}{l:List UInt8}(h:bF9 w F v l)(hs:w.heap.size<=w'.heap.size)(hk:∀k,F k->w'.heap[k]? =w.heap[k]?):bF9 w' F v l:=by
 obtain⟨A,c,h1,h2,h3,h4⟩:=h;exact⟨A,c,h1,h2,h3,h4.keep hs hk⟩
theorem bF9.mono{v:Value}{l:List UInt8}(h:bF9 w F v l)(hF:∀k,F k->F' k):bF9 w F' v l:=by
 obtain⟨A,c,h1,h2,h3,h4⟩:=h;exact⟨A,c,h1,h2,h3,h4.mono hF⟩
theorem aT8.keep(h:aT8 w F ad s)(hs:w.heap.size<=w'.heap.size)(hk:∀k,F k->w'.heap[k]? =w.heap[k]?):aT8 w' F ad s:=by
 obtain⟨⟨Al,cl,rs,Ae,ce,h1,h2,h3,h4,h5,h6,h7,h8,h9⟩,hn⟩:=h;exact⟨⟨Al,cl,rs,Ae,ce,h1.keep hs hk,h2,h3,h4,h5,h6.keep hs hk,h7,fun q hq=>(h8 q hq).keep hs hk,h9.keep hs hk⟩,hn⟩
theorem aT8.mono(h:aT8 w F ad s)(hF:∀k,F k->F' k):aT8 w F' ad s:=by
 obtain⟨⟨Al,cl,rs,Ae,ce,h1,h2,h3,h4,h5,h6,h7,h8,h9⟩,hn⟩:=h;exact⟨⟨Al,cl,rs,Ae,ce,h1.mono hF,h2,h3,h4,h5,h6.mono hF,h7,fun q hq=>(h8 q hq).mono hF,h9.mono hF⟩,hn⟩
end
end
section
open Go.RowKit Oct
theorem cK8(A:Option Addr)(ns:List Nm)(c:Nat)(x:Nm)(w:World)(hr:Rd w w.heap.size A (ns.map fun n=>.string (str n)))(hl:ns.length<=4611686018427387904):
  Calls Tryz.prog 93 #[.slice A ns.length c,.string (str x)] w fun e w' =>(∃r:Int,e=.returned (.int .i64 r)∧decide (0<=r)=ns.any fun n=>n==x)∧w=w' :=by
 have HR:=qZ hr;clear hr;go_enter Tryz.func93,Tryz.ntmps93
 go_wp2_with fail
 go_loopw [8,5] (fun i _ wr=>∃k:Nat,k<=ns.length∧i=.int .i64 k∧Hid ((ns.take k).any (fun n=>n==x)=false)∧wr=w) (fun i _ _=>ns.length-(intOf i).toNat)
 case atStart=>exact⟨0,by omega,rfl,qZ rfl,rfl⟩
 obtain⟨k,hk,rfl,HA,rfl⟩:=hrel;by_cases hlt:k<ns.length
 rotate_left
 ·obtain rfl:k=ns.length:=by omega
  go_wp2_with fail
  go_ret
  have h1:=HA.out;rw[List.take_length] at h1;refine⟨⟨_,rfl,?_⟩,rfl⟩;rw[h1]
  decide
 obtain⟨ad,rfl,d9,a9⟩:=HR.out.at_ (k:=k) (by rw[lU];exact hlt);rw[List.getElem_map] at a9;have a8:ns.take (k+1)=ns.take k++[ns[k]]:=by
  rw[List.take_add_one,lW hlt]
  rfl
 obtain⟨y,hy⟩:∃y,y=ns[k]:=⟨_,rfl⟩
 rw[<-hy] at a9 a8;have b8:=qZ a8;have d8:=qZ (show ns=ns.take (k+1)++ns.drop (k+1) from(List.take_append_drop _ _).symm);clear a8 hy;by_cases e:x=y
 ·have HE:=qZ e
  have hs:((str x).toList==(str y).toList)=true:=by rw[e];exact beq_self_eq_true _
  clear e;go_wp2_with fail
  go_ret
  refine⟨⟨_,rfl,?_⟩,rfl⟩;rw[d8.out,b8.out,HE.out];simp
 have HE:=qZ e;have hn:(str x).toList≠(str y).toList:=fun h=>e (by simpa[str,ByteArray.toList_eq] using h)
 have hs:((str x).toList==(str y).toList)=false:=beq_eq_false_iff_ne.2 hn;clear hn;clear e;go_wp2_with fail
 go_roundw
 case rel=>exact⟨k+1,by omega,by go_num,qZ (by rw[b8.out,List.any_append,HA.out];simpa using fun h=>HE.out h.symm),by first|rfl|trivial⟩
 case measure=>simp[intOf];omega
theorem bR6(A:Option Addr)(ns:List Nm)(c:Nat)(x:Nm)(w:World)(hr:Rd w w.heap.size A (ns.map fun n=>.string (str n)))(hl:ns.length<=4611686018427387904):
  Calls Tryz.prog 46 #[.slice A ns.length c,.string (str x)] w fun e w' =>e=.returned (.bool (ns.any fun n=>n==x))∧w=w' :=by
 have HI:=qZ (cK8 A ns c x w hr hl);clear hr;go_enter Tryz.func46,Tryz.ntmps46
 go_wp2_with fail
 refine HI.out.mono ?_;rintro e w' ⟨⟨r,rfl,hr⟩,rfl⟩;have a8:=qZ hr;clear hr HI;go_wp2_with fail
 go_ret
 refine⟨?_,rfl⟩;rw[<-a8.out]
 rfl
end
section
open Go.RowKit Oct
theorem bQ6(b o:Nat)(f t:Int)(Al:Option Addr)(c:Nat)(hf:0<=f∧f<=9223372036854775807)(w:World)(c1:w.cell? ⟨b,o+1,none⟩=some (.int .i64 f))(c2:w.cell? ⟨b,o+2,none⟩=some (.int .i64 t))(c3:w.cell? ⟨b,o+3,none⟩=some (.slice Al 0 c)):
  Calls Tryz.prog 62 #[.pointer (some ⟨b,o,none⟩)] w fun e w' =>e=.returned (.tuple #[.int .i64 (f-1),.int .i64 t])∧Below w.heap.size w w' :=by
 have hw:IntKind.i64.wrap (f-1)=f-1:=mH _ (by omega);go_enter Tryz.func62,Tryz.ntmps62
 go_wp2_with fail
 go_quiet (fail);go_wp2_with fail
 go_ret2
 exact⟨rfl,aA3 (lS _ _) _⟩
theorem bQ4(b o n eb eo c:Nat)(ix tm kd:Int)(Av:Option Addr)(lv cv:Nat)(hn:n<=4611686018427387904)(w:World)(c3:w.cell? ⟨b,o+3,none⟩=some (.slice (some ⟨eb,eo,none⟩) (n+1) c))(e0:w.cell? ⟨eb,eo+n*4,none⟩=some (.int .i64 ix))(e1:w.cell? ⟨eb,eo+n*4+1,none⟩=some (.int .i64 tm))(e2:w.cell? ⟨eb,eo+n*4+2,none⟩=some (.int .i64 kd))(e3:w.cell? ⟨eb,eo+n*4+3,none⟩=some (.slice Av lv cv))(f7:b<w.heap.size)(b8:eb<w.heap.size):
  Calls Tryz.prog 62 #[.pointer (some ⟨b,o,none⟩)] w fun e w' =>e=.returned (.tuple #[.int .i64 ix,.int .i64 tm])∧Below w.heap.size w w' :=by
 have hw:IntKind.i64.wrap (((n+1:Nat):Int)-1)=(n:Int):=by rw[mH _ (by omega)];omega
 have f8:((n+1:Nat):Int)-1=(n:Int):=by omega
 have f9:(((n+1:Nat):Int)==0)=false:=by simp;omega
 have i6:(n:Int)<((n+1:Nat):Int):=by omega
 have g8:(0:Int)<=(n:Int):=by omega
 have i4:IntKind.i64.wrap (n:Int)=(n:Int):=mH _ (by omega);have g9:(0:Int)<=(n:Int)∧(n:Int)<(n:Int)+1:=by omega
 go_enter Tryz.func62,Tryz.ntmps62
 go_wp2_with fail
 have a8:∀X:Obj,((w.alloc X).drew).cell? ⟨b,o+3,none⟩=some (.slice (some ⟨eb,eo,none⟩) (n+1) c)∧((w.alloc X).drew).cell? ⟨eb,eo+n*4,none⟩=some (.int .i64 ix)∧((w.alloc X).drew).cell? ⟨eb,eo+n*4+1,none⟩=some (.int .i64 tm)∧((w.alloc X).drew).cell? ⟨eb,eo+n*4+2,none⟩=some (.int .i64 kd)∧((w.alloc X).drew).cell? ⟨eb,eo+n*4+3,none⟩=some (.slice Av lv cv)∧True:=fun X=>by
  have hB:Below w.heap.size w (w.alloc X):=(lS _ w).alloc (lR _) _;exact⟨(hB.cell (p:=⟨b,o+3,none⟩) f7).trans c3,(hB.cell (p:=⟨eb,eo+n*4,none⟩) b8).trans e0,(hB.cell (p:=⟨eb,eo+n*4+1,none⟩) b8).trans e1,(hB.cell (p:=⟨eb,eo+n*4+2,none⟩) b8).trans e2,(hB.cell (p:=⟨eb,eo+n*4+3,none⟩) b8).trans e3,trivial⟩
 have d9:=qZ a8;clear a8;refine aD4 13 rfl (S:=fun W=>W.cell? ⟨b,o+3,none⟩=some (.slice (some ⟨eb,eo,none⟩) (n+1) c)∧W.cell? ⟨eb,eo+n*4,none⟩=some (.int .i64 ix)∧W.cell? ⟨eb,eo+n*4+1,none⟩=some (.int .i64 tm)∧W.cell? ⟨eb,eo+n*4+2,none⟩=some (.int .i64 kd)∧W.cell? ⟨eb,eo+n*4+3,none⟩=some (.slice Av lv cv)∧True) ⟨c3,e0,e1,e2,e3,trivial⟩ (fun hHeld=>?_);refine zU6 0 (k:=?_);refine zU6 1 (k:=?_);refine zU6 2 (k:=?_);refine zU6 3 (k:=?_);refine zU6 4 (k:=?_);refine zU6 5 (k:=?_);refine zU6 6 (k:=?_);refine zU6 7 (k:=?_);refine zU6 8 (k:=?_);refine zU6 9 (k:=?_);refine zU6 10 (k:=?_);refine zU6 11 (k:=?_);simp only[zA,zB,zF,zG,zC,zD,zE];refine zW 12 (k:=fun K hK=>?_);simp only[zA,zB];go_simp;refine hK _ _ (d9.out _) (fun hHeld=>?_);clear hK K;try simp only[zF,zG,zC,zD,zE]
 refine aG6 (t:=13) (by simp) (by kernel_rfl) (by kernel_rfl) (fun K hK=>?_);simp only[zA,zB];go_simp;refine hK _ _ ?_;clear hK K hHeld;have d8:Below w.heap.size w (w.alloc (.cells #[.int .i64 ix,.int .i64 tm,.int .i64 kd,.slice Av lv cv] 65)).drew:=aA3 ((lS _ w).alloc (lR _) _) 1;obtain⟨wn,a9⟩:∃wn,wn=(w.alloc (.cells #[.int .i64 ix,.int .i64 tm,.int .i64 kd,.slice Av lv cv] 65)).drew:=⟨_,rfl⟩
 have n0:wn.cell? ⟨w.heap.size,0,none⟩=some (.int .i64 ix):=by rw[a9];exact(Blk.new w 65 _).cell 0
 have n1:wn.cell? ⟨w.heap.size,1,none⟩=some (.int .i64 tm):=by rw[a9];exact(Blk.new w 65 _).cell 1
 rw[<-a9] at d8⊢;have f6:=qZ d8;clear a9 d8 c3 e0 e1 e2 e3 d9;go_wp2_with fail
 go_quiet (fail);go_wp2_with fail
 go_ret2
 exact⟨rfl,aA3 f6.out _⟩
theorem bY0(b o n ab ao c:Nat)(m:Int)(hn:n<=4611686018427387904)(w:World)(c4:w.cell? ⟨b,o+4,none⟩=some (.slice (some ⟨ab,ao,none⟩) (n+1) c))(e0:w.cell? ⟨ab,ao+n,none⟩=some (.int .i64 m)):
  Calls Tryz.prog 56 #[.pointer (some ⟨b,o,none⟩)] w fun e w' =>e=.returned (.int .i64 m)∧Below w.heap.size w w' :=by
 have hw:IntKind.i64.wrap (((n+1:Nat):Int)-1)=(n:Int):=by rw[mH _ (by omega)];omega
 have a8:((n+1:Nat):Int)-1=(n:Int):=by omega
 have a9:(n:Int)<((n+1:Nat):Int):=by omega
 have b8:(0:Int)<=(n:Int):=by omega
 go_enter Tryz.func56,Tryz.ntmps56
 go_wp2_with fail
 go_quiet (fail);go_wp2_with fail
 go_ret
 exact⟨rfl,aA3 (lS _ _) _⟩
end
section
open Go.RowKit Oct
theorem cN6(z:List Int)(n:Int):aM8 (z++[n])=aM8 z++enc (fold1 n):=by simp[aM8]
theorem aN5{z:List Int}(hz:∀n∈z,-9223372036854775808<=n∧n<=9223372036854775807):(aM8 z).length<=10*z.length:=by
 induction z with
 |nil=>simp[aM8]
 |cons x r ih=>
  have h1:=ih fun n hn=>hz n (List.mem_cons_of_mem _ hn)
  have h2:=aN8 (fold1 x) (bU0 x (hz x (List.mem_cons_self ..)));unfold aM8 at h1⊢;simp only[mG,List.flatten_cons,lT,mC];omega
theorem bL9(A:Option Addr)(z:List Int)(c:Nat)(w:World)(hr:Rd w w.heap.size A (z.map (Value.int .i64)))(hz:∀n∈z,-9223372036854775808<=n∧n<=9223372036854775807)(hl:z.length<=1000000):
  Calls Tryz.prog 68 #[.slice A z.length c] w fun e w' =>∃v,e=.returned v∧Bs w' w.heap.size v (aM8 z)∧Below w.heap.size w w' :=by
 have HR:=qZ hr;have HZ:=qZ hz;clear hr hz;go_enter Tryz.func68,Tryz.ntmps68
 go_wp2_with fail
 go_loopw [3,5,8] (fun v _ i wr=>∃k:Nat,k<=z.length∧i=.int .i64 k∧Hid (Bs wr w.heap.size v (aM8 (z.take k)))∧Hid (Below w.heap.size w wr)) (fun _ _ i _=>z.length-(intOf i).toNat)
 case atStart=>exact⟨0,by omega,rfl,qZ (by show Own _ _ _ _ _;exact Own.nil _ _ _),qZ (lS _ _)⟩
 obtain⟨k,hk,rfl,HV,HB⟩:=hrel;have l7:=HB.out.size;obtain⟨Av,cv,rfl,b8,l4,_⟩:=aC5 HV.out;by_cases hlt:k<z.length
 rotate_left
 ·have i6:z.take k=z:=List.take_of_length_le (by omega)
  rw[i6] at HV;rw[i6];go_wp2_with fail
  go_ret
  exact⟨_,rfl,HV.out,HB.out⟩
 obtain⟨ad,rfl,m3,a8⟩:=aQ1 (HR.out.below HB.out) hlt;have hn:=HZ.out _ (lX hlt);have HT:Hid (aM8 (z.take (k+1))=aM8 (z.take k)++enc (fold1 z[k])):=qZ (by rw[List.take_succ_eq_append_getElem hlt,cN6]);have f9:=aN5 (z:=z.take k) fun n hn=>HZ.out n (List.mem_of_mem_take hn)
 rw[lV] at f9;generalize z[k]=nk at a8 hn HT
 have HI:=qZ (dK4 nk hn wr);have l5:=aN8 (fold1 nk) (bU0 nk hn);obtain⟨P,hP⟩:∃P,P=aM8 (z.take k):=⟨_,rfl⟩
 rw[<-hP] at HV HT f9 b8⊢;obtain⟨E,hE⟩:∃E,E=enc (fold1 nk):=⟨_,rfl⟩
 rw[<-hE] at HT HI l5;have j8:(k:Int)<(z.length:Int):=by omega
 clear hP hE hn;go_wp2_with fail
 refine HI.out.mono ?_;rintro e w2 ⟨v2,rfl,f7,d9⟩;obtain⟨A2,c2,rfl,_,_,g8⟩:=aC5 f7;have m0:=qZ g8;have i4:=qZ (Own.below HV.out d9 (lR _));have f8:=qZ (HB.out.trans (d9.mono l7));have m2:=f8.out.size;clear f7 d9 g8 HI;go_wp2_with (at_builtin;go_must (refine aA6 rfl (.tmp 12) (.tmp 14) 34 rfl w.heap.size 5 (.int .u8 0) 1 Tryz.underlying34 aC6 rfl _ _ rfl i4.out w2.heap.size A2 E.length c2 (cells E) rfl (aA1 _).symm m0.out (aE2 _) (by simp only[aA1];unfold maxLen;omega) (by simp only[aA1];omega) (by omega) ?_;intro v3 w3 g9 f6 l9))
 have a9:Bs w3 w.heap.size v3 (P++E):=(by unfold Bs;rw[aE1];exact g9);obtain⟨l6,j6,d8,_⟩:=aC5 a9;subst d8;have j9:=qZ (show Bs w3 w.heap.size (.slice l6 (P++E).length j6) (aM8 (z.take (k+1))) by rw[HT.out];exact a9);have l8:=qZ (f8.out.grown f6 (by omega) (fun j hj=>(Own.lt i4.out j hj).1));clear g9 f6 l9 a9;go_wp2_with fail
 go_roundw
 case rel=>exact⟨k+1,by omega,by go_num,j9,l8⟩
 case measure=>simp[intOf];omega
theorem bJ5(A:Option Addr)(ps:List Row)(n c:Nat)(hn:n=ps.length)(w:World)(hr:Rd w w.heap.size A (ps.map Row.val))(hp:RRd w w.heap.size ps)(hl:ps.length<=140737488351232)(hf:(aE9 ps).length<=140737488351232)(b8:ps.length<=c):
  Calls Tryz.prog 67 #[.slice A n c] w fun e w' =>∃v,e=.returned v∧Got w' w.heap.size v (aF1 (aE9 ps))∧Below w.heap.size w w' :=by
 have HJ:=qZ (bT1 A ps n c hn w hr hp hl hf b8);clear hr hp hn;go_enter Tryz.func67,Tryz.ntmps67
 go_wp2_with fail
 refine HJ.out.mono ?_;rintro e w1 ⟨v,rfl,hg,hb⟩;obtain⟨A1,c1,rfl,h1,h2,h3⟩:=hg.shape;have HC:=qZ (cS0 A1 (aE9 ps) _ c1 rfl w1 h3 hf);have HB:=qZ hb;clear hg hb h3 HJ;go_wp2_with fail
 refine HC.out.mono ?_;rintro e w2 ⟨v2,rfl,a8,a9⟩;obtain⟨A2,c2,rfl,_,_,_⟩:=a8.shape;have hs:=HB.out.size;have HG:=qZ (And.intro (a8.mono hs) (HB.out.trans (a9.mono hs)));clear a8 a9 HC;go_wp2_with fail
 go_ret
 exact⟨_,rfl,HG.out.1,HG.out.2⟩
theorem bJ0(A1 A2:Option Addr)(l1 l2:List UInt8)(c1 c2:Nat)(w:World)(h1:Rd w w.heap.size A1 (cells l1))(h2:Rd w w.heap.size A2 (cells l2))(d9:l1.length<=70000000)(f6:l2.length<=70000000):
  Calls Tryz.prog 67 #[.slice (some ⟨w.heap.size,0,none⟩) 2 2] (w.alloc (.cells #[.slice A1 l1.length c1,.slice A2 l2.length c2] 34)) fun e w' =>∃v,e=.returned v∧Got w' w.heap.size v (aF1 (l1++l2))∧Below w.heap.size w w' :=by
 have a9:Below w.heap.size w (w.alloc (.cells [Row.val ⟨A1,l1,c1⟩,Row.val ⟨A2,l2,c2⟩].toArray 34)):=(lS _ w).alloc (lR _) _;have d8:Rd (w.alloc (.cells [Row.val ⟨A1,l1,c1⟩,Row.val ⟨A2,l2,c2⟩].toArray 34)) (w.alloc (.cells [Row.val ⟨A1,l1,c1⟩,Row.val ⟨A2,l2,c2⟩].toArray 34)).heap.size (some ⟨w.heap.size,0,none⟩) ([⟨A1,l1,c1⟩,⟨A2,l2,c2⟩].map Row.val):=(aF9 w 34 [Row.val ⟨A1,l1,c1⟩,Row.val ⟨A2,l2,c2⟩]).more (by simp);have b8:RRd (w.alloc (.cells [Row.val ⟨A1,l1,c1⟩,Row.val ⟨A2,l2,c2⟩].toArray 34)) (w.alloc (.cells [Row.val ⟨A1,l1,c1⟩,Row.val ⟨A2,l2,c2⟩].toArray 34)).heap.size [⟨A1,l1,c1⟩,⟨A2,l2,c2⟩]:=fun p hp=>by
  simp only[List.mem_cons,List.not_mem_nil,or_false] at hp;rcases hp with rfl|rfl
  ·exact⟨(h1.below a9).more a9.size,by show l1.length<=_;omega⟩
  exact⟨(h2.below a9).more a9.size,by show l2.length<=_;omega⟩
 have a8:aE9 [⟨A1,l1,c1⟩,⟨A2,l2,c2⟩]=l1++l2:=by simp[aE9]
 have h:=bJ5 (some ⟨w.heap.size,0,none⟩) [⟨A1,l1,c1⟩,⟨A2,l2,c2⟩] 2 2 rfl _ d8 b8 (by simp) (by rw[a8,lT];omega) (by simp);rw[a8] at h;exact h.mono fun e w' ⟨v,h1,h2,h3⟩=>⟨v,h1,h2.mono (by simp),a9.trans (h3.mono (by simp))⟩
theorem aS3(b o:Nat)(k:Int)(hk:-9223372036854775808<=k∧k<=9223372036854775807)(w:World)(c0:w.cell? ⟨b,o,none⟩=some (.int .i64 k))(ht:Tab w):
  Calls Tryz.prog 52 #[.pointer (some ⟨b,o,none⟩)] w fun e w' =>e=.returned (.string (str (aA8 k)))∧Below w.heap.size w w' :=by
 have HT:=qZ (dD2 k hk w ht);have a8:(str (Lib.itoa k)).size<=21:=by
  have:=Lib.itoa_length_le k hk.1 hk.2;show(Lib.itoa k).toArray.size<=21
  simpa using this
 clear ht hk;go_enter Tryz.func52,Tryz.ntmps52
 go_wp2_with fail
 refine HT.out.mono ?_;rintro e w' ⟨rfl,hb⟩;have HB:=qZ hb;clear hb HT;go_wp2_with fail
 go_ret
 refine⟨?_,HB.out⟩;have e:(⟨#[106]⟩:ByteArray)++str (Lib.itoa k)=str (aA8 k):=by
  apply WideShapes.bytes_inj
  simp[str,aA8]
 rw[<-e]
 rfl
theorem cT3(b o:Nat)(f t:Int)(hf:f<=9223372036854775807)(g8:-9223372036854775808<=t∧t<=9223372036854775807)(w:World)(c1:w.cell? ⟨b,o+1,none⟩=some (.int .i64 f))(c2:w.cell? ⟨b,o+2,none⟩=some (.int .i64 t))(hb:b<w.heap.size):
  Calls Tryz.prog 63 #[.pointer (some ⟨b,o,none⟩)] w fun e w' =>∃v,e=.returned v∧Got w' w.heap.size v (aZ3 f t)∧Below w.heap.size w w' :=by
 have HU:=qZ (dB6 f hf w);have l4:=qZ c2;have f8:=qZ g8;clear c2 g8;go_enter Tryz.func63,Tryz.ntmps63
 go_wp2_with fail
 refine HU.out.mono ?_;rintro e w1 ⟨v1,rfl,d9,a8⟩;obtain⟨A1,j8,rfl,k1,k2,k3⟩:=aC5 d9;have j9:=a8.size;have c2:w1.cell? ⟨b,o+2,none⟩=some (.int .i64 t):=(a8.cell (p:=⟨b,o+2,none⟩) hb).trans l4.out;have a9:Below w1.heap.size w1 (w1.alloc (.cells #[.int .i64 t] 3)):=(lS _ w1).alloc (lR _) _;have HN:=qZ (bL9 (some ⟨w1.heap.size,0,none⟩) [t] 1 (w1.alloc (.cells #[.int .i64 t] 3)) ((aF9 w1 3 [.int .i64 t]).more (by simp)) (by intro n hn;obtain rfl:=List.mem_singleton.1 hn;exact f8.out) (by simp));have f6:=qZ (Own.below d9 a9 (lR _));have i4:=qZ (a8.trans (a9.mono j9));have l6:=a9.size;have l5:(dA4 f).length<=10:=by
  unfold dA4;split
  ·simp
  exact aN8 _ (by omega)
 clear d9 a8 a9 k3 HU c1;go_wp2_with fail
 refine HN.out.mono ?_;rintro e w2 ⟨v2,rfl,f7,b8⟩;obtain⟨A2,i6,rfl,j1,j2,j3⟩:=aC5 f7;have l7:=b8.size;obtain⟨_,_,q1,q2,q3,q4⟩:=aC5 (Own.below f6.out b8 (lR _));injection q1 with q1 _ q1'
 subst q1 q1';have l8:(aM8 [t]).length<=10:=aN5 (z:=[t]) (by intro n hn;obtain rfl:=List.mem_singleton.1 hn;exact f8.out);have f9:=qZ (bJ0 A1 A2 (dA4 f) (aM8 [t]) j8 i6 w2 q4 j3 (by omega) (by omega));have j6:=qZ (i4.out.trans (b8.mono (by omega)));clear f7 b8 j3 q4 HN f6 i4;go_wp2_with fail
 refine f9.out.mono ?_;rintro e w3 ⟨v3,rfl,d8,g9⟩;obtain⟨A3,c3,rfl,_,_,_⟩:=d8.shape;have HF:=qZ (And.intro (d8.mono (by omega:w.heap.size<=w2.heap.size)) (j6.out.trans (g9.mono (by omega))));clear d8 g9 f9;go_wp2_with fail
 go_ret
 exact⟨_,rfl,HF.out.1,HF.out.2⟩
theorem cM2(A:Option Addr)(q:aK5)(c:Nat)(w:World)(hr:Rd w w.heap.size A (cells q.b))(hl:q.b.length<=140737488351232)(i4:-9223372036854775808<=q.tm∧q.tm<=9223372036854775807)(g9:-9223372036854775808<=q.kd∧q.kd<=9223372036854775807):
  Calls Tryz.prog 65 #[.agg #[.int .i64 q.ix,.int .i64 q.tm,.int .i64 q.kd,.slice A q.b.length c]] w fun e w' =>∃v,e=.returned v∧Got w' w.heap.size v (aD8 q)∧Below w.heap.size w w' :=by
 obtain⟨ix,tm,kd,l⟩:=q;simp only at hr hl i4 g9⊢;obtain⟨w0,b8⟩:∃w0,w0=w.alloc (.cells #[.int .i64 ix,.int .i64 tm,.int .i64 kd,.slice A l.length c] 65):=⟨_,rfl⟩
 have f8:Below w.heap.size w w0:=by rw[b8];exact(lS _ w).alloc (lR _) _
 have d9:Blk w0 w.heap.size 65 #[.int .i64 ix,.int .i64 tm,.int .i64 kd,.slice A l.length c]:=by rw[b8];exact Blk.new w 65 _
 have m2:w.heap.size<w0.heap.size:=d9.lt;have l7:=aX6 c (hr.below f8);have HT:=qZ (dD8 (str l) (by rw[aK1];exact hl) w0);rw[bU1] at HT;have a9:=qZ (And.intro i4 g9);have l8:=qZ b8;have m3:=qZ f8;have m0:=qZ d9;have c3:w0.cell? ⟨w.heap.size,3,none⟩=some (.slice A l.length c):=d9.cell 3;clear hr i4 g9 b8 f8 d9;go_enter Tryz.func65,Tryz.ntmps65
 go_upto_region 1 with(fail)
 rw[<-l8.out];go_wp2_with fail
 refine HT.out.mono ?_;rintro e w1 ⟨v1,rfl,g8,a8⟩;obtain⟨A1,l9,rfl,k1,k2,k3⟩:=aC5 g8;have m5:=a8.size;have f9:=m0.out.below a8 m2;have c1:w1.cell? ⟨w.heap.size,1,none⟩=some (.int .i64 tm):=f9.cell 1;have c2:w1.cell? ⟨w.heap.size,2,none⟩=some (.int .i64 kd):=f9.cell 2;have d8:Below w1.heap.size w1 (w1.alloc (.cells #[.int .i64 tm,.int .i64 kd] 3)):=(lS _ w1).alloc (lR _) _;have HN:=qZ (bL9 (some ⟨w1.heap.size,0,none⟩) [tm,kd] 2 (w1.alloc (.cells #[.int .i64 tm,.int .i64 kd] 3)) ((aF9 w1 3 [.int .i64 tm,.int .i64 kd]).more (by simp)) (by
  intro n hn;simp only[List.mem_cons,List.not_mem_nil,or_false] at hn;rcases hn with rfl|rfl
  ·exact a9.out.1
  exact a9.out.2) (by simp))
 have i6:=qZ (Own.below g8 d8 (lR _));have l4:=qZ ((m3.out.trans (a8.mono (by omega))).trans (d8.mono (by omega)));have m6:=d8.size;have m4:(cQ8 l).length<=65545:=by
  unfold cQ8;split
  ·simp
  have:=aN8 l.length (by omega);rw[lT];omega
 clear g8 a8 d8 k3 HT c3 l7 f9;go_wp2_with fail
 refine HN.out.mono ?_;rintro e w2 ⟨v2,rfl,j6,f6⟩;obtain⟨A2,l5,rfl,j1,j2,j3⟩:=aC5 j6;have m7:=f6.size;obtain⟨_,_,q1,q2,q3,q4⟩:=aC5 (Own.below i6.out f6 (lR _));injection q1 with q1 _ q1'
 subst q1 q1';have m8:(aM8 [tm,kd]).length<=20:=aN5 (z:=[tm,kd]) (by
  intro n hn;simp only[List.mem_cons,List.not_mem_nil,or_false] at hn;rcases hn with rfl|rfl
  ·exact a9.out.1
  exact a9.out.2)
 have j8:=qZ (bJ0 A2 A1 (aM8 [tm,kd]) (cQ8 l) l5 l9 w2 j3 q4 (by omega) (by omega));have l6:=qZ (l4.out.trans (f6.mono (by omega)));clear j6 f6 j3 q4 HN i6 l4 c1 c2;go_wp2_with fail
 refine j8.out.mono ?_;rintro e w3 ⟨v3,rfl,f7,j9⟩;obtain⟨A3,c3,rfl,_,_,_⟩:=f7.shape;have HF:=qZ (And.intro (f7.mono (by omega:w.heap.size<=w2.heap.size)) (l6.out.trans (j9.mono (by omega))));clear f7 j9 j8;go_wp2_with fail
 go_ret
 exact⟨_,rfl,HF.out.1,HF.out.2⟩
end
section
open Go.RowKit Oct
def aL9:Array Value->Nat->List Int->Array Value
 |cs,_,[]=>cs
 |cs,o,v::r=>aL9 (cs.setIfInBounds o (.int .i64 v)) (o+1) r
theorem bK9(v:Int):∀(l:List Int) (cs:Array Value) (o:Nat),aL9 cs o (l++[v])=(aL9 cs o l).setIfInBounds (o+l.length) (.int .i64 v)
 |[],cs,o=>by simp[aL9]
 |x::r,cs,o=>by
  rw[List.cons_append,aL9,bK9 v r,aL9,mC,show o+1+r.length=o+(r.length+1) by omega]
theorem cL8{n:Nat}{b r:List UInt8}{vals:List Int}{k:Nat}(h:aE7 n b=(vals++(aE7 (n-k) r).1,(aE7 (n-k) r).2))(hk:k<n)(h0:(aA2 maxU r).2.2=0)(h1:¬aC9 (aA2 maxU r).1<0):
  aE7 n b=((vals++[aC9 (aA2 maxU r).1])++(aE7 (n-(k+1)) (r.drop (aA2 maxU r).2.1)).1,(aE7 (n-(k+1)) (r.drop (aA2 maxU r).2.1)).2):=by
 rw[h,show n-k=(n-(k+1))+1 by omega,aE7,if_neg (by rintro(e|e);exact e h0;exact h1 e)];simp
theorem cO3{n:Nat}{b r:List UInt8}{vals:List Int}{k:Nat}(h:aE7 n b=(vals++(aE7 (n-k) r).1,(aE7 (n-k) r).2))(hk:k<n)(h0:(aA2 maxU r).2.2≠0∨aC9 (aA2 maxU r).1<0):(aE7 n b).2=none:=by
 rw[h,show n-k=(n-(k+1))+1 by omega,aE7,if_pos h0]
theorem bE9:∀(l:List Int) (cs:Array Value) (o j:Nat),o+l.length<=j->(aL9 cs o l)[j]? =cs[j]?
 |[],cs,o,j,_=>rfl
 |x::r,cs,o,j,h=>by
  rw[mC] at h;rw[aL9,bE9 r _ (o+1) j (by omega),Array.getElem?_setIfInBounds_ne (by omega)]
theorem cD4{A:Option Addr}{lo cap G:Nat}(h:∀ad,A=some ad->ad.block≠G):∀ad,cutA A lo cap=some ad->ad.block≠G:=fun ad he=>by
 unfold cutA at he;split at he
 ·exact h ad he
 cases A with
 |none=>cases he
 |some a=>
  injection he with he
  rw[<-he,aC7];exact h a rfl
theorem Rd.setCell_ne{w:World}{B G j:Nat}{A:Option Addr}{xs:List Value}(h:Rd w B A xs)(hA:0<xs.length->∀ad,A=some ad->ad.block≠G)(u:Value):Rd (w.setCell ⟨G,j,none⟩ u).drew B A xs:=fun h0=>by
 obtain⟨ad,e,hlt,hc⟩:=h h0;exact⟨ad,e,hlt,fun i v hv=>(World.cell?_of_block (w:=w) (Below.heap_setCell _ _ _ _ (by rw[aC7];exact hA h0 ad e))).trans (hc i v hv)⟩
theorem aT4(A:Option Addr)(b:List UInt8)(c:Nat)(Ap:Option Addr)(n cp G o:Nat)(T:TypeId)(cs:Array Value)(w:World)(hr:Rd w w.heap.size A (cells b))(hA:0<b.length->∀ad,A=some ad->ad.block≠G)(n9:b.length<=c)(hb:b.length<=140737488351232)(hc:c<=9223372036854775807)
  (hp:Rd w w.heap.size Ap ((List.range n).map fun i=>Value.pointer (some ⟨G,o+i,none⟩))) (m7:∀ad,Ap=some ad->ad.block≠G) (hG:Blk w G T cs) (hn:n<=2) (l7:∀i,i<n->∃u,cs[o+i]? =some u∧u.oneCell' =true):
  Calls Tryz.prog 104 #[.slice A b.length c,.slice Ap n cp] w fun e w' =>∃v,e=.returned (.tuple #[v,.bool (aE7 n b).2.isSome])∧w.grownBy w' (some G)∧(∃a8,a8.length<=n∧Blk w' G T (aL9 cs o a8)∧∀r,(aE7 n b).2=some r->a8=(aE7 n b).1∧a8.length=n)∧
   (∃Ar rr cr,v=.slice Ar (rr:List UInt8).length cr∧rr.length<=cr∧cr<=9223372036854775807∧Rd w' w'.heap.size Ar (cells rr)∧(aE7 n b).2.getD []=rr):=by
 have HP:=qZ hp;have HG:=qZ hG;have p0:=qZ l7;have o7:=qZ m7;have HR:=qZ hr;have HA:=qZ hA;clear hp hG l7 m7 hr hA;go_enter Tryz.func104,Tryz.ntmps104
 go_wp2_with fail
 go_loopw [0,7,8,9,10,13] (fun bv _ _ _ _ i wr=>∃(k:Nat) (a8:List Int) (r:List UInt8) (Ar:Option Addr) (cr:Nat),k<=n∧i=.int .i64 k∧bv=.slice Ar r.length cr∧r.length<=cr∧cr<=9223372036854775807∧r.length<=b.length∧Hid (Rd wr wr.heap.size Ar (cells r))∧Hid (0<r.length->∀ad,Ar=some ad->ad.block≠G)∧Hid (a8.length=k)∧
  Hid (aE7 n b=(a8++(aE7 (n-k) r).1,(aE7 (n-k) r).2))∧Hid (Blk wr G T (aL9 cs o a8))∧Hid (w.grownBy wr (some G))) (fun _ _ _ _ _ i _=>n-(intOf i).toNat)
 case atStart=>exact⟨0,[],b,A,c,by omega,rfl,rfl,n9,hc,lR _,HR,HA,qZ rfl,qZ (by rw[Nat.sub_zero];simp),HG,qZ (World.grownBy.refl _ _)⟩
 obtain⟨k,a8,r,Ar,cr,hk,rfl,rfl,m4,o8,p4,j6,l6,f7,HT,HB,f9⟩:=hrel;have p6:=f9.out.size;by_cases hlt:k<n
 rotate_left
 ·obtain rfl:k=n:=by omega
  have a9:(aE7 k b).2=some r∧(aE7 k b).1=a8:=by
   rw[HT.out,Nat.sub_self];simp[aE7]
  have m3:=qZ a9;have hz:(aE7 k b).2.isSome=true:=by rw[a9.1];rfl
  have HZ:=qZ hz;clear a9 hz;go_wp2_with fail
  go_ret2
  exact⟨_,by rw[HZ.out];rfl,f9.out,⟨a8,by rw[f7.out];omega,HB.out,fun r' _=>⟨m3.out.2.symm,f7.out⟩⟩,Ar,r,cr,rfl,m4,o8,j6.out,by rw[m3.out.1];rfl⟩
 obtain⟨l4,n7,o9,i6⟩:=aQ1 HP.out (show k<(List.range n).length by simpa using hlt);rw[List.getElem_range] at i6;subst n7;have o6:wr.cell? (l4.add k)=some (.pointer (some ⟨G,o+k,none⟩)):=(World.cell?_of_block (w:=w) (by rw[aC7];exact f9.out.block l4.block o9 (fun e=>by injection e with e;exact o7.out l4 rfl e))).trans i6;have d8:=qZ (cD8 Ar r cr wr j6.out (by omega));have n6:(k:Int)<(n:Int):=by omega
 have m2:=aE5 maxU r;by_cases hbad:(aA2 maxU r).2.2≠0∨aC9 (aA2 maxU r).1<0
 ·have HN:=qZ (cO3 HT.out hlt hbad)
  obtain⟨er,j9⟩:∃er,er=(aA2 maxU r).2.2:=⟨_,rfl⟩
  obtain⟨nv,d9⟩:∃nv,nv=aC9 (aA2 maxU r).1:=⟨_,rfl⟩
  obtain⟨us,f6⟩:∃us,us=(aA2 maxU r).2.1:=⟨_,rfl⟩
  rw[<-j9,<-d9] at hbad;rw[<-j9,<-d9,<-f6] at d8;have g8:∀w2:World,Below wr.heap.size wr w2->w.grownBy w2 (some G)∧(∃a8,a8.length<=n∧Blk w2 G T (aL9 cs o a8)∧∀r,(aE7 n b).2=some r->a8=(aE7 n b).1∧a8.length=n)∧(∃Ar rr cr,(Value.slice none 0 0)=.slice Ar (rr:List UInt8).length cr∧rr.length<=cr∧cr<=9223372036854775807∧Rd w2 w2.heap.size Ar (cells rr)∧(aE7 n b).2.getD []=rr):=fun w2 b8=>
   ⟨aA4 f9.out (aA5 b8 (some G)) (.inl rfl),⟨a8,by rw[f7.out];omega,HB.out.below b8 HB.out.lt,fun r' h' =>by rw[HN.out] at h';cases h'⟩,none,[],0,rfl,by simp,by simp,Rd.none_,by rw[HN.out];rfl⟩
  have m5:=qZ g8;have hz:(aE7 n b).2.isSome=false:=by rw[HN.out];rfl
  have HZ:=qZ hz;clear j9 d9 f6 i6 hz g8;by_cases h0:er=0
  ·have h1:nv<0:=by
    rcases hbad with h|h
    ·exact absurd h0 h
    exact h
   subst h0;clear hbad;go_wp2_with fail
   refine d8.out.mono ?_;rintro e w2 ⟨rfl,b8⟩;have i4:=qZ b8;clear b8 d8;go_wp2_with fail
   go_ret2
   exact⟨_,by rw[HZ.out];rfl,m5.out w2 i4.out⟩
  clear hbad;go_wp2_with fail
  refine d8.out.mono ?_;rintro e w2 ⟨rfl,b8⟩;have i4:=qZ b8;clear b8 d8;go_wp2_with fail
  go_ret2
  exact⟨_,by rw[HZ.out];rfl,m5.out w2 i4.out⟩
 obtain⟨h0,h1⟩:(aA2 maxU r).2.2=0∧¬aC9 (aA2 maxU r).1<0:=⟨by
  by_cases h:(aA2 maxU r).2.2=0
  ·exact h
  exact absurd (.inl h) hbad,fun h=>hbad (.inr h)⟩
 have l8:=qZ (cL8 HT.out hlt h0 h1);rw[h0] at d8;obtain⟨nv,d9⟩:∃nv,nv=aC9 (aA2 maxU r).1:=⟨_,rfl⟩
 obtain⟨us,f6⟩:∃us,us=(aA2 maxU r).2.1:=⟨_,rfl⟩
 rw[<-d9] at h1;rw[<-f6] at m2;rw[<-d9,<-f6] at d8 l8;obtain⟨u,hu,p5⟩:=p0.out k hlt;have g9:(aL9 cs o a8)[o+k]? =some u:=by rw[bE9 a8 cs o (o+k) (by rw[f7.out];omega)];exact hu
 have o5:=qZ g9;clear hbad h0 d9 f6 i6 hu g9;go_wp2_with fail
 refine d8.out.mono ?_;rintro e w2 ⟨rfl,b8⟩;have f8:=HB.out.below b8 HB.out.lt;have g0:w2.cell? ⟨G,o+k,none⟩=some u:=(f8.cell (o+k)).trans o5.out;have gf:w2.frozen? ⟨G,o+k,none⟩=false:=f8.frozen _;have i4:=qZ f8;have m9:=qZ ((j6.out.below b8).more b8.size);have l9:=qZ (aA4 f9.out (aA5 b8 (some G)) (.inl rfl));have hcut:=fun W:World=>aH0 (P:=Tryz.prog) Tryz.underlying34 aC6 Ar r.length cr us m2 (us:Int) rfl W
 have o4:=b8.size;clear b8 d8;clear o4;go_wp2_with fail
 refine aD4 7 rfl (S:=fun _=>True) trivial (fun hHeld=>?_);refine zU 0 (k:=?_);refine zU 1 (k:=?_);refine zU 2 (k:=?_);refine zU 3 (k:=?_);refine zU 4 (k:=?_);refine zU 5 (k:=?_);simp only[zA,zB,zF,zG,zC,zD,zE];refine zW 6 (k:=fun K hK=>?_);simp only[zA,zB];go_simp;refine hK _ _ trivial (fun hHeld=>?_);clear hK K;try simp only[zF,zG,zC,zD,zE]
 refine aG6 (t:=7) (by simp) (by kernel_rfl) (by kernel_rfl) (fun K hK=>?_);simp only[zA,zB];go_simp;refine hK _ _ ?_;clear hK K hHeld;have m8:w.grownBy (w2.setCell ⟨G,o+k,none⟩ (.int .i64 nv)).drew (some G):=aA4 l9.out ⟨rfl,rfl,rfl,(aA0 w2 G (o+k) (.int .i64 nv)).size,(aA0 w2 G (o+k) (.int .i64 nv)).block⟩ (.inl rfl);have m6:Blk (w2.setCell ⟨G,o+k,none⟩ (.int .i64 nv)).drew G T (aL9 cs o (a8++[nv])):=by
  rw[bK9,f7.out];exact f8.set_ (o+k) (.int .i64 nv)
 have m0:Rd (w2.setCell ⟨G,o+k,none⟩ (.int .i64 nv)).drew (w2.setCell ⟨G,o+k,none⟩ (.int .i64 nv)).drew.heap.size (cutA Ar us cr) (cells (r.drop us)):=by
  have hq:=Rd.cutA m9.out (k:=us) (cap:=cr) (by rw[aA1];omega) (by rw[aA1];exact m4);have n8:=Rd.setCell_ne (j:=o+k) hq (fun h0=>cD4 (l6.out (by rw[lZ,aA1] at h0;omega))) (.int .i64 nv);exact(by simpa[cells,List.map_drop] using n8:Rd (w2.setCell ⟨G,o+k,none⟩ (.int .i64 nv)).drew w2.heap.size (cutA Ar us cr) (cells (r.drop us))).more (aA0 w2 G (o+k) (.int .i64 nv)).size
 have n5:=qZ m8;have l5:=qZ m6;have n4:=qZ m0;clear m8 m6 m0 f8 g0 gf l9 m9 hcut;generalize(w2.setCell ⟨G,o+k,none⟩ (.int .i64 nv)).drew=w3 at n5 l5 n4⊢
 have j8:r.length-us=(r.drop us).length:=by rw[lZ]
 rw[j8];go_wp2_with fail
 go_roundw
 case rel=>exact⟨k+1,a8++[nv],r.drop us,cutA Ar us cr,cr-us,by omega,by go_num,rfl,by rw[lZ];omega,by omega,by rw[lZ];omega,n4,qZ (fun h0=>cD4 (l6.out (by rw[lZ] at h0;omega))),qZ (by rw[lT,f7.out];rfl),l8,l5,n5⟩
 case measure=>simp[intOf];omega
end
section
open Go.RowKit Oct
theorem cQ7{p:List UInt8}(h:(aA2 maxI p).2.2≠0∨(aA2 maxI p).1<1∨((aA2 maxI p).1:Int)=aG9):aK0 p=none:=by
 unfold aK0;rw[if_pos h]
theorem cU5{p:List UInt8}(h:¬((aA2 maxI p).2.2≠0∨(aA2 maxI p).1<1∨((aA2 maxI p).1:Int)=aG9)):aK0 p=match aE7 1 (p.drop (aA2 maxI p).2.1) with
 |([t],some [])=>some ((aA2 maxI p).1,t)
 |_=>none:=by
 unfold aK0;rw[if_neg h]
 all_goals rfl
theorem bR2(cs:Array Value)(i:Nat)(v:Value)(h:cs[i]? =some v):cs.setIfInBounds i v=cs:=by
 obtain⟨h1,h2⟩:=Array.getElem?_eq_some_iff.1 h;apply Array.ext_getElem?
 intro j;rw[Array.getElem?_setIfInBounds];split
 ·rename_i e
  subst e;rw[h]
 rfl
theorem bR9(A:Option Addr)(b:List UInt8)(c G:Nat)(T:TypeId)(cs:Array Value)(f0 t0:Int)(w:World)(hr:Rd w w.heap.size A (cells b))(hA:0<b.length->∀ad,A=some ad->ad.block≠G)(n4:b.length<=c)(hb:b.length<=140737488351232)(hc:c<=9223372036854775807)
  (hG:Blk w G T cs) (h1:cs[1]? =some (.int .i64 f0)) (h2:cs[2]? =some (.int .i64 t0)):
  Calls Tryz.prog 145 #[.pointer (some ⟨G,0,none⟩),.slice A b.length c] w fun e w' =>e=.returned (.bool (aK0 b).isSome)∧w.grownBy w' (some G)∧∃f t,Blk w' G T ((cs.setIfInBounds 2 (.int .i64 t)).setIfInBounds 1 (.int .i64 f))∧∀q,aK0 b=some q->(f,t)=q:=by
 have HG:=qZ hG;have HU:=qZ (aN4 A b c w hr (by omega));have a9:(cs.setIfInBounds 2 (.int .i64 t0)).setIfInBounds 1 (.int .i64 f0)=cs:=by rw[bR2 cs 2 _ h2,bR2 cs 1 _ h1]
 have m6:=qZ a9;have i6:=aE5 maxI b;have l7:(aA2 maxI b).1<=9223372036854775807:=aK8 maxI b;by_cases hbad:(aA2 maxI b).2.2≠0∨(aA2 maxI b).1<1∨((aA2 maxI b).1:Int)=aG9
 ·have HN:=qZ (cQ7 hbad)
  obtain⟨er,j8⟩:∃er,er=(aA2 maxI b).2.2:=⟨_,rfl⟩
  obtain⟨nv,d9⟩:∃nv,nv=(aA2 maxI b).1:=⟨_,rfl⟩
  obtain⟨us,f7⟩:∃us,us=(aA2 maxI b).2.1:=⟨_,rfl⟩
  rw[<-j8,<-d9] at hbad;rw[<-j8,<-d9,<-f7] at HU;rw[<-d9] at l7;have f6:∀w2:World,Below w.heap.size w w2->w.grownBy w2 (some G)∧∃f t,Blk w2 G T ((cs.setIfInBounds 2 (.int .i64 t)).setIfInBounds 1 (.int .i64 f))∧∀q,aK0 b=some q->(f,t)=q:=fun w2 a8=>
   ⟨aA5 a8 (some G),f0,t0,by rw[m6.out];exact HG.out.below a8 HG.out.lt,fun q h' =>by rw[HN.out] at h';cases h'⟩
  rw[HN.out] at f6⊢;have j6:=qZ f6;clear j8 d9 f7 i6 f6 hr hA a9 hG;unfold aG9 at hbad;by_cases e0:er=0
  rotate_left
  ·clear hbad
   go_enter Tryz.func145,Tryz.ntmps145
   go_wp2_with fail
   refine HU.out.mono ?_;rintro e w2 ⟨rfl,a8⟩;have d8:=qZ a8;clear a8 HU;go_wp2_with fail
   go_ret
   exact⟨rfl,j6.out w2 d8.out⟩
  subst e0;by_cases e1:nv<1
  ·obtain rfl:nv=0:=by omega
   clear hbad;go_enter Tryz.func145,Tryz.ntmps145
   go_wp2_with fail
   refine HU.out.mono ?_;rintro e w2 ⟨rfl,a8⟩;have d8:=qZ a8;clear a8 HU;go_wp2_with fail
   go_ret
   exact⟨rfl,j6.out w2 d8.out⟩
  obtain rfl:nv=9223372036854775807:=by
   rcases hbad with h|h|h
   ·exact absurd rfl h
   ·exact absurd h e1
   omega
  clear hbad;go_enter Tryz.func145,Tryz.ntmps145
  go_wp2_with fail
  refine HU.out.mono ?_;rintro e w2 ⟨rfl,a8⟩;have d8:=qZ a8;clear a8 HU;go_wp2_with fail
  go_ret
  exact⟨rfl,j6.out w2 d8.out⟩
 have HN:=qZ (cU5 hbad);have h0:(aA2 maxI b).2.2=0:=by
  by_cases h:(aA2 maxI b).2.2=0
  ·exact h
  exact absurd (.inl h) hbad
 have n6:¬(aA2 maxI b).1<1:=fun h=>hbad (.inr (.inl h))
 have m3:¬((aA2 maxI b).1:Int)=aG9:=fun h=>hbad (.inr (.inr h))
 unfold aG9 at m3;rw[h0] at HU;obtain⟨nv,d9⟩:∃nv,nv=(aA2 maxI b).1:=⟨_,rfl⟩
 obtain⟨us,f7⟩:∃us,us=(aA2 maxI b).2.1:=⟨_,rfl⟩
 rw[<-d9,<-f7] at HU HN;rw[<-d9] at l7 n6 m3;rw[<-f7] at i6;have HR:=qZ hr;have HA:=qZ hA;clear hbad h0 d9 f7 hr hA a9 hG;have o6:decide ((nv:Int)<1)=false:=by simp;omega
 have n9:((nv:Int)==9223372036854775807)=false:=by simp;omega
 have l5:=qZ (And.intro h1 h2);clear h1 h2;go_enter Tryz.func145,Tryz.ntmps145
 go_wp2_with fail
 refine HU.out.mono ?_;rintro e w2 ⟨rfl,a8⟩;have d8:=qZ a8;clear a8 HU;have hW:w2.grownBy (w2.alloc (.cells [Value.pointer (some ⟨G,2,none⟩)].toArray 155)).drew (some G):=aA5 (aA3 ((lS _ w2).alloc (lR _) _) 1) (some G);have g9:Below w2.heap.size w2 (w2.alloc (.cells [Value.pointer (some ⟨G,2,none⟩)].toArray 155)).drew:=aA3 ((lS _ w2).alloc (lR _) _) 1;have m2:=d8.out.size;have n5:=HG.out.lt;have l6:Hid (Calls Tryz.prog 104 #[.slice (cutA A us c) (b.length-us) (c-us),.slice (some ⟨w2.heap.size,0,none⟩) 1 1] (w2.alloc (.cells [Value.pointer (some ⟨G,2,none⟩)].toArray 155)).drew _):=qZ (by
  have hq:=Rd.cutA (HR.out.below d8.out) (k:=us) (cap:=c) (by rw[aA1];omega) (by rw[aA1];exact n4);have m8:Rd w2 w.heap.size (cutA A us c) (cells (b.drop us)):=by simpa[cells,List.map_drop] using hq
  have:=aT4 (cutA A us c) (b.drop us) (c-us) (some ⟨w2.heap.size,0,none⟩) 1 1 G 2 T cs (w2.alloc (.cells [Value.pointer (some ⟨G,2,none⟩)].toArray 155)).drew ((m8.more m2).below g9|>.more g9.size) (fun h0=>cD4 (HA.out (by rw[lZ] at h0;omega))) (by rw[lZ];omega) (by rw[lZ];omega) (by omega)
   ((aF9 w2 155 [Value.pointer (some ⟨G,2,none⟩)]).more (by simp)) (fun ad e=>by injection e with e;subst e;show w2.heap.size≠G;omega) (HG.out.below (d8.out.trans (g9.mono m2)) n5) (by omega) (fun i hi=>by
    obtain rfl:i=0:=by omega
    exact⟨_,l5.out.2,rfl⟩)
  rw[lZ] at this;exact this)
 have hcut:=fun W:World=>aH0 (P:=Tryz.prog) Tryz.underlying34 aC6 A b.length c us i6 (us:Int) rfl W
 go_wp2_with fail
 refine aD4 12 rfl (S:=fun _=>True) trivial (fun hHeld=>?_);refine zU 0 (k:=?_);refine zU 1 (k:=?_);refine zU 2 (k:=?_);refine zU 3 (k:=?_);refine zU 4 (k:=?_);refine zU 5 (k:=?_);simp only[zA,zB,zF,zG,zC,zD,zE];refine zW 6 (k:=fun K hK=>?_);simp only[zA,zB];go_simp;refine hK _ _ trivial (fun hHeld=>?_);clear hK K;try simp only[zF,zG,zC,zD,zE]
 refine zW 7 (k:=fun K hK=>?_);simp only[zA,zB];go_simp;refine l6.out.mono ?_;rintro e w3 ⟨v,rfl,m5,⟨f9,m7,f8,l4⟩,Ar,rr,cr,rfl,o4,o5,n8,i4⟩;refine hK _ _ trivial (fun hHeld=>?_);clear hK K;try simp only[zF,zG,zC,zD,zE]
 have l8:w.grownBy w3 (some G):=aA4 (aA4 (aA5 d8.out (some G)) hW (.inl rfl)) m5 (.inl rfl);obtain⟨t,l9,j9⟩:∃t,aL9 cs 2 f9=cs.setIfInBounds 2 (.int .i64 t)∧∀r,(aE7 1 (b.drop us)).2=some r->(aE7 1 (b.drop us)).1=[t]:=by
  match f9,m7 with
  |[],_=>exact⟨t0,by rw[aL9,bR2 cs 2 _ l5.out.2],fun r h=>by have:=(l4 r h).2;simp at this⟩
  |[x],_=>exact⟨x,by rw[aL9,aL9],fun r h=>(l4 r h).1.symm⟩
 rw[l9] at f8;have c1:w3.cell? ⟨G,1,none⟩=some (.int .i64 f0):=by
  refine(f8.cell 1).trans ?_;rw[Array.getElem?_setIfInBounds_ne (by omega)];exact l5.out.1
 have cf:w3.frozen? ⟨G,1,none⟩=false:=f8.frozen _;have b8:Hid ((aK0 b).isSome=((aE7 1 (b.drop us)).2.isSome&&((rr.length:Int)==0))∧∀q,aK0 b=some q->((nv:Int),t)=q):=qZ (by
  rw[HN.out];rcases hN:aE7 1 (b.drop us) with⟨N1,_|r⟩
  ·simp
  rw[hN] at j9 i4;have e1:N1=[t]:=j9 r rfl;subst e1;obtain rfl:r=rr:=i4;cases r with
  |nil=>simp
  |cons x y=>simp;omega)
 have n7:=qZ l8;have m9:=qZ f8;generalize(aE7 1 (b.drop us)).2.isSome=okv at b8⊢
 clear l8 f8 l9 j9 i4 l4 m5 n8 hcut l6 hW g9 HN;refine zU 8 (k:=?_);refine zU 9 (k:=?_);refine zU 10 (k:=?_);refine zU 11 (k:=?_);simp only[zA,zB,zF,zG,zC,zD,zE];refine aG6 (t:=12) (by simp) (by kernel_rfl) (by kernel_rfl) (fun K hK=>?_);simp only[zA,zB];go_simp;refine hK _ _ ?_;clear hK K hHeld;have m0:w.grownBy (w3.setCell ⟨G,1,none⟩ (.int .i64 nv)) (some G):=aA4 n7.out ⟨rfl,rfl,rfl,(aA0 w3 G 1 (.int .i64 nv)).size,(aA0 w3 G 1 (.int .i64 nv)).block⟩ (.inl rfl);have m4:Blk (w3.setCell ⟨G,1,none⟩ (.int .i64 nv)) G T ((cs.setIfInBounds 2 (.int .i64 t)).setIfInBounds 1 (.int .i64 nv)):=m9.out.set_ 1 (.int .i64 nv);have g8:=qZ (And.intro m0 m4);clear m0 m4;cases okv
 ·go_wp2_with fail
  go_ret
  exact⟨by rw[b8.out.1];rfl,g8.out.1,(nv:Int),t,g8.out.2,b8.out.2⟩
 go_wp2_with fail
 go_ret
 exact⟨by rw[b8.out.1];rfl,g8.out.1,(nv:Int),t,g8.out.2,b8.out.2⟩
end
section
open Go.RowKit Go.Maps Oct
theorem cT0{w:World}{base g m:Nat}{p:PWD}{room:Int}{es:List (Nm×FE)}(h:aB4 w base g m p room es)(m3:∀q∈es,q.2.f.b.length<=1000000000){gj:Nat}{t0 v0:Int}{sv:Value}{bad:Int}(hJ:Blk w gj 53 #[.int .i64 t0,.int .i64 v0,sv,.pointer (some ⟨g,0,none⟩),.int .i64 bad])
  (hz:t0=0∧v0=0):
  Calls Tryz.prog 51 #[.pointer (some ⟨gj,0,none⟩)] w fun e w' =>e=.returned (.bool (aF3 (aD6 p room es)).isSome)∧w.grownBy w' (some gj)∧∃t v,Blk w' gj 53 #[.int .i64 t,.int .i64 v,sv,.pointer (some ⟨g,0,none⟩),.int .i64 bad]∧∀q,aF3 (aD6 p room es)=some q->(t,v)=q:=by
 have d9:=qZ (bN2 h ⟨#[109,101,116,97]⟩ (by show 4<=_;omega) (fun q hq=>by have:=m3 q hq;omega));obtain⟨RD,f9⟩:∃R,R=(aD6 p room es).read aO8:=⟨_,rfl⟩
 have p6:RD.1.length<=1000000000:=by
  rw[f9];unfold DkD.read;split
  ·simp
  split
  ·simp
  rename_i f hf
  have:=aC8 hf;obtain⟨q,hq,e⟩:=List.mem_map.1 this;injection e with e1 e2
  rw[<-e2];exact m3 q hq
 change Hid (Calls _ _ _ _ fun e w' =>∃v,e=.returned (.tuple #[v,.int .i64 ((aD6 p room es).read aO8).2])∧Bs w' w.heap.size v ((aD6 p room es).read aO8).1∧Below w.heap.size w w') at d9;have hM:aF3 (aD6 p room es)=if RD.2≠0 then some (0,0) else if(aD2 RD.1).2.2≠0∨(aD2 RD.1).2.1≠RD.1.length then none else
  match aE7 2 (aD2 RD.1).1 with
  |([t,v],some [])=>some (t,v)
  |_=>none:=by
  unfold aF3;rw[<-f9]<;>(obtain⟨a,b⟩:=RD;rfl)
 obtain⟨M,n7⟩:∃M,M=aF3 (aD6 p room es):=⟨_,rfl⟩
 rw[<-n7] at hM⊢;rw[<-f9] at d9;have HM:=qZ hM;have HJ:=qZ hJ;have HZ:=qZ hz;have j3:w.cell? ⟨gj,3,none⟩=some (.pointer (some ⟨g,0,none⟩)):=hJ.cell 3;have p4:=hJ.lt;obtain⟨rb,re⟩:=RD;simp only at p6 HM d9;clear h m3 f9 hM n7 hJ hz;go_enter Tryz.func51,Tryz.ntmps51
 go_wp2_with fail
 refine d9.out.mono ?_;rintro e w2 ⟨v2,rfl,m7,i6⟩;obtain⟨A2,c2,rfl,q1,q2,q3⟩:=aC5 m7;have p8:=i6.size;have j9:=qZ i6;have m0:=qZ (HJ.out.below i6 p4);have o4:=qZ (cH5 A2 rb rb.length c2 rfl w2 q3 q1 ⟨by omega,by omega⟩);clear d9 i6 m7 q3 j3;by_cases h0:re=0
 rotate_left
 ·have hn:M=some (0,0):=by rw[HM.out,if_pos h0]
  subst hn;clear HM;go_wp2_with fail
  go_ret
  exact⟨rfl,aA5 j9.out _,t0,v0,m0.out,fun q h=>by injection h with h;rw[<-h,HZ.out.1,HZ.out.2]⟩
 subst h0;go_wp2_with fail
 refine o4.out.mono ?_;rintro e w3 ⟨v3,rfl,g9,i4⟩;obtain⟨pl,f8⟩:∃x,x=(aD2 rb).1:=⟨_,rfl⟩
 obtain⟨pu,j8⟩:∃x,x=(aD2 rb).2.1:=⟨_,rfl⟩
 obtain⟨pe,j6⟩:∃x,x=(aD2 rb).2.2:=⟨_,rfl⟩
 rw[<-f8] at g9;rw[<-j8,<-j6];have l5:=HM.out;rw[if_neg (by simp),<-f8,<-j8,<-j6] at l5;have l9:pe=0->pl.length<=1048576:=by
  rw[f8,j6];exact fun h=>(aR1 h).1
 clear f8 j8 j6 o4 HM;have d8:=qZ l5;obtain⟨A3,c3,rfl,y1,y2,y3⟩:=aC5 g9;have p5:Hid (∀ad,A3=some ad->w2.heap.size<=ad.block):=qZ (fun ad e=>(Own.lt g9 ad.block (by subst e;rfl)).1);have t4:=i4.size;have g8:=qZ (j9.out.trans (i4.mono p8));have f7:=qZ (m0.out.below i4 (by omega));have o9:=qZ y3;clear l5 g9 i4 y3 j9 m0;by_cases h1:pe=0
 rotate_left
 ·have hn:M=none:=by rw[d8.out,if_pos (.inl h1)]
  subst hn;clear d8;go_wp2_with fail
  go_ret
  exact⟨rfl,aA5 g8.out _,t0,v0,f7.out,fun q h=>by cases h⟩
 subst h1;by_cases h2:(pu:Int)=(rb.length:Int)
 rotate_left
 ·have hn:M=none:=by rw[d8.out,if_pos (.inr (fun h=>h2 (by omega)))]
  subst hn;clear d8;have q6:((pu:Int) !=(rb.length:Int))=true:=bne_iff_ne.2 h2;go_wp2_with fail
  go_ret
  exact⟨rfl,aA5 g8.out _,t0,v0,f7.out,fun q h=>by cases h⟩
 have l6:=d8.out;rw[if_neg (by rintro(h|h);exact h rfl;exact h (by omega))] at l6;have n9:=qZ l6;have H2:=qZ h2;clear l6 d8;have q8:pl.length<=1048576:=l9 rfl;have p9:w3.heap.size<=(w3.drew.alloc (.cells [Value.pointer (some ⟨gj,0,none⟩),Value.pointer (some ⟨gj,1,none⟩)].toArray 155)).heap.size:=by simp
 have l4:gj<w3.heap.size:=f7.out.lt;have p7:gj<w2.heap.size:=by omega
 have m4:Hid (Calls Tryz.prog 104 #[.slice A3 pl.length c3,.slice (some ⟨w3.heap.size,0,none⟩) 2 2] (w3.drew.alloc (.cells [Value.pointer (some ⟨gj,0,none⟩),Value.pointer (some ⟨gj,1,none⟩)].toArray 155)) _):=qZ (by
  have b8:Below w3.heap.size w3 (w3.drew.alloc (.cells [Value.pointer (some ⟨gj,0,none⟩),Value.pointer (some ⟨gj,1,none⟩)].toArray 155)):=((lS _ w3).drew).alloc (by simp) _;exact aT4 A3 pl c3 (some ⟨w3.heap.size,0,none⟩) 2 2 gj 0 53 _ (w3.drew.alloc (.cells [Value.pointer (some ⟨gj,0,none⟩),Value.pointer (some ⟨gj,1,none⟩)].toArray 155)) ((o9.out.below b8).more b8.size) (fun h0 ad e=>by have:=p5.out ad e;omega) y1 (by omega) (by omega)
   ((aF9 w3.drew 155 [Value.pointer (some ⟨gj,0,none⟩),Value.pointer (some ⟨gj,1,none⟩)]).more (by simp)) (fun ad e=>by injection e with e;subst e;show w3.heap.size≠gj;omega) (f7.out.below b8 l4) (by omega) (fun i hi=>by
    rcases(by omega:i=0∨i=1) with rfl|rfl
    ·exact⟨_,rfl,rfl⟩
    exact⟨_,rfl,rfl⟩))
 go_upto_region 7 with fail
 refine wp_region_held_drew (S:=fun _=>True) (by kernel_rfl) trivial (fun hHeld=>?_);refine zT 0 (k:=?_);refine zT 1 (k:=?_);refine zT 2 (k:=?_);refine zT 3 (k:=?_);refine zT 4 (k:=?_);refine zT 5 (k:=?_);refine zT 6 (k:=?_);refine zT 7 (k:=?_);refine zT 8 (k:=?_);simp only[zA,zB,zF,zG,zC,zD,zE];refine zV 9 (k:=fun K hK=>?_);simp only[zA,zB];go_simp;refine hK.out _ _ trivial (fun hHeld=>?_);clear hK K;try simp only[zF,zG,zC,zD,zE]
 refine zV 10 (k:=fun K hK=>?_);simp only[zA,zB];go_simp;refine m4.out.mono ?_;rintro e w4 ⟨v4,rfl,o5,⟨f6,n8,m9,n5⟩,Ar,rr,cr,rfl,z1,z2,z3,z4⟩;have m8:=qZ o5;have m5:=qZ m9;have m6:=qZ n5;have o8:=qZ z4;clear o5 m9 n5 z3 z4 m4 o9;refine hK.out _ _ trivial (fun hHeld=>?_);clear hK K;try simp only[zF,zG,zC,zD,zE]
 refine zT 11 (k:=?_);refine zT 12 (k:=?_);refine zT 13 (k:=?_);refine zT 14 (k:=?_);refine zT 15 (k:=?_);simp only[zA,zB,zF,zG,zC,zD,zE];refine wpAnyH_done (by kernel_rfl) ?_ _;have b8:Below w3.heap.size w3 (w3.drew.alloc (.cells [Value.pointer (some ⟨gj,0,none⟩),Value.pointer (some ⟨gj,1,none⟩)].toArray 155)):=((lS _ w3).drew).alloc (by simp) _;have l8:=qZ (aA4 (aA4 (aA5 g8.out (some gj)) (aA5 b8 (some gj)) (.inl rfl)) m8.out (.inl rfl));clear b8 m8 p9 f7 g8;have a9:∃t v,aL9 #[.int .i64 t0,.int .i64 v0,sv,.pointer (some ⟨g,0,none⟩),.int .i64 bad] 0 f6=#[.int .i64 t,.int .i64 v,sv,.pointer (some ⟨g,0,none⟩),.int .i64 bad]∧∀r,(aE7 2 pl).2=some r->(aE7 2 pl).1=[t,v]:=by
  match f6,n8,m6.out with
  |[],_,hv=>exact⟨t0,v0,rfl,fun r h=>by have:=(hv r h).2;simp at this⟩
  |[x],_,hv=>exact⟨x,v0,rfl,fun r h=>by have:=(hv r h).2;simp at this⟩
  |[x,y],_,hv=>exact⟨x,y,rfl,fun r h=>(hv r h).1.symm⟩
 obtain⟨t,v,n4,p0⟩:=a9;have m2:=m5.out;rw[n4] at m2;have l7:=qZ m2;have o7:=qZ p0;clear m5 m6 n4 p0 m2 n8;have o6:M=match(aE7 2 pl).2 with
  |some []=>some (t,v)
  |_=>none:=by
  rw[n9.out];have h9:=o7.out;generalize aE7 2 pl=T at h9⊢
  obtain⟨a,_|r⟩:=T
  ·simp
  obtain rfl:a=[t,v]:=h9 r rfl;cases r<;>rfl
 have a8:=qZ o6;obtain⟨ob,n6⟩:∃o,o=(aE7 2 pl).2:=⟨_,rfl⟩
 rw[<-n6] at a8 o8⊢;clear o6 n9 n6 o7;cases ob with
 |none=>
  have hn:M=none:=a8.out;subst hn;clear a8;go_wp2_with fail
  go_ret
  exact⟨rfl,l8.out,t,v,l7.out,fun q h=>by cases h⟩
 |some r=>
  obtain rfl:r=rr:=o8.out;cases r with
  |nil=>
   have hn:M=some (t,v):=a8.out;subst hn;clear a8;go_wp2_with fail
   go_ret
   exact⟨rfl,l8.out,t,v,l7.out,fun q h=>by injection h⟩
  |cons x y=>
   have hn:M=none:=a8.out;subst hn;clear a8;have s9:(((x::y).length:Int)==0)=false:=by simp;omega
   go_wp2_with fail
   go_ret
   exact⟨rfl,l8.out,t,v,l7.out,fun q h=>by cases h⟩
end
section
open Go.ChangeShapes Go.WideShapes Go.ChangeAt Go.RowKit Go.Joins Go.Deep Oct
theorem dH7{w:World}{A:Option Addr}{xs:List Value}(h:Rd w w.heap.size A xs):RdF w (fun k=>k<w.heap.size) A xs:=fun h0=>by
 obtain⟨ad,rfl,hb,hc⟩:=h h0;have h1:=hc 0 xs[0] (lW h0);have e0:ad.add 0=ad:=rfl;rw[e0] at h1;obtain⟨b,o,s⟩:=ad;cases s with
 |none=>exact⟨b,o,rfl,hb,hb,fun j u hu=>by rw[<-add_lit];exact hc j u hu⟩
 |some s=>
  exfalso
  unfold World.cell? at h1;split at h1<;>simp at h1
structure dO2 where
 o:Int
 n:Int
 m:Int
 Al:Option Addr
 rs:List aF2
 cl:Nat
 Ak:Option Addr
 kz:List Int
 ck:Nat
 nm:ByteArray
 Ab:Option Addr
 b:List UInt8
 cb:Nat
def dO2.cs(a:dO2):List Value:=[.int .i64 a.o,.int .i64 a.n,.int .i64 a.m,.slice a.Al a.rs.length a.cl,.slice a.Ak a.kz.length a.ck,.string a.nm,.slice a.Ab a.b.length a.cb]
end
end Go.Proofs.YtgeofijddhflaaaGreatDoor
