/- Opening an argument that is a slice of a journal's acts, and how many values it holds. No condition. -/
import Derived.Test.YtgeofijddhflaaaGreatDoorPCalcFacts
import Derived.Test.YtgeofijddhflaaaGreatDoorPKeepApp
import Derived.Test.YtgeofijddhflaaaGreatDoorPDiskApp
import Derived.Lib.ItoaLen
import Derived.Deep.DeepMust
set_option linter.unusedVariables false
set_option linter.unusedSimpArgs false
set_option maxHeartbeats 8000000
set_option maxRecDepth 100000
namespace Go.Proofs.YtgeofijddhflaaaGreatDoor
section
open Oct
structure cD where
 ix:Int
 tm:Int
 kd:Int
 b:List UInt8
structure aH where
 k:Int
 a8:Int
 c6:Int
 l:List cD
 a7:List Int
def dL(l:List Int):List UInt8:=(l.map fun n=>enc (fold1 n)).flatten
def dN(first term:Int):List UInt8:=cM (nD first++dL [term])
def aZ(e:cD):List UInt8:=cM (dL [e.tm,e.kd]++nU e.b)
def gR(term vote:Int):List UInt8:=cM (dL [term,vote])
def aH.b2(s:aH):Int:=s.a7.getLastD 0
def aH.b7(s:aH):Int×Int:=match s.l.getLast? with
 |none=>(s.a8-1,s.c6)
 |some e=>(e.ix,e.tm)
def aH.e4(s:aH)(ix:Int):Nat:=min (ix-s.a8).toNat s.l
def aH.ahead(s:aH)(ix:Int):aH:={s with l:=s.l.take (s.e4 ix),a7:=s.a7.take (s.e4 ix+1)}
def aH.h0(s t:aH):Bool:=decide (s.a8-1=t.b7.1)&&decide (s.c6=t.b7.2)
def aE(k:Int):Nm:=106::Lib.itoa k
def fZ:Nm:=[109,101,116,97]
def aJ:Nm:=[109,101,116,97,46,110,101,119]
def qK:Nm->Int
 |[]=>0
 |c::r=>if r.length<1∨9<r.length∨c≠106 then 0 else if(cG r).2.2≠0∨(cG r).2.1≠(r:Int) then 0 else(cG r).1
def cI:Nat->List UInt8->List Int×Option (List UInt8)
 |0,b=>([],some b)
 |n+1,b=>if(aC maxU b).2.2≠0∨bX (aC maxU b).1<0 then([],none) else
  (bX (aC maxU b).1::(cI n (b.drop (aC maxU b).2.1)).1,(cI n (b.drop (aC maxU b).2.1)).2)
def bL:Int:=9223372036854775807
def gF(p:List UInt8):Option (Int×Int):=
 if(aC maxI p).2.2≠0∨(aC maxI p).1<1∨((aC maxI p).1:Int)=bL then none else
 match cI 1 (p.drop (aC maxI p).2.1) with
 |([t],some [])=>some ((aC maxI p).1,t)
 |_=>none
def dE(p:List UInt8)(at_:Int):Option cD:=
 match cI 2 p with
 |([t,k],some r)=>if(cJ r).2.2≠0∨(cJ r).2.1≠r.length∨bL-1<=at_ then none else some ⟨at_+1,t,k,(cJ r).1⟩
 |_=>none
def gB:List (List UInt8)->Int->aH->Option aH
 |[],_,s=>some s
 |p::r,a,s=>match dE p s.b7.1 with
  |none=>none
  |some e=>gB r (a+(cM p).length) {s with l:=s.l++[e],a7:=s.a7++[a+(cM p).length]}
def cH(k:Int)(b:List UInt8):Option (aH×Bool):=
 match(cL b).1 with
 |[]=>some (⟨k,0,0,[],[]⟩,decide ((cL b).2.2≠0))
 |p::r=>match gF p with
  |none=>none
  |some (f,t)=>(gB r (cM p).length ⟨k,f,t,[],[((cM p).length:Int)]⟩).map fun s=>(s,decide ((cL b).2.2≠0))
def cE:List (Nm×FD)->Option (List (aH×Bool))
 |[]=>some []
 |q::r=>if qK q.1=0 then cE r else match cH (qK q.1) q.2.b with
  |none=>none
  |some s=>(cE r).map (s:: ·)
def eT:List (aH×Bool)->Bool
 |a::b::r=>decide (a.1.k=b.1.k-1)&& ! a.2&& ! a.1.a7.isEmpty&&eT (b::r)
 |_=>true
def gH(d:DkD):Option (List (aH×Bool)):=match cE d.fs with
 |none=>none
 |some l=>if eT (l.mergeSort fun x y=>decide (x.1.k<=y.1.k))=true then some (l.mergeSort fun x y=>decide (x.1.k<=y.1.k)) else none
def dQ(d:DkD):Option (Int×Int):=match d.read fZ with
 |(b,e)=>if e≠0 then some (0,0) else if(bO b).2.2≠0∨(bO b).2.1≠b.length then none else
  match cI 2 (bO b).1 with
  |([t,v],some [])=>some (t,v)
  |_=>none
inductive aQ
 |rm (n:Nm)
 |cut (n:Nm) (k:Int)
 |sync (n:Nm)
 |app (n:Nm) (p:List UInt8)
 |ren
def aQ.run(d:DkD):aQ->Int×DkD
 | .rm n=>d.b6 n
 | .cut n k=>d.e6 n k
 | .sync n=>d.sync n
 | .app n p=>d.append n [p]
 | .ren=>d.rename aJ fZ
def cF:List aQ->DkD->Int×DkD
 |[],d=>(0,d)
 |a::r,d=>if(a.run d).1=0 then cF r (a.run d).2 else a.run d
structure bQ where
 c6:Int
 h7:Int
 b0:List aH
 bad:Int
def dC:List aH->List aH->List aH
 |acc,[]=>acc
 |acc,s::r=>dC (match acc.getLast? with|none=>[s]|some t=>if s.h0 t=true then acc++[s] else[s]) r
def cQ(l:List (aH×Bool))(m:Int×Int)(d:DkD):Int×Option bQ×DkD:=
 let segs:=dC [] (l.map (·.1))
 let acts:=((l.take (l.length-segs)).map fun f=>aQ.rm (aE f.1.k))++(match l.getLast? with
  |none=>[]
  |some f=>(if f.2=true then[.cut (aE f.1.k) f.1.b2] else[])++[.sync (aE f.1.k)])
 let r:=cF acts d
 (r.1,if r.1=0 then some ⟨m.1,m.2,segs,0⟩ else none,r.2)
def jP(d:DkD):Int×Option bQ×DkD:=match dQ d,gH d with
 |some m,some l=>(match l.getLast? with
  |none=>cQ l m d
  |some f=>if f.1.a7.isEmpty=true then(if(d.b6 (aE f.1.k)).1=0 then cQ l.dropLast m (d.b6 (aE f.1.k)).2 else((d.b6 (aE f.1.k)).1,none,(d.b6 (aE f.1.k)).2)) else cQ l m d)
 |_,_=>(53,none,d)
def eB(d:DkD):Int×Option bQ×DkD:=
 if d.pw.off=true then(50,none,d) else if(d.fs.any fun q=>q.1==aJ)=true then
  (if(d.b6 aJ).1=0 then jP (d.b6 aJ).2 else((d.b6 aJ).1,none,(d.b6 aJ).2)) else jP d
def bP(j:bQ)(d:DkD)(term vote:Int):Int×bQ×DkD:=
 if j.bad≠0 then(j.bad,j,d) else if term<0∨vote<0 then(1,j,d) else
 let p:=gR term vote
 if d.free+(d.read aJ).1.length<p then(52,j,d) else
 let r:=cF ((if(d.read aJ).2=0 then[.rm aJ] else[])++[.app aJ p,.sync aJ,.ren]) d
 (r.1,if r.1=0 then⟨term,vote,j.b0,0⟩ else {j with bad:=r.1},r.2)
def bQ.base(j:bQ):Int×Int:=match j.b0 with
 |[]=>(0,0)
 |s::_=>(s.a8-1,s.c6)
def bQ.b7(j:bQ):Int×Int:=match j.b0.getLast? with
 |none=>(0,0)
 |some s=>s.b7
def bQ.c7(j:bQ):List cD:=(j.b0.map aH.l).flatten
def gV(base:Int):List cD->Int->Option Int->Bool
 |[],_,_=>true
 |e::r,last,prev=> !(decide (e.ix<=base)||decide (last<e.ix-1)||decide (e.ix=bL)||(match prev with|none=>false|some p=>decide (e.ix-1≠p))||decide (e.tm<0)||decide (e.kd<0))&&gV base r e.ix (some e.ix)
def nG(j:bQ)(l:List cD):Int:=if gV j.base.1 l j.b7.1 none=false then 1 else if(l.any fun e=>decide (65535<e.b.length))=true then 2 else 0
def dR(segs:List aH)(ix:Int):Nat->Nat
 |0=>0
 |1=>1
 |n+2=>match segs[n+1]? with
  |some s=>if ix<=s.a8 then dR segs ix (n+1) else n+2
  |none=>n+2
def aO:aH->List cD->aH
 |s,[]=>s
 |s,e::r=>aO {s with l:=s.l++[e],a7:=s.a7++[s.b2+(aZ e).length]} r
def cP(j:bQ)(d:DkD)(l:List cD):Int×bQ×DkD:=
 if j.bad≠0 then(j.bad,j,d) else if nG j l≠0 then(nG j l,j,d) else match l with
 |[]=>(0,j,d)
 |e0::_=>
  let n:=dR j.b0 e0.ix j.b0
  let gone:=(j.b0.drop n).reverse
  let freed1:=(gone.map aH.b2).foldl (· + ·) 0
  let do1:=gone.map fun s=>aQ.rm (aE s.k)
  let kept:=j.b0.take n
  let cut:=kept.getLast?.map fun s=>(s,s.ahead e0.ix)
  let freed:=freed1+(match cut with|some (s,c)=>if c.b2<s.b2 then s.b2-c.b2 else 0|none=>0)
  let do2:=match cut with|some (s,c)=>(if c.b2<s.b2 then[aQ.cut (aE s.k) c.b2] else[])|none=>[]
  let kept2:=match cut with|some (_,c)=>kept.dropLast++[c]|none=>kept
  let new:=match cut with|some (_,c)=>decide (600<=c.b2)|none=>true
  let fk:=match cut with|some (s,_)=>s.k+1|none=>1
  let ft:=match cut with|some (_,c)=>c.b7.2|none=>0
  let hd:=dN e0.ix ft
  let s0:aH:=if new=true then⟨fk,e0.ix,ft,[],[(hd:Int)]⟩ else(match cut with|some (_,c)=>c|none=>⟨fk,e0.ix,ft,[],[]⟩)
  let b:=(if new=true then hd else[])++(l.map aZ).flatten
  let s1:=aO s0 l
  let segs:=(if new=true then kept2 else kept2.dropLast)++[s1]
  if 999999999<s1.k then(1,j,d) else if IntKind.i64.wrap (d.free+freed)<(b:Int) then(52,j,d) else
  let r:=cF (do1++do2++[.app (aE s1.k) b,.sync (aE s1.k)]) d
  (r.1,if r.1=0 then {j with b0:=segs} else {j with bad:=r.1},r.2)
def jC(j:bQ)(ix:Int):Option Int:=if j.base.1=ix then some j.base.2 else
 j.b0.findSome? fun s=>if 0<=ix-s.a8∧ix-s.a8<(s.l:Int) then(s.l[(ix-s.a8).toNat]?).map cD.tm else none
def gY(segs:List aH)(ix:Int):Nat->Nat->Nat
 |0,f=>f
 |fuel+1,f=>match segs[f+1]? with
  |some s=>if s.a8<=ix+1 then gY segs ix fuel (f+1) else f
  |none=>f
def bZ(j:bQ)(d:DkD)(ix term:Int):Int×bQ×DkD:=
 if j.bad≠0 then(j.bad,j,d) else if ix<j.base.1∨bL-2<ix∨term<0∨(ix=j.base.1∧(jC j ix).getD 0≠term) then(1,j,d) else
 let new:=decide (j.b7.1<ix)||(match jC j ix with|some t=>decide (t≠term)|none=>false)
 let hd:=dN (ix+1) term
 let s:aH:=⟨match j.b0.getLast? with|some x=>x.k+1|none=>1,ix+1,term,[],[(hd:Int)]⟩
 if new=true∧999999999<s.k then(1,j,d) else if new=true∧d.free<(hd:Int) then(52,j,d) else
 let segs:=if new=true then j.b0++[s] else j.b0
 let from_:=gY segs ix segs (if new=true then j.b0 else 0)
 let r:=cF ((if new=true then[.app (aE s.k) hd,.sync (aE s.k)] else[])++(segs.take from_).map fun x=>aQ.rm (aE x.k)) d
 (r.1,if r.1=0 then {j with b0:=segs.drop from_} else {j with bad:=r.1},r.2)
end
section
open Oct
structure gP(L:Nat)(d:DkD):Prop where
 sz:bC d.fs<=(L:Int)
 len:d.fs<=L
 nm:∀q∈d.fs,q.1.length<=1000
theorem fR{q:Nm×FD}:∀{l:List (Nm×FD)},q∈l->(q.2.b.length:Int)<=bC l
 |x::r,h=>by
  have a:=dD r;unfold bC;rcases List.mem_cons.1 h with rfl|h
  omega;have:=fR h;omega
theorem rU(f:Nm×FD->Bool):∀l:List (Nm×FD),bC (l.filter f)<=bC l
 |[]=>Int.le_refl _
 |x::r=>by
  have:=rU f r;by_cases h:f x=true;rw[List.filter_cons_of_pos h];simp only[bC];omega;rw[List.filter_cons_of_neg h];simp only[bC];omega
theorem pI(n:Nm)(l:List (Nm×FD)):bC (bE n l)<=bC l:=rU _ l
theorem tM{α:Type}(n:Nm)(l:List (Nm×α)):(bE n l).length<=l:=List.length_filter_le _ _
theorem yR(x:Nm×FD):∀l:List (Nm×FD),bC (asIns x l)=x.2.b.length+bC l
 |[]=>by simp[asIns,bC]
 |y::r=>by
  have:=yR x r;unfold asIns;split;simp[bC];simp only[bC];omega
theorem yS(n:Nm)(f:FD)(l:List (Nm×FD)):bC (aW n f l)=f.b+bC (bE n l):=yR _ _
theorem tN{α:Type}(n:Nm)(f:α)(l:List (Nm×α)):(aW n f l).length<=l+1:=by
 unfold aW;rw[iN];have:=tM n l;omega
theorem iO{α:Type}{n:Nm}{f f' :α}{l:List (Nm×α)}(h:aX n l=some f):(aW n f' l).length<=l:=by
 unfold aW;rw[iN];have b:=bY h;have:(bE n l).length<l:=by
  refine Nat.lt_of_le_of_ne (tM n l) fun e=>?_
  have a:=List.filter_eq_self.1 (List.Sublist.eq_of_length (List.filter_sublist (p:=fun p:Nm×α=> !(p.1==n)) (l:=l)) e) _ b;simp at a
 omega
theorem iG{n:Nm}{f:FD}:∀{l:List (Nm×FD)},aX n l=some f->(f.b:Int)+bC (bE n l)<=bC l
 |[],h=>by cases h
 |x::r,h=>by
  unfold aX at h;by_cases hx:(x.1==n)=true;rw[List.find?_cons_of_pos (p:=fun p:Nm×FD=>p.1==n) hx] at h;simp at h;subst h;have a:=pI n r;unfold bE at a⊢;rw[List.filter_cons_of_neg (by simp[hx])];simp only[bC];omega;rw[List.find?_cons_of_neg (p:=fun p:Nm×FD=>p.1==n) hx] at h;have:=iG (l:=r) h;unfold bE at this⊢;rw[List.filter_cons_of_pos (by simpa using hx)];simp only[bC];omega
def aQ.cost:aQ->Nat
 | .app _ p=>p.length+1
 |_=>0
def cO(l:List aQ):Nat:=(l.map aQ.cost).sum
section
variable{L:Nat}{d:DkD}
theorem gP.mono{a :Nat}(h:gP L d)(b:L<=a):gP a d:=⟨ω1 h.sz,mM h.len b,h.nm⟩
theorem gP.pw(h:gP L d)(p:fT):gP L {d with pw:=p}:=⟨h.sz,h.len,h.nm⟩
theorem gP.del(h:gP L d)(n:Nm):gP L {d with fs:=bE n d.fs}:=
 ⟨Int.le_trans (pI n _) h.sz,mM (tM n _) h.len,fun q a=>h.nm q (eQ.1 a).1⟩
theorem gP.put(h:gP L d)(n:Nm)(f:FD)(g:n.length<=1000){M:Nat}(e:(f.b:Int)+bC (bE n d.fs)<=(M:Int))(c:(aW n f d.fs).length<=M):gP M {d with fs:=aW n f d.fs}:=
 ⟨by rw[yS];exact e,c,fun q a=>by
  rcases asPut_mem.1 a with rfl|a
  exact g;exact h.nm q a.1⟩
theorem gP.e0(h:gP L d){fs:List (Nm×FD)}(e:gP L {d with fs:=fs}):gP L (d.e0 fs).2:=by
 have b:=h.pw d.pw.cut.2.2;have c:=e.pw d.pw.cut.2.2;unfold DkD.e0;by_cases a:d.pw.cut.1=false∨d.pw.cut.2.1 %2≠0;simp only[if_pos a];exact c;simp only[if_neg a];exact b
theorem bQ0(n:Nm)(l:List (Nm×FD)):((((aX n l).getD ⟨[],0⟩).b.length:Nat):Int)+bC (bE n l)<=bC l:=by
 cases e:aX n l with
 |none=>
  have:=pI n l;simp;omega
 |some f=>simpa using iG e
theorem bC4(h:gP L d){n:Nm}{f:FD}(e:aX n d.fs=some f):n.length<=1000:=h.nm (n,f) (bY e)
theorem gP.run(h:gP L d)(a:aQ):gP (L+a.cost) (a.run d).2:=by
 cases a with
 |rm n=>
  show gP L (d.b6 n).2
  unfold DkD.b6;split;exact h;split;exact h;exact h.e0 (h.del n)
 |cut n k=>
  show gP L (d.e6 n k).2
  unfold DkD.e6;split;exact h;split;exact h;rename_i f c;split;exact h;refine h.e0 (h.put n _ (bC4 h c) ?_ (mM (iO c) h.len));have g:=iG c;have e:=h.sz;simp only[lV];omega
 |sync n=>
  show gP L (d.sync n).2
  unfold DkD.sync;split;exact h;split;exact h;rename_i f c;split;exact h.pw _;refine(h.put n _ (bC4 h c) ?_ (mM (iO c) h.len)).pw _;have g:=iG c;have e:=h.sz;simp only;omega
 |app n p=>
  show gP (L+(p.length+1)) (d.append n [p]).2
  have i:gP (L+(p.length+1)) d:=h.mono O;unfold DkD.append;split;exact i;split;exact i;rename_i m;split;exact i;have r:=h.sz;have o:=h.len;have q:=bQ0 n d.fs;have s:(uJ d.pw.cut.2.1 [p].flatten).length<=p:=by
   unfold uJ;rw[lV];simp;omega
  refine(h.put n _ O ?_ (ω1 (tN n (⟨((aX n d.fs).getD ⟨[],0⟩).b++(if d.pw.cut.1=true then uJ d.pw.cut.2.1 [p].flatten else[p].flatten),((aX n d.fs).getD ⟨[],0⟩).b5⟩:FD) d.fs))).pw _;have j:[p].flatten=p:=by simp
  simp only[lT];split
  ·push_cast;omega
  rw[j];push_cast;omega
 |ren=>
  show gP L (d.rename aJ fZ).2
  unfold DkD.rename;split;exact h;split;exact h;rename_i f c;split;exact h;have l:=h.del aJ;refine h.e0 (l.put fZ f δ ?_ ?_);have g:=iG c;have e:=pI fZ (bE aJ d.fs);have:=h.sz;simp only;omega;have g:=tN fZ f (bE aJ d.fs);have e:=iO (f' :=f) c;have t:=h.len;unfold aW at e;rw[iN] at e;simp only;omega
theorem gP.runs:∀(l:List aQ) {L:Nat} {d:DkD},gP L d->gP (L+cO l) (cF l d).2
 |[],L,d,h=>h
 |a::r,L,d,h=>by
  have e:L+cO (a::r)=L+a.cost+cO r:=by unfold cO;simp;omega
  unfold cF;rw[e];split;exact gP.runs r (h.run a);exact(h.run a).mono O
end
end
section
open Go.RowKit Oct
def dM(w:World)(F:Nat->Prop)(A:Option Addr)(xs:List Value):Prop:=0<xs.length->∃b o,A=some ⟨b,o,none⟩∧F b∧b<w.heap.size∧∀j u,xs[j]? =some u->w.cell? ⟨b,o+j,none⟩=some u
theorem add_lit(b o j:Nat):((b,o):Addr).add j=⟨b,o+j,none⟩:=by
 unfold Addr.add;by_cases h:j=0;subst h;rfl;simp[h]
section
variable{w w' :World}{F F' :Nat->Prop}{A:Option Addr}{xs:List Value}
theorem dM.rd(h:dM w F A xs):Rd w w A xs:=fun c=>by
 obtain⟨b,o,e,_,a,d⟩:=h c;exact⟨(b,o),e,a,fun j u f=>by rw[add_lit];exact d j u f⟩
theorem dM.b1(h:dM w F A xs)(l:w.heap.size<=w')(f:∀k,F k->w'.heap[k]? =w.heap[k]?):dM w' F A xs:=fun c=>by
 obtain⟨b,o,e,a,g,d⟩:=h c;exact⟨b,o,e,a,O,fun j u i=>(mK (w:=w) (f b a)).trans (d j u i)⟩
theorem dM.mono(h:dM w F A xs)(f:∀k,F k->F' k):dM w F' A xs:=fun c=>by
 obtain⟨b,o,e,d,a,g⟩:=h c;exact⟨b,o,e,f b d,a,g⟩
theorem dM.nil:dM w F A []:=fun h=>absurd h σ
theorem dM.take(h:dM w F A xs)(k:Nat):dM w F A (xs.take k):=fun d=>by
 rw[lV] at d;obtain⟨b,o,e,f,c,g⟩:=h O;exact⟨b,o,e,f,c,fun j u a=>g j u (by
  rw[List.getElem?_take] at a;split at a;exact a;cases a)⟩
theorem dM.e1{base:Nat}{e:TypeId}{n c:Nat}(h:Own w base e (.slice A n c) xs)(d:∀k,base<=k->k<w.heap.size->F k):dM w F A xs:=fun b=>by
 rcases Own.e0 h with⟨h1,h2⟩|⟨g,cap,cur,h1,h2,h3,h4,_⟩
 rw[h2] at b;simp at b;obtain⟨p,r,o,_,_,l⟩:=Own.b3 h;injection h1 with e1 _ _
 injection o with e2 _ _
 obtain⟨q,a,i,f⟩:=l b;rw[<-e2,e1] at a;injection a with a
 subst a;exact⟨g,0,e1,d g h2 h3,h3,fun j u m=>by rw[<-add_lit];exact f j u m⟩
theorem dM.e8{base:Nat}{e:TypeId}{a n m c:Nat}(h:w.ownsRow base e a (.slice A m c) n xs)(i:∀k,base<=k->k<w.heap.size->F k)(q:n*a=xs):dM w F A xs:=fun o=>by
 rcases h.2 with⟨h1,h2⟩|⟨g,cap,cur,h1,h2,h3,h4,h5,h6,h7⟩
 subst h2;omega;have l:=h1;injection h1 with e1 e2 e3
 have b:=(Array.getElem?_eq_some_iff.1 h3).1;exact⟨g,0,e1,i g h2 b,b,fun j u d=>by
  have p:=(List.getElem?_eq_some_iff.1 d).1;have f:=World.ownsRow.cellAt (l▸h) (0+j) O;rw[f,Nat.zero_add];exact d⟩
end
def gQ(w:World)(F:Nat->Prop)(v:Value)(l:List UInt8):Prop:=∃A c,v=.slice A l c∧l.length<=c∧c<=9223372036854775807∧dM w F A (cells l)
structure EntR where
 v:Value
 e:cD
def dU(q:EntR):List Value:=[q.e.ix,q.e.tm,q.e.kd,q.v]
def aG(l:List EntR):List Value:=l.flatMap dU
theorem aN(l:List EntR):(aG l).length=4*l:=by
 induction l with
 |nil=>rfl
 |cons x r ih=>unfold aG at ih⊢;rw[List.flatMap_cons,lT,ih];simp[dU];omega
theorem bM(l:List EntR){k:Nat}(a:k<l){j:Nat}(b:j<4):(aG l)[k*4+j]? =(dU l[k])[j]? :=by
 induction l generalizing k with
 |nil=>simp at a
 |cons x r ih=>
  unfold aG at ih⊢;rw[List.flatMap_cons];cases k with
  |zero=>rw[List.getElem?_append_left (by simp[dU];omega)];simp
  |succ k=>
   rw[List.getElem?_append_right (by simp[dU];omega)];have:(k+1)*4+j-(dU x).length=k*4+j:=by simp[dU];omega
   rw[this,ih (by simpa using a)];rfl
theorem eG(a b:List EntR):aG (a++b)=aG a++aG b:=by unfold aG;rw[List.flatMap_append]
theorem lF(l:List EntR)(k:Nat):(aG l).take (k*4)=aG (l.take k):=by
 induction l generalizing k with
 |nil=>simp[aG]
 |cons x r ih=>
  cases k with
  |zero=>simp[aG]
  |succ k=>
   have:=ih k;unfold aG at this⊢;rw[List.take_succ_cons,List.flatMap_cons,List.flatMap_cons,<-this,List.take_append];have a:(dU x).length=4:=rfl;rw[a,List.take_of_length_le (by rw[a];omega),show(k+1)*4-4=k*4 by omega]
structure gU(s:aH):Prop where
 k:I6 s.k
 a8:0<=s.a8∧s.a8<=9223372036854775806
 c6:I6 s.c6
 l0:∀e∈s.l,(I6 e.ix)∧(I6 e.tm)∧(I6 e.kd)
 a7:∀n∈s.a7,0<=n∧n<=4611686018427387904
structure jU(w:World)(F:Nat->Prop)(ad:Addr)(s:aH):Prop where
 at_:∃Al cl rs Ae ce,dM w F (some ad) [s.k,s.a8,s.c6,.slice Al s.l cl,.slice Ae s.a7 ce]∧s.l.length<=cl∧cl<=maxLen∧s.a7.length<=ce∧ce<=maxLen∧dM w F Al (aG rs)∧rs.map EntR.e=s.l∧(∀q∈rs,gQ w F q.v q.e.b)∧dM w F Ae (s.a7.map (Value.int .i64))
 num:gU s
section
variable{w w' :World}{F F' :Nat->Prop}{ad:Addr}{s:aH}
theorem gQ.b1{v:Value}{l:List UInt8}(h:gQ w F v l)(g:w.heap.size<=w')(f:∀k,F k->w'.heap[k]? =w.heap[k]?):gQ w' F v l:=by
 obtain⟨A,c,a,b,d,e⟩:=h;exact⟨A,c,a,b,d,e.b1 g f⟩
theorem gQ.mono{v:Value}{l:List UInt8}(h:gQ w F v l)(f:∀k,F k->F' k):gQ w F' v l:=by
 obtain⟨A,c,a,b,d,e⟩:=h;exact⟨A,c,a,b,d,e.mono f⟩
theorem jU.b1(h:jU w F ad s)(b:w.heap.size<=w')(a:∀k,F k->w'.heap[k]? =w.heap[k]?):jU w' F ad s:=by
 obtain⟨⟨d,f,v,c,e,g,i,j,l,m,n,o,p,r⟩,t⟩:=h;exact⟨⟨d,f,v,c,e,g.b1 b a,i,j,l,m,n.b1 b a,o,fun q u=>(p q u).b1 b a,r.b1 b a⟩,t⟩
theorem jU.mono(h:jU w F ad s)(a:∀k,F k->F' k):jU w F' ad s:=by
 obtain⟨⟨c,e,u,b,d,f,g,i,j,l,m,n,o,p⟩,r⟩:=h;exact⟨⟨c,e,u,b,d,f.mono a,g,i,j,l,m.mono a,n,fun q t=>(o q t).mono a,p.mono a⟩,r⟩
end
end
section
open Go.RowKit Oct
theorem aW4(A:Option Addr)(a:List Nm)(c:Nat)(x:Nm)(w:World)(q:Rd w w A (a.map fun n=>.string (bU n)))(E:a.length<=4611686018427387904):
  Calls Tryz.prog 93 #[.slice A a c,.string (bU x)] w fun e z =>(∃r:Int,e=.returned r∧decide (0<=r)=a.any fun n=>n==x)∧w=z :=by
 have t:=J q;clear q;go_enter Tryz.func93,Tryz.ntmps93;go_wp2_with fail;go_loopw [8,5] (fun i _ wr=>∃k:Nat,k<=a∧i=.int .i64 k∧Hq ((a.take k).any (fun n=>n==x)=false)∧wr=w) (fun i _ _=>a.length-(intOf i).toNat)
 case atStart=>exact⟨0,O,rfl,J rfl,rfl⟩
 obtain⟨k,D,rfl,g,rfl⟩:=hrel;by_cases b:k<a;rotate_left
 ·obtain rfl:k=a:=O
  go_wp2;go_ret;have m:=g.o;rw[List.take_length] at m;refine⟨⟨_,rfl,?_⟩,rfl⟩;rw[m];decide
 obtain⟨B,rfl,C,l⟩:=t.o.at_ (k:=k) (by rw[lU];exact b);rw[List.getElem_map] at l;have f:a.take (k+1)=a.take k++[a[k]]:=by
  rw[List.take_add_one,lW b];rfl
 obtain⟨y,s⟩:=eX (a[k]);rw[<-s] at l f;have j:=J f;have u:=J (show a=a.take (k+1)++a.drop (k+1) from(List.take_append_drop _ _).symm);clear f s;by_cases e:x=y
 ·have d:=J e
  have v:((bU x).toList==(bU y).toList)=true:=by rw[e];exact beq_self_eq_true _
  clear e;go_wp2;go_ret;refine⟨⟨_,rfl,?_⟩,rfl⟩;rw[u.o,j.o,d.o];simp
 have d:=J e;have p:(bU x).toList≠(bU y).toList:=fun h=>e (by simpa[bU,ByteArray.toList_eq] using h)
 have v:=mN.2 p;clear p;clear e;go_wp2;go_roundw
 case rel=>exact⟨k+1,O,by go_num,J (by rw[j.o,List.any_append,g.o];simpa using fun h=>d.o h.symm),by first|rfl|trivial⟩
 case measure=>simp[intOf];omega
theorem aC6(A:Option Addr)(b:List Nm)(c:Nat)(x:Nm)(w:World)(a:Rd w w A (b.map fun n=>.string (bU n)))(h:b.length<=4611686018427387904):
  Calls Tryz.prog 46 #[.slice A b c,.string (bU x)] w fun e f =>e=.returned (.bool (b.any fun n=>n==x))∧w=f :=by
 have d:=J (aW4 A b c x w a h);clear a;go_enter Tryz.func46,Tryz.ntmps46;go_wp2_with fail;refine d.o.mono ?_;rintro e f ⟨⟨r,rfl,a⟩,rfl⟩;have g:=J a;clear a d;go_wp2;go_ret;refine⟨?_,rfl⟩;rw[<-g.o];rfl
end
section
open Go.RowKit Oct
theorem yO(b o:Nat)(f t:Int)(a:Option Addr)(c:Nat)(j:0<=f∧f<=9223372036854775807)(w:World)(g:w.cell? (b,o+1)=some (.int .i64 f))(h:w.cell? (b,o+2)=some (.int .i64 t))(i:w.cell? (b,o+3)=some (.slice a 0 c)):
  Calls Tryz.prog 62 #[(b,o)] w fun e d =>e=.returned (.tuple #[.int .i64 (f-1),t])∧Below w w d :=by
 have k:IntKind.i64.wrap (f-1)=f-1:=mH _ O;go_enter Tryz.func62,Tryz.ntmps62;go_wp2_with fail;go_quiet (fail);go_wp2;go_ret2;exact⟨rfl,aD (lS _ _) _⟩
theorem yP(b o n a d c:Nat)(ix tm kd:Int)(g:Option Addr)(l h:Nat)(E:n<=4611686018427387904)(w:World)(r:w.cell? (b,o+3)=some (.slice (a,d) (n+1) c))(e0:w.cell? (a,d+n*4)=some (.int .i64 ix))(s:w.cell? (a,d+n*4+1)=some (.int .i64 tm))(u:w.cell? (a,d+n*4+2)=some (.int .i64 kd))(v:w.cell? (a,d+n*4+3)=some (.slice g l h))(C:b<w)(m:a<w):
  Calls Tryz.prog 62 #[(b,o)] w fun e D =>e=.returned (.tuple #[ix,tm])∧Below w w D :=by
 have F:IntKind.i64.wrap (((n+1:Nat):Int)-1)=(n:Int):=by rw[mH _ O];omega
 have H:(0:Int)<=(n:Int):=O;have I:IntKind.i64.wrap (n:Int)=(n:Int):=mH _ O;have G:(0:Int)<=(n:Int)∧(n:Int)<(n:Int)+1:=O;go_enter Tryz.func62,Tryz.ntmps62;go_wp2_with fail;have y:∀X:Obj,((w.alloc X).drew).cell? (b,o+3)=some (.slice (a,d) (n+1) c)∧((w.alloc X).drew).cell? (a,d+n*4)=some (.int .i64 ix)∧((w.alloc X).drew).cell? (a,d+n*4+1)=some (.int .i64 tm)∧((w.alloc X).drew).cell? (a,d+n*4+2)=some (.int .i64 kd)∧((w.alloc X).drew).cell? (a,d+n*4+3)=some (.slice g l h)∧True:=fun X=>by
  have i:Below w w (w.alloc X):=(lS _ w).alloc (lR _) _;exact⟨(i.cell (p:=(b,o+3)) C).trans r,(i.cell (p:=(a,d+n*4)) m).trans e0,(i.cell (p:=(a,d+n*4+1)) m).trans s,(i.cell (p:=(a,d+n*4+2)) m).trans u,(i.cell (p:=(a,d+n*4+3)) m).trans v,trivial⟩
 have z:=J y;clear y;refine bW 13 rfl (S:=fun W=>W.cell? ⟨b,o+3,none⟩=some (.slice (some ⟨a,d,none⟩) (n+1) c)∧W.cell? ⟨a,d+n*4,none⟩=some (.int .i64 ix)∧W.cell? ⟨a,d+n*4+1,none⟩=some (.int .i64 tm)∧W.cell? ⟨a,d+n*4+2,none⟩=some (.int .i64 kd)∧W.cell? ⟨a,d+n*4+3,none⟩=some (.slice g l h)∧True) ⟨r,e0,s,u,v,trivial⟩ (fun f=>?_);refine sE 0 (k:=sE 1 (k:=sE 2 (k:=sE 3 (k:=sE 4 (k:=sE 5 (k:=sE 6 (k:=sE 7 (k:=sE 8 (k:=sE 9 (k:=sE 10 (k:=sE 11 (k:=?_))))))))))));simp only[zA,zB,zF,zG,zC,zD,zE];refine zW 12 (k:=fun K j=>?_);simp only[zA,zB];go_simp;refine j _ _ (z.o _) (fun f=>?_);clear j K;try simp only[zF,zG,zC,zD,zE]
 refine dI (t:=13) (by simp) (by kernel_rfl) (by kernel_rfl) (fun K j=>?_);simp only[zA,zB];go_simp;refine j _ _ ?_;clear j K f;have x:Below w w (w.alloc (.cells #[ix,tm,kd,.slice g l h] 65)).drew:=aD ((lS _ w).alloc (lR _) _) 1;obtain⟨A,q⟩:=eX ((w.alloc (.cells #[ix,tm,kd,.slice g l h] 65)).drew);have L:A.cell? (w,0)=some (.int .i64 ix):=by rw[q];exact(aS.new w 65 _).cell 0
 have M:A.cell? (w,1)=some (.int .i64 tm):=by rw[q];exact(aS.new w 65 _).cell 1
 rw[<-q] at x⊢;have B:=J x;clear q x r e0 s u v z;go_wp2_with fail;go_quiet (fail);go_wp2;go_ret2;exact⟨rfl,aD B.o _⟩
theorem aF0(b o n a d c:Nat)(m:Int)(h:n<=4611686018427387904)(w:World)(g:w.cell? (b,o+4)=some (.slice (a,d) (n+1) c))(e0:w.cell? (a,d+n)=some (.int .i64 m)):
  Calls Tryz.prog 56 #[(b,o)] w fun e f =>e=.returned m∧Below w w f :=by
 have i:IntKind.i64.wrap (((n+1:Nat):Int)-1)=(n:Int):=by rw[mH _ O];omega
 go_enter Tryz.func56,Tryz.ntmps56;go_wp2_with fail;go_quiet (fail);go_wp2;go_ret;exact⟨rfl,aD (lS _ _) _⟩
end
section
open Go.RowKit Go.Maps Oct
theorem aE4(n:Int)(h:n<=9223372036854775807):(nD n).length<=10:=by
 unfold nD;split;simp;exact dG _ O
theorem bF0(l:List UInt8):(nU l).length<=65545:=by
 unfold nU;split;simp;have:=dG l O;simp;omega
theorem zS(f t:Int)(s:f<=9223372036854775807)(h:I6 t)(w:World):
  Calls Tryz.prog 124 #[f,t] w fun e A =>∃v,e=.returned v∧Bs A w v (dN f t)∧Below w w A :=by
 have R:=aE4 f s;have S:=dG _ (jO _ h);have i:=J (bK2 f s w);have E:=J h;clear h;go_enter Tryz.func124,Tryz.ntmps124;go_wp2_with fail;refine i.o.mono ?_;rintro e Y ⟨L,rfl,p,d⟩;have K:=d.size;clear i;go_wp2_with fail;refine(qW t E.o _).mono ?_;rintro e N ⟨U,rfl,q,g⟩;obtain⟨C,F,rfl,Q,T,x⟩:=bF q;have k:=p.a1 g (lR _);have j:=d.trans (g.mono K);clear p d q g;go_wp2_with (at_builtin;go_must (refine nS (W:=w) rfl (.tmp 15) (.tmp 17) 34 rfl 5 (.int .u8 0) 1 Tryz.underlying34 bJ rfl L (cells (nD f)) rfl w.heap.size j (lR _) k N.heap.size C (enc (fold1 t)).length F _ rfl (aB _).symm x (fY _) (by rw[aB];omega) (by rw[aB];omega) ?_;intro M B a n));rw[<-bV] at a;obtain⟨X,b⟩:=eX (nD f++enc (fold1 t));have P:X.length<=100:=by rw[b,lT];omega
 rw[<-b] at a;have l:Bs B w M X:=a;obtain⟨D,G,rfl,_,_,y⟩:=bF l;have m:cM X=dN f t:=by rw[b];unfold dN dL;simp
 have z:=n.size;have c:=J (pM D X X G rfl B y O);rw[m] at c;clear a l y b m k j x;go_wp2_with fail;refine c.o.mono ?_;rintro e Z ⟨V,rfl,r,u⟩;have H:=Own.mono r z;have I:=n.trans (u.mono z);clear r u c;go_wp2;go_ret;exact⟨_,rfl,H,I⟩
theorem wY(ix t k:Int)(A:Option Addr)(l:List UInt8)(c:Nat)(G:I6 t)(F:I6 k)(hl:l.length<=65535)(w:World)(s:Rd w w A (cells l)):
  Calls Tryz.prog 125 #[.agg #[ix,t,k,.slice A l c]] w fun e w' =>∃v,e=.returned v∧Bs w' w v (aZ ⟨ix,t,k,l⟩)∧Below w w w' :=by
 have C1:=dG _ (jO _ G);have C2:=dG _ (jO _ F);have C3:=bF0 l;obtain⟨b,y⟩:=eX (w.alloc (.cells #[ix,t,k,.slice A l c] 65));have M:=bN y;have g:=kN y;have C:=g.c 1;have D:=g.c 2;have l9:=J M;have m9:=J g;have B1:=J y;have Q:=M.size;have p9:=g.lt;have HT:=J G;have HK:=J F;have T:=J s;clear G F s y M g;go_enter Tryz.func125,Tryz.ntmps125;go_upto_region 1 with fail
 rw[<-B1.o];obtain⟨f,P⟩:=eX w.heap.size;rw[<-P] at l9 m9 Q p9 C D T⊢;have t9:=J P;clear P;have s9:=J (l9.o.drew);have B9:b.drew.heap.size=b:=rfl;have V:b.drew.cell? (f,1)=some (.int .i64 t):=C;have Y:b.drew.cell? (f,2)=some (.int .i64 k):=D;have m6:=J (qW t HT.o b.drew);clear C D;refine wp_region_held_drew (S:=fun W=>W.cell? ⟨f,1,none⟩=some (.int .i64 t)∧W.cell? ⟨f,2,none⟩=some (.int .i64 k)∧True∧True) κ ⟨V,Y,trivial,trivial⟩ (fun a=>?_);refine zT 0 (k:=zT 1 (k:=zT 3 (k:=zT 4 (k:=?_))));simp only[zA,zB,zF,zG,zC,zD,zE];refine zV 2 (k:=fun K d=>?_);simp only[zA,zB];go_simp;refine m6.o.mono ?_;rintro e w1 ⟨v1,rfl,h1,u⟩;have C5:=u.size;have m3:=J (s9.o.trans (u.mono Q));have H1:=J h1;have m7:=J (qW k HK.o w1);have j:=aS.a1 (w:=b.drew) m9.o u p9;have Z:=j.c 1;have f2:=j.c 2;have L:=J j;clear m6 h1 u V Y j;refine d.out _ _ ⟨Z,f2,trivial,trivial⟩ (fun a=>?_);clear d K;try simp only[zF,zG,zC,zD,zE]
 refine zV 5 (k:=fun K d=>?_);simp only[zA,zB];go_simp;refine m7.o.mono ?_;rintro e w2 ⟨v2,rfl,h2,h⟩;obtain⟨A2,d2,rfl,_,_,p6⟩:=bF h2;have C6:=h.size;have i:=J (H1.o.a1 h (lR _));have q8:=J (m3.o.trans (h.mono (ω1 m3.o.size)));have m8:=J p6;have m:=L.o.a1 h L.o.lt;have g1:=m.c 1;have g2:=m.c 2;have n5:=J m;clear m7 h2 h p6 Z f2 m;refine d.out _ _ ⟨g1,g2,trivial,trivial⟩ (fun a=>?_);clear d K;try simp only[zF,zG,zC,zD,zE]
 refine zV 6 (k:=fun K d=>?_);simp only[zA,zB];rw[if_pos (by rfl)];refine fS (.tmp 10) (.tmp 13) 34 rfl b.drew 5 (.int .u8 0) 1 Tryz.underlying34 bJ rfl v1 (cells (enc (fold1 t))) rfl i.o w2 A2 (enc (fold1 k)).length d2 _ rfl (aB _).symm m8.o (fY _) (by rw[aB];unfold maxLen;omega) (by rw[aB];omega) (by rw[B9];omega) ?_;intro v3 z E x B8;rw[<-bV] at E;have m5:=J (q8.o.grown x O (fun r s=>ω1 ((i.o.lt r s).1)));have n9:Bs z b v3 (dL [t,k]):=by simpa[dL] using E
 have n:=n5.o.grown x (fun e=>ω1 ((i.o.lt f e.symm).1));have i1:=n.c 1;have i2:=n.c 2;have i3:=n.c 3;have H3:=J n9;have C7:=x.size;clear E x B8 n9 n g1 g2 i m8 n5 L;refine d.out _ _ ⟨i1,i2,trivial,trivial⟩ (fun a=>?_);clear d K;try simp only[zF,zG,zC,zD,zE]
 refine zT 7 (k:=?_);simp only[zA,zB,zF,zG,zC,zD,zE];refine wpAnyH_done κ ?_ _;clear a i1 i2;have C0:=kM c (T.o.a1 m5.o);have I:=J (bK0 (bU l) (by rw[fL];omega) z);rw[uG] at I;go_wp2_with fail;refine I.o.mono ?_;rintro e w4 ⟨v4,rfl,h4,N⟩;obtain⟨A4,d4,rfl,_,_,p7⟩:=bF h4;have n8:=H3.o.a1 N (lR _);have U:Below b z w4:=N.mono O;have hn:(dL [t,k]).length<=20:=by unfold dL;simp;omega
 clear h4 N I C0 i3;go_wp2_with (at_builtin;go_must (refine nS (W:=z) rfl (.tmp 23) (.tmp 24) 34 rfl 5 (.int .u8 0) 1 Tryz.underlying34 bJ rfl v3 (cells (dL [t,k])) rfl b.heap.size U O n8 w4.heap.size A4 (nU l).length d4 _ rfl (aB _).symm p7 (fY _) (by rw[aB];omega) (by rw[aB];omega) ?_;intro v5 R p p4));rw[<-bV] at p;obtain⟨X,q⟩:=eX (dL [t,k]++nU l);have C4:X.length<=66000:=by rw[q,lT];omega
 rw[<-q] at p;have o8:Bs R b v5 X:=p;obtain⟨A5,d5,rfl,_,_,p8⟩:=bF o8;have o9:cM X=aZ ⟨ix,t,k,l⟩:=by rw[q];rfl
 have B:=J (pM A5 X X d5 rfl R p8 O);rw[o9] at B;have H:=J (m5.o.trans (p4.mono Q));clear p o8 p8 q o9 n8 U p7 p4;go_wp2_with fail;refine B.o.mono ?_;rintro e w6 ⟨v6,rfl,h6,p5⟩;obtain rfl:f=w:=t9.o;have B6:=Own.mono h6 (show w.heap.size<=R from H.o.size);have B7:=H.o.trans (p5.mono H.o.size);clear h6 p5 B;go_wp2;go_ret;exact⟨_,rfl,B6,B7⟩
end
section
open Go.RowKit Oct
theorem aX7(z:List Int)(n:Int):dL (z++[n])=dL z++enc (fold1 n):=by simp[dL]
theorem fK{z:List Int}(a:∀n∈z,I6 n):(dL z).length<=10*z:=by
 induction z with
 |nil=>simp[dL]
 |cons x r ih=>
  have b:=ih fun n c=>a n (List.mem_cons_of_mem _ c)
  have d:=dG (fold1 x) (jO x (a x (List.mem_cons_self ..)));unfold dL at b⊢;simp only[mG,List.flatten_cons,lT,mC];omega
theorem uW(A:Option Addr)(z:List Int)(c:Nat)(w:World)(u:Rd w w A (z.map (Value.int .i64)))(x:∀n∈z,I6 n)(hl:z.length<=1000000):
  Calls Tryz.prog 68 #[.slice A z c] w fun e H =>∃v,e=.returned v∧Bs H w v (dL z)∧Below w w H :=by
 have L:=J u;have p:=J x;clear u x;go_enter Tryz.func68,Tryz.ntmps68;go_wp2_with fail;go_loopw [3,5,8] (fun v _ i wr=>∃k:Nat,k<=z∧i=.int .i64 k∧Hq (Bs wr w v (dL (z.take k)))∧Hq (Below w w wr)) (fun _ _ i _=>z.length-(intOf i).toNat)
 case atStart=>exact⟨0,O,rfl,J (by show Own _ _ _ _ _;exact Own.nil _ _ _),J (lS _ _)⟩
 obtain⟨k,hk,rfl,d,f⟩:=hrel;have m8:=f.o.size;obtain⟨Av,cv,rfl,Q,m3,_⟩:=bF d.o;by_cases a:k<z;rotate_left
 ·have B:z.take k=z:=List.take_of_length_le O
  rw[B] at d;rw[B];go_wp2;go_ret;exact⟨_,rfl,d.o,f.o⟩
 obtain⟨ad,rfl,m9,M⟩:=iR (L.o.a1 f.o) a;have b:=p.o _ (lX a);have g:Hq (dL (z.take (k+1))=dL (z.take k)++enc (fold1 z[k])):=J (by rw[List.take_succ_eq_append_getElem a,aX7]);have C:=fK (z:=z.take k) fun n b=>p.o n (mO b)
 rw[lV] at C;generalize z[k]=nk at M b g;have h:=J (bX5 nk b wr);have Y:=dG (fold1 nk) (jO nk b);obtain⟨P,t⟩:=eX (dL (z.take k));rw[<-t] at d g C Q⊢;obtain⟨E,s⟩:=eX (enc (fold1 nk));rw[<-s] at g h Y;have m7:(k:Int)<(z:Int):=O;clear t s b;go_wp2_with fail;refine h.o.mono ?_;rintro e w2 ⟨v2,rfl,F,l⟩;obtain⟨K,N,rfl,_,_,D⟩:=bF F;have V:=J D;have r:=J (Own.a1 d.o l (lR _));have q:=J (f.o.trans (l.mono m8));have n5:=q.o.size;clear F l D h;go_wp2_with (at_builtin;go_must (refine aP rfl (.tmp 12) (.tmp 14) 34 rfl w.heap.size 5 (.int .u8 0) 1 Tryz.underlying34 bJ rfl _ _ rfl r.o w2.heap.size K E.length N (cells E) rfl (aB _).symm V.o (cU _) (by simp only[aB];unfold maxLen;omega) (by simp only[aB];omega) O ?_;intro v3 I G y Z));have m:Bs I w v3 (P++E):=(by unfold Bs;rw[bV];exact G);obtain⟨T,X,R,_⟩:=bF m;subst R;have W:=J (show Bs I w (.slice T (P++E).length X) (dL (z.take (k+1))) by rw[g.o];exact m);have U:=J (q.o.grown y O (fun j S=>(Own.lt r.o j S).1));clear G y Z m;go_wp2;go_roundw
 case rel=>exact⟨k+1,O,by go_num,W,U⟩
 case measure=>simp[intOf];omega
theorem wD(A:Option Addr)(ps:List dK)(n c:Nat)(m:n=ps)(w:World)(q:Rd w w A (ps.map dK.val))(p:xI w w ps)(y:ps.length<=140737488351232)(k:(bR ps).length<=140737488351232)(x:ps<=c):
  Calls Tryz.prog 67 #[.slice A n c] w fun e s =>∃v,e=.returned v∧eR s w v (cM (bR ps))∧Below w w s :=by
 have g:=J (yQ A ps n c m w q p y k x);clear q p m;go_enter Tryz.func67,Tryz.ntmps67;go_wp2_with fail;refine g.o.mono ?_;rintro e z ⟨v,rfl,l,j⟩;obtain⟨t,u,rfl,D,E,i⟩:=l.b3;have d:=J (bE2 t (bR ps) _ u rfl z i k);have b:=J j;clear l j i g;go_wp2_with fail;refine d.o.mono ?_;rintro e G ⟨F,rfl,a,h⟩;obtain⟨B,C,rfl,_,_,_⟩:=a.b3;have r:=b.o.size;have f:=J (And.intro (a.mono r) (b.o.trans (h.mono r)));clear a h d;go_wp2;go_ret;exact⟨_,rfl,f.o.1,f.o.2⟩
theorem wH(c d:Option Addr)(a b:List UInt8)(f g:Nat)(w:World)(j:Rd w w c (cells a))(k:Rd w w d (cells b))(r:a.length<=70000000)(s:b.length<=70000000):
  Calls Tryz.prog 67 #[.slice (w,0) 2 2] (w.alloc (.cells #[.slice c a f,.slice d b g] 34)) fun e l =>∃v,e=.returned v∧eR l w v (cM (a++b))∧Below w w l :=by
 have i:=bA w (.cells [dK.val ⟨c,a,f⟩,dK.val ⟨d,b,g⟩].toArray 34);have q:Rd (w.alloc (.cells [dK.val ⟨c,a,f⟩,dK.val ⟨d,b,g⟩].toArray 34)) (w.alloc (.cells [dK.val ⟨c,a,f⟩,dK.val ⟨d,b,g⟩].toArray 34)).heap.size (w,0) ([⟨c,a,f⟩,⟨d,b,g⟩].map dK.val):=(cS w 34 [dK.val ⟨c,a,f⟩,dK.val ⟨d,b,g⟩]).more σ;have o:xI (w.alloc (.cells [dK.val ⟨c,a,f⟩,dK.val ⟨d,b,g⟩].toArray 34)) (w.alloc (.cells [dK.val ⟨c,a,f⟩,dK.val ⟨d,b,g⟩].toArray 34)).heap.size [⟨c,a,f⟩,⟨d,b,g⟩]:=fun p n=>by
  simp only[List.mem_cons,List.not_mem_nil,or_false] at n;rcases n with rfl|rfl
  exact⟨(j.a1 i).more i.size,by show a.length<=_;omega⟩;exact⟨(k.a1 i).more i.size,by show b.length<=_;omega⟩
 have m:bR [⟨c,a,f⟩,⟨d,b,g⟩]=a++b:=by simp[bR]
 have h:=wD (w,0) [⟨c,a,f⟩,⟨d,b,g⟩] 2 2 rfl _ q o σ (by rw[m,lT];omega) σ;rw[m] at h;exact h.mono fun e l ⟨v,j,k,h3⟩=>⟨v,j,k.mono σ,i.trans (h3.mono σ)⟩
theorem jI(b o:Nat)(k:Int)(a:I6 k)(w:World)(j:w.cell? (b,o)=some (.int .i64 k))(h:aM0 w):
  Calls Tryz.prog 52 #[(b,o)] w fun e c =>e=.returned (.string (bU (aE k)))∧Below w w c :=by
 have f:=J (bU0 k a w h);have i:(bU (Lib.itoa k)).size<=21:=by
  have:=Lib.itoa_length_le k a.1 a.2;show(Lib.itoa k).toArray.size<=21
  simpa using this
 go_enter Tryz.func52,Tryz.ntmps52;go_wp2_with fail;refine f.o.mono ?_;rintro e c ⟨rfl,g⟩;have d:=J g;go_wp2;go_ret;refine⟨?_,d.o⟩;have e:(⟨#[106]⟩:ByteArray)++bU (Lib.itoa k)=bU (aE k):=by
  apply WideShapes.bytes_inj;simp[bU,aE]
 rw[<-e];rfl
theorem aE9(b o:Nat)(f t:Int)(D:f<=9223372036854775807)(P:I6 t)(w:World)(T:w.cell? (b,o+1)=some (.int .i64 f))(k:w.cell? (b,o+2)=some (.int .i64 t))(C:b<w):
  Calls Tryz.prog 63 #[(b,o)] w fun e r =>∃v,e=.returned v∧eR r w v (dN f t)∧Below w w r :=by
 have A:=J (bU5 f D w);have F:=J k;have l:=J P;go_enter Tryz.func63,Tryz.ntmps63;go_wp2_with fail;refine A.o.mono ?_;rintro e a ⟨v1,rfl,q,c⟩;obtain⟨u,K,rfl,X,Y,Z⟩:=bF q;have N:=c.size;have k:=(c.cell (p:=(b,o+2)) C).trans F.o;have g:=bA a (.cells #[t] 3);have y:=J (uW (a,0) [t] 1 (a.alloc (.cells #[t] 3)) ((cS a 3 [t]).more σ) (by intro n h;obtain rfl:=lY.1 h;exact l.o) σ);have I:=J (Own.a1 q g (lR _));have B:=J (c.trans (g.mono N));have m6:=g.size;have l9:(nD f).length<=10:=by
  unfold nD;split;simp;exact dG _ O
 go_wp2_with fail;refine y.o.mono ?_;rintro e s ⟨v2,rfl,Q,d⟩;obtain⟨x,L,rfl,V,W,G⟩:=bF Q;have m5:=d.size;obtain⟨_,_,i,q2,q3,R⟩:=bF (Own.a1 I.o d (lR _));injection i with i _ q1'
 subst i q1';have m3:(dL [t]).length<=10:=fK (z:=[t]) (by intro n h;obtain rfl:=lY.1 h;exact l.o);have H:=J (wH u x (nD f) (dL [t]) K L s R G O O);have E:=J (B.o.trans (d.mono O));go_wp2_with fail;refine H.o.mono ?_;rintro e w3 ⟨v3,rfl,m,M⟩;obtain⟨S,U,rfl,_,_,_⟩:=m.b3;have j:=J (And.intro (m.mono (by omega:w.heap.size<=s)) (E.o.trans (M.mono O)));go_wp2;go_ret;exact⟨_,rfl,j.o.1,j.o.2⟩
theorem aW6(A:Option Addr)(q:cD)(c:Nat)(w:World)(t:Rd w w A (cells q.b))(H:q.b.length<=140737488351232)(B:I6 q.tm)(y:I6 q.kd):
  Calls Tryz.prog 65 #[.agg #[q.ix,q.tm,q.kd,.slice A q.b c]] w fun e R =>∃v,e=.returned v∧eR R w v (aZ q)∧Below w w R :=by
 obtain⟨X,d,a,l⟩:=q;simp only at t H B y⊢;obtain⟨w0,m⟩:=eX (w.alloc (.cells #[X,d,a,.slice A l c] 65));have u:=bN m;have h:=kN m;have m9:=h.lt;have n5:=kM c (t.a1 u);have r:=J (bU1 (bU l) (by rw[fL];exact H) w0);rw[uG] at r;have g:=J (And.intro B y);have m6:=J m;have Z:=J u;have m5:=J h;have G:=h.c 3;clear t B y m u h;go_enter Tryz.func65,Tryz.ntmps65;go_upto_region 1 with(fail)
 rw[<-m6.o];go_wp2_with fail;refine r.o.mono ?_;rintro e p ⟨v1,rfl,C,i⟩;obtain⟨T,m7,rfl,k1,k2,Y⟩:=bF C;have o8:=i.size;have s:=m5.o.a1 i m9;have V:=s.c 1;have W:=s.c 2;have k:=bA p (.cells #[d,a] 3);have F:=J (uW (p,0) [d,a] 2 (p.alloc (.cells #[d,a] 3)) ((cS p 3 [d,a]).more σ) (by
  intro n f;simp only[List.mem_cons,List.not_mem_nil,or_false] at f;rcases f with rfl|rfl
  exact g.o.1;exact g.o.2) σ)
 have M:=J (Own.a1 C k (lR _));have K:=J ((Z.o.trans (i.mono O)).trans (k.mono O));have p4:=k.size;have n8:(nU l).length<=65545:=by
  unfold nU;split;simp;have:=dG l O;rw[lT];omega
 clear C i k Y r G n5 s;go_wp2_with fail;refine F.o.mono ?_;rintro e S ⟨v2,rfl,P,j⟩;obtain⟨U,m8,rfl,j1,j2,I⟩:=bF P;have o9:=j.size;obtain⟨_,_,D,q2,q3,Q⟩:=bF (Own.a1 M.o j (lR _));injection D with D _ q1'
 subst D q1';have n9:(dL [d,a]).length<=20:=fK (z:=[d,a]) (by
  intro n f;simp only[List.mem_cons,List.not_mem_nil,or_false] at f;rcases f with rfl|rfl
  exact g.o.1;exact g.o.2)
 have L:=J (wH U T (dL [d,a]) (nU l) m8 m7 S I Q O O);have m3:=J (K.o.trans (j.mono O));clear P j I Q F M K V W;go_wp2_with fail;refine L.o.mono ?_;rintro e w3 ⟨v3,rfl,x,N⟩;obtain⟨A3,G,rfl,_,_,_⟩:=x.b3;have E:=J (And.intro (x.mono (by omega:w.heap.size<=S)) (m3.o.trans (N.mono O)));clear x N L;go_wp2;go_ret;exact⟨_,rfl,E.o.1,E.o.2⟩
end
section
open Go.RowKit Oct
def gW:Array Value->Nat->List Int->Array Value
 |cs,_,[]=>cs
 |cs,o,v::r=>gW (cs.setIfInBounds o v) (o+1) r
theorem wZ(v:Int):∀(l:List Int) (cs:Array Value) (o:Nat),gW cs o (l++[v])=(gW cs o l).setIfInBounds (o+l) v
 |[],cs,o=>by simp[gW]
 |x::r,cs,o=>by
  rw[List.cons_append,gW,wZ v r,gW,mC,show o+1+r=o+(r.length+1) by omega]
theorem bB0{n:Nat}{b r:List UInt8}{a:List Int}{k:Nat}(h:cI n b=(a++(cI (n-k) r).1,(cI (n-k) r).2))(f:k<n)(c:(aC maxU r).2.2=0)(d:¬bX (aC maxU r).1<0):
  cI n b=((a++[bX (aC maxU r).1])++(cI (n-(k+1)) (r.drop (aC maxU r).2.1)).1,(cI (n-(k+1)) (r.drop (aC maxU r).2.1)).2):=by
 rw[h,show n-k=(n-(k+1))+1 by omega,cI,if_neg (by rintro(e|e);exact e c;exact d e)];simp
theorem bA9{n:Nat}{b r:List UInt8}{a:List Int}{k:Nat}(h:cI n b=(a++(cI (n-k) r).1,(cI (n-k) r).2))(d:k<n)(c:(aC maxU r).2.2≠0∨bX (aC maxU r).1<0):(cI n b).2=none:=by
 rw[h,show n-k=(n-(k+1))+1 by omega,cI,if_pos c]
theorem uF:∀(l:List Int) (cs:Array Value) (o j:Nat),o+l<=j->(gW cs o l)[j]? =cs[j]?
 |[],cs,o,j,_=>rfl
 |x::r,cs,o,j,h=>by
  rw[mC] at h;rw[gW,uF r _ (o+1) j O,Array.getElem?_setIfInBounds_ne O]
theorem aI3{A:Option Addr}{lo cap G:Nat}(h:∀b,A=some b->b.block≠G):∀b,cutA A lo cap=some b->b.block≠G:=fun b c=>by
 unfold cutA at c;split at c;exact h b c;cases A with
 |none=>cases c
 |some a=>
  injection c with c
  rw[<-c,bK];exact h a rfl
theorem Rd.l8{w:World}{B G j:Nat}{A:Option Addr}{c:List Value}(h:Rd w B A c)(f:0<c.length->∀a,A=some a->a.block≠G)(u:Value):Rd (w.setCell (G,j) u).drew B A c:=fun d=>by
 obtain⟨a,e,b,g⟩:=h d;exact⟨a,e,b,fun i v k=>(mK (w:=w) (Below.heap_setCell _ _ _ _ (by rw[bK];exact f d a e))).trans (g i v k)⟩
theorem nV(A:Option Addr)(b:List UInt8)(c:Nat)(X:Option Addr)(n cp G o:Nat)(T:TypeId)(cs:Array Value)(w:World)(hr:Rd w w A (cells b))(hA:0<b.length->∀C,A=some C->C.block≠G)(B1:b<=c)(hb:b.length<=140737488351232)(hc:c<=9223372036854775807)
  (hp:Rd w w X ((List.range n).map fun i=>Value.pointer (some ⟨G,o+i,none⟩))) (n9:∀C,X=some C->C.block≠G) (hG:aS w G T cs) (hn:n<=2) (o9:∀i,i<n->∃u,cs[o+i]? =some u∧u.oneCell' =true):
  Calls Tryz.prog 104 #[.slice A b.length c,.slice X n cp] w fun e V =>∃v,e=.returned (.tuple #[v,.bool (cI n b).2.isSome])∧w.grownBy V (some G)∧(∃f,f.length<=n∧aS V G T (gW cs o f)∧∀r,(cI n b).2=some r->f=(cI n b).1∧f.length=n)∧
   (∃l B g,v=.slice l (B:List UInt8).length g∧B.length<=g∧g<=9223372036854775807∧Rd V V l (cells B)∧(cI n b).2.getD []=B):=by
 have HP:=J hp;have HG:=J hG;have p9:=J o9;have p8:=J n9;have HR:=J hr;have HA:=J hA;clear hp hG o9 n9 hr hA;go_enter Tryz.func104,Tryz.ntmps104;go_wp2_with fail;go_loopw [0,7,8,9,10,13] (fun bv _ _ _ _ i wr=>∃(k:Nat) (f:List Int) (r:List UInt8) (l:Option Addr) (g:Nat),k<=n∧i=.int .i64 k∧bv=.slice l r g∧r<=g∧g<=9223372036854775807∧r.length<=b∧Hq (Rd wr wr l (cells r))∧Hq (0<r.length->∀C,l=some C->C.block≠G)∧Hq (f=k)∧
  Hq (cI n b=(f++(cI (n-k) r).1,(cI (n-k) r).2))∧Hq (aS wr G T (gW cs o f))∧Hq (w.grownBy wr (some G))) (fun _ _ _ _ _ i _=>n-(intOf i).toNat)
 case atStart=>exact⟨0,[],b,A,c,O,rfl,rfl,B1,hc,lR _,HR,HA,J rfl,J (by rw[Nat.sub_zero];simp),HG,J (World.grownBy.refl _ _)⟩
 obtain⟨k,f,r,l,g,hk,rfl,rfl,p5,B7,C0,l5,l9,E,Z,H,R⟩:=hrel;by_cases z:k<n;rotate_left
 ·obtain rfl:k=n:=O
  have a9:(cI k b).2=some r∧(cI k b).1=f:=by
   rw[Z.o,Nat.sub_self];simp[cI]
  have m6:=J a9;have L:(cI k b).2.isSome=true:=by rw[a9.1];rfl
  have N:=J L;clear a9 L;go_wp2;go_ret2;exact⟨_,by rw[N.o];rfl,R.o,⟨f,by rw[E.o];omega,H.o,fun r' _=>⟨m6.o.2.symm,E.o⟩⟩,l,r,g,rfl,p5,B7,l5.o,by rw[m6.o.1];rfl⟩
 obtain⟨l6,t9,s9,U⟩:=iR HP.o (show k<(List.range n).length by simpa using z);rw[List.getElem_range] at U;subst t9;have B6:wr.cell? (l6.add k)=some (.pointer (G,o+k)):=(mK (w:=w) (by rw[bK];exact R.o.block l6.block s9 (fun e=>by injection e with e;exact p8.o l6 rfl e))).trans U;have y:=J (aS6 l r g wr l5.o O);have B8:(k:Int)<(n:Int):=O;have p7:=cX maxU r;by_cases a:(aC maxU r).2.2≠0∨bX (aC maxU r).1<0
 ·have Y:=J (bA9 Z.o z a)
  obtain⟨er,l7⟩:=eX ((aC maxU r).2.2);obtain⟨m,D⟩:=eX (bX (aC maxU r).1);obtain⟨q,F⟩:=eX ((aC maxU r).2.1);rw[<-l7,<-D] at a;rw[<-l7,<-D,<-F] at y;have i6:∀d:World,Below wr.heap.size wr d->w.grownBy d (some G)∧(∃f,f.length<=n∧aS d G T (gW cs o f)∧∀r,(cI n b).2=some r->f=(cI n b).1∧f.length=n)∧(∃l B g,(Value.slice none 0 0)=.slice l (B:List UInt8).length g∧B.length<=g∧g<=9223372036854775807∧Rd d d.heap.size l (cells B)∧(cI n b).2.getD []=B):=fun d p=>
   ⟨aF R.o (aT p (some G)) (.inl rfl),⟨f,by rw[E.o];omega,H.o.a1 p H.o.lt,fun r' h' =>by rw[Y.o] at h';cases h'⟩,none,[],0,rfl,σ,σ,Rd.none_,by rw[Y.o];rfl⟩
  have m5:=J i6;have L:(cI n b).2.isSome=false:=by rw[Y.o];rfl
  have N:=J L;clear l7 D F U L i6;by_cases x:er=0
  ·have h1:m<0:=by
    rcases a with h|h
    exact absurd x h;exact h
   subst x;clear a;go_wp2_with fail;refine y.o.mono ?_;rintro e d ⟨rfl,p⟩;have Q:=J p;clear p y;go_wp2;go_ret2;exact⟨_,by rw[N.o];rfl,m5.o d Q.o⟩
  clear a;go_wp2_with fail;refine y.o.mono ?_;rintro e d ⟨rfl,p⟩;have Q:=J p;clear p y;go_wp2;go_ret2;exact⟨_,by rw[N.o];rfl,m5.o d Q.o⟩
 obtain⟨x,h1⟩:(aC maxU r).2.2=0∧¬bX (aC maxU r).1<0:=⟨by
  by_cases h:(aC maxU r).2.2=0;exact h;exact absurd (.inl h) a,fun h=>a (.inr h)⟩
 have n8:=J (bB0 Z.o z x h1);rw[x] at y;obtain⟨m,D⟩:=eX (bX (aC maxU r).1);obtain⟨q,F⟩:=eX ((aC maxU r).2.1);rw[<-D] at h1;rw[<-F] at p7;rw[<-D,<-F] at y n8;obtain⟨u,hu,C1⟩:=p9.o k z;have j6:(gW cs o f)[o+k]? =some u:=by rw[uF f cs o (o+k) (by rw[E.o];omega)];exact hu
 have q8:=J j6;clear a x D F U hu j6;go_wp2_with fail;refine y.o.mono ?_;rintro e d ⟨rfl,p⟩;have M:=H.o.a1 p H.o.lt;have g0:=(M.cell (o+k)).trans q8.o;have gf:d.frozen? (G,o+k)=false:=M.a6 _;have Q:=J M;have m9:=J ((l5.o.a1 p).more p.size);have m7:=J (aF R.o (aT p (some G)) (.inl rfl));have hcut:=fun W:World=>eE (P:=Tryz.prog) Tryz.underlying34 bJ l r g q p7 (q:Int) rfl W
 clear p y;go_wp2_with fail;refine bW 7 rfl (S:=fun _=>True) trivial (fun s=>?_);refine zU 0 (k:=zU 1 (k:=zU 2 (k:=zU 3 (k:=zU 4 (k:=zU 5 (k:=?_))))));simp only[zA,zB,zF,zG,zC,zD,zE];refine zW 6 (k:=fun K I=>?_);simp only[zA,zB];go_simp;refine I _ _ trivial (fun s=>?_);clear I K;try simp only[zF,zG,zC,zD,zE]
 refine dI (t:=7) (by simp) (by kernel_rfl) (by kernel_rfl) (fun K I=>?_);simp only[zA,zB];go_simp;refine I _ _ ?_;clear I K s;have p4:w.grownBy (d.setCell (G,o+k) m).drew (some G):=aF m7.o ⟨rfl,rfl,rfl,(aA d G (o+k) m).size,(aA d G (o+k) m).block⟩ (.inl rfl);have o8:aS (d.setCell (G,o+k) m).drew G T (gW cs o (f++[m])):=by
  rw[wZ,E.o];exact M.b8 (o+k) m
 have p6:Rd (d.setCell (G,o+k) m).drew (d.setCell (G,o+k) m).drew.heap.size (cutA l q g) (cells (r.drop q)):=by
  have hq:=Rd.j1 m9.o (k:=q) (cap:=g) (by rw[aB];omega) (by rw[aB];exact p5);have B9:=Rd.l8 (j:=o+k) hq (fun x=>aI3 (l9.o (by rw[lZ,aB] at x;omega))) m;exact(by simpa[cells,List.map_drop] using B9:Rd (d.setCell (G,o+k) m).drew d (cutA l q g) (cells (r.drop q))).more (aA d G (o+k) m).size
 have m8:=J p4;have m3:=J o8;have n5:=J p6;clear p4 o8 p6 M g0 gf m7 m9 hcut;generalize(d.setCell (G,o+k) m).drew=w3 at m8 m3 n5⊢;have l8:r-q=(r.drop q).length:=by rw[lZ]
 rw[l8];go_wp2;go_roundw
 case rel=>exact⟨k+1,f++[m],r.drop q,cutA l q g,g-q,O,by go_num,rfl,by rw[lZ];omega,O,by rw[lZ];omega,n5,J (fun x=>aI3 (l9.o (by rw[lZ] at x;omega))),J (by rw[lT,E.o];rfl),n8,m3,m8⟩
 case measure=>simp[intOf];omega
end
section
open Go.RowKit Oct
theorem bA8{p:List UInt8}(h:(aC maxI p).2.2≠0∨(aC maxI p).1<1∨((aC maxI p).1:Int)=bL):gF p=none:=by
 unfold gF;rw[if_pos h]
theorem bK8{p:List UInt8}(h:¬((aC maxI p).2.2≠0∨(aC maxI p).1<1∨((aC maxI p).1:Int)=bL)):gF p=match cI 1 (p.drop (aC maxI p).2.1) with
 |([t],some [])=>some ((aC maxI p).1,t)
 |_=>none:=by
 unfold gF;rw[if_neg h]
 all_goals rfl
theorem aA3(cs:Array Value)(i:Nat)(v:Value)(h:cs[i]? =some v):cs.setIfInBounds i v=cs:=by
 obtain⟨a,b⟩:=Array.getElem?_eq_some_iff.1 h;apply Array.ext_getElem?;intro j;rw[Array.getElem?_setIfInBounds];split;rename_i e;subst e;rw[h];rfl
theorem aC7(A:Option Addr)(b:List UInt8)(c G:Nat)(T:TypeId)(cs:Array Value)(H Q:Int)(w:World)(L:Rd w w.heap.size A (cells b))(hA:0<b.length->∀R,A=some R->R.block≠G)(p6:b.length<=c)(hb:b.length<=140737488351232)(hc:c<=9223372036854775807)
  (hG:aS w G T cs) (Z:cs[1]? =some (.int .i64 H)) (h2:cs[2]? =some (.int .i64 Q)):
  Calls Tryz.prog 145 #[.pointer (some ⟨G,0,none⟩),.slice A b.length c] w fun e w' =>e=.returned (.bool (gF b).isSome)∧w.grownBy w' (some G)∧∃f t,aS w' G T ((cs.setIfInBounds 2 (.int .i64 t)).setIfInBounds 1 (.int .i64 f))∧∀q,gF b=some q->(f,t)=q:=by
 have F:=J hG;have n:=J (lK A b c w L (by omega));have U:(cs.setIfInBounds 2 (.int .i64 Q)).setIfInBounds 1 (.int .i64 H)=cs:=by rw[aA3 cs 2 _ h2,aA3 cs 1 _ Z]
 have p4:=J U;have l7:=cX maxI b;have m9:(aC maxI b).1<=9223372036854775807:=iM maxI b;by_cases a:(aC maxI b).2.2≠0∨(aC maxI b).1<1∨((aC maxI b).1:Int)=bL
 ·have z:=J (bA8 a)
  obtain⟨X,l4⟩:∃X,X=(aC maxI b).2.2:=⟨_,rfl⟩
  obtain⟨j,s⟩:∃j,j=(aC maxI b).1:=⟨_,rfl⟩
  obtain⟨g,B⟩:∃g,g=(aC maxI b).2.1:=⟨_,rfl⟩
  rw[<-l4,<-s] at a;rw[<-l4,<-s,<-B] at n;rw[<-s] at m9;have Y:∀d:World,Below w.heap.size w d->w.grownBy d (some G)∧∃f t,aS d G T ((cs.setIfInBounds 2 (.int .i64 t)).setIfInBounds 1 (.int .i64 f))∧∀q,gF b=some q->(f,t)=q:=fun d m=>
   ⟨aT m (some G),H,Q,by rw[p4.o];exact F.o.a1 m F.o.lt,fun q h' =>by rw[z.o] at h';cases h'⟩
  rw[z.o] at Y⊢;have l9:=J Y;clear l4 s B l7 Y L hA U hG;unfold bL at a;by_cases e0:X=0
  ·subst e0
   by_cases V:j<1;obtain rfl:j=0:=by omega
   rotate_left;obtain rfl:j=9223372036854775807:=by
    rcases a with h|h|h
    exact absurd rfl h;exact absurd h V;omega
   all_goals
    clear a;go_enter Tryz.func145,Tryz.ntmps145;go_wp2_with fail;refine n.o.mono ?_;rintro e d ⟨rfl,m⟩;have p:=J m;clear m n;go_wp2_with fail;go_ret;exact⟨rfl,l9.o d p.o⟩
  clear a;go_enter Tryz.func145,Tryz.ntmps145;go_wp2_with fail;refine n.o.mono ?_;rintro e d ⟨rfl,m⟩;have p:=J m;clear m n;go_wp2_with fail;go_ret;exact⟨rfl,l9.o d p.o⟩
 have z:=J (bK8 a);have I:(aC maxI b).2.2=0:=by
  by_cases h:(aC maxI b).2.2=0;exact h;exact absurd (.inl h) a
 have p7:¬(aC maxI b).1<1:=fun h=>a (.inr (.inl h))
 have n5:¬((aC maxI b).1:Int)=bL:=fun h=>a (.inr (.inr h))
 unfold bL at n5;rw[I] at n;obtain⟨j,s⟩:∃j,j=(aC maxI b).1:=⟨_,rfl⟩
 obtain⟨g,B⟩:∃g,g=(aC maxI b).2.1:=⟨_,rfl⟩
 rw[<-s,<-B] at n z;rw[<-s] at m9 p7 n5;rw[<-B] at l7;have HR:=J L;have HA:=J hA;clear a I s B L hA U hG;have t9:decide ((j:Int)<1)=false:=by simp;omega
 have B1:((j:Int)==9223372036854775807)=false:=by simp;omega
 have j9:=J (And.intro Z h2);clear Z h2;go_enter Tryz.func145,Tryz.ntmps145;go_wp2_with fail;refine n.o.mono ?_;rintro e d ⟨rfl,m⟩;have p:=J m;clear m n;have hW:d.grownBy (d.alloc (.cells [Value.pointer (some ⟨G,2,none⟩)].toArray 155)).drew (some G):=aT (aD ((lS _ d).alloc (lR _) _) 1) (some G);have N:Below d.heap.size d (d.alloc (.cells [Value.pointer (some ⟨G,2,none⟩)].toArray 155)).drew:=aD ((lS _ d).alloc (lR _) _) 1;have n8:=p.o.size;have p5:=F.o.lt;have m3:Hq (Calls Tryz.prog 104 #[.slice (cutA A g c) (b.length-g) (c-g),.slice (some ⟨d.heap.size,0,none⟩) 1 1] (d.alloc (.cells [Value.pointer (some ⟨G,2,none⟩)].toArray 155)).drew _):=J (by
  have hq:=Rd.j1 (HR.o.a1 p.o) (k:=g) (cap:=c) (by rw[aB];omega) (by rw[aB];exact p6);have p8:Rd d w.heap.size (cutA A g c) (cells (b.drop g)):=by simpa[cells,List.map_drop] using hq
  have:=nV (cutA A g c) (b.drop g) (c-g) (some ⟨d.heap.size,0,none⟩) 1 1 G 2 T cs (d.alloc (.cells [Value.pointer (some ⟨G,2,none⟩)].toArray 155)).drew ((p8.more n8).a1 N|>.more N.size) (fun I=>aI3 (HA.o (by rw[lZ] at I;omega))) (by rw[lZ];omega) (by rw[lZ];omega) (by omega)
   ((cS d 155 [Value.pointer (some ⟨G,2,none⟩)]).more (by simp)) (fun R e=>by injection e with e;subst e;show d.heap.size≠G;omega) (F.o.a1 (p.o.trans (N.mono n8)) p5) (by omega) (fun i hi=>by
    obtain rfl:i=0:=by omega
    exact⟨_,j9.o.2,rfl⟩)
  rw[lZ] at this;exact this)
 have hcut:=fun W:World=>eE (P:=Tryz.prog) Tryz.underlying34 bJ A b.length c g l7 (g:Int) rfl W
 go_wp2_with fail;refine bW 12 rfl (S:=fun _=>True) trivial (fun l=>?_);refine zU 0 (k:=zU 1 (k:=zU 2 (k:=zU 3 (k:=zU 4 (k:=zU 5 (k:=?_))))));simp only[zA,zB,zF,zG,zC,zD,zE];refine zW 6 (k:=fun K u=>?_);simp only[zA,zB];go_simp;refine u _ _ trivial (fun l=>?_);clear u K;try simp only[zF,zG,zC,zD,zE]
 refine zW 7 (k:=fun K u=>?_);simp only[zA,zB];go_simp;refine m3.o.mono ?_;rintro e E ⟨v,rfl,m7,⟨i6,q8,D,l8⟩,Ar,rr,cr,rfl,B6,s9,p9,l5⟩;refine u _ _ trivial (fun l=>?_);clear u K;try simp only[zF,zG,zC,zD,zE]
 have m5:=aF (aF (aT p.o (some G)) hW (.inl rfl)) m7 (.inl rfl);obtain⟨t,n9,l6⟩:∃t,gW cs 2 i6=cs.setIfInBounds 2 (.int .i64 t)∧∀r,(cI 1 (b.drop g)).2=some r->(cI 1 (b.drop g)).1=[t]:=by
  match i6,q8 with
  |[],_=>exact⟨Q,by rw[gW,aA3 cs 2 _ j9.o.2],fun r h=>by have:=(l8 r h).2;simp at this⟩
  |[x],_=>exact⟨x,by rw[gW,gW],fun r h=>(l8 r h).1.symm⟩
 rw[n9] at D;have c1:E.cell? ⟨G,1,none⟩=some (.int .i64 H):=by
  refine(D.cell 1).trans ?_;rw[Array.getElem?_setIfInBounds_ne (by omega)];exact j9.o.1
 have cf:E.frozen? ⟨G,1,none⟩=false:=D.a6 _;have C:Hq ((gF b).isSome=((cI 1 (b.drop g)).2.isSome&&((rr.length:Int)==0))∧∀q,gF b=some q->((j:Int),t)=q):=J (by
  rw[z.o];rcases hN:cI 1 (b.drop g) with⟨N1,_|r⟩
  simp;rw[hN] at l6 l5;have V:N1=[t]:=l6 r rfl;subst V;obtain rfl:r=rr:=l5;cases r with
  |nil=>simp
  |cons x y=>simp;omega)
 have o9:=J m5;have o8:=J D;generalize(cI 1 (b.drop g)).2.isSome=okv at C⊢;clear m5 D n9 l6 l5 l8 m7 p9 hcut m3 hW N z;refine zU 8 (k:=zU 9 (k:=zU 10 (k:=zU 11 (k:=?_))));simp only[zA,zB,zF,zG,zC,zD,zE];refine dI (t:=12) (by simp) (by kernel_rfl) (by kernel_rfl) (fun K u=>?_);simp only[zA,zB];go_simp;refine u _ _ ?_;clear u K l;have m8:w.grownBy (E.setCell ⟨G,1,none⟩ (.int .i64 j)) (some G):=aF o9.o ⟨rfl,rfl,rfl,(aA E G 1 (.int .i64 j)).size,(aA E G 1 (.int .i64 j)).block⟩ (.inl rfl);have m6:=o8.o.b8 1 (.int .i64 j);have M:=J (And.intro m8 m6);clear m8 m6;cases okv
 ·go_wp2_with fail
  go_ret;exact⟨by rw[C.o.1];rfl,M.o.1,(j:Int),t,M.o.2,C.o.2⟩
 go_wp2_with fail;go_ret;exact⟨by rw[C.o.1];rfl,M.o.1,(j:Int),t,M.o.2,C.o.2⟩
end
section
open Go.RowKit Go.Maps Oct
theorem bH1{w:World}{base g m:Nat}{p:fT}{room:Int}{es:List (Nm×FE)}(h:aV w base g m p room es)(m7:∀q∈es,q.2.f.b.length<=1000000000){gj:Nat}{B u:Int}{X:Value}{bad:Int}(N:aS w gj 53 #[B,u,X,(g,0),bad])
  (hz:B=0∧u=0):
  Calls Tryz.prog 51 #[.pointer (some ⟨gj,0,none⟩)] w fun e L =>e=.returned (.bool (dQ (bH p room es)).isSome)∧w.grownBy L (some gj)∧∃t v,aS L gj 53 #[.int .i64 t,.int .i64 v,X,.pointer (some ⟨g,0,none⟩),.int .i64 bad]∧∀q,dQ (bH p room es)=some q->(t,v)=q:=by
 have H:=J (uQ h ⟨#[109,101,116,97]⟩ (by show 4<=_;omega) (fun q hq=>ω1 (m7 q hq)));obtain⟨n,Q⟩:=eX ((bH p room es).read fZ);have C4:n.1.length<=1000000000:=by
  rw[Q];unfold DkD.read;split;simp;split;simp;rename_i f hf;have:=bY hf;obtain⟨q,hq,e⟩:=mF.1 this;injection e with e1 e2
  rw[<-e2];exact m7 q hq
 change Hq (Calls _ _ _ _ fun e L =>∃v,e=.returned (.tuple #[v,.int .i64 ((bH p room es).read fZ).2])∧Bs L w v ((bH p room es).read fZ).1∧Below w w L) at H;have hM:dQ (bH p room es)=if n.2≠0 then some (0,0) else if(bO n.1).2.2≠0∨(bO n.1).2.1≠n.1.length then none else
  match cI 2 (bO n.1).1 with
  |([t,v],some [])=>some (t,v)
  |_=>none:=by
  unfold dQ;rw[<-Q]<;>(obtain⟨a,b⟩:=n;rfl)
 obtain⟨M,s9⟩:=eX (dQ (bH p room es));rw[<-s9] at hM⊢;rw[<-Q] at H;have F:=J hM;have HJ:=J N;have HZ:=J hz;have j3:=N.c 3;have C3:=N.lt;obtain⟨E,re⟩:=n;simp only at C4 F H;clear h m7 Q hM s9 N hz;go_enter Tryz.func51,Tryz.ntmps51;go_wp2_with fail;refine H.o.mono ?_;rintro e w2 ⟨v2,rfl,B8,R⟩;obtain⟨A2,c2,rfl,q1,q2,q3⟩:=bF B8;have C5:=R.size;have l5:=J R;have l7:=J (HJ.o.a1 R C3);have o9:=J (aP1 A2 E E c2 rfl w2 q3 q1 ⟨O,O⟩);clear H R B8 q3 j3;by_cases Z:re=0;rotate_left
 ·have l:M=some (0,0):=by rw[F.o,if_pos Z]
  subst l;clear F;go_wp2;go_ret;exact⟨rfl,aT l5.o _,B,u,l7.o,fun q h=>by injection h with h;rw[<-h,HZ.o.1,HZ.o.2]⟩
 subst Z;go_wp2_with fail;refine o9.o.mono ?_;rintro e d ⟨v3,rfl,W,m6⟩;obtain⟨s,V⟩:=eX ((bO E).1);obtain⟨pu,n5⟩:=eX ((bO E).2.1);obtain⟨pe,U⟩:=eX ((bO E).2.2);rw[<-V] at W;rw[<-n5,<-U];have m3:=F.o;rw[if_neg σ,<-V,<-n5,<-U] at m3;have m9:pe=0->s.length<=1048576:=by
  rw[V,U];exact fun h=>(kH h).1
 clear V n5 U o9 F;have C:=J m3;obtain⟨Y,c3,rfl,y1,y2,y3⟩:=bF W;have C1:Hq (∀A,Y=some A->w2<=A.block):=J (fun A e=>(Own.lt W A.block (by subst e;rfl)).1);have P:=J (l5.o.trans (m6.mono C5));have G:=J (l7.o.a1 m6 O);have p4:=J y3;clear m3 W m6 y3 l5 l7;by_cases h1:pe=0;rotate_left
 ·have l:M=none:=by rw[C.o,if_pos (.inl h1)]
  subst l;clear C;go_wp2;go_ret;exact⟨rfl,aT P.o _,B,u,G.o,fun q h=>by cases h⟩
 subst h1;by_cases h2:(pu:Int)=(E:Int);rotate_left
 ·have l:M=none:=by rw[C.o,if_pos (.inr (fun h=>h2 O))]
  subst l;clear C;have C6:=bne_iff_ne.2 h2;go_wp2;go_ret;exact⟨rfl,aT P.o _,B,u,G.o,fun q h=>by cases h⟩
 have m5:=C.o;rw[if_neg (by rintro(h|h);exact h rfl;exact h O)] at m5;have o8:=J m5;clear m5 C;have C7:=m9 rfl;have m8:=G.o.lt;have C2:gj<w2:=O;have p5:Hq (Calls Tryz.prog 104 #[.slice Y s c3,.slice (d,0) 2 2] (d.drew.alloc (.cells [Value.pointer (gj,0),Value.pointer (gj,1)].toArray 155)) _):=J (by
  have D:Below d d (d.drew.alloc (.cells [Value.pointer (gj,0),Value.pointer (gj,1)].toArray 155)):=((lS _ d).drew).alloc σ _;exact nV Y s c3 (d,0) 2 2 gj 0 53 _ (d.drew.alloc (.cells [Value.pointer (gj,0),Value.pointer (gj,1)].toArray 155)) ((p4.o.a1 D).more D.size) (fun Z A e=>ω1 (C1.o A e)) y1 O O
   ((cS d.drew 155 [Value.pointer (gj,0),Value.pointer (gj,1)]).more σ) (fun A e=>by injection e with e;subst e;show d≠gj;omega) (G.o.a1 D m8) O (fun i hi=>by
    rcases(by omega:i=0∨i=1) with rfl|rfl
    exact⟨_,rfl,rfl⟩;exact⟨_,rfl,rfl⟩))
 go_upto_region 7 with fail
 refine wp_region_held_drew (S:=fun _=>True) κ trivial (fun j=>?_);refine zT 0 (k:=zT 1 (k:=zT 2 (k:=zT 3 (k:=zT 4 (k:=zT 5 (k:=zT 6 (k:=zT 7 (k:=zT 8 (k:=?_)))))))));simp only[zA,zB,zF,zG,zC,zD,zE];refine zV 9 (k:=fun K I=>?_);simp only[zA,zB];go_simp;refine I.out _ _ trivial (fun j=>?_);clear I K;try simp only[zF,zG,zC,zD,zE]
 refine zV 10 (k:=fun K I=>?_);simp only[zA,zB];go_simp;refine p5.o.mono ?_;rintro e w4 ⟨v4,rfl,t9,⟨g9,C0,p9,B9⟩,Ar,rr,cr,rfl,z1,z2,z3,z4⟩;have n8:=J t9;have n9:=J p9;have p7:=J B9;have p8:=J z4;clear t9 p9 B9 z3 z4 p5 p4;refine I.out _ _ trivial (fun j=>?_);clear I K;try simp only[zF,zG,zC,zD,zE]
 refine zT 11 (k:=zT 12 (k:=zT 13 (k:=zT 14 (k:=zT 15 (k:=?_)))));simp only[zA,zB,zF,zG,zC,zD,zE];refine wpAnyH_done κ ?_ _;have D:Below d d (d.drew.alloc (.cells [Value.pointer (gj,0),Value.pointer (gj,1)].toArray 155)):=((lS _ d).drew).alloc σ _;have l6:=J (aF (aF (aT P.o (some gj)) (aT D (some gj)) (.inl rfl)) n8.o (.inl rfl));clear D n8 G P;have a9:∃t v,gW #[.int .i64 B,.int .i64 u,X,(g,0),.int .i64 bad] 0 g9=#[.int .i64 t,.int .i64 v,X,(g,0),.int .i64 bad]∧∀r,(cI 2 s).2=some r->(cI 2 s).1=[t,v]:=by
  match g9,C0,p7.o with
  |[],_,hv=>exact⟨B,u,rfl,fun r h=>by have:=(hv r h).2;simp at this⟩
  |[x],_,hv=>exact⟨x,u,rfl,fun r h=>by have:=(hv r h).2;simp at this⟩
  |[x,y],_,hv=>exact⟨x,y,rfl,fun r h=>(hv r h).1.symm⟩
 obtain⟨t,v,B6,B7⟩:=a9;have l9:=n9.o;rw[B6] at l9;have l8:=J l9;have p6:=J B7;clear n9 p7 B6 B7 l9 C0;have q8:M=match(cI 2 s).2 with
  |some []=>some (t,v)
  |_=>none:=by
  rw[o8.o];have h9:=p6.o;generalize cI 2 s=T at h9⊢;obtain⟨a,_|r⟩:=T;simp;obtain rfl:a=[t,v]:=h9 r rfl;cases r<;>rfl
 have z:=J q8;obtain⟨ob,B1⟩:=eX ((cI 2 s).2);rw[<-B1] at z p8⊢;clear q8 o8 B1 p6;cases ob with
 |none=>
  have l:M=none:=z.o;subst l;clear z;go_wp2;go_ret;exact⟨rfl,l6.o,t,v,l8.o,fun q h=>by cases h⟩
 |some r=>
  obtain rfl:r=rr:=p8.o;cases r with
  |nil=>
   have l:M=some (t,v):=z.o;subst l;clear z;go_wp2;go_ret;exact⟨rfl,l6.o,t,v,l8.o,fun q h=>by injection h⟩
  |cons x y=>
   have l:M=none:=z.o;subst l;clear z;go_wp2;go_ret;exact⟨rfl,l6.o,t,v,l8.o,fun q h=>by cases h⟩
end
section
open Go.ChangeShapes Go.WideShapes Go.ChangeAt Go.RowKit Go.Joins Go.Deep Oct
theorem iU{H:Type}(d:DataW H):1<=Rows.uptoBulk d:=by
 cases d with
 |lit l=>cases l<;>simp[Rows.uptoBulk]
 |nil=>simp[Rows.uptoBulk]
 |ptr d=>simp[Rows.uptoBulk]
 |slice elems spare=>simp[Rows.uptoBulk]
 |agg parts=>simp[Rows.uptoBulk]
 |iface t d=>simp[Rows.uptoBulk]
 |map entries=>simp[Rows.uptoBulk]
 |held h=>simp[Rows.uptoBulk]
theorem aM5{H:Type}:∀(l:List (DataW H)),Rows.uptoBulkAll l=(l.map Rows.uptoBulk).sum
 |[]=>rfl
 |x::r=>by rw[Rows.uptoBulkAll,aM5 r];rfl
theorem aM6{H:Type}(l:List (DataW H)):l<=Rows.uptoBulkAll l:=by
 induction l with
 |nil=>simp
 |cons x r ih=>have:=iU x;simp only[Rows.uptoBulkAll,mC];omega
theorem rZ{H:Type}{α:Type}(f:α->Nat)(D:Nat->DataW H):∀(n:Nat) (a:List α),a=n->(∀k (d:k<a.length),f a[k]<=Rows.uptoBulk (D k))->(a.map f).sum<=Rows.uptoBulkAll ((List.range n).map D)
 |0,a,hx,_=>by
  rw[mD hx];simp
 |n+1,a,hx,h=>by
  rcases mJ a with b|⟨r,x,b⟩
  rw[b] at hx;cases hx;rw[mA] at b;subst b;have e:r=n:=by simpa using hx
  have g:=rZ f D n r e (fun k d=>by
   have:=h k θ;rwa[List.getElem_append_left d] at this)
  have c:=h r σ;rw[List.getElem_append_right (lR _)] at c;simp only[Nat.sub_self,List.getElem_cons_zero] at c;rw[e] at c;rw[aM5] at g⊢;rw[List.range_succ,mE,mE,mE,List.sum_append,List.sum_append];simp only[mG,List.map_nil,List.sum_cons,List.sum_nil];omega
theorem aY3{w:World}{A:Option Addr}{d:List Value}(h:Rd w w A d):dM w (fun k=>k<w.heap.size) A d:=fun e=>by
 obtain⟨c,rfl,f,g⟩:=h e;have a:=g 0 d[0] (lW e);have i:c.add 0=c:=rfl;rw[i] at a;obtain⟨b,o,s⟩:=c;cases s with
 |none=>exact⟨b,o,rfl,f,f,fun j u l=>by rw[<-add_lit];exact g j u l⟩
 |some s=>
  exfalso;unfold World.cell? at a;split at a<;>simp at a
structure aT7(w:World)(A:Option Addr)(rs:List EntR)(c:Nat):Prop where
 rd:dM w (fun k=>k<w.heap.size) A (aG rs)
 h6:∀q∈rs,gQ w (fun k=>k<w.heap.size) q.v q.e.b
 num:∀q∈rs,(I6 q.e.ix)∧(I6 q.e.tm)∧(I6 q.e.kd)
 le:rs<=c
 cap:c*48<=140737488351232
def iZ(rs:List EntR):Nat:=(rs.map fun q=>q.e.b.length+5).sum
section
variable{H:Type}{enc:TypeId×Value->H}{P:Program}{W:World}{base:Nat}
theorem aG2{t e:TypeId}{k:IntKind}(h:P.underlying t=some (.slice e))(p:P.underlying e=some (.int k))(o:P.cellsOf e=1)
  {v:Value} {d:Nat} {y:DataW H×List MemPlace} (q:DataW.trod enc P W 0 (fun _=>true) true d t [v]=some y) (s:∀n∈y.1.weights P t,n<=reachBytes):
  ∃(A:Option Addr) (z:List Int) (c:Nat),v=.slice A z c∧Rd W W A (z.map (Value.int k))∧z<=c∧c*P.bytesOf e<=reachBytes∧(∀n∈z,(Lit.int k n).wf=true)∧z+1<=Rows.uptoBulk y.1:=by
 rcases open_ints h p o q with⟨a9,hx⟩|⟨a,l,c,zs,a9,_,hl,hm,hz,hx,a8,f8⟩
 simp at a9;subst a9;exact⟨none,[],0,rfl,Rd.none_,σ,σ,σ,iU _⟩;simp at a9;subst a9;subst hx;simp only[if_true] at hz;have f:(zs.take l).length=l:=by simp;omega
 refine⟨some a,zs.take l,c,by rw[f],?_,O,?_,fun n b=>f8 n (mO b),?_⟩;intro m;have g:0<zs.length:=by
  rw[lU,f] at m;omega
 refine⟨a,rfl,?_,fun j u i=>?_⟩;exact mI W a (by have:=a8 0 g;simpa[Addr.add] using this);rw[List.getElem?_map] at i;obtain⟨n,b,rfl⟩:=Option.map_eq_some_iff.1 i;rw[List.getElem?_take] at b;split at b;have r:=(List.getElem?_eq_some_iff.1 b).1;rw[a8 j r];simp[List.getD,b];cases b;have:=s (((lits (H:=H) k (zs.take l)).length+(lits (H:=H) k (zs.drop l)).length)*P.bytesOf e) (by simp[DataW.weights,h]);simp only[lits,lU,lV,lZ] at this;rw[show min l zs.length+(zs-l)=c by omega] at this;exact this;have g:=aM6 (lits (H:=H) k (zs.take l));have w:(lits (H:=H) k (zs.take l)).length=(zs.take l).length:=by simp[lits]
 simp only[Rows.uptoBulk];omega
theorem vQ{t e:TypeId}(o:P.underlying t=some (.slice e))(i:P.underlying e=some (.int .u8))(h:P.cellsOf e=1)(f:P.bytesOf e=1)
  {v:Value} {a:Nat} {y:DataW H×List MemPlace} (j:DataW.trod enc P W 0 (fun _=>true) true a t [v]=some y) (p:∀n∈y.1.weights P t,n<=reachBytes):
  ∃(A:Option Addr) (l:List UInt8) (c:Nat),v=.slice A l c∧cE8 W A l c∧l+1<=Rows.uptoBulk y.1:=by
 obtain⟨A,z,c,rfl,m,k,b,g,d⟩:=aG2 o i h j p;refine⟨A,z.map fun n=>UInt8.ofNat n.toNat,c,by rw[lU],⟨by rw[<-cB4 z g];exact m,by rw[lU];exact k,?_⟩,by rw[lU];exact d⟩;rw[f] at b;simp only[reachBytes] at b;omega
def cA8(w:World)(ad:Addr)(k:Nat)(q:EntR):Prop:=
 (∀j,(hj:j<4)->w.cell? ((ad.add (k*4)).add j)=(dU q)[j]?)∧gQ w (fun k=>k<w.heap.size) q.v q.e.b∧((I6 q.e.ix)∧(I6 q.e.tm)∧(I6 q.e.kd))
theorem bF1{t e q:TypeId}{h o r s:Field}(I:P.underlying t=some (.slice e))(S:P.underlying e=some (.struct #[h,o,r,s]))(z:oneCellFields P #[h,o,r,s]=true)(hC:P.cellsOf e=4)(be:P.bytesOf e=48)
  (u0:P.underlying h.type=some (.int .i64)) (u1:P.underlying o.type=some (.int .i64)) (u2:P.underlying r.type=some (.int .i64)) (u3:P.underlying s.type=some (.slice q)) (uq:P.underlying q=some (.int .u8)) (cq:P.cellsOf q=1) (bq:P.bytesOf q=1)
  {v:Value} {w:Nat} {y:DataW H×List MemPlace} (hf:DataW.trod enc P W 0 (fun _=>true) true w t [v]=some y) (U:∀n∈y.1.weights P t,n<=reachBytes):
  ∃(A:Option Addr) (rs:List EntR) (c:Nat),v=.slice A rs c∧aT7 W A rs c∧iZ rs+1<=Rows.uptoBulk y.1:=by
 rcases open_slice I hf with⟨d8,hx⟩|⟨a,l,c,m,n,D,Pl,d8,_,hl,hm,i6,hx,hi⟩
 simp at d8;subst d8;exact⟨none,[],0,rfl,⟨dM.nil,(fun q f=>by cases f),(fun q f=>by cases f),σ,σ⟩,iU _⟩;simp at d8;subst d8;simp only[if_true] at i6;subst i6;subst hx;have i4:m*48<=140737488351232:=by
  have:=U (((List.range l).length+(List.range (m-l)).length)*P.bytesOf e) (by simp[DataW.weights,I]);simp only[List.length_range,reachBytes,be] at this;rw[show l+(m-l)=m by omega] at this;omega
 obtain⟨rs,V,g⟩:=aJ4 (G:=fun k p=>cA8 W a k p∧p.e.b+5<=Rows.uptoBulk (D k)) l (fun k d=>by
  obtain⟨j8,R,l9⟩:=hi k O;rw[hC] at R;obtain⟨ys,n',_,L,l7,m5,E⟩:=DataW.trod_struct S l9;obtain⟨_,l5,C⟩:=World.cells?_some R;have j9:=fun x hx=>U x (by
   simp only[DataW.weights,I];exact List.mem_cons_of_mem _ (List.mem_append_left _ (pT (mF.2 ⟨k,List.mem_range.2 d,rfl⟩) hx)))
  simp only[Prod.mk.injEq] at L
  match j8,l5,ys,m5 with
  |[c0,c1,c2,c3],_,[y0,y1,y2,y3],_=>
   obtain⟨o0,k0⟩:=hone_of z 0 h rfl;obtain⟨o1,k1⟩:=hone_of z 1 o rfl;obtain⟨o2,k2⟩:=hone_of z 2 r rfl;obtain⟨o3,k3⟩:=hone_of z 3 s rfl;have X:=E 0 h rfl;have Y:=E 1 o rfl;have Z:=E 2 r rfl;have t3:=E 3 s rfl;simp[o0,k0] at X;simp[o1,k1] at Y;simp[o2,k2] at Z;simp[o3,k3] at t3;obtain⟨i,rfl,l6⟩:=oJ u0 X;obtain⟨tt,rfl,m3⟩:=oJ u1 Y;obtain⟨nn,rfl,l8⟩:=oJ u2 Z;obtain⟨B,M,N,rfl,F,m6⟩:=vQ u3 uq cq bq t3 (fun x hx=>j9 x (by
    rw[L.1];simp only[DataW.weights,S,mG,List.map_nil,DataW.weightsEach,mB];exact .inr (.inr (.inr (.inl hx)))))
   have g9:=F.le;have l4:=F.cap;refine⟨⟨.slice B M N,⟨i,tt,nn,M⟩⟩,⟨fun j T=>?_,⟨B,N,rfl,g9,O,aY3 F.rd⟩,l6,m3,l8⟩,?_⟩
   ·match j,T with
    |0,_=>exact C 0 O
    |1,_=>exact C 1 O
    |2,_=>exact C 2 O
    |3,_=>exact C 3 O
   rw[L.1];have b0:=iU y0.1;have b1:=iU y1.1;have b2:=iU y2.1;simp only[mG,List.map_nil,Rows.uptoBulk,Rows.uptoBulkAll];show M.length+5<=_
   omega)
 have g8:∀k j,(a.add (k*4)).add j=a.add (k*4+j):=fun k j=>by rw[Addr.add_add]
 refine⟨some a,rs,m,by rw[V],⟨aY3 (fun h0=>?_),fun q f=>?_,fun q f=>?_,O,i4⟩,?_⟩;rw[aN] at h0;have Q:=(g 0 O).1.1 0 O;refine⟨a,rfl,?_,fun j u K=>?_⟩;have h2:=mI W _ Q;rwa[bK,bK] at h2;have T:j<4*rs:=by
  have:=(List.getElem?_eq_some_iff.1 K).1;rwa[aN] at this
 have e:j=j/4*4+j %4:=O;rw[e,bM rs O O] at K;rw[e,<-g8,(g (j/4) O).1.1 (j %4) O,K];obtain⟨k,d,rfl⟩:=List.getElem_of_mem f;exact(g k d).1.2.1;obtain⟨k,d,rfl⟩:=List.getElem_of_mem f;exact(g k d).1.2.2;have Q:=rZ (fun q:EntR=>q.e.b.length+5) D l rs V (fun k d=>(g k d).2);unfold iZ;simp only[Rows.uptoBulk];omega
end
structure fC where
 o:Int
 n:Int
 m:Int
 Al:Option Addr
 rs:List EntR
 cl:Nat
 Ak:Option Addr
 kz:List Int
 ck:Nat
 nm:ByteArray
 Ab:Option Addr
 b:List UInt8
 cb:Nat
def fC.cs(a:fC):List Value:=[a.o,a.n,a.m,.slice a.Al a.rs a.cl,.slice a.Ak a.kz a.ck,.string a.nm,.slice a.Ab a.b a.cb]
structure fC.Ok(w:World)(a:fC):Prop where
 n:I6 a.n
 m:I6 a.m
 l:aT7 w a.Al a.rs a.cl
 k:bL8 w a.Ak a.kz a.ck
 nl:a.nm.size<=140737488351232
 b:cE8 w a.Ab a.b a.cb
def fC.wt(a:fC):Nat:=iZ a.rs+a.kz+a.nm.size+a.b+7
theorem bC5(a:List fC){k:Nat}(b:k<a){j:Nat}(c:j<7):(a.flatMap fC.cs)[k*7+j]? =(a[k].cs)[j]? :=by
 induction a generalizing k with
 |nil=>simp at b
 |cons x r ih=>
  rw[List.flatMap_cons];cases k with
  |zero=>rw[List.getElem?_append_left (by simp[fC.cs];omega)];simp
  |succ k=>
   rw[List.getElem?_append_right (by simp[fC.cs];omega)];have:(k+1)*7+j-x.cs=k*7+j:=by simp[fC.cs];omega
   rw[this,ih (by simpa using b)];rfl
theorem yV(a:List fC):(a.flatMap fC.cs).length=7*a:=by
 induction a with
 |nil=>rfl
 |cons x r ih=>rw[List.flatMap_cons,lT,ih];simp[fC.cs];omega
structure aH8(w:World)(A:Option Addr)(acs:List fC)(c:Nat):Prop where
 rd:dM w (fun k=>k<w.heap.size) A (acs.flatMap fC.cs)
 ok:∀a∈acs,a.Ok w
 le:acs.length<=4611686018427387904
def cA9(w:World)(ad:Addr)(k:Nat)(a:fC):Prop:=
 (∀j,(hj:j<7)->w.cell? ((ad.add (k*7)).add j)=a.cs[j]?)∧a.Ok w
section
variable{H:Type}{enc:TypeId×Value->H}{P:Program}{W:World}{base:Nat}
theorem aU1{e q r t:TypeId}{j k l d f g i s0 G I K:Field}(T:P.underlying e=some (.struct #[j,k,l,d,f,g,i]))(a8:oneCellFields P #[j,k,l,d,f,g,i]=true)
  (u0:P.underlying j.type=some (.int .i64)) (u1:P.underlying k.type=some (.int .i64)) (u2:P.underlying l.type=some (.int .i64))
  (u3:P.underlying d.type=some (.slice r)) (hs:P.underlying r=some (.struct #[s0,G,I,K])) (d8:oneCellFields P #[s0,G,I,K]=true) (F:P.cellsOf r=4) (D:P.bytesOf r=48)
  (v0:P.underlying s0.type=some (.int .i64)) (v1:P.underlying G.type=some (.int .i64)) (v2:P.underlying I.type=some (.int .i64)) (v3:P.underlying K.type=some (.slice q)) (uq:P.underlying q=some (.int .u8)) (N:P.cellsOf q=1) (M:P.bytesOf q=1)
  (u4:P.underlying f.type=some (.slice t)) (ue:P.underlying t=some (.int .i64)) (ce:P.cellsOf t=1) (E:P.bytesOf t=8) (u5:P.underlying g.type=some .string) (u6:P.underlying i.type=some (.slice q))
  {m:Nat} {b :List Value} {y:DataW H×List MemPlace} (l9:DataW.trod enc P W 0 (fun _=>true) true m e b =some y) (j6:b.length=7) (i6:∀x∈y.1.weights P e,x<=reachBytes):
  ∃a:fC,b =a.cs∧a.Ok W∧a.wt+1<=Rows.uptoBulk y.1:=by
 obtain⟨L,n',_,hy,l5,m3,c⟩:=DataW.trod_struct T l9;have U:y.1=.agg (L.map (·.1)):=congrArg Prod.fst hy;obtain⟨v,w,z,A,B,p,C,rfl⟩:∃v w z A B p C,L=[v,w,z,A,B,p,C]:=by
  match L,m3 with
  |[v,w,z,A,B,p,C],_=>exact⟨_,_,_,_,_,_,_,rfl⟩
 match b,j6 with
 |[c0,c1,c2,c3,c4,c5,c6],_=>
  obtain⟨o0,k0⟩:=hone_of a8 0 j rfl;obtain⟨o1,k1⟩:=hone_of a8 1 k rfl;obtain⟨o2,k2⟩:=hone_of a8 2 l rfl;obtain⟨o3,k3⟩:=hone_of a8 3 d rfl;obtain⟨o4,k4⟩:=hone_of a8 4 f rfl;obtain⟨o5,k5⟩:=hone_of a8 5 g rfl;obtain⟨o6,k6⟩:=hone_of a8 6 i rfl;have V:=c 0 j rfl;have X:=c 1 k rfl;have Y:=c 2 l rfl;have Z:=c 3 d rfl;have t4:=c 4 f rfl;have t5:=c 5 g rfl;have t6:=c 6 i rfl;simp[o0,k0] at V;simp[o1,k1] at X;simp[o2,k2] at Y;simp[o3,k3] at Z;simp[o4,k4] at t4;simp[o5,k5] at t5;simp[o6,k6] at t6;have u:∀x,(x∈A.1.weights P d.type∨x∈B.1.weights P f.type∨x∈p.1.weights P g.type∨x∈C.1.weights P i.type)->x<=reachBytes:=fun x hx=>i6 x (by
   rw[U];simp only[DataW.weights,T,mG,List.map_nil,DataW.weightsEach,mB];rcases hx with h|h|h|h
   exact .inr (.inr (.inr (.inl h)));exact .inr (.inr (.inr (.inr (.inl h))));exact .inr (.inr (.inr (.inr (.inr (.inl h)))));exact .inr (.inr (.inr (.inr (.inr (.inr (.inl h)))))))
  obtain⟨o,rfl,m8⟩:=oJ u0 V;obtain⟨nn,rfl,l7⟩:=oJ u1 X;obtain⟨mm,rfl,l6⟩:=oJ u2 Y;obtain⟨eA,rs,ec,rfl,hE,m6⟩:=bF1 u3 hs d8 F D v0 v1 v2 v3 uq N M Z (fun x hx=>u x (.inl hx));obtain⟨kA,kz,kc,rfl,j9,j8,Q,l4,m7⟩:=aG2 u4 ue ce t4 (fun x hx=>u x (.inr (.inl hx)));obtain⟨s,R,S,_⟩:=DataW.trod_string u5 t5;simp at R;subst R;have l8:s.size<=140737488351232:=by
   have:=u s.data.toList (.inr (.inr (.inl (by rw[S];simp[DataW.weights]))));simp only[reachBytes] at this;simpa using this
  obtain⟨bA,lb,bc,rfl,hB,m5⟩:=vQ u6 uq N M t6 (fun x hx=>u x (.inr (.inr (.inr hx))));refine⟨⟨o,nn,mm,eA,rs,ec,kA,kz,kc,s,bA,lb,bc⟩,rfl,⟨l7,l6,hE,⟨j9,j8,?_,fun n hn=>bd_i64 (l4 n hn)⟩,l8,hB⟩,?_⟩;rw[E] at Q;simp only[reachBytes] at Q;omega;have b0:=iU v.1;have b1:=iU w.1;have b2:=iU z.1;have b5:s.size+1<=Rows.uptoBulk p.1:=by rw[S];simp[Rows.uptoBulk]
  rw[U];simp only[mG,List.map_nil,Rows.uptoBulk,Rows.uptoBulkAll];unfold fC.wt;simp only;omega
theorem open_lacts{t e q r w:TypeId}{F I K L M N Q s0 U V X:Field}(S:P.underlying t=some (.slice e))(he:P.underlying e=some (.struct #[F,I,K,L,M,N,Q]))(g8:oneCellFields P #[F,I,K,L,M,N,Q]=true)(hC:P.cellsOf e=7)
  (u0:P.underlying F.type=some (.int .i64)) (u1:P.underlying I.type=some (.int .i64)) (u2:P.underlying K.type=some (.int .i64))
  (u3:P.underlying L.type=some (.slice r)) (i:P.underlying r=some (.struct #[s0,U,V,X])) (d8:oneCellFields P #[s0,U,V,X]=true) (E:P.cellsOf r=4) (B:P.bytesOf r=48)
  (v0:P.underlying s0.type=some (.int .i64)) (v1:P.underlying U.type=some (.int .i64)) (v2:P.underlying V.type=some (.int .i64)) (v3:P.underlying X.type=some (.slice q)) (uq:P.underlying q=some (.int .u8)) (cq:P.cellsOf q=1) (bq:P.bytesOf q=1)
  (u4:P.underlying M.type=some (.slice w)) (ue:P.underlying w=some (.int .i64)) (ce:P.cellsOf w=1) (C:P.bytesOf w=8) (u5:P.underlying N.type=some .string) (u6:P.underlying Q.type=some (.slice q))
  {v:Value} {d:DataW H} {p:List MemPlace} (hv:Value.okWide P W .any base t v) (h:DataW.Trod enc P W 0 (fun _=>true) true t v d p) (hw:∀n∈d.weights P t,n<=reachBytes) (j9:Rows.uptoBulk d<=1048576):
  ∃(A:Option Addr) (f:List fC) (c:Nat),v=.slice A f c∧aH8 W A f c∧(f.map fC.wt).sum+1<=Rows.uptoBulk d:=by
 obtain⟨A,b,cap,rfl⟩:=okWide_slice S hv;obtain⟨i6,hf⟩:=h;rcases open_slice S hf with⟨a9,hx⟩|⟨a,l,c,m,n,D,Pl,a9,_,hl,hm,g9,hx,hi⟩
 simp[Value.cells] at a9;obtain⟨rfl,rfl,rfl⟩:=a9;exact⟨none,[],0,rfl,⟨dM.nil,(fun s i=>by cases i),σ⟩,iU _⟩;simp[Value.cells] at a9;obtain⟨rfl,rfl,rfl⟩:=a9;simp only[if_true] at g9;subst g9;simp only[Prod.mk.injEq] at hx;obtain⟨rfl,rfl⟩:=hx;obtain⟨y,i4,o⟩:=aJ4 (G:=fun k s=>cA9 W a k s∧s.wt<=Rows.uptoBulk (D k)) b (fun k g=>by
  obtain⟨l7,Y,l6⟩:=hi k O;rw[hC] at Y;obtain⟨_,l4,j8⟩:=World.cells?_some Y;have j6:=fun x hx=>hw x (by
   simp only[DataW.weights,S];exact List.mem_cons_of_mem _ (List.mem_append_left _ (pT (mF.2 ⟨k,List.mem_range.2 g,rfl⟩) hx)))
  obtain⟨z,rfl,R,h3⟩:=aU1 he g8 u0 u1 u2 u3 i d8 E B v0 v1 v2 v3 uq cq bq u4 ue ce C u5 u6 l6 l4 j6;refine⟨z,⟨fun j Z=>?_,R⟩,?_⟩;rw[j8 j Z];show z.wt<=Rows.uptoBulk (D k)
  have h4:z.wt+1<=Rows.uptoBulk (D k):=h3;omega)
 have f8:∀k j,(a.add (k*7)).add j=a.add (k*7+j):=fun k j=>by rw[Addr.add_add]
 have l5:=rZ fC.wt D b y i4 (fun k g=>(o k g).2);have l8:Rows.uptoBulkAll ((List.range b).map D)+1<=1048576:=by
  simp only[Rows.uptoBulk] at j9;omega
 have f9:=aM6 ((List.range b).map D);rw[lU,List.length_range] at f9;refine⟨some a,y,m,by rw[i4],⟨aY3 (fun h0=>?_),fun s i=>?_,O⟩,?_⟩;rw[yV] at h0;have h1:=(o 0 O).1.1 0 O;refine⟨a,rfl,?_,fun j u T=>?_⟩;have R:=mI W _ h1;rwa[bK,bK] at R;have Z:j<7*y:=by
  have:=(List.getElem?_eq_some_iff.1 T).1;rwa[yV] at this
 have e:j=j/7*7+j %7:=O;rw[e,bC5 y O O] at T;rw[e,<-f8,(o (j/7) O).1.1 (j %7) O,T];obtain⟨k,g,rfl⟩:=List.getElem_of_mem i;exact(o k g).1.2;simp only[Rows.uptoBulk];omega
end
end
end Go.Proofs.YtgeofijddhflaaaGreatDoor
