/- Two rows of entries that are one, or not (pavaneref22.Same). Condition: they can be read. -/
import Derived.Test.YtgeofijddhflaaaGreatDoorQOpenJ
import Derived.Test.YtgeofijddhflaaaGreatDoorQRDiskSame
set_option maxHeartbeats 8000000
set_option maxRecDepth 100000
namespace Go.Proofs.YtgeofijddhflaaaGreatDoor
section
open Go.RowKit Oct
theorem aB2{w:World}{base:Nat}{e:TypeId}{size n:Nat}{v:Value}{xs:List Value}(h:w.ownsRow base e size v n xs):
  ∃A c,v=.slice A n c∧n<=c∧c<=9223372036854775807∧(0<n->∃g a8,A=some ⟨g,0,none⟩∧base<=g∧g<w.heap.size∧w.heap[g]? =some (.cells a8 e (0,0))∧a8.size=c*size∧∀j u,xs[j]? =some u->w.cell? ⟨g,j,none⟩=some u):=by
 rcases h.2 with⟨rfl,h0⟩|⟨g,cap,a8,rfl,hb,hg,hn,hm,hs,ht⟩
 ·exact⟨none,0,by rw[h0],by omega,by omega,fun hn=>by omega⟩
 refine⟨_,cap,rfl,hn,by unfold maxLen at hm;omega,fun hn=>⟨g,a8,rfl,hb,(Array.getElem?_eq_some_iff.1 hg).1,hg,hs,fun j u hj=>?_⟩⟩;rw[cell_of_row w g j a8 e (0,0) hg];rw[<-ht] at hj;rw[List.getElem?_take] at hj;split at hj
 ·simpa using hj
 cases hj
theorem jrow_type_ne{w:World}{b1 b2:Nat}{e1 e2:TypeId}{s1 s2 n1 n2:Nat}{u v:Value}{x1 x2:List Value}(h1:w.ownsRow b1 e1 s1 u n1 x1)(h2:w.ownsRow b2 e2 s2 v n2 x2)(he:e1≠e2):u.ownBlock=none∨u.ownBlock≠v.ownBlock:=by
 cases hu:u.ownBlock with
 |none=>exact .inl rfl
 |some q=>
  refine .inr fun e=>?_
  obtain⟨cs,hc⟩:=aD1 h1 hu;obtain⟨a9,a8⟩:=aD1 h2 e.symm;rw[hc] at a8;injection a8 with a8
  injection a8 with _ h _
  exact he h
def bC9(w:World)(B:Nat)(v:Value)(l:List UInt8):Prop:=∃(g c:Nat) (cs:Array Value) (fz:Nat×Nat),v=.slice (some ⟨g,0,none⟩) l.length c∧l.length<=c∧c<=9223372036854775807∧B<=g∧w.heap[g]? =some (.cells cs 5 fz)∧∀(j:Nat) (u:Value),(cells l)[j]? =some u->cs[j]? =some u
section
variable{w w' :World}{B:Nat}{v:Value}{l:List UInt8}
theorem bC9.lt(h:bC9 w B v l):∀q,v.ownBlock=some q->B<=q∧q<w.heap.size:=by
 obtain⟨g,c,cs,fz,rfl,h1,h2,h3,h4,h5⟩:=h;intro q hq;injection hq with hq
 subst hq;exact⟨h3,(Array.getElem?_eq_some_iff.1 h4).1⟩
theorem bC9.held(h:bC9 w B v l):∃g cs fz,v.ownBlock=some g∧w.heap[g]? =some (.cells cs 5 fz):=by
 obtain⟨g,c,cs,fz,rfl,h1,h2,h3,h4,h5⟩:=h;exact⟨g,cs,fz,rfl,h4⟩
theorem bC9.keep(h:bC9 w B v l)(hk:∀q,v.ownBlock=some q->w'.heap[q]? =w.heap[q]?):bC9 w' B v l:=by
 obtain⟨g,c,cs,fz,rfl,h1,h2,h3,h4,h5⟩:=h;exact⟨g,c,cs,fz,rfl,h1,h2,h3,(hk g rfl).trans h4,h5⟩
theorem bC9.mono{B' :Nat}(h:bC9 w B v l)(hB:B' <=B):bC9 w B' v l:=by
 obtain⟨g,c,cs,fz,rfl,h1,h2,h3,h4,h5⟩:=h;exact⟨g,c,cs,fz,rfl,h1,h2,by omega,h4,h5⟩
theorem bC9.datF{F:Nat->Prop}(h:bC9 w B v l)(hF:∀k,B<=k->k<w.heap.size->F k):bF9 w F v l:=by
 obtain⟨g,c,cs,fz,rfl,h1,h2,h3,h4,h5⟩:=h;have a8:=(Array.getElem?_eq_some_iff.1 h4).1;exact⟨_,c,rfl,h1,h2,fun _=>⟨g,0,rfl,hF g h3 a8,a8,fun j u hu=>by
  rw[cell_of_row w g (0+j) cs _ fz h4,Nat.zero_add];exact h5 j u hu⟩⟩
end
theorem dF0(w:World)(o:Obj):(w.drew.alloc o).heap[w.heap.size]? =some o:=by
 show(w.heap.push o)[w.heap.size]? =some o
 simp
theorem bX5(w:World)(l:List UInt8)(hl:l.length<=9223372036854775807):∃v w',(convert 9 34 (.string (str l))).run Tryz.prog w=.ok v w' ∧bC9 w' w.heap.size v l∧Below w.heap.size w w' :=by
 have hs:(str l).size=l.length:=aK1 l;have a9:=grownCap_ge w (str l).size 0 5;have a8:=grownCap_le_maxLen w (str l).size 0 5 (by rw[hs];unfold maxLen;omega);refine⟨_,_,run_bytes_of_string w 9 34 5 (str l) Tryz.underlying9 Tryz.underlying34 Tryz.underlying5,?_,?_⟩
 ·rw[hs]
  rw[hs] at a9 a8;refine⟨w.heap.size,_,_,_,rfl,a9,by unfold maxLen at a8;omega,lR _,dF0 _ _,fun j u hu=>?_⟩;have hj:=(List.getElem?_eq_some_iff.1 hu).1;rw[aA1] at hj;rw[bytesRow_at _ _ _ (by simpa[str] using hj)];rw[<-hu];simp[cells,str,hj]
 exact(aA3 (lS _ w) 1).alloc (lR _) _
structure aY5(w:World)(G:Nat)(s:aC4)(rs:List aF2)(vl ve tv:Value):Prop where
 blk:Blk w G 106 #[.int .i64 s.k,.int .i64 s.first,.int .i64 s.term,vl,ve,tv]
 ents:w.ownsRow (G+1) 65 4 vl rs.length (aA7 rs)
 map:rs.map aF2.e=s.l
 dat:∀q∈rs,bC9 w (G+1) q.v q.e.b
 ends:Own w (G+1) 3 ve (s.ends.map (Value.int .i64))
section
variable{w w' :World}{G:Nat}{s:aC4}{rs:List aF2}{vl ve tv:Value}
theorem aY5.new(h:aY5 w G s rs vl ve tv)(hb:Below w.heap.size w w'):aY5 w' G s rs vl ve tv:=
 ⟨h.blk.below hb h.blk.lt,World.ownsRow.kept h.ents (aA5 hb none) (by cases vl.ownBlock<;>simp),h.map,fun q hq=>(h.dat q hq).keep fun k hk=>hb.block k ((h.dat q hq).lt k hk).2,Own.below h.ends hb (lR _)⟩
theorem aY5.headed(h:aY5 w G s rs vl ve tv)(hg:w.grownBy w' (some G)){f t:Int}(hB:Blk w' G 106 #[.int .i64 s.k,.int .i64 f,.int .i64 t,vl,ve,tv]):aY5 w' G {s with first:=f,term:=t} rs vl ve tv:=
 ⟨hB,World.ownsRow.kept h.ents hg (by
  cases hv:vl.ownBlock with
  |none=>exact .inl rfl
  |some q=>exact .inr fun e=>by injection e with e;have:=(World.ownsRow.lt h.ents q hv).1;omega),h.map,fun q hq=>(h.dat q hq).keep fun k hk=>hg.block k ((h.dat q hq).lt k hk).2 (fun e=>by injection e with e;have:=((h.dat q hq).lt k hk).1;omega),Own.far h.ends hg (by omega)⟩
theorem aY5.push{w2:World}{vl' :Value}{q:aF2}(h:aY5 w G s rs vl ve tv)(hq:bC9 w (G+1) q.v q.e.b)(a9:w2.ownsRow (G+1) 65 4 vl' (rs.length+1) (aA7 rs++aK2 q))(hg:w.grownBy w2 vl.ownBlock):
  aY5 (w2.setCell ⟨G,3,none⟩ vl') G {s with l:=s.l++[q.e]} (rs++[q]) vl' ve tv:=by
 have d9:∀k,vl.ownBlock=some k->G<k:=fun k hk=>by have:=(World.ownsRow.lt h.ents k hk).1;omega
 have b8:∀(v:Value) (l:List UInt8),bC9 w (G+1) v l->bC9 (w2.setCell ⟨G,3,none⟩ vl') (G+1) v l:=fun v l hd=>hd.keep fun k hk=>by
  have h2:=hd.lt k hk;rw[Below.heap_setCell w2 ⟨G,3,none⟩ vl' k (by show k≠G;omega)];refine hg.block k h2.2 fun e=>?_
  obtain⟨g,cs,fz,e1,hc⟩:=hd.held;rw[hk] at e1;injection e1 with e1
  subst e1;obtain⟨f6,a8⟩:=aD1 h.ents e.symm;rw[hc] at a8;injection a8 with a8
  injection a8 with _ h _
  exact absurd h (by decide)
 have d8:=aA0 w2 G 3 vl';have k1:Blk w2 G 106 _:=h.blk.grown hg (fun e=>by have:=d9 G e.symm;omega);refine⟨Blk.set_ k1 3 _,?_,by rw[mE,h.map];rfl,fun x hx=>?_,Own.far (Own.kept h.ends hg (jrow_type_ne h.ends h.ents (by decide))) d8 (by omega)⟩
 ·rw[aI3,lT]
  have:w2.ownsRow (G+1) 65 4 vl' (rs.length+[q].length) (aA7 rs++aA7 [q]):=by simpa[aA7] using a9
  exact World.ownsRow.kept this d8 (by
   cases hv:vl'.ownBlock with
   |none=>exact .inl rfl
   |some k=>exact .inr fun e=>by injection e with e;have:=(World.ownsRow.lt this k hv).1;omega)
 rcases List.mem_append.1 hx with hx|hx
 ·exact b8 _ _ (h.dat x hx)
 obtain rfl:=List.mem_singleton.1 hx;exact b8 _ _ hq
theorem aY5.last(h:aY5 w G s rs vl ve tv)(hf:0<=s.first∧s.first<=9223372036854775807)(hn:rs.length<=4611686018427387904):
  Calls Tryz.prog 62 #[.pointer (some ⟨G,0,none⟩)] w fun e w' =>e=.returned (.tuple #[.int .i64 s.last.1,.int .i64 s.last.2])∧Below w.heap.size w w' :=by
 obtain⟨A,c,rfl,h1,h2,h3⟩:=aB2 h.ents;have c1:w.cell? ⟨G,0+1,none⟩=some (.int .i64 s.first):=h.blk.cell 1;have c2:w.cell? ⟨G,0+2,none⟩=some (.int .i64 s.term):=h.blk.cell 2;have c3:w.cell? ⟨G,0+3,none⟩=some (.slice A rs.length c):=h.blk.cell 3;rcases mJ rs with rfl|⟨r,q,rfl⟩
 ·have hl:s.last=(s.first-1,s.term):=by
   unfold aC4.last;rw[<-h.map]
   rfl
  rw[hl];exact bQ6 G 0 s.first s.term A c hf w c1 c2 c3
 rw[mA] at h;simp only[mA,lT] at hn h3 c3;have hl:s.last=(q.e.ix,q.e.tm):=by
  unfold aC4.last;rw[<-h.map];simp
 rw[hl];obtain⟨g,b8,rfl,d8,a9,_,_,hc⟩:=h3 (by simp);obtain⟨g',cd,cs,fz,hv,_⟩:=h.dat q (by simp);have a8:∀j,j<4->(aA7 (r++[q]))[r.length*4+j]? =(aK2 q)[j]? :=fun j hj=>by
  rw[aF4 _ (k:=r.length) (by simp) hj];simp
 have e0:=hc (r.length*4+0) _ (a8 0 (by omega));have e1:=hc (r.length*4+1) _ (a8 1 (by omega));have e2:=hc (r.length*4+2) _ (a8 2 (by omega));have e3:=hc (r.length*4+3) _ (a8 3 (by omega));exact bQ4 G 0 r.length g 0 c q.e.ix q.e.tm q.e.kd (some ⟨g',0,none⟩) q.e.b.length cd (by simp at hn;omega) w c3 (by simpa using e0) (by simpa using e1) (by simpa using e2) (by simpa[hv] using e3) h.blk.lt a9
end
end
section
open Go.RowKit Oct
theorem aM3:(Tryz.prog.info? 65).map (fun i=>(i.zero,i.size,i.bytes))=some (some (.agg #[.int .i64 0,.int .i64 0,.int .i64 0,.slice none 0 0]),4,48):=by kernel_rfl
theorem cD1{p:List UInt8}{a:Int}(h:(aE7 2 p).2.isSome=false):aF6 p a=none:=by
 unfold aF6;rcases hN:aE7 2 p with⟨v,_|r⟩
 ·split
  ·rename_i e;cases e
  rfl
 rw[hN] at h;cases h
theorem cU4{p:List UInt8}{a t k:Int}{r:List UInt8}(h1:(aE7 2 p).1=[t,k])(h2:(aE7 2 p).2=some r):aF6 p a=if(aE8 r).2.2≠0∨(aE8 r).2.1≠r.length∨aG9-1<=a then none else some ⟨a+1,t,k,(aE8 r).1⟩:=by
 unfold aF6;rcases hN:aE7 2 p with⟨v,o⟩
 rw[hN] at h1 h2;simp only at h1 h2;subst h1 h2
 rfl
theorem bX0(l:List UInt8):(aE8 l).1.length<=l.length:=by
 unfold aE8;split
 ·split
  ·simp
  rw[lV,lZ];omega
 simp
theorem cY4{n:Nat}{b r:List UInt8}(h:(aE7 n b).2=some r):r.length<=b.length:=by
 induction n generalizing b with
 |zero=>injection h with h;rw[h];exact lR _
 |succ n ih=>
  unfold aE7 at h;split at h
  ·cases h
  have:=ih h;rw[lZ] at this;omega
theorem bN6(A:Option Addr)(b:List UInt8)(c G:Nat)(w:World){s:aC4}{rs:List aF2}{vl ve tv:Value}(hS:aY5 w G s rs vl ve tv)(hr:Rd w G A (cells b))(D4:b.length<=c)(hb:b.length<=140737488351232)(hc:c<=9223372036854775807)
  (hf:0<=s.first∧s.first<=9223372036854775807) (hn:rs.length<=1000000000) (hl:-9223372036854775808<=s.last.1):
  Calls Tryz.prog 146 #[.pointer (some ⟨G,0,none⟩),.slice A b.length c] w fun e w' =>e=.returned (.bool (aF6 b s.last.1).isSome)∧Below G w w' ∧
   (aF6 b s.last.1=none->aY5 w' G s rs vl ve tv)∧∀q,aF6 b s.last.1=some q->∃v vl',aY5 w' G {s with l:=s.l++[q]} (rs++[⟨v,q⟩]) vl' ve tv:=by
 have HS:=qZ hS;have HL:=qZ (hS.last hf (by omega));have HR:=qZ hr;have E9:G<w.heap.size:=hS.blk.lt;obtain⟨A3,c3,x7,_⟩:=aB2 hS.ents;subst x7;obtain⟨ix,q8⟩:∃ix,ix=s.last.1:=⟨_,rfl⟩
 rw[<-q8] at HL hl⊢;generalize s.last.2=lt at HL
 clear hS hr q8;go_enter Tryz.func146,Tryz.ntmps146
 go_wp2_with fail
 refine HL.out.mono ?_;rintro e w1 ⟨rfl,m7⟩;have D5:=m7.size;have p9:=qZ m7;clear m7 HL;have l6:Blk (w1.alloc (.cells #[.int .i64 0,.int .i64 0,.int .i64 0,.slice none 0 0] 65)) w1.heap.size 65 #[.int .i64 0,.int .i64 0,.int .i64 0,.slice none 0 0]:=Blk.new w1 _ _;have m3:Below w.heap.size w (w1.alloc (.cells #[.int .i64 0,.int .i64 0,.int .i64 0,.slice none 0 0] 65)):=p9.out.trans ((lS _ w1).alloc (by omega) _);go_upto_region 3 with(fail)
 obtain⟨wE,B5⟩:∃wE,wE=w1.alloc (.cells #[.int .i64 0,.int .i64 0,.int .i64 0,.slice none 0 0] 65):=⟨_,rfl⟩
 obtain⟨E0,z9⟩:∃E0,E0=w1.heap.size:=⟨_,rfl⟩
 rw[<-B5] at l6 m3⊢;rw[<-z9] at l6 D5⊢;have D1:E0<wE.heap.size:=l6.lt;have x5:=qZ l6;have n8:=qZ m3;have C5:=m3.size;clear B5 z9 l6 m3 p9;have j8:Below wE.heap.size wE (wE.alloc (.cells [Value.pointer (some ⟨E0,1,none⟩),Value.pointer (some ⟨E0,2,none⟩)].toArray 155)):=(lS _ wE).alloc (lR _) _;have t9:=qZ j8;have D0:=j8.size;have m6:Hid (Calls Tryz.prog 104 #[.slice A b.length c,.slice (some ⟨wE.heap.size,0,none⟩) 2 2] (wE.alloc (.cells [Value.pointer (some ⟨E0,1,none⟩),Value.pointer (some ⟨E0,2,none⟩)].toArray 155)) _):=qZ (aT4 A b c (some ⟨wE.heap.size,0,none⟩) 2 2 E0 1 65 #[.int .i64 0,.int .i64 0,.int .i64 0,.slice none 0 0] (wE.alloc (.cells [Value.pointer (some ⟨E0,1,none⟩),Value.pointer (some ⟨E0,2,none⟩)].toArray 155))
  ((((HR.out.more (by omega)).below n8.out).more (by omega:w.heap.size<=wE.heap.size)).below j8|>.more D0) (fun h0 ad e=>by obtain⟨G5,e',E8,_⟩:=HR.out (by rw[aA1];exact h0);rw[e] at e';injection e' with e';subst e';omega) D4 hb hc
  ((aF9 wE 155 [Value.pointer (some ⟨E0,1,none⟩),Value.pointer (some ⟨E0,2,none⟩)]).more (by simp)) (fun ad e=>by injection e with e;subst e;show wE.heap.size≠E0;omega) (x5.out.below j8 D1) (by omega) (fun i hi=>by
   have:i=0∨i=1:=by omega
   rcases this with rfl|rfl
   ·exact⟨_,rfl,rfl⟩
   exact⟨_,rfl,rfl⟩))
 clear j8;obtain⟨p4,o4⟩:∃p4,p4=(aE7 2 b).2.isSome:=⟨_,rfl⟩
 rw[<-o4] at m6;have m8:=qZ o4;clear o4;go_wp2_with fail
 refine m6.out.mono ?_;rintro e w3 ⟨v,rfl,B1,⟨l5,x7,m9,B7⟩,Ar,rr,cr,rfl,C9,G2,z8,i4⟩;have d9:Below w.heap.size w w3:=(n8.out.trans (t9.out.mono C5)).grown B1 (by omega) (fun j hj=>by injection hj with hj;omega);have p8:=d9.size;have C2:E0<w3.heap.size:=m9.lt;have C1:rr.length<=140737488351232:=by
  cases hq:(aE7 2 b).2 with
  |none=>rw[hq] at i4;rw[<-i4];simp
  |some r=>rw[hq] at i4;have:=cY4 hq;rw[<-i4];show r.length<=_;omega
 have B6:=qZ (bV9 Ar rr cr w3 z8 C9 (by omega));have n4:=qZ (And.intro m9 d9);have B4:=qZ B7;have s9:=qZ i4;clear m9 d9 B7 i4 B1 m6 t9 x5 n8 z8;go_wp2_with fail
 refine B6.out.mono ?_;rintro e w4 ⟨rfl,p7⟩;have g8:=qZ p7;clear B6 p7;have j9:aF6 b ix=none->∀w5:World,Below w4.heap.size w4 w5->(.returned (.bool false):Ending)=.returned (.bool (aF6 b ix).isSome)∧Below G w w5∧
   (aF6 b ix=none->aY5 w5 G s rs (.slice A3 rs.length c3) ve tv)∧∀q,aF6 b ix=some q->∃v vl',aY5 w5 G {s with l:=s.l++[q]} (rs++[⟨v,q⟩]) vl' ve tv:=fun hN w5 g9=>by
  have hb:Below w.heap.size w w5:=(n4.out.2.trans (g8.out.mono p8)).trans (g9.mono (by have:=g8.out.size;omega));refine⟨by rw[hN];rfl,hb.mono (by omega),fun _=>HS.out.new hb,fun q h=>by rw[hN] at h;cases h⟩
 have a9:=qZ j9;clear j9;obtain⟨tx,o8⟩:∃tx,tx=(aE8 rr).1:=⟨_,rfl⟩
 obtain⟨us,n9⟩:∃us,us=(aE8 rr).2.1:=⟨_,rfl⟩
 obtain⟨er,o5⟩:∃er,er=(aE8 rr).2.2:=⟨_,rfl⟩
 rw[<-o8,<-n9,<-o5];have m5:=qZ (And.intro o8 (And.intro n9 o5));clear o8 n9 o5;cases p4 with
 |false=>
  have hN:=cD1 (a:=ix) m8.out.symm;have d8:=qZ (a9.out hN);clear hN a9;go_wp2_with fail
  go_ret
  exact d8.out _ (lS _ _)
 |true=>
  obtain⟨r,m0⟩:=Option.isSome_iff_exists.1 m8.out.symm;obtain rfl:r=rr:=by have:=s9.out;rw[m0] at this;exact this
  obtain⟨t4,p5⟩:=B4.out r m0;obtain⟨t,k,rfl⟩:∃t k,l5=[t,k]:=by
   match l5,p5 with
   |[t,k],_=>exact⟨t,k,rfl⟩
  have o6:=cU4 (a:=ix) t4.symm m0;rw[<-m5.out.1,<-m5.out.2.1,<-m5.out.2.2] at o6;have j6:=qZ o6;clear t4 p5 m0 o6 m8 B4 s9;by_cases e1:er=0
  rotate_left
  ·have d8:=qZ (a9.out (by rw[j6.out,if_pos (.inl e1)]))
   clear a9;go_wp2_with fail
   go_ret
   exact d8.out _ (lS _ _)
  subst e1;by_cases e2:us=r.length
  rotate_left
  ·have d8:=qZ (a9.out (by rw[j6.out,if_pos (.inr (.inl e2))]))
   have G3:((us:Int) !=(r.length:Int))=true:=by simp;omega
   clear a9;go_wp2_with fail
   go_ret
   exact d8.out _ (lS _ _)
  subst e2;by_cases e3:aG9-1<=ix
  ·have d8:=qZ (a9.out (by rw[j6.out,if_pos (.inr (.inr e3))]))
   unfold aG9 at e3;clear a9;go_wp2_with fail
   go_ret
   exact d8.out _ (lS _ _)
  have hN:aF6 b ix=some ⟨ix+1,t,k,tx⟩:=by
   rw[j6.out,if_neg (by rintro(h|h|h);exact h rfl;exact h rfl;exact e3 h)]
  unfold aG9 at e3;have hw:IntKind.i64.wrap (ix+1)=ix+1:=mH _ (by omega);have E7:decide (ix>=9223372036854775806)=false:=by simp;omega
  have D9:tx.length<=140737488351232:=by rw[m5.out.1];have:=bX0 r;omega
  obtain⟨vd,w5,D3,hd,g9⟩:=bX5 w4 tx (by omega);have HD:=qZ hd;obtain⟨gd,cd,G4,fz,rfl,_⟩:=hd;have f8:Blk w5 E0 65 #[.int .i64 0,.int .i64 t,.int .i64 k,.slice none 0 0]:=(n4.out.1.below g8.out C2).below g9 (by have:=g8.out.size;omega);have f0:w5.cell? ⟨E0,0,none⟩=some (.int .i64 0):=f8.cell 0;have f3:w5.cell? ⟨E0,3,none⟩=some (.slice none 0 0):=f8.cell 3;have z0:w5.frozen? ⟨E0,0,none⟩=false:=f8.frozen _;have z3:w5.frozen? ⟨E0,3,none⟩=false:=f8.frozen _;have x8:=qZ f8;have D6:=qZ g9;have n6:=qZ hN;have D8:=g8.out.size;have E6:=g9.size;clear f8 g9 hN a9 j6 e3;go_upto_region 8 with(fail)
  obtain⟨w6,l9⟩:∃w6,w6=((w5.setCell ⟨E0,0,none⟩ (.int .i64 (ix+1))).setCell ⟨E0,3,none⟩ (.slice (some ⟨gd,0,none⟩) tx.length cd)):=⟨_,rfl⟩
  have i6:Blk w6 E0 65 #[.int .i64 (ix+1),.int .i64 t,.int .i64 k,.slice (some ⟨gd,0,none⟩) tx.length cd]:=by rw[l9];exact(x8.out.set_ 0 _).set_ 3 _
  have b8:w5.grownBy w6 (some E0):=by rw[l9];exact aA4 (aA0 w5 E0 0 _) (aA0 _ E0 3 _) (.inl rfl)
  have l7:Below w.heap.size w w6:=((n4.out.2.trans (g8.out.mono p8)).trans (D6.out.mono (by omega))).grown b8 (by omega) (fun j hj=>by injection hj with hj;omega);have t7:bC9 w6 (G+1) (.slice (some ⟨gd,0,none⟩) tx.length cd) tx:=(HD.out.keep fun q hq=>b8.block q (HD.out.lt q hq).2 (fun e=>by injection e with e;have:=(HD.out.lt q hq).1;omega)).mono (by omega);have m4:aY5 w6 G s rs (.slice A3 rs.length c3) ve tv:=HS.out.new l7;rw[<-l9];have D7:=l7.size;have p6:E0<w6.heap.size:=i6.lt;have q6:G<w6.heap.size:=m4.blk.lt;have B8:=b8.size;have B2:∀W:World,W.heap[G]? =w6.heap[G]? ->W.heap[E0]? =w6.heap[E0]? ->W.cell? ⟨G,3,none⟩=some (.slice A3 rs.length c3)∧W.cell? ⟨E0,0,none⟩=some (.int .i64 (ix+1))∧W.cell? ⟨E0,1,none⟩=some (.int .i64 t)∧W.cell? ⟨E0,2,none⟩=some (.int .i64 k)∧W.cell? ⟨E0,3,none⟩=some (.slice (some ⟨gd,0,none⟩) tx.length cd)∧True:=fun W h1 h2=>
   ⟨(World.cell?_of_block (w:=w6) h1).trans (m4.blk.cell 3),(World.cell?_of_block (w:=w6) h2).trans (i6.cell 0),(World.cell?_of_block (w:=w6) h2).trans (i6.cell 1),(World.cell?_of_block (w:=w6) h2).trans (i6.cell 2),(World.cell?_of_block (w:=w6) h2).trans (i6.cell 3),trivial⟩
  have l4:=qZ B2;have C3:=qZ m4;have x6:=qZ t7;have C7:=qZ l7;clear l9 i6 b8 l7 t7 m4 B2 f0 f3 z0 z3 D3 x8 HD;refine aD4 10 rfl (S:=fun W=>W.cell? ⟨G,3,none⟩=some (.slice A3 rs.length c3)∧W.cell? ⟨E0,0,none⟩=some (.int .i64 (ix+1))∧W.cell? ⟨E0,1,none⟩=some (.int .i64 t)∧W.cell? ⟨E0,2,none⟩=some (.int .i64 k)∧W.cell? ⟨E0,3,none⟩=some (.slice (some ⟨gd,0,none⟩) tx.length cd)∧True) (l4.out _ rfl rfl) (fun hHeld=>?_);refine zU6 0 (k:=?_);refine zU6 1 (k:=?_);refine zU6 2 (k:=?_);refine zU6 3 (k:=?_);refine zU6 4 (k:=?_);refine zU6 5 (k:=?_);simp only[zA,zB,zF,zG,zC,zD,zE];refine zW 6 (k:=fun K hK=>?_);simp only[zA,zB];go_simp;obtain⟨w7,l8⟩:∃w7,w7=(w6.alloc (.cells [Value.int .i64 (ix+1),Value.int .i64 t,Value.int .i64 k,Value.slice (some ⟨gd,0,none⟩) tx.length cd].toArray 65)).drew:=⟨_,rfl⟩
  have f6:Below w6.heap.size w6 w7:=by rw[l8];exact aA3 ((lS _ w6).alloc (lR _) _) 1
  have t6:∀j u,[Value.int .i64 (ix+1),Value.int .i64 t,Value.int .i64 k,Value.slice (some ⟨gd,0,none⟩) tx.length cd][j]? =some u->w7.cell? ((⟨w6.heap.size,0,none⟩:Addr).add j)=some u:=by
   rw[l8];obtain⟨ad,e1,_,h2⟩:=aF9 w6 65 [Value.int .i64 (ix+1),Value.int .i64 t,Value.int .i64 k,Value.slice (some ⟨gd,0,none⟩) tx.length cd] (by simp);injection e1 with e1
   subst e1;exact h2
  have t8:aY5 w7 G s rs (.slice A3 rs.length c3) ve tv:=C3.out.new f6;have y8:bC9 w7 (G+1) (.slice (some ⟨gd,0,none⟩) tx.length cd) tx:=x6.out.keep fun q hq=>f6.block q (x6.out.lt q hq).2
  have G0:=f6.size;refine hK _ _ (l4.out _ ((Below.alloc (lS _ w6) (lR _) _).block G q6) ((Below.alloc (lS _ w6) (lR _) _).block E0 p6)) (fun hHeld=>?_);clear hK K;rw[show(w6.alloc (.cells #[Value.int .i64 (ix+1),Value.int .i64 t,Value.int .i64 k,Value.slice (some ⟨gd,0,none⟩) tx.length cd] 65)).drew=w7 from l8.symm] at hHeld⊢;have a8:=qZ (And.intro (f6.block G q6) (f6.block E0 p6));have C8:=qZ (C7.out.trans (f6.mono D7));have o7:=qZ t8;have C6:=qZ y8;have C0:=qZ t6;clear l8 f6 t6 t8 y8;try simp only[zF,zG,zC,zD,zE]
  refine zW 7 (k:=fun K hK=>?_);simp only[zA,zB];rw[if_pos (by rfl)];refine aI2 (.tmp 59) (.tmp 61) 40 rfl (G+1) 65 (.agg #[.int .i64 0,.int .i64 0,.int .i64 0,.slice none 0 0]) 4 48 Tryz.underlying40 aM3 rfl (by decide) _ rs.length (aA7 rs) rfl o7.out.ents ⟨w6.heap.size,0,none⟩ 1 1 _ rfl rfl C0.out (by simp[Value.oneCell']) (by unfold maxLen;omega) (by omega) (by omega) ?_;intro v' w8 f7 f9 C4;obtain⟨A8,c8,B9,_⟩:=aB2 f7;subst B9;have n5:(Value.slice A3 rs.length c3).ownBlock≠some G:=fun e=>by have:=(World.ownsRow.lt HS.out.ents G e).1;omega
  have o9:(Value.slice A3 rs.length c3).ownBlock≠some E0:=fun e=>by have:=(World.ownsRow.lt HS.out.ents E0 e).2;omega
  have k8:w8.heap[G]? =w7.heap[G]? :=f9.block G (by omega) (fun e=>n5 e.symm);have n7:w8.heap[E0]? =w7.heap[E0]? :=f9.block E0 (by omega) (fun e=>o9 e.symm);have E5:=f9.size;refine hK _ _ (l4.out _ (k8.trans a8.out.1) (n7.trans a8.out.2)) (fun hHeld=>?_);clear hK K;have p0:Blk w8 G 106 _:=Eq.trans k8 o7.out.blk;have g3:w8.cell? ⟨G,3,none⟩=some (.slice A3 rs.length c3):=p0.cell 3;have gz:w8.frozen? ⟨G,3,none⟩=false:=p0.frozen _;have hP:=o7.out.push (q:=⟨.slice (some ⟨gd,0,none⟩) tx.length cd,⟨ix+1,t,k,tx⟩⟩) C6.out f7 f9;have x4:Below G w (w8.setCell ⟨G,3,none⟩ (.slice A8 (rs.length+1) c8)):=((C8.out.mono (by omega:G<=w.heap.size)).grown f9 (by omega) (fun j hj=>by have:=(World.ownsRow.lt HS.out.ents j hj).1;omega)).grown (aA0 w8 G 3 _) (by omega) (fun j hj=>by injection hj with hj;omega);have HP:=qZ (And.intro hP x4);have m2:=qZ (And.intro (k8.trans a8.out.1) (n7.trans a8.out.2));clear f7 f9 C4 k8 n7 hP x4;try simp only[zF,zG,zC,zD,zE]
  refine zW 8 (k:=fun K hK=>?_);simp only[zA,zB];go_simp;refine hK _ _ (l4.out _ m2.out.1 m2.out.2) (fun hHeld=>?_);clear hK K;try simp only[zF,zG,zC,zD,zE]
  refine zW 9 (k:=fun K hK=>?_);simp only[zA,zB];go_simp;refine hK _ _ (l4.out _ m2.out.1 m2.out.2) (fun hHeld=>?_);clear hK K;try simp only[zF,zG,zC,zD,zE]
  refine aG6 (t:=10) (by simp) (by kernel_rfl) (by kernel_rfl) (fun K hK=>?_);simp only[zA,zB];go_simp;refine hK _ _ ?_;clear hK K hHeld g3 gz p0;generalize(w8.setCell ⟨G,3,none⟩ (.slice A8 (rs.length+1) c8))=w9 at HP⊢
  go_wp2_with fail
  go_ret
  refine⟨by rw[n6.out];rfl,HP.out.2,(fun h=>by rw[n6.out] at h;cases h),fun q hq=>?_⟩;rw[n6.out] at hq;injection hq with hq
  subst hq;exact⟨_,_,HP.out.1⟩
end
section
open Oct
theorem bX4(b:List UInt8):∀f a,a<=b.length->(aV0 b f a).1.length<=b.length-a∧∀p∈(aV0 b f a).1,p.length<=1048576
 |0,a,_=>by simp[aV0]
 |f+1,a,ha=>by
  unfold aV0;split
  ·simp
  split
  ·rename_i h1 h2
   obtain⟨h3,h4,h5,_⟩:=aR1 h2;rw[lZ] at h5;obtain⟨h6,h7⟩:=bX4 b f (a+(aD2 (b.drop a)).2.1) (by omega);refine⟨by simp only[mC];omega,fun p hp=>?_⟩;rcases List.mem_cons.1 hp with rfl|hp
   ·exact h3
   exact h7 p hp
  simp
theorem bB9(b:List UInt8):(aE4 b).1.length<=b.length∧∀p∈(aE4 b).1,p.length<=1048576:=by
 have:=bX4 b (b.length+1) 0 (by omega);exact⟨by have:=this.1;unfold aE4;omega,this.2⟩
theorem aG4{p:List UInt8}(h:p.length<=1048576):(aF1 p).length<=1048600:=by
 rw[bJ8 (by omega),lT,lT,Crc.four_length];have:=aN8 p.length (by omega);omega
structure RdI(k:Int)(b:List UInt8)(i:Nat)(s:aC4)(a:Int):Prop where
 zero:i=0->s=⟨k,0,0,[],[]⟩∧a=0
 more:0<i->aD9 k b=(aK7 ((aE4 b).1.drop i) a s).map fun s=>(s,decide ((aE4 b).2.2≠0))
 key:s.k=k
 first:0<=s.first∧s.first<=9223372036854775806
 last:-1<=s.last.1
 at_:0<=a∧a<=1048600*i
 len:s.ends.length=i∧s.l.length<=i
theorem RdI.start(k:Int)(b:List UInt8):RdI k b 0 ⟨k,0,0,[],[]⟩ 0:=
 ⟨fun _=>⟨rfl,rfl⟩,fun h=>absurd h (by omega),rfl,⟨Int.le_refl 0,by show(0:Int)<=_;omega⟩,by show(-1:Int)<=0-1;omega,⟨by omega,by omega⟩,rfl,lR _⟩
theorem bM9{p:List UInt8}{f t:Int}(h:aK0 p=some (f,t)):1<=f∧f<=9223372036854775806:=by
 unfold aK0 at h;split at h
 ·cases h
 rename_i h1
 have hm:(aA2 maxI p).1<=9223372036854775807:=aK8 maxI p;unfold aG9 at h1;split at h
 ·injection h with h
  injection h with h _
  omega
 cases h
theorem bJ3{p:List UInt8}{a:Int}{q:aK5}(h:aF6 p a=some q):q.ix=a+1:=by
 unfold aF6 at h;split at h
 ·split at h
  ·cases h
  injection h with h
  rw[<-h]
 cases h
section
variable{k:Int}{b:List UInt8}{i:Nat}{s:aC4}{a:Int}
theorem RdI.head{p:List UInt8}{f t:Int}(h:RdI k b 0 s a)(hp:(aE4 b).1[0]? =some p)(a8:p.length<=1048576)(ht:aK0 p=some (f,t)):RdI k b 1 ⟨k,f,t,[],[((aF1 p).length:Int)]⟩ ((aF1 p).length:Int):=by
 have hf:=bM9 ht;have hl:=aG4 a8;refine⟨fun h=>by omega,fun _=>?_,rfl,⟨by show(0:Int)<=f;omega,hf.2⟩,by show(-1:Int)<=f-1;omega,⟨by omega,by omega⟩,rfl,by simp⟩;unfold aD9;cases hr:(aE4 b).1 with
 |nil=>rw[hr] at hp;simp at hp
 |cons x r=>
  rw[hr] at hp;injection hp with hp
  subst hp;simp only[ht]
  rfl
theorem RdI.headBad{p:List UInt8}(hp:(aE4 b).1[0]? =some p)(ht:aK0 p=none):aD9 k b=none:=by
 unfold aD9;cases hr:(aE4 b).1 with
 |nil=>rw[hr] at hp;simp at hp
 |cons x r=>
  rw[hr] at hp;injection hp with hp
  subst hp;simp only[ht]
theorem dA1{α:Type}{l:List α}{i:Nat}{x:α}(h:l[i]? =some x):l.drop i=x::l.drop (i+1):=by
 obtain⟨h1,h2⟩:=List.getElem?_eq_some_iff.1 h;rw[List.drop_eq_getElem_cons h1,h2]
theorem RdI.entry{p:List UInt8}{q:aK5}(h:RdI k b i s a)(hi:0<i)(hp:(aE4 b).1[i]? =some p)(a8:p.length<=1048576)(ht:aF6 p s.last.1=some q):
  RdI k b (i+1) {s with l:=s.l++[q],ends:=s.ends++[a+(aF1 p).length]} (a+(aF1 p).length):=by
 have hl:=aG4 a8;have a9:=bJ3 ht;have b8:=h.last;refine⟨fun e=>by omega,fun _=>?_,h.key,h.first,?_,⟨by have:=h.at_.1;omega,by have:=h.at_.2;omega⟩,by rw[lT,h.len.1];rfl,by rw[lT];have:=h.len.2;simp;omega⟩
 ·rw[h.more hi,dA1 hp,aK7,ht]
 unfold aC4.last;simp
 omega
theorem RdI.entryBad{p:List UInt8}(h:RdI k b i s a)(hi:0<i)(hp:(aE4 b).1[i]? =some p)(ht:aF6 p s.last.1=none):aD9 k b=none:=by
 rw[h.more hi,dA1 hp,aK7,ht]
 rfl
theorem RdI.done(h:RdI k b i s a)(hi:i=(aE4 b).1.length):aD9 k b=some (s,decide ((aE4 b).2.2≠0)):=by
 rcases Nat.eq_zero_or_pos i with h0|h0
 ·obtain⟨h1,h2⟩:=h.zero h0
  unfold aD9;rw[mD (by omega:(aE4 b).1.length=0),h1]
 rw[h.more h0,List.drop_of_length_le (by omega)]
 rfl
end
end
section
open Go.RowKit Oct
theorem aZ9(s:ByteArray):s.size=s.data.toList.length:=by rw[Array.length_toList];rfl
theorem bA3(c:UInt8)(r:List UInt8):cB5 (c::r)=if r.length<1∨9<r.length∨c≠106 then 0 else if(aE0 r).2.2≠0∨(aE0 r).2.1≠(r.length:Int) then 0 else(aE0 r).1:=rfl
theorem cC1(s:ByteArray)(hs:s.size<=140737488351232)(w:World)(hE:dA6 w):
  Calls Tryz.prog 98 #[.string s] w fun e w' =>e=.returned (.int .i64 (cB5 s.data.toList))∧Below w.heap.size w w' :=by
 have HE:=qZ hE;clear hE;obtain⟨R,hR⟩:∃R,R=cB5 s.data.toList:=⟨_,rfl⟩
 rw[<-hR];by_cases a8:s.size<2∨10<s.size
 ·have h0:R=0:=by
   rw[hR];have hz:=aZ9 s;rcases hd:s.data.toList with _|⟨c,r⟩
   ·rfl
   rw[hd,mC] at hz;rw[bA3,if_pos (by omega)]
  subst h0;clear hR;go_enter Tryz.func98,Tryz.ntmps98
  rcases a8 with a8|a8
  ·go_wp2_with fail
   go_ret
   exact⟨rfl,lS _ _⟩
  go_wp2_with fail
  go_ret
  exact⟨rfl,lS _ _⟩
 have l5:2<=s.size:=by omega
 have l4:s.size<=10:=by omega
 clear a8;obtain⟨ch,r,b8⟩:∃ch r,s.data.toList=ch::r:=by
  rcases e:s.data.toList with _|⟨a,b⟩
  ·exfalso
   have hz:=aZ9 s;rw[e,List.length_nil] at hz;omega
  exact⟨a,b,rfl⟩
 have i6:s.size=r.length+1:=by
  show s.data.size=_
  rw[<-Array.length_toList,b8,mC]
 have f6:(s.extract 1 s.size).data.toList=r:=by
  rw[ByteArray.data_extract,Array.toList_extract,b8,i6];simp
 have d9:0<s.size:=by omega
 have g8:s[0]'(d9)=ch:=by
  have:s.data.toList[0]'(by rw[b8];simp)=ch:=by simp[b8]
  rw[Array.getElem_toList] at this;exact this
 have j8:(s.extract 1 s.size).size<=140737488351232:=by
  show(s.extract 1 s.size).data.size<=_
  rw[<-Array.length_toList,f6];omega
 have d8:=qZ (cS7 (s.extract 1 s.size) j8 w HE.out);rw[f6] at d8;have hJ:R=if ch≠106 then 0 else if(aE0 r).2.2≠0∨(aE0 r).2.1≠(r.length:Int) then 0 else(aE0 r).1:=by
  rw[hR,b8,bA3];by_cases hc:ch=106
  ·rw[if_neg (show¬(r.length<1∨9<r.length∨ch≠106) from by rintro(h|h|h);omega;omega;exact h hc),if_neg (show¬ch≠106 from fun h=>h hc)]
  rw[if_pos (show(r.length<1∨9<r.length∨ch≠106) from .inr (.inr hc)),if_pos (show ch≠106 from hc)]
 obtain⟨pn,g9⟩:∃pn,pn=(aE0 r).1:=⟨_,rfl⟩
 obtain⟨pu,f7⟩:∃pn,pn=(aE0 r).2.1:=⟨_,rfl⟩
 obtain⟨pe,j9⟩:∃pn,pn=(aE0 r).2.2:=⟨_,rfl⟩
 rw[<-g9,<-f7,<-j9] at d8 hJ;have HJ:=qZ hJ;have j6:=qZ (show(r.length:Int)=(s.size:Int)-1 by omega);have f9:(s[0].toNat:Int)=106↔ch=106:=by
  rw[g8];constructor
  ·intro e
   refine UInt8.toNat_inj.1 ?_;show ch.toNat=106
   omega
  rintro rfl
  rfl
 have f8:=qZ f9;clear hR b8 f6 j8 g9 f7 j9 g8 i6 hJ f9;go_enter Tryz.func98,Tryz.ntmps98
 by_cases h1:(s[0].toNat:Int)=106
 rotate_left
 ·have HC:=qZ (fun e=>h1 (f8.out.2 e))
  have l6:((s[0].toNat:Int) !=106)=true:=bne_iff_ne.2 h1;have a9:R=0:=by rw[HJ.out,if_pos (show ch≠106 from HC.out)]
  clear HJ;subst a9;go_wp2_with fail
  go_ret
  exact⟨rfl,lS _ _⟩
 have HC:=qZ (f8.out.1 h1);go_wp2_with fail
 refine d8.out.mono ?_;rintro e w2 ⟨rfl,i4⟩;have HB:=qZ i4;clear i4 d8;by_cases h2:pe=0
 ·subst h2
  by_cases h3:(pu:Int)=(s.size:Int)-1
  ·have H3:=qZ h3
   have a9:R=pn:=by rw[HJ.out,if_neg (show¬ch≠106 from fun h=>h HC.out),if_neg (show¬((0:Int)≠0∨(pu:Int)≠(r.length:Int)) from by rintro(h|h);exact h rfl;exact h (by rw[j6.out];exact H3.out))]
   clear HJ;subst a9;go_wp2_with fail
   go_ret
   exact⟨rfl,HB.out⟩
  have H3:=qZ h3;have a9:R=0:=by rw[HJ.out,if_neg (show¬ch≠106 from fun h=>h HC.out),if_pos (show((0:Int)≠0∨(pu:Int)≠(r.length:Int)) from .inr (by rw[j6.out];exact H3.out))]
  clear HJ;subst a9;go_wp2_with fail
  go_ret
  exact⟨rfl,HB.out⟩
 have H2:=qZ h2;have a9:R=0:=by rw[HJ.out,if_neg (show¬ch≠106 from fun h=>h HC.out),if_pos (show(pe≠0∨(pu:Int)≠(r.length:Int)) from .inl H2.out)]
 clear HJ;subst a9;go_wp2_with fail
 go_ret
 exact⟨rfl,HB.out⟩
end
section
open Oct
theorem cJ0:∀(l:List UInt8) (n:Nat),(∀c∈l,isD c=true)->l.foldl dv n+1<=(n+1)*10^l.length
 |[],n,_=>by simp
 |c::r,n,h=>by
  have hc:c.toNat<=57:=by
   have:=h c List.mem_cons_self;unfold isD at this;simp at this
   exact this.2
  have ih:=cJ0 r (dv n c) fun x hx=>h x (List.mem_cons_of_mem _ hx)
  have h1:dv n c+1<=(n+1)*10:=by unfold dv;omega
  rw[List.foldl_cons,mC,Nat.pow_succ];refine Nat.le_trans ih ?_;rw[show(n+1)*(10^r.length*10)=((n+1)*10)*10^r.length by rw[Nat.mul_comm (10^r.length) 10,Nat.mul_assoc]];exact Nat.mul_le_mul_right _ h1
theorem dH2{p:UInt8->Bool}:∀{l:List UInt8} {c:UInt8},c∈l.takeWhile p->p c=true
 |[],c,h=>by cases h
 |a::r,c,h=>by
  rw[List.takeWhile_cons] at h;split at h
  ·rename_i h1
   rcases List.mem_cons.1 h with h2|h2
   ·rw[h2];exact h1
   exact dH2 h2
  cases h
theorem bE3(n:Nm):0<=cB5 n∧cB5 n<=999999999:=by
 unfold cB5;split
 ·omega
 rename_i c r
 split
 ·omega
 rename_i h1
 split
 ·omega
 rename_i h2
 unfold aE0;split
 ·omega
 split
 ·omega
 split
 ·omega
 have hl:(aX3 r).length<=r.length:=by
  unfold aX3;exact(List.takeWhile_sublist _).length_le
 have h3:=cJ0 (aX3 r) 0 fun c hc=>dH2 hc
 have h4:10^(aX3 r).length<=10^9:=Nat.pow_le_pow_right (by omega) (by omega);simp only at h3 h4⊢;unfold valD;omega
theorem aR6:∀(n:Nat) (b:List UInt8) (vals:List Int) (r:List UInt8),aE7 n b=(vals,some r)->∀v∈vals,0<=v∧v<=9223372036854775807
 |0,b,vals,r,h=>by
  injection h with h _
  subst h;intro v hv;cases hv
 |n+1,b,vals,r,h=>by
  unfold aE7 at h;split at h
  ·injection h with _ h
   cases h
  rename_i h1
  injection h with h2 h3
  subst h2;intro v hv;rcases List.mem_cons.1 hv with rfl|hv
  ·have hm:(aA2 maxU b).1<=18446744073709551615:=aK8 maxU b
   refine⟨by omega,?_⟩;unfold aC9;split<;>omega
  exact aR6 n _ _ r (Prod.ext rfl h3) v hv
structure bK7(s:aC4):Prop where
 num:aZ8 s
 ends:s.ends.length=s.l.length+1
theorem cE6{p:List UInt8}{f t:Int}(h:aK0 p=some (f,t)):0<=t∧t<=9223372036854775807:=by
 unfold aK0 at h;split at h
 ·cases h
 split at h
 ·rename_i t' h1
  injection h with h
  injection h with _ h
  subst h;exact aR6 _ _ _ _ h1 _ (List.mem_singleton.2 rfl)
 cases h
theorem cP6{p:List UInt8}{a:Int}{q:aK5}(h:aF6 p a=some q):(0<=q.tm∧q.tm<=9223372036854775807)∧(0<=q.kd∧q.kd<=9223372036854775807)∧q.ix=a+1∧a<9223372036854775806:=by
 unfold aF6 at h;split at h
 ·rename_i t k r h1
  split at h
  ·cases h
  rename_i h2
  injection h with h
  subst h;unfold aG9 at h2;exact⟨aR6 _ _ _ _ h1 _ (by simp),aR6 _ _ _ _ h1 _ (by simp),rfl,by omega⟩
 cases h
theorem aZ8.last{s:aC4}(h:aZ8 s):-1<=s.last.1∨(-9223372036854775808<=s.last.1∧s.last.1<=9223372036854775807):=by
 unfold aC4.last;split
 ·have:=h.first;exact .inl (by show-1<=s.first-1;omega)
 rename_i e he
 exact .inr (h.ent e (List.mem_of_getLast? he)).1
theorem bM2:∀(rows:List (List UInt8)) (a:Int) (s s' :aC4),aK7 rows a s=some s' ->bK7 s->0<=a->(∀p∈rows,p.length<=1048576)->a+1048600*rows.length<=4611686018427387904->bK7 s' ∧s'.k=s.k∧s'.first=s.first
 |[],a,s,s',h,hs,_,_,_=>by
  injection h with h
  subst h;exact⟨hs,rfl,rfl⟩
 |p::r,a,s,s',h,hs,ha,hp,hl=>by
  unfold aK7 at h;split at h
  ·cases h
  rename_i e he
  have h1:=cP6 he;have h2:=aG4 (hp p List.mem_cons_self);rw[mC] at hl;have h4:=hs.num.last;have hok:bK7 {s with l:=s.l++[e],ends:=s.ends++[a+(aF1 p).length]}:=by
   refine⟨⟨hs.num.k,hs.num.first,hs.num.term,fun x hx=>?_,fun n hn=>?_⟩,?_⟩
   ·rcases List.mem_append.1 hx with hx|hx
    ·exact hs.num.ent x hx
    obtain rfl:=List.mem_singleton.1 hx;omega
   ·rcases List.mem_append.1 hn with hn|hn
    ·exact hs.num.ends n hn
    obtain rfl:=List.mem_singleton.1 hn;omega
   show(s.ends++[_]).length=(s.l++[e]).length+1
   rw[lT,lT,hs.ends]
   rfl
  have:=bM2 r _ _ _ h hok (by omega) (fun x hx=>hp x (List.mem_cons_of_mem _ hx)) (by omega);exact this
theorem cP0{k:Int}{b:List UInt8}{s:aC4}{t:Bool}(h:aD9 k b=some (s,t))(hk:0<=k∧k<=999999999)(hb:b.length<=1000000000):aZ8 s∧s.k=k∧(s.ends=[]∧s.l=[]∨bK7 s∧1<=s.first):=by
 have hr:=bB9 b;unfold aD9 at h;split at h
 ·injection h with h
  injection h with h _
  subst h;exact⟨⟨by simp only;omega,by simp,by simp,by simp,by simp⟩,rfl,.inl ⟨rfl,rfl⟩⟩
 rename_i p r hpr
 split at h
 ·cases h
 rename_i f t' hd
 have h1:=bM9 hd;have h2:=cE6 hd;rw[hpr] at hr;have h3:=aG4 (hr.2 p List.mem_cons_self);rw[mC] at hr;obtain⟨s',a9,e⟩:=Option.map_eq_some_iff.1 h;injection e with e _
 subst e;have a8:bK7 ⟨k,f,t',[],[((aF1 p).length:Int)]⟩:=by
  refine⟨⟨by simp only;omega,by simp only;omega,by simp only;omega,by simp,fun n hn=>?_⟩,rfl⟩;obtain rfl:=List.mem_singleton.1 hn;omega
 have:=bM2 r _ _ _ a9 a8 (by omega) (fun x hx=>hr.2 x (List.mem_cons_of_mem _ hx)) (by have:=hr.1;omega);exact⟨this.1.num,this.2.1,.inr ⟨this.1,by rw[this.2.2];exact h1.1⟩⟩
theorem aQ3(l:List (Nm×FD))(q:Nm×FD):aD0 (l++[q])=(aD0 l).bind fun x=>if cB5 q.1=0 then some x else(aD9 (cB5 q.1) q.2.b).map fun s=>x++[s]:=by
 induction l with
 |nil=>
  simp only[List.nil_append,aD0,Option.bind_some];split
  ·rfl
  cases aD9 (cB5 q.1) q.2.b<;>rfl
 |cons y r ih=>
  simp only[List.cons_append,aD0];split
  ·exact ih
  cases aD9 (cB5 y.1) y.2.b with
  |none=>rfl
  |some s=>
   simp only[ih];cases aD0 r with
   |none=>rfl
   |some x=>
    simp only[Option.bind_some,Option.map_some];split
    ·rfl
    cases aD9 (cB5 q.1) q.2.b<;>rfl
theorem aY1{l r:List (Nm×FD)}(h:aD0 l=none):aD0 (l++r)=none:=by
 induction r generalizing l with
 |nil=>rw[List.append_nil];exact h
 |cons x r ih=>
  rw[show l++x::r=(l++[x])++r by simp];refine ih ?_;rw[aQ3,h]
  rfl
theorem aP7:∀{l:List (Nm×FD)} {x:List (aC4×Bool)},aD0 l=some x->(∀q∈l,q.2.b.length<=1000000000)->x.length<=l.length∧∀y∈x,aZ8 y.1∧(1<=y.1.k∧y.1.k<=999999999)∧(y.1.ends=[]∧y.1.l=[]∨bK7 y.1∧1<=y.1.first)
 |[],x,h,_=>by
  injection h with h
  subst h;exact⟨lR _,by simp⟩
 |q::r,x,h,hb=>by
  have hbr:∀q∈r,q.2.b.length<=1000000000:=fun y hy=>hb y (List.mem_cons_of_mem _ hy)
  unfold aD0 at h;split at h
  ·have:=aP7 h hbr
   exact⟨by rw[mC];omega,this.2⟩
  rename_i h0
  split at h
  ·cases h
  rename_i s hs
  obtain⟨x',hx',rfl⟩:=Option.map_eq_some_iff.1 h;have h1:=aP7 hx' hbr;have hk:=bE3 q.1;have h2:=cP0 (t:=s.2) (s:=s.1) hs hk (hb q List.mem_cons_self);refine⟨by rw[mC,mC];omega,fun y hy=>?_⟩;rcases List.mem_cons.1 hy with rfl|hy
  ·exact⟨h2.1,by rw[h2.2.1];omega,h2.2.2⟩
  exact h1.2 y hy
theorem bX9:∀{l:List (aC4×Bool)},aL1 l=true->l.Pairwise fun x y=>x.1.k<y.1.k
 |[],_=>List.Pairwise.nil
 |[a],_=>List.pairwise_singleton _ _
 |a::b::r,h=>by
  unfold aL1 at h;simp only[Bool.and_eq_true,decide_eq_true_eq] at h;have ih:=bX9 h.2;have h1:=List.pairwise_cons.1 ih;refine List.pairwise_cons.2 ⟨fun y hy=>?_,ih⟩;rcases List.mem_cons.1 hy with rfl|hy
  ·omega
  have:=h1.1 y hy;omega
theorem bQ9{l m:List (aC4×Bool)}(hp:l.Perm m)(hl:l.Pairwise fun x y=>x.1.k<=y.1.k)(hm:m.Pairwise fun x y=>x.1.k<=y.1.k)(h:aL1 m=true):l=m:=by
 have a9:=bX9 h;have a8:∀a∈m,∀b∈m,a.1.k=b.1.k->a=b:=by
  clear hp hl hm h;induction m with
  |nil=>intro a ha;cases ha
  |cons x r ih=>
   have h1:=List.pairwise_cons.1 a9;intro a ha b hb e;rcases List.mem_cons.1 ha with ea|ea<;>rcases List.mem_cons.1 hb with eb|eb
   ·rw[ea,eb]
   ·have:=h1.1 b eb;rw[ea] at e;omega
   ·have:=h1.1 a ea;rw[eb] at e;omega
   exact ih h1.2 a ea b eb e
 exact List.Perm.eq_of_pairwise (le:=fun x y:aC4×Bool=>x.1.k<=y.1.k) (fun a b ha hb h1 h2=>a8 a (hp.mem_iff.1 ha) b hb (by omega)) hl hm hp
theorem bR0{d:DkD}{l m:List (aC4×Bool)}(hf:aD0 d.fs=some l)(hp:m.Perm l)(hm:m.Pairwise fun x y=>x.1.k<=y.1.k):aM4 d=if aL1 m=true then some m else none:=by
 have hs:(l.mergeSort fun x y=>decide (x.1.k<=y.1.k)).Pairwise fun x y=>x.1.k<=y.1.k:=by
  have:=List.pairwise_mergeSort (le:=fun x y:aC4×Bool=>decide (x.1.k<=y.1.k)) (fun a b c h1 h2=>by simp at*;omega) (fun a b=>by simp;omega) l;exact this.imp fun h=>of_decide_eq_true h
 have hq:m.Perm (l.mergeSort fun x y=>decide (x.1.k<=y.1.k)):=hp.trans (List.mergeSort_perm l _).symm;unfold aM4;simp only[hf];by_cases h1:aL1 m=true
 ·have e:=bQ9 hq.symm hs hm h1
  rw[e,if_pos h1]
 rw[if_neg h1,if_neg fun h2=>h1 ?_];have e:=bQ9 hq hm hs h2;rw[e];exact h2
end
section
open Oct
def aY7(acc:List aC4)(s:aC4):List aC4:=match acc.getLast? with|none=>[s]|some t=>if s.goesOn t=true then acc++[s] else[s]
theorem aQ0:∀(l:List aC4) (acc:List aC4) (s:aC4),aG2 acc (l++[s])=aY7 (aG2 acc l) s
 |[],acc,s=>rfl
 |x::r,acc,s=>by
  show aG2 (aY7 acc x) (r++[s])=aY7 (aG2 (aY7 acc x) r) s
  exact aQ0 r _ s
theorem bF3(l:List aC4):∀i,i<=l.length->∃st,st<=i∧(0<i->st<i)∧aG2 [] (l.take i)=(l.take i).drop st
 |0,_=>⟨0,lR _,fun h=>by omega,by simp[aG2]⟩
 |i+1,hi=>by
  obtain⟨st,h1,h2,h3⟩:=bF3 l i (by omega);have hlt:i<l.length:=by omega
  have htk:l.take (i+1)=l.take i++[l[i]]:=by
   rw[List.take_add_one,lW hlt]
   rfl
  rw[htk,aQ0,h3];unfold aY7;have a8:(l.take i++[l[i]]).drop i=[l[i]]:=by
   rw[List.drop_append_of_le_length (by rw[lV];omega),List.drop_eq_nil_of_le (by rw[lV];omega)]
   rfl
  split
  ·exact⟨i,by omega,fun _=>by omega,a8.symm⟩
  rename_i t ht
  split
  ·refine⟨st,by omega,fun _=>by omega,?_⟩
   rw[List.drop_append_of_le_length (by rw[lV];omega)]
  exact⟨i,by omega,fun _=>by omega,a8.symm⟩
theorem takeT_txt(l:List UInt8):(aE8 l).1.length<=65535∨(aE8 l).2.2≠0:=by
 by_cases h:(aE8 l).2.2=0
 ·exact .inl (cP5 h).2.2
 exact .inr h
theorem cO1{p:List UInt8}{a:Int}{q:aK5}(h:aF6 p a=some q):q.b.length<=65535:=by
 unfold aF6 at h;split at h
 ·rename_i t k r h1
  split at h
  ·cases h
  rename_i h2
  injection h with h
  subst h;rcases takeT_txt r with h3|h3
  ·exact h3
  exact absurd (.inl h3) h2
 cases h
theorem bG2:∀(rows:List (List UInt8)) (a:Int) (s s' :aC4),aK7 rows a s=some s' ->(∀e∈s.l,e.b.length<=65535)->(∀e∈s'.l,e.b.length<=65535)∧s'.l.length=s.l.length+rows.length
 |[],a,s,s',h,hs=>by
  injection h with h
  subst h;exact⟨hs,rfl⟩
 |p::r,a,s,s',h,hs=>by
  unfold aK7 at h;split at h
  ·cases h
  rename_i e he
  have h1:=cO1 he;have:=bG2 r _ _ _ h (fun x hx=>by
   rcases List.mem_append.1 hx with hx|hx
   ·exact hs x hx
   obtain rfl:=List.mem_singleton.1 hx;exact h1)
  refine⟨this.1,?_⟩;have h2:=this.2;simp at h2
  rw[h2,mC];omega
theorem bK3{k:Int}{b:List UInt8}{s:aC4}{t:Bool}(h:aD9 k b=some (s,t)):(∀e∈s.l,e.b.length<=65535)∧s.l.length<=b.length:=by
 have hr:=bB9 b;unfold aD9 at h;split at h
 ·injection h with h
  injection h with h _
  subst h;exact⟨by simp,by simp⟩
 rename_i p r hpr
 split at h
 ·cases h
 rename_i f t' hd
 rw[hpr,mC] at hr;obtain⟨s',a8,e⟩:=Option.map_eq_some_iff.1 h;injection e with e _
 subst e;have:=bG2 r _ _ _ a8 (by simp);exact⟨this.1,by have h1:=this.2;simp at h1;omega⟩
theorem aS6:∀{l:List (Nm×FD)} {x:List (aC4×Bool)},aD0 l=some x->∀y∈x,(∀e∈y.1.l,e.b.length<=65535)∧∃q∈l,y.1.l.length<=q.2.b.length
 |[],x,h=>by
  injection h with h
  subst h;simp
 |q::r,x,h=>by
  unfold aD0 at h;split at h
  ·intro y hy
   obtain⟨h1,q',h2,h3⟩:=aS6 h y hy;exact⟨h1,q',List.mem_cons_of_mem _ h2,h3⟩
  split at h
  ·cases h
  rename_i s hs
  obtain⟨x',hx',rfl⟩:=Option.map_eq_some_iff.1 h;intro y hy;rcases List.mem_cons.1 hy with rfl|hy
  ·have:=bK3 (s:=y.1) (t:=y.2) hs
   exact⟨this.1,q,List.mem_cons_self,this.2⟩
  obtain⟨h1,q',h2,h3⟩:=aS6 hx' y hy;exact⟨h1,q',List.mem_cons_of_mem _ h2,h3⟩
theorem cH1{d:DkD}{l:List (aC4×Bool)}(h:aM4 d=some l)(hb:∀q∈d.fs,q.2.b.length<=1000000000):l.length<=d.fs.length∧(∀y∈l,aZ8 y.1∧(1<=y.1.k∧y.1.k<=999999999)∧(y.1.ends=[]∧y.1.l=[]∨bK7 y.1∧1<=y.1.first)∧(∀e∈y.1.l,e.b.length<=65535)∧y.1.l.length<=1000000000)∧aL1 l=true:=by
 unfold aM4 at h;split at h
 ·cases h
 rename_i l0 hl0
 split at h
 ·rename_i hok
  injection h with h
  subst h;have h1:=aP7 hl0 hb;have h2:=aS6 hl0;refine⟨by rw[List.length_mergeSort];exact h1.1,fun y hy=>?_,hok⟩;have a8:y∈l0:=(List.mergeSort_perm l0 _).mem_iff.1 hy;obtain⟨h3,q,hq,h4⟩:=h2 y a8;have h5:=hb q hq;exact⟨(h1.2 y a8).1,(h1.2 y a8).2.1,(h1.2 y a8).2.2,h3,by omega⟩
 cases h
theorem dL3{pw:PWD}(h:pw.cut.1=false)(ho:pw.off=false):pw.cut.2.2.off=false:=by
 unfold PWD.cut at h⊢;split
 ·exact ho
 rename_i h1
 split
 ·exact ho
 rename_i h2
 rw[if_neg h1,if_neg h2] at h;cases h
theorem cN0{d:DkD}{n:Nm}(h:(d.remove n).1=0):(d.remove n).2.pw.off=false:=by
 unfold DkD.remove at h⊢;split
 ·rename_i h1
  rw[if_pos h1] at h;cases h
 rename_i h1
 rw[if_neg h1] at h;split
 ·rename_i h2
  rw[h2] at h;cases h
 rename_i f h2
 rw[h2] at h;simp only[DkD.whole] at h⊢;refine dL3 ?_ (by simpa using h1);by_cases hc:d.pw.cut.1=true
 ·rw[if_pos hc] at h
  cases h
 simpa using hc
end
section
open Go.RowKit Oct
structure aG5 where
 s:aC4
 tn:Bool
 al:Option Addr
 cl:Nat
 ae:Option Addr
 ce:Nat
 rs:List aF2
def aG5.vl(q:aG5):Value:=.slice q.al q.rs.length q.cl
def aG5.ve(q:aG5):Value:=.slice q.ae q.s.ends.length q.ce
def aG5.o(q:aG5):aC4×Bool:=(q.s,q.tn)
instance:Inhabited aG5:=⟨⟨⟨0,0,0,[],[]⟩,false,none,0,none,0,[]⟩⟩
def bA1(q:aG5):List Value:=[.int .i64 q.s.k,.int .i64 q.s.first,.int .i64 q.s.term,q.vl,q.ve,.bool q.tn]
def aJ8(l:List aG5):List Value:=l.flatMap bA1
theorem aW6(l:List aG5):(aJ8 l).length=l.length*6:=by
 induction l with
 |nil=>rfl
 |cons x r ih=>unfold aJ8 at ih⊢;rw[List.flatMap_cons,lT,ih,mC];simp[bA1];omega
theorem bT5(a b:List aG5):aJ8 (a++b)=aJ8 a++aJ8 b:=by unfold aJ8;rw[List.flatMap_append]
theorem bL8(l:List aG5){k:Nat}(hk:k<l.length){j:Nat}(hj:j<6):(aJ8 l)[k*6+j]? =(bA1 l[k])[j]? :=by
 induction l generalizing k with
 |nil=>simp at hk
 |cons x r ih=>
  unfold aJ8 at ih⊢;rw[List.flatMap_cons];cases k with
  |zero=>rw[List.getElem?_append_left (by simp[bA1];omega)];simp
  |succ k=>
   rw[List.getElem?_append_right (by simp[bA1];omega)];have:(k+1)*6+j-(bA1 x).length=k*6+j:=by simp[bA1];omega
   rw[this,ih (by simpa using hk)]
   rfl
theorem cM7:(Tryz.prog.info? 106).map (fun i=>(i.zero,i.size,i.bytes))=some (some (.agg #[.int .i64 0,.int .i64 0,.int .i64 0,.slice none 0 0,.slice none 0 0,.bool false]),6,80):=by kernel_rfl
theorem aG7{P:Program}{w:World}{ops:Array Oper}{rest:List Oper}{o:Oper}{a:Act}{Q:Exit->Act->World->Prop}(hgd:o.guard=none)(s x:Operand)(t:TypeId)
  (ho:o.op=.call {callee:=.builtin .append,args:=#[s,x],argTypes:=#[t,t]})
  (base:Nat) (e:TypeId) (z:Value) (size bytes:Nat) (ht:P.underlying t=some (.slice e)) (hinfo:(P.info? e).map (fun i=>(i.zero,i.size,i.bytes))=some (some z,size,bytes)) (hzs:z.cells.size=size) (hsz:0<size)
  (v:Value) (n:Nat) (xs:List Value) (hs:a.eval s=v) (hown:w.ownsRow base e size v n xs)
  (ad:Addr) (m c:Nat) (news:List Value) (hx:a.eval x=.slice (some ad) m c) (hl:news.length=m*size) (hnews:∀j u,news[j]? =some u->w.cell? (ad.add j)=some u) (h1:∀u∈news,u.oneCell' =true)
  (h63:n+m<=maxLen) (hbytes:(n+m)*bytes<=140737488355328) (hbase:base<=w.heap.size)
  (h:∀v' w',w'.ownsRow base e size v' (n+m) (xs++news)->w.grownBy w' v.ownBlock->aR5 v' v.ownBlock w.heap.size->wpList P ops Q rest (a.put o.dst v') w'):wpList P ops Q (o::rest) a w:=
 wpList_plain hgd fun _ hK=>aI2 s x t ho base e z size bytes ht hinfo hzs hsz v n xs hs hown ad m c news hx hl hnews h1 h63 hbytes hbase fun v' w' h2 h3 h4=>hK _ _ (h v' w' h2 h3 h4)
theorem aV8{w:World}{base base' :Nat}{e:TypeId}{size n:Nat}{v:Value}{xs:List Value}(h:w.ownsRow base e size v n xs)(hb:base' <=base):w.ownsRow base' e size v n xs:=by
 refine⟨h.1,?_⟩;rcases h.2 with h0|⟨g,cap,a8,h1,h2,r⟩
 ·exact .inl h0
 exact .inr ⟨g,cap,a8,h1,by omega,r⟩
theorem aE6{w w' :World}{base:Nat}{e:TypeId}{size n:Nat}{v:Value}{xs:List Value}(h:w.ownsRow base e size v n xs)(hb:Below w.heap.size w w'):w'.ownsRow base e size v n xs:=World.ownsRow.kept h (aA5 hb none) (by cases v.ownBlock<;>simp)
structure aV3(w:World)(B:Nat)(q:aG5):Prop where
 ents:w.ownsRow B 65 4 q.vl q.rs.length (aA7 q.rs)
 map:q.rs.map aF2.e=q.s.l
 dat:∀x∈q.rs,bC9 w B x.v x.e.b
 ends:Own w B 3 q.ve (q.s.ends.map (Value.int .i64))
section
variable{w w' :World}{B:Nat}{q:aG5}
theorem aV3.below(h:aV3 w B q)(hb:Below w.heap.size w w'):aV3 w' B q:=
 ⟨World.ownsRow.kept h.ents (aA5 hb none) (by cases q.vl.ownBlock<;>simp),h.map,fun x hx=>(h.dat x hx).keep fun k hk=>hb.block k ((h.dat x hx).lt k hk).2,Own.below h.ends hb (lR _)⟩
theorem aV3.mono(h:aV3 w B q){B' :Nat}(hb:B' <=B):aV3 w B' q:=⟨aV8 h.ents hb,h.map,fun x hx=>(h.dat x hx).mono hb,Own.mono h.ends hb⟩
theorem aV3.grown(h:aV3 w B q){base n:Nat}{v:Value}{xs:List Value}(hown:w.ownsRow base 106 6 v n xs)(hg:w.grownBy w' v.ownBlock):aV3 w' B q:=
 ⟨World.ownsRow.kept h.ents hg (jrow_type_ne h.ents hown (by decide)),h.map,fun x hx=>(h.dat x hx).keep fun k hk=>hg.block k ((h.dat x hx).lt k hk).2 (fun e=>by
  obtain⟨g,cs,fz,e1,hc⟩:=(h.dat x hx).held;rw[hk] at e1;injection e1 with e1
  subst e1;obtain⟨cs',hc'⟩:=aD1 hown e.symm;rw[hc] at hc';injection hc' with hc'
  injection hc' with _ h _
  exact absurd h (by decide)),Own.kept h.ends hg (jrow_type_ne h.ends hown (by decide))⟩
theorem aV3.of_sg{G:Nat}{s:aC4}{rs:List aF2}{Al Ae:Option Addr}{cl ce:Nat}{tn:Bool}{tv:Value}(h:aY5 w G s rs (.slice Al rs.length cl) (.slice Ae s.ends.length ce) tv):aV3 w (G+1) ⟨s,tn,Al,cl,Ae,ce,rs⟩:=⟨h.ents,h.map,h.dat,h.ends⟩
end
theorem bD5(l:List (aC4×Bool)):aL1 l=true↔∀j (h:j+1<l.length),l[j].1.k=l[j+1].1.k-1∧l[j].2=false∧l[j].1.ends≠[]:=by
 induction l with
 |nil=>simp[aL1]
 |cons a r ih=>
  cases r with
  |nil=>simp[aL1]
  |cons b r=>
   unfold aL1;simp only[Bool.and_eq_true,decide_eq_true_eq,ih];constructor
   ·rintro⟨⟨⟨h1,h2⟩,h3⟩,h4⟩ j hj
    cases j with
    |zero=>exact⟨h1,by simpa using h2,by simpa using h3⟩
    |succ j=>exact h4 j (by simpa using hj)
   intro h;have h0:=h 0 (by simp);exact⟨⟨⟨h0.1,by simpa using h0.2.1⟩,by simpa using h0.2.2⟩,fun j hj=>h (j+1) (by simpa using hj)⟩
def cZ5(l:List aG5)(j:Nat)(h:j<l.length):Prop:=(∀h0:0<j,(l[j-1]'(by omega)).s.k=l[j].s.k-1)∧(j+1<l.length->l[j].tn=false∧l[j].s.ends≠[])
theorem cA9(l:List aG5):aL1 (l.map aG5.o)=true↔∀j h,cZ5 l j h:=by
 rw[bD5];constructor
 ·intro h j hj
  refine⟨fun h0=>?_,fun h1=>?_⟩
  ·have:=h (j-1) (by rw[lU];omega)
   simp only[List.getElem_map] at this;have e:j-1+1=j:=by omega
   simp only[e] at this;exact this.1
  have:=h j (by rw[lU];exact h1);simp only[List.getElem_map] at this;exact⟨this.2.1,this.2.2⟩
 intro h j hj;rw[lU] at hj;simp only[List.getElem_map];have h1:=(h (j+1) (by omega)).1 (by omega);have h2:=(h j (by omega)).2 (by omega);exact⟨h1,h2.1,h2.2⟩
end
section
open Go.RowKit Oct
structure bC8(w:World)(F:Nat->Prop)(ad:Addr)(s:aC4):Prop where
 rd:aT8 w F ad s
 ends:s.ends.length=s.l.length+1
 len:s.l.length<=1099511627776
 txt:∀e∈s.l,e.b.length<=65535
section
variable{w w' :World}{F F' :Nat->Prop}{ad:Addr}{s t:aC4}
theorem bC8.keep(h:bC8 w F ad s)(hs:w.heap.size<=w'.heap.size)(hk:∀k,F k->w'.heap[k]? =w.heap[k]?):bC8 w' F ad s:=⟨h.rd.keep hs hk,h.ends,h.len,h.txt⟩
theorem bC8.mono(h:bC8 w F ad s)(hF:∀k,F k->F' k):bC8 w F' ad s:=⟨h.rd.mono hF,h.ends,h.len,h.txt⟩
theorem aT8.cells(h:aT8 w F ad s):∃b o Al cl rs Ae ce,ad=⟨b,o,none⟩∧F b∧b<w.heap.size∧w.cell? ⟨b,o,none⟩=some (.int .i64 s.k)∧w.cell? ⟨b,o+1,none⟩=some (.int .i64 s.first)∧w.cell? ⟨b,o+2,none⟩=some (.int .i64 s.term)∧w.cell? ⟨b,o+3,none⟩=some (.slice Al s.l.length cl)∧w.cell? ⟨b,o+4,none⟩=some (.slice Ae s.ends.length ce)∧
  (s.l.length<=cl∧cl<=maxLen∧s.ends.length<=ce∧ce<=maxLen)∧RdF w F Al (aA7 rs)∧rs.map aF2.e=s.l∧(∀q∈rs,bF9 w F q.v q.e.b)∧RdF w F Ae (s.ends.map (Value.int .i64)):=by
 obtain⟨⟨Al,cl,rs,Ae,ce,h1,h2,h3,h4,h5,h6,h7,h8,h9⟩,hn⟩:=h;obtain⟨b,o,e,hF,a8,hc⟩:=h1 (by simp);injection e with e
 subst e;exact⟨b,o,Al,cl,rs,Ae,ce,rfl,hF,a8,hc 0 _ rfl,hc 1 _ rfl,hc 2 _ rfl,hc 3 _ rfl,hc 4 _ rfl,⟨h2,h3,h4,h5⟩,h6,h7,h8,h9⟩
theorem aT8.last(h:aT8 w F ad s)(hl:s.l.length<=4611686018427387904):
  Calls Tryz.prog 62 #[.pointer (some ad)] w fun e w' =>e=.returned (.tuple #[.int .i64 s.last.1,.int .i64 s.last.2])∧Below w.heap.size w w' :=by
 obtain⟨b,o,Al,cl,rs,Ae,ce,rfl,hF,f6,c0,c1,c2,c3,c4,_,h6,h7,h8,h9⟩:=h.cells;have d8:rs.length=s.l.length:=by rw[<-h7,lU]
 have d9:=h.num.first;rw[<-d8] at c3 hl;rcases mJ rs with rfl|⟨r,q,rfl⟩
 ·have a9:s.last=(s.first-1,s.term):=by
   unfold aC4.last;rw[<-h7]
   rfl
  rw[a9];exact bQ6 b o s.first s.term Al cl ⟨d9.1,by omega⟩ w c1 c2 c3
 rw[mA] at h6 h7 h8;simp only[mA,lT] at c3 hl;have a9:s.last=(q.e.ix,q.e.tm):=by
  unfold aC4.last;rw[<-h7];simp
 rw[a9];obtain⟨eb,eo,rfl,_,b8,hc⟩:=h6 (by rw[aC3];simp);obtain⟨Av,cd,hv,_⟩:=h8 q (by simp);have a8:∀j,j<4->(aA7 (r++[q]))[r.length*4+j]? =(aK2 q)[j]? :=fun j hj=>by
  rw[aF4 _ (k:=r.length) (by simp) hj];simp
 have e0:=hc (r.length*4+0) _ (a8 0 (by omega));have e1:=hc (r.length*4+1) _ (a8 1 (by omega));have e2:=hc (r.length*4+2) _ (a8 2 (by omega));have e3:=hc (r.length*4+3) _ (a8 3 (by omega));exact bQ4 b o r.length eb eo cl q.e.ix q.e.tm q.e.kd Av q.e.b.length cd (by simp at hl;omega) w c3 (by simpa[Nat.add_assoc] using e0) (by simpa[Nat.add_assoc] using e1) (by simpa[Nat.add_assoc] using e2) (by simpa[hv,Nat.add_assoc] using e3) f6 b8
theorem bC8.long(h:bC8 w F ad s):Calls Tryz.prog 56 #[.pointer (some ad)] w fun e w' =>e=.returned (.int .i64 s.long)∧Below w.heap.size w w' :=by
 obtain⟨b,o,Al,cl,rs,Ae,ce,rfl,hF,b8,c0,c1,c2,c3,c4,_,h6,h7,h8,h9⟩:=h.rd.cells;have he:=h.ends;have hl:=h.len;rcases mJ s.ends with h0|⟨r,x,hr⟩
 ·rw[h0] at he
  simp at he
 rw[mA] at hr;have a8:s.long=x:=by unfold aC4.long;rw[hr];simp
 rw[hr] at h9 c4 he;rw[a8];obtain⟨eb,eo,rfl,_,a9,hc⟩:=h9 (by simp);have e0:=hc r.length (.int .i64 x) (by simp);rw[lT] at c4 he;simp at he
 exact bY0 b o r.length eb eo ce x (by omega) w c4 e0
theorem bC8.nameJ(h:bC8 w F ad s)(ht:Tab w):Calls Tryz.prog 52 #[.pointer (some ad)] w fun e w' =>e=.returned (.string (str (aA8 s.k)))∧Below w.heap.size w w' :=by
 obtain⟨b,o,Al,cl,rs,Ae,ce,rfl,hF,a8,c0,_⟩:=h.rd.cells;exact aS3 b o s.k h.rd.num.k w c0 ht
theorem aT8.goes{ad' :Addr}(h:aT8 w F ad s)(h' :aT8 w F' ad' t)(hl:t.l.length<=4611686018427387904)(h1:1<=s.first):
  Calls Tryz.prog 53 #[.pointer (some ad),.pointer (some ad')] w fun e w' =>e=.returned (.bool (s.goesOn t))∧Below w.heap.size w w' :=by
 obtain⟨b,o,Al,cl,rs,Ae,ce,rfl,hF,f8,c0,c1,c2,_⟩:=h.cells;have b8:=qZ (h'.last hl);obtain⟨fi,f6⟩:∃x,x=s.first:=⟨_,rfl⟩
 obtain⟨tm,d8⟩:∃x,x=s.term:=⟨_,rfl⟩
 obtain⟨li,d9⟩:∃x,x=t.last.1:=⟨_,rfl⟩
 obtain⟨lt,a8⟩:∃x,x=t.last.2:=⟨_,rfl⟩
 have g9:1<=fi∧fi<=9223372036854775806:=by have:=h.num.first;omega
 have f7:s.goesOn t=(decide (fi-1=li)&&decide (tm=lt)):=by unfold aC4.goesOn;rw[f6,d8,d9,a8]
 rw[f7];rw[<-f6] at c1;rw[<-d8] at c2;rw[<-d9,<-a8] at b8;have f9:=qZ c1;have g8:=qZ c2;clear f6 d8 d9 a8 f7 h h' h1 c0 c1 c2;have hw:IntKind.i64.wrap (fi-1)=fi-1:=mH _ (by omega);go_enter Tryz.func53,Tryz.ntmps53
 go_wp2_with fail
 refine b8.out.mono ?_;rintro e w2 ⟨rfl,a9⟩;have d1:w2.cell? ⟨b,o+1,none⟩=some (.int .i64 fi):=(a9.cell (p:=⟨b,o+1,none⟩) f8).trans f9.out;have d2:w2.cell? ⟨b,o+2,none⟩=some (.int .i64 tm):=(a9.cell (p:=⟨b,o+2,none⟩) f8).trans g8.out;have HB:=qZ a9;clear a9 b8;by_cases h1:fi-1=li
 ·have h2:(fi-1==li)=true:=by simpa using h1
  have h3:decide (fi-1=li)=true:=decide_eq_true h1;have H3:=qZ h3;clear h1 h3;go_wp2_with fail
  go_ret
  refine⟨?_,HB.out⟩;rw[H3.out,Bool.true_and]
  rfl
 have h2:(fi-1==li)=false:=by simpa using h1
 have h3:decide (fi-1=li)=false:=decide_eq_false h1;have H3:=qZ h3;clear h1 h3;go_wp2_with fail
 go_ret
 refine⟨?_,HB.out⟩;rw[H3.out]
 rfl
end
end
section
open Go.RowKit Oct
structure JAt(w:World)(F:Nat->Prop)(gj g:Nat)(j:JnP):Prop where
 at_:∃A c ads,Blk w gj 53 #[.int .i64 j.term,.int .i64 j.vote,.slice A j.segs.length c,.pointer (some ⟨g,0,none⟩),.int .i64 j.bad]∧(j.segs.length<=c∧c<=maxLen)∧RdF w F A ((ads:List Addr).map fun a=>.pointer (some a))∧ads.length=j.segs.length∧∀i (h:i<ads.length) (h' :i<j.segs.length),bC8 w F ads[i] j.segs[i]
 len:j.segs.length<=1099511627776
 num:(-9223372036854775808<=j.term∧j.term<=9223372036854775807)∧(-9223372036854775808<=j.vote∧j.vote<=9223372036854775807)
section
variable{w w' :World}{F F' :Nat->Prop}{gj g:Nat}{j:JnP}
theorem JAt.keep(h:JAt w F gj g j)(hs:w.heap.size<=w'.heap.size)(hk:∀k,F k->w'.heap[k]? =w.heap[k]?)(hg:w'.heap[gj]? =w.heap[gj]?):JAt w' F gj g j:=by
 obtain⟨⟨A,c,a8,h1,h2,h3,h4,h5⟩,h6,h7⟩:=h;exact⟨⟨A,c,a8,hg.trans h1,h2,h3.keep hs hk,h4,fun i h h' =>(h5 i h h').keep hs hk⟩,h6,h7⟩
theorem JAt.mono(h:JAt w F gj g j)(hF:∀k,F k->F' k):JAt w F' gj g j:=by
 obtain⟨⟨A,c,a8,h1,h2,h3,h4,h5⟩,h6,h7⟩:=h;exact⟨⟨A,c,a8,h1,h2,h3.mono hF,h4,fun i h h' =>(h5 i h h').mono hF⟩,h6,h7⟩
theorem JAt.lt(h:JAt w F gj g j):gj<w.heap.size:=by
 obtain⟨⟨A,c,a8,h1,_⟩,_⟩:=h;exact h1.lt
theorem JAt.below(h:JAt w F gj g j)(hF:∀k,F k->k<w.heap.size)(hb:Below w.heap.size w w'):JAt w' F gj g j:=h.keep hb.size (fun k hk=>hb.block k (hF k hk)) (hb.block gj h.lt)
theorem JAt.meta_(h:JAt w F gj g j):Calls Tryz.prog 19 #[.pointer (some ⟨gj,0,none⟩)] w fun e w' =>e=.returned (.tuple #[.int .i64 j.term,.int .i64 j.vote])∧Below w.heap.size w w' :=by
 obtain⟨⟨A,c,a8,h1,_⟩,_⟩:=h;have c0:w.cell? ⟨gj,0,none⟩=some (.int .i64 j.term):=h1.cell 0;have c1:w.cell? ⟨gj,1,none⟩=some (.int .i64 j.vote):=h1.cell 1;clear h1;go_enter Tryz.func19,Tryz.ntmps19
 go_wp2_with fail
 go_quiet (fail);go_wp2_with fail
 go_ret2
 exact⟨rfl,aA3 (lS _ w) _⟩
theorem JAt.base(h:JAt w F gj g j):Calls Tryz.prog 20 #[.pointer (some ⟨gj,0,none⟩)] w fun e w' =>e=.returned (.tuple #[.int .i64 j.base.1,.int .i64 j.base.2])∧Below w.heap.size w w' :=by
 obtain⟨⟨A,c,f8,h1,h2,h3,h4,h5⟩,h6,_⟩:=h;have c2:w.cell? ⟨gj,2,none⟩=some (.slice A j.segs.length c):=h1.cell 2;clear h1;unfold JnP.base;rcases hs:j.segs with _|⟨s,r⟩
 ·rw[hs] at c2
  clear h2 h3 h4 h5 h6 hs;simp only[List.length_nil] at c2;go_enter Tryz.func20,Tryz.ntmps20
  go_wp2_with fail
  go_ret2
  exact⟨rfl,lS _ w⟩
 have d8:0<j.segs.length:=by rw[hs];simp
 have b8:0<f8.length:=by omega
 obtain⟨ab,ao,rfl,_,g8,f6⟩:=h3 (by rw[lU];exact b8);have hM:=h5 0 b8 d8;simp only[hs,List.getElem_cons_zero] at hM;obtain⟨b,o,Al,cl,rs,Ae,ce,f7,hF,i4,d0,d1,d2,_⟩:=hM.rd.cells;have e0:w.cell? ⟨ab,ao,none⟩=some (.pointer (some ⟨b,o,none⟩)):=f6 0 _ (by rw[List.getElem?_map,lW b8,f7];rfl);obtain⟨nl,d9⟩:∃n,n=j.segs.length:=⟨_,rfl⟩
 rw[<-d9] at c2 d8;have g9:((nl:Int)==0)=false:=by simp;omega
 have f9:=hM.rd.num.first;obtain⟨fi,a9⟩:∃x,x=s.first:=⟨_,rfl⟩
 obtain⟨tm,a8⟩:∃x,x=s.term:=⟨_,rfl⟩
 rw[<-a9] at d1 f9;rw[<-a8] at d2;simp only;rw[<-a9,<-a8];clear h2 h3 h4 h5 h6 hs hM f6 f7 b8 d9 d0 a9 a8;have hw:IntKind.i64.wrap (fi-1)=fi-1:=mH _ (by omega);go_enter Tryz.func20,Tryz.ntmps20
 go_wp2_with fail
 go_quiet (fail);go_wp2_with fail
 go_ret2
 exact⟨rfl,aA3 (lS _ w) _⟩
theorem JAt.last(h:JAt w F gj g j):Calls Tryz.prog 40 #[.pointer (some ⟨gj,0,none⟩)] w fun e w' =>e=.returned (.tuple #[.int .i64 j.last.1,.int .i64 j.last.2])∧Below w.heap.size w w' :=by
 obtain⟨⟨A,c,i4,h1,h2,h3,h4,h5⟩,h6,_⟩:=h;have c2:w.cell? ⟨gj,2,none⟩=some (.slice A j.segs.length c):=h1.cell 2;clear h1;rcases mJ j.segs with hs|⟨r,s,hs⟩
 ·have a8:j.last=(0,0):=by unfold JnP.last;rw[hs];rfl
  rw[a8];rw[hs] at c2;clear a8 h2 h3 h4 h5 h6 hs;simp only[List.length_nil] at c2;go_enter Tryz.func40,Tryz.ntmps40
  go_wp2_with fail
  go_ret2
  exact⟨rfl,lS _ w⟩
 rw[mA] at hs;have hl:j.segs.length=r.length+1:=by rw[hs];simp
 have b8:r.length<i4.length:=by omega
 have f8:r.length<j.segs.length:=by omega
 obtain⟨ab,ao,rfl,_,g9,f9⟩:=h3 (by rw[lU];omega);have hM:=h5 r.length b8 f8;have f6:j.segs[r.length]=s:=by simp[hs]
 rw[f6] at hM;obtain⟨b,o,Al,cl,rs,Ae,ce,d8,hF,g8,d0,d1,d2,_⟩:=hM.rd.cells;have e0:w.cell? ⟨ab,ao+r.length,none⟩=some (.pointer (some ⟨b,o,none⟩)):=f9 r.length _ (by rw[List.getElem?_map,lW b8,d8];rfl);have d9:=qZ (fun n=>(hM.keep (w' :=w.drewN n) (lR _) (fun _ _=>rfl)).rd.last (by have:=hM.len;omega));rw[d8] at d9;have a8:j.last=s.last:=by unfold JnP.last;rw[hs];simp
 rw[a8];rw[hl] at c2;obtain⟨n,hn⟩:∃n,n=r.length:=⟨_,rfl⟩
 rw[<-hn] at c2 e0;have l4:n<=1099511627776:=by omega
 have j6:(((n+1:Nat):Int)==0)=false:=by simp;omega
 have hw:IntKind.i64.wrap (((n+1:Nat):Int)-1)=(n:Int):=by rw[mH _ (by omega)];omega
 have i6:((n+1:Nat):Int)-1=(n:Int):=by omega
 have j8:b<w.heap.size:=g8;have l5:IntKind.i64.wrap (n:Int)=(n:Int):=mH _ (by omega);have j9:0<=(n:Int)∧(n:Int)<(n:Int)+1:=by omega
 clear h2 h3 h4 h5 h6 hs hM f9 d8 b8 d0 d1 d2 hl f8 f6 a8 hn g8;go_enter Tryz.func40,Tryz.ntmps40
 go_wp2_with fail
 refine wp_region_held_drew (S:=fun W=>W.cell? ⟨gj,2,none⟩=some (.slice (some ⟨ab,ao,none⟩) (n+1) c)∧W.cell? ⟨ab,ao+n,none⟩=some (.pointer (some ⟨b,o,none⟩))∧True∧True) (by kernel_rfl) ⟨c2,e0,trivial,trivial⟩ (fun hHeld=>?_);refine zT 0 (k:=?_);refine zT 1 (k:=?_);refine zT 2 (k:=?_);refine zT 3 (k:=?_);refine zT 4 (k:=?_);refine zT 5 (k:=?_);refine zT 6 (k:=?_);refine zT 7 (k:=?_);refine zT 8 (k:=?_);refine zT 9 (k:=?_);refine zT 10 (k:=?_);refine zT 11 (k:=?_);simp only[zA,zB,zF,zG,zC,zD,zE];refine zV 12 (k:=fun K hK=>?_);simp only[zA,zB];go_simp;refine(show Calls _ _ _ w.drew _ from d9.out 1).mono ?_;rintro e w1 ⟨rfl,f7⟩;have a9:Below w.heap.size w w1:=((lS _ w).drew).trans f7;have HB:=qZ a9;have k0:w1.cell? ⟨gj,2,none⟩=some (.slice (some ⟨ab,ao,none⟩) (n+1) c):=(a9.cell (p:=⟨gj,2,none⟩) (mI w ⟨gj,2,none⟩ c2)).trans c2;have k1:w1.cell? ⟨ab,ao+n,none⟩=some (.pointer (some ⟨b,o,none⟩)):=(a9.cell (p:=⟨ab,ao+n,none⟩) g9).trans e0;refine hK.out _ _ ⟨k0,k1,trivial,trivial⟩ (fun hHeld=>?_);clear hK K f7 a9;try simp only[zF,zG,zC,zD,zE]
 refine zT 13 (k:=?_);refine zT 14 (k:=?_);refine zT 15 (k:=?_);refine zT 16 (k:=?_);simp only[zA,zB,zF,zG,zC,zD,zE];refine wpAnyH_done (by kernel_rfl) ?_ _;go_wp2_with fail
 go_ret2
 exact⟨rfl,HB.out⟩
end
end
section
open Go.RowKit Oct
theorem bM6:(Tryz.prog.info? 108).map (fun i=>(i.zero,i.size,i.bytes))=some (some (.pointer none),1,8):=by kernel_rfl
theorem bB3(w:World)(e:TypeId)(size:Nat):(w.alloc (.cells #[] e)).ownsRow w.heap.size e size (.slice (some ⟨w.heap.size,0,none⟩) 0 0) 0 []:=
 ⟨by simp,.inr ⟨w.heap.size,0,#[],rfl,lR _,by show(w.heap.push _)[w.heap.size]? =_;simp,lR _,Nat.zero_le _,by simp,by simp⟩⟩
theorem bT9{w:World}{B:Nat}{ad:Addr}{xs:List Value}(h:Rd w B (some ad) xs)(hn:0<xs.length):∀j u,xs[j]? =some u->w.cell? (ad.add j)=some u:=by
 obtain⟨a8,e,_,hc⟩:=h hn;injection e with e
 subst e;exact hc
theorem aT5{P:Program}(w:World)(base:Nat)(t ty e:TypeId)(i:TypeInfo)(size:Nat)(ht:P.underlying t=some (.slice e))(hi:P.info? e=some i)
  (v:Value) (n:Nat) (xs:List Value) (a8:w.ownsRow base e size v n xs) (A:Option Addr) (c:Nat):
  (Builtin.append_ #[t,t] ty #[v,.slice A 0 c]).run P w=.ok v w:=by
 rcases a8.2 with⟨rfl,rfl⟩|⟨g,cap,b8,rfl,_,_,a9,_⟩
 ·cases A<;>simp[Builtin.append_,run_underlying ht,sizeOf,typeInfo,hi,Builtin.lenOf,Builtin.firstCells,loadCells,loadCellsFrom]
 cases A<;>simp[Builtin.append_,run_underlying ht,sizeOf,typeInfo,hi,Builtin.lenOf,Builtin.firstCells,a9,storeCells,loadCells,loadCellsFrom]
theorem bH1{P:Program}{w:World}{o:Oper}{a:Act}{K:Act->World->Prop}{Q:Exit->Act->World->Prop}(s x:Operand)(t:TypeId)
  (ho:o.op=.call {callee:=.builtin .append,args:=#[s,x],argTypes:=#[t,t]})
  (base:Nat) (e:TypeId) (z:Value) (size bytes:Nat) (ht:P.underlying t=some (.slice e)) (a9:(P.info? e).map (fun i=>(i.zero,i.size,i.bytes))=some (some z,size,bytes)) (f9:z.cells.size=size) (f7:0<size)
  (D:Option Addr) (hs:a.eval s=.slice D 0 0) (d8:w.ownsRow base e size (.slice D 0 0) 0 [])
  (A:Option Addr) (m c:Nat) (news:List Value) (hx:a.eval x=.slice A m c) (hl:news.length=m*size) (f6:0<m->∃ad,A=some ad∧∀j u,news[j]? =some u->w.cell? (ad.add j)=some u) (h1:∀u∈news,u.oneCell' =true)
  (g9:m<=maxLen) (a8:m*bytes<=140737488355328) (f8:base<=w.heap.size)
  (h:∀v' w',w'.ownsRow base e size v' m news->Below w.heap.size w w' ->K (a.put o.dst v') w'):o.wp P a w K Q:=by
 obtain⟨i,hi,hz,d9,i6⟩:=info_parts a9;rcases Nat.eq_zero_or_pos m with hm|hm
 ·subst hm
  have hn:news=[]:=mD (by simpa using hl);subst hn;have b8:=aT5 (P:=P) w base t o.type e i size ht hi _ 0 [] d8 A c;unfold Oper.wp execOp;simp only[ho,resolve,invoke,builtin,Sem.run_bind,Sem.run_pure,Result.andThen_ok,List.map_toArray,mG,List.map_nil,hs,hx,b8];exact h _ _ d8 (lS _ _)
 obtain⟨ad,rfl,hc⟩:=f6 hm;have g8:D=none->(0:Nat)=0∧(0:Nat)=0:=fun _=>⟨rfl,rfl⟩
 have key:∀v' w',w'.ownsRow w.heap.size e size v' (0+m) ([]++news)->w.grownBy w' none->K (a.put o.dst v') w' :=fun v' w' h2 h3=>by
  rw[Nat.zero_add,List.nil_append] at h2;refine h v' w' ⟨h2.1,?_⟩ (aH1 h3);rcases h2.2 with h4|⟨g,cap,i4,hv,j6,r⟩
  ·exact .inl h4
  exact .inr ⟨g,cap,i4,hv,by omega,r⟩
 cases D with
 |some b=>
  obtain⟨v',w',b8,r1,r2⟩:=run_append_arg_grows (P:=P) w t o.type e i z size bytes ht hi hz d9 i6 f9 f7 b 0 0 [] (by simp) (fun j u hj=>by simp at hj) ad m c news hl hc (by omega) (by rw[Nat.zero_add];exact g9) (by rw[Nat.zero_add];exact a8);unfold Oper.wp execOp;simp only[ho,resolve,invoke,builtin,Sem.run_bind,Sem.run_pure,Result.andThen_ok,List.map_toArray,mG,List.map_nil,hs,hx,b8];exact key _ _ r1 r2
 |none=>
  exact aI2 s x t ho w.heap.size e z size bytes ht a9 f9 f7 (.slice none 0 0) 0 [] hs (World.ownsRow_nil _ _ _ _) ad m c news hx hl hc h1 (by rw[Nat.zero_add];exact g9) (by rw[Nat.zero_add];exact a8) (lR _) fun v' w' h2 h3 _=>key v' w' h2 h3
theorem aH9{P:Program}{w:World}{ops:Array Oper}{rest:List Oper}{o:Oper}{a:Act}{Q:Exit->Act->World->Prop}(hgd:o.guard=none)(s x:Operand)(t:TypeId)
  (ho:o.op=.call {callee:=.builtin .append,args:=#[s,x],argTypes:=#[t,t]})
  (base:Nat) (e:TypeId) (z:Value) (size bytes:Nat) (ht:P.underlying t=some (.slice e)) (hinfo:(P.info? e).map (fun i=>(i.zero,i.size,i.bytes))=some (some z,size,bytes)) (hzs:z.cells.size=size) (hsz:0<size)
  (D:Option Addr) (hs:a.eval s=.slice D 0 0) (hown:w.ownsRow base e size (.slice D 0 0) 0 [])
  (A:Option Addr) (m c:Nat) (news:List Value) (hx:a.eval x=.slice A m c) (hl:news.length=m*size) (hnews:0<m->∃ad,A=some ad∧∀j u,news[j]? =some u->w.cell? (ad.add j)=some u) (h1:∀u∈news,u.oneCell' =true)
  (h63:m<=maxLen) (hbytes:m*bytes<=140737488355328) (hbase:base<=w.heap.size)
  (h:∀v' w',w'.ownsRow base e size v' m news->Below w.heap.size w w' ->wpList P ops Q rest (a.put o.dst v') w'):wpList P ops Q (o::rest) a w:=
 wpList_plain hgd fun _ hK=>bH1 s x t ho base e z size bytes ht hinfo hzs hsz D hs hown A m c news hx hl hnews h1 h63 hbytes hbase fun v' w' h2 h3=>hK _ _ (h v' w' h2 h3)
theorem bK8(A:Option Addr)(n c:Nat)(xs:List Value)(w:World)(hr:Rd w w.heap.size A xs)(hx:xs.length=n*4)(h1:∀u∈xs,u.oneCell' =true)(hn:n<=1099511627776):
  Calls Tryz.prog 113 #[.slice A n c] w fun e w' =>∃v,e=.returned v∧w'.ownsRow w.heap.size 65 4 v n xs∧Below w.heap.size w w' :=by
 have HR:=qZ hr;have HX:=qZ hx;cases A with
 |none=>
  have h0:xs=[]:=by
   refine Classical.byContradiction fun h=>?_
   obtain⟨ad,h1,_⟩:=hr (List.length_pos_iff.2 h);cases h1
  subst h0;obtain rfl:n=0:=by simp at hx;omega
  clear hr hx;have he:∀W:World,(binOp .eql 40 (.slice none 0 c) (.slice none 0 0)).run Tryz.prog W=.ok (.bool true) W:=fun _=>rfl
  go_enter Tryz.func113,Tryz.ntmps113
  go_wp2_with fail
  go_ret
  exact⟨_,rfl,World.ownsRow_nil _ _ _ _,lS _ _⟩
 |some ad=>
  have he:∀W:World,(binOp .eql 40 (.slice (some ad) n c) (.slice none 0 0)).run Tryz.prog W=.ok (.bool false) W:=fun _=>rfl
  have a8:Below w.heap.size w (w.alloc (.cells #[] 65)):=(lS _ w).alloc (lR _) _;have HB:=qZ a8;have HO:=qZ (bB3 w 65 4);have b8:=qZ (hr.below a8);clear hr hx a8;go_enter Tryz.func113,Tryz.ntmps113
  go_wp2_with (at_builtin;refine aH9 rfl (.tmp 5) (.tmp 6) 40 rfl w.heap.size 65 (.agg #[.int .i64 0,.int .i64 0,.int .i64 0,.slice none 0 0]) 4 48 Tryz.underlying40 aM3 rfl (by decide) (some ⟨w.heap.size,0,none⟩) rfl HO.out (some ad) n c xs rfl HX.out (fun hm=>⟨ad,rfl,bT9 b8.out (by rw[HX.out];omega)⟩) h1 (by unfold maxLen;omega) (by omega) (by simp) ?_;intro v1 w1 a9 hb;have HV:=qZ a9;have d8:=qZ (HB.out.trans (hb.mono (by simp)));clear a9 hb)
  go_ret
  exact⟨_,rfl,HV.out,d8.out⟩
theorem cF3(A:Option Addr)(n c:Nat)(xs:List Value)(w:World)(hr:Rd w w.heap.size A xs)(hx:xs.length=n*1)(h1:∀u∈xs,u.oneCell' =true)(hn:n<=1099511627776):
  Calls Tryz.prog 114 #[.slice A n c] w fun e w' =>∃v,e=.returned v∧w'.ownsRow w.heap.size 3 1 v n xs∧Below w.heap.size w w' :=by
 have HR:=qZ hr;have HX:=qZ hx;cases A with
 |none=>
  have h0:xs=[]:=by
   refine Classical.byContradiction fun h=>?_
   obtain⟨ad,h1,_⟩:=hr (List.length_pos_iff.2 h);cases h1
  subst h0;obtain rfl:n=0:=by simp at hx;omega
  clear hr hx;have he:∀W:World,(binOp .eql 41 (.slice none 0 c) (.slice none 0 0)).run Tryz.prog W=.ok (.bool true) W:=fun _=>rfl
  go_enter Tryz.func114,Tryz.ntmps114
  go_wp2_with fail
  go_ret
  exact⟨_,rfl,World.ownsRow_nil _ _ _ _,lS _ _⟩
 |some ad=>
  have he:∀W:World,(binOp .eql 41 (.slice (some ad) n c) (.slice none 0 0)).run Tryz.prog W=.ok (.bool false) W:=fun _=>rfl
  have a8:Below w.heap.size w (w.alloc (.cells #[] 3)):=(lS _ w).alloc (lR _) _;have HB:=qZ a8;have HO:=qZ (bB3 w 3 1);have b8:=qZ (hr.below a8);clear hr hx a8;go_enter Tryz.func114,Tryz.ntmps114
  go_wp2_with (at_builtin;refine aH9 rfl (.tmp 5) (.tmp 6) 41 rfl w.heap.size 3 (.int .i64 0) 1 8 Tryz.underlying41 bB1 rfl (by decide) (some ⟨w.heap.size,0,none⟩) rfl HO.out (some ad) n c xs rfl HX.out (fun hm=>⟨ad,rfl,bT9 b8.out (by rw[HX.out];omega)⟩) h1 (by unfold maxLen;omega) (by omega) (by simp) ?_;intro v1 w1 a9 hb;have HV:=qZ a9;have d8:=qZ (HB.out.trans (hb.mono (by simp)));clear a9 hb)
  go_ret
  exact⟨_,rfl,HV.out,d8.out⟩
theorem cC8(A:Option Addr)(n c:Nat)(xs:List Value)(w:World)(hr:Rd w w.heap.size A xs)(hx:xs.length=n*1)(h1:∀u∈xs,u.oneCell' =true)(hn:n<=1099511627776):
  Calls Tryz.prog 59 #[.slice A n c] w fun e w' =>∃v,e=.returned v∧w'.ownsRow w.heap.size 108 1 v n xs∧Below w.heap.size w w' :=by
 have HR:=qZ hr;have HX:=qZ hx;cases A with
 |none=>
  have h0:xs=[]:=by
   refine Classical.byContradiction fun h=>?_
   obtain⟨ad,h1,_⟩:=hr (List.length_pos_iff.2 h);cases h1
  subst h0;obtain rfl:n=0:=by simp at hx;omega
  clear hr hx;have he:∀W:World,(binOp .eql 49 (.slice none 0 c) (.slice none 0 0)).run Tryz.prog W=.ok (.bool true) W:=fun _=>rfl
  go_enter Tryz.func59,Tryz.ntmps59
  go_wp2_with fail
  go_ret
  exact⟨_,rfl,World.ownsRow_nil _ _ _ _,lS _ _⟩
 |some ad=>
  have he:∀W:World,(binOp .eql 49 (.slice (some ad) n c) (.slice none 0 0)).run Tryz.prog W=.ok (.bool false) W:=fun _=>rfl
  have a8:Below w.heap.size w (w.alloc (.cells #[] 108)):=(lS _ w).alloc (lR _) _;have HB:=qZ a8;have HO:=qZ (bB3 w 108 1);have b8:=qZ (hr.below a8);clear hr hx a8;go_enter Tryz.func59,Tryz.ntmps59
  go_wp2_with (at_builtin;refine aH9 rfl (.tmp 5) (.tmp 6) 49 rfl w.heap.size 108 (.pointer none) 1 8 Tryz.underlying49 bM6 rfl (by decide) (some ⟨w.heap.size,0,none⟩) rfl HO.out (some ad) n c xs rfl HX.out (fun hm=>⟨ad,rfl,bT9 b8.out (by rw[HX.out];omega)⟩) h1 (by unfold maxLen;omega) (by omega) (by simp) ?_;intro v1 w1 a9 hb;have HV:=qZ a9;have d8:=qZ (HB.out.trans (hb.mono (by simp)));clear a9 hb)
  go_ret
  exact⟨_,rfl,HV.out,d8.out⟩
end
section
open Go.RowKit Go.Maps Oct
def dJ0(w:World)(A:Option Addr)(vs:List Value)(k:Nat):Prop:=0<vs.length->∃g cur,A=some ⟨g,0,none⟩∧Blk w g 65 cur∧vs.length*4<=cur.size∧∀j (h:j<vs.length),k<=j->cur[j*4+3]? =some vs[j]
def cG3(A:Option Addr)(vs:List Value)(k:Nat):Prop:=(0<vs.length∧∃ad,A=some ad∧ad.block=k)∨∃v∈vs,v.ownBlock=some k
theorem cR4(A:Option Addr)(vs:List Value)(c base:Nat)(w:World)(hr:dJ0 w A vs 0)(a8:∀v∈vs,aH7 w base v)(hl:vs.length<=4611686018427387904):
  Calls Tryz.prog 44 #[.slice A vs.length c] w fun e w' =>(∃v,e=.returned v)∧Fr (cG3 A vs) w w' :=by
 have HR:=qZ hr;have l4:=qZ a8;clear hr a8;go_enter Tryz.func44,Tryz.ntmps44
 go_wp2_with fail
 go_loopw [2] (fun iv wr=>∃k:Nat,k<=vs.length∧iv=.int .i64 k∧Hid (dJ0 wr A vs k)∧Hid (∀v∈vs,aH7 wr base v)∧Hid (Fr (cG3 A vs) w wr)) (fun iv _=>vs.length-(intOf iv).toNat)
 case atStart=>exact⟨0,by omega,rfl,HR,l4,qZ (Fr.refl _ _)⟩
 obtain⟨k,hk,rfl,l5,j6,HF⟩:=hrel;clear HR l4;by_cases hlt:k<vs.length
 rotate_left
 ·go_wp2_with fail
  go_end0
  exact⟨⟨_,rfl⟩,HF.out⟩
 obtain⟨g,m3,rfl,hB,m8,f7⟩:=l5.out (by omega);have m0:=hB.lt;obtain⟨v,hv⟩:∃x,x=vs[k]:=⟨_,rfl⟩
 have g9:v∈vs:=by rw[hv];exact lX hlt
 have a8:=j6.out v g9;obtain⟨Av,nv,cv,rfl⟩:∃Av nv cv,v=.slice Av nv cv:=by
  rcases a8 with e|⟨g',n,cap,_,e,_⟩
  ·exact⟨_,_,_,e⟩
  exact⟨_,_,_,e⟩
 have c3:wr.cell? ⟨g,k*4+3,none⟩=some (.slice Av nv cv):=by rw[hB.cell,f7 k hlt (lR _),<-hv]
 have l6:(Value.slice Av nv cv).ownBlock≠some g:=fun e=>by
  rcases a8 with e' |⟨g',n,cap,f6,e',_,f8,_⟩
  ·rw[e'] at e;cases e
  rw[e'] at e;have h1:g' =g:=by simpa[Value.ownBlock] using e
  subst h1;exact blk_ne f8 hB (by decide) rfl
 have d9:=a8.lt;have l8:=aF9 wr 34 [.slice Av nv cv];have b8:=cM5 (some ⟨wr.heap.size,0,none⟩) [.slice Av nv cv] 1 1 (wr.heap.size+1) base rfl _ l8 (by intro x hx;obtain rfl:=List.mem_singleton.1 hx;exact a8.alloc _)
  (fun a b ha hb hab=>absurd (by have h1:a<1:=ha;have h2:b<1:=hb;omega) hab) (by rintro ad i4 x hx;obtain rfl:=List.mem_singleton.1 hx;injection i4 with i4;subst i4;intro h;have h2:wr.heap.size<wr.heap.size:=d9 _ h;omega) (by simp)
 have d8:=qZ b8;have HB:=qZ hB;have m7:=qZ l6;have m5:=qZ f7;have m6:=qZ g9;clear b8 l8 hB l6 f7 hv g9 a8 d9;go_wp2_with fail
 refine d8.out.mono ?_;rintro e w1 ⟨rfl,ho,_⟩;have f9:=(lS wr.heap.size wr).alloc (lR _) (.cells #[.slice Av nv cv] 34);have a9:Blk w1 g 65 m3:=(ho.block g (by intro x hx;obtain rfl:=List.mem_singleton.1 hx;exact m7.out)).trans ((f9.block g m0).trans HB.out);have l7:∀x∈vs,aH7 w1 base x:=fun x hx=>((j6.out x hx).alloc _).kept ho
 have j9:Fr (cG3 (some ⟨g,0,none⟩) vs) w w1:=HF.out.trans (Fr.of_below (fun _=>False) f9) (fun j hj=>hj.elim)|>.trans (mine' :=fun j=>(Value.slice Av nv cv).ownBlock=some j) ⟨ho.os,ho.tape,ho.output,by rw[ho.size];exact lR _,fun j _ hn=>ho.block j (by intro x hx;obtain rfl:=List.mem_singleton.1 hx;exact hn)⟩ (fun j hj=>.inl (.inr ⟨_,m6.out,hj⟩))
 have hc:∀j,j<4->∃u,w1.cell? ⟨g,k*4+j,none⟩=some u:=fun j hj=>by
  rw[a9.cell];exact⟨_,Array.getElem?_eq_getElem (by omega)⟩
 obtain⟨u0,z0⟩:=hc 0 (by omega);obtain⟨u1,z1⟩:=hc 1 (by omega);obtain⟨u2,z2⟩:=hc 2 (by omega);obtain⟨u3,z3⟩:=hc 3 (by omega);rw[Nat.add_zero] at z0;have f0:=a9.frozen (k*4);have f1:=a9.frozen (k*4+1);have f2:=a9.frozen (k*4+2);have f3:=a9.frozen (k*4+3);have m2:(k:Int)<(vs.length:Int):=by omega
 have l9:=qZ a9;have g8:=qZ l7;have m9:=qZ j9;clear ho a9 l7 j9 hc f9 d8 HB l5 j6 HF;go_wp2_with fail
 have i6:=aA4 (aA4 (aA4 (aA0 w1 g (k*4) (.int .i64 (-7))) (aA0 _ g (k*4+1) (.int .i64 0)) (.inl rfl)) (aA0 _ g (k*4+2) (.int .i64 0)) (.inl rfl)) (aA0 _ g (k*4+3) (.slice none 0 0)) (.inl rfl);have j8:=(((l9.out.set_ (k*4) (.int .i64 (-7))).set_ (k*4+1) (.int .i64 0)).set_ (k*4+2) (.int .i64 0)).set_ (k*4+3) (.slice none 0 0);obtain⟨w2,m4⟩:∃W,W=((((w1.setCell ⟨g,k*4,none⟩ (.int .i64 (-7))).setCell ⟨g,k*4+1,none⟩ (.int .i64 0)).setCell ⟨g,k*4+2,none⟩ (.int .i64 0)).setCell ⟨g,k*4+3,none⟩ (.slice none 0 0)):=⟨_,rfl⟩
 rw[<-m4] at i6 j8⊢;refine⟨⟨k+1,by omega,by go_num,qZ (fun _=>⟨g,_,rfl,j8,by simpa using m8,fun j hj hkj=>?_⟩),qZ (fun x hx=>(g8.out x hx).keep (fun b hb=>i6.block b ((g8.out x hx).lt b hb) (fun e=>?_))),qZ (m9.out.trans (Fr.of_grown (mine:=fun j=>j=g) i6 (fun j e=>by injection e with e;exact e.symm)) (fun j hj=>.inl (.inl ⟨by omega,_,rfl,hj.symm⟩)))⟩,by simp[intOf];omega⟩
 ·rw[Array.getElem?_setIfInBounds_ne (by omega),Array.getElem?_setIfInBounds_ne (by omega),Array.getElem?_setIfInBounds_ne (by omega),Array.getElem?_setIfInBounds_ne (by omega)]
  exact m5.out j hj (by omega)
 injection e with e
 subst e;rcases g8.out x hx with e' |⟨g',n,cap,f6,e',_,f8,_⟩
 ·rw[e'] at hb;cases hb
 rw[e'] at hb;have h1:g' =b:=by simpa[Value.ownBlock] using hb
 subst h1;exact blk_ne f8 l9.out (by decide) rfl
theorem cW8{w W:World}{base n c:Nat}{A:Option Addr}{rs:List aF2}(h:w.ownsRow base 65 4 (.slice A n c) rs.length (aA7 rs))(hb:∀q∈rs,Bs w base q.v q.e.b)(hW:Below w.heap.size w W):
  dJ0 W A (rs.map aF2.v) 0∧(∀v∈rs.map aF2.v,aH7 W base v)∧∀k,cG3 A (rs.map aF2.v) k->base<=k∧k<w.heap.size:=by
 obtain⟨A',c',e,_,_,h3⟩:=aB2 h;injection e with e1 _ _
 subst e1;refine⟨fun h0=>?_,fun v hv=>?_,fun k hk=>?_⟩
 ·rw[lU] at h0
  obtain⟨g,a8,rfl,d8,a9,d9,f6,b8⟩:=h3 h0;have hB:Blk w g 65 a8:=d9;refine⟨g,a8,rfl,hB.below hW a9,?_,fun j hj _=>?_⟩
  ·rw[lU]
   have h1:=b8 (rs.length*4-1) ((aA7 rs)[rs.length*4-1]'(by rw[aC3];omega)) (lW (by rw[aC3];omega));rw[hB.cell] at h1;have h2:=(Array.getElem?_eq_some_iff.1 h1).1;omega
  rw[lU] at hj;have h1:=b8 (j*4+3) rs[j].v (by rw[aF4 rs hj (by omega)];rfl);rw[hB.cell] at h1;rw[h1,List.getElem_map]
 ·obtain⟨q,hq,rfl⟩:=List.mem_map.1 hv
  have h1:=aH7.of_own (hb q hq);exact h1.keep (fun g hg=>hW.block g (h1.lt g hg))
 rcases hk with⟨h0,ad,e,rfl⟩|⟨v,hv,hk⟩
 ·rw[lU] at h0
  obtain⟨g,a8,e2,d8,a9,_⟩:=h3 h0;rw[e2] at e;injection e with e
  subst e;exact⟨d8,a9⟩
 obtain⟨q,hq,rfl⟩:=List.mem_map.1 hv;have h1:=aH7.of_own (hb q hq);exact⟨h1.base k hk,h1.lt k hk⟩
end
section
open Go.RowKit Oct
theorem cL1(ix tm kd:Int)(Av:Option Addr)(n c:Nat)(w:World):
  Calls Tryz.prog 112 #[.agg #[.int .i64 ix,.int .i64 tm,.int .i64 kd,.slice Av n c]] w fun e w' =>e=.returned (.bool (decide (65535<n)))∧Below w.heap.size w w' :=by
 obtain⟨wA,a8⟩:∃W,W=w.alloc (.cells #[.int .i64 ix,.int .i64 tm,.int .i64 kd,.slice Av n c] 65):=⟨_,rfl⟩
 have hb:Below w.heap.size w wA:=by rw[a8];exact(lS _ w).alloc (lR _) _
 have hk:Blk wA w.heap.size 65 #[.int .i64 ix,.int .i64 tm,.int .i64 kd,.slice Av n c]:=by rw[a8];exact Blk.new w _ _
 have c3:wA.cell? ⟨w.heap.size,3,none⟩=some (.slice Av n c):=hk.cell 3;have HW:=qZ a8;have HB:=qZ hb;clear a8 hb hk;go_enter Tryz.func112,Tryz.ntmps112
 go_upto_region 1 with fail
 rw[<-HW.out];go_wp2_with fail
 go_ret
 exact⟨by simp;omega,HB.out⟩
theorem cR8{F:Nat->Prop}(A:Option Addr)(rs:List aF2)(c:Nat)(w:World)(hr:RdF w F A (aA7 rs))(hF:∀k,F k->k<w.heap.size)(hv:∀q∈rs,∃Av cd,q.v=.slice Av q.e.b.length cd)(hl:rs.length<=1099511627776):
  Calls Tryz.prog 156 #[.slice A rs.length c,.func (.func 112) #[] #[]] w fun e w' =>(∃r:Int,e=.returned (.int .i64 r)∧decide (0<=r)=rs.any fun q=>decide (65535<q.e.b.length))∧Below w.heap.size w w' :=by
 have HR:=qZ hr;have HF:=qZ hF;have HV:=qZ hv;clear hr hF hv;go_enter Tryz.func156,Tryz.ntmps156
 go_wp2_with fail
 go_loopw [8,5] (fun i _ wr=>∃k:Nat,k<=rs.length∧i=.int .i64 k∧Hid ((rs.take k).any (fun q=>decide (65535<q.e.b.length))=false)∧Hid (Below w.heap.size w wr)) (fun i _ _=>rs.length-(intOf i).toNat)
 case atStart=>exact⟨0,by omega,rfl,qZ rfl,qZ (lS _ _)⟩
 obtain⟨k,hk,rfl,HA,HB⟩:=hrel;by_cases hlt:k<rs.length
 rotate_left
 ·obtain rfl:k=rs.length:=by omega
  go_wp2_with fail
  go_ret
  have h1:=HA.out;rw[List.take_length] at h1;refine⟨⟨_,rfl,?_⟩,HB.out⟩;rw[h1]
  decide
 have d9:=HR.out.keep HB.out.size (fun k hk=>HB.out.block k (HF.out k hk));obtain⟨eb,eo,rfl,_,f9,hc⟩:=d9 (by rw[aC3];omega);have a8:∀i,i<4->(aA7 rs)[k*4+i]? =(aK2 rs[k])[i]? :=fun i hi=>aF4 _ hlt hi
 obtain⟨Av,cd,b8⟩:=HV.out rs[k] (lX hlt);have a9:rs.take (k+1)=rs.take k++[rs[k]]:=by
  rw[List.take_add_one,lW hlt]
  rfl
 obtain⟨q,hq⟩:∃q,q=rs[k]:=⟨_,rfl⟩
 rw[<-hq] at a9 b8;have e0:wr.cell? ⟨eb,eo+k*4,none⟩=some (.int .i64 q.e.ix):=hc (k*4+0) _ (by rw[a8 0 (by omega),<-hq];rfl);have e1:wr.cell? ⟨eb,eo+k*4+1,none⟩=some (.int .i64 q.e.tm):=hc (k*4+1) _ (by rw[a8 1 (by omega),<-hq];rfl);have e2:wr.cell? ⟨eb,eo+k*4+2,none⟩=some (.int .i64 q.e.kd):=hc (k*4+2) _ (by rw[a8 2 (by omega),<-hq];rfl);have e3:wr.cell? ⟨eb,eo+k*4+3,none⟩=some (.slice Av q.e.b.length cd):=hc (k*4+3) _ (by rw[a8 3 (by omega),<-hq,<-b8];rfl);have d8:=qZ a9;have f8:=qZ (show rs=rs.take (k+1)++rs.drop (k+1) from(List.take_append_drop _ _).symm);have HL:=qZ (cL1 q.e.ix q.e.tm q.e.kd Av q.e.b.length cd wr);clear a9 hq a8 b8 d9 hc;go_wp2_with fail
 refine HL.out.mono ?_;rintro e w2 ⟨rfl,f7⟩;have f6:=qZ (HB.out.trans (f7.mono HB.out.size));clear f7 HL e0 e1 e2 e3;by_cases e:65535<q.e.b.length
 ·have HE:=qZ e
  have hs:decide (65535<q.e.b.length)=true:=decide_eq_true e;clear e;go_wp2_with fail
  go_ret
  refine⟨⟨_,rfl,?_⟩,f6.out⟩;rw[f8.out,d8.out];simp[HE.out]
 have HE:=qZ e;have hs:decide (65535<q.e.b.length)=false:=decide_eq_false e;clear e;go_wp2_with fail
 go_roundw
 case rel=>exact⟨k+1,by omega,by go_num,qZ (by rw[d8.out,List.any_append,HA.out];simpa using HE.out),f6⟩
 case measure=>simp[intOf];omega
theorem cL7{F:Nat->Prop}(A:Option Addr)(rs:List aF2)(c:Nat)(w:World)(hr:RdF w F A (aA7 rs))(hF:∀k,F k->k<w.heap.size)(hv:∀q∈rs,∃Av cd,q.v=.slice Av q.e.b.length cd)(hl:rs.length<=1099511627776):
  Calls Tryz.prog 111 #[.slice A rs.length c,.func (.func 112) #[] #[]] w fun e w' =>e=.returned (.bool (rs.any fun q=>decide (65535<q.e.b.length)))∧Below w.heap.size w w' :=by
 have HC:=qZ (cR8 A rs c w hr hF hv hl);clear hr hF hv;go_enter Tryz.func111,Tryz.ntmps111
 go_wp2_with fail
 refine HC.out.mono ?_;rintro e w2 ⟨⟨r,rfl,hr⟩,hb⟩;have HR:=qZ hr;have HB:=qZ hb;clear hr hb HC;go_wp2_with fail
 go_ret
 exact⟨by rw[HR.out];rfl,HB.out⟩
def cO7(base:Int)(e:aK5)(last:Int)(prev:Option Int):Bool:=decide (e.ix<=base)||decide (last<e.ix-1)||decide (e.ix=aG9)||(match prev with|none=>false|some p=>decide (e.ix-1≠p))||decide (e.tm<0)||decide (e.kd<0)
theorem bL6(base:Int)(e:aK5)(r:List aK5)(last:Int)(prev:Option Int):bA6 base (e::r) last prev=(! cO7 base e last prev&&bA6 base r e.ix (some e.ix)):=rfl
def bE4(L:List aK5)(k:Nat):Option Int:=if k=0 then none else(L[k-1]?).map aK5.ix
theorem cQ3{L:List aK5}{k:Nat}(h:k<L.length):bE4 L (k+1)=some L[k].ix:=by
 unfold bE4;rw[if_neg (by omega),Nat.add_sub_cancel,lW h]
 rfl
theorem JnP.base_low{w:World}{F:Nat->Prop}{gj g:Nat}{j:JnP}(h:JAt w F gj g j):-1<=j.base.1∧j.base.1<=9223372036854775807:=by
 unfold JnP.base;rcases hs:j.segs with _|⟨s,r⟩
 ·simp
 obtain⟨⟨A,c,a9,h1,h2,h3,h4,h5⟩,h6,_⟩:=h;have a8:0<j.segs.length:=by rw[hs];simp
 have hM:=h5 0 (by omega) a8;simp only[hs,List.getElem_cons_zero] at hM;have:=hM.rd.num.first;simp only;omega
theorem JnP.last_low{w:World}{F:Nat->Prop}{gj g:Nat}{j:JnP}(h:JAt w F gj g j):-9223372036854775808<=j.last.1∧j.last.1<=9223372036854775807:=by
 unfold JnP.last;rcases mJ j.segs with hs|⟨r,s,hs⟩
 ·rw[hs];simp
 rw[mA] at hs;obtain⟨⟨A,c,a8,h1,h2,h3,h4,h5⟩,h6,_⟩:=h;have hl:j.segs.length=r.length+1:=by rw[hs];simp
 have hM:=h5 r.length (by omega) (by omega);simp only[hs,List.getElem_concat_length] at hM;rw[hs];simp only[List.getLast?_append,List.getLast?_singleton,Option.some_or];unfold aC4.last;have hn:=hM.rd.num;rcases mJ s.l with h0|⟨r2,e,h0⟩
 ·rw[h0]
  have:=hn.first;simp only[List.getLast?_nil];omega
 rw[mA] at h0;have:=hn.ent e (by rw[h0];simp);rw[h0];simp only[List.getLast?_append,List.getLast?_singleton,Option.some_or];omega
theorem dG7{E F:Nat->Prop}{gj g:Nat}{j:JnP}{w:World}(h:JAt w F gj g j)(s9:∀k,F k->k<w.heap.size)(A:Option Addr)(rs:List aF2)(c:Nat)(hr:RdF w E A (aA7 rs))(hE:∀k,E k->k<w.heap.size)(hv:∀q∈rs,∃Av cd,q.v=.slice Av q.e.b.length cd)(hl:rs.length<=1099511627776)
  (m2:∀q∈rs,(-9223372036854775808<=q.e.ix∧q.e.ix<=9223372036854775807)∧(-9223372036854775808<=q.e.tm∧q.e.tm<=9223372036854775807)∧(-9223372036854775808<=q.e.kd∧q.e.kd<=9223372036854775807)):
  Calls Tryz.prog 58 #[.pointer (some ⟨gj,0,none⟩),.slice A rs.length c] w fun e w' =>e=.returned (.int .i64 (cJ1 j (rs.map aF2.e)))∧Below w.heap.size w w' :=by
 have f6:=qZ h.base;have g8:=qZ fun w' (hb:Below w.heap.size w w')=>(h.below s9 hb).last
 have B2:=JnP.base_low h;have o8:=JnP.last_low h;obtain⟨L,hL⟩:∃L,L=rs.map aF2.e:=⟨_,rfl⟩
 obtain⟨ba,n5⟩:∃x,x=j.base.1:=⟨_,rfl⟩
 obtain⟨bt,x7⟩:∃x,x=j.base.2:=⟨_,rfl⟩
 obtain⟨la,n4⟩:∃x,x=j.last.1:=⟨_,rfl⟩
 obtain⟨lt,f9⟩:∃x,x=j.last.2:=⟨_,rfl⟩
 obtain⟨an,n6⟩:∃b,b=L.any fun e=>decide (65535<e.b.length):=⟨_,rfl⟩
 obtain⟨mr,i6⟩:∃b,b=bA6 ba L la none:=⟨_,rfl⟩
 have p6:cJ1 j (rs.map aF2.e)=if mr=false then 1 else if an=true then 2 else 0:=by rw[i6,n6,hL,n5,n4];rfl
 rw[p6];have x4:=qZ n6;have q8:=qZ i6;rw[<-n5,<-x7] at f6;rw[<-n5] at B2;rw[<-n4] at o8;have f7:Hid (∀w',Below w.heap.size w w' ->Calls Tryz.prog 40 #[.pointer (some ⟨gj,0,none⟩)] w' fun e w2=>e=.returned (.tuple #[.int .i64 la,.int .i64 lt])∧Below w'.heap.size w' w2):=qZ (fun w' hb=>by rw[n4,f9];exact g8.out w' hb);have HR:=qZ hr;have HE:=qZ hE;have HV:=qZ hv;have l4:=qZ m2;have HL:=qZ hL;have t8:L.length=rs.length:=by rw[hL,lU]
 have j8:=qZ t8;clear h hr hE hv m2 hL n5 x7 n4 f9 p6 g8 t8 s9 n6 i6;go_enter Tryz.func58,Tryz.ntmps58
 go_wp2_with fail
 refine f6.out.mono ?_;rintro e w1 ⟨rfl,n8⟩;have i4:=qZ n8;have p9:=qZ (f7.out w1 n8);clear n8 f6 f7;go_wp2_with fail
 refine p9.out.mono ?_;rintro e w2 ⟨rfl,m0⟩;have p8:=qZ (i4.out.trans (m0.mono i4.out.size));clear m0 p9 i4;go_wp2_with fail
 go_loopw [27,7,9,10] (fun i lv _ _ wr=>∃(k:Nat) (ls:Int),k<=rs.length∧i=.int .i64 k∧lv=.int .i64 ls∧(-9223372036854775808<=ls∧ls<=9223372036854775807)∧Hid (bA6 ba L la none=bA6 ba (L.drop k) ls (bE4 L k))∧Hid (∀p,bE4 L k=some p->p=ls)∧Hid (Below w.heap.size w wr)) (fun i _ _ _ _=>rs.length-(intOf i).toNat)
 case atStart=>exact⟨0,la,by omega,rfl,rfl,o8,qZ rfl,qZ (fun p hp=>by cases hp),p8⟩
 obtain⟨k,ls,hk,rfl,rfl,B6,m9,p0,HB⟩:=hrel;clear p8;by_cases f9:k<rs.length
 rotate_left
 ·obtain rfl:k=rs.length:=by omega
  have hm:mr=true:=by rw[q8.out,m9.out,List.drop_eq_nil_of_le (by rw[j8.out];exact lR _)];rfl
  subst hm;have n9:=cL7 A rs c wr (HR.out.keep HB.out.size (fun k hk=>HB.out.block k (HE.out k hk))) (fun k hk=>by have:=HE.out k hk;have:=HB.out.size;omega) HV.out hl;have l5:(rs.any fun q=>decide (65535<q.e.b.length))=L.any fun e=>decide (65535<e.b.length):=by rw[HL.out,List.any_map];rfl
  rw[l5,<-x4.out] at n9;have t9:=qZ n9;clear n9 l5 m9 p0 x4;go_wp2_with fail
  refine t9.out.mono ?_;rintro e w2 ⟨rfl,m0⟩;have l9:=qZ (HB.out.trans (m0.mono HB.out.size));clear m0 t9;cases an with
  |true=>
   go_wp2_with fail
   go_ret
   exact⟨rfl,l9.out⟩
  |false=>
   go_wp2_with fail
   go_ret
   exact⟨rfl,l9.out⟩
 have x6:=HR.out.keep HB.out.size (fun k hk=>HB.out.block k (HE.out k hk));obtain⟨eb,eo,rfl,_,y8,hc⟩:=x6 (by rw[aC3];omega);have l7:∀i,i<4->(aA7 rs)[k*4+i]? =(aK2 rs[k])[i]? :=fun i hi=>aF4 _ f9 hi
 obtain⟨Av,cd,o9⟩:=HV.out rs[k] (lX f9);have p4:=l4.out rs[k] (lX f9);have o5:L[k]'(by rw[j8.out];exact f9)=rs[k].e:=by simp only[HL.out,List.getElem_map]
 have g9:0<k->∃cs,wr.cell? ⟨eb,eo+(k-1)*4,none⟩=some (.int .i64 ls)∧bE4 L k=some ls∧cs=():=fun h0=>by
  have h1:k-1<rs.length:=by omega
  have h2:=hc ((k-1)*4+0) _ (by rw[aF4 _ h1 (by omega)];rfl);have h3:bE4 L k=some rs[k-1].e.ix:=by
   unfold bE4;rw[if_neg (by omega),lW (by rw[j8.out];exact h1)];simp only[HL.out,List.getElem_map,Option.map_some]
  have h4:=p0.out _ h3;rw[h4] at h2 h3;exact⟨(),h2,h3,rfl⟩
 have n7:=qZ g9;have p5:L.drop k=rs[k].e::L.drop (k+1):=by rw[<-o5];exact List.drop_eq_getElem_cons (by rw[j8.out];exact f9)
 have l8:bE4 L (k+1)=some rs[k].e.ix:=by rw[cQ3 (by rw[j8.out];exact f9),o5]
 obtain⟨q,hq⟩:∃q,q=rs[k]:=⟨_,rfl⟩
 rw[<-hq] at o9 p4 p5 l8;obtain⟨ix,j6⟩:∃x,x=q.e.ix:=⟨_,rfl⟩
 obtain⟨tm,m8⟩:∃x,x=q.e.tm:=⟨_,rfl⟩
 obtain⟨kd,m7⟩:∃x,x=q.e.kd:=⟨_,rfl⟩
 obtain⟨nb,x5⟩:∃x,x=q.e.b.length:=⟨_,rfl⟩
 have e0:wr.cell? ⟨eb,eo+k*4,none⟩=some (.int .i64 ix):=hc (k*4+0) _ (by rw[l7 0 (by omega),<-hq,j6];rfl);have e1:wr.cell? ⟨eb,eo+k*4+1,none⟩=some (.int .i64 tm):=hc (k*4+1) _ (by rw[l7 1 (by omega),<-hq,m8];rfl);have e2:wr.cell? ⟨eb,eo+k*4+2,none⟩=some (.int .i64 kd):=hc (k*4+2) _ (by rw[l7 2 (by omega),<-hq,m7];rfl);have e3:wr.cell? ⟨eb,eo+k*4+3,none⟩=some (.slice Av nb cd):=hc (k*4+3) _ (by rw[l7 3 (by omega),<-hq,x5,<-o9];rfl);obtain⟨B,hB⟩:∃B,B=cO7 ba q.e ls (bE4 L k):=⟨_,rfl⟩
 have q6:bA6 ba L la none=(! B&&bA6 ba (L.drop (k+1)) ix (bE4 L (k+1))):=by rw[m9.out,p5,bL6,<-hB,l8,j6]
 unfold cO7 at hB;rw[<-j6,<-m8,<-m7] at hB;rw[<-j6,<-m8,<-m7] at p4;rw[<-j6] at l8;have f8:=qZ q6;have a9:=qZ hB;have p7:=qZ l8;obtain⟨wB,m4⟩:∃W,W=wr.alloc (.cells #[.int .i64 ix,.int .i64 tm,.int .i64 kd,.slice Av nb cd] 65):=⟨_,rfl⟩
 have m5:Below wr.heap.size wr wB:=by rw[m4];exact(lS _ wr).alloc (lR _) _
 have t4:Blk wB wr.heap.size 65 #[.int .i64 ix,.int .i64 tm,.int .i64 kd,.slice Av nb cd]:=by rw[m4];exact Blk.new wr _ _
 have B7:=qZ m5;have m3:=qZ t4;have t7:=qZ m4;have o4:=qZ (HB.out.trans (m5.mono HB.out.size));have d9:=qZ (show 0<k->wB.cell? ⟨eb,eo+(k-1)*4,none⟩=some (.int .i64 ls) from fun h0=>by
  obtain⟨_,h1,_,_⟩:=n7.out h0;exact(m5.cell (p:=⟨eb,eo+(k-1)*4,none⟩) y8).trans h1)
 have d8:=qZ (show(0<k->bE4 L k=some ls)∧(¬0<k->bE4 L k=none) from⟨fun h0=>by obtain⟨_,_,h1,_⟩:=n7.out h0;exact h1,fun h0=>by unfold bE4;rw[if_pos (by omega)]⟩);clear x6 hc l7 o9 o5 g9 p5 l8 hq j6 m8 m7 x5 hB q6 m4 m5 t4 n7 m9 p0;go_upto_region 6 with fail
 rw[<-t7.out];obtain⟨j9,b8⟩:∃n,n=wr.heap.size:=⟨_,rfl⟩
 have f0:wB.cell? ⟨j9,0,none⟩=some (.int .i64 ix):=by rw[b8];exact m3.out.cell 0
 have f1:wB.cell? ⟨j9,1,none⟩=some (.int .i64 tm):=by rw[b8];exact m3.out.cell 1
 have f2:wB.cell? ⟨j9,2,none⟩=some (.int .i64 kd):=by rw[b8];exact m3.out.cell 2
 rw[<-b8];have o6:=qZ b8;clear b8 e0 e1 e2 e3 t7 m3;go_cut [73] from 32 to 73 (fun c wx=>c=.bool B∧Hid (Below wB.heap.size wB wx))
 case first=>
  clear l4 HL j8 HR HE HV HB f8 p7 o4 o6 o8;by_cases h1:ix<=ba
  ·have d1:decide (ix<=ba)=true:=decide_eq_true h1
   have a8:Hid (B=true):=qZ (by rw[a9.out];simp[h1]);clear a9 d8 d9;go_big_quiet (fail)
   go_wp2_with fail
   go_meet;exact⟨by first|(rw[a8.out];done)|(rw[a8.out];rfl),qZ (aA3 (lS _ wB) _)⟩
  have d1:decide (ix<=ba)=false:=decide_eq_false h1;have B4:IntKind.i64.wrap (ix-1)=ix-1:=mH _ (by omega);by_cases h2:ls<ix-1
  ·have d2:decide (ls<ix-1)=true:=decide_eq_true h2
   have a8:Hid (B=true):=qZ (by rw[a9.out];simp[h2]);clear a9 d8 d9;go_big_quiet (fail)
   go_wp2_with fail
   go_meet;exact⟨by first|(rw[a8.out];done)|(rw[a8.out];rfl),qZ (aA3 (lS _ wB) _)⟩
  have d2:decide (ls<ix-1)=false:=decide_eq_false h2;by_cases h3:ix=9223372036854775807
  ·have d3:(ix==9223372036854775807)=true:=beq_iff_eq.2 h3
   have a8:Hid (B=true):=qZ (by rw[a9.out];simp[h3,aG9]);have z9:ix-1=ix-1:=rfl;clear a9 d8 d9 h3 z9;go_big_quiet (fail)
   go_wp2_with fail
   go_meet;exact⟨by first|(rw[a8.out];done)|(rw[a8.out];rfl),qZ (aA3 (lS _ wB) _)⟩
  have d3:(ix==9223372036854775807)=false:=beq_eq_false_iff_ne.2 h3;by_cases h4:0<k
  rotate_left
  ·have d4:decide (0<k)=false:=decide_eq_false h4
   have m6:=qZ (d8.out.2 h4);by_cases h6:tm<0
   ·have d6:decide (tm<0)=true:=decide_eq_true h6
    have a8:Hid (B=true):=qZ (by rw[a9.out];simp[h6]);clear a9 d8 d9;go_big_quiet (fail)
    go_wp2_with fail
    go_meet;exact⟨by first|(rw[a8.out];done)|(rw[a8.out];rfl),qZ (aA3 (lS _ wB) _)⟩
   have d6:decide (tm<0)=false:=decide_eq_false h6;by_cases h7:kd<0
   ·have d7:decide (kd<0)=true:=decide_eq_true h7
    have a8:Hid (B=true):=qZ (by rw[a9.out];simp[h7]);clear a9 d8 d9;go_big_quiet (fail)
    go_wp2_with fail
    go_meet;exact⟨by first|(rw[a8.out];done)|(rw[a8.out];rfl),qZ (aA3 (lS _ wB) _)⟩
   have d7:decide (kd<0)=false:=decide_eq_false h7;have a8:Hid (B=false):=qZ (by rw[a9.out];rw[m6.out];simp[h1,h2,h3,h6,h7,aG9]);clear a9 d8 d9;go_big_quiet (fail)
   go_wp2_with fail
   go_meet;exact⟨by first|(rw[a8.out];done)|(rw[a8.out];rfl),qZ (aA3 (lS _ wB) _)⟩
  have d4:decide (0<k)=true:=decide_eq_true h4;have t6:=d8.out.1 h4;have z8:=d9.out h4;obtain⟨m,hm⟩:∃m,k=m+1:=⟨k-1,by omega⟩
  rw[show k-1=m by omega] at z8;have m6:=qZ t6;have B1:(k:Int)-1=(m:Int):=by omega
  have B8:IntKind.i64.wrap (m:Int)=(m:Int):=mH _ (by omega);have B5:m<rs.length:=by omega
  have x8:(m:Int)<(rs.length:Int):=by omega
  clear t6 hm;by_cases h5:ix-1=ls
  rotate_left
  ·have d5:(ix-1 !=ls)=true:=bne_iff_ne.2 h5
   have a8:Hid (B=true):=qZ (by rw[a9.out];rw[m6.out];simp[h5]);clear a9 d8 d9;go_big_quiet (fail)
   go_wp2_with fail
   go_meet;exact⟨by first|(rw[a8.out];done)|(rw[a8.out];rfl),qZ (aA3 (lS _ wB) _)⟩
  have d5:(ix-1 !=ls)=false:=by rw[bne_eq_false_iff_eq];exact h5
  by_cases h6:tm<0
  ·have d6:decide (tm<0)=true:=decide_eq_true h6
   have a8:Hid (B=true):=qZ (by rw[a9.out];simp[h6]);clear a9 d8 d9;go_big_quiet (fail)
   go_wp2_with fail
   go_meet;exact⟨by first|(rw[a8.out];done)|(rw[a8.out];rfl),qZ (aA3 (lS _ wB) _)⟩
  have d6:decide (tm<0)=false:=decide_eq_false h6;by_cases h7:kd<0
  ·have d7:decide (kd<0)=true:=decide_eq_true h7
   have a8:Hid (B=true):=qZ (by rw[a9.out];simp[h7]);clear a9 d8 d9;go_big_quiet (fail)
   go_wp2_with fail
   go_meet;exact⟨by first|(rw[a8.out];done)|(rw[a8.out];rfl),qZ (aA3 (lS _ wB) _)⟩
  have d7:decide (kd<0)=false:=decide_eq_false h7;have a8:Hid (B=false):=qZ (by rw[a9.out];rw[m6.out];simp[h1,h2,h3,h6,h7,aG9,h5]);clear a9 d8 d9;go_big_quiet (fail)
  go_wp2_with fail
  go_meet;exact⟨by first|(rw[a8.out];done)|(rw[a8.out];rfl),qZ (aA3 (lS _ wB) _)⟩
 obtain⟨rfl,o7⟩:=hcut;have l6:=mI wB ⟨j9,0,none⟩ f0;have g0:wc.cell? ⟨j9,0,none⟩=some (.int .i64 ix):=(o7.out.cell (p:=⟨j9,0,none⟩) l6).trans f0;have l9:=qZ (o4.out.trans (o7.out.mono o4.out.size));clear f0 f1 f2 o7 a9 d9;cases B with
 |true=>
  have hm:mr=false:=by rw[q8.out,f8.out];rfl
  subst hm;clear f8;go_wp2_with fail
  go_ret
  exact⟨rfl,l9.out⟩
 |false=>
  go_wp2_with fail
  go_roundw
  case rel=>exact⟨k+1,ix,by omega,by go_num,rfl,p4.1,qZ (by rw[f8.out];rfl),qZ (fun p hp=>by rw[p7.out] at hp;injection hp with hp;exact hp.symm),l9⟩
  case measure=>simp[intOf];omega
end
section
open Go.RowKit Go.Maps Oct
theorem aW7(k:Int)(hk:-9223372036854775808<=k∧k<=9223372036854775807)(w:World):
  Calls Tryz.prog 88 #[.int .i64 k] w fun e w' =>e=.returned (.string (str (aA8 k)))∧Below w.heap.size w w' :=by
 have HT:=qZ (cV6 k hk w);have a8:(str (Lib.itoa k)).size<=21:=by
  have:=Lib.itoa_length_le k hk.1 hk.2;show(Lib.itoa k).toArray.size<=21
  simpa using this
 clear hk;go_enter Tryz.func88,Tryz.ntmps88
 go_wp2_with fail
 refine HT.out.mono ?_;rintro e w' ⟨rfl,hb⟩;have HB:=qZ hb;clear hb HT;go_wp2_with fail
 go_ret
 refine⟨?_,HB.out⟩;have e:(⟨#[106]⟩:ByteArray)++str (Lib.itoa k)=str (aA8 k):=by
  apply WideShapes.bytes_inj
  simp[str,aA8]
 rw[<-e]
 rfl
theorem cB3(s:ByteArray)(hs:s.size<=140737488351232)(w:World):
  Calls Tryz.prog 136 #[.string s] w fun e w' =>e=.returned (.int .i64 (cB5 s.data.toList))∧Below w.heap.size w w' :=by
 obtain⟨R,hR⟩:∃R,R=cB5 s.data.toList:=⟨_,rfl⟩
 rw[<-hR];by_cases a8:s.size<2∨10<s.size
 ·have h0:R=0:=by
   rw[hR];have hz:=aZ9 s;rcases hd:s.data.toList with _|⟨c,r⟩
   ·rfl
   rw[hd,mC] at hz;rw[bA3,if_pos (by omega)]
  subst h0;clear hR;go_enter Tryz.func136,Tryz.ntmps136
  rcases a8 with a8|a8
  ·go_wp2_with fail
   go_ret
   exact⟨rfl,lS _ _⟩
  go_wp2_with fail
  go_ret
  exact⟨rfl,lS _ _⟩
 have l5:2<=s.size:=by omega
 have j9:s.size<=10:=by omega
 clear a8;obtain⟨ch,r,b8⟩:∃ch r,s.data.toList=ch::r:=by
  rcases e:s.data.toList with _|⟨a,b⟩
  ·exfalso
   have hz:=aZ9 s;rw[e,List.length_nil] at hz;omega
  exact⟨a,b,rfl⟩
 have f7:s.size=r.length+1:=by
  show s.data.size=_
  rw[<-Array.length_toList,b8,mC]
 have f6:(s.extract 1 s.size).data.toList=r:=by
  rw[ByteArray.data_extract,Array.toList_extract,b8,f7];simp
 have d9:0<s.size:=by omega
 have f8:s[0]'(d9)=ch:=by
  have:s.data.toList[0]'(by rw[b8];simp)=ch:=by simp[b8]
  rw[Array.getElem_toList] at this;exact this
 have i4:(s.extract 1 s.size).size<=140737488351232:=by
  show(s.extract 1 s.size).data.size<=_
  rw[<-Array.length_toList,f6];omega
 have d8:=qZ (cO6 (s.extract 1 s.size) i4 w);rw[f6] at d8;have hJ:R=if ch≠106 then 0 else if(aE0 r).2.2≠0∨(aE0 r).2.1≠(r.length:Int) then 0 else(aE0 r).1:=by
  rw[hR,b8,bA3];by_cases hc:ch=106
  ·rw[if_neg (show¬(r.length<1∨9<r.length∨ch≠106) from by rintro(h|h|h);omega;omega;exact h hc),if_neg (show¬ch≠106 from fun h=>h hc)]
  rw[if_pos (show(r.length<1∨9<r.length∨ch≠106) from .inr (.inr hc)),if_pos (show ch≠106 from hc)]
 obtain⟨pn,j8⟩:∃pn,pn=(aE0 r).1:=⟨_,rfl⟩
 obtain⟨pu,j6⟩:∃pn,pn=(aE0 r).2.1:=⟨_,rfl⟩
 obtain⟨pe,g9⟩:∃pn,pn=(aE0 r).2.2:=⟨_,rfl⟩
 rw[<-j8,<-j6,<-g9] at d8 hJ;have HJ:=qZ hJ;have f9:=qZ (show(r.length:Int)=(s.size:Int)-1 by omega);have i6:(s[0].toNat:Int)=106↔ch=106:=by
  rw[f8];constructor
  ·intro e
   refine UInt8.toNat_inj.1 ?_;show ch.toNat=106
   omega
  rintro rfl
  rfl
 have g8:=qZ i6;clear hR b8 f6 i4 j8 j6 g9 f8 f7 hJ i6;go_enter Tryz.func136,Tryz.ntmps136
 by_cases h1:(s[0].toNat:Int)=106
 rotate_left
 ·have HC:=qZ (fun e=>h1 (g8.out.2 e))
  have l4:((s[0].toNat:Int) !=106)=true:=bne_iff_ne.2 h1;have a9:R=0:=by rw[HJ.out,if_pos (show ch≠106 from HC.out)]
  clear HJ;subst a9;go_wp2_with fail
  go_ret
  exact⟨rfl,lS _ _⟩
 have HC:=qZ (g8.out.1 h1);go_wp2_with fail
 refine d8.out.mono ?_;rintro e w2 ⟨rfl,rfl⟩;have HB:=qZ (lS w.heap.size w);clear d8;by_cases h2:pe=0
 ·subst h2
  by_cases h3:(pu:Int)=(s.size:Int)-1
  ·have H3:=qZ h3
   have a9:R=pn:=by rw[HJ.out,if_neg (show¬ch≠106 from fun h=>h HC.out),if_neg (show¬((0:Int)≠0∨(pu:Int)≠(r.length:Int)) from by rintro(h|h);exact h rfl;exact h (by rw[f9.out];exact H3.out))]
   clear HJ;subst a9;go_wp2_with fail
   go_ret
   exact⟨rfl,HB.out⟩
  have H3:=qZ h3;have a9:R=0:=by rw[HJ.out,if_neg (show¬ch≠106 from fun h=>h HC.out),if_pos (show((0:Int)≠0∨(pu:Int)≠(r.length:Int)) from .inr (by rw[f9.out];exact H3.out))]
  clear HJ;subst a9;go_wp2_with fail
  go_ret
  exact⟨rfl,HB.out⟩
 have H2:=qZ h2;have a9:R=0:=by rw[HJ.out,if_neg (show¬ch≠106 from fun h=>h HC.out),if_pos (show(pe≠0∨(pu:Int)≠(r.length:Int)) from .inl H2.out)]
 clear HJ;subst a9;go_wp2_with fail
 go_ret
 exact⟨rfl,HB.out⟩
theorem aW9(l:List UInt8)(n:Nat):cells (l.drop n)=(cells l).drop n:=by simp[cells]
def aT7(p:List UInt8):Int×Int×Bool:=
 if(aA2 maxI p).2.2≠0 then(0,0,false) else
  ((aA2 maxI p).1,aC9 (aA2 maxU (p.drop (aA2 maxI p).2.1)).1,decide ((aA2 maxU (p.drop (aA2 maxI p).2.1)).2.2=0)&&decide ((aA2 maxI p).2.1+(aA2 maxU (p.drop (aA2 maxI p).2.1)).2.1=p.length)&&decide (1<=(aA2 maxI p).1)&&decide (((aA2 maxI p).1:Int)<9223372036854775807)&&decide (0<=aC9 (aA2 maxU (p.drop (aA2 maxI p).2.1)).1))
theorem bU4(p:List UInt8):aK0 p=if(aT7 p).2.2=true then some ((aT7 p).1,(aT7 p).2.1) else none:=by
 have a8:=aK8 maxI p;have f6:=aE5 maxI p;have b8:=aE5 maxU (p.drop (aA2 maxI p).2.1);rw[lZ] at b8;unfold aK0 aT7;have a9:(aA2 maxI p).1<=9223372036854775807:=a8;clear a8;by_cases h1:(aA2 maxI p).2.2=0
 rotate_left
 ·rw[if_pos (.inl h1),if_pos h1]
  rfl
 rw[if_neg (show¬(aA2 maxI p).2.2≠0 from fun h=>h h1)];by_cases h2:(aA2 maxI p).1<1∨((aA2 maxI p).1:Int)=aG9
 ·rw[if_pos (by exact .inr h2)]
  rw[if_neg];intro h;simp only[Bool.and_eq_true,decide_eq_true_eq] at h;unfold aG9 at h2;omega
 rw[if_neg (by rintro(h|h);exact h h1;exact h2 h)];simp only[aE7];by_cases h3:(aA2 maxU (p.drop (aA2 maxI p).2.1)).2.2≠0∨aC9 (aA2 maxU (p.drop (aA2 maxI p).2.1)).1<0
 ·rw[if_pos h3]
  rw[if_neg];intro h;simp only[Bool.and_eq_true,decide_eq_true_eq] at h;rcases h3 with h3|h3
  ·exact h3 h.1.1.1.1
  omega
 rw[if_neg h3];have d9:(aA2 maxU (p.drop (aA2 maxI p).2.1)).2.2=0:=Classical.not_not.1 fun h=>h3 (.inl h)
 have d8:¬aC9 (aA2 maxU (p.drop (aA2 maxI p).2.1)).1<0:=fun h=>h3 (.inr h)
 unfold aG9 at h2;by_cases h4:(aA2 maxI p).2.1+(aA2 maxU (p.drop (aA2 maxI p).2.1)).2.1=p.length
 ·have h5:(p.drop (aA2 maxI p).2.1).drop (aA2 maxU (p.drop (aA2 maxI p).2.1)).2.1=[]:=by
   rw[List.drop_drop];exact List.drop_eq_nil_of_le (by omega)
  rw[h5];simp only;rw[if_pos];simp only[Bool.and_eq_true,decide_eq_true_eq];omega
 have h5:(p.drop (aA2 maxI p).2.1).drop (aA2 maxU (p.drop (aA2 maxI p).2.1)).2.1≠[]:=fun h=>by
  have:=congrArg List.length h;rw[List.drop_drop,lZ] at this;simp at this
  omega
 rcases hd:(p.drop (aA2 maxI p).2.1).drop (aA2 maxU (p.drop (aA2 maxI p).2.1)).2.1 with _|⟨x,r⟩
 ·exact absurd hd h5
 simp only;rw[if_neg];intro h;simp only[Bool.and_eq_true,decide_eq_true_eq] at h;omega
theorem cQ4(A:Option Addr)(p:List UInt8)(c:Nat)(w:World)(hr:Rd w w.heap.size A (cells p))(i4:p.length<=c)(hl:p.length<=4611686018427387904)(hc:c<=9223372036854775807):
  Calls Tryz.prog 167 #[.slice A p.length c] w fun e w' =>e=.returned (.tuple #[.int .i64 (aT7 p).1,.int .i64 (aT7 p).2.1,.bool (aT7 p).2.2])∧w=w' :=by
 have f6:=aK8 maxI p;have f8:=aE5 maxI p;have d8:=qZ (aF7 A p p.length c w.heap.size rfl w hr hl);have d9:=Rd.cutA hr (k:=(aA2 maxI p).2.1) (cap:=c) (by rw[aA1];exact f8) (by rw[aA1];exact i4);rw[<-aW9] at d9;have a9:=qZ (aN3 (cutA A (aA2 maxI p).2.1 c) (p.drop (aA2 maxI p).2.1) (p.length-(aA2 maxI p).2.1) (c-(aA2 maxI p).2.1) w.heap.size (by rw[lZ]) w d9 (by rw[lZ];omega));have f7:=aE5 maxU (p.drop (aA2 maxI p).2.1);rw[lZ] at f7;obtain⟨R,hR⟩:∃R,R=aT7 p:=⟨_,rfl⟩
 have b8:=hR;unfold aT7 at b8;obtain⟨f,hf⟩:∃f,f=(aA2 maxI p).1:=⟨_,rfl⟩
 obtain⟨n,hn⟩:∃n,n=(aA2 maxI p).2.1:=⟨_,rfl⟩
 obtain⟨e1,f9⟩:∃n,n=(aA2 maxI p).2.2:=⟨_,rfl⟩
 rw[<-hn] at a9 f7 f8;rw[<-hf,<-hn,<-f9] at d8 b8;obtain⟨t,ht⟩:∃t,t=aC9 (aA2 maxU (p.drop n)).1:=⟨_,rfl⟩
 obtain⟨m,hm⟩:∃m,m=(aA2 maxU (p.drop n)).2.1:=⟨_,rfl⟩
 obtain⟨e2,g8⟩:∃m,m=(aA2 maxU (p.drop n)).2.2:=⟨_,rfl⟩
 rw[<-ht,<-hm,<-g8] at a9 b8;rw[<-hm] at f7;rw[<-hf] at f6;unfold maxI at f6;rw[<-hR];have HR:=qZ b8;have hcut:=fun W:World=>aH0 (P:=Tryz.prog) Tryz.underlying34 aC6 A p.length c n f8 (n:Int) rfl W
 clear hr d9 hR b8 hf hn f9 ht hm g8;go_enter Tryz.func167,Tryz.ntmps167
 go_wp2_with fail
 refine d8.out.mono ?_;rintro e w1 ⟨rfl,rfl⟩;by_cases h1:e1=0
 rotate_left
 ·have a8:=qZ (HR.out.trans (if_pos h1))
  have j6:(e1 !=0)=true:=bne_iff_ne.2 h1;clear HR d8 a9 hcut h1;go_wp2_with fail
  go_ret3
  exact⟨by rw[a8.out];rfl,rfl⟩
 have a8:=qZ (HR.out.trans (if_neg (fun h=>h h1)));subst h1;clear HR d8;go_wp2_with fail
 refine a9.out.mono ?_;rintro e w2 ⟨rfl,rfl⟩;have j9:IntKind.i64.wrap ((n:Int)+(m:Int))=(n:Int)+(m:Int):=mH _ (by omega);clear a9 hcut;by_cases h2:e2=0
 rotate_left
 ·have HV:Hid (R=((f:Int),t,false)):=qZ (by rw[a8.out,decide_eq_false (show¬e2=0 from h2)];simp)
  clear a8;have l4:(e2==0)=false:=beq_eq_false_iff_ne.2 h2;clear h2;go_wp2_with fail
  go_ret3
  exact⟨by rw[HV.out];rfl,rfl⟩
 subst h2;by_cases h3:(n:Int)+(m:Int)=(p.length:Int)
 ·by_cases h4:(1:Int)<=(f:Int)
  ·by_cases h5:(f:Int)<9223372036854775807
   ·have HV:Hid (R=((f:Int),t,decide (0<=t))):=qZ (by rw[a8.out,decide_eq_true (show n+m=p.length by omega),decide_eq_true (show 1<=f by omega),decide_eq_true h5];simp)
    clear a8;go_wp2_with fail
    go_ret3
    exact⟨by rw[HV.out];rfl,rfl⟩
   have HV:Hid (R=((f:Int),t,false)):=qZ (by rw[a8.out,decide_eq_false (show¬(f:Int)<9223372036854775807 by omega)];simp);clear a8;have i6:decide ((f:Int)<9223372036854775807)=false:=decide_eq_false h5;have g9:decide (f<9223372036854775807)=false:=decide_eq_false (by omega);clear h5 f6;go_wp2_with fail
   go_ret3
   exact⟨by rw[HV.out];rfl,rfl⟩
  have HV:Hid (R=((f:Int),t,false)):=qZ (by rw[a8.out,decide_eq_false (show¬1<=f by omega)];simp);clear a8;go_wp2_with fail
  go_ret3
  exact⟨by rw[HV.out];rfl,rfl⟩
 have HV:Hid (R=((f:Int),t,false)):=qZ (by rw[a8.out,decide_eq_false (show¬n+m=p.length by omega)];simp);clear a8;have j8:(((n:Int)+(m:Int))==(p.length:Int))=false:=beq_eq_false_iff_ne.2 h3;clear h3;go_wp2_with fail
 go_ret3
 exact⟨by rw[HV.out];rfl,rfl⟩
theorem bU6(A:Option Addr)(l:List UInt8)(c B:Nat)(w:World)(hr:Rd w B A (cells l))(f7:l.length<=c)(hl:l.length<=4611686018427387904):
  Calls Tryz.prog 192 #[.slice A l.length c] w fun e w' =>e=.returned (.tuple #[.string (str (aE8 l).1),.int .i64 (aE8 l).2.1,.int .i64 (aE8 l).2.2])∧w=w' :=by
 have f6:(aA2 maxI l).1<=9223372036854775807:=aK8 maxI l;have d9:=aE5 maxI l;by_cases he:(aA2 maxI l).2.2=0
 rotate_left
 ·rw[cB6 he]
  have a8:((aA2 maxI l).2.2 !=0)=true:=by simpa using he
  clear he;go_enter Tryz.func192,Tryz.ntmps192
  go_wp2_with fail
  refine(aF7 A l _ c B rfl _ hr (by omega)).mono ?_;rintro e w1 ⟨rfl,rfl⟩;go_wp2;go_ret3
  exact⟨rfl,rfl⟩
 by_cases h2:65535<(aA2 maxI l).1
 ·rw[bP1 he h2]
  have a8:((aA2 maxI l).2.2 !=0)=false:=by simpa using he
  clear he;go_enter Tryz.func192,Tryz.ntmps192
  go_wp2_with fail
  refine(aF7 A l _ c B rfl _ hr (by omega)).mono ?_;rintro e w1 ⟨rfl,rfl⟩;go_wp2;go_ret3
  exact⟨rfl,rfl⟩
 by_cases h3:l.length-(aA2 maxI l).2.1<(aA2 maxI l).1
 ·rw[cA0 he h2 h3]
  have a8:((aA2 maxI l).2.2 !=0)=false:=by simpa using he
  clear he;go_enter Tryz.func192,Tryz.ntmps192
  go_wp2_with fail
  refine(aF7 A l _ c B rfl _ hr (by omega)).mono ?_;rintro e w1 ⟨rfl,rfl⟩;go_wp2;go_ret3
  exact⟨rfl,rfl⟩
 rw[cG4 he h2 h3];have a8:((aA2 maxI l).2.2 !=0)=false:=by simpa using he
 clear he;have hcut:=fun W:World=>aQ2 (P:=Tryz.prog) Tryz.underlying34 aC6 A l.length c (aA2 maxI l).2.1 ((aA2 maxI l).2.1+(aA2 maxI l).1) (by omega) (by omega) (((aA2 maxI l).2.1:Nat):Int) (((aA2 maxI l).2.1:Int)+((aA2 maxI l).1:Int)) rfl (by simp) W
 rw[Nat.add_sub_cancel_left] at hcut;have b8:Rd w B (cutA A (aA2 maxI l).2.1 c) (cells ((l.drop (aA2 maxI l).2.1).take (aA2 maxI l).1)):=by
  have:=(Rd.cutA hr (k:=(aA2 maxI l).2.1) (cap:=c) (by rw[aA1];omega) (by rw[aA1];omega)).take (aA2 maxI l).1
  simpa[cells,List.map_take,List.map_drop] using this
 have a9:=aX6 (c-(aA2 maxI l).2.1) b8;rw[show((l.drop (aA2 maxI l).2.1).take (aA2 maxI l).1).length=(aA2 maxI l).1 by simp;omega] at a9;have d8:=qZ hr;clear hr b8;go_enter Tryz.func192,Tryz.ntmps192
 go_wp2_with fail
 refine(aF7 A l _ c B rfl _ d8.out (by omega)).mono ?_;rintro e w1 ⟨rfl,rfl⟩;go_wp2;go_ret3
 exact⟨rfl,rfl⟩
theorem aJ0{fn:Func}(h:fn.results=#[.cell 4 65,.tmp 5])(tmps:Array Value)(W:World)(g:Nat)(a b c d:Value)(hp:tmps[4]?.getD undef=.pointer (some ⟨g,0,none⟩))(hB:Blk W g 65 #[a,b,c,d]):
  (results fn tmps).run Tryz.prog W=.ok (.tuple #[.agg #[a,b,c,d],tmps.getD 5 undef]) W:=by
 have e0:=hB.cell 0;have e1:=hB.cell 1;have e2:=hB.cell 2;have e3:=hB.cell 3;have f0:=hB.frozen 0;have f1:=hB.frozen 1;have f2:=hB.frozen 2;have f3:=hB.frozen 3;change _=some a at e0;change _=some b at e1;change _=some c at e2;change _=some d at e3;simp[results,h,go_sem,hp,e0,e1,e2,e3]
theorem cO5(l:List UInt8):(aE8 l).2.1<=l.length:=by
 by_cases h1:(aA2 maxI l).2.2=0
 ·by_cases h2:65535<(aA2 maxI l).1
  ·rw[bP1 h1 h2];exact Nat.zero_le _
  by_cases h3:l.length-(aA2 maxI l).2.1<(aA2 maxI l).1
  ·rw[cA0 h1 h2 h3];exact Nat.zero_le _
  have hu:=aE5 maxI l;rw[cG4 h1 h2 h3];simp only;omega
 rw[cB6 h1];exact Nat.zero_le _
theorem bZ3(p:List UInt8)(ix:Int):aF6 p (ix-1)=if(aA2 maxU p).2.2≠0∨aC9 (aA2 maxU p).1<0 then none else
  if(aA2 maxU (p.drop (aA2 maxU p).2.1)).2.2≠0∨aC9 (aA2 maxU (p.drop (aA2 maxU p).2.1)).1<0 then none else
  if(aE8 (p.drop ((aA2 maxU p).2.1+(aA2 maxU (p.drop (aA2 maxU p).2.1)).2.1))).2.2≠0∨(aE8 (p.drop ((aA2 maxU p).2.1+(aA2 maxU (p.drop (aA2 maxU p).2.1)).2.1))).2.1≠(p.drop ((aA2 maxU p).2.1+(aA2 maxU (p.drop (aA2 maxU p).2.1)).2.1)).length∨aG9<=ix then none else
   some ⟨ix,aC9 (aA2 maxU p).1,aC9 (aA2 maxU (p.drop (aA2 maxU p).2.1)).1,(aE8 (p.drop ((aA2 maxU p).2.1+(aA2 maxU (p.drop (aA2 maxU p).2.1)).2.1))).1⟩:=by
 unfold aF6;simp only[aE7];by_cases h1:(aA2 maxU p).2.2≠0∨aC9 (aA2 maxU p).1<0
 ·rw[if_pos h1,if_pos h1]
 rw[if_neg h1,if_neg h1];by_cases h2:(aA2 maxU (p.drop (aA2 maxU p).2.1)).2.2≠0∨aC9 (aA2 maxU (p.drop (aA2 maxU p).2.1)).1<0
 ·rw[if_pos h2,if_pos h2]
 rw[if_neg h2,if_neg h2];simp only[List.drop_drop];generalize p.drop ((aA2 maxU p).2.1+(aA2 maxU (p.drop (aA2 maxU p).2.1)).2.1)=X
 by_cases h3:(aE8 X).2.2≠0∨(aE8 X).2.1≠X.length∨aG9<=ix
 ·rw[if_pos h3,if_pos (h3.imp id (fun h=>h.imp id (fun h=>by omega)))]
 rw[if_neg h3,if_neg (fun h=>h3 (h.imp id (fun h=>h.imp id (fun h=>by omega)))),show ix-1+1=ix by omega]
theorem cE1(A:Option Addr)(p:List UInt8)(c:Nat)(w:World)(hr:Rd w w.heap.size A (cells p))(m2:p.length<=c)(hl:p.length<=140737488351232)(hc:c<=9223372036854775807)(ix:Int)(n9:-9223372036854775808<=ix∧ix<=9223372036854775807):
  Calls Tryz.prog 168 #[.slice A p.length c,.int .i64 ix] w fun e w' =>Below w.heap.size w w' ∧match aF6 p (ix-1) with
   |none=>e=.returned (.tuple #[.agg #[.int .i64 0,.int .i64 0,.int .i64 0,.slice none 0 0],.bool false])
   |some q=>∃v,e=.returned (.tuple #[.agg #[.int .i64 q.ix,.int .i64 q.tm,.int .i64 q.kd,v],.bool true])∧bC9 w' w.heap.size v q.b:=by
 have j8:=aE5 maxU p;have i6:=aE5 maxU (p.drop (aA2 maxU p).2.1);rw[lZ] at i6;obtain⟨R,hR⟩:∃R,R=aF6 p (ix-1):=⟨_,rfl⟩
 have f8:=hR;rw[bZ3] at f8;rw[<-hR];obtain⟨t,ht⟩:∃t,t=aC9 (aA2 maxU p).1:=⟨_,rfl⟩
 obtain⟨n,hn⟩:∃n,n=(aA2 maxU p).2.1:=⟨_,rfl⟩
 obtain⟨e1,l4⟩:∃n,n=(aA2 maxU p).2.2:=⟨_,rfl⟩
 have H1:∀W,Below w.heap.size w W->Calls Tryz.prog 135 #[.slice A p.length c] W fun e w' =>e=.returned (.tuple #[.int .i64 t,.int .i64 n,.int .i64 e1])∧W=w' :=fun W hb=>by
  rw[ht,hn,l4];exact aN3 A p p.length c w.heap.size rfl W (hr.below hb) (by omega)
 rw[<-ht,<-hn,<-l4] at f8;rw[<-hn] at j8 i6;obtain⟨k,hk⟩:∃t,t=aC9 (aA2 maxU (p.drop n)).1:=⟨_,rfl⟩
 obtain⟨m,hm⟩:∃m,m=(aA2 maxU (p.drop n)).2.1:=⟨_,rfl⟩
 obtain⟨e2,l9⟩:∃m,m=(aA2 maxU (p.drop n)).2.2:=⟨_,rfl⟩
 have l8:=Rd.cutA hr (k:=n) (cap:=c) (by rw[aA1];exact j8) (by rw[aA1];exact m2);rw[<-aW9] at l8;have H2:∀W,Below w.heap.size w W->Calls Tryz.prog 135 #[.slice (cutA A n c) (p.length-n) (c-n)] W fun e w' =>e=.returned (.tuple #[.int .i64 k,.int .i64 m,.int .i64 e2])∧W=w' :=fun W hb=>by
  rw[hk,hm,l9];exact aN3 (cutA A n c) (p.drop n) (p.length-n) (c-n) w.heap.size (by rw[lZ]) W (l8.below hb) (by rw[lZ];omega)
 rw[<-hk,<-hm,<-l9] at f8;rw[<-hm] at i6;have m5:n+m<=p.length:=by omega
 obtain⟨r,i4⟩:∃r,r=p.drop (n+m):=⟨_,rfl⟩
 have l6:r.length=p.length-(n+m):=by rw[i4,lZ]
 have f7:=Rd.cutA hr (k:=n+m) (cap:=c) (by rw[aA1];exact m5) (by rw[aA1];exact m2);rw[<-aW9,<-i4] at f7;obtain⟨tx,g9⟩:∃t,t=(aE8 r).1:=⟨_,rfl⟩
 obtain⟨o,ho⟩:∃m,m=(aE8 r).2.1:=⟨_,rfl⟩
 obtain⟨e3,j9⟩:∃m,m=(aE8 r).2.2:=⟨_,rfl⟩
 have o7:o<=p.length:=by
  have h:=cO5 r;rw[<-ho] at h;omega
 have H3:∀W,Below w.heap.size w W->Calls Tryz.prog 192 #[.slice (cutA A (n+m) c) (p.length-(n+m)) (c-(n+m))] W fun e w' =>e=.returned (.tuple #[.string (str tx),.int .i64 o,.int .i64 e3])∧W=w' :=fun W hb=>by
  rw[g9,ho,j9,<-l6];exact bU6 (cutA A (n+m) c) r (c-(n+m)) w.heap.size W (f7.below hb) (by omega) (by omega)
 rw[<-i4,<-g9,<-ho,<-j9] at f8;have o8:tx.length<=140737488351232:=by rw[g9];have:=bX0 r;omega
 have HR:=qZ f8;have m7:=qZ l6;have m4:=qZ H1;have m0:=qZ H2;have m3:=qZ H3;have hcut:=fun W:World=>aH0 (P:=Tryz.prog) Tryz.underlying34 aC6 A p.length c n j8 (n:Int) rfl W
 have f9:=fun W:World=>aH0 (P:=Tryz.prog) Tryz.underlying34 aC6 A p.length c (n+m) m5 ((n:Int)+(m:Int)) (by omega) W
 have p6:IntKind.i64.wrap ((n:Int)+(m:Int))=(n:Int)+(m:Int):=mH _ (by omega);have n7:IntKind.i64.wrap ((n:Int)+(m:Int)+(o:Int))=(n:Int)+(m:Int)+(o:Int):=mH _ (by omega);clear hr l8 f7 hR f8 ht hn l4 hk hm l9 i4 g9 ho j9 H1 H2 H3 l6 i6;obtain⟨w0,g8⟩:∃W,W=w.alloc (.cells #[.int .i64 0,.int .i64 0,.int .i64 0,.slice none 0 0] 65):=⟨_,rfl⟩
 have l5:Below w.heap.size w w0:=by rw[g8];exact(lS _ w).alloc (lR _) _
 have l7:Blk w0 w.heap.size 65 #[.int .i64 0,.int .i64 0,.int .i64 0,.slice none 0 0]:=by rw[g8];exact Blk.new w _ _
 have m9:=qZ g8;have d9:=qZ l5;have a9:=qZ l7;have n6:=l5.size;have m8:=l7.lt;clear g8 l5 l7;go_enter Tryz.func168,Tryz.ntmps168
 go_upto_region 1 with fail
 rw[<-m9.out];have H1:=qZ (m4.out w0 d9.out);go_wp2_with fail
 refine H1.out.mono ?_;rintro e w1 ⟨rfl,rfl⟩;have f0:w0.cell? ⟨w.heap.size,0,none⟩=some (.int .i64 0):=a9.out.cell 0;have f1:w0.cell? ⟨w.heap.size,1,none⟩=some (.int .i64 0):=a9.out.cell 1;have f2:w0.cell? ⟨w.heap.size,2,none⟩=some (.int .i64 0):=a9.out.cell 2;have f3:w0.cell? ⟨w.heap.size,3,none⟩=some (.slice none 0 0):=a9.out.cell 3;have z0:w0.frozen? ⟨w.heap.size,0,none⟩=false:=a9.out.frozen _;have z1:w0.frozen? ⟨w.heap.size,1,none⟩=false:=a9.out.frozen _;have z2:w0.frozen? ⟨w.heap.size,2,none⟩=false:=a9.out.frozen _;have z3:w0.frozen? ⟨w.heap.size,3,none⟩=false:=a9.out.frozen _;by_cases h1:e1=0
 rotate_left
 ·have HV:Hid (R=none):=qZ (HR.out.trans (if_pos (.inl h1)))
  have o4:(e1 !=0)=true:=bne_iff_ne.2 h1;clear h1 H1 HR;go_wp2_with fail
  have b8:=(((a9.out.set_ 0 (.int .i64 0)).set_ 1 (.int .i64 0)).set_ 2 (.int .i64 0)).set_ 3 (.slice none 0 0);have a8:w0.grownBy ((((w0.setCell ⟨w.heap.size,0,none⟩ (.int .i64 0)).setCell ⟨w.heap.size,1,none⟩ (.int .i64 0)).setCell ⟨w.heap.size,2,none⟩ (.int .i64 0)).setCell ⟨w.heap.size,3,none⟩ (.slice none 0 0)) (some w.heap.size):=aA4 (aA4 (aA4 (aA0 w0 _ 0 _) (aA0 _ _ 1 _) (.inl rfl)) (aA0 _ _ 2 _) (.inl rfl)) (aA0 _ _ 3 _) (.inl rfl);have d8:=d9.out.grown a8 (by omega) (fun r hr=>by injection hr with hr;omega);refine bodyPost_ret (v:=.tuple #[.agg #[.int .i64 0,.int .i64 0,.int .i64 0,.slice none 0 0],.bool false]) ((aJ0 rfl _ _ w.heap.size _ _ _ _ rfl b8).trans rfl) rfl ?_;exact⟨d8,rfl⟩
 subst h1;have H2:=qZ (m0.out w0 d9.out);clear H1 m4 m0;go_wp2_with fail
 refine H2.out.mono ?_;rintro e w2 ⟨rfl,rfl⟩;clear H2;by_cases h2:e2=0
 rotate_left
 ·have HV:Hid (R=none):=qZ (by
   by_cases h5:t<0
   ·exact HR.out.trans (if_pos (.inr h5))
   exact HR.out.trans ((if_neg (by rintro(h|h);exact h rfl;exact h5 h)).trans (if_pos (.inl h2))))
  have p4:(e2 !=0)=true:=bne_iff_ne.2 h2;clear HR h2;go_wp2_with fail
  have b8:=(((a9.out.set_ 0 (.int .i64 0)).set_ 1 (.int .i64 0)).set_ 2 (.int .i64 0)).set_ 3 (.slice none 0 0);have a8:w0.grownBy ((((w0.setCell ⟨w.heap.size,0,none⟩ (.int .i64 0)).setCell ⟨w.heap.size,1,none⟩ (.int .i64 0)).setCell ⟨w.heap.size,2,none⟩ (.int .i64 0)).setCell ⟨w.heap.size,3,none⟩ (.slice none 0 0)) (some w.heap.size):=aA4 (aA4 (aA4 (aA0 w0 _ 0 _) (aA0 _ _ 1 _) (.inl rfl)) (aA0 _ _ 2 _) (.inl rfl)) (aA0 _ _ 3 _) (.inl rfl);have d8:=d9.out.grown a8 (by omega) (fun r hr=>by injection hr with hr;omega);refine bodyPost_ret (v:=.tuple #[.agg #[.int .i64 0,.int .i64 0,.int .i64 0,.slice none 0 0],.bool false]) ((aJ0 rfl _ _ w.heap.size _ _ _ _ rfl b8).trans rfl) rfl ?_;exact⟨d8,rfl⟩
 subst h2;have H3:=qZ (m3.out w0 d9.out);clear m3;go_wp2_with fail
 refine H3.out.mono ?_;rintro e w3 ⟨rfl,rfl⟩;clear H3 hcut f9;by_cases h3:e3=0
 rotate_left
 ·have HV:Hid (R=none):=qZ (by
   by_cases h5:t<0
   ·exact HR.out.trans (if_pos (.inr h5))
   refine HR.out.trans ((if_neg (by rintro(h|h);exact h rfl;exact h5 h)).trans ?_);by_cases h6:k<0
   ·exact if_pos (.inr h6)
   exact(if_neg (by rintro(h|h);exact h rfl;exact h6 h)).trans (if_pos (.inl h3)))
  have p0:(e3 !=0)=true:=bne_iff_ne.2 h3;clear HR h3;go_wp2_with fail
  have b8:=(((a9.out.set_ 0 (.int .i64 0)).set_ 1 (.int .i64 0)).set_ 2 (.int .i64 0)).set_ 3 (.slice none 0 0);have a8:w0.grownBy ((((w0.setCell ⟨w.heap.size,0,none⟩ (.int .i64 0)).setCell ⟨w.heap.size,1,none⟩ (.int .i64 0)).setCell ⟨w.heap.size,2,none⟩ (.int .i64 0)).setCell ⟨w.heap.size,3,none⟩ (.slice none 0 0)) (some w.heap.size):=aA4 (aA4 (aA4 (aA0 w0 _ 0 _) (aA0 _ _ 1 _) (.inl rfl)) (aA0 _ _ 2 _) (.inl rfl)) (aA0 _ _ 3 _) (.inl rfl);have d8:=d9.out.grown a8 (by omega) (fun r hr=>by injection hr with hr;omega);refine bodyPost_ret (v:=.tuple #[.agg #[.int .i64 0,.int .i64 0,.int .i64 0,.slice none 0 0],.bool false]) ((aJ0 rfl _ _ w.heap.size _ _ _ _ rfl b8).trans rfl) rfl ?_;exact⟨d8,rfl⟩
 subst h3;by_cases h4:(n:Int)+(m:Int)+(o:Int)=(p.length:Int)
 rotate_left
 ·have HV:Hid (R=none):=qZ (by
   by_cases h5:t<0
   ·exact HR.out.trans (if_pos (.inr h5))
   refine HR.out.trans ((if_neg (by rintro(h|h);exact h rfl;exact h5 h)).trans ?_);by_cases h6:k<0
   ·exact if_pos (.inr h6)
   exact(if_neg (by rintro(h|h);exact h rfl;exact h6 h)).trans (if_pos (.inr (.inl (by have:=m7.out;omega)))))
  have o9:((n:Int)+(m:Int)+(o:Int) !=(p.length:Int))=true:=bne_iff_ne.2 h4;clear HR h4;go_wp2_with fail
  have b8:=(((a9.out.set_ 0 (.int .i64 0)).set_ 1 (.int .i64 0)).set_ 2 (.int .i64 0)).set_ 3 (.slice none 0 0);have a8:w0.grownBy ((((w0.setCell ⟨w.heap.size,0,none⟩ (.int .i64 0)).setCell ⟨w.heap.size,1,none⟩ (.int .i64 0)).setCell ⟨w.heap.size,2,none⟩ (.int .i64 0)).setCell ⟨w.heap.size,3,none⟩ (.slice none 0 0)) (some w.heap.size):=aA4 (aA4 (aA4 (aA0 w0 _ 0 _) (aA0 _ _ 1 _) (.inl rfl)) (aA0 _ _ 2 _) (.inl rfl)) (aA0 _ _ 3 _) (.inl rfl);have d8:=d9.out.grown a8 (by omega) (fun r hr=>by injection hr with hr;omega);refine bodyPost_ret (v:=.tuple #[.agg #[.int .i64 0,.int .i64 0,.int .i64 0,.slice none 0 0],.bool false]) ((aJ0 rfl _ _ w.heap.size _ _ _ _ rfl b8).trans rfl) rfl ?_;exact⟨d8,rfl⟩
 by_cases h5:t<0
 ·have HV:Hid (R=none):=qZ (HR.out.trans (if_pos (.inr h5)))
  clear HR;go_wp2_with fail
  have b8:=(((a9.out.set_ 0 (.int .i64 0)).set_ 1 (.int .i64 0)).set_ 2 (.int .i64 0)).set_ 3 (.slice none 0 0);have a8:w0.grownBy ((((w0.setCell ⟨w.heap.size,0,none⟩ (.int .i64 0)).setCell ⟨w.heap.size,1,none⟩ (.int .i64 0)).setCell ⟨w.heap.size,2,none⟩ (.int .i64 0)).setCell ⟨w.heap.size,3,none⟩ (.slice none 0 0)) (some w.heap.size):=aA4 (aA4 (aA4 (aA0 w0 _ 0 _) (aA0 _ _ 1 _) (.inl rfl)) (aA0 _ _ 2 _) (.inl rfl)) (aA0 _ _ 3 _) (.inl rfl);have d8:=d9.out.grown a8 (by omega) (fun r hr=>by injection hr with hr;omega);refine bodyPost_ret (v:=.tuple #[.agg #[.int .i64 0,.int .i64 0,.int .i64 0,.slice none 0 0],.bool false]) ((aJ0 rfl _ _ w.heap.size _ _ _ _ rfl b8).trans rfl) rfl ?_;exact⟨d8,rfl⟩
 by_cases h6:k<0
 ·have HV:Hid (R=none):=qZ (HR.out.trans ((if_neg (by rintro(h|h);exact h rfl;exact h5 h)).trans (if_pos (.inr h6))))
  clear HR;go_wp2_with fail
  have b8:=(((a9.out.set_ 0 (.int .i64 0)).set_ 1 (.int .i64 0)).set_ 2 (.int .i64 0)).set_ 3 (.slice none 0 0);have a8:w0.grownBy ((((w0.setCell ⟨w.heap.size,0,none⟩ (.int .i64 0)).setCell ⟨w.heap.size,1,none⟩ (.int .i64 0)).setCell ⟨w.heap.size,2,none⟩ (.int .i64 0)).setCell ⟨w.heap.size,3,none⟩ (.slice none 0 0)) (some w.heap.size):=aA4 (aA4 (aA4 (aA0 w0 _ 0 _) (aA0 _ _ 1 _) (.inl rfl)) (aA0 _ _ 2 _) (.inl rfl)) (aA0 _ _ 3 _) (.inl rfl);have d8:=d9.out.grown a8 (by omega) (fun r hr=>by injection hr with hr;omega);refine bodyPost_ret (v:=.tuple #[.agg #[.int .i64 0,.int .i64 0,.int .i64 0,.slice none 0 0],.bool false]) ((aJ0 rfl _ _ w.heap.size _ _ _ _ rfl b8).trans rfl) rfl ?_;exact⟨d8,rfl⟩
 by_cases h7:aG9<=ix
 ·have HV:Hid (R=none):=qZ (HR.out.trans ((if_neg (by rintro(h|h);exact h rfl;exact h5 h)).trans ((if_neg (by rintro(h|h);exact h rfl;exact h6 h)).trans (if_pos (.inr (.inr h7))))))
  unfold aG9 at h7;have n8:decide (ix>=9223372036854775807)=true:=decide_eq_true h7;clear HR h7;go_wp2_with fail
  have b8:=(((a9.out.set_ 0 (.int .i64 0)).set_ 1 (.int .i64 0)).set_ 2 (.int .i64 0)).set_ 3 (.slice none 0 0);have a8:w0.grownBy ((((w0.setCell ⟨w.heap.size,0,none⟩ (.int .i64 0)).setCell ⟨w.heap.size,1,none⟩ (.int .i64 0)).setCell ⟨w.heap.size,2,none⟩ (.int .i64 0)).setCell ⟨w.heap.size,3,none⟩ (.slice none 0 0)) (some w.heap.size):=aA4 (aA4 (aA4 (aA0 w0 _ 0 _) (aA0 _ _ 1 _) (.inl rfl)) (aA0 _ _ 2 _) (.inl rfl)) (aA0 _ _ 3 _) (.inl rfl);have d8:=d9.out.grown a8 (by omega) (fun r hr=>by injection hr with hr;omega);refine bodyPost_ret (v:=.tuple #[.agg #[.int .i64 0,.int .i64 0,.int .i64 0,.slice none 0 0],.bool false]) ((aJ0 rfl _ _ w.heap.size _ _ _ _ rfl b8).trans rfl) rfl ?_;exact⟨d8,rfl⟩
 have HV:Hid (R=some ⟨ix,t,k,tx⟩):=qZ (HR.out.trans ((if_neg (by rintro(h|h);exact h rfl;exact h5 h)).trans ((if_neg (by rintro(h|h);exact h rfl;exact h6 h)).trans (if_neg (by rintro(h|h|h);exact h rfl;(have:=m7.out;omega);exact h7 h)))));unfold aG9 at h7;have n8:decide (ix>=9223372036854775807)=false:=decide_eq_false h7;obtain⟨vd,w5,o5,hd,j6⟩:=bX5 w0 tx (by omega);have HD:=qZ hd;have m6:=qZ j6;have f6:=a9.out.below j6 m8;clear HR h7 f0 f1 f2 f3 z0 z1 z2 z3 hd j6;have f0:w5.cell? ⟨w.heap.size,0,none⟩=some (.int .i64 0):=f6.cell 0;have f1:w5.cell? ⟨w.heap.size,1,none⟩=some (.int .i64 0):=f6.cell 1;have f2:w5.cell? ⟨w.heap.size,2,none⟩=some (.int .i64 0):=f6.cell 2;have f3:w5.cell? ⟨w.heap.size,3,none⟩=some (.slice none 0 0):=f6.cell 3;have z0:w5.frozen? ⟨w.heap.size,0,none⟩=false:=f6.frozen _;have z1:w5.frozen? ⟨w.heap.size,1,none⟩=false:=f6.frozen _;have z2:w5.frozen? ⟨w.heap.size,2,none⟩=false:=f6.frozen _;have z3:w5.frozen? ⟨w.heap.size,3,none⟩=false:=f6.frozen _;have n5:=qZ f6;obtain⟨gd,cd,o6,fz,n4,_⟩:=id HD.out;subst n4;have hv:=HV.out;clear f6 HV;subst hv;go_wp2_with fail
 have b8:=(((n5.out.set_ 0 (.int .i64 ix)).set_ 1 (.int .i64 t)).set_ 2 (.int .i64 k)).set_ 3 (.slice (some ⟨gd,0,none⟩) tx.length cd);have a8:w5.grownBy ((((w5.setCell ⟨w.heap.size,0,none⟩ (.int .i64 ix)).setCell ⟨w.heap.size,1,none⟩ (.int .i64 t)).setCell ⟨w.heap.size,2,none⟩ (.int .i64 k)).setCell ⟨w.heap.size,3,none⟩ (.slice (some ⟨gd,0,none⟩) tx.length cd)) (some w.heap.size):=aA4 (aA4 (aA4 (aA0 w5 _ 0 _) (aA0 _ _ 1 _) (.inl rfl)) (aA0 _ _ 2 _) (.inl rfl)) (aA0 _ _ 3 _) (.inl rfl);have p5:=m6.out.size;have d8:=(d9.out.trans (m6.out.mono n6)).grown a8 (by omega) (fun r hr=>by injection hr with hr;omega);refine bodyPost_ret (v:=.tuple #[.agg #[.int .i64 ix,.int .i64 t,.int .i64 k,.slice (some ⟨gd,0,none⟩) tx.length cd],.bool true]) ((aJ0 rfl _ _ w.heap.size _ _ _ _ rfl b8).trans rfl) rfl ?_;refine⟨d8,_,rfl,?_⟩;exact(HD.out.keep fun q hq=>a8.block q (HD.out.lt q hq).2 (fun e=>by injection e with e;have:=(HD.out.lt q hq).1;omega)).mono (by omega)
end
section
open Go.RowKit Go.Maps Go.Sort Oct
def dJ1(q:List UInt8):Option (Int×Int):=match aE7 2 q with
 |([t,v],some [])=>some (t,v)
 |_=>none
theorem metaT_eq(q:List UInt8):dJ1 q=if(aA2 maxU q).2.2≠0∨aC9 (aA2 maxU q).1<0 then none else
  if(aA2 maxU (q.drop (aA2 maxU q).2.1)).2.2≠0∨aC9 (aA2 maxU (q.drop (aA2 maxU q).2.1)).1<0 then none else
  if(aA2 maxU q).2.1+(aA2 maxU (q.drop (aA2 maxU q).2.1)).2.1=q.length then some (aC9 (aA2 maxU q).1,aC9 (aA2 maxU (q.drop (aA2 maxU q).2.1)).1) else none:=by
 have a9:=aE5 maxU q;have a8:=aE5 maxU (q.drop (aA2 maxU q).2.1);rw[lZ] at a8;unfold dJ1;simp only[aE7];by_cases h1:(aA2 maxU q).2.2≠0∨aC9 (aA2 maxU q).1<0
 ·rw[if_pos h1,if_pos h1]
 rw[if_neg h1,if_neg h1];by_cases h2:(aA2 maxU (q.drop (aA2 maxU q).2.1)).2.2≠0∨aC9 (aA2 maxU (q.drop (aA2 maxU q).2.1)).1<0
 ·rw[if_pos h2,if_pos h2]
 rw[if_neg h2,if_neg h2];simp only[List.drop_drop];by_cases h3:(aA2 maxU q).2.1+(aA2 maxU (q.drop (aA2 maxU q).2.1)).2.1=q.length
 ·have h5:q.drop ((aA2 maxU q).2.1+(aA2 maxU (q.drop (aA2 maxU q).2.1)).2.1)=[]:=List.drop_eq_nil_of_le (by omega)
  rw[if_pos h3,h5]
 rw[if_neg h3];rcases hd:q.drop ((aA2 maxU q).2.1+(aA2 maxU (q.drop (aA2 maxU q).2.1)).2.1) with _|⟨x,r⟩
 ·have:=congrArg List.length hd
  rw[lZ] at this;simp at this
  omega
 rfl
theorem bZ8(d:DkD):aF3 d=if(d.read aO8).2≠0 then some (0,0) else if(aD2 (d.read aO8).1).2.2≠0∨(aD2 (d.read aO8).1).2.1≠(d.read aO8).1.length then none else dJ1 (aD2 (d.read aO8).1).1:=rfl
section
variable{w w' :World}{base g:Nat}{p:PWD}{room:Int}{vL:Value}{es:List (Nm×RF)}
theorem cW3(h:aB0 w base g p room vL es)(n:Nm)(hl:es.length<=1099511627776)(a9:∀q∈es,q.2.f.b.length<=549755813888):
  Calls Tryz.prog 83 #[.pointer (some ⟨g,0,none⟩),.string (str n)] w fun e w' =>e=.returned (.bool (((aJ1 p room es).read n).2==0))∧Below w.heap.size w w' :=by
 have a8:=qZ (bO8 h n hl a9);clear h hl a9;go_enter Tryz.func83,Tryz.ntmps83
 go_wp2_with fail
 refine a8.out.mono ?_;rintro e w1 ⟨v,rfl,hg,hb⟩;have HB:=qZ hb;clear hb hg a8;go_wp2_with fail
 go_ret
 exact⟨rfl,HB.out⟩
theorem cP3(h:aB0 w base g p room vL es)(hl:es.length<=1099511627776)(i6:∀q∈es,q.2.f.b.length<=1000000000):
  Calls Tryz.prog 86 #[.pointer (some ⟨g,0,none⟩)] w fun e w' =>Below w.heap.size w w' ∧∃(a c:Int) (ok:Bool),e=.returned (.tuple #[.int .i64 a,.int .i64 c,.bool ok])∧match aF3 (aJ1 p room es) with|none=>ok=false|some q=>ok=true∧a=q.1∧c=q.2:=by
 have g9:=qZ (bO8 h aO8 hl (fun q hq=>by have:=i6 q hq;omega));have m4:((aJ1 p room es).read aO8).1.length<=1000000000:=by
  unfold DkD.read;split
  ·simp
  split
  ·simp
  rename_i f hf
  obtain⟨q,hq,e⟩:=List.mem_map.1 (aC8 hf);have:=i6 q hq;injection e with _ e
  rw[<-e];exact this
 obtain⟨R,hR⟩:∃R,R=aF3 (aJ1 p room es):=⟨_,rfl⟩
 rw[<-hR];rw[bZ8] at hR;obtain⟨b,hb⟩:∃b,b=((aJ1 p room es).read aO8).1:=⟨_,rfl⟩
 obtain⟨e0,l9⟩:∃b,b=((aJ1 p room es).read aO8).2:=⟨_,rfl⟩
 rw[<-hb,<-l9] at g9 hR;rw[<-hb] at m4;have HR:=qZ hR;clear h hl i6 hb l9 hR;go_enter Tryz.func86,Tryz.ntmps86
 go_wp2_with fail
 refine g9.out.mono ?_;rintro e w1 ⟨v,rfl,hg,f9⟩;obtain⟨A1,c1,hv,k1,k2,k3⟩:=hg.shape;subst hv;have f8:=qZ f9;have m2:=f9.size;by_cases h0:e0=0
 rotate_left
 ·have m6:(e0 !=0)=true:=bne_iff_ne.2 h0
  have m3:R=some (0,0):=HR.out.trans (if_pos h0);subst m3;clear g9 hg f9 HR h0;go_wp2_with fail
  go_ret3
  exact⟨f8.out,rfl⟩
 subst h0;have d8:=cA2 A1 b b.length c1 rfl w1 k3 k1 ⟨by omega,k2⟩;obtain⟨q,hq⟩:∃q,q=(aD2 b).1:=⟨_,rfl⟩
 obtain⟨us,b8⟩:∃q,q=(aD2 b).2.1:=⟨_,rfl⟩
 obtain⟨eo,j8⟩:∃q,q=(aD2 b).2.2:=⟨_,rfl⟩
 have l4:=HR.out;rw[if_neg (show¬(0:Int)≠0 from fun h=>h rfl),<-hq,<-b8,<-j8] at l4;rw[<-hq,<-b8,<-j8] at d8;have d8:=qZ d8;have d9:=qZ l4;have m9:q.length<=b.length:=by
  rw[hq];unfold aD2
  repeat' split
  all_goals simp
  omega
 clear g9 hg f9 k3 HR hq b8 j8 l4;go_wp2_with fail
 refine d8.out.mono ?_;rintro e w2 ⟨v2,rfl,i4,f7⟩;obtain⟨A2,c2,m0,j1,j2,j3⟩:=aC5 i4;subst m0;have n4:=f7.size;have a9:=qZ (f8.out.trans (f7.mono m2));by_cases h1:eo=0
 rotate_left
 ·have HV:Hid (R=none):=qZ (d9.out.trans (if_pos (.inl h1)))
  have l8:(eo !=0)=true:=bne_iff_ne.2 h1;clear d9 d8 f7 i4 j3 f8 h1;go_wp2_with fail
  go_ret3
  exact⟨a9.out,_,_,rfl⟩
 subst h1;by_cases h2:us=b.length
 rotate_left
 ·have HV:Hid (R=none):=qZ (d9.out.trans (if_pos (.inr h2)))
  have l8:((us:Int) !=(b.length:Int))=true:=bne_iff_ne.2 (by omega);clear d9 d8 f7 i4 j3 f8 h2;go_wp2_with fail
  go_ret3
  exact⟨a9.out,_,_,rfl⟩
 subst h2;have f6:=d9.out;rw[if_neg (by rintro(h|h);exact h rfl;exact h rfl),metaT_eq] at f6;obtain⟨t,ht⟩:∃t,t=aC9 (aA2 maxU q).1:=⟨_,rfl⟩
 obtain⟨n,hn⟩:∃n,n=(aA2 maxU q).2.1:=⟨_,rfl⟩
 obtain⟨e1,j6⟩:∃n,n=(aA2 maxU q).2.2:=⟨_,rfl⟩
 have b8:=aE5 maxU q;have g8:=aE5 maxU (q.drop (aA2 maxU q).2.1);rw[lZ] at g8;have H1:Calls Tryz.prog 135 #[.slice A2 q.length c2] w2 fun e w' =>e=.returned (.tuple #[.int .i64 t,.int .i64 n,.int .i64 e1])∧w2=w' :=by
  rw[ht,hn,j6];exact aN3 A2 q q.length c2 _ rfl w2 j3 (by omega)
 rw[<-ht,<-hn,<-j6] at f6;rw[<-hn] at b8 g8;obtain⟨k,hk⟩:∃t,t=aC9 (aA2 maxU (q.drop n)).1:=⟨_,rfl⟩
 obtain⟨m,hm⟩:∃m,m=(aA2 maxU (q.drop n)).2.1:=⟨_,rfl⟩
 obtain⟨e2,l5⟩:∃m,m=(aA2 maxU (q.drop n)).2.2:=⟨_,rfl⟩
 have j9:=Rd.cutA j3 (k:=n) (cap:=c2) (by rw[aA1];exact b8) (by rw[aA1];exact j1);rw[<-aW9] at j9;have H2:Calls Tryz.prog 135 #[.slice (cutA A2 n c2) (q.length-n) (c2-n)] w2 fun e w' =>e=.returned (.tuple #[.int .i64 k,.int .i64 m,.int .i64 e2])∧w2=w' :=by
  rw[hk,hm,l5];exact aN3 (cutA A2 n c2) (q.drop n) (q.length-n) (c2-n) _ (by rw[lZ]) w2 j9 (by rw[lZ];omega)
 rw[<-hk,<-hm,<-l5] at f6;rw[<-hm] at g8;have m8:n+m<=q.length:=by omega
 have hcut:=fun W:World=>aH0 (P:=Tryz.prog) Tryz.underlying34 aC6 A2 q.length c2 n b8 (n:Int) rfl W
 have n5:IntKind.i64.wrap ((n:Int)+(m:Int))=(n:Int)+(m:Int):=mH _ (by omega);have a8:=qZ f6;have l7:=qZ H1;have l6:=qZ H2;clear j9 H1 H2 f6 ht hn j6 hk hm l5 g8 d9 d8 f8 i4 f7 j3;go_wp2_with fail
 refine l7.out.mono ?_;rintro e w3 ⟨rfl,rfl⟩;clear l7;by_cases h3:e1=0
 rotate_left
 ·have HV:Hid (R=none):=qZ (a8.out.trans (if_pos (.inl h3)))
  have l8:(e1 !=0)=true:=bne_iff_ne.2 h3;clear a8 h3;go_wp2_with fail
  go_ret3
  exact⟨a9.out,_,_,rfl⟩
 subst h3;go_wp2_with fail
 refine l6.out.mono ?_;rintro e w4 ⟨rfl,rfl⟩;clear l6 hcut;by_cases h4:e2=0
 rotate_left
 ·have HV:Hid (R=none):=qZ (by
   rw[a8.out,if_pos (show e2≠0∨k<0 from .inl h4)];split<;>rfl)
  have m7:(e2==0)=false:=beq_eq_false_iff_ne.2 h4;clear a8 h4;go_wp2_with fail
  go_ret3
  exact⟨a9.out,_,_,rfl⟩
 subst h4;by_cases h5:(n:Int)+(m:Int)=(q.length:Int)
 ·by_cases h6:(0:Int)<=t
  ·by_cases h7:(0:Int)<=k
   ·have HV:Hid (R=some (t,k)):=qZ (a8.out.trans ((if_neg (by rintro(h|h);exact h rfl;omega)).trans ((if_neg (by rintro(h|h);exact h rfl;omega)).trans (if_pos (by omega)))))
    clear a8;go_wp2_with fail
    go_ret3
    refine⟨a9.out,t,k,true,rfl,?_⟩;have hq:=Option.some.inj HV.out;rw[hq];exact⟨rfl,rfl,rfl⟩
   have HV:Hid (R=none):=qZ (a8.out.trans ((if_neg (by rintro(h|h);exact h rfl;omega)).trans (if_pos (.inr (by omega)))));have n6:decide (0<=k)=false:=decide_eq_false h7;clear a8 h7;go_wp2_with fail
   go_ret3
   exact⟨a9.out,_,_,rfl⟩
  have HV:Hid (R=none):=qZ (a8.out.trans (if_pos (.inr (by omega))));clear a8;go_wp2_with fail
  go_ret3
  exact⟨a9.out,_,_,rfl⟩
 have HV:Hid (R=none):=qZ (by
  rw[a8.out,if_neg (show¬n+m=q.length by omega)];split
  ·rfl
  split<;>rfl)
 have m5:(((n:Int)+(m:Int))==(q.length:Int))=false:=beq_eq_false_iff_ne.2 h5;clear a8 h5;go_wp2_with fail
 go_ret3
 exact⟨a9.out,_,_,rfl⟩
end
end
section
open Go.RowKit Oct
theorem aI0{B:Nat}{a w:World}(h:Below B a w)(g i:Nat)(u:Value)(hg:B<=g):Below B a (w.setCell ⟨g,i,none⟩ u):=
 ⟨h.os,h.tape,h.output,Nat.le_trans h.size (aA0 w g i u).size,fun k hk=>(Below.heap_setCell _ _ _ _ (by show k≠g;omega)).trans (h.block k hk)⟩
theorem aY5.setR{w:World}{G:Nat}{s:aC4}{rs:List aF2}{vl ve tv:Value}(h:aY5 w G s rs vl ve tv)(g i:Nat)(u:Value)(hg:g<G):aY5 (w.setCell ⟨g,i,none⟩ u) G s rs vl ve tv:=
 ⟨h.blk.far (by show G≠g;omega) u,World.ownsRow.kept h.ents (aA0 w g i u) (by
  cases hv:vl.ownBlock with
  |none=>exact .inl rfl
  |some q=>exact .inr fun e=>by injection e with e;have:=(World.ownsRow.lt h.ents q hv).1;omega),h.map,fun q hq=>(h.dat q hq).keep fun k hk=>(aA0 w g i u).block k ((h.dat q hq).lt k hk).2 (fun e=>by injection e with e;have:=((h.dat q hq).lt k hk).1;omega),Own.far h.ends (aA0 w g i u) (by omega)⟩
theorem aZ2(A1:Option Addr)(l1:List UInt8)(c1:Nat)(w:World)(h1:Rd w w.heap.size A1 (cells l1))(d9:l1.length<=70000000):
  Calls Tryz.prog 67 #[.slice (some ⟨w.heap.size,0,none⟩) 1 1] (w.alloc (.cells #[.slice A1 l1.length c1] 34)) fun e w' =>∃v,e=.returned v∧Got w' w.heap.size v (aF1 l1)∧Below w.heap.size w w' :=by
 have a9:Below w.heap.size w (w.alloc (.cells [Row.val ⟨A1,l1,c1⟩].toArray 34)):=(lS _ w).alloc (lR _) _;have d8:Rd (w.alloc (.cells [Row.val ⟨A1,l1,c1⟩].toArray 34)) (w.alloc (.cells [Row.val ⟨A1,l1,c1⟩].toArray 34)).heap.size (some ⟨w.heap.size,0,none⟩) ([⟨A1,l1,c1⟩].map Row.val):=(aF9 w 34 [Row.val ⟨A1,l1,c1⟩]).more (by simp);have b8:RRd (w.alloc (.cells [Row.val ⟨A1,l1,c1⟩].toArray 34)) (w.alloc (.cells [Row.val ⟨A1,l1,c1⟩].toArray 34)).heap.size [⟨A1,l1,c1⟩]:=fun p hp=>by
  obtain rfl:=List.mem_singleton.1 hp;exact⟨(h1.below a9).more a9.size,by show l1.length<=_;omega⟩
 have a8:aE9 [⟨A1,l1,c1⟩]=l1:=by simp[aE9]
 have h:=bJ5 (some ⟨w.heap.size,0,none⟩) [⟨A1,l1,c1⟩] 1 1 rfl _ d8 b8 (by simp) (by rw[a8];omega) (by simp);rw[a8] at h;exact h.mono fun e w' ⟨v,h1,h2,h3⟩=>⟨v,h1,h2.mono (by simp),a9.trans (h3.mono (by simp))⟩
theorem aY5.pushEnd{w w2:World}{G:Nat}{s:aC4}{rs:List aF2}{vl ve ve' tv:Value}{a:Int}(h:aY5 w G s rs vl ve tv)(b8:Own w2 (G+1) 3 ve' (s.ends.map (Value.int .i64)++[.int .i64 a]))(hg:w.grownBy w2 ve.ownBlock):
  aY5 (w2.setCell ⟨G,4,none⟩ ve') G {s with ends:=s.ends++[a]} rs vl ve' tv:=by
 have f6:∀k,ve.ownBlock=some k->G<k:=fun k hk=>by have:=(Own.lt h.ends k hk).1;omega
 have d8:=aA0 w2 G 4 ve';have k1:Blk w2 G 106 _:=h.blk.grown hg (fun e=>by have:=f6 G e.symm;omega);have a8:Own w2 (G+1) 3 ve' ((s.ends++[a]).map (Value.int .i64)):=by simpa using b8
 have d9:w2.ownsRow (G+1) 65 4 vl rs.length (aA7 rs):=World.ownsRow.kept h.ents hg (jrow_type_ne h.ents h.ends (by decide));refine⟨Blk.set_ k1 4 _,World.ownsRow.kept d9 d8 (by
  cases hv:vl.ownBlock with
  |none=>exact .inl rfl
  |some k=>exact .inr fun e=>by injection e with e;have:=(World.ownsRow.lt d9 k hv).1;omega),h.map,fun q hq=>(h.dat q hq).keep fun k hk=>?_,Own.far a8 d8 (by omega)⟩
 have h2:=(h.dat q hq).lt k hk;rw[Below.heap_setCell w2 ⟨G,4,none⟩ ve' k (by show k≠G;omega)];refine hg.block k h2.2 fun e=>?_
 obtain⟨g,cs,fz,e1,hc⟩:=(h.dat q hq).held;rw[hk] at e1;injection e1 with e1
 subst e1;obtain⟨f7,a9⟩:=aD1 h.ends e.symm;rw[hc] at a9;injection a9 with a9
 injection a9 with _ h _
 exact absurd h (by decide)
theorem bF8{w1 w2 w4:World}{G:Nat}{s:aC4}{rs:List aF2}{vl ve v4 tv:Value}{a:Int}(hS:aY5 w2 G s rs vl ve tv)(hB:Below G w1 w2)(a8:Own w4 (G+1) 3 v4 (s.ends.map (Value.int .i64)++[.int .i64 a]))(hg:w2.grownBy w4 ve.ownBlock):
  ∃A4 c4,v4=.slice A4 (s.ends.length+1) c4∧w4.cell? ⟨G,4,none⟩=some ve∧w4.frozen? ⟨G,4,none⟩=false∧aY5 (w4.setCell ⟨G,4,none⟩ v4) G {s with ends:=s.ends++[a]} rs vl v4 tv∧Below G w1 (w4.setCell ⟨G,4,none⟩ v4):=by
 have a9:ve.ownBlock≠some G:=fun e=>by have:=(Own.lt hS.ends G e).1;omega
 have d9:=hS.blk.lt;have k4:=hg.block G d9 (fun e=>a9 e.symm);have d8:Blk w4 G 106 _:=Eq.trans k4 hS.blk;obtain⟨A4,c4,b8,_,_,_⟩:=Own.shape a8;rw[lT,lU] at b8;have hb:=hB.size;exact⟨A4,c4,b8,d8.cell 4,d8.frozen _,hS.pushEnd a8 hg,aI0 (hB.grown hg (by omega) (fun j hj=>by have:=(Own.lt hS.ends j hj).1;omega)) G 4 _ (lR _)⟩
theorem cW0(k:Int)(hk:-9223372036854775808<=k∧k<=9223372036854775807)(A:Option Addr)(b:List UInt8)(c:Nat)(w:World)(hr:Rd w w.heap.size A (cells b))(G0:b.length<=c)(hb:b.length<=1000000000)(hc:c<=9223372036854775807):
  Calls Tryz.prog 99 #[.int .i64 k,.slice A b.length c] w fun e w' =>Below w.heap.size w w' ∧∃v,e=.returned (.tuple #[v,.bool (aD9 k b).isSome])∧(∃a1 a2 a3 Al nl cl Ae ne ce tn,v=.agg #[.int .i64 a1,.int .i64 a2,.int .i64 a3,.slice Al nl cl,.slice Ae ne ce,.bool tn])∧
   ∀s torn,aD9 k b=some (s,torn)->∃G rs vl ve,w.heap.size<=G∧aY5 w' G s rs vl ve (.bool torn)∧v=.agg #[.int .i64 s.k,.int .i64 s.first,.int .i64 s.term,vl,ve,.bool torn]∧s.k=k∧(0<=s.first∧s.first<=9223372036854775806)∧-1<=s.last.1∧s.l.length<=b.length∧s.ends.length<=b.length:=by
 have o5:Below w.heap.size w (w.alloc (.cells #[.int .i64 0,.int .i64 0,.int .i64 0,.slice none 0 0,.slice none 0 0,.bool false] 106)):=(lS _ w).alloc (lR _) _;have p9:Blk (w.alloc (.cells #[.int .i64 0,.int .i64 0,.int .i64 0,.slice none 0 0,.slice none 0 0,.bool false] 106)) w.heap.size 106 #[.int .i64 0,.int .i64 0,.int .i64 0,.slice none 0 0,.slice none 0 0,.bool false]:=Blk.new w _ _;have C9:=qZ (dD0 A b b.length c rfl (w.alloc (.cells #[.int .i64 0,.int .i64 0,.int .i64 0,.slice none 0 0,.slice none 0 0,.bool false] 106)) ((hr.below o5).more o5.size) G0 (by omega));have C8:=qZ p9;have D0:=qZ o5;have B8:=p9.lt;clear o5 p9 hr;go_enter Tryz.func99,Tryz.ntmps99
 go_wp2_with fail
 refine C9.out.mono ?_;rintro e w1 ⟨v,xs,rfl,hg,o6⟩;obtain⟨A1,c1,hv,I1,I2,E5⟩:=Own.shape hg.own;subst hv;have t6:=C8.out.below o6 B8;have z8:Below w.heap.size w w1:=D0.out.trans (o6.mono (by omega));obtain⟨er,x5⟩:∃er,er=(aE4 b).2.2:=⟨_,rfl⟩
 have E8:=qZ x5;rw[<-x5];have I6:=z8.size;have B6:w.heap.size<w1.heap.size:=t6.lt;clear x5 C9 C8 D0;have i6:=qZ hg;have n7:=qZ t6;have p7:=qZ z8;clear hg t6 z8 o6;go_upto_region 3 with(fail)
 obtain⟨G,hG⟩:∃G,G=w1.heap.size:=⟨_,rfl⟩
 have C7:aY5 (w1.alloc (.cells #[.int .i64 k,.int .i64 0,.int .i64 0,.slice none 0 0,.slice none 0 0,.bool (er !=0)] 106)) G ⟨k,0,0,[],[]⟩ [] (.slice none 0 0) (.slice none 0 0) (.bool (er !=0)):=by
  rw[hG];exact⟨Blk.new w1 _ _,World.ownsRow_nil _ _ _ _,rfl,(fun q hq=>by cases hq),Own.nil _ _ _⟩
 have C6:Below G w1 (w1.alloc (.cells #[.int .i64 k,.int .i64 0,.int .i64 0,.slice none 0 0,.slice none 0 0,.bool (er !=0)] 106)):=by
  rw[hG];exact(lS _ w1).alloc (lR _) _
 have o8:=qZ C7;have t7:=qZ C6;rw[<-hG];obtain⟨tn,p5⟩:∃tn,tn=(er !=0):=⟨_,rfl⟩
 rw[<-p5] at o8 t7⊢;have D1:=qZ p5;generalize(w1.alloc (.cells #[.int .i64 k,.int .i64 0,.int .i64 0,.slice none 0 0,.slice none 0 0,.bool tn] 106))=wG at o8 t7⊢
 have HG:=qZ hG;have m7:=qZ B6;obtain⟨C5,l4⟩:=bB9 b;have G5:xs.length<=1000000000:=by rw[i6.out.len];omega
 clear C7 C6 p5 hG B8 B6 E5;go_wp2_with fail
 go_loopw [10,11,12,26] (fun at_ _ _ ix wr=>∃(i:Nat) (a:Int) (s:aC4) (rs:List aF2) (vl ve:Value),i<=xs.length∧ix=.int .i64 i∧at_=.int .i64 a∧Hid (RdI k b i s a)∧Hid (rs.length=s.l.length)∧Hid (aY5 wr G s rs vl ve (.bool tn))∧Hid (Below G w1 wr)) (fun _ _ _ ix _=>xs.length-(intOf ix).toNat)
 case atStart=>exact⟨0,0,_,[],_,_,by omega,rfl,rfl,qZ (RdI.start k b),qZ rfl,o8,t7⟩
 obtain⟨i,a,s,rs,vl,ve,hi,rfl,rfl,d8,B1,HS,HB⟩:=hrel;have I7:G<wr.heap.size:=HS.out.blk.lt;by_cases n9:i<xs.length
 rotate_left
 ·obtain rfl:i=xs.length:=by omega
  have hD:=d8.out.done i6.out.len;obtain⟨Al,cl,t8,_⟩:=aB2 HS.out.ents;obtain⟨Ae,ce,l6,_,_,_⟩:=Own.shape HS.out.ends;rw[lU] at l6;subst t8 l6;have a8:=n7.out.below HB.out (by rw[HG.out];exact m7.out);have C4:tn=decide ((aE4 b).2.2≠0):=by rw[D1.out,E8.out];by_cases h:(aE4 b).2.2=0<;>simp[h,bne]
  rw[<-C4] at hD;have hz:(aD9 k b).isSome=true:=by rw[hD];rfl
  have HZ:=qZ hz;have HD:=qZ hD;have g0:wr.cell? ⟨G,0,none⟩=some (.int .i64 s.k):=HS.out.blk.cell 0;have g1:wr.cell? ⟨G,1,none⟩=some (.int .i64 s.first):=HS.out.blk.cell 1;have g2:wr.cell? ⟨G,2,none⟩=some (.int .i64 s.term):=HS.out.blk.cell 2;have g3:wr.cell? ⟨G,3,none⟩=some (.slice Al _ cl):=HS.out.blk.cell 3;have g4:wr.cell? ⟨G,4,none⟩=some (.slice Ae _ ce):=HS.out.blk.cell 4;have g5:wr.cell? ⟨G,5,none⟩=some (.bool tn):=HS.out.blk.cell 5;have r0:wr.cell? ⟨w.heap.size,0,none⟩=some _:=a8.cell 0;have r1:wr.cell? ⟨w.heap.size,1,none⟩=some _:=a8.cell 1;have r2:wr.cell? ⟨w.heap.size,2,none⟩=some _:=a8.cell 2;have r3:wr.cell? ⟨w.heap.size,3,none⟩=some _:=a8.cell 3;have r4:wr.cell? ⟨w.heap.size,4,none⟩=some _:=a8.cell 4;have r5:wr.cell? ⟨w.heap.size,5,none⟩=some _:=a8.cell 5;have z0:wr.frozen? ⟨w.heap.size,0,none⟩=false:=a8.frozen _;have z1:wr.frozen? ⟨w.heap.size,1,none⟩=false:=a8.frozen _;have z2:wr.frozen? ⟨w.heap.size,2,none⟩=false:=a8.frozen _;have z3:wr.frozen? ⟨w.heap.size,3,none⟩=false:=a8.frozen _;have z4:wr.frozen? ⟨w.heap.size,4,none⟩=false:=a8.frozen _;have z5:wr.frozen? ⟨w.heap.size,5,none⟩=false:=a8.frozen _;clear a8 hz hD C4;go_wp2_with fail
  (try simp only[Exit.inBlock,Exit.then])
  refine bodyPost_ret (v:=.tuple #[.agg #[.int .i64 s.k,.int .i64 s.first,.int .i64 s.term,.slice Al rs.length cl,.slice Ae s.ends.length ce,.bool tn],.bool true]) (by rw[results_cell_tmp rfl];go_simp<;>rfl) rfl ?_;have G7:=HG.out;have G8:=m7.out;have f7:Below w.heap.size w wr:=p7.out.trans (HB.out.mono (by omega));have E9:=HS.out;refine⟨?_,_,by rw[HZ.out],⟨_,_,_,_,_,_,_,_,_,_,rfl⟩,fun s' torn' h=>?_⟩
  ·iterate 6 (refine aI0 ?_ _ _ _ (lR _))
   exact f7
  rw[HD.out] at h;injection h with h
  injection h with e1 e2
  subst e1 e2;refine⟨G,rs,_,_,by omega,?_,rfl,d8.out.key,d8.out.first,d8.out.last,by have:=d8.out.len.2;rw[i6.out.len] at this;omega,by have:=d8.out.len.1;rw[i6.out.len] at this;omega⟩
  iterate 6 (refine aY5.setR ?_ _ _ _ (by omega))
  exact E9
 have i4:i<(aE4 b).1.length:=by rw[<-i6.out.len];exact n9
 have m0:=Rd.at_ (aG1.rd i6.out) n9;obtain⟨n8,D4,E6,q8⟩:=m0;subst D4;have hp:=(i6.out.got i n9 i4).shape;obtain⟨Ap,cp,hv,p8,n5,x4⟩:=hp;rw[hv] at q8;have m3:wr.cell? (n8.add i)=some (.slice Ap ((aE4 b).1[i]).length cp):=(World.cell?_of_block (w:=w1) (HB.out.block _ (by rw[aC7,HG.out];exact E6))).trans q8;have m9:=l4 _ (lX i4);have s9:(aE4 b).1[i]? =some ((aE4 b).1[i]):=lW i4;have g9:Rd wr G Ap (cells ((aE4 b).1[i])):=by
  rw[HG.out];have:=HB.out;rw[HG.out] at this;exact x4.below this
 have y8:Rd w1 G Ap (cells ((aE4 b).1[i])):=by rw[HG.out];exact x4
 generalize(aE4 b).1[i]=p at y8 p8 m9 s9 g9 m3
 have o4:=qZ s9;have t4:=qZ g9;have B4:=qZ y8;clear s9 g9 q8 hv x4 y8;have D9:(i:Int)<(xs.length:Int):=by omega
 obtain⟨Al,cl,t8,_⟩:=aB2 HS.out.ents;obtain⟨Ae,ce,l6,_,_,_⟩:=Own.shape HS.out.ends;rw[lU] at l6;subst t8 l6;have G6:=qZ (n7.out.below HB.out (by rw[HG.out];exact m7.out));have D3:0<p.length->∀ad,Ap=some ad->ad.block≠G:=fun h0 ad e=>by
  obtain⟨I5,e',n9,_⟩:=t4.out (by rw[aA1];exact h0);rw[e] at e';injection e' with e'
  subst e';omega
 by_cases hi0:i=0
 ·subst hi0
  obtain⟨rfl,rfl⟩:=d8.out.zero rfl;have D7:wr.cell? n8=some (.slice Ap p.length cp):=(show n8.add 0=n8 by simp[Addr.add])▸m3;have C1:=bR9 Ap p cp G 106 _ 0 0 wr (t4.out.more (by omega)) D3 p8 (by omega) n5 HS.out.blk rfl rfl;have B7:=qZ C1;clear C1;go_wp2_with fail
  refine B7.out.mono ?_;rintro e w2 ⟨rfl,z9,f,t,C0,hq⟩;have j9:=HS.out.headed z9 (f:=f) (t:=t) C0;have m4:Below G w1 w2:=HB.out.grown z9 (by omega) (fun j hj=>by injection hj with hj;omega);have a9:=qZ j9;have f8:=qZ m4;have HQ:=qZ hq;clear B7 z9 C0 hq j9 m4;cases htk:aK0 p with
  |none=>
   have hN:=RdI.headBad (k:=k) o4.out htk;have HN:=qZ hN;clear hN;have a8:=n7.out.below f8.out (by rw[HG.out];exact m7.out);have hz:(aD9 k b).isSome=false:=by rw[HN.out];rfl
   have HZ:=qZ hz;have g0:w2.cell? ⟨G,0,none⟩=some (.int .i64 k):=a9.out.blk.cell 0;have g1:w2.cell? ⟨G,1,none⟩=some (.int .i64 f):=a9.out.blk.cell 1;have g2:w2.cell? ⟨G,2,none⟩=some (.int .i64 t):=a9.out.blk.cell 2;have g3:w2.cell? ⟨G,3,none⟩=some (.slice Al _ cl):=a9.out.blk.cell 3;have g4:w2.cell? ⟨G,4,none⟩=some (.slice Ae _ ce):=a9.out.blk.cell 4;have g5:w2.cell? ⟨G,5,none⟩=some (.bool tn):=a9.out.blk.cell 5;have r0:w2.cell? ⟨w.heap.size,0,none⟩=some _:=a8.cell 0;have r1:w2.cell? ⟨w.heap.size,1,none⟩=some _:=a8.cell 1;have r2:w2.cell? ⟨w.heap.size,2,none⟩=some _:=a8.cell 2;have r3:w2.cell? ⟨w.heap.size,3,none⟩=some _:=a8.cell 3;have r4:w2.cell? ⟨w.heap.size,4,none⟩=some _:=a8.cell 4;have r5:w2.cell? ⟨w.heap.size,5,none⟩=some _:=a8.cell 5;have z0:w2.frozen? ⟨w.heap.size,0,none⟩=false:=a8.frozen _;have z1:w2.frozen? ⟨w.heap.size,1,none⟩=false:=a8.frozen _;have z2:w2.frozen? ⟨w.heap.size,2,none⟩=false:=a8.frozen _;have z3:w2.frozen? ⟨w.heap.size,3,none⟩=false:=a8.frozen _;have z4:w2.frozen? ⟨w.heap.size,4,none⟩=false:=a8.frozen _;have z5:w2.frozen? ⟨w.heap.size,5,none⟩=false:=a8.frozen _;clear a8 hz;go_wp2_with fail
   (try simp only[Exit.inBlock,Exit.then])
   refine bodyPost_ret (v:=.tuple #[.agg #[.int .i64 k,.int .i64 f,.int .i64 t,.slice Al rs.length cl,.slice Ae 0 ce,.bool tn],.bool false]) (by rw[results_cell_tmp rfl];go_simp<;>rfl) rfl ?_;refine⟨?_,_,by rw[HZ.out],⟨_,_,_,_,_,_,_,_,_,_,rfl⟩,fun s torn h=>by rw[HN.out] at h;cases h⟩;have f7:Below w.heap.size w w2:=p7.out.trans (f8.out.mono (by have:=HG.out;omega));have G2:=f7.size
   repeat (first|exact f7|refine aI0 ?_ _ _ _ (lR _))
  |some q=>
   obtain⟨f',t'⟩:=q;have e:=HQ.out _ htk;injection e with e1 e2
   subst e1 e2;have m6:=d8.out.head o4.out m9 htk;have j6:=qZ (B4.out.below f8.out);have p0:G<w2.heap.size:=a9.out.blk.lt;have f9:=aZ2 Ap p cp w2 (j6.out.more (by omega)) (by omega);have m2:=qZ f9;clear f9;go_wp2_with fail
   refine m2.out.mono ?_;rintro e w3 ⟨v3,rfl,l5,j8⟩;obtain⟨A3,c3,rfl,_,_,_⟩:=l5.shape;have f6:=a9.out.new j8;have l7:Below G w1 w3:=f8.out.trans (j8.mono (by omega));have f9:=aG4 m9;have l9:=qZ m6;generalize(aF1 p).length=clo at f9 l9
   have E7:=d8.out.at_;have hw:IntKind.i64.wrap ((0:Int)+(clo:Int))=(0:Int)+(clo:Int):=mH _ (by omega);have D8:IntKind.i64.wrap (clo:Int)=(clo:Int):=mH _ (by omega);have g4:w3.cell? ⟨G,4,none⟩=some (.slice Ae _ ce):=f6.blk.cell 4;have gz:w3.frozen? ⟨G,4,none⟩=false:=f6.blk.frozen _;have x8:=qZ f6;have o9:=qZ l7;have o7:G<w3.heap.size:=f6.blk.lt;clear m2 l5 j8 f6 l7 m6;have n4:=qZ (x8.out.new ((lS _ w3).alloc (lR _) (.cells [Value.int .i64 (clo:Int)].toArray 3)));have x7:=qZ (o9.out.trans (((lS _ w3).alloc (lR _) (.cells [Value.int .i64 (clo:Int)].toArray 3)).mono (by omega)));have d9:Rd (w3.alloc (.cells [Value.int .i64 (clo:Int)].toArray 3)) (w3.heap.size+1) (some ⟨w3.heap.size,0,none⟩) [Value.int .i64 (clo:Int)]:=aF9 w3 3 [Value.int .i64 (clo:Int)];have g8:=qZ d9;have p4:=Nat.le_of_eq d8.out.len.1;have x6:=((lS _ w3).alloc (lR _) (.cells [Value.int .i64 (clo:Int)].toArray 3)).size;clear d9;go_wp2_with (at_builtin;go_must (refine aA6 rfl (.tmp 58) (.tmp 60) 41 rfl (G+1) 3 (.int .i64 0) 8 Tryz.underlying41 bB1 rfl _ _ rfl n4.out.ends (w3.heap.size+1) (some ⟨w3.heap.size,0,none⟩) 1 1 [.int .i64 (clo:Int)] rfl rfl g8.out (by simp[Value.oneCell']) (by unfold maxLen;simp<;>omega) (by simp<;>omega) (by omega) ?_;intro v4 w4 b8 n6 p6;obtain⟨A4,c4,q6,q4,y4,m5,l8⟩:=bF8 n4.out x7.out b8 n6;subst q6;have m8:=qZ (And.intro m5 l8);clear b8 n6 p6 m5 l8))
   go_roundw
   case rel=>exact⟨1,(clo:Int),_,rs,_,_,by omega,rfl,rfl,l9,B1,qZ m8.out.1,qZ m8.out.2⟩
   case measure=>simp[intOf];omega
 have B2:0<i:=by omega
 have G9:((i:Int)==0)=false:=by simp;omega
 have G4:(0:Int)<(i:Int):=by omega
 have G3:=d8.out.len.2;have B9:=bN6 Ap p cp G wr HS.out t4.out p8 (by omega) n5 (by have:=d8.out.first;omega) (by rw[B1.out];omega) (by have:=d8.out.last;omega);have C3:=qZ B9;clear B9;go_wp2_with fail
 refine C3.out.mono ?_;rintro e w2 ⟨rfl,f7,B5,C2⟩;have f8:=qZ (HB.out.trans f7);have D6:=qZ B5;have D5:=qZ C2;clear C3 f7 B5 C2;cases htk:aF6 p s.last.1 with
 |none=>
  have HN:=qZ (d8.out.entryBad B2 o4.out htk);have a9:=qZ (D6.out htk);have a8:=n7.out.below f8.out (by rw[HG.out];exact m7.out);have hz:(aD9 k b).isSome=false:=by rw[HN.out];rfl
  have HZ:=qZ hz;have g0:w2.cell? ⟨G,0,none⟩=some (.int .i64 s.k):=a9.out.blk.cell 0;have g1:w2.cell? ⟨G,1,none⟩=some (.int .i64 s.first):=a9.out.blk.cell 1;have g2:w2.cell? ⟨G,2,none⟩=some (.int .i64 s.term):=a9.out.blk.cell 2;have g3:w2.cell? ⟨G,3,none⟩=some (.slice Al _ cl):=a9.out.blk.cell 3;have g4:w2.cell? ⟨G,4,none⟩=some (.slice Ae _ ce):=a9.out.blk.cell 4;have g5:w2.cell? ⟨G,5,none⟩=some (.bool tn):=a9.out.blk.cell 5;have r0:w2.cell? ⟨w.heap.size,0,none⟩=some _:=a8.cell 0;have r1:w2.cell? ⟨w.heap.size,1,none⟩=some _:=a8.cell 1;have r2:w2.cell? ⟨w.heap.size,2,none⟩=some _:=a8.cell 2;have r3:w2.cell? ⟨w.heap.size,3,none⟩=some _:=a8.cell 3;have r4:w2.cell? ⟨w.heap.size,4,none⟩=some _:=a8.cell 4;have r5:w2.cell? ⟨w.heap.size,5,none⟩=some _:=a8.cell 5;have z0:w2.frozen? ⟨w.heap.size,0,none⟩=false:=a8.frozen _;have z1:w2.frozen? ⟨w.heap.size,1,none⟩=false:=a8.frozen _;have z2:w2.frozen? ⟨w.heap.size,2,none⟩=false:=a8.frozen _;have z3:w2.frozen? ⟨w.heap.size,3,none⟩=false:=a8.frozen _;have z4:w2.frozen? ⟨w.heap.size,4,none⟩=false:=a8.frozen _;have z5:w2.frozen? ⟨w.heap.size,5,none⟩=false:=a8.frozen _;clear a8 hz;go_wp2_with fail
  (try simp only[Exit.inBlock,Exit.then])
  refine bodyPost_ret (v:=.tuple #[.agg #[.int .i64 s.k,.int .i64 s.first,.int .i64 s.term,.slice Al rs.length cl,.slice Ae s.ends.length ce,.bool tn],.bool false]) (by rw[results_cell_tmp rfl];go_simp<;>rfl) rfl ?_;refine⟨?_,_,by rw[HZ.out],⟨_,_,_,_,_,_,_,_,_,_,rfl⟩,fun s torn h=>by rw[HN.out] at h;cases h⟩;have f7:Below w.heap.size w w2:=p7.out.trans (f8.out.mono (by have:=HG.out;omega));have G2:=f7.size
  repeat (first|exact f7|refine aI0 ?_ _ _ _ (lR _))
 |some q=>
  obtain⟨vq,I0,j9⟩:=D5.out q htk;obtain⟨I3,I4,t9,_⟩:=aB2 j9.ents;subst t9;have a9:=qZ j9;clear j9;have m6:=d8.out.entry B2 o4.out m9 htk;have j6:=qZ (B4.out.below f8.out);have p0:G<w2.heap.size:=a9.out.blk.lt;have f9:=aZ2 Ap p cp w2 (j6.out.more (by omega)) (by omega);have m2:=qZ f9;clear f9;go_wp2_with fail
  refine m2.out.mono ?_;rintro e w3 ⟨v3,rfl,l5,j8⟩;obtain⟨A3,c3,rfl,_,_,_⟩:=l5.shape;have f6:=a9.out.new j8;have l7:Below G w1 w3:=f8.out.trans (j8.mono (by omega));have f9:=aG4 m9;have l9:=qZ m6;generalize(aF1 p).length=clo at f9 l9
  have E7:=d8.out.at_;have hw:IntKind.i64.wrap (a+(clo:Int))=a+(clo:Int):=mH _ (by omega);have D8:IntKind.i64.wrap (clo:Int)=(clo:Int):=mH _ (by omega);have g4:w3.cell? ⟨G,4,none⟩=some (.slice Ae _ ce):=f6.blk.cell 4;have gz:w3.frozen? ⟨G,4,none⟩=false:=f6.blk.frozen _;have x8:=qZ f6;have o9:=qZ l7;have o7:G<w3.heap.size:=f6.blk.lt;clear m2 l5 j8 f6 l7 m6;have n4:=qZ (x8.out.new ((lS _ w3).alloc (lR _) (.cells [Value.int .i64 (a+(clo:Int))].toArray 3)));have x7:=qZ (o9.out.trans (((lS _ w3).alloc (lR _) (.cells [Value.int .i64 (a+(clo:Int))].toArray 3)).mono (by omega)));have d9:Rd (w3.alloc (.cells [Value.int .i64 (a+(clo:Int))].toArray 3)) (w3.heap.size+1) (some ⟨w3.heap.size,0,none⟩) [Value.int .i64 (a+(clo:Int))]:=aF9 w3 3 [Value.int .i64 (a+(clo:Int))];have g8:=qZ d9;have p4:=Nat.le_of_eq d8.out.len.1;have x6:=((lS _ w3).alloc (lR _) (.cells [Value.int .i64 (a+(clo:Int))].toArray 3)).size;clear d9;go_wp2_with (at_builtin;go_must (refine aA6 rfl (.tmp 58) (.tmp 60) 41 rfl (G+1) 3 (.int .i64 0) 8 Tryz.underlying41 bB1 rfl _ _ rfl n4.out.ends (w3.heap.size+1) (some ⟨w3.heap.size,0,none⟩) 1 1 [.int .i64 (a+(clo:Int))] rfl rfl g8.out (by simp[Value.oneCell']) (by unfold maxLen;simp<;>omega) (by simp<;>omega) (by omega) ?_;intro v4 w4 b8 n6 p6;obtain⟨A4,c4,q6,q4,y4,m5,l8⟩:=bF8 n4.out x7.out b8 n6;subst q6;have m8:=qZ (And.intro m5 l8);clear b8 n6 p6 m5 l8))
  go_roundw
  case rel=>exact⟨i+1,a+(clo:Int),_,rs++[_],_,_,by omega,by go_num,rfl,l9,qZ (by rw[lT,lT,B1.out];rfl),qZ m8.out.1,qZ m8.out.2⟩
  case measure=>simp[intOf];omega
end
section
open Go.RowKit Oct
theorem cU7{w:World}{base g n c i:Nat}{e:TypeId}{size:Nat}{xs:List Value}(h:w.ownsRow base e size (.slice (some ⟨g,0,none⟩) n c) n xs)(u:Value):(w.setCell ⟨g,i,none⟩ u).ownsRow base e size (.slice (some ⟨g,0,none⟩) n c) n (xs.set i u):=by
 rcases h.2 with⟨hv,_⟩|⟨g',cap,a8,hv,hb,hg,hn,hm,hs,ht⟩
 ·cases hv
 injection hv with e1 _ e3
 injection e1 with e1
 injection e1 with e1 _ _
 subst e1 e3;refine⟨by rw[List.length_set];exact h.1,.inr ⟨g,c,a8.setIfInBounds i u,rfl,hb,Blk.set_ hg i u,hn,hm,by simp[hs],?_⟩⟩;rw[Array.toList_setIfInBounds,List.take_set,ht]
theorem bN3:∀(l:List aF2) {k:Nat} (hk:k<l.length) (v:Value),(aA7 l).set (k*4+3) v=aA7 (l.set k ⟨v,l[k].e⟩)
 |[],k,hk,v=>by simp at hk
 |x::r,0,hk,v=>rfl
 |x::r,k+1,hk,v=>by
  have ih:=bN3 r (k:=k) (by simpa using hk) v;have e1:aA7 (x::r)=aK2 x++aA7 r:=by unfold aA7;rw[List.flatMap_cons]
  rw[e1,List.set_append_right _ _ (by simp[aK2];omega)];have e2:(k+1)*4+3-(aK2 x).length=k*4+3:=by simp[aK2];omega
  rw[e2,ih,List.set_cons_succ];unfold aA7;rw[List.flatMap_cons]
  rfl
theorem bJ6{F:Nat->Prop}(A:Option Addr)(rs:List aF2)(c:Nat)(w:World)(hr:RdF w F A (aA7 rs))(hd:∀q∈rs,bF9 w F q.v q.e.b)(hF:∀k,F k->k<w.heap.size)(hn:rs.length<=1099511627776)(hl:∀q∈rs,q.e.b.length<=140737488351232):
  Calls Tryz.prog 64 #[.slice A rs.length c] w fun e w' =>∃v rs',e=.returned v∧w'.ownsRow w.heap.size 65 4 v rs.length (aA7 rs')∧rs'.map aF2.e=rs.map aF2.e∧(∀q∈rs',Bs w' w.heap.size q.v q.e.b)∧Below w.heap.size w w' :=by
 have f7:∀u∈aA7 rs,u.oneCell' =true:=by
  intro u hu;obtain⟨q,hq,h⟩:=List.mem_flatMap.1 hu;obtain⟨Aq,cq,hv,_⟩:=hd q hq;unfold aK2 at h;simp only[List.mem_cons,List.not_mem_nil,or_false] at h;rcases h with rfl|rfl|rfl|rfl
  ·rfl
  ·rfl
  ·rfl
  rw[hv];rfl
 have l8:=qZ (bK8 A rs.length c (aA7 rs) w hr.rd (by rw[aC3];omega) f7 hn);have HD:=qZ hd;have HF:=qZ hF;have HL:=qZ hl;clear hr hd hF f7 hl;go_enter Tryz.func64,Tryz.ntmps64
 go_wp2_with fail
 refine l8.out.mono ?_;rintro e w1 ⟨v1,rfl,i4,f9⟩;obtain⟨A1,c1,rfl,k1,k2,k3⟩:=aB2 i4;have n8:=f9.size;have m4:=qZ i4;have n5:=qZ f9;clear i4 f9 l8 k3;go_wp2_with fail
 go_loopw [9,4] (fun i _ wr=>∃(k:Nat) (ra:List aF2),k<=rs.length∧i=.int .i64 k∧Hid (ra.length=k)∧Hid (ra.map aF2.e=(rs.take k).map aF2.e)∧Hid (wr.ownsRow w.heap.size 65 4 (.slice A1 rs.length c1) rs.length (aA7 (ra++rs.drop k)))∧Hid (∀q∈ra,Bs wr w.heap.size q.v q.e.b)∧Hid (Below w.heap.size w wr)) (fun i _ _=>rs.length-(intOf i).toNat)
 case atStart=>exact⟨0,[],by omega,rfl,qZ rfl,qZ rfl,m4,qZ (fun q hq=>by cases hq),n5⟩
 obtain⟨k,ra,hk,rfl,b8,l7,HO,HQ,HB⟩:=hrel;have g9:=HB.out.size;by_cases hlt:k<rs.length
 rotate_left
 ·obtain rfl:k=rs.length:=by omega
  go_wp2_with fail
  go_ret
  have h1:=HO.out;have h2:=l7.out;rw[List.drop_length,List.append_nil] at h1;rw[List.take_length] at h2;exact⟨_,ra,rfl,h1,h2,HQ.out,HB.out⟩
 obtain⟨Ax,cx,hv,h1,h2,h3⟩:=aB2 HO.out;obtain⟨gr,m6,rfl,m7,j8,l6,n4,l4⟩:=h3 (by omega);injection hv with hv hv2 f6
 subst hv f6;clear hv2;obtain⟨q,hq⟩:∃q,q=rs[k]:=⟨_,rfl⟩
 have g8:q∈rs:=by rw[hq];exact lX hlt
 have j6:rs.drop k=q::rs.drop (k+1):=by rw[hq];exact List.drop_eq_getElem_cons hlt
 obtain⟨Aq,cq,m0,n7,n6,l9⟩:=HD.out q g8;have a8:k<(ra++rs.drop k).length:=by rw[lT,b8.out,lZ];omega
 have f8:(ra++rs.drop k)[k]=q:=by
  rw[List.getElem_append_right (by rw[b8.out];omega)];simp only[j6,b8.out,Nat.sub_self,List.getElem_cons_zero]
 have c3:wr.cell? ⟨gr,k*4+3,none⟩=some (.slice Aq q.e.b.length cq):=by
  refine l4 _ _ ?_;rw[aF4 _ a8 (by omega),f8,<-m0]
  rfl
 have z3:wr.frozen? ⟨gr,k*4+3,none⟩=false:=by simp[World.frozen?,l6]
 have HC:=qZ (aQ7 Aq q.e.b q.e.b.length cq rfl wr ((l9.keep g9 (fun k hk=>HB.out.block k (HF.out k hk))).rd) (HL.out q g8));obtain⟨nb,m3⟩:∃n,n=q.e.b.length:=⟨_,rfl⟩
 have d8:(aA7 (ra++rs.drop k)).set (k*4+3)=fun v=>aA7 ((ra++[⟨v,q.e⟩])++rs.drop (k+1)):=by
  funext v
  rw[bN3 _ a8,f8,List.set_append_right _ _ (by rw[b8.out];omega),b8.out,Nat.sub_self,j6,List.set_cons_zero];simp
 have m8:=qZ d8;have d9:(rs.take (k+1)).map aF2.e=(rs.take k).map aF2.e++[q.e]:=by
  rw[List.take_add_one,lW hlt,<-hq];simp
 have m5:=qZ d9;rw[<-m3] at c3 HC;clear d8 d9 hq g8 j6 l9 a8 f8 h3 l6 n4 l4 m0 m3 m6;go_wp2_with fail
 refine HC.out.mono ?_;rintro e w3 ⟨v3,rfl,f6,a9⟩;obtain⟨A3,l5,rfl,y1,y2,y3⟩:=aC5 f6;have n9:=a9.size;have d3:w3.cell? ⟨gr,k*4+3,none⟩=some (.slice Aq nb cq):=(a9.cell (p:=⟨gr,k*4+3,none⟩) j8).trans c3;have e3:w3.frozen? ⟨gr,k*4+3,none⟩=false:=by
  simp only[World.frozen?] at z3⊢;rw[a9.block gr j8];exact z3
 have i6:=qZ (aE6 HO.out a9);have j9:=qZ (fun q hq=>Own.below (HQ.out q hq) a9 (lR _));have m9:=qZ (HB.out.trans (a9.mono g9));have m2:=qZ (Own.mono f6 g9);clear c3 z3 a9 f6 y3 HC HO HQ HB;go_wp2_with fail
 go_roundw
 case rel=>
  refine⟨k+1,ra++[⟨.slice A3 q.e.b.length l5,q.e⟩],by omega,by go_num,qZ (by rw[lT,b8.out];rfl),qZ ?_,qZ ?_,qZ ?_,qZ (aI0 m9.out _ _ _ m7)⟩
  ·rw[m5.out,mE,l7.out];rfl
  ·have:=cU7 (i:=k*4+3) i6.out (.slice A3 q.e.b.length l5)
   rw[m8.out] at this;exact this
  intro x hx;rcases List.mem_append.1 hx with hx|hx
  ·exact Own.kept (j9.out x hx) (aA0 w3 gr (k*4+3) _) (jrow_type_ne (j9.out x hx) i6.out (by decide))
  obtain rfl:=List.mem_singleton.1 hx;exact Own.kept m2.out (aA0 w3 gr (k*4+3) _) (jrow_type_ne m2.out i6.out (by decide))
 case measure=>simp[intOf];omega
theorem aJ4{P:Program}{w:World}{ops:Array Oper}{rest:List Oper}{o:Oper}{a:Act}{Q:Exit->Act->World->Prop}(f7:o.guard=none)(s x:Operand)(t:TypeId)
  (ho:o.op=.call {callee:=.builtin .append,args:=#[s,x],argTypes:=#[t,t]})
  (base:Nat) (e:TypeId) (z:Value) (size bytes:Nat) (ht:P.underlying t=some (.slice e)) (a8:(P.info? e).map (fun i=>(i.zero,i.size,i.bytes))=some (some z,size,bytes)) (g8:z.cells.size=size) (f9:0<size)
  (v:Value) (n:Nat) (xs:List Value) (hs:a.eval s=v) (a9:w.ownsRow base e size v n xs)
  (A:Option Addr) (m c:Nat) (news:List Value) (hx:a.eval x=.slice A m c) (hl:news.length=m*size) (d9:0<m->∃ad,A=some ad∧∀j u,news[j]? =some u->w.cell? (ad.add j)=some u) (h1:∀u∈news,u.oneCell' =true)
  (g9:n+m<=maxLen) (b8:(n+m)*bytes<=140737488355328) (d8:base<=w.heap.size)
  (h:∀v' w',w'.ownsRow base e size v' (n+m) (xs++news)->w.grownBy w' v.ownBlock->wpList P ops Q rest (a.put o.dst v') w'):wpList P ops Q (o::rest) a w:=by
 rcases Nat.eq_zero_or_pos m with hm|hm
 ·subst hm
  have hn:news=[]:=mD (by simpa using hl);subst hn;obtain⟨i,hi,hz,f8,i4⟩:=info_parts a8;have f6:=aT5 (P:=P) w base t o.type e i size ht hi v n xs a9 A c;refine wpList_plain f7 fun _ hK=>?_
  unfold Oper.wp execOp;simp only[ho,resolve,invoke,builtin,Sem.run_bind,Sem.run_pure,Result.andThen_ok,List.map_toArray,mG,List.map_nil,hs,hx,f6];refine hK _ _ (h v w ?_ (World.grownBy.refl _ _));rw[List.append_nil];exact a9
 obtain⟨ad,rfl,hc⟩:=d9 hm;exact aG7 f7 s x t ho base e z size bytes ht a8 g8 f9 v n xs hs a9 ad m c news hx hl hc h1 g9 b8 d8 fun v' w' h2 h3 _=>h v' w' h2 h3
theorem cE8{w:World}{B:Nat}{rs:List aF2}(h:∀q∈rs,Bs w B q.v q.e.b):∀u∈aA7 rs,u.oneCell' =true:=by
 intro u hu;obtain⟨q,hq,hx⟩:=List.mem_flatMap.1 hu;obtain⟨Aq,cq,hv,_⟩:=aC5 (h q hq);unfold aK2 at hx;simp only[List.mem_cons,List.not_mem_nil,or_false] at hx;rcases hx with rfl|rfl|rfl|rfl
 ·rfl
 ·rfl
 ·rfl
 rw[hv];rfl
theorem JAt.entries{F:Nat->Prop}{gj g:Nat}{j:JnP}{w:World}(h:JAt w F gj g j)(hF:∀k,F k->k<w.heap.size)(hn:j.ents.length<=1099511627776):
  Calls Tryz.prog 18 #[.pointer (some ⟨gj,0,none⟩)] w fun e w' =>∃v a8,e=.returned v∧w'.ownsRow w.heap.size 65 4 v a8.length (aA7 a8)∧a8.map aF2.e=j.ents∧(∀q∈a8,Bs w' w.heap.size q.v q.e.b)∧Below w.heap.size w w' :=by
 obtain⟨⟨A,c,n7,h1,h2,h3,h4,h5⟩,h6,_⟩:=h;have c2:w.cell? ⟨gj,2,none⟩=some (.slice A j.segs.length c):=h1.cell 2;have H3:=qZ h3;have H4:=qZ h4;have H5:=qZ h5;have HF:=qZ hF;have HN:=qZ hn;clear h1 h2 h3 h4 h5 hF hn;go_enter Tryz.func18,Tryz.ntmps18
 go_wp2_with fail
 go_loopw [11,3,5] (fun i v _ wr=>∃(k:Nat) (ro:List aF2),k<=j.segs.length∧i=.int .i64 k∧Hid (wr.ownsRow w.heap.size 65 4 v ro.length (aA7 ro))∧Hid (ro.map aF2.e=((j.segs.take k).map aC4.l).flatten)∧Hid (∀q∈ro,Bs wr w.heap.size q.v q.e.b)∧Hid (Below w.heap.size w wr)) (fun i _ _ _=>j.segs.length-(intOf i).toNat)
 case atStart=>exact⟨0,[],by omega,rfl,qZ (World.ownsRow_nil _ _ _ _),qZ rfl,qZ (fun q hq=>by cases hq),qZ (lS _ _)⟩
 obtain⟨k,ro,hk,rfl,HO,HE,HQ,HB⟩:=hrel;have i4:=HB.out.size;obtain⟨Av,cv,hv,hx⟩:=aB2 HO.out;subst hv;clear hx;by_cases hlt:k<j.segs.length
 rotate_left
 ·obtain rfl:k=j.segs.length:=by omega
  go_wp2_with fail
  go_ret
  have h2:=HE.out;rw[List.take_length] at h2;exact⟨_,ro,rfl,HO.out,h2,HQ.out,HB.out⟩
 have l4:k<n7.length:=by rw[H4.out];exact hlt
 obtain⟨ab,ao,rfl,o9,o5,m4⟩:=H3.out (by rw[lU];omega);obtain⟨sg,j8⟩:∃s,s=j.segs[k]:=⟨_,rfl⟩
 have hM:=H5.out k l4 hlt;rw[<-j8] at hM;have l9:=hM.keep (w' :=wr) i4 (fun k hk=>HB.out.block k (HF.out k hk));obtain⟨b,o,Al,cl,rs,Ae,ce,m5,p5,o4,d0,d1,d2,d3,d4,_,m0,a9,f7,_⟩:=l9.rd.cells;have e0:wr.cell? ⟨ab,ao+k,none⟩=some (.pointer (some ⟨b,o,none⟩)):=(HB.out.cell (p:=⟨ab,ao+k,none⟩) o5).trans (m4 k _ (by rw[List.getElem?_map,lW l4,m5];rfl));have f9:rs.length=sg.l.length:=by rw[<-a9,lU]
 have f6:=hM.len;rw[<-f9] at d3 f6;have HC:=qZ (bJ6 Al rs cl wr m0 f7 (fun k hk=>by have:=HF.out k hk;omega) f6 (fun q hq=>by have:=hM.txt q.e (by rw[<-a9];exact List.mem_map.2 ⟨q,hq,rfl⟩);omega));have g9:((j.segs.take (k+1)).map aC4.l).flatten=((j.segs.take k).map aC4.l).flatten++sg.l:=by
  rw[List.take_add_one,lW hlt,<-j8];simp
 have l6:ro.length+rs.length<=1099511627776:=by
  have e1:ro.length=(((j.segs.take k).map aC4.l).flatten).length:=by rw[<-HE.out,lU]
  have e2:(((j.segs.take (k+1)).map aC4.l).flatten).length<=j.ents.length:=by
   unfold JnP.ents;rw[show j.segs=j.segs.take (k+1)++j.segs.drop (k+1) from(List.take_append_drop _ _).symm,mE,List.flatten_append,lT,List.take_append_drop];omega
  rw[g9,lT] at e2;have:=HN.out;omega
 have o6:=qZ g9;have m7:=qZ a9;obtain⟨nr,j6⟩:∃n,n=rs.length:=⟨_,rfl⟩
 rw[<-j6] at d3 HC l6;have n8:=qZ j6;clear g9 a9 j8 hM l9 m5 d0 d1 d2 d4 m0 f7 f9 f6 m4 j6 l4;go_wp2_with fail
 refine HC.out.mono ?_;rintro e w3 ⟨v3,a8,rfl,j9,l5,l7,f8⟩;obtain⟨A3,c3,rfl,y1,y2,y3⟩:=aB2 j9;have p0:=f8.size;have g8:=qZ (aE6 HO.out f8);have l8:=qZ (fun q hq=>Own.below (HQ.out q hq) f8 (lR _));have m2:=qZ (HB.out.trans (f8.mono i4));have d9:a8.length=nr:=by rw[n8.out,<-lU aF2.e,l5,lU]
 have m8:Hid (0<nr->∃ad,A3=some ad∧∀j u,(aA7 a8)[j]? =some u->w3.cell? (ad.add j)=some u):=qZ (fun h0=>by
  obtain⟨g3,o8,e,_,_,_,_,hc⟩:=y3 h0;refine⟨_,e,fun j u hu=>?_⟩;rw[add_lit,Nat.zero_add];exact hc j u hu)
 have n6:=qZ l5;have m6:=qZ (fun q hq=>Own.mono (l7 q hq) i4);have n5:=qZ (cE8 l7);have o7:=qZ d9;have b8:(aA7 a8).length=nr*4:=by rw[aC3,d9];omega
 have n9:=qZ b8;have m9:=m2.out.size;have p4:=qZ j9;clear f8 j9 l5 l7 y3 HC HO HQ HB d9 b8;go_wp2_with (at_builtin;go_must (refine aJ4 rfl (.tmp 15) (.tmp 20) 40 rfl w.heap.size 65 (.agg #[.int .i64 0,.int .i64 0,.int .i64 0,.slice none 0 0]) 4 48 Tryz.underlying40 aM3 rfl (by decide) _ ro.length (aA7 ro) rfl g8.out A3 nr c3 (aA7 a8) rfl n9.out m8.out n5.out (by unfold maxLen;omega) (by omega) (by omega) ?_;intro v6 w6 d8 m3;have n4:=qZ d8;have i6:=qZ m3;clear d8 m3))
 go_roundw
 case rel=>
  refine⟨k+1,ro++a8,by omega,by go_num,qZ ?_,qZ ?_,qZ ?_,qZ (m2.out.grown i6.out m9 (fun k hk=>(World.ownsRow.lt g8.out k hk).1))⟩
  ·rw[lT,aI3,o7.out]
   exact n4.out
  ·rw[mE,HE.out,n6.out,o6.out,m7.out]
  intro x hx;rcases List.mem_append.1 hx with hx|hx
  ·exact Own.kept (l8.out x hx) i6.out (jrow_type_ne (l8.out x hx) g8.out (by decide))
  exact Own.kept (m6.out x hx) i6.out (jrow_type_ne (m6.out x hx) g8.out (by decide))
 case measure=>simp[intOf];omega
end
section
open Go.RowKit Go.Maps Oct
def eqE(x y:aK5):Bool:=(x.ix==y.ix)&&(x.tm==y.tm)&&(x.kd==y.kd)&&(x.b==y.b)
def aX2:List aK5->List aK5->Bool
 |[],[]=>true
 |x::r,y::s=>eqE x y&&aX2 r s
 |_,_=>false
theorem dK1(x y:aK5):eqE x y=true↔x=y:=by
 obtain⟨a,b,c,d⟩:=x;obtain⟨a',b',c',d'⟩:=y;unfold eqE;simp only[Bool.and_eq_true,beq_iff_eq,aK5.mk.injEq];constructor
 ·rintro⟨⟨⟨h1,h2⟩,h3⟩,h4⟩;exact⟨h1,h2,h3,h4⟩
 rintro⟨h1,h2,h3,h4⟩;exact⟨⟨⟨h1,h2⟩,h3⟩,h4⟩
theorem bI8:∀a b:List aK5,aX2 a b=true↔a=b
 |[],[]=>by simp[aX2]
 |[],_::_=>by simp[aX2]
 |_::_,[]=>by simp[aX2]
 |x::r,y::s=>by
  unfold aX2;rw[Bool.and_eq_true,dK1,bI8 r s];constructor
  ·rintro⟨h1,h2⟩;rw[h1,h2]
  intro h;injection h with h1 h2;exact⟨h1,h2⟩
theorem cR1{a b:List aK5}(h:a.length≠b.length):aX2 a b=false:=by
 cases hs:aX2 a b with
 |false=>rfl
 |true=>exact absurd (congrArg List.length ((bI8 a b).1 hs)) h
theorem cQ6{a b:List aK5}{k:Nat}(ha:k<a.length)(hb:k<b.length):aX2 (a.drop k) (b.drop k)=(eqE a[k] b[k]&&aX2 (a.drop (k+1)) (b.drop (k+1))):=by
 rw[List.drop_eq_getElem_cons ha,List.drop_eq_getElem_cons hb]
 rfl
theorem bY3{F E:Nat->Prop}(A B:Option Addr)(ra rb:List aF2)(c d:Nat)(w:World)(ha:RdF w F A (aA7 ra))(hb:RdF w E B (aA7 rb))(da:∀q∈ra,bF9 w F q.v q.e.b)(db:∀q∈rb,bF9 w E q.v q.e.b)(hF:∀k,F k->k<w.heap.size)(hE:∀k,E k->k<w.heap.size)(hl:ra.length<=1099511627776)(o9:rb.length<=1099511627776)(m9:∀q∈ra,q.e.b.length<=140737488351232)(m2:∀q∈rb,q.e.b.length<=140737488351232):
  Calls Tryz.prog 23 #[.slice A ra.length c,.slice B rb.length d] w fun e w' =>e=.returned (.bool (aX2 (ra.map aF2.e) (rb.map aF2.e)))∧Below w.heap.size w w' :=by
 obtain⟨L,hL⟩:∃l,l=ra.map aF2.e:=⟨_,rfl⟩
 obtain⟨M,hM⟩:∃l,l=rb.map aF2.e:=⟨_,rfl⟩
 have n4:L.length=ra.length:=by rw[hL,lU]
 have m0:M.length=rb.length:=by rw[hM,lU]
 rw[<-hL,<-hM];obtain⟨R,hR⟩:∃r,r=aX2 L M:=⟨_,rfl⟩
 rw[<-hR];have HA:=qZ ha;have HB:=qZ hb;have o4:=qZ da;have o7:=qZ db;have HF:=qZ hF;have HE:=qZ hE;have n9:=qZ m9;have o5:=qZ m2;have HL:=qZ hL;have HM:=qZ hM;have l5:=qZ n4;have j8:=qZ m0;have HR:=qZ hR;clear ha hb da db hF hE m9 m2 hL hM n4 m0 hR;go_enter Tryz.func23,Tryz.ntmps23
 by_cases hne:ra.length=rb.length
 rotate_left
 ·have n5:((ra.length:Int) !=(rb.length:Int))=true:=bne_iff_ne.2 (by omega)
  have f7:=qZ (show R=false by rw[HR.out];exact cR1 (by rw[l5.out,j8.out];exact hne));clear hne;go_wp2_with fail
  go_ret
  exact⟨by rw[f7.out];rfl,lS _ _⟩
 have n5:((ra.length:Int) !=(rb.length:Int))=false:=by rw[bne_eq_false_iff_eq];omega
 have m8:=qZ hne;clear hne;go_wp2_with fail
 go_loopw [5] (fun i wr=>∃k:Nat,k<=ra.length∧i=.int .i64 k∧Hid (R=aX2 (L.drop k) (M.drop k))∧Hid (Below w.heap.size w wr)) (fun i _=>ra.length-(intOf i).toNat)
 case atStart=>exact⟨0,by omega,rfl,qZ (by rw[HR.out];rfl),qZ (lS _ _)⟩
 obtain⟨k,hk,rfl,i4,a9⟩:=hrel;by_cases hlt:k<ra.length
 rotate_left
 ·have n6:=qZ (show R=true by rw[i4.out,List.drop_eq_nil_of_le (by rw[l5.out];omega),List.drop_eq_nil_of_le (by rw[j8.out,<-m8.out];omega)];rfl)
  clear i4;go_wp2_with fail
  go_ret
  exact⟨by rw[n6.out];rfl,a9.out⟩
 have f6:k<rb.length:=by rw[<-m8.out];exact hlt
 have kF:∀q,F q->wr.heap[q]? =w.heap[q]? :=fun q hq=>a9.out.block q (HF.out q hq)
 have kE:∀q,E q->wr.heap[q]? =w.heap[q]? :=fun q hq=>a9.out.block q (HE.out q hq)
 obtain⟨ga,oa,rfl,_,p4,g8⟩:=(HA.out.keep a9.out.size kF) (by rw[aC3];omega);obtain⟨gb,ob,rfl,_,p0,g9⟩:=(HB.out.keep a9.out.size kE) (by rw[aC3];omega);have d8:∀i,i<4->(aA7 ra)[k*4+i]? =(aK2 ra[k])[i]? :=fun i hi=>aF4 _ hlt hi
 have b8:∀i,i<4->(aA7 rb)[k*4+i]? =(aK2 rb[k])[i]? :=fun i hi=>aF4 _ f6 hi
 obtain⟨Av,ca,m4,_,_,m7⟩:=(o4.out ra[k] (lX hlt)).keep a9.out.size kF;obtain⟨Bv,cb,m3,_,_,m5⟩:=(o7.out rb[k] (lX f6)).keep a9.out.size kE;have o8:=n9.out ra[k] (lX hlt);have o6:=o5.out rb[k] (lX f6);have a8:R=(eqE ra[k].e rb[k].e&&aX2 (L.drop (k+1)) (M.drop (k+1))):=by
  rw[i4.out,cQ6 (by rw[l5.out];exact hlt) (by rw[j8.out];exact f6)];simp only[HL.out,HM.out,List.getElem_map]
 have a0:wr.cell? ⟨ga,oa+k*4,none⟩=some (.int .i64 ra[k].e.ix):=g8 (k*4+0) _ (by rw[d8 0 (by omega)];rfl);have a1:wr.cell? ⟨ga,oa+k*4+1,none⟩=some (.int .i64 ra[k].e.tm):=g8 (k*4+1) _ (by rw[d8 1 (by omega)];rfl);have a2:wr.cell? ⟨ga,oa+k*4+2,none⟩=some (.int .i64 ra[k].e.kd):=g8 (k*4+2) _ (by rw[d8 2 (by omega)];rfl);have a3:wr.cell? ⟨ga,oa+k*4+3,none⟩=some (.slice Av ra[k].e.b.length ca):=g8 (k*4+3) _ (by rw[d8 3 (by omega),<-m4];rfl);have b0:wr.cell? ⟨gb,ob+k*4,none⟩=some (.int .i64 rb[k].e.ix):=g9 (k*4+0) _ (by rw[b8 0 (by omega)];rfl);have b1:wr.cell? ⟨gb,ob+k*4+1,none⟩=some (.int .i64 rb[k].e.tm):=g9 (k*4+1) _ (by rw[b8 1 (by omega)];rfl);have b2:wr.cell? ⟨gb,ob+k*4+2,none⟩=some (.int .i64 rb[k].e.kd):=g9 (k*4+2) _ (by rw[b8 2 (by omega)];rfl);have b3:wr.cell? ⟨gb,ob+k*4+3,none⟩=some (.slice Bv rb[k].e.b.length cb):=g9 (k*4+3) _ (by rw[b8 3 (by omega),<-m3];rfl);have f8:=m7.rd;have f9:=m5.rd;unfold eqE at a8;obtain⟨x0,l6⟩:∃x,x=ra[k].e.ix:=⟨_,rfl⟩
 obtain⟨x1,j9⟩:∃x,x=ra[k].e.tm:=⟨_,rfl⟩
 obtain⟨x2,l7⟩:∃x,x=ra[k].e.kd:=⟨_,rfl⟩
 obtain⟨x3,l4⟩:∃x,x=ra[k].e.b:=⟨_,rfl⟩
 obtain⟨y0,l9⟩:∃x,x=rb[k].e.ix:=⟨_,rfl⟩
 obtain⟨y1,j6⟩:∃x,x=rb[k].e.tm:=⟨_,rfl⟩
 obtain⟨y2,i6⟩:∃x,x=rb[k].e.kd:=⟨_,rfl⟩
 obtain⟨y3,l8⟩:∃x,x=rb[k].e.b:=⟨_,rfl⟩
 rw[<-l6,<-j9,<-l7,<-l4,<-l9,<-j6,<-i6,<-l8] at a8;rw[<-l6] at a0;rw[<-j9] at a1;rw[<-l7] at a2;rw[<-l4] at a3 o8 f8;rw[<-l9] at b0;rw[<-j6] at b1;rw[<-i6] at b2;rw[<-l8] at b3 o6 f9;have q1:=fun n=>aX6 ca (f8.drewN n)
 have q2:=fun n=>aX6 cb (f9.drewN n)
 have n8:(k:Int)<(ra.length:Int):=by omega
 have m6:(k:Int)<(rb.length:Int):=by omega
 have d9:=qZ a8;clear g8 g9 d8 b8 m4 m3 m7 m5 f8 f9 kF kE l6 j9 l7 l4 l9 j6 i6 l8 a8 i4 n5;by_cases e0:x0=y0
 rotate_left
 ·have n0:(x0 !=y0)=true:=bne_iff_ne.2 e0
  have f7:=qZ (show R=false by rw[d9.out];simp[e0]);clear d9;go_wp2_with fail
  go_quiet (fail);go_wp2_with fail
  go_ret
  exact⟨by rw[f7.out];rfl,aA3 a9.out _⟩
 subst e0;by_cases e:x1=y1
 rotate_left
 ·have n1:(x1 !=y1)=true:=bne_iff_ne.2 e
  have f7:=qZ (show R=false by rw[d9.out];simp[e]);clear d9;go_wp2_with fail
  go_quiet (fail);go_wp2_with fail
  go_ret
  exact⟨by rw[f7.out];rfl,aA3 a9.out _⟩
 subst e;by_cases e:x2=y2
 ·subst e
  by_cases e:x3=y3
  ·have n7:=qZ (show R=aX2 (L.drop (k+1)) (M.drop (k+1)) by rw[d9.out];simp[e])
   subst e;clear d9;go_wp2_with fail
   go_quiet (fail);go_wp2_with fail
   go_roundw
   case rel=>exact⟨k+1,by omega,by go_num,n7,qZ (aA3 a9.out _)⟩
   case measure=>simp[intOf];omega
  have hs:((str x3).toList==(str y3).toList)=false:=beq_eq_false_iff_ne.2 (fun h=>e (by simpa[str,ByteArray.toList_eq] using h));have f7:=qZ (show R=false by rw[d9.out];simp[e]);clear d9 e;go_wp2_with fail
  go_quiet (fail);go_wp2_with fail
  go_ret
  exact⟨by rw[f7.out];rfl,aA3 a9.out _⟩
 have n2:(x2 !=y2)=true:=bne_iff_ne.2 e;have f7:=qZ (show R=false by rw[d9.out];simp[e]);clear d9;go_wp2_with fail
 go_quiet (fail);go_wp2_with fail
 go_ret
 exact⟨by rw[f7.out];rfl,aA3 a9.out _⟩
end
end Go.Proofs.YtgeofijddhflaaaGreatDoor
