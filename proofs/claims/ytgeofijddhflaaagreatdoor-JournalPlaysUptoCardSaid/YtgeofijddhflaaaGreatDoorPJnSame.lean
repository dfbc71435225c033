/- Two rows of entries that are one, or not (pavaneref22.Same). Condition: they can be read. -/
import Derived.Test.YtgeofijddhflaaaGreatDoorPOpenJ
import Derived.Test.YtgeofijddhflaaaGreatDoorPRDiskSame
set_option linter.unusedVariables false
set_option linter.unusedSimpArgs false
set_option maxHeartbeats 8000000
set_option maxRecDepth 100000
namespace Go.Proofs.YtgeofijddhflaaaGreatDoor
open Go.RowKit Go.Maps Go.Sort Oct
theorem aK{w:World}{base:Nat}{e:TypeId}{a n:Nat}{v:Value}{i:List Value}(h:w.ownsRow base e a v n i):
  ∃A c,v=.slice A n c∧n<=c∧c<=9223372036854775807∧(0<n->∃g b,A=some ⟨g,0,none⟩∧base<=g∧g<w.heap.size∧w.heap[g]? =some (.cells b e (0,0))∧b.size=c*a∧∀j u,i[j]? =some u->w.cell? ⟨g,j,none⟩=some u):=by
 rcases h.2 with⟨rfl,h0⟩|⟨g,cap,b,rfl,hb,hg,f,hm,hs,ht⟩
 exact⟨none,0,by rw[h0],O,O,fun f=>O⟩;refine⟨_,cap,rfl,f,by unfold maxLen at hm;omega,fun f=>⟨g,b,rfl,hb,(Array.getElem?_eq_some_iff.1 hg).1,hg,hs,fun j u d=>?_⟩⟩;rw[cell_of_row w g j b e (0,0) hg];rw[<-ht] at d;rw[List.getElem?_take] at d;split at d;simpa using d;cases d
theorem jrow_type_ne{w:World}{d f:Nat}{b c:TypeId}{n o l m:Nat}{u v:Value}{p r:List Value}(g:w.ownsRow d b n u l p)(i:w.ownsRow f c o v m r)(k:b≠c):u.ownBlock=none∨u.ownBlock≠v.ownBlock:=by
 cases hu:u.ownBlock with
 |none=>exact .inl rfl
 |some q=>
  refine .inr fun e=>?_
  obtain⟨cs,j⟩:=cT g hu;obtain⟨s,a⟩:=cT i e.symm;rw[j] at a;injection a with a
  injection a with _ h _
  exact k h
def jV(w:World)(B:Nat)(v:Value)(l:List UInt8):Prop:=∃(g c:Nat) (cs:Array Value) (fz:Nat×Nat),v=.slice (g,0) l c∧l<=c∧c<=9223372036854775807∧B<=g∧w.heap[g]? =some (.cells cs 5 fz)∧∀(j:Nat) (u:Value),(cells l)[j]? =some u->cs[j]? =some u
section
variable{w w' :World}{B:Nat}{v:Value}{l:List UInt8}
theorem jV.lt(h:jV w B v l):∀q,v.ownBlock=some q->B<=q∧q<w.heap.size:=by
 obtain⟨g,c,cs,e,rfl,f,i,b,d,j⟩:=h;intro q a;injection a with a
 subst a;exact⟨b,(Array.getElem?_eq_some_iff.1 d).1⟩
theorem jV.held(h:jV w B v l):∃g cs a,v.ownBlock=some g∧w.heap[g]? =some (.cells cs 5 a):=by
 obtain⟨g,c,cs,a,rfl,d,e,f,b,i⟩:=h;exact⟨g,cs,a,rfl,b⟩
theorem jV.b1(h:jV w B v l)(j:∀q,v.ownBlock=some q->w'.heap[q]? =w.heap[q]?):jV w' B v l:=by
 obtain⟨g,c,cs,a,rfl,b,d,e,f,i⟩:=h;exact⟨g,c,cs,a,rfl,b,d,e,(j g rfl).trans f,i⟩
theorem jV.mono{B' :Nat}(h:jV w B v l)(j:B' <=B):jV w B' v l:=by
 obtain⟨g,c,cs,a,rfl,b,d,i,e,f⟩:=h;exact⟨g,c,cs,a,rfl,b,d,O,e,f⟩
theorem jV.datF{F:Nat->Prop}(h:jV w B v l)(n:∀k,B<=k->k<w.heap.size->F k):gQ w F v l:=by
 obtain⟨g,c,cs,d,rfl,e,f,i,b,m⟩:=h;have a:=(Array.getElem?_eq_some_iff.1 b).1;exact⟨_,c,rfl,e,f,fun _=>⟨g,0,rfl,n g i a,a,fun j u o=>by
  rw[cell_of_row w g (0+j) cs _ d b,Nat.zero_add];exact m j u o⟩⟩
end
theorem bP5(w:World)(o:Obj):(w.drew.alloc o).heap[w.heap.size]? =some o:=by
 show(w.heap.push o)[w.heap.size]? =some o
 simp
theorem aG8(w:World)(l:List UInt8)(g:l.length<=9223372036854775807):∃v c,(convert 9 34 (.string (bU l))).run Tryz.prog w=.ok v c ∧jV c w v l∧Below w w c :=by
 have b:=fL l;have d:=grownCap_ge w (bU l).size 0 5;have e:=grownCap_le_maxLen w (bU l).size 0 5 (by rw[b];unfold maxLen;omega);refine⟨_,_,run_bytes_of_string w 9 34 5 (bU l) Tryz.underlying9 Tryz.underlying34 Tryz.underlying5,?_,?_⟩;rw[b];rw[b] at d e;refine⟨w,_,_,_,rfl,d,by unfold maxLen at e;omega,lR _,bP5 _ _,fun j u f=>?_⟩;have a:=(List.getElem?_eq_some_iff.1 f).1;rw[aB] at a;rw[bytesRow_at _ _ _ (by simpa[bU] using a)];rw[<-f];simp[cells,bU,a];exact(aD (lS _ w) 1).alloc (lR _) _
structure jL(w:World)(G:Nat)(s:aH)(rs:List EntR)(vl ve tv:Value):Prop where
 b4:aS w G 106 #[s.k,s.a8,s.c6,vl,ve,tv]
 c7:w.ownsRow (G+1) 65 4 vl rs (aG rs)
 map:rs.map EntR.e=s.l
 h6:∀q∈rs,jV w (G+1) q.v q.e.b
 a7:Own w (G+1) 3 ve (s.a7.map (Value.int .i64))
section
variable{w w' :World}{G:Nat}{s:aH}{rs:List EntR}{vl ve tv:Value}
theorem jL.new(h:jL w G s rs vl ve tv)(a:Below w w w'):jL w' G s rs vl ve tv:=
 ⟨h.b4.a1 a h.b4.lt,World.ownsRow.kept h.c7 (aT a none) (by cases vl.ownBlock<;>simp),h.map,fun q b=>(h.h6 q b).b1 fun k c=>a.block k ((h.h6 q b).lt k c).2,Own.a1 h.a7 a (lR _)⟩
theorem jL.l6(h:jL w G s rs vl ve tv)(a:w.grownBy w' (some G)){f t:Int}(d:aS w' G 106 #[s.k,f,t,vl,ve,tv]):jL w' G {s with a8:=f,c6:=t} rs vl ve tv:=
 ⟨d,World.ownsRow.kept h.c7 a (by
  cases hv:vl.ownBlock with
  |none=>exact .inl rfl
  |some q=>exact .inr fun e=>by injection e with e;have:=(mL h.c7 q hv).1;omega),h.map,fun q b=>(h.h6 q b).b1 fun k c=>a.block k ((h.h6 q b).lt k c).2 (fun e=>by injection e with e;have:=((h.h6 q b).lt k c).1;omega),Own.j5 h.a7 a O⟩
theorem jL.push{c:World}{a :Value}{q:EntR}(h:jL w G s rs vl ve tv)(y:jV w (G+1) q.v q.e.b)(p:c.ownsRow (G+1) 65 4 a (rs.length+1) (aG rs++dU q))(m:w.grownBy c vl.ownBlock):
  jL (c.setCell (G,3) a) G {s with l:=s.l++[q.e]} (rs++[q]) a ve tv:=by
 have r:∀k,vl.ownBlock=some k->G<k:=fun k i=>ω1 ((mL h.c7 k i).1)
 have n:∀(v:Value) (l:List UInt8),jV w (G+1) v l->jV (c.setCell (G,3) a) (G+1) v l:=fun v l j=>j.b1 fun k i=>by
  have t:=j.lt k i;rw[Below.heap_setCell c ⟨G,3,none⟩ a k (by show k≠G;omega)];refine m.block k t.2 fun e=>?_
  obtain⟨g,cs,A,f,u⟩:=j.held;rw[i] at f;injection f with f
  subst f;obtain⟨B,d⟩:=cT h.c7 e.symm;rw[u] at d;injection d with d
  injection d with _ h _
  exact absurd h δ
 have o:=aA c G 3 a;have z:aS c G 106 _:=h.b4.grown m (fun e=>ω1 (r G e.symm));refine⟨aS.b8 z 3 _,?_,by rw[mE,h.map];rfl,fun x hx=>?_,Own.j5 (Own.kept h.a7 m (jrow_type_ne h.a7 h.c7 δ)) o O⟩;rw[eG,lT];have:c.ownsRow (G+1) 65 4 a (rs.length+[q].length) (aG rs++aG [q]):=by simpa[aG] using p
 exact World.ownsRow.kept this o (by
  cases hv:a.ownBlock with
  |none=>exact .inl rfl
  |some k=>exact .inr fun e=>by injection e with e;have:=(mL this k hv).1;omega)
 rcases mB.1 hx with hx|hx
 exact n _ _ (h.h6 x hx);obtain rfl:=lY.1 hx;exact n _ _ y
theorem jL.b7(h:jL w G s rs vl ve tv)(B:0<=s.a8∧s.a8<=9223372036854775807)(m:rs.length<=4611686018427387904):
  Calls Tryz.prog 62 #[(G,0)] w fun e w' =>e=.returned (.tuple #[.int .i64 s.b7.1,.int .i64 s.b7.2])∧Below w w w' :=by
 obtain⟨A,c,rfl,I,K,l⟩:=aK h.c7;have o:=h.b4.c 1;have p:=h.b4.c 2;have f:=h.b4.c 3;rcases mJ rs with rfl|⟨r,q,rfl⟩
 ·have i:s.b7=(s.a8-1,s.c6):=by
   unfold aH.b7;rw[<-h.map];rfl
  rw[i];exact yO G 0 s.a8 s.c6 A c B w o p f
 rw[mA] at h;simp only[mA,lT] at m l f;have i:s.b7=(q.e.ix,q.e.tm):=by
  unfold aH.b7;rw[<-h.map];simp
 rw[i];obtain⟨g,E,rfl,F,n,_,_,d⟩:=l σ;obtain⟨z,t,cs,H,D,_⟩:=h.h6 q σ;have a:∀j,j<4->(aG (r++[q]))[r.length*4+j]? =(dU q)[j]? :=fun j C=>by
  rw[bM _ (k:=r.length) σ C];simp
 have u:=d (r.length*4+0) _ (a 0 O);have v:=d (r.length*4+1) _ (a 1 O);have x:=d (r.length*4+2) _ (a 2 O);have y:=d (r.length*4+3) _ (a 3 O);exact yP G 0 r g 0 c q.e.ix q.e.tm q.e.kd (z,0) q.e.b t (by simp at m;omega) w f (by simpa using u) (by simpa using v) (by simpa using x) (by simpa[D] using y) h.b4.lt n
end
theorem dW:(Tryz.prog.info? 65).map (fun i=>(i.zero,i.size,i.bytes))=some (some (.agg #[.int .i64 0,.int .i64 0,.int .i64 0,.slice none 0 0]),4,48):=by kernel_rfl
theorem aS4{p:List UInt8}{a:Int}(h:(cI 2 p).2.isSome=false):dE p a=none:=by
 unfold dE;rcases hN:cI 2 p with⟨v,_|r⟩
 split;rename_i e;cases e;rfl;rw[hN] at h;cases h
theorem bK7{p:List UInt8}{a t k:Int}{r:List UInt8}(b:(cI 2 p).1=[t,k])(c:(cI 2 p).2=some r):dE p a=if(cJ r).2.2≠0∨(cJ r).2.1≠r.length∨bL-1<=a then none else some ⟨a+1,t,k,(cJ r).1⟩:=by
 unfold dE;rcases hN:cI 2 p with⟨v,o⟩
 rw[hN] at b c;simp only at b c;subst b c;rfl
theorem aH5(l:List UInt8):(cJ l).1.length<=l:=by
 unfold cJ;split;split;simp;rw[lV,lZ];omega;simp
theorem bK9{n:Nat}{b r:List UInt8}(h:(cI n b).2=some r):r.length<=b:=by
 induction n generalizing b with
 |zero=>injection h with h;rw[h];exact lR _
 |succ n ih=>
  unfold cI at h;split at h;cases h;have:=ih h;rw[lZ] at this;omega
theorem yT(A:Option Addr)(b:List UInt8)(c G:Nat)(w:World){s:aH}{rs:List EntR}{vl ve tv:Value}(hS:jL w G s rs vl ve tv)(hr:Rd w G A (cells b))(I3:b<=c)(hb:b.length<=140737488351232)(hc:c<=9223372036854775807)
  (hf:0<=s.a8∧s.a8<=9223372036854775807) (hn:rs.length<=1000000000) (hl:-9223372036854775808<=s.b7.1):
  Calls Tryz.prog 146 #[(G,0),.slice A b c] w fun e w' =>e=.returned (.bool (dE b s.b7.1).isSome)∧Below G w w' ∧
   (dE b s.b7.1=none->jL w' G s rs vl ve tv)∧∀q,dE b s.b7.1=some q->∃v L,jL w' G {s with l:=s.l++[q]} (rs++[⟨v,q⟩]) L ve tv:=by
 have HS:=J hS;have HL:=J (hS.b7 hf O);have HR:=J hr;have J8:=hS.b4.lt;obtain⟨Z,c3,G2,_⟩:=aK hS.c7;subst G2;obtain⟨g,E6⟩:=eX (s.b7.1);rw[<-E6] at HL hl⊢;generalize s.b7.2=lt at HL;clear hS hr E6;go_enter Tryz.func146,Tryz.ntmps146;go_wp2_with fail;refine HL.o.mono ?_;rintro e M ⟨rfl,q8⟩;have I9:=q8.size;have C0:=J q8;clear q8 HL;have l7:aS (M.alloc (.cells #[.int .i64 0,.int .i64 0,.int .i64 0,.slice none 0 0] 65)) M 65 #[.int .i64 0,.int .i64 0,.int .i64 0,.slice none 0 0]:=aS.new M _ _;have m9:Below w w (M.alloc (.cells #[.int .i64 0,.int .i64 0,.int .i64 0,.slice none 0 0] 65)):=C0.o.trans ((lS _ M).alloc O _);go_upto_region 3 with(fail)
 obtain⟨F,G4⟩:=eX (M.alloc (.cells #[.int .i64 0,.int .i64 0,.int .i64 0,.slice none 0 0] 65));obtain⟨d,C9⟩:=eX M.heap.size;rw[<-G4] at l7 m9⊢;rw[<-C9] at l7 I9⊢;have I2:=l7.lt;have C5:=J l7;have o9:=J m9;have J1:=m9.size;clear G4 C9 l7 m9 C0;have l8:=bA F (.cells [Value.pointer (d,1),Value.pointer (d,2)].toArray 155);have C1:=J l8;have J2:=l8.size;have p7:Hq (Calls Tryz.prog 104 #[.slice A b c,.slice (some ⟨F,0,none⟩) 2 2] (F.alloc (.cells [Value.pointer (d,1),Value.pointer (d,2)].toArray 155)) _):=J (nV A b c (some ⟨F,0,none⟩) 2 2 d 1 65 #[.int .i64 0,.int .i64 0,.int .i64 0,.slice none 0 0] (F.alloc (.cells [Value.pointer (d,1),Value.pointer (d,2)].toArray 155))
  ((((HR.o.more O).a1 o9.o).more (by omega:w.heap.size<=F)).a1 l8|>.more J2) (fun h0 ad e=>by obtain⟨J5,e',K3,_⟩:=HR.o (by rw[aB];exact h0);rw[e] at e';injection e' with e';subst e';omega) I3 hb hc
  ((cS F 155 [Value.pointer (d,1),Value.pointer (d,2)]).more σ) (fun ad e=>by injection e with e;subst e;show F≠d;omega) (C5.o.a1 l8 I2) O (fun i hi=>by
   have:i=0∨i=1:=O;rcases this with rfl|rfl
   exact⟨_,rfl,rfl⟩;exact⟨_,rfl,rfl⟩))
 clear l8;obtain⟨J4,B6⟩:=eX ((cI 2 b).2.isSome);rw[<-B6] at p7;have p5:=J B6;clear B6;go_wp2_with fail;refine p7.o.mono ?_;rintro e w3 ⟨v,rfl,E5,⟨m3,G2,p8,G3⟩,Ar,Y,cr,rfl,I7,J9,E7,X⟩;have f8:=(o9.o.trans (C1.o.mono J1)).grown E5 O (fun j C=>by injection C with C;omega);have E8:=f8.size;have I1:=p8.lt;have I8:Y.length<=140737488351232:=by
  cases x:(cI 2 b).2 with
  |none=>rw[x] at X;rw[<-X];simp
  |some r=>rw[x] at X;have:=bK9 x;rw[<-X];show r.length<=_;omega
 have C6:=J (aL5 Ar Y cr w3 E7 I7 O);have o8:=J (And.intro p8 f8);have C7:=J G3;have C3:=J X;clear p8 f8 G3 X E5 p7 C1 C5 o9 E7;go_wp2_with fail;refine C6.o.mono ?_;rintro e w4 ⟨rfl,D5⟩;have Q:=J D5;clear C6 D5;have l9:dE b g=none->∀y:World,Below w4 w4 y->(.returned (.bool false):Ending)=.returned (.bool (dE b g).isSome)∧Below G w y∧
   (dE b g=none->jL y G s rs (.slice Z rs c3) ve tv)∧∀q,dE b g=some q->∃v L,jL y G {s with l:=s.l++[q]} (rs++[⟨v,q⟩]) L ve tv:=fun E y U=>by
  have hb:=(o8.o.2.trans (Q.o.mono E8)).trans (U.mono (ω1 Q.o.size));refine⟨by rw[E];rfl,hb.mono O,fun _=>HS.o.new hb,fun q h=>by rw[E] at h;cases h⟩
 have D:=J l9;clear l9;obtain⟨n,B7⟩:=eX ((cJ Y).1);obtain⟨us,B8⟩:=eX ((cJ Y).2.1);obtain⟨er,s9⟩:=eX ((cJ Y).2.2);rw[<-B7,<-B8,<-s9];have m6:=J (And.intro B7 (And.intro B8 s9));clear B7 B8 s9;cases J4 with
 |false=>
  have E:=aS4 (a:=g) p5.o.symm;have H:=J (D.o E);clear E D;go_wp2_with fail;go_ret;exact H.o _ (lS _ _)
 |true=>
  obtain⟨r,n5⟩:=Option.isSome_iff_exists.1 p5.o.symm;obtain rfl:r=Y:=by have:=C3.o;rw[n5] at this;exact this
  obtain⟨E9,G0⟩:=C7.o r n5;obtain⟨t,k,rfl⟩:∃t k,m3=[t,k]:=by
   match m3,G0 with
   |[t,k],_=>exact⟨t,k,rfl⟩
  have p9:=bK7 (a:=g) E9.symm n5;rw[<-m6.o.1,<-m6.o.2.1,<-m6.o.2.2] at p9;have l5:=J p9;clear E9 G0 n5 p9 p5 C7 C3;by_cases N:er=0;rotate_left
  ·have H:=J (D.o (by rw[l5.o,if_pos (.inl N)]))
   clear D;go_wp2_with fail;go_ret;exact H.o _ (lS _ _)
  subst N;by_cases e2:us=r;rotate_left
  ·have H:=J (D.o (by rw[l5.o,if_pos (.inr (.inl e2))]))
   have J7:((us:Int) !=(r:Int))=true:=by simp;omega
   clear D;go_wp2_with fail;go_ret;exact H.o _ (lS _ _)
  subst e2;by_cases e3:bL-1<=g
  ·have H:=J (D.o (by rw[l5.o,if_pos (.inr (.inr e3))]))
   unfold bL at e3;clear D;go_wp2_with fail;go_ret;exact H.o _ (lS _ _)
  have E:dE b g=some ⟨g+1,t,k,n⟩:=by
   rw[l5.o,if_neg (by rintro(h|h|h);exact h rfl;exact h rfl;exact e3 h)]
  unfold bL at e3;have hw:IntKind.i64.wrap (g+1)=g+1:=mH _ O;have K0:decide (g>=9223372036854775806)=false:=by simp;omega
  have K8:n.length<=140737488351232:=by rw[m6.o.1];have:=aH5 r;omega
  obtain⟨vd,y,I4,hd,U⟩:=aG8 w4 n O;have HD:=J hd;obtain⟨B,z,J6,fz,rfl,_⟩:=hd;have R:aS y d 65 #[.int .i64 0,t,k,.slice none 0 0]:=(o8.o.1.a1 Q.o I1).a1 U (ω1 Q.o.size);have f0:=R.c 0;have f3:=R.c 3;have z0:y.frozen? (d,0)=false:=R.a6 _;have z3:y.frozen? (d,3)=false:=R.a6 _;have C4:=J R;have G5:=J U;have p4:=J E;have K4:=Q.o.size;have K5:=U.size;clear R U E D l5 e3;go_upto_region 8 with(fail)
  obtain⟨m,n8⟩:=eX (((y.setCell (d,0) (.int .i64 (g+1))).setCell (d,3) (.slice (B,0) n z)));have T:aS m d 65 #[.int .i64 (g+1),t,k,.slice (B,0) n z]:=by rw[n8];exact(C4.o.b8 0 _).b8 3 _
  have g8:y.grownBy m (some d):=by rw[n8];exact aF (aA y d 0 _) (aA _ d 3 _) (.inl rfl)
  have m8:=((o8.o.2.trans (Q.o.mono E8)).trans (G5.o.mono O)).grown g8 O (fun j C=>by injection C with C;omega);have D8:jV m (G+1) (.slice (B,0) n z) n:=(HD.o.b1 fun q x=>g8.block q (HD.o.lt q x).2 (fun e=>by injection e with e;have:=(HD.o.lt q x).1;omega)).mono O;have m7:=HS.o.new m8;rw[<-n8];have J0:=m8.size;have D0:=T.lt;have D1:=m7.b4.lt;have D4:∀W:World,W.heap[G]? =m.heap[G]? ->W.heap[d]? =m.heap[d]? ->W.cell? (G,3)=some (.slice Z rs c3)∧W.cell? (d,0)=some (.int .i64 (g+1))∧W.cell? (d,1)=some (.int .i64 t)∧W.cell? (d,2)=some (.int .i64 k)∧W.cell? (d,3)=some (.slice (B,0) n z)∧True:=fun W h1 P=>
   ⟨(mK (w:=m) h1).trans (m7.b4.cell 3),(mK (w:=m) P).trans (T.cell 0),(mK (w:=m) P).trans (T.cell 1),(mK (w:=m) P).trans (T.cell 2),(mK (w:=m) P).trans (T.cell 3),trivial⟩
  have l6:=J D4;have I0:=J m7;have C2:=J D8;have G6:=J m8;clear n8 T g8 m8 D8 m7 D4 f0 f3 z0 z3 I4 C4 HD;refine bW 10 rfl (S:=fun W=>W.cell? ⟨G,3,none⟩=some (.slice Z rs c3)∧W.cell? ⟨d,0,none⟩=some (.int .i64 (g+1))∧W.cell? ⟨d,1,none⟩=some (.int .i64 t)∧W.cell? ⟨d,2,none⟩=some (.int .i64 k)∧W.cell? ⟨d,3,none⟩=some (.slice (some ⟨B,0,none⟩) n z)∧True) (l6.o _ rfl rfl) (fun f=>?_);refine sE 0 (k:=sE 1 (k:=sE 2 (k:=sE 3 (k:=sE 4 (k:=sE 5 (k:=?_))))));simp only[zA,zB,zF,zG,zC,zD,zE];refine zW 6 (k:=fun K p=>?_);simp only[zA,zB];go_simp;obtain⟨w7,n9⟩:=eX ((m.alloc (.cells [Value.int .i64 (g+1),Value.int .i64 t,Value.int .i64 k,Value.slice (B,0) n z].toArray 65)).drew);have I:Below m m w7:=by rw[n9];exact aD ((lS _ m).alloc (lR _) _) 1
  have D7:∀j u,[Value.int .i64 (g+1),Value.int .i64 t,Value.int .i64 k,Value.slice (B,0) n z][j]? =some u->w7.cell? ((⟨m,0,none⟩:Addr).add j)=some u:=by
   rw[n9];obtain⟨ad,N,_,P⟩:=cS m 65 [Value.int .i64 (g+1),Value.int .i64 t,Value.int .i64 k,Value.slice (B,0) n z] σ;injection N with N
   subst N;exact P
  have D3:=I0.o.new I;have D9:=C2.o.b1 fun q x=>I.block q (C2.o.lt q x).2
  have K6:=I.size;refine p _ _ (l6.o _ ((Below.alloc (lS _ m) (lR _) _).block G D1) ((Below.alloc (lS _ m) (lR _) _).block d D0)) (fun f=>?_);clear p K;rw[show(m.alloc (.cells #[Value.int .i64 (g+1),Value.int .i64 t,Value.int .i64 k,Value.slice (B,0) n z] 65)).drew=w7 from n9.symm] at f⊢;have a9:=J (And.intro (I.block G D1) (I.block d D0));have G7:=J (G6.o.trans (I.mono J0));have p6:=J D3;have G9:=J D9;have G8:=J D7;clear n9 I D7 D3 D9;try simp only[zF,zG,zC,zD,zE]
  refine zW 7 (k:=fun K p=>?_);simp only[zA,zB];rw[if_pos (by rfl)];refine eM (.tmp 59) (.tmp 61) 40 rfl (G+1) 65 (.agg #[.int .i64 0,.int .i64 0,.int .i64 0,.slice none 0 0]) 4 48 Tryz.underlying40 dW rfl δ _ rs (aG rs) rfl p6.o.c7 ⟨m,0,none⟩ 1 1 _ rfl rfl G8.o (by simp[Value.oneCell']) μ O O ?_;intro v' w8 g9 V I5;obtain⟨A8,c8,J3,_⟩:=aK g9;subst J3;have B1:(Value.slice Z rs c3).ownBlock≠some G:=fun e=>ω1 ((mL HS.o.c7 G e).1)
  have t9:(Value.slice Z rs c3).ownBlock≠some d:=fun e=>ω1 ((mL HS.o.c7 d e).2)
  have k8:=V.block G O (fun e=>B1 e.symm);have B9:=V.block d O (fun e=>t9 e.symm);have K7:=V.size;refine p _ _ (l6.o _ (k8.trans a9.o.1) (B9.trans a9.o.2)) (fun f=>?_);clear p K;have C8:aS w8 G 106 _:=Eq.trans k8 p6.o.b4;have gz:w8.frozen? (G,3)=false:=C8.a6 _;have hP:=p6.o.push (q:=⟨.slice (B,0) n z,⟨g+1,t,k,n⟩⟩) G9.o g9 V;have D6:Below G w (w8.setCell (G,3) (.slice A8 (rs.length+1) c8)):=((G7.o.mono (by omega:G<=w)).grown V O (fun j C=>ω1 ((mL HS.o.c7 j C).1))).grown (aA w8 G 3 _) O (fun j C=>by injection C with C;omega);have HP:=J (And.intro hP D6);have m5:=J (And.intro (k8.trans a9.o.1) (B9.trans a9.o.2));clear g9 V I5 k8 B9 hP D6;try simp only[zF,zG,zC,zD,zE]
  refine zW 8 (k:=fun K p=>?_);simp only[zA,zB];go_simp;refine p _ _ (l6.o _ m5.o.1 m5.o.2) (fun f=>?_);clear p K;try simp only[zF,zG,zC,zD,zE]
  refine zW 9 (k:=fun K p=>?_);simp only[zA,zB];go_simp;refine p _ _ (l6.o _ m5.o.1 m5.o.2) (fun f=>?_);clear p K;try simp only[zF,zG,zC,zD,zE]
  refine dI (t:=10) (by simp) (by kernel_rfl) (by kernel_rfl) (fun K p=>?_);simp only[zA,zB];go_simp;refine p _ _ ?_;clear p K f gz C8;generalize(w8.setCell (G,3) (.slice A8 (rs.length+1) c8))=w9 at HP⊢;go_wp2_with fail;go_ret;refine⟨by rw[p4.o];rfl,HP.o.2,(fun h=>by rw[p4.o] at h;cases h),fun q x=>?_⟩;rw[p4.o] at x;injection x with x
  subst x;exact⟨_,_,HP.o.1⟩
theorem aG3(b:List UInt8):∀f a,a<=b.length->(jR b f a).1.length<=b-a∧∀p∈(jR b f a).1,p.length<=1048576
 |0,a,_=>by simp[jR]
 |f+1,a,ha=>by
  unfold jR;split;simp;split;rename_i i d;obtain⟨e,j,g,_⟩:=kH d;rw[lZ] at g;obtain⟨k,h⟩:=aG3 b f (a+(bO (b.drop a)).2.1) O;refine⟨by simp only[mC];omega,fun p c=>?_⟩;rcases List.mem_cons.1 c with rfl|c
  exact e;exact h p c;simp
theorem oP(b:List UInt8):(cL b).1.length<=b∧∀p∈(cL b).1,p.length<=1048576:=by
 have:=aG3 b (b.length+1) 0 O;exact⟨by have:=this.1;unfold cL;omega,this.2⟩
theorem dF{p:List UInt8}(h:p.length<=1048576):(cM p).length<=1048600:=by
 rw[jG O,lT,lT,Crc.four_length];have:=dG p O;omega
structure aI0(k:Int)(b:List UInt8)(i:Nat)(s:aH)(a:Int):Prop where
 zero:i=0->s=⟨k,0,0,[],[]⟩∧a=0
 more:0<i->cH k b=(gB ((cL b).1.drop i) a s).map fun s=>(s,decide ((cL b).2.2≠0))
 key:s.k=k
 a8:0<=s.a8∧s.a8<=9223372036854775806
 b7:-1<=s.b7.1
 at_:0<=a∧a<=1048600*i
 len:s.a7=i∧s.l<=i
theorem aI0.start(k:Int)(b:List UInt8):aI0 k b 0 ⟨k,0,0,[],[]⟩ 0:=
 ⟨fun _=>⟨rfl,rfl⟩,fun h=>absurd h O,rfl,⟨Int.le_refl 0,by show(0:Int)<=_;omega⟩,by show(-1:Int)<=0-1;omega,⟨O,O⟩,rfl,lR _⟩
theorem rC{p:List UInt8}{f t:Int}(h:gF p=some (f,t)):1<=f∧f<=9223372036854775806:=by
 unfold gF at h;split at h;cases h;rename_i a;have b:(aC maxI p).1<=9223372036854775807:=iM maxI p;unfold bL at a;split at h;injection h with h
 injection h with h _
 omega;cases h
theorem xE{p:List UInt8}{a:Int}{q:cD}(h:dE p a=some q):q.ix=a+1:=by
 unfold dE at h;split at h;split at h;cases h;injection h with h
 rw[<-h];cases h
section
variable{k:Int}{b:List UInt8}{i:Nat}{s:aH}{a:Int}
theorem aI0.head{p:List UInt8}{f t:Int}(h:aI0 k b 0 s a)(c:(cL b).1[0]? =some p)(a8:p.length<=1048576)(d:gF p=some (f,t)):aI0 k b 1 ⟨k,f,t,[],[((cM p).length:Int)]⟩ ((cM p).length:Int):=by
 have e:=rC d;have g:=dF a8;refine⟨fun h=>O,fun _=>?_,rfl,⟨by show(0:Int)<=f;omega,e.2⟩,by show(-1:Int)<=f-1;omega,⟨O,O⟩,rfl,σ⟩;unfold cH;cases hr:(cL b).1 with
 |nil=>rw[hr] at c;simp at c
 |cons x r=>
  rw[hr] at c;injection c with c
  subst c;simp only[d];rfl
theorem aI0.headBad{p:List UInt8}(a:(cL b).1[0]? =some p)(c:gF p=none):cH k b=none:=by
 unfold cH;cases hr:(cL b).1 with
 |nil=>rw[hr] at a;simp at a
 |cons x r=>
  rw[hr] at a;injection a with a
  subst a;simp only[c]
theorem bC0{α:Type}{l:List α}{i:Nat}{x:α}(h:l[i]? =some x):l.drop i=x::l.drop (i+1):=by
 obtain⟨a,b⟩:=List.getElem?_eq_some_iff.1 h;rw[List.drop_eq_getElem_cons a,b]
theorem aI0.entry{p:List UInt8}{q:cD}(h:aI0 k b i s a)(hi:0<i)(d:(cL b).1[i]? =some p)(a8:p.length<=1048576)(c:dE p s.b7.1=some q):
  aI0 k b (i+1) {s with l:=s.l++[q],a7:=s.a7++[a+(cM p).length]} (a+(cM p).length):=by
 have j:=dF a8;have f:=xE c;have g:=h.b7;refine⟨fun e=>O,fun _=>?_,h.key,h.a8,?_,⟨ω1 (h.at_.1),ω1 (h.at_.2)⟩,by rw[lT,h.len.1];rfl,by rw[lT];have:=h.len.2;simp;omega⟩;rw[h.more hi,bC0 d,gB,c];unfold aH.b7;simp;omega
theorem aI0.k4{p:List UInt8}(h:aI0 k b i s a)(hi:0<i)(c:(cL b).1[i]? =some p)(d:dE p s.b7.1=none):cH k b=none:=by
 rw[h.more hi,bC0 c,gB,d];rfl
theorem aI0.done(h:aI0 k b i s a)(hi:i=(cL b).1.length):cH k b=some (s,decide ((cL b).2.2≠0)):=by
 rcases Nat.eq_zero_or_pos i with c|c
 obtain⟨d,e⟩:=h.zero c;unfold cH;rw[mD (by omega:(cL b).1.length=0),d];rw[h.more c,List.drop_of_length_le O];rfl
end
theorem rP(s:ByteArray):s.size=s.data.toList:=by rw[Array.length_toList];rfl
theorem rH(c:UInt8)(r:List UInt8):qK (c::r)=if r.length<1∨9<r.length∨c≠106 then 0 else if(cG r).2.2≠0∨(cG r).2.1≠(r:Int) then 0 else(cG r).1:=rfl
theorem aO1(s:ByteArray)(W:s.size<=140737488351232)(w:World)(C:aC2 w):
  Calls Tryz.prog 98 #[.string s] w fun e V =>e=.returned (.int .i64 (qK s.data.toList))∧Below w w V :=by
 have Q:=J C;clear C;obtain⟨R,k⟩:=eX (qK s.data.toList);rw[<-k];by_cases l:s.size<2∨10<s.size
 ·have T:R=0:=by
   rw[k];have y:=rP s;rcases hd:s.data.toList with _|⟨c,r⟩
   rfl;rw[hd,mC] at y;rw[rH,if_pos O]
  subst T;clear k;go_enter Tryz.func98,Tryz.ntmps98;rcases l with l|l
  ·go_wp2
   go_ret;exact⟨rfl,lS _ _⟩
  go_wp2;go_ret;exact⟨rfl,lS _ _⟩
 have Y:2<=s.size:=O;have X:s.size<=10:=O;clear l;obtain⟨d,r,i⟩:∃d r,s.data.toList=d::r:=by
  rcases e:s.data.toList with _|⟨a,b⟩
  exfalso;have y:=rP s;rw[e,List.length_nil] at y;omega;exact⟨a,b,rfl⟩
 have L:s.size=r+1:=by
  show s.data.size=_
  rw[<-Array.length_toList,i,mC]
 have u:(s.extract 1 s.size).data.toList=r:=by
  rw[ByteArray.data_extract,Array.toList_extract,i,L];simp
 have S:0<s.size:=O;have K:s[0]'(S)=d:=by
  have:s.data.toList[0]'(by rw[i];simp)=d:=by simp[i]
  rw[Array.getElem_toList] at this;exact this
 have M:(s.extract 1 s.size).size<=140737488351232:=by
  show(s.extract 1 s.size).data.size<=_
  rw[<-Array.length_toList,u];omega
 have m:=J (bI2 (s.extract 1 s.size) M w Q.o);rw[u] at m;have x:R=if d≠106 then 0 else if(cG r).2.2≠0∨(cG r).2.1≠(r:Int) then 0 else(cG r).1:=by
  rw[k,i,rH];by_cases n:d=106;rw[if_neg (show¬(r.length<1∨9<r.length∨d≠106) from by rintro(h|h|h);omega;omega;exact h n),if_neg (show¬d≠106 from fun h=>h n)];rw[if_pos (show(r.length<1∨9<r.length∨d≠106) from .inr (.inr n)),if_pos (show d≠106 from n)]
 obtain⟨U,H⟩:=eX ((cG r).1);obtain⟨p,I⟩:=eX ((cG r).2.1);obtain⟨N,G⟩:=eX ((cG r).2.2);rw[<-H,<-I,<-G] at m x;have f:=J x;have D:=J (show(r:Int)=(s.size:Int)-1 by omega);have F:(s[0].toNat:Int)=106↔d=106:=by
  rw[K];constructor;intro e;refine UInt8.toNat_inj.1 ?_;show d.toNat=106
  omega;rintro rfl;rfl
 have z:=J F;clear k i u M H I G K L x F;go_enter Tryz.func98,Tryz.ntmps98;by_cases v:(s[0].toNat:Int)=106;rotate_left
 ·have j:=J (fun e=>v (z.o.2 e))
  have Z:=bne_iff_ne.2 v;have g:R=0:=by rw[f.o,if_pos (show d≠106 from j.o)]
  clear f;subst g;go_wp2;go_ret;exact⟨rfl,lS _ _⟩
 have j:=J (z.o.1 v);go_wp2_with fail;refine m.o.mono ?_;rintro e w2 ⟨rfl,E⟩;have t:=J E;clear E m;by_cases A:N=0
 ·subst A
  by_cases B:(p:Int)=(s.size:Int)-1
  ·have q:=J B
   have g:R=U:=by rw[f.o,if_neg (show¬d≠106 from fun h=>h j.o),if_neg (show¬((0:Int)≠0∨(p:Int)≠(r:Int)) from by rintro(h|h);exact h rfl;exact h (by rw[D.o];exact q.o))]
   clear f;subst g;go_wp2;go_ret;exact⟨rfl,t.o⟩
  have q:=J B;have g:R=0:=by rw[f.o,if_neg (show¬d≠106 from fun h=>h j.o),if_pos (show((0:Int)≠0∨(p:Int)≠(r:Int)) from .inr (by rw[D.o];exact q.o))]
  clear f;subst g;go_wp2;go_ret;exact⟨rfl,t.o⟩
 have P:=J A;have g:R=0:=by rw[f.o,if_neg (show¬d≠106 from fun h=>h j.o),if_pos (show(N≠0∨(p:Int)≠(r:Int)) from .inl P.o)]
 clear f;subst g;go_wp2;go_ret;exact⟨rfl,t.o⟩
theorem aN7:∀(l:List UInt8) (n:Nat),(∀c∈l,xN c=true)->l.foldl dv n+1<=(n+1)*10^l.length
 |[],n,_=>by simp
 |c::r,n,h=>by
  have d:c.toNat<=57:=by
   have:=h c List.mem_cons_self;unfold xN at this;simp at this;exact this.2
  have b:=aN7 r (dv n c) fun x hx=>h x (List.mem_cons_of_mem _ hx)
  have a:dv n c+1<=(n+1)*10:=by unfold dv;omega
  rw[List.foldl_cons,mC,Nat.pow_succ];refine mM b ?_;rw[show(n+1)*(10^r.length*10)=((n+1)*10)*10^r.length by rw[Nat.mul_comm (10^r.length) 10,Nat.mul_assoc]];exact Nat.mul_le_mul_right _ a
theorem bR1{p:UInt8->Bool}:∀{l:List UInt8} {c:UInt8},c∈l.takeWhile p->p c=true
 |[],c,h=>by cases h
 |a::r,c,h=>by
  rw[List.takeWhile_cons] at h;split at h;rename_i d;rcases List.mem_cons.1 h with b|b
  rw[b];exact d;exact bR1 b;cases h
theorem sF(n:Nm):0<=qK n∧qK n<=999999999:=by
 unfold qK;split;omega;rename_i c r;split;omega;rename_i e;split;omega;rename_i f;unfold cG;split;omega;split;omega;split;omega;have g:(iS r).length<=r:=by
  unfold iS;exact(List.takeWhile_sublist _).length_le
 have a:=aN7 (iS r) 0 fun c d=>bR1 d
 have b:10^(iS r).length<=10^9:=Nat.pow_le_pow_right O O;simp only at a b⊢;unfold valD;omega
theorem nA:∀(n:Nat) (b:List UInt8) (a:List Int) (r:List UInt8),cI n b=(a,some r)->∀v∈a,0<=v∧v<=9223372036854775807
 |0,b,a,r,h=>by
  injection h with h _
  subst h;intro v c;cases c
 |n+1,b,a,r,h=>by
  unfold cI at h;split at h;injection h with _ h
  cases h;rename_i d;injection h with h2 h3
  subst h2;intro v c;rcases List.mem_cons.1 c with rfl|c
  ·have e:(aC maxU b).1<=18446744073709551615:=iM maxU b
   refine⟨O,?_⟩;unfold bX;split<;>omega
  exact nA n _ _ r (Prod.ext rfl h3) v c
structure pX(s:aH):Prop where
 num:gU s
 a7:s.a7.length=s.l+1
theorem aS5{p:List UInt8}{f t:Int}(h:gF p=some (f,t)):0<=t∧t<=9223372036854775807:=by
 unfold gF at h;split at h;cases h;split at h;rename_i b a;injection h with h
 injection h with _ h
 subst h;exact nA _ _ _ _ a _ (lY.2 rfl);cases h
theorem aB0{p:List UInt8}{a:Int}{q:cD}(h:dE p a=some q):(0<=q.tm∧q.tm<=9223372036854775807)∧(0<=q.kd∧q.kd<=9223372036854775807)∧q.ix=a+1∧a<9223372036854775806:=by
 unfold dE at h;split at h;rename_i t k r b;split at h;cases h;rename_i c;injection h with h
 subst h;unfold bL at c;exact⟨nA _ _ _ _ b _ σ,nA _ _ _ _ b _ σ,rfl,O⟩;cases h
theorem gU.b7{s:aH}(h:gU s):-1<=s.b7.1∨(I6 s.b7.1):=by
 unfold aH.b7;split
 ·have:=h.a8;exact .inl (by show-1<=s.a8-1;omega)
 rename_i e a;exact .inr (h.l0 e (List.mem_of_getLast? a)).1
theorem wV:∀(b:List (List UInt8)) (a:Int) (s c :aH),gB b a s=some c ->pX s->0<=a->(∀p∈b,p.length<=1048576)->a+1048600*b<=4611686018427387904->pX c ∧c.k=s.k∧c.a8=s.a8
 |[],a,s,c,h,hs,_,_,_=>by
  injection h with h
  subst h;exact⟨hs,rfl,rfl⟩
 |p::r,a,s,c,h,hs,ha,hp,hl=>by
  unfold gB at h;split at h;cases h;rename_i e g;have i:=aB0 g;have j:=dF (hp p List.mem_cons_self);rw[mC] at hl;have m:=hs.num.b7;have f:pX {s with l:=s.l++[e],a7:=s.a7++[a+(cM p).length]}:=by
   refine⟨⟨hs.num.k,hs.num.a8,hs.num.c6,fun x hx=>?_,fun n d=>?_⟩,?_⟩;rcases mB.1 hx with hx|hx
   exact hs.num.l0 x hx;obtain rfl:=lY.1 hx;omega;rcases mB.1 d with d|d
   exact hs.num.a7 n d;obtain rfl:=lY.1 d;omega;show(s.a7++[_]).length=(s.l++[e]).length+1
   rw[lT,lT,hs.a7];rfl
  have:=wV r _ _ _ h f O (fun x hx=>hp x (List.mem_cons_of_mem _ hx)) O;exact this
theorem aY4{k:Int}{b:List UInt8}{s:aH}{t:Bool}(h:cH k b=some (s,t))(w:0<=k∧k<=999999999)(v:b.length<=1000000000):gU s∧s.k=k∧(s.a7=[]∧s.l=[]∨pX s∧1<=s.a8):=by
 have a:=oP b;unfold cH at h;split at h;injection h with h
 injection h with h _
 subst h;exact⟨⟨by simp only;omega,σ,by simp only;omega,σ,σ⟩,rfl,.inl ⟨rfl,rfl⟩⟩;rename_i p r c;split at h;cases h;rename_i f o d;have j:=rC d;have q:=aS5 d;rw[c] at a;have u:=dF (a.2 p List.mem_cons_self);rw[mC] at a;obtain⟨y,i,e⟩:=Option.map_eq_some_iff.1 h;injection e with e _
 subst e;have g:pX ⟨k,f,o,[],[((cM p).length:Int)]⟩:=by
  refine⟨⟨by simp only;omega,by simp only;omega,by simp only;omega,σ,fun n m=>?_⟩,rfl⟩;obtain rfl:=lY.1 m;omega
 have:=wV r _ _ _ i g O (fun x hx=>a.2 x (List.mem_cons_of_mem _ hx)) (ω1 (a.1));exact⟨this.1.num,this.2.1,.inr ⟨this.1,by rw[this.2.2];exact j.1⟩⟩
theorem mX(l:List (Nm×FD))(q:Nm×FD):cE (l++[q])=(cE l).bind fun x=>if qK q.1=0 then some x else(cH (qK q.1) q.2.b).map fun s=>x++[s]:=by
 induction l with
 |nil=>
  simp only[List.nil_append,cE,Option.bind_some];split;rfl;cases cH (qK q.1) q.2.b<;>rfl
 |cons y r ih=>
  simp only[List.cons_append,cE];split;exact ih;cases cH (qK y.1) y.2.b with
  |none=>rfl
  |some s=>
   simp only[ih];cases cE r with
   |none=>rfl
   |some x=>
    simp only[Option.bind_some,Option.map_some];split;rfl;cases cH (qK q.1) q.2.b<;>rfl
theorem qN{l r:List (Nm×FD)}(h:cE l=none):cE (l++r)=none:=by
 induction r generalizing l with
 |nil=>rw[List.append_nil];exact h
 |cons x r ih=>
  rw[show l++x::r=(l++[x])++r by simp];refine ih ?_;rw[mX,h];rfl
theorem lI:∀{l:List (Nm×FD)} {x:List (aH×Bool)},cE l=some x->(∀q∈l,q.2.b.length<=1000000000)->x.length<=l∧∀y∈x,gU y.1∧(1<=y.1.k∧y.1.k<=999999999)∧(y.1.a7=[]∧y.1.l=[]∨pX y.1∧1<=y.1.a8)
 |[],x,h,_=>by
  injection h with h
  subst h;exact⟨lR _,σ⟩
 |q::r,x,h,hb=>by
  have a:=fun y c=>hb y (List.mem_cons_of_mem _ c)
  unfold cE at h;split at h;have:=lI h a;exact⟨by rw[mC];omega,this.2⟩;rename_i j;split at h;cases h;rename_i s i;obtain⟨m,e,rfl⟩:=Option.map_eq_some_iff.1 h;have f:=lI e a;have g:=sF q.1;have d:=aY4 (t:=s.2) (s:=s.1) i g (hb q List.mem_cons_self);refine⟨by rw[mC,mC];omega,fun y c=>?_⟩;rcases List.mem_cons.1 c with rfl|c
  exact⟨d.1,by rw[d.2.1];omega,d.2.2⟩;exact f.2 y c
theorem aF4:∀{l:List (aH×Bool)},eT l=true->l.Pairwise fun x y=>x.1.k<y.1.k
 |[],_=>List.Pairwise.nil
 |[a],_=>List.pairwise_singleton _ _
 |a::b::r,h=>by
  unfold eT at h;simp only[Bool.and_eq_true,decide_eq_true_eq] at h;have d:=aF4 h.2;have e:=List.pairwise_cons.1 d;refine List.pairwise_cons.2 ⟨fun y c=>?_,d⟩;rcases List.mem_cons.1 c with rfl|c
  omega;have:=e.1 y c;omega
theorem aA6{l m:List (aH×Bool)}(j:l.Perm m)(n:l.Pairwise fun x y=>x.1.k<=y.1.k)(o:m.Pairwise fun x y=>x.1.k<=y.1.k)(h:eT m=true):l=m:=by
 have q:=aF4 h;have p:∀a∈m,∀b∈m,a.1.k=b.1.k->a=b:=by
  clear j n o h;induction m with
  |nil=>intro a f;cases f
  |cons x r ih=>
   have g:=List.pairwise_cons.1 q;intro a f b i e;rcases List.mem_cons.1 f with c|c<;>rcases List.mem_cons.1 i with d|d
   rw[c,d];have:=g.1 b d;rw[c] at e;omega;have:=g.1 a c;rw[d] at e;omega;exact ih g.2 a c b d e
 exact List.Perm.eq_of_pairwise (le:=fun x y:aH×Bool=>x.1.k<=y.1.k) (fun a b f i g s=>p a (j.mem_iff.1 f) b i O) n o j
theorem yX{d:DkD}{l m:List (aH×Bool)}(o:cE d.fs=some l)(p:m.Perm l)(i:m.Pairwise fun x y=>x.1.k<=y.1.k):gH d=if eT m=true then some m else none:=by
 have n:(l.mergeSort fun x y=>decide (x.1.k<=y.1.k)).Pairwise fun x y=>x.1.k<=y.1.k:=by
  have:=List.pairwise_mergeSort (le:=fun x y:aH×Bool=>decide (x.1.k<=y.1.k)) (fun a b c f g=>by simp at*;omega) (fun a b=>by simp;omega) l;exact this.imp fun h=>of_decide_eq_true h
 have j:m.Perm (l.mergeSort fun x y=>decide (x.1.k<=y.1.k)):=p.trans (List.mergeSort_perm l _).symm;unfold gH;simp only[o];by_cases f:eT m=true;have e:=aA6 j.symm n i f;rw[e,if_pos f];rw[if_neg f,if_neg fun g=>f ?_];have e:=aA6 j i n g;rw[e];exact g
def lJ(acc:List aH)(s:aH):List aH:=match acc.getLast? with|none=>[s]|some t=>if s.h0 t=true then acc++[s] else[s]
theorem lH:∀(l:List aH) (a:List aH) (s:aH),dC a (l++[s])=lJ (dC a l) s
 |[],a,s=>rfl
 |x::r,a,s=>by
  show dC (lJ a x) (r++[s])=lJ (dC (lJ a x) r) s
  exact lH r _ s
theorem tR(l:List aH):∀i,i<=l.length->∃a,a<=i∧(0<i->a<i)∧dC [] (l.take i)=(l.take i).drop a
 |0,_=>⟨0,lR _,fun h=>O,by simp[dC]⟩
 |i+1,hi=>by
  obtain⟨a,f,g,e⟩:=tR l i O;have b:i<l:=O;have c:l.take (i+1)=l.take i++[l[i]]:=by
   rw[List.take_add_one,lW b];rfl
  rw[c,lH,e];unfold lJ;have d:(l.take i++[l[i]]).drop i=[l[i]]:=by
   rw[List.drop_append_of_le_length (by rw[lV];omega),List.drop_eq_nil_of_le (by rw[lV];omega)];rfl
  split;exact⟨i,O,fun _=>O,d.symm⟩;rename_i t j;split;refine⟨a,O,fun _=>O,?_⟩;rw[List.drop_append_of_le_length (by rw[lV];omega)];exact⟨i,O,fun _=>O,d.symm⟩
theorem takeT_txt(l:List UInt8):(cJ l).1.length<=65535∨(cJ l).2.2≠0:=by
 by_cases h:(cJ l).2.2=0;exact .inl (bB1 h).2.2;exact .inr h
theorem bA7{p:List UInt8}{a:Int}{q:cD}(h:dE p a=some q):q.b.length<=65535:=by
 unfold dE at h;split at h;rename_i t k r e;split at h;cases h;rename_i d;injection h with h
 subst h;rcases takeT_txt r with c|c
 exact c;exact absurd (.inl c) d;cases h
theorem tW:∀(c:List (List UInt8)) (a:Int) (s d :aH),gB c a s=some d ->(∀e∈s.l,e.b.length<=65535)->(∀e∈d.l,e.b.length<=65535)∧d.l.length=s.l+c
 |[],a,s,d,h,hs=>by
  injection h with h
  subst h;exact⟨hs,rfl⟩
 |p::r,a,s,d,h,hs=>by
  unfold gB at h;split at h;cases h;rename_i e i;have g:=bA7 i;have:=tW r _ _ _ h (fun x hx=>by
   rcases mB.1 hx with hx|hx
   exact hs x hx;obtain rfl:=lY.1 hx;exact g)
  refine⟨this.1,?_⟩;have f:=this.2;simp at f;rw[f,mC];omega
theorem wW{k:Int}{b:List UInt8}{s:aH}{t:Bool}(h:cH k b=some (s,t)):(∀e∈s.l,e.b.length<=65535)∧s.l.length<=b:=by
 have g:=oP b;unfold cH at h;split at h;injection h with h
 injection h with h _
 subst h;exact⟨σ,σ⟩;rename_i p r a;split at h;cases h;rename_i f m i;rw[a,mC] at g;obtain⟨j,c,e⟩:=Option.map_eq_some_iff.1 h;injection e with e _
 subst e;have:=tW r _ _ _ c σ;exact⟨this.1,by have d:=this.2;simp at d;omega⟩
theorem nW:∀{l:List (Nm×FD)} {x:List (aH×Bool)},cE l=some x->∀y∈x,(∀e∈y.1.l,e.b.length<=65535)∧∃q∈l,y.1.l.length<=q.2.b.length
 |[],x,h=>by
  injection h with h
  subst h;simp
 |q::r,x,h=>by
  unfold cE at h;split at h;intro y a;obtain⟨c,i,d,f⟩:=nW h y a;exact⟨c,i,List.mem_cons_of_mem _ d,f⟩;split at h;cases h;rename_i s j;obtain⟨k,g,rfl⟩:=Option.map_eq_some_iff.1 h;intro y a;rcases List.mem_cons.1 a with rfl|a
  have:=wW (s:=y.1) (t:=y.2) j;exact⟨this.1,q,List.mem_cons_self,this.2⟩;obtain⟨c,i,d,f⟩:=nW g y a;exact⟨c,i,List.mem_cons_of_mem _ d,f⟩
theorem yW{d:DkD}{l:List (aH×Bool)}(h:gH d=some l)(i:∀q∈d.fs,q.2.b.length<=1000000000):l.length<=d.fs∧(∀y∈l,gU y.1∧(1<=y.1.k∧y.1.k<=999999999)∧(y.1.a7=[]∧y.1.l=[]∨pX y.1∧1<=y.1.a8)∧(∀e∈y.1.l,e.b.length<=65535)∧y.1.l.length<=1000000000)∧eT l=true:=by
 unfold gH at h;split at h;cases h;rename_i p a;split at h;rename_i g;injection h with h
 subst h;have f:=lI a i;have j:=nW a;refine⟨by rw[List.length_mergeSort];exact f.1,fun y o=>?_,g⟩;have c:=(List.mergeSort_perm p _).mem_iff.1 o;obtain⟨m,q,n,r⟩:=j y c;have s:=i q n;exact⟨(f.2 y c).1,(f.2 y c).2.1,(f.2 y c).2.2,m,O⟩;cases h
theorem bW3{pw:fT}(h:pw.cut.1=false)(a:pw.off=false):pw.cut.2.2.off=false:=by
 unfold fT.cut at h⊢;split;exact a;rename_i b;split;exact a;rename_i c;rw[if_neg b,if_neg c] at h;cases h
theorem aY5{d:DkD}{n:Nm}(h:(d.b6 n).1=0):(d.b6 n).2.pw.off=false:=by
 unfold DkD.b6 at h⊢;split;rename_i a;rw[if_pos a] at h;cases h;rename_i a;rw[if_neg a] at h;split;rename_i b;rw[b] at h;cases h;rename_i f b;rw[b] at h;simp only[DkD.e0] at h⊢;refine bW3 ?_ (by simpa using a);by_cases c:d.pw.cut.1=true;rw[if_pos c] at h;cases h;simpa using c
structure cB where
 s:aH
 tn:Bool
 al:Option Addr
 cl:Nat
 ae:Option Addr
 ce:Nat
 rs:List EntR
def cB.vl(q:cB):Value:=.slice q.al q.rs q.cl
def cB.ve(q:cB):Value:=.slice q.ae q.s.a7 q.ce
def cB.o(q:cB):aH×Bool:=(q.s,q.tn)
instance:Inhabited cB:=⟨⟨⟨0,0,0,[],[]⟩,false,none,0,none,0,[]⟩⟩
def jN(q:cB):List Value:=[q.s.k,q.s.a8,q.s.c6,q.vl,q.ve,.bool q.tn]
def fQ(l:List cB):List Value:=l.flatMap jN
theorem pF(l:List cB):(fQ l).length=l*6:=by
 induction l with
 |nil=>rfl
 |cons x r ih=>unfold fQ at ih⊢;rw[List.flatMap_cons,lT,ih,mC];simp[jN];omega
theorem aC5(a b:List cB):fQ (a++b)=fQ a++fQ b:=by unfold fQ;rw[List.flatMap_append]
theorem uR(l:List cB){k:Nat}(a:k<l){j:Nat}(b:j<6):(fQ l)[k*6+j]? =(jN l[k])[j]? :=by
 induction l generalizing k with
 |nil=>simp at a
 |cons x r ih=>
  unfold fQ at ih⊢;rw[List.flatMap_cons];cases k with
  |zero=>rw[List.getElem?_append_left (by simp[jN];omega)];simp
  |succ k=>
   rw[List.getElem?_append_right (by simp[jN];omega)];have:(k+1)*6+j-(jN x).length=k*6+j:=by simp[jN];omega
   rw[this,ih (by simpa using a)];rfl
theorem aV8:(Tryz.prog.info? 106).map (fun i=>(i.zero,i.size,i.bytes))=some (some (.agg #[.int .i64 0,.int .i64 0,.int .i64 0,.slice none 0 0,.slice none 0 0,.bool false]),6,80):=by kernel_rfl
theorem dZ{P:Program}{w:World}{r:Array Oper}{rest:List Oper}{o:Oper}{a:Act}{Q:Exit->Act->World->Prop}(D:o.guard=none)(s x:Operand)(t:TypeId)
  (R:o.op=.call {callee:=.builtin .append,args:=#[s,x],argTypes:=#[t,t]})
  (base:Nat) (e:TypeId) (z:Value) (b f:Nat) (T:P.underlying t=some (.slice e)) (l:(P.info? e).map (fun i=>(i.zero,i.size,i.bytes))=some (some z,b,f)) (F:z.cells.size=b) (E:0<b)
  (v:Value) (n:Nat) (G:List Value) (S:a.eval s=v) (q:w.ownsRow base e b v n G)
  (B:Addr) (m c:Nat) (d:List Value) (hx:a.eval x=.slice (some B) m c) (N:d=m*b) (p:∀j u,d[j]? =some u->w.cell? (B.add j)=some u) (H:∀u∈d,u.oneCell' =true)
  (C:n+m<=maxLen) (g:(n+m)*f<=140737488355328) (k:base<=w)
  (h:∀y A,A.ownsRow base e b y (n+m) (G++d)->w.grownBy A v.ownBlock->jD y v.ownBlock w->wpList P r Q rest (a.put o.dst y) A):wpList P r Q (o::rest) a w:=
 wpList_plain D fun _ M=>eM s x t R base e z b f T l F E v n G S q B m c d hx N p H C g k fun y A I K L=>M _ _ (h y A I K L)
theorem jH{w:World}{base a :Nat}{e:TypeId}{b n:Nat}{v:Value}{d:List Value}(h:w.ownsRow base e b v n d)(l:a <=base):w.ownsRow a e b v n d:=by
 refine⟨h.1,?_⟩;rcases h.2 with i|⟨g,c,f,j,k,r⟩
 exact .inl i;exact .inr ⟨g,c,f,j,O,r⟩
theorem bT{w w' :World}{base:Nat}{e:TypeId}{a n:Nat}{v:Value}{b:List Value}(h:w.ownsRow base e a v n b)(c:Below w w w'):w'.ownsRow base e a v n b:=World.ownsRow.kept h (aT c none) (by cases v.ownBlock<;>simp)
structure kT(w:World)(B:Nat)(q:cB):Prop where
 c7:w.ownsRow B 65 4 q.vl q.rs (aG q.rs)
 map:q.rs.map EntR.e=q.s.l
 h6:∀x∈q.rs,jV w B x.v x.e.b
 a7:Own w B 3 q.ve (q.s.a7.map (Value.int .i64))
section
variable{w w' :World}{B:Nat}{q:cB}
theorem kT.a1(h:kT w B q)(a:Below w w w'):kT w' B q:=
 ⟨World.ownsRow.kept h.c7 (aT a none) (by cases q.vl.ownBlock<;>simp),h.map,fun x hx=>(h.h6 x hx).b1 fun k b=>a.block k ((h.h6 x hx).lt k b).2,Own.a1 h.a7 a (lR _)⟩
theorem kT.mono(h:kT w B q){B' :Nat}(a:B' <=B):kT w B' q:=⟨jH h.c7 a,h.map,fun x hx=>(h.h6 x hx).mono a,Own.mono h.a7 a⟩
theorem kT.grown(h:kT w B q){base n:Nat}{v:Value}{l:List Value}(a:w.ownsRow base 106 6 v n l)(d:w.grownBy w' v.ownBlock):kT w' B q:=
 ⟨World.ownsRow.kept h.c7 d (jrow_type_ne h.c7 a δ),h.map,fun x hx=>(h.h6 x hx).b1 fun k f=>d.block k ((h.h6 x hx).lt k f).2 (fun e=>by
  obtain⟨g,cs,m,c,j⟩:=(h.h6 x hx).held;rw[f] at c;injection c with c
  subst c;obtain⟨i,b⟩:=cT a e.symm;rw[j] at b;injection b with b
  injection b with _ h _
  exact absurd h δ),Own.kept h.a7 d (jrow_type_ne h.a7 a δ)⟩
theorem kT.of_sg{G:Nat}{s:aH}{rs:List EntR}{b a:Option Addr}{d c:Nat}{tn:Bool}{e:Value}(h:jL w G s rs (.slice b rs d) (.slice a s.a7 c) e):kT w (G+1) ⟨s,tn,b,d,a,c,rs⟩:=⟨h.c7,h.map,h.h6,h.a7⟩
end
theorem sH(l:List (aH×Bool)):eT l=true↔∀j (h:j+1<l.length),l[j].1.k=l[j+1].1.k-1∧l[j].2=false∧l[j].1.a7≠[]:=by
 induction l with
 |nil=>simp[eT]
 |cons a r ih=>
  cases r with
  |nil=>simp[eT]
  |cons b r=>
   unfold eT;simp only[Bool.and_eq_true,decide_eq_true_eq,ih];constructor;rintro⟨⟨⟨e,f⟩,g⟩,i⟩ j d;cases j with
   |zero=>exact⟨e,by simpa using f,by simpa using g⟩
   |succ j=>exact i j (by simpa using d)
   intro h;have c:=h 0 σ;exact⟨⟨⟨c.1,by simpa using c.2.1⟩,by simpa using c.2.2⟩,fun j d=>h (j+1) (by simpa using d)⟩
def aO7(l:List cB)(j:Nat)(h:j<l):Prop:=(∀h0:0<j,(l[j-1]'O).s.k=l[j].s.k-1)∧(j+1<l->l[j].tn=false∧l[j].s.a7≠[])
theorem aF6(l:List cB):eT (l.map cB.o)=true↔∀j h,aO7 l j h:=by
 rw[sH];constructor;intro h j c;refine⟨fun d=>?_,fun a=>?_⟩;have:=h (j-1) (by rw[lU];omega);simp only[List.getElem_map] at this;have e:j-1+1=j:=O;simp only[e] at this;exact this.1;have:=h j (by rw[lU];exact a);simp only[List.getElem_map] at this;exact⟨this.2.1,this.2.2⟩;intro h j c;rw[lU] at c;simp only[List.getElem_map];have a:=(h (j+1) O).1 O;have b:=(h j O).2 O;exact⟨a,b.1,b.2⟩
structure iY(w:World)(F:Nat->Prop)(ad:Addr)(s:aH):Prop where
 rd:jU w F ad s
 a7:s.a7.length=s.l+1
 len:s.l.length<=1099511627776
 txt:∀e∈s.l,e.b.length<=65535
section
variable{w w' :World}{F F' :Nat->Prop}{ad:Addr}{s t:aH}
theorem iY.b1(h:iY w F ad s)(b:w.heap.size<=w')(a:∀k,F k->w'.heap[k]? =w.heap[k]?):iY w' F ad s:=⟨h.rd.b1 b a,h.a7,h.len,h.txt⟩
theorem iY.mono(h:iY w F ad s)(a:∀k,F k->F' k):iY w F' ad s:=⟨h.rd.mono a,h.a7,h.len,h.txt⟩
theorem jU.cells(h:jU w F ad s):∃b o i c f g a,ad=⟨b,o,none⟩∧F b∧b<w.heap.size∧w.cell? ⟨b,o,none⟩=some (.int .i64 s.k)∧w.cell? ⟨b,o+1,none⟩=some (.int .i64 s.a8)∧w.cell? ⟨b,o+2,none⟩=some (.int .i64 s.c6)∧w.cell? ⟨b,o+3,none⟩=some (.slice i s.l c)∧w.cell? ⟨b,o+4,none⟩=some (.slice g s.a7 a)∧
  (s.l<=c∧c<=maxLen∧s.a7<=a∧a<=maxLen)∧dM w F i (aG f)∧f.map EntR.e=s.l∧(∀q∈f,gQ w F q.v q.e.b)∧dM w F g (s.a7.map (Value.int .i64)):=by
 obtain⟨⟨i,c,f,g,a,m,n,p,r,t,u,x,y,z⟩,B⟩:=h;obtain⟨b,o,e,A,j,d⟩:=m σ;injection e with e
 subst e;exact⟨b,o,i,c,f,g,a,rfl,A,j,d 0 _ rfl,d 1 _ rfl,d 2 _ rfl,d 3 _ rfl,d 4 _ rfl,⟨n,p,r,t⟩,u,x,y,z⟩
theorem jU.b7(h:jU w F ad s)(i:s.l.length<=4611686018427387904):
  Calls Tryz.prog 62 #[.pointer (some ad)] w fun e w' =>e=.returned (.tuple #[.int .i64 s.b7.1,.int .i64 s.b7.2])∧Below w w w' :=by
 obtain⟨b,o,u,m,t,P,S,rfl,U,K,Q,x,y,c,R,_,n,d,p,T⟩:=h.cells;have L:t.length=s.l:=by rw[<-d,lU]
 have A:=h.num.a8;rw[<-L] at c i;rcases mJ t with rfl|⟨r,q,rfl⟩
 ·have g:s.b7=(s.a8-1,s.c6):=by
   unfold aH.b7;rw[<-d];rfl
  rw[g];exact yO b o s.a8 s.c6 u m ⟨A.1,O⟩ w x y c
 rw[mA] at n d p;simp only[mA,lT] at c i;have g:s.b7=(q.e.ix,q.e.tm):=by
  unfold aH.b7;rw[<-d];simp
 rw[g];obtain⟨G,H,rfl,_,I,f⟩:=n (by rw[aN];simp);obtain⟨v,z,N,_⟩:=p q σ;have a:∀j,j<4->(aG (r++[q]))[r.length*4+j]? =(dU q)[j]? :=fun j M=>by
  rw[bM _ (k:=r.length) σ M];simp
 have B:=f (r.length*4+0) _ (a 0 O);have C:=f (r.length*4+1) _ (a 1 O);have D:=f (r.length*4+2) _ (a 2 O);have E:=f (r.length*4+3) _ (a 3 O);exact yP b o r G H m q.e.ix q.e.tm q.e.kd v q.e.b z (by simp at i;omega) w c (by simpa[Nat.add_assoc] using B) (by simpa[Nat.add_assoc] using C) (by simpa[Nat.add_assoc] using D) (by simpa[N,Nat.add_assoc] using E) K I
theorem iY.b2(h:iY w F ad s):Calls Tryz.prog 56 #[.pointer (some ad)] w fun e w' =>e=.returned s.b2∧Below w w w' :=by
 obtain⟨b,o,q,A,I,p,i,rfl,G,B,u,v,y,z,c,_,C,D,E,f⟩:=h.rd.cells;have a:=h.a7;have H:=h.len;rcases mJ s.a7 with m|⟨r,x,d⟩
 rw[m] at a;simp at a;rw[mA] at d;have g:s.b2=x:=by unfold aH.b2;rw[d];simp
 rw[d] at f c a;rw[g];obtain⟨k,l,rfl,_,t,n⟩:=f σ;have j:=n r x σ;rw[lT] at c a;simp at a;exact aF0 b o r k l i x O w c j
theorem iY.nameJ(h:iY w F ad s)(c:aM0 w):Calls Tryz.prog 52 #[.pointer (some ad)] w fun e w' =>e=.returned (.string (bU (aE s.k)))∧Below w w w' :=by
 obtain⟨b,o,f,j,m,d,i,rfl,l,g,a,_⟩:=h.rd.cells;exact jI b o s.k h.rd.num.k w a c
theorem jU.goes{d :Addr}(h:jU w F ad s)(z :jU w F' d t)(D:t.l.length<=4611686018427387904)(c:1<=s.a8):
  Calls Tryz.prog 53 #[.pointer (some ad),.pointer (some d)] w fun e w' =>e=.returned (.bool (s.h0 t))∧Below w w w' :=by
 obtain⟨b,o,L,N,U,K,M,rfl,R,A,B,m,n,_⟩:=h.cells;have q:=J (z.b7 D);obtain⟨a,r⟩:=eX s.a8;obtain⟨I,v⟩:=eX s.c6;obtain⟨i,u⟩:=eX (t.b7.1);obtain⟨H,k⟩:=eX (t.b7.2);have T:1<=a∧a<=9223372036854775806:=ω1 h.num.a8;have y:s.h0 t=(decide (a-1=i)&&decide (I=H)):=by unfold aH.h0;rw[r,v,u,k]
 rw[y];rw[<-r] at m;rw[<-v] at n;rw[<-u,<-k] at q;have E:=J m;have G:=J n;clear r v u k y h z c B m n;have S:IntKind.i64.wrap (a-1)=a-1:=mH _ O;go_enter Tryz.func53,Tryz.ntmps53;go_wp2_with fail;refine q.o.mono ?_;rintro e V ⟨rfl,g⟩;have P:=(g.cell (p:=(b,o+1)) A).trans E.o;have Q:=(g.cell (p:=(b,o+2)) A).trans G.o;have x:=J g;clear g q;by_cases c:a-1=i
 ·have C:(a-1==i)=true:=by simpa using c
  have f:=decide_eq_true c;have j:=J f;clear c f;go_wp2;go_ret;refine⟨?_,x.o⟩;rw[j.o,Bool.true_and];rfl
 have C:(a-1==i)=false:=by simpa using c
 have f:=decide_eq_false c;have j:=J f;clear c f;go_wp2;go_ret;refine⟨?_,x.o⟩;rw[j.o];rfl
end
structure pU(w:World)(F:Nat->Prop)(gj g:Nat)(j:bQ):Prop where
 at_:∃A c ads,aS w gj 53 #[j.c6,j.h7,.slice A j.b0 c,(g,0),j.bad]∧(j.b0.length<=c∧c<=maxLen)∧dM w F A ((ads:List Addr).map fun a=>.pointer (some a))∧ads.length=j.b0∧∀i (h:i<ads.length) (h' :i<j.b0.length),iY w F ads[i] j.b0[i]
 len:j.b0.length<=1099511627776
 num:(I6 j.c6)∧(I6 j.h7)
section
variable{w w' :World}{F F' :Nat->Prop}{gj g:Nat}{j:bQ}
theorem pU.b1(h:pU w F gj g j)(b:w.heap.size<=w')(a:∀k,F k->w'.heap[k]? =w.heap[k]?)(r:w'.heap[gj]? =w.heap[gj]?):pU w' F gj g j:=by
 obtain⟨⟨A,c,d,f,l,m,n,o⟩,p,q⟩:=h;exact⟨⟨A,c,d,r.trans f,l,m.b1 b a,n,fun i h e =>(o i h e).b1 b a⟩,p,q⟩
theorem pU.lt(h:pU w F gj g j):gj<w:=by
 obtain⟨⟨A,c,b,a,_⟩,_⟩:=h;exact a.lt
theorem pU.a1(h:pU w F gj g j)(b:∀k,F k->k<w.heap.size)(a:Below w w w'):pU w' F gj g j:=h.b1 a.size (fun k c=>a.block k (b k c)) (a.block gj h.lt)
theorem pU.meta_(h:pU w F gj g j):Calls Tryz.prog 19 #[(gj,0)] w fun e w' =>e=.returned (.tuple #[j.c6,j.h7])∧Below w w w' :=by
 obtain⟨⟨A,c,b,a,_⟩,_⟩:=h;have d:=a.c 0;have f:=a.c 1;go_enter Tryz.func19,Tryz.ntmps19;go_wp2_with fail;go_quiet (fail);go_wp2;go_ret2;exact⟨rfl,aD (lS _ w) _⟩
theorem pU.base(h:pU w F gj g j):Calls Tryz.prog 20 #[(gj,0)] w fun e w' =>e=.returned (.tuple #[.int .i64 j.base.1,.int .i64 j.base.2])∧Below w w w' :=by
 obtain⟨⟨A,c,H,v,x,l,y,m⟩,z,_⟩:=h;have k:=v.c 2;clear v;unfold bQ.base;rcases hs:j.b0 with _|⟨s,r⟩
 ·rw[hs] at k
  clear x l y m z hs;simp only[List.length_nil] at k;go_enter Tryz.func20,Tryz.ntmps20;go_wp2;go_ret2;exact⟨rfl,lS _ w⟩
 have u:0<j.b0.length:=by rw[hs];simp
 have a:0<H.length:=O;obtain⟨B,C,rfl,_,T,p⟩:=l (by rw[lU];exact a);have d:=m 0 a u;simp only[hs,List.getElem_cons_zero] at d;obtain⟨b,o,M,P,W,L,N,n,R,U,D,E,G,_⟩:=d.rd.cells;have Q:w.cell? (B,C)=some (.pointer (b,o)):=p 0 _ (by rw[List.getElem?_map,lW a,n];rfl);obtain⟨K,t⟩:=eX j.b0.length;rw[<-t] at k u;have V:((K:Int)==0)=false:=by simp;omega
 have I:=d.rd.num.a8;obtain⟨q,f⟩:=eX s.a8;obtain⟨X,i⟩:=eX s.c6;rw[<-f] at E I;rw[<-i] at G;simp only;rw[<-f,<-i];clear x l y m z hs d p n a t D f i;have S:IntKind.i64.wrap (q-1)=q-1:=mH _ O;go_enter Tryz.func20,Tryz.ntmps20;go_wp2_with fail;go_quiet (fail);go_wp2;go_ret2;exact⟨rfl,aD (lS _ w) _⟩
theorem pU.b7(h:pU w F gj g j):Calls Tryz.prog 40 #[(gj,0)] w fun e w' =>e=.returned (.tuple #[.int .i64 j.b7.1,.int .i64 j.b7.2])∧Below w w w' :=by
 obtain⟨⟨A,c,X,E,G,y,H,z⟩,I,_⟩:=h;have d:=E.c 2;clear E;rcases mJ j.b0 with a|⟨r,s,a⟩
 ·have i:j.b7=(0,0):=by unfold bQ.b7;rw[a];rfl
  rw[i];rw[a] at d;clear i G y H z I a;simp only[List.length_nil] at d;go_enter Tryz.func40,Tryz.ntmps40;go_wp2;go_ret2;exact⟨rfl,lS _ w⟩
 rw[mA] at a;have M:j.b0.length=r+1:=by rw[a];simp
 have u:r.length<X:=O;have Q:r.length<j.b0:=O;obtain⟨q,t,rfl,_,Y,C⟩:=y (by rw[lU];omega);have l:=z r u Q;have P:j.b0[r.length]=s:=by simp[a]
 rw[P] at l;obtain⟨b,o,Al,cl,rs,Ae,ce,x,hF,Z,T,U,V,_⟩:=l.rd.cells;have v:w.cell? (q,t+r)=some (.pointer (b,o)):=C r _ (by rw[List.getElem?_map,lW u,x];rfl);have B:=J (fun n=>(l.b1 (w' :=w.drewN n) (lR _) (fun _ _=>rfl)).rd.b7 (ω1 l.len));rw[x] at B;have i:j.b7=s.b7:=by unfold bQ.b7;rw[a];simp
 rw[i];rw[M] at d;obtain⟨n,N⟩:=eX r.length;rw[<-N] at d v;have l4:n<=1099511627776:=O;have hw:IntKind.i64.wrap (((n+1:Nat):Int)-1)=(n:Int):=by rw[mH _ O];omega
 have l5:IntKind.i64.wrap (n:Int)=(n:Int):=mH _ O;have l6:0<=(n:Int)∧(n:Int)<(n:Int)+1:=O;clear G y H z I a l C x u T U V M Q P i N Z;go_enter Tryz.func40,Tryz.ntmps40;go_wp2_with fail;refine wp_region_held_drew (S:=fun W=>W.cell? ⟨gj,2,none⟩=some (.slice (some ⟨q,t,none⟩) (n+1) c)∧W.cell? ⟨q,t+n,none⟩=some (.pointer (some ⟨b,o,none⟩))∧True∧True) κ ⟨d,v,trivial,trivial⟩ (fun f=>?_);refine zT 0 (k:=zT 1 (k:=zT 2 (k:=zT 3 (k:=zT 4 (k:=zT 5 (k:=zT 6 (k:=zT 7 (k:=zT 8 (k:=zT 9 (k:=zT 10 (k:=zT 11 (k:=?_))))))))))));simp only[zA,zB,zF,zG,zC,zD,zE];refine zV 12 (k:=fun K L=>?_);simp only[zA,zB];go_simp;refine(show Calls _ _ _ w.drew _ from B.o 1).mono ?_;rintro e w1 ⟨rfl,D⟩;have m:Below w w w1:=((lS _ w).drew).trans D;have R:=J m;have k0:=(m.cell (p:=(gj,2)) (mI w (gj,2) d)).trans d;have k1:=(m.cell (p:=(q,t+n)) Y).trans v;refine L.out _ _ ⟨k0,k1,trivial,trivial⟩ (fun f=>?_);clear L K D m;try simp only[zF,zG,zC,zD,zE]
 refine zT 13 (k:=zT 14 (k:=zT 15 (k:=zT 16 (k:=?_))));simp only[zA,zB,zF,zG,zC,zD,zE];refine wpAnyH_done κ ?_ _;go_wp2;go_ret2;exact⟨rfl,R.o⟩
end
theorem oI:(Tryz.prog.info? 108).map (fun i=>(i.zero,i.size,i.bytes))=some (some (.pointer none),1,8):=by kernel_rfl
theorem gD(w:World)(e:TypeId)(a:Nat):(w.alloc (.cells #[] e)).ownsRow w e a (.slice (w,0) 0 0) 0 []:=
 ⟨σ,.inr ⟨w,0,#[],rfl,lR _,by show(w.heap.push _)[w.heap.size]? =_;simp,lR _,Nat.zero_le _,σ,σ⟩⟩
theorem zP{w:World}{B:Nat}{b:Addr}{a:List Value}(h:Rd w B (some b) a)(d:0<a.length):∀j u,a[j]? =some u->w.cell? (b.add j)=some u:=by
 obtain⟨f,e,_,c⟩:=h d;injection e with e
 subst e;exact c
theorem kC{P:Program}(w:World)(base:Nat)(t d e:TypeId)(i:TypeInfo)(a:Nat)(b:P.underlying t=some (.slice e))(hi:P.info? e=some i)
  (v:Value) (n:Nat) (f:List Value) (a8:w.ownsRow base e a v n f) (A:Option Addr) (c:Nat):
  (Builtin.append_ #[t,t] d #[v,.slice A 0 c]).run P w=.ok v w:=by
 rcases a8.2 with⟨rfl,rfl⟩|⟨g,cap,d8,rfl,_,_,a9,_⟩
 ·cases A<;>simp[Builtin.append_,run_underlying b,sizeOf,typeInfo,hi,Builtin.lenOf,Builtin.firstCells,loadCells,loadCellsFrom]
 cases A<;>simp[Builtin.append_,run_underlying b,sizeOf,typeInfo,hi,Builtin.lenOf,Builtin.firstCells,a9,storeCells,loadCells,loadCellsFrom]
theorem vA{P:Program}{w:World}{o:Oper}{a:Act}{K:Act->World->Prop}{Q:Exit->Act->World->Prop}(s x:Operand)(t:TypeId)
  (G:o.op=.call {callee:=.builtin .append,args:=#[s,x],argTypes:=#[t,t]})
  (base:Nat) (e:TypeId) (z:Value) (d k:Nat) (I:P.underlying t=some (.slice e)) (L:(P.info? e).map (fun i=>(i.zero,i.size,i.bytes))=some (some z,d,k)) (U:z.cells.size=d) (T:0<d)
  (D:Option Addr) (H:a.eval s=.slice D 0 0) (M:w.ownsRow base e d (.slice D 0 0) 0 [])
  (A:Option Addr) (m c:Nat) (f:List Value) (hx:a.eval x=.slice A m c) (E:f=m*d) (V:0<m->∃p,A=some p∧∀j u,f[j]? =some u->w.cell? (p.add j)=some u) (X:∀u∈f,u.oneCell' =true)
  (N:m<=maxLen) (a8:m*k<=140737488355328) (i4:base<=w)
  (h:∀n l,l.ownsRow base e d n m f->Below w w l ->K (a.put o.dst n) l):o.wp P a w K Q:=by
 obtain⟨i,S,hz,W,l4⟩:=info_parts L;rcases Nat.eq_zero_or_pos m with F|F
 subst F;have hn:=mD (by simpa using E);subst hn;have B:=kC (P:=P) w base t o.type e i d I S _ 0 [] M A c;unfold Oper.wp execOp;simp only[G,resolve,invoke,builtin,Sem.run_bind,Sem.run_pure,Result.andThen_ok,List.map_toArray,mG,List.map_nil,H,hx,B];exact h _ _ M (lS _ _);obtain⟨p,rfl,R⟩:=V F;have i6:D=none->(0:Nat)=0∧(0:Nat)=0:=fun _=>⟨rfl,rfl⟩
 have v:∀n l,l.ownsRow w e d n (0+m) ([]++f)->w.grownBy l none->K (a.put o.dst n) l :=fun n l q C=>by
  rw[Nat.zero_add,List.nil_append] at q;refine h n l ⟨q.1,?_⟩ (fD C);rcases q.2 with Y|⟨g,y,j9,hv,l5,r⟩
  exact .inl Y;exact .inr ⟨g,y,j9,hv,O,r⟩
 cases D with
 |some b=>
  obtain⟨n,l,B,r1,r2⟩:=run_append_arg_grows (P:=P) w t o.type e i z d k I S hz W l4 U T b 0 0 [] σ (fun j u Z=>by simp at Z) p m c f E R O (by rw[Nat.zero_add];exact N) (by rw[Nat.zero_add];exact a8);unfold Oper.wp execOp;simp only[G,resolve,invoke,builtin,Sem.run_bind,Sem.run_pure,Result.andThen_ok,List.map_toArray,mG,List.map_nil,H,hx,B];exact v _ _ r1 r2
 |none=>
  exact eM s x t G w e z d k I L U T (.slice none 0 0) 0 [] H (World.ownsRow_nil _ _ _ _) p m c f hx E R X (by rw[Nat.zero_add];exact N) (by rw[Nat.zero_add];exact a8) (lR _) fun n l q C _=>v n l q C
theorem fW{P:Program}{w:World}{q:Array Oper}{rest:List Oper}{o:Oper}{a:Act}{Q:Exit->Act->World->Prop}(B:o.guard=none)(s x:Operand)(t:TypeId)
  (M:o.op=.call {callee:=.builtin .append,args:=#[s,x],argTypes:=#[t,t]})
  (base:Nat) (e:TypeId) (z:Value) (b f:Nat) (R:P.underlying t=some (.slice e)) (l:(P.info? e).map (fun i=>(i.zero,i.size,i.bytes))=some (some z,b,f)) (E:z.cells.size=b) (C:0<b)
  (D:Option Addr) (N:a.eval s=.slice D 0 0) (p:w.ownsRow base e b (.slice D 0 0) 0 [])
  (A:Option Addr) (m c:Nat) (d:List Value) (hx:a.eval x=.slice A m c) (L:d=m*b) (n:0<m->∃F,A=some F∧∀j u,d[j]? =some u->w.cell? (F.add j)=some u) (G:∀u∈d,u.oneCell' =true)
  (y:m<=maxLen) (g:m*f<=140737488355328) (k:base<=w)
  (h:∀v r,r.ownsRow base e b v m d->Below w w r ->wpList P q Q rest (a.put o.dst v) r):wpList P q Q (o::rest) a w:=
 wpList_plain B fun _ K=>vA s x t M base e z b f R l E C D N p A m c d hx L n G y g k fun v r H I=>K _ _ (h v r H I)
theorem vZ(A:Option Addr)(n c:Nat)(a:List Value)(w:World)(b:Rd w w A a)(hx:a=n*4)(g:∀u∈a,u.oneCell' =true)(B:n<=1099511627776):
  Calls Tryz.prog 113 #[.slice A n c] w fun e l =>∃v,e=.returned v∧l.ownsRow w 65 4 v n a∧Below w w l :=by
 have y:=J b;have i:=J hx;cases A with
 |none=>
  have t:a=[]:=by
   refine Classical.byContradiction fun h=>?_
   obtain⟨d,g,_⟩:=b (List.length_pos_iff.2 h);cases g
  subst t;obtain rfl:n=0:=by simp at hx;omega
  clear b hx;have x:∀W:World,(binOp .eql 40 (.slice none 0 c) (.slice none 0 0)).run Tryz.prog W=.ok (.bool true) W:=fun _=>rfl
  go_enter Tryz.func113,Tryz.ntmps113;go_wp2;go_ret;exact⟨_,rfl,World.ownsRow_nil _ _ _ _,lS _ _⟩
 |some d=>
  have x:∀W:World,(binOp .eql 40 (.slice (some d) n c) (.slice none 0 0)).run Tryz.prog W=.ok (.bool false) W:=fun _=>rfl
  have f:=bA w (.cells #[] 65);have m:=J f;have p:=J (gD w 65 4);have s:=J (b.a1 f);clear b hx f;go_enter Tryz.func113,Tryz.ntmps113;go_wp2_with (at_builtin;refine fW rfl (.tmp 5) (.tmp 6) 40 rfl w.heap.size 65 (.agg #[.int .i64 0,.int .i64 0,.int .i64 0,.slice none 0 0]) 4 48 Tryz.underlying40 dW rfl δ (some ⟨w.heap.size,0,none⟩) rfl p.o (some d) n c a rfl i.o (fun z=>⟨d,rfl,zP s.o (by rw[i.o];omega)⟩) g (by unfold maxLen;omega) O σ ?_;intro C D j k;have q:=J j;have r:=J (m.o.trans (k.mono σ));clear j k);go_ret;exact⟨_,rfl,q.o,r.o⟩
theorem aO0(A:Option Addr)(n c:Nat)(a:List Value)(w:World)(b:Rd w w A a)(hx:a=n*1)(g:∀u∈a,u.oneCell' =true)(B:n<=1099511627776):
  Calls Tryz.prog 114 #[.slice A n c] w fun e l =>∃v,e=.returned v∧l.ownsRow w 3 1 v n a∧Below w w l :=by
 have y:=J b;have i:=J hx;cases A with
 |none=>
  have t:a=[]:=by
   refine Classical.byContradiction fun h=>?_
   obtain⟨d,g,_⟩:=b (List.length_pos_iff.2 h);cases g
  subst t;obtain rfl:n=0:=by simp at hx;omega
  clear b hx;have x:∀W:World,(binOp .eql 41 (.slice none 0 c) (.slice none 0 0)).run Tryz.prog W=.ok (.bool true) W:=fun _=>rfl
  go_enter Tryz.func114,Tryz.ntmps114;go_wp2;go_ret;exact⟨_,rfl,World.ownsRow_nil _ _ _ _,lS _ _⟩
 |some d=>
  have x:∀W:World,(binOp .eql 41 (.slice (some d) n c) (.slice none 0 0)).run Tryz.prog W=.ok (.bool false) W:=fun _=>rfl
  have f:=bA w (.cells #[] 3);have m:=J f;have p:=J (gD w 3 1);have s:=J (b.a1 f);clear b hx f;go_enter Tryz.func114,Tryz.ntmps114;go_wp2_with (at_builtin;refine fW rfl (.tmp 5) (.tmp 6) 41 rfl w.heap.size 3 (.int .i64 0) 1 8 Tryz.underlying41 kX rfl δ (some ⟨w.heap.size,0,none⟩) rfl p.o (some d) n c a rfl i.o (fun z=>⟨d,rfl,zP s.o (by rw[i.o];omega)⟩) g (by unfold maxLen;omega) O σ ?_;intro C D j k;have q:=J j;have r:=J (m.o.trans (k.mono σ));clear j k);go_ret;exact⟨_,rfl,q.o,r.o⟩
theorem wC(A:Option Addr)(n c:Nat)(a:List Value)(w:World)(b:Rd w w A a)(hx:a=n*1)(g:∀u∈a,u.oneCell' =true)(B:n<=1099511627776):
  Calls Tryz.prog 59 #[.slice A n c] w fun e l =>∃v,e=.returned v∧l.ownsRow w 108 1 v n a∧Below w w l :=by
 have y:=J b;have i:=J hx;cases A with
 |none=>
  have t:a=[]:=by
   refine Classical.byContradiction fun h=>?_
   obtain⟨d,g,_⟩:=b (List.length_pos_iff.2 h);cases g
  subst t;obtain rfl:n=0:=by simp at hx;omega
  clear b hx;have x:∀W:World,(binOp .eql 49 (.slice none 0 c) (.slice none 0 0)).run Tryz.prog W=.ok (.bool true) W:=fun _=>rfl
  go_enter Tryz.func59,Tryz.ntmps59;go_wp2;go_ret;exact⟨_,rfl,World.ownsRow_nil _ _ _ _,lS _ _⟩
 |some d=>
  have x:∀W:World,(binOp .eql 49 (.slice (some d) n c) (.slice none 0 0)).run Tryz.prog W=.ok (.bool false) W:=fun _=>rfl
  have f:=bA w (.cells #[] 108);have m:=J f;have p:=J (gD w 108 1);have s:=J (b.a1 f);clear b hx f;go_enter Tryz.func59,Tryz.ntmps59;go_wp2_with (at_builtin;refine fW rfl (.tmp 5) (.tmp 6) 49 rfl w.heap.size 108 (.pointer none) 1 8 Tryz.underlying49 oI rfl δ (some ⟨w.heap.size,0,none⟩) rfl p.o (some d) n c a rfl i.o (fun z=>⟨d,rfl,zP s.o (by rw[i.o];omega)⟩) g (by unfold maxLen;omega) O σ ?_;intro C D j k;have q:=J j;have r:=J (m.o.trans (k.mono σ));clear j k);go_ret;exact⟨_,rfl,q.o,r.o⟩
def bB5(w:World)(A:Option Addr)(vs:List Value)(k:Nat):Prop:=0<vs.length->∃g cur,A=some ⟨g,0,none⟩∧aS w g 65 cur∧vs*4<=cur.size∧∀j (h:j<vs.length),k<=j->cur[j*4+3]? =some vs[j]
def ovMine(A:Option Addr)(vs:List Value)(k:Nat):Prop:=(0<vs.length∧∃ad,A=some ad∧ad.block=k)∨∃v∈vs,v.ownBlock=some k
theorem aF1(A:Option Addr)(vs:List Value)(c base:Nat)(w:World)(X:bB5 w A vs 0)(a8:∀v∈vs,eU w base v)(hl:vs.length<=4611686018427387904):
  Calls Tryz.prog 44 #[.slice A vs c] w fun e w' =>(∃v,e=.returned v)∧Fr (ovMine A vs) w w' :=by
 have T:=J X;have Z:=J a8;clear X a8;go_enter Tryz.func44,Tryz.ntmps44;go_wp2_with fail;go_loopw [2] (fun L wr=>∃k:Nat,k<=vs∧L=.int .i64 k∧Hq (bB5 wr A vs k)∧Hq (∀v∈vs,eU wr base v)∧Hq (Fr (ovMine A vs) w wr)) (fun L _=>vs.length-(intOf L).toNat)
 case atStart=>exact⟨0,O,rfl,T,Z,J (Fr.refl _ _)⟩
 obtain⟨k,hk,rfl,l8,F,E⟩:=hrel;clear T Z;by_cases z:k<vs;rotate_left
 ·go_wp2
  go_end0;exact⟨⟨_,rfl⟩,E.o⟩
 obtain⟨g,n9,rfl,t,p4,P⟩:=l8.o O;have o8:=t.lt;obtain⟨v,I⟩:=eX (vs[k]);have R:v∈vs:=by rw[I];exact lX z
 have a8:=F.o v R;obtain⟨d,m,f,rfl⟩:∃d m f,v=.slice d m f:=by
  rcases a8 with e|⟨B,n,s,_,e,_⟩
  exact⟨_,_,_,e⟩;exact⟨_,_,_,e⟩
 have c3:wr.cell? (g,k*4+3)=some (.slice d m f):=by rw[t.cell,P k z (lR _),<-I]
 have m6:(Value.slice d m f).ownBlock≠some g:=fun e=>by
  rcases a8 with q |⟨B,n,s,i4,q,_,M,_⟩
  rw[q] at e;cases e;rw[q] at e;have C:B =g:=by simpa[Value.ownBlock] using e
  subst C;exact blk_ne M t δ rfl
 have W:=a8.lt;have m7:=cS wr 34 [.slice d m f];have V:=aX8 (wr,0) [.slice d m f] 1 1 (wr.heap.size+1) base rfl _ m7 (by intro x hx;obtain rfl:=lY.1 hx;exact a8.alloc _)
  (fun a b ha r H=>absurd (by have C:a<1:=ha;have h2:b<1:=r;omega) H) (by rintro ad K x hx;obtain rfl:=lY.1 hx;injection K with K;subst K;intro h;have h2:wr.heap.size<wr:=W _ h;omega) σ
 have U:=J V;have S:=J t;have n5:=J m6;have m8:=J P;have n8:=J R;clear V m7 t m6 P I R a8 W;go_wp2_with fail;refine U.o.mono ?_;rintro e D ⟨rfl,l,_⟩;have N:=(lS wr wr).alloc (lR _) (.cells #[.slice d m f] 34);have p:aS D g 65 n9:=(l.block g (by intro x hx;obtain rfl:=lY.1 hx;exact n5.o)).trans ((N.block g o8).trans S.o);have m5:=fun x hx=>((F.o x hx).alloc _).kept l
 have m3:=E.o.trans (Fr.b9 (fun _=>False) N) (fun j i=>i.elim)|>.trans (mine' :=fun j=>(Value.slice d m f).ownBlock=some j) ⟨l.os,l.tape,l.output,by rw[l.size];exact lR _,fun j _ hn=>l.block j (by intro x hx;obtain rfl:=lY.1 hx;exact hn)⟩ (fun j i=>.inl (.inr ⟨_,n8.o,i⟩))
 have y:∀j,j<4->∃u,D.cell? ⟨g,k*4+j,none⟩=some u:=fun j i=>by
  rw[p.cell];exact⟨_,Array.getElem?_eq_getElem O⟩
 obtain⟨u0,z0⟩:=y 0 O;obtain⟨u1,z1⟩:=y 1 O;obtain⟨u2,z2⟩:=y 2 O;obtain⟨u3,z3⟩:=y 3 O;rw[Nat.add_zero] at z0;have f0:=p.a6 (k*4);have f1:=p.a6 (k*4+1);have f2:=p.a6 (k*4+2);have f3:=p.a6 (k*4+3);have o9:(k:Int)<(vs:Int):=O;have Y:=J p;have G:=J m5;have m9:=J m3;clear l p m5 m3 y N U S l8 F E;go_wp2_with fail;have Q:=aF (aF (aF (aA D g (k*4) (.int .i64 (-7))) (aA _ g (k*4+1) (.int .i64 0)) (.inl rfl)) (aA _ g (k*4+2) (.int .i64 0)) (.inl rfl)) (aA _ g (k*4+3) (.slice none 0 0)) (.inl rfl);have l9:=(((Y.o.b8 (k*4) (.int .i64 (-7))).b8 (k*4+1) (.int .i64 0)).b8 (k*4+2) (.int .i64 0)).b8 (k*4+3) (.slice none 0 0);obtain⟨w2,p5⟩:=eX (((((D.setCell (g,k*4) (.int .i64 (-7))).setCell (g,k*4+1) (.int .i64 0)).setCell (g,k*4+2) (.int .i64 0)).setCell (g,k*4+3) (.slice none 0 0)));rw[<-p5] at Q l9⊢;refine⟨⟨k+1,O,by go_num,J (fun _=>⟨g,_,rfl,l9,by simpa using p4,fun j i hkj=>?_⟩),J (fun x hx=>(G.o x hx).b1 (fun b r=>Q.block b ((G.o x hx).lt b r) (fun e=>?_))),J (m9.o.trans (Fr.e2 (mine:=fun j=>j=g) Q (fun j e=>by injection e with e;exact e.symm)) (fun j i=>.inl (.inl ⟨O,_,rfl,i.symm⟩)))⟩,by simp[intOf];omega⟩;rw[Array.getElem?_setIfInBounds_ne O,Array.getElem?_setIfInBounds_ne O,Array.getElem?_setIfInBounds_ne O,Array.getElem?_setIfInBounds_ne O];exact m8.o j i O;injection e with e
 subst e;rcases G.o x hx with q |⟨B,n,s,i4,q,_,M,_⟩
 rw[q] at r;cases r;rw[q] at r;have C:B =b:=by simpa[Value.ownBlock] using r
 subst C;exact blk_ne M Y.o δ rfl
theorem bI1{w W:World}{base n c:Nat}{A:Option Addr}{rs:List EntR}(h:w.ownsRow base 65 4 (.slice A n c) rs (aG rs))(x:∀q∈rs,Bs w base q.v q.e.b)(u:Below w w W):
  bB5 W A (rs.map EntR.v) 0∧(∀v∈rs.map EntR.v,eU W base v)∧∀k,ovMine A (rs.map EntR.v) k->base<=k∧k<w.heap.size:=by
 obtain⟨D,E,e,_,_,t⟩:=aK h;injection e with e1 _ _
 subst e1;refine⟨fun d=>?_,fun v p=>?_,fun k f=>?_⟩;rw[lU] at d;obtain⟨g,i,rfl,r,l,B,F,s⟩:=t d;have m:aS w g 65 i:=B;refine⟨g,i,rfl,m.a1 u l,?_,fun j y _=>?_⟩;rw[lU];have a:=s (rs.length*4-1) ((aG rs)[rs.length*4-1]'(by rw[aN];omega)) (lW (by rw[aN];omega));rw[m.cell] at a;omega;rw[lU] at y;have a:=s (j*4+3) rs[j].v (by rw[bM rs y O];rfl);rw[m.cell] at a;rw[a,List.getElem_map];obtain⟨q,o,rfl⟩:=mF.1 p;have a:=eU.e1 (x q o);exact a.b1 (fun g C=>u.block g (a.lt g C));rcases f with⟨d,ad,e,rfl⟩|⟨v,p,f⟩
 rw[lU] at d;obtain⟨g,i,z,r,l,_⟩:=t d;rw[z] at e;injection e with e
 subst e;exact⟨r,l⟩;obtain⟨q,o,rfl⟩:=mF.1 p;have a:=eU.e1 (x q o);exact⟨a.base k f,a.lt k f⟩
theorem aW5(ix tm kd:Int)(b:Option Addr)(n c:Nat)(w:World):
  Calls Tryz.prog 112 #[.agg #[ix,tm,kd,.slice b n c]] w fun e i =>e=.returned (.bool (decide (65535<n)))∧Below w w i :=by
 obtain⟨k,a⟩:=eX (w.alloc (.cells #[ix,tm,kd,.slice b n c] 65));have d:=bN a;have f:=kN a;have j:=f.c 3;have h:=J a;have g:=J d;clear a d f;go_enter Tryz.func112,Tryz.ntmps112;go_upto_region 1 with fail
 rw[<-h.o];go_wp2;go_ret;exact⟨θ,g.o⟩
theorem bG7{F:Nat->Prop}(A:Option Addr)(rs:List EntR)(c:Nat)(w:World)(H:dM w F A (aG rs))(E:∀k,F k->k<w.heap.size)(I:∀q∈rs,∃j l,q.v=.slice j q.e.b l)(V:rs.length<=1099511627776):
  Calls Tryz.prog 156 #[.slice A rs c,.func (.func 112) #[] #[]] w fun e w' =>(∃r:Int,e=.returned r∧decide (0<=r)=rs.any fun q=>decide (65535<q.e.b.length))∧Below w w w' :=by
 have L:=J H;have K:=J E;have M:=J I;clear H E I;go_enter Tryz.func156,Tryz.ntmps156;go_wp2_with fail;go_loopw [8,5] (fun i _ wr=>∃k:Nat,k<=rs∧i=.int .i64 k∧Hq ((rs.take k).any (fun q=>decide (65535<q.e.b.length))=false)∧Hq (Below w w wr)) (fun i _ _=>rs.length-(intOf i).toNat)
 case atStart=>exact⟨0,O,rfl,J rfl,J (lS _ _)⟩
 obtain⟨k,G,rfl,u,f⟩:=hrel;by_cases a:k<rs;rotate_left
 ·obtain rfl:k=rs:=O
  go_wp2;go_ret;have D:=u.o;rw[List.take_length] at D;refine⟨⟨_,rfl,?_⟩,f.o⟩;rw[D];decide
 have C:=L.o.b1 f.o.size (fun k G=>f.o.block k (K.o k G));obtain⟨m,n,rfl,_,W,h⟩:=C (by rw[aN];omega);have g:∀i,i<4->(aG rs)[k*4+i]? =(dU rs[k])[i]? :=fun i S=>bM _ a S
 obtain⟨j,l,s⟩:=M.o rs[k] (lX a);have t:rs.take (k+1)=rs.take k++[rs[k]]:=by
  rw[List.take_add_one,lW a];rfl
 obtain⟨q,d⟩:=eX (rs[k]);rw[<-d] at t s;have N:wr.cell? (m,n+k*4)=some (.int .i64 q.e.ix):=h (k*4+0) _ (by rw[g 0 O,<-d];rfl);have P:wr.cell? (m,n+k*4+1)=some (.int .i64 q.e.tm):=h (k*4+1) _ (by rw[g 1 O,<-d];rfl);have Q:wr.cell? (m,n+k*4+2)=some (.int .i64 q.e.kd):=h (k*4+2) _ (by rw[g 2 O,<-d];rfl);have R:wr.cell? (m,n+k*4+3)=some (.slice j q.e.b l):=h (k*4+3) _ (by rw[g 3 O,<-d,<-s];rfl);have z:=J t;have U:=J (show rs=rs.take (k+1)++rs.drop (k+1) from(List.take_append_drop _ _).symm);have x:=J (aW5 q.e.ix q.e.tm q.e.kd j q.e.b l wr);clear t d g s C h;go_wp2_with fail;refine x.o.mono ?_;rintro e X ⟨rfl,B⟩;have y:=J (f.o.trans (B.mono f.o.size));clear B x N P Q R;by_cases e:65535<q.e.b.length
 ·have p:=J e
  have T:=decide_eq_true e;clear e;go_wp2;go_ret;refine⟨⟨_,rfl,?_⟩,y.o⟩;rw[U.o,z.o];simp[p.o]
 have p:=J e;have T:=decide_eq_false e;clear e;go_wp2;go_roundw
 case rel=>exact⟨k+1,O,by go_num,J (by rw[z.o,List.any_append,u.o];simpa using p.o),y⟩
 case measure=>simp[intOf];omega
theorem aW3{F:Nat->Prop}(A:Option Addr)(rs:List EntR)(c:Nat)(w:World)(a:dM w F A (aG rs))(f:∀k,F k->k<w.heap.size)(h:∀q∈rs,∃Av cd,q.v=.slice Av q.e.b cd)(l:rs.length<=1099511627776):
  Calls Tryz.prog 111 #[.slice A rs c,.func (.func 112) #[] #[]] w fun e w' =>e=.returned (.bool (rs.any fun q=>decide (65535<q.e.b.length)))∧Below w w w' :=by
 have d:=J (bG7 A rs c w a f h l);clear a f h;go_enter Tryz.func111,Tryz.ntmps111;go_wp2_with fail;refine d.o.mono ?_;rintro e m ⟨⟨r,rfl,a⟩,g⟩;have j:=J a;have i:=J g;clear a g d;go_wp2;go_ret;exact⟨by rw[j.o];rfl,i.o⟩
def xC(base:Int)(e:cD)(last:Int)(prev:Option Int):Bool:=decide (e.ix<=base)||decide (last<e.ix-1)||decide (e.ix=bL)||(match prev with|none=>false|some p=>decide (e.ix-1≠p))||decide (e.tm<0)||decide (e.kd<0)
theorem qO(base:Int)(e:cD)(r:List cD)(a:Int)(b:Option Int):gV base (e::r) a b=(! xC base e a b&&gV base r e.ix (some e.ix)):=rfl
def iJ(L:List cD)(k:Nat):Option Int:=if k=0 then none else(L[k-1]?).map cD.ix
theorem zN{L:List cD}{k:Nat}(h:k<L):iJ L (k+1)=some L[k].ix:=by
 unfold iJ;rw[if_neg O,Nat.add_sub_cancel,lW h];rfl
theorem bQ.k3{w:World}{F:Nat->Prop}{gj g:Nat}{j:bQ}(h:pU w F gj g j):-1<=j.base.1∧j.base.1<=9223372036854775807:=by
 unfold bQ.base;rcases hs:j.b0 with _|⟨s,r⟩
 simp;obtain⟨⟨A,c,e,f,i,k,l,d⟩,m,_⟩:=h;have b:0<j.b0.length:=by rw[hs];simp
 have a:=d 0 O b;simp only[hs,List.getElem_cons_zero] at a;have:=a.rd.num.a8;simp only;omega
theorem bQ.last_low{w:World}{F:Nat->Prop}{gj g:Nat}{j:bQ}(h:pU w F gj g j):-9223372036854775808<=j.b7.1∧j.b7.1<=9223372036854775807:=by
 unfold bQ.b7;rcases mJ j.b0 with a|⟨r,s,a⟩
 rw[a];simp;rw[mA] at a;obtain⟨⟨A,c,k,m,n,o,p,i⟩,q,_⟩:=h;have t:j.b0.length=r.length+1:=by rw[a];simp
 have d:=i r.length (by omega) (by omega);simp only[a,List.getElem_concat_length] at d;rw[a];simp only[List.getLast?_append,List.getLast?_singleton,Option.some_or];unfold aH.b7;have f:=d.rd.num;rcases mJ s.l with b|⟨u,e,b⟩
 ·rw[b]
  have:=f.a8;simp only[List.getLast?_nil];omega
 rw[mA] at b;have:=f.l0 e (by rw[b];simp);rw[b];simp only[List.getLast?_append,List.getLast?_singleton,Option.some_or];omega
theorem bQ1{E F:Nat->Prop}{gj g:Nat}{j:bQ}{w:World}(h:pU w F gj g j)(D0:∀k,F k->k<w.heap.size)(A:Option Addr)(rs:List EntR)(c:Nat)(hr:dM w E A (aG rs))(hE:∀k,E k->k<w.heap.size)(hv:∀q∈rs,∃Av cd,q.v=.slice Av q.e.b cd)(hl:rs.length<=1099511627776)
  (m8:∀q∈rs,(I6 q.e.ix)∧(I6 q.e.tm)∧(I6 q.e.kd)):
  Calls Tryz.prog 58 #[(gj,0),.slice A rs c] w fun e y =>e=.returned (.int .i64 (nG j (rs.map EntR.e)))∧Below w w y :=by
 have f9:=J h.base;have j6:=J fun y (hb:Below w w y)=>(h.a1 D0 hb).b7
 have D9:=bQ.k3 h;have B9:=bQ.last_low h;obtain⟨L,hL⟩:=eX (rs.map EntR.e);obtain⟨G,o8⟩:=eX (j.base.1);obtain⟨bt,D3⟩:=eX (j.base.2);obtain⟨la,p4⟩:=eX (j.b7.1);obtain⟨lt,D⟩:=eX (j.b7.2);obtain⟨an,B1⟩:=eX (L.any fun e=>decide (65535<e.b.length));obtain⟨mr,l4⟩:=eX (gV G L la none);have D4:nG j (rs.map EntR.e)=if mr=false then 1 else if an=true then 2 else 0:=by rw[l4,B1,hL,o8,p4];rfl
 rw[D4];have C2:=J B1;have C6:=J l4;rw[<-o8,<-D3] at f9;rw[<-o8] at D9;rw[<-p4] at B9;have g8:Hq (∀y,Below w w y ->Calls Tryz.prog 40 #[(gj,0)] y fun e w2=>e=.returned (.tuple #[la,lt])∧Below y y w2):=J (fun y hb=>by rw[p4,D];exact j6.o y hb);have HR:=J hr;have HE:=J hE;have HV:=J hv;have l8:=J m8;have HL:=J hL;have D1:L.length=rs:=by rw[hL,lU]
 have S:=J D1;clear h hr hE hv m8 hL o8 D3 p4 D D4 j6 D1 D0 B1 l4;go_enter Tryz.func58,Tryz.ntmps58;go_wp2_with fail;refine f9.o.mono ?_;rintro e w1 ⟨rfl,B6⟩;have j9:=J B6;have C5:=J (g8.o w1 B6);clear B6 f9 g8;go_wp2_with fail;refine C5.o.mono ?_;rintro e w2 ⟨rfl,m7⟩;have C3:=J (j9.o.trans (m7.mono j9.o.size));clear m7 C5 j9;go_wp2_with fail;go_loopw [27,7,9,10] (fun i lv _ _ wr=>∃(k:Nat) (l:Int),k<=rs∧i=.int .i64 k∧lv=.int .i64 l∧(I6 l)∧Hq (gV G L la none=gV G (L.drop k) l (iJ L k))∧Hq (∀p,iJ L k=some p->p=l)∧Hq (Below w w wr)) (fun i _ _ _ _=>rs.length-(intOf i).toNat)
 case atStart=>exact⟨0,la,O,rfl,rfl,B9,J rfl,J (fun p Q=>by cases Q),C3⟩
 obtain⟨k,l,P,rfl,rfl,E9,n8,q8,u⟩:=hrel;clear C3;by_cases D:k<rs;rotate_left
 ·obtain rfl:k=rs:=O
  have X:mr=true:=by rw[C6.o,n8.o,List.drop_eq_nil_of_le (by rw[S.o];exact lR _)];rfl
  subst X;have B7:=aW3 A rs c wr (HR.o.b1 u.o.size (fun k P=>u.o.block k (HE.o k P))) (fun k P=>ω2 (HE.o k P) u.o.size) HV.o hl;have m3:(rs.any fun q=>decide (65535<q.e.b.length))=L.any fun e=>decide (65535<e.b.length):=by rw[HL.o,List.any_map];rfl
  rw[m3,<-C2.o] at B7;have C4:=J B7;clear B7 m3 n8 q8 C2;go_wp2_with fail;refine C4.o.mono ?_;rintro e w2 ⟨rfl,m7⟩;have Z:=J (u.o.trans (m7.mono u.o.size));clear m7 C4;cases an with
  |true=>
   go_wp2;go_ret;exact⟨rfl,Z.o⟩
  |false=>
   go_wp2;go_ret;exact⟨rfl,Z.o⟩
 have D8:=HR.o.b1 u.o.size (fun k P=>u.o.block k (HE.o k P));obtain⟨H,I,rfl,_,E5,N⟩:=D8 (by rw[aN];omega);have m5:∀i,i<4->(aG rs)[k*4+i]? =(dU rs[k])[i]? :=fun i hi=>bM _ D hi
 obtain⟨Av,cd,C1⟩:=HV.o rs[k] (lX D);have C0:=l8.o rs[k] (lX D);have t9:L[k]'(by rw[S.o];exact D)=rs[k].e:=by simp only[HL.o,List.getElem_map]
 have j8:0<k->∃cs,wr.cell? (H,I+(k-1)*4)=some (.int .i64 l)∧iJ L k=some l∧cs=():=fun V=>by
  have s:k-1<rs:=O;have K:=N ((k-1)*4+0) _ (by rw[bM _ s O];rfl);have x:iJ L k=some rs[k-1].e.ix:=by
   unfold iJ;rw[if_neg O,lW (by rw[S.o];exact s)];simp only[HL.o,List.getElem_map,Option.map_some]
  have M:=q8.o _ x;rw[M] at K x;exact⟨(),K,x,rfl⟩
 have p9:=J j8;have B8:L.drop k=rs[k].e::L.drop (k+1):=by rw[<-t9];exact List.drop_eq_getElem_cons (by rw[S.o];exact D)
 have m9:iJ L (k+1)=some rs[k].e.ix:=by rw[zN (by rw[S.o];exact D),t9]
 obtain⟨q,R⟩:=eX (rs[k]);rw[<-R] at C1 C0 B8 m9;obtain⟨t,T⟩:=eX q.e.ix;obtain⟨tm,p5⟩:=eX q.e.tm;obtain⟨Y,o9⟩:=eX q.e.kd;obtain⟨nb,D6⟩:=eX q.e.b.length;have e0:wr.cell? (H,I+k*4)=some (.int .i64 t):=N (k*4+0) _ (by rw[m5 0 O,<-R,T];rfl);have e1:wr.cell? (H,I+k*4+1)=some (.int .i64 tm):=N (k*4+1) _ (by rw[m5 1 O,<-R,p5];rfl);have e2:wr.cell? (H,I+k*4+2)=some (.int .i64 Y):=N (k*4+2) _ (by rw[m5 2 O,<-R,o9];rfl);have e3:wr.cell? (H,I+k*4+3)=some (.slice Av nb cd):=N (k*4+3) _ (by rw[m5 3 O,<-R,D6,<-C1];rfl);obtain⟨B,W⟩:=eX (xC G q.e l (iJ L k));have D5:gV G L la none=(! B&&gV G (L.drop (k+1)) t (iJ L (k+1))):=by rw[n8.o,B8,qO,<-W,m9,T]
 unfold xC at W;rw[<-T,<-p5,<-o9] at W;rw[<-T,<-p5,<-o9] at C0;rw[<-T] at m9;have i4:=J D5;have d:=J W;have C7:=J m9;obtain⟨f,p6⟩:=eX (wr.alloc (.cells #[t,tm,Y,.slice Av nb cd] 65));have s9:=bN p6;have C9:=kN p6;have n5:=J C9;have C8:=J p6;have p8:=J (u.o.trans (s9.mono u.o.size));have n:=J (show 0<k->f.cell? (H,I+(k-1)*4)=some (.int .i64 l) from fun V=>by
  obtain⟨_,s,_,_⟩:=p9.o V;exact(s9.cell (p:=(H,I+(k-1)*4)) E5).trans s)
 have r:=J (show(0<k->iJ L k=some l)∧(¬0<k->iJ L k=none) from⟨fun V=>by obtain⟨_,_,s,_⟩:=p9.o V;exact s,fun V=>by unfold iJ;rw[if_pos O]⟩);clear D8 N m5 C1 t9 j8 B8 m9 R T p5 o9 D6 W D5 p6 s9 C9 p9 n8 q8;go_upto_region 6 with fail
 rw[<-C8.o];obtain⟨l9,U⟩:=eX wr.heap.size;have f0:f.cell? (l9,0)=some (.int .i64 t):=by rw[U];exact n5.o.cell 0
 have f1:f.cell? (l9,1)=some (.int .i64 tm):=by rw[U];exact n5.o.cell 1
 have f2:f.cell? (l9,2)=some (.int .i64 Y):=by rw[U];exact n5.o.cell 2
 rw[<-U];clear U e0 e1 e2 e3 C8 n5;go_cut [73] from 32 to 73 (fun c wx=>c=.bool B∧Hq (Below f f wx))
 case first=>
  clear l8 HL S HR HE HV u i4 C7 p8 B9;by_cases s:t<=G
  ·have d1:=decide_eq_true s
   have a:Hq (B=true):=J (by rw[d.o];simp[s]);clear d r n;go_big_quiet (fail);go_wp2;go_meet;exact⟨by first|(rw[a.o];done)|(rw[a.o];rfl),J (aD (lS _ f) _)⟩
  have d1:=decide_eq_false s;have G0:IntKind.i64.wrap (t-1)=t-1:=mH _ O;by_cases K:l<t-1
  ·have d2:=decide_eq_true K
   have a:Hq (B=true):=J (by rw[d.o];simp[K]);clear d r n;go_big_quiet (fail);go_wp2;go_meet;exact⟨by first|(rw[a.o];done)|(rw[a.o];rfl),J (aD (lS _ f) _)⟩
  have d2:=decide_eq_false K;by_cases x:t=9223372036854775807
  ·have d3:=beq_iff_eq.2 x
   have a:Hq (B=true):=J (by rw[d.o];simp[x,bL]);clear d r n x;go_big_quiet (fail);go_wp2;go_meet;exact⟨by first|(rw[a.o];done)|(rw[a.o];rfl),J (aD (lS _ f) _)⟩
  have d3:=mN.2 x;by_cases M:0<k;rotate_left
  ·have d4:=decide_eq_false M
   have n9:=J (r.o.2 M);by_cases z:tm<0
   ·have d6:=decide_eq_true z
    have a:Hq (B=true):=J (by rw[d.o];simp[z]);clear d r n;go_big_quiet (fail);go_wp2;go_meet;exact⟨by first|(rw[a.o];done)|(rw[a.o];rfl),J (aD (lS _ f) _)⟩
   have d6:=decide_eq_false z;by_cases C:Y<0
   ·have d7:=decide_eq_true C
    have a:Hq (B=true):=J (by rw[d.o];simp[C]);clear d r n;go_big_quiet (fail);go_wp2;go_meet;exact⟨by first|(rw[a.o];done)|(rw[a.o];rfl),J (aD (lS _ f) _)⟩
   have d7:=decide_eq_false C;have a:Hq (B=false):=J (by rw[d.o];rw[n9.o];simp[s,K,x,z,C,bL]);clear d r n;go_big_quiet (fail);go_wp2;go_meet;exact⟨by first|(rw[a.o];done)|(rw[a.o];rfl),J (aD (lS _ f) _)⟩
  have d4:=decide_eq_true M;have D7:=r.o.1 M;have E7:=n.o M;obtain⟨m,X⟩:∃m,k=m+1:=⟨k-1,O⟩
  rw[show k-1=m by omega] at E7;have n9:=J D7;have E8:(k:Int)-1=(m:Int):=O;have G2:IntKind.i64.wrap (m:Int)=(m:Int):=mH _ O;have E6:(m:Int)<(rs:Int):=O;clear D7 X;by_cases h5:t-1=l;rotate_left
  ·have d5:=bne_iff_ne.2 h5
   have a:Hq (B=true):=J (by rw[d.o];rw[n9.o];simp[h5]);clear d r n;go_big_quiet (fail);go_wp2;go_meet;exact⟨by first|(rw[a.o];done)|(rw[a.o];rfl),J (aD (lS _ f) _)⟩
  have d5:(t-1 !=l)=false:=by rw[bne_eq_false_iff_eq];exact h5
  by_cases z:tm<0
  ·have d6:=decide_eq_true z
   have a:Hq (B=true):=J (by rw[d.o];simp[z]);clear d r n;go_big_quiet (fail);go_wp2;go_meet;exact⟨by first|(rw[a.o];done)|(rw[a.o];rfl),J (aD (lS _ f) _)⟩
  have d6:=decide_eq_false z;by_cases C:Y<0
  ·have d7:=decide_eq_true C
   have a:Hq (B=true):=J (by rw[d.o];simp[C]);clear d r n;go_big_quiet (fail);go_wp2;go_meet;exact⟨by first|(rw[a.o];done)|(rw[a.o];rfl),J (aD (lS _ f) _)⟩
  have d7:=decide_eq_false C;have a:Hq (B=false):=J (by rw[d.o];rw[n9.o];simp[s,x,z,C,bL,h5]);clear d r n;go_big_quiet (fail);go_wp2;go_meet;exact⟨by first|(rw[a.o];done)|(rw[a.o];rfl),J (aD (lS _ f) _)⟩
 obtain⟨rfl,p7⟩:=hcut;have m6:=mI f (l9,0) f0;have g0:=(p7.o.cell (p:=(l9,0)) m6).trans f0;have Z:=J (p8.o.trans (p7.o.mono p8.o.size));clear f0 f1 f2 p7 d n;cases B with
 |true=>
  have X:mr=false:=by rw[C6.o,i4.o];rfl
  subst X;clear i4;go_wp2;go_ret;exact⟨rfl,Z.o⟩
 |false=>
  go_wp2;go_roundw
  case rel=>exact⟨k+1,t,O,by go_num,rfl,C0.1,J (by rw[i4.o];rfl),J (fun p Q=>by rw[C7.o] at Q;injection Q with Q;exact Q.symm),Z⟩
  case measure=>simp[intOf];omega
theorem gN(k:Int)(a:I6 k)(w:World):
  Calls Tryz.prog 88 #[k] w fun e d =>e=.returned (.string (bU (aE k)))∧Below w w d :=by
 have b:=J (bJ9 k a w);have g:(bU (Lib.itoa k)).size<=21:=by
  have:=Lib.itoa_length_le k a.1 a.2;show(Lib.itoa k).toArray.size<=21
  simpa using this
 clear a;go_enter Tryz.func88,Tryz.ntmps88;go_wp2_with fail;refine b.o.mono ?_;rintro e d ⟨rfl,c⟩;have f:=J c;clear c b;go_wp2;go_ret;refine⟨?_,f.o⟩;have e:(⟨#[106]⟩:ByteArray)++bU (Lib.itoa k)=bU (aE k):=by
  apply WideShapes.bytes_inj;simp[bU,aE]
 rw[<-e];rfl
theorem aK3(s:ByteArray)(T:s.size<=140737488351232)(w:World):
  Calls Tryz.prog 136 #[.string s] w fun e S =>e=.returned (.int .i64 (qK s.data.toList))∧Below w w S :=by
 obtain⟨R,k⟩:=eX (qK s.data.toList);rw[<-k];by_cases l:s.size<2∨10<s.size
 ·have P:R=0:=by
   rw[k];have y:=rP s;rcases hd:s.data.toList with _|⟨c,r⟩
   rfl;rw[hd,mC] at y;rw[rH,if_pos O]
  subst P;clear k;go_enter Tryz.func136,Tryz.ntmps136;rcases l with l|l
  ·go_wp2
   go_ret;exact⟨rfl,lS _ _⟩
  go_wp2;go_ret;exact⟨rfl,lS _ _⟩
 have V:2<=s.size:=O;have U:s.size<=10:=O;clear l;obtain⟨d,r,i⟩:∃d r,s.data.toList=d::r:=by
  rcases e:s.data.toList with _|⟨a,b⟩
  exfalso;have y:=rP s;rw[e,List.length_nil] at y;omega;exact⟨a,b,rfl⟩
 have I:s.size=r+1:=by
  show s.data.size=_
  rw[<-Array.length_toList,i,mC]
 have u:(s.extract 1 s.size).data.toList=r:=by
  rw[ByteArray.data_extract,Array.toList_extract,i,I];simp
 have N:0<s.size:=O;have H:s[0]'(N)=d:=by
  have:s.data.toList[0]'(by rw[i];simp)=d:=by simp[i]
  rw[Array.getElem_toList] at this;exact this
 have K:(s.extract 1 s.size).size<=140737488351232:=by
  show(s.extract 1 s.size).data.size<=_
  rw[<-Array.length_toList,u];omega
 have m:=J (aZ6 (s.extract 1 s.size) K w);rw[u] at m;have x:R=if d≠106 then 0 else if(cG r).2.2≠0∨(cG r).2.1≠(r:Int) then 0 else(cG r).1:=by
  rw[k,i,rH];by_cases n:d=106;rw[if_neg (show¬(r.length<1∨9<r.length∨d≠106) from by rintro(h|h|h);omega;omega;exact h n),if_neg (show¬d≠106 from fun h=>h n)];rw[if_pos (show(r.length<1∨9<r.length∨d≠106) from .inr (.inr n)),if_pos (show d≠106 from n)]
 obtain⟨Q,F⟩:=eX ((cG r).1);obtain⟨p,G⟩:=eX ((cG r).2.1);obtain⟨L,E⟩:=eX ((cG r).2.2);rw[<-F,<-G,<-E] at m x;have f:=J x;have C:=J (show(r:Int)=(s.size:Int)-1 by omega);have D:(s[0].toNat:Int)=106↔d=106:=by
  rw[H];constructor;intro e;refine UInt8.toNat_inj.1 ?_;show d.toNat=106
  omega;rintro rfl;rfl
 have z:=J D;clear k i u K F G E H I x D;go_enter Tryz.func136,Tryz.ntmps136;by_cases v:(s[0].toNat:Int)=106;rotate_left
 ·have j:=J (fun e=>v (z.o.2 e))
  have W:=bne_iff_ne.2 v;have g:R=0:=by rw[f.o,if_pos (show d≠106 from j.o)]
  clear f;subst g;go_wp2;go_ret;exact⟨rfl,lS _ _⟩
 have j:=J (z.o.1 v);go_wp2_with fail;refine m.o.mono ?_;rintro e X ⟨rfl,rfl⟩;have t:=J (lS w w);clear m;by_cases A:L=0
 ·subst A
  by_cases B:(p:Int)=(s.size:Int)-1
  ·have q:=J B
   have g:R=Q:=by rw[f.o,if_neg (show¬d≠106 from fun h=>h j.o),if_neg (show¬((0:Int)≠0∨(p:Int)≠(r:Int)) from by rintro(h|h);exact h rfl;exact h (by rw[C.o];exact q.o))]
   clear f;subst g;go_wp2;go_ret;exact⟨rfl,t.o⟩
  have q:=J B;have g:R=0:=by rw[f.o,if_neg (show¬d≠106 from fun h=>h j.o),if_pos (show((0:Int)≠0∨(p:Int)≠(r:Int)) from .inr (by rw[C.o];exact q.o))]
  clear f;subst g;go_wp2;go_ret;exact⟨rfl,t.o⟩
 have M:=J A;have g:R=0:=by rw[f.o,if_neg (show¬d≠106 from fun h=>h j.o),if_pos (show(L≠0∨(p:Int)≠(r:Int)) from .inl M.o)]
 clear f;subst g;go_wp2;go_ret;exact⟨rfl,t.o⟩
theorem pB(l:List UInt8)(n:Nat):cells (l.drop n)=(cells l).drop n:=by simp[cells]
def lB(p:List UInt8):Int×Int×Bool:=
 if(aC maxI p).2.2≠0 then(0,0,false) else
  ((aC maxI p).1,bX (aC maxU (p.drop (aC maxI p).2.1)).1,decide ((aC maxU (p.drop (aC maxI p).2.1)).2.2=0)&&decide ((aC maxI p).2.1+(aC maxU (p.drop (aC maxI p).2.1)).2.1=p.length)&&decide (1<=(aC maxI p).1)&&decide (((aC maxI p).1:Int)<9223372036854775807)&&decide (0<=bX (aC maxU (p.drop (aC maxI p).2.1)).1))
theorem aC9(p:List UInt8):gF p=if(lB p).2.2=true then some ((lB p).1,(lB p).2.1) else none:=by
 have e:=iM maxI p;have i:=cX maxI p;have f:=cX maxU (p.drop (aC maxI p).2.1);rw[lZ] at f;unfold gF lB;have g:(aC maxI p).1<=9223372036854775807:=e;clear e;by_cases b:(aC maxI p).2.2=0;rotate_left;rw[if_pos (.inl b),if_pos b];rfl;rw[if_neg (show¬(aC maxI p).2.2≠0 from fun h=>h b)];by_cases c:(aC maxI p).1<1∨((aC maxI p).1:Int)=bL;rw[if_pos (by exact .inr c)];rw[if_neg];intro h;simp only[Bool.and_eq_true,decide_eq_true_eq] at h;unfold bL at c;omega;rw[if_neg (by rintro(h|h);exact h b;exact c h)];simp only[cI];by_cases a:(aC maxU (p.drop (aC maxI p).2.1)).2.2≠0∨bX (aC maxU (p.drop (aC maxI p).2.1)).1<0;rw[if_pos a];rw[if_neg];intro h;simp only[Bool.and_eq_true,decide_eq_true_eq] at h;rcases a with a|a
 exact a h.1.1.1.1;omega;rw[if_neg a];unfold bL at c;by_cases j:(aC maxI p).2.1+(aC maxU (p.drop (aC maxI p).2.1)).2.1=p.length;have d:(p.drop (aC maxI p).2.1).drop (aC maxU (p.drop (aC maxI p).2.1)).2.1=[]:=by
  rw[List.drop_drop];exact List.drop_eq_nil_of_le O
 rw[d];simp only;rw[if_pos];simp only[Bool.and_eq_true,decide_eq_true_eq];omega;have d:(p.drop (aC maxI p).2.1).drop (aC maxU (p.drop (aC maxI p).2.1)).2.1≠[]:=fun h=>by
  have:=congrArg List.length h;rw[List.drop_drop,lZ] at this;simp at this;omega
 rcases hd:(p.drop (aC maxI p).2.1).drop (aC maxU (p.drop (aC maxI p).2.1)).2.1 with _|⟨x,r⟩
 exact absurd hd d;simp only;rw[if_neg];intro h;simp only[Bool.and_eq_true,decide_eq_true_eq] at h;omega
theorem aY7(A:Option Addr)(p:List UInt8)(c:Nat)(w:World)(C:Rd w w A (cells p))(M:p<=c)(L:p.length<=4611686018427387904)(S:c<=9223372036854775807):
  Calls Tryz.prog 167 #[.slice A p c] w fun e N =>e=.returned (.tuple #[.int .i64 (lB p).1,.int .i64 (lB p).2.1,.bool (lB p).2.2])∧w=N :=by
 have r:=iM maxI p;have D:=cX maxI p;have l:=J (eD A p p c w rfl w C L);have s:=Rd.j1 C (k:=(aC maxI p).2.1) (cap:=c) (by rw[aB];exact D) (by rw[aB];exact M);rw[<-pB] at s;have d:=J (jS (cutA A (aC maxI p).2.1 c) (p.drop (aC maxI p).2.1) (p.length-(aC maxI p).2.1) (c-(aC maxI p).2.1) w (by rw[lZ]) w s (by rw[lZ];omega));have u:=cX maxU (p.drop (aC maxI p).2.1);rw[lZ] at u;obtain⟨R,x⟩:=eX (lB p);have g:=x;unfold lB at g;obtain⟨f,y⟩:=eX ((aC maxI p).1);obtain⟨n,B⟩:=eX ((aC maxI p).2.1);obtain⟨K,H⟩:=eX ((aC maxI p).2.2);rw[<-B] at d u D;rw[<-y,<-B,<-H] at l g;obtain⟨t,G⟩:=eX (bX (aC maxU (p.drop n)).1);obtain⟨m,z⟩:=eX ((aC maxU (p.drop n)).2.1);obtain⟨E,I⟩:=eX ((aC maxU (p.drop n)).2.2);rw[<-G,<-z,<-I] at d g;rw[<-z] at u;rw[<-y] at r;unfold maxI at r;rw[<-x];have j:=J g;have hcut:=fun W:World=>eE (P:=Tryz.prog) Tryz.underlying34 bJ A p c n D (n:Int) rfl W
 clear C s x g y B H G z I;go_enter Tryz.func167,Tryz.ntmps167;go_wp2_with fail;refine l.o.mono ?_;rintro e Z ⟨rfl,rfl⟩;by_cases i:K=0;rotate_left
 ·have a:=J (j.o.trans (if_pos i))
  have T:=bne_iff_ne.2 i;clear j l d hcut i;go_wp2;go_ret3;exact⟨by rw[a.o];rfl,rfl⟩
 have a:=J (j.o.trans (if_neg (fun h=>h i)));subst i;clear j l;go_wp2_with fail;refine d.o.mono ?_;rintro e w2 ⟨rfl,rfl⟩;have Y:IntKind.i64.wrap ((n:Int)+(m:Int))=(n:Int)+(m:Int):=mH _ O;clear d hcut;by_cases q:E=0;rotate_left
 ·have b:Hq (R=((f:Int),t,false)):=J (by rw[a.o,decide_eq_false (show¬E=0 from q)];simp)
  clear a;have U:=mN.2 q;clear q;go_wp2;go_ret3;exact⟨by rw[b.o];rfl,rfl⟩
 subst q;by_cases F:(n:Int)+(m:Int)=(p:Int)
 ·by_cases Q:(1:Int)<=(f:Int)
  ·by_cases v:(f:Int)<9223372036854775807
   ·have b:Hq (R=((f:Int),t,decide (0<=t))):=J (by rw[a.o,decide_eq_true (show n+m=p by omega),decide_eq_true (show 1<=f by omega),decide_eq_true v];simp)
    clear a;go_wp2;go_ret3;exact⟨by rw[b.o];rfl,rfl⟩
   have b:Hq (R=((f:Int),t,false)):=J (by rw[a.o,decide_eq_false (show¬(f:Int)<9223372036854775807 by omega)];simp);clear a;have X:=decide_eq_false v;clear v r;go_wp2;go_ret3;exact⟨by rw[b.o];rfl,rfl⟩
  have b:Hq (R=((f:Int),t,false)):=J (by rw[a.o,decide_eq_false (show¬1<=f by omega)];simp);clear a;go_wp2;go_ret3;exact⟨by rw[b.o];rfl,rfl⟩
 have b:Hq (R=((f:Int),t,false)):=J (by rw[a.o,decide_eq_false (show¬n+m=p by omega)];simp);clear a;have V:=mN.2 F;clear F;go_wp2;go_ret3;exact⟨by rw[b.o];rfl,rfl⟩
theorem aD3(A:Option Addr)(l:List UInt8)(c B:Nat)(w:World)(b:Rd w B A (cells l))(p:l<=c)(s:l.length<=4611686018427387904):
  Calls Tryz.prog 192 #[.slice A l c] w fun e n =>e=.returned (.tuple #[.string (bU (cJ l).1),.int .i64 (cJ l).2.1,.int .i64 (cJ l).2.2])∧w=n :=by
 have q:(aC maxI l).1<=9223372036854775807:=iM maxI l;have r:=cX maxI l;by_cases a:(aC maxI l).2.2=0;rotate_left
 ·rw[aH4 a]
  have d:((aC maxI l).2.2 !=0)=true:=by simpa using a
  clear a;go_enter Tryz.func192,Tryz.ntmps192;go_wp2_with fail;refine(eD A l _ c B rfl _ b O).mono ?_;rintro e g ⟨rfl,rfl⟩;go_wp2;go_ret3;exact⟨rfl,rfl⟩
 by_cases f:65535<(aC maxI l).1
 ·rw[aB1 a f]
  have d:((aC maxI l).2.2 !=0)=false:=by simpa using a
  clear a;go_enter Tryz.func192,Tryz.ntmps192;go_wp2_with fail;refine(eD A l _ c B rfl _ b O).mono ?_;rintro e g ⟨rfl,rfl⟩;go_wp2;go_ret3;exact⟨rfl,rfl⟩
 by_cases i:l.length-(aC maxI l).2.1<(aC maxI l).1
 ·rw[aH3 a f i]
  have d:((aC maxI l).2.2 !=0)=false:=by simpa using a
  clear a;go_enter Tryz.func192,Tryz.ntmps192;go_wp2_with fail;refine(eD A l _ c B rfl _ b O).mono ?_;rintro e g ⟨rfl,rfl⟩;go_wp2;go_ret3;exact⟨rfl,rfl⟩
 rw[aS7 a f i];have d:((aC maxI l).2.2 !=0)=false:=by simpa using a
 clear a;have hcut:=fun W:World=>uC (P:=Tryz.prog) Tryz.underlying34 bJ A l c (aC maxI l).2.1 ((aC maxI l).2.1+(aC maxI l).1) O O (((aC maxI l).2.1:Nat):Int) (((aC maxI l).2.1:Int)+((aC maxI l).1:Int)) rfl σ W
 rw[Nat.add_sub_cancel_left] at hcut;have h:Rd w B (cutA A (aC maxI l).2.1 c) (cells ((l.drop (aC maxI l).2.1).take (aC maxI l).1)):=by
  have:=(Rd.j1 b (k:=(aC maxI l).2.1) (cap:=c) (by rw[aB];omega) (by rw[aB];omega)).take (aC maxI l).1;simpa[cells,List.map_take,List.map_drop] using this
 have j:=kM (c-(aC maxI l).2.1) h;rw[show((l.drop (aC maxI l).2.1).take (aC maxI l).1).length=(aC maxI l).1 by simp;omega] at j;have m:=J b;clear b h;go_enter Tryz.func192,Tryz.ntmps192;go_wp2_with fail;refine(eD A l _ c B rfl _ m.o O).mono ?_;rintro e g ⟨rfl,rfl⟩;go_wp2;go_ret3;exact⟨rfl,rfl⟩
theorem gI{l:Func}(h:l.results=#[.cell 4 65,.tmp 5])(tmps:Array Value)(W:World)(g:Nat)(a b c d:Value)(m:tmps[4]?.getD undef=.pointer (g,0))(e:aS W g 65 #[a,b,c,d]):
  (results l tmps).run Tryz.prog W=.ok (.tuple #[.agg #[a,b,c,d],tmps.getD 5 undef]) W:=by
 have f:=e.cell 0;have i:=e.cell 1;have j:=e.cell 2;have k:=e.cell 3;change _=some a at f;change _=some b at i;change _=some c at j;change _=some d at k;simp[results,h,go_sem,m,f,i,j,k]
theorem bB2(l:List UInt8):(cJ l).2.1<=l.length:=by
 by_cases a:(aC maxI l).2.2=0;by_cases b:65535<(aC maxI l).1;rw[aB1 a b];exact Nat.zero_le _;by_cases c:l.length-(aC maxI l).2.1<(aC maxI l).1;rw[aH3 a b c];exact Nat.zero_le _;have d:=cX maxI l;rw[aS7 a b c];simp only;omega;rw[aH4 a];exact Nat.zero_le _
theorem aH2(p:List UInt8)(ix:Int):dE p (ix-1)=if(aC maxU p).2.2≠0∨bX (aC maxU p).1<0 then none else
  if(aC maxU (p.drop (aC maxU p).2.1)).2.2≠0∨bX (aC maxU (p.drop (aC maxU p).2.1)).1<0 then none else
  if(cJ (p.drop ((aC maxU p).2.1+(aC maxU (p.drop (aC maxU p).2.1)).2.1))).2.2≠0∨(cJ (p.drop ((aC maxU p).2.1+(aC maxU (p.drop (aC maxU p).2.1)).2.1))).2.1≠(p.drop ((aC maxU p).2.1+(aC maxU (p.drop (aC maxU p).2.1)).2.1)).length∨bL<=ix then none else
   some ⟨ix,bX (aC maxU p).1,bX (aC maxU (p.drop (aC maxU p).2.1)).1,(cJ (p.drop ((aC maxU p).2.1+(aC maxU (p.drop (aC maxU p).2.1)).2.1))).1⟩:=by
 unfold dE;simp only[cI];by_cases a:(aC maxU p).2.2≠0∨bX (aC maxU p).1<0;rw[if_pos a,if_pos a];rw[if_neg a,if_neg a];by_cases b:(aC maxU (p.drop (aC maxU p).2.1)).2.2≠0∨bX (aC maxU (p.drop (aC maxU p).2.1)).1<0;rw[if_pos b,if_pos b];rw[if_neg b,if_neg b];simp only[List.drop_drop];generalize p.drop ((aC maxU p).2.1+(aC maxU (p.drop (aC maxU p).2.1)).2.1)=X;by_cases c:(cJ X).2.2≠0∨(cJ X).2.1≠X.length∨bL<=ix;rw[if_pos c,if_pos (c.imp id (fun h=>h.imp id (fun h=>O)))];rw[if_neg c,if_neg (fun h=>c (h.imp id (fun h=>h.imp id (fun h=>O)))),show ix-1+1=ix by omega]
theorem aQ7(A:Option Addr)(p:List UInt8)(c:Nat)(w:World)(d:Rd w w A (cells p))(o9:p<=c)(hl:p.length<=140737488351232)(hc:c<=9223372036854775807)(ix:Int)(B9:I6 ix):
  Calls Tryz.prog 168 #[.slice A p c,ix] w fun e C =>Below w w C ∧match dE p (ix-1) with
   |none=>e=.returned (.tuple #[.agg #[.int .i64 0,.int .i64 0,.int .i64 0,.slice none 0 0],.bool false])
   |some q=>∃v,e=.returned (.tuple #[.agg #[q.ix,q.tm,q.kd,v],.bool true])∧jV C w v q.b:=by
 have m7:=cX maxU p;have Y:=cX maxU (p.drop (aC maxU p).2.1);rw[lZ] at Y;obtain⟨R,hR⟩:=eX (dE p (ix-1));have F:=hR;rw[aH2] at F;rw[<-hR];obtain⟨t,ht⟩:=eX (bX (aC maxU p).1);obtain⟨n,T⟩:=eX ((aC maxU p).2.1);obtain⟨e1,l7⟩:=eX ((aC maxU p).2.2);have E:∀W,Below w w W->Calls Tryz.prog 135 #[.slice A p c] W fun e C =>e=.returned (.tuple #[t,n,e1])∧W=C :=fun W K=>by
  rw[ht,T,l7];exact jS A p p c w rfl W (d.a1 K) O
 rw[<-ht,<-T,<-l7] at F;rw[<-T] at m7 Y;obtain⟨k,hk⟩:=eX (bX (aC maxU (p.drop n)).1);obtain⟨m,S⟩:=eX ((aC maxU (p.drop n)).2.1);obtain⟨e2,l8⟩:=eX ((aC maxU (p.drop n)).2.2);have m5:=Rd.j1 d (k:=n) (cap:=c) (by rw[aB];exact m7) (by rw[aB];exact o9);rw[<-pB] at m5;have H:∀W,Below w w W->Calls Tryz.prog 135 #[.slice (cutA A n c) (p-n) (c-n)] W fun e C =>e=.returned (.tuple #[k,m,e2])∧W=C :=fun W K=>by
  rw[hk,S,l8];exact jS (cutA A n c) (p.drop n) (p-n) (c-n) w (by rw[lZ]) W (m5.a1 K) (by rw[lZ];omega)
 rw[<-hk,<-S,<-l8] at F;rw[<-S] at Y;have o8:n+m<=p:=O;obtain⟨r,V⟩:=eX (p.drop (n+m));have m6:r.length=p-(n+m):=by rw[V,lZ]
 have g9:=Rd.j1 d (k:=n+m) (cap:=c) (by rw[aB];exact o8) (by rw[aB];exact o9);rw[<-pB,<-V] at g9;obtain⟨G,X⟩:=eX ((cJ r).1);obtain⟨o,U⟩:=eX ((cJ r).2.1);obtain⟨e3,l9⟩:=eX ((cJ r).2.2);have C0:o<=p:=by
  have h:=bB2 r;rw[<-U] at h;omega
 have I:∀W,Below w w W->Calls Tryz.prog 192 #[.slice (cutA A (n+m) c) (p.length-(n+m)) (c-(n+m))] W fun e C =>e=.returned (.tuple #[.string (bU G),o,e3])∧W=C :=fun W K=>by
  rw[X,U,l9,<-m6];exact aD3 (cutA A (n+m) c) r (c-(n+m)) w W (g9.a1 K) O O
 rw[<-V,<-X,<-U,<-l9] at F;have C2:G.length<=140737488351232:=by rw[X];have:=aH5 r;omega
 have f:=J F;have n9:=J m6;have m9:=J E;have n5:=J H;have n8:=J I;have hcut:=fun W:World=>eE (P:=Tryz.prog) Tryz.underlying34 bJ A p c n m7 (n:Int) rfl W
 have i6:=fun W:World=>eE (P:=Tryz.prog) Tryz.underlying34 bJ A p c (n+m) o8 ((n:Int)+(m:Int)) O W
 have C3:IntKind.i64.wrap ((n:Int)+(m:Int))=(n:Int)+(m:Int):=mH _ O;have q8:IntKind.i64.wrap ((n:Int)+(m:Int)+(o:Int))=(n:Int)+(m:Int)+(o:Int):=mH _ O;clear d m5 g9 hR F ht T l7 hk S l8 V X U l9 E H I m6 Y;obtain⟨a,Z⟩:=eX (w.alloc (.cells #[.int .i64 0,.int .i64 0,.int .i64 0,.slice none 0 0] 65));have l5:=bN Z;have m3:=kN Z;have p5:=J Z;have u:=J l5;have g:=J m3;have p7:=l5.size;have p9:=m3.lt;clear Z l5 m3;go_enter Tryz.func168,Tryz.ntmps168;go_upto_region 1 with fail
 rw[<-p5.o];have E:=J (m9.o a u.o);go_wp2_with fail;refine E.o.mono ?_;rintro e w1 ⟨rfl,rfl⟩;have f0:=g.o.c 0;have f1:=g.o.c 1;have f2:=g.o.c 2;have f3:=g.o.c 3;have z0:a.frozen? (w,0)=false:=g.o.a6 _;have z1:a.frozen? (w,1)=false:=g.o.a6 _;have z2:a.frozen? (w,2)=false:=g.o.a6 _;have z3:a.frozen? (w,3)=false:=g.o.a6 _;by_cases M:e1=0;rotate_left
 ·have y:=J (f.o.trans (if_pos (.inl M)))
  have t9:=bne_iff_ne.2 M;clear M E f;go_wp2_with fail;have j:=(((g.o.b8 0 (.int .i64 0)).b8 1 (.int .i64 0)).b8 2 (.int .i64 0)).b8 3 (.slice none 0 0);have i:a.grownBy ((((a.setCell (w,0) (.int .i64 0)).setCell (w,1) (.int .i64 0)).setCell (w,2) (.int .i64 0)).setCell (w,3) (.slice none 0 0)) (some w):=aF (aF (aF (aA a _ 0 _) (aA _ _ 1 _) (.inl rfl)) (aA _ _ 2 _) (.inl rfl)) (aA _ _ 3 _) (.inl rfl);have l:=u.o.grown i O (fun r d=>by injection d with d;omega);refine bodyPost_ret (v:=.tuple #[.agg #[.int .i64 0,.int .i64 0,.int .i64 0,.slice none 0 0],.bool false]) ((gI rfl _ _ w _ _ _ _ rfl j).trans rfl) rfl ?_;exact⟨l,rfl⟩
 subst M;have H:=J (n5.o a u.o);clear E m9 n5;go_wp2_with fail;refine H.o.mono ?_;rintro e w2 ⟨rfl,rfl⟩;clear H;by_cases N:e2=0;rotate_left
 ·have y:Hq (R=none):=J (by
   by_cases s:t<0;exact f.o.trans (if_pos (.inr s));exact f.o.trans ((if_neg (by rintro(h|h);exact h rfl;exact s h)).trans (if_pos (.inl N))))
  have B1:=bne_iff_ne.2 N;clear f N;go_wp2_with fail;have j:=(((g.o.b8 0 (.int .i64 0)).b8 1 (.int .i64 0)).b8 2 (.int .i64 0)).b8 3 (.slice none 0 0);have i:a.grownBy ((((a.setCell (w,0) (.int .i64 0)).setCell (w,1) (.int .i64 0)).setCell (w,2) (.int .i64 0)).setCell (w,3) (.slice none 0 0)) (some w):=aF (aF (aF (aA a _ 0 _) (aA _ _ 1 _) (.inl rfl)) (aA _ _ 2 _) (.inl rfl)) (aA _ _ 3 _) (.inl rfl);have l:=u.o.grown i O (fun r d=>by injection d with d;omega);refine bodyPost_ret (v:=.tuple #[.agg #[.int .i64 0,.int .i64 0,.int .i64 0,.slice none 0 0],.bool false]) ((gI rfl _ _ w _ _ _ _ rfl j).trans rfl) rfl ?_;exact⟨l,rfl⟩
 subst N;have I:=J (n8.o a u.o);clear n8;go_wp2_with fail;refine I.o.mono ?_;rintro e w3 ⟨rfl,rfl⟩;clear I hcut i6;by_cases Q:e3=0;rotate_left
 ·have y:Hq (R=none):=J (by
   by_cases s:t<0;exact f.o.trans (if_pos (.inr s));refine f.o.trans ((if_neg (by rintro(h|h);exact h rfl;exact s h)).trans ?_);by_cases z:k<0;exact if_pos (.inr z);exact(if_neg (by rintro(h|h);exact h rfl;exact z h)).trans (if_pos (.inl Q)))
  have B6:=bne_iff_ne.2 Q;clear f Q;go_wp2_with fail;have j:=(((g.o.b8 0 (.int .i64 0)).b8 1 (.int .i64 0)).b8 2 (.int .i64 0)).b8 3 (.slice none 0 0);have i:a.grownBy ((((a.setCell (w,0) (.int .i64 0)).setCell (w,1) (.int .i64 0)).setCell (w,2) (.int .i64 0)).setCell (w,3) (.slice none 0 0)) (some w):=aF (aF (aF (aA a _ 0 _) (aA _ _ 1 _) (.inl rfl)) (aA _ _ 2 _) (.inl rfl)) (aA _ _ 3 _) (.inl rfl);have l:=u.o.grown i O (fun r d=>by injection d with d;omega);refine bodyPost_ret (v:=.tuple #[.agg #[.int .i64 0,.int .i64 0,.int .i64 0,.slice none 0 0],.bool false]) ((gI rfl _ _ w _ _ _ _ rfl j).trans rfl) rfl ?_;exact⟨l,rfl⟩
 subst Q;by_cases h4:(n:Int)+(m:Int)+(o:Int)=(p:Int);rotate_left
 ·have y:Hq (R=none):=J (by
   by_cases s:t<0;exact f.o.trans (if_pos (.inr s));refine f.o.trans ((if_neg (by rintro(h|h);exact h rfl;exact s h)).trans ?_);by_cases z:k<0;exact if_pos (.inr z);exact(if_neg (by rintro(h|h);exact h rfl;exact z h)).trans (if_pos (.inr (.inl (ω1 n9.o)))))
  have B7:=bne_iff_ne.2 h4;clear f h4;go_wp2_with fail;have j:=(((g.o.b8 0 (.int .i64 0)).b8 1 (.int .i64 0)).b8 2 (.int .i64 0)).b8 3 (.slice none 0 0);have i:a.grownBy ((((a.setCell (w,0) (.int .i64 0)).setCell (w,1) (.int .i64 0)).setCell (w,2) (.int .i64 0)).setCell (w,3) (.slice none 0 0)) (some w):=aF (aF (aF (aA a _ 0 _) (aA _ _ 1 _) (.inl rfl)) (aA _ _ 2 _) (.inl rfl)) (aA _ _ 3 _) (.inl rfl);have l:=u.o.grown i O (fun r d=>by injection d with d;omega);refine bodyPost_ret (v:=.tuple #[.agg #[.int .i64 0,.int .i64 0,.int .i64 0,.slice none 0 0],.bool false]) ((gI rfl _ _ w _ _ _ _ rfl j).trans rfl) rfl ?_;exact⟨l,rfl⟩
 by_cases s:t<0
 ·have y:=J (f.o.trans (if_pos (.inr s)))
  clear f;go_wp2_with fail;have j:=(((g.o.b8 0 (.int .i64 0)).b8 1 (.int .i64 0)).b8 2 (.int .i64 0)).b8 3 (.slice none 0 0);have i:a.grownBy ((((a.setCell (w,0) (.int .i64 0)).setCell (w,1) (.int .i64 0)).setCell (w,2) (.int .i64 0)).setCell (w,3) (.slice none 0 0)) (some w):=aF (aF (aF (aA a _ 0 _) (aA _ _ 1 _) (.inl rfl)) (aA _ _ 2 _) (.inl rfl)) (aA _ _ 3 _) (.inl rfl);have l:=u.o.grown i O (fun r d=>by injection d with d;omega);refine bodyPost_ret (v:=.tuple #[.agg #[.int .i64 0,.int .i64 0,.int .i64 0,.slice none 0 0],.bool false]) ((gI rfl _ _ w _ _ _ _ rfl j).trans rfl) rfl ?_;exact⟨l,rfl⟩
 by_cases z:k<0
 ·have y:=J (f.o.trans ((if_neg (by rintro(h|h);exact h rfl;exact s h)).trans (if_pos (.inr z))))
  clear f;go_wp2_with fail;have j:=(((g.o.b8 0 (.int .i64 0)).b8 1 (.int .i64 0)).b8 2 (.int .i64 0)).b8 3 (.slice none 0 0);have i:a.grownBy ((((a.setCell (w,0) (.int .i64 0)).setCell (w,1) (.int .i64 0)).setCell (w,2) (.int .i64 0)).setCell (w,3) (.slice none 0 0)) (some w):=aF (aF (aF (aA a _ 0 _) (aA _ _ 1 _) (.inl rfl)) (aA _ _ 2 _) (.inl rfl)) (aA _ _ 3 _) (.inl rfl);have l:=u.o.grown i O (fun r d=>by injection d with d;omega);refine bodyPost_ret (v:=.tuple #[.agg #[.int .i64 0,.int .i64 0,.int .i64 0,.slice none 0 0],.bool false]) ((gI rfl _ _ w _ _ _ _ rfl j).trans rfl) rfl ?_;exact⟨l,rfl⟩
 by_cases B:bL<=ix
 ·have y:=J (f.o.trans ((if_neg (by rintro(h|h);exact h rfl;exact s h)).trans ((if_neg (by rintro(h|h);exact h rfl;exact z h)).trans (if_pos (.inr (.inr B))))))
  unfold bL at B;have p6:decide (ix>=9223372036854775807)=true:=decide_eq_true B;clear f B;go_wp2_with fail;have j:=(((g.o.b8 0 (.int .i64 0)).b8 1 (.int .i64 0)).b8 2 (.int .i64 0)).b8 3 (.slice none 0 0);have i:a.grownBy ((((a.setCell (w,0) (.int .i64 0)).setCell (w,1) (.int .i64 0)).setCell (w,2) (.int .i64 0)).setCell (w,3) (.slice none 0 0)) (some w):=aF (aF (aF (aA a _ 0 _) (aA _ _ 1 _) (.inl rfl)) (aA _ _ 2 _) (.inl rfl)) (aA _ _ 3 _) (.inl rfl);have l:=u.o.grown i O (fun r d=>by injection d with d;omega);refine bodyPost_ret (v:=.tuple #[.agg #[.int .i64 0,.int .i64 0,.int .i64 0,.slice none 0 0],.bool false]) ((gI rfl _ _ w _ _ _ _ rfl j).trans rfl) rfl ?_;exact⟨l,rfl⟩
 have y:=J (f.o.trans ((if_neg (by rintro(h|h);exact h rfl;exact s h)).trans ((if_neg (by rintro(h|h);exact h rfl;exact z h)).trans (if_neg (by rintro(h|h|h);exact h rfl;(have:=n9.o;omega);exact B h)))));unfold bL at B;have p6:decide (ix>=9223372036854775807)=false:=decide_eq_false B;obtain⟨vd,D,B8,hd,l6⟩:=aG8 a G O;have L:=J hd;have m8:=J l6;have x:=g.o.a1 l6 p9;clear f B f0 f1 f2 f3 z0 z1 z2 z3 hd l6;have f0:=x.c 0;have f1:=x.c 1;have f2:=x.c 2;have f3:=x.c 3;have z0:D.frozen? (w,0)=false:=x.a6 _;have z1:D.frozen? (w,1)=false:=x.a6 _;have z2:D.frozen? (w,2)=false:=x.a6 _;have z3:D.frozen? (w,3)=false:=x.a6 _;have p4:=J x;obtain⟨gd,cd,s9,fz,p8,_⟩:=id L.o;subst p8;have hv:=y.o;clear x y;subst hv;go_wp2_with fail;have j:=(((p4.o.b8 0 ix).b8 1 t).b8 2 k).b8 3 (.slice (gd,0) G cd);have i:D.grownBy ((((D.setCell (w,0) ix).setCell (w,1) t).setCell (w,2) k).setCell (w,3) (.slice (gd,0) G cd)) (some w):=aF (aF (aF (aA D _ 0 _) (aA _ _ 1 _) (.inl rfl)) (aA _ _ 2 _) (.inl rfl)) (aA _ _ 3 _) (.inl rfl);have C1:=m8.o.size;have l:=(u.o.trans (m8.o.mono p7)).grown i O (fun r d=>by injection d with d;omega);refine bodyPost_ret (v:=.tuple #[.agg #[ix,t,k,.slice (gd,0) G cd],.bool true]) ((gI rfl _ _ w _ _ _ _ rfl j).trans rfl) rfl ?_;refine⟨l,_,rfl,?_⟩;exact(L.o.b1 fun q hq=>i.block q (L.o.lt q hq).2 (fun e=>by injection e with e;have:=(L.o.lt q hq).1;omega)).mono O
def bR2(q:List UInt8):Option (Int×Int):=match cI 2 q with
 |([t,v],some [])=>some (t,v)
 |_=>none
theorem metaT_eq(q:List UInt8):bR2 q=if(aC maxU q).2.2≠0∨bX (aC maxU q).1<0 then none else
  if(aC maxU (q.drop (aC maxU q).2.1)).2.2≠0∨bX (aC maxU (q.drop (aC maxU q).2.1)).1<0 then none else
  if(aC maxU q).2.1+(aC maxU (q.drop (aC maxU q).2.1)).2.1=q.length then some (bX (aC maxU q).1,bX (aC maxU (q.drop (aC maxU q).2.1)).1) else none:=by
 have f:=cX maxU q;have d:=cX maxU (q.drop (aC maxU q).2.1);rw[lZ] at d;unfold bR2;simp only[cI];by_cases a:(aC maxU q).2.2≠0∨bX (aC maxU q).1<0;rw[if_pos a,if_pos a];rw[if_neg a,if_neg a];by_cases b:(aC maxU (q.drop (aC maxU q).2.1)).2.2≠0∨bX (aC maxU (q.drop (aC maxU q).2.1)).1<0;rw[if_pos b,if_pos b];rw[if_neg b,if_neg b];simp only[List.drop_drop];by_cases c:(aC maxU q).2.1+(aC maxU (q.drop (aC maxU q).2.1)).2.1=q.length;have e:q.drop ((aC maxU q).2.1+(aC maxU (q.drop (aC maxU q).2.1)).2.1)=[]:=List.drop_eq_nil_of_le O;rw[if_pos c,e];rw[if_neg c];rcases hd:q.drop ((aC maxU q).2.1+(aC maxU (q.drop (aC maxU q).2.1)).2.1) with _|⟨x,r⟩
 have:=congrArg List.length hd;rw[lZ] at this;simp at this;omega;rfl
theorem aK0(d:DkD):dQ d=if(d.read fZ).2≠0 then some (0,0) else if(bO (d.read fZ).1).2.2≠0∨(bO (d.read fZ).1).2.1≠(d.read fZ).1.length then none else bR2 (bO (d.read fZ).1).1:=rfl
section
variable{w w' :World}{base g:Nat}{p:fT}{room:Int}{vL:Value}{es:List (Nm×RF)}
theorem bJ0(h:aR w base g p room vL es)(n:Nm)(i:es.length<=1099511627776)(c:∀q∈es,q.2.f.b.length<=549755813888):
  Calls Tryz.prog 83 #[(g,0),.string (bU n)] w fun e w' =>e=.returned (.bool (((cN p room es).read n).2==0))∧Below w w w' :=by
 have a:=J (sO h n i c);clear h i c;go_enter Tryz.func83,Tryz.ntmps83;go_wp2_with fail;refine a.o.mono ?_;rintro e l ⟨v,rfl,k,d⟩;have j:=J d;clear d k a;go_wp2;go_ret;exact⟨rfl,j.o⟩
theorem aZ0(h:aR w base g p room vL es)(hl:es.length<=1099511627776)(l8:∀q∈es,q.2.f.b.length<=1000000000):
  Calls Tryz.prog 86 #[.pointer (some ⟨g,0,none⟩)] w fun e w' =>Below w w w' ∧∃(a c:Int) (ok:Bool),e=.returned (.tuple #[a,c,.bool ok])∧match dQ (cN p room es) with|none=>ok=false|some q=>ok=true∧a=q.1∧c=q.2:=by
 have M:=J (sO h fZ hl (fun q i=>ω1 (l8 q i)));have m9:((cN p room es).read fZ).1.length<=1000000000:=by
  unfold DkD.read;split;simp;split;simp;rename_i f hf;obtain⟨q,i,e⟩:=mF.1 (bY hf);have:=l8 q i;injection e with _ e
  rw[<-e];exact this
 obtain⟨R,C⟩:=eX (dQ (cN p room es));rw[<-C];rw[aK0] at C;obtain⟨b,X⟩:=eX (((cN p room es).read fZ).1);obtain⟨e0,m7⟩:=eX (((cN p room es).read fZ).2);rw[<-X,<-m7] at M C;rw[<-X] at m9;have E:=J C;clear h hl l8 X m7 C;go_enter Tryz.func86,Tryz.ntmps86;go_wp2_with fail;refine M.o.mono ?_;rintro e w1 ⟨v,rfl,Y,N⟩;obtain⟨A1,c1,hv,k1,k2,k3⟩:=Y.b3;subst hv;have A:=J N;have n5:=N.size;by_cases F:e0=0;rotate_left
 ·have n9:=bne_iff_ne.2 F
  have m8:=E.o.trans (if_pos F);subst m8;clear M Y N E F;go_wp2;go_ret3;exact⟨A.o,rfl⟩
 subst F;have s:=aG1 A1 b b c1 rfl w1 k3 k1 ⟨O,k2⟩;obtain⟨q,i⟩:=eX ((bO b).1);obtain⟨us,u⟩:=eX ((bO b).2.1);obtain⟨eo,l7⟩:=eX ((bO b).2.2);have l4:=E.o;rw[if_neg (show¬(0:Int)≠0 from fun h=>h rfl),<-i,<-u,<-l7] at l4;rw[<-i,<-u,<-l7] at s;have s:=J s;have x:=J l4;have p6:q.length<=b:=by
  rw[i];unfold bO
  repeat' split
  all_goals simp
  omega
 clear M Y N k3 E i u l7 l4;go_wp2_with fail;refine s.o.mono ?_;rintro e y ⟨v2,rfl,S,Q⟩;obtain⟨z,r,n8,j1,j2,D⟩:=bF S;subst n8;have l:=J (A.o.trans (Q.mono n5));by_cases G:eo=0;rotate_left
 ·have j:=J (x.o.trans (if_pos (.inl G)))
  have m6:=bne_iff_ne.2 G;clear x s Q S D A G;go_wp2;go_ret3;exact⟨l.o,_,_,rfl⟩
 subst G;by_cases V:us=b;rotate_left
 ·have j:=J (x.o.trans (if_pos (.inr V)))
  have m6:((us:Int) !=(b:Int))=true:=bne_iff_ne.2 O;clear x s Q S D A V;go_wp2;go_ret3;exact⟨l.o,_,_,rfl⟩
 subst V;have B:=x.o;rw[if_neg (by rintro(h|h);exact h rfl;exact h rfl),metaT_eq] at B;obtain⟨t,ht⟩:=eX (bX (aC maxU q).1);obtain⟨n,L⟩:=eX ((aC maxU q).2.1);obtain⟨e1,l5⟩:=eX ((aC maxU q).2.2);have u:=cX maxU q;have T:=cX maxU (q.drop (aC maxU q).2.1);rw[lZ] at T;have H1:Calls Tryz.prog 135 #[.slice z q r] y fun e w' =>e=.returned (.tuple #[t,n,e1])∧y=w' :=by
  rw[ht,L,l5];exact jS z q q r _ rfl y D O
 rw[<-ht,<-L,<-l5] at B;rw[<-L] at u T;obtain⟨k,Z⟩:=eX (bX (aC maxU (q.drop n)).1);obtain⟨m,K⟩:=eX ((aC maxU (q.drop n)).2.1);obtain⟨U,l6⟩:=eX ((aC maxU (q.drop n)).2.2);have l9:=Rd.j1 D (k:=n) (cap:=r) (by rw[aB];exact u) (by rw[aB];exact j1);rw[<-pB] at l9;have H2:Calls Tryz.prog 135 #[.slice (cutA z n r) (q-n) (r-n)] y fun e w' =>e=.returned (.tuple #[k,m,U])∧y=w' :=by
  rw[Z,K,l6];exact jS (cutA z n r) (q.drop n) (q-n) (r-n) _ (by rw[lZ]) y l9 (by rw[lZ];omega)
 rw[<-Z,<-K,<-l6] at B;rw[<-K] at T;have p5:n+m<=q:=O;have hcut:=fun W:World=>eE (P:=Tryz.prog) Tryz.underlying34 bJ z q r n u (n:Int) rfl W
 have p7:IntKind.i64.wrap ((n:Int)+(m:Int))=(n:Int)+(m:Int):=mH _ O;have d:=J B;have m3:=J H1;have m5:=J H2;clear l9 H1 H2 B ht L l5 Z K l6 T x s A S Q D;go_wp2_with fail;refine m3.o.mono ?_;rintro e w3 ⟨rfl,rfl⟩;clear m3;by_cases H:e1=0;rotate_left
 ·have j:=J (d.o.trans (if_pos (.inl H)))
  have m6:=bne_iff_ne.2 H;clear d H;go_wp2;go_ret3;exact⟨l.o,_,_,rfl⟩
 subst H;go_wp2_with fail;refine m5.o.mono ?_;rintro e w4 ⟨rfl,rfl⟩;clear m5 hcut;by_cases I:U=0;rotate_left
 ·have j:Hq (R=none):=J (by
   rw[d.o,if_pos (show U≠0∨k<0 from .inl I)];split<;>rfl)
  have o8:=mN.2 I;clear d I;go_wp2;go_ret3;exact⟨l.o,_,_,rfl⟩
 subst I;by_cases h5:(n:Int)+(m:Int)=(q:Int)
 ·by_cases h6:(0:Int)<=t
  ·by_cases h7:(0:Int)<=k
   ·have j:=J (d.o.trans ((if_neg (by rintro(h|h);exact h rfl;omega)).trans ((if_neg (by rintro(h|h);exact h rfl;omega)).trans (if_pos O))))
    clear d;go_wp2;go_ret3;refine⟨l.o,t,k,true,rfl,?_⟩;have i:=Option.some.inj j.o;rw[i];exact⟨rfl,rfl,rfl⟩
   have j:=J (d.o.trans ((if_neg (by rintro(h|h);exact h rfl;omega)).trans (if_pos (.inr O))));have p4:=decide_eq_false h7;clear d h7;go_wp2;go_ret3;exact⟨l.o,_,_,rfl⟩
  have j:=J (d.o.trans (if_pos (.inr O)));clear d;go_wp2;go_ret3;exact⟨l.o,_,_,rfl⟩
 have j:Hq (R=none):=J (by
  rw[d.o,if_neg (show¬n+m=q by omega)];split;rfl;split<;>rfl)
 have o9:=mN.2 h5;clear d h5;go_wp2;go_ret3;exact⟨l.o,_,_,rfl⟩
end
theorem dV{B:Nat}{a w:World}(h:Below B a w)(g i:Nat)(u:Value)(c:B<=g):Below B a (w.setCell (g,i) u):=
 ⟨h.os,h.tape,h.output,mM h.size (aA w g i u).size,fun k b=>(Below.heap_setCell _ _ _ _ (by show k≠g;omega)).trans (h.block k b)⟩
theorem jL.setR{w:World}{G:Nat}{s:aH}{rs:List EntR}{b f d:Value}(h:jL w G s rs b f d)(g i:Nat)(u:Value)(j:g<G):jL (w.setCell (g,i) u) G s rs b f d:=
 ⟨h.b4.j5 (by show G≠g;omega) u,World.ownsRow.kept h.c7 (aA w g i u) (by
  cases hv:b.ownBlock with
  |none=>exact .inl rfl
  |some q=>exact .inr fun e=>by injection e with e;have:=(mL h.c7 q hv).1;omega),h.map,fun q a=>(h.h6 q a).b1 fun k c=>(aA w g i u).block k ((h.h6 q a).lt k c).2 (fun e=>by injection e with e;have:=((h.h6 q a).lt k c).1;omega),Own.j5 h.a7 (aA w g i u) O⟩
theorem qL(b:Option Addr)(a:List UInt8)(c:Nat)(w:World)(f:Rd w w b (cells a))(m:a.length<=70000000):
  Calls Tryz.prog 67 #[.slice (w,0) 1 1] (w.alloc (.cells #[.slice b a c] 34)) fun e g =>∃v,e=.returned v∧eR g w v (cM a)∧Below w w g :=by
 have d:Below w w (w.alloc (.cells [dK.val ⟨b,a,c⟩].toArray 34)):=(lS _ w).alloc (lR _) _;have k:Rd (w.alloc (.cells [dK.val ⟨b,a,c⟩].toArray 34)) (w.alloc (.cells [dK.val ⟨b,a,c⟩].toArray 34)).heap.size (w,0) ([⟨b,a,c⟩].map dK.val):=(cS w 34 [dK.val ⟨b,a,c⟩]).more σ;have j:xI (w.alloc (.cells [dK.val ⟨b,a,c⟩].toArray 34)) (w.alloc (.cells [dK.val ⟨b,a,c⟩].toArray 34)).heap.size [⟨b,a,c⟩]:=fun p l=>by
  obtain rfl:=lY.1 l;exact⟨(f.a1 d).more d.size,by show a.length<=_;omega⟩
 have i:bR [⟨b,a,c⟩]=a:=by simp[bR]
 have h:=wD (w,0) [⟨b,a,c⟩] 1 1 rfl _ k j σ (by rw[i];omega) σ;rw[i] at h;exact h.mono fun e g ⟨v,f,h2,h3⟩=>⟨v,f,h2.mono σ,d.trans (h3.mono σ)⟩
theorem jL.k8{w c:World}{G:Nat}{s:aH}{rs:List EntR}{n m b r:Value}{a:Int}(h:jL w G s rs n m r)(u:Own c (G+1) 3 b (s.a7.map (Value.int .i64)++[.int .i64 a]))(j:w.grownBy c m.ownBlock):
  jL (c.setCell (G,4) b) G {s with a7:=s.a7++[a]} rs n b r:=by
 have v:∀k,m.ownBlock=some k->G<k:=fun k i=>by have:=(Own.lt h.a7 k i).1;omega
 have p:=aA c G 4 b;have z:aS c G 106 _:=h.b4.grown j (fun e=>by have:=v G e.symm;omega);have t:Own c (G+1) 3 b ((s.a7++[a]).map (Value.int .i64)):=by simpa using u
 have o:=World.ownsRow.kept h.c7 j (jrow_type_ne h.c7 h.a7 δ);refine⟨aS.b8 z 4 _,World.ownsRow.kept o p (by
  cases hv:n.ownBlock with
  |none=>exact .inl rfl
  |some k=>exact .inr fun e=>by injection e with e;have:=(mL o k hv).1;omega),h.map,fun q l=>(h.h6 q l).b1 fun k i=>?_,Own.j5 t p O⟩
 have x:=(h.h6 q l).lt k i;rw[Below.heap_setCell c ⟨G,4,none⟩ b k (by show k≠G;omega)];refine j.block k x.2 fun e=>?_
 obtain⟨g,cs,A,f,y⟩:=(h.h6 q l).held;rw[i] at f;injection f with f
 subst f;obtain⟨B,d⟩:=cT h.a7 e.symm;rw[y] at d;injection d with d
 injection d with _ h _
 exact absurd h δ
theorem uE{w1 k b:World}{G:Nat}{s:aH}{rs:List EntR}{o f d n:Value}{a:Int}(c:jL k G s rs o f n)(r:Below G w1 k)(a8:Own b (G+1) 3 d (s.a7.map (Value.int .i64)++[.int .i64 a]))(i:k.grownBy b f.ownBlock):
  ∃g h,d=.slice g (s.a7.length+1) h∧b.cell? (G,4)=some f∧b.frozen? (G,4)=false∧jL (b.setCell (G,4) d) G {s with a7:=s.a7++[a]} rs o d n∧Below G w1 (b.setCell (G,4) d):=by
 have p:f.ownBlock≠some G:=fun e=>by have:=(Own.lt c.a7 G e).1;omega
 have q:=c.b4.lt;have u:=i.block G q (fun e=>p e.symm);have l:aS b G 106 _:=Eq.trans u c.b4;obtain⟨g,h,m,_,_,_⟩:=Own.b3 a8;rw[lT,lU] at m;exact⟨g,h,m,l.cell 4,l.a6 _,c.k8 a8 i,dV (r.grown i O (fun j t=>by have:=(Own.lt c.a7 j t).1;omega)) G 4 _ (lR _)⟩
theorem bH2(k:Int)(hk:I6 k)(A:Option Addr)(b:List UInt8)(c:Nat)(w:World)(hr:Rd w w A (cells b))(J4:b<=c)(hb:b.length<=1000000000)(hc:c<=9223372036854775807):
  Calls Tryz.prog 99 #[k,.slice A b c] w fun e w' =>Below w w w' ∧∃v,e=.returned (.tuple #[v,.bool (cH k b).isSome])∧(∃(a1 a2 a3:Int),∃Q nl T P ne S K,v=.agg #[a1,a2,a3,.slice Q nl T,.slice P ne S,.bool K])∧
   ∀s r,cH k b=some (s,r)->∃G z vl ve,w.heap.size<=G∧jL w' G s z vl ve (.bool r)∧v=.agg #[s.k,s.a8,s.c6,vl,ve,.bool r]∧s.k=k∧(0<=s.a8∧s.a8<=9223372036854775806)∧-1<=s.b7.1∧s.l.length<=b∧s.a7.length<=b:=by
 have p9:Below w w (w.alloc (.cells #[.int .i64 0,.int .i64 0,.int .i64 0,.slice none 0 0,.slice none 0 0,.bool false] 106)):=(lS _ w).alloc (lR _) _;have C4:aS (w.alloc (.cells #[.int .i64 0,.int .i64 0,.int .i64 0,.slice none 0 0,.slice none 0 0,.bool false] 106)) w 106 #[.int .i64 0,.int .i64 0,.int .i64 0,.slice none 0 0,.slice none 0 0,.bool false]:=aS.new w _ _;have G2:=J (bS4 A b b c rfl (w.alloc (.cells #[.int .i64 0,.int .i64 0,.int .i64 0,.slice none 0 0,.slice none 0 0,.bool false] 106)) ((hr.a1 p9).more p9.size) J4 O);have E8:=J C4;have G0:=J p9;have G9:=C4.lt;clear p9 C4 hr;go_enter Tryz.func99,Tryz.ntmps99;go_wp2_with fail;refine G2.o.mono ?_;rintro e C ⟨v,V,rfl,hg,C5⟩;obtain⟨A1,c1,hv,L0,L1,J8⟩:=Own.b3 hg.own;subst hv;have C3:=E8.o.a1 C5 G9;have C2:=G0.o.trans (C5.mono O);obtain⟨er,C7⟩:=eX ((cL b).2.2);have I7:=J C7;rw[<-C7];have L3:=C2.size;have G8:=C3.lt;clear C7 G2 E8 G0;have M:=J hg;have B7:=J C3;have s9:=J C2;clear hg C3 C2 C5;go_upto_region 3 with(fail)
 obtain⟨G,hG⟩:=eX C.heap.size;have I0:jL (C.alloc (.cells #[k,.int .i64 0,.int .i64 0,.slice none 0 0,.slice none 0 0,.bool (er !=0)] 106)) G ⟨k,0,0,[],[]⟩ [] (.slice none 0 0) (.slice none 0 0) (.bool (er !=0)):=by
  rw[hG];exact⟨aS.new C _ _,World.ownsRow_nil _ _ _ _,rfl,(fun q hq=>by cases hq),Own.nil _ _ _⟩
 have G7:Below G C (C.alloc (.cells #[k,.int .i64 0,.int .i64 0,.slice none 0 0,.slice none 0 0,.bool (er !=0)] 106)):=by
  rw[hG];exact(lS _ C).alloc (lR _) _
 have C1:=J I0;have B6:=J G7;rw[<-hG];obtain⟨K,D9⟩:=eX ((er !=0));rw[<-D9] at C1 B6⊢;have J0:=J D9;generalize(C.alloc (.cells #[k,.int .i64 0,.int .i64 0,.slice none 0 0,.slice none 0 0,.bool K] 106))=wG at C1 B6⊢;have B:=J hG;have p8:=J G8;obtain⟨I1,m9⟩:=oP b;have L4:V.length<=1000000000:=by rw[M.o.len];omega
 clear I0 G7 D9 hG G9 G8 J8;go_wp2_with fail;go_loopw [10,11,12,26] (fun at_ _ _ ix wr=>∃(i:Nat) (a:Int) (s:aH) (z:List EntR) (vl ve:Value),i<=V∧ix=.int .i64 i∧at_=.int .i64 a∧Hq (aI0 k b i s a)∧Hq (z.length=s.l)∧Hq (jL wr G s z vl ve (.bool K))∧Hq (Below G C wr)) (fun _ _ _ ix _=>V.length-(intOf ix).toNat)
 case atStart=>exact⟨0,0,_,[],_,_,O,rfl,rfl,J (aI0.start k b),J rfl,C1,B6⟩
 obtain⟨i,a,s,z,vl,ve,hi,rfl,rfl,n,B9,u,R⟩:=hrel;have K8:=u.o.b4.lt;by_cases q8:i<V;rotate_left
 ·obtain rfl:i=V:=O
  have hD:=n.o.done M.o.len;obtain⟨Q,T,E6,_⟩:=aK u.o.c7;obtain⟨P,S,p6,_,_,_⟩:=Own.b3 u.o.a7;rw[lU] at p6;subst E6 p6;have g:=B7.o.a1 R.o (by rw[B.o];exact p8.o);have I5:K=decide ((cL b).2.2≠0):=by rw[J0.o,I7.o];by_cases h:(cL b).2.2=0<;>simp[h,bne]
  rw[<-I5] at hD;have H:(cH k b).isSome=true:=by rw[hD];rfl
  have X:=J H;have HD:=J hD;have g0:=u.o.b4.c 0;have g1:=u.o.b4.c 1;have g2:=u.o.b4.c 2;have g3:=u.o.b4.c 3;have g4:=u.o.b4.c 4;have g5:=u.o.b4.c 5;have r0:=g.c 0;have r1:=g.c 1;have r2:=g.c 2;have r3:=g.c 3;have r4:=g.c 4;have r5:=g.c 5;have z0:wr.frozen? (w,0)=false:=g.a6 _;have z1:wr.frozen? (w,1)=false:=g.a6 _;have z2:wr.frozen? (w,2)=false:=g.a6 _;have z3:wr.frozen? (w,3)=false:=g.a6 _;have z4:wr.frozen? (w,4)=false:=g.a6 _;have z5:wr.frozen? (w,5)=false:=g.a6 _;clear g H hD I5;go_wp2_with fail
  (try simp only[Exit.inBlock,Exit.then])
  refine bodyPost_ret (v:=.tuple #[.agg #[s.k,s.a8,s.c6,.slice Q z T,.slice P s.a7 S,.bool K],.bool true]) (by rw[results_cell_tmp rfl];go_simp<;>rfl) rfl ?_;have K6:=B.o;have K7:=p8.o;have I:=s9.o.trans (R.o.mono O);have J9:=u.o;refine⟨?_,_,by rw[X.o],⟨_,_,_,_,_,_,_,_,_,_,rfl⟩,fun s' torn' h=>?_⟩
  ·iterate 6 (refine dV ?_ _ _ _ (lR _))
   exact I
  rw[HD.o] at h;injection h with h
  injection h with e1 e2
  subst e1 e2;refine⟨G,z,_,_,O,?_,rfl,n.o.key,n.o.a8,n.o.b7,by have:=n.o.len.2;rw[M.o.len] at this;omega,by have:=n.o.len.1;rw[M.o.len] at this;omega⟩
  iterate 6 (refine jL.setR ?_ _ _ _ O)
  exact J9
 have l5:i<(cL b).1.length:=by rw[<-M.o.len];exact q8
 have n8:=Rd.at_ (fF.rd M.o) q8;obtain⟨G5,J2,J1,C6⟩:=n8;subst J2;have hp:=(M.o.e9 i q8 l5).b3;obtain⟨L,cp,hv,D5,o8,D7⟩:=hp;rw[hv] at C6;have n9:=(mK (w:=C) (R.o.block _ (by rw[bK,B.o];exact J1))).trans C6;have p5:=m9 _ (lX l5);have D6:=lW l5;have l6:Rd wr G L (cells ((cL b).1[i])):=by
  rw[B.o];have:=R.o;rw[B.o] at this;exact D7.a1 this
 have D4:Rd C G L (cells ((cL b).1[i])):=by rw[B.o];exact D7
 generalize(cL b).1[i]=p at D4 D5 p5 D6 l6 n9;have p7:=J D6;have B8:=J l6;have E9:=J D4;clear D6 l6 C6 hv D7 D4;have J6:(i:Int)<(V:Int):=O;obtain⟨Q,T,E6,_⟩:=aK u.o.c7;obtain⟨P,S,p6,_,_,_⟩:=Own.b3 u.o.a7;rw[lU] at p6;subst E6 p6;have J7:0<p.length->∀ad,L=some ad->ad.block≠G:=fun h0 ad e=>by
  obtain⟨K4,e',q8,_⟩:=B8.o (by rw[aB];exact h0);rw[e] at e';injection e' with e'
  subst e';omega
 by_cases hi0:i=0
 ·subst hi0
  obtain⟨rfl,rfl⟩:=n.o.zero rfl;have J5:=(show G5.add 0=G5 by simp[Addr.add])▸n9;have G4:=J (aC7 L p cp G 106 _ 0 0 wr (B8.o.more O) J7 D5 O o8 u.o.b4 rfl rfl);go_wp2_with fail;refine G4.o.mono ?_;rintro e x ⟨rfl,C9,f,t,G6,hq⟩;have U:=u.o.l6 C9 (f:=f) (t:=t) G6;have D:=J (R.o.grown C9 O (fun j hj=>by injection hj with hj;omega));have m:=J U;have HQ:=J hq;clear G4 C9 G6 hq U;cases htk:gF p with
  |none=>
   have W:=J (aI0.headBad (k:=k) p7.o htk);have g:=B7.o.a1 D.o (by rw[B.o];exact p8.o);have H:(cH k b).isSome=false:=by rw[W.o];rfl
   have X:=J H;have g0:=m.o.b4.c 0;have g1:=m.o.b4.c 1;have g2:=m.o.b4.c 2;have g3:=m.o.b4.c 3;have g4:=m.o.b4.c 4;have g5:=m.o.b4.c 5;have r0:=g.c 0;have r1:=g.c 1;have r2:=g.c 2;have r3:=g.c 3;have r4:=g.c 4;have r5:=g.c 5;have z0:x.frozen? (w,0)=false:=g.a6 _;have z1:x.frozen? (w,1)=false:=g.a6 _;have z2:x.frozen? (w,2)=false:=g.a6 _;have z3:x.frozen? (w,3)=false:=g.a6 _;have z4:x.frozen? (w,4)=false:=g.a6 _;have z5:x.frozen? (w,5)=false:=g.a6 _;clear g H;go_wp2_with fail
   (try simp only[Exit.inBlock,Exit.then])
   refine bodyPost_ret (v:=.tuple #[.agg #[k,f,t,.slice Q z T,.slice P 0 S,.bool K],.bool false]) (by rw[results_cell_tmp rfl];go_simp<;>rfl) rfl ?_;refine⟨?_,_,by rw[X.o],⟨_,_,_,_,_,_,_,_,_,_,rfl⟩,fun s r h=>by rw[W.o] at h;cases h⟩;have I:=s9.o.trans (D.o.mono (ω1 B.o))
   repeat (first|exact I|refine dV ?_ _ _ _ (lR _))
  |some q=>
   obtain⟨f',t'⟩:=q;have e:=HQ.o _ htk;injection e with e1 e2
   subst e1 e2;have m8:=n.o.head p7.o p5 htk;have j8:=J (E9.o.a1 D.o);have D0:=m.o.b4.lt;have F:=qL L p cp x (j8.o.more O) O;have l8:=J F;clear F;go_wp2_with fail;refine l8.o.mono ?_;rintro e y ⟨v3,rfl,o9,N⟩;obtain⟨A3,c3,rfl,_,_,_⟩:=o9.b3;have E:=m.o.new N;have m6:=D.o.trans (N.mono O);have F:=dF p5;have m3:=J m8;generalize(cM p).length=d at F m3;have J3:=n.o.at_;have hw:IntKind.i64.wrap ((0:Int)+(d:Int))=(0:Int)+(d:Int):=mH _ O;have K0:IntKind.i64.wrap (d:Int)=(d:Int):=mH _ O;have g4:=E.b4.c 4;have C0:=J E;have t9:=J m6;have D1:=E.b4.lt;clear l8 o9 N E m6 m8;have m5:=J (C0.o.new ((lS _ y).alloc (lR _) (.cells [Value.int .i64 (d:Int)].toArray 3)));have B1:=J (t9.o.trans (((lS _ y).alloc (lR _) (.cells [Value.int .i64 (d:Int)].toArray 3)).mono O));have Z:=cS y 3 [Value.int .i64 (d:Int)];have j9:=J Z;have D3:=Nat.le_of_eq n.o.len.1;have D8:=((lS _ y).alloc (lR _) (.cells [Value.int .i64 (d:Int)].toArray 3)).size;clear Z;go_wp2_with (at_builtin;go_must (refine aP rfl (.tmp 58) (.tmp 60) 41 rfl (G+1) 3 (.int .i64 0) 8 Tryz.underlying41 kX rfl _ _ rfl m5.o.a7 (y.heap.size+1) (some ⟨y.heap.size,0,none⟩) 1 1 [.int .i64 (d:Int)] rfl rfl j9.o (by simp[Value.oneCell']) (by unfold maxLen;simp<;>omega) (by simp<;>omega) O ?_;intro v4 w4 Y p4 C8;obtain⟨A4,c4,E5,q4,y4,m7,n5⟩:=uE m5.o B1.o Y p4;subst E5;have l9:=J (And.intro m7 n5);clear Y p4 C8 m7 n5));go_roundw
   case rel=>exact⟨1,(d:Int),_,z,_,_,O,rfl,rfl,m3,B9,J l9.o.1,J l9.o.2⟩
   case measure=>simp[intOf];omega
 have I2:0<i:=O;have K9:((i:Int)==0)=false:=by simp;omega
 have L2:=n.o.len.2;have G3:=J (yT L p cp G wr u.o B8.o D5 O o8 (ω1 n.o.a8) (by rw[B9.o];omega) (ω1 n.o.b7));go_wp2_with fail;refine G3.o.mono ?_;rintro e x ⟨rfl,I,I3,I4⟩;have D:=J (R.o.trans I);have I8:=J I3;have I9:=J I4;clear G3 I I3 I4;cases htk:dE p s.b7.1 with
 |none=>
  have W:=J (n.o.k4 I2 p7.o htk);have m:=J (I8.o htk);have g:=B7.o.a1 D.o (by rw[B.o];exact p8.o);have H:(cH k b).isSome=false:=by rw[W.o];rfl
  have X:=J H;have g0:=m.o.b4.c 0;have g1:=m.o.b4.c 1;have g2:=m.o.b4.c 2;have g3:=m.o.b4.c 3;have g4:=m.o.b4.c 4;have g5:=m.o.b4.c 5;have r0:=g.c 0;have r1:=g.c 1;have r2:=g.c 2;have r3:=g.c 3;have r4:=g.c 4;have r5:=g.c 5;have z0:x.frozen? (w,0)=false:=g.a6 _;have z1:x.frozen? (w,1)=false:=g.a6 _;have z2:x.frozen? (w,2)=false:=g.a6 _;have z3:x.frozen? (w,3)=false:=g.a6 _;have z4:x.frozen? (w,4)=false:=g.a6 _;have z5:x.frozen? (w,5)=false:=g.a6 _;clear g H;go_wp2_with fail
  (try simp only[Exit.inBlock,Exit.then])
  refine bodyPost_ret (v:=.tuple #[.agg #[s.k,s.a8,s.c6,.slice Q z T,.slice P s.a7 S,.bool K],.bool false]) (by rw[results_cell_tmp rfl];go_simp<;>rfl) rfl ?_;refine⟨?_,_,by rw[X.o],⟨_,_,_,_,_,_,_,_,_,_,rfl⟩,fun s r h=>by rw[W.o] at h;cases h⟩;have I:=s9.o.trans (D.o.mono (ω1 B.o))
  repeat (first|exact I|refine dV ?_ _ _ _ (lR _))
 |some q=>
  obtain⟨vq,L5,U⟩:=I9.o q htk;obtain⟨K3,K5,E7,_⟩:=aK U.c7;subst E7;have m:=J U;clear U;have m8:=n.o.entry I2 p7.o p5 htk;have j8:=J (E9.o.a1 D.o);have D0:=m.o.b4.lt;have F:=qL L p cp x (j8.o.more O) O;have l8:=J F;clear F;go_wp2_with fail;refine l8.o.mono ?_;rintro e y ⟨v3,rfl,o9,N⟩;obtain⟨A3,c3,rfl,_,_,_⟩:=o9.b3;have E:=m.o.new N;have m6:=D.o.trans (N.mono O);have F:=dF p5;have m3:=J m8;generalize(cM p).length=d at F m3;have J3:=n.o.at_;have hw:IntKind.i64.wrap (a+(d:Int))=a+(d:Int):=mH _ O;have K0:IntKind.i64.wrap (d:Int)=(d:Int):=mH _ O;have g4:=E.b4.c 4;have C0:=J E;have t9:=J m6;have D1:=E.b4.lt;clear l8 o9 N E m6 m8;have m5:=J (C0.o.new ((lS _ y).alloc (lR _) (.cells [Value.int .i64 (a+(d:Int))].toArray 3)));have B1:=J (t9.o.trans (((lS _ y).alloc (lR _) (.cells [Value.int .i64 (a+(d:Int))].toArray 3)).mono O));have Z:=cS y 3 [Value.int .i64 (a+(d:Int))];have j9:=J Z;have D3:=Nat.le_of_eq n.o.len.1;have D8:=((lS _ y).alloc (lR _) (.cells [Value.int .i64 (a+(d:Int))].toArray 3)).size;clear Z;go_wp2_with (at_builtin;go_must (refine aP rfl (.tmp 58) (.tmp 60) 41 rfl (G+1) 3 (.int .i64 0) 8 Tryz.underlying41 kX rfl _ _ rfl m5.o.a7 (y.heap.size+1) (some ⟨y.heap.size,0,none⟩) 1 1 [.int .i64 (a+(d:Int))] rfl rfl j9.o (by simp[Value.oneCell']) (by unfold maxLen;simp<;>omega) (by simp<;>omega) O ?_;intro v4 w4 Y p4 C8;obtain⟨A4,c4,E5,q4,y4,m7,n5⟩:=uE m5.o B1.o Y p4;subst E5;have l9:=J (And.intro m7 n5);clear Y p4 C8 m7 n5));go_roundw
  case rel=>exact⟨i+1,a+(d:Int),_,z++[_],_,_,O,by go_num,rfl,m3,J (by rw[lT,lT,B9.o];rfl),J l9.o.1,J l9.o.2⟩
  case measure=>simp[intOf];omega
theorem iQ{w:World}{base g n c i:Nat}{e:TypeId}{a:Nat}{b:List Value}(h:w.ownsRow base e a (.slice (g,0) n c) n b)(u:Value):(w.setCell (g,i) u).ownsRow base e a (.slice (g,0) n c) n (b.set i u):=by
 rcases h.2 with⟨hv,_⟩|⟨g',cap,a8,hv,hb,hg,hn,hm,hs,ht⟩
 cases hv;injection hv with e1 _ e3
 injection e1 with e1
 injection e1 with e1 _ _
 subst e1 e3;refine⟨by rw[List.length_set];exact h.1,.inr ⟨g,c,a8.setIfInBounds i u,rfl,hb,aS.b8 hg i u,hn,hm,by simp[hs],?_⟩⟩;rw[Array.toList_setIfInBounds,List.take_set,ht]
theorem vW:∀(l:List EntR) {k:Nat} (a:k<l) (v:Value),(aG l).set (k*4+3) v=aG (l.set k ⟨v,l[k].e⟩)
 |[],k,a,v=>by simp at a
 |x::r,0,a,v=>rfl
 |x::r,k+1,a,v=>by
  have d:=vW r (k:=k) (by simpa using a) v;have b:aG (x::r)=dU x++aG r:=by unfold aG;rw[List.flatMap_cons]
  rw[b,List.set_append_right _ _ (by simp[dU];omega)];have c:(k+1)*4+3-(dU x).length=k*4+3:=by simp[dU];omega
  rw[c,d,List.set_cons_succ];unfold aG;rw[List.flatMap_cons];rfl
theorem wJ{F:Nat->Prop}(A:Option Addr)(rs:List EntR)(c:Nat)(w:World)(hr:dM w F A (aG rs))(I:∀q∈rs,gQ w F q.v q.e.b)(Z:∀k,F k->k<w.heap.size)(hn:rs.length<=1099511627776)(hl:∀q∈rs,q.e.b.length<=140737488351232):
  Calls Tryz.prog 64 #[.slice A rs c] w fun e R =>∃v j,e=.returned v∧R.ownsRow w 65 4 v rs (aG j)∧j.map EntR.e=rs.map EntR.e∧(∀q∈j,Bs R w q.v q.e.b)∧Below w w R :=by
 have W:∀u∈aG rs,u.oneCell' =true:=by
  intro u hu;obtain⟨q,d,h⟩:=List.mem_flatMap.1 hu;obtain⟨y,E,s,_⟩:=I q d;unfold dU at h;simp only[List.mem_cons,List.not_mem_nil,or_false] at h;rcases h with rfl|rfl|rfl|rfl
  rfl;rfl;rfl;rw[s];rfl
 have l5:=J (vZ A rs c (aG rs) w hr.rd (by rw[aN];omega) W hn);have HD:=J I;have HF:=J Z;have HL:=J hl;clear hr I Z W hl;go_enter Tryz.func64,Tryz.ntmps64;go_wp2_with fail;refine l5.o.mono ?_;rintro e w1 ⟨v1,rfl,Q,m3⟩;obtain⟨A1,c1,rfl,k1,k2,k3⟩:=aK Q;have p4:=J Q;have n8:=J m3;clear Q m3 l5 k3;go_wp2_with fail;go_loopw [9,4] (fun i _ wr=>∃(k:Nat) (a:List EntR),k<=rs∧i=.int .i64 k∧Hq (a=k)∧Hq (a.map EntR.e=(rs.take k).map EntR.e)∧Hq (wr.ownsRow w 65 4 (.slice A1 rs c1) rs (aG (a++rs.drop k)))∧Hq (∀q∈a,Bs wr w q.v q.e.b)∧Hq (Below w w wr)) (fun i _ _=>rs.length-(intOf i).toNat)
 case atStart=>exact⟨0,[],O,rfl,J rfl,J rfl,p4,J (fun q d=>by cases d),n8⟩
 obtain⟨k,a,hk,rfl,l,l7,t,B,n⟩:=hrel;have P:=n.o.size;by_cases g:k<rs;rotate_left
 ·obtain rfl:k=rs:=O
  go_wp2;go_ret;have G:=t.o;have H:=l7.o;rw[List.drop_length,List.append_nil] at G;rw[List.take_length] at H;exact⟨_,a,rfl,G,H,B.o,n.o⟩
 obtain⟨Ax,cx,s,G,H,Y⟩:=aK t.o;obtain⟨f,p5,rfl,p6,m7,m6,p7,m5⟩:=Y O;injection s with s hv2 r
 subst s r;clear hv2;obtain⟨q,d⟩:=eX (rs[k]);have N:q∈rs:=by rw[d];exact lX g
 have L:rs.drop k=q::rs.drop (k+1):=by rw[d];exact List.drop_eq_getElem_cons g
 obtain⟨y,E,n5,p8,p9,m9⟩:=HD.o q N;have C:k<(a++rs.drop k).length:=by rw[lT,l.o,lZ];omega
 have M:(a++rs.drop k)[k]=q:=by
  rw[List.getElem_append_right (by rw[l.o];omega)];simp only[L,l.o,Nat.sub_self,List.getElem_cons_zero]
 have D:wr.cell? (f,k*4+3)=some (.slice y q.e.b E):=by
  refine m5 _ _ ?_;rw[bM _ C O,M,<-n5];rfl
 have T:wr.frozen? (f,k*4+3)=false:=by simp[World.frozen?,m6]
 have z:=J (oD y q.e.b q.e.b E rfl wr ((m9.b1 P (fun k hk=>n.o.block k (HF.o k hk))).rd) (HL.o q N));obtain⟨nb,m8⟩:=eX q.e.b.length;have X:(aG (a++rs.drop k)).set (k*4+3)=fun v=>aG ((a++[⟨v,q.e⟩])++rs.drop (k+1)):=by
  funext v
  rw[vW _ C,M,List.set_append_right _ _ (by rw[l.o];omega),l.o,Nat.sub_self,L,List.set_cons_zero];simp
 have o9:=J X;have V:(rs.take (k+1)).map EntR.e=(rs.take k).map EntR.e++[q.e]:=by
  rw[List.take_add_one,lW g,<-d];simp
 have o8:=J V;rw[<-m8] at D z;clear X V d N L m9 C M Y m6 p7 m5 n5 m8 p5;go_wp2_with fail;refine z.o.mono ?_;rintro e S ⟨v3,rfl,r,m⟩;obtain⟨U,l9,rfl,y1,y2,y3⟩:=bF r;have d3:=(m.cell (p:=(f,k*4+3)) m7).trans D;have e3:S.frozen? (f,k*4+3)=false:=by
  simp only[World.frozen?] at T⊢;rw[m.block f m7];exact T
 have K:=J (bT t.o m);have l6:=J (fun q d=>Own.a1 (B.o q d) m (lR _));have n9:=J (n.o.trans (m.mono P));have l8:=J (Own.mono r P);clear D T m r y3 z t B n;go_wp2;go_roundw
 case rel=>
  refine⟨k+1,a++[⟨.slice U q.e.b l9,q.e⟩],O,by go_num,J (by rw[lT,l.o];rfl),J ?_,J ?_,J ?_,J (dV n9.o _ _ _ p6)⟩;rw[o8.o,mE,l7.o];rfl;have:=iQ (i:=k*4+3) K.o (.slice U q.e.b l9);rw[o9.o] at this;exact this;intro x hx;rcases mB.1 hx with hx|hx
  exact Own.kept (l6.o x hx) (aA S f (k*4+3) _) (jrow_type_ne (l6.o x hx) K.o δ);obtain rfl:=lY.1 hx;exact Own.kept l8.o (aA S f (k*4+3) _) (jrow_type_ne l8.o K.o δ)
 case measure=>simp[intOf];omega
theorem cV{P:Program}{w:World}{g:Array Oper}{rest:List Oper}{o:Oper}{a:Act}{Q:Exit->Act->World->Prop}(B:o.guard=none)(s x:Operand)(t:TypeId)
  (D:o.op=.call {callee:=.builtin .append,args:=#[s,x],argTypes:=#[t,t]})
  (base:Nat) (e:TypeId) (z:Value) (b f:Nat) (F:P.underlying t=some (.slice e)) (a8:(P.info? e).map (fun i=>(i.zero,i.size,i.bytes))=some (some z,b,f)) (X:z.cells.size=b) (W:0<b)
  (v:Value) (n:Nat) (q:List Value) (E:a.eval s=v) (r:w.ownsRow base e b v n q)
  (A:Option Addr) (m c:Nat) (d:List Value) (hx:a.eval x=.slice A m c) (C:d=m*b) (I:0<m->∃l,A=some l∧∀j u,d[j]? =some u->w.cell? (l.add j)=some u) (L:∀u∈d,u.oneCell' =true)
  (V:n+m<=maxLen) (G:(n+m)*f<=140737488355328) (H:base<=w)
  (h:∀p k,k.ownsRow base e b p (n+m) (q++d)->w.grownBy k v.ownBlock->wpList P g Q rest (a.put o.dst p) k):wpList P g Q (o::rest) a w:=by
 rcases Nat.eq_zero_or_pos m with y|y
 subst y;have U:=mD (by simpa using C);subst U;obtain⟨i,T,Y,Z,j9⟩:=info_parts a8;have K:=kC (P:=P) w base t o.type e i b F T v n q r A c;refine wpList_plain B fun _ R=>?_
 unfold Oper.wp execOp;simp only[D,resolve,invoke,builtin,Sem.run_bind,Sem.run_pure,Result.andThen_ok,List.map_toArray,mG,List.map_nil,E,hx,K];refine R _ _ (h v w ?_ (World.grownBy.refl _ _));rw[List.append_nil];exact r;obtain⟨l,rfl,S⟩:=I y;exact dZ B s x t D base e z b f F a8 X W v n q E r l m c d hx C S L V G H fun p k M N _=>h p k M N
theorem vV{w:World}{B:Nat}{rs:List EntR}(h:∀q∈rs,Bs w B q.v q.e.b):∀u∈aG rs,u.oneCell' =true:=by
 intro u c;obtain⟨q,a,hx⟩:=List.mem_flatMap.1 c;obtain⟨f,g,d,_⟩:=bF (h q a);unfold dU at hx;simp only[List.mem_cons,List.not_mem_nil,or_false] at hx;rcases hx with rfl|rfl|rfl|rfl
 rfl;rfl;rfl;rw[d];rfl
theorem pU.entries{F:Nat->Prop}{gj g:Nat}{j:bQ}{w:World}(h:pU w F gj g j)(hF:∀k,F k->k<w.heap.size)(hn:j.c7.length<=1099511627776):
  Calls Tryz.prog 18 #[(gj,0)] w fun e G =>∃v d,e=.returned v∧G.ownsRow w.heap.size 65 4 v d.length (aG d)∧d.map EntR.e=j.c7∧(∀q∈d,Bs G w.heap.size q.v q.e.b)∧Below w.heap.size w G :=by
 obtain⟨⟨A,c,t9,h1,z,h3,h4,h5⟩,h6,_⟩:=h;have c2:=h1.c 2;have H3:=J h3;have H4:=J h4;have H5:=J h5;have X:=J hF;have HN:=J hn;clear h1 z h3 h4 h5 hF hn;go_enter Tryz.func18,Tryz.ntmps18;go_wp2_with fail;go_loopw [11,3,5] (fun i v _ wr=>∃(k:Nat) (a:List EntR),k<=j.b0∧i=.int .i64 k∧Hq (wr.ownsRow w 65 4 v a (aG a))∧Hq (a.map EntR.e=((j.b0.take k).map aH.l).flatten)∧Hq (∀q∈a,Bs wr w q.v q.e.b)∧Hq (Below w w wr)) (fun i _ _ _=>j.b0.length-(intOf i).toNat)
 case atStart=>exact⟨0,[],O,rfl,J (World.ownsRow_nil _ _ _ _),J rfl,J (fun q m=>by cases m),J (lS _ _)⟩
 obtain⟨k,a,r,rfl,t,I,K,n⟩:=hrel;have U:=n.o.size;obtain⟨Av,cv,hv,hx⟩:=aK t.o;subst hv;clear hx;by_cases f:k<j.b0;rotate_left
 ·obtain rfl:k=j.b0:=O
  go_wp2;go_ret;have z:=I.o;rw[List.take_length] at z;exact⟨_,a,rfl,t.o,z,K.o,n.o⟩
 have P:k<t9:=by rw[H4.o];exact f
 obtain⟨Y,ao,rfl,C0,B1,n5⟩:=H3.o (by rw[lU];omega);obtain⟨sg,T⟩:=eX (j.b0[k]);have s:=H5.o k P f;rw[<-T] at s;have m8:=s.b1 (w' :=wr) U (fun k r=>n.o.block k (X.o k r));obtain⟨b,o,Al,cl,E,Ae,ce,m9,B9,B6,d0,d1,d2,d3,d4,_,n9,y,g9,_⟩:=m8.rd.cells;have e0:wr.cell? (Y,ao+k)=some (.pointer (b,o)):=(n.o.cell (p:=(Y,ao+k)) B1).trans (n5 k _ (by rw[List.getElem?_map,lW P,m9];rfl));have i4:E.length=sg.l:=by rw[<-y,lU]
 have L:=s.len;rw[<-i4] at d3 L;have H:=J (wJ Al E cl wr n9 g9 (fun k r=>ω1 (X.o k r)) L (fun q m=>by have:=s.txt q.e (by rw[<-y];exact mF.2 ⟨q,m,rfl⟩);omega));have V:((j.b0.take (k+1)).map aH.l).flatten=((j.b0.take k).map aH.l).flatten++sg.l:=by
  rw[List.take_add_one,lW f,<-T];simp
 have m3:a.length+E<=1099511627776:=by
  have e1:a.length=(((j.b0.take k).map aH.l).flatten).length:=by rw[<-I.o,lU]
  have e2:(((j.b0.take (k+1)).map aH.l).flatten).length<=j.c7:=by
   unfold bQ.c7;rw[show j.b0=j.b0.take (k+1)++j.b0.drop (k+1) from(List.take_append_drop _ _).symm,mE,List.flatten_append,lT,List.take_append_drop];omega
  rw[V,lT] at e2;have:=HN.o;omega
 have q8:=J V;have p5:=J y;obtain⟨D,R⟩:=eX E.length;rw[<-R] at d3 H m3;have p6:=J R;clear V y T s m8 m9 d0 d1 d2 d4 n9 g9 i4 L n5 R P;go_wp2_with fail;refine H.o.mono ?_;rintro e w3 ⟨v3,d,rfl,o8,Q,S,C⟩;obtain⟨W,c3,rfl,y1,y2,y3⟩:=aK o8;have B:=J (bT t.o C);have m6:=J (fun q m=>Own.a1 (K.o q m) C (lR _));have m5:=J (n.o.trans (C.mono U));have M:d=D:=by rw[p6.o,<-lU EntR.e,Q,lU]
 have s9:Hq (0<D->∃Z,W=some Z∧∀j u,(aG d)[j]? =some u->w3.cell? (Z.add j)=some u):=J (fun h0=>by
  obtain⟨g3,B8,e,_,_,_,_,hc⟩:=y3 h0;refine⟨_,e,fun j u hu=>?_⟩;rw[add_lit,Nat.zero_add];exact hc j u hu)
 have p4:=J Q;have m7:=J (fun q m=>Own.mono (S q m) U);have p8:=J (vV S);have p9:=J M;have d8:(aG d).length=D*4:=by rw[aN,M];omega
 have o9:=J d8;have B7:=m5.o.size;clear C o8 Q S y3 H t K n M d8;go_wp2_with (at_builtin;go_must (refine cV rfl (.tmp 15) (.tmp 20) 40 rfl w.heap.size 65 (.agg #[.int .i64 0,.int .i64 0,.int .i64 0,.slice none 0 0]) 4 48 Tryz.underlying40 dW rfl δ _ a.length (aG a) rfl B.o W D c3 (aG d) rfl o9.o s9.o p8.o (by unfold maxLen;omega) O O ?_;intro v6 w6 f8 n8;have p7:=J f8;have N:=J n8;clear f8 n8));go_roundw
 case rel=>
  refine⟨k+1,a++d,O,by go_num,J ?_,J ?_,J ?_,J (m5.o.grown N.o B7 (fun k r=>(mL B.o k r).1))⟩;rw[lT,eG,p9.o];exact p7.o;rw[mE,I.o,p4.o,q8.o,p5.o];intro x hx;rcases mB.1 hx with hx|hx
  exact Own.kept (m6.o x hx) N.o (jrow_type_ne (m6.o x hx) B.o δ);exact Own.kept (m7.o x hx) N.o (jrow_type_ne (m7.o x hx) B.o δ)
 case measure=>simp[intOf];omega
def cD0(x y:cD):Bool:=(x.ix==y.ix)&&(x.tm==y.tm)&&(x.kd==y.kd)&&(x.b==y.b)
def lC:List cD->List cD->Bool
 |[],[]=>true
 |x::r,y::s=>cD0 x y&&lC r s
 |_,_=>false
theorem bW9(x y:cD):cD0 x y=true↔x=y:=by
 obtain⟨a,b,c,d⟩:=x;obtain⟨i,j,k,l⟩:=y;unfold cD0;simp only[Bool.and_eq_true,beq_iff_eq,cD.mk.injEq];constructor;rintro⟨⟨⟨e,f⟩,g⟩,h⟩;exact⟨e,f,g,h⟩;rintro⟨e,f,g,h⟩;exact⟨⟨⟨e,f⟩,g⟩,h⟩
theorem rM:∀a b:List cD,lC a b=true↔a=b
 |[],[]=>by simp[lC]
 |[],_::_=>by simp[lC]
 |_::_,[]=>by simp[lC]
 |x::r,y::s=>by
  unfold lC;rw[Bool.and_eq_true,bW9,rM r s];constructor;rintro⟨c,d⟩;rw[c,d];intro h;injection h with c d;exact⟨c,d⟩
theorem bK3{a b:List cD}(h:a.length≠b):lC a b=false:=by
 cases hs:lC a b with
 |false=>rfl
 |true=>exact absurd (congrArg List.length ((rM a b).1 hs)) h
theorem aZ9{a b:List cD}{k:Nat}(c:k<a)(d:k<b):lC (a.drop k) (b.drop k)=(cD0 a[k] b[k]&&lC (a.drop (k+1)) (b.drop (k+1))):=by
 rw[List.drop_eq_getElem_cons c,List.drop_eq_getElem_cons d];rfl
theorem uZ{F E:Nat->Prop}(A B:Option Addr)(a f:List EntR)(c d:Nat)(w:World)(ha:dM w F A (aG a))(hb:dM w E B (aG f))(da:∀q∈a,gQ w F q.v q.e.b)(db:∀q∈f,gQ w E q.v q.e.b)(hF:∀k,F k->k<w.heap.size)(hE:∀k,E k->k<w.heap.size)(hl:a.length<=1099511627776)(C1:f.length<=1099511627776)(n8:∀q∈a,q.e.b.length<=140737488351232)(n9:∀q∈f,q.e.b.length<=140737488351232):
  Calls Tryz.prog 23 #[.slice A a c,.slice B f d] w fun e w' =>e=.returned (.bool (lC (a.map EntR.e) (f.map EntR.e)))∧Below w w w' :=by
 obtain⟨L,D⟩:=eX (a.map EntR.e);obtain⟨M,G⟩:=eX (f.map EntR.e);have m9:L.length=a:=by rw[D,lU]
 have n5:M.length=f:=by rw[G,lU]
 rw[<-D,<-G];obtain⟨R,P⟩:=eX (lC L M);rw[<-P];have HA:=J ha;have HB:=J hb;have p8:=J da;have p9:=J db;have HF:=J hF;have HE:=J hE;have q8:=J n8;have s9:=J n9;have HL:=J D;have HM:=J G;have X:=J m9;have Y:=J n5;have HR:=J P;clear ha hb da db hF hE n8 n9 D G m9 n5 P;go_enter Tryz.func23,Tryz.ntmps23;by_cases p:a.length=f;rotate_left
 ·have o9:((a:Int) !=(f:Int))=true:=bne_iff_ne.2 O
  have m:=J (show R=false by rw[HR.o];exact bK3 (by rw[X.o,Y.o];exact p));clear p;go_wp2;go_ret;exact⟨by rw[m.o];rfl,lS _ _⟩
 have o9:((a:Int) !=(f:Int))=false:=by rw[bne_eq_false_iff_eq];omega
 have m8:=J p;clear p;go_wp2_with fail;go_loopw [5] (fun i wr=>∃k:Nat,k<=a∧i=.int .i64 k∧Hq (R=lC (L.drop k) (M.drop k))∧Hq (Below w w wr)) (fun i _=>a.length-(intOf i).toNat)
 case atStart=>exact⟨0,O,rfl,J (by rw[HR.o];rfl),J (lS _ _)⟩
 obtain⟨k,hk,rfl,H,g⟩:=hrel;by_cases j:k<a;rotate_left
 ·have B1:=J (show R=true by rw[H.o,List.drop_eq_nil_of_le (by rw[X.o];omega),List.drop_eq_nil_of_le (by rw[Y.o,<-m8.o];omega)];rfl)
  clear H;go_wp2;go_ret;exact⟨by rw[B1.o];rfl,g.o⟩
 have y:k<f:=by rw[<-m8.o];exact j
 have W:=fun q S=>g.o.block q (HF.o q S)
 have V:=fun q S=>g.o.block q (HE.o q S)
 obtain⟨z,I,rfl,_,B9,t⟩:=(HA.o.b1 g.o.size W) (by rw[aN];omega);obtain⟨C,K,rfl,_,C0,u⟩:=(HB.o.b1 g.o.size V) (by rw[aN];omega);have r:∀i,i<4->(aG a)[k*4+i]? =(dU a[k])[i]? :=fun i Q=>bM _ j Q
 have s:∀i,i<4->(aG f)[k*4+i]? =(dU f[k])[i]? :=fun i Q=>bM _ y Q
 obtain⟨Av,ca,p6,_,_,p4⟩:=(p8.o a[k] (lX j)).b1 g.o.size W;obtain⟨Bv,cb,p7,_,_,p5⟩:=(p9.o f[k] (lX y)).b1 g.o.size V;have B6:=q8.o a[k] (lX j);have B7:=s9.o f[k] (lX y);have x:R=(cD0 a[k].e f[k].e&&lC (L.drop (k+1)) (M.drop (k+1))):=by
  rw[H.o,aZ9 (by rw[X.o];exact j) (by rw[Y.o];exact y)];simp only[HL.o,HM.o,List.getElem_map]
 have a0:wr.cell? (z,I+k*4)=some (.int .i64 a[k].e.ix):=t (k*4+0) _ (by rw[r 0 O];rfl);have a1:wr.cell? (z,I+k*4+1)=some (.int .i64 a[k].e.tm):=t (k*4+1) _ (by rw[r 1 O];rfl);have a2:wr.cell? (z,I+k*4+2)=some (.int .i64 a[k].e.kd):=t (k*4+2) _ (by rw[r 2 O];rfl);have a3:wr.cell? (z,I+k*4+3)=some (.slice Av a[k].e.b.length ca):=t (k*4+3) _ (by rw[r 3 O,<-p6];rfl);have b0:wr.cell? (C,K+k*4)=some (.int .i64 f[k].e.ix):=u (k*4+0) _ (by rw[s 0 O];rfl);have b1:wr.cell? (C,K+k*4+1)=some (.int .i64 f[k].e.tm):=u (k*4+1) _ (by rw[s 1 O];rfl);have b2:wr.cell? (C,K+k*4+2)=some (.int .i64 f[k].e.kd):=u (k*4+2) _ (by rw[s 2 O];rfl);have b3:wr.cell? (C,K+k*4+3)=some (.slice Bv f[k].e.b.length cb):=u (k*4+3) _ (by rw[s 3 O,<-p7];rfl);have T:=p4.rd;have U:=p5.rd;unfold cD0 at x;obtain⟨x0,Z⟩:=eX (a[k].e.ix);obtain⟨x1,l7⟩:=eX (a[k].e.tm);obtain⟨x2,l8⟩:=eX (a[k].e.kd);obtain⟨x3,l9⟩:=eX (a[k].e.b);obtain⟨y0,m3⟩:=eX (f[k].e.ix);obtain⟨y1,m5⟩:=eX (f[k].e.tm);obtain⟨y2,m6⟩:=eX (f[k].e.kd);obtain⟨y3,m7⟩:=eX (f[k].e.b);rw[<-Z,<-l7,<-l8,<-l9,<-m3,<-m5,<-m6,<-m7] at x;rw[<-Z] at a0;rw[<-l7] at a1;rw[<-l8] at a2;rw[<-l9] at a3 B6 T;rw[<-m3] at b0;rw[<-m5] at b1;rw[<-m6] at b2;rw[<-m7] at b3 B7 U;have q1:=fun n=>kM ca (T.drewN n)
 have q2:=fun n=>kM cb (U.drewN n)
 have B8:(k:Int)<(a:Int):=O;have o8:(k:Int)<(f:Int):=O;have l:=J x;clear t u r s p6 p7 p4 p5 T U W V Z l7 l8 l9 m3 m5 m6 m7 x H o9;by_cases N:x0=y0;rotate_left
 ·have n0:=bne_iff_ne.2 N
  have m:=J (show R=false by rw[l.o];simp[N]);clear l;go_wp2_with fail;go_quiet (fail);go_wp2;go_ret;exact⟨by rw[m.o];rfl,aD g.o _⟩
 subst N;by_cases e:x1=y1;rotate_left
 ·have n1:=bne_iff_ne.2 e
  have m:=J (show R=false by rw[l.o];simp[e]);clear l;go_wp2_with fail;go_quiet (fail);go_wp2;go_ret;exact⟨by rw[m.o];rfl,aD g.o _⟩
 subst e;by_cases e:x2=y2
 ·subst e
  by_cases e:x3=y3
  ·have t9:=J (show R=lC (L.drop (k+1)) (M.drop (k+1)) by rw[l.o];simp[e])
   subst e;clear l;go_wp2_with fail;go_quiet (fail);go_wp2;go_roundw
   case rel=>exact⟨k+1,O,by go_num,t9,J (aD g.o _)⟩
   case measure=>simp[intOf];omega
  have hs:((bU x3).toList==(bU y3).toList)=false:=mN.2 (fun h=>e (by simpa[bU,ByteArray.toList_eq] using h));have m:=J (show R=false by rw[l.o];simp[e]);clear l e;go_wp2_with fail;go_quiet (fail);go_wp2;go_ret;exact⟨by rw[m.o];rfl,aD g.o _⟩
 have n2:=bne_iff_ne.2 e;have m:=J (show R=false by rw[l.o];simp[e]);clear l;go_wp2_with fail;go_quiet (fail);go_wp2;go_ret;exact⟨by rw[m.o];rfl,aD g.o _⟩
end Go.Proofs.YtgeofijddhflaaaGreatDoor
