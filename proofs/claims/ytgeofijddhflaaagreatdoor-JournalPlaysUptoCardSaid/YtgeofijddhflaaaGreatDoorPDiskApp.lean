/- A disk's Append. Condition: the disk is a call's own; name and parts can be read, within the form's reach. -/
import Derived.Test.YtgeofijddhflaaaGreatDoorPDiskP
import Derived.Test.YtgeofijddhflaaaGreatDoorPSealL
import Derived.Handy
set_option linter.unusedVariables false
set_option linter.unusedSimpArgs false
set_option maxHeartbeats 8000000
set_option maxRecDepth 100000
namespace Go.Proofs.YtgeofijddhflaaaGreatDoor
open Go.RowKit Go.Maps Go.Sort Oct
structure FE where
 b4:Nat
 v:Value
 f:FD
structure Fr(mine:Nat->Prop)(w w' :World):Prop where
 os:w'.os=w.os
 tape:w'.tape=w.tape
 output:w'.output=w.output
 size:w.heap.size<=w'
 block:∀k,k<w.heap.size->¬mine k->w'.heap[k]? =w.heap[k]?
section
variable{mine mine' :Nat->Prop}{w w1 w2 w' :World}
theorem Fr.refl(mine:Nat->Prop)(w:World):Fr mine w w:=⟨rfl,rfl,rfl,lR _,fun _ _ _=>rfl⟩
theorem Fr.trans(h:Fr mine w w1)(k:Fr mine' w1 w2)(d:∀j,mine' j->mine j∨w.heap.size<=j):Fr mine w w2:=
 ⟨k.os.trans h.os,k.tape.trans h.tape,k.output.trans h.output,mM h.size k.size,fun j b c=>(k.block j (Nat.lt_of_lt_of_le b h.size) (fun e=>by rcases d j e with a|a;exact c a;omega)).trans (h.block j b c)⟩
theorem Fr.b9(mine:Nat->Prop)(h:Below w w w'):Fr mine w w' :=⟨h.os,h.tape,h.output,h.size,fun k a _=>h.block k a⟩
theorem Fr.e2{row:Option Nat}(h:w.grownBy w' row)(b:∀k,row=some k->mine k):Fr mine w w' :=
 ⟨h.os,h.tape,h.output,h.size,fun k a c=>h.block k a (fun e=>c (b k e.symm))⟩
theorem Fr.mono(h:Fr mine w w')(b:∀j,j<w.heap.size->mine j->mine' j):Fr mine' w w' :=⟨h.os,h.tape,h.output,h.size,fun k a c=>h.block k a (fun e=>c (b k a e))⟩
theorem Fr.a1(h:Fr mine w w'){B:Nat}(b:B<=w)(a:∀j,mine j->B<=j):Below B w w' :=
 ⟨h.os,h.tape,h.output,h.size,fun k c=>h.block k O (fun e=>ω1 (a k e))⟩
end
def aI(g m:Nat)(es:List (Nm×FE))(k:Nat):Prop:=k=g∨k=m∨∃p∈es,k=p.2.b4∨p.2.v.ownBlock=some k
structure aV(w:World)(base g m:Nat)(p:fT)(room:Int)(es:List (Nm×FE)):Prop where
 b4:aS w g 61 #[.bool p.off,.bool p.j3,p.e5,p.part,room,.map (some m)]
 map:dA Tryz.prog 9 w m (bI FE.b4 es)
 file:∀q∈es,aS w q.2.b4 83 #[q.2.v,.int .i64 q.2.f.b5]
 e9:∀q∈es,eR w base q.2.v q.2.f.b
 b5:∀q∈es,q.2.f.b5<=q.2.f.b.length
 apart:∀a b,a∈es->b∈es->a.1≠b.1->a.2.b4≠b.2.b4∧∀k,a.2.v.ownBlock=some k->b.2.v.ownBlock≠some k
 low:base<=g∧base<=m∧∀q∈es,base<=q.2.b4
 num:(I6 p.e5)∧(I6 p.part)∧0<=room∧room<=9223372036854775807
section
variable{w w' :World}{base g m:Nat}{p:fT}{room:Int}{es:List (Nm×FE)}
theorem aV.rising(h:aV w base g m p room es):gJ es:=by
 have a:=h.map.rising (string_keyed Tryz.underlying9);unfold gJ at a⊢;rw[List.pairwise_map] at a;exact a
theorem aV.lt(h:aV w base g m p room es):∀k,aI g m es k->base<=k∧k<w.heap.size:=by
 intro k a;rcases a with rfl|rfl|⟨q,b,rfl|a⟩
 exact⟨h.low.1,h.b4.lt⟩;exact⟨h.low.2.1,h.map.lt⟩;exact⟨h.low.2.2 q b,(h.file q b).lt⟩;exact⟨(h.e9 q b).row.base k a,(h.e9 q b).row.lt k a⟩
theorem aV.b1(h:aV w base g m p room es)(d:w.heap.size<=w')(b:∀k,aI g m es k->w'.heap[k]? =w.heap[k]?):aV w' base g m p room es:=
 ⟨(b g (.inl rfl)).trans h.b4,h.map.b1 (b m (.inr (.inl rfl))),fun q a=>(b q.2.b4 (.inr (.inr ⟨q,a,.inl rfl⟩))).trans (h.file q a),
  fun q a=>(h.e9 q a).kept (fun j c=>b j (.inr (.inr ⟨q,a,.inr c⟩))) d,h.b5,h.apart,h.low,h.num⟩
theorem aV.a1(h:aV w base g m p room es)(a:Below w w w'):aV w' base g m p room es:=
 h.b1 a.size fun k b=>a.block k (h.lt k b).2
theorem blk_ne{T f :TypeId}{a b:Nat}{cs d :Array Value}(i:aS w a T cs)(j:aS w b f d)(h:T≠f):a≠b:=fun e=>by
 subst e;have g:w.heap[a]? =some (Obj.cells cs T (0,0)):=i;have c:w.heap[a]? =some (Obj.cells d f (0,0)):=j;rw[g] at c;injection c with c
 injection c with _ c _
 exact h c
theorem iH{P:Program}{k:TypeId}{T:TypeId}{a b:Nat}{cs:Array Value}{l:List (Nm×Nat)}(h:aS w a T cs)(i:dA P k w b l):a≠b:=fun e=>by
 subst e;obtain⟨f,c,g,_⟩:=i;have d:w.heap[a]? =some (Obj.cells cs T (0,0)):=h;rw[g] at d;cases d
theorem cW{base:Nat}{v:Value}{l:List UInt8}{T:TypeId}{a:Nat}{cs:Array Value}(h:eR w base v l)(k:aS w a T cs)(j:T≠5):v.ownBlock≠some a:=fun e=>by
 rcases h.row with c|⟨i,n,d,f,c,_,b,_⟩
 rw[c] at e;cases e;rw[c] at e;have g :i =a:=by simpa[Value.ownBlock] using e
 subst g;exact blk_ne k b j rfl
theorem mW{P:Program}{k:TypeId}{base:Nat}{v:Value}{l:List UInt8}{a:Nat}{fs:List (Nm×Nat)}(h:eR w base v l)(j:dA P k w a fs):v.ownBlock≠some a:=fun e=>by
 rcases h.row with c|⟨i,n,d,f,c,_,b,_⟩
 rw[c] at e;cases e;rw[c] at e;have g :i =a:=by simpa[Value.ownBlock] using e
 subst g;exact iH b j rfl
theorem aV.j6(h:aV w base g m p room es){p' :fT}(c:w.grownBy w' (some g))(i:aS w' g 61 #[.bool p'.off,.bool p'.j3,p'.e5,p'.part,room,.map (some m)])
  (f:(I6 p'.e5)∧(I6 p'.part)∧0<=room∧room<=9223372036854775807):aV w' base g m p' room es:=by
 have b:∀k,aI g m es k->k≠g->w'.heap[k]? =w.heap[k]? :=fun k l n=>c.block k (h.lt k l).2 (fun e=>n (by injection e))
 refine⟨i,h.map.b1 (b m (.inr (.inl rfl)) (fun e=>iH h.b4 h.map e.symm)),fun q a=>(b q.2.b4 (.inr (.inr ⟨q,a,.inl rfl⟩)) (fun e=>blk_ne h.b4 (h.file q a) δ e.symm)).trans (h.file q a),
  fun q a=>(h.e9 q a).kept (fun j d=>b j (.inr (.inr ⟨q,a,.inr d⟩)) (fun e=>cW (h.e9 q a) h.b4 δ (by rw[d,e]))) c.size,h.b5,h.apart,h.low,f⟩
theorem asPut_mem' {α:Type}{n:Nm}{a:α}{l:List (Nm×α)}{q:Nm×α}(h:q∈aW n a l):q=(n,a)∨(q∈l∧q.1≠n):=asPut_mem.1 h
theorem aU5{α:Type}{n:Nm}{a:α}{l:List (Nm×α)}(g:gJ l)(h:aX n l=some a):aW n a l=l:=by
 induction l with
 |nil=>cases h
 |cons y r ih=>
  have j:gJ r:=(List.pairwise_cons.1 g).2;have d:=(List.pairwise_cons.1 g).1;unfold aW bE;by_cases c:y.1=n;have m:y=(n,a):=by
   unfold aX at h;rw[List.find?_cons_of_pos (by simp[c])] at h;simp at h;rw[<-h,<-c]
  subst m;rw[List.filter_cons_of_neg σ];have o:r.filter (fun p=> !(p.1==n))=r:=by
   rw[List.filter_eq_self];intro q s;have b:=d q s;have:q.1≠n:=fun e=>by
    rw[e,show bytesBefore n n=false from WideAt.bytes_irrefl n] at b;cases b
   simp[this]
  rw[o];cases r with
  |nil=>rfl
  |cons z r=>
   unfold asIns;rw[if_pos (d z (List.mem_cons_self ..))]
  have f :aX n r=some a:=by
   unfold aX at h⊢;rwa[List.find?_cons_of_neg (by simp[c])] at h
  have b:=ih j f;rw[List.filter_cons_of_pos (by simp[c])];have k:bytesBefore y.1 n=true:=d _ (bY f);have i:¬bytesBefore n y.1=true:=fun e=>by
   have:=WideShapes.bytes_trans _ _ _ k e;rw[show bytesBefore y.1 y.1=false from WideAt.bytes_irrefl y.1] at this;cases this
  unfold asIns;rw[if_neg i];exact congrArg _ b
theorem aV.j0(h:aV w base g m p room es){n:Nm}{d:FE}(D:aX n es=some d)(v:Value)(f:FD)(H:w.heap.size<=w')(G:aS w' d.b4 83 #[v,f.b5])(I:eR w' base v f.b)(F:f.b5<=f.b)
  (C:∀k,v.ownBlock=some k->d.v.ownBlock=some k∨w.heap.size<=k) (z:∀k,k<w.heap.size->k≠d.b4->d.v.ownBlock≠some k->w'.heap[k]? =w.heap[k]?):aV w' base g m p room (aW n ⟨d.b4,v,f⟩ es):=by
 have l:=bY D;have K:bI FE.b4 (aW n ⟨d.b4,v,f⟩ es)=bI FE.b4 es:=by
  rw[fB];refine aU5 (h.map.rising (string_keyed Tryz.underlying9)) ?_;rw[fA,D];rfl
 have r:∀q∈es,q.1≠n->q.2.b4≠d.b4∧∀k,q.2.v.ownBlock=some k->d.v.ownBlock≠some k:=fun q c o=>h.apart q (n,d) c l o
 refine⟨(z g h.b4.lt (blk_ne h.b4 (h.file _ l) δ) (cW (h.e9 _ l) h.b4 δ)).trans h.b4,?_,fun q c=>?_,fun q c=>?_,fun q c=>?_,fun a b s t x=>?_,⟨h.low.1,h.low.2.1,fun q c=>?_⟩,h.num⟩;rw[K];exact h.map.b1 (z m h.map.lt (fun e=>iH (h.file _ l) h.map e.symm) (mW (h.e9 _ l) h.map));rcases asPut_mem' c with rfl|⟨c,o⟩
 exact G;exact(z q.2.b4 (h.file q c).lt (r q c o).1 (cW (h.e9 _ l) (h.file q c) δ)).trans (h.file q c);rcases asPut_mem' c with rfl|⟨c,o⟩
 exact I;exact(h.e9 q c).kept (fun j B=>z j ((h.e9 q c).row.lt j B) (fun e=>cW (h.e9 q c) (h.file _ l) δ (by rw[B,e])) (fun e=>(r q c o).2 j B e)) H;rcases asPut_mem' c with rfl|⟨c,o⟩
 exact F;exact h.b5 q c
 ·rcases asPut_mem' s with rfl|⟨s,y⟩<;>rcases asPut_mem' t with rfl|⟨t,E⟩
  exact absurd rfl x;refine⟨fun e=>(r b t E).1 e.symm,fun k A i=>?_⟩;rcases C k A with u|u
  exact(r b t E).2 k i u;have:=(h.e9 b t).row.lt k i;omega;refine⟨(r a s y).1,fun k A i=>?_⟩;rcases C k i with u|u
  exact(r a s y).2 k A u;have:=(h.e9 a s).row.lt k A;omega;exact h.apart a b s t x
 rcases asPut_mem' c with rfl|⟨c,o⟩
 exact h.low.2.2 (n,d) l;exact h.low.2.2 q c
theorem aV.l1(h:aV w base g m p room es){n:Nm}(d:FE)(a8:∀q∈es,q.1≠n->q.2.b4≠d.b4∧∀k,q.2.v.ownBlock=some k->d.v.ownBlock≠some k)(E:w.heap.size<=w')(A:aS w' d.b4 83 #[d.v,d.f.b5])(B:eR w' base d.v d.f.b)(z:d.f.b5<=d.f.b)
  (i:base<=d.b4) (C:dA Tryz.prog 9 w' m (aW n d.b4 (bI FE.b4 es))) (s:∀k,k<w.heap.size->k≠m->w'.heap[k]? =w.heap[k]?):aV w' base g m p room (aW n d es):=by
 refine⟨(s g h.b4.lt (fun e=>iH h.b4 h.map e)).trans h.b4,by rw[fB];exact C,fun q c=>?_,fun q c=>?_,fun q c=>?_,fun a b l i o=>?_,⟨h.low.1,h.low.2.1,fun q c=>?_⟩,h.num⟩;rcases asPut_mem' c with rfl|⟨c,t⟩
 exact A;exact(s q.2.b4 (h.file q c).lt (fun e=>iH (h.file q c) h.map e)).trans (h.file q c);rcases asPut_mem' c with rfl|⟨c,t⟩
 exact B;exact(h.e9 q c).kept (fun j x=>s j ((h.e9 q c).row.lt j x) (fun e=>mW (h.e9 q c) h.map (by rw[x,e]))) E;rcases asPut_mem' c with rfl|⟨c,t⟩
 exact z;exact h.b5 q c
 ·rcases asPut_mem' l with rfl|⟨l,r⟩<;>rcases asPut_mem' i with rfl|⟨i,y⟩
  exact absurd rfl o;exact⟨fun e=>(a8 b i y).1 e.symm,fun k D u=>(a8 b i y).2 k u D⟩;exact⟨(a8 a l r).1,(a8 a l r).2⟩;exact h.apart a b l i o
 rcases asPut_mem' c with rfl|⟨c,t⟩
 exact i;exact h.low.2.2 q c
theorem aV.file_del(h:aV w base g m p room es){n:Nm}(l:w.grownBy w' (some m))(r:dA Tryz.prog 9 w' m (bE n (bI FE.b4 es))):aV w' base g m p room (bE n es):=by
 have f:∀k,k<w.heap.size->k≠m->w'.heap[k]? =w.heap[k]? :=fun k u v=>l.block k u (fun e=>v (by injection e))
 have d:∀q,q∈bE n es->q∈es:=fun q c=>(eQ.1 c).1
 exact⟨(f g h.b4.lt (fun e=>iH h.b4 h.map e)).trans h.b4,by rw[jF];exact r,fun q c=>(f q.2.b4 (h.file q (d q c)).lt (fun e=>iH (h.file q (d q c)) h.map e)).trans (h.file q (d q c)),
  fun q c=>(h.e9 q (d q c)).kept (fun j o=>f j ((h.e9 q (d q c)).row.lt j o) (fun e=>mW (h.e9 q (d q c)) h.map (by rw[o,e]))) l.size,fun q c=>h.b5 q (d q c),fun a b s t i=>h.apart a b (d a s) (d b t) i,⟨h.low.1,h.low.2.1,fun q c=>h.low.2.2 q (d q c)⟩,h.num⟩
theorem bO7{n:Nm}{k:Nat}(h:aI g m (bE n es) k):aI g m es k:=by
 rcases h with h|h|⟨q,a,h⟩
 exact .inl h;exact .inr (.inl h);exact .inr (.inr ⟨q,(eQ.1 a).1,h⟩)
theorem tH{n:Nm}{a:FE}{k N:Nat}(h:aI g m (aW n a es) k)(c:a.b4=k->aI g m es k∨N<=k)(d:a.v.ownBlock=some k->aI g m es k∨N<=k):aI g m es k∨N<=k:=by
 rcases h with h|h|⟨q,b,h⟩
 exact .inl (.inl h);exact .inl (.inr (.inl h));rcases asPut_mem' b with rfl|⟨b,_⟩
 rcases h with h|h
 exact c h.symm;exact d h;exact .inl (.inr (.inr ⟨q,b,h⟩))
end
theorem aH1:∀(es:List (Nm×FE)) (left:Lit->Bool),bC (bI FE.f (iT es left))<=bC (bI FE.f es)
 |[],_=>Int.le_refl _
 |q::r,left=>by
  have a:=aH1 r left;unfold iT at a⊢;rw[List.filter_cons];split;simp only[bI,mG,bC] at a⊢;omega;simp only[bI,mG,bC] at a⊢;omega
theorem nB(w:World):(zeroValue 81).run Tryz.prog w=.ok (.pointer none) w:=by kernel_rfl
theorem gL{w:World}{g:Nat}{t:TypeId}{a b c d e f:Value}(h:aS w g t #[a,b,c,d,e,f]):(w.cell? (g,0)=some a∧w.cell? (g,1)=some b∧w.cell? (g,2)=some c∧w.cell? (g,3)=some d∧w.cell? (g,4)=some e∧w.cell? (g,5)=some f)∧
  w.frozen? (g,0)=false∧w.frozen? (g,1)=false∧w.frozen? (g,2)=false∧w.frozen? (g,3)=false:=
 ⟨⟨h.cell 0,h.cell 1,h.cell 2,h.cell 3,h.cell 4,h.cell 5⟩,h.a6 0,h.a6 1,h.a6 2,h.a6 3⟩
def bG(w:World)(base g m:Nat)(es:List (Nm×FE))(d:DkD)(w' :World):Prop:=∃es',aV w' base g m d.pw d.room es' ∧bI FE.f es' =d.fs∧Fr (aI g m es) w w' ∧∀k,aI g m es' k->aI g m es k∨w.heap.size<=k
abbrev bH (p:fT) (room:Int) (es:List (Nm×FE)):DkD:=⟨p,room,bI FE.f es⟩
theorem bG.mk' {w w' :World}{base g m:Nat}{p:fT}{room:Int}{es:List (Nm×FE)}(h:aV w' base g m p room es)(a:Fr (aI g m es) w w'):bG w base g m es (bH p room es) w' :=⟨es,h,rfl,a,fun k b=>.inl b⟩
theorem aV.e7{w:World}{base g m:Nat}{p:fT}{room:Int}{es:List (Nm×FE)}(h:aV w base g m p room es)(k:Nat):aV (w.drewN k) base g m p room es:=h.b1 (lR _) fun _ _=>rfl
theorem Fr.e7{mine:Nat->Prop}{w w' :World}(h:Fr mine w w')(k:Nat):Fr mine w (w'.drewN k):=⟨h.os,h.tape,h.output,h.size,h.block⟩
theorem aN1(room:Int)(t:I6 room)(w:World):
  Calls Tryz.prog 8 #[room] w fun e m =>e=.returned (.pointer (some ⟨w.heap.size+1,0,none⟩))∧aV m w (w.heap.size+1) w ⟨false,false,0,0⟩ (max room 0) []∧Below w w m :=by
 have u:=@run_makeMap Tryz.prog;have n:=J t;have p:∀r:Int,0<=r->r<=9223372036854775807->aV ((w.alloc (.map #[] 0)).alloc (.cells #[.bool false,.bool false,.int .i64 0,.int .i64 0,r,.map (some w)] 61)) w (w.heap.size+1) w ⟨false,false,0,0⟩ r []:=fun r f h=>by
  have l:(w.alloc (.map #[] 0)).heap.size=w+1:=by simp
  have k:=aS.new (w.alloc (.map #[] 0)) 61 #[.bool false,.bool false,.int .i64 0,.int .i64 0,r,.map (some w)];rw[l] at k;exact⟨k,(dA.made Tryz.prog 9 w).b1 (Below.heap_alloc _ _ _ (by rw[l];omega)),fun q c=>(by cases c),fun q c=>(by cases c),fun q c=>(by cases c),fun a b s=>(by cases s),⟨O,O,fun q c=>(by cases c)⟩,⟨by decide,δ⟩,⟨by decide,δ⟩,f,h⟩
 have g:=J p;have j:∀r:Int,Hq (Below w w ((w.alloc (.map #[] 0)).alloc (.cells #[.bool false,.bool false,.int .i64 0,.int .i64 0,r,.map (some w)] 61))):=fun r=>J (((lS _ w).alloc (lR _) _).alloc σ _)
 rcases Int.lt_or_le room 0 with f|f
 ·have e:max room 0=0:=O
  rw[e];have d:=j 0;have i:=J e;go_enter Tryz.func8,Tryz.ntmps8;go_wp2;go_ret
  first|exact⟨rfl,g.o 0 (Int.le_refl _) O,d.o⟩|(rw[i.o];exact⟨rfl,g.o 0 (Int.le_refl _) O,d.o⟩)
 have e:max room 0=room:=O;rw[e];have d:=j room;have h:=n.o.2;have i:=J e;go_enter Tryz.func8,Tryz.ntmps8;go_wp2;go_ret
 first|exact⟨rfl,g.o room f h,d.o⟩|(rw[i.o];exact⟨rfl,g.o room f h,d.o⟩)
theorem qD{w:World}{base g m:Nat}{p:fT}{room:Int}{es:List (Nm×FE)}(h:aV w base g m p room es):
  Calls Tryz.prog 31 #[(g,0)] w fun e l =>e=.returned (.tuple #[.bool p.cut.1,.int .i64 p.cut.2.1])∧aV l base g m p.cut.2.2 room es∧Fr (aI g m es) w l ∧l.heap.size=w:=by
 obtain⟨⟨t,u,v,x,A,B⟩,C,D,E,F⟩:=gL h.b4;have H:=J h;obtain⟨⟨r,q⟩,y,z⟩:=h.num;have n:=J (And.intro y z);obtain⟨c,d,a,b⟩:=p;simp only at t u v x r q;cases d with
 |false=>
  go_enter Tryz.func31,Tryz.ntmps31;go_wp2;go_ret2;exact⟨rfl,H.o,Fr.refl _ _,rfl⟩
 |true=>
  by_cases s:0<a
  ·have f:=aA w g 2 (.int .i64 (a-1))
   have e:fT.cut ⟨c,true,a,b⟩=(false,0,⟨c,true,a-1,b⟩):=by simp[fT.cut,s]
   have i:Hq (aV (w.setCell (g,2) (.int .i64 (a-1))) base g m ⟨c,true,a-1,b⟩ room es):=J (H.o.j6 f (aS.b8 H.o.b4 2 _) ⟨⟨by show _<=a-1;omega,by show a-1<=_;omega⟩,n.o⟩);have j:Hq (Fr (aI g m es) w (w.setCell (g,2) (.int .i64 (a-1)))):=J (Fr.e2 f (fun k e=>by injection e with e;exact .inl e.symm));rw[e];go_enter Tryz.func31,Tryz.ntmps31;go_wp2;go_ret2;exact⟨rfl,i.o,j.o,σ⟩
  have f:=aF (aA w g 1 (.bool false)) (aA (w.setCell (g,1) (.bool false)) g 0 (.bool true)) (.inl rfl);have e:fT.cut ⟨c,true,a,b⟩=(true,b,⟨true,false,a,b⟩):=by simp[fT.cut,s]
  have i:Hq (aV ((w.setCell (g,1) (.bool false)).setCell (g,0) (.bool true)) base g m ⟨true,false,a,b⟩ room es):=J (H.o.j6 f (aS.b8 (aS.b8 H.o.b4 1 _) 0 _) ⟨⟨r,q⟩,n.o⟩);have j:Hq (Fr (aI g m es) w ((w.setCell (g,1) (.bool false)).setCell (g,0) (.bool true))):=J (Fr.e2 f (fun k e=>by injection e with e;exact .inl e.symm));rw[e];go_enter Tryz.func31,Tryz.ntmps31;go_wp2;go_quiet (fail);go_wp2;go_ret2;exact⟨rfl,i.o.e7 _,j.o.e7 _,σ⟩
theorem bW7{w:World}{base g m:Nat}{p:fT}{room:Int}{es:List (Nm×FE)}(h:aV w base g m p room es):
  Calls Tryz.prog 45 #[(g,0)] w fun e a =>e=.returned (.bool (! p.off))∧w=a :=by
 obtain⟨⟨b,c,d,f,i,j⟩,k,l,n,o⟩:=gL h.b4;go_enter Tryz.func45,Tryz.ntmps45;go_wp2;go_ret;exact⟨rfl,rfl⟩
def oL(n:Nm):Bool:= ! n.isEmpty&&decide (n.length<=32)
theorem aE3(s:ByteArray)(w:World)(h:s.size<=140737488351232):Calls Tryz.prog 28 #[.string s] w fun e d =>e=.returned (.bool (oL s.data.toList))∧w=d :=by
 have g:s.data.toList=s.size:=by simp
 by_cases a:s.data.toList=[]
 ·have e:oL s.data.toList=false:=by simp[oL,a]
  rw[e];obtain⟨⟨l⟩⟩:=s;simp only at a;subst a;go_enter Tryz.func28,Tryz.ntmps28;go_wp2;go_ret;exact⟨rfl,rfl⟩
 have f:s.toList.isEmpty=false:=by
  rw[toList_eq];exact List.isEmpty_eq_false_iff.2 a
 by_cases c:s.size<=32
 ·have e:oL s.data.toList=true:=by simp[oL];exact⟨by simpa using a,c⟩
  have b:(s.size:Int)<=32:=O;rw[e];go_enter Tryz.func28,Tryz.ntmps28;go_wp2;go_ret;exact⟨rfl,rfl⟩
 have e:oL s.data.toList=false:=by simp[oL];intro _;show 32<s.size;omega
 have b:¬(s.size:Int)<=32:=O;rw[e];go_enter Tryz.func28,Tryz.ntmps28;go_wp2;go_ret;exact⟨rfl,rfl⟩
theorem aN0(n k:Int)(p:I6 n)(d:1<=k∧k<=4611686018427387904)(w:World):Calls Tryz.prog 32 #[n,k] w fun e f =>e=.returned (.int .i64 (n %k))∧w=f :=by
 obtain⟨h,i⟩:=d;have j:-k<n.tmod k:=ω1 (Int.lt_tmod_of_pos n (show 0<k by omega));have l:n.tmod k<k:=Int.tmod_lt_of_pos n O;have b:(n.tmod k+k) %k=n %k:=by
  rw[Int.add_emod_right];have m:=Int.mul_tdiv_add_tmod n k;have c:n.tmod k=n+(-(n.tdiv k))*k:=by rw[Int.neg_mul,Int.mul_comm];omega
  rw[c,Int.add_mul_emod_self_right]
 have a:=J b;have g:¬k=0:=O;go_enter Tryz.func32,Tryz.ntmps32;go_wp2;go_ret;exact⟨by rw[a.o];rfl,rfl⟩
theorem mV{w:World}{base g m:Nat}{p:fT}{room:Int}{es:List (Nm×FE)}(h:aV w base g m p room es)(s:ByteArray)(x:s.size<=140737488351232){a:FE}(c:aX s.data.toList es=some a)(d:p.off=false):
  Calls Tryz.prog 106 #[(g,0),.string s] w fun e i =>e=.returned (.tuple #[(a.b4,0),.int .i64 0])∧w=i :=by
 obtain⟨⟨f,k,l,n,o,q⟩,r,t,u,v⟩:=gL h.b4;have b:=h.map.get Tryz.underlying9 Tryz.underlying59 (nB w) s μ;rw[fA,c] at b;have j:(Instr.lookup 59 (.map (some m)) (.string s) false).run Tryz.prog w=.ok (.pointer (a.b4,0)) w:=b;rw[d] at f;clear h b c d;go_enter Tryz.func106,Tryz.ntmps106;go_wp2;go_ret2;exact⟨rfl,rfl⟩
theorem oG{w:World}{base g m:Nat}{p:fT}{room:Int}{es:List (Nm×FE)}(h:aV w base g m p room es)(s:ByteArray)(v:s.size<=140737488351232)(b:aX s.data.toList es=none)(c:p.off=false):
  Calls Tryz.prog 106 #[(g,0),.string s] w fun e f =>e=.returned (.tuple #[.pointer none,.int .i64 51])∧w=f :=by
 obtain⟨⟨d,j,k,l,n,o⟩,q,r,t,u⟩:=gL h.b4;have a:=h.map.get Tryz.underlying9 Tryz.underlying59 (nB w) s μ;rw[fA,b] at a;have i:(Instr.lookup 59 (.map (some m)) (.string s) false).run Tryz.prog w=.ok (.pointer none) w:=a;rw[c] at d;clear h a b c;go_enter Tryz.func106,Tryz.ntmps106;go_wp2;go_ret2;exact⟨rfl,rfl⟩
theorem oF{w:World}{base g m:Nat}{p:fT}{room:Int}{es:List (Nm×FE)}(h:aV w base g m p room es)(s:ByteArray)(t:s.size<=140737488351232)(b:p.off=true):
  Calls Tryz.prog 106 #[(g,0),.string s] w fun e c =>e=.returned (.tuple #[.pointer none,.int .i64 50])∧w=c :=by
 obtain⟨⟨a,d,f,i,j,k⟩,l,n,o,q⟩:=gL h.b4;have r:=h.map.get Tryz.underlying9 Tryz.underlying59 (nB w) s μ;rw[b] at a;go_enter Tryz.func106,Tryz.ntmps106;go_wp2;go_ret2;exact⟨rfl,rfl⟩
theorem tI{w:World}{base g m:Nat}{p:fT}{room:Int}{es:List (Nm×FE)}(h:aV w base g m p room es)(n8:bC (bI FE.f es)<=4611686018427387904):
  Calls Tryz.prog 29 #[(g,0)] w fun e w' =>e=.returned (.int .i64 (room-bC (bI FE.f es)))∧Below w w w' :=by
 obtain⟨⟨x,c1,c2,c3,c4,c5⟩,f0,f1,f2,f3⟩:=gL h.b4;have H:=J h;obtain⟨_,_,m8,m9⟩:=h.num;clear h;go_enter Tryz.func29,Tryz.ntmps29;go_wp2_with (refine vJ rfl (.tmp 13) 59 rfl Tryz.underlying9 Tryz.underlying59 H.o.map rfl ?_;intro w1 a X N W m6);have Y:iT es a=es:=by
  unfold iT;rw[List.filter_eq_self];exact fun q hq=>N (q.1,q.2.b4) (mF.2 ⟨q,hq,rfl⟩)
 have U:=J Y;have T:=J X;have P:=J (fD W);have n5:=dD (bI FE.f es);clear Y X W N m6 x c1 c2 c3 c4 c5 f0 f1 f2 f3;go_frame;go_loopw [3,5] (fun n f wr=>∃(a:Lit->Bool) (cnt:Nat),n=.int .i64 (room-bC (bI FE.f es)+bC (bI FE.f (iT es a)))∧Hq (oU Tryz.prog 9 wr m w (bI FE.b4 es) a cnt)∧Hq (Below w w wr)) (fun _ _ wr=>wr.rangeLeft m w)
 case atStart=>exact⟨a,_,by rw[U.o];go_num,T,P⟩
 obtain⟨a,cnt,rfl,C,u⟩:=hrel;clear T P U;have m3:=aH1 es a;have F:=H.o.rising;go_wp2_with (refine xO rfl (.tmp 14) rfl Tryz.underlying9 C.o rfl (fun i=>Hq.o ?_) (fun s fb K y B j l r t I hen=>Hq.o ?_))
 ·refine J ?_
  have S:iT es a=[]:=by
   unfold iT;rw[List.filter_eq_nil_iff];intro q _;rw[i];simp
  have e:room-bC (bI FE.f es)+bC (bI FE.f (iT es a))=room-bC (bI FE.f es):=by rw[S];simp[bC]
  rw[e];clear S e i C m3 F;go_wp2;go_ret;exact⟨rfl,u.o⟩
 refine J ?_;rw[fA,Option.map_eq_some_iff] at B;obtain⟨d,E,rfl⟩:=B;have D:=bY E;have G:aS w d.b4 83 #[d.v,d.f.b5]:=H.o.file _ D;have l9:=G.lt;have V:aS K d.b4 83 #[d.v,d.f.b5]:=(t.block d.b4 (ω1 u.o.size) (fun e=>by injection e with e;omega)).trans ((u.o.block d.b4 l9).trans G);obtain⟨A,c,R,_,_,_⟩:=(H.o.e9 _ D).b3;have x:=V.cell 0;have Z:d.v=.slice A d.f.b c:=R;simp only[Z] at x;have m7:K.cell? (d.b4,0)=some (.slice A d.f.b c):=x;have M:bC (bI FE.f (iT es a))=(d.f.b:Int)+bC (bI FE.f (iT es (fun z=>a z&& ! z.sameKey (.string s.data.toList)))):=by
  have h1:=aT0 F E j;have h2:=bA3 (h1.map fun q=>(q.1,q.2.f));exact h2
 have HS:=J M;have m5:=dD (bI FE.f (iT es (fun z=>a z&& ! z.sameKey (.string s.data.toList))));have l7:=J l;have l6:=J (u.o.grown t u.o.size (fun k Q=>by injection Q with Q;omega));have L:K.rangeLeft m w<wr.rangeLeft m w:=by rw[World.ranges.left_eq l,World.ranges.left_eq C.o];exact r
 have l8:(d.f.b:Int)<=bC (bI FE.f (iT es a)):=O;have HM:=J L;clear M l t E G V x R Z D r I j F L C u;go_wp2;go_roundw
 case rel=>exact⟨_,y,by rw[HS.o];go_num,l7,l6⟩
 case measure=>exact HM.o
theorem aB8{P:Program}{k e:TypeId}{w:World}{m:Nat}{l:List (Nm×Nat)}{o:Oper}{a:Act}{K:Act->World->Prop}{Q:Exit->Act->World->Prop}(c d:Operand)(t:TypeId)(g:o.op=Op.call {callee:=Callee.builtin Builtin.delete,args:=#[c,d],argTypes:=#[t,k]})(j:P.underlying k=some .string)(q:P.underlying t=some (.map k e))(h:dA P k w m l)(s:ByteArray)(p:s.size<=maxLen)
  (n:a.eval c=.map (some m)) (hx:a.eval d=.string s) (i:∀b,dA P k b m (bE s.data.toList l)->w.grownBy b (some m)->K (a.put o.dst (.tuple #[])) b):o.wp P a w K Q:=by
 obtain⟨b,f,r,u⟩:=h.del j q s p o.type;unfold Oper.wp;simp[execOp,g,resolve,invoke,builtin,n,hx,f,Result.andThen];exact i b r u
section
variable{w w1 w2 w' :World}{base g m:Nat}{p p' :fT}{room:Int}{es:List (Nm×FE)}
theorem lO{n:Nm}{a:FE}(h:aX n es=some a):aI g m es a.b4:=.inr (.inr ⟨_,bY h,.inl rfl⟩)
theorem yJ{n:Nm}{a:FE}(h:aX n es=some a){k:Nat}(b:a.v.ownBlock=some k):aI g m es k:=.inr (.inr ⟨_,bY h,.inr b⟩)
theorem bG.j0(y:aV w1 base g m p' room es)(l:Fr (aI g m es) w w1){n:Nm}{c:FE}(q:aX n es=some c)(v:Value)(f:FD)(u:w1.heap.size<=w2)(i:aS w2 c.b4 83 #[v,f.b5])(p:eR w2 base v f.b)(h:f.b5<=f.b)
  (a:∀k,v.ownBlock=some k->c.v.ownBlock=some k∨w1.heap.size<=k) (o:∀k,k<w1.heap.size->k≠c.b4->c.v.ownBlock≠some k->w2.heap[k]? =w1.heap[k]?) (d:w2.os=w1.os∧w2.tape=w1.tape∧w2.output=w1.output):
  bG w base g m es ⟨p',room,aW n f (bI FE.f es)⟩ w2:=
 ⟨aW n ⟨c.b4,v,f⟩ es,y.j0 q v f u i p h a o,by rw[fB],l.trans ⟨d.1,d.2.1,d.2.2,u,fun k s t=>o k s (fun e=>t (by rw[e];exact lO q)) (fun e=>t (yJ q e))⟩ (fun j z=>.inl z),
  fun k s=>tH s (fun e=>.inl (by have x :c.b4=k:=e;rw[<-x];exact lO q)) (fun e=>by
   rcases a k e with r|r
   exact .inl (yJ q r);exact .inr (mM l.size r))⟩
theorem pA{n:Nm}(h:aX n es=none):aX n (bI FE.f es)=none:=by rw[fA,h];rfl
theorem iC{n:Nm}{a:FE}(h:aX n es=some a):aX n (bI FE.f es)=some a.f:=by rw[fA,h];rfl
theorem bE9(h:aV w base g m p room es)(s:ByteArray)(y:s.size<=140737488351232):
  Calls Tryz.prog 110 #[(g,0),.string s] w fun e w' =>e=.returned (.int .i64 ((bH p room es).sync s.data.toList).1)∧bG w base g m es ((bH p room es).sync s.data.toList).2 w' :=by
 have H:=J h;by_cases d:p.off=true
 ·have e:(bH p room es).sync s.data.toList=(50,bH p room es):=by unfold DkD.sync;rw[if_pos d]
  rw[e];have a:=J (oF h s y d);clear h e;go_enter Tryz.func110,Tryz.ntmps110;go_wp2_with fail;refine a.o.mono ?_;rintro e w' ⟨rfl,rfl⟩;go_wp2;go_ret;exact⟨rfl,bG.mk' H.o (Fr.refl _ _)⟩
 have u:p.off=false:=by simpa using d
 cases hg:aX s.data.toList es with
 |none=>
  have e:(bH p room es).sync s.data.toList=(51,bH p room es):=by unfold DkD.sync;rw[if_neg d];simp only[pA hg]
  rw[e];have a:=J (oG h s y hg u);clear h e;go_enter Tryz.func110,Tryz.ntmps110;go_wp2_with fail;refine a.o.mono ?_;rintro e w' ⟨rfl,rfl⟩;go_wp2;go_ret;exact⟨rfl,bG.mk' H.o (Fr.refl _ _)⟩
 |some fe=>
  obtain⟨c,n⟩:=eX p.cut;obtain⟨N,F,p'⟩:=c;have a:=J (mV h s y hg u);have hcut:=J (qD h);rw[<-n] at hcut;cases N with
  |true=>
   have e:(bH p room es).sync s.data.toList=(50,bH p' room es):=by unfold DkD.sync;rw[if_neg d];simp only[iC hg];rw[<-n];rfl
   rw[e];clear h e d u hg n;go_enter Tryz.func110,Tryz.ntmps110;go_wp2_with fail;refine a.o.mono ?_;rintro e w' ⟨rfl,rfl⟩;go_wp2_with fail;refine hcut.o.mono ?_;rintro e w1 ⟨rfl,i,l,z⟩;have G:=J (bG.mk' i l);clear i l z a hcut;go_wp2;go_ret;exact⟨rfl,G.o⟩
  |false=>
   have e:(bH p room es).sync s.data.toList=(0,⟨p',room,aW s.data.toList ⟨fe.f.b,fe.f.b⟩ (bI FE.f es)⟩):=by unfold DkD.sync;rw[if_neg d];simp only[iC hg];rw[<-n];rfl
   rw[e];have B:=J hg;clear h e d u hg n;go_enter Tryz.func110,Tryz.ntmps110;go_wp2_with fail;refine a.o.mono ?_;rintro e w' ⟨rfl,rfl⟩;go_wp2_with fail;refine hcut.o.mono ?_;rintro e w1 ⟨rfl,i,l,z⟩;have x:=bY B.o;have j:aS w1 fe.b4 83 #[fe.v,fe.f.b5]:=i.file _ x;have t:eR w1 base fe.v fe.f.b:=i.e9 _ x;obtain⟨A,c,E,_,_,_⟩:=t.b3;have I:=j.c 0;have P:=j.c 1;have Q:=j.a6 1;rw[E] at I;have r:=aA w1 fe.b4 1 (.int .i64 (fe.f.b:Int));have C:bG w base g m es ⟨p',room,aW s.data.toList ⟨fe.f.b,fe.f.b⟩ (bI FE.f es)⟩ (w1.setCell (fe.b4,1) (.int .i64 (fe.f.b:Int))):=
    bG.j0 i l B.o fe.v ⟨fe.f.b,fe.f.b⟩ σ (aS.b8 j 1 _) (t.kept (fun q M=>Below.heap_setCell w1 _ _ q (fun e=>cW t j δ (by rw[M,e]))) σ) (lR _) (fun k D=>.inl D) (fun k D L R=>Below.heap_setCell w1 _ _ k (fun e=>L e)) ⟨r.os,r.tape,r.output⟩
   have K:=J C;clear C i l j t E x z r a hcut;go_wp2;go_ret;exact⟨rfl,K.o⟩
theorem uQ(h:aV w base g m p room es)(s:ByteArray)(l:s.size<=140737488351232)(r:∀q∈es,q.2.f.b.length<=140737488351232):
  Calls Tryz.prog 69 #[(g,0),.string s] w fun e w' =>∃v,e=.returned (.tuple #[v,.int .i64 ((bH p room es).read s.data.toList).2])∧Bs w' w v ((bH p room es).read s.data.toList).1∧Below w w w' :=by
 by_cases d:p.off=true
 ·have e:(bH p room es).read s.data.toList=([],50):=by unfold DkD.read;rw[if_pos d]
  rw[e];have a:=J (oF h s l d);clear h e;go_enter Tryz.func69,Tryz.ntmps69;go_wp2_with fail;refine a.o.mono ?_;rintro e w' ⟨rfl,rfl⟩;go_wp2;go_ret2;exact⟨_,rfl,Own.nil _ _ _,lS _ _⟩
 have j:p.off=false:=by simpa using d
 cases hg:aX s.data.toList es with
 |none=>
  have e:(bH p room es).read s.data.toList=([],51):=by unfold DkD.read;rw[if_neg d];simp only[pA hg]
  rw[e];have a:=J (oG h s l hg j);clear h e;go_enter Tryz.func69,Tryz.ntmps69;go_wp2_with fail;refine a.o.mono ?_;rintro e w' ⟨rfl,rfl⟩;go_wp2;go_ret2;exact⟨_,rfl,Own.nil _ _ _,lS _ _⟩
 |some fe=>
  have e:(bH p room es).read s.data.toList=(fe.f.b,0):=by unfold DkD.read;rw[if_neg d];simp only[iC hg]
  rw[e];have a:=J (mV h s l hg j);have i:=bY hg;have x:aS w fe.b4 83 #[fe.v,fe.f.b5]:=h.file _ i;obtain⟨A,c,B,G,H,u⟩:=(h.e9 _ i).b3;have C:fe.v=.slice A fe.f.b c:=B;have D:=x.c 0;rw[C] at D;have z:=r _ i;have t:=J (oD A fe.f.b fe.f.b c rfl w u z);clear h e d j hg x B C u r i z;go_enter Tryz.func69,Tryz.ntmps69;go_wp2_with fail;refine a.o.mono ?_;rintro e w' ⟨rfl,rfl⟩;go_wp2_with fail;refine t.o.mono ?_;rintro e w1 ⟨v,rfl,k,y⟩;obtain⟨E,F,rfl,_,_,_⟩:=bF k;have n:=J (And.intro k y);clear k y t a;go_wp2;go_ret2;exact⟨_,rfl,n.o.1,n.o.2⟩
end
theorem aT4{P:Program}{k e:TypeId}{w:World}{m:Nat}{l:List (Nm×Nat)}{o:Oper}{a:Act}{K:Act->World->Prop}{Q:Exit->Act->World->Prop}(c i d:Operand)(t:TypeId)(b:o.op=Op.mapUpdate t c i d)(n:P.underlying k=some .string)(u:P.underlying t=some (.map k e))(h:dA P k w m l)(q:l<maxLen)(s:ByteArray)(r:s.size<=maxLen)(g:Nat)
  (p:a.eval c=.map (some m)) (hx:a.eval i=.string s) (v:a.eval d=.pointer (g,0)) (j:∀f,dA P k f m (aW s.data.toList g l)->w.grownBy f (some m)->K (a.put o.dst undef) f):o.wp P a w K Q:=aB9 c i d t b n u h q s r g p hx v j
section
variable{w w1 w2 w' :World}{base g m:Nat}{p p' :fT}{room:Int}{es:List (Nm×FE)}
theorem aV.deleted(h:aV w base g m p room es){n:Nm}(a:w.grownBy w' (some m))(b:dA Tryz.prog 9 w' m (bE n (bI FE.b4 es))):aV w' base g m p room (bE n es)∧Fr (aI g m es) w w' :=
 ⟨h.file_del a b,Fr.e2 a (fun k e=>by injection e with e;exact .inr (.inl e.symm))⟩
theorem aI5(h:aV w base g m p room es)(s:ByteArray)(L:s.size<=140737488351232)(b d:Nat)(r:aS w b 26 #[(g,0)])(t:aS w d 9 #[.string s]):
  Calls Tryz.prog 142 #[(b,0),(d,0)] w fun e w' =>e=.returned (.tuple #[])∧aV w' base g m p room (bE s.data.toList es)∧Fr (aI g m es) w w' :=by
 obtain⟨⟨z,A,B,C,D,j⟩,E,F,G,I⟩:=gL h.b4;have n:=r.c 0;have q:=t.c 0;have v:=J h.map;have H:=J h;have l:=J (show b≠m∧d≠m∧g≠m from⟨iH r h.map,iH t h.map,iH h.b4 h.map⟩);go_enter Tryz.func142,Tryz.ntmps142;refine wp_region_held_drew (S:=fun W=>W.cell? ⟨b,0,none⟩=some (.pointer (some ⟨g,0,none⟩))∧W.cell? ⟨d,0,none⟩=some (.string s)∧W.cell? ⟨g,5,none⟩=some (.map (some m))∧True) κ ⟨n,q,j,trivial⟩ (fun a=>?_);refine zT 0 (k:=zT 1 (k:=zT 2 (k:=zT 3 (k:=zT 4 (k:=?_)))));simp only[zA,zB,zF,zG,zC,zD,zE];refine zV 5 (k:=fun K y=>?_);simp only[zA,zB];rw[if_pos (by rfl)];refine aB8 (.tmp 5) (.tmp 6) 59 rfl Tryz.underlying9 Tryz.underlying59 v.o s μ rfl rfl ?_;intro w1 x f;have i:w.grownBy w1 (some m):=⟨f.os,f.tape,f.output,f.size,f.block⟩;have u:=J (H.o.deleted i x);refine y.out _ _ ⟨(mK (i.block b (mI w (b,0) n) (fun e=>by injection e with e;exact l.o.1 e))).trans n,(mK (i.block d (mI w (d,0) q) (fun e=>by injection e with e;exact l.o.2.1 e))).trans q,(mK (i.block g (mI w (g,5) j) (fun e=>by injection e with e;exact l.o.2.2 e))).trans j,trivial⟩ (fun a=>?_);try simp only[zF,zG,zC,zD,zE]
 refine wpAnyH_done κ ?_ _;go_wp2;go_end0;exact⟨rfl,u.o⟩
theorem aV.renamed(h:aV w base g m p room es){a b:Nm}{d:FE}(y:aX a es=some d)(j:w.grownBy w1 (some m))(x:aV w1 base g m p room (bE a es))(i:w1.grownBy w2 (some m))(z:dA Tryz.prog 9 w2 m (aW b d.b4 (bI FE.b4 (bE a es)))):
  aV w2 base g m p room (aW b d (bE a es))∧Fr (aI g m es) w w2∧∀k,aI g m (aW b d (bE a es)) k->aI g m es k∨w.heap.size<=k:=by
 have l:=bY y;have t:aS w d.b4 83 #[d.v,d.f.b5]:=h.file _ l;have s:eR w base d.v d.f.b:=h.e9 _ l;have u:=iH t h.map;have r:∀k,k<w.heap.size->k≠m->w2.heap[k]? =w.heap[k]? :=fun k c n=>(i.block k (Nat.lt_of_lt_of_le c j.size) (fun e=>n (by injection e))).trans (j.block k c (fun e=>n (by injection e)))
 refine⟨x.l1 d (fun q o _=>h.apart q (a,d) (eQ.1 o).1 l (eQ.1 o).2) i.size ((r d.b4 t.lt u).trans t) (s.kept (fun k c=>r k (s.row.lt k c) (fun e=>mW s h.map (by rw[c,e]))) (mM j.size i.size)) (h.b5 _ l) (h.low.2.2 (a,d) l) z (fun k c n=>i.block k c (fun e=>n (by injection e))),?_,fun k c=>?_⟩;exact⟨i.os.trans j.os,i.tape.trans j.tape,i.output.trans j.output,mM j.size i.size,fun k c n=>r k c (fun e=>n (.inr (.inl e)))⟩;rcases c with c|c|⟨q,o,c⟩
 exact .inl (.inl c);exact .inl (.inr (.inl c));rcases asPut_mem' o with rfl|⟨o,_⟩
 exact .inl (.inr (.inr ⟨(a,d),l,c⟩));exact .inl (.inr (.inr ⟨q,(eQ.1 o).1,c⟩))
theorem aI6(h:aV w base g m p room es)(s t:ByteArray)(hs:s.size<=140737488351232)(ht:t.size<=140737488351232){v:FE}(i6:aX s.data.toList es=some v)(j r l n:Nat)(L:aS w j 26 #[(g,0)])(M:aS w r 9 #[.string s])(N:aS w l 81 #[(v.b4,0)])(P:aS w n 9 #[.string t])(hl:es.length<4398046511104):
  Calls Tryz.prog 120 #[(j,0),(r,0),(l,0),(n,0)] w fun e w' =>e=.returned (.tuple #[])∧aV w' base g m p room (aW t.data.toList v (bE s.data.toList es))∧Fr (aI g m es) w w' ∧∀k,aI g m (aW t.data.toList v (bE s.data.toList es)) k->aI g m es k∨w.heap.size<=k:=by
 obtain⟨⟨c0,c1,c2,c3,c4,x⟩,f0,f1,f2,f3⟩:=gL h.b4;have y:=L.c 0;have F:=M.c 0;have V:=N.c 0;have X:=P.c 0;have U:=J h.map;have H:=J h;have b:=J (show j≠m∧r≠m∧g≠m∧l≠m∧n≠m from⟨iH L h.map,iH M h.map,iH h.b4 h.map,iH N h.map,iH P h.map⟩);have Y:=J i6;go_enter Tryz.func120,Tryz.ntmps120;go_upto_region 0 with fail
 go_cut [] (fun wx=>Hq (aV wx base g m p room (bE s.data.toList es))∧Hq (w.grownBy wx (some m)))
 case first=>
  refine wp_region_held_drew (S:=fun W=>W.cell? ⟨j,0,none⟩=some (.pointer (some ⟨g,0,none⟩))∧W.cell? ⟨r,0,none⟩=some (.string s)∧W.cell? ⟨g,5,none⟩=some (.map (some m))∧True) κ ⟨y,F,x,trivial⟩ (fun a=>?_);refine zT 0 (k:=zT 1 (k:=zT 2 (k:=zT 3 (k:=zT 4 (k:=?_)))));simp only[zA,zB,zF,zG,zC,zD,zE];refine zV 5 (k:=fun K I=>?_);simp only[zA,zB];rw[if_pos (by rfl)];refine aB8 (.tmp 7) (.tmp 8) 59 rfl Tryz.underlying9 Tryz.underlying59 U.o s μ rfl rfl ?_;intro w1 G d;have f:w.grownBy w1 (some m):=⟨d.os,d.tape,d.output,d.size,d.block⟩;have A:=J (H.o.deleted f G).1;have Z:=J f;refine I.out _ _ ⟨(mK (f.block j (mI w (j,0) y) (fun e=>by injection e with e;exact b.o.1 e))).trans y,(mK (f.block r (mI w (r,0) F) (fun e=>by injection e with e;exact b.o.2.1 e))).trans F,(mK (f.block g (mI w (g,5) x) (fun e=>by injection e with e;exact b.o.2.2.1 e))).trans x,trivial⟩ (fun a=>?_);try simp only[zF,zG,zC,zD,zE]
  refine wpAnyH_done κ ?_ _;go_wp2;go_meet;exact⟨A,Z⟩
 obtain⟨Q,R⟩:=hcut;have z:∀(q i:Nat) (u:Value),q≠m->w.cell? ⟨q,i,none⟩=some u->wc.cell? ⟨q,i,none⟩=some u:=fun q i u hq T=>(mK (w:=w) (R.o.block q (mI w ⟨q,i,none⟩ T) (fun e=>by injection e with e;exact hq e))).trans T
 have B:=z j 0 _ b.o.1 y;have C:=z l 0 _ b.o.2.2.2.1 V;have D:=z n 0 _ b.o.2.2.2.2 X;have E:=z g 5 _ b.o.2.2.1 x;have i4:=J Q.o.map;have j6:(bI FE.b4 (bE s.data.toList es)).length<maxLen:=by
  rw[lU];have:=List.length_filter_le (fun p:Nm×FE=> !(p.1==s.data.toList)) es;unfold bE maxLen;omega
 go_wp2_with fail;refine wp_region_held_drew (S:=fun W=>W.cell? ⟨j,0,none⟩=some (.pointer (some ⟨g,0,none⟩))∧W.cell? ⟨l,0,none⟩=some (.pointer (some ⟨v.b4,0,none⟩))∧W.cell? ⟨n,0,none⟩=some (.string t)∧W.cell? ⟨g,5,none⟩=some (.map (some m))) κ ⟨B,C,D,E⟩ (fun a=>?_);refine zT 0 (k:=zT 1 (k:=zT 2 (k:=zT 3 (k:=zT 4 (k:=zT 5 (k:=?_))))));simp only[zA,zB,zF,zG,zC,zD,zE];refine zV 6 (k:=fun K I=>?_);simp only[zA,zB];rw[if_pos (by rfl)];refine aT4 (.tmp 12) (.tmp 13) (.tmp 14) 59 rfl Tryz.underlying9 Tryz.underlying59 i4.o j6 t μ v.b4 rfl rfl rfl ?_;intro w1 G d;have f:wc.grownBy w1 (some m):=⟨d.os,d.tape,d.output,d.size,d.block⟩;have A:=J (H.o.renamed Y.o R.o Q.o f G);refine I.out _ _ ⟨(mK (f.block j (mI wc (j,0) B) (fun e=>by injection e with e;exact b.o.1 e))).trans B,(mK (f.block l (mI wc (l,0) C) (fun e=>by injection e with e;exact b.o.2.2.2.1 e))).trans C,(mK (f.block n (mI wc (n,0) D) (fun e=>by injection e with e;exact b.o.2.2.2.2 e))).trans D,(mK (f.block g (mI wc (g,5) E) (fun e=>by injection e with e;exact b.o.2.2.1 e))).trans E⟩ (fun a=>?_);try simp only[zF,zG,zC,zD,zE]
 refine wpAnyH_done κ ?_ _;go_wp2;go_end0;exact⟨rfl,A.o⟩
end
theorem aH6(n:Int):n.tmod 2=0↔n %2=0:=by
 have a:=Int.mul_tdiv_add_tmod n 2;have b:-2<n.tmod 2:=Int.lt_tmod_of_pos n O;have c:n.tmod 2<2:=Int.tmod_lt_of_pos n O;omega
section
variable{w w1 w2 w' :World}{base g m:Nat}{p p' :fT}{room:Int}{es:List (Nm×FE)}
theorem aV.e3(h:aV w base g m p room es){b:Nat}{T:TypeId}{cs:Array Value}(a:aS w b T cs)(d:T≠61)(f:T≠83)(i:T≠5):¬aI g m es b:=by
 rintro(e|e|⟨q,c,e|e⟩);exact blk_ne a h.b4 d e;exact iH a h.map e;exact blk_ne a (h.file q c) f e;exact cW (h.e9 q c) a i e
theorem Fr.h4{mine:Nat->Prop}(c:Fr mine w w'){b:Nat}{T:TypeId}{cs:Array Value}(a:aS w b T cs)(d:¬mine b):aS w' b T cs:=(c.block b a.lt d).trans a
theorem bG.step{b :List (Nm×FE)}{d:DkD}(c:Fr (aI g m es) w w1)(a8:∀k,aI g m b k->aI g m es k∨w1.heap.size<=k)(h:bG w1 base g m b d w2):bG w base g m es d w2:=by
 obtain⟨e,i,l,n,o⟩:=h;refine⟨e,i,l,c.trans n (fun j p=>by
  rcases a8 j p with a|a
  exact .inl a;exact .inr (mM c.size a)),fun k q=>?_⟩
 rcases o k q with a|a
 rcases a8 k a with f|f
 exact .inl f;exact .inr (mM c.size f);exact .inr (mM c.size a)
theorem bG.at_{a :List (Nm×FE)}(h:aV w' base g m p room a)(c:Fr (aI g m es) w w')(b:∀k,aI g m a k->aI g m es k∨w.heap.size<=k):bG w base g m es ⟨p,room,bI FE.f a⟩ w' :=⟨a,h,rfl,c,b⟩
theorem bU7(h:aV w base g m p room es)(s:ByteArray)(L:s.size<=140737488351232)(x y:Nat)(E:aS w x 26 #[(g,0)])(F:aS w y 9 #[.string s]):
  Calls Tryz.prog 107 #[(g,0),.func (.func 142) #[] #[(x,0),(y,0)]] w fun e w' =>e=.returned (.int .i64 ((bH p room es).e0 (bE s.data.toList (bI FE.f es))).1)∧bG w base g m es ((bH p room es).e0 (bE s.data.toList (bI FE.f es))).2 w' :=by
 have hcut:=J (qD h);have v:=J (And.intro h (And.intro E F));obtain⟨c,l⟩:=eX p.cut;obtain⟨A,a,p'⟩:=c;rw[<-l] at hcut;have r:∀w1,aV w1 base g m p' room es->Fr (aI g m es) w w1->Hq (Calls Tryz.prog 142 #[(x,0),(y,0)] w1 fun e w' =>e=.returned (.tuple #[])∧bG w base g m es ⟨p',room,bE s.data.toList (bI FE.f es)⟩ w'):=fun w1 d b=>J (by
  obtain⟨h,B,C⟩:=v.o;refine(aI5 d s L x y (b.h4 B (h.e3 B δ δ δ)) (b.h4 C (h.e3 C δ δ δ))).mono ?_;rintro e w' ⟨rfl,G,H⟩;refine⟨rfl,?_⟩;rw[<-jF];exact bG.at_ G (b.trans H (fun j I=>.inl I)) (fun k K=>.inl (bO7 K)))
 have i:(if(A=false∨a %2≠0) then True else True):=by split<;>trivial
 clear i;cases A with
 |false=>
  have e:(bH p room es).e0 (bE s.data.toList (bI FE.f es))=(0,⟨p',room,bE s.data.toList (bI FE.f es)⟩):=by unfold DkD.e0;rw[<-l];simp
  rw[e];clear h e l v;go_enter Tryz.func107,Tryz.ntmps107;go_wp2_with fail;refine hcut.o.mono ?_;rintro e w1 ⟨rfl,d,b,t⟩;have i:=r w1 d b;clear d b t hcut r;go_wp2_with fail;refine i.o.mono ?_;rintro e w2 ⟨rfl,u⟩;have q:=J u;clear u i;go_wp2;go_ret;exact⟨rfl,q.o⟩
 |true=>
  by_cases n:a %2=0
  ·have e:(bH p room es).e0 (bE s.data.toList (bI FE.f es))=(50,bH p' room es):=by unfold DkD.e0;rw[<-l];simp[n]
   rw[e];have z:=(aH6 a).2 n;have D:(a.tmod 2 !=0)=false:=by simp[z]
   clear h e l v r n;go_enter Tryz.func107,Tryz.ntmps107;go_wp2_with fail;refine hcut.o.mono ?_;rintro e w1 ⟨rfl,d,b,t⟩;have q:=J (bG.mk' d b);clear d b t hcut;go_wp2;go_ret;exact⟨rfl,q.o⟩
  have e:(bH p room es).e0 (bE s.data.toList (bI FE.f es))=(50,⟨p',room,bE s.data.toList (bI FE.f es)⟩):=by unfold DkD.e0;rw[<-l];simp[n]
  rw[e];have z:¬a.tmod 2=0:=fun e=>n ((aH6 a).1 e)
  have D:(a.tmod 2 !=0)=true:=by simpa using z
  clear h e l v n;go_enter Tryz.func107,Tryz.ntmps107;go_wp2_with fail;refine hcut.o.mono ?_;rintro e w1 ⟨rfl,d,b,t⟩;have i:=r w1 d b;clear d b t hcut r;go_wp2_with fail;refine i.o.mono ?_;rintro e w2 ⟨rfl,u⟩;have q:=J u;clear u i;go_wp2;go_ret;exact⟨rfl,q.o⟩
theorem bU8(h:aV w base g m p room es)(s t:ByteArray)(X:s.size<=140737488351232)(Y:t.size<=140737488351232){d:FE}(M:aX s.data.toList es=some d)(z A B C:Nat)(P:aS w z 26 #[(g,0)])(Q:aS w A 9 #[.string s])(R:aS w B 81 #[(d.b4,0)])(E:aS w C 9 #[.string t])(W:es.length<4398046511104):
  Calls Tryz.prog 107 #[(g,0),.func (.func 120) #[] #[(z,0),(A,0),(B,0),(C,0)]] w fun e w' =>e=.returned (.int .i64 ((bH p room es).e0 (aW t.data.toList d.f (bE s.data.toList (bI FE.f es)))).1)∧bG w base g m es ((bH p room es).e0 (aW t.data.toList d.f (bE s.data.toList (bI FE.f es)))).2 w' :=by
 have hcut:=J (qD h);have y:=J (And.intro h (And.intro P (And.intro Q (And.intro R E))));obtain⟨c,n⟩:=eX p.cut;obtain⟨G,a,p'⟩:=c;rw[<-n] at hcut;have u:∀w1,aV w1 base g m p' room es->Fr (aI g m es) w w1->Hq (Calls Tryz.prog 120 #[(z,0),(A,0),(B,0),(C,0)] w1 fun e w' =>e=.returned (.tuple #[])∧bG w base g m es ⟨p',room,aW t.data.toList d.f (bE s.data.toList (bI FE.f es))⟩ w'):=fun w1 i b=>J (by
  obtain⟨h,H,I,K,L⟩:=y.o;refine(aI6 i s t X Y M z A B C (b.h4 H (h.e3 H δ δ δ)) (b.h4 I (h.e3 I δ δ δ)) (b.h4 K (h.e3 K δ δ δ)) (b.h4 L (h.e3 L δ δ δ)) W).mono ?_;rintro e w' ⟨rfl,E,S,T⟩;refine⟨rfl,?_⟩;rw[<-jF,<-fB FE.f];exact bG.at_ E (b.trans S (fun j U=>.inl U)) (fun k V=>by
   rcases T k V with F|F
   exact .inl F;exact .inr (mM b.size F)))
 have l:(if(G=false∨a %2≠0) then True else True):=by split<;>trivial
 clear l;cases G with
 |false=>
  have e:(bH p room es).e0 (aW t.data.toList d.f (bE s.data.toList (bI FE.f es)))=(0,⟨p',room,aW t.data.toList d.f (bE s.data.toList (bI FE.f es))⟩):=by unfold DkD.e0;rw[<-n];simp
  rw[e];clear h e n y;go_enter Tryz.func107,Tryz.ntmps107;go_wp2_with fail;refine hcut.o.mono ?_;rintro e w1 ⟨rfl,i,b,v⟩;have l:=u w1 i b;clear i b v hcut u;go_wp2_with fail;refine l.o.mono ?_;rintro e w2 ⟨rfl,x⟩;have r:=J x;clear x l;go_wp2;go_ret;exact⟨rfl,r.o⟩
 |true=>
  by_cases q:a %2=0
  ·have e:(bH p room es).e0 (aW t.data.toList d.f (bE s.data.toList (bI FE.f es)))=(50,bH p' room es):=by unfold DkD.e0;rw[<-n];simp[q]
   rw[e];have D:=(aH6 a).2 q;have N:(a.tmod 2 !=0)=false:=by simp[D]
   clear h e n y u q;go_enter Tryz.func107,Tryz.ntmps107;go_wp2_with fail;refine hcut.o.mono ?_;rintro e w1 ⟨rfl,i,b,v⟩;have r:=J (bG.mk' i b);clear i b v hcut;go_wp2;go_ret;exact⟨rfl,r.o⟩
  have e:(bH p room es).e0 (aW t.data.toList d.f (bE s.data.toList (bI FE.f es)))=(50,⟨p',room,aW t.data.toList d.f (bE s.data.toList (bI FE.f es))⟩):=by unfold DkD.e0;rw[<-n];simp[q]
  rw[e];have D:¬a.tmod 2=0:=fun e=>q ((aH6 a).1 e)
  have N:(a.tmod 2 !=0)=true:=by simpa using D
  clear h e n y q;go_enter Tryz.func107,Tryz.ntmps107;go_wp2_with fail;refine hcut.o.mono ?_;rintro e w1 ⟨rfl,i,b,v⟩;have l:=u w1 i b;clear i b v hcut u;go_wp2_with fail;refine l.o.mono ?_;rintro e w2 ⟨rfl,x⟩;have r:=J x;clear x l;go_wp2;go_ret;exact⟨rfl,r.o⟩
end
section
variable{w w1 w2 w' :World}{base g m:Nat}{p p' :fT}{room:Int}{es:List (Nm×FE)}
theorem aN2(h:aV w base g m p room es)(s:ByteArray)(n:s.size<=140737488351232):
  Calls Tryz.prog 97 #[(g,0),.string s] w fun e w' =>e=.returned (.int .i64 ((bH p room es).b6 s.data.toList).1)∧bG w base g m es ((bH p room es).b6 s.data.toList).2 w' :=by
 have j:=((lS w w).alloc (lR _) (.cells #[(g,0)] 26)).alloc σ (.cells #[.string s] 9);have l:(w.alloc (.cells #[(g,0)] 26)).heap.size=w+1:=by simp
 have i:=(aS.new w 26 #[(g,0)]).alloc (.cells #[.string s] 9);have c:=aS.new (w.alloc (.cells #[(g,0)] 26)) 9 #[.string s];rw[l] at c;have a:=h.a1 j;have z:=i.cell 0;have A:=c.cell 0;simp only[List.getElem?_toArray,List.getElem?_cons_zero] at z A;have r:=J (Fr.b9 (aI g m es) j);by_cases d:p.off=true
 ·have e:(bH p room es).b6 s.data.toList=(50,bH p room es):=by unfold DkD.b6;rw[if_pos d]
  rw[e];have b:=J (oF a s n d);have q:=J a;clear h e a j i c l;go_enter Tryz.func97,Tryz.ntmps97;go_wp2_with fail;refine b.o.mono ?_;rintro e w' ⟨rfl,rfl⟩;go_wp2;go_ret;exact⟨rfl,bG.mk' q.o r.o⟩
 have t:p.off=false:=by simpa using d
 cases hg:aX s.data.toList es with
 |none=>
  have e:(bH p room es).b6 s.data.toList=(51,bH p room es):=by unfold DkD.b6;rw[if_neg d];simp only[pA hg]
  rw[e];have b:=J (oG a s n hg t);have q:=J a;clear h e a j i c l;go_enter Tryz.func97,Tryz.ntmps97;go_wp2_with fail;refine b.o.mono ?_;rintro e w' ⟨rfl,rfl⟩;go_wp2;go_ret;exact⟨rfl,bG.mk' q.o r.o⟩
 |some fe=>
  have e:(bH p room es).b6 s.data.toList=(bH p room es).e0 (bE s.data.toList (bI FE.f es)):=by unfold DkD.b6;rw[if_neg d];simp only[iC hg]
  rw[e];have b:=J (mV a s n hg t);have u:=J (bU7 a s n w (w.heap.size+1) i c);obtain⟨R,v⟩:=eX ((bH p room es).e0 (bE s.data.toList (bI FE.f es)));rw[<-v] at u⊢;clear h e a j i c l hg d t v;go_enter Tryz.func97,Tryz.ntmps97;go_wp2_with fail;refine b.o.mono ?_;rintro e w' ⟨rfl,rfl⟩;go_wp2_with fail;refine u.o.mono ?_;rintro e w1 ⟨rfl,x⟩;have y:=J (bG.step r.o (fun k B=>.inl B) x);clear x u b;go_wp2;go_ret;exact⟨rfl,y.o⟩
theorem nameB_false{t:Nm}(h:oL t=false):t=[]∨32<t.length:=by
 by_cases a:t=[];exact .inl a;right;unfold oL at h;simp[a] at h;exact h
theorem yY{t:Nm}(h:oL t=true):¬t=[]∧¬32<t.length:=by
 unfold oL at h;simp at h;exact⟨h.1,O⟩
theorem aN3(h:aV w base g m p room es)(s t:ByteArray)(I:s.size<=140737488351232)(U:t.size<=140737488351232)(hl:es.length<4398046511104):
  Calls Tryz.prog 71 #[(g,0),.string s,.string t] w fun e w' =>e=.returned (.int .i64 ((bH p room es).rename s.data.toList t.data.toList).1)∧bG w base g m es ((bH p room es).rename s.data.toList t.data.toList).2 w' :=by
 have r:=(((lS w w).alloc (lR _) (.cells #[(g,0)] 26)).alloc σ (.cells #[.string s] 9)).alloc θ (.cells #[.string t] 9);have A:(w.alloc (.cells #[(g,0)] 26)).heap.size=w+1:=by simp
 have u:((w.alloc (.cells #[(g,0)] 26)).alloc (.cells #[.string s] 9)).heap.size=w+1+1:=by simp
 have q:=((aS.new w 26 #[(g,0)]).alloc (.cells #[.string s] 9)).alloc (.cells #[.string t] 9);have l:=(aS.new (w.alloc (.cells #[(g,0)] 26)) 9 #[.string s]).alloc (.cells #[.string t] 9);have n:=aS.new ((w.alloc (.cells #[(g,0)] 26)).alloc (.cells #[.string s] 9)) 9 #[.string t];have v:(((w.alloc (.cells #[(g,0)] 26)).alloc (.cells #[.string s] 9)).alloc (.cells #[.string t] 9)).heap.size=w+1+1+1:=by simp
 rw[A] at l;rw[u] at n;have b:=h.a1 r;have Z:=q.cell 0;have e2:=l.cell 0;have e3:=n.cell 0;simp only[List.getElem?_toArray,List.getElem?_cons_zero] at Z e2 e3;have L:=J (Fr.b9 (aI g m es) r);by_cases c:p.off=true
 ·have e:(bH p room es).rename s.data.toList t.data.toList=(50,bH p room es):=by unfold DkD.rename;rw[if_pos c]
  rw[e];have i:=J (oF b s I c);have K:=J (bG.step L.o (fun k F=>.inl F) (bG.mk' (b.a1 ((lS _ _).alloc (lR _) (.cells #[.pointer none] 81))) (Fr.b9 _ ((lS _ _).alloc (lR _) _))));clear h e b r q l n A u v;go_enter Tryz.func71,Tryz.ntmps71;go_wp2_with fail;refine i.o.mono ?_;rintro e w' ⟨rfl,rfl⟩;go_wp2;go_ret;exact⟨rfl,K.o⟩
 have H:p.off=false:=by simpa using c
 cases hg:aX s.data.toList es with
 |none=>
  have e:(bH p room es).rename s.data.toList t.data.toList=(51,bH p room es):=by unfold DkD.rename;rw[if_neg c];simp only[pA hg]
  rw[e];have i:=J (oG b s I hg H);have K:=J (bG.step L.o (fun k F=>.inl F) (bG.mk' (b.a1 ((lS _ _).alloc (lR _) (.cells #[.pointer none] 81))) (Fr.b9 _ ((lS _ _).alloc (lR _) _))));clear h e b r q l n A u v;go_enter Tryz.func71,Tryz.ntmps71;go_wp2_with fail;refine i.o.mono ?_;rintro e w' ⟨rfl,rfl⟩;go_wp2;go_ret;exact⟨rfl,K.o⟩
 |some fe=>
  have i:=J (mV b s I hg H);have G:=(lS _ (((w.alloc (.cells #[(g,0)] 26)).alloc (.cells #[.string s] 9)).alloc (.cells #[.string t] 9))).alloc (lR _) (.cells #[(fe.b4,0)] 81);have y:=b.a1 G;have z:=J (aE3 t ((((w.alloc (.cells #[(g,0)] 26)).alloc (.cells #[.string s] 9)).alloc (.cells #[.string t] 9)).alloc (.cells #[(fe.b4,0)] 81)) U);have M:=J (L.o.trans (Fr.b9 (aI g m es) G) (fun j hj=>.inl hj));have C:=(q.alloc (.cells #[(fe.b4,0)] 81));have D:=(l.alloc (.cells #[(fe.b4,0)] 81));have E:=(n.alloc (.cells #[(fe.b4,0)] 81));have x:=aS.new (((w.alloc (.cells #[(g,0)] 26)).alloc (.cells #[.string s] 9)).alloc (.cells #[.string t] 9)) 81 #[(fe.b4,0)];rw[v] at x;have V:=C.cell 0;have W:=D.cell 0;have X:=E.cell 0;have Y:=x.cell 0;simp only[List.getElem?_toArray,List.getElem?_cons_zero] at V W X Y;cases hnb:oL t.data.toList with
  |false=>
   have e:(bH p room es).rename s.data.toList t.data.toList=(1,bH p room es):=by
    unfold DkD.rename;rw[if_neg c];simp only[iC hg];rw[if_pos];rcases nameB_false hnb with d|d
    exact .inl d;exact .inr (.inl d)
   rw[e];rw[hnb] at z;have B:=J (bG.mk' y M.o);clear h e b r q l n A u v G y C D E x hg c H hnb;go_enter Tryz.func71,Tryz.ntmps71;go_wp2_with fail;refine i.o.mono ?_;rintro e w' ⟨rfl,rfl⟩;go_wp2_with fail;refine z.o.mono ?_;rintro e w' ⟨rfl,rfl⟩;go_wp2;go_ret;exact⟨rfl,B.o⟩
  |true=>
   rw[hnb] at z;obtain⟨P,Q⟩:=yY hnb;by_cases a:s.data.toList=t.data.toList
   ·have j9:=WideShapes.bytes_inj a
    have e:(bH p room es).rename s.data.toList t.data.toList=(1,bH p room es):=by
     unfold DkD.rename;rw[if_neg c];simp only[iC hg];rw[if_pos (.inr (.inr a))]
    rw[e];have B:=J (bG.mk' y M.o);subst j9;clear h e b r q l n A u v G y C D E x hg c H hnb P Q a;go_enter Tryz.func71,Tryz.ntmps71;go_wp2_with fail;refine i.o.mono ?_;rintro e w' ⟨rfl,rfl⟩;go_wp2_with fail;refine z.o.mono ?_;rintro e w' ⟨rfl,rfl⟩;go_wp2;go_ret;exact⟨rfl,B.o⟩
   have l5:(s.toList==t.toList)=false:=by
    rw[toList_eq,toList_eq];simpa using a
   have e:(bH p room es).rename s.data.toList t.data.toList=(bH p room es).e0 (aW t.data.toList fe.f (bE s.data.toList (bI FE.f es))):=by
    unfold DkD.rename;rw[if_neg c];simp only[iC hg];rw[if_neg];rintro(d|d|d);exact P d;exact Q d;exact a d
   rw[e];have N:=J (bU8 y s t I U hg w (w.heap.size+1) (w.heap.size+1+1+1) (w.heap.size+1+1) C D x E hl);obtain⟨R,S⟩:=eX ((bH p room es).e0 (aW t.data.toList fe.f (bE s.data.toList (bI FE.f es))));rw[<-S] at N⊢;clear h e b r q l n A u v G y C D E x hg c H hnb P Q a S;go_enter Tryz.func71,Tryz.ntmps71;go_wp2_with fail;refine i.o.mono ?_;rintro e w' ⟨rfl,rfl⟩;go_wp2_with fail;refine z.o.mono ?_;rintro e w' ⟨rfl,rfl⟩;go_wp2_with fail;refine N.o.mono ?_;rintro e w1 ⟨rfl,T⟩;have B:=J (bG.step M.o (fun k F=>.inl F) T);clear T N i z;go_wp2;go_ret;exact⟨rfl,B.o⟩
end
theorem tC{T:TypeId}{g:Nat}:∀(vs:List Value) (o:Nat) (w:World) (b:Array Value),aS w g T b->∃a,aS (w.setCells g o vs) g T a ∧a.size=b.size∧(∀j,j<o->a[j]? =b[j]?)∧(∀j (c:j<vs.length),o+vs<=b.size->a[o+j]? =some vs[j])
 |[],o,w,b,h=>⟨b,h,rfl,fun _ _=>rfl,fun j c=>absurd c σ⟩
 |v::r,o,w,b,h=>by
  obtain⟨a,f,i,d,k⟩:=tC r (o+1) (w.setCell (g,o) v) _ (aS.b8 h o v);refine⟨a,f,by rw[i];simp,fun j c=>?_,fun j c e=>?_⟩;rw[d j O,Array.getElem?_setIfInBounds,if_neg O];cases j with
  |zero=>
   rw[Nat.add_zero,d o O,Array.getElem?_setIfInBounds,if_pos rfl,if_pos (by simp at e;omega)];rfl
  |succ j=>
   have l:=k j (by simpa using c) (by simp at e⊢;omega);rw[show o+(j+1)=o+1+j by omega,l];rfl
theorem qG(g:Nat):∀(vs:List Value) (o:Nat) (w:World),w.grownBy (w.setCells g o vs) (some g)
 |[],o,w=>aT (lS _ _) _
 |v::r,o,w=>aF (aA w g o v) (qG g r (o+1) _) (.inl rfl)
theorem aA0{w:World}(E:TypeId)(base:Nat)(v:Value)(l:List UInt8)(C:eR w base v l)(B:Nat)(A:Option Addr)(c:Nat)(q:List UInt8)(o9:Rd w B A (cells q))(o8:l.length+q<=1099511627776)(Q:base<=w):
  ∃f g,(Builtin.append_ #[34,34] E #[v,.slice A q c]).run Tryz.prog w=.ok f g ∧eR g base f (l++q)∧w.grownBy g v.ownBlock∧(∀k,f.ownBlock=some k->v.ownBlock=some k∨w.heap.size<=k):=by
 obtain⟨i,x,S,r,W⟩:=info_parts bJ;have T:=cU q;rcases Nat.eq_zero_or_pos q with H|H
 ·have hq:=mD H
  subst hq;refine⟨v,w,?_,by simpa using C,aT (lS _ _) _,fun k o=>.inl o⟩;rcases C.row with b|⟨h,n,G,V,b,_,_,_,X,_⟩
  ·subst b
   cases A<;>simp[Builtin.append_,run_underlying Tryz.underlying34,sizeOf,typeInfo,x,Builtin.lenOf,Builtin.firstCells,loadCells,loadCellsFrom]
  subst b;cases A<;>simp[Builtin.append_,run_underlying Tryz.underlying34,sizeOf,typeInfo,x,Builtin.lenOf,Builtin.firstCells,X,storeCells,loadCells,loadCellsFrom]
 obtain⟨F,rfl,_,I⟩:=o9 (by rw[aB];exact H);have M:(cells q).length=q*1:=by rw[aB,Nat.mul_one]
 obtain⟨A0,s,N,n9,i4,U⟩:=C.b3;rcases C.row with b|⟨h,n,G,V,b,m9,z,l6,X,j9⟩
 have n8:l=[]:=by
  rw[N] at b;injection b with _ b _
  exact mD b
 subst n8;subst b;obtain⟨f,g,p,Z,h3,_⟩:=run_append_own (P:=Tryz.prog) w w 34 E 5 i (.int .u8 0) 1 1 Tryz.underlying34 x S r W rfl δ (.slice none 0 0) 0 [] (World.ownsRow_nil _ _ _ _) F q c (cells q) M I T μ O (lR _);have t:Bs g w f q:=by unfold Bs Own;rw[aB];simpa using Z
 refine⟨f,g,p,by simpa using(eR.e1 t).mono Q,h3,fun k o=>.inr ?_⟩;exact(mL t k o).1;have m7:=N.symm.trans b;injection m7 with e1 e2 e3
 subst e1 e2 e3;subst N;by_cases a:l+q<=s;have m8:∀j,j<(cells q).length->(w.cell? ⟨h,0+l*i.size+j,none⟩).isSome=true:=fun j d=>by
  rw[r,Nat.zero_add,Nat.mul_one,z.cell,Array.getElem?_eq_getElem (by rw[aB] at d;omega)];rfl
 have p:=run_append_room_cells (P:=Tryz.prog) w 34 E 5 i Tryz.underlying34 x h 0 l s F q c (cells q) (by rw[r];exact M) I T a m8 (fun j d=>z.a6 _);rw[r,Nat.zero_add,Nat.mul_one] at p;obtain⟨j8,K,k2,k3,k4⟩:=tC (cells q) l w V z;have n5:=qG h (cells q) l w;refine⟨_,_,p,⟨⟨some ⟨h,0,none⟩,s,by rw[lT],by rw[lT];exact a,i4,fun _=>⟨_,rfl,K.lt,fun j u d=>?_⟩⟩,.inr ⟨h,_,s,j8,rfl,m9,K,by rw[k2];exact l6,O,j9⟩⟩,by simpa[Value.ownBlock] using n5,fun k o=>.inl (by simpa[Value.ownBlock] using o)⟩;rw[Addr.add_lit,Nat.zero_add,K.cell];have p4:j<l+q:=by
  have:=(List.getElem?_eq_some_iff.1 d).1;simpa[cells] using this
 by_cases y:j<l;rw[k3 j y];have D:(cells l)[j]? =some u:=by rw[<-d];simp only[cells,mE];rw[List.getElem?_append_left (by rw[lU];exact y)]
 obtain⟨m6,m,_,L⟩:=U (by rw[aB];omega);injection m with m
 subst m;have R:=L j u D;rw[Addr.add_lit,Nat.zero_add,z.cell] at R;exact R;have D:=k4 (j-l) (by rw[aB];omega) (by rw[aB];omega);rw[show l.length+(j-l)=j by omega] at D;rw[D,<-d];simp only[cells,mE];rw[List.getElem?_append_right (by rw[lU];omega),lU,<-lW];have l5:∀j u,(cells l)[j]? =some u->w.cell? (((h,0):Addr).add j)=some u:=fun j u d=>by
  obtain⟨m6,m,_,L⟩:=U (by
   have:=(List.getElem?_eq_some_iff.1 d).1;omega)
  injection m with m
  subst m;exact L j u d
 obtain⟨f,g,p,Y,r2⟩:=run_append_arg_grows (P:=Tryz.prog) w 34 E 5 i (.int .u8 0) 1 1 Tryz.underlying34 x S r W rfl δ (h,0) l s (cells l) (by rw[aB,Nat.mul_one]) l5 F q c (cells q) M I O μ O;have e:cells l++cells q=cells (l++q):=by simp[cells]
 rw[e] at Y;have t:Bs g w f (l++q):=by unfold Bs Own;rw[aB,lT];exact Y
 exact⟨f,g,p,(eR.e1 t).mono Q,aT (fD r2) _,fun k o=>.inr (mL t k o).1⟩
theorem rD{w:World}{o:Oper}{a:Act}{K:Act->World->Prop}{Q:Exit->Act->World->Prop}(s x:Operand)
  (p:o.op=.call {callee:=.builtin .append,args:=#[s,x],argTypes:=#[34,34]})
  (base:Nat) (v:Value) (l:List UInt8) (r:a.eval s=v) (e:eR w base v l) (B:Nat) (A:Option Addr) (c:Nat) (q:List UInt8) (hx:a.eval x=.slice A q c) (i:Rd w B A (cells q)) (f:l.length+q<=1099511627776) (a8:base<=w)
  (h:∀b d,eR d base b (l++q)->w.grownBy d v.ownBlock->(∀k,b.ownBlock=some k->v.ownBlock=some k∨w.heap.size<=k)->K (a.put o.dst b) d):o.wp Tryz.prog a w K Q:=by
 obtain⟨b,d,g,j,m,n⟩:=aA0 o.type base v l e B A c q i f a8;unfold Oper.wp execOp;simp only[p,resolve,invoke,builtin,Sem.run_bind,Sem.run_pure,Result.andThen_ok,List.map_toArray,mG,List.map_nil,r,hx,g];exact h b d j m n
theorem aE5{left:Int}{ps:List dK}{k:Nat}(a:k<ps):fits left ((ps.drop k).map dK.l)=(decide ((ps[k].l.length:Int)<=left)&&fits (left-ps[k].l.length) ((ps.drop (k+1)).map dK.l)):=by
 rw[<-List.getElem_cons_drop a,mG,fits]
theorem bN2(p:fT)(h:I6 p.part):I6 p.cut.2.1:=by
 unfold fT.cut;split;exact⟨by show(-9223372036854775808:Int)<=0;decide,by show(0:Int)<=_;decide⟩;split;exact⟨by show(-9223372036854775808:Int)<=0;decide,by show(0:Int)<=_;decide⟩;exact h
section
variable{w w1 w2 w' :World}{base g m:Nat}{p p' :fT}{room:Int}{es:List (Nm×FE)}
structure bL7(w w3:World)(base g m:Nat)(p' :fT)(room:Int)(es:List (Nm×FE))(n:Nm)(es1:List (Nm×FE))(fe:FE):Prop where
 at_:aV w3 base g m p' room es1
 fr:Fr (aI g m es) w w3
 foot:∀k,aI g m es1 k->aI g m es k∨w.heap.size<=k
 e9:aX n es1=some fe
 f:fe.f=(aX n (bI FE.f es)).getD ⟨[],0⟩
 fs:∀f',aW n f' (bI FE.f es1)=aW n f' (bI FE.f es)
theorem bG.step2{a :List (Nm×FE)}{d:DkD}(e:Fr (aI g m es) w w1)(a8:∀k,aI g m a k->aI g m es k∨w.heap.size<=k)(h:bG w1 base g m a d w2):bG w base g m es d w2:=by
 obtain⟨b,f,i,j,l⟩:=h;refine⟨b,f,i,e.trans j a8,fun k n=>?_⟩;rcases l k n with c|c
 exact a8 k c;exact .inr (mM e.size c)
theorem bU6(a:Int)(l:List UInt8):(uJ a l).length<=l:=by
 unfold uJ;rw[lV];omega
theorem bP2{n:Nm}(h:∀q∈es,q.2.f.b.length<=549755813888):((aX n (bI FE.f es)).getD ⟨[],0⟩).b.length<=549755813888:=by
 cases hg:aX n es with
 |none=>rw[pA hg];exact Nat.zero_le _
 |some fe=>rw[iC hg];exact h _ (bY hg)
theorem bD9(n:Nm){α:Type}(b:α)(l:List (Nm×α)):bE n (asIns (n,b) l)=bE n l:=by
 induction l with
 |nil=>simp[asIns,bE]
 |cons y r ih=>
  unfold asIns;split;simp[bE];unfold bE at ih⊢;rw[List.filter_cons,List.filter_cons,ih]
theorem bD8(n:Nm){α:Type}(l:List (Nm×α)):bE n (bE n l)=bE n l:=by
 unfold bE;rw[List.filter_filter]
 congr 1
 funext p
 simp
theorem aD9(n:Nm){α:Type}(a b:α)(l:List (Nm×α)):aW n a (aW n b l)=aW n a l:=by
 unfold aW;rw[bD9,bD8]
theorem nZ(n:Nm){α:Type}(a:α)(l:List (Nm×α)):aX n (aW n a l)=some a:=by
 unfold aW aX;have c:∀r:List (Nm×α),(∀p∈r,(p.1==n)=false)->(asIns (n,a) r).find? (fun p=>p.1==n)=some (n,a):=by
  intro r;induction r with
  |nil=>intro _;simp[asIns]
  |cons y r ih=>
   intro d;unfold asIns;split;rw[List.find?_cons_of_pos σ];rw[List.find?_cons_of_neg (by rw[d y (List.mem_cons_self ..)];simp)];exact ih fun p b=>d p (List.mem_cons_of_mem _ b)
 rw[c _ (fun p b=>by have:=(eQ.1 b).2;simpa using this)];rfl
theorem bV8{a o l:World}(h:aV a base g m p' room es)(p:Fr (aI g m es) w a)(c:Below a a o)(v:aS o a 83 #[.slice none 0 0,.int .i64 0]){n:Nm}(f:aX n es=none)(y:dA Tryz.prog 9 l m (aW n a (bI FE.b4 es)))(b:o.grownBy l (some m)):
  bL7 w l base g m p' room es n (aW n ⟨a,.slice none 0 0,⟨[],0⟩⟩ es) ⟨a,.slice none 0 0,⟨[],0⟩⟩:=by
 have u:=h.a1 c;have A:=h.map.lt;have r:=v.grown b (fun e=>by injection e with e;omega);refine⟨u.l1 ⟨a,.slice none 0 0,⟨[],0⟩⟩ (fun q z _=>⟨fun e=>?_,fun k _ e=>by cases e⟩) b.size r ⟨⟨none,0,rfl,lR _,δ,Rd.none_⟩,.inl rfl⟩ (lR _) ?_ y (fun k d f=>b.block k d (fun e=>f (by injection e))),?_,fun k d=>?_,nZ _ _ _,?_,fun B =>by rw[fB,aD9]⟩;have t:=(h.file q z).lt;have s :q.2.b4=a:=e;omega;have t:=h.low.1;have C:=h.b4.lt;show base<=a
 omega;refine p.trans (mine' :=aI g m es) ⟨b.os.trans c.os,b.tape.trans c.tape,b.output.trans c.output,mM c.size b.size,fun k d i=>?_⟩ (fun j x=>.inl x);exact(b.block k (Nat.lt_of_lt_of_le d c.size) (fun e=>i (by injection e with e;exact .inr (.inl e)))).trans (c.block k d);refine tH d (fun e=>.inr ?_) (fun e=>by cases e);have s :a=k:=e;have:=p.size;omega;rw[pA f];rfl
theorem cB2{P:Program}{t:TypeId}{a g f:World}{A:Option Addr}{k:List Value}{l:List (Nm×Nat)}(h:Rd a a A k)(d:Below a a g)(i:g.grownBy f (some m))(v:dA P t a m l):Rd f f A k:=by
 intro x;obtain⟨c,o,p,q⟩:=h x;refine⟨c,o,ω2 d.size i.size,fun j u s=>?_⟩;have b:=q j u s;have n:c.block≠m:=fun e=>by
  obtain⟨z,y,r,_⟩:=v;unfold World.cell? at b;rw[bK,e,r] at b;split at b<;>simp_all
 exact(mK (w:=g) (by rw[bK];exact i.block c.block (ω1 d.size) (fun e=>by injection e with e;exact n e))).trans ((d.cell (by rw[bK];exact p)).trans b)
theorem vR(h:aV w base g m p room es)(s:ByteArray)(hs:s.size<=140737488351232)(A:Option Addr)(ps:List dK)(c:Nat)(B7:Rd w w A (ps.map dK.val))(hp:xI w w ps)(I0:ps<=c)(J5:ps.length<=1000000000)(D7:(bR ps).length<=274877906944)
  (B1:∀q∈es,q.2.f.b.length<=549755813888) (I5:bC (bI FE.f es)<=4611686018427387904) (hl:es.length<4398046511104):
  Calls Tryz.prog 10 #[(g,0),.string s,.slice A ps c] w fun e w' =>e=.returned (.int .i64 ((bH p room es).append s.data.toList (ps.map dK.l)).1)∧bG w base g m es ((bH p room es).append s.data.toList (ps.map dK.l)).2 w' :=by
 have H:=J h;obtain⟨⟨c0,c1,c2,c3,c4,c5⟩,f0,f1,f2,f3⟩:=gL h.b4;obtain⟨J4,G9,J6,J7⟩:=h.num;have n9:=J (aE3 s w hs);have J8:=dD (bI FE.f es);obtain⟨R,F⟩:=eX ((bH p room es).append s.data.toList (ps.map dK.l));rw[<-F];cases ho:p.off with
 |true=>
  have e:R=(50,bH p room es):=by rw[F];unfold DkD.append;rw[if_pos ho]
  have z:=J e;rw[ho] at c0;clear h F e ho B7 hp B1;go_enter Tryz.func10,Tryz.ntmps10;go_wp2;go_ret;exact⟨by rw[z.o];rfl,by rw[z.o];exact bG.mk' H.o (Fr.refl _ _)⟩
 |false=>
  have p6:¬p.off=true:=by rw[ho];simp
  rw[ho] at c0;cases hnb:oL s.data.toList with
  |false=>
   have e:R=(1,bH p room es):=by
    rw[F];unfold DkD.append;rw[if_neg p6,if_pos (nameB_false hnb)]
   have z:=J e;rw[hnb] at n9;clear h F e ho p6 hnb B7 hp B1;go_enter Tryz.func10,Tryz.ntmps10;go_wp2_with fail;refine n9.o.mono ?_;rintro e w' ⟨rfl,rfl⟩;go_wp2;go_ret;exact⟨by rw[z.o];rfl,by rw[z.o];exact bG.mk' H.o (Fr.refl _ _)⟩
  |true=>
   obtain⟨n1,n2⟩:=yY hnb;have l7:¬(s.data.toList=[]∨32<s.data.toList.length):=fun e=>e.elim n1 n2
   have C8:Hq (fits (room-bC (bI FE.f es)) (ps.map dK.l)=false->R=(52,bH p room es)):=J fun hf=>by
    rw[F];unfold DkD.append;rw[if_neg p6,if_neg l7,if_pos (show fits (bH p room es).free _=false from hf)]
   have D5:Hq (fits (room-bC (bI FE.f es)) (ps.map dK.l)=true->R=(if p.cut.1=true then 50 else 0,⟨p.cut.2.2,room,aW s.data.toList ⟨((aX s.data.toList (bI FE.f es)).getD ⟨[],0⟩).b++(if p.cut.1=true then uJ p.cut.2.1 (bR ps) else bR ps),((aX s.data.toList (bI FE.f es)).getD ⟨[],0⟩).b5⟩ (bI FE.f es)⟩)):=J fun hf=>by
    rw[F];unfold DkD.append;rw[if_neg p6,if_neg l7,if_neg (by rw[show(bH p room es).free=room-bC (bI FE.f es) from rfl,hf];simp)];rfl
   rw[hnb] at n9;have D3:=J (tI h I5);have m6:=J (And.intro B7 (And.intro hp B1));clear h F ho p6 hnb B7 hp B1 n1 n2 l7;go_enter Tryz.func10,Tryz.ntmps10;go_wp2_with fail;refine n9.o.mono ?_;rintro e w' ⟨rfl,rfl⟩;go_wp2_with fail;refine D3.o.mono ?_;rintro e w1 ⟨rfl,C1⟩;have Z:=J C1;have C7:=C1.size;clear c0 c1 c2 c3 c4 c5 f0 f1 f2 f3 C1 n9 D3;go_wp2_with fail;go_loop [27,7,9] (fun i G pv=>∃(k:Nat) (C:Int),i=.int .i64 k∧k<=ps∧G=.int .i64 C∧-4611686018427387904<=C∧C<=9223372036854775807∧Hq (fits (room-bC (bI FE.f es)) (ps.map dK.l)=fits C ((ps.drop k).map dK.l))) (fun i _ _=>ps.length-(intOf i).toNat)
   case atStart=>exact⟨0,room-bC (bI FE.f es),rfl,Nat.zero_le _,rfl,O,O,J rfl⟩
   obtain⟨k,C,rfl,Y,rfl,G6,G7,m5⟩:=hrel;by_cases M:k<ps
   ·have C6:(k:Int)<ps.length:=O
    obtain⟨ad,rfl,J2,i4⟩:=iR (m6.o.1.a1 Z.o) M;have m7:=J (aE5 (left:=C) M);have p7:=(m6.o.2.1 _ (lX M)).2;generalize ps[k]=q at i4 m7 p7;obtain⟨qa,ql,qc⟩:=q;simp only[dK.val] at i4 m7 p7;by_cases L:(ql:Int)<=C
    ·have HN:=J (show fits (room-bC (bI FE.f es)) (ps.map dK.l)=fits (C-ql) ((ps.drop (k+1)).map dK.l) by rw[m5.o,m7.o,decide_eq_true L,Bool.true_and])
     clear m7 m5;go_wp2;go_round
     case rel=>exact⟨k+1,C-ql,by go_num,O,rfl,O,O,HN⟩
     case measure=>simp[intOf];omega
    have HN:=J (C8.o (by rw[m5.o,m7.o,decide_eq_false L,Bool.false_and]));have x:C<(ql:Int):=O;clear m7 m5 L;go_wp2;go_ret;exact⟨by rw[HN.o];rfl,by rw[HN.o];exact bG.mk' (H.o.a1 Z.o) (Fr.b9 _ Z.o)⟩
   have D9:k=ps:=O;have HR:=J (D5.o (by rw[m5.o,D9,List.drop_length];rfl));have C6:¬(k:Int)<ps.length:=O;clear m5 C8 D5 D9;have HJ:=J (yQ A ps ps c rfl w1 ((m6.o.1.a1 Z.o).more C7) (fun q N=>⟨((m6.o.2.1 q N).1.a1 Z.o).more C7,(m6.o.2.1 q N).2⟩) O O I0);go_wp2_with fail;refine HJ.o.mono ?_;rintro e w2 ⟨v,rfl,C3,D6⟩;obtain⟨Ap,cp,rfl,J3,G3,I1⟩:=C3.b3;have C9:=J (Z.o.trans (D6.mono C7));have HC:=J (qD (H.o.a1 C9.o));have p8:=J C3;clear C3 D6 HJ I1;go_wp2_with fail;refine HC.o.mono ?_;rintro e y ⟨rfl,s9,C0,I2⟩;have D1:=J ((Fr.b9 (aI g m es) C9.o).trans C0 (fun j hj=>.inl hj));have D8:=p8.o.kept (fun q N=>C0.block q (p8.o.row.lt q N) (fun hf=>by
    have h5:=(H.o.lt q hf).2;have h6:=p8.o.row.base q N;omega)) O
   have j8:Hq (Rd y y Ap (cells (bR ps))):=J (by
    obtain⟨A',c',e1,_,_,e2⟩:=D8.b3;injection e1 with e1 _ _
    subst e1;exact e2)
   clear p8 D8;have p9:=J (bN2 p G9);generalize p.cut=c at HR s9 p9⊢;obtain⟨g8,n,p'⟩:=c;simp only at s9 p9⊢;have m3:=J s9;obtain⟨Q,hQ⟩:=eX (if g8=true then uJ n (bR ps) else bR ps);have T:Hq (R=(if g8=true then 50 else 0,⟨p',room,aW s.data.toList ⟨((aX s.data.toList (bI FE.f es)).getD ⟨[],0⟩).b++Q,((aX s.data.toList (bI FE.f es)).getD ⟨[],0⟩).b5⟩ (bI FE.f es)⟩)):=J (by rw[hQ];exact HR.o);have I:=J hQ;have I3:w2.heap.size<=y:=O;clear s9 C0 HC HR hQ I2;go_upto_if 49 with fail
   go_cut [10] (fun v wx=>∃Aq cq,v=.slice Aq Q cq∧Hq (Rd y y Aq (cells Q))∧wx=y)
   case first=>
    cases g8 with
    |false=>
     obtain rfl:Q=bR ps:=by rw[I.o];simp
     clear I T;go_wp2;go_meet;exact⟨Ap,cp,rfl,j8,rfl⟩
    |true=>
     have e:Q=uJ n (bR ps):=by rw[I.o];simp
     have l6:=J (aN0 n ((bR ps).length+1) p9.o ⟨O,O⟩ y);obtain⟨K,u⟩:∃K:Nat,n % ((bR ps).length+1:Int)=K:=⟨(n % ((bR ps).length+1:Int)).toNat,ω1 (Int.emod_nonneg n (show((bR ps).length+1:Int)≠0 by omega))⟩
     have J0:K<=(bR ps).length:=ω1 (Int.emod_lt_of_pos n (show 0<((bR ps).length+1:Int) by omega));have e2:Q=(bR ps).take K:=by rw[e];unfold uJ;rw[u];rfl
     have e3:Q=K:=by rw[e2,lV];omega
     rw[u] at l6;have hcut:=fun W:World=>sP (P:=Tryz.prog) Tryz.underlying34 bJ Ap (bR ps).length cp K O (K:Int) rfl W
     have z:=J e3;have f8:Hq (Rd y y Ap (cells Q)):=J (by
      rw[e2];have:=j8.o.take K;rwa[show(cells (bR ps)).take K=cells ((bR ps).take K) by simp[cells,List.map_take]] at this)
     clear e e2 e3 u I T;go_wp2_with fail;refine l6.o.mono ?_;rintro e w' ⟨rfl,rfl⟩;clear l6;go_wp2;go_meet;exact⟨Ap,cp,by rw[z.o],f8,rfl⟩
   obtain⟨Aq,cq,rfl,B9,rfl⟩:=hcut;obtain⟨y,I8⟩:=eX wc;subst I8;have C5:=m3.o.map.get Tryz.underlying9 Tryz.underlying59 (nB y) s μ;rw[fA] at C5;have B8:=J C5;obtain⟨⟨c0,c1,c2,c3,c4,c5⟩,f0,f1,f2,f3⟩:=gL m3.o.b4;clear C5 j8 p9;go_upto_region 17 with fail
   go_cut [63] (fun v wx=>v=.bool (aX s.data.toList es).isNone∧wx=y)
   case first=>
    cases x:aX s.data.toList es with
    |none=>
     have U:=B8.o;rw[x] at U;have G5:(Instr.lookup 59 (.map (some m)) (.string s) false).run Tryz.prog y=.ok (.pointer none) y:=U;have B:=J x;clear U x;go_wp2;go_meet;exact⟨by rw[B.o];rfl,rfl⟩
    |some fe=>
     have U:=B8.o;rw[x] at U;have G5:(Instr.lookup 59 (.map (some m)) (.string s) false).run Tryz.prog y=.ok (.pointer (fe.b4,0)) y:=U;have B:=J x;clear U x;go_wp2;go_meet;exact⟨by rw[B.o];rfl,rfl⟩
   obtain⟨G0,I9⟩:=hcut;subst G0;subst I9;go_upto_if 63 with fail
   go_cut [] (fun wx=>∃m8 a,Hq (bL7 w wx base g m p' room es s.data.toList m8 a)∧Hq (Rd wx wx Aq (cells Q)))
   case first=>
    cases x:aX s.data.toList es with
    |some fe=>
     have f8:Hq (bL7 w wc base g m p' room es s.data.toList es fe):=J ⟨m3.o,D1.o,fun k Y=>.inl Y,x,by rw[iC x];rfl,fun _=>rfl⟩;clear x;go_wp2;go_meet;exact⟨es,fe,f8,B9⟩
    |none=>
     have C2:=bA wc (.cells #[.slice none 0 0,.int .i64 0] 83);have E7:=J (m3.o.a1 C2);have E8:=J (aS.new wc 83 #[.slice none 0 0,.int .i64 0]);have D0:=J C2;have G8:(bI FE.b4 es).length<maxLen:=by rw[lU];unfold maxLen;omega
     have I4:s.size<=maxLen:=by unfold maxLen;omega
     have B:=J x;clear C2 x;go_wp2_with (at_mapUpdate;refine aB7 rfl (.tmp 67) (.tmp 68) (.tmp 70) 59 rfl Tryz.underlying9 Tryz.underlying59 E7.o.map G8 s I4 wc.heap.size rfl rfl rfl ?_;intro w4 E5 C4);have f8:=J (bV8 m3.o D1.o D0.o E8.o B.o E5 C4);have j9:=J (cB2 B9.o D0.o C4 m3.o.map);clear E5 C4;go_frame;go_meet;exact⟨_,_,f8,j9⟩
   obtain⟨m8,a,r,j9⟩:=hcut;have n5:Hq (∀W,dA Tryz.prog 9 W m (bI FE.b4 m8)->(Instr.lookup 59 (.map (some m)) (.string s) false).run Tryz.prog W=.ok (.pointer (a.b4,0)) W):=J fun W hW=>by
    have E:=hW.get Tryz.underlying9 Tryz.underlying59 (nB W) s μ;rw[fA,r.o.e9] at E;exact E
   have l5:=bY r.o.e9;have u:aS wc a.b4 83 #[a.v,a.f.b5]:=r.o.at_.file _ l5;have x:eR wc base a.v a.f.b:=r.o.at_.e9 _ l5;obtain⟨A1,E9,E6,_,_,_⟩:=x.b3;have l8:=E6;have G4:a.f.b.length<=549755813888:=by rw[r.o.f];exact bP2 m6.o.2.2
   have J1:Q.length<=274877906944:=by
    rw[I.o];split;exact mM (bU6 _ _) D7;exact D7
   obtain⟨⟨_,_,_,_,_,d5⟩,_,_,_,_⟩:=gL r.o.at_.b4;have e0:=u.c 0;rw[l8] at e0;have G2:base<=wc:=ω2 (r.o.at_.low.1) r.o.at_.b4.lt;have n8:=r.o.at_.map;have B:=J x;have D4:=J u;have q8:=J l8;clear c0 c1 c2 c3 c4 c5 f0 f1 f2 f3 x u E6 l8 l5 B8 B9;go_wp2_with fail;refine bW 19 κ (S:=fun W=>W.cell? ⟨g,5,none⟩=some (.map (some m))∧dA Tryz.prog 9 W m (bI FE.b4 m8)∧W.cell? ⟨a.b4,0,none⟩=some (.slice A1 a.f.b E9)∧True) ⟨d5,n8,e0,trivial⟩ (fun d=>?_);refine zU 0 (k:=zU 1 (k:=zU 2 (k:=zU 3 (k:=zU 4 (k:=?_)))));simp only[zA,zB,zF,zG,zC,zD,zE];refine jZ 5 (v:=?_) (by simp) (by kernel_rfl) (by kernel_rfl) (by kernel_rfl) (by kernel_rfl) (fun _ _ _ h=>h) (Or.inl ⟨by rfl,?_⟩) d ?_
   case refine_2=>(intro w p4;(try dsimp only at p4);obtain⟨s0,s1,s2,s3⟩:=p4;have hl:=n5.o w s1;simp only[List.getElem_cons_zero,List.getElem_cons_succ];go_simp<;>with_reducible rfl)
   simp only[List.getElem_cons_zero,List.getElem_cons_succ,Act.put,List.setIfInBounds_toArray,List.set_cons_zero,List.set_cons_succ];refine zU 6 (k:=zU 7 (k:=zU 8 (k:=zU 9 (k:=zU 10 (k:=?_)))));simp only[zA,zB,zF,zG,zC,zD,zE];refine jZ 11 (v:=?_) (by simp) (by kernel_rfl) (by kernel_rfl) (by kernel_rfl) (by kernel_rfl) (fun _ _ _ h=>h) (Or.inl ⟨by rfl,?_⟩) d ?_
   case refine_2=>(intro w p4;(try dsimp only at p4);obtain⟨s0,s1,s2,s3⟩:=p4;have hl:=n5.o w s1;simp only[List.getElem_cons_zero,List.getElem_cons_succ];go_simp<;>with_reducible rfl)
   simp only[List.getElem_cons_zero,List.getElem_cons_succ,Act.put,List.setIfInBounds_toArray,List.set_cons_zero,List.set_cons_succ];refine zU 12 (k:=zU 13 (k:=zU 14 (k:=zU 15 (k:=?_))));simp only[zA,zB,zF,zG,zC,zD,zE];refine zW 16 (k:=fun K u=>?_);simp only[zA,zB];rw[if_pos (by rfl)];refine rD (w:=wc.drew) (.tmp 85) (.tmp 86) rfl base _ a.f.b rfl (by rw[<-q8.o];exact B.o.kept (fun _ _=>rfl) (lR _)) wc Aq cq Q rfl (j9.o.b1 fun _ _=>rfl) O G2 ?_;intro v5 V B6 X p5;obtain⟨A5,o8,I7,_,_,_⟩:=B6.b3;subst I7;have D:wc.grownBy V a.v.ownBlock:=by rw[q8.o];exact⟨X.os,X.tape,X.output,X.size,X.block⟩
   have o9:=D4.o.grown D (fun e=>cW B.o D4.o δ e.symm);have e5:=(mK (w:=wc) (D.block g r.o.at_.b4.lt (fun e=>cW B.o r.o.at_.b4 δ e.symm))).trans d5;have t9:=n8.b1 (D.block m n8.lt (fun e=>mW B.o n8 e.symm));have b0:=o9.c 0;have bf:=o9.a6 0;rw[q8.o] at b0;have m9:=aA V a.b4 0 (.slice A5 (a.f.b++Q).length o8);have i6:=B6.kept (fun q N=>Below.heap_setCell V _ _ q (fun e=>cW B6 o9 δ (by rw[N,e]))) m9.size;have T1:bG wc base g m m8 ⟨p',room,aW s.data.toList ⟨a.f.b++Q,a.f.b5⟩ (bI FE.f m8)⟩ (V.setCell (a.b4,0) (.slice A5 (a.f.b++Q).length o8)):=
    bG.j0 r.o.at_ (Fr.refl _ _) r.o.e9 (.slice A5 (a.f.b++Q).length o8) ⟨a.f.b++Q,a.f.b5⟩ (mM D.size m9.size) (aS.b8 o9 0 _) i6 (by have:=r.o.at_.b5 _ (bY r.o.e9);show a.f.b5<=(a.f.b++Q).length;rw[lT];exact mM this (Nat.le_add_right _ _))
     (fun k Y=>by
      rcases p5 k Y with E|E
      exact .inl (by rw[q8.o];exact E);exact .inr E) (fun k Y E h2=>(Below.heap_setCell V _ _ k (fun e=>E e)).trans (D.block k Y (fun e=>h2 e.symm))) ⟨m9.os.trans D.os,m9.tape.trans D.tape,m9.output.trans D.output⟩
   have T2:=bG.step2 r.o.fr r.o.foot T1;have HT:Hq (bG w base g m es R.2 (V.setCell (a.b4,0) (.slice A5 (a.f.b++Q).length o8))):=J (by
    rw[T.o];rw[r.o.fs] at T2;have e6:=r.o.f;rw[e6] at T2;rw[e6];exact T2)
   clear T1 T2 i6 B6 X p5 D m9;refine u.out _ _ ⟨e5,t9,b0,trivial⟩ (fun d=>?_);clear u K;try simp only[zF,zG,zC,zD,zE]
   refine zW 17 (k:=fun K u=>?_);simp only[zA,zB];go_simp;refine u.out _ _ ⟨e5,t9,b0,trivial⟩ (fun d=>?_);clear u K;try simp only[zF,zG,zC,zD,zE]
   refine zW 18 (k:=fun K u=>?_);simp only[zA,zB];go_simp;refine u.out _ _ ⟨e5,t9,b0,trivial⟩ (fun d=>?_);clear u K;try simp only[zF,zG,zC,zD,zE]
   refine dI (t:=19) (by simp) (by kernel_rfl) (by kernel_rfl) (fun K u=>?_);simp only[zA,zB];go_simp;refine u.out _ _ ?_;clear u K d e5 t9 b0 bf d5 e0 n8 o9;rw[lT] at HT;generalize V.setCell (a.b4,0) (.slice A5 (a.f.b.length+Q) o8)=w6 at HT⊢;cases g8 with
   |true=>
    have z:Hq (R.1=50):=J (by rw[T.o];rfl);clear I T;go_wp2;go_ret;exact⟨by rw[z.o];rfl,HT.o⟩
   |false=>
    have z:Hq (R.1=0):=J (by rw[T.o];rfl);clear I T;go_wp2;go_ret;exact⟨by rw[z.o];rfl,HT.o⟩
end
end Go.Proofs.YtgeofijddhflaaaGreatDoor
