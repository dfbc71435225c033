/- The disk's small methods: New, cut, Up, name, modulo, find, Free. Condition: the disk is a call's own. -/
import Derived.Test.YtgeofijddhflaaaGreatDoorQDiskP
import Derived.Test.YtgeofijddhflaaaGreatDoorQSealL
set_option maxHeartbeats 8000000
set_option maxRecDepth 100000
namespace Go.Proofs.YtgeofijddhflaaaGreatDoor
section
open Go.RowKit Go.Maps Go.Sort Oct
structure FE where
 blk:Nat
 v:Value
 f:FD
structure Fr(mine:Nat->Prop)(w w' :World):Prop where
 os:w'.os=w.os
 tape:w'.tape=w.tape
 output:w'.output=w.output
 size:w.heap.size<=w'.heap.size
 block:∀k,k<w.heap.size->¬mine k->w'.heap[k]? =w.heap[k]?
section
variable{mine mine' :Nat->Prop}{w w1 w2 w' :World}
theorem Fr.refl(mine:Nat->Prop)(w:World):Fr mine w w:=⟨rfl,rfl,rfl,lR _,fun _ _ _=>rfl⟩
theorem Fr.trans(h:Fr mine w w1)(k:Fr mine' w1 w2)(hm:∀j,mine' j->mine j∨w.heap.size<=j):Fr mine w w2:=
 ⟨k.os.trans h.os,k.tape.trans h.tape,k.output.trans h.output,Nat.le_trans h.size k.size,fun j hj hn=>(k.block j (Nat.lt_of_lt_of_le hj h.size) (fun e=>by rcases hm j e with h1|h1;exact hn h1;omega)).trans (h.block j hj hn)⟩
theorem Fr.of_below(mine:Nat->Prop)(h:Below w.heap.size w w'):Fr mine w w' :=⟨h.os,h.tape,h.output,h.size,fun k hk _=>h.block k hk⟩
theorem Fr.of_grown{row:Option Nat}(h:w.grownBy w' row)(hm:∀k,row=some k->mine k):Fr mine w w' :=
 ⟨h.os,h.tape,h.output,h.size,fun k hk hn=>h.block k hk (fun e=>hn (hm k e.symm))⟩
theorem Fr.mono(h:Fr mine w w')(hm:∀j,j<w.heap.size->mine j->mine' j):Fr mine' w w' :=⟨h.os,h.tape,h.output,h.size,fun k hk hn=>h.block k hk (fun e=>hn (hm k hk e))⟩
theorem Fr.below(h:Fr mine w w'){B:Nat}(hB:B<=w.heap.size)(hm:∀j,mine j->B<=j):Below B w w' :=
 ⟨h.os,h.tape,h.output,h.size,fun k hk=>h.block k (by omega) (fun e=>by have:=hm k e;omega)⟩
end
def aB1(g m:Nat)(es:List (Nm×FE))(k:Nat):Prop:=k=g∨k=m∨∃p∈es,k=p.2.blk∨p.2.v.ownBlock=some k
structure aB4(w:World)(base g m:Nat)(p:PWD)(room:Int)(es:List (Nm×FE)):Prop where
 blk:Blk w g 61 #[.bool p.off,.bool p.armed,.int .i64 p.acts,.int .i64 p.part,.int .i64 room,.map (some m)]
 map:aF8 Tryz.prog 9 w m (sec FE.blk es)
 file:∀q∈es,Blk w q.2.blk 83 #[q.2.v,.int .i64 q.2.f.safe]
 got:∀q∈es,Got w base q.2.v q.2.f.b
 safe:∀q∈es,q.2.f.safe<=q.2.f.b.length
 apart:∀a b,a∈es->b∈es->a.1≠b.1->a.2.blk≠b.2.blk∧∀k,a.2.v.ownBlock=some k->b.2.v.ownBlock≠some k
 low:base<=g∧base<=m∧∀q∈es,base<=q.2.blk
 num:(-9223372036854775808<=p.acts∧p.acts<=9223372036854775807)∧(-9223372036854775808<=p.part∧p.part<=9223372036854775807)∧0<=room∧room<=9223372036854775807
section
variable{w w' :World}{base g m:Nat}{p:PWD}{room:Int}{es:List (Nm×FE)}
theorem aB4.rising(h:aB4 w base g m p room es):aL2 es:=by
 have h1:=h.map.rising (string_keyed Tryz.underlying9);unfold aL2 at h1⊢;rw[List.pairwise_map] at h1;exact h1
theorem aB4.lt(h:aB4 w base g m p room es):∀k,aB1 g m es k->base<=k∧k<w.heap.size:=by
 intro k hk;rcases hk with rfl|rfl|⟨q,hq,rfl|hk⟩
 ·exact⟨h.low.1,h.blk.lt⟩
 ·exact⟨h.low.2.1,h.map.lt⟩
 ·exact⟨h.low.2.2 q hq,(h.file q hq).lt⟩
 exact⟨(h.got q hq).row.base k hk,(h.got q hq).row.lt k hk⟩
theorem aB4.keep(h:aB4 w base g m p room es)(hs:w.heap.size<=w'.heap.size)(hk:∀k,aB1 g m es k->w'.heap[k]? =w.heap[k]?):aB4 w' base g m p room es:=
 ⟨(hk g (.inl rfl)).trans h.blk,h.map.keep (hk m (.inr (.inl rfl))),fun q hq=>(hk q.2.blk (.inr (.inr ⟨q,hq,.inl rfl⟩))).trans (h.file q hq),
  fun q hq=>(h.got q hq).kept (fun j hj=>hk j (.inr (.inr ⟨q,hq,.inr hj⟩))) hs,h.safe,h.apart,h.low,h.num⟩
theorem aB4.below(h:aB4 w base g m p room es)(hb:Below w.heap.size w w'):aB4 w' base g m p room es:=
 h.keep hb.size fun k hk=>hb.block k (h.lt k hk).2
theorem blk_ne{T T' :TypeId}{a b:Nat}{cs cs' :Array Value}(ha:Blk w a T cs)(hb:Blk w b T' cs')(hT:T≠T'):a≠b:=fun e=>by
 subst e;have h1:w.heap[a]? =some (Obj.cells cs T (0,0)):=ha;have h2:w.heap[a]? =some (Obj.cells cs' T' (0,0)):=hb;rw[h1] at h2;injection h2 with h2
 injection h2 with _ h2 _
 exact hT h2
theorem aL8{P:Program}{k:TypeId}{T:TypeId}{a b:Nat}{cs:Array Value}{l:List (Nm×Nat)}(ha:Blk w a T cs)(hb:aF8 P k w b l):a≠b:=fun e=>by
 subst e;obtain⟨es',clock,h1,_⟩:=hb;have h2:w.heap[a]? =some (Obj.cells cs T (0,0)):=ha;rw[h1] at h2;cases h2
theorem aF0{base:Nat}{v:Value}{l:List UInt8}{T:TypeId}{a:Nat}{cs:Array Value}(h:Got w base v l)(hb:Blk w a T cs)(hT:T≠5):v.ownBlock≠some a:=fun e=>by
 rcases h.row with hv|⟨g',n,cap,cur,hv,_,hblk,_⟩
 ·rw[hv] at e;cases e
 rw[hv] at e;have e' :g' =a:=by simpa[Value.ownBlock] using e
 subst e';exact blk_ne hb hblk hT rfl
theorem aS1{P:Program}{k:TypeId}{base:Nat}{v:Value}{l:List UInt8}{a:Nat}{fs:List (Nm×Nat)}(h:Got w base v l)(hb:aF8 P k w a fs):v.ownBlock≠some a:=fun e=>by
 rcases h.row with hv|⟨g',n,cap,cur,hv,_,hblk,_⟩
 ·rw[hv] at e;cases e
 rw[hv] at e;have e' :g' =a:=by simpa[Value.ownBlock] using e
 subst e';exact aL8 hblk hb rfl
theorem aB4.power(h:aB4 w base g m p room es){p' :PWD}(hg:w.grownBy w' (some g))(hB:Blk w' g 61 #[.bool p'.off,.bool p'.armed,.int .i64 p'.acts,.int .i64 p'.part,.int .i64 room,.map (some m)])
  (a9:(-9223372036854775808<=p'.acts∧p'.acts<=9223372036854775807)∧(-9223372036854775808<=p'.part∧p'.part<=9223372036854775807)∧0<=room∧room<=9223372036854775807):aB4 w' base g m p' room es:=by
 have a8:∀k,aB1 g m es k->k≠g->w'.heap[k]? =w.heap[k]? :=fun k hk hn=>hg.block k (h.lt k hk).2 (fun e=>hn (by injection e))
 refine⟨hB,h.map.keep (a8 m (.inr (.inl rfl)) (fun e=>aL8 h.blk h.map e.symm)),fun q hq=>(a8 q.2.blk (.inr (.inr ⟨q,hq,.inl rfl⟩)) (fun e=>blk_ne h.blk (h.file q hq) (by decide) e.symm)).trans (h.file q hq),
  fun q hq=>(h.got q hq).kept (fun j hj=>a8 j (.inr (.inr ⟨q,hq,.inr hj⟩)) (fun e=>aF0 (h.got q hq) h.blk (by decide) (by rw[hj,e]))) hg.size,h.safe,h.apart,h.low,a9⟩
theorem asPut_mem' {α:Type}{n:Nm}{a:α}{l:List (Nm×α)}{q:Nm×α}(h:q∈aB7 n a l):q=(n,a)∨(q∈l∧q.1≠n):=asPut_mem.1 h
theorem cQ5{α:Type}{n:Nm}{a:α}{l:List (Nm×α)}(hr:aL2 l)(h:aB6 n l=some a):aB7 n a l=l:=by
 induction l with
 |nil=>cases h
 |cons y r ih=>
  have a9:aL2 r:=(List.pairwise_cons.1 hr).2;have a8:=(List.pairwise_cons.1 hr).1;unfold aB7 aC2;by_cases hy:y.1=n
  ·have b8:y=(n,a):=by
    unfold aB6 at h;rw[List.find?_cons_of_pos (by simp[hy])] at h;simp at h
    rw[<-h,<-hy]
   subst b8;rw[List.filter_cons_of_neg (by simp)];have hf:r.filter (fun p=> !(p.1==n))=r:=by
    rw[List.filter_eq_self];intro q hq;have h1:=a8 q hq;have:q.1≠n:=fun e=>by
     rw[e,show bytesBefore n n=false from WideAt.bytes_irrefl n] at h1;cases h1
    simp[this]
   rw[hf];cases r with
   |nil=>rfl
   |cons z r=>
    unfold asIns;rw[if_pos (a8 z (List.mem_cons_self ..))]
  have h' :aB6 n r=some a:=by
   unfold aB6 at h⊢
   rwa[List.find?_cons_of_neg (by simp[hy])] at h
  have h1:=ih a9 h';rw[List.filter_cons_of_pos (by simp[hy])];have d9:bytesBefore y.1 n=true:=a8 _ (aC8 h');have d8:¬bytesBefore n y.1=true:=fun e=>by
   have:=WideShapes.bytes_trans _ _ _ d9 e;rw[show bytesBefore y.1 y.1=false from WideAt.bytes_irrefl y.1] at this;cases this
  unfold asIns;rw[if_neg d8];exact congrArg _ h1
theorem aB4.file_set(h:aB4 w base g m p room es){n:Nm}{fe:FE}(hn:aB6 n es=some fe)(v:Value)(f:FD)(hs:w.heap.size<=w'.heap.size)(f9:Blk w' fe.blk 83 #[v,.int .i64 f.safe])(f7:Got w' base v f.b)(d9:f.safe<=f.b.length)
  (d8:∀k,v.ownBlock=some k->fe.v.ownBlock=some k∨w.heap.size<=k) (f6:∀k,k<w.heap.size->k≠fe.blk->fe.v.ownBlock≠some k->w'.heap[k]? =w.heap[k]?):aB4 w' base g m p room (aB7 n ⟨fe.blk,v,f⟩ es):=by
 have a8:=aC8 hn;have f8:sec FE.blk (aB7 n ⟨fe.blk,v,f⟩ es)=sec FE.blk es:=by
  rw[aJ2];refine cQ5 (h.map.rising (string_keyed Tryz.underlying9)) ?_;rw[aH6,hn]
  rfl
 have b8:∀q∈es,q.1≠n->q.2.blk≠fe.blk∧∀k,q.2.v.ownBlock=some k->fe.v.ownBlock≠some k:=fun q hq a9=>h.apart q (n,fe) hq a8 a9
 refine⟨(f6 g h.blk.lt (blk_ne h.blk (h.file _ a8) (by decide)) (aF0 (h.got _ a8) h.blk (by decide))).trans h.blk,?_,fun q hq=>?_,fun q hq=>?_,fun q hq=>?_,fun a b ha hb hab=>?_,⟨h.low.1,h.low.2.1,fun q hq=>?_⟩,h.num⟩
 ·rw[f8]
  exact h.map.keep (f6 m h.map.lt (fun e=>aL8 (h.file _ a8) h.map e.symm) (aS1 (h.got _ a8) h.map))
 ·rcases asPut_mem' hq with rfl|⟨hq,a9⟩
  ·exact f9
  exact(f6 q.2.blk (h.file q hq).lt (b8 q hq a9).1 (aF0 (h.got _ a8) (h.file q hq) (by decide))).trans (h.file q hq)
 ·rcases asPut_mem' hq with rfl|⟨hq,a9⟩
  ·exact f7
  exact(h.got q hq).kept (fun j hj=>f6 j ((h.got q hq).row.lt j hj) (fun e=>aF0 (h.got q hq) (h.file _ a8) (by decide) (by rw[hj,e])) (fun e=>(b8 q hq a9).2 j hj e)) hs
 ·rcases asPut_mem' hq with rfl|⟨hq,a9⟩
  ·exact d9
  exact h.safe q hq
 ·rcases asPut_mem' ha with rfl|⟨ha,han⟩<;>rcases asPut_mem' hb with rfl|⟨hb,g8⟩
  ·exact absurd rfl hab
  ·refine⟨fun e=>(b8 b hb g8).1 e.symm,fun k hk hkb=>?_⟩
   rcases d8 k hk with h1|h1
   ·exact(b8 b hb g8).2 k hkb h1
   have:=(h.got b hb).row.lt k hkb;omega
  ·refine⟨(b8 a ha han).1,fun k hk hkb=>?_⟩
   rcases d8 k hkb with h1|h1
   ·exact(b8 a ha han).2 k hk h1
   have:=(h.got a ha).row.lt k hk;omega
  exact h.apart a b ha hb hab
 rcases asPut_mem' hq with rfl|⟨hq,a9⟩
 ·exact h.low.2.2 (n,fe) a8
 exact h.low.2.2 q hq
theorem aB4.file_new(h:aB4 w base g m p room es){n:Nm}(fe:FE)(a8:∀q∈es,q.1≠n->q.2.blk≠fe.blk∧∀k,q.2.v.ownBlock=some k->fe.v.ownBlock≠some k)(hs:w.heap.size<=w'.heap.size)(f7:Blk w' fe.blk 83 #[fe.v,.int .i64 fe.f.safe])(b8:Got w' base fe.v fe.f.b)(a9:fe.f.safe<=fe.f.b.length)
  (hb:base<=fe.blk) (d8:aF8 Tryz.prog 9 w' m (aB7 n fe.blk (sec FE.blk es))) (d9:∀k,k<w.heap.size->k≠m->w'.heap[k]? =w.heap[k]?):aB4 w' base g m p room (aB7 n fe es):=by
 refine⟨(d9 g h.blk.lt (fun e=>aL8 h.blk h.map e)).trans h.blk,by rw[aJ2];exact d8,fun q hq=>?_,fun q hq=>?_,fun q hq=>?_,fun a b ha hb hab=>?_,⟨h.low.1,h.low.2.1,fun q hq=>?_⟩,h.num⟩
 ·rcases asPut_mem' hq with rfl|⟨hq,f6⟩
  ·exact f7
  exact(d9 q.2.blk (h.file q hq).lt (fun e=>aL8 (h.file q hq) h.map e)).trans (h.file q hq)
 ·rcases asPut_mem' hq with rfl|⟨hq,f6⟩
  ·exact b8
  exact(h.got q hq).kept (fun j hj=>d9 j ((h.got q hq).row.lt j hj) (fun e=>aS1 (h.got q hq) h.map (by rw[hj,e]))) hs
 ·rcases asPut_mem' hq with rfl|⟨hq,f6⟩
  ·exact a9
  exact h.safe q hq
 ·rcases asPut_mem' ha with rfl|⟨ha,han⟩<;>rcases asPut_mem' hb with rfl|⟨hb,f8⟩
  ·exact absurd rfl hab
  ·exact⟨fun e=>(a8 b hb f8).1 e.symm,fun k hk hkb=>(a8 b hb f8).2 k hkb hk⟩
  ·exact⟨(a8 a ha han).1,(a8 a ha han).2⟩
  exact h.apart a b ha hb hab
 rcases asPut_mem' hq with rfl|⟨hq,f6⟩
 ·exact hb
 exact h.low.2.2 q hq
theorem aB4.file_del(h:aB4 w base g m p room es){n:Nm}(hg:w.grownBy w' (some m))(a9:aF8 Tryz.prog 9 w' m (aC2 n (sec FE.blk es))):aB4 w' base g m p room (aC2 n es):=by
 have a8:∀k,k<w.heap.size->k≠m->w'.heap[k]? =w.heap[k]? :=fun k hk hn=>hg.block k hk (fun e=>hn (by injection e))
 have hm:∀q,q∈aC2 n es->q∈es:=fun q hq=>(aG8.1 hq).1
 exact⟨(a8 g h.blk.lt (fun e=>aL8 h.blk h.map e)).trans h.blk,by rw[aQ5];exact a9,fun q hq=>(a8 q.2.blk (h.file q (hm q hq)).lt (fun e=>aL8 (h.file q (hm q hq)) h.map e)).trans (h.file q (hm q hq)),
  fun q hq=>(h.got q (hm q hq)).kept (fun j hj=>a8 j ((h.got q (hm q hq)).row.lt j hj) (fun e=>aS1 (h.got q (hm q hq)) h.map (by rw[hj,e]))) hg.size,fun q hq=>h.safe q (hm q hq),fun a b ha hb hab=>h.apart a b (hm a ha) (hm b hb) hab,⟨h.low.1,h.low.2.1,fun q hq=>h.low.2.2 q (hm q hq)⟩,h.num⟩
theorem dE4{n:Nm}{k:Nat}(h:aB1 g m (aC2 n es) k):aB1 g m es k:=by
 rcases h with h|h|⟨q,hq,h⟩
 ·exact .inl h
 ·exact .inr (.inl h)
 exact .inr (.inr ⟨q,(aG8.1 hq).1,h⟩)
theorem bH2{n:Nm}{fe:FE}{k N:Nat}(h:aB1 g m (aB7 n fe es) k)(hb:fe.blk=k->aB1 g m es k∨N<=k)(hv:fe.v.ownBlock=some k->aB1 g m es k∨N<=k):aB1 g m es k∨N<=k:=by
 rcases h with h|h|⟨q,hq,h⟩
 ·exact .inl (.inl h)
 ·exact .inl (.inr (.inl h))
 rcases asPut_mem' hq with rfl|⟨hq,_⟩
 ·rcases h with h|h
  ·exact hb h.symm
  exact hv h
 exact .inl (.inr (.inr ⟨q,hq,h⟩))
end
end
section
open Go.RowKit Go.Maps Go.Sort Oct
theorem cB4:∀(es:List (Nm×FE)) (left:Lit->Bool),aB8 (sec FE.f (aM0 es left))<=aB8 (sec FE.f es)
 |[],_=>Int.le_refl _
 |q::r,left=>by
  have ih:=cB4 r left;unfold aM0 at ih⊢;rw[List.filter_cons];split
  ·simp only[sec,mG,aB8] at ih⊢
   omega
  simp only[sec,mG,aB8] at ih⊢;omega
theorem aT0(w:World):(zeroValue 81).run Tryz.prog w=.ok (.pointer none) w:=by kernel_rfl
theorem aL0{w:World}{g:Nat}{t:TypeId}{a b c d e f:Value}(h:Blk w g t #[a,b,c,d,e,f]):(w.cell? ⟨g,0,none⟩=some a∧w.cell? ⟨g,1,none⟩=some b∧w.cell? ⟨g,2,none⟩=some c∧w.cell? ⟨g,3,none⟩=some d∧w.cell? ⟨g,4,none⟩=some e∧w.cell? ⟨g,5,none⟩=some f)∧
  w.frozen? ⟨g,0,none⟩=false∧w.frozen? ⟨g,1,none⟩=false∧w.frozen? ⟨g,2,none⟩=false∧w.frozen? ⟨g,3,none⟩=false:=
 ⟨⟨h.cell 0,h.cell 1,h.cell 2,h.cell 3,h.cell 4,h.cell 5⟩,h.frozen 0,h.frozen 1,h.frozen 2,h.frozen 3⟩
def aC0(w:World)(base g m:Nat)(es:List (Nm×FE))(d:DkD)(w' :World):Prop:=∃es',aB4 w' base g m d.pw d.room es' ∧sec FE.f es' =d.fs∧Fr (aB1 g m es) w w' ∧∀k,aB1 g m es' k->aB1 g m es k∨w.heap.size<=k
abbrev aD6 (p:PWD) (room:Int) (es:List (Nm×FE)):DkD:=⟨p,room,sec FE.f es⟩
theorem aC0.mk' {w w' :World}{base g m:Nat}{p:PWD}{room:Int}{es:List (Nm×FE)}(h:aB4 w' base g m p room es)(hf:Fr (aB1 g m es) w w'):aC0 w base g m es (aD6 p room es) w' :=⟨es,h,rfl,hf,fun k hk=>.inl hk⟩
theorem aB4.drewN_{w:World}{base g m:Nat}{p:PWD}{room:Int}{es:List (Nm×FE)}(h:aB4 w base g m p room es)(k:Nat):aB4 (w.drewN k) base g m p room es:=h.keep (lR _) fun _ _=>rfl
theorem Fr.drewN_{mine:Nat->Prop}{w w' :World}(h:Fr mine w w')(k:Nat):Fr mine w (w'.drewN k):=⟨h.os,h.tape,h.output,h.size,h.block⟩
theorem cG5(room:Int)(hr:-9223372036854775808<=room∧room<=9223372036854775807)(w:World):
  Calls Tryz.prog 8 #[.int .i64 room] w fun e w' =>e=.returned (.pointer (some ⟨w.heap.size+1,0,none⟩))∧aB4 w' w.heap.size (w.heap.size+1) w.heap.size ⟨false,false,0,0⟩ (max room 0) []∧Below w.heap.size w w' :=by
 have b8:=@run_makeMap Tryz.prog;have HR:=qZ hr;have a9:∀r:Int,0<=r->r<=9223372036854775807->aB4 ((w.alloc (.map #[] 0)).alloc (.cells #[.bool false,.bool false,.int .i64 0,.int .i64 0,.int .i64 r,.map (some w.heap.size)] 61)) w.heap.size (w.heap.size+1) w.heap.size ⟨false,false,0,0⟩ r []:=fun r h0 h1=>by
  have hs:(w.alloc (.map #[] 0)).heap.size=w.heap.size+1:=by simp
  have hB:=Blk.new (w.alloc (.map #[] 0)) 61 #[.bool false,.bool false,.int .i64 0,.int .i64 0,.int .i64 r,.map (some w.heap.size)];rw[hs] at hB;exact⟨hB,(aF8.made Tryz.prog 9 w).keep (Below.heap_alloc _ _ _ (by rw[hs];omega)),fun q hq=>(by cases hq),fun q hq=>(by cases hq),fun q hq=>(by cases hq),fun a b ha=>(by cases ha),⟨by omega,by omega,fun q hq=>(by cases hq)⟩,⟨by decide,by decide⟩,⟨by decide,by decide⟩,h0,h1⟩
 have HF:=qZ a9;have HB:∀r:Int,Hid (Below w.heap.size w ((w.alloc (.map #[] 0)).alloc (.cells #[.bool false,.bool false,.int .i64 0,.int .i64 0,.int .i64 r,.map (some w.heap.size)] 61))):=fun r=>qZ (((lS _ w).alloc (lR _) _).alloc (by simp) _)
 clear hr a9;rcases Int.lt_or_le room 0 with h0|h0
 ·have e:max room 0=0:=by omega
  rw[e];have a8:=HB 0;have HE:=qZ e;clear HB e;go_enter Tryz.func8,Tryz.ntmps8
  go_wp2;go_ret
  first|exact⟨rfl,HF.out 0 (Int.le_refl _) (by omega),a8.out⟩|(rw[HE.out];exact⟨rfl,HF.out 0 (Int.le_refl _) (by omega),a8.out⟩)
 have e:max room 0=room:=by omega
 rw[e];have a8:=HB room;have h1:=HR.out.2;have HE:=qZ e;clear HB e;go_enter Tryz.func8,Tryz.ntmps8
 go_wp2;go_ret
 first|exact⟨rfl,HF.out room h0 h1,a8.out⟩|(rw[HE.out];exact⟨rfl,HF.out room h0 h1,a8.out⟩)
theorem bC1{w:World}{base g m:Nat}{p:PWD}{room:Int}{es:List (Nm×FE)}(h:aB4 w base g m p room es):
  Calls Tryz.prog 31 #[.pointer (some ⟨g,0,none⟩)] w fun e w' =>e=.returned (.tuple #[.bool p.cut.1,.int .i64 p.cut.2.1])∧aB4 w' base g m p.cut.2.2 room es∧Fr (aB1 g m es) w w' ∧w'.heap.size=w.heap.size:=by
 obtain⟨⟨c0,c1,c2,c3,c4,c5⟩,f0,f1,f2,f3⟩:=aL0 h.blk;have H:=qZ h;obtain⟨⟨ha,b8⟩,a9,d8⟩:=h.num;have HN:=qZ (And.intro a9 d8);clear a9 d8;obtain⟨off,armed,acts,part⟩:=p;simp only at c0 c1 c2 c3 ha b8;clear h;cases armed with
 |false=>
  go_enter Tryz.func31,Tryz.ntmps31
  go_wp2;go_ret2
  exact⟨rfl,H.out,Fr.refl _ _,rfl⟩
 |true=>
  by_cases hp:0<acts
  ·have a8:=aA0 w g 2 (.int .i64 (acts-1))
   have e:PWD.cut ⟨off,true,acts,part⟩=(false,0,⟨off,true,acts-1,part⟩):=by simp[PWD.cut,hp]
   have HD:Hid (aB4 (w.setCell ⟨g,2,none⟩ (.int .i64 (acts-1))) base g m ⟨off,true,acts-1,part⟩ room es):=qZ (H.out.power a8 (Blk.set_ H.out.blk 2 _) ⟨⟨by show _<=acts-1;omega,by show acts-1<=_;omega⟩,HN.out⟩);have HF:Hid (Fr (aB1 g m es) w (w.setCell ⟨g,2,none⟩ (.int .i64 (acts-1)))):=qZ (Fr.of_grown a8 (fun k e=>by injection e with e;exact .inl e.symm));rw[e];clear a8 e;go_enter Tryz.func31,Tryz.ntmps31
   go_wp2;go_ret2
   exact⟨rfl,HD.out,HF.out,by simp⟩
  have a8:=aA4 (aA0 w g 1 (.bool false)) (aA0 (w.setCell ⟨g,1,none⟩ (.bool false)) g 0 (.bool true)) (.inl rfl);have e:PWD.cut ⟨off,true,acts,part⟩=(true,part,⟨true,false,acts,part⟩):=by simp[PWD.cut,hp]
  have HD:Hid (aB4 ((w.setCell ⟨g,1,none⟩ (.bool false)).setCell ⟨g,0,none⟩ (.bool true)) base g m ⟨true,false,acts,part⟩ room es):=qZ (H.out.power a8 (Blk.set_ (Blk.set_ H.out.blk 1 _) 0 _) ⟨⟨ha,b8⟩,HN.out⟩);have HF:Hid (Fr (aB1 g m es) w ((w.setCell ⟨g,1,none⟩ (.bool false)).setCell ⟨g,0,none⟩ (.bool true))):=qZ (Fr.of_grown a8 (fun k e=>by injection e with e;exact .inl e.symm));rw[e];clear a8 e;go_enter Tryz.func31,Tryz.ntmps31
  go_wp2;go_quiet (fail);go_wp2;go_ret2
  exact⟨rfl,HD.out.drewN_ _,HF.out.drewN_ _,by simp⟩
theorem dK9{w:World}{base g m:Nat}{p:PWD}{room:Int}{es:List (Nm×FE)}(h:aB4 w base g m p room es):
  Calls Tryz.prog 45 #[.pointer (some ⟨g,0,none⟩)] w fun e w' =>e=.returned (.bool (! p.off))∧w=w' :=by
 obtain⟨⟨c0,c1,c2,c3,c4,c5⟩,f0,f1,f2,f3⟩:=aL0 h.blk;clear h;go_enter Tryz.func45,Tryz.ntmps45
 go_wp2;go_ret
 exact⟨rfl,rfl⟩
def bD4(n:Nm):Bool:= ! n.isEmpty&&decide (n.length<=32)
theorem bV4(s:ByteArray)(w:World)(hs:s.size<=140737488351232):Calls Tryz.prog 28 #[.string s] w fun e w' =>e=.returned (.bool (bD4 s.data.toList))∧w=w' :=by
 have a8:s.data.toList.length=s.size:=by simp
 by_cases h0:s.data.toList=[]
 ·have e:bD4 s.data.toList=false:=by simp[bD4,h0]
  rw[e];obtain⟨⟨l⟩⟩:=s;simp only at h0;subst h0;clear e a8 hs;go_enter Tryz.func28,Tryz.ntmps28
  go_wp2;go_ret
  exact⟨rfl,rfl⟩
 have b8:s.toList.isEmpty=false:=by
  rw[toList_eq];exact List.isEmpty_eq_false_iff.2 h0
 by_cases h1:s.size<=32
 ·have e:bD4 s.data.toList=true:=by simp[bD4];exact⟨by simpa using h0,h1⟩
  have a9:(s.size:Int)<=32:=by omega
  rw[e];clear e h0 a8;go_enter Tryz.func28,Tryz.ntmps28
  go_wp2;go_ret
  exact⟨rfl,rfl⟩
 have e:bD4 s.data.toList=false:=by simp[bD4];intro _;show 32<s.size;omega
 have a9:¬(s.size:Int)<=32:=by omega
 rw[e];clear e h0 a8;go_enter Tryz.func28,Tryz.ntmps28
 go_wp2;go_ret
 exact⟨rfl,rfl⟩
theorem cI5(n k:Int)(hn:-9223372036854775808<=n∧n<=9223372036854775807)(hk:1<=k∧k<=4611686018427387904)(w:World):Calls Tryz.prog 32 #[.int .i64 n,.int .i64 k] w fun e w' =>e=.returned (.int .i64 (n %k))∧w=w' :=by
 obtain⟨a9,b8⟩:=hk;have h1:-k<n.tmod k:=by have:=Int.lt_tmod_of_pos n (show 0<k by omega);omega
 have h2:n.tmod k<k:=Int.tmod_lt_of_pos n (by omega);have h3:(n.tmod k+k) %k=n %k:=by
  rw[Int.add_emod_right];have h5:=Int.mul_tdiv_add_tmod n k;have h6:n.tmod k=n+(-(n.tdiv k))*k:=by rw[Int.neg_mul,Int.mul_comm];omega
  rw[h6,Int.add_mul_emod_self_right]
 have H3:=qZ h3;have a8:¬k=0:=by omega
 clear h3 hn;go_enter Tryz.func32,Tryz.ntmps32
 go_wp2;go_ret
 exact⟨by rw[H3.out];rfl,rfl⟩
theorem aR9{w:World}{base g m:Nat}{p:PWD}{room:Int}{es:List (Nm×FE)}(h:aB4 w base g m p room es)(s:ByteArray)(hs:s.size<=140737488351232){fe:FE}(hf:aB6 s.data.toList es=some fe)(ho:p.off=false):
  Calls Tryz.prog 106 #[.pointer (some ⟨g,0,none⟩),.string s] w fun e w' =>e=.returned (.tuple #[.pointer (some ⟨fe.blk,0,none⟩),.int .i64 0])∧w=w' :=by
 obtain⟨⟨c0,c1,c2,c3,c4,c5⟩,f0,f1,f2,f3⟩:=aL0 h.blk;have hl:=h.map.get Tryz.underlying9 Tryz.underlying59 (aT0 w) s (by unfold maxLen;omega);rw[aH6,hf] at hl;have a8:(Instr.lookup 59 (.map (some m)) (.string s) false).run Tryz.prog w=.ok (.pointer (some ⟨fe.blk,0,none⟩)) w:=hl;rw[ho] at c0;clear h hl hf ho;go_enter Tryz.func106,Tryz.ntmps106
 go_wp2;go_ret2
 exact⟨rfl,rfl⟩
theorem aU0{w:World}{base g m:Nat}{p:PWD}{room:Int}{es:List (Nm×FE)}(h:aB4 w base g m p room es)(s:ByteArray)(hs:s.size<=140737488351232)(hf:aB6 s.data.toList es=none)(ho:p.off=false):
  Calls Tryz.prog 106 #[.pointer (some ⟨g,0,none⟩),.string s] w fun e w' =>e=.returned (.tuple #[.pointer none,.int .i64 51])∧w=w' :=by
 obtain⟨⟨c0,c1,c2,c3,c4,c5⟩,f0,f1,f2,f3⟩:=aL0 h.blk;have hl:=h.map.get Tryz.underlying9 Tryz.underlying59 (aT0 w) s (by unfold maxLen;omega);rw[aH6,hf] at hl;have a8:(Instr.lookup 59 (.map (some m)) (.string s) false).run Tryz.prog w=.ok (.pointer none) w:=hl;rw[ho] at c0;clear h hl hf ho;go_enter Tryz.func106,Tryz.ntmps106
 go_wp2;go_ret2
 exact⟨rfl,rfl⟩
theorem aV7{w:World}{base g m:Nat}{p:PWD}{room:Int}{es:List (Nm×FE)}(h:aB4 w base g m p room es)(s:ByteArray)(hs:s.size<=140737488351232)(ho:p.off=true):
  Calls Tryz.prog 106 #[.pointer (some ⟨g,0,none⟩),.string s] w fun e w' =>e=.returned (.tuple #[.pointer none,.int .i64 50])∧w=w' :=by
 obtain⟨⟨c0,c1,c2,c3,c4,c5⟩,f0,f1,f2,f3⟩:=aL0 h.blk;have hl:=h.map.get Tryz.underlying9 Tryz.underlying59 (aT0 w) s (by unfold maxLen;omega);rw[ho] at c0;clear h ho;go_enter Tryz.func106,Tryz.ntmps106
 go_wp2;go_ret2
 exact⟨rfl,rfl⟩
theorem bR8{w:World}{base g m:Nat}{p:PWD}{room:Int}{es:List (Nm×FE)}(h:aB4 w base g m p room es)(m5:aB8 (sec FE.f es)<=4611686018427387904):
  Calls Tryz.prog 29 #[.pointer (some ⟨g,0,none⟩)] w fun e w' =>e=.returned (.int .i64 (room-aB8 (sec FE.f es)))∧Below w.heap.size w w' :=by
 obtain⟨⟨c0,c1,c2,c3,c4,c5⟩,f0,f1,f2,f3⟩:=aL0 h.blk;have H:=qZ h;obtain⟨_,_,m2,m6⟩:=h.num;clear h;go_enter Tryz.func29,Tryz.ntmps29
 go_wp2_with (refine bG8 rfl (.tmp 13) 59 rfl Tryz.underlying9 Tryz.underlying59 H.out.map rfl ?_;intro w1 left i4 d8 f7 l6)
 have f9:aM0 es left=es:=by
  unfold aM0;rw[List.filter_eq_self];exact fun q hq=>d8 (q.1,q.2.blk) (List.mem_map.2 ⟨q,hq,rfl⟩)
 have g9:=qZ f9;have f8:=qZ i4;have j6:=qZ (aH1 f7);have m4:=aD7 (sec FE.f es);clear f9 i4 f7 d8 l6 c0 c1 c2 c3 c4 c5 f0 f1 f2 f3;go_frame
 go_loopw [3,5] (fun n f wr=>∃(left:Lit->Bool) (cnt:Nat),n=.int .i64 (room-aB8 (sec FE.f es)+aB8 (sec FE.f (aM0 es left)))∧Hid (aZ0 Tryz.prog 9 wr m w.heap.size (sec FE.blk es) left cnt)∧Hid (Below w.heap.size w wr)) (fun _ _ wr=>wr.rangeLeft m w.heap.size)
 case atStart=>exact⟨left,_,by rw[g9.out];go_num,f8,j6⟩
 obtain⟨left,cnt,rfl,hR,hB⟩:=hrel;clear f8 j6 g9;have j8:=aD7 (sec FE.f (aM0 es left));have l4:aB8 (sec FE.f (aM0 es left))<=aB8 (sec FE.f es):=cB4 es left;have f6:=H.out.rising;go_wp2_with (refine bL4 rfl (.tmp 14) rfl Tryz.underlying9 hR.out rfl (fun hdone=>Hid.out ?_) (fun s fb w2 cnt2 hfb hleft hra2 hlt2 hg2 hs2 hen=>Hid.out ?_))
 ·refine qZ ?_
  have hz:aM0 es left=[]:=by
   unfold aM0;rw[List.filter_eq_nil_iff];intro q _;rw[hdone];simp
  have e:room-aB8 (sec FE.f es)+aB8 (sec FE.f (aM0 es left))=room-aB8 (sec FE.f es):=by rw[hz];simp[aB8]
  rw[e];clear hz e hdone hR j8 l4 f6;go_wp2;go_ret
  exact⟨rfl,hB.out⟩
 refine qZ ?_;rw[aH6,Option.map_eq_some_iff] at hfb;obtain⟨fe,d9,rfl⟩:=hfb;have b8:=aC8 d9;have hK:Blk w fe.blk 83 #[fe.v,.int .i64 fe.f.safe]:=H.out.file _ b8;have l5:fe.blk<w.heap.size:=hK.lt;have i6:Blk w2 fe.blk 83 #[fe.v,.int .i64 fe.f.safe]:=(hg2.block fe.blk (by have:=hB.out.size;omega) (fun e=>by injection e with e;omega)).trans ((hB.out.block fe.blk l5).trans hK);obtain⟨A,c,hv,_,_,_⟩:=(H.out.got _ b8).shape;have c0:=i6.cell 0;have g8:fe.v=.slice A fe.f.b.length c:=hv;simp only[g8] at c0;have m3:w2.cell? ⟨fe.blk,0,none⟩=some (.slice A fe.f.b.length c):=c0;have a8:aB8 (sec FE.f (aM0 es left))=(fe.f.b.length:Int)+aB8 (sec FE.f (aM0 es (fun z=>left z&& ! z.sameKey (.string s.data.toList)))):=by
  have h1:=cF6 f6 d9 hleft;have h2:=cQ1 (h1.map fun q=>(q.1,q.2.f));exact h2
 have HS:=qZ a8;have m0:=aD7 (sec FE.f (aM0 es (fun z=>left z&& ! z.sameKey (.string s.data.toList))));have l9:=qZ hra2;have j9:=qZ (hB.out.grown hg2 hB.out.size (fun k hk=>by injection hk with hk;omega));have a9:w2.rangeLeft m w.heap.size<wr.rangeLeft m w.heap.size:=by rw[World.ranges.left_eq hra2,World.ranges.left_eq hR.out];exact hlt2
 have l8:(fe.f.b.length:Int)<=aB8 (sec FE.f es):=by omega
 have l7:(fe.f.b.length:Int)<=aB8 (sec FE.f (aM0 es left)):=by omega
 have HM:=qZ a9;clear a8 hra2 hg2 d9 hK i6 c0 hv g8 b8 hlt2 hs2 hleft f6 a9 hR hB;go_wp2;go_roundw
 case rel=>exact⟨_,cnt2,by rw[HS.out];go_num,l9,j9⟩
 case measure=>exact HM.out
end
end Go.Proofs.YtgeofijddhflaaaGreatDoor
